/- Rows of a matrix; sums of rows; comparisons. The program's rowsOf, combine, slices.Equal; the reference's l1At, l1Row, l1Same. l2Image of the reference. l1Rows of the reference. -/
import Derived.Test.YtbnefjhljfbecaaLite
import Derived.Test.YtbnefjhljfbecaaMatO
import Derived.Test.YtbnefjhljfbecaaNum
namespace Go.Proofs.Ytbnefjhljfbecaa
set_option maxRecDepth 100000
section
open Go.RowKit

/-- Row i of a matrix of c columns. -/
def rowM (c : Nat) (D : List Int) (i : Nat) : List Int := tab c fun j => vec D (i * c + j)
theorem length_rowM (c : Nat) (D : List Int) (i : Nat) : (rowM c D i).length = c := length_tab _ _
theorem rowM_cut {r c i : Nat} {D : List Int} (hD : D.length = r * c) (hi : i < r) : (D.take (i * c + c)).drop (i * c) = rowM c D i := by
  have hb := row_bd (c := c) hi
  refine list_ext (by simp [length_rowM]; omega) fun k hk => ?_
  simp at hk
  rw [rowM, vec_tab (by omega)]
  simp only [vec, List.getD_eq_getElem?_getD, List.getElem?_drop, List.getElem?_take]
  rw [if_pos (by omega)]
theorem resid_rowM {p : Int} (hp : 0 < p) {D : List Int} (h : resid p D = true) (c i : Nat) : resid p (rowM c D i) = true := resid_tab fun _ _ => resid_vec' h hp _
def rowsM (r c : Nat) (D : List Int) : List (List Int) := (List.range r).map (rowM c D)
theorem length_rowsM (r c : Nat) (D : List Int) : (rowsM r c D).length = r := by simp [rowsM]
theorem rowsM_take (r c : Nat) (D : List Int) (i : Nat) (h : i < r) : (rowsM r c D).take (i + 1) = (rowsM r c D).take i ++ [rowM c D i] := by
  rw [List.take_succ_eq_append_getElem (by rw [length_rowsM]; exact h)]
  simp [rowsM]
theorem rowOf_rowsM {r c : Nat} {D : List Int} {i : Nat} (h : i < r) : rowOf (rowsM r c D) i = rowM c D i := by
  simp [rowOf, rowsM, List.getD_eq_getElem?_getD, h]
theorem Wf_rowsM {p : Int} (hp : 0 < p) {r c : Nat} {D : List Int} (h : resid p D = true) : Wf p c (rowsM r c D) := fun i hi => by
  rw [length_rowsM] at hi
  rw [rowOf_rowsM hi]
  exact ⟨length_rowM _ _ _, resid_rowM hp h _ _⟩

/-- A row is cut out. -/
theorem cutRow {w : World} {B : Nat} {A : Option Addr} {k : Nat} {D : List Int} (h : IntsB w B (.slice A D.length k) D) {r c i : Nat} (hD : D.length = r * c) (hi : i < r) :
    ∃ A' k', (∀ W : World, (Instr.sliceAt 26 (.slice A D.length k) (some (.int .i64 ((i : Int) * c))) (some (.int .i64 (((i : Int) + 1) * c))) none).run Try.prog W = .ok (.slice A' c k') W) ∧ IntsB w B (.slice A' c k') (rowM c D i) := by
  have hb := row_bd (c := c) hi
  obtain ⟨A', hrun, hA'⟩ := cutMidB h (i * c) (i * c + c) (by omega) (by omega)
  rw [rowM_cut hD hi, show i * c + c - i * c = c from by omega] at hA'
  refine ⟨A', k - i * c, fun W => ?_, hA'⟩
  have := hrun W
  rw [show i * c + c - i * c = c from by omega] at this
  rw [show ((i : Int) + 1) * c = ((i * c + c : Nat) : Int) from by rw [Int.add_mul, Int.one_mul]; simp, show (i : Int) * c = ((i * c : Nat) : Int) from by simp]
  exact this
/-- The sum of some rows, each times its number. -/
def combS (K : List Int) (R : List (List Int)) (p : Int) (i c : Nat) : Int := sumTo i (fun a => vec K a * vec (rowOf R a) c) % p
theorem combS_succ (K : List Int) (R : List (List Int)) (p : Int) (i c : Nat) : (combS K R p i c + vec K i * vec (rowOf R i) c) % p = combS K R p (i + 1) c := by
  unfold combS
  rw [add_mul_mod]
  rfl
theorem combS_skip (K : List Int) (R : List (List Int)) (p : Int) (i c : Nat) (h : vec K i = 0) : combS K R p (i + 1) c = combS K R p i c := by
  unfold combS
  simp only [sumTo, h, Int.zero_mul, Int.add_zero]
def combL (K : List Int) (R : List (List Int)) (n : Nat) (p : Int) : List Int := tab n (combS K R p R.length)

set_option maxHeartbeats 400000 in
theorem l1At_any (p : Int) (r c : Nat) (t : Value) (D : List Int) (i j : Nat) (w : World) (ht : Ints w t D) (hD : D.length = r * c) (hb : r * c ≤ 4194304) (hi : i < r) (hj : j < c) :
    Calls Try.prog 59 #[.agg #[.int .i64 p, .int .i64 r, .int .i64 c, t], .int .i64 i, .int .i64 j] w fun e w' => e = .returned (.int .i64 (vec D (i * c + j))) ∧ Below w.heap.size w w' := by
  have h1 := (St.start1 ht).box [.int .i64 p, .int .i64 r, .int .i64 c, t] 35
  obtain ⟨A, k, rfl, hk1, hk2, _⟩ := id ht
  have hbd := row_bd (c := c) hi
  obtain ⟨n1, n2, n3, n4⟩ := row_int (c := c) hi hb
  have hlt : i * c + j < D.length := by omega
  obtain ⟨b, off, rfl, _, e1⟩ := (h1.ro 1 rfl).cell hlt
  have hat : (i : Int) * c + j = ((i * c + j : Nat) : Int) := by simp
  obtain ⟨q, hq⟩ : ∃ q, q = i * c + j := ⟨_, rfl⟩
  rw [← hq] at hat hlt e1 ⊢
  have HQ := Lib.hid hq
  have hDl : D.length ≤ 4194304 := by omega
  clear ht hD hq hbd
  obtain ⟨z0, z1, z2, z3⟩ := h1.box4 0 rfl
  go_enter Try.func59, Try.ntmps59
  go_wp2
  go_ret
  exact ⟨rfl, h1.below⟩

end
section
open Go.RowKit

def imM (X : List Int) (R : List (List Int)) (p : Int) (i q j : Nat) : Int := if j < q then combS X R p (i + 1) j else combS X R p i j
theorem imM_zero (X : List Int) (R : List (List Int)) (p : Int) (c i : Nat) : tab c (imM X R p i 0) = tab c (combS X R p i) := tab_congr fun j _ => by simp [imM]
theorem imM_end (X : List Int) (R : List (List Int)) (p : Int) (c i : Nat) : tab c (imM X R p i c) = tab c (combS X R p (i + 1)) := tab_congr fun j hj => by simp [imM, hj]
theorem imM_set (X : List Int) (R : List (List Int)) (p : Int) (c i q : Nat) : (tab c (imM X R p i q)).set q (combS X R p (i + 1) q) = tab c (imM X R p i (q + 1)) := by
  rw [tab_set]
  refine tab_congr fun k _ => ?_
  unfold imM
  by_cases e : k = q
  · subst e; rw [if_pos rfl, if_pos (by omega)]
  · rw [if_neg e]
    by_cases h : k < q
    · rw [if_pos h, if_pos (by omega)]
    · rw [if_neg h, if_neg (by omega)]
theorem imM_at (X : List Int) (R : List (List Int)) (p : Int) (i q : Nat) : imM X R p i q q = combS X R p i q := by simp [imM]
theorem combS_bd (X : List Int) (R : List (List Int)) {p : Int} (hp : 2 ≤ p) (i j : Nat) : 0 ≤ combS X R p i j ∧ combS X R p i j < p := ⟨Int.emod_nonneg _ (by omega), Int.emod_lt_of_pos _ (by omega)⟩
theorem vec_rowsM {r c : Nat} {D : List Int} {i j : Nat} (hi : i < r) (hj : j < c) : vec (rowOf (rowsM r c D) i) j = vec D (i * c + j) := by
  rw [rowOf_rowsM hi, rowM, vec_tab hj]

end
section
open Go.RowKit

set_option maxHeartbeats 1000000 in
theorem l1Rows_any (p : Int) (c : Nat) (v : Value) (ll : List (List Int)) (w : World) (hv : IntRows w v ll) (hl : total ll ≤ 4194304) :
    Calls Try.prog 30 #[.int .i64 p, .int .i64 c, v] w (RetMat w p ll.length c ll.flatten) := by
  have h1 := ((((St.start w).box [.int .i64 0, .int .i64 0, .int .i64 0, .slice none 0 0] 35).empty).box [.int .i64 p, .int .i64 ll.length, .int .i64 c, .slice (some ⟨w.heap.size + 1, 0, none⟩) 0 0] 35)
  simp only [World.size_alloc] at h1
  obtain ⟨A, c1, rfl, _, hc1, g3⟩ := id hv
  have HV := Lib.hid hv
  clear g3 hv
  obtain ⟨F, hF⟩ : ∃ F, F = ll.flatten := ⟨_, rfl⟩
  rw [← hF]
  have HF0 := Lib.hid hF
  clear hF
  go_enter Try.func30, Try.ntmps30
  go_wp2
  go_loopw [8] (fun vi wr => ∃ (i : Nat) (vd : Value), vi = .int .i64 i ∧ i ≤ ll.length ∧ St w wr [.box (w.heap.size + 1 + 1) [.int .i64 p, .int .i64 ll.length, .int .i64 c, vd], .own vd (ll.take i).flatten, .box w.heap.size [.int .i64 0, .int .i64 0, .int .i64 0, .slice none 0 0]]) (fun vi _ => ll.length - (intOf vi).toNat)
  case atStart => exact ⟨0, _, rfl, by omega, by simpa using h1⟩
  case round =>
    clear h1
    obtain ⟨i, vd, rfl, a1, h1⟩ := hrel
    by_cases hi : i < ll.length
    · obtain ⟨b, off, A9, c9, rfl, hm⟩ := HV.out.at (i := i) hi
      have h2 := h1.pushOld hm.fact
      have t1 := total_mem ll i hi
      have HT := Lib.hid (flatten_take ll i hi)
      have HF := Lib.hid (length_flatten' (ll.take i))
      have i1 : (i : Int) < ll.length := by omega
      clear hm
      go_wp2
      refine h2.region_tail 6 (by kernel_rfl) (by kernel_rfl) ?_
      simp only [List.take_succ_cons, List.take_zero, List.drop_succ_cons, List.drop_zero]
      iterate 6
        apply wpQuiet_op
        · exact rfl
        · intro w' hC
          obtain ⟨z0, z1, z2, z3⟩ := hC.box4 1 rfl
          obtain ⟨y0, y1⟩ := hC.fact 0 rfl
          unfold Oper.quietAt
          go_simp
          first | exact rfl | exact ⟨rfl, rfl⟩
        go_simp
      refine wpQuiet_nil (fun wn hC => ?_)
      obtain ⟨z0, z1, z2, z3⟩ := hC.box4 1 rfl
      have f3 := hC.free 1 rfl 3
      have y1 := (hC.fact 0 rfl).2
      have hlt := (hC.boxLt 1 rfl).2
      clear h1 h2
      go_wp2_with (at_builtin; refine wp_append_ints rfl (.tmp 22) (.tmp 26) rfl w.heap.size _ _ (ll.take i).flatten ll[i] rfl rfl (hC.own 2 rfl) y1 (by rw [HF.out]; omega) hC.size ?_; intro v1 w1 ho1 hg1 hb1; have h3 := hC.appended 2 rfl ho1 hg1 hb1; obtain ⟨A8, n8, k8, rfl⟩ := ho1.slice; obtain ⟨x0, x1, x2, x3⟩ := h3.box4 1 rfl; have g3 := h3.free 1 rfl 3; have hlt3 := (h3.boxLt 1 rfl).2; clear z0 z1 z2 z3 f3 hlt)
      have h4 := h3.setBox 1 rfl 3 (.slice A8 n8 k8)
      go_roundw
      case rel => exact ⟨i + 1, _, by go_num, by omega, by rw [HT.out]; exact h4.drop 1⟩
      case measure => simp [intOf]; omega
    · obtain rfl : i = ll.length := by omega
      rw [List.take_length, ← HF0.out] at h1
      obtain ⟨A8, k8, rfl, _, _, _⟩ := id (h1.own 1 rfl).ints
      obtain ⟨z0, z1, z2, z3⟩ := h1.box4 0 rfl
      obtain ⟨y0, y1, y2, y3⟩ := h1.box4 2 rfl
      have f0 := h1.free 2 rfl 0
      have f1 := h1.free 2 rfl 1
      have f2 := h1.free 2 rfl 2
      have f3 := h1.free 2 rfl 3
      have h2 := (((h1.setBox 2 rfl 0 (.int .i64 p)).setBox 2 rfl 1 (.int .i64 ll.length)).setBox 2 rfl 2 (.int .i64 c)).setBox 2 rfl 3 (.slice A8 F.length k8)
      obtain ⟨r0, r1, r2, r3⟩ := h2.box4 2 rfl
      go_wp2
      refine bodyPost_ret (v := .agg #[.int .i64 p, .int .i64 ll.length, .int .i64 c, .slice A8 F.length k8]) (by simp [results, Try.results30, go_sem, r0, r1, r2, r3]) rfl ⟨_, rfl, h2.own 1 rfl, h2.below⟩
end
end Go.Proofs.Ytbnefjhljfbecaa
