/- Rows of a matrix; sums of rows; comparisons. The program's rowsOf, combine, slices.Equal; the reference's l1At, l1Row, l1Same. l2Image of the reference. l1Rows of the reference. -/
import Derived.Test.YtcngijafnnmccaaGreatDoorLite
import Derived.Test.YtcngijafnnmccaaGreatDoorMatO
import Derived.Test.YtcngijafnnmccaaGreatDoorNum
namespace Go.Proofs.YtcngijafnnmccaaGreatDoor
set_option maxRecDepth 100000
section
open Go.RowKit

/-- Row i of a matrix of c columns. -/
def rowM (c : Nat) (D : List Int) (i : Nat) : List Int := tab c fun j => vec D (i * c + j)
theorem length_rowM (c : Nat) (D : List Int) (i : Nat) : (rowM c D i).length = c := length_tab _ _
theorem rowM_cut {r c i : Nat} {D : List Int} (hD : D.length = r * c) (hi : i < r) : (D.take (i * c + c)).drop (i * c) = rowM c D i := by
  have hb := row_bd (c := c) hi
  refine list_ext (by simp [length_rowM]; omega) fun k hk => ?_
  simp at hk
  rw [rowM, vec_tab (by omega)]
  simp only [vec, List.getD_eq_getElem?_getD, List.getElem?_drop, List.getElem?_take]
  rw [if_pos (by omega)]
theorem resid_rowM {p : Int} (hp : 0 < p) {D : List Int} (h : resid p D = true) (c i : Nat) : resid p (rowM c D i) = true := resid_tab fun _ _ => resid_vec' h hp _
def rowsM (r c : Nat) (D : List Int) : List (List Int) := (List.range r).map (rowM c D)
theorem length_rowsM (r c : Nat) (D : List Int) : (rowsM r c D).length = r := by simp [rowsM]
theorem rowsM_take (r c : Nat) (D : List Int) (i : Nat) (h : i < r) : (rowsM r c D).take (i + 1) = (rowsM r c D).take i ++ [rowM c D i] := by
  rw [List.take_succ_eq_append_getElem (by rw [length_rowsM]; exact h)]
  simp [rowsM]
theorem rowOf_rowsM {r c : Nat} {D : List Int} {i : Nat} (h : i < r) : rowOf (rowsM r c D) i = rowM c D i := by
  simp [rowOf, rowsM, List.getD_eq_getElem?_getD, h]
theorem Wf_rowsM {p : Int} (hp : 0 < p) {r c : Nat} {D : List Int} (h : resid p D = true) : Wf p c (rowsM r c D) := fun i hi => by
  rw [length_rowsM] at hi
  rw [rowOf_rowsM hi]
  exact ⟨length_rowM _ _ _, resid_rowM hp h _ _⟩

/-- A row is cut out. -/
theorem cutRow {w : World} {B : Nat} {A : Option Addr} {k : Nat} {D : List Int} (h : IntsB w B (.slice A D.length k) D) {r c i : Nat} (hD : D.length = r * c) (hi : i < r) :
    ∃ A' k', (∀ W : World, (Instr.sliceAt 22 (.slice A D.length k) (some (.int .i64 ((i : Int) * c))) (some (.int .i64 (((i : Int) + 1) * c))) none).run Tryz.prog W = .ok (.slice A' c k') W) ∧ IntsB w B (.slice A' c k') (rowM c D i) := by
  have hb := row_bd (c := c) hi
  obtain ⟨A', hrun, hA'⟩ := cutMidB h (i * c) (i * c + c) (by omega) (by omega)
  rw [rowM_cut hD hi, show i * c + c - i * c = c from by omega] at hA'
  refine ⟨A', k - i * c, fun W => ?_, hA'⟩
  have := hrun W
  rw [show i * c + c - i * c = c from by omega] at this
  rw [show ((i : Int) + 1) * c = ((i * c + c : Nat) : Int) from by rw [Int.add_mul, Int.one_mul]; simp, show (i : Int) * c = ((i * c : Nat) : Int) from by simp]
  exact this
/-- The sum of some rows, each times its number. -/
def combS (K : List Int) (R : List (List Int)) (p : Int) (i c : Nat) : Int := sumTo i (fun a => vec K a * vec (rowOf R a) c) % p
theorem combS_succ (K : List Int) (R : List (List Int)) (p : Int) (i c : Nat) : (combS K R p i c + vec K i * vec (rowOf R i) c) % p = combS K R p (i + 1) c := by
  unfold combS
  rw [add_mul_mod]
  rfl
theorem combS_skip (K : List Int) (R : List (List Int)) (p : Int) (i c : Nat) (h : vec K i = 0) : combS K R p (i + 1) c = combS K R p i c := by
  unfold combS
  simp only [sumTo, h, Int.zero_mul, Int.add_zero]
def combL (K : List Int) (R : List (List Int)) (n : Nat) (p : Int) : List Int := tab n (combS K R p R.length)

set_option maxHeartbeats 1000000 in
theorem combine_any (p : Int) (n : Nat) (v u : Value) (K : List Int) (R : List (List Int)) (w : World) (hv : Ints w v K) (hu : IntRows w u R) (hK : K.length = R.length) (hR : R.length ≤ 4194304) (hn : n ≤ 4194304) (hW : Wf p n R)
    (hp : 2 ≤ p) (hp' : p ≤ 10007) (rK : resid p K = true) :
    Calls Tryz.prog 50 #[v, u, .int .i64 n, .int .i64 p] w (RetOwn w (combL K R n p)) := by
  have hmk := makeI n (by omega)
  have h1 := ((St.start w).arg hv).zeros n (by omega)
  obtain ⟨A, c, rfl, _, _, _⟩ := id hv
  obtain ⟨A2, c2, rfl, _, _, _⟩ := id hu
  have HU := Lib.hid hu
  have HK := Lib.hid hK
  have HW := Lib.hid hW
  clear hv hu hK hW
  go_enter Tryz.func50, Tryz.ntmps50
  go_wp2
  go_loopw [10, 11, 16] (fun va vb vi wr => ∃ i : Nat, vi = .int .i64 i ∧ i ≤ R.length ∧ St w wr [.own (.slice (some ⟨w.heap.size, 0, none⟩) n n) (tab n (combS K R p i)), .ro (.slice A K.length c) K]) (fun _ _ vi _ => R.length - (intOf vi).toNat)
  case atStart => exact ⟨0, rfl, by omega, by rw [tab_congr (g := fun _ => 0) (fun q _ => by simp [combS, sumTo]), tab_zero]; exact h1⟩
  case round =>
    clear h1
    obtain ⟨i, rfl, a1, h1⟩ := hrel
    by_cases hi : i < R.length
    · obtain ⟨b, off, A9, c9, rfl, hm⟩ := HU.out.at (i := i) hi
      have hBr := hm.2.toB
      have h2 := (h1.pushOld hm.fact).pushRo (hBr.below h1.below (Nat.le_refl _))
      obtain ⟨z0, z1⟩ := h2.fact 1 rfl
      obtain ⟨bk, ok, rfl, hbk, e1⟩ := (h1.ro 1 rfl).cell (k := i) (by rw [HK.out]; exact hi)
      have hrv := resid_vec rK (i := i) (by rw [HK.out]; exact hi)
      obtain ⟨w1, w2⟩ := HW.out i hi
      have hre : R[i] = rowOf R i := rowOf_eq hi
      have hki : (i : Int) < K.length := by rw [HK.out]; omega
      rw [hre] at h2 z0 z1
      have hlen : (rowOf R i).length = n := w1
      have Hlen := Lib.hid hlen
      clear hBr hm w1 hre hlen
      by_cases hx : vec K i = 0
      · have t1 : (vec K i != 0) = false := by simp [hx]
        have Hx := Lib.hid hx
        clear hx
        go_wp2
        go_roundw
        case rel => exact ⟨i + 1, by go_num, by omega, by rw [tab_congr (fun q _ => combS_skip K R p i q Hx.out)]; exact h1⟩
        case measure => simp [intOf]; omega
      · have t1 : (vec K i != 0) = true := by simp [hx]
        have Hx := Lib.hid hx
        clear hx
        go_wp2_with fail
        refine (addTo_own _ _ (tab n (combS K R p i)) (rowOf R i) (vec K i) p w.heap.size w.heap.size _ (h2.own 2 rfl) (h2.ro 0 rfl) (Nat.le_refl _) (by rw [Hlen.out, length_tab]) (by rw [length_tab]; omega) hp hp' hrv.1 (Int.le_of_lt hrv.2) (resid_mod (by omega)) w2).mono ?_
        rintro (e : Ending) wn ⟨rfl, ho, hg⟩
        have h3 := h2.wrote 2 rfl ho hg
        have e1' := tab_vec (rowOf R i)
        rw [Hlen.out] at e1'
        have hT : addL (tab n (combS K R p i)) (vec K i) (tab n (vec (rowOf R i))) p = tab n (combS K R p (i + 1)) := by
          rw [addL_tab]
          exact tab_congr fun q _ => combS_succ K R p i q
        rw [e1'] at hT
        rw [hT] at h3
        have h4 := h3.drop 2
        clear h1 h2 h3 ho hg hT z0 z1 e1 e1'
        go_wp2
        go_roundw
        case rel => exact ⟨i + 1, by go_num, by omega, h4⟩
        case measure => simp [intOf]; omega
    · obtain rfl : i = R.length := by omega
      go_wp2
      go_ret
      exact ⟨_, rfl, h1.own 0 rfl, h1.below⟩

end
section
open Go.RowKit

def imM (X : List Int) (R : List (List Int)) (p : Int) (i q j : Nat) : Int := if j < q then combS X R p (i + 1) j else combS X R p i j
theorem imM_zero (X : List Int) (R : List (List Int)) (p : Int) (c i : Nat) : tab c (imM X R p i 0) = tab c (combS X R p i) := tab_congr fun j _ => by simp [imM]
theorem imM_end (X : List Int) (R : List (List Int)) (p : Int) (c i : Nat) : tab c (imM X R p i c) = tab c (combS X R p (i + 1)) := tab_congr fun j hj => by simp [imM, hj]
theorem imM_set (X : List Int) (R : List (List Int)) (p : Int) (c i q : Nat) : (tab c (imM X R p i q)).set q (combS X R p (i + 1) q) = tab c (imM X R p i (q + 1)) := by
  rw [tab_set]
  refine tab_congr fun k _ => ?_
  unfold imM
  by_cases e : k = q
  · subst e; rw [if_pos rfl, if_pos (by omega)]
  · rw [if_neg e]
    by_cases h : k < q
    · rw [if_pos h, if_pos (by omega)]
    · rw [if_neg h, if_neg (by omega)]
theorem imM_at (X : List Int) (R : List (List Int)) (p : Int) (i q : Nat) : imM X R p i q q = combS X R p i q := by simp [imM]
theorem combS_bd (X : List Int) (R : List (List Int)) {p : Int} (hp : 2 ≤ p) (i j : Nat) : 0 ≤ combS X R p i j ∧ combS X R p i j < p := ⟨Int.emod_nonneg _ (by omega), Int.emod_lt_of_pos _ (by omega)⟩
theorem vec_rowsM {r c : Nat} {D : List Int} {i j : Nat} (hi : i < r) (hj : j < c) : vec (rowOf (rowsM r c D) i) j = vec D (i * c + j) := by
  rw [rowOf_rowsM hi, rowM, vec_tab hj]

end
section
open Go.RowKit

end
end Go.Proofs.YtcngijafnnmccaaGreatDoor
