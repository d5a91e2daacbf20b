import Derived.Deep.CutRange
import Derived.Deep.RegionWith
import Derived.Test.YtbnefjhljfbecaaGreatDoorW23
import Derived.Test.YtbnefjhljfbecaaGreatDoorW33
import Derived.Test.YtbnefjhljfbecaaGreatDoorW35
import Derived.Test.YtbnefjhljfbecaaGreatDoorW36
namespace Go.Proofs.YtbnefjhljfbecaaGreatDoor
set_option maxRecDepth 100000
section
open Go.RowKit
end
section
open Go.RowKit
end
section
end
section
open Go.RowKit
def trTo (s : Nat) (D : List Int) (i j : Nat) : List Int := tab (s * s) fun q => if q % s < i ∨ (q % s = i ∧ q / s < j) then vec D ((q % s) * s + q / s) else 0
def trD (s : Nat) (D : List Int) : List Int := tab (s * s) fun q => vec D ((q % s) * s + q / s)
theorem length_trTo (s : Nat) (D : List Int) (i j : Nat) : (trTo s D i j).length = s * s := length_tab _ _
theorem length_trD (s : Nat) (D : List Int) : (trD s D).length = s * s := length_tab _ _
theorem trTo_zero (s : Nat) (D : List Int) : trTo s D 0 0 = List.replicate (s * s) 0 := by
 refine list_ext (by rw [length_trTo]; simp) fun q hq => ?_
 rw [length_trTo] at hq
 rw [trTo, vec_tab hq, if_neg (by rintro (h | ⟨_, h⟩) <;> exact absurd h (Nat.not_lt_zero _))]
 simp [vec, List.getD_eq_getElem?_getD, hq]
theorem pos_of {s q : Nat} (h : q < s * s) : 0 < s := by
 rcases Nat.eq_zero_or_pos s with e | e
 ·subst e; simp at h
 ·exact e
theorem trTo_set {s i j : Nat} (D : List Int) (hi : i < s) (_hj : j < s) : (trTo s D i j).set (j * s + i) (vec D (i * s + j)) = trTo s D i (j + 1) := by
 rw [trTo, tab_set, trTo]
 refine tab_congr fun q hq => ?_
 have hs := pos_of hq
 by_cases e : q = j * s + i
 ·have h1 : q % s = i := by rw [e, Nat.add_comm, Nat.add_mul_mod_self_right, Nat.mod_eq_of_lt hi]
  have h2 : q / s = j := by rw [e, Nat.add_comm, Nat.add_mul_div_right _ _ hs, Nat.div_eq_of_lt hi, Nat.zero_add]
  rw [if_pos e, h1, h2, if_pos (by omega)]
 ·rw [if_neg e]
  by_cases h : q % s < i ∨ (q % s = i ∧ q / s < j)
  ·rw [if_pos h, if_pos (by omega)]
  ·rw [if_neg h, if_neg]
   rintro (h1 | ⟨h1, h2⟩)
   ·exact h (.inl h1)
   ·rcases Nat.lt_or_ge (q / s) j with h3 | h3
    ·exact h (.inr ⟨h1, h3⟩)
    ·apply e
     have := Nat.div_add_mod q s
     rw [h1, show q / s = j by omega, Nat.mul_comm] at this
     exact this.symm
theorem trTo_row (s : Nat) (D : List Int) (i : Nat) : trTo s D i s = trTo s D (i + 1) 0 := by
 rw [trTo, trTo]
 refine tab_congr fun q hq => ?_
 have hs := pos_of hq
 have h1 : q / s < s := by rw [Nat.div_lt_iff_lt_mul hs]; exact hq
 have key : ∀ a b : Nat, b < s → ((a < i ∨ (a = i ∧ b < s)) ↔ (a < i + 1 ∨ (a = i + 1 ∧ b < 0))) := fun a b h => by omega
 simp only [key _ _ h1]
theorem trTo_end (s : Nat) (D : List Int) : trTo s D s 0 = trD s D := by
 rw [trTo, trD]
 refine tab_congr fun q hq => ?_
 rw [if_pos (.inl (Nat.mod_lt _ (pos_of hq)))]
theorem resid_trD {p : Int} (hp : 0 < p) {s : Nat} {D : List Int} (h : resid p D = true) : resid p (trD s D) = true := resid_tab fun _ _ => resid_vec' h hp _
set_option maxHeartbeats 4000000 in
theorem l1Transpose_any (p : Int) (s : Nat) (t : Value) (D : List Int) (w : World) (ht : Ints w t D) (hD : D.length = s * s) (hs : s ≤ 30) (hP : isPrime p = true) (rD : resid p D = true) :
  Calls Tryz.prog 68 #[.agg #[.int .i64 p, .int .i64 s, .int .i64 s, t]] w (RetMat w p s s (trD s D)) := by
 obtain ⟨hp, hp'⟩ := isPrime_bd hP
 have h1 := (((St.start w).arg ht).box [.int .i64 p, .int .i64 s, .int .i64 s, t] 32).box [.int .i64 0, .int .i64 0, .int .i64 0, .slice none 0 0] 32
 simp only [World.size_alloc] at h1
 obtain ⟨A, k0, rfl, _, _, _⟩ := id ht
 have hss := mul_le hs hs
 have HDl := Lib.hid hD
 have hok : matOk p s s D = true := by
  simp only [matOk, Bool.and_eq_true, decide_eq_true_eq]
  exact ⟨hP, inR_true (by omega) (by omega), inR_true (by omega) (by omega), by rw [hD, Int.natCast_mul], rD⟩
 have HOk := Lib.hid hok
 clear ht hD hok
 obtain ⟨x0, x1, x2, x3⟩ := h1.box4 1 rfl
 go_enter Tryz.func68, Tryz.ntmps68
 go_wp2_with fail
 refine (l1Zero_any p s s _ (by omega)).mono ?_
 rintro (e : Ending) w1 ⟨u, rfl, ho, hb1⟩
 obtain ⟨A5, c5, rfl, _, _, _⟩ := id ho.ints
 rw [List.length_replicate] at ho ⊢
 replace h1 := (h1.pushOwn hb1 ho).box [.int .i64 p, .int .i64 s, .int .i64 s, .slice A5 (s * s) c5] 32
 clear ho hb1 x0 x1 x2 x3
 rw [← trTo_zero s D] at h1
 obtain ⟨x0, x1, x2, x3⟩ := h1.box4 3 rfl
 go_wp2
 clear x0 x1 x2 x3
 generalize w1.heap.size = B5 at h1 ⊢
 go_loopw [4] (fun v4 wr => ∃ i : Nat, v4 = .int .i64 i ∧ i ≤ s ∧ St w wr [.box B5 [.int .i64 p, .int .i64 s, .int .i64 s, .slice A5 (s * s) c5], .own (.slice A5 (s * s) c5) (trTo s D i 0), .box (w.heap.size + 1) [.int .i64 0, .int .i64 0, .int .i64 0, .slice none 0 0], .box w.heap.size [.int .i64 p, .int .i64 s, .int .i64 s, .slice A D.length k0], .ro (.slice A D.length k0) D]) (fun v4 _ => s - (intOf v4).toNat)
 case atStart => exact ⟨0, rfl, by omega, h1⟩
 case round =>
  clear h1
  obtain ⟨i, rfl, a1, h1⟩ := hrel
  obtain ⟨x0, x1, x2, x3⟩ := h1.box4 3 rfl
  by_cases hi : i < s
  ·go_wp2
   clear x0 x1 x2 x3
   go_loopw [5] (fun v5 wr => ∃ j : Nat, v5 = .int .i64 j ∧ j ≤ s ∧ St w wr [.box B5 [.int .i64 p, .int .i64 s, .int .i64 s, .slice A5 (s * s) c5], .own (.slice A5 (s * s) c5) (trTo s D i j), .box (w.heap.size + 1) [.int .i64 0, .int .i64 0, .int .i64 0, .slice none 0 0], .box w.heap.size [.int .i64 p, .int .i64 s, .int .i64 s, .slice A D.length k0], .ro (.slice A D.length k0) D]) (fun v5 _ => s - (intOf v5).toNat)
   case atStart => exact ⟨0, rfl, by omega, h1⟩
   case round =>
    clear h1
    obtain ⟨j, rfl, a2, h1⟩ := hrel
    obtain ⟨x0, x1, x2, x3⟩ := h1.box4 3 rfl
    by_cases hj : j < s
    ·have hbi := row_bd (c := s) hi
     have hbj := row_bd (c := s) hj
     obtain ⟨g, rfl, hn9⟩ := h1.ownSomeA 1 rfl (by rw [length_trTo]; omega)
     obtain ⟨b, off, rfl, _, e1⟩ := (h1.ro 4 rfl).cell (k := i * s + j) (by rw [HDl.out]; omega)
     have hlt : i * s + j < D.length := by rw [HDl.out]; omega
     have HLt := Lib.hid (show j * s + i < (trTo s D i j).length by rw [length_trTo]; omega)
     have HSet := Lib.hid (trTo_set D hi hj)
     obtain ⟨u1, u2, u3, u4⟩ := row_int (c := s) hi (show s * s ≤ 900 by omega)
     obtain ⟨v1, v2, v3, v4⟩ := row_int (c := s) hj (show s * s ≤ 900 by omega)
     have ha1 : (i : Int) * s + j = ((i * s + j : Nat) : Int) := by simp
     have ha2 : (j : Int) * s + i = ((j * s + i : Nat) : Int) := by simp
     obtain ⟨x, hx⟩ : ∃ x, x = vec D (i * s + j) := ⟨_, rfl⟩
     have HXv : Hid (vec D (i * s + j) = x) := hx.symm
     rw [← hx] at e1
     have HSet2 : Hid ((trTo s D i j).set (j * s + i) x = trTo s D i (j + 1)) := by show _ = _; rw [hx]; exact HSet.out
     obtain ⟨qi, hqi⟩ : ∃ qi, qi = i * s + j := ⟨_, rfl⟩
     obtain ⟨qj, hqj⟩ : ∃ qj, qj = j * s + i := ⟨_, rfl⟩
     rw [← hqi] at ha1 e1 hlt
     rw [← hqj] at ha2 HLt HSet2
     have iq : (qj : Int) < (s : Int) * s := by rw [← Int.natCast_mul]; omega
     have iq2 : (qj : Int) < ((s * s : Nat) : Int) := by omega
     have iq3 : (qi : Int) < (D.length : Nat) := by omega
     have hw1 : IntKind.i64.wrap ((i : Int) * s) = (i : Int) * s := wrap_ok (by omega) (by omega)
     have hw2 : IntKind.i64.wrap ((j : Int) * s) = (j : Int) * s := wrap_ok (by omega) (by omega)
     have hw3 : IntKind.i64.wrap ((qi : Nat) : Int) = qi := wrap_ok (by omega) (by omega)
     have hw4 : IntKind.i64.wrap ((qj : Nat) : Int) = qj := wrap_ok (by omega) (by omega)
     have HA := Lib.hid (show ∀ W, Ints W (.slice (some ⟨b, off, none⟩) D.length k0) D → Calls Tryz.prog 104 #[.agg #[.int .i64 p, .int .i64 s, .int .i64 s, .slice (some ⟨b, off, none⟩) D.length k0], .int .i64 i, .int .i64 j] W (fun e w' => e = .returned (.int .i64 x) ∧ Below W.heap.size W w') from fun W hW => by rw [hx]; exact l1At_any p s s _ D i j W hW HDl.out (by omega) hi hj)
     clear hx hqi hqj hn9 hbi hbj HSet
     go_wp2_with fail
     clear x0 x1 x2 x3 e1
     have g0 := h1.drew
     refine wp_region_cut (S := fun w' => (w'.cell? ⟨B5, 0, none⟩ = some (.int .i64 p) ∧ w'.cell? ⟨B5, 1, none⟩ = some (.int .i64 s) ∧ w'.cell? ⟨B5, 2, none⟩ = some (.int .i64 s) ∧ w'.cell? ⟨B5, 3, none⟩ = some (.slice (some ⟨g, 0, none⟩) (s * s) c5)) ∧ w'.cell? ⟨w.heap.size, 0, none⟩ = some (.int .i64 p) ∧ w'.cell? ⟨w.heap.size, 1, none⟩ = some (.int .i64 s) ∧ w'.cell? ⟨w.heap.size, 2, none⟩ = some (.int .i64 s) ∧ w'.cell? ⟨w.heap.size, 3, none⟩ = some (.slice (some ⟨b, off, none⟩) D.length k0)) 13 (by kernel_rfl) (by kernel_rfl) ⟨g0.box4 0 rfl, g0.box4 3 rfl⟩ (fun hHeld => ?_)
     simp only [List.take_succ_cons, List.take_zero]
     refine tkA 0 hHeld ?_
     refine tkA 1 hHeld ?_
     refine tkA 2 hHeld ?_
     refine tkA 3 hHeld ?_
     refine tkA 4 hHeld ?_
     refine tkA 5 hHeld ?_
     refine tkA 6 hHeld ?_
     refine tkA 7 hHeld ?_
     refine tkA 8 hHeld ?_
     refine tkA 9 hHeld ?_
     refine tkA 10 hHeld ?_
     refine rcA 11 fun K hK => ?_
     go_simp
     refine (HA.out _ (g0.roInts 4 rfl)).mono ?_
     rintro (e : Ending) w3 ⟨rfl, hb3⟩
     have g1 := g0.on hb3
     clear hb3
     show K _ _
     refine outA hK ?_ fun hHeld => ?_
     ·exact ⟨g1.box4 0 rfl, g1.box4 3 rfl⟩
     clear hK K
     refine tkA 12 hHeld ?_
     refine wpAnyH_done (by kernel_rfl) ?_ _
     show wpList _ _ _ _ _ _
     simp only [List.drop_succ_cons, List.drop_zero]
     obtain ⟨v0, f0⟩ := g1.ownCellA 1 rfl HLt.out
     have h3 := g1.set 1 rfl qj x
     clear h1
     go_wp2
     go_roundw
     case rel => exact ⟨j + 1, by go_num, by omega, by rw [← HSet2.out]; exact h3⟩
     case measure => simp [intOf]; omega
    ·obtain rfl : j = s := by omega
     rw [trTo_row] at h1
     go_wp2
     go_roundw
     case rel => exact ⟨i + 1, by go_num, by omega, h1⟩
     case measure => simp [intOf]; omega
  ·obtain rfl : i = s := by omega
   rw [trTo_end] at h1
   have f0 := h1.free 2 rfl 0
   have f1 := h1.free 2 rfl 1
   have f2 := h1.free 2 rfl 2
   have f3 := h1.free 2 rfl 3
   obtain ⟨v0, v1, v2, v3⟩ := h1.box4 2 rfl
   obtain ⟨z0, z1, z2, z3⟩ := h1.box4 0 rfl
   have h2 := (((h1.setBox 2 rfl 0 (.int .i64 p)).setBox 2 rfl 1 (.int .i64 i)).setBox 2 rfl 2 (.int .i64 i)).setBox 2 rfl 3 (.slice A5 (i * i) c5)
   obtain ⟨r0, r1, r2, r3⟩ := h2.box4 2 rfl
   go_wp2
   refine bodyPost_ret (v := .agg #[.int .i64 p, .int .i64 i, .int .i64 i, .slice A5 (i * i) c5]) (by simp [results, Tryz.results68, go_sem, r0, r1, r2, r3]) rfl ⟨_, rfl, h2.own 1 rfl, h2.below⟩
end
section
open Go.RowKit
def colR (s : Nat) (D : List Int) : List (List Int) := rowsM s s (trD s D)
theorem length_colR (s : Nat) (D : List Int) : (colR s D).length = s := length_rowsM _ _ _
theorem Wf_colR {p : Int} (hp : 2 ≤ p) (s : Nat) {D : List Int} (h : resid p D = true) : Wf p s (colR s D) := Wf_rowsM (by omega) (resid_trD (by omega) h)
end
section
open Go.RowKit
def Ind (p : Int) (n : Nat) (S : List (List Int)) : Prop := ∀ x : Nat → Int, (∀ c, c < n → ∃ u, sumTo S.length (fun j => x j * vec (rowOf S j) c) = p * u) → ∀ j, j < S.length → ∃ u, x j = p * u
structure Cod (p : Int) (n : Nat) (S : List (List Int)) (V x : List Int) : Prop where
 len : x.length = S.length
 res : resid p x = true
 eq : ∀ c, c < n → ∃ u, sumTo S.length (fun j => vec x j * vec (rowOf S j) c) - vec V c = p * u
theorem Cod.sp {p : Int} {n : Nat} {S : List (List Int)} {V x : List Int} (h : Cod p n S V x) : Sp p n S (vec V) :=
 (sp_sum (p := p) (n := n) (R := S) (vec x)).congr fun c hc => h.eq c hc
theorem Rf.ind {p : Int} {n : Nat} {S : List (List Int)} {piv : List Nat} (h : Rf p n S piv) : Ind p n S := fun x hx j hj => by
 have hj' : j < piv.length := by rw [← h.len]; exact hj
 obtain ⟨u, hu⟩ := hx (pv piv j) (h.lt j hj')
 refine ⟨u, ?_⟩
 rw [← hu, sumTo_congr (g := fun i => if i = j then x i else 0) (fun i hi => by
  by_cases e : i = j
  ·subst e; rw [h.one i hj', if_pos rfl, Int.mul_one]
  ·rw [h.off j i hj' (by rw [← h.len]; exact hi) (fun e2 => e e2.symm), if_neg e, Int.mul_zero]), sumTo_single hj x]
end
section
open Go.RowKit
theorem out_of_list {m : Nat} {l : List Nat} (h : l.length < m) : ∃ c, c < m ∧ c ∉ l := by
 refine Classical.byContradiction fun hn => ?_
 have h1 : ∀ x ∈ List.range m, x ∈ l := fun x hx => by
  refine Classical.byContradiction fun h2 => hn ⟨x, List.mem_range.1 hx, h2⟩
 have h2 := (perm_of_sub (List.range m) l List.nodup_range h1 (by rw [List.length_range]; omega)).length_eq
 rw [List.length_range] at h2
 omega
theorem rank_of_ind {p : Int} (hP : isPrime p = true) {n : Nat} {S : List (List Int)} (hS : Wf p n S) (hI : Ind p n S) : (pivL p n S).length = S.length := by
 have hp := (isPrime_bd hP).1
 have hrf := spanL_rf hP hS
 have hle : (pivL p n S).length ≤ S.length := (reduceL_ok (by omega : 0 < p) hS).piv
 refine Classical.byContradiction fun hne => ?_
 obtain ⟨piv, hpiv⟩ : ∃ piv, piv = pivL p n S := ⟨_, rfl⟩
 obtain ⟨B, hB⟩ : ∃ B : List (List Int), B = (List.range piv.length).map (fun i => tab S.length fun j => vec (rowOf S j) (pv piv i)) := ⟨_, rfl⟩
 rw [← hpiv] at hrf hle hne
 have hBl : B.length = piv.length := by rw [hB]; simp
 have hBr : ∀ i, i < piv.length → rowOf B i = tab S.length fun j => vec (rowOf S j) (pv piv i) := fun i hi => by
  rw [hB]; simp [rowOf, List.getD_eq_getElem?_getD, hi]
 have hBw : Wf p S.length B := fun i hi => by
  rw [hBl] at hi
  rw [hBr i hi]
  refine ⟨length_tab _ _, resid_iff.2 fun j hj => ?_⟩
  rw [length_tab] at hj
  rw [vec_tab hj]
  exact resid_vec (hS j hj).2 (by rw [(hS j hj).1]; exact hrf.lt i hi)
 have hBrf := spanL_rf hP hBw
 have hBp : (pivL p S.length B).length ≤ B.length := (reduceL_ok (by omega : 0 < p) hBw).piv
 obtain ⟨c, hc, hcp⟩ := out_of_list (m := S.length) (l := pivL p S.length B) (by omega)
 have hk : Kr p S.length B (vec (kerV p S.length (spanL p S.length B) (pivL p S.length B) c)) := by
  rw [← Kr_span hP hBw, ← ker_iff hp hBrf]
  refine mem_rows ?_
  rw [kerTab, List.mem_map]
  exact ⟨c, mem_freeTo.2 ⟨hc, hcp⟩, rfl⟩
 have hf1 : vec (kerV p S.length (spanL p S.length B) (pivL p S.length B) c) c = 1 := by rw [vec_kerV_free hBrf hc hcp hc hcp, if_pos rfl]
 obtain ⟨f, hf⟩ : ∃ f, f = vec (kerV p S.length (spanL p S.length B) (pivL p S.length B) c) := ⟨_, rfl⟩
 rw [← hf] at hk hf1
 obtain ⟨u, hu⟩ := hI f (fun d hd => by
  obtain ⟨x, hx⟩ := sumTo_dvd (p := p) (n := S.length) (a := fun j => f j * vec (rowOf S j) d + (-1) * sumTo piv.length (fun i => f j * vec (rowOf S j) (pv piv i) * vec (rowOf (spanL p n S) i) d)) fun j hj => by
   obtain ⟨y, hy⟩ := hrf.coef (spanL_out hP hS j hj) d hd
   refine ⟨f j * y, ?_⟩
   have e : sumTo piv.length (fun i => f j * vec (rowOf S j) (pv piv i) * vec (rowOf (spanL p n S) i) d) = f j * sumTo piv.length (fun i => vec (rowOf S j) (pv piv i) * vec (rowOf (spanL p n S) i) d) := by
    rw [← sumTo_mul]; exact sumTo_congr fun i _ => by grind
   rw [e]; grind
  rw [sumTo_add, sumTo_mul, sumTo_comm] at hx
  obtain ⟨z, hz⟩ := sumTo_dvd (p := p) (n := piv.length) (a := fun i => sumTo S.length (fun j => f j * vec (rowOf S j) (pv piv i) * vec (rowOf (spanL p n S) i) d)) fun i hi => by
   obtain ⟨y, hy⟩ := hk i (by rw [hBl]; exact hi)
   refine ⟨y * vec (rowOf (spanL p n S) i) d, ?_⟩
   show sumTo S.length (fun j => f j * vec (rowOf S j) (pv piv i) * vec (rowOf (spanL p n S) i) d) = _
   rw [sumTo_mul_right S.length (vec (rowOf (spanL p n S) i) d) (fun j => f j * vec (rowOf S j) (pv piv i))]
   rw [sumTo_congr (g := fun j => vec (rowOf B i) j * f j) (fun j hj => by rw [hBr i hi, vec_tab hj]; exact Int.mul_comm _ _), hy]
   grind
  exact ⟨x + z, by grind⟩) c hc
 rw [hf1] at hu
 have h1 : p ∣ 1 := ⟨u, hu⟩
 have := Int.le_of_dvd (by omega) h1
 omega
end
section
open Go.RowKit
theorem vec_sumMTo {p : Int} {n : Nat} {K : List Int} {Ms : List (List Int)} (hp : 2 ≤ p) (hM : ∀ i, i < Ms.length → (rowOf Ms i).length = n) {j : Nat} (hj : j < n) : ∀ i, i ≤ Ms.length → ∃ u, vec (sumMTo p n K Ms i) j - sumTo i (fun t => vec K t * vec (rowOf Ms t) j) = p * u
 | 0, _ => ⟨0, by
   have : vec (List.replicate n 0) j = 0 := by simp [vec, List.getD_eq_getElem?_getD, List.getElem?_replicate]; split <;> rfl
   simp only [sumMTo, sumTo, this]; omega⟩
 | i + 1, hi => by
  obtain ⟨u, hu⟩ := vec_sumMTo (K := K) hp hM hj i (by omega)
  have hl := (sumMTo_ok (K := K) hp hM i (by omega)).1
  simp only [sumMTo, sumTo]
  split
  ·rename_i h
   refine ⟨u, ?_⟩
   rw [h]
   omega
  ·rw [vec_addLq (by rw [hM i (by omega), hl]) (by rw [hl]; exact hj)]
   obtain ⟨y, hy⟩ := emod_dvd (p := p) (a := vec (sumMTo p n K Ms i) j + vec K i * vec (rowOf Ms i) j)
   exact ⟨u - y, by grind⟩
theorem vec_mulD {p : Int} (hp : 2 ≤ p) {r m c : Nat} {D E : List Int} {i j : Nat} (hi : i < r) (hj : j < c) : ∃ u, vec (mulD p r m c D E) (i * c + j) - sumTo m (fun k => vec D (i * m + k) * vec E (k * c + j)) = p * u := by
 obtain ⟨u, hu⟩ := vec_sumMTo (p := p) (n := c) (K := rowM m D i) (Ms := rowsM m c E) hp (fun t ht => by rw [length_rowsM] at ht; rw [rowOf_rowsM ht]; exact length_rowM _ _ _) hj m (by rw [length_rowsM]; exact Nat.le_refl _)
 refine ⟨u, ?_⟩
 rw [mulD, vec_flat (by rw [length_mulRows]; exact hi) hj, rowOf_mulRows hi, if_pos hi, mulRow, ← hu]
 congr 1
 refine sumTo_congr fun k hk => ?_
 rw [rowOf_rowsM hk, rowM, rowM, vec_tab hk, vec_tab hj]
theorem div_mod_at {n i j : Nat} (hj : j < n) : (i * n + j) / n = i ∧ (i * n + j) % n = j := by
 have h0 : 0 < n := by omega
 constructor
 ·rw [Nat.mul_comm, Nat.mul_add_div h0, Nat.div_eq_of_lt hj, Nat.add_zero]
 ·rw [Nat.mul_comm, Nat.mul_add_mod, Nat.mod_eq_of_lt hj]
end
end Go.Proofs.YtbnefjhljfbecaaGreatDoor
