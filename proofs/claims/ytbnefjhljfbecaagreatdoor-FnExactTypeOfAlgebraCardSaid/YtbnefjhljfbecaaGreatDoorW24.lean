import Derived.Deep.LoopGhost
import Derived.Test.YtbnefjhljfbecaaGreatDoorW02
import Derived.Test.YtbnefjhljfbecaaGreatDoorW22
import Derived.Test.YtbnefjhljfbecaaGreatDoorW23
namespace Go.Proofs.YtbnefjhljfbecaaGreatDoor
set_option maxRecDepth 100000
section
def flat (C : Nat) (rows : List (List Int)) : List Int := tab (rows.length * C) fun q => vec (rowOf rows (q / C)) (q % C)
theorem length_flat (C : Nat) (rows : List (List Int)) : (flat C rows).length = rows.length * C := length_tab _ _
theorem spot_lt {r c i j : Nat} (hi : i < r) (hj : j < c) : i * c + j < r * c := by
 have := row_bd (c := c) hi
 omega
theorem vec_flat {C : Nat} {rows : List (List Int)} {i j : Nat} (hi : i < rows.length) (hj : j < C) : vec (flat C rows) (i * C + j) = vec (rowOf rows i) j := by
 rw [flat, vec_tab (spot_lt hi hj)]
 have h1 : (i * C + j) / C = i := by
  rw [Nat.mul_comm, Nat.mul_add_div (by omega), Nat.div_eq_of_lt hj, Nat.add_zero]
 have h2 : (i * C + j) % C = j := by rw [Nat.mul_comm, Nat.mul_add_mod, Nat.mod_eq_of_lt hj]
 rw [h1, h2]
theorem spot_of {q r C : Nat} (h : q < r * C) : q / C < r ∧ q % C < C ∧ q = q / C * C + q % C := by
 have hC : 0 < C := by
  rcases Nat.eq_zero_or_pos C with e | e
  ·subst e; simp at h
  ·exact e
 refine ⟨by rw [Nat.div_lt_iff_lt_mul hC]; exact h, Nat.mod_lt _ hC, ?_⟩
 have := Nat.div_add_mod q C
 rw [Nat.mul_comm]; exact this.symm
theorem flat_ext {C : Nat} {D : List Int} {rows : List (List Int)} (h : D.length = rows.length * C) (h1 : ∀ i j, i < rows.length → j < C → vec D (i * C + j) = vec (rowOf rows i) j) : D = flat C rows := by
 refine list_ext (by rw [h, length_flat]) fun q hq => ?_
 rw [h] at hq
 obtain ⟨a, b, e⟩ := spot_of hq
 rw [e, h1 _ _ a b, vec_flat a b]
theorem flat_rowsM {r C : Nat} {D : List Int} (h : D.length = r * C) : flat C (rowsM r C D) = D := by
 refine (flat_ext (by rw [h, length_rowsM]) fun i j hi hj => ?_).symm
 rw [length_rowsM] at hi
 rw [rowOf_rowsM hi, rowM, vec_tab hj]
theorem rowM_flat {C : Nat} {rows : List (List Int)} {i : Nat} (hi : i < rows.length) (hl : (rowOf rows i).length = C) : rowM C (flat C rows) i = rowOf rows i := by
 refine list_ext (by rw [length_rowM, hl]) fun j hj => ?_
 rw [length_rowM] at hj
 rw [rowM, vec_tab hj, vec_flat hi hj]
theorem rowsM_flat {p : Int} {C : Nat} {rows : List (List Int)} (h : Wf p C rows) : rowsM rows.length C (flat C rows) = rows := by
 refine rows_ext (length_rowsM _ _ _) fun i hi => ?_
 rw [length_rowsM] at hi
 rw [rowOf_rowsM hi, rowM_flat hi (h i hi).1]
theorem vec_set {l : List Int} {k i : Nat} {x : Int} (hk : k < l.length) : vec (l.set k x) i = if i = k then x else vec l i := by
 simp only [vec, List.getD_eq_getElem?_getD, List.getElem?_set]
 by_cases e : k = i
 ·subst e; simp [hk]
 ·rw [if_neg e, if_neg (fun h => e h.symm)]
theorem flat_set {C : Nat} {rows : List (List Int)} {i j : Nat} (x : Int) (hi : i < rows.length) (hj : j < C) (hl : (rowOf rows i).length = C) : (flat C rows).set (i * C + j) x = flat C (rows.set i ((rowOf rows i).set j x)) := by
 refine flat_ext (by rw [List.length_set, List.length_set, length_flat]) fun a b ha hb => ?_
 rw [List.length_set] at ha
 rw [vec_set (by rw [length_flat]; exact spot_lt hi hj), vec_flat ha hb, rowOf_set hi]
 by_cases e : i = a
 ·subst e
  rw [if_pos rfl, vec_set (by rw [hl]; exact hj)]
  by_cases e2 : b = j
  ·subst e2; rw [if_pos rfl, if_pos rfl]
  ·rw [if_neg (by omega), if_neg e2]
 ·rw [if_neg e, if_neg]
  intro e2
  have h1 := congrArg (· / C) e2
  have h2 : ∀ i j : Nat, j < C → (i * C + j) / C = i := fun i j h => by rw [Nat.mul_comm, Nat.mul_add_div (by omega), Nat.div_eq_of_lt h, Nat.add_zero]
  simp only [h2 _ _ hb, h2 _ _ hj] at h1
  exact e h1.symm
theorem resid_flat {p : Int} (hp : 0 < p) {C : Nat} {rows : List (List Int)} (h : Wf p C rows) : resid p (flat C rows) = true :=
 resid_iff.2 fun q hq => by
  rw [length_flat] at hq
  obtain ⟨a, b, e⟩ := spot_of hq
  rw [e, vec_flat a b]
  exact resid_vec' (h _ a).2 hp _
theorem flat_flatten {p : Int} {C : Nat} : ∀ {rows : List (List Int)}, Wf p C rows → flat C rows = rows.flatten := by
 intro rows
 induction rows with
 | nil => intro _; simp [flat, tab]
 | cons l rows ih =>
  intro h
  have hl : l.length = C := (h 0 (by simp)).1
  have ht : Wf p C rows := fun i hi => h (i + 1) (by simpa using hi)
  rw [List.flatten_cons, ← ih ht]
  refine (flat_ext (by rw [List.length_append, length_flat, List.length_cons, hl, Nat.add_mul]; omega) fun i j hi hj => ?_).symm
  match i, hi with
  | 0, _ =>
   rw [show rowOf (l :: rows) 0 = l from rfl]
   simp only [vec, List.getD_eq_getElem?_getD, Nat.zero_mul, Nat.zero_add]
   rw [List.getElem?_append_left (by omega)]
  | i + 1, hi =>
   rw [show rowOf (l :: rows) (i + 1) = rowOf rows i from rfl, ← vec_flat (C := C) (rows := rows) (by simpa using hi) hj]
   simp only [vec, List.getD_eq_getElem?_getD]
   rw [List.getElem?_append_right (by rw [hl, Nat.add_mul]; omega), hl]
   congr 3
   rw [Nat.add_mul]; omega
theorem take_mul_flat {p : Int} {C : Nat} {rows : List (List Int)} (_h : Wf p C rows) (k : Nat) (hk : k ≤ rows.length) : (flat C rows).take (k * C) = flat C (rows.take k) := by
 have hkC := Nat.mul_le_mul_right C hk
 refine flat_ext (by rw [List.length_take, List.length_take, length_flat, Nat.min_eq_left hkC, Nat.min_eq_left hk]) fun i j hi hj => ?_
 rw [List.length_take, Nat.min_eq_left hk] at hi
 have h1 := spot_lt hi hj
 have h2 : rowOf (rows.take k) i = rowOf rows i := by
  simp only [rowOf, List.getD_eq_getElem?_getD, List.getElem?_take, if_pos hi]
 rw [h2, ← vec_flat (C := C) (by omega) hj]
 simp only [vec, List.getD_eq_getElem?_getD, List.getElem?_take, if_pos h1]
def mixTo (n : Nat) (a b : List Int) (j : Nat) : List Int := tab n fun q => if q < j then vec b q else vec a q
theorem length_mixTo (n : Nat) (a b : List Int) (j : Nat) : (mixTo n a b j).length = n := length_tab _ _
theorem mixTo_zero {n : Nat} {a b : List Int} (h : a.length = n) : mixTo n a b 0 = a := by
 rw [mixTo, tab_congr (g := vec a) (fun q _ => if_neg (by omega)), ← h, tab_vec]
theorem mixTo_end {n : Nat} {a b : List Int} (h : b.length = n) : mixTo n a b n = b := by
 rw [mixTo, tab_congr (g := vec b) (fun q hq => if_pos hq), ← h, tab_vec]
theorem mixTo_self {n : Nat} {a : List Int} (h : a.length = n) (j : Nat) : mixTo n a a j = a := by
 rw [mixTo, tab_congr (g := vec a) (fun q hq => by split <;> rfl), ← h, tab_vec]
theorem mixTo_ge {n : Nat} {a b : List Int} {j q : Nat} (h : j ≤ q) (hq : q < n) : vec (mixTo n a b j) q = vec a q := by
 rw [mixTo, vec_tab hq, if_neg (by omega)]
theorem mixTo_set {n : Nat} {a b : List Int} {j : Nat} : (mixTo n a b j).set j (vec b j) = mixTo n a b (j + 1) := by
 rw [mixTo, tab_set, mixTo]
 refine tab_congr fun q hq => ?_
 by_cases e : q = j
 ·subst e; rw [if_pos rfl, if_pos (by omega)]
 ·rw [if_neg e]
  by_cases h : q < j
  ·rw [if_pos h, if_pos (by omega)]
  ·rw [if_neg h, if_neg (by omega)]
theorem resid_mixTo {p : Int} (hp : 0 < p) {n : Nat} {a b : List Int} (ha : resid p a = true) (hb : resid p b = true) (j : Nat) : resid p (mixTo n a b j) = true :=
 resid_tab fun q _ => by split <;> exact resid_vec' (by assumption) hp _
def swapTo (C : Nat) (rows : List (List Int)) (k r j : Nat) : List (List Int) := (rows.set k (mixTo C (rowOf rows k) (rowOf rows r) j)).set r (mixTo C (rowOf rows r) (rowOf rows k) j)
theorem length_swapTo (C : Nat) (rows : List (List Int)) (k r j : Nat) : (swapTo C rows k r j).length = rows.length := by simp [swapTo]
theorem set_rowOf {rows : List (List Int)} {i : Nat} (h : i < rows.length) : rows.set i (rowOf rows i) = rows :=
 rows_ext (by simp) fun j _ => by
  rw [rowOf_set h]
  by_cases e : i = j
  ·subst e; rw [if_pos rfl]
  ·rw [if_neg e]
theorem swapTo_zero {p : Int} {C : Nat} {rows : List (List Int)} (h : Wf p C rows) {k r : Nat} (hk : k < rows.length) (hr : r < rows.length) : swapTo C rows k r 0 = rows := by
 rw [swapTo, mixTo_zero (h k hk).1, mixTo_zero (h r hr).1, set_rowOf hk, set_rowOf hr]
theorem swapTo_end {p : Int} {C : Nat} {rows : List (List Int)} (h : Wf p C rows) {k r : Nat} (hk : k < rows.length) (hr : r < rows.length) : swapTo C rows k r C = swapR rows k r := by
 rw [swapTo, mixTo_end (h k hk).1, mixTo_end (h r hr).1, swapR]
theorem rowOf_swapTo {C : Nat} {rows : List (List Int)} {k r j i : Nat} (hk : k < rows.length) (hr : r < rows.length) : rowOf (swapTo C rows k r j) i = if r = i then mixTo C (rowOf rows r) (rowOf rows k) j else if k = i then mixTo C (rowOf rows k) (rowOf rows r) j else rowOf rows i := by
 rw [swapTo, rowOf_set (by simpa using hr), rowOf_set hk]
theorem Wf.swapTo {p : Int} (hp : 0 < p) {C : Nat} {rows : List (List Int)} (h : Wf p C rows) {k r : Nat} (hk : k < rows.length) (hr : r < rows.length) (j : Nat) : Wf p C (swapTo C rows k r j) :=
 (h.set hk (length_mixTo _ _ _ _) (resid_mixTo hp (h k hk).2 (h r hr).2 j)).set (by simpa using hr) (length_mixTo _ _ _ _) (resid_mixTo hp (h r hr).2 (h k hk).2 j)
theorem swapTo_step {p : Int} (hp : 0 < p) {C : Nat} {rows : List (List Int)} (h : Wf p C rows) {k r j : Nat} (hk : k < rows.length) (hr : r < rows.length) (hj : j < C) :
  ((flat C (swapTo C rows k r j)).set (r * C + j) (vec (flat C (swapTo C rows k r j)) (k * C + j))).set (k * C + j) (vec (flat C (swapTo C rows k r j)) (r * C + j)) = flat C (swapTo C rows k r (j + 1)) := by
 have hw := h.swapTo hp hk hr j
 have hl := length_swapTo C rows k r j
 rw [vec_flat (by rw [hl]; exact hk) hj, vec_flat (by rw [hl]; exact hr) hj, flat_set _ (by rw [hl]; exact hr) hj (hw r (by rw [hl]; exact hr)).1]
 have hw2 : (rowOf ((swapTo C rows k r j).set r ((rowOf (swapTo C rows k r j) r).set j (vec (rowOf (swapTo C rows k r j) k) j))) k).length = C := by
  rw [rowOf_set (by rw [hl]; exact hr)]
  split
  ·rw [List.length_set]; exact (hw r (by rw [hl]; exact hr)).1
  ·exact (hw k (by rw [hl]; exact hk)).1
 rw [flat_set _ (by rw [List.length_set, hl]; exact hk) hj hw2]
 congr 1
 refine rows_ext (by simp [length_swapTo]) fun i _ => ?_
 rw [rowOf_set (by rw [List.length_set, hl]; exact hk), rowOf_set (by rw [hl]; exact hr), rowOf_set (by rw [hl]; exact hr), rowOf_swapTo hk hr, rowOf_swapTo hk hr, rowOf_swapTo hk hr, rowOf_swapTo hk hr]
 by_cases e : r = k
 ·subst e
  rw [if_pos rfl, if_pos rfl, mixTo_self (h r hr).1, mixTo_self (h r hr).1]
  by_cases e2 : r = i
  ·subst e2
   rw [if_pos rfl, if_pos rfl]
   refine list_ext (by simp) fun q hq => ?_
   simp only [List.length_set] at hq
   rw [vec_set (by rw [List.length_set, (h r hr).1]; exact hj), vec_set (by rw [(h r hr).1]; exact hj)]
   by_cases e3 : q = j
   ·subst e3; rw [if_pos rfl]
   ·rw [if_neg e3, if_neg e3]
  ·rw [if_neg e2, if_neg e2, if_neg e2, if_neg e2]
 ·have e' : ¬ k = r := fun h => e h.symm
  simp only [if_neg e, if_neg e', if_pos]
  by_cases e2 : r = i
  ·subst e2
   rw [if_neg e', if_pos rfl, if_pos rfl, mixTo_ge (Nat.le_refl _) hj, mixTo_set]
  ·by_cases e3 : k = i
   ·subst e3
    rw [if_pos rfl, if_neg e, if_pos rfl, mixTo_ge (Nat.le_refl _) hj, mixTo_set]
   ·simp only [if_neg e2, if_neg e3]
theorem elim_num {p x f y : Int} (_hp : 0 < p) : (x - f * y) % p = (x + (p - f) * y) % p := by
 rw [show x + (p - f) * y = x - f * y + p * y from by grind, Int.add_mul_emod_self_left]
theorem vec_addLq {a b : List Int} {k p : Int} {q : Nat} (h : b.length = a.length) (hq : q < a.length) : vec (addL a k b p) q = (vec a q + k * vec b q) % p := by
 have := addL_get a k b p q _ _ (vec_get hq) (vec_get (by omega : q < b.length))
 simp [vec, List.getD_eq_getElem?_getD, this]
def elimAt (p : Int) (C c a : Nat) (rows : List (List Int)) (i j : Nat) : List (List Int) := (elimTo p c a rows i).set i (mixTo C (rowOf rows i) (elimRow p c a rows i) j)
theorem elimAt_zero {p : Int} {C c a : Nat} {rows : List (List Int)} (h : Wf p C rows) {i : Nat} (hi : i < rows.length) : elimAt p C c a rows i 0 = elimTo p c a rows i := by
 rw [elimAt, mixTo_zero (h i hi).1]
 conv => rhs; rw [← set_rowOf (rows := elimTo p c a rows i) (i := i) (by rw [length_elimTo]; exact hi)]
 rw [rowOf_elimTo hi, if_neg (by omega)]
theorem elimAt_end {p : Int} (hp : 0 < p) {C c a : Nat} {rows : List (List Int)} (h : Wf p C rows) (ha : a < rows.length) {i : Nat} (hi : i < rows.length) : elimAt p C c a rows i C = elimTo p c a rows (i + 1) := by
 rw [elimAt, mixTo_end (elimRow_wf hp h ha hi).1, elimTo_set hi]
theorem length_elimAt (p : Int) (C c a : Nat) (rows : List (List Int)) (i j : Nat) : (elimAt p C c a rows i j).length = rows.length := by rw [elimAt, List.length_set, length_elimTo]
theorem elimAt_row {p : Int} {C c a : Nat} {rows : List (List Int)} {i j : Nat} (hi : i < rows.length) : rowOf (elimAt p C c a rows i j) i = mixTo C (rowOf rows i) (elimRow p c a rows i) j := by
 rw [elimAt, rowOf_set (by rw [length_elimTo]; exact hi), if_pos rfl]
theorem elimAt_piv {p : Int} {C c a : Nat} {rows : List (List Int)} {i j : Nat} (ha : a < rows.length) (hi : i < rows.length) (hia : i ≠ a) : rowOf (elimAt p C c a rows i j) a = rowOf rows a := by
 rw [elimAt, rowOf_set (by rw [length_elimTo]; exact hi), if_neg hia, rowOf_elimTo ha]
 split
 ·rw [elimRow, if_pos (.inl rfl)]
 ·rfl
theorem elimAt_step {p : Int} (hp : 0 < p) {C c a : Nat} {rows : List (List Int)} (h : Wf p C rows) (ha : a < rows.length) {i j : Nat} (hi : i < rows.length) (hj : j < C) (hia : i ≠ a) (hf : vec (rowOf rows i) c ≠ 0) :
  (flat C (elimAt p C c a rows i j)).set (i * C + j) ((vec (flat C (elimAt p C c a rows i j)) (i * C + j) - vec (rowOf rows i) c * vec (flat C (elimAt p C c a rows i j)) (a * C + j)) % p) = flat C (elimAt p C c a rows i (j + 1)) := by
 have hl := length_elimAt p C c a rows i j
 rw [vec_flat (by rw [hl]; exact hi) hj, vec_flat (by rw [hl]; exact ha) hj, elimAt_row hi, elimAt_piv ha hi hia, mixTo_ge (Nat.le_refl _) hj, flat_set _ (by rw [hl]; exact hi) hj (by rw [elimAt_row hi, length_mixTo]), elimAt_row hi]
 have e : (vec (rowOf rows i) j - vec (rowOf rows i) c * vec (rowOf rows a) j) % p = vec (elimRow p c a rows i) j := by
  rw [elimRow, if_neg (by rintro (e | e); exact hia e; exact hf e), vec_addLq (by rw [(h a ha).1, (h i hi).1]) (by rw [(h i hi).1]; exact hj)]
  exact elim_num hp
 rw [e, mixTo_set, elimAt, List.set_set, ← elimAt]
end
section
open Go.RowKit
theorem tmod_fix {n p : Int} (_hp : 1 ≤ p) : (n.tmod p + p) % p = n % p := by
 rw [Int.add_emod_right]
 have h := Int.tmod_add_mul_tdiv n p
 have : n.tmod p = n - p * n.tdiv p := by omega
 rw [this, Int.sub_mul_emod_self_left]
theorem tmod_bd {n p : Int} (hp : 1 ≤ p) (hn : n < 0) : -p < n.tmod p ∧ n.tmod p ≤ 0 := by
 have h1 := Int.neg_tmod n p
 have h2 := Int.tmod_lt_of_pos (-n) (show 0 < p by omega)
 have h3 := Int.tmod_nonneg p (show 0 ≤ -n by omega)
 omega
theorem mod_any (n p : Int) (w : World) (hn : -1000000000000000000 ≤ n) (hn' : n ≤ 1000000000000000000) (hp : 1 ≤ p) (hp' : p ≤ 10007) : Calls Tryz.prog 85 #[.int .i64 n, .int .i64 p] w fun e w' => e = .returned (.int .i64 (n % p)) ∧ w = w' := by
 have HF := Lib.hid (show n.tmod p % p = n % p by have := tmod_fix (n := n) hp; rwa [Int.add_emod_right] at this)
 by_cases h0 : 0 ≤ n
 ·have h1 := Int.emod_nonneg n (b := p) (by omega)
  have h2 := Int.emod_lt_of_pos n (show 0 < p by omega)
  have HG := Lib.hid (show (n % p + p) % p = n % p by rw [Int.add_emod_right, Int.emod_emod_of_dvd _ (Int.dvd_refl p)])
  go_enter Tryz.func85, Tryz.ntmps85
  go_wp2
  go_ret
  exact ⟨ret_int HG.out, rfl⟩
 ·obtain ⟨h1, h2⟩ := tmod_bd hp (show n < 0 by omega)
  go_enter Tryz.func85, Tryz.ntmps85
  go_wp2
  go_ret
  exact ⟨ret_int HF.out, rfl⟩
theorem l1Mod_any (n p : Int) (w : World) (hn : -1000000000000000000 ≤ n) (hn' : n ≤ 1000000000000000000) (hp : 1 ≤ p) (hp' : p ≤ 10007) : Calls Tryz.prog 39 #[.int .i64 n, .int .i64 p] w fun e w' => e = .returned (.int .i64 (n % p)) ∧ w = w' := by
 have HF := tmod_fix (n := n) hp
 by_cases h0 : 0 ≤ n
 ·have h1 := Int.emod_nonneg n (b := p) (by omega)
  clear HF
  go_enter Tryz.func39, Tryz.ntmps39
  go_wp2
  go_ret
  exact ⟨rfl, rfl⟩
 ·obtain ⟨h1, h2⟩ := tmod_bd hp (show n < 0 by omega)
  by_cases hz : n.tmod p < 0
  ·have HG := Lib.hid (show n.tmod p + p = n % p by rw [← HF]; exact (Int.emod_eq_of_lt (by omega) (by omega)).symm)
   clear HF
   go_enter Tryz.func39, Tryz.ntmps39
   go_wp2
   go_ret
   exact ⟨ret_int HG.out, rfl⟩
  ·have hz' : n.tmod p = 0 := by omega
   have HG := Lib.hid (show n.tmod p = n % p by rw [← HF, hz', Int.zero_add, Int.emod_self])
   clear HF hz'
   go_enter Tryz.func39, Tryz.ntmps39
   go_wp2
   go_ret
   exact ⟨ret_int HG.out, rfl⟩
theorem pow_step {o a q k : Nat} (h : k % 2 = 1) : o * a ^ k % q = o * a % q * (a * a % q) ^ (k / 2) % q := by
 have e : a ^ k = a * (a * a) ^ (k / 2) := by
  have hk : k = 2 * (k / 2) + 1 := by omega
  conv => lhs; rw [hk, Nat.pow_succ', Nat.pow_mul, Nat.pow_two]
 rw [e, ← Nat.mul_assoc]; simp [Nat.mul_mod, Nat.pow_mod]
theorem pow_even {o a q k : Nat} (h : k % 2 = 0) : o * a ^ k % q = o * (a * a % q) ^ (k / 2) % q := by
 have e : a ^ k = (a * a) ^ (k / 2) := by
  rw [← Nat.pow_two, ← Nat.pow_mul, show 2 * (k / 2) = k from by omega]
 rw [e]; simp [Nat.mul_mod, Nat.pow_mod]
theorem sq_small {a b q : Nat} (ha : a < q) (hb : b < q) (hq : q ≤ 10007) : a * b ≤ 100140049 := by
 have := Nat.mul_le_mul (show a ≤ 10007 by omega) (show b ≤ 10007 by omega)
 omega
theorem l1Power_any (a q k : Nat) (w : World) (ha : a < q) (hq : q ≤ 10007) (hq2 : 2 ≤ q) (hk : k ≤ 10007) : Calls Tryz.prog 147 #[.int .i64 (a : Int), .int .i64 (k : Int), .int .i64 (q : Int)] w fun e w' => e = .returned (.int .i64 ((a ^ k % q : Nat) : Int)) ∧ w = w' := by
 obtain ⟨R, hR⟩ : ∃ R, R = 1 * a ^ k % q := ⟨_, rfl⟩
 have e0 : a ^ k % q = R := by rw [hR, Nat.one_mul]
 rw [e0]
 have HR := Lib.hid hR
 clear hR e0
 go_enter Tryz.func147, Tryz.ntmps147
 go_wp2
 go_loopw [0, 1, 7] (fun va vk vo wr => ∃ b j o : Nat, va = .int .i64 (b : Int) ∧ vk = .int .i64 (j : Int) ∧ vo = .int .i64 (o : Int) ∧ b < q ∧ o < q ∧ j ≤ 10007 ∧ wr = w ∧ Hid (R = o * b ^ j % q)) (fun _ vk _ _ => (intOf vk).toNat)
 case atStart => exact ⟨a, k, 1, rfl, rfl, rfl, ha, by omega, hk, rfl, HR⟩
 case round =>
  clear HR
  obtain ⟨b, j, o, rfl, rfl, rfl, a1, a2, a3, rfl, HM⟩ := hrel
  have hbb := sq_small a1 a1 hq
  have hob := sq_small a2 a1 hq
  have c1 : ((b * b : Nat) : Int) = (b : Int) * b := Int.natCast_mul _ _
  have c2 : ((o * b : Nat) : Int) = (o : Int) * b := Int.natCast_mul _ _
  have c3 : (b : Int) * b % (q : Int) = ((b * b % q : Nat) : Int) := by rw [Int.natCast_emod, c1]
  have c4 : (o : Int) * b % (q : Int) = ((o * b % q : Nat) : Int) := by rw [Int.natCast_emod, c2]
  have c5 : (j : Int) / 2 = ((j / 2 : Nat) : Int) := by omega
  have m1 := Nat.mod_lt (b * b) (show 0 < q by omega)
  have m2 := Nat.mod_lt (o * b) (show 0 < q by omega)
  have n1 : 0 ≤ (b : Int) * b := by omega
  have n2 : 0 ≤ (o : Int) * b := by omega
  have n3 : (b : Int) * b ≤ 100140049 := by omega
  have n4 : (o : Int) * b ≤ 100140049 := by omega
  have C3 := Lib.hid c3
  have C4 := Lib.hid c4
  have C5 := Lib.hid c5
  clear c1 c2 c3 c4 c5 hbb hob
  by_cases hj : 0 < j
  ·by_cases h2 : (j : Int) % 2 = 1
   ·have HS := Lib.hid (pow_step (o := o) (a := b) (q := q) (k := j) (by omega))
    have t1 : ((j : Int) % 2 == 1) = true := by simp [h2]
    clear h2
    go_wp2
    go_roundw
    case rel => exact ⟨b * b % q, j / 2, o * b % q, by rw [C3.out], by rw [C5.out], by rw [C4.out], m1, m2, by omega, by first | rfl | trivial, by rw [← HS.out]; exact HM.out⟩
    case measure => simp [intOf]; omega
   ·have HS := Lib.hid (pow_even (o := o) (a := b) (q := q) (k := j) (by omega))
    have t1 : ((j : Int) % 2 == 1) = false := by simp [h2]
    clear h2
    go_wp2
    go_roundw
    case rel => exact ⟨b * b % q, j / 2, o, by rw [C3.out], by rw [C5.out], rfl, m1, a2, by omega, by first | rfl | trivial, by rw [← HS.out]; exact HM.out⟩
    case measure => simp [intOf]; omega
  ·obtain rfl : j = 0 := by omega
   have H0 := Lib.hid (show R = o by rw [HM.out, Nat.pow_zero, Nat.mul_one, Nat.mod_eq_of_lt a2])
   clear n1 n2 n3 n4
   go_wp2
   go_ret
   exact ⟨ret_int (by rw [H0.out]), rfl⟩
theorem l1Inverse_any (a q : Nat) (w : World) (ha : a < q) (hq : q ≤ 10007) (hq2 : 2 ≤ q) : Calls Tryz.prog 139 #[.int .i64 (a : Int), .int .i64 (q : Int)] w fun e w' => e = .returned (.int .i64 ((a ^ (q - 2) % q : Nat) : Int)) ∧ w = w' := by
 have m1 := Nat.mod_lt (a ^ (q - 2)) (show 0 < q by omega)
 obtain ⟨R, hR⟩ : ∃ R, R = a ^ (q - 2) % q := ⟨_, rfl⟩
 have e1 : (q : Int) - 2 = ((q - 2 : Nat) : Int) := by omega
 have HC := l1Power_any a q (q - 2)
 rw [← hR] at m1 HC ⊢
 rw [← e1] at HC
 have e2 := Lib.hid (show ((R : Nat) : Int) % (q : Int) = R by rw [← Int.natCast_emod, Nat.mod_eq_of_lt m1])
 clear hR e1
 go_enter Tryz.func139, Tryz.ntmps139
 go_wp2_with fail
 refine (HC _ ha hq hq2 (by omega)).mono ?_
 rintro (e : Ending) w1 ⟨rfl, rfl⟩
 go_wp2
 go_ret
 exact ⟨ret_int e2.out, rfl⟩
theorem InverseOf_any (n p : Int) (w : World) (hp : isPrime p = true) (h1 : 0 < n) (h2 : n < p) : Calls Tryz.prog 127 #[.int .i64 n, .int .i64 p] w fun e w' => e = .returned (.int .i64 (invE p n)) ∧ w = w' := by
 obtain ⟨b1, b2⟩ := isPrime_bd hp
 obtain ⟨q, rfl⟩ : ∃ q : Nat, p = q := ⟨p.toNat, by omega⟩
 obtain ⟨a, rfl⟩ : ∃ a : Nat, n = a := ⟨n.toNat, by omega⟩
 have hm := Lib.hid (show (a : Int) % (q : Int) = a from Int.emod_eq_of_lt (by omega) (by omega))
 have hi := Lib.hid (pow_inv (p := q) (n := a) hp (by omega) (by omega))
 have t0 : ((a : Int) == 0) = false := by rw [beq_eq_false_iff_ne]; omega
 by_cases hq : q = 2
 ·subst hq
  obtain rfl : a = 1 := by omega
  have h3 : invE ((2 : Nat) : Int) ((1 : Nat) : Int) = 1 := by decide
  rw [h3]
  go_enter Tryz.func127, Tryz.ntmps127
  go_wp2_with fail
  refine (IsPrimeS_any _ _).mono ?_
  rintro (e : Ending) w1 ⟨rfl, rfl⟩
  go_wp2_with fail
  refine (l1Mod_any _ _ _ (by omega) (by omega) (by omega) (by omega)).mono ?_
  rintro (e : Ending) w1 ⟨rfl, rfl⟩
  rw [show (1 : Int) % 2 = 1 from by decide]
  go_wp2
  go_ret
  exact ⟨rfl, rfl⟩
 ·have t1 : ((q : Int) == 2) = false := by rw [beq_eq_false_iff_ne]; omega
  go_enter Tryz.func127, Tryz.ntmps127
  go_wp2_with fail
  refine (IsPrimeS_any _ _).mono ?_
  rintro (e : Ending) w1 ⟨rfl, rfl⟩
  go_wp2_with fail
  refine (l1Mod_any _ _ _ (by omega) (by omega) (by omega) (by omega)).mono ?_
  rintro (e : Ending) w1 ⟨rfl, rfl⟩
  rw [hm.out]
  go_wp2_with fail
  refine (l1Mod_any _ _ _ (by omega) (by omega) (by omega) (by omega)).mono ?_
  rintro (e : Ending) w1 ⟨rfl, rfl⟩
  rw [hm.out]
  go_wp2_with fail
  refine (l1Inverse_any _ _ _ (by omega) (by omega) (by omega)).mono ?_
  rintro (e : Ending) w1 ⟨rfl, rfl⟩
  rw [hi.out]
  go_wp2
  go_ret
  exact ⟨rfl, rfl⟩
theorem euc_bd {p a b x y : Int} (ha : 1 < a) (hb : 0 ≤ b) (h : (x.natAbs : Int) * b + y.natAbs * a ≤ p) (hb0 : 0 < b) :
  0 ≤ a / b ∧ a / b ≤ a ∧ -p ≤ a / b * y ∧ a / b * y ≤ p ∧ -p ≤ x - a / b * y ∧ x - a / b * y ≤ p ∧ (y.natAbs : Int) * (a % b) + (x - a / b * y).natAbs * b ≤ p := by
 have q0 : 0 ≤ a / b := Int.ediv_nonneg (by omega) hb
 have q1 : a / b ≤ a := Int.ediv_le_self _ (by omega)
 have he : b * (a / b) + a % b = a := Int.mul_ediv_add_emod a b
 have r0 := Int.emod_nonneg a (b := b) (by omega)
 generalize a / b = q at *
 generalize a % b = r at *
 have x0 : (0 : Int) ≤ x.natAbs := by omega
 have y0 : (0 : Int) ≤ y.natAbs := by omega
 have hy : (q * y).natAbs = q * y.natAbs := by rw [Int.natAbs_mul]; rw [Int.natCast_mul]; rw [Int.natAbs_of_nonneg q0]
 have k1 : q * (y.natAbs : Int) ≤ a * y.natAbs := Int.mul_le_mul_of_nonneg_right q1 y0
 have k2 : 0 ≤ (x.natAbs : Int) * b := Int.mul_nonneg x0 hb
 have k3 : ((x - q * y).natAbs : Int) ≤ x.natAbs + q * y.natAbs := by
  have : (x - q * y).natAbs ≤ x.natAbs + (q * y).natAbs := by omega
  omega
 have k4 : ((x - q * y).natAbs : Int) * b ≤ (x.natAbs + q * y.natAbs) * b := Int.mul_le_mul_of_nonneg_right k3 hb
 have k5 : (y.natAbs : Int) * r + (x.natAbs + q * y.natAbs) * b = x.natAbs * b + y.natAbs * a := by rw [← he]; grind
 have k6 : a * (y.natAbs : Int) = y.natAbs * a := Int.mul_comm _ _
 have k7 : ((x - q * y).natAbs : Int) ≤ (x - q * y).natAbs * b := by
  have := Int.mul_le_mul_of_nonneg_left (show 1 ≤ b by omega) (show (0 : Int) ≤ (x - q * y).natAbs by omega)
  omega
 have k8 : 0 ≤ (y.natAbs : Int) * r := Int.mul_nonneg y0 r0
 refine ⟨q0, q1, ?_, ?_, ?_, ?_, ?_⟩ <;> omega
theorem inverse_any (n p : Int) (w : World) (hp : isPrime p = true) (h1 : 0 < n) (h2 : n < p) : Calls Tryz.prog 130 #[.int .i64 n, .int .i64 p] w fun e w' => e = .returned (.int .i64 (invE p n)) ∧ ∃ m, w' = w.drewN m := by
 obtain ⟨b1, b2⟩ := isPrime_bd hp
 obtain ⟨R, hR⟩ : ∃ R, R = eucX (p.toNat + 2) n p 1 0 := ⟨_, rfl⟩
 have e0 : invE p n = R % p := by rw [hR, invE]
 rw [e0]
 have HR := Lib.hid hR
 have HC := Lib.hid (prime_cop hp h1 h2)
 clear hR e0 hp
 go_enter Tryz.func130, Tryz.ntmps130
 go_wp2
 go_loopg [5, 6, 7, 8] (p.toNat + 2) (fun gk va vb vx vy wr => ∃ (a b x y : Int) (dn : Nat), va = .int .i64 a ∧ vb = .int .i64 b ∧ vx = .int .i64 x ∧ vy = .int .i64 y ∧ 0 < a ∧ 0 ≤ b ∧ a ≤ p ∧ b ≤ p ∧ -p ≤ x ∧ x ≤ p ∧ -p ≤ y ∧ y ≤ p ∧ b.toNat + 2 ≤ gk ∧ wr = w.drewN dn ∧ Hid (∀ d : Int, d ∣ a → d ∣ b → d ∣ 1) ∧ Hid ((x.natAbs : Int) * b + y.natAbs * a ≤ p) ∧ Hid (R = eucX gk a b x y))
 case atStart => exact ⟨n, p, 1, 0, 0, rfl, rfl, rfl, rfl, h1, by omega, by omega, by omega, by omega, by omega, by omega, by omega, by omega, rfl, HC, by show _ ≤ _; simp, HR⟩
 case round =>
  clear HR HC
  obtain ⟨a, b, x, y, dn, rfl, rfl, rfl, rfl, a1, a2, a3, a4, a5, a6, a7, a8, a9, rfl, HC, HB, HM⟩ := hrel
  by_cases ha : 1 < a
  ·have hb0 : 0 < b := by
    rcases Int.lt_or_eq_of_le a2 with h | h
    ·exact h
    ·exfalso
     have := Int.le_of_dvd (by decide) (HC.out a (Int.dvd_refl a) (h ▸ Int.dvd_zero a))
     omega
   obtain ⟨c1, c2, c3, c4, c5, c6, c7⟩ := euc_bd ha a2 HB.out hb0
   have hr1 := Int.emod_nonneg a (b := b) (by omega)
   have hr2 := Int.emod_lt_of_pos a hb0
   have he : a / b * b + a % b = a := by rw [Int.mul_comm]; exact Int.mul_ediv_add_emod a b
   have HC' := Lib.hid (show ∀ d : Int, d ∣ b → d ∣ a % b → d ∣ 1 from fun d k1 k2 => HC.out d (by rw [← he]; exact Int.dvd_add (Int.dvd_mul_of_dvd_right k1) k2) k1)
   have HB' := Lib.hid c7
   obtain ⟨f, rfl⟩ : ∃ f, gk = f + 1 := ⟨gk - 1, by omega⟩
   have HM' := Lib.hid (show R = eucX f b (a % b) y (x - a / b * y) by rw [HM.out]; conv => lhs; unfold eucX; rw [if_pos ha])
   clear c7 he HB HC HM
   go_wp2
   go_quiet (fail)
   go_wp2
   go_roundg f
   case rel => exact ⟨b, a % b, y, x - a / b * y, _, rfl, rfl, rfl, rfl, hb0, hr1, a4, by omega, a7, a8, c5, c6, by omega, rfl, HC', HB', HM'⟩
   case measure => omega
  ·have HM' := Lib.hid (show R = x by
    rw [HM.out]
    obtain ⟨f, rfl⟩ : ∃ f, gk = f + 1 := ⟨gk - 1, by omega⟩
    unfold eucX; rw [if_neg ha])
   clear HB HC HM
   go_wp2_with fail
   refine (mod_any x p _ (by omega) (by omega) (by omega) (by omega)).mono ?_
   rintro (e : Ending) w1 ⟨rfl, rfl⟩
   go_wp2
   go_ret
   exact ⟨ret_int (by rw [HM'.out]), _, rfl⟩
end
section
open Go.RowKit
theorem vec_perm {B : Nat} {w : World} {v : Value} {e sz n : Nat} {cs : List Value} {subs subs' : List (Value × List Int)} (hp : subs'.Perm subs) (h : It.ok B w (.vec v e sz n cs subs)) : It.ok B w (.vec v e sz n cs subs') :=
 ⟨h.1, fun s hs => h.2 s (hp.mem_iff.1 hs)⟩
theorem fp_perm {v : Value} {e sz n : Nat} {cs cs' : List Value} {subs subs' : List (Value × List Int)} (hp : subs'.Perm subs) : (It.vec v e sz n cs subs').fp.Perm (It.vec v e sz n cs' subs).fp := by
 simp only [It.fp]
 exact List.Perm.append_left _ (hp.flatMap_right _)
theorem rows_zip_set {us : List Value} {ll : List (List Int)} {i : Nat} {u : Value} (hu : us[i]? = some u) (l : List Int) : (us.zip ll).set i (u, l) = us.zip (ll.set i l) := by
 apply List.ext_getElem?
 intro j
 rw [List.getElem?_set]
 by_cases e : i = j
 ·subst e
  by_cases hi : i < ll.length
  ·have hiu := (List.getElem?_eq_some_iff.1 hu).1
   rw [if_pos rfl, if_pos (by simp; omega)]
   exact (zip_get hu (by rw [List.getElem?_set_self hi])).symm
  ·rw [if_pos rfl, if_neg (by simp; omega)]
   exact (List.getElem?_eq_none (by simp; omega)).symm
 ·rw [if_neg e]
  have h1 : (ll.set i l)[j]? = ll[j]? := by rw [List.getElem?_set, if_neg e]
  cases hz : (us.zip ll)[j]? with
  | none =>
   refine (List.getElem?_eq_none ?_).symm
   have := List.getElem?_eq_none_iff.1 hz
   simpa using this
  | some q =>
   obtain ⟨a, b⟩ := q
   rw [List.getElem?_zip_eq_some] at hz
   exact (zip_get hz.1 (h1.trans hz.2)).symm
section
variable {w0 w : World} {L : List It}
theorem St.permSubs (h : St w0 w L) (i : Nat) {v : Value} {e sz n : Nat} {cs : List Value} {subs subs' : List (Value × List Int)} (hi : L[i]? = some (.vec v e sz n cs subs)) (hp : subs'.Perm subs) : St w0 w (L.set i (.vec v e sz n cs subs')) :=
 h.upd i hi (Nat.le_refl _) rfl rfl rfl (fun _ _ _ => rfl) (vec_perm hp (h.vec i hi)) (fun _b hb => .inl ((fp_perm hp).mem_iff.1 hb)) ((fp_perm hp).nodup_iff.2 (h.vecNodup i hi))
theorem St.setCells (h : St w0 w L) (i : Nat) {g c e sz n : Nat} {cs : List Value} {subs : List (Value × List Int)} (hi : L[i]? = some (.vec (.slice (some ⟨g, 0, none⟩) n c) e sz n cs subs)) (k : Nat) (x : Value) :
  St w0 (w.setCell ⟨g, k, none⟩ x) (L.set i (.vec (.slice (some ⟨g, 0, none⟩) n c) e sz n (cs.set k x) subs)) := by
 obtain ⟨h1, h2⟩ := World.ownsRow.stored (h.vec i hi).1 k x
 exact h.updVec i hi (by simpa [Value.ownBlock] using h2) (fun b hb => .inl hb) h1
theorem St.rowG (h : St w0 w L) (i : Nat) {g n c : Nat} {us : List Value} {ll : List (List Int)} (hi : L[i]? = some (rowsIt (.slice (some ⟨g, 0, none⟩) n c) us ll)) (hul : us.length = ll.length) (hn : n = ll.length) {k m : Nat} (hk : k < ll.length) (hm : (rowOf ll k).length = m) (h0 : 0 < m) :
  ∃ b d, us[k]? = some (.slice (some ⟨b, 0, none⟩) m d) ∧ w.cell? ⟨g, k, none⟩ = some (.slice (some ⟨b, 0, none⟩) m d) ∧ (∀ j, j < m → w.cell? ⟨b, j, none⟩ = some (.int .i64 (Go.Proofs.YtbnefjhljfbecaaGreatDoor.vec (rowOf ll k) j))) ∧ (∀ j, w.frozen? ⟨b, j, none⟩ = false) ∧ b < w.heap.size := by
 obtain ⟨A, d, h1, h2, h3⟩ := h.row i hi hul hn hk
 rw [hm] at h1 h2 h3
 subst hn
 have ho : Own w w0.heap.size _ _ := h.sub i hi k (zip_get h1 (rowOf_get hk))
 rcases id ho.2 with ⟨he, h9⟩ | ⟨b, cap, cur, he, hb, hh, r⟩
 ·rw [hm] at h9; omega
 ·rw [hm] at he
  simp only [Value.slice.injEq] at he
  obtain ⟨rfl, _, rfl⟩ := he
  refine ⟨b, d, h1, h2, fun j hj => ?_, fun j => frozen_of_row w b j _ _ hh, (ho.lt b rfl).2⟩
  obtain ⟨A', c', e1, e2, e3, e4⟩ := h3
  rw [hm] at e1 e4
  simp only [Value.slice.injEq] at e1
  obtain ⟨rfl, _, rfl⟩ := e1
  obtain ⟨b', off, e5, e6⟩ := e4 h0
  simp only [Option.some.injEq, Addr.mk.injEq] at e5
  obtain ⟨rfl, rfl, _⟩ := e5
  have := e6 j _ (vec_get (l := rowOf ll k) (by omega))
  rwa [Nat.zero_add] at this
theorem St.rowFree (h : St w0 w L) (i : Nat) {g n c : Nat} {us : List Value} {ll : List (List Int)} (hi : L[i]? = some (rowsIt (.slice (some ⟨g, 0, none⟩) n c) us ll)) (hn : n = ll.length) (k : Nat) : w.frozen? ⟨g, k, none⟩ = false := by
 subst hn
 exact h.vecFree i hi k
theorem St.rowK (h : St w0 w L) (i : Nat) {g n c : Nat} {us : List Value} {ll : List (List Int)} (hi : L[i]? = some (rowsIt (.slice (some ⟨g, 0, none⟩) n c) us ll)) (hul : us.length = ll.length) (hn : n = ll.length) {k m b d : Nat} (hk : k < ll.length) (hm : (rowOf ll k).length = m) (h0 : 0 < m) (hu : us[k]? = some (.slice (some ⟨b, 0, none⟩) m d)) :
  w.cell? ⟨g, k, none⟩ = some (.slice (some ⟨b, 0, none⟩) m d) ∧ (∀ j, j < m → w.cell? ⟨b, j, none⟩ = some (.int .i64 (Go.Proofs.YtbnefjhljfbecaaGreatDoor.vec (rowOf ll k) j))) ∧ (∀ j, w.frozen? ⟨b, j, none⟩ = false) := by
 obtain ⟨b', d', h1, h2, h3, h4, _⟩ := h.rowG i hi hul hn hk hm h0
 rw [hu] at h1
 simp only [Option.some.injEq, Value.slice.injEq, Addr.mk.injEq] at h1
 obtain ⟨⟨rfl, _⟩, _, rfl⟩ := h1
 exact ⟨h2, h3, h4⟩
theorem St.setRowCell (h : St w0 w L) (i : Nat) {v : Value} {us : List Value} {ll : List (List Int)} (hi : L[i]? = some (rowsIt v us ll)) (_hul : us.length = ll.length) {k b m d : Nat} (hk : k < ll.length) (hu : us[k]? = some (.slice (some ⟨b, 0, none⟩) m d)) (j : Nat) (x : Int) :
  St w0 (w.setCell ⟨b, j, none⟩ (.int .i64 x)) (L.set i (rowsIt v us (ll.set k ((rowOf ll k).set j x)))) := by
 have hz := zip_get hu (rowOf_get hk)
 have ho : Own w w0.heap.size _ _ := h.sub i hi k hz
 obtain ⟨h1, h2⟩ := ho.set j x
 have := h.wroteSub i hi k hz h1 (by simpa [Value.ownBlock] using h2)
 rw [rows_zip_set hu] at this
 rw [rowsIt, List.length_set]
 exact this
theorem St.swapRows (h : St w0 w L) (i : Nat) {g n c : Nat} {us : List Value} {ll : List (List Int)} (hi : L[i]? = some (rowsIt (.slice (some ⟨g, 0, none⟩) n c) us ll)) (hul : us.length = ll.length) (hn : n = ll.length) {r a : Nat} (hr : r < ll.length) (ha : a < ll.length) {ur ua : Value} (h1 : us[r]? = some ur) (h2 : us[a]? = some ua) :
  St w0 ((w.setCell ⟨g, r, none⟩ ua).setCell ⟨g, a, none⟩ ur) (L.set i (rowsIt (.slice (some ⟨g, 0, none⟩) n c) ((us.set r ua).set a ur) (swapR ll r a))) := by
 have hil : i < L.length := (List.getElem?_eq_some_iff.1 hi).1
 subst hn
 have s1 := h.setCells i hi r ua
 have s2 := s1.setCells i (List.getElem?_set_self hil) a ur
 rw [List.set_set] at s2
 have hrz : r < (us.zip ll).length := by simp; omega
 have haz : a < (us.zip ll).length := by simp; omega
 have e1 : (us.zip ll)[r] = (ur, rowOf ll r) := by
  have := zip_get h1 (rowOf_get hr)
  rw [List.getElem?_eq_getElem hrz] at this
  simpa using this
 have e2 : (us.zip ll)[a] = (ua, rowOf ll a) := by
  have := zip_get h2 (rowOf_get ha)
  rw [List.getElem?_eq_getElem haz] at this
  simpa using this
 have s3 := s2.permSubs i (List.getElem?_set_self hil) (List.set_set_perm hrz haz)
 rw [List.set_set, e1, e2] at s3
 have e3 : ((us.zip ll).set r (ua, rowOf ll a)).set a (ur, rowOf ll r) = ((us.set r ua).set a ur).zip (swapR ll r a) := by
  rw [swapR]
  apply List.ext_getElem?
  intro j
  by_cases hj : j < ll.length
  ·have hu : us[j]? = some (us[j]'(by omega)) := List.getElem?_eq_getElem _
   have hl : ll[j]? = some (ll[j]) := List.getElem?_eq_getElem hj
   have hz := zip_get hu hl
   simp only [List.getElem?_set, List.length_set, List.length_zip]
   by_cases ea : a = j
   ·subst ea
    rw [if_pos rfl, if_pos (by omega)]
    symm
    rw [List.getElem?_zip_eq_some]
    exact ⟨by rw [List.getElem?_set_self (by simp; omega)], by rw [List.getElem?_set_self (by simp; omega)]⟩
   ·rw [if_neg ea]
    by_cases er : r = j
    ·subst er
     rw [if_pos rfl, if_pos (by omega)]
     symm
     rw [List.getElem?_zip_eq_some]
     refine ⟨?_, ?_⟩
     ·rw [List.getElem?_set, if_neg ea, List.getElem?_set_self (by omega)]
     ·rw [List.getElem?_set, if_neg ea, List.getElem?_set_self (by omega)]
    ·rw [if_neg er, hz]
     symm
     rw [List.getElem?_zip_eq_some]
     exact ⟨by rw [List.getElem?_set, if_neg ea, List.getElem?_set, if_neg er, hu], by rw [List.getElem?_set, if_neg ea, List.getElem?_set, if_neg er, hl]⟩
  ·rw [List.getElem?_eq_none (by simp; omega), List.getElem?_eq_none (by simp; omega)]
 rw [e3] at s3
 have e4 : ll.length = (swapR ll r a).length := (length_swapR ll r a).symm
 have e5 : rowsIt (.slice (some ⟨g, 0, none⟩) ll.length c) ((us.set r ua).set a ur) (swapR ll r a) = .vec (.slice (some ⟨g, 0, none⟩) ll.length c) 22 1 ll.length ((us.set r ua).set a ur) (((us.set r ua).set a ur).zip (swapR ll r a)) := by
  unfold rowsIt; rw [← e4]
 rw [e5]; exact s3
theorem addTo_rows (h : St w0 w L) (i : Nat) {v : Value} {us : List Value} {ll : List (List Int)} (hi : L[i]? = some (rowsIt v us ll)) (_hul : us.length = ll.length) {k a : Nat} {uk ua : Value} (hk : k < ll.length) (ha : a < ll.length) (hka : k ≠ a) (h1 : us[k]? = some uk) (h2 : us[a]? = some ua) (q p : Int)
  (hlen : (rowOf ll a).length = (rowOf ll k).length) (hln : (rowOf ll k).length ≤ 1099511627776) (hp : 2 ≤ p) (hp' : p ≤ 10007) (hq : 0 ≤ q) (hq' : q ≤ p) (hl : resid p (rowOf ll k) = true) (hy : resid p (rowOf ll a) = true) :
  Calls Tryz.prog 111 #[uk, .int .i64 q, ua, .int .i64 p] w fun e w' => e = .returned (.tuple #[]) ∧ St w0 w' (L.set i (rowsIt v us (ll.set k (addL (rowOf ll k) q (rowOf ll a) p)))) := by
 have z1 := zip_get h1 (rowOf_get hk)
 have z2 := zip_get h2 (rowOf_get ha)
 have ok : Own w w0.heap.size _ _ := h.sub i hi k z1
 have oa : Own w w0.heap.size _ _ := h.sub i hi a z2
 have hnd := h.vecNodup i hi
 unfold rowsIt at hnd
 rw [It.fp, List.nodup_append] at hnd
 refine (addTo_any uk ua _ _ q p w0.heap.size w ok oa.ints (fun _ g hg e => hka ?_) hlen hln hp hp' hq hq' hl hy).mono fun _ _ ⟨he, ho, hg⟩ => ⟨he, ?_⟩
 ·exact apart_of_nodup (b := g) hnd.2.1 z1 z2 (by simp [hg]) (by simp [e])
 ·have := h.wroteSub i hi k z1 ho hg
  rw [rows_zip_set h1] at this
  rw [rowsIt, List.length_set]
  exact this
end
end
section
open Go.RowKit
theorem spotI {r c i j N : Nat} (hi : i < r) (hj : j < c) (h : r * c ≤ N) : (i : Int) * c + j = ((i * c + j : Nat) : Int) ∧ 0 ≤ (i : Int) * c ∧ (i : Int) * c ≤ N ∧ i * c + j < r * c := by
 have hb := row_bd (c := c) hi
 have e1 : ((i * c : Nat) : Int) = (i : Int) * c := Int.natCast_mul _ _
 refine ⟨by simp, by omega, by omega, by omega⟩
theorem St.ownSomeA {w0 w : World} {L : List It} (h : St w0 w L) (i : Nat) {A : Option Addr} {n c : Nat} {l : List Int} (hi : L[i]? = some (.own (.slice A n c) l)) (hn : 0 < l.length) : ∃ g, A = some ⟨g, 0, none⟩ ∧ n = l.length := by
 rcases id (h.own i hi).2 with ⟨_, h0⟩ | ⟨g, cap, cur, hv, _⟩
 ·omega
 ·simp only [Value.slice.injEq] at hv
  exact ⟨g, hv.1, hv.2.1⟩
theorem St.ownCellA {w0 w : World} {L : List It} (h : St w0 w L) (i : Nat) {g n c : Nat} {l : List Int} (hi : L[i]? = some (.own (.slice (some ⟨g, 0, none⟩) n c) l)) {q : Nat} (hq : q < l.length) : w.cell? ⟨g, q, none⟩ = some (.int .i64 (Go.Proofs.YtbnefjhljfbecaaGreatDoor.vec l q)) ∧ w.frozen? ⟨g, q, none⟩ = false := by
 rcases id (h.own i hi).2 with ⟨_, h0⟩ | ⟨g', cap, cur, hv, _, hh, r⟩
 ·omega
 ·simp only [Value.slice.injEq, Option.some.injEq, Addr.mk.injEq] at hv
  obtain ⟨⟨rfl, _⟩, _, rfl⟩ := hv
  refine ⟨?_, frozen_of_row w g q _ _ hh⟩
  obtain ⟨A', c', e1, e2, e3, e4⟩ := h.ownInts i hi
  simp only [Value.slice.injEq] at e1
  obtain ⟨rfl, _, rfl⟩ := e1
  obtain ⟨b', off, e5, e6⟩ := e4 (by omega)
  simp only [Option.some.injEq, Addr.mk.injEq] at e5
  obtain ⟨rfl, rfl, _⟩ := e5
  have := e6 q _ (vec_get hq)
  rwa [Nat.zero_add] at this
theorem St.ownCell2 {w0 w : World} {L : List It} (h : St w0 w L) (i : Nat) {g n c : Nat} {l : List Int} (hi : L[i]? = some (.own (.slice (some ⟨g, 0, none⟩) n c) l)) {q : Nat} (hq : q < l.length) : w.cell? ⟨g, q, none⟩ = some (.int .i64 (Go.Proofs.YtbnefjhljfbecaaGreatDoor.vec l q)) ∧ w.frozen? ⟨g, q, none⟩ = false := h.ownCellA i hi hq
end
section
theorem fieldM1 (a b c : Int) (A : Option Addr) (n k : Nat) (W : World) : (Instr.field 32 (.agg #[.int .i64 a, .int .i64 b, .int .i64 c, .slice A n k]) 1).run Tryz.prog W = .ok (.int .i64 b) W := by kernel_rfl
theorem fieldM3 (a b c : Int) (A : Option Addr) (n k : Nat) (W : World) : (Instr.field 32 (.agg #[.int .i64 a, .int .i64 b, .int .i64 c, .slice A n k]) 3).run Tryz.prog W = .ok (.slice A n k) W := by kernel_rfl
end
end Go.Proofs.YtbnefjhljfbecaaGreatDoor
