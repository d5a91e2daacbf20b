/- Elements of spaces in the program: pivotsOf, reduceBy, IsSubspace. -/
import Derived.Test.YtbnefjhljfbecaaRedV
import Derived.Test.YtbnefjhljfbecaaCloA
namespace Go.Proofs.Ytbnefjhljfbecaa
set_option maxRecDepth 100000
open Go.RowKit

theorem idx_first (p : Int → Bool) : ∀ (l : List Int) (c : Nat) (i : Int), c < l.length → (∀ d, d < c → p (vec l d) = false) → p (vec l c) = true → idx p l i = i + c
  | [], c, i, h, _, _ => absurd h (Nat.not_lt_zero _)
  | x :: xs, 0, i, _, _, h => by
    have h' : p x = true := h
    rw [idx, if_pos h']; simp
  | x :: xs, c + 1, i, h, h0, h1 => by
    have h' : p x = false := h0 0 (by omega)
    rw [idx, if_neg (by simp [h']), idx_first p xs c (i + 1) (by simpa using h) (fun d hd => h0 (d + 1) (by omega)) h1]
    omega
theorem vec_pivI {piv : List Nat} {k : Nat} (h : k < piv.length) : vec (pivI piv) k = (pv piv k : Int) := by
  simp [vec, pivI, pv, List.getD_eq_getElem?_getD, h]
theorem take_piv {piv : List Nat} {k : Nat} (h : k < piv.length) : piv.take (k + 1) = piv.take k ++ [pv piv k] := by
  rw [List.take_succ_eq_append_getElem h]
  simp [pv, List.getD_eq_getElem?_getD, h]
theorem Rf.idx {p : Int} {n : Nat} {S : List (List Int)} {piv : List Nat} (h : Rf p n S piv) {i : Nat} (hi : i < piv.length) : Go.Proofs.Ytbnefjhljfbecaa.idx not0 (rowOf S i) 0 = (pv piv i : Int) := by
  have hl := (h.wf i (by rw [h.len]; exact hi)).1
  have := idx_first not0 (rowOf S i) (pv piv i) 0 (by rw [hl]; exact h.lt i hi) (fun d hd => by rw [h.lead i d hi hd]; rfl) (by rw [h.one i hi]; rfl)
  rw [this]; omega
theorem subB_drop {p : Int} {S : List (List Int)} {piv : List Nat} {R : List (List Int)} {i : Nat} (hi : i < R.length) : subB p S piv (R.drop i) = (zeroL (redV p S piv (rowOf R i)) && subB p S piv (R.drop (i + 1))) := by
  rw [List.drop_eq_getElem_cons hi, subB, List.all_cons, rowOf_eq hi]; rfl
theorem subB_end {p : Int} {S : List (List Int)} {piv : List Nat} {R : List (List Int)} : subB p S piv (R.drop R.length) = true := by
  rw [List.drop_length]; rfl

end Go.Proofs.Ytbnefjhljfbecaa
