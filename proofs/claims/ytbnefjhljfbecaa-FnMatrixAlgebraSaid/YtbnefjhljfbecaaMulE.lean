/- Entries of a product of matrices, as plain lists. -/
import Derived.Test.YtbnefjhljfbecaaMul
import Derived.Test.YtbnefjhljfbecaaSol
namespace Go.Proofs.Ytbnefjhljfbecaa
set_option maxRecDepth 100000
open Go.RowKit

theorem vec_sumMTo {p : Int} {n : Nat} {K : List Int} {Ms : List (List Int)} (hp : 2 ≤ p) (hM : ∀ i, i < Ms.length → (rowOf Ms i).length = n) {j : Nat} (hj : j < n) : ∀ i, i ≤ Ms.length → ∃ u, vec (sumMTo p n K Ms i) j - sumTo i (fun t => vec K t * vec (rowOf Ms t) j) = p * u
  | 0, _ => ⟨0, by
      have : vec (List.replicate n 0) j = 0 := by simp [vec, List.getD_eq_getElem?_getD, List.getElem?_replicate]; split <;> rfl
      simp only [sumMTo, sumTo, this]; omega⟩
  | i + 1, hi => by
    obtain ⟨u, hu⟩ := vec_sumMTo (K := K) hp hM hj i (by omega)
    have hl := (sumMTo_ok (K := K) hp hM i (by omega)).1
    simp only [sumMTo, sumTo]
    split
    · rename_i h
      refine ⟨u, ?_⟩
      rw [h]
      omega
    · rw [vec_addLq (by rw [hM i (by omega), hl]) (by rw [hl]; exact hj)]
      obtain ⟨y, hy⟩ := emod_dvd (p := p) (a := vec (sumMTo p n K Ms i) j + vec K i * vec (rowOf Ms i) j)
      exact ⟨u - y, by grind⟩
theorem vec_mulD {p : Int} (hp : 2 ≤ p) {r m c : Nat} {D E : List Int} {i j : Nat} (hi : i < r) (hj : j < c) : ∃ u, vec (mulD p r m c D E) (i * c + j) - sumTo m (fun k => vec D (i * m + k) * vec E (k * c + j)) = p * u := by
  obtain ⟨u, hu⟩ := vec_sumMTo (p := p) (n := c) (K := rowM m D i) (Ms := rowsM m c E) hp (fun t ht => by rw [length_rowsM] at ht; rw [rowOf_rowsM ht]; exact length_rowM _ _ _) hj m (by rw [length_rowsM]; exact Nat.le_refl _)
  refine ⟨u, ?_⟩
  rw [mulD, vec_flat (by rw [length_mulRows]; exact hi) hj, rowOf_mulRows hi, if_pos hi, mulRow, ← hu]
  congr 1
  refine sumTo_congr fun k hk => ?_
  rw [rowOf_rowsM hk, rowM, rowM, vec_tab hk, vec_tab hj]
theorem div_mod_at {n i j : Nat} (hj : j < n) : (i * n + j) / n = i ∧ (i * n + j) % n = j := by
  have h0 : 0 < n := by omega
  constructor
  · rw [Nat.mul_comm, Nat.mul_add_div h0, Nat.div_eq_of_lt hj, Nat.add_zero]
  · rw [Nat.mul_comm, Nat.mul_add_mod, Nat.mod_eq_of_lt hj]
end Go.Proofs.Ytbnefjhljfbecaa
