/- Modules: their size; sums of matrices, each times its number. -/
import Derived.Test.YtechjmckfedblaaPlusI
namespace Go.Proofs.Ytechjmckfedblaa
set_option maxRecDepth 100000
open Go.RowKit

theorem l10Size_any (v : Value) (m : Mt) (ms : List Mt) (w : World) (h : MatsR w v (m :: ms)) : Calls Try.prog 62 #[v] w fun e w' => e = .returned (.int .i64 m.r) ∧ w = w' := by
  obtain ⟨A, c, rfl, hc, hc', _⟩ := id h
  obtain ⟨b, off, A9, c9, rfl, z0, z1, z2, z3, _⟩ := h.at (i := 0) (by simp)
  clear h
  simp only [List.getElem_cons_zero, Nat.zero_mul, Nat.add_zero] at z0 z1 z2 z3
  have i1 : (0 : Int) < ((m :: ms).length : Nat) := by simp
  go_enter Try.func62, Try.ntmps62
  go_wp2
  go_ret
  exact ⟨rfl, rfl⟩

/-- The sum of the first i matrices, each times its number, number by number. -/
def sumMTo (p : Int) (n : Nat) (K : List Int) (Ms : List (List Int)) : Nat → List Int
  | 0 => List.replicate n 0
  | i + 1 => if vec K i = 0 then sumMTo p n K Ms i else addL (sumMTo p n K Ms i) (vec K i) (rowOf Ms i) p
theorem sumMTo_ok {p : Int} (hp : 2 ≤ p) {n : Nat} {K : List Int} {Ms : List (List Int)} (hM : ∀ i, i < Ms.length → (rowOf Ms i).length = n) : ∀ i, i ≤ Ms.length → (sumMTo p n K Ms i).length = n ∧ resid p (sumMTo p n K Ms i) = true
  | 0, _ => ⟨by simp [sumMTo], resid_iff.2 fun j hj => by
      rw [sumMTo] at *
      have : vec (List.replicate n 0) j = 0 := by simp [vec, List.getD_eq_getElem?_getD, List.getElem?_replicate]; split <;> rfl
      rw [this]; omega⟩
  | i + 1, h => by
    obtain ⟨h1, h2⟩ := sumMTo_ok hp hM i (by omega)
    rw [sumMTo]
    split
    · exact ⟨h1, h2⟩
    · exact ⟨by rw [length_addL _ _ _ _ (by rw [hM i (by omega), h1])]; exact h1, resid_addL _ _ _ _ (by omega)⟩
/-- The reference scales first, then adds. -/
theorem addL_scale {p k : Int} (_hp : 0 < p) {D E : List Int} (h : E.length = D.length) : addL D 1 (scaleR p (k % p) E) p = addL D k E p := by
  refine list_ext (by rw [length_addL _ _ _ _ (by rw [length_scaleR]; exact h), length_addL _ _ _ _ h]) fun i hi => ?_
  rw [length_addL _ _ _ _ (by rw [length_scaleR]; exact h)] at hi
  rw [vec_addLq (by rw [length_scaleR]; exact h) hi, vec_addLq h hi, vec_scaleR (by omega), Int.one_mul]
  rw [Int.add_emod, Int.emod_emod_of_dvd _ (Int.dvd_refl p), Int.mul_emod, Int.emod_emod_of_dvd _ (Int.dvd_refl p), ← Int.mul_emod, ← Int.add_emod, Int.mul_comm]
end Go.Proofs.Ytechjmckfedblaa
