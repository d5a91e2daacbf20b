/- adjoint of the program, l2Adjoint and l1Rows of the reference, AdjointModule of both. -/
import Derived.Test.YtechjmckfedblaaMx
import Derived.Test.YtechjmckfedblaaLawMats
namespace Go.Proofs.Ytechjmckfedblaa
set_option maxRecDepth 100000
open Go.RowKit

/-- The rows of the map that brackets an element with each basis element. -/
def adRows (T U : List Int) (n : Nat) (p : Int) : List (List Int) := (List.range n).map fun j => braL T U (unitL n j) n p
theorem length_adRows (T U : List Int) (n : Nat) (p : Int) : (adRows T U n p).length = n := by simp [adRows]
theorem adRows_take (T U : List Int) (n : Nat) (p : Int) (i : Nat) (h : i < n) : (adRows T U n p).take (i + 1) = (adRows T U n p).take i ++ [braL T U (unitL n i) n p] := by
  rw [List.take_succ_eq_append_getElem (by rw [length_adRows]; exact h)]
  simp [adRows]
theorem total_adRows (T U : List Int) (n : Nat) (p : Int) : total (adRows T U n p) = n * n := by
  rw [total_const _ n (fun l hl => by
    obtain ⟨j, _, rfl⟩ := List.mem_map.1 hl
    exact length_braL _ _ _ _ _), length_adRows]
def adM (T U : List Int) (n : Nat) (p : Int) : List Int := (adRows T U n p).flatten
theorem length_adM (T U : List Int) (n : Nat) (p : Int) : (adM T U n p).length = n * n := by rw [adM, length_flatten', total_adRows]

end Go.Proofs.Ytechjmckfedblaa
