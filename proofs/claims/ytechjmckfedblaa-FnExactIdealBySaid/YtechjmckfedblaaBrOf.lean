/- BracketOf of the program and of the reference. -/
import Derived.Test.YtechjmckfedblaaAlgP
import Derived.Test.YtechjmckfedblaaStB
namespace Go.Proofs.Ytechjmckfedblaa
set_option maxRecDepth 100000
open Go.RowKit

theorem vecOk_spec {p n : Int} {X : List Int} (h : vecOk p n X = true) : (X.length : Int) = n ∧ resid p X = true := by
  simpa [vecOk] using h

/-- The bracket of two elements; nothing if one of them is none. -/
def brOf (p n : Int) (T X Y : List Int) : List Int := if algOk p n T && (vecOk p n X && vecOk p n Y) then braL T X Y n.toNat p else []
theorem brOf_no {p n : Int} {T X Y : List Int} (h : (algOk p n T && (vecOk p n X && vecOk p n Y)) = false) : brOf p n T X Y = [] := by simp [brOf, h]

theorem wf_le {x : Int} (h : (Lit.int .i64 x).wf = true) : x ≤ 9223372036854775807 := by
  simp [Lit.wf, IntKind.min, IntKind.max, IntKind.signed, IntKind.bits] at h; omega
theorem length_brOf (p n : Int) (T X Y : List Int) : (brOf p n T X Y).length ≤ 28 := by
  unfold brOf
  split
  · rename_i h
    simp only [Bool.and_eq_true] at h
    obtain ⟨m, rfl, hm, _⟩ := algOk_spec h.1
    rw [length_braL]; simpa using hm
  · simp

end Go.Proofs.Ytechjmckfedblaa
