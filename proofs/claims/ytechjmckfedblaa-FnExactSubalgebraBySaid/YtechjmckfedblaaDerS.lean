/- l3Derives of the reference. -/
import Derived.Test.YtechjmckfedblaaImage
import Derived.Test.YtechjmckfedblaaForm
import Derived.Test.YtechjmckfedblaaAdjS
namespace Go.Proofs.Ytechjmckfedblaa
set_option maxRecDepth 100000
open Go.RowKit

def derAt (T : List Int) (n : Nat) (p : Int) (D : List Int) (i j : Nat) : Bool :=
  decide (combL (rowT T n i j) (rowsM n n D) n p = plusL p (braL T (rowM n D i) (unitL n j) n p) (braL T (unitL n i) (rowM n D j) n p))
def derOk (T : List Int) (n : Nat) (p : Int) (D : List Int) : Bool := allF (fun i => allF (derAt T n p D i) i 0) n 0
theorem allF_step {f : Nat → Bool} {m i : Nat} (h : i < m) : allF f (m - i) i = (f i && allF f (m - (i + 1)) (i + 1)) := by
  rw [show m - i = (m - (i + 1)) + 1 from by omega, allF]

end Go.Proofs.Ytechjmckfedblaa
