/- l2Adjoint of the reference, AdjointModule of both. -/
import Derived.Test.YtechjmckfedblaaAdj
import Derived.Test.YtechjmckfedblaaL1Rows
import Derived.Test.YtechjmckfedblaaBrOf
import Derived.Deep.RegionHeld3
namespace Go.Proofs.Ytechjmckfedblaa
set_option maxRecDepth 100000
open Go.RowKit

end Go.Proofs.Ytechjmckfedblaa
