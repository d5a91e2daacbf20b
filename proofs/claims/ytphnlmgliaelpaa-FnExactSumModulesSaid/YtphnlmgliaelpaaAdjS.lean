/- l2Adjoint of the reference, AdjointModule of both. -/
import Derived.Test.YtphnlmgliaelpaaAdj
import Derived.Test.YtphnlmgliaelpaaL1Rows
import Derived.Test.YtphnlmgliaelpaaBrOf
import Derived.Deep.RegionHeld3
namespace Go.Proofs.Ytphnlmgliaelpaa
set_option maxRecDepth 100000
open Go.RowKit

end Go.Proofs.Ytphnlmgliaelpaa
