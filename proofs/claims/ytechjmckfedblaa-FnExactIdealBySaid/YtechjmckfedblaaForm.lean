/- isForm of the program, l3Form and l2Maps of the reference. -/
import Derived.Test.YtechjmckfedblaaMatOk
namespace Go.Proofs.Ytechjmckfedblaa
set_option maxRecDepth 100000
open Go.RowKit

end Go.Proofs.Ytechjmckfedblaa
