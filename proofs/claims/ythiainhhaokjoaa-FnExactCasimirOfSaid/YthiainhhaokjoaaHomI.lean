/- IsHomomorphism of the program. -/
import Derived.Test.YthiainhhaokjoaaHom
import Derived.Deep.DeepCutAuto
import Derived.Test.YthiainhhaokjoaaRegX
import Derived.Test.YthiainhhaokjoaaArith
namespace Go.Proofs.Ythiainhhaokjoaa
set_option maxRecDepth 100000
open Go.RowKit

end Go.Proofs.Ythiainhhaokjoaa
