/- The program's kernel: slices.Index, slices.Contains, kernel. -/
import Derived.Test.YtbnefjhljfbecaaLite
import Derived.Test.YtbnefjhljfbecaaKer
namespace Go.Proofs.Ytbnefjhljfbecaa
set_option maxRecDepth 100000
open Go.RowKit

theorem neg_wrap {x : Int} (h1 : -1000000 ≤ x) (h2 : x ≤ 1000000) : IntKind.i64.wrap (-x) = -x := wrap_ok (by omega) (by omega)

end Go.Proofs.Ytbnefjhljfbecaa
