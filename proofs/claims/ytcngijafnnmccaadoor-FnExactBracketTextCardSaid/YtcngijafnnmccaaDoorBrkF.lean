/- FormatInt of both sides at a letter. -/
import Derived.Test.YtcngijafnnmccaaDoorBase
namespace Go.Proofs.YtcngijafnnmccaaDoor
set_option maxRecDepth 100000
open Go.RowKit
namespace Words

/-- A letter's digit. -/
def dig (x : Int) : ByteArray := ⟨#[UInt8.ofNat (48 + x.toNat)]⟩

set_option maxHeartbeats 1000000 in
theorem FormatIntI_any (x : Int) (hx : 0 ≤ x) (hx' : x ≤ 3) (w : World) :
    Calls Tryd.prog 35 #[.int .i64 x] w fun e w' => e = .returned (.string (dig x)) ∧ w = w' := by
  have h4 : x = 0 ∨ x = 1 ∨ x = 2 ∨ x = 3 := by omega
  rcases h4 with rfl | rfl | rfl | rfl
  all_goals
    go_enter Tryd.func35, Tryd.ntmps35
    go_wp2
    go_ret
    exact ⟨rfl, rfl⟩

end Words
end Go.Proofs.YtcngijafnnmccaaDoor
