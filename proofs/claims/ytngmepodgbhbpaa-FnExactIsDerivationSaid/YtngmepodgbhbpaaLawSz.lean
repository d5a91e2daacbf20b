/- The law's count of what is read. -/
import Derived.Test.YtngmepodgbhbpaaMem
namespace Go.Proofs.Ytngmepodgbhbpaa
set_option maxRecDepth 100000
open Go.RowKit

theorem szIntS_yes (left : Int) (t : Value) (l : List Int) (w : World) (ht : Ints w t l) (h : (l.length : Int) ≤ left) (hl : left ≤ 1048576) :
    Calls Try.prog 58 #[t, .int .i64 left] w fun e w' => e = .returned (.int .i64 (left - l.length)) ∧ w = w' := by
  obtain ⟨A, c, rfl, _, _, h3⟩ := ht
  clear h3
  have h0 : 0 ≤ left - l.length := by omega
  go_enter Try.func58, Try.ntmps58
  go_wp2
  go_ret
  exact ⟨rfl, rfl⟩
theorem szIntS_no (left : Int) (t : Value) (l : List Int) (w : World) (ht : Ints w t l) (h : left < (l.length : Int)) (hl : left ≤ 1048576) (h0 : 0 ≤ left) :
    Calls Try.prog 58 #[t, .int .i64 left] w fun e w' => e = .returned (.int .i64 (-1)) ∧ w = w' := by
  obtain ⟨A, c, rfl, h1, h2, h3⟩ := ht
  clear h3
  have h4 : left - l.length < 0 := by omega
  go_enter Try.func58, Try.ntmps58
  go_wp2
  go_ret
  exact ⟨rfl, rfl⟩

end Go.Proofs.Ytngmepodgbhbpaa
