/- Small functions that many others call: is a number inside bounds? -/
import Derived.Test.YtngmepodgbhbpaaMem
namespace Go.Proofs.Ytngmepodgbhbpaa
set_option maxRecDepth 100000
open Go.RowKit

def inR (n lo hi : Int) : Bool := decide (lo ≤ n) && decide (n ≤ hi)
theorem inR_true {n lo hi : Int} (h1 : lo ≤ n) (h2 : n ≤ hi) : inR n lo hi = true := by simp [inR, h1, h2]
theorem inR_false {n lo hi : Int} (h : ¬ (lo ≤ n ∧ n ≤ hi)) : inR n lo hi = false := by simp [inR]; omega
theorem l1In_any (n lo hi : Int) (w : World) :
    Calls Try.prog 66 #[.int .i64 n, .int .i64 lo, .int .i64 hi] w fun e w' => e = .returned (.bool (inR n lo hi)) ∧ w = w' := by
  by_cases h1 : lo ≤ n <;> by_cases h2 : n ≤ hi
  all_goals
    go_enter Try.func66, Try.ntmps66
    go_wp2
    go_ret
    exact ⟨by simp [inR, h1, h2], rfl⟩
theorem inside_any (n lo hi : Int) (w : World) :
    Calls Try.prog 68 #[.int .i64 n, .int .i64 lo, .int .i64 hi] w fun e w' => e = .returned (.bool (inR n lo hi)) ∧ w = w' := by
  by_cases h1 : lo ≤ n <;> by_cases h2 : n ≤ hi
  all_goals
    go_enter Try.func68, Try.ntmps68
    go_wp2
    go_ret
    exact ⟨by simp [inR, h1, h2], rfl⟩

end Go.Proofs.Ytngmepodgbhbpaa
