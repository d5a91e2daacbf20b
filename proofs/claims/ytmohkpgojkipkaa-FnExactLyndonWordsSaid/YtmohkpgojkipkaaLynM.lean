/- How many words a counter has still before it: the measure of lyndonWords' loop. -/
import Derived.Test.YtmohkpgojkipkaaLynP
namespace Go.Proofs.Ytmohkpgojkipkaa
set_option maxRecDepth 100000
open Go.RowKit
namespace Words

/-- The words from this one on. -/
def left (q : Nat) : List Nat → Nat
  | [] => 1
  | x :: xs => left q xs + (q - 1 - x) * q ^ xs.length
theorem left_tops (q m : Nat) : left q (List.replicate m (q - 1)) = 1 := by
  induction m with
  | zero => rfl
  | succ m ih =>
    rw [List.replicate_succ]
    show left q (List.replicate m (q - 1)) + (q - 1 - (q - 1)) * _ = 1
    rw [ih, Nat.sub_self, Nat.zero_mul]
theorem left_zeros (q : Nat) (hq : 0 < q) (m : Nat) : left q (List.replicate m 0) = q ^ m := by
  induction m with
  | zero => rfl
  | succ m ih =>
    rw [List.replicate_succ]
    show left q (List.replicate m 0) + (q - 1 - 0) * q ^ (List.replicate m 0).length = _
    rw [ih, List.length_replicate, Nat.pow_succ, Nat.sub_zero]
    obtain ⟨r, rfl⟩ : ∃ r, q = r + 1 := ⟨q - 1, by omega⟩
    rw [Nat.add_sub_cancel, Nat.mul_succ, Nat.mul_comm r, Nat.add_comm]
theorem left_step (q : Nat) (hq : 0 < q) (x j : Nat) (hx : x + 1 < q) : ∀ u : List Nat, left q (u ++ x :: List.replicate j (q - 1)) = left q (u ++ (x + 1) :: List.replicate j 0) + 1 := by
  intro u
  induction u with
  | nil =>
    show left q (List.replicate j (q - 1)) + (q - 1 - x) * q ^ (List.replicate j (q - 1)).length = left q (List.replicate j 0) + (q - 1 - (x + 1)) * q ^ (List.replicate j 0).length + 1
    rw [left_tops, left_zeros q hq, List.length_replicate, List.length_replicate, show q - 1 - x = (q - 1 - (x + 1)) + 1 from by omega, Nat.add_mul, Nat.one_mul]
    omega
  | cons y u ih =>
    show left q (u ++ x :: List.replicate j (q - 1)) + (q - 1 - y) * q ^ (u ++ x :: List.replicate j (q - 1)).length = left q (u ++ (x + 1) :: List.replicate j 0) + (q - 1 - y) * q ^ (u ++ (x + 1) :: List.replicate j 0).length + 1
    have e : (u ++ x :: List.replicate j (q - 1)).length = (u ++ (x + 1) :: List.replicate j 0).length := by simp
    rw [ih, e]
    omega

end Words
end Go.Proofs.Ytmohkpgojkipkaa
