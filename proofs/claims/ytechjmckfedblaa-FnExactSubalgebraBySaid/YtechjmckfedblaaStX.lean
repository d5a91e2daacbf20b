/- Memory facts: a piece goes to the front. -/
import Derived.Test.YtechjmckfedblaaStB
import Derived.Test.YtechjmckfedblaaRegH
import Derived.Deep.DeepCutAuto
namespace Go.Proofs.Ytechjmckfedblaa
set_option maxRecDepth 100000
open Go.RowKit

theorem St.toFront {w0 w : World} {L : List It} (h : St w0 w L) (i : Nat) {x : It} (hi : L[i]? = some x) : St w0 w (x :: L.eraseIdx i) := by
  have key : ∀ (j : Nat) (z : It), (x :: L.eraseIdx i)[j]? = some z → L[if j = 0 then i else if j - 1 < i then j - 1 else j]? = some z := fun j z hz => by
    cases j with
    | zero => simpa [hi] using hz
    | succ j =>
      rw [List.getElem?_cons_succ, List.getElem?_eraseIdx] at hz
      simp only [Nat.add_sub_cancel, Nat.succ_ne_zero, if_false]
      split
      · rename_i e; rw [if_pos e] at hz; exact hz
      · rename_i e; rw [if_neg e] at hz; exact hz
  refine ⟨h.below, fun z hz => ?_, fun j k a b ha hb c h1 h2 => ?_, fun z hz => ?_⟩
  · obtain ⟨j, hj⟩ := List.getElem?_of_mem hz
    exact h.at _ (key j z hj)
  · have e := h.apart _ _ a b (key j a ha) (key k b hb) c h1 h2
    split at e <;> split at e <;> (try split at e) <;> (try split at e) <;> omega
  · obtain ⟨j, hj⟩ := List.getElem?_of_mem hz
    exact h.vecNodup _ (key j z hj)
theorem St.letter {w0 w : World} {L : List It} (h : St w0 w L) : ∃ L', L' = L ∧ St w0 w L' := ⟨L, rfl, h⟩
end Go.Proofs.Ytechjmckfedblaa
