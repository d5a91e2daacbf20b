/- What functions leave that return matrices and a Bool; what the walks want of a module. -/
import Derived.Test.YtechjmckfedblaaMatOf
import Derived.Test.YtechjmckfedblaaZeroMod
namespace Go.Proofs.Ytechjmckfedblaa
set_option maxRecDepth 100000
open Go.RowKit

/-- What the walks want of a module. -/
theorem isMod_all {p n : Int} {T : List Int} {ms : List Mt} (h : isMod p n T ms = true) : ∃ (N s : Nat), n = N ∧ ms.length = N ∧ 0 < N ∧ (mAt ms 0).r = s ∧ s ≤ 30 ∧ algOk p N T = true ∧
    ∀ i, i < ms.length → (mAt ms i).p = p ∧ (mAt ms i).r = s ∧ (mAt ms i).c = s ∧ (mAt ms i).d.length = s * s ∧ resid p (mAt ms i).d = true := by
  obtain ⟨N, s, m0, l, rfl, rfl, hl, h1, h2, h3, h4⟩ := isMod_spec h
  refine ⟨N, s, rfl, hl, by simp at hl; omega, h1, h2, h3, fun i hi => ?_⟩
  rw [← mAt_get hi]
  exact h4 i hi
/-- What a function leaves that returns matrices and a Bool. -/
def RetMsB (w : World) (ms : List Mt) (b : Bool) (e : Ending) (w' : World) : Prop := ∃ v us, e = .returned (.tuple #[v, .bool b]) ∧ us.length = ms.length ∧ It.ok w.heap.size w' (matsIt v us ms) ∧ (matsIt v us ms).fp.Nodup ∧ Below w.heap.size w w'
theorem RetMsB.nil {w w' : World} (h : Below w.heap.size w w') : RetMsB w [] false (.returned (.tuple #[.slice none 0 0, .bool false])) w' := by
  obtain ⟨v, us, h1, h2, h3, h4, h5⟩ := RetMs.nil h
  simp only [Ending.returned.injEq] at h1
  subst h1
  exact ⟨_, us, rfl, h2, h3, h4, h5⟩
theorem size_mods {v : Value} {ms : List Mt} (hl : 0 < ms.length) {W : World} (h : MatsR W v ms) : Calls Try.prog 62 #[v] W fun e w' => e = .returned (.int .i64 (mAt ms 0).r) ∧ W = w' := by
  obtain ⟨m0, l, rfl⟩ : ∃ a l, ms = a :: l := by cases ms with | nil => simp at hl | cons a l => exact ⟨a, l, rfl⟩
  exact l10Size_any v m0 l W h
end Go.Proofs.Ytechjmckfedblaa
