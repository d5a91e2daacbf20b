/- A slice of bytes, opened as an argument of a law. -/
import Derived.Test.YtbnefjhljfbecaaShellC
import Derived.Test.YtbnefjhljfbecaaDrwA
namespace Go.Proofs.Ytbnefjhljfbecaa
set_option maxRecDepth 100000
open Go.ChangeShapes Go.WideShapes Go.ChangeAt Go.RowKit Go.Joins

section
variable {H : Type} {enc : TypeId × Value → H}
theorem openByteT {base : Nat} {w : World} {spare : Nat → Bool} {held : Bool} {v : Value} {fuel : Nat} {x : DataW H × List MemPlace}
    (hf : DataW.trod enc Try.prog w base spare held fuel 5 [v] = some x) : ∃ n : Int, v = .int .u8 n ∧ (Lit.int .u8 n).wf = true := by
  obtain ⟨n, h, _, hw⟩ := DataW.trod_int Try.underlying5 hf
  simp only [List.cons.injEq, and_true] at h
  exact ⟨n, h, hw⟩
theorem openBytes {r : Reach} {b0 base : Nat} {w : World} {spare : Nat → Bool} {held : Bool} {v : Value} {d : DataW H} {ps : List MemPlace} (hv : Value.okWide Try.prog w r b0 22 v)
    (h : DataW.Trod enc Try.prog w base spare held 22 v d ps) : ∃ n : Nat, Dw.BytesR w v n := by
  obtain ⟨a0, len, cap, rfl⟩ := okWide_slice Try.underlying22 hv
  obtain ⟨fuel, hf⟩ := h
  rcases Go.Deep.open_slice Try.underlying22 hf with ⟨hcs, _⟩ | ⟨a, len', cap', m, n, D, Pl, hcs, _, hl, hm, hmm, _, hx⟩
  · simp only [Value.cells, List.cons.injEq, and_true, Value.slice.injEq] at hcs
    obtain ⟨rfl, rfl, rfl⟩ := hcs
    exact ⟨0, none, 0, rfl, by simp, by simp, fun h => by simp at h⟩
  · simp only [Value.cells, List.cons.injEq, and_true, Value.slice.injEq] at hcs
    obtain ⟨rfl, rfl, rfl⟩ := hcs
    have hlm : len ≤ m := by rw [hmm]; split <;> omega
    have c1 : Try.prog.cellsOf 5 = 1 := by kernel_rfl
    have each : ∀ i, i < len → ∃ x : Int, 0 ≤ x ∧ x ≤ 255 ∧ w.cell? (a.add i) = some (.int .u8 x) := by
      intro i hi
      obtain ⟨cs', h1, h2⟩ := hx i (by omega)
      rw [c1] at h1
      obtain ⟨_, hlen, hcell⟩ := World.cells?_some h1
      match cs', hlen with
      | [v0], _ =>
        obtain ⟨x, rfl, hw⟩ := openByteT h2
        have e0 := hcell 0 (by omega)
        rw [Go.Deep.add_add] at e0
        simp [Lit.wf, IntKind.min, IntKind.max, IntKind.signed, IntKind.bits] at hw
        exact ⟨x, by omega, by omega, by simpa using e0⟩
    refine ⟨len, some a, cap, rfl, by omega, by simpa [maxLen] using hm, fun hp => ?_⟩
    obtain ⟨x, -, -, h0⟩ := each 0 hp
    obtain ⟨b, off, sp⟩ := a
    obtain rfl : sp = none := by
      cases sp with
      | none => rfl
      | some s =>
        exfalso
        have e0 : (Addr.mk b off (some s)).add 0 = Addr.mk b off (some s) := by simp [Addr.add]
        rw [e0] at h0
        unfold World.cell? at h0
        split at h0
        · simp at h0
        · cases h0
    refine ⟨b, off, rfl, fun i hi => ?_⟩
    obtain ⟨x, x0, x1, hx⟩ := each i hi
    have ad : (Addr.mk b off none).add i = ⟨b, off + i, none⟩ := by by_cases h : i = 0 <;> simp [Addr.add, h]
    rw [ad] at hx
    exact ⟨x, x0, x1, hx⟩
end
end Go.Proofs.Ytbnefjhljfbecaa
