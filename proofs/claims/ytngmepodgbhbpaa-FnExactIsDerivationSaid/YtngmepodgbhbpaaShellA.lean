/- Structs of numbers and a slice of numbers, opened as arguments of a law: an algebra. -/
import Derived.Test.YtngmepodgbhbpaaShell
namespace Go.Proofs.Ytngmepodgbhbpaa
set_option maxRecDepth 100000
open Go.ChangeShapes Go.WideShapes Go.ChangeAt Go.RowKit Go.Joins

section
variable {H : Type} {enc : TypeId × Value → H}
theorem openIntsT {base : Nat} {w : World} {spare : Nat → Bool} {held : Bool} {v : Value} {fuel : Nat} {x : DataW H × List MemPlace}
    (hf : DataW.trod enc Try.prog w base spare held fuel 22 [v] = some x) : ∃ l : List Int, Ints w v l ∧ ∀ x ∈ l, (Lit.int .i64 x).wf = true := by
  rcases open_ints Try.underlying22 Try.underlying3 cellsI hf with ⟨hcs, hx⟩ | ⟨a, len', cap', zs, hcs, _, hl, hm, hz, hx, hcell, hwz⟩
  · simp only [List.cons.injEq, and_true] at hcs
    subst hcs
    exact ⟨[], ⟨none, 0, rfl, by simp, by simp, fun h => by simp at h⟩, by simp⟩
  · simp only [List.cons.injEq, and_true] at hcs
    subst hcs
    have hlz : len' ≤ zs.length := by rw [hz]; split <;> omega
    have hll : (zs.take len').length = len' := by simp; omega
    refine ⟨zs.take len', ⟨some a, cap', by rw [hll], by omega, by simpa [maxLen] using hm, fun hp => ?_⟩, fun x hx => hwz x (List.mem_of_mem_take hx)⟩
    have h0 := hcell 0 (by omega)
    obtain ⟨b, off, sp⟩ := a
    obtain rfl : sp = none := by
      cases sp with
      | none => rfl
      | some s =>
        exfalso
        have e0 : (Addr.mk b off (some s)).add 0 = Addr.mk b off (some s) := by simp [Addr.add]
        rw [e0] at h0
        unfold World.cell? at h0
        split at h0
        · simp at h0
        · cases h0
    refine ⟨b, off, rfl, fun i x hx => ?_⟩
    rw [List.getElem?_take] at hx
    split at hx
    · have := hcell i (by omega)
      have e1 : (Addr.mk b off none).add i = ⟨b, off + i, none⟩ := by by_cases h : i = 0 <;> simp [Addr.add, h]
      rw [e1] at this
      rw [this, List.getD_eq_getElem?_getD, hx]
      rfl
    · cases hx
theorem openIntT {base : Nat} {w : World} {spare : Nat → Bool} {held : Bool} {v : Value} {fuel : Nat} {x : DataW H × List MemPlace}
    (hf : DataW.trod enc Try.prog w base spare held fuel 3 [v] = some x) : ∃ n : Int, v = .int .i64 n ∧ (Lit.int .i64 n).wf = true := by
  obtain ⟨n, h, _, hw⟩ := DataW.trod_int Try.underlying3 hf
  simp only [List.cons.injEq, and_true] at h
  exact ⟨n, h, hw⟩
theorem openAlgebra {r : Reach} {b0 base : Nat} {w : World} {spare : Nat → Bool} {held : Bool} {v : Value} {d : DataW H} {ps : List MemPlace} (hv : Value.okWide Try.prog w r b0 24 v)
    (h : DataW.Trod enc Try.prog w base spare held 24 v d ps) :
    ∃ (a b : Int) (u : Value) (l : List Int), v = .agg #[.int .i64 a, .int .i64 b, u] ∧ Ints w u l ∧ (Lit.int .i64 a).wf = true ∧ (Lit.int .i64 b).wf = true ∧ ∀ x ∈ l, (Lit.int .i64 x).wf = true := by
  obtain ⟨v0, v1, v2, y0, y1, y2, n, rfl, _, _, h0, h1, h2⟩ := open_agg3 Try.underlying24 (by kernel_rfl) (by kernel_rfl) hv h
  obtain ⟨a, rfl, wa⟩ := openIntT h0
  obtain ⟨b, rfl, wb⟩ := openIntT h1
  obtain ⟨l, k, wl⟩ := openIntsT h2
  exact ⟨a, b, v2, l, rfl, k, wa, wb, wl⟩
end
end Go.Proofs.Ytngmepodgbhbpaa
