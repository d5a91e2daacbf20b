/- Slices of slices of numbers, opened as arguments of a law. -/
import Derived.Test.YtcngijafnnmccaaGreatDoorShellC
import Derived.Test.YtcngijafnnmccaaGreatDoorMatO
namespace Go.Proofs.YtcngijafnnmccaaGreatDoor
set_option maxRecDepth 100000
open Go.ChangeShapes Go.WideShapes Go.ChangeAt Go.RowKit Go.Joins

section
variable {H : Type} {enc : TypeId × Value → H}
theorem openRows {r : Reach} {b0 base : Nat} {w : World} {spare : Nat → Bool} {held : Bool} {v : Value} {d : DataW H} {ps : List MemPlace} (hv : Value.okWide Tryz.prog w r b0 27 v)
    (h : DataW.Trod enc Tryz.prog w base spare held 27 v d ps) : ∃ ll : List (List Int), IntRows w v ll := by
  obtain ⟨a0, len, cap, rfl⟩ := okWide_slice Tryz.underlying27 hv
  obtain ⟨fuel, hf⟩ := h
  rcases Go.Deep.open_slice Tryz.underlying27 hf with ⟨hcs, _⟩ | ⟨a, len', cap', m, n, D, Pl, hcs, _, hl, hm, hmm, _, hx⟩
  · simp only [Value.cells, List.cons.injEq, and_true, Value.slice.injEq] at hcs
    obtain ⟨rfl, rfl, rfl⟩ := hcs
    exact ⟨[], ⟨none, 0, rfl, by simp, by simp, fun h => by simp at h⟩⟩
  · simp only [Value.cells, List.cons.injEq, and_true, Value.slice.injEq] at hcs
    obtain ⟨rfl, rfl, rfl⟩ := hcs
    have hlm : len ≤ m := by rw [hmm]; split <;> omega
    have c1 : Tryz.prog.cellsOf 22 = 1 := by kernel_rfl
    have each : ∀ i, i < len → ∃ q : List Int × Value, w.cell? (a.add i) = some q.2 ∧ Ints w q.2 q.1 := by
      intro i hi
      obtain ⟨cs', h1, h2⟩ := hx i (by omega)
      rw [c1] at h1
      obtain ⟨_, hlen, hcell⟩ := World.cells?_some h1
      match cs', hlen with
      | [v0], _ =>
        obtain ⟨l, k3, w3⟩ := openIntsT h2
        have e0 := hcell 0 (by omega)
        rw [Go.Deep.add_add] at e0
        exact ⟨(l, v0), by simpa using e0, k3⟩
    obtain ⟨q, hq⟩ := Go.Deep.choose_lt each
    have hlen : ((List.range len).map fun i => (q i).1).length = len := by simp
    refine ⟨(List.range len).map fun i => (q i).1, ⟨some a, cap, by rw [hlen], by omega, by simpa [maxLen] using hm, fun hp => ?_⟩⟩
    rw [hlen] at hp
    obtain ⟨b, off, sp⟩ := a
    have h0 := (hq 0 hp).1
    obtain rfl : sp = none := by
      cases sp with
      | none => rfl
      | some s =>
        exfalso
        have e0 : (Addr.mk b off (some s)).add 0 = Addr.mk b off (some s) := by simp [Addr.add]
        rw [e0] at h0
        unfold World.cell? at h0
        split at h0
        · simp at h0
        · cases h0
    refine ⟨b, off, rfl, fun i l hi => ?_⟩
    simp only [List.getElem?_map, Option.map_eq_some_iff] at hi
    obtain ⟨j, hj, rfl⟩ := hi
    obtain ⟨hjl, rfl⟩ : i < len ∧ i = j := by
      rw [List.getElem?_eq_some_iff] at hj
      obtain ⟨hj1, hj2⟩ := hj
      simp at hj1 hj2
      exact ⟨hj1, hj2⟩
    obtain ⟨f0, f1⟩ := hq i hjl
    have ad : (Addr.mk b off none).add i = ⟨b, off + i, none⟩ := by by_cases h : i = 0 <;> simp [Addr.add, h]
    rw [ad] at f0
    exact ⟨_, f0, f1⟩
end
end Go.Proofs.YtcngijafnnmccaaGreatDoor
