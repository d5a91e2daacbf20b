/- What many walks need: conversions, places in a table, cells of read and owned slices, comparisons and searches of slices of numbers. -/
import Derived.Test.YtbnefjhljfbecaaStB
import Derived.Test.YtbnefjhljfbecaaLawB
import Derived.Test.YtbnefjhljfbecaaSmall0
import Derived.Test.YtbnefjhljfbecaaRegX
namespace Go.Proofs.Ytbnefjhljfbecaa
set_option maxRecDepth 100000
open Go.RowKit

theorem wrap_ok {x : Int} (h0 : -9223372036854775808 ≤ x) (h1 : x ≤ 9223372036854775807) : IntKind.i64.wrap x = x := by rw [IntKind.wrap_i64]; omega
theorem row_bd {r c i : Nat} (hi : i < r) : i * c + c ≤ r * c := by
  have := Nat.mul_le_mul_right c (show i + 1 ≤ r from hi)
  rw [Nat.add_mul] at this; omega
theorem row_int {r c i N : Nat} (hi : i < r) (h : r * c ≤ N) : 0 ≤ (i : Int) * c ∧ (i : Int) * c ≤ N ∧ 0 ≤ ((i : Int) + 1) * c ∧ ((i : Int) + 1) * c ≤ N := by
  have hb := row_bd (c := c) hi
  have e1 : ((i * c : Nat) : Int) = (i : Int) * c := Int.natCast_mul _ _
  have e2 : ((i : Int) + 1) * c = (i : Int) * c + c := by rw [Int.add_mul, Int.one_mul]
  omega
theorem St.ownSome {w0 w : World} {L : List It} (h : St w0 w L) (i : Nat) {A : Option Addr} {n c : Nat} {l : List Int} (hi : L[i]? = some (.own (.slice A n c) l)) (hn : 0 < l.length) : ∃ g, A = some ⟨g, 0, none⟩ ∧ n = l.length := by
  rcases id (h.own i hi).2 with ⟨_, h0⟩ | ⟨g, cap, cur, hv, _⟩
  · omega
  · simp only [Value.slice.injEq] at hv
    exact ⟨g, hv.1, hv.2.1⟩
theorem St.ownCell {w0 w : World} {L : List It} (h : St w0 w L) (i : Nat) {g n c : Nat} {l : List Int} (hi : L[i]? = some (.own (.slice (some ⟨g, 0, none⟩) n c) l)) {q : Nat} (hq : q < l.length) : w.cell? ⟨g, q, none⟩ = some (.int .i64 (Go.Proofs.Ytbnefjhljfbecaa.vec l q)) ∧ w.frozen? ⟨g, q, none⟩ = false := by
  rcases id (h.own i hi).2 with ⟨_, h0⟩ | ⟨g', cap, cur, hv, _, hh, r⟩
  · omega
  · simp only [Value.slice.injEq, Option.some.injEq, Addr.mk.injEq] at hv
    obtain ⟨⟨rfl, _⟩, _, rfl⟩ := hv
    refine ⟨?_, frozen_of_row w g q _ _ hh⟩
    obtain ⟨A', c', e1, e2, e3, e4⟩ := h.ownInts i hi
    simp only [Value.slice.injEq] at e1
    obtain ⟨rfl, _, rfl⟩ := e1
    obtain ⟨b', off, e5, e6⟩ := e4 (by omega)
    simp only [Option.some.injEq, Addr.mk.injEq] at e5
    obtain ⟨rfl, rfl, _⟩ := e5
    have := e6 q _ (vec_get hq)
    rwa [Nat.zero_add] at this
theorem St.roCell {w0 w : World} {L : List It} (h : St w0 w L) (i : Nat) {b off n c : Nat} {l : List Int} (hi : L[i]? = some (.ro (.slice (some ⟨b, off, none⟩) n c) l)) {q : Nat} (hq : q < l.length) : w.cell? ⟨b, off + q, none⟩ = some (.int .i64 (Go.Proofs.Ytbnefjhljfbecaa.vec l q)) := by
  obtain ⟨A', c', e1, _, _, e4⟩ := h.roInts i hi
  simp only [Value.slice.injEq] at e1
  obtain ⟨rfl, _, rfl⟩ := e1
  obtain ⟨b', off', e5, e6⟩ := e4 (by omega)
  simp only [Option.some.injEq, Addr.mk.injEq] at e5
  obtain ⟨rfl, rfl, _⟩ := e5
  exact e6 q _ (vec_get hq)
theorem St.swap2 {w0 w : World} {x y : It} {L : List It} (h : St w0 w (x :: y :: L)) : St w0 w (y :: x :: L) := by
  have key : ∀ (i : Nat) (z : It), (y :: x :: L)[i]? = some z → ∃ k, (x :: y :: L)[k]? = some z ∧ (i = 0 ∧ k = 1 ∨ i = 1 ∧ k = 0 ∨ 2 ≤ i ∧ k = i) := fun i z hz => by
    match i, hz with
    | 0, hz => exact ⟨1, hz, .inl ⟨rfl, rfl⟩⟩
    | 1, hz => exact ⟨0, hz, .inr (.inl ⟨rfl, rfl⟩)⟩
    | i + 2, hz => exact ⟨i + 2, hz, .inr (.inr ⟨by omega, rfl⟩)⟩
  refine ⟨h.below, fun z hz => h.ok z (by simp only [List.mem_cons] at hz ⊢; rcases hz with e | e | e <;> simp [e]), fun i j a b ha hb c h1 h2 => ?_, fun z hz => h.nodup z (by simp only [List.mem_cons] at hz ⊢; rcases hz with e | e | e <;> simp [e])⟩
  obtain ⟨k, hk, ek⟩ := key i a ha
  obtain ⟨l, hl, el⟩ := key j b hb
  have := h.apart k l a b hk hl c h1 h2
  omega
section
variable {w0 w : World} {L : List It}
/-- A store into a slice of the call's own. -/
theorem St.setVec (h : St w0 w L) (i : Nat) {g c e sz n : Nat} {cs : List Value} {subs : List (Value × List Int)} (hi : L[i]? = some (.vec (.slice (some ⟨g, 0, none⟩) n c) e sz n cs subs)) (k : Nat) (x : Value) :
    St w0 (w.setCell ⟨g, k, none⟩ x) (L.set i (.vec (.slice (some ⟨g, 0, none⟩) n c) e sz n (cs.set k x) subs)) := by
  obtain ⟨h1, h2⟩ := World.ownsRow.stored (h.vec i hi).1 k x
  exact h.updVec i hi (by simpa [Value.ownBlock] using h2) (fun b hb => .inl hb) h1
end
end Go.Proofs.Ytbnefjhljfbecaa
