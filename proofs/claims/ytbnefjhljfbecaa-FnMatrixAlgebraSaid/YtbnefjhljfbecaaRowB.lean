/- A slice of rows that borrows their numbers. -/
import Derived.Test.YtbnefjhljfbecaaStB
namespace Go.Proofs.Ytbnefjhljfbecaa
set_option maxRecDepth 100000
open Go.RowKit

def rbIt (v : Value) (us : List Value) : It := .vec v 26 1 us.length us []
theorem It.rb {B : Nat} {w : World} {v : Value} {us : List Value} {ll : List (List Int)} (h : (rbIt v us).ok B w) (hl : us.length = ll.length) (hr : ∀ (i : Nat) (u : Value) (l : List Int), us[i]? = some u → ll[i]? = some l → Ints w u l) : IntRows w v ll := by
  obtain ⟨h1, _⟩ := h
  rcases id h1.2 with ⟨rfl, h0⟩ | ⟨g, cap, cur, rfl, hb, hg, hn, hm, _⟩
  · obtain rfl : ll = [] := List.eq_nil_of_length_eq_zero (by rw [← hl]; exact h0)
    exact ⟨none, 0, rfl, by simp, by simp, fun h => by simp at h⟩
  · rw [hl] at hn ⊢
    refine ⟨_, cap, rfl, hn, by simpa [maxLen] using hm, fun _ => ⟨g, 0, rfl, fun i l hi => ?_⟩⟩
    have hil := (List.getElem?_eq_some_iff.1 hi).1
    have hu : us[i]? = some (us[i]'(by omega)) := List.getElem?_eq_getElem _
    refine ⟨_, by rw [Nat.zero_add]; exact (World.ownsRow.cellAt h1 i (by omega)).trans hu, hr i _ l hu hi⟩
theorem wp_append_rb {w0 w : World} {L : List It} {ops : Array Oper} {rest : List Oper} {o : Oper} {a : Act} {Q : Exit → Act → World → Prop} (hgd : o.guard = none) (s x : Operand)
    (ho : o.op = .call { callee := .builtin .append, args := #[s, x], argTypes := #[49, 49] }) {u v : Value} {us : List Value} (h : St w0 w L) (j : Nat) (hj : L[j]? = some (rbIt v us)) (hu : u.oneCell' = true)
    (hs : a.eval s = v) (hx : a.eval x = .slice (some ⟨w.heap.size, 0, none⟩) 1 1) (hlen : us.length + 1 ≤ 1099511627776)
    (hk : ∀ v' w', St w0 w' (L.set j (rbIt v' (us ++ [u]))) → wpList Try.prog ops Q rest (a.put o.dst v') w') : wpList Try.prog ops Q (o :: rest) a (w.alloc (.cells #[u] 26)) := by
  obtain ⟨i, h1, h2, h3, h4⟩ := info_parts infoR
  refine wp_append_vec hgd s x 49 26 1 24 i _ ho Try.underlying49 h1 h2 h3 h4 rfl (by decide) h j hj [u] rfl (by simpa using hu) hs hx (by simp only [maxLen]; omega) (by omega) fun v' w' hst => hk v' w' ?_
  have e : rbIt v' (us ++ [u]) = .vec v' 26 1 (us.length + 1) (us ++ [u]) [] := by
    unfold rbIt; simp
  rw [e]; exact hst
/-- What the values of a borrowing slice read as. -/
def RBor (w : World) (us : List Value) (ll : List (List Int)) : Prop := us.length = ll.length ∧ ∀ (i : Nat) (u : Value) (l : List Int), us[i]? = some u → ll[i]? = some l → Ints w u l
theorem RBor.nil (w : World) : RBor w [] [] := ⟨rfl, fun i u m h => by simp at h⟩
theorem RBor.snoc {w : World} {us : List Value} {ll : List (List Int)} (h : RBor w us ll) {u : Value} {l : List Int} (hu : Ints w u l) : RBor w (us ++ [u]) (ll ++ [l]) := by
  obtain ⟨hl, hr⟩ := h
  refine ⟨by simp [hl], fun i x y h1 h2 => ?_⟩
  rcases Nat.lt_trichotomy i us.length with e | e | e
  · rw [List.getElem?_append_left e] at h1
    rw [List.getElem?_append_left (by omega)] at h2
    exact hr i x y h1 h2
  · rw [List.getElem?_append_right (by omega), show i - us.length = 0 by omega] at h1
    rw [List.getElem?_append_right (by omega), show i - ll.length = 0 by omega] at h2
    simp only [List.getElem?_cons_zero, Option.some.injEq] at h1 h2
    subst h1; subst h2; exact hu
  · have := (List.getElem?_eq_some_iff.1 h1).1
    simp at this; omega
theorem RBor.rows {w0 w : World} {L : List It} {us : List Value} {ll : List (List Int)} (hb : RBor w0 us ll) (h : St w0 w L) (j : Nat) {v : Value} (hj : L[j]? = some (rbIt v us)) : IntRows w v ll :=
  It.rb (h.at j hj) hb.1 fun i u m h1 h2 => (hb.2 i u m h1 h2).below h.below
/-- One row of such a slice. -/
theorem RBor.get {w0 w : World} {L : List It} {us : List Value} {ll : List (List Int)} (hb : RBor w0 us ll) (h : St w0 w L) (j : Nat) {A : Option Addr} {n c : Nat} (hj : L[j]? = some (rbIt (.slice A n c) us)) {i : Nat} (hi : i < ll.length) :
    ∃ b A9 c9, A = some ⟨b, 0, none⟩ ∧ w.cell? ⟨b, i, none⟩ = some (.slice A9 ll[i].length c9) ∧ Ints w0 (.slice A9 ll[i].length c9) ll[i] := by
  obtain ⟨hl, hr⟩ := hb
  obtain ⟨h1, _⟩ := h.at j hj
  have hu : us[i]? = some (us[i]'(by omega)) := List.getElem?_eq_getElem _
  have hI := hr i _ ll[i] hu (List.getElem?_eq_getElem hi)
  obtain ⟨A9, c9, e, _⟩ := id hI
  rcases id h1.2 with ⟨e0, h0⟩ | ⟨g, cap, cur, e0, hb, hg, hn, hm, _⟩
  · omega
  · simp only [Value.slice.injEq] at e0
    obtain ⟨rfl, rfl, rfl⟩ := e0
    have hc : w.cell? ⟨g, i, none⟩ = us[i]? := World.ownsRow.cellAt h1 i (by omega)
    refine ⟨g, A9, c9, rfl, ?_, by rw [← e]; exact hI⟩
    rw [← e]
    exact hc.trans hu
theorem St.emptyRb {w0 w : World} {L : List It} (h : St w0 w L) : St w0 (w.alloc (.cells #[] 26)) (rbIt (.slice (some ⟨w.heap.size, 0, none⟩) 0 0) [] :: L) := h.emptyRows
end Go.Proofs.Ytbnefjhljfbecaa
