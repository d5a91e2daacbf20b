/- A block's cells as a fact. -/
import Derived.Test.YtbnefjhljfbecaaRegX
namespace Go.Proofs.Ytbnefjhljfbecaa
set_option maxRecDepth 100000
open Go.RowKit

/-- A block's cells. -/
def AtL (w : World) (b : Nat) (vs : List Value) : Prop := ∀ j x, vs[j]? = some x → w.cell? ⟨b, j, none⟩ = some x
theorem AtL.keep {w w' : World} {b : Nat} {vs : List Value} (h : AtL w b vs) (hk : ∀ b, b < w.heap.size → w'.heap[b]? = w.heap[b]?) : AtL w' b vs := fun j x hx =>
  (World.cell?_of_block (hk _ (World.block_lt_of_cell? w _ (h j x hx)))).trans (h j x hx)
theorem AtL.fact {w : World} {b : Nat} {vs : List Value} (h : AtL w b vs) : It.ok w.heap.size w (.fact fun w' => AtL w' b vs) := fun _ hk => h.keep hk
theorem St.atL {w0 w : World} {L : List It} (h : St w0 w L) (i : Nat) {b : Nat} {vs : List Value} (hi : L[i]? = some (.box b vs)) : AtL w b vs := fun j _ hx => h.cell i hi j hx
theorem AtL.c1 {w : World} {b : Nat} {x : Value} (h : AtL w b [x]) : w.cell? ⟨b, 0, none⟩ = some x := h 0 _ rfl
theorem AtL.c3 {w : World} {b : Nat} {x y z : Value} (h : AtL w b [x, y, z]) : w.cell? ⟨b, 0, none⟩ = some x ∧ w.cell? ⟨b, 1, none⟩ = some y ∧ w.cell? ⟨b, 2, none⟩ = some z := ⟨h 0 _ rfl, h 1 _ rfl, h 2 _ rfl⟩
theorem AtL.c6 {w : World} {b : Nat} {x y z u v t : Value} (h : AtL w b [x, y, z, u, v, t]) : w.cell? ⟨b, 0, none⟩ = some x ∧ w.cell? ⟨b, 1, none⟩ = some y ∧ w.cell? ⟨b, 2, none⟩ = some z ∧ w.cell? ⟨b, 3, none⟩ = some u ∧ w.cell? ⟨b, 4, none⟩ = some v ∧ w.cell? ⟨b, 5, none⟩ = some t := ⟨h 0 _ rfl, h 1 _ rfl, h 2 _ rfl, h 3 _ rfl, h 4 _ rfl, h 5 _ rfl⟩

end Go.Proofs.Ytbnefjhljfbecaa
