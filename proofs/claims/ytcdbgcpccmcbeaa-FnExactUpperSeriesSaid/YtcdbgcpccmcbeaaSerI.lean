/- The program's series of an algebra. -/
import Derived.Test.YtcdbgcpccmcbeaaSerS
namespace Go.Proofs.Ytcdbgcpccmcbeaa
set_option maxRecDepth 100000
open Go.RowKit

/-- Three cells of a block. -/
def At3 (w : World) (b : Nat) (x y z : Value) : Prop := w.cell? ⟨b, 0, none⟩ = some x ∧ w.cell? ⟨b, 1, none⟩ = some y ∧ w.cell? ⟨b, 2, none⟩ = some z
def At4 (w : World) (b : Nat) (x y z u : Value) : Prop := w.cell? ⟨b, 0, none⟩ = some x ∧ w.cell? ⟨b, 1, none⟩ = some y ∧ w.cell? ⟨b, 2, none⟩ = some z ∧ w.cell? ⟨b, 3, none⟩ = some u
theorem cell_kept {w w' : World} (hk : ∀ b, b < w.heap.size → w'.heap[b]? = w.heap[b]?) {a : Addr} {x : Value} (h : w.cell? a = some x) : w'.cell? a = some x := (World.cell?_of_block (hk _ (World.block_lt_of_cell? w _ h))).trans h
theorem At3.fact {w : World} {b : Nat} {x y z : Value} (h : At3 w b x y z) : It.ok w.heap.size w (.fact fun w' => At3 w' b x y z) := fun _ hk => ⟨cell_kept hk h.1, cell_kept hk h.2.1, cell_kept hk h.2.2⟩
theorem At4.fact {w : World} {b : Nat} {x y z u : Value} (h : At4 w b x y z u) : It.ok w.heap.size w (.fact fun w' => At4 w' b x y z u) := fun _ hk => ⟨cell_kept hk h.1, cell_kept hk h.2.1, cell_kept hk h.2.2.1, cell_kept hk h.2.2.2⟩

/-- The cells of one matrix of a slice of the call's own. -/
theorem St.matAt {w0 w : World} {L : List It} (h : St w0 w L) (i : Nat) {g q c : Nat} {u : Value} {us : List Value} {ms : List Mt} {m : Mt} (hi : L[i]? = some (matsIt (.slice (some ⟨g, 0, none⟩) q c) us ms)) (hq : ms.length = q) (j : Nat) (hu : us[j]? = some u) (hm : ms[j]? = some m) :
    w.cell? ⟨g, j * 4, none⟩ = some (.int .i64 m.p) ∧ w.cell? ⟨g, j * 4 + 1, none⟩ = some (.int .i64 m.r) ∧ w.cell? ⟨g, j * 4 + 2, none⟩ = some (.int .i64 m.c) ∧ w.cell? ⟨g, j * 4 + 3, none⟩ = some u := by
  subst hq
  obtain ⟨k0, k1, k2, k3⟩ := matCells_get us ms j u m hu hm
  exact ⟨h.vecCell i hi _ k0, h.vecCell i hi _ k1, h.vecCell i hi _ k2, h.vecCell i hi _ k3⟩

end Go.Proofs.Ytcdbgcpccmcbeaa
