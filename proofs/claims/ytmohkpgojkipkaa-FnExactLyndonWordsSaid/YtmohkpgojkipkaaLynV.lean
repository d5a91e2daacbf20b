/- Rows that St holds are rows of the call's own. -/
import Derived.Test.YtmohkpgojkipkaaSerS
import Derived.Test.YtmohkpgojkipkaaRows3
namespace Go.Proofs.Ytmohkpgojkipkaa
set_option maxRecDepth 100000
open Go.RowKit

theorem St.ownRows {w0 w : World} {L : List It} (h : St w0 w L) (i : Nat) {v : Value} {us : List Value} {ll : List (List Int)} (hi : L[i]? = some (rowsIt v us ll)) (hul : us.length = ll.length) : OwnRows w w0.heap.size w.heap.size v ll := by
  obtain ⟨h1, h2⟩ := h.vec i hi
  have hnd := h.vecNodup i hi
  have hz : ∀ (j : Nat) (u : Value) (l : List Int), us[j]? = some u → ll[j]? = some l → (us.zip ll)[j]? = some (u, l) := fun j u l a b => List.getElem?_zip_eq_some.2 ⟨a, b⟩
  refine ⟨us, h1, fun k hk => (World.ownsRow.lt h1 k hk).2, ⟨hul, fun j u l a b => (h2 (u, l) (List.mem_of_getElem? (hz j u l a b))).toIn, ?_⟩⟩
  intro j j' u u' k a b e1 e2
  have hj : j < ll.length := by rw [← hul]; exact (List.getElem?_eq_some_iff.1 a).1
  have hj' : j' < ll.length := by rw [← hul]; exact (List.getElem?_eq_some_iff.1 b).1
  have hn2 : ((us.zip ll).flatMap fun s : Value × List Int => s.1.ownBlock.toList).Nodup := (List.nodup_append.1 hnd).2.1
  exact apart_of_nodup hn2 (hz j u _ a (List.getElem?_eq_getElem hj)) (hz j' u' _ b (List.getElem?_eq_getElem hj')) (b := k) (by simp [e1]) (by simp [e2])

end Go.Proofs.Ytmohkpgojkipkaa
