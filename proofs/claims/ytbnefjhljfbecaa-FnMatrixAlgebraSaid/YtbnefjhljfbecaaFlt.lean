/- For regions in which a variable's alloc floats between the calls (macro %FLT). -/
import Derived.Test.YtbnefjhljfbecaaRegX
namespace Go.Proofs.Ytbnefjhljfbecaa
set_option maxRecDepth 100000
open Go.RowKit

theorem St.toBack {w0 w : World} {x : It} {L : List It} (h : St w0 w (x :: L)) : St w0 w (L ++ [x]) := by
  refine h.re ((List.range L.length).map (· + 1) ++ [0]) ?_ ?_
  · refine List.nodup_append.2 ⟨?_, by simp, ?_⟩
    · exact List.Pairwise.map _ (fun a b h9 => by omega) List.nodup_range
    · intro a ha b hb
      simp only [List.mem_map, List.mem_range, List.mem_singleton] at ha hb
      omega
  · intro j
    by_cases hj : j < L.length
    · simp [List.getElem?_append, hj]
    · by_cases he : j = L.length
      · subst he
        simp
      · simp only [List.getElem?_append, List.length_map, List.length_range, if_neg hj]
        have h9 : ¬ j - L.length < 1 := by omega
        rw [List.getElem?_eq_none (by simpa using by omega), List.getElem?_eq_none (by simpa using by omega)]
        rfl
theorem St.rowsSlice {w0 w : World} {L : List It} (h : St w0 w L) (i : Nat) {v : Value} {us : List Value} {ll : List (List Int)} (hi : L[i]? = some (rowsIt v us ll)) (hl : us.length = ll.length) : ∃ A n c, v = .slice A n c := by
  obtain ⟨A, c, e, _⟩ := h.rowsR i hi hl
  exact ⟨A, _, c, e⟩
end Go.Proofs.Ytbnefjhljfbecaa
