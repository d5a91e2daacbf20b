/- For regions in which a variable's alloc floats between the calls (macro %FLT). -/
import Derived.Test.YtechjmckfedblaaRegX
namespace Go.Proofs.Ytechjmckfedblaa
set_option maxRecDepth 100000
open Go.RowKit

theorem St.toBack {w0 w : World} {x : It} {L : List It} (h : St w0 w (x :: L)) : St w0 w (L ++ [x]) := by
  refine h.re ((List.range L.length).map (· + 1) ++ [0]) ?_ ?_
  · refine List.nodup_append.2 ⟨?_, by simp, ?_⟩
    · exact List.Pairwise.map _ (fun a b h9 => by omega) List.nodup_range
    · intro a ha b hb
      simp only [List.mem_map, List.mem_range, List.mem_singleton] at ha hb
      omega
  · intro j
    by_cases hj : j < L.length
    · simp [List.getElem?_append, hj]
    · by_cases he : j = L.length
      · subst he
        simp
      · simp only [List.getElem?_append, List.length_map, List.length_range, if_neg hj]
        have h9 : ¬ j - L.length < 1 := by omega
        rw [List.getElem?_eq_none (by simpa using by omega), List.getElem?_eq_none (by simpa using by omega)]
        rfl
end Go.Proofs.Ytechjmckfedblaa
