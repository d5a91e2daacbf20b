/- The rank of independent rows, as plain lists. -/
import Derived.Test.YthiainhhaokjoaaGreatCo
namespace Go.Proofs.YthiainhhaokjoaaGreat
set_option maxRecDepth 100000
open Go.RowKit

theorem out_of_list {m : Nat} {l : List Nat} (h : l.length < m) : ∃ c, c < m ∧ c ∉ l := by
  refine Classical.byContradiction fun hn => ?_
  have h1 : ∀ x ∈ List.range m, x ∈ l := fun x hx => by
    refine Classical.byContradiction fun h2 => hn ⟨x, List.mem_range.1 hx, h2⟩
  have h2 := (perm_of_sub (List.range m) l List.nodup_range h1 (by rw [List.length_range]; omega)).length_eq
  rw [List.length_range] at h2
  omega
/-- Independent rows have as many pivots as rows. -/
theorem rank_of_ind {p : Int} (hP : isPrime p = true) {n : Nat} {S : List (List Int)} (hS : Wf p n S) (hI : Ind p n S) : (pivL p n S).length = S.length := by
  have hp := (isPrime_bd hP).1
  have hrf := spanL_rf hP hS
  have hle : (pivL p n S).length ≤ S.length := (reduceL_ok (by omega : 0 < p) hS).piv
  refine Classical.byContradiction fun hne => ?_
  obtain ⟨piv, hpiv⟩ : ∃ piv, piv = pivL p n S := ⟨_, rfl⟩
  obtain ⟨B, hB⟩ : ∃ B : List (List Int), B = (List.range piv.length).map (fun i => tab S.length fun j => vec (rowOf S j) (pv piv i)) := ⟨_, rfl⟩
  rw [← hpiv] at hrf hle hne
  have hBl : B.length = piv.length := by rw [hB]; simp
  have hBr : ∀ i, i < piv.length → rowOf B i = tab S.length fun j => vec (rowOf S j) (pv piv i) := fun i hi => by
    rw [hB]; simp [rowOf, List.getD_eq_getElem?_getD, hi]
  have hBw : Wf p S.length B := fun i hi => by
    rw [hBl] at hi
    rw [hBr i hi]
    refine ⟨length_tab _ _, resid_iff.2 fun j hj => ?_⟩
    rw [length_tab] at hj
    rw [vec_tab hj]
    exact resid_vec (hS j hj).2 (by rw [(hS j hj).1]; exact hrf.lt i hi)
  have hBrf := spanL_rf hP hBw
  have hBp : (pivL p S.length B).length ≤ B.length := (reduceL_ok (by omega : 0 < p) hBw).piv
  obtain ⟨c, hc, hcp⟩ := out_of_list (m := S.length) (l := pivL p S.length B) (by omega)
  have hk : Kr p S.length B (vec (kerV p S.length (spanL p S.length B) (pivL p S.length B) c)) := by
    rw [← Kr_span hP hBw, ← ker_iff hp hBrf]
    refine mem_rows ?_
    rw [kerTab, List.mem_map]
    exact ⟨c, mem_freeTo.2 ⟨hc, hcp⟩, rfl⟩
  have hf1 : vec (kerV p S.length (spanL p S.length B) (pivL p S.length B) c) c = 1 := by rw [vec_kerV_free hBrf hc hcp hc hcp, if_pos rfl]
  obtain ⟨f, hf⟩ : ∃ f, f = vec (kerV p S.length (spanL p S.length B) (pivL p S.length B) c) := ⟨_, rfl⟩
  rw [← hf] at hk hf1
  obtain ⟨u, hu⟩ := hI f (fun d hd => by
    -- each row by its numbers at the pivots
    obtain ⟨x, hx⟩ := sumTo_dvd (p := p) (n := S.length) (a := fun j => f j * vec (rowOf S j) d + (-1) * sumTo piv.length (fun i => f j * vec (rowOf S j) (pv piv i) * vec (rowOf (spanL p n S) i) d)) fun j hj => by
      obtain ⟨y, hy⟩ := hrf.coef (spanL_out hP hS j hj) d hd
      refine ⟨f j * y, ?_⟩
      have e : sumTo piv.length (fun i => f j * vec (rowOf S j) (pv piv i) * vec (rowOf (spanL p n S) i) d) = f j * sumTo piv.length (fun i => vec (rowOf S j) (pv piv i) * vec (rowOf (spanL p n S) i) d) := by
        rw [← sumTo_mul]; exact sumTo_congr fun i _ => by grind
      rw [e]; grind
    rw [sumTo_add, sumTo_mul, sumTo_comm] at hx
    obtain ⟨z, hz⟩ := sumTo_dvd (p := p) (n := piv.length) (a := fun i => sumTo S.length (fun j => f j * vec (rowOf S j) (pv piv i) * vec (rowOf (spanL p n S) i) d)) fun i hi => by
      obtain ⟨y, hy⟩ := hk i (by rw [hBl]; exact hi)
      refine ⟨y * vec (rowOf (spanL p n S) i) d, ?_⟩
      show sumTo S.length (fun j => f j * vec (rowOf S j) (pv piv i) * vec (rowOf (spanL p n S) i) d) = _
      rw [sumTo_mul_right S.length (vec (rowOf (spanL p n S) i) d) (fun j => f j * vec (rowOf S j) (pv piv i))]
      rw [sumTo_congr (g := fun j => vec (rowOf B i) j * f j) (fun j hj => by rw [hBr i hi, vec_tab hj]; exact Int.mul_comm _ _), hy]
      grind
    exact ⟨x + z, by grind⟩) c hc
  rw [hf1] at hu
  have h1 : p ∣ 1 := ⟨u, hu⟩
  have := Int.le_of_dvd (by omega) h1
  omega
end Go.Proofs.YthiainhhaokjoaaGreat
