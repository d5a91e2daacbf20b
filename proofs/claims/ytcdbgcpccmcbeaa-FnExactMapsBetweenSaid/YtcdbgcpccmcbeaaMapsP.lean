/- MapsBetween, as plain lists: the equations. -/
import Derived.Test.YtcdbgcpccmcbeaaMeetP
namespace Go.Proofs.Ytcdbgcpccmcbeaa
set_option maxRecDepth 100000
open Go.RowKit

/-- One equation: the places of the first matrix, the first k of them. -/
def mbA (s t : Nat) (M : List Int) (r c k : Nat) : List Int := tab (s * t) fun q => if q % t = c ∧ q / t < k then vec M (r * s + q / t) else 0
/-- Less the places of the second matrix. -/
def mbB (p : Int) (s t : Nat) (M N : List Int) (r c k : Nat) : List Int := tab (s * t) fun q => if q / t = r ∧ q % t < k then (vec (mbA s t M r c s) q - vec N (q % t * t + c)) % p else vec (mbA s t M r c s) q
theorem length_mbA (s t : Nat) (M : List Int) (r c k : Nat) : (mbA s t M r c k).length = s * t := length_tab _ _
theorem length_mbB (p : Int) (s t : Nat) (M N : List Int) (r c k : Nat) : (mbB p s t M N r c k).length = s * t := length_tab _ _
theorem mbA_zero (s t : Nat) (M : List Int) (r c : Nat) : mbA s t M r c 0 = List.replicate (s * t) 0 :=
  list_ext (by simp [length_mbA]) fun q hq => by
    rw [length_mbA] at hq
    rw [mbA, vec_tab hq, if_neg (fun h => absurd h.2 (Nat.not_lt_zero _))]
    simp [vec, List.getD_eq_getElem?_getD, hq]
theorem split_at {t k c q : Nat} (hc : c < t) : q = k * t + c ↔ q / t = k ∧ q % t = c := by
  constructor
  · rintro rfl
    exact ⟨by rw [Nat.mul_comm, Nat.mul_add_div (by omega), Nat.div_eq_of_lt hc, Nat.add_zero], by rw [Nat.mul_comm, Nat.mul_add_mod, Nat.mod_eq_of_lt hc]⟩
  · rintro ⟨h1, h2⟩
    have := Nat.div_add_mod q t
    rw [h1, h2, Nat.mul_comm] at this
    exact this.symm
theorem mbA_set {p : Int} {s t : Nat} {M : List Int} (r : Nat) {c k : Nat} (hp : 2 ≤ p) (rM : resid p M = true) (hk : k < s) (hc : c < t) :
    (mbA s t M r c k).set (k * t + c) ((vec (mbA s t M r c k) (k * t + c) + vec M (r * s + k)) % p) = mbA s t M r c (k + 1) := by
  have hlt := spot_lt hk hc
  have hm := resid_vec' rM (by omega : 0 < p) (r * s + k)
  obtain ⟨e1, e2⟩ := (split_at (k := k) hc).1 rfl
  refine list_ext (by rw [List.length_set, length_mbA, length_mbA]) fun q hq => ?_
  rw [List.length_set, length_mbA] at hq
  rw [vec_set (by rw [length_mbA]; exact hlt)]
  by_cases e : q = k * t + c
  · rw [if_pos e, mbA, vec_tab hlt, e1, e2, if_neg (by omega), Int.zero_add, Int.emod_eq_of_lt hm.1 hm.2, e, mbA, vec_tab hlt, e1, e2, if_pos ⟨rfl, by omega⟩]
  · rw [if_neg e, mbA, vec_tab hq, mbA, vec_tab hq]
    have h1 : ¬ (q / t = k ∧ q % t = c) := fun h => e ((split_at hc).2 h)
    by_cases h2 : q % t = c ∧ q / t < k
    · rw [if_pos h2, if_pos ⟨h2.1, by omega⟩]
    · rw [if_neg h2, if_neg (fun h => h1 ⟨by have := h.2; have : ¬ q / t < k := fun h3 => h2 ⟨h.1, h3⟩; omega, h.1⟩)]
theorem mbB_zero (p : Int) (s t : Nat) (M N : List Int) (r c : Nat) : mbB p s t M N r c 0 = mbA s t M r c s :=
  list_ext (by rw [length_mbA, length_mbB]) fun q hq => by
    rw [length_mbB] at hq
    rw [mbB, vec_tab hq, if_neg (fun h => absurd h.2 (Nat.not_lt_zero _))]
theorem mbB_set {p : Int} {s t : Nat} {M N : List Int} {r c k : Nat} (hk : k < t) (hr : r < s) :
    (mbB p s t M N r c k).set (r * t + k) ((vec (mbB p s t M N r c k) (r * t + k) - vec N (k * t + c)) % p) = mbB p s t M N r c (k + 1) := by
  have hlt := spot_lt hr hk
  obtain ⟨e1, e2⟩ := (split_at (k := r) hk).1 rfl
  refine list_ext (by rw [List.length_set, length_mbB, length_mbB]) fun q hq => ?_
  rw [List.length_set, length_mbB] at hq
  rw [vec_set (by rw [length_mbB]; exact hlt)]
  by_cases e : q = r * t + k
  · rw [if_pos e, mbB, vec_tab hlt, e1, e2, if_neg (by omega), e, mbB, vec_tab hlt, e1, e2, if_pos ⟨rfl, by omega⟩]
  · rw [if_neg e, mbB, vec_tab hq, mbB, vec_tab hq]
    have h1 : ¬ (q / t = r ∧ q % t = k) := fun h => e ((split_at hk).2 h)
    by_cases h2 : q / t = r ∧ q % t < k
    · rw [if_pos h2, if_pos ⟨h2.1, by omega⟩]
    · rw [if_neg h2, if_neg (fun h => h1 ⟨h.1, by have := h.2; have : ¬ q % t < k := fun h3 => h2 ⟨h.1, h3⟩; omega⟩)]
theorem resid_mbA {p : Int} (hp : 2 ≤ p) (s t : Nat) {M : List Int} (rM : resid p M = true) (r c k : Nat) : resid p (mbA s t M r c k) = true := resid_tab fun q _ => by
  by_cases h : q % t = c ∧ q / t < k
  · rw [if_pos h]; exact resid_vec' rM (by omega) _
  · rw [if_neg h]; omega
theorem resid_mbB {p : Int} (hp : 2 ≤ p) (s t : Nat) {M : List Int} (rM : resid p M = true) (N : List Int) (r c k : Nat) : resid p (mbB p s t M N r c k) = true := resid_tab fun q _ => by
  by_cases h : q / t = r ∧ q % t < k
  · rw [if_pos h]; exact ⟨Int.emod_nonneg _ (by omega), Int.emod_lt_of_pos _ (by omega)⟩
  · rw [if_neg h]; exact resid_vec' (resid_mbA hp s t rM r c s) (by omega) _
/-- The first k equations of one pair of matrices. -/
def mbR (p : Int) (s t : Nat) (M N : List Int) (k : Nat) : List (List Int) := (List.range k).map fun q => mbB p s t M N (q / t) (q % t) t
theorem mbR_zero (p : Int) (s t : Nat) (M N : List Int) : mbR p s t M N 0 = [] := rfl
theorem mbR_succ {p : Int} {s t : Nat} {M N : List Int} {r c : Nat} (hc : c < t) : mbR p s t M N (r * t + c + 1) = mbR p s t M N (r * t + c) ++ [mbB p s t M N r c t] := by
  obtain ⟨e1, e2⟩ := (split_at (k := r) hc).1 rfl
  rw [mbR, List.range_succ, List.map_append, List.map_singleton, e1, e2]; rfl
theorem length_mbR (p : Int) (s t : Nat) (M N : List Int) (k : Nat) : (mbR p s t M N k).length = k := by simp [mbR]
theorem Wf_mbR {p : Int} (hp : 2 ≤ p) (s t : Nat) {M : List Int} (rM : resid p M = true) (N : List Int) (k : Nat) : Wf p (s * t) (mbR p s t M N k) :=
  Wf_map fun _ _ => ⟨length_mbB _ _ _ _ _ _ _ _, resid_mbB hp s t rM N _ _ _⟩
/-- The equations of the first e pairs. -/
def mbE (p : Int) (s t : Nat) (Ms Ns : List (List Int)) : Nat → List (List Int)
  | 0 => []
  | e + 1 => mbE p s t Ms Ns e ++ mbR p s t (rowOf Ms e) (rowOf Ns e) (s * t)
theorem length_mbE (p : Int) (s t : Nat) (Ms Ns : List (List Int)) : ∀ e, (mbE p s t Ms Ns e).length = e * (s * t)
  | 0 => by simp [mbE]
  | e + 1 => by rw [mbE, List.length_append, length_mbE, length_mbR, Nat.add_mul]; omega
theorem Wf_mbE {p : Int} (hp : 2 ≤ p) (s t : Nat) {Ms : List (List Int)} (Ns : List (List Int)) : ∀ e, (∀ i, i < e → resid p (rowOf Ms i) = true) → Wf p (s * t) (mbE p s t Ms Ns e)
  | 0, _ => fun i hi => absurd hi (Nat.not_lt_zero _)
  | e + 1, h => (Wf_mbE hp s t Ns e fun i hi => h i (by omega)).app (Wf_mbR hp s t (h e (by omega)) _ _)
/-- What MapsBetween answers. -/
def mbK (p : Int) (s t : Nat) (Ms Ns : List (List Int)) (e : Nat) : List (List Int) := kerL p (s * t) (mbE p s t Ms Ns e)
theorem ker_span {p : Int} (hP : isPrime p = true) {n : Nat} {R : List (List Int)} (hR : Wf p n R) : kerL p n (spanL p n R) = kerL p n R :=
  kerL_eq hP (hR.spanL hP) hR fun _ => Kr_span hP hR
theorem spanL_span_app {p : Int} (hP : isPrime p = true) {n : Nat} {R S : List (List Int)} (h1 : Wf p n R) (h2 : Wf p n S) : spanL p n (spanL p n R ++ S) = spanL p n (R ++ S) :=
  (spanL_eq hP ((h1.spanL hP).app h2) (h1.app h2) (sub_app (fun i hi => sp_app_left (spanL_in hP h1 i hi)) (fun i hi => sp_app_right (.row i hi)))
    (sub_app (fun i hi => sp_app_left (spanL_out hP h1 i hi)) (fun i hi => sp_app_right (.row i hi)))).1
end Go.Proofs.Ytcdbgcpccmcbeaa
