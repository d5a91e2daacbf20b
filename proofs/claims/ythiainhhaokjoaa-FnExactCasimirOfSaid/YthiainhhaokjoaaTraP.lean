/- Entries of a product of matrices, the trace, the killing form, as plain lists. -/
import Derived.Test.YthiainhhaokjoaaMul
import Derived.Test.YthiainhhaokjoaaAdjMod
import Derived.Test.YthiainhhaokjoaaSol
namespace Go.Proofs.Ythiainhhaokjoaa
set_option maxRecDepth 100000
open Go.RowKit

theorem vec_sumMTo {p : Int} {n : Nat} {K : List Int} {Ms : List (List Int)} (hp : 2 ≤ p) (hM : ∀ i, i < Ms.length → (rowOf Ms i).length = n) {j : Nat} (hj : j < n) : ∀ i, i ≤ Ms.length → ∃ u, vec (sumMTo p n K Ms i) j - sumTo i (fun t => vec K t * vec (rowOf Ms t) j) = p * u
  | 0, _ => ⟨0, by
      have : vec (List.replicate n 0) j = 0 := by simp [vec, List.getD_eq_getElem?_getD, List.getElem?_replicate]; split <;> rfl
      simp only [sumMTo, sumTo, this]; omega⟩
  | i + 1, hi => by
    obtain ⟨u, hu⟩ := vec_sumMTo (K := K) hp hM hj i (by omega)
    have hl := (sumMTo_ok (K := K) hp hM i (by omega)).1
    simp only [sumMTo, sumTo]
    split
    · rename_i h
      refine ⟨u, ?_⟩
      rw [h]
      omega
    · rw [vec_addLq (by rw [hM i (by omega), hl]) (by rw [hl]; exact hj)]
      obtain ⟨y, hy⟩ := emod_dvd (p := p) (a := vec (sumMTo p n K Ms i) j + vec K i * vec (rowOf Ms i) j)
      exact ⟨u - y, by grind⟩
theorem vec_mulD {p : Int} (hp : 2 ≤ p) {r m c : Nat} {D E : List Int} {i j : Nat} (hi : i < r) (hj : j < c) : ∃ u, vec (mulD p r m c D E) (i * c + j) - sumTo m (fun k => vec D (i * m + k) * vec E (k * c + j)) = p * u := by
  obtain ⟨u, hu⟩ := vec_sumMTo (p := p) (n := c) (K := rowM m D i) (Ms := rowsM m c E) hp (fun t ht => by rw [length_rowsM] at ht; rw [rowOf_rowsM ht]; exact length_rowM _ _ _) hj m (by rw [length_rowsM]; exact Nat.le_refl _)
  refine ⟨u, ?_⟩
  rw [mulD, vec_flat (by rw [length_mulRows]; exact hi) hj, rowOf_mulRows hi, if_pos hi, mulRow, ← hu]
  congr 1
  refine sumTo_congr fun k hk => ?_
  rw [rowOf_rowsM hk, rowM, rowM, vec_tab hk, vec_tab hj]
/-- The trace. -/
def traD (p : Int) (n : Nat) (D : List Int) : Int := sumTo n (fun i => vec D (i * n + i)) % p
theorem traD_bd {p : Int} (hp : 2 ≤ p) (n : Nat) (D : List Int) : 0 ≤ traD p n D ∧ traD p n D < p := ⟨Int.emod_nonneg _ (by omega), Int.emod_lt_of_pos _ (by omega)⟩
theorem traD_mul {p : Int} (hp : 2 ≤ p) (n : Nat) (D E : List Int) : traD p n (mulD p n n n D E) = traD p n (mulD p n n n E D) := by
  have key : ∀ A B : List Int, ∃ u, sumTo n (fun i => vec (mulD p n n n A B) (i * n + i)) - sumTo n (fun i => sumTo n fun k => vec A (i * n + k) * vec B (k * n + i)) = p * u := fun A B => by
    obtain ⟨u, hu⟩ := sumTo_dvd (p := p) (n := n) (a := fun i => vec (mulD p n n n A B) (i * n + i) + (-1) * sumTo n fun k => vec A (i * n + k) * vec B (k * n + i)) fun i hi => by
      obtain ⟨y, hy⟩ := vec_mulD (p := p) hp (r := n) (m := n) (c := n) (D := A) (E := B) hi hi
      exact ⟨y, by show vec (mulD p n n n A B) (i * n + i) + (-1) * _ = _; rw [← hy]; omega⟩
    rw [sumTo_add, sumTo_mul] at hu
    exact ⟨u, by omega⟩
  obtain ⟨u, hu⟩ := key D E
  obtain ⟨v, hv⟩ := key E D
  have e : sumTo n (fun i => sumTo n fun k => vec D (i * n + k) * vec E (k * n + i)) = sumTo n (fun i => sumTo n fun k => vec E (i * n + k) * vec D (k * n + i)) := by
    rw [sumTo_comm]
    exact sumTo_congr fun i _ => sumTo_congr fun k _ => Int.mul_comm _ _
  rw [e] at hu
  have h : sumTo n (fun i => vec (mulD p n n n D E) (i * n + i)) = sumTo n (fun i => vec (mulD p n n n E D) (i * n + i)) + p * (u - v) := by grind
  rw [traD, traD, h, Int.add_mul_emod_self_left]
theorem div_mod_at {n i j : Nat} (hj : j < n) : (i * n + j) / n = i ∧ (i * n + j) % n = j := by
  have h0 : 0 < n := by omega
  constructor
  · rw [Nat.mul_comm, Nat.mul_add_div h0, Nat.div_eq_of_lt hj, Nat.add_zero]
  · rw [Nat.mul_comm, Nat.mul_add_mod, Nat.mod_eq_of_lt hj]
theorem at_eq {n q i j : Nat} (hj : j < n) : (q / n = i ∧ q % n = j) ↔ q = i * n + j := by
  constructor
  · rintro ⟨h1, h2⟩
    have := Nat.div_add_mod q n
    rw [h1, h2, Nat.mul_comm] at this
    omega
  · rintro rfl
    exact div_mod_at hj
theorem tab_ext {n : Nat} {f g : Nat → Int} (h : ∀ i, i < n → f i = g i) : tab n f = tab n g := list_ext (by rw [length_tab, length_tab]) fun i hi => by
  rw [length_tab] at hi
  rw [vec_tab hi, vec_tab hi, h i hi]
theorem tab_put {n : Nat} {f : Nat → Int} {k : Nat} (x : Int) (hk : k < n) : (tab n f).set k x = tab n fun i => if i = k then x else f i := by
  refine list_ext (by rw [List.length_set, length_tab, length_tab]) fun i hi => ?_
  rw [List.length_set, length_tab] at hi
  rw [vec_tab hi]
  by_cases e : i = k
  · subst e; rw [if_pos rfl]; simp [vec, List.getD_eq_getElem?_getD, length_tab, hi]
  · rw [if_neg e]
    simp [vec, List.getD_eq_getElem?_getD, show ¬ k = i from fun h => e h.symm, tab, hi]
/-- A table of r rows of c numbers while it is filled: i rows are done, and j numbers of the next one. -/
def filR (r c : Nat) (G : Nat → Nat → Int) (i j : Nat) : List Int := tab (r * c) fun q => if q / c < i ∨ q / c = i ∧ q % c < j then G (q / c) (q % c) else 0
def filD (r c : Nat) (G : Nat → Nat → Int) : List Int := tab (r * c) fun q => G (q / c) (q % c)
theorem length_filR (r c : Nat) (G : Nat → Nat → Int) (i j : Nat) : (filR r c G i j).length = r * c := length_tab _ _
theorem length_filD (r c : Nat) (G : Nat → Nat → Int) : (filD r c G).length = r * c := length_tab _ _
theorem filR_zero (r c : Nat) (G : Nat → Nat → Int) : filR r c G 0 0 = List.replicate (r * c) 0 := by
  refine list_ext (by rw [length_filR]; simp) fun i hi => ?_
  rw [length_filR] at hi
  rw [filR, vec_tab hi, if_neg (by rintro (h | ⟨_, h⟩) <;> exact absurd h (Nat.not_lt_zero _))]
  simp [vec, List.getD_eq_getElem?_getD, List.getElem?_replicate]
  split <;> rfl
theorem col_pos {r c q : Nat} (h : q < r * c) : 0 < c := by
  rcases Nat.eq_zero_or_pos c with e | e
  · subst e; simp at h
  · exact e
theorem filR_row (r c : Nat) (G : Nat → Nat → Int) (i : Nat) : filR r c G i c = filR r c G (i + 1) 0 := tab_ext fun q hq => by
  have := Nat.mod_lt q (col_pos hq)
  have e : (q / c < i ∨ q / c = i ∧ q % c < c) ↔ (q / c < i + 1 ∨ q / c = i + 1 ∧ q % c < 0) := by omega
  by_cases h : q / c < i ∨ q / c = i ∧ q % c < c
  · rw [if_pos h, if_pos (e.1 h)]
  · rw [if_neg h, if_neg (fun h9 => h (e.2 h9))]
theorem filR_end (r c : Nat) (G : Nat → Nat → Int) : filR r c G r 0 = filD r c G := tab_ext fun q hq => by
  have h : q / c < r := (Nat.div_lt_iff_lt_mul (col_pos hq)).2 hq
  rw [if_pos (.inl h)]
theorem filR_set {r c : Nat} {G : Nat → Nat → Int} {i j : Nat} (hi : i < r) (hj : j < c) : (filR r c G i j).set (i * c + j) (G i j) = filR r c G i (j + 1) := by
  rw [filR, tab_put _ (spot_lt hi hj), filR]
  refine tab_ext fun q hq => ?_
  by_cases e : q = i * c + j
  · obtain ⟨h1, h2⟩ := (at_eq (i := i) hj).2 e
    rw [if_pos e, h1, h2, if_pos (by omega)]
  · have h3 : ¬ (q / c = i ∧ q % c = j) := fun h => e ((at_eq hj).1 h)
    rw [if_neg e]
    have e2 : (q / c < i ∨ q / c = i ∧ q % c < j) ↔ (q / c < i ∨ q / c = i ∧ q % c < j + 1) := by omega
    by_cases h : q / c < i ∨ q / c = i ∧ q % c < j
    · rw [if_pos h, if_pos (e2.1 h)]
    · rw [if_neg h, if_neg (fun h9 => h (e2.2 h9))]
theorem filR_skip {r c : Nat} {G : Nat → Nat → Int} {i j k : Nat} (hjk : j ≤ k) (h : ∀ b, j ≤ b → b < k → G i b = 0) : filR r c G i j = filR r c G i k := tab_ext fun q _ => by
  by_cases h1 : q / c < i ∨ q / c = i ∧ q % c < j
  · rw [if_pos h1, if_pos (by omega)]
  · rw [if_neg h1]
    split
    · rename_i h2
      have e : q / c = i := by omega
      rw [e, h (q % c) (by omega) (by omega)]
    · rfl
theorem vec_filD {r c : Nat} {G : Nat → Nat → Int} {i j : Nat} (hi : i < r) (hj : j < c) : vec (filD r c G) (i * c + j) = G i j := by
  rw [filD, vec_tab (spot_lt hi hj), (div_mod_at hj).1, (div_mod_at hj).2]
/-- The numbers of the killing form. -/
def kfG (p : Int) (n : Nat) (T : List Int) (i j : Nat) : Int := traD p n (mulD p n n n (adM T (unitL n i) n p) (adM T (unitL n j) n p))
theorem kfG_comm {p : Int} (hp : 2 ≤ p) (n : Nat) (T : List Int) (i j : Nat) : kfG p n T i j = kfG p n T j i := traD_mul hp n _ _
/-- The killing form while it is made: the program's (row by row). -/
def kfA (p : Int) (n : Nat) (T : List Int) (i j : Nat) : List Int := filR n n (kfG p n T) i j
/-- The reference's: both places of a pair. -/
def kfB (p : Int) (n : Nat) (T : List Int) (i j : Nat) : List Int := tab (n * n) fun q => if max (q / n) (q % n) < i ∨ max (q / n) (q % n) = i ∧ min (q / n) (q % n) < j then kfG p n T (q / n) (q % n) else 0
def kfD (p : Int) (n : Nat) (T : List Int) : List Int := tab (n * n) fun q => kfG p n T (q / n) (q % n)
theorem length_kfA (p : Int) (n : Nat) (T : List Int) (i j : Nat) : (kfA p n T i j).length = n * n := length_tab _ _
theorem length_kfB (p : Int) (n : Nat) (T : List Int) (i j : Nat) : (kfB p n T i j).length = n * n := length_tab _ _
theorem length_kfD (p : Int) (n : Nat) (T : List Int) : (kfD p n T).length = n * n := length_tab _ _
theorem kfD_resid {p : Int} (hp : 2 ≤ p) (n : Nat) (T : List Int) : resid p (kfD p n T) = true := resid_iff.2 fun i hi => by
  rw [length_kfD] at hi
  rw [kfD, vec_tab hi]
  exact traD_bd hp n _
theorem kfA_zero (p : Int) (n : Nat) (T : List Int) : kfA p n T 0 0 = List.replicate (n * n) 0 := filR_zero n n _
theorem kfA_row (p : Int) (n : Nat) (T : List Int) (i : Nat) : kfA p n T i n = kfA p n T (i + 1) 0 := filR_row n n _ i
theorem kfA_end (p : Int) (n : Nat) (T : List Int) : kfA p n T n 0 = kfD p n T := filR_end n n _
theorem kfA_set {p : Int} {n : Nat} {T : List Int} {i j : Nat} (hi : i < n) (hj : j < n) : (kfA p n T i j).set (i * n + j) (kfG p n T i j) = kfA p n T i (j + 1) := filR_set hi hj
theorem kfB_zero (p : Int) (n : Nat) (T : List Int) : kfB p n T 0 0 = List.replicate (n * n) 0 := by
  refine list_ext (by rw [length_kfB]; simp) fun i hi => ?_
  rw [length_kfB] at hi
  rw [kfB, vec_tab hi, if_neg (by rintro (h | ⟨_, h⟩) <;> exact absurd h (Nat.not_lt_zero _))]
  simp [vec, List.getD_eq_getElem?_getD, List.getElem?_replicate]
  split <;> rfl
theorem kfB_row (p : Int) (n : Nat) (T : List Int) (i : Nat) : kfB p n T i (i + 1) = kfB p n T (i + 1) 0 := tab_ext fun q hq => by
  have key : ∀ a b : Nat, (max a b < i ∨ max a b = i ∧ min a b < i + 1) ↔ (max a b < i + 1 ∨ max a b = i + 1 ∧ min a b < 0) := fun a b => by omega
  have e := key (q / n) (q % n)
  by_cases h : max (q / n) (q % n) < i ∨ max (q / n) (q % n) = i ∧ min (q / n) (q % n) < i + 1
  · rw [if_pos h, if_pos (e.1 h)]
  · rw [if_neg h, if_neg (fun h9 => h (e.2 h9))]
theorem kfB_end (p : Int) (n : Nat) (T : List Int) : kfB p n T n 0 = kfD p n T := tab_ext fun q hq => by
  have h0 := col_pos hq
  have h : q / n < n := (Nat.div_lt_iff_lt_mul h0).2 hq
  have h1 := Nat.mod_lt q h0
  have key : ∀ a b : Nat, a < n → b < n → max a b < n := fun a b => by omega
  rw [if_pos (.inl (key _ _ h h1))]
theorem kfB_set {p : Int} (hp : 2 ≤ p) {n : Nat} {T : List Int} {i j : Nat} (hi : i < n) (hj : j ≤ i) : ((kfB p n T i j).set (i * n + j) (kfG p n T i j)).set (j * n + i) (kfG p n T i j) = kfB p n T i (j + 1) := by
  have hjn : j < n := by omega
  rw [kfB, tab_put _ (spot_lt hi hjn), tab_put _ (spot_lt hjn hi), kfB]
  refine tab_ext fun q hq => ?_
  by_cases e : q = j * n + i
  · obtain ⟨h1, h2⟩ := (at_eq (i := j) hi).2 e
    rw [if_pos e, h1, h2, if_pos (by omega), kfG_comm hp]
  · have h3 : ¬ (q / n = j ∧ q % n = i) := fun h => e ((at_eq hi).1 h)
    rw [if_neg e]
    by_cases e4 : q = i * n + j
    · obtain ⟨h1, h2⟩ := (at_eq (i := i) hjn).2 e4
      rw [if_pos e4, h1, h2, if_pos (by omega)]
    · have h4 : ¬ (q / n = i ∧ q % n = j) := fun h => e4 ((at_eq hjn).1 h)
      rw [if_neg e4]
      have e2 : (max (q / n) (q % n) < i ∨ max (q / n) (q % n) = i ∧ min (q / n) (q % n) < j) ↔ (max (q / n) (q % n) < i ∨ max (q / n) (q % n) = i ∧ min (q / n) (q % n) < j + 1) := by omega
      by_cases h : max (q / n) (q % n) < i ∨ max (q / n) (q % n) = i ∧ min (q / n) (q % n) < j
      · rw [if_pos h, if_pos (e2.1 h)]
      · rw [if_neg h, if_neg (fun h9 => h (e2.2 h9))]
end Go.Proofs.Ythiainhhaokjoaa
