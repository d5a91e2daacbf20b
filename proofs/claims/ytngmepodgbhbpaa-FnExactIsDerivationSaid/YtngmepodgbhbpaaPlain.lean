/- Plain lemmas on sums, residues and tables of numbers. No program stands here. -/
import Derived.Test.YtngmepodgbhbpaaAddTo
namespace Go.Proofs.Ytngmepodgbhbpaa
set_option maxRecDepth 100000

def vec (l : List Int) (i : Nat) : Int := l.getD i 0
theorem vec_get {l : List Int} {i : Nat} (h : i < l.length) : l[i]? = some (vec l i) := by
  simp [vec, List.getD_eq_getElem?_getD, List.getElem?_eq_getElem h]
theorem vec_eq {l : List Int} {i : Nat} (h : i < l.length) : l[i] = vec l i := by
  have := vec_get h
  rw [List.getElem?_eq_getElem h] at this
  simpa using this
theorem vec_out {l : List Int} {i : Nat} (h : l.length ≤ i) : vec l i = 0 := by
  simp [vec, List.getD_eq_getElem?_getD, List.getElem?_eq_none h]
theorem list_ext {l m : List Int} (h : l.length = m.length) (h1 : ∀ i, i < l.length → vec l i = vec m i) : l = m := by
  apply List.ext_getElem h
  intro i a b
  rw [vec_eq a, vec_eq b]
  exact h1 i a

/-- The list of the first n values of a function. -/
def tab (n : Nat) (f : Nat → Int) : List Int := (List.range n).map f
theorem length_tab (n : Nat) (f : Nat → Int) : (tab n f).length = n := by simp [tab]
theorem vec_tab {n : Nat} {f : Nat → Int} {i : Nat} (h : i < n) : vec (tab n f) i = f i := by
  simp [vec, tab, List.getD_eq_getElem?_getD, h]
theorem tab_congr {n : Nat} {f g : Nat → Int} (h : ∀ i, i < n → f i = g i) : tab n f = tab n g := by
  refine list_ext (by simp [length_tab]) fun i hi => ?_
  rw [length_tab] at hi
  rw [vec_tab hi, vec_tab hi, h i hi]
theorem tab_vec (l : List Int) : tab l.length (vec l) = l := by
  refine list_ext (by simp [length_tab]) fun i hi => ?_
  rw [length_tab] at hi
  rw [vec_tab hi]
theorem tab_zero (n : Nat) : tab n (fun _ => 0) = List.replicate n 0 := by
  apply List.ext_getElem <;> simp [tab]
theorem tab_get {n : Nat} {f : Nat → Int} {i : Nat} (h : i < n) : (tab n f)[i]? = some (f i) := by simp [tab, h]
theorem tab_set {n : Nat} {f : Nat → Int} (k : Nat) (x : Int) : (tab n f).set k x = tab n (fun i => if i = k then x else f i) := by
  apply List.ext_getElem?
  intro i
  rw [List.getElem?_set]
  by_cases hi : i < n
  · rw [tab_get hi, tab_get hi]
    by_cases e : k = i
    · subst e; simp [length_tab, hi]
    · rw [if_neg e, if_neg (fun h => e h.symm)]
  · have h1 : (tab n f)[i]? = none := List.getElem?_eq_none (by rw [length_tab]; omega)
    have h2 : (tab n (fun i => if i = k then x else f i))[i]? = none := List.getElem?_eq_none (by rw [length_tab]; omega)
    rw [h1, h2, length_tab]
    by_cases e : k = i
    · subst e; rw [if_pos rfl, if_neg hi]
    · rw [if_neg e]

theorem resid_vec {p : Int} {l : List Int} (h : resid p l = true) {i : Nat} (hi : i < l.length) : 0 ≤ vec l i ∧ vec l i < p := by
  rw [← vec_eq hi]; exact resid_get h hi
theorem resid_vec' {p : Int} {l : List Int} (h : resid p l = true) (hp : 0 < p) (i : Nat) : 0 ≤ vec l i ∧ vec l i < p := by
  by_cases hi : i < l.length
  · exact resid_vec h hi
  · rw [vec_out (by omega)]; omega
theorem resid_iff {p : Int} {l : List Int} : resid p l = true ↔ ∀ i, i < l.length → 0 ≤ vec l i ∧ vec l i < p :=
  ⟨fun h _ hi => resid_vec h hi, fun h => resid_of fun i hi => by rw [vec_eq hi]; exact h i hi⟩
theorem resid_tab {p : Int} {n : Nat} {f : Nat → Int} (h : ∀ i, i < n → 0 ≤ f i ∧ f i < p) : resid p (tab n f) = true :=
  resid_iff.2 fun i hi => by rw [length_tab] at hi; rw [vec_tab hi]; exact h i hi
theorem resid_mod {p : Int} (hp : 0 < p) {n : Nat} {f : Nat → Int} : resid p (tab n fun i => f i % p) = true :=
  resid_tab fun _ _ => ⟨Int.emod_nonneg _ (by omega), Int.emod_lt_of_pos _ hp⟩
theorem zeroL_iff {l : List Int} : zeroL l = true ↔ ∀ i, i < l.length → vec l i = 0 := by
  constructor
  · intro h i hi
    have := List.all_eq_true.1 h l[i] (List.getElem_mem hi)
    rw [← vec_eq hi]; simpa using this
  · intro h
    refine List.all_eq_true.2 fun x hx => ?_
    obtain ⟨i, hi, rfl⟩ := List.getElem_of_mem hx
    rw [vec_eq hi]; simpa using h i hi

theorem addL_tab (n : Nat) (f g : Nat → Int) (k p : Int) : addL (tab n f) k (tab n g) p = tab n fun i => (f i + k * g i) % p := by
  refine list_ext (by simp [length_addL, length_tab]) fun i hi => ?_
  rw [length_addL _ _ _ _ (by simp [length_tab]), length_tab] at hi
  rw [vec_tab hi]
  have := addL_get (tab n f) k (tab n g) p i _ _ (tab_get hi) (tab_get hi)
  simp [vec, List.getD_eq_getElem?_getD, this]

/-- The sum of the first n values. -/
def sumTo : Nat → (Nat → Int) → Int
  | 0, _ => 0
  | n + 1, f => sumTo n f + f n
theorem sumTo_congr {n : Nat} {f g : Nat → Int} (h : ∀ i, i < n → f i = g i) : sumTo n f = sumTo n g := by
  induction n with
  | zero => rfl
  | succ n ih => simp only [sumTo]; rw [ih (fun i hi => h i (by omega)), h n (by omega)]
theorem sumTo_zero (n : Nat) : sumTo n (fun _ => 0) = 0 := by
  induction n with
  | zero => rfl
  | succ n ih => simp only [sumTo]; rw [ih]; rfl
theorem sumTo_add (n : Nat) (f g : Nat → Int) : sumTo n (fun i => f i + g i) = sumTo n f + sumTo n g := by
  induction n with
  | zero => rfl
  | succ n ih => simp only [sumTo]; rw [ih]; omega
theorem sumTo_mul (n : Nat) (c : Int) (f : Nat → Int) : sumTo n (fun i => c * f i) = c * sumTo n f := by
  induction n with
  | zero => simp [sumTo]
  | succ n ih => simp only [sumTo]; rw [ih, Int.mul_add]
theorem sumTo_mul_right (n : Nat) (c : Int) (f : Nat → Int) : sumTo n (fun i => f i * c) = sumTo n f * c := by
  rw [Int.mul_comm, ← sumTo_mul]; exact sumTo_congr fun i _ => Int.mul_comm _ _
theorem sumTo_comm (n m : Nat) (f : Nat → Nat → Int) : sumTo n (fun i => sumTo m (fun j => f i j)) = sumTo m (fun j => sumTo n (fun i => f i j)) := by
  induction n with
  | zero => simp [sumTo, sumTo_zero]
  | succ n ih =>
    show sumTo n _ + sumTo m (fun j => f n j) = sumTo m (fun j => sumTo n (fun i => f i j) + f n j)
    rw [ih, sumTo_add]
theorem sumTo_neg (n : Nat) (f : Nat → Int) : sumTo n (fun i => - f i) = - sumTo n f := by
  induction n with
  | zero => rfl
  | succ n ih => simp only [sumTo]; rw [ih]; omega
theorem sumTo_emod (n : Nat) (f : Nat → Int) (p : Int) : sumTo n (fun i => f i % p) % p = sumTo n f % p := by
  induction n with
  | zero => rfl
  | succ n ih =>
    simp only [sumTo]
    rw [Int.add_emod, ih, Int.emod_emod_of_dvd _ (Int.dvd_refl p), ← Int.add_emod]
theorem sumTo_emod_congr {n : Nat} {f g : Nat → Int} {p : Int} (h : ∀ i, i < n → f i % p = g i % p) : sumTo n f % p = sumTo n g % p := by
  rw [← sumTo_emod n f, ← sumTo_emod n g, sumTo_congr (fun i hi => h i hi)]
/-- A single place in a sum. -/
theorem sumTo_single {n : Nat} {k : Nat} (hk : k < n) (f : Nat → Int) : sumTo n (fun i => if i = k then f i else 0) = f k := by
  induction n with
  | zero => omega
  | succ n ih =>
    simp only [sumTo]
    by_cases e : k = n
    · subst e
      rw [if_pos rfl, sumTo_congr (g := fun _ => 0) (fun i hi => if_neg (by omega)), sumTo_zero]; omega
    · rw [ih (by omega), if_neg (fun h => e (Eq.symm h))]; omega
theorem add_mul_mod (s c t p : Int) : (s % p + c * t) % p = (s + c * t) % p := by
  rw [Int.add_emod, Int.emod_emod_of_dvd _ (Int.dvd_refl p), ← Int.add_emod]
theorem mul_mod_right (c t p : Int) : (c * (t % p)) % p = (c * t) % p := by
  rw [Int.mul_emod, Int.emod_emod_of_dvd _ (Int.dvd_refl p), ← Int.mul_emod]
theorem mul_mod_left' (c t p : Int) : ((c % p) * t) % p = (c * t) % p := by
  rw [Int.mul_emod, Int.emod_emod_of_dvd _ (Int.dvd_refl p), ← Int.mul_emod]
end Go.Proofs.Ytngmepodgbhbpaa
