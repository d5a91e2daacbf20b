/- Rows brought into reduced form: the model of both programs. Plain lists; no program. -/
import Derived.Test.YtngmepodgbhbpaaNumInv
namespace Go.Proofs.Ytngmepodgbhbpaa
set_option maxRecDepth 100000

def rowOf (rows : List (List Int)) (i : Nat) : List Int := rows.getD i []
theorem rowOf_get {rows : List (List Int)} {i : Nat} (h : i < rows.length) : rows[i]? = some (rowOf rows i) := by
  simp [rowOf, List.getD_eq_getElem?_getD, List.getElem?_eq_getElem h]
theorem rowOf_eq {rows : List (List Int)} {i : Nat} (h : i < rows.length) : rows[i] = rowOf rows i := by
  have := rowOf_get h
  rw [List.getElem?_eq_getElem h] at this
  simpa using this
theorem rowOf_set {rows : List (List Int)} {i j : Nat} {l : List Int} (h : i < rows.length) : rowOf (rows.set i l) j = if i = j then l else rowOf rows j := by
  simp only [rowOf, List.getD_eq_getElem?_getD, List.getElem?_set]
  by_cases e : i = j
  · subst e; simp [h]
  · simp [e]
theorem rows_ext {a b : List (List Int)} (h : a.length = b.length) (h1 : ∀ i, i < a.length → rowOf a i = rowOf b i) : a = b := by
  apply List.ext_getElem h
  intro i x y
  rw [rowOf_eq x, rowOf_eq y]
  exact h1 i x

/-- The rows are of n residues each. -/
def Wf (p : Int) (n : Nat) (rows : List (List Int)) : Prop := ∀ i, i < rows.length → (rowOf rows i).length = n ∧ resid p (rowOf rows i) = true
theorem Wf.set {p : Int} {n : Nat} {rows : List (List Int)} (h : Wf p n rows) {i : Nat} (hi : i < rows.length) {l : List Int} (h1 : l.length = n) (h2 : resid p l = true) : Wf p n (rows.set i l) := by
  intro j hj
  rw [List.length_set] at hj
  rw [rowOf_set hi]
  by_cases e : i = j
  · rw [if_pos e]; exact ⟨h1, h2⟩
  · rw [if_neg e]; exact h j hj

/-- The first row from r on, of f many, whose number in column c is not 0. -/
def findR (rows : List (List Int)) (c : Nat) : Nat → Nat → Nat
  | 0, r => r
  | f + 1, r => if vec (rowOf rows r) c = 0 then findR rows c f (r + 1) else r
theorem findR_le (rows : List (List Int)) (c : Nat) : ∀ f r, r ≤ findR rows c f r ∧ findR rows c f r ≤ r + f
  | 0, r => by simp [findR]
  | f + 1, r => by
    unfold findR
    split
    · have := findR_le rows c f (r + 1); omega
    · omega
theorem findR_hit (rows : List (List Int)) (c : Nat) : ∀ f r, findR rows c f r < r + f → vec (rowOf rows (findR rows c f r)) c ≠ 0
  | 0, r, h => by simp [findR] at h
  | f + 1, r, h => by
    unfold findR at h ⊢
    by_cases h0 : vec (rowOf rows r) c = 0
    · rw [if_pos h0] at h ⊢
      exact findR_hit rows c f (r + 1) (by omega)
    · rw [if_neg h0]; exact h0
theorem findR_zero (rows : List (List Int)) (c : Nat) : ∀ f r i, r ≤ i → i < findR rows c f r → vec (rowOf rows i) c = 0
  | 0, r, i, h1, h2 => by simp [findR] at h2; omega
  | f + 1, r, i, h1, h2 => by
    unfold findR at h2
    by_cases h0 : vec (rowOf rows r) c = 0
    · rw [if_pos h0] at h2
      by_cases e : i = r
      · subst e; exact h0
      · exact findR_zero rows c f (r + 1) i (by omega) h2
    · rw [if_neg h0] at h2; omega

def swapR (rows : List (List Int)) (i j : Nat) : List (List Int) := (rows.set i (rowOf rows j)).set j (rowOf rows i)
theorem length_swapR (rows : List (List Int)) (i j : Nat) : (swapR rows i j).length = rows.length := by simp [swapR]
theorem rowOf_swapR {rows : List (List Int)} {i j k : Nat} (hi : i < rows.length) (hj : j < rows.length) : rowOf (swapR rows i j) k = if j = k then rowOf rows i else if i = k then rowOf rows j else rowOf rows k := by
  rw [swapR, rowOf_set (by simpa using hj), rowOf_set hi]
theorem Wf.swap {p : Int} {n : Nat} {rows : List (List Int)} (h : Wf p n rows) {i j : Nat} (hi : i < rows.length) (hj : j < rows.length) : Wf p n (swapR rows i j) :=
  (h.set hi (h j hj).1 (h j hj).2).set (by simpa using hj) (h i hi).1 (h i hi).2

def scaleR (p k : Int) (l : List Int) : List Int := l.map fun x => x * k % p
theorem length_scaleR (p k : Int) (l : List Int) : (scaleR p k l).length = l.length := by simp [scaleR]
theorem resid_scaleR {p : Int} (hp : 0 < p) (k : Int) (l : List Int) : resid p (scaleR p k l) = true :=
  resid_of fun i hi => by
    simp only [scaleR, List.getElem_map]
    exact ⟨Int.emod_nonneg _ (by omega), Int.emod_lt_of_pos _ hp⟩
theorem vec_scaleR {p k : Int} {l : List Int} {i : Nat} (hi : i < l.length) : vec (scaleR p k l) i = vec l i * k % p := by
  rw [← vec_eq (by rw [length_scaleR]; exact hi), ← vec_eq hi]; simp [scaleR]
def scaleTo (p k : Int) (l : List Int) (j : Nat) : List Int := (scaleR p k l).take j ++ l.drop j
theorem scaleTo_zero (p k : Int) (l : List Int) : scaleTo p k l 0 = l := by simp [scaleTo]
theorem scaleTo_end (p k : Int) (l : List Int) : scaleTo p k l l.length = scaleR p k l := by
  rw [scaleTo, List.drop_length, List.append_nil, List.take_of_length_le (by rw [length_scaleR]; exact Nat.le_refl _)]
theorem length_scaleTo (p k : Int) (l : List Int) (j : Nat) (h : j ≤ l.length) : (scaleTo p k l j).length = l.length := by
  simp [scaleTo, length_scaleR]; omega
theorem vec_scaleTo {p k : Int} {l : List Int} {j i : Nat} (h : j ≤ l.length) (hi : i < l.length) : vec (scaleTo p k l j) i = if i < j then vec l i * k % p else vec l i := by
  unfold scaleTo
  simp only [vec, List.getD_eq_getElem?_getD, List.getElem?_append, List.length_take, length_scaleR]
  by_cases hij : i < j
  · rw [if_pos (by omega), if_pos hij, List.getElem?_take, if_pos hij]
    have := vec_scaleR (p := p) (k := k) hi
    simpa [vec, List.getD_eq_getElem?_getD] using this
  · rw [if_neg (by omega), if_neg hij, List.getElem?_drop]
    congr 3
    omega
theorem scaleTo_set (p k : Int) (l : List Int) (j : Nat) (h : j < l.length) : (scaleTo p k l j).set j (vec l j * k % p) = scaleTo p k l (j + 1) := by
  refine list_ext (by simp [length_scaleTo p k l j (by omega), length_scaleTo p k l (j + 1) h]) fun i hi => ?_
  rw [List.length_set, length_scaleTo p k l j (by omega)] at hi
  rw [vec_scaleTo h hi]
  simp only [vec, List.getD_eq_getElem?_getD, List.getElem?_set, length_scaleTo p k l j (by omega)]
  by_cases e : j = i
  · subst e
    simp [hi]
  · rw [if_neg e]
    have := vec_scaleTo (p := p) (k := k) (j := j) (by omega) hi
    simp only [vec, List.getD_eq_getElem?_getD] at this
    rw [this]
    by_cases h2 : i < j
    · rw [if_pos h2, if_pos (by omega)]
    · rw [if_neg h2, if_neg (by omega)]
theorem resid_scaleTo {p : Int} (hp : 0 < p) {k : Int} {l : List Int} {j : Nat} (h : j ≤ l.length) (hl : resid p l = true) : resid p (scaleTo p k l j) = true :=
  resid_iff.2 fun i hi => by
    rw [length_scaleTo p k l j h] at hi
    rw [vec_scaleTo h hi]
    split
    · exact ⟨Int.emod_nonneg _ (by omega), Int.emod_lt_of_pos _ hp⟩
    · exact resid_vec hl hi

/-- Row i less the multiple of row a that makes its number in column c vanish. -/
def elimRow (p : Int) (c a : Nat) (rows : List (List Int)) (i : Nat) : List Int :=
  if i = a ∨ vec (rowOf rows i) c = 0 then rowOf rows i else addL (rowOf rows i) (p - vec (rowOf rows i) c) (rowOf rows a) p
/-- The first k rows so changed. -/
def elimTo (p : Int) (c a : Nat) (rows : List (List Int)) (k : Nat) : List (List Int) := (List.range rows.length).map fun i => if i < k then elimRow p c a rows i else rowOf rows i
def elimR (p : Int) (c a : Nat) (rows : List (List Int)) : List (List Int) := elimTo p c a rows rows.length
theorem length_elimTo (p : Int) (c a : Nat) (rows : List (List Int)) (k : Nat) : (elimTo p c a rows k).length = rows.length := by simp [elimTo]
theorem rowOf_elimTo {p : Int} {c a : Nat} {rows : List (List Int)} {k i : Nat} (hi : i < rows.length) : rowOf (elimTo p c a rows k) i = if i < k then elimRow p c a rows i else rowOf rows i := by
  simp [rowOf, elimTo, List.getD_eq_getElem?_getD, hi]
theorem elimTo_zero (p : Int) (c a : Nat) (rows : List (List Int)) : elimTo p c a rows 0 = rows :=
  rows_ext (length_elimTo _ _ _ _ _) fun i hi => by
    rw [length_elimTo] at hi
    rw [rowOf_elimTo hi, if_neg (by omega)]
theorem elimTo_keep {p : Int} {c a : Nat} {rows : List (List Int)} {k : Nat} (hk : k < rows.length) (h : elimRow p c a rows k = rowOf rows k) : elimTo p c a rows (k + 1) = elimTo p c a rows k :=
  rows_ext (by simp [length_elimTo]) fun i hi => by
    rw [length_elimTo] at hi
    rw [rowOf_elimTo hi, rowOf_elimTo hi]
    by_cases e : i = k
    · subst e; rw [if_pos (by omega), if_neg (by omega), h]
    · by_cases h1 : i < k
      · rw [if_pos h1, if_pos (by omega)]
      · rw [if_neg h1, if_neg (by omega)]
theorem elimTo_set {p : Int} {c a : Nat} {rows : List (List Int)} {k : Nat} (hk : k < rows.length) : (elimTo p c a rows k).set k (elimRow p c a rows k) = elimTo p c a rows (k + 1) :=
  rows_ext (by simp [length_elimTo]) fun i hi => by
    rw [List.length_set, length_elimTo] at hi
    rw [rowOf_set (by rw [length_elimTo]; exact hk), rowOf_elimTo hi, rowOf_elimTo hi]
    by_cases e : k = i
    · subst e; rw [if_pos rfl, if_pos (by omega)]
    · rw [if_neg e]
      by_cases h1 : i < k
      · rw [if_pos h1, if_pos (by omega)]
      · rw [if_neg h1, if_neg (by omega)]
theorem elimRow_wf {p : Int} (hp : 0 < p) {n c a : Nat} {rows : List (List Int)} (h : Wf p n rows) (ha : a < rows.length) {i : Nat} (hi : i < rows.length) : (elimRow p c a rows i).length = n ∧ resid p (elimRow p c a rows i) = true := by
  unfold elimRow
  split
  · exact h i hi
  · exact ⟨by rw [length_addL _ _ _ _ (by rw [(h a ha).1, (h i hi).1])]; exact (h i hi).1, resid_addL _ _ _ _ hp⟩
theorem Wf.elimTo {p : Int} (hp : 0 < p) {n c a : Nat} {rows : List (List Int)} (h : Wf p n rows) (ha : a < rows.length) (k : Nat) : Wf p n (elimTo p c a rows k) := by
  intro i hi
  rw [length_elimTo] at hi
  rw [rowOf_elimTo hi]
  split
  · exact elimRow_wf hp h ha hi
  · exact h i hi

/-- One column: state rows and pivots. -/
def redCol (p : Int) (c : Nat) (s : List (List Int) × List Nat) : List (List Int) × List Nat :=
  if findR s.1 c (s.1.length - s.2.length) s.2.length < s.1.length then
    (elimR p c s.2.length ((swapR s.1 (findR s.1 c (s.1.length - s.2.length) s.2.length) s.2.length).set s.2.length
      (scaleR p (invE p (vec (rowOf (swapR s.1 (findR s.1 c (s.1.length - s.2.length) s.2.length) s.2.length) s.2.length) c)) (rowOf (swapR s.1 (findR s.1 c (s.1.length - s.2.length) s.2.length) s.2.length) s.2.length))), s.2 ++ [c])
  else s
/-- f columns from c on. -/
def redR (p : Int) : Nat → Nat → List (List Int) × List Nat → List (List Int) × List Nat
  | 0, _, s => s
  | f + 1, c, s => redR p f (c + 1) (redCol p c s)
/-- Rows of n columns in reduced form, with the columns of the pivots. -/
def reduceL (p : Int) (n : Nat) (rows : List (List Int)) : List (List Int) × List Nat := redR p n 0 (rows, [])
theorem redCol_no {p : Int} {c : Nat} {s : List (List Int) × List Nat} (h : findR s.1 c (s.1.length - s.2.length) s.2.length = s.1.length) : redCol p c s = s := by
  unfold redCol; rw [if_neg (by omega)]
theorem redCol_full {p : Int} {c : Nat} {s : List (List Int) × List Nat} (h : s.1.length ≤ s.2.length) : redCol p c s = s := by
  unfold redCol
  rw [if_neg]
  have := (findR_le s.1 c (s.1.length - s.2.length) s.2.length).1
  omega
theorem redR_full {p : Int} : ∀ (f c : Nat) (s : List (List Int) × List Nat), s.1.length ≤ s.2.length → redR p f c s = s
  | 0, _, _, _ => rfl
  | f + 1, c, s, h => by unfold redR; rw [redCol_full h, redR_full f (c + 1) s h]
/-- What stands at every column: rows of residues, as many as at first; fewer pivots than rows. -/
structure RedOk (p : Int) (n m : Nat) (s : List (List Int) × List Nat) : Prop where
  wf : Wf p n s.1
  len : s.1.length = m
  piv : s.2.length ≤ m
theorem RedOk.col {p : Int} (hp : 0 < p) {n m c : Nat} {s : List (List Int) × List Nat} (h : RedOk p n m s) : RedOk p n m (redCol p c s) := by
  unfold redCol
  by_cases hf : findR s.1 c (s.1.length - s.2.length) s.2.length < s.1.length
  · rw [if_pos hf]
    have h1 := (findR_le s.1 c (s.1.length - s.2.length) s.2.length).1
    have ha : s.2.length < s.1.length := by omega
    have hw := h.wf.swap hf ha
    have hl := hw s.2.length (by rw [length_swapR]; exact ha)
    have hw2 := hw.set (i := s.2.length) (by rw [length_swapR]; exact ha) (l := scaleR p (invE p (vec (rowOf (swapR s.1 (findR s.1 c (s.1.length - s.2.length) s.2.length) s.2.length) s.2.length) c)) (rowOf (swapR s.1 (findR s.1 c (s.1.length - s.2.length) s.2.length) s.2.length) s.2.length)) (by rw [length_scaleR]; exact hl.1) (resid_scaleR hp _ _)
    refine ⟨hw2.elimTo hp (by rw [List.length_set, length_swapR]; exact ha) _, ?_, ?_⟩
    · simp only [elimR, length_elimTo, List.length_set, length_swapR]; exact h.len
    · have := h.len; simp; omega
  · rw [if_neg hf]; exact h
theorem RedOk.red {p : Int} (hp : 0 < p) {n m : Nat} : ∀ (f c : Nat) {s : List (List Int) × List Nat}, RedOk p n m s → RedOk p n m (redR p f c s)
  | 0, _, _, h => h
  | f + 1, c, _, h => RedOk.red hp f (c + 1) (h.col hp)
theorem RedOk.start {p : Int} {n : Nat} {rows : List (List Int)} (h : Wf p n rows) : RedOk p n rows.length (rows, []) := ⟨h, rfl, Nat.zero_le _⟩
theorem reduceL_ok {p : Int} (hp : 0 < p) {n : Nat} {rows : List (List Int)} (h : Wf p n rows) : RedOk p n rows.length (reduceL p n rows) := (RedOk.start h).red hp n 0
end Go.Proofs.Ytngmepodgbhbpaa
