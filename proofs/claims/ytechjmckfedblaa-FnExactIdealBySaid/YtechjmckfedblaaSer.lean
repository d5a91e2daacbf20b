/- The series of an algebra as lists of spaces, and why they end. -/
import Derived.Test.YtechjmckfedblaaProduct2
import Derived.Test.YtechjmckfedblaaUnitM
namespace Go.Proofs.Ytechjmckfedblaa
set_option maxRecDepth 100000
section
open Go.RowKit

/-- The bracket of two vectors, not reduced. -/
def bF (T : List Int) (n : Nat) (f g : Nat → Int) (k : Nat) : Int := sumTo n fun a => sumTo n fun b => f a * g b * t3 T n a b k
theorem bF_left (T : List Int) (n : Nat) (f f' g : Nat → Int) (k : Int) (c : Nat) : bF T n (fun a => f a + k * f' a) g c = bF T n f g c + k * bF T n f' g c := by
  unfold bF
  rw [← sumTo_mul, ← sumTo_add]
  refine sumTo_congr fun a _ => ?_
  rw [← sumTo_mul, ← sumTo_add]
  refine sumTo_congr fun b _ => ?_
  grind
theorem bF_right (T : List Int) (n : Nat) (f g g' : Nat → Int) (k : Int) (c : Nat) : bF T n f (fun a => g a + k * g' a) c = bF T n f g c + k * bF T n f g' c := by
  unfold bF
  rw [← sumTo_mul, ← sumTo_add]
  refine sumTo_congr fun a _ => ?_
  rw [← sumTo_mul, ← sumTo_add]
  refine sumTo_congr fun b _ => ?_
  grind
theorem bF_zero_left (T : List Int) (n : Nat) (g : Nat → Int) (c : Nat) : bF T n (fun _ => 0) g c = 0 := by
  unfold bF
  rw [sumTo_congr (g := fun _ => 0) (fun a _ => by rw [sumTo_congr (g := fun _ => 0) (fun b _ => by simp), sumTo_zero]), sumTo_zero]
theorem bF_zero_right (T : List Int) (n : Nat) (f : Nat → Int) (c : Nat) : bF T n f (fun _ => 0) c = 0 := by
  unfold bF
  rw [sumTo_congr (g := fun _ => 0) (fun a _ => by rw [sumTo_congr (g := fun _ => 0) (fun b _ => by simp), sumTo_zero]), sumTo_zero]
theorem bF_mod_left (T : List Int) (n : Nat) (p : Int) (f f' g : Nat → Int) (h : ∀ c, c < n → ∃ u, f c - f' c = p * u) (c : Nat) : ∃ u, bF T n f g c - bF T n f' g c = p * u := by
  refine ⟨bF T n (fun a => (f a - f' a) / p) g c, ?_⟩
  have e : bF T n f g c - bF T n f' g c = bF T n (fun a => f a + (-1) * f' a) g c := by rw [bF_left]; omega
  rw [e]
  unfold bF
  rw [← sumTo_mul]
  refine sumTo_congr fun a ha => ?_
  rw [← sumTo_mul]
  refine sumTo_congr fun b _ => ?_
  obtain ⟨u, hu⟩ := h a ha
  have hq : f a + -1 * f' a = p * ((f a - f' a) / p) := by
    rw [Int.mul_ediv_cancel_of_dvd ⟨u, hu⟩]; omega
  show (f a + -1 * f' a) * g b * t3 T n a b c = p * ((f a - f' a) / p * g b * t3 T n a b c)
  rw [hq]
  grind
theorem bF_mod_right (T : List Int) (n : Nat) (p : Int) (f g g' : Nat → Int) (h : ∀ c, c < n → ∃ u, g c - g' c = p * u) (c : Nat) : ∃ u, bF T n f g c - bF T n f g' c = p * u := by
  refine ⟨bF T n f (fun a => (g a - g' a) / p) c, ?_⟩
  have e : bF T n f g c - bF T n f g' c = bF T n f (fun a => g a + (-1) * g' a) c := by rw [bF_right]; omega
  rw [e]
  unfold bF
  rw [← sumTo_mul]
  refine sumTo_congr fun a _ => ?_
  rw [← sumTo_mul]
  refine sumTo_congr fun b hb => ?_
  obtain ⟨u, hu⟩ := h b hb
  have hq : g b + -1 * g' b = p * ((g b - g' b) / p) := by
    rw [Int.mul_ediv_cancel_of_dvd ⟨u, hu⟩]; omega
  show f a * (g b + -1 * g' b) * t3 T n a b c = p * (f a * ((g b - g' b) / p) * t3 T n a b c)
  rw [hq]
  grind
/-- The brackets of two families of rows. -/
def brR (T : List Int) (n : Nat) (p : Int) (R S : List (List Int)) : List (List Int) := prodL T n p R.length (flat n R) S.length (flat n S)
theorem brR_mem {T : List Int} {n : Nat} {p : Int} {R S : List (List Int)} (hR : Wf p n R) (hS : Wf p n S) {i j : Nat} (hi : i < R.length) (hj : j < S.length) : braL T (rowOf R i) (rowOf S j) n p ∈ brR T n p R S := by
  unfold brR prodL prodTo
  refine List.mem_append_left _ (List.mem_flatMap.2 ⟨i, List.mem_range.2 hi, List.mem_map.2 ⟨j, List.mem_range.2 hj, ?_⟩⟩)
  rw [rowM_flat hi (hR i hi).1, rowM_flat hj (hS j hj).1]
theorem brR_row {T : List Int} {n : Nat} {p : Int} {R S : List (List Int)} (hR : Wf p n R) (hS : Wf p n S) {l : List Int} (h : l ∈ brR T n p R S) : ∃ i j, i < R.length ∧ j < S.length ∧ l = braL T (rowOf R i) (rowOf S j) n p := by
  unfold brR prodL prodTo at h
  simp only [List.mem_append, List.mem_flatMap, List.mem_map, List.mem_range, List.range_zero, List.map_nil, List.not_mem_nil, or_false] at h
  obtain ⟨i, hi, j, hj, rfl⟩ := h
  exact ⟨i, j, hi, hj, by rw [rowM_flat hi (hR i hi).1, rowM_flat hj (hS j hj).1]⟩
theorem Wf_brR {T : List Int} {n : Nat} {p : Int} (hp : 2 ≤ p) (R S : List (List Int)) : Wf p n (brR T n p R S) := Wf_prodTo hp _ _ _ _ _
theorem sp_mem {p : Int} {n : Nat} {R : List (List Int)} {l : List Int} (h : l ∈ R) : Sp p n R (vec l) := by
  obtain ⟨i, hi, rfl⟩ := List.mem_iff_getElem.1 h
  rw [rowOf_eq hi]
  exact .row i hi
theorem brR_bra {T : List Int} {n : Nat} {p : Int} {R S : List (List Int)} (hR : Wf p n R) (hS : Wf p n S) {f g : Nat → Int} (hf : Sp p n R f) (hg : Sp p n S g) : Sp p n (brR T n p R S) (bF T n f g) := by
  induction hf with
  | row i hi =>
    induction hg with
    | row j hj =>
      refine (sp_mem (brR_mem hR hS hi hj)).congr fun c hc => ?_
      rw [braL, vec_tab hc]
      obtain ⟨u, hu⟩ := emod_dvd (p := p) (a := bra1 T (rowOf R i) (rowOf S j) n n c)
      refine ⟨-u, ?_⟩
      show _ - bra1 T (rowOf R i) (rowOf S j) n n c = _
      grind
    | zero => exact Sp.zero.eqOn fun c _ => bF_zero_right _ _ _ _
    | comb k _ _ h1 h2 => exact (Sp.comb k h1 h2).eqOn fun c _ => bF_right _ _ _ _ _ _ _
    | congr _ h h1 => exact h1.congr fun c _ => bF_mod_right _ _ _ _ _ _ h c
  | zero => exact Sp.zero.eqOn fun c _ => bF_zero_left _ _ _ _
  | comb k _ _ h1 h2 => exact (Sp.comb k h1 h2).eqOn fun c _ => bF_left _ _ _ _ _ _ _
  | congr _ h h1 => exact h1.congr fun c _ => bF_mod_left _ _ _ _ _ _ h c
/-- Brackets of elements of two spaces lie in the product. -/
theorem brR_sub {T : List Int} {n : Nat} {p : Int} {R S R' S' : List (List Int)} (hR : Wf p n R) (hS : Wf p n S) (hR' : Wf p n R') (hS' : Wf p n S') (h1 : ∀ i, i < R'.length → Sp p n R (vec (rowOf R' i))) (h2 : ∀ i, i < S'.length → Sp p n S (vec (rowOf S' i))) {i : Nat} (hi : i < (brR T n p R' S').length) :
    Sp p n (brR T n p R S) (vec (rowOf (brR T n p R' S') i)) := by
  obtain ⟨a, b, ha, hb, e⟩ := brR_row hR' hS' (List.getElem_mem hi)
  rw [rowOf_eq hi] at e
  rw [e]
  refine (brR_bra hR hS (h1 a ha) (h2 b hb)).congr fun c hc => ?_
  rw [braL, vec_tab hc]
  obtain ⟨u, hu⟩ := emod_dvd (p := p) (a := bra1 T (rowOf R' a) (rowOf S' b) n n c)
  exact ⟨u, hu⟩

theorem length_le_of_nodup : ∀ {a b : List Nat}, a.Nodup → (∀ c, c ∈ a → c ∈ b) → a.length ≤ b.length
  | [], _, _, _ => Nat.zero_le _
  | x :: a, b, hn, h => by
    rw [List.nodup_cons] at hn
    have hx := h x (by simp)
    have := length_le_of_nodup (a := a) (b := b.erase x) hn.2 fun c hc => (List.mem_erase_of_ne (fun e => hn.1 (by rw [← e]; exact hc))).2 (h c (by simp [hc]))
    rw [List.length_erase_of_mem hx] at this
    have hb : 0 < b.length := List.length_pos_of_mem hx
    simp only [List.length_cons]
    omega
theorem Rf.nodup {p : Int} {n : Nat} {R : List (List Int)} {a : List Nat} (h : Rf p n R a) : a.Nodup := by
  refine List.Pairwise.imp (R := (· < ·)) (fun h => by omega) ?_
  rw [List.pairwise_iff_getElem]
  intro i j hi hj hij
  have := h.mono i j hij hj
  have e1 := pv_get hi
  have e2 := pv_get hj
  rw [List.getElem?_eq_getElem hi] at e1
  rw [List.getElem?_eq_getElem hj] at e2
  simp only [Option.some.injEq] at e1 e2
  omega
/-- A space in another one has no more rows. -/
theorem Rf.length_le {p : Int} (hp : 2 ≤ p) {n : Nat} {R S : List (List Int)} {a b : List Nat} (h1 : Rf p n R a) (h2 : Rf p n S b) (h : ∀ i, i < R.length → Sp p n S (vec (rowOf R i))) : R.length ≤ S.length := by
  rw [h1.len, h2.len]
  exact length_le_of_nodup h1.nodup (h1.pivSub hp h2 h)

/-- The rows of the unit matrix. -/
def uniR (n : Nat) : List (List Int) := rowsM n n (unitD n)
theorem vec_unitTo (n : Nat) : ∀ (k a b : Nat), k ≤ n → a < n → b < n → vec (unitTo n k) (a * n + b) = if a = b ∧ a < k then 1 else 0
  | 0, a, b, _, ha, hb => by
    simp [unitTo, vec, List.getD_eq_getElem?_getD, List.getElem?_replicate]; split <;> rfl
  | k + 1, a, b, hk, ha, hb => by
    have hlt : k * n + k < (unitTo n k).length := by
      rw [length_unitTo]
      have : k * n + n ≤ n * n := by rw [← Nat.succ_mul]; exact Nat.mul_le_mul_right n hk
      omega
    rw [unitTo, vec_set hlt, vec_unitTo n k a b (by omega) ha hb]
    by_cases e : a = k ∧ b = k
    · rw [e.1, e.2, if_pos rfl, if_pos ⟨rfl, by omega⟩]
    · have hne : a * n + b ≠ k * n + k := by
        intro h
        have h1 : a = k := by
          have : (a * n + b) / n = (k * n + k) / n := by rw [h]
          rw [Nat.add_comm (k * n), Nat.add_comm (a * n), Nat.add_mul_div_right _ _ (by omega), Nat.add_mul_div_right _ _ (by omega), Nat.div_eq_of_lt (show k < n by omega), Nat.div_eq_of_lt hb] at this
          omega
        subst h1
        omega
      rw [if_neg hne]
      by_cases e1 : a = b
      · subst e1
        have : a ≠ k := fun h => e ⟨h, h⟩
        by_cases e2 : a < k
        · rw [if_pos ⟨rfl, e2⟩, if_pos ⟨rfl, by omega⟩]
        · rw [if_neg (by omega), if_neg (by omega)]
      · rw [if_neg (fun h => e1 h.1), if_neg (fun h => e1 h.1)]
theorem length_uniR (n : Nat) : (uniR n).length = n := length_rowsM _ _ _
theorem vec_uniR {n a b : Nat} (ha : a < n) (hb : b < n) : vec (rowOf (uniR n) a) b = if a = b then 1 else 0 := by
  rw [uniR, rowOf_rowsM ha, rowM, vec_tab hb, unitD, vec_unitTo n n a b (Nat.le_refl _) ha hb]
  by_cases e : a = b
  · rw [if_pos ⟨e, ha⟩, if_pos e]
  · rw [if_neg (fun h => e h.1), if_neg e]
theorem Wf_uniR {p : Int} (hp : 2 ≤ p) (n : Nat) : Wf p n (uniR n) := Wf_rowsM (by omega) (resid_unitD hp n)
theorem flat_uniR (n : Nat) : flat n (uniR n) = unitD n := flat_rowsM (length_unitD n)
theorem pv_range {n i : Nat} (h : i < n) : pv (List.range n) i = i := by simp [pv, List.getD_eq_getElem?_getD, h]
theorem Rf_uniR {p : Int} (hp : 2 ≤ p) (n : Nat) : Rf p n (uniR n) (List.range n) where
  len := by rw [length_uniR, List.length_range]
  wf := Wf_uniR hp n
  lt i hi := by rw [List.length_range] at hi; rw [pv_range hi]; exact hi
  mono i j hij hj := by rw [List.length_range] at hj; rw [pv_range hj, pv_range (by omega)]; exact hij
  one i hi := by rw [List.length_range] at hi; rw [pv_range hi, vec_uniR hi hi, if_pos rfl]
  off i j hi hj hij := by rw [List.length_range] at hi hj; rw [pv_range hi, vec_uniR hj hi, if_neg (fun e => hij e.symm)]
  lead i c hi hc := by rw [List.length_range] at hi; rw [pv_range hi] at hc; rw [vec_uniR hi (by omega), if_neg (by omega)]
/-- Everything lies in the whole space. -/
theorem sp_uniR (p : Int) (n : Nat) (f : Nat → Int) : Sp p n (uniR n) f := by
  have key : ∀ k, k ≤ n → Sp p n (uniR n) (fun c => sumTo k fun i => f i * vec (rowOf (uniR n) i) c) := by
    intro k
    induction k with
    | zero => intro _; exact Sp.zero.eqOn fun _ _ => rfl
    | succ k ih => intro hk; exact (Sp.comb (f k) (ih (by omega)) (.row k (by rw [length_uniR]; omega))).eqOn fun c _ => rfl
  refine (key n (Nat.le_refl _)).eqOn fun c hc => ?_
  rw [sumTo_congr (g := fun i => if i = c then f i else 0) (fun i hi => by rw [vec_uniR hi hc]; by_cases e : i = c <;> simp [e]), sumTo_single hc]

/-- One step of the derived (false) or the lower (true) series. -/
def stepS (k : Bool) (T : List Int) (n : Nat) (p : Int) (R : List (List Int)) : List (List Int) :=
  spanL p n (if k then brR T n p (uniR n) R else brR T n p R R)
/-- What holds of each space of a series. -/
structure SerOk (k : Bool) (T : List Int) (n : Nat) (p : Int) (R : List (List Int)) : Prop where
  rf : ∃ a, Rf p n R a
  sub : ∀ i, i < (stepS k T n p R).length → Sp p n R (vec (rowOf (stepS k T n p R) i))
theorem SerOk.wf {k : Bool} {T : List Int} {n : Nat} {p : Int} {R : List (List Int)} (h : SerOk k T n p R) : Wf p n R := by
  obtain ⟨a, ha⟩ := h.rf; exact ha.wf
theorem SerOk.le_n {k : Bool} {T : List Int} {n : Nat} {p : Int} (hp : 2 ≤ p) {R : List (List Int)} (h : SerOk k T n p R) : R.length ≤ n := by
  obtain ⟨a, ha⟩ := h.rf
  have := ha.length_le hp (Rf_uniR hp n) fun _ _ => sp_uniR _ _ _
  rwa [length_uniR] at this
theorem SerOk.start (k : Bool) (T : List Int) (n : Nat) {p : Int} (hp : 2 ≤ p) : SerOk k T n p (uniR n) := ⟨⟨_, Rf_uniR hp n⟩, fun _ _ => sp_uniR _ _ _⟩
theorem Wf_stepArg (k : Bool) (T : List Int) (n : Nat) {p : Int} (hp : 2 ≤ p) (R : List (List Int)) : Wf p n (if k then brR T n p (uniR n) R else brR T n p R R) := by
  split <;> exact Wf_brR hp _ _
theorem SerOk.next {k : Bool} {T : List Int} {n : Nat} {p : Int} (hP : isPrime p = true) {R : List (List Int)} (h : SerOk k T n p R) : SerOk k T n p (stepS k T n p R) := by
  have hp := (isPrime_bd hP).1
  have hrf : Rf p n (stepS k T n p R) (pivL p n (if k then brR T n p (uniR n) R else brR T n p R R)) := spanL_rf hP (Wf_stepArg k T n hp R)
  refine ⟨⟨_, hrf⟩, fun i hi => ?_⟩
  refine (spanL_in hP (Wf_stepArg k T n hp _) i hi).trans fun j hj => ?_
  refine Sp.trans (R := if k then brR T n p (uniR n) R else brR T n p R R) ?_ fun q hq => spanL_out hP (Wf_stepArg k T n hp R) q hq
  cases k with
  | true => exact brR_sub (Wf_uniR hp n) h.wf (Wf_uniR hp n) hrf.wf (fun _ _ => sp_uniR _ _ _) h.sub hj
  | false => exact brR_sub h.wf h.wf hrf.wf hrf.wf h.sub h.sub hj
theorem SerOk.le {k : Bool} {T : List Int} {n : Nat} {p : Int} (hP : isPrime p = true) {R : List (List Int)} (h : SerOk k T n p R) : (stepS k T n p R).length ≤ R.length := by
  obtain ⟨a, ha⟩ := h.rf
  obtain ⟨b, hb⟩ := (h.next hP).rf
  exact hb.length_le (isPrime_bd hP).1 ha h.sub

/-- The series from a space on. -/
def serTo (k : Bool) (T : List Int) (n : Nat) (p : Int) : Nat → List (List Int) → List (List (List Int))
  | 0, R => [R]
  | f + 1, R => if (stepS k T n p R).length = R.length then [R] else R :: serTo k T n p f (stepS k T n p R)
def serL (k : Bool) (T : List Int) (n : Nat) (p : Int) : List (List (List Int)) := serTo k T n p n (uniR n)
theorem serTo_stop {k : Bool} {T : List Int} {n : Nat} {p : Int} {R : List (List Int)} (h : (stepS k T n p R).length = R.length) (f : Nat) : serTo k T n p f R = [R] := by
  cases f with
  | zero => rfl
  | succ f => rw [serTo, if_pos h]
theorem serTo_go {k : Bool} {T : List Int} {n : Nat} {p : Int} (hP : isPrime p = true) {R : List (List Int)} (hok : SerOk k T n p R) (h : (stepS k T n p R).length ≠ R.length) : ∀ (f : Nat), R.length ≤ f → serTo k T n p f R = R :: serTo k T n p (f - 1) (stepS k T n p R)
  | 0, hf => by have := hok.le hP; omega
  | f + 1, _ => by rw [serTo, if_neg h]; rfl
theorem serTo_fuel {k : Bool} {T : List Int} {n : Nat} {p : Int} (hP : isPrime p = true) : ∀ (f g : Nat) {R : List (List Int)}, SerOk k T n p R → R.length ≤ f → R.length ≤ g → serTo k T n p f R = serTo k T n p g R
  | 0, g, R, hok, hf, hg => by
    have := hok.le hP
    have h : (stepS k T n p R).length = R.length := by omega
    rw [serTo_stop h, serTo_stop h]
  | f + 1, g, R, hok, hf, hg => by
    by_cases h : (stepS k T n p R).length = R.length
    · rw [serTo_stop h, serTo_stop h]
    · have := hok.le hP
      rw [serTo_go hP hok h _ hf, serTo_go hP hok h _ hg, Nat.add_sub_cancel]
      rw [serTo_fuel hP f (g - 1) (hok.next hP) (by omega) (by omega)]
/-- The state of a run: what has been found, what comes. -/
structure SerAt (k : Bool) (T : List Int) (n : Nat) (p : Int) (pre : List (List (List Int))) (R : List (List Int)) : Prop where
  ok : SerOk k T n p R
  all : pre ++ serTo k T n p R.length R = serL k T n p
  len : pre.length + R.length ≤ n
theorem SerAt.start (k : Bool) (T : List Int) (n : Nat) {p : Int} (hP : isPrime p = true) : SerAt k T n p [] (uniR n) :=
  ⟨.start k T n (isPrime_bd hP).1, by rw [length_uniR]; rfl, by rw [length_uniR]; simp⟩
theorem SerAt.stop {k : Bool} {T : List Int} {n : Nat} {p : Int} {pre : List (List (List Int))} {R : List (List Int)} (h : SerAt k T n p pre R) (e : (stepS k T n p R).length = R.length) : pre ++ [R] = serL k T n p := by
  rw [← h.all, serTo_stop e]
theorem SerAt.next {k : Bool} {T : List Int} {n : Nat} {p : Int} (hP : isPrime p = true) {pre : List (List (List Int))} {R : List (List Int)} (h : SerAt k T n p pre R) (e : (stepS k T n p R).length ≠ R.length) :
    SerAt k T n p (pre ++ [R]) (stepS k T n p R) ∧ (stepS k T n p R).length < R.length := by
  have hle := h.ok.le hP
  refine ⟨⟨h.ok.next hP, ?_, ?_⟩, by omega⟩
  · rw [← h.all, serTo_go hP h.ok e _ (Nat.le_refl _), List.append_assoc]
    rw [serTo_fuel hP (R.length - 1) (stepS k T n p R).length (h.ok.next hP) (by omega) (Nat.le_refl _)]
    rfl
  · have := h.len
    rw [List.length_append, List.length_singleton]
    omega
theorem serTo_ne (k : Bool) (T : List Int) (n : Nat) (p : Int) (f : Nat) (R : List (List Int)) : serTo k T n p f R ≠ [] := by
  cases f with
  | zero => simp [serTo]
  | succ f => rw [serTo]; split <;> simp
theorem length_serTo (k : Bool) (T : List Int) (n : Nat) (p : Int) : ∀ (f : Nat) (R : List (List Int)), (serTo k T n p f R).length ≤ f + 1
  | 0, _ => by simp [serTo]
  | f + 1, R => by
    rw [serTo]
    split
    · simp
    · have := length_serTo k T n p f (stepS k T n p R)
      simp only [List.length_cons]; omega
theorem serL_ne (k : Bool) (T : List Int) (n : Nat) (p : Int) : serL k T n p ≠ [] := serTo_ne _ _ _ _ _ _
theorem length_serL (k : Bool) (T : List Int) (n : Nat) (p : Int) : (serL k T n p).length ≤ n + 1 := length_serTo _ _ _ _ _ _
theorem serTo_ok {k : Bool} {T : List Int} {n : Nat} {p : Int} (hP : isPrime p = true) : ∀ (f : Nat) {R : List (List Int)}, SerOk k T n p R → ∀ S ∈ serTo k T n p f R, SerOk k T n p S
  | 0, R, h, S, hS => by simp only [serTo, List.mem_singleton] at hS; exact hS ▸ h
  | f + 1, R, h, S, hS => by
    rw [serTo] at hS
    split at hS
    · simp only [List.mem_singleton] at hS; exact hS ▸ h
    · rcases List.mem_cons.1 hS with rfl | hS
      · exact h
      · exact serTo_ok hP f (h.next hP) S hS

/-- A space as a matrix. -/
def spMt (p : Int) (n : Nat) (R : List (List Int)) : Mt := ⟨p, R.length, n, flat n R⟩
def serMs (p : Int) (n : Nat) (l : List (List (List Int))) : List Mt := l.map (spMt p n)
end
end Go.Proofs.Ytechjmckfedblaa
