/- The reference's l1Span. The program's product of two spaces. The reference's product of two spaces. The series of an algebra as lists of spaces, and why they end. Spaces that grow by their brackets until they do not grow any more. -/
import Derived.Test.YtbnefjhljfbecaaL1Reduce
import Derived.Test.YtbnefjhljfbecaaSpace2
import Derived.Test.YtbnefjhljfbecaaAdjA
import Derived.Test.YtbnefjhljfbecaaArith
import Derived.Test.YtbnefjhljfbecaaAlgA
namespace Go.Proofs.Ytbnefjhljfbecaa
set_option maxRecDepth 100000
section
open Go.RowKit

/-- Two pieces at once. -/
theorem St.join {w0 w w' : World} {L M : List It} (h : St w0 w L) (h2 : St w w' M) (hm : ∀ x ∈ M, x.ok w0.heap.size w') : St w0 w' (M ++ L) := by
  have h' := h.on h2.below
  have low : ∀ (i : Nat) (y : It) (b : Nat), L[i]? = some y → b ∈ y.fp → b < w.heap.size := fun i y b hy hb => (It.ok_lt (h.at i hy) b hb).2
  have high : ∀ (i : Nat) (y : It) (b : Nat), M[i]? = some y → b ∈ y.fp → w.heap.size ≤ b := fun i y b hy hb => (It.ok_lt (h2.at i hy) b hb).1
  refine ⟨h'.below, fun x hx => ?_, fun i j x y hx hy b h3 h4 => ?_, fun x hx => ?_⟩
  · rcases List.mem_append.1 hx with hx | hx
    · exact hm x hx
    · exact h'.ok x hx
  · rw [List.getElem?_append] at hx hy
    split at hx
    · split at hy
      · exact h2.apart i j x y hx hy b h3 h4
      · have := high i x b hx h3
        have := low _ y b hy h4
        omega
    · split at hy
      · have := low _ x b hx h3
        have := high j y b hy h4
        omega
      · have := h.apart _ _ x y hx hy b h3 h4
        omega
  · rcases List.mem_append.1 hx with hx | hx
    · exact h2.nodup x hx
    · exact h.nodup x hx
theorem St.pushTwo {w0 w w' : World} {L : List It} (h : St w0 w L) {v u : Value} {l m : List Int} (h2 : St w w' [.own v l, .own u m]) : St w0 w' (.own v l :: .own u m :: L) :=
  h.join h2 fun x hx => by
    simp only [List.mem_cons, List.not_mem_nil, or_false] at hx
    rcases hx with rfl | rfl
    · exact Own.mono (h2.own 0 rfl) h.size
    · exact Own.mono (h2.own 1 rfl) h.size

end
section
section
open Go.RowKit

/-- The brackets of the rows, row by row: those of the first i rows, and the first j of the next. -/
def prodTo (T : List Int) (n : Nat) (p : Int) (S : List Int) (rt : Nat) (U : List Int) (i j : Nat) : List (List Int) :=
  ((List.range i).flatMap fun a => (List.range rt).map fun b => braL T (rowM n S a) (rowM n U b) n p) ++ (List.range j).map fun b => braL T (rowM n S i) (rowM n U b) n p
def prodL (T : List Int) (n : Nat) (p : Int) (rs : Nat) (S : List Int) (rt : Nat) (U : List Int) : List (List Int) := prodTo T n p S rt U rs 0
theorem prodTo_zero (T : List Int) (n : Nat) (p : Int) (S : List Int) (rt : Nat) (U : List Int) : prodTo T n p S rt U 0 0 = [] := rfl
theorem prodTo_col (T : List Int) (n : Nat) (p : Int) (S : List Int) (rt : Nat) (U : List Int) (i j : Nat) : prodTo T n p S rt U i (j + 1) = prodTo T n p S rt U i j ++ [braL T (rowM n S i) (rowM n U j) n p] := by
  simp [prodTo, List.range_succ]
theorem prodTo_row (T : List Int) (n : Nat) (p : Int) (S : List Int) (rt : Nat) (U : List Int) (i : Nat) : prodTo T n p S rt U i rt = prodTo T n p S rt U (i + 1) 0 := by
  simp [prodTo, List.range_succ]
theorem length_prodTo (T : List Int) (n : Nat) (p : Int) (S : List Int) (rt : Nat) (U : List Int) (i j : Nat) : (prodTo T n p S rt U i j).length = i * rt + j := by
  induction i generalizing j with
  | zero => simp [prodTo]
  | succ i ih =>
    have := ih rt
    rw [prodTo_row] at this
    have e : (prodTo T n p S rt U (i + 1) j).length = (prodTo T n p S rt U (i + 1) 0).length + j := by simp [prodTo]
    rw [e, this, Nat.add_mul]; omega
theorem mem_prodTo {T : List Int} {n : Nat} {p : Int} {S : List Int} {rt : Nat} {U : List Int} {i j : Nat} {l : List Int} (h : l ∈ prodTo T n p S rt U i j) : ∃ a b, l = braL T (rowM n S a) (rowM n U b) n p := by
  simp only [prodTo, List.mem_append, List.mem_flatMap, List.mem_map] at h
  rcases h with ⟨a, _, b, _, rfl⟩ | ⟨b, _, rfl⟩
  · exact ⟨a, b, rfl⟩
  · exact ⟨i, b, rfl⟩
theorem Wf_prodTo {T : List Int} {n : Nat} {p : Int} (hp : 2 ≤ p) (S : List Int) (rt : Nat) (U : List Int) (i j : Nat) : Wf p n (prodTo T n p S rt U i j) := by
  intro k hk
  have hm : rowOf (prodTo T n p S rt U i j) k ∈ prodTo T n p S rt U i j := by rw [← rowOf_eq hk]; exact List.getElem_mem hk
  obtain ⟨a, b, e⟩ := mem_prodTo hm
  rw [e]
  exact ⟨length_braL _ _ _ _ _, resid_braL _ _ _ _ hp⟩

end
section
open Go.RowKit

end
end
section
section
open Go.RowKit

/-- The bracket of two vectors, not reduced. -/
def bF (T : List Int) (n : Nat) (f g : Nat → Int) (k : Nat) : Int := sumTo n fun a => sumTo n fun b => f a * g b * t3 T n a b k
theorem bF_left (T : List Int) (n : Nat) (f f' g : Nat → Int) (k : Int) (c : Nat) : bF T n (fun a => f a + k * f' a) g c = bF T n f g c + k * bF T n f' g c := by
  unfold bF
  rw [← sumTo_mul, ← sumTo_add]
  refine sumTo_congr fun a _ => ?_
  rw [← sumTo_mul, ← sumTo_add]
  refine sumTo_congr fun b _ => ?_
  grind
theorem bF_right (T : List Int) (n : Nat) (f g g' : Nat → Int) (k : Int) (c : Nat) : bF T n f (fun a => g a + k * g' a) c = bF T n f g c + k * bF T n f g' c := by
  unfold bF
  rw [← sumTo_mul, ← sumTo_add]
  refine sumTo_congr fun a _ => ?_
  rw [← sumTo_mul, ← sumTo_add]
  refine sumTo_congr fun b _ => ?_
  grind
theorem bF_zero_left (T : List Int) (n : Nat) (g : Nat → Int) (c : Nat) : bF T n (fun _ => 0) g c = 0 := by
  unfold bF
  rw [sumTo_congr (g := fun _ => 0) (fun a _ => by rw [sumTo_congr (g := fun _ => 0) (fun b _ => by simp), sumTo_zero]), sumTo_zero]
theorem bF_zero_right (T : List Int) (n : Nat) (f : Nat → Int) (c : Nat) : bF T n f (fun _ => 0) c = 0 := by
  unfold bF
  rw [sumTo_congr (g := fun _ => 0) (fun a _ => by rw [sumTo_congr (g := fun _ => 0) (fun b _ => by simp), sumTo_zero]), sumTo_zero]
theorem bF_mod_left (T : List Int) (n : Nat) (p : Int) (f f' g : Nat → Int) (h : ∀ c, c < n → ∃ u, f c - f' c = p * u) (c : Nat) : ∃ u, bF T n f g c - bF T n f' g c = p * u := by
  refine ⟨bF T n (fun a => (f a - f' a) / p) g c, ?_⟩
  have e : bF T n f g c - bF T n f' g c = bF T n (fun a => f a + (-1) * f' a) g c := by rw [bF_left]; omega
  rw [e]
  unfold bF
  rw [← sumTo_mul]
  refine sumTo_congr fun a ha => ?_
  rw [← sumTo_mul]
  refine sumTo_congr fun b _ => ?_
  obtain ⟨u, hu⟩ := h a ha
  have hq : f a + -1 * f' a = p * ((f a - f' a) / p) := by
    rw [Int.mul_ediv_cancel_of_dvd ⟨u, hu⟩]; omega
  show (f a + -1 * f' a) * g b * t3 T n a b c = p * ((f a - f' a) / p * g b * t3 T n a b c)
  rw [hq]
  grind
theorem bF_mod_right (T : List Int) (n : Nat) (p : Int) (f g g' : Nat → Int) (h : ∀ c, c < n → ∃ u, g c - g' c = p * u) (c : Nat) : ∃ u, bF T n f g c - bF T n f g' c = p * u := by
  refine ⟨bF T n f (fun a => (g a - g' a) / p) c, ?_⟩
  have e : bF T n f g c - bF T n f g' c = bF T n f (fun a => g a + (-1) * g' a) c := by rw [bF_right]; omega
  rw [e]
  unfold bF
  rw [← sumTo_mul]
  refine sumTo_congr fun a _ => ?_
  rw [← sumTo_mul]
  refine sumTo_congr fun b hb => ?_
  obtain ⟨u, hu⟩ := h b hb
  have hq : g b + -1 * g' b = p * ((g b - g' b) / p) := by
    rw [Int.mul_ediv_cancel_of_dvd ⟨u, hu⟩]; omega
  show f a * (g b + -1 * g' b) * t3 T n a b c = p * (f a * ((g b - g' b) / p) * t3 T n a b c)
  rw [hq]
  grind
/-- The brackets of two families of rows. -/
def brR (T : List Int) (n : Nat) (p : Int) (R S : List (List Int)) : List (List Int) := prodL T n p R.length (flat n R) S.length (flat n S)
theorem brR_mem {T : List Int} {n : Nat} {p : Int} {R S : List (List Int)} (hR : Wf p n R) (hS : Wf p n S) {i j : Nat} (hi : i < R.length) (hj : j < S.length) : braL T (rowOf R i) (rowOf S j) n p ∈ brR T n p R S := by
  unfold brR prodL prodTo
  refine List.mem_append_left _ (List.mem_flatMap.2 ⟨i, List.mem_range.2 hi, List.mem_map.2 ⟨j, List.mem_range.2 hj, ?_⟩⟩)
  rw [rowM_flat hi (hR i hi).1, rowM_flat hj (hS j hj).1]
theorem brR_row {T : List Int} {n : Nat} {p : Int} {R S : List (List Int)} (hR : Wf p n R) (hS : Wf p n S) {l : List Int} (h : l ∈ brR T n p R S) : ∃ i j, i < R.length ∧ j < S.length ∧ l = braL T (rowOf R i) (rowOf S j) n p := by
  unfold brR prodL prodTo at h
  simp only [List.mem_append, List.mem_flatMap, List.mem_map, List.mem_range, List.range_zero, List.map_nil, List.not_mem_nil, or_false] at h
  obtain ⟨i, hi, j, hj, rfl⟩ := h
  exact ⟨i, j, hi, hj, by rw [rowM_flat hi (hR i hi).1, rowM_flat hj (hS j hj).1]⟩
theorem Wf_brR {T : List Int} {n : Nat} {p : Int} (hp : 2 ≤ p) (R S : List (List Int)) : Wf p n (brR T n p R S) := Wf_prodTo hp _ _ _ _ _
theorem sp_mem {p : Int} {n : Nat} {R : List (List Int)} {l : List Int} (h : l ∈ R) : Sp p n R (vec l) := by
  obtain ⟨i, hi, rfl⟩ := List.mem_iff_getElem.1 h
  rw [rowOf_eq hi]
  exact .row i hi
theorem brR_bra {T : List Int} {n : Nat} {p : Int} {R S : List (List Int)} (hR : Wf p n R) (hS : Wf p n S) {f g : Nat → Int} (hf : Sp p n R f) (hg : Sp p n S g) : Sp p n (brR T n p R S) (bF T n f g) := by
  induction hf with
  | row i hi =>
    induction hg with
    | row j hj =>
      refine (sp_mem (brR_mem hR hS hi hj)).congr fun c hc => ?_
      rw [braL, vec_tab hc]
      obtain ⟨u, hu⟩ := emod_dvd (p := p) (a := bra1 T (rowOf R i) (rowOf S j) n n c)
      refine ⟨-u, ?_⟩
      show _ - bra1 T (rowOf R i) (rowOf S j) n n c = _
      grind
    | zero => exact Sp.zero.eqOn fun c _ => bF_zero_right _ _ _ _
    | comb k _ _ h1 h2 => exact (Sp.comb k h1 h2).eqOn fun c _ => bF_right _ _ _ _ _ _ _
    | congr _ h h1 => exact h1.congr fun c _ => bF_mod_right _ _ _ _ _ _ h c
  | zero => exact Sp.zero.eqOn fun c _ => bF_zero_left _ _ _ _
  | comb k _ _ h1 h2 => exact (Sp.comb k h1 h2).eqOn fun c _ => bF_left _ _ _ _ _ _ _
  | congr _ h h1 => exact h1.congr fun c _ => bF_mod_left _ _ _ _ _ _ h c
/-- Brackets of elements of two spaces lie in the product. -/
theorem brR_sub {T : List Int} {n : Nat} {p : Int} {R S R' S' : List (List Int)} (hR : Wf p n R) (hS : Wf p n S) (hR' : Wf p n R') (hS' : Wf p n S') (h1 : ∀ i, i < R'.length → Sp p n R (vec (rowOf R' i))) (h2 : ∀ i, i < S'.length → Sp p n S (vec (rowOf S' i))) {i : Nat} (hi : i < (brR T n p R' S').length) :
    Sp p n (brR T n p R S) (vec (rowOf (brR T n p R' S') i)) := by
  obtain ⟨a, b, ha, hb, e⟩ := brR_row hR' hS' (List.getElem_mem hi)
  rw [rowOf_eq hi] at e
  rw [e]
  refine (brR_bra hR hS (h1 a ha) (h2 b hb)).congr fun c hc => ?_
  rw [braL, vec_tab hc]
  obtain ⟨u, hu⟩ := emod_dvd (p := p) (a := bra1 T (rowOf R' a) (rowOf S' b) n n c)
  exact ⟨u, hu⟩

theorem length_le_of_nodup : ∀ {a b : List Nat}, a.Nodup → (∀ c, c ∈ a → c ∈ b) → a.length ≤ b.length
  | [], _, _, _ => Nat.zero_le _
  | x :: a, b, hn, h => by
    rw [List.nodup_cons] at hn
    have hx := h x (by simp)
    have := length_le_of_nodup (a := a) (b := b.erase x) hn.2 fun c hc => (List.mem_erase_of_ne (fun e => hn.1 (by rw [← e]; exact hc))).2 (h c (by simp [hc]))
    rw [List.length_erase_of_mem hx] at this
    have hb : 0 < b.length := List.length_pos_of_mem hx
    simp only [List.length_cons]
    omega
theorem Rf.nodup {p : Int} {n : Nat} {R : List (List Int)} {a : List Nat} (h : Rf p n R a) : a.Nodup := by
  refine List.Pairwise.imp (R := (· < ·)) (fun h => by omega) ?_
  rw [List.pairwise_iff_getElem]
  intro i j hi hj hij
  have := h.mono i j hij hj
  have e1 := pv_get hi
  have e2 := pv_get hj
  rw [List.getElem?_eq_getElem hi] at e1
  rw [List.getElem?_eq_getElem hj] at e2
  simp only [Option.some.injEq] at e1 e2
  omega
/-- A space in another one has no more rows. -/
theorem Rf.length_le {p : Int} (hp : 2 ≤ p) {n : Nat} {R S : List (List Int)} {a b : List Nat} (h1 : Rf p n R a) (h2 : Rf p n S b) (h : ∀ i, i < R.length → Sp p n S (vec (rowOf R i))) : R.length ≤ S.length := by
  rw [h1.len, h2.len]
  exact length_le_of_nodup h1.nodup (h1.pivSub hp h2 h)

/-- The rows of the unit matrix. -/
def uniR (n : Nat) : List (List Int) := rowsM n n (unitD n)
theorem vec_unitTo (n : Nat) : ∀ (k a b : Nat), k ≤ n → a < n → b < n → vec (unitTo n k) (a * n + b) = if a = b ∧ a < k then 1 else 0
  | 0, a, b, _, ha, hb => by
    simp [unitTo, vec, List.getD_eq_getElem?_getD, List.getElem?_replicate]; split <;> rfl
  | k + 1, a, b, hk, ha, hb => by
    have hlt : k * n + k < (unitTo n k).length := by
      rw [length_unitTo]
      have : k * n + n ≤ n * n := by rw [← Nat.succ_mul]; exact Nat.mul_le_mul_right n hk
      omega
    rw [unitTo, vec_set hlt, vec_unitTo n k a b (by omega) ha hb]
    by_cases e : a = k ∧ b = k
    · rw [e.1, e.2, if_pos rfl, if_pos ⟨rfl, by omega⟩]
    · have hne : a * n + b ≠ k * n + k := by
        intro h
        have h1 : a = k := by
          have : (a * n + b) / n = (k * n + k) / n := by rw [h]
          rw [Nat.add_comm (k * n), Nat.add_comm (a * n), Nat.add_mul_div_right _ _ (by omega), Nat.add_mul_div_right _ _ (by omega), Nat.div_eq_of_lt (show k < n by omega), Nat.div_eq_of_lt hb] at this
          omega
        subst h1
        omega
      rw [if_neg hne]
      by_cases e1 : a = b
      · subst e1
        have : a ≠ k := fun h => e ⟨h, h⟩
        by_cases e2 : a < k
        · rw [if_pos ⟨rfl, e2⟩, if_pos ⟨rfl, by omega⟩]
        · rw [if_neg (by omega), if_neg (by omega)]
      · rw [if_neg (fun h => e1 h.1), if_neg (fun h => e1 h.1)]
theorem length_uniR (n : Nat) : (uniR n).length = n := length_rowsM _ _ _
theorem vec_uniR {n a b : Nat} (ha : a < n) (hb : b < n) : vec (rowOf (uniR n) a) b = if a = b then 1 else 0 := by
  rw [uniR, rowOf_rowsM ha, rowM, vec_tab hb, unitD, vec_unitTo n n a b (Nat.le_refl _) ha hb]
  by_cases e : a = b
  · rw [if_pos ⟨e, ha⟩, if_pos e]
  · rw [if_neg (fun h => e h.1), if_neg e]
theorem Wf_uniR {p : Int} (hp : 2 ≤ p) (n : Nat) : Wf p n (uniR n) := Wf_rowsM (by omega) (resid_unitD hp n)
theorem flat_uniR (n : Nat) : flat n (uniR n) = unitD n := flat_rowsM (length_unitD n)
theorem pv_range {n i : Nat} (h : i < n) : pv (List.range n) i = i := by simp [pv, List.getD_eq_getElem?_getD, h]
theorem Rf_uniR {p : Int} (hp : 2 ≤ p) (n : Nat) : Rf p n (uniR n) (List.range n) where
  len := by rw [length_uniR, List.length_range]
  wf := Wf_uniR hp n
  lt i hi := by rw [List.length_range] at hi; rw [pv_range hi]; exact hi
  mono i j hij hj := by rw [List.length_range] at hj; rw [pv_range hj, pv_range (by omega)]; exact hij
  one i hi := by rw [List.length_range] at hi; rw [pv_range hi, vec_uniR hi hi, if_pos rfl]
  off i j hi hj hij := by rw [List.length_range] at hi hj; rw [pv_range hi, vec_uniR hj hi, if_neg (fun e => hij e.symm)]
  lead i c hi hc := by rw [List.length_range] at hi; rw [pv_range hi] at hc; rw [vec_uniR hi (by omega), if_neg (by omega)]
/-- Everything lies in the whole space. -/
theorem sp_uniR (p : Int) (n : Nat) (f : Nat → Int) : Sp p n (uniR n) f := by
  have key : ∀ k, k ≤ n → Sp p n (uniR n) (fun c => sumTo k fun i => f i * vec (rowOf (uniR n) i) c) := by
    intro k
    induction k with
    | zero => intro _; exact Sp.zero.eqOn fun _ _ => rfl
    | succ k ih => intro hk; exact (Sp.comb (f k) (ih (by omega)) (.row k (by rw [length_uniR]; omega))).eqOn fun c _ => rfl
  refine (key n (Nat.le_refl _)).eqOn fun c hc => ?_
  rw [sumTo_congr (g := fun i => if i = c then f i else 0) (fun i hi => by rw [vec_uniR hi hc]; by_cases e : i = c <;> simp [e]), sumTo_single hc]

/-- One step of the derived (false) or the lower (true) series. -/
def stepS (k : Bool) (T : List Int) (n : Nat) (p : Int) (R : List (List Int)) : List (List Int) :=
  spanL p n (if k then brR T n p (uniR n) R else brR T n p R R)
/-- What holds of each space of a series. -/
structure SerOk (k : Bool) (T : List Int) (n : Nat) (p : Int) (R : List (List Int)) : Prop where
  rf : ∃ a, Rf p n R a
  sub : ∀ i, i < (stepS k T n p R).length → Sp p n R (vec (rowOf (stepS k T n p R) i))
theorem SerOk.wf {k : Bool} {T : List Int} {n : Nat} {p : Int} {R : List (List Int)} (h : SerOk k T n p R) : Wf p n R := by
  obtain ⟨a, ha⟩ := h.rf; exact ha.wf
theorem SerOk.le_n {k : Bool} {T : List Int} {n : Nat} {p : Int} (hp : 2 ≤ p) {R : List (List Int)} (h : SerOk k T n p R) : R.length ≤ n := by
  obtain ⟨a, ha⟩ := h.rf
  have := ha.length_le hp (Rf_uniR hp n) fun _ _ => sp_uniR _ _ _
  rwa [length_uniR] at this
theorem SerOk.start (k : Bool) (T : List Int) (n : Nat) {p : Int} (hp : 2 ≤ p) : SerOk k T n p (uniR n) := ⟨⟨_, Rf_uniR hp n⟩, fun _ _ => sp_uniR _ _ _⟩
theorem Wf_stepArg (k : Bool) (T : List Int) (n : Nat) {p : Int} (hp : 2 ≤ p) (R : List (List Int)) : Wf p n (if k then brR T n p (uniR n) R else brR T n p R R) := by
  split <;> exact Wf_brR hp _ _
theorem SerOk.next {k : Bool} {T : List Int} {n : Nat} {p : Int} (hP : isPrime p = true) {R : List (List Int)} (h : SerOk k T n p R) : SerOk k T n p (stepS k T n p R) := by
  have hp := (isPrime_bd hP).1
  have hrf : Rf p n (stepS k T n p R) (pivL p n (if k then brR T n p (uniR n) R else brR T n p R R)) := spanL_rf hP (Wf_stepArg k T n hp R)
  refine ⟨⟨_, hrf⟩, fun i hi => ?_⟩
  refine (spanL_in hP (Wf_stepArg k T n hp _) i hi).trans fun j hj => ?_
  refine Sp.trans (R := if k then brR T n p (uniR n) R else brR T n p R R) ?_ fun q hq => spanL_out hP (Wf_stepArg k T n hp R) q hq
  cases k with
  | true => exact brR_sub (Wf_uniR hp n) h.wf (Wf_uniR hp n) hrf.wf (fun _ _ => sp_uniR _ _ _) h.sub hj
  | false => exact brR_sub h.wf h.wf hrf.wf hrf.wf h.sub h.sub hj
theorem SerOk.le {k : Bool} {T : List Int} {n : Nat} {p : Int} (hP : isPrime p = true) {R : List (List Int)} (h : SerOk k T n p R) : (stepS k T n p R).length ≤ R.length := by
  obtain ⟨a, ha⟩ := h.rf
  obtain ⟨b, hb⟩ := (h.next hP).rf
  exact hb.length_le (isPrime_bd hP).1 ha h.sub

/-- The series from a space on. -/
def serTo (k : Bool) (T : List Int) (n : Nat) (p : Int) : Nat → List (List Int) → List (List (List Int))
  | 0, R => [R]
  | f + 1, R => if (stepS k T n p R).length = R.length then [R] else R :: serTo k T n p f (stepS k T n p R)
def serL (k : Bool) (T : List Int) (n : Nat) (p : Int) : List (List (List Int)) := serTo k T n p n (uniR n)
theorem serTo_stop {k : Bool} {T : List Int} {n : Nat} {p : Int} {R : List (List Int)} (h : (stepS k T n p R).length = R.length) (f : Nat) : serTo k T n p f R = [R] := by
  cases f with
  | zero => rfl
  | succ f => rw [serTo, if_pos h]
theorem serTo_go {k : Bool} {T : List Int} {n : Nat} {p : Int} (hP : isPrime p = true) {R : List (List Int)} (hok : SerOk k T n p R) (h : (stepS k T n p R).length ≠ R.length) : ∀ (f : Nat), R.length ≤ f → serTo k T n p f R = R :: serTo k T n p (f - 1) (stepS k T n p R)
  | 0, hf => by have := hok.le hP; omega
  | f + 1, _ => by rw [serTo, if_neg h]; rfl
theorem serTo_fuel {k : Bool} {T : List Int} {n : Nat} {p : Int} (hP : isPrime p = true) : ∀ (f g : Nat) {R : List (List Int)}, SerOk k T n p R → R.length ≤ f → R.length ≤ g → serTo k T n p f R = serTo k T n p g R
  | 0, g, R, hok, hf, hg => by
    have := hok.le hP
    have h : (stepS k T n p R).length = R.length := by omega
    rw [serTo_stop h, serTo_stop h]
  | f + 1, g, R, hok, hf, hg => by
    by_cases h : (stepS k T n p R).length = R.length
    · rw [serTo_stop h, serTo_stop h]
    · have := hok.le hP
      rw [serTo_go hP hok h _ hf, serTo_go hP hok h _ hg, Nat.add_sub_cancel]
      rw [serTo_fuel hP f (g - 1) (hok.next hP) (by omega) (by omega)]
/-- The state of a run: what has been found, what comes. -/
structure SerAt (k : Bool) (T : List Int) (n : Nat) (p : Int) (pre : List (List (List Int))) (R : List (List Int)) : Prop where
  ok : SerOk k T n p R
  all : pre ++ serTo k T n p R.length R = serL k T n p
  len : pre.length + R.length ≤ n
theorem SerAt.start (k : Bool) (T : List Int) (n : Nat) {p : Int} (hP : isPrime p = true) : SerAt k T n p [] (uniR n) :=
  ⟨.start k T n (isPrime_bd hP).1, by rw [length_uniR]; rfl, by rw [length_uniR]; simp⟩
theorem SerAt.stop {k : Bool} {T : List Int} {n : Nat} {p : Int} {pre : List (List (List Int))} {R : List (List Int)} (h : SerAt k T n p pre R) (e : (stepS k T n p R).length = R.length) : pre ++ [R] = serL k T n p := by
  rw [← h.all, serTo_stop e]
theorem SerAt.next {k : Bool} {T : List Int} {n : Nat} {p : Int} (hP : isPrime p = true) {pre : List (List (List Int))} {R : List (List Int)} (h : SerAt k T n p pre R) (e : (stepS k T n p R).length ≠ R.length) :
    SerAt k T n p (pre ++ [R]) (stepS k T n p R) ∧ (stepS k T n p R).length < R.length := by
  have hle := h.ok.le hP
  refine ⟨⟨h.ok.next hP, ?_, ?_⟩, by omega⟩
  · rw [← h.all, serTo_go hP h.ok e _ (Nat.le_refl _), List.append_assoc]
    rw [serTo_fuel hP (R.length - 1) (stepS k T n p R).length (h.ok.next hP) (by omega) (Nat.le_refl _)]
    rfl
  · have := h.len
    rw [List.length_append, List.length_singleton]
    omega
theorem serTo_ne (k : Bool) (T : List Int) (n : Nat) (p : Int) (f : Nat) (R : List (List Int)) : serTo k T n p f R ≠ [] := by
  cases f with
  | zero => simp [serTo]
  | succ f => rw [serTo]; split <;> simp
theorem length_serTo (k : Bool) (T : List Int) (n : Nat) (p : Int) : ∀ (f : Nat) (R : List (List Int)), (serTo k T n p f R).length ≤ f + 1
  | 0, _ => by simp [serTo]
  | f + 1, R => by
    rw [serTo]
    split
    · simp
    · have := length_serTo k T n p f (stepS k T n p R)
      simp only [List.length_cons]; omega
theorem serL_ne (k : Bool) (T : List Int) (n : Nat) (p : Int) : serL k T n p ≠ [] := serTo_ne _ _ _ _ _ _
theorem length_serL (k : Bool) (T : List Int) (n : Nat) (p : Int) : (serL k T n p).length ≤ n + 1 := length_serTo _ _ _ _ _ _
theorem serTo_ok {k : Bool} {T : List Int} {n : Nat} {p : Int} (hP : isPrime p = true) : ∀ (f : Nat) {R : List (List Int)}, SerOk k T n p R → ∀ S ∈ serTo k T n p f R, SerOk k T n p S
  | 0, R, h, S, hS => by simp only [serTo, List.mem_singleton] at hS; exact hS ▸ h
  | f + 1, R, h, S, hS => by
    rw [serTo] at hS
    split at hS
    · simp only [List.mem_singleton] at hS; exact hS ▸ h
    · rcases List.mem_cons.1 hS with rfl | hS
      · exact h
      · exact serTo_ok hP f (h.next hP) S hS

/-- A space as a matrix. -/
def spMt (p : Int) (n : Nat) (R : List (List Int)) : Mt := ⟨p, R.length, n, flat n R⟩
def serMs (p : Int) (n : Nat) (l : List (List (List Int))) : List Mt := l.map (spMt p n)
end
end
section
open Go.RowKit

/-- A space in another one with no more rows is the other one. -/
theorem Rf.eq_len {p : Int} (hp : 2 ≤ p) {n : Nat} {R S : List (List Int)} {a b : List Nat} (h1 : Rf p n R a) (h2 : Rf p n S b) (h : ∀ i, i < R.length → Sp p n S (vec (rowOf R i))) (e : S.length ≤ R.length) : R = S := by
  have hab := h1.pivSub hp h2 h
  have hpm := perm_of_sub a b h1.nodup hab (by rw [← h1.len, ← h2.len]; exact e)
  refine (h1.unique hp h2 h fun i hi => ?_).1
  have key : ∀ m, m ≤ a.length → Sp p n R (fun c => sumTo m fun k => vec (rowOf S i) (pv a k) * vec (rowOf R k) c) := by
    intro m
    induction m with
    | zero => intro _; exact Sp.zero.eqOn fun _ _ => rfl
    | succ m ih => intro hm; exact (Sp.comb (vec (rowOf S i) (pv a m)) (ih (by omega)) (.row m (by rw [h1.len]; omega))).eqOn fun c _ => rfl
  have hR := key a.length (Nat.le_refl _)
  have hn := h2.nil (Sp.comb (-1) (.row i hi) (hR.trans h)) fun j hj => by
    obtain ⟨k, hk, hk2⟩ := mem_pv (hpm.mem_iff.2 (pv_mem hj))
    refine ⟨0, ?_⟩
    rw [← hk2, sumTo_congr (g := fun l => if l = k then vec (rowOf S i) (pv a l) else 0) (fun l hl => by
      by_cases e : l = k
      · rw [if_pos e, e, h1.one k hk, Int.mul_one]
      · rw [if_neg e, h1.off k l hk hl (fun h => e h.symm), Int.mul_zero]), sumTo_single hk (fun l => vec (rowOf S i) (pv a l))]
    omega
  refine hR.congr fun c hc => ?_
  obtain ⟨u, hu⟩ := hn c hc
  exact ⟨-u, by grind⟩

/-- Brackets change their sign. -/
def AntiT (p : Int) (n : Nat) (T : List Int) : Prop := ∀ a b c, a < n → b < n → c < n → ∃ u, t3 T n a b c + t3 T n b a c = p * u
theorem anti_of {p : Int} {n : Nat} {T : List Int} (h : algOk p n T = true) : AntiT p n T := by
  have ht : tableS T n p = true := by
    simp only [algOk, Bool.and_eq_true, decide_eq_true_eq] at h
    obtain ⟨_, _, _, _, h5⟩ := h
    rwa [Int.toNat_natCast, table_eq] at h5
  have key : ∀ a b c, b ≤ a → a < n → c < n → ∃ u, t3 T n a b c + t3 T n b a c = p * u := fun a b c hb ha hc => by
    unfold tableS at ht
    rw [Bool.and_eq_true] at ht
    have h1 := (allF_iff _ _ _).1 ht.1 a (Nat.zero_le _) (by omega)
    have h2 := (allF_iff _ _ _).1 h1 b (Nat.zero_le _) (by omega)
    have h3 := (allF_iff _ _ _).1 h2 c (Nat.zero_le _) (by omega)
    unfold pairS at h3
    rw [Bool.and_eq_true, beq_iff_eq] at h3
    obtain ⟨u, hu⟩ := Int.dvd_of_emod_eq_zero h3.2
    exact ⟨u, hu⟩
  intro a b c ha hb hc
  rcases Nat.le_total b a with h1 | h1
  · exact key a b c h1 ha hc
  · obtain ⟨u, hu⟩ := key b a c h1 hb hc
    exact ⟨u, by omega⟩
theorem bF_anti {p : Int} {n : Nat} {T : List Int} (h : AntiT p n T) (f g : Nat → Int) {c : Nat} (hc : c < n) : ∃ u, bF T n f g c + bF T n g f c = p * u := by
  refine ⟨sumTo n fun a => sumTo n fun b => f a * g b * ((t3 T n a b c + t3 T n b a c) / p), ?_⟩
  have e : bF T n g f c = sumTo n fun a => sumTo n fun b => f a * g b * t3 T n b a c := by
    unfold bF
    rw [sumTo_comm]
    exact sumTo_congr fun a _ => sumTo_congr fun b _ => by grind
  rw [e]
  unfold bF
  rw [← sumTo_add, ← sumTo_mul]
  refine sumTo_congr fun a ha => ?_
  rw [← sumTo_add, ← sumTo_mul]
  refine sumTo_congr fun b hb => ?_
  obtain ⟨u, hu⟩ := h a b c ha hb hc
  have hq : t3 T n a b c + t3 T n b a c = p * ((t3 T n a b c + t3 T n b a c) / p) := by
    rw [Int.mul_ediv_cancel_of_dvd ⟨u, hu⟩]
  show f a * g b * t3 T n a b c + f a * g b * t3 T n b a c = p * (f a * g b * ((t3 T n a b c + t3 T n b a c) / p))
  generalize (t3 T n a b c + t3 T n b a c) / p = q at hq ⊢
  rw [← Int.mul_add, hq]
  grind
/-- Brackets in the other order span the same. -/
theorem brR_anti {p : Int} {n : Nat} {T : List Int} (h : AntiT p n T) {R S : List (List Int)} (hR : Wf p n R) (hS : Wf p n S) {i : Nat} (hi : i < (brR T n p R S).length) : Sp p n (brR T n p S R) (vec (rowOf (brR T n p R S) i)) := by
  obtain ⟨a, b, ha, hb, e⟩ := brR_row hR hS (List.getElem_mem hi)
  rw [rowOf_eq hi] at e
  rw [e]
  refine ((brR_bra hS hR (.row b hb) (.row a ha)).mul (-1)).congr fun c hc => ?_
  rw [braL, vec_tab hc]
  obtain ⟨u, hu⟩ := bF_anti h (vec (rowOf R a)) (vec (rowOf S b)) hc
  obtain ⟨v, hv⟩ := emod_dvd (p := p) (a := bra1 T (rowOf R a) (rowOf S b) n n c)
  have hb1 : bra1 T (rowOf R a) (rowOf S b) n n c = bF T n (vec (rowOf R a)) (vec (rowOf S b)) c := rfl
  rw [hb1] at hv ⊢
  exact ⟨v - u, by grind⟩
theorem stepS_swap {p : Int} (hP : isPrime p = true) {n : Nat} {T : List Int} (h : AntiT p n T) {R : List (List Int)} (hR : Wf p n R) : spanL p n (brR T n p R (uniR n)) = stepS true T n p R := by
  have hp := (isPrime_bd hP).1
  exact (spanL_eq hP (Wf_brR hp _ _) (Wf_brR hp _ _) (fun i hi => brR_anti h hR (Wf_uniR hp n) hi) (fun i hi => brR_anti h (Wf_uniR hp n) hR hi)).1

theorem Wf.app {p : Int} {n : Nat} {R S : List (List Int)} (h1 : Wf p n R) (h2 : Wf p n S) : Wf p n (R ++ S) := by
  intro i hi
  rw [List.length_append] at hi
  by_cases e : i < R.length
  · rw [show rowOf (R ++ S) i = rowOf R i by simp [rowOf, List.getD_eq_getElem?_getD, List.getElem?_append_left e]]
    exact h1 i e
  · rw [show rowOf (R ++ S) i = rowOf S (i - R.length) by simp [rowOf, List.getD_eq_getElem?_getD, List.getElem?_append_right (show R.length ≤ i by omega)]]
    exact h2 _ (by omega)
theorem Wf.stepS {k : Bool} {T : List Int} {n : Nat} {p : Int} (hP : isPrime p = true) (R : List (List Int)) : Wf p n (stepS k T n p R) := (Wf_stepArg k T n (isPrime_bd hP).1 R).spanL hP
/-- One step of a closure: as a subalgebra (false) or as an ideal (true). -/
def cloNext (k : Bool) (T : List Int) (n : Nat) (p : Int) (R : List (List Int)) : List (List Int) := spanL p n (R ++ stepS k T n p R)
theorem cloNext_rf {k : Bool} {T : List Int} {n : Nat} {p : Int} (hP : isPrime p = true) {R : List (List Int)} (h : Wf p n R) : ∃ a, Rf p n (cloNext k T n p R) a := ⟨_, spanL_rf hP (h.app (Wf.stepS hP R))⟩
theorem rf_le_n {n : Nat} {p : Int} (hp : 2 ≤ p) {R : List (List Int)} {a : List Nat} (h : Rf p n R a) : R.length ≤ n := by
  have := h.length_le hp (Rf_uniR hp n) fun _ _ => sp_uniR _ _ _
  rwa [length_uniR] at this
theorem sp_app_left {p : Int} {n : Nat} {R S : List (List Int)} {f : Nat → Int} (h : Sp p n R f) : Sp p n (R ++ S) f := h.mono fun _ hl => List.mem_append_left _ hl
theorem cloNext_sup {k : Bool} {T : List Int} {n : Nat} {p : Int} (hP : isPrime p = true) {R : List (List Int)} (h : Wf p n R) (i : Nat) (hi : i < R.length) : Sp p n (cloNext k T n p R) (vec (rowOf R i)) :=
  (sp_app_left (.row i hi)).trans fun j hj => spanL_out hP (h.app (Wf.stepS hP R)) j hj
theorem cloNext_le {k : Bool} {T : List Int} {n : Nat} {p : Int} (hP : isPrime p = true) {R : List (List Int)} {a : List Nat} (h : Rf p n R a) : R.length ≤ (cloNext k T n p R).length := by
  obtain ⟨b, hb⟩ := cloNext_rf (k := k) (T := T) hP h.wf
  exact h.length_le (isPrime_bd hP).1 hb (cloNext_sup hP h.wf)
theorem cloNext_same {k : Bool} {T : List Int} {n : Nat} {p : Int} (hP : isPrime p = true) {R : List (List Int)} {a : List Nat} (h : Rf p n R a) (e : (cloNext k T n p R).length = R.length) : cloNext k T n p R = R := by
  obtain ⟨b, hb⟩ := cloNext_rf (k := k) (T := T) hP h.wf
  exact (h.eq_len (isPrime_bd hP).1 hb (cloNext_sup hP h.wf) (Nat.le_of_eq e)).symm

def cloTo (k : Bool) (T : List Int) (n : Nat) (p : Int) : Nat → List (List Int) → List (List Int)
  | 0, R => R
  | f + 1, R => if (cloNext k T n p R).length = R.length then R else cloTo k T n p f (cloNext k T n p R)
def cloL (k : Bool) (T : List Int) (n : Nat) (p : Int) (R : List (List Int)) : List (List Int) := cloTo k T n p n R
theorem cloTo_stop {k : Bool} {T : List Int} {n : Nat} {p : Int} {R : List (List Int)} (h : (cloNext k T n p R).length = R.length) (f : Nat) : cloTo k T n p f R = R := by
  cases f with
  | zero => rfl
  | succ f => rw [cloTo, if_pos h]
theorem cloTo_fuel {k : Bool} {T : List Int} {n : Nat} {p : Int} (hP : isPrime p = true) : ∀ (f g : Nat) {R : List (List Int)} {a : List Nat}, Rf p n R a → n - R.length ≤ f → n - R.length ≤ g → cloTo k T n p f R = cloTo k T n p g R
  | 0, g, R, a, hok, hf, hg => by
    obtain ⟨b, hb⟩ := cloNext_rf (k := k) (T := T) hP hok.wf
    have h1 := cloNext_le (k := k) (T := T) hP hok
    have h2 := rf_le_n (isPrime_bd hP).1 hb
    have h : (cloNext k T n p R).length = R.length := by omega
    rw [cloTo_stop h, cloTo_stop h]
  | f + 1, g, R, a, hok, hf, hg => by
    obtain ⟨b, hb⟩ := cloNext_rf (k := k) (T := T) hP hok.wf
    have h1 := cloNext_le (k := k) (T := T) hP hok
    have h2 := rf_le_n (isPrime_bd hP).1 hb
    by_cases h : (cloNext k T n p R).length = R.length
    · rw [cloTo_stop h, cloTo_stop h]
    · obtain ⟨g', rfl⟩ : ∃ g', g = g' + 1 := ⟨g - 1, by omega⟩
      rw [cloTo, cloTo, if_neg h, if_neg h]
      exact cloTo_fuel hP f g' hb (by omega) (by omega)
theorem cloTo_rf {k : Bool} {T : List Int} {n : Nat} {p : Int} (hP : isPrime p = true) : ∀ (f : Nat) {R : List (List Int)} {a : List Nat}, Rf p n R a → ∃ b, Rf p n (cloTo k T n p f R) b
  | 0, _, _, h => ⟨_, h⟩
  | f + 1, R, a, h => by
    rw [cloTo]
    split
    · exact ⟨_, h⟩
    · obtain ⟨b, hb⟩ := cloNext_rf (k := k) (T := T) hP h.wf
      exact cloTo_rf hP f hb
/-- A run of a closure's loop. -/
def CloRun (k : Bool) (T : List Int) (n : Nat) (p : Int) (R G : List (List Int)) : Prop := (∃ a, Rf p n R a) ∧ G = cloTo k T n p (n - R.length) R
theorem CloRun.start {k : Bool} {T : List Int} {n : Nat} {p : Int} (hP : isPrime p = true) {R : List (List Int)} {a : List Nat} (h : Rf p n R a) : CloRun k T n p R (cloL k T n p R) :=
  ⟨⟨_, h⟩, cloTo_fuel hP _ _ h (by omega) (by omega)⟩
theorem CloRun.stop {k : Bool} {T : List Int} {n : Nat} {p : Int} {R G : List (List Int)} (h : CloRun k T n p R G) (e : (cloNext k T n p R).length = R.length) : R = G := by
  rw [h.2, cloTo_stop e]
theorem CloRun.next {k : Bool} {T : List Int} {n : Nat} {p : Int} (hP : isPrime p = true) {R G : List (List Int)} (h : CloRun k T n p R G) (e : (cloNext k T n p R).length ≠ R.length) : CloRun k T n p (cloNext k T n p R) G ∧ R.length < (cloNext k T n p R).length ∧ (cloNext k T n p R).length ≤ n := by
  obtain ⟨⟨a, ha⟩, hG⟩ := h
  obtain ⟨b, hb⟩ := cloNext_rf (k := k) (T := T) hP ha.wf
  have h1 := cloNext_le (k := k) (T := T) hP ha
  have h2 := rf_le_n (isPrime_bd hP).1 hb
  refine ⟨⟨⟨b, hb⟩, ?_⟩, by omega, h2⟩
  rw [hG]
  obtain ⟨m, hm⟩ : ∃ m, n - R.length = m + 1 := ⟨n - R.length - 1, by omega⟩
  rw [hm, cloTo, if_neg e]
  exact cloTo_fuel hP _ _ hb (by omega) (by omega)
end
end Go.Proofs.Ytbnefjhljfbecaa
