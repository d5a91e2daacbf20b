import Derived.Test.YtbnefjhljfbecaaGreatDoorW07
import Derived.Test.YtbnefjhljfbecaaGreatDoorW37
namespace Go.Proofs.YtbnefjhljfbecaaGreatDoor
set_option maxRecDepth 100000
section
open Go.RowKit
def Eig (p : Int) (n : Nat) (A : List Int) (m : Int) (f : Nat → Int) : Prop := ∀ c, c < n → ∃ u, sumTo n (fun j => f j * vec A (j * n + c)) - m * f c = p * u
theorem Eig.sp {p : Int} {n : Nat} {A : List Int} {m : Int} {R : List (List Int)} {f : Nat → Int} (h : ∀ i, i < R.length → Eig p n A m (vec (rowOf R i))) (hf : Sp p n R f) : Eig p n A m f := by
 induction hf with
 | row i hi => exact h i hi
 | zero => exact fun c _ => ⟨0, by
   rw [sumTo_congr (g := fun _ => 0) (fun j _ => by simp), sumTo_zero]; simp⟩
 | comb k _ _ h1 h2 =>
  rename_i f g _ _
  intro c hc
  obtain ⟨u, hu⟩ := h1 c hc
  obtain ⟨v, hv⟩ := h2 c hc
  refine ⟨u + k * v, ?_⟩
  have e : sumTo n (fun j => (f j + k * g j) * vec A (j * n + c)) = sumTo n (fun j => f j * vec A (j * n + c)) + k * sumTo n (fun j => g j * vec A (j * n + c)) := by
   rw [← sumTo_mul, ← sumTo_add]; exact sumTo_congr fun j _ => by grind
  rw [e]; grind
 | congr _ h0 h1 =>
  rename_i f g _
  intro c hc
  obtain ⟨u, hu⟩ := h1 c hc
  obtain ⟨v, hv⟩ := h0 c hc
  obtain ⟨x, hx⟩ := sumTo_dvd (p := p) (n := n) (a := fun j => g j * vec A (j * n + c) + (-1) * (f j * vec A (j * n + c))) fun j hj => by
   obtain ⟨y, hy⟩ := h0 j hj
   exact ⟨-(y * vec A (j * n + c)), by grind⟩
  rw [sumTo_add, sumTo_mul] at hx
  exact ⟨x + u + m * v, by grind⟩
def subD (p : Int) (n : Nat) (A : List Int) (m : Int) : List Int := addL A 1 (scaleR p ((0 - m) % p) (unitD n)) p
def eigS (p : Int) (n : Nat) (A : List Int) (S : List (List Int)) (m : Int) : List (List Int) := meetL p n S (kerL p n (colR n (subD p n A m)))
theorem length_subD {p : Int} {n : Nat} {A : List Int} (m : Int) (hA : A.length = n * n) : (subD p n A m).length = n * n := by
 rw [subD, length_addL _ _ _ _ (by rw [length_scaleR, length_unitD, hA]), hA]
theorem resid_subD {p : Int} (hp : 0 < p) (n : Nat) (A : List Int) (m : Int) : resid p (subD p n A m) = true := resid_addL _ _ _ _ hp
theorem vec_unitD' {n a b : Nat} (ha : a < n) (hb : b < n) : vec (unitD n) (a * n + b) = if a = b then 1 else 0 := by
 rw [← flat_uniR, vec_flat (by rw [length_uniR]; exact ha) hb, vec_uniR ha hb]
theorem vec_subD {p : Int} (_hp : 0 < p) {n : Nat} {A : List Int} (m : Int) (hA : A.length = n * n) {a b : Nat} (ha : a < n) (hb : b < n) : ∃ u, vec (subD p n A m) (a * n + b) - (vec A (a * n + b) - if a = b then m else 0) = p * u := by
 have hq := spot_lt ha hb
 rw [subD, vec_addLq (by rw [length_scaleR, length_unitD, hA]) (by rw [hA]; exact hq), vec_scaleR (by rw [length_unitD]; exact hq), vec_unitD' ha hb]
 obtain ⟨y, hy⟩ := emod_dvd (p := p) (a := vec A (a * n + b) + 1 * ((if a = b then 1 else 0) * ((0 - m) % p) % p))
 obtain ⟨z, hz⟩ := emod_dvd (p := p) (a := (if a = b then 1 else 0) * ((0 - m) % p))
 obtain ⟨x, hx⟩ := emod_dvd (p := p) (a := 0 - m)
 by_cases e : a = b
 ·simp only [e, if_true] at hy hz ⊢
  refine ⟨-y - z - x, ?_⟩
  grind
 ·simp only [e, if_false] at hy hz ⊢
  refine ⟨-y - z, ?_⟩
  grind
theorem Kr_subD {p : Int} (hp : 0 < p) {n : Nat} {A : List Int} (m : Int) (hA : A.length = n * n) {f : Nat → Int} : Kr p n (colR n (subD p n A m)) f ↔ Eig p n A m f := by
 have key : ∀ c, c < n → ∃ u, sumTo n (fun j => vec (rowOf (colR n (subD p n A m)) c) j * f j) - (sumTo n (fun j => f j * vec A (j * n + c)) - m * f c) = p * u := fun c hc => by
  obtain ⟨x, hx⟩ := sumTo_dvd (p := p) (n := n) (a := fun j => vec (rowOf (colR n (subD p n A m)) c) j * f j + (-1) * (f j * vec A (j * n + c) + (-1) * if j = c then m * f j else 0)) fun j hj => by
   obtain ⟨u, hu⟩ := vec_subD hp m hA hj hc
   have e : vec (rowOf (colR n (subD p n A m)) c) j = vec (subD p n A m) (j * n + c) := by
    rw [colR, rowOf_rowsM hc, rowM, vec_tab hj, trD, vec_tab (spot_lt hc hj), (div_mod_at hj).1, (div_mod_at hj).2]
   refine ⟨f j * u, ?_⟩
   rw [e]
   by_cases ej : j = c
   ·simp only [ej, if_true] at hu ⊢; grind
   ·simp only [ej, if_false] at hu ⊢; grind
  rw [sumTo_add, sumTo_mul, sumTo_add, sumTo_mul, sumTo_single hc] at hx
  exact ⟨x, by grind⟩
 constructor
 ·intro h c hc
  obtain ⟨u, hu⟩ := key c hc
  obtain ⟨v, hv⟩ := h c (by rw [length_colR]; exact hc)
  exact ⟨v - u, by grind⟩
 ·intro h c hc
  rw [length_colR] at hc
  obtain ⟨u, hu⟩ := key c hc
  obtain ⟨v, hv⟩ := h c hc
  exact ⟨v + u, by grind⟩
theorem eigS_iff {p : Int} (hP : isPrime p = true) {n : Nat} {A : List Int} {S : List (List Int)} (m : Int) (hS : Wf p n S) (hA : A.length = n * n) {f : Nat → Int} : Sp p n (eigS p n A S m) f ↔ Sp p n S f ∧ Eig p n A m f := by
 have hp := (isPrime_bd hP).1
 have hw := Wf_colR hp n (resid_subD (p := p) (by omega) n A m)
 rw [eigS, meet_iff hP hS (Wf_kerL hP n _), kerL_iff hP hw, Kr_subD (by omega) m hA]
theorem eigS_rf {p : Int} (hP : isPrime p = true) (n : Nat) (A : List Int) (S : List (List Int)) (m : Int) : ∃ a, Rf p n (eigS p n A S m) a := meet_rf hP n _ _
def movD (p : Int) (n : Nat) (A : List Int) (S : List (List Int)) (m : Int) : List Int := addL (mulD p S.length n n (flat n S) A) ((-m) % p) (flat n S) p
def eqsM (r n : Nat) (M : List Int) : List (List Int) := (List.range n).map fun c => tab r fun i => vec M (i * n + c)
def fndL (p : Int) (n : Nat) (A : List Int) (S : List (List Int)) (m : Int) : List (List Int) := (kerL p S.length (eqsM S.length n (movD p n A S m))).map fun k => combL k S n p
def eigI (p : Int) (n : Nat) (A : List Int) (S : List (List Int)) (m : Int) : List (List Int) := spanL p n (fndL p n A S m)
theorem length_eqsM (r n : Nat) (M : List Int) : (eqsM r n M).length = n := by simp [eqsM]
theorem rowOf_eqsM {r n : Nat} {M : List Int} {c : Nat} (h : c < n) : rowOf (eqsM r n M) c = tab r fun i => vec M (i * n + c) := by simp [rowOf, eqsM, List.getD_eq_getElem?_getD, h]
theorem resid_movD {p : Int} (hp : 0 < p) (n : Nat) (A : List Int) (S : List (List Int)) (m : Int) : resid p (movD p n A S m) = true := resid_addL _ _ _ _ hp
theorem length_movD (p : Int) (n : Nat) (A : List Int) (S : List (List Int)) (m : Int) : (movD p n A S m).length = S.length * n := by
 rw [movD, length_addL _ _ _ _ (by rw [length_flat, length_mulD]), length_mulD]
theorem Wf_eqsM {p : Int} (hp : 0 < p) (r n : Nat) {M : List Int} (h : resid p M = true) : Wf p r (eqsM r n M) := fun i hi => by
 rw [length_eqsM] at hi
 rw [rowOf_eqsM hi]
 exact ⟨length_tab _ _, resid_tab fun j _ => resid_vec' h hp _⟩
theorem resid_combL {p : Int} (hp : 2 ≤ p) (K : List Int) (R : List (List Int)) (n : Nat) : resid p (combL K R n p) = true := resid_tab fun j _ => ⟨Int.emod_nonneg _ (by omega), Int.emod_lt_of_pos _ (by omega)⟩
theorem Wf_fndL {p : Int} (hp : 2 ≤ p) (n : Nat) (A : List Int) (S : List (List Int)) (m : Int) : Wf p n (fndL p n A S m) := Wf_map fun _k _ => ⟨length_tab _ _, resid_combL hp _ _ _⟩
theorem eigI_rf {p : Int} (hP : isPrime p = true) (n : Nat) (A : List Int) (S : List (List Int)) (m : Int) : ∃ a, Rf p n (eigI p n A S m) a := ⟨_, spanL_rf hP (Wf_fndL (isPrime_bd hP).1 n A S m)⟩
theorem vec_movD {p : Int} (hp : 2 ≤ p) {n : Nat} {A : List Int} {S : List (List Int)} (m : Int) (_hS : Wf p n S) {i c : Nat} (hi : i < S.length) (hc : c < n) : ∃ u, vec (movD p n A S m) (i * n + c) - (sumTo n (fun j => vec (rowOf S i) j * vec A (j * n + c)) - m * vec (rowOf S i) c) = p * u := by
 have hq := spot_lt hi hc
 rw [movD, vec_addLq (by rw [length_flat, length_mulD]) (by rw [length_mulD]; exact hq), vec_flat hi hc]
 obtain ⟨y, hy⟩ := emod_dvd (p := p) (a := vec (mulD p S.length n n (flat n S) A) (i * n + c) + (-m) % p * vec (rowOf S i) c)
 obtain ⟨x, hx⟩ := emod_dvd (p := p) (a := -m)
 obtain ⟨z, hz⟩ := vec_mulD (p := p) hp (r := S.length) (m := n) (c := n) (D := flat n S) (E := A) hi hc
 rw [sumTo_congr (g := fun j => vec (rowOf S i) j * vec A (j * n + c)) (fun j hj => by rw [vec_flat hi hj])] at hz
 exact ⟨-y + z - x * vec (rowOf S i) c, by grind⟩
theorem Kr_eqsM {p : Int} (hp : 2 ≤ p) {n : Nat} {A : List Int} {S : List (List Int)} (m : Int) (hS : Wf p n S) {x f : Nat → Int} (hf : ∀ c, c < n → ∃ u, f c - sumTo S.length (fun i => x i * vec (rowOf S i) c) = p * u) : Kr p S.length (eqsM S.length n (movD p n A S m)) x ↔ Eig p n A m f := by
 have key : ∀ c, c < n → ∃ u, sumTo S.length (fun i => vec (rowOf (eqsM S.length n (movD p n A S m)) c) i * x i) - (sumTo n (fun j => f j * vec A (j * n + c)) - m * f c) = p * u := fun c hc => by
  obtain ⟨a, ha⟩ := sumTo_dvd (p := p) (n := S.length) (a := fun i => vec (rowOf (eqsM S.length n (movD p n A S m)) c) i * x i + (-1) * (x i * sumTo n (fun j => vec (rowOf S i) j * vec A (j * n + c)) + (-m) * (x i * vec (rowOf S i) c))) fun i hi => by
   obtain ⟨u, hu⟩ := vec_movD (A := A) hp m hS hi hc
   rw [rowOf_eqsM hc, vec_tab hi]
   exact ⟨u * x i, by grind⟩
  rw [sumTo_add, sumTo_mul, sumTo_add, sumTo_mul] at ha
  have e : sumTo S.length (fun i => x i * sumTo n (fun j => vec (rowOf S i) j * vec A (j * n + c))) = sumTo n (fun j => sumTo S.length (fun i => x i * vec (rowOf S i) j) * vec A (j * n + c)) := by
   rw [sumTo_congr (g := fun i => sumTo n fun j => x i * vec (rowOf S i) j * vec A (j * n + c)) (fun i _ => by rw [← sumTo_mul]; exact sumTo_congr fun j _ => by grind), sumTo_comm]
   exact sumTo_congr fun j _ => by rw [← sumTo_mul_right]
  rw [e] at ha
  obtain ⟨b, hb⟩ := sumTo_dvd (p := p) (n := n) (a := fun j => f j * vec A (j * n + c) + (-1) * (sumTo S.length (fun i => x i * vec (rowOf S i) j) * vec A (j * n + c))) fun j hj => by
   obtain ⟨u, hu⟩ := hf j hj
   exact ⟨u * vec A (j * n + c), by grind⟩
  rw [sumTo_add, sumTo_mul] at hb
  obtain ⟨d, hd⟩ := hf c hc
  exact ⟨a - b + m * d, by grind⟩
 constructor
 ·intro h c hc
  obtain ⟨u, hu⟩ := key c hc
  obtain ⟨v, hv⟩ := h c (by rw [length_eqsM]; exact hc)
  exact ⟨v - u, by grind⟩
 ·intro h c hc
  rw [length_eqsM] at hc
  obtain ⟨u, hu⟩ := key c hc
  obtain ⟨v, hv⟩ := h c hc
  exact ⟨v + u, by grind⟩
theorem vec_combL {p : Int} (K : List Int) (R : List (List Int)) {n c : Nat} (hc : c < n) : ∃ u, vec (combL K R n p) c - sumTo R.length (fun a => vec K a * vec (rowOf R a) c) = p * u := by
 obtain ⟨y, hy⟩ := emod_dvd (p := p) (a := sumTo R.length (fun a => vec K a * vec (rowOf R a) c))
 rw [combL, vec_tab hc, combS]
 exact ⟨-y, by grind⟩
theorem sp_coef {p : Int} {n : Nat} {R : List (List Int)} {f : Nat → Int} (h : Sp p n R f) : ∃ x : Nat → Int, ∀ c, c < n → ∃ u, f c - sumTo R.length (fun i => x i * vec (rowOf R i) c) = p * u := by
 induction h with
 | row i hi => exact ⟨fun j => if j = i then 1 else 0, fun c _ => ⟨0, by
   rw [sumTo_congr (g := fun j => if j = i then vec (rowOf R j) c else 0) (fun j _ => by by_cases e : j = i <;> simp [e]), sumTo_single hi]; omega⟩⟩
 | zero => exact ⟨fun _ => 0, fun c _ => ⟨0, by rw [sumTo_congr (g := fun _ => 0) (fun j _ => by simp), sumTo_zero]; simp⟩⟩
 | comb k _ _ h1 h2 =>
  obtain ⟨x, hx⟩ := h1
  obtain ⟨y, hy⟩ := h2
  refine ⟨fun i => x i + k * y i, fun c hc => ?_⟩
  obtain ⟨u, hu⟩ := hx c hc
  obtain ⟨v, hv⟩ := hy c hc
  refine ⟨u + k * v, ?_⟩
  have e : sumTo R.length (fun i => (x i + k * y i) * vec (rowOf R i) c) = sumTo R.length (fun i => x i * vec (rowOf R i) c) + k * sumTo R.length (fun i => y i * vec (rowOf R i) c) := by
   rw [← sumTo_mul, ← sumTo_add]; exact sumTo_congr fun j _ => by grind
  rw [e]; grind
 | congr _ h0 h1 =>
  obtain ⟨x, hx⟩ := h1
  refine ⟨x, fun c hc => ?_⟩
  obtain ⟨u, hu⟩ := hx c hc
  obtain ⟨v, hv⟩ := h0 c hc
  exact ⟨u - v, by grind⟩
theorem eigI_iff {p : Int} (hP : isPrime p = true) {n : Nat} {A : List Int} {S : List (List Int)} (m : Int) (hS : Wf p n S) {f : Nat → Int} : Sp p n (eigI p n A S m) f ↔ Sp p n S f ∧ Eig p n A m f := by
 have hp := (isPrime_bd hP).1
 have hW := Wf_fndL hp n A S m
 have hE : Wf p S.length (eqsM S.length n (movD p n A S m)) := Wf_eqsM (by omega) _ _ (resid_movD (by omega) n A S m)
 obtain ⟨K, hK⟩ : ∃ K, K = kerL p S.length (eqsM S.length n (movD p n A S m)) := ⟨_, rfl⟩
 have hrow : ∀ i, i < (fndL p n A S m).length → rowOf (fndL p n A S m) i = combL (rowOf K i) S n p := fun i hi => by
  rw [fndL, ← hK, List.length_map] at hi
  simp [rowOf, fndL, ← hK, List.getD_eq_getElem?_getD, hi]
 have hlen : (fndL p n A S m).length = K.length := by rw [fndL, List.length_map, hK]
 have hKr : ∀ i, i < K.length → Kr p S.length (eqsM S.length n (movD p n A S m)) (vec (rowOf K i)) := fun i hi => by
  rw [← kerL_iff hP hE, ← hK]; exact .row i hi
 constructor
 ·intro h
  have h1 : Sp p n (fndL p n A S m) f := h.trans (spanL_in hP hW)
  refine ⟨h1.trans fun i hi => ?_, Eig.sp (fun i hi => ?_) h1⟩
  ·rw [hrow i hi]
   exact (sp_sum (p := p) (n := n) (R := S) (vec (rowOf K i))).congr fun c hc => by
    obtain ⟨u, hu⟩ := vec_combL (p := p) (rowOf K i) S hc
    exact ⟨-u, by grind⟩
  ·rw [hrow i hi]
   exact (Kr_eqsM hp m hS (fun c hc => vec_combL (p := p) (rowOf K i) S hc)).1 (hKr i (by omega))
 ·rintro ⟨h1, h2⟩
  refine Sp.trans ?_ (spanL_out hP hW)
  obtain ⟨x, hx⟩ := sp_coef h1
  have hk : Sp p S.length K x := by
   rw [hK, kerL_iff hP hE]; exact (Kr_eqsM hp m hS hx).2 h2
  obtain ⟨y, hy⟩ := sp_coef hk
  refine (sp_sum (p := p) (n := n) (R := fndL p n A S m) y).congr fun c hc => ?_
  obtain ⟨a, ha⟩ := hx c hc
  obtain ⟨b, hb⟩ := sumTo_dvd (p := p) (n := S.length) (a := fun i => x i * vec (rowOf S i) c + (-1) * (sumTo K.length (fun t => y t * vec (rowOf K t) i) * vec (rowOf S i) c)) fun i hi => by
   obtain ⟨u, hu⟩ := hy i hi
   exact ⟨u * vec (rowOf S i) c, by grind⟩
  rw [sumTo_add, sumTo_mul] at hb
  obtain ⟨d, hd⟩ := sumTo_dvd (p := p) (n := K.length) (a := fun t => y t * vec (rowOf (fndL p n A S m) t) c + (-1) * (y t * sumTo S.length (fun i => vec (rowOf K t) i * vec (rowOf S i) c))) fun t ht => by
   rw [hrow t (by omega)]
   obtain ⟨u, hu⟩ := vec_combL (p := p) (rowOf K t) S hc
   exact ⟨y t * u, by grind⟩
  rw [sumTo_add, sumTo_mul] at hd
  have e : sumTo K.length (fun t => y t * sumTo S.length (fun i => vec (rowOf K t) i * vec (rowOf S i) c)) = sumTo S.length (fun i => sumTo K.length (fun t => y t * vec (rowOf K t) i) * vec (rowOf S i) c) := by
   rw [sumTo_congr (g := fun t => sumTo S.length fun i => y t * vec (rowOf K t) i * vec (rowOf S i) c) (fun t _ => by rw [← sumTo_mul]; exact sumTo_congr fun i _ => by grind), sumTo_comm]
   exact sumTo_congr fun i _ => by rw [← sumTo_mul_right]
  rw [e] at hd
  rw [hlen]
  exact ⟨d - b - a, by grind⟩
theorem eig_eq {p : Int} (hP : isPrime p = true) {n : Nat} {A : List Int} {S : List (List Int)} (m : Int) (hS : Wf p n S) (hA : A.length = n * n) : eigI p n A S m = eigS p n A S m := by
 obtain ⟨a, ha⟩ := eigI_rf hP n A S m
 obtain ⟨b, hb⟩ := eigS_rf hP n A S m
 exact rf_ext hP ha hb fun f => by rw [eigI_iff hP m hS, eigS_iff hP m hS hA]
theorem euclidZ {p a b : Int} (hP : isPrime p = true) (h : ∃ u, a * b = p * u) : (∃ u, a = p * u) ∨ ∃ u, b = p * u := by
 obtain ⟨u, hu⟩ := h
 have hp := (isPrime_bd hP).1
 obtain ⟨q, rfl⟩ : ∃ q : Nat, p = q := ⟨p.toNat, by omega⟩
 have hd : q ∣ a.natAbs * b.natAbs := by
  rw [← Int.natAbs_mul, hu, Int.natAbs_mul]
  exact ⟨u.natAbs, by simp⟩
 rcases euclidN hP hd with h | h
 ·exact .inl (Int.ofNat_dvd_left.2 h)
 ·exact .inr (Int.ofNat_dvd_left.2 h)
theorem Ind.app {p : Int} (hP : isPrime p = true) {n : Nat} {A : List Int} {C E : List (List Int)} {ev : Nat → Int} {m : Int} (hC : Ind p n C) (hE : Ind p n E) (h1 : ∀ j, j < C.length → Eig p n A (ev j) (vec (rowOf C j))) (h2 : ∀ j, j < E.length → Eig p n A m (vec (rowOf E j))) (h3 : ∀ j, j < C.length → ¬ ∃ u, ev j - m = p * u) : Ind p n (C ++ E) := by
 have hsplit : ∀ (F : Nat → List Int → Int), sumTo (C ++ E).length (fun j => F j (rowOf (C ++ E) j)) = sumTo C.length (fun j => F j (rowOf C j)) + sumTo E.length (fun j => F (C.length + j) (rowOf E j)) := fun F => by
  rw [List.length_append]
  have hb : ∀ k, k ≤ E.length → sumTo (C.length + k) (fun j => F j (rowOf (C ++ E) j)) = sumTo C.length (fun j => F j (rowOf C j)) + sumTo k (fun j => F (C.length + j) (rowOf E j)) := fun k => by
   induction k with
   | zero =>
    intro _
    simp only [sumTo, Nat.add_zero, Int.add_zero]
    exact sumTo_congr fun j hj => by rw [show rowOf (C ++ E) j = rowOf C j by simp [rowOf, List.getD_eq_getElem?_getD, List.getElem?_append_left hj]]
   | succ k ih =>
    intro hk
    show sumTo (C.length + k) _ + F (C.length + k) (rowOf (C ++ E) (C.length + k)) = _ + (sumTo k _ + F (C.length + k) (rowOf E k))
    rw [ih (by omega), show rowOf (C ++ E) (C.length + k) = rowOf E k by rw [rowOf, rowOf, List.getD_eq_getElem?_getD, List.getElem?_append_right (by omega), Nat.add_sub_cancel_left, ← List.getD_eq_getElem?_getD]]
    omega
  exact hb E.length (Nat.le_refl _)
 intro x hx
 have hy : ∀ j, j < C.length → ∃ u, (ev j - m) * x j = p * u := hC (fun j => (ev j - m) * x j) fun c hc => by
  have hx0 : ∀ d, d < n → ∃ u, sumTo C.length (fun j => x j * vec (rowOf C j) d) + sumTo E.length (fun j => x (C.length + j) * vec (rowOf E j) d) = p * u := fun d hd => by
   obtain ⟨u, hu⟩ := hx d hd
   rw [hsplit (fun j l => x j * vec l d)] at hu
   exact ⟨u, hu⟩
  obtain ⟨a, ha⟩ := sumTo_dvd (p := p) (n := n) (a := fun d => (sumTo C.length (fun j => x j * vec (rowOf C j) d) + sumTo E.length (fun j => x (C.length + j) * vec (rowOf E j) d)) * vec A (d * n + c)) fun d hd => by
   obtain ⟨u, hu⟩ := hx0 d hd
   exact ⟨u * vec A (d * n + c), by rw [hu]; grind⟩
  have sw : ∀ (R : List (List Int)) (y : Nat → Int), sumTo n (fun d => sumTo R.length (fun j => y j * vec (rowOf R j) d) * vec A (d * n + c)) = sumTo R.length (fun j => y j * sumTo n (fun d => vec (rowOf R j) d * vec A (d * n + c))) := fun R y => by
   rw [sumTo_congr (g := fun d => sumTo R.length fun j => y j * vec (rowOf R j) d * vec A (d * n + c)) (fun d _ => by rw [← sumTo_mul_right]), sumTo_comm]
   exact sumTo_congr fun j _ => by rw [← sumTo_mul]; exact sumTo_congr fun d _ => by grind
  have e1 : sumTo n (fun d => (sumTo C.length (fun j => x j * vec (rowOf C j) d) + sumTo E.length (fun j => x (C.length + j) * vec (rowOf E j) d)) * vec A (d * n + c)) = sumTo C.length (fun j => x j * sumTo n (fun d => vec (rowOf C j) d * vec A (d * n + c))) + sumTo E.length (fun j => x (C.length + j) * sumTo n (fun d => vec (rowOf E j) d * vec A (d * n + c))) := by
   rw [← sw C x, ← sw E fun j => x (C.length + j), ← sumTo_add]
   exact sumTo_congr fun d _ => Int.add_mul _ _ _
  rw [e1] at ha
  obtain ⟨b, hb⟩ := sumTo_dvd (p := p) (n := C.length) (a := fun j => x j * sumTo n (fun d => vec (rowOf C j) d * vec A (d * n + c)) + (-1) * (ev j * x j * vec (rowOf C j) c)) fun j hj => by
   obtain ⟨u, hu⟩ := h1 j hj c hc
   exact ⟨x j * u, by grind⟩
  obtain ⟨d, hd⟩ := sumTo_dvd (p := p) (n := E.length) (a := fun j => x (C.length + j) * sumTo n (fun d => vec (rowOf E j) d * vec A (d * n + c)) + (-1) * (m * (x (C.length + j) * vec (rowOf E j) c))) fun j hj => by
   obtain ⟨u, hu⟩ := h2 j hj c hc
   exact ⟨x (C.length + j) * u, by grind⟩
  rw [sumTo_add, sumTo_mul] at hb hd
  rw [sumTo_mul] at hd
  obtain ⟨g, hg⟩ := hx0 c hc
  have e2 : sumTo C.length (fun j => (ev j - m) * x j * vec (rowOf C j) c) = sumTo C.length (fun j => ev j * x j * vec (rowOf C j) c) + (-m) * sumTo C.length (fun j => x j * vec (rowOf C j) c) := by
   rw [← sumTo_mul, ← sumTo_add]; exact sumTo_congr fun j _ => by grind
  rw [e2]
  exact ⟨a - b - d - m * g, by grind⟩
 have hxC : ∀ j, j < C.length → ∃ u, x j = p * u := fun j hj => by
  obtain ⟨u, hu⟩ := hy j hj
  rcases euclidZ hP ⟨u, hu⟩ with h | h
  ·exact absurd h (h3 j hj)
  ·exact h
 have hxE : ∀ j, j < E.length → ∃ u, x (C.length + j) = p * u := hE (fun j => x (C.length + j)) fun c hc => by
  obtain ⟨u, hu⟩ := hx c hc
  rw [hsplit (fun j l => x j * vec l c)] at hu
  obtain ⟨b, hb⟩ := sumTo_dvd (p := p) (n := C.length) (a := fun j => x j * vec (rowOf C j) c) fun j hj => by
   obtain ⟨v, hv⟩ := hxC j hj
   exact ⟨v * vec (rowOf C j) c, by rw [hv]; grind⟩
  exact ⟨u - b, by grind⟩
 intro j hj
 rw [List.length_append] at hj
 by_cases e : j < C.length
 ·exact hxC j e
 ·obtain ⟨u, hu⟩ := hxE (j - C.length) (by omega)
  rw [show C.length + (j - C.length) = j by omega] at hu
  exact ⟨u, hu⟩
end
section
open Go.RowKit
def eigP (p : Int) (n : Nat) (A : List Int) (S : List (List Int)) (k : Nat) : List (Int × List (List Int)) := ((List.range k).map fun (m : Nat) => ((m : Int), eigS p n A S m)).filter fun x => decide (0 < x.2.length)
theorem eigP_yes {p : Int} {n : Nat} {A : List Int} {S : List (List Int)} {k : Nat} (h : 0 < (eigS p n A S k).length) : eigP p n A S (k + 1) = eigP p n A S k ++ [((k : Int), eigS p n A S k)] := by
 simp [eigP, List.range_succ, List.filter_append, h]
theorem eigP_no {p : Int} {n : Nat} {A : List Int} {S : List (List Int)} {k : Nat} (h : ¬ 0 < (eigS p n A S k).length) : eigP p n A S (k + 1) = eigP p n A S k := by
 simp only [eigP, List.range_succ, List.map_append, List.filter_append, List.map_cons, List.map_nil, List.append_right_eq_self]
 rw [List.filter_cons_of_neg (by simpa using h), List.filter_nil]
def eigT (p : Int) (n : Nat) (A : List Int) (S : List (List Int)) : Nat → Nat
 | 0 => 0
 | k + 1 => eigT p n A S k + (eigS p n A S k).length
def eigC (p : Int) (n : Nat) (A : List Int) (S : List (List Int)) : Nat → List (List Int)
 | 0 => []
 | k + 1 => eigC p n A S k ++ eigS p n A S k
theorem length_eigC (p : Int) (n : Nat) (A : List Int) (S : List (List Int)) : ∀ k, (eigC p n A S k).length = eigT p n A S k
 | 0 => rfl
 | k + 1 => by rw [eigC, List.length_append, length_eigC p n A S k, eigT]
theorem eigS_wf {p : Int} (hP : isPrime p = true) (n : Nat) (A : List Int) (S : List (List Int)) (m : Int) : Wf p n (eigS p n A S m) := by obtain ⟨a, ha⟩ := eigS_rf hP n A S m; exact ha.wf
theorem eigS_row {p : Int} (hP : isPrime p = true) {n : Nat} {A : List Int} {S : List (List Int)} (m : Int) (hS : Wf p n S) (hA : A.length = n * n) {i : Nat} (hi : i < (eigS p n A S m).length) : Sp p n S (vec (rowOf (eigS p n A S m) i)) ∧ Eig p n A m (vec (rowOf (eigS p n A S m) i)) := (eigS_iff hP m hS hA).1 (.row i hi)
theorem eigC_ok {p : Int} (hP : isPrime p = true) {n : Nat} {A : List Int} {S : List (List Int)} (hS : Wf p n S) (hA : A.length = n * n) : ∀ k : Nat, (k : Int) ≤ p → Wf p n (eigC p n A S k) ∧ Ind p n (eigC p n A S k) ∧ (∀ i, i < (eigC p n A S k).length → Sp p n S (vec (rowOf (eigC p n A S k) i))) ∧ ∃ ev : Nat → Int, ∀ i, i < (eigC p n A S k).length → 0 ≤ ev i ∧ ev i < k ∧ Eig p n A (ev i) (vec (rowOf (eigC p n A S k) i))
 | 0, _ => ⟨fun i hi => absurd hi (Nat.not_lt_zero i), fun _ _ i hi => absurd hi (Nat.not_lt_zero i), fun i hi => absurd hi (Nat.not_lt_zero i), fun _ => 0, fun i hi => absurd hi (Nat.not_lt_zero i)⟩
 | k + 1, hk => by
  obtain ⟨h1, h2, h3, ev, h4⟩ := eigC_ok hP hS hA k (by omega)
  obtain ⟨a, ha⟩ := eigS_rf hP n A S k
  have hrw : ∀ i, i < (eigC p n A S k).length → rowOf (eigC p n A S (k + 1)) i = rowOf (eigC p n A S k) i := fun i hi => by
   simp [rowOf, eigC, List.getD_eq_getElem?_getD, List.getElem?_append_left hi]
  have hrw2 : ∀ i, ¬ i < (eigC p n A S k).length → rowOf (eigC p n A S (k + 1)) i = rowOf (eigS p n A S k) (i - (eigC p n A S k).length) := fun i hi => by
   simp [rowOf, eigC, List.getD_eq_getElem?_getD, List.getElem?_append_right (Nat.le_of_not_lt hi)]
  refine ⟨h1.app ha.wf, Ind.app hP h2 ha.ind (fun j hj => (h4 j hj).2.2) (fun j hj => (eigS_row hP k hS hA hj).2) (fun j hj => ?_), fun i hi => ?_, fun i => if i < (eigC p n A S k).length then ev i else k, fun i hi => ?_⟩
  ·rintro ⟨u, hu⟩
   obtain ⟨e1, e2, _⟩ := h4 j hj
   have : u < 0 := by
    refine Classical.byContradiction fun h => ?_
    have := Int.mul_nonneg (show (0 : Int) ≤ p by omega) (show 0 ≤ u by omega)
    omega
   have h9 : p * u ≤ p * (-1) := Int.mul_le_mul_of_nonneg_left (by omega) (by omega)
   omega
  ·rw [eigC, List.length_append] at hi
   by_cases e : i < (eigC p n A S k).length
   ·rw [hrw i e]; exact h3 i e
   ·rw [hrw2 i e]; exact (eigS_row hP k hS hA (by omega)).1
  ·rw [eigC, List.length_append] at hi
   by_cases e : i < (eigC p n A S k).length
   ·obtain ⟨e1, e2, e3⟩ := h4 i e
    dsimp only
    rw [hrw i e, if_pos e]; exact ⟨e1, by omega, e3⟩
   ·dsimp only
    rw [hrw2 i e, if_neg e]; exact ⟨by omega, by omega, (eigS_row hP k hS hA (by omega)).2⟩
theorem eigT_le {p : Int} (hP : isPrime p = true) {n : Nat} {A : List Int} {S : List (List Int)} {a : List Nat} (hS : Rf p n S a) (hA : A.length = n * n) {k : Nat} (hk : (k : Int) ≤ p) : eigT p n A S k ≤ S.length := by
 have hp := (isPrime_bd hP).1
 obtain ⟨h1, h2, h3, _⟩ := eigC_ok hP hS.wf hA k hk
 rw [← length_eigC, ← rank_of_ind hP h1 h2, ← length_spanL hP h1]
 exact (spanL_rf hP h1).length_le hp hS fun i hi => (spanL_in hP h1 i hi).trans h3
theorem eigT_mono (p : Int) (n : Nat) (A : List Int) (S : List (List Int)) {k l : Nat} (h : k ≤ l) : eigT p n A S k ≤ eigT p n A S l := by
 induction l with
 | zero => rw [Nat.le_zero.1 h]; exact Nat.le_refl _
 | succ l ih =>
  rcases Nat.le_succ_iff.1 h with h1 | h1
  ·exact Nat.le_trans (ih h1) (Nat.le_add_right _ _)
  ·rw [h1]; exact Nat.le_refl _
theorem eigP_stop {p : Int} (hP : isPrime p = true) {n : Nat} {A : List Int} {S : List (List Int)} {a : List Nat} (hS : Rf p n S a) (hA : A.length = n * n) {k : Nat} (h : eigT p n A S k = S.length) : ∀ l : Nat, k ≤ l → (l : Int) ≤ p → eigP p n A S l = eigP p n A S k := fun l => by
 induction l with
 | zero => intro h1 _; rw [Nat.le_zero.1 h1]
 | succ l ih =>
  intro h1 h2
  rcases Nat.le_succ_iff.1 h1 with h3 | h3
  ·rw [← ih h3 (by omega)]
   refine eigP_no fun h4 => ?_
   have h5 := eigT_le hP hS hA h2
   have h6 := eigT_mono p n A S h3
   rw [eigT] at h5
   omega
  ·rw [h3]
theorem eigP_mem {p : Int} (hP : isPrime p = true) {n : Nat} {A : List Int} {S : List (List Int)} {k : Nat} {x : Int × List (List Int)} (h : x ∈ eigP p n A S k) : 0 < x.2.length ∧ (∃ a, Rf p n x.2 a) ∧ 0 ≤ x.1 ∧ x.1 < k := by
 obtain ⟨h1, h2⟩ := List.mem_filter.1 h
 obtain ⟨m, hm, rfl⟩ := List.mem_map.1 h1
 have := List.mem_range.1 hm
 exact ⟨by simpa using h2, eigS_rf hP n A S m, by show (0 : Int) ≤ m; omega, by show (m : Int) < k; omega⟩
theorem eigP_sum {p : Int} {n : Nat} {A : List Int} {S : List (List Int)} : ∀ k, ((eigP p n A S k).map fun x => x.2.length).sum = eigT p n A S k
 | 0 => rfl
 | k + 1 => by
  by_cases h : 0 < (eigS p n A S k).length
  ·rw [eigP_yes h, List.map_append, List.sum_append, eigP_sum k, eigT]; simp
  ·rw [eigP_no h, eigP_sum k, eigT]; omega
def rotF (p : Int) (n : Nat) : List (List Int) → List (List Int × List (List Int)) → List (List Int × List (List Int))
 | [], L => L
 | A :: As, L => rotF p n As (L.flatMap fun x => (eigP p n A x.2 p.toNat).map fun y => (x.1 ++ [y.1], y.2))
def rotR (p : Int) (n : Nat) : List (List Int) → List (List Int) → List (List Int × List (List Int))
 | [], S => if S.length = 0 then [] else [([], S)]
 | A :: As, S => if S.length = 0 then [] else (List.range p.toNat).flatMap fun (m : Nat) => (rotR p n As (eigI p n A S (m : Int))).map fun x => ((m : Int) :: x.1, x.2)
theorem rotR_nil (p : Int) (n : Nat) (As : List (List Int)) {S : List (List Int)} (h : S.length = 0) : rotR p n As S = [] := by
 cases As <;> simp [rotR, h]
theorem flatMap_filter' {α β : Type} {q : α → Bool} {f : α → List β} : ∀ {l : List α}, (∀ a ∈ l, q a = false → f a = []) → (l.filter q).flatMap f = l.flatMap f
 | [], _ => rfl
 | a :: l, h => by
  have ih := flatMap_filter' (q := q) (f := f) (l := l) fun x hx => h x (by simp [hx])
  by_cases hq : q a = true
  ·rw [List.filter_cons_of_pos hq, List.flatMap_cons, List.flatMap_cons, ih]
  ·have hq' : q a = false := by simpa using hq
   rw [List.filter_cons_of_neg hq, List.flatMap_cons, h a (by simp) hq', List.nil_append, ih]
theorem rotR_cons {p : Int} (hP : isPrime p = true) {n : Nat} {A : List Int} {As : List (List Int)} {S : List (List Int)} (hA : A.length = n * n) (hS : Wf p n S) (h0 : S.length ≠ 0) : rotR p n (A :: As) S = (eigP p n A S p.toNat).flatMap fun y => (rotR p n As y.2).map fun x => (y.1 :: x.1, x.2) := by
  rw [rotR, if_neg h0, eigP, flatMap_filter' fun a _ h => by
    rw [rotR_nil p n As (by have : ¬ 0 < a.2.length := by simpa using h
                            omega)]; rfl]
  rw [List.flatMap_map]
  congr 1
  funext m
  rw [eig_eq hP m hS hA]
theorem rot_eq {p : Int} (hP : isPrime p = true) {n : Nat} : ∀ (As : List (List Int)) (L : List (List Int × List (List Int))), (∀ A ∈ As, A.length = n * n) → (∀ x ∈ L, Wf p n x.2 ∧ x.2.length ≠ 0) → rotF p n As L = L.flatMap fun x => (rotR p n As x.2).map fun y => (x.1 ++ y.1, y.2)
 | [], L, _, hL => by
  rw [rotF]
  have : ∀ l : List (List Int × List (List Int)), (∀ x ∈ l, x.2.length ≠ 0) → l = l.flatMap fun x => (rotR p n [] x.2).map fun y => (x.1 ++ y.1, y.2) := fun l => by
   induction l with
   | nil => intro _; rfl
   | cons x l ih =>
    intro hl
    rw [List.flatMap_cons, ← ih fun y hy => hl y (by simp [hy]), rotR, if_neg (hl x (by simp))]
    simp
  exact this L fun x hx => (hL x hx).2
 | A :: As, L, hA, hL => by
  rw [rotF, rot_eq hP As _ (fun B hB => hA B (by simp [hB])) (fun x hx => by
   obtain ⟨z, _, hz⟩ := List.mem_flatMap.1 hx
   obtain ⟨y, hy, rfl⟩ := List.mem_map.1 hz
   obtain ⟨h1, ⟨a, h2⟩, _⟩ := eigP_mem hP hy
   exact ⟨h2.wf, by show y.2.length ≠ 0; omega⟩)]
  rw [List.flatMap_assoc]
  have : ∀ l : List (List Int × List (List Int)), (∀ x ∈ l, Wf p n x.2 ∧ x.2.length ≠ 0) → (l.flatMap fun x => ((eigP p n A x.2 p.toNat).map fun y => (x.1 ++ [y.1], y.2)).flatMap fun x => (rotR p n As x.2).map fun y => (x.1 ++ y.1, y.2)) = l.flatMap fun x => (rotR p n (A :: As) x.2).map fun y => (x.1 ++ y.1, y.2) := fun l => by
   induction l with
   | nil => intro _; rfl
   | cons x l ih =>
    intro hl
    rw [List.flatMap_cons, List.flatMap_cons, ih fun y hy => hl y (by simp [hy]), rotR_cons hP (hA A (by simp)) (hl x (by simp)).1 (hl x (by simp)).2]
    congr 1
    rw [List.flatMap_map, List.map_flatMap]
    congr 1
    funext y
    rw [List.map_map]
    refine List.map_congr_left fun z _ => ?_
    simp
  exact this L hL
theorem rotR_ok {p : Int} (hP : isPrime p = true) {n : Nat} : ∀ (As : List (List Int)) (S : List (List Int)) (a : List Nat), (∀ A ∈ As, A.length = n * n) → Rf p n S a → ((rotR p n As S).map fun x => x.2.length).sum ≤ S.length ∧ ∀ x ∈ rotR p n As S, 0 < x.2.length ∧ (∃ b, Rf p n x.2 b) ∧ x.1.length = As.length
 | [], S, a, _, hS => by
  rw [rotR]
  split
  ·exact ⟨by simp, fun x hx => by simp at hx⟩
  ·refine ⟨by simp, fun x hx => ?_⟩
   obtain rfl : x = ([], S) := by simpa using hx
   exact ⟨by show 0 < S.length; omega, ⟨a, hS⟩, rfl⟩
 | A :: As, S, a, hA, hS => by
  by_cases h0 : S.length = 0
  ·rw [rotR_nil p n _ h0]; exact ⟨by simp, fun x hx => by simp at hx⟩
  ·rw [rotR_cons hP (hA A (by simp)) hS.wf h0]
   have hp := (isPrime_bd hP).1
   have key : ∀ l : List (Int × List (List Int)), (∀ y ∈ l, ∃ b, Rf p n y.2 b) → ((l.flatMap fun y => (rotR p n As y.2).map fun x => (y.1 :: x.1, x.2)).map fun x => x.2.length).sum ≤ (l.map fun y => y.2.length).sum := fun l => by
    induction l with
    | nil => intro _; simp
    | cons y l ih =>
     intro hl
     obtain ⟨b, hb⟩ := hl y (by simp)
     have h1 := ih fun z hz => hl z (by simp [hz])
     have h2 := (rotR_ok hP As y.2 b (fun B hB => hA B (by simp [hB])) hb).1
     rw [List.flatMap_cons, List.map_append, List.sum_append, List.map_cons, List.sum_cons, List.map_map]
     have e : (List.map ((fun x : List Int × List (List Int) => x.2.length) ∘ fun x : List Int × List (List Int) => (y.1 :: x.1, x.2)) (rotR p n As y.2)) = (rotR p n As y.2).map fun x => x.2.length := rfl
     rw [e]
     omega
   refine ⟨Nat.le_trans (key _ fun y hy => (eigP_mem hP hy).2.1) ?_, fun x hx => ?_⟩
   ·rw [eigP_sum]; exact eigT_le hP hS (hA A (by simp)) (by omega)
   ·obtain ⟨y, hy, hz⟩ := List.mem_flatMap.1 hx
    obtain ⟨z, hz2, rfl⟩ := List.mem_map.1 hz
    obtain ⟨_, ⟨b, hb⟩, _⟩ := eigP_mem hP hy
    obtain ⟨g1, g2, g3⟩ := (rotR_ok hP As y.2 b (fun B hB => hA B (by simp [hB])) hb).2 z hz2
    exact ⟨g1, g2, by show z.1.length + 1 = _; rw [g3]; rfl⟩
theorem length_le_sum {α : Type} {f : α → Nat} : ∀ {l : List α}, (∀ x ∈ l, 0 < f x) → l.length ≤ (l.map f).sum
 | [], _ => Nat.le_refl _
 | x :: l, h => by
  have := length_le_sum (f := f) (l := l) fun y hy => h y (by simp [hy])
  have := h x (by simp)
  rw [List.length_cons, List.map_cons, List.sum_cons]
  omega
theorem length_rotR {p : Int} (hP : isPrime p = true) {n : Nat} {As : List (List Int)} {S : List (List Int)} {a : List Nat} (hA : ∀ A ∈ As, A.length = n * n) (hS : Rf p n S a) : (rotR p n As S).length ≤ S.length := by
 obtain ⟨h1, h2⟩ := rotR_ok hP As S a hA hS
 exact Nat.le_trans (length_le_sum fun x hx => (h2 x hx).1) h1
end
section
open Go.RowKit
theorem St.release {w0 w : World} {L : List It} (h : St w0 w L) (i : Nat) {u : Value} {l : List Int} {v : Value} {e sz n : Nat} {cs : List Value} {subs : List (Value × List Int)} (hi : L[i]? = some (.vec v e sz n cs ((u, l) :: subs))) :
  St w0 w (.own u l :: L.set i (.vec v e sz n cs subs)) := by
 have hx := h.vec i hi
 have hil : i < L.length := (List.getElem?_eq_some_iff.1 hi).1
 have hnd := h.vecNodup i hi
 have fpe : (It.vec v e sz n cs ((u, l) :: subs)).fp = v.ownBlock.toList ++ (u.ownBlock.toList ++ subs.flatMap fun s => s.1.ownBlock.toList) := by simp [It.fp]
 have fp2 : (It.vec v e sz n cs subs).fp = v.ownBlock.toList ++ subs.flatMap fun s => s.1.ownBlock.toList := by simp [It.fp]
 have sub1 : ∀ b, b ∈ (It.vec v e sz n cs subs).fp → b ∈ (It.vec v e sz n cs ((u, l) :: subs)).fp := fun b hb => by
  rw [fp2, List.mem_append] at hb
  rw [fpe, List.mem_append, List.mem_append]
  rcases hb with hb | hb
  ·exact .inl hb
  ·exact .inr (.inr hb)
 have sub2 : ∀ b, b ∈ u.ownBlock.toList → b ∈ (It.vec v e sz n cs ((u, l) :: subs)).fp := fun b hb => by
  rw [fpe, List.mem_append, List.mem_append]
  exact .inr (.inl hb)
 have dis : ∀ b, b ∈ u.ownBlock.toList → b ∉ (It.vec v e sz n cs subs).fp := fun b hb hm => by
  rw [fpe, List.nodup_append] at hnd
  obtain ⟨_, h2, h3⟩ := hnd
  rw [List.nodup_append] at h2
  rw [fp2, List.mem_append] at hm
  rcases hm with hm | hm
  ·exact h3 b hm b (List.mem_append_left _ hb) rfl
  ·exact h2.2.2 b hb b hm rfl
 have nd2 : (It.vec v e sz n cs subs).fp.Nodup := by
  rw [fpe, List.nodup_append] at hnd
  obtain ⟨h1, h2, h3⟩ := hnd
  rw [List.nodup_append] at h2
  rw [fp2, List.nodup_append]
  exact ⟨h1, h2.2.1, fun a ha b hb => h3 a ha b (List.mem_append_right _ hb)⟩
 have get : ∀ (j : Nat) (y : It), (L.set i (.vec v e sz n cs subs))[j]? = some y → (j = i ∧ y = .vec v e sz n cs subs) ∨ (j ≠ i ∧ L[j]? = some y) := fun j y hy => by
  rw [List.getElem?_set] at hy
  by_cases e : i = j
  ·subst e
   rw [if_pos rfl, if_pos hil] at hy
   exact .inl ⟨rfl, by simpa using hy.symm⟩
  ·rw [if_neg e] at hy
   exact .inr ⟨fun e' => e e'.symm, hy⟩
 have low : ∀ (j : Nat) (y : It), (L.set i (.vec v e sz n cs subs))[j]? = some y → ∃ z, L[j]? = some z ∧ ∀ b, b ∈ y.fp → b ∈ z.fp := fun j y hy => by
  rcases get j y hy with ⟨rfl, rfl⟩ | ⟨_, hj⟩
  ·exact ⟨_, hi, sub1⟩
  ·exact ⟨y, hj, fun _ hb => hb⟩
 refine ⟨h.below, fun y hy => ?_, fun j k y z hy hz b h1 h2 => ?_, fun y hy => ?_⟩
 ·rcases List.mem_cons.1 hy with rfl | hy
  ·exact hx.2 (u, l) (by simp)
  ·obtain ⟨j, hj⟩ := List.getElem?_of_mem hy
   rcases get j y hj with ⟨_, rfl⟩ | ⟨_, hj'⟩
   ·exact ⟨hx.1, fun s hs => hx.2 s (by simp [hs])⟩
   ·exact h.at j hj'
 ·match j, k, hy, hz with
  | 0, 0, _, _ => rfl
  | 0, k + 1, hy, hz =>
   simp only [List.getElem?_cons_zero, Option.some.injEq] at hy
   subst hy
   have hb : b ∈ u.ownBlock.toList := by simpa [It.fp] using h1
   have hz' : (L.set i (.vec v e sz n cs subs))[k]? = some z := by simpa using hz
   rcases get k z hz' with ⟨_, rfl⟩ | ⟨hk, hk'⟩
   ·exact absurd h2 (dis b hb)
   ·exact absurd (h.apart k i z _ hk' hi b h2 (sub2 b hb)) hk
  | j + 1, 0, hy, hz =>
   simp only [List.getElem?_cons_zero, Option.some.injEq] at hz
   subst hz
   have hb : b ∈ u.ownBlock.toList := by simpa [It.fp] using h2
   have hy' : (L.set i (.vec v e sz n cs subs))[j]? = some y := by simpa using hy
   rcases get j y hy' with ⟨_, rfl⟩ | ⟨hk, hk'⟩
   ·exact absurd h1 (dis b hb)
   ·exact absurd (h.apart j i y _ hk' hi b h1 (sub2 b hb)) hk
  | j + 1, k + 1, hy, hz =>
   obtain ⟨y', hy1, hy2⟩ := low j y (by simpa using hy)
   obtain ⟨z', hz1, hz2⟩ := low k z (by simpa using hz)
   rw [h.apart j k y' z' hy1 hz1 b (hy2 b h1) (hz2 b h2)]
 ·rcases List.mem_cons.1 hy with rfl | hy
  ·exact nodup_own u
  ·obtain ⟨j, hj⟩ := List.getElem?_of_mem hy
   rcases get j y hj with ⟨_, rfl⟩ | ⟨_, hj'⟩
   ·exact nd2
   ·exact h.vecNodup j hj'
def ptIt (v : Value) (us : List Value) (ms : List Mt) (j : Nat) : It := .vec v 32 4 ms.length (matCells us ms) ((us.zip (ms.map Mt.d)).drop j)
theorem ptIt_zero (v : Value) (us : List Value) (ms : List Mt) : ptIt v us ms 0 = matsIt v us ms := rfl
theorem St.ptOff {w0 w : World} {L : List It} (h : St w0 w L) (i : Nat) {v u : Value} {us : List Value} {ms : List Mt} {m : Mt} {j : Nat} (hi : L[i]? = some (ptIt v us ms j)) (hu : us[j]? = some u) (hm : ms[j]? = some m) : St w0 w (.own u m.d :: L.set i (ptIt v us ms (j + 1))) := by
 have hg : (us.zip (ms.map Mt.d))[j]? = some (u, m.d) := zip_get hu (by rw [List.getElem?_map, hm]; rfl)
 obtain ⟨hlt, hget⟩ := List.getElem?_eq_some_iff.1 hg
 have e : ptIt v us ms j = .vec v 32 4 ms.length (matCells us ms) ((u, m.d) :: (us.zip (ms.map Mt.d)).drop (j + 1)) := by
  rw [ptIt, List.drop_eq_getElem_cons hlt, hget]
 rw [e] at hi
 exact h.release i hi
theorem St.ptCells {w0 w : World} {L : List It} (h : St w0 w L) (i : Nat) {g q c : Nat} {u : Value} {us : List Value} {ms : List Mt} {m : Mt} {k : Nat} (hi : L[i]? = some (ptIt (.slice (some ⟨g, 0, none⟩) q c) us ms k)) (hq : ms.length = q) (j : Nat) (hu : us[j]? = some u) (hm : ms[j]? = some m) :
  w.cell? ⟨g, j * 4, none⟩ = some (.int .i64 m.p) ∧ w.cell? ⟨g, j * 4 + 1, none⟩ = some (.int .i64 m.r) ∧ w.cell? ⟨g, j * 4 + 2, none⟩ = some (.int .i64 m.c) ∧ w.cell? ⟨g, j * 4 + 3, none⟩ = some u := by
 subst hq
 obtain ⟨k0, k1, k2, k3⟩ := matCells_get us ms j u m hu hm
 exact ⟨h.vecCell i hi _ k0, h.vecCell i hi _ k1, h.vecCell i hi _ k2, h.vecCell i hi _ k3⟩
theorem St.ptV {w0 w : World} {L : List It} (h : St w0 w L) (i : Nat) {v : Value} {us : List Value} {ms : List Mt} {m : Mt} {j : Nat} (hi : L[i]? = some (ptIt v us ms j)) (hul : us.length = ms.length) (hm : ms[j]? = some m) : ∃ A c, us[j]? = some (.slice A m.d.length c) := by
 have hj := (List.getElem?_eq_some_iff.1 hm).1
 have hu : us[j]? = some (us[j]'(by omega)) := List.getElem?_eq_getElem _
 obtain ⟨A, c, e, _⟩ := ((h.ptOff i hi hu hm).own 0 rfl).ints
 exact ⟨A, c, by rw [hu]; exact congrArg some e⟩
def rsM (p : Int) (n : Nat) (S : List (List Int)) : Mt := ⟨p, S.length, n, flat n S⟩
def lmL (L : List (List Int × List (List Int))) : List (List Int) := L.map Prod.fst
def lmM (p : Int) (n : Nat) (L : List (List Int × List (List Int))) : List Mt := L.map fun x => rsM p n x.2
theorem length_lmL (L : List (List Int × List (List Int))) : (lmL L).length = L.length := List.length_map _
theorem length_lmM (p : Int) (n : Nat) (L : List (List Int × List (List Int))) : (lmM p n L).length = L.length := List.length_map _
theorem lmL_app (L M : List (List Int × List (List Int))) : lmL (L ++ M) = lmL L ++ lmL M := List.map_append
theorem lmM_app (p : Int) (n : Nat) (L M : List (List Int × List (List Int))) : lmM p n (L ++ M) = lmM p n L ++ lmM p n M := List.map_append
def RetLM (w : World) (p : Int) (n : Nat) (L : List (List Int × List (List Int))) (e : Ending) (w' : World) : Prop := ∃ v us v2 us2, e = .returned (.tuple #[v, v2]) ∧ us.length = L.length ∧ us2.length = L.length ∧ St w w' [rowsIt v us (lmL L), matsIt v2 us2 (lmM p n L)]
theorem RetLM.nil {w w' : World} {p : Int} {n : Nat} (hb : Below w.heap.size w w') : RetLM w p n [] (.returned (.tuple #[.slice none 0 0, .slice none 0 0])) w' := by
 refine ⟨_, [], _, [], rfl, rfl, rfl, ?_⟩
 have h0 := (St.start w).on hb
 exact (h0.pushVec (Below.refl _ _) vec_nil (by simp [It.fp, Value.ownBlock])).pushVec (Below.refl _ _) vec_nil (by simp [It.fp, Value.ownBlock])
theorem St.pushLM {w0 w w' : World} {L : List It} (h : St w0 w L) {v v2 : Value} {us us2 : List Value} {ll : List (List Int)} {ms : List Mt} (h2 : St w w' [rowsIt v us ll, matsIt v2 us2 ms]) : St w0 w' (rowsIt v us ll :: matsIt v2 us2 ms :: L) :=
 h.join h2 fun x hx => by
  simp only [List.mem_cons, List.not_mem_nil, or_false] at hx
  rcases hx with rfl | rfl
  ·exact It.vec_mono (h2.at 0 rfl) h.size
  ·exact It.vec_mono (h2.at 1 rfl) h.size
theorem St.matGR {w0 w : World} {L : List It} (h : St w0 w L) (i : Nat) {g q c : Nat} {u : Value} {us : List Value} {ms : List Mt} {m : Mt} (hi : L[i]? = some (matsIt (.slice (some ⟨g, 0, none⟩) q c) us ms)) (hq : ms.length = q) (j : Nat) (hu : us[j]? = some u) (hm : ms[j]? = some m) :
  (w.cell? ⟨g, j * 4, none⟩ = some (.int .i64 m.p) ∧ w.cell? ⟨g, j * 4 + 1, none⟩ = some (.int .i64 m.r) ∧ w.cell? ⟨g, j * 4 + 2, none⟩ = some (.int .i64 m.c) ∧ w.cell? ⟨g, j * 4 + 3, none⟩ = some u) ∧ Ints w u m.d := by
 subst hq
 obtain ⟨k0, k1, k2, k3⟩ := matCells_get us ms j u m hu hm
 exact ⟨⟨h.vecCell i hi _ k0, h.vecCell i hi _ k1, h.vecCell i hi _ k2, h.vecCell i hi _ k3⟩, Own.ints ((h.at i hi).2 (u, m.d) (List.mem_of_getElem? (zip_get hu (by rw [List.getElem?_map, hm]; rfl))))⟩
theorem St.matVR {w0 w : World} {L : List It} (h : St w0 w L) (i : Nat) {v : Value} {us : List Value} {ms : List Mt} {m : Mt} (hi : L[i]? = some (matsIt v us ms)) (hul : us.length = ms.length) {j : Nat} (hm : ms[j]? = some m) : ∃ A c, us[j]? = some (.slice A m.d.length c) := by
 have hj := (List.getElem?_eq_some_iff.1 hm).1
 have hu : us[j]? = some (us[j]'(by omega)) := List.getElem?_eq_getElem _
 obtain ⟨A, c, e, _⟩ := Own.ints ((h.at i hi).2 (us[j]'(by omega), m.d) (List.mem_of_getElem? (zip_get hu (by rw [List.getElem?_map, hm]; rfl))))
 exact ⟨A, c, by rw [hu]; exact congrArg some e⟩
end
end Go.Proofs.YtbnefjhljfbecaaGreatDoor
