/- Spaces that grow; elements of spaces (plain lists). -/
import Derived.Test.YtbnefjhljfbecaaSpaceA
import Derived.Test.YtbnefjhljfbecaaSubSp
namespace Go.Proofs.Ytbnefjhljfbecaa
set_option maxRecDepth 100000
open Go.RowKit

theorem sub_of_mem {p : Int} {n : Nat} {X Y : List (List Int)} (h : ∀ l, l ∈ X → Sp p n Y (vec l)) : ∀ i, i < X.length → Sp p n Y (vec (rowOf X i)) := fun i hi => h _ (by rw [← rowOf_eq hi]; exact List.getElem_mem hi)
theorem mem_of_sub {p : Int} {n : Nat} {X Y : List (List Int)} (h : ∀ i, i < X.length → Sp p n Y (vec (rowOf X i))) {l : List Int} (hl : l ∈ X) : Sp p n Y (vec l) := by
  obtain ⟨i, hi, e⟩ := List.mem_iff_getElem.1 hl
  rw [← e, rowOf_eq hi]
  exact h i hi
theorem sub_app {p : Int} {n : Nat} {R S Y : List (List Int)} (h1 : ∀ i, i < R.length → Sp p n Y (vec (rowOf R i))) (h2 : ∀ i, i < S.length → Sp p n Y (vec (rowOf S i))) : ∀ i, i < (R ++ S).length → Sp p n Y (vec (rowOf (R ++ S) i)) :=
  sub_of_mem fun _ hl => (List.mem_append.1 hl).elim (mem_of_sub h1) (mem_of_sub h2)
theorem sp_app_right {p : Int} {n : Nat} {R S : List (List Int)} {f : Nat → Int} (h : Sp p n S f) : Sp p n (R ++ S) f := h.mono fun _ hl => List.mem_append_right _ hl
/-- It is the same whether rows or their span are added. -/
theorem spanL_app_span {p : Int} (hP : isPrime p = true) {n : Nat} {R S : List (List Int)} (h1 : Wf p n R) (h2 : Wf p n S) : spanL p n (R ++ spanL p n S) = spanL p n (R ++ S) :=
  (spanL_eq hP (h1.app (h2.spanL hP)) (h1.app h2) (sub_app (fun i hi => sp_app_left (.row i hi)) (fun i hi => sp_app_right (spanL_in hP h2 i hi)))
    (sub_app (fun i hi => sp_app_left (.row i hi)) (fun i hi => (sp_app_right (spanL_out hP h2 i hi))))).1

theorem matOk_flat {p : Int} {n : Nat} {R : List (List Int)} (hP : isPrime p = true) (h : Wf p n R) (hr : R.length ≤ 40) (hn : n ≤ 40) : matOk p R.length n (flat n R) = true := by
  have hp := (isPrime_bd hP).1
  have e1 : ((flat n R).length : Int) = (R.length : Int) * n := by rw [length_flat]; simp
  have i1 : inR (R.length : Int) 0 40 = true := by simp [inR]; omega
  have i2 : inR (n : Int) 0 40 = true := by simp [inR]; omega
  simp only [matOk, hP, i1, i2, resid_flat (by omega) h, decide_eq_true e1, Bool.and_self]
theorem spaceOk_flat {p : Int} {n : Nat} {R : List (List Int)} {a : List Nat} (hP : isPrime p = true) (h : Rf p n R a) (hr : R.length ≤ 40) (hn : n ≤ 40) : spaceOk p R.length n (flat n R) = true := by
  rw [spaceOk, matOk_flat hP h.wf hr hn, Bool.true_and, decide_eq_true_eq, Int.toNat_natCast, Int.toNat_natCast, rowsM_flat h.wf, spanM, (spanL_self hP h).1]
  exact ⟨rfl, rfl⟩
/-- A space that passes is in reduced form. -/
theorem spaceOk_rf {p r c : Int} {D : List Int} (h : spaceOk p r c D = true) : ∃ (n : Nat) (R : List (List Int)) (a : List Nat), c = n ∧ r = R.length ∧ D = flat n R ∧ Rf p n R a ∧ R.length ≤ 40 ∧ n ≤ 40 ∧ isPrime p = true := by
  simp only [spaceOk, Bool.and_eq_true, decide_eq_true_eq] at h
  obtain ⟨h1, h2, h3⟩ := h
  obtain ⟨a, b, rfl, rfl, ha, hb, hD, hR, h4, h5, hP⟩ := matOk_spec h1
  rw [Int.toNat_natCast, Int.toNat_natCast] at h2 h3
  have hrf := spanL_rf hP (Wf_rowsM (p := p) (by omega) (r := a) (c := b) hR)
  refine ⟨b, spanL p b (rowsM a b D), _, rfl, by rw [h3], h2.symm, hrf, by omega, hb, hP⟩

/-- A step that makes spaces grow. -/
structure Grow (p : Int) (n : Nat) (f : List (List Int) → List (List Int)) : Prop where
  rf : ∀ R a, Rf p n R a → ∃ b, Rf p n (f R) b
  sup : ∀ R a, Rf p n R a → ∀ i, i < R.length → Sp p n (f R) (vec (rowOf R i))
def growTo (f : List (List Int) → List (List Int)) : Nat → List (List Int) → List (List Int)
  | 0, R => R
  | k + 1, R => if (f R).length = R.length then R else growTo f k (f R)
theorem Grow.le {p : Int} (hp : 2 ≤ p) {n : Nat} {f : List (List Int) → List (List Int)} (g : Grow p n f) {R : List (List Int)} {a : List Nat} (h : Rf p n R a) : R.length ≤ (f R).length := by
  obtain ⟨b, hb⟩ := g.rf R a h
  exact h.length_le hp hb (g.sup R a h)
theorem Grow.same {p : Int} (hp : 2 ≤ p) {n : Nat} {f : List (List Int) → List (List Int)} (g : Grow p n f) {R : List (List Int)} {a : List Nat} (h : Rf p n R a) (e : (f R).length = R.length) : f R = R := by
  obtain ⟨b, hb⟩ := g.rf R a h
  exact (h.eq_len hp hb (g.sup R a h) (Nat.le_of_eq e)).symm
theorem growTo_stop {f : List (List Int) → List (List Int)} {R : List (List Int)} (h : (f R).length = R.length) (k : Nat) : growTo f k R = R := by
  cases k with
  | zero => rfl
  | succ k => rw [growTo, if_pos h]
theorem Grow.fuel {p : Int} (hp : 2 ≤ p) {n : Nat} {f : List (List Int) → List (List Int)} (g : Grow p n f) : ∀ (k m : Nat) {R : List (List Int)} {a : List Nat}, Rf p n R a → n - R.length ≤ k → n - R.length ≤ m → growTo f k R = growTo f m R
  | 0, m, R, a, hok, hf, hg => by
    obtain ⟨b, hb⟩ := g.rf R a hok
    have h1 := g.le hp hok
    have h2 := rf_le_n hp hb
    have h : (f R).length = R.length := by omega
    rw [growTo_stop h, growTo_stop h]
  | k + 1, m, R, a, hok, hf, hg => by
    obtain ⟨b, hb⟩ := g.rf R a hok
    have h1 := g.le hp hok
    have h2 := rf_le_n hp hb
    by_cases h : (f R).length = R.length
    · rw [growTo_stop h, growTo_stop h]
    · obtain ⟨m', rfl⟩ : ∃ m', m = m' + 1 := ⟨m - 1, by omega⟩
      rw [growTo, growTo, if_neg h, if_neg h]
      exact g.fuel hp k m' hb (by omega) (by omega)
theorem Grow.rfTo {p : Int} {n : Nat} {f : List (List Int) → List (List Int)} (g : Grow p n f) : ∀ (k : Nat) {R : List (List Int)} {a : List Nat}, Rf p n R a → ∃ b, Rf p n (growTo f k R) b
  | 0, _, _, h => ⟨_, h⟩
  | k + 1, R, a, h => by
    rw [growTo]
    split
    · exact ⟨_, h⟩
    · obtain ⟨b, hb⟩ := g.rf R a h
      exact g.rfTo k hb
/-- A run of a growing loop. -/
def GrowRun (p : Int) (n : Nat) (f : List (List Int) → List (List Int)) (R G : List (List Int)) : Prop := (∃ a, Rf p n R a) ∧ G = growTo f (n - R.length) R
theorem GrowRun.start {p : Int} (hp : 2 ≤ p) {n : Nat} {f : List (List Int) → List (List Int)} (g : Grow p n f) {R : List (List Int)} {a : List Nat} (h : Rf p n R a) : GrowRun p n f R (growTo f n R) :=
  ⟨⟨_, h⟩, g.fuel hp _ _ h (by omega) (by omega)⟩
theorem GrowRun.stop {p : Int} {n : Nat} {f : List (List Int) → List (List Int)} {R G : List (List Int)} (h : GrowRun p n f R G) (e : (f R).length = R.length) : R = G := by
  rw [h.2, growTo_stop e]
theorem GrowRun.next {p : Int} (hp : 2 ≤ p) {n : Nat} {f : List (List Int) → List (List Int)} (g : Grow p n f) {R G : List (List Int)} (h : GrowRun p n f R G) (e : (f R).length ≠ R.length) : GrowRun p n f (f R) G ∧ R.length < (f R).length ∧ (f R).length ≤ n := by
  obtain ⟨⟨a, ha⟩, hG⟩ := h
  obtain ⟨b, hb⟩ := g.rf R a ha
  have h1 := g.le hp ha
  have h2 := rf_le_n hp hb
  refine ⟨⟨⟨b, hb⟩, ?_⟩, by omega, h2⟩
  rw [hG]
  obtain ⟨m, hm⟩ : ∃ m, n - R.length = m + 1 := ⟨n - R.length - 1, by omega⟩
  rw [hm, growTo, if_neg e]
  exact g.fuel hp _ _ hb (by omega) (by omega)

/-- A vector less what a space has at its pivots, the first k of them. -/
def redTo (p : Int) (S : List (List Int)) (piv : List Nat) (v : List Int) : Nat → List Int
  | 0 => v
  | k + 1 => if vec (redTo p S piv v k) (pv piv k) = 0 then redTo p S piv v k else addL (redTo p S piv v k) (p - vec (redTo p S piv v k) (pv piv k)) (rowOf S k) p
theorem redTo_ok {p : Int} (hp : 2 ≤ p) {n : Nat} {S : List (List Int)} {piv : List Nat} (h : Rf p n S piv) {v : List Int} (hv : v.length = n) (rv : resid p v = true) : ∀ k, k ≤ piv.length → (redTo p S piv v k).length = n ∧ resid p (redTo p S piv v k) = true
  | 0, _ => ⟨hv, rv⟩
  | k + 1, hk => by
    obtain ⟨h1, h2⟩ := redTo_ok hp h hv rv k (by omega)
    rw [redTo]
    split
    · exact ⟨h1, h2⟩
    · have hl := (h.wf k (by rw [h.len]; omega)).1
      exact ⟨by rw [length_addL _ _ _ _ (by rw [hl, h1]), h1], resid_addL _ _ _ _ (by omega)⟩
/-- It differs from the vector by an element of the space, and is 0 at the pivots that have been. -/
theorem redTo_spec {p : Int} (hp : 2 ≤ p) {n : Nat} {S : List (List Int)} {piv : List Nat} (h : Rf p n S piv) {v : List Int} (hv : v.length = n) (rv : resid p v = true) : ∀ k, k ≤ piv.length →
    Sp p n S (fun c => vec (redTo p S piv v k) c - vec v c) ∧ ∀ j, j < k → vec (redTo p S piv v k) (pv piv j) = 0
  | 0, _ => ⟨Sp.zero.eqOn fun c _ => by show vec v c - vec v c = 0; omega, fun j hj => absurd hj (Nat.not_lt_zero _)⟩
  | k + 1, hk => by
    obtain ⟨h1, h2⟩ := redTo_spec hp h hv rv k (by omega)
    obtain ⟨l1, r1⟩ := redTo_ok hp h hv rv k (by omega)
    have hkS : k < S.length := by rw [h.len]; omega
    have hl := (h.wf k hkS).1
    rw [redTo]
    split
    · rename_i e
      refine ⟨h1, fun j hj => ?_⟩
      by_cases hjk : j = k
      · rw [hjk]; exact e
      · exact h2 j (by omega)
    · refine ⟨(Sp.comb (p - vec (redTo p S piv v k) (pv piv k)) h1 (.row k hkS)).congr fun c hc => ?_, fun j hj => ?_⟩
      · rw [vec_addL _ _ (by rw [hl, l1]) (by rw [l1]; exact hc)]
        obtain ⟨u, hu⟩ := emod_dvd (p := p) (a := vec (redTo p S piv v k) c + (p - vec (redTo p S piv v k) (pv piv k)) * vec (rowOf S k) c)
        exact ⟨u, by grind⟩
      · have hjn := h.lt j (by omega)
        rw [vec_addL _ _ (by rw [hl, l1]) (by rw [l1]; exact hjn)]
        by_cases hjk : j = k
        · subst hjk
          rw [h.one j (by omega), Int.mul_one, show vec (redTo p S piv v j) (pv piv j) + (p - vec (redTo p S piv v j) (pv piv j)) = p by omega, Int.emod_self]
        · rw [h.off j k (by omega) (by omega) hjk, h2 j (by omega)]; simp
def redV (p : Int) (S : List (List Int)) (piv : List Nat) (v : List Int) : List Int := redTo p S piv v piv.length
/-- A vector lies in a space if nothing is left of it. -/
theorem redV_zero {p : Int} (hp : 2 ≤ p) {n : Nat} {S : List (List Int)} {piv : List Nat} (h : Rf p n S piv) {v : List Int} (hv : v.length = n) (rv : resid p v = true) : zeroL (redV p S piv v) = true ↔ Sp p n S (vec v) := by
  obtain ⟨l1, r1⟩ := redTo_ok hp h hv rv piv.length (Nat.le_refl _)
  obtain ⟨h1, h2⟩ := redTo_spec hp h hv rv piv.length (Nat.le_refl _)
  change (redV p S piv v).length = n at l1
  change resid p (redV p S piv v) = true at r1
  change Sp p n S (fun c => vec (redV p S piv v) c - vec v c) at h1
  change ∀ j, j < piv.length → vec (redV p S piv v) (pv piv j) = 0 at h2
  rw [zeroL_iff]
  constructor
  · intro hz
    exact (h1.mul (-1)).eqOn fun c hc => by rw [hz c (by rw [l1]; exact hc)]; omega
  · intro hS i hi
    rw [l1] at hi
    have h3 : Sp p n S (vec (redV p S piv v)) := (Sp.comb 1 h1 hS).eqOn fun c _ => by omega
    obtain ⟨u, hu⟩ := h.nil h3 (fun j hj => ⟨0, by rw [h2 j hj]; omega⟩) i hi
    have hb := resid_vec r1 (by rw [l1]; exact hi)
    exact resid_eq_of hb (by omega : (0 : Int) ≤ 0 ∧ (0 : Int) < p) (u := u) (by omega)
/-- All rows lie in a space. -/
def subB (p : Int) (S : List (List Int)) (piv : List Nat) (R : List (List Int)) : Bool := R.all fun l => zeroL (redV p S piv l)
theorem subB_iff {p : Int} (hp : 2 ≤ p) {n : Nat} {R S : List (List Int)} {piv : List Nat} (h : Rf p n S piv) (hR : Wf p n R) : subB p S piv R = true ↔ ∀ i, i < R.length → Sp p n S (vec (rowOf R i)) := by
  rw [subB, List.all_eq_true]
  constructor
  · intro hall i hi
    exact (redV_zero hp h (hR i hi).1 (hR i hi).2).1 (hall _ (by rw [← rowOf_eq hi]; exact List.getElem_mem hi))
  · intro hall l hl
    obtain ⟨i, hi, e⟩ := List.mem_iff_getElem.1 hl
    rw [rowOf_eq hi] at e
    subst e
    exact (redV_zero hp h (hR i hi).1 (hR i hi).2).2 (hall i hi)
end Go.Proofs.Ytbnefjhljfbecaa
