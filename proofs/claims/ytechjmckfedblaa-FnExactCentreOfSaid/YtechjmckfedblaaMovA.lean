/- Spaces of modules: what is made of them, and how they grow; elements of spaces. SumSpaces of the program. -/
import Derived.Test.YtechjmckfedblaaSpaceA
import Derived.Test.YtechjmckfedblaaSubSp
import Derived.Test.YtechjmckfedblaaMul
import Derived.Test.YtechjmckfedblaaModA
import Derived.Test.YtechjmckfedblaaCloA
namespace Go.Proofs.Ytechjmckfedblaa
set_option maxRecDepth 100000
section
open Go.RowKit

theorem sub_of_mem {p : Int} {n : Nat} {X Y : List (List Int)} (h : ∀ l, l ∈ X → Sp p n Y (vec l)) : ∀ i, i < X.length → Sp p n Y (vec (rowOf X i)) := fun i hi => h _ (by rw [← rowOf_eq hi]; exact List.getElem_mem hi)
theorem mem_of_sub {p : Int} {n : Nat} {X Y : List (List Int)} (h : ∀ i, i < X.length → Sp p n Y (vec (rowOf X i))) {l : List Int} (hl : l ∈ X) : Sp p n Y (vec l) := by
  obtain ⟨i, hi, e⟩ := List.mem_iff_getElem.1 hl
  rw [← e, rowOf_eq hi]
  exact h i hi
theorem sub_app {p : Int} {n : Nat} {R S Y : List (List Int)} (h1 : ∀ i, i < R.length → Sp p n Y (vec (rowOf R i))) (h2 : ∀ i, i < S.length → Sp p n Y (vec (rowOf S i))) : ∀ i, i < (R ++ S).length → Sp p n Y (vec (rowOf (R ++ S) i)) :=
  sub_of_mem fun _ hl => (List.mem_append.1 hl).elim (mem_of_sub h1) (mem_of_sub h2)
theorem sp_app_right {p : Int} {n : Nat} {R S : List (List Int)} {f : Nat → Int} (h : Sp p n S f) : Sp p n (R ++ S) f := h.mono fun _ hl => List.mem_append_right _ hl
/-- It is the same whether rows or their span are added. -/
theorem spanL_app_span {p : Int} (hP : isPrime p = true) {n : Nat} {R S : List (List Int)} (h1 : Wf p n R) (h2 : Wf p n S) : spanL p n (R ++ spanL p n S) = spanL p n (R ++ S) :=
  (spanL_eq hP (h1.app (h2.spanL hP)) (h1.app h2) (sub_app (fun i hi => sp_app_left (.row i hi)) (fun i hi => sp_app_right (spanL_in hP h2 i hi)))
    (sub_app (fun i hi => sp_app_left (.row i hi)) (fun i hi => (sp_app_right (spanL_out hP h2 i hi))))).1

theorem matOk_flat {p : Int} {n : Nat} {R : List (List Int)} (hP : isPrime p = true) (h : Wf p n R) (hr : R.length ≤ 40) (hn : n ≤ 40) : matOk p R.length n (flat n R) = true := by
  have hp := (isPrime_bd hP).1
  have e1 : ((flat n R).length : Int) = (R.length : Int) * n := by rw [length_flat]; simp
  have i1 : inR (R.length : Int) 0 40 = true := by simp [inR]; omega
  have i2 : inR (n : Int) 0 40 = true := by simp [inR]; omega
  simp only [matOk, hP, i1, i2, resid_flat (by omega) h, decide_eq_true e1, Bool.and_self]
theorem spaceOk_flat {p : Int} {n : Nat} {R : List (List Int)} {a : List Nat} (hP : isPrime p = true) (h : Rf p n R a) (hr : R.length ≤ 40) (hn : n ≤ 40) : spaceOk p R.length n (flat n R) = true := by
  rw [spaceOk, matOk_flat hP h.wf hr hn, Bool.true_and, decide_eq_true_eq, Int.toNat_natCast, Int.toNat_natCast, rowsM_flat h.wf, spanM, (spanL_self hP h).1]
  exact ⟨rfl, rfl⟩
/-- A space that passes is in reduced form. -/
theorem spaceOk_rf {p r c : Int} {D : List Int} (h : spaceOk p r c D = true) : ∃ (n : Nat) (R : List (List Int)) (a : List Nat), c = n ∧ r = R.length ∧ D = flat n R ∧ Rf p n R a ∧ R.length ≤ 40 ∧ n ≤ 40 ∧ isPrime p = true := by
  simp only [spaceOk, Bool.and_eq_true, decide_eq_true_eq] at h
  obtain ⟨h1, h2, h3⟩ := h
  obtain ⟨a, b, rfl, rfl, ha, hb, hD, hR, h4, h5, hP⟩ := matOk_spec h1
  rw [Int.toNat_natCast, Int.toNat_natCast] at h2 h3
  have hrf := spanL_rf hP (Wf_rowsM (p := p) (by omega) (r := a) (c := b) hR)
  refine ⟨b, spanL p b (rowsM a b D), _, rfl, by rw [h3], h2.symm, hrf, by omega, hb, hP⟩

/-- A step that makes spaces grow. -/
structure Grow (p : Int) (n : Nat) (f : List (List Int) → List (List Int)) : Prop where
  rf : ∀ R a, Rf p n R a → ∃ b, Rf p n (f R) b
  sup : ∀ R a, Rf p n R a → ∀ i, i < R.length → Sp p n (f R) (vec (rowOf R i))
def growTo (f : List (List Int) → List (List Int)) : Nat → List (List Int) → List (List Int)
  | 0, R => R
  | k + 1, R => if (f R).length = R.length then R else growTo f k (f R)
theorem Grow.le {p : Int} (hp : 2 ≤ p) {n : Nat} {f : List (List Int) → List (List Int)} (g : Grow p n f) {R : List (List Int)} {a : List Nat} (h : Rf p n R a) : R.length ≤ (f R).length := by
  obtain ⟨b, hb⟩ := g.rf R a h
  exact h.length_le hp hb (g.sup R a h)
theorem Grow.same {p : Int} (hp : 2 ≤ p) {n : Nat} {f : List (List Int) → List (List Int)} (g : Grow p n f) {R : List (List Int)} {a : List Nat} (h : Rf p n R a) (e : (f R).length = R.length) : f R = R := by
  obtain ⟨b, hb⟩ := g.rf R a h
  exact (h.eq_len hp hb (g.sup R a h) (Nat.le_of_eq e)).symm
theorem growTo_stop {f : List (List Int) → List (List Int)} {R : List (List Int)} (h : (f R).length = R.length) (k : Nat) : growTo f k R = R := by
  cases k with
  | zero => rfl
  | succ k => rw [growTo, if_pos h]
theorem Grow.fuel {p : Int} (hp : 2 ≤ p) {n : Nat} {f : List (List Int) → List (List Int)} (g : Grow p n f) : ∀ (k m : Nat) {R : List (List Int)} {a : List Nat}, Rf p n R a → n - R.length ≤ k → n - R.length ≤ m → growTo f k R = growTo f m R
  | 0, m, R, a, hok, hf, hg => by
    obtain ⟨b, hb⟩ := g.rf R a hok
    have h1 := g.le hp hok
    have h2 := rf_le_n hp hb
    have h : (f R).length = R.length := by omega
    rw [growTo_stop h, growTo_stop h]
  | k + 1, m, R, a, hok, hf, hg => by
    obtain ⟨b, hb⟩ := g.rf R a hok
    have h1 := g.le hp hok
    have h2 := rf_le_n hp hb
    by_cases h : (f R).length = R.length
    · rw [growTo_stop h, growTo_stop h]
    · obtain ⟨m', rfl⟩ : ∃ m', m = m' + 1 := ⟨m - 1, by omega⟩
      rw [growTo, growTo, if_neg h, if_neg h]
      exact g.fuel hp k m' hb (by omega) (by omega)
theorem Grow.rfTo {p : Int} {n : Nat} {f : List (List Int) → List (List Int)} (g : Grow p n f) : ∀ (k : Nat) {R : List (List Int)} {a : List Nat}, Rf p n R a → ∃ b, Rf p n (growTo f k R) b
  | 0, _, _, h => ⟨_, h⟩
  | k + 1, R, a, h => by
    rw [growTo]
    split
    · exact ⟨_, h⟩
    · obtain ⟨b, hb⟩ := g.rf R a h
      exact g.rfTo k hb
/-- A run of a growing loop. -/
def GrowRun (p : Int) (n : Nat) (f : List (List Int) → List (List Int)) (R G : List (List Int)) : Prop := (∃ a, Rf p n R a) ∧ G = growTo f (n - R.length) R
theorem GrowRun.start {p : Int} (hp : 2 ≤ p) {n : Nat} {f : List (List Int) → List (List Int)} (g : Grow p n f) {R : List (List Int)} {a : List Nat} (h : Rf p n R a) : GrowRun p n f R (growTo f n R) :=
  ⟨⟨_, h⟩, g.fuel hp _ _ h (by omega) (by omega)⟩
theorem GrowRun.stop {p : Int} {n : Nat} {f : List (List Int) → List (List Int)} {R G : List (List Int)} (h : GrowRun p n f R G) (e : (f R).length = R.length) : R = G := by
  rw [h.2, growTo_stop e]
theorem GrowRun.next {p : Int} (hp : 2 ≤ p) {n : Nat} {f : List (List Int) → List (List Int)} (g : Grow p n f) {R G : List (List Int)} (h : GrowRun p n f R G) (e : (f R).length ≠ R.length) : GrowRun p n f (f R) G ∧ R.length < (f R).length ∧ (f R).length ≤ n := by
  obtain ⟨⟨a, ha⟩, hG⟩ := h
  obtain ⟨b, hb⟩ := g.rf R a ha
  have h1 := g.le hp ha
  have h2 := rf_le_n hp hb
  refine ⟨⟨⟨b, hb⟩, ?_⟩, by omega, h2⟩
  rw [hG]
  obtain ⟨m, hm⟩ : ∃ m, n - R.length = m + 1 := ⟨n - R.length - 1, by omega⟩
  rw [hm, growTo, if_neg e]
  exact g.fuel hp _ _ hb (by omega) (by omega)

/-- What a matrix makes of a space. -/
def mulR (p : Int) (n : Nat) (R : List (List Int)) (m : Mt) : List (List Int) := rowsM R.length n (mulD p R.length n n (flat n R) m.d)
theorem length_mulR (p : Int) (n : Nat) (R : List (List Int)) (m : Mt) : (mulR p n R m).length = R.length := length_rowsM _ _ _
theorem Wf_mulR {p : Int} (hp : 2 ≤ p) (n : Nat) (R : List (List Int)) (m : Mt) : Wf p n (mulR p n R m) := Wf_rowsM (by omega) (resid_mulD hp _ _ _ _ _)
theorem flat_mulR (p : Int) (n : Nat) (R : List (List Int)) (m : Mt) : flat n (mulR p n R m) = mulD p R.length n n (flat n R) m.d := flat_rowsM (length_mulD _ _ _ _ _ _)
def mvTo (p : Int) (n : Nat) (ms : List Mt) (R : List (List Int)) : Nat → List (List Int)
  | 0 => R
  | i + 1 => spanL p n (mvTo p n ms R i ++ mulR p n R (mAt ms i))
def mvNext (p : Int) (n : Nat) (ms : List Mt) (R : List (List Int)) : List (List Int) := mvTo p n ms R ms.length
theorem mvTo_rf {p : Int} (hP : isPrime p = true) {n : Nat} (ms : List Mt) {R : List (List Int)} {a : List Nat} (h : Rf p n R a) : ∀ i, ∃ b, Rf p n (mvTo p n ms R i) b
  | 0 => ⟨a, h⟩
  | i + 1 => by
    obtain ⟨b, hb⟩ := mvTo_rf hP ms h i
    exact ⟨_, spanL_rf hP (hb.wf.app (Wf_mulR (isPrime_bd hP).1 n R (mAt ms i)))⟩
theorem mvTo_up {p : Int} (hP : isPrime p = true) {n : Nat} (ms : List Mt) {R : List (List Int)} {a : List Nat} (h : Rf p n R a) (i : Nat) : (∀ j, j < (mvTo p n ms R i).length → Sp p n (mvTo p n ms R (i + 1)) (vec (rowOf (mvTo p n ms R i) j))) ∧ ∀ j, j < (mulR p n R (mAt ms i)).length → Sp p n (mvTo p n ms R (i + 1)) (vec (rowOf (mulR p n R (mAt ms i)) j)) := by
  obtain ⟨b, hb⟩ := mvTo_rf hP ms h i
  have hw := hb.wf.app (Wf_mulR (isPrime_bd hP).1 n R (mAt ms i))
  exact ⟨fun j hj => (sp_app_left (.row j hj)).trans (spanL_out hP hw), fun j hj => (sp_app_right (.row j hj)).trans (spanL_out hP hw)⟩
theorem mvTo_sup {p : Int} (hP : isPrime p = true) {n : Nat} (ms : List Mt) {R : List (List Int)} {a : List Nat} (h : Rf p n R a) (i k : Nat) : ∀ j, j < (mvTo p n ms R i).length → Sp p n (mvTo p n ms R (i + k)) (vec (rowOf (mvTo p n ms R i) j)) := by
  induction k with
  | zero => exact fun j hj => .row j hj
  | succ k ih => exact fun j hj => (ih j hj).trans (mvTo_up hP ms h (i + k)).1
theorem mv_grow {p : Int} (hP : isPrime p = true) {n : Nat} (ms : List Mt) : Grow p n (mvNext p n ms) :=
  ⟨fun _ _ h => mvTo_rf hP ms h _, fun _ _ h i hi => by have := mvTo_sup hP ms h 0 ms.length i hi; rw [Nat.zero_add] at this; exact this⟩
/-- A space is a submodule if it does not grow. -/
theorem mv_same {p : Int} (hP : isPrime p = true) {n : Nat} (ms : List Mt) {R : List (List Int)} {a : List Nat} (h : Rf p n R a) : (mvNext p n ms R).length = R.length ↔ ∀ i, i < ms.length → ∀ j, j < (mulR p n R (mAt ms i)).length → Sp p n R (vec (rowOf (mulR p n R (mAt ms i)) j)) := by
  have hp := (isPrime_bd hP).1
  constructor
  · intro e i hi j hj
    have hs := (mv_grow hP ms).same hp h e
    have h1 := (mvTo_up hP ms h i).2 j hj
    have h2 := h1.trans (mvTo_sup hP ms h (i + 1) (ms.length - (i + 1)))
    rw [show i + 1 + (ms.length - (i + 1)) = ms.length by omega] at h2
    change Sp p n (mvNext p n ms R) _ at h2
    rwa [hs] at h2
  · intro hall
    have key : ∀ i, i ≤ ms.length → mvTo p n ms R i = R := by
      intro i
      induction i with
      | zero => intro _; rfl
      | succ i ih =>
        intro hi
        rw [mvTo, ih (by omega)]
        rw [(spanL_eq hP (h.wf.app (Wf_mulR hp n R (mAt ms i))) h.wf (sub_app (fun j hj => .row j hj) (hall i (by omega))) (fun j hj => sp_app_left (.row j hj))).1, (spanL_self hP h).1]
    rw [mvNext, key _ (Nat.le_refl _)]

/-- A vector less what a space has at its pivots, the first k of them. -/
def redTo (p : Int) (S : List (List Int)) (piv : List Nat) (v : List Int) : Nat → List Int
  | 0 => v
  | k + 1 => if vec (redTo p S piv v k) (pv piv k) = 0 then redTo p S piv v k else addL (redTo p S piv v k) (p - vec (redTo p S piv v k) (pv piv k)) (rowOf S k) p
theorem redTo_ok {p : Int} (hp : 2 ≤ p) {n : Nat} {S : List (List Int)} {piv : List Nat} (h : Rf p n S piv) {v : List Int} (hv : v.length = n) (rv : resid p v = true) : ∀ k, k ≤ piv.length → (redTo p S piv v k).length = n ∧ resid p (redTo p S piv v k) = true
  | 0, _ => ⟨hv, rv⟩
  | k + 1, hk => by
    obtain ⟨h1, h2⟩ := redTo_ok hp h hv rv k (by omega)
    rw [redTo]
    split
    · exact ⟨h1, h2⟩
    · have hl := (h.wf k (by rw [h.len]; omega)).1
      exact ⟨by rw [length_addL _ _ _ _ (by rw [hl, h1]), h1], resid_addL _ _ _ _ (by omega)⟩
/-- It differs from the vector by an element of the space, and is 0 at the pivots that have been. -/
theorem redTo_spec {p : Int} (hp : 2 ≤ p) {n : Nat} {S : List (List Int)} {piv : List Nat} (h : Rf p n S piv) {v : List Int} (hv : v.length = n) (rv : resid p v = true) : ∀ k, k ≤ piv.length →
    Sp p n S (fun c => vec (redTo p S piv v k) c - vec v c) ∧ ∀ j, j < k → vec (redTo p S piv v k) (pv piv j) = 0
  | 0, _ => ⟨Sp.zero.eqOn fun c _ => by show vec v c - vec v c = 0; omega, fun j hj => absurd hj (Nat.not_lt_zero _)⟩
  | k + 1, hk => by
    obtain ⟨h1, h2⟩ := redTo_spec hp h hv rv k (by omega)
    obtain ⟨l1, r1⟩ := redTo_ok hp h hv rv k (by omega)
    have hkS : k < S.length := by rw [h.len]; omega
    have hl := (h.wf k hkS).1
    rw [redTo]
    split
    · rename_i e
      refine ⟨h1, fun j hj => ?_⟩
      by_cases hjk : j = k
      · rw [hjk]; exact e
      · exact h2 j (by omega)
    · refine ⟨(Sp.comb (p - vec (redTo p S piv v k) (pv piv k)) h1 (.row k hkS)).congr fun c hc => ?_, fun j hj => ?_⟩
      · rw [vec_addL _ _ (by rw [hl, l1]) (by rw [l1]; exact hc)]
        obtain ⟨u, hu⟩ := emod_dvd (p := p) (a := vec (redTo p S piv v k) c + (p - vec (redTo p S piv v k) (pv piv k)) * vec (rowOf S k) c)
        exact ⟨u, by grind⟩
      · have hjn := h.lt j (by omega)
        rw [vec_addL _ _ (by rw [hl, l1]) (by rw [l1]; exact hjn)]
        by_cases hjk : j = k
        · subst hjk
          rw [h.one j (by omega), Int.mul_one, show vec (redTo p S piv v j) (pv piv j) + (p - vec (redTo p S piv v j) (pv piv j)) = p by omega, Int.emod_self]
        · rw [h.off j k (by omega) (by omega) hjk, h2 j (by omega)]; simp
def redV (p : Int) (S : List (List Int)) (piv : List Nat) (v : List Int) : List Int := redTo p S piv v piv.length
/-- A vector lies in a space if nothing is left of it. -/
theorem redV_zero {p : Int} (hp : 2 ≤ p) {n : Nat} {S : List (List Int)} {piv : List Nat} (h : Rf p n S piv) {v : List Int} (hv : v.length = n) (rv : resid p v = true) : zeroL (redV p S piv v) = true ↔ Sp p n S (vec v) := by
  obtain ⟨l1, r1⟩ := redTo_ok hp h hv rv piv.length (Nat.le_refl _)
  obtain ⟨h1, h2⟩ := redTo_spec hp h hv rv piv.length (Nat.le_refl _)
  change (redV p S piv v).length = n at l1
  change resid p (redV p S piv v) = true at r1
  change Sp p n S (fun c => vec (redV p S piv v) c - vec v c) at h1
  change ∀ j, j < piv.length → vec (redV p S piv v) (pv piv j) = 0 at h2
  rw [zeroL_iff]
  constructor
  · intro hz
    exact (h1.mul (-1)).eqOn fun c hc => by rw [hz c (by rw [l1]; exact hc)]; omega
  · intro hS i hi
    rw [l1] at hi
    have h3 : Sp p n S (vec (redV p S piv v)) := (Sp.comb 1 h1 hS).eqOn fun c _ => by omega
    obtain ⟨u, hu⟩ := h.nil h3 (fun j hj => ⟨0, by rw [h2 j hj]; omega⟩) i hi
    have hb := resid_vec r1 (by rw [l1]; exact hi)
    exact resid_eq_of hb (by omega : (0 : Int) ≤ 0 ∧ (0 : Int) < p) (u := u) (by omega)
/-- All rows lie in a space. -/
def subB (p : Int) (S : List (List Int)) (piv : List Nat) (R : List (List Int)) : Bool := R.all fun l => zeroL (redV p S piv l)
theorem subB_iff {p : Int} (hp : 2 ≤ p) {n : Nat} {R S : List (List Int)} {piv : List Nat} (h : Rf p n S piv) (hR : Wf p n R) : subB p S piv R = true ↔ ∀ i, i < R.length → Sp p n S (vec (rowOf R i)) := by
  rw [subB, List.all_eq_true]
  constructor
  · intro hall i hi
    exact (redV_zero hp h (hR i hi).1 (hR i hi).2).1 (hall _ (by rw [← rowOf_eq hi]; exact List.getElem_mem hi))
  · intro hall l hl
    obtain ⟨i, hi, e⟩ := List.mem_iff_getElem.1 hl
    rw [rowOf_eq hi] at e
    subst e
    exact (redV_zero hp h (hR i hi).1 (hR i hi).2).2 (hall i hi)
end
section
open Go.RowKit

set_option maxHeartbeats 2000000 in
theorem SumSpaces_any (p : Int) (n : Nat) (t u : Value) (R S : List (List Int)) (w : World) (ht : Ints w t (flat n R)) (hu : Ints w u (flat n S)) {a b : List Nat} (hR : Rf p n R a) (hS : Rf p n S b) (hn : n ≤ 40) (hP : isPrime p = true) :
    Calls Try.prog 100 #[.agg #[.int .i64 p, .int .i64 R.length, .int .i64 n, t], .agg #[.int .i64 p, .int .i64 S.length, .int .i64 n, u]] w (RetMatB w p (spanL p n (R ++ S)).length n (flat n (spanL p n (R ++ S))) true) := by
  obtain ⟨b1, b2⟩ := isPrime_bd hP
  have h1 := (((((St.start w).arg ht).arg hu).box [.int .i64 p, .int .i64 R.length, .int .i64 n, t] 32).box [.int .i64 p, .int .i64 S.length, .int .i64 n, u] 32).box [.int .i64 0, .int .i64 0, .int .i64 0, .slice none 0 0] 32
  simp only [World.size_alloc] at h1
  obtain ⟨A, k0, rfl, _, _, _⟩ := id ht
  obtain ⟨A2, k2, rfl, _, _, _⟩ := id hu
  have hRn := rf_le_n b1 hR
  have hSn := rf_le_n b1 hS
  have ok1 := spaceOk_flat hP hR (by omega) hn
  have ok2 := spaceOk_flat hP hS (by omega) hn
  have hRfl := rowsM_flat hR.wf
  have hSfl := rowsM_flat hS.wf
  have hW := hR.wf.app hS.wf
  have hSW := hW.spanL hP
  have hle := rf_le_n b1 (spanL_rf hP hW)
  have hnn := mul_le hn hn
  have m1 := mul_le (Nat.le_trans hRn hn) hn
  have m2 := mul_le (Nat.le_trans hSn hn) hn
  have m3 := mul_le (Nat.le_trans hle hn) hn
  obtain ⟨r, er⟩ : ∃ r, r = R.length := ⟨_, rfl⟩
  obtain ⟨s, es⟩ : ∃ s, s = S.length := ⟨_, rfl⟩
  obtain ⟨D, hD⟩ : ∃ D, D = flat n R := ⟨_, rfl⟩
  obtain ⟨E, hE⟩ : ∃ E, E = flat n S := ⟨_, rfl⟩
  obtain ⟨Q, hQ⟩ : ∃ Q, Q = spanL p n (R ++ S) := ⟨_, rfl⟩
  have HA := Lib.hid (fun W (v : Value) (hi : Ints W v (flat n R)) => SpaceOkI_any p R.length n v _ W hi (by omega))
  rw [ok1, ← hD, ← er] at HA
  have HB := Lib.hid (fun W (v : Value) (hi : Ints W v (flat n S)) => SpaceOkI_any p S.length n v _ W hi (by omega))
  rw [ok2, ← hE, ← es] at HB
  have C1 := Lib.hid (show ∀ (W : World) (v1 : Value), Ints W v1 D → Calls Try.prog 73 #[.agg #[.int .i64 p, .int .i64 r, .int .i64 n, v1]] W (RetLL W R) from fun W v1 x1 => by
    rw [hD] at x1
    have := rowsOf_any p R.length n v1 (flat n R) W x1 (length_flat n R) (by omega) (by omega)
    rw [hRfl] at this
    rw [er]
    exact this)
  have C2 := Lib.hid (show ∀ (W : World) (v1 : Value), Ints W v1 E → Calls Try.prog 73 #[.agg #[.int .i64 p, .int .i64 s, .int .i64 n, v1]] W (RetLL W S) from fun W v1 x1 => by
    rw [hE] at x1
    have := rowsOf_any p S.length n v1 (flat n S) W x1 (length_flat n S) (by omega) (by omega)
    rw [hSfl] at this
    rw [es]
    exact this)
  have C3 := Lib.hid (show ∀ (W : World) (v1 : Value), IntRows W v1 (R ++ S) → Calls Try.prog 138 #[v1, .int .i64 n, .int .i64 p] W (RetLL W Q) from fun W v1 x1 => by rw [hQ]; exact span_any p n v1 (R ++ S) W x1 hW (by rw [List.length_append]; omega) (by omega) hP)
  have C4 := Lib.hid (show ∀ (W : World) (v1 : Value), IntRows W v1 Q → Calls Try.prog 112 #[.int .i64 p, .int .i64 n, v1] W (RetMat W p Q.length n (flat n Q)) from fun W v1 x1 => by
    rw [hQ] at x1 ⊢
    rw [flat_flatten hSW]; exact matrixOf_any p n v1 _ W x1 (by rw [total_wf hSW]; omega))
  have HLen := Lib.hid (show R.length + S.length ≤ 1099511627776 by omega)
  rw [← hQ]
  rw [← hD, ← hE, ← er, ← es] at h1 ⊢
  clear ht hu hRn hSn ok1 ok2 hRfl hSfl hW hSW hle hnn m1 m2 m3 er es hD hE hQ hR hS
  obtain ⟨x0, x1, x2, x3⟩ := h1.box4 2 rfl
  go_enter Try.func100, Try.ntmps100
  go_wp2_with fail
  refine (HA.out _ _ (h1.roInts 4 rfl)).mono ?_
  rintro (e : Ending) w1 ⟨rfl, hb1⟩
  replace h1 := h1.on hb1
  clear hb1 x0 x1 x2 x3
  obtain ⟨y0, y1, y2, y3⟩ := h1.box4 1 rfl
  go_wp2_with fail
  refine (HB.out _ _ (h1.roInts 3 rfl)).mono ?_
  rintro (e : Ending) w2 ⟨rfl, hb1⟩
  replace h1 := h1.on hb1
  clear hb1 y0 y1 y2 y3
  obtain ⟨x0, x1, x2, x3⟩ := h1.box4 2 rfl
  obtain ⟨y0, y1, y2, y3⟩ := h1.box4 1 rfl
  go_upto_region 3 with fail
  clear x0 x1 x2 x3 y0 y1 y2 y3
  have g0 := h1.drew
  refine wp_region_cut (S := fun w' => (w'.cell? ⟨w.heap.size, 0, none⟩ = some (.int .i64 p) ∧ w'.cell? ⟨w.heap.size, 1, none⟩ = some (.int .i64 r) ∧ w'.cell? ⟨w.heap.size, 2, none⟩ = some (.int .i64 n) ∧ w'.cell? ⟨w.heap.size, 3, none⟩ = some (.slice A D.length k0)) ∧ w'.cell? ⟨w.heap.size + 1, 0, none⟩ = some (.int .i64 p) ∧ w'.cell? ⟨w.heap.size + 1, 1, none⟩ = some (.int .i64 s) ∧ w'.cell? ⟨w.heap.size + 1, 2, none⟩ = some (.int .i64 n) ∧ w'.cell? ⟨w.heap.size + 1, 3, none⟩ = some (.slice A2 E.length k2)) 15 (by kernel_rfl) (by kernel_rfl) ⟨g0.box4 2 rfl, g0.box4 1 rfl⟩ (fun hHeld => ?_)
  simp only [List.take_succ_cons, List.take_zero]
  refine anyH_take (v := ?_) 0 rfl (by kernel_rfl) (by kernel_rfl) (by kernel_rfl) (fun _ _ _ h => h) rfl ?_ hHeld ?_
  rotate_left
  · intro w' hSw
    go_simp
    try with_reducible rfl
  try simp only [Act.put, List.setIfInBounds_toArray, List.set_cons_zero, List.set_cons_succ]
  refine anyH_take (v := ?_) 1 rfl (by kernel_rfl) (by kernel_rfl) (by kernel_rfl) (fun _ _ _ h => h) rfl ?_ hHeld ?_
  rotate_left
  · intro w' hSw
    go_simp
    try with_reducible rfl
  try simp only [Act.put, List.setIfInBounds_toArray, List.set_cons_zero, List.set_cons_succ]
  refine anyH_take (v := ?_) 2 rfl (by kernel_rfl) (by kernel_rfl) (by kernel_rfl) (fun _ _ _ h => h) rfl ?_ hHeld ?_
  rotate_left
  · intro w' hSw
    go_simp
    try with_reducible rfl
  try simp only [Act.put, List.setIfInBounds_toArray, List.set_cons_zero, List.set_cons_succ]
  refine anyH_take (v := ?_) 3 rfl (by kernel_rfl) (by kernel_rfl) (by kernel_rfl) (fun _ _ _ h => h) rfl ?_ hHeld ?_
  rotate_left
  · intro w' hSw
    go_simp
    try with_reducible rfl
  try simp only [Act.put, List.setIfInBounds_toArray, List.set_cons_zero, List.set_cons_succ]
  refine anyH_take (v := ?_) 4 rfl (by kernel_rfl) (by kernel_rfl) (by kernel_rfl) (fun _ _ _ h => h) rfl ?_ hHeld ?_
  rotate_left
  · intro w' hSw
    go_simp
    try with_reducible rfl
  try simp only [Act.put, List.setIfInBounds_toArray, List.set_cons_zero, List.set_cons_succ]
  refine anyH_take (v := ?_) 6 rfl (by kernel_rfl) (by kernel_rfl) (by kernel_rfl) (fun _ _ _ h => h) rfl ?_ hHeld ?_
  rotate_left
  · intro w' hSw
    go_simp
    try with_reducible rfl
  try simp only [Act.put, List.setIfInBounds_toArray, List.set_cons_zero, List.set_cons_succ]
  refine anyH_take (v := ?_) 9 rfl (by kernel_rfl) (by kernel_rfl) (by kernel_rfl) (fun _ _ _ h => h) rfl ?_ hHeld ?_
  rotate_left
  · intro w' hSw
    go_simp
    try with_reducible rfl
  try simp only [Act.put, List.setIfInBounds_toArray, List.set_cons_zero, List.set_cons_succ]
  refine anyH_take (v := ?_) 10 rfl (by kernel_rfl) (by kernel_rfl) (by kernel_rfl) (fun _ _ _ h => h) rfl ?_ hHeld ?_
  rotate_left
  · intro w' hSw
    go_simp
    try with_reducible rfl
  try simp only [Act.put, List.setIfInBounds_toArray, List.set_cons_zero, List.set_cons_succ]
  refine anyH_take (v := ?_) 11 rfl (by kernel_rfl) (by kernel_rfl) (by kernel_rfl) (fun _ _ _ h => h) rfl ?_ hHeld ?_
  rotate_left
  · intro w' hSw
    go_simp
    try with_reducible rfl
  try simp only [Act.put, List.setIfInBounds_toArray, List.set_cons_zero, List.set_cons_succ]
  refine anyH_take (v := ?_) 12 rfl (by kernel_rfl) (by kernel_rfl) (by kernel_rfl) (fun _ _ _ h => h) rfl ?_ hHeld ?_
  rotate_left
  · intro w' hSw
    go_simp
    try with_reducible rfl
  try simp only [Act.put, List.setIfInBounds_toArray, List.set_cons_zero, List.set_cons_succ]
  refine wpAnyH_ready (rs := [5]) (by kernel_rfl) (by simp) ?_
  refine ready_cons rfl (fun K hK => ?_) AllReadyH.nil
  go_simp
  refine (C1.out _ _ (g0.roInts 4 rfl)).mono ?_
  rintro (e : Ending) w3 ⟨u3, us3, rfl, hul3, hok3, hnd3, hb3⟩
  have g1 := g0.pushRows hb3 hok3 hnd3
  show K _ _
  refine hK.out _ _ ?_ (fun hHeld => ?_)
  · exact ⟨g1.box4 3 rfl, g1.box4 2 rfl⟩
  clear hK K
  try simp only [Act.put, List.setIfInBounds_toArray, List.set_cons_zero, List.set_cons_succ]
  refine wpAnyH_ready (rs := [7]) (by kernel_rfl) (by simp) ?_
  refine ready_cons rfl (fun K hK => ?_) AllReadyH.nil
  go_simp
  refine (C2.out _ _ (g1.roInts 4 rfl)).mono ?_
  rintro (e : Ending) w4 ⟨u4, us4, rfl, hul4, hok4, hnd4, hb4⟩
  have g2 := g1.pushRows hb4 hok4 hnd4
  show K _ _
  refine hK.out _ _ ?_ (fun hHeld => ?_)
  · exact ⟨g2.box4 4 rfl, g2.box4 3 rfl⟩
  clear hK K
  try simp only [Act.put, List.setIfInBounds_toArray, List.set_cons_zero, List.set_cons_succ]
  refine wpAnyH_ready (rs := [8]) (by kernel_rfl) (by simp) ?_
  refine ready_cons rfl (fun K hK => ?_) AllReadyH.nil
  refine step_append_rows rfl (.tmp 34) (.tmp 36) rfl g2 1 0 rfl rfl (by decide) hul3 hul4 HLen.out rfl rfl fun vA w5 yy g3 hAR => ?_
  simp only [List.set_cons_zero, List.set_cons_succ] at g3
  refine hK.out _ _ ?_ (fun hHeld => ?_)
  · exact ⟨g3.box4 4 rfl, g3.box4 3 rfl⟩
  clear hK K
  try simp only [Act.put, List.setIfInBounds_toArray, List.set_cons_zero, List.set_cons_succ]
  refine wpAnyH_ready (rs := [13]) (by kernel_rfl) (by simp) ?_
  refine ready_cons rfl (fun K hK => ?_) AllReadyH.nil
  go_simp
  refine (C3.out _ _ hAR).mono ?_
  rintro (e : Ending) w6 ⟨u6, us6, rfl, hul6, hok6, hnd6, hb6⟩
  have g4 := g3.pushRows hb6 hok6 hnd6
  show K _ _
  refine hK.out _ _ ?_ (fun hHeld => ?_)
  · exact ⟨g4.box4 5 rfl, g4.box4 4 rfl⟩
  clear hK K
  try simp only [Act.put, List.setIfInBounds_toArray, List.set_cons_zero, List.set_cons_succ]
  refine wpAnyH_ready (rs := [14]) (by kernel_rfl) (by simp) ?_
  refine ready_cons rfl (fun K hK => ?_) AllReadyH.nil
  go_simp
  refine (C4.out _ _ (g4.rowsR 0 rfl hul6)).mono ?_
  rintro (e : Ending) w7 ⟨u7, rfl, ho7, hb7⟩
  obtain ⟨A7, n7, c7, rfl⟩ := ho7.slice
  have g5 := g4.pushOwn hb7 ho7
  show K _ _
  refine hK.out _ _ ?_ (fun hHeld => ?_)
  · exact ⟨g5.box4 6 rfl, g5.box4 5 rfl⟩
  clear hK K
  try simp only [Act.put, List.setIfInBounds_toArray, List.set_cons_zero, List.set_cons_succ]
  refine wpAnyH_done (by kernel_rfl) ?_ _
  show wpList _ _ _ _ _ _
  simp only [List.drop_succ_cons, List.drop_zero]
  clear hHeld
  obtain ⟨p0, p1, p2, p3⟩ := g5.box4 4 rfl
  have f0 := g5.free 4 rfl 0
  have f1 := g5.free 4 rfl 1
  have f2 := g5.free 4 rfl 2
  have f3 := g5.free 4 rfl 3
  have h5 := (((g5.setBox 4 rfl 0 (.int .i64 p)).setBox 4 rfl 1 (.int .i64 Q.length)).setBox 4 rfl 2 (.int .i64 n)).setBox 4 rfl 3 (.slice A7 n7 c7)
  obtain ⟨r0, r1, r2, r3⟩ := h5.box4 4 rfl
  clear g0 g1 g2 g3 g4 g5 h1
  go_wp2
  refine bodyPost_ret (v := .tuple #[.agg #[.int .i64 p, .int .i64 Q.length, .int .i64 n, .slice A7 n7 c7], .bool true]) (by simp [results, Try.results100, go_sem, r0, r1, r2, r3]) rfl ⟨_, rfl, h5.own 0 rfl, h5.below⟩
end
end Go.Proofs.Ytechjmckfedblaa
