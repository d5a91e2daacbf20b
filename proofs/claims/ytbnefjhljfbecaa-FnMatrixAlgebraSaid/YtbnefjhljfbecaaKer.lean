/- Kernels, as plain lists: the reduced basis of what rows take to 0; two lists of rows that take the same to 0 have one kernel; the elements whose brackets lie in a space. -/
import Derived.Test.YtbnefjhljfbecaaSubI
import Derived.Test.YtbnefjhljfbecaaSolS
namespace Go.Proofs.Ytbnefjhljfbecaa
set_option maxRecDepth 100000
open Go.RowKit

/-- All rows take f to 0. -/
def Kr (p : Int) (n : Nat) (R : List (List Int)) (f : Nat → Int) : Prop := ∀ i, i < R.length → ∃ u, sumTo n (fun c => vec (rowOf R i) c * f c) = p * u
theorem Kr.sp {p : Int} {n : Nat} {R : List (List Int)} {f g : Nat → Int} (h : Kr p n R f) (hg : Sp p n R g) : ∃ u, sumTo n (fun c => g c * f c) = p * u := kl_sp h hg
theorem Kr.of {p : Int} {n : Nat} {R S : List (List Int)} {f : Nat → Int} (h : Kr p n R f) (hs : ∀ i, i < S.length → Sp p n R (vec (rowOf S i))) : Kr p n S f := fun i hi => h.sp (hs i hi)
theorem Kr_span {p : Int} (hP : isPrime p = true) {n : Nat} {R : List (List Int)} (hR : Wf p n R) {f : Nat → Int} : Kr p n (spanL p n R) f ↔ Kr p n R f :=
  ⟨fun h => h.of (spanL_out hP hR), fun h => h.of (spanL_in hP hR)⟩

/-- The vector of the kernel that belongs to the column c without a pivot, while it is made. -/
def kerTo (p : Int) (n : Nat) (S : List (List Int)) (piv : List Nat) (c : Nat) : Nat → List Int
  | 0 => unitL n c
  | i + 1 => (kerTo p n S piv c i).set (pv piv i) ((-(vec (rowOf S i) c)) % p)
def kerV (p : Int) (n : Nat) (S : List (List Int)) (piv : List Nat) (c : Nat) : List Int := kerTo p n S piv c piv.length
/-- The columns below c without a pivot. -/
def freeTo (piv : List Nat) (c : Nat) : List Nat := (List.range c).filter fun d => decide (d ∉ piv)
theorem freeTo_yes {piv : List Nat} {c : Nat} (h : c ∉ piv) : freeTo piv (c + 1) = freeTo piv c ++ [c] := by
  rw [freeTo, List.range_succ, List.filter_append]; simp [freeTo, h]
theorem freeTo_no {piv : List Nat} {c : Nat} (h : c ∈ piv) : freeTo piv (c + 1) = freeTo piv c := by
  rw [freeTo, List.range_succ, List.filter_append]; simp [freeTo, h]
theorem mem_freeTo {piv : List Nat} {c d : Nat} : d ∈ freeTo piv c ↔ d < c ∧ d ∉ piv := by simp [freeTo]
theorem length_freeTo (piv : List Nat) (c : Nat) : (freeTo piv c).length ≤ c := by
  have := List.length_filter_le (fun d => decide (d ∉ piv)) (List.range c)
  simpa [freeTo] using this
def kerTab (p : Int) (n : Nat) (S : List (List Int)) (piv : List Nat) (c : Nat) : List (List Int) := (freeTo piv c).map (kerV p n S piv)
theorem kerTab_yes {p : Int} {n : Nat} {S : List (List Int)} {piv : List Nat} {c : Nat} (h : c ∉ piv) : kerTab p n S piv (c + 1) = kerTab p n S piv c ++ [kerV p n S piv c] := by
  rw [kerTab, freeTo_yes h, List.map_append]; rfl
theorem kerTab_no {p : Int} {n : Nat} {S : List (List Int)} {piv : List Nat} {c : Nat} (h : c ∈ piv) : kerTab p n S piv (c + 1) = kerTab p n S piv c := by
  rw [kerTab, freeTo_no h, kerTab]
theorem length_kerTab (p : Int) (n : Nat) (S : List (List Int)) (piv : List Nat) (c : Nat) : (kerTab p n S piv c).length ≤ c := by
  rw [kerTab, List.length_map]; exact length_freeTo _ _
/-- The kernel of rows. -/
def kerL (p : Int) (n : Nat) (R : List (List Int)) : List (List Int) := spanL p n (kerTab p n (reduceL p n R).1 (pivL p n R) n)

theorem length_kerTo (p : Int) (n : Nat) (S : List (List Int)) (piv : List Nat) (c : Nat) : ∀ i, (kerTo p n S piv c i).length = n
  | 0 => length_unitL n c
  | i + 1 => by rw [kerTo, List.length_set, length_kerTo]
theorem length_kerV (p : Int) (n : Nat) (S : List (List Int)) (piv : List Nat) (c : Nat) : (kerV p n S piv c).length = n := length_kerTo _ _ _ _ _ _
theorem resid_kerTo {p : Int} (hp : 2 ≤ p) (n : Nat) (S : List (List Int)) (piv : List Nat) (c : Nat) : ∀ i, resid p (kerTo p n S piv c i) = true
  | 0 => resid_unitL hp n c
  | i + 1 => resid_set (resid_kerTo hp n S piv c i) (Int.emod_nonneg _ (by omega)) (Int.emod_lt_of_pos _ (by omega))
theorem kerTo_take {p : Int} {n : Nat} {R : List (List Int)} {piv : List Nat} {c k : Nat} : ∀ i, i ≤ k → kerTo p n (R.take k) piv c i = kerTo p n R piv c i
  | 0, _ => rfl
  | i + 1, h => by rw [kerTo, kerTo, kerTo_take i (by omega), rowOf_take (by omega)]
theorem Wf_map {p : Int} {n : Nat} {α : Type} {l : List α} {f : α → List Int} (h : ∀ a, a ∈ l → (f a).length = n ∧ resid p (f a) = true) : Wf p n (l.map f) := fun i hi => by
  have hl : i < l.length := by simpa using hi
  have e : rowOf (l.map f) i = f l[i] := by simp [rowOf, List.getD_eq_getElem?_getD, hl]
  rw [e]; exact h _ (List.getElem_mem hl)
theorem Wf_kerTab {p : Int} (hp : 2 ≤ p) (n : Nat) (S : List (List Int)) (piv : List Nat) (c : Nat) : Wf p n (kerTab p n S piv c) :=
  Wf_map fun _d _ => ⟨length_kerV _ _ _ _ _, resid_kerTo hp _ _ _ _ _⟩
theorem kerL_span {p : Int} (n : Nat) (R : List (List Int)) : kerL p n R = spanL p n (kerTab p n (spanL p n R) (pivL p n R) n) := by
  have e : kerTab p n (spanL p n R) (pivL p n R) n = kerTab p n (reduceL p n R).1 (pivL p n R) n := List.map_congr_left fun c _ => kerTo_take _ (Nat.le_refl _)
  rw [kerL, e]
theorem kerL_rf {p : Int} (hP : isPrime p = true) (n : Nat) (R : List (List Int)) : ∃ a, Rf p n (kerL p n R) a := ⟨_, spanL_rf hP (Wf_kerTab (isPrime_bd hP).1 _ _ _ _)⟩
theorem Wf_kerL {p : Int} (hP : isPrime p = true) (n : Nat) (R : List (List Int)) : Wf p n (kerL p n R) := (Wf_kerTab (isPrime_bd hP).1 _ _ _ _).spanL hP

/-- The places of such a vector. -/
theorem vec_kerTo {p : Int} {n : Nat} {S : List (List Int)} {piv : List Nat} (hS : Rf p n S piv) {c d : Nat} (hc : c < n) (hcp : c ∉ piv) (hd : d < n) : ∀ i, i ≤ piv.length →
    (d ∉ piv → vec (kerTo p n S piv c i) d = if d = c then 1 else 0) ∧ (∀ j, j < i → d = pv piv j → vec (kerTo p n S piv c i) d = (-(vec (rowOf S j) c)) % p)
  | 0, _ => ⟨fun _ => by rw [kerTo, unitL, vec_tab hd], fun j hj => absurd hj (Nat.not_lt_zero _)⟩
  | i + 1, h => by
    obtain ⟨h1, h2⟩ := vec_kerTo hS hc hcp hd i (by omega)
    have hlt := hS.lt i (by omega)
    refine ⟨fun hdp => ?_, fun j hj e => ?_⟩
    · rw [kerTo, vec_set (by rw [length_kerTo]; exact hlt), if_neg (fun e => hdp (by rw [e]; exact pv_mem (by omega)))]
      exact h1 hdp
    · rw [kerTo, vec_set (by rw [length_kerTo]; exact hlt)]
      by_cases e2 : j = i
      · subst e2; rw [if_pos e]
      · rw [if_neg (fun e3 => by
          have := hS.mono j i (by omega) (by omega)
          omega)]
        exact h2 j (by omega) e
theorem vec_kerV_free {p : Int} {n : Nat} {S : List (List Int)} {piv : List Nat} (hS : Rf p n S piv) {c d : Nat} (hc : c < n) (hcp : c ∉ piv) (hd : d < n) (hdp : d ∉ piv) : vec (kerV p n S piv c) d = if d = c then 1 else 0 :=
  (vec_kerTo hS hc hcp hd piv.length (Nat.le_refl _)).1 hdp
theorem vec_kerV_piv {p : Int} {n : Nat} {S : List (List Int)} {piv : List Nat} (hS : Rf p n S piv) {c j : Nat} (hc : c < n) (hcp : c ∉ piv) (hj : j < piv.length) : vec (kerV p n S piv c) (pv piv j) = (-(vec (rowOf S j) c)) % p :=
  (vec_kerTo hS hc hcp (hS.lt j hj) piv.length (Nat.le_refl _)).2 j hj rfl

/-- A row in reduced form has one pivot, and places without one. -/
theorem Rf.row_sum {p : Int} {n : Nat} {S : List (List Int)} {piv : List Nat} (hS : Rf p n S piv) {i : Nat} (hi : i < piv.length) (f : Nat → Int) :
    sumTo n (fun d => vec (rowOf S i) d * f d) = f (pv piv i) + sumTo n (fun d => if d ∈ piv then 0 else vec (rowOf S i) d * f d) := by
  have e : sumTo n (fun d => vec (rowOf S i) d * f d) = sumTo n (fun d => (if d = pv piv i then f (pv piv i) else 0) + (if d ∈ piv then 0 else vec (rowOf S i) d * f d)) := sumTo_congr fun d hd => by
    by_cases hdp : d ∈ piv
    · obtain ⟨j, hj, rfl⟩ := mem_pv hdp
      rw [if_pos hdp]
      by_cases e : j = i
      · subst e; rw [hS.one j hj, if_pos rfl]; omega
      · rw [hS.off j i hj hi e, if_neg (fun e2 => by
          rcases Nat.lt_or_gt_of_ne e with h | h
          · have := hS.mono j i h hi; omega
          · have := hS.mono i j h hj; omega)]
        simp
    · rw [if_neg hdp, if_neg (fun e => hdp (by rw [e]; exact pv_mem hi))]; omega
  rw [e, sumTo_add, sumTo_single (hS.lt i hi) (fun _ => f (pv piv i))]
theorem mem_rows {p : Int} {n : Nat} {R : List (List Int)} {l : List Int} (h : l ∈ R) : Sp p n R (vec l) := by
  obtain ⟨j, hj, e⟩ := List.mem_iff_getElem.1 h
  rw [rowOf_eq hj] at e
  rw [← e]; exact .row j hj
/-- The kernel is all that the rows take to 0. -/
theorem ker_iff {p : Int} (_hp : 2 ≤ p) {n : Nat} {S : List (List Int)} {piv : List Nat} (hS : Rf p n S piv) {f : Nat → Int} : Sp p n (kerTab p n S piv n) f ↔ Kr p n S f := by
  constructor
  · intro hf i hi
    have hi' : i < piv.length := by rw [← hS.len]; exact hi
    have hk0 : ∀ k, k < (kerTab p n S piv n).length → ∃ u, sumTo n (fun d => vec (rowOf (kerTab p n S piv n) k) d * vec (rowOf S i) d) = p * u := fun k hk => by
      have hk' : k < (freeTo piv n).length := by simpa [kerTab] using hk
      obtain ⟨c, hc⟩ : ∃ c, c = (freeTo piv n)[k] := ⟨_, rfl⟩
      have e : rowOf (kerTab p n S piv n) k = kerV p n S piv c := by rw [hc]; simp [rowOf, kerTab, List.getD_eq_getElem?_getD, hk']
      obtain ⟨h1, h2⟩ := mem_freeTo.1 (show c ∈ freeTo piv n by rw [hc]; exact List.getElem_mem hk')
      rw [e]
      have e2 : sumTo n (fun d => vec (kerV p n S piv c) d * vec (rowOf S i) d) = sumTo n (fun d => vec (rowOf S i) d * vec (kerV p n S piv c) d) := sumTo_congr fun _ _ => Int.mul_comm _ _
      rw [e2, hS.row_sum hi', vec_kerV_piv hS h1 h2 hi']
      have e3 : sumTo n (fun d => if d ∈ piv then 0 else vec (rowOf S i) d * vec (kerV p n S piv c) d) = sumTo n (fun d => if d = c then vec (rowOf S i) d else 0) := sumTo_congr fun d hd => by
        by_cases hdp : d ∈ piv
        · rw [if_pos hdp, if_neg (fun (e : d = c) => h2 (by rw [← e]; exact hdp))]
        · rw [if_neg hdp, vec_kerV_free hS h1 h2 hd hdp]
          by_cases e4 : d = c <;> simp [e4]
      rw [e3, sumTo_single h1 (fun d => vec (rowOf S i) d)]
      obtain ⟨v, hv⟩ := emod_dvd (p := p) (a := -(vec (rowOf S i) c))
      exact ⟨-v, by grind⟩
    obtain ⟨u, hu⟩ := kl_sp hk0 hf
    exact ⟨u, by rw [← hu]; exact sumTo_congr fun _ _ => Int.mul_comm _ _⟩
  · intro hf
    have key : ∀ m, m ≤ n → Sp p n (kerTab p n S piv n) (fun d => sumTo m (fun c => if c ∈ piv then 0 else f c * vec (kerV p n S piv c) d)) := by
      intro m
      induction m with
      | zero => intro _; exact Sp.zero.eqOn fun _ _ => rfl
      | succ m ih =>
        intro hm
        by_cases hmp : m ∈ piv
        · exact (ih (by omega)).eqOn fun d _ => by rw [sumTo, if_pos hmp]; omega
        · have hmem : kerV p n S piv m ∈ kerTab p n S piv n := List.mem_map.2 ⟨m, mem_freeTo.2 ⟨by omega, hmp⟩, rfl⟩
          exact (Sp.comb (f m) (ih (by omega)) (mem_rows hmem)).eqOn fun d _ => by rw [sumTo, if_neg hmp]
    refine (key n (Nat.le_refl _)).congr fun d hd => ?_
    by_cases hdp : d ∈ piv
    · obtain ⟨j, hj, rfl⟩ := mem_pv hdp
      obtain ⟨u, hu⟩ := hf j (by rw [hS.len]; exact hj)
      rw [hS.row_sum hj] at hu
      obtain ⟨v, hv⟩ := sumTo_dvd (p := p) (n := n) (a := fun c => (if c ∈ piv then 0 else f c * vec (kerV p n S piv c) (pv piv j)) + (if c ∈ piv then 0 else vec (rowOf S j) c * f c)) fun c hc => by
        by_cases hcp : c ∈ piv
        · exact ⟨0, by simp [hcp]⟩
        · obtain ⟨x, hx⟩ := emod_dvd (p := p) (a := -(vec (rowOf S j) c))
          refine ⟨-(f c * x), ?_⟩
          simp only [if_neg hcp]
          rw [vec_kerV_piv hS hc hcp hj]
          have e1 : (-(vec (rowOf S j) c)) % p = -(vec (rowOf S j) c) - p * x := by omega
          rw [e1]; grind
      rw [sumTo_add] at hv
      exact ⟨v - u, by grind⟩
    · refine ⟨0, ?_⟩
      have e : sumTo n (fun c => if c ∈ piv then 0 else f c * vec (kerV p n S piv c) d) = sumTo n (fun c => if c = d then f c else 0) := sumTo_congr fun c hc => by
        by_cases hcp : c ∈ piv
        · rw [if_pos hcp, if_neg (fun (e : c = d) => hdp (by rw [← e]; exact hcp))]
        · rw [if_neg hcp, vec_kerV_free hS hc hcp hd hdp]
          by_cases e : c = d
          · subst e; simp
          · rw [if_neg (fun e2 => e e2.symm), if_neg e]; simp
      rw [e, sumTo_single hd f]; omega
theorem kerL_iff {p : Int} (hP : isPrime p = true) {n : Nat} {R : List (List Int)} (hR : Wf p n R) {f : Nat → Int} : Sp p n (kerL p n R) f ↔ Kr p n R f := by
  have hp := (isPrime_bd hP).1
  have hw := Wf_kerTab hp n (spanL p n R) (pivL p n R) n
  rw [← Kr_span hP hR, ← ker_iff hp (spanL_rf hP hR), kerL_span]
  exact ⟨fun h => h.trans (spanL_in hP hw), fun h => h.trans (spanL_out hP hw)⟩
/-- Rows that take the same to 0 have one kernel. -/
theorem kerL_eq {p : Int} (hP : isPrime p = true) {n : Nat} {R S : List (List Int)} (hR : Wf p n R) (hS : Wf p n S) (h : ∀ f, Kr p n R f ↔ Kr p n S f) : kerL p n R = kerL p n S := by
  have hp := (isPrime_bd hP).1
  have w1 := Wf_kerTab hp n (spanL p n R) (pivL p n R) n
  have w2 := Wf_kerTab hp n (spanL p n S) (pivL p n S) n
  rw [kerL_span, kerL_span]
  refine (spanL_eq hP w1 w2 (fun i hi => ?_) fun i hi => ?_).1
  · rw [ker_iff hp (spanL_rf hP hS), Kr_span hP hS, ← h, ← Kr_span hP hR, ← ker_iff hp (spanL_rf hP hR)]
    exact .row i hi
  · rw [ker_iff hp (spanL_rf hP hR), Kr_span hP hR, h, ← Kr_span hP hS, ← ker_iff hp (spanL_rf hP hS)]
    exact .row i hi

/-! The elements whose brackets with rows lie in a space. -/
/-- The bracket of basis element i and v, less the space. -/
def imgR (T : List Int) (n : Nat) (p : Int) (t : List (List Int)) (piv : List Nat) (v : List Int) (i : Nat) : List Int := redV p t piv (braL T (unitL n i) v n p)
def eqR (T : List Int) (n : Nat) (p : Int) (t : List (List Int)) (piv : List Nat) (v : List Int) (c : Nat) : List Int := tab n fun i => vec (imgR T n p t piv v i) c
def eqsR (T : List Int) (n : Nat) (p : Int) (t : List (List Int)) (piv : List Nat) (v : List Int) (cols : List Nat) : List (List Int) := cols.map (eqR T n p t piv v)
def eqsTo (T : List Int) (n : Nat) (p : Int) (t : List (List Int)) (piv : List Nat) (cols : List Nat) (S : List (List Int)) (i : Nat) : List (List Int) := (S.take i).flatMap fun v => eqsR T n p t piv v cols
theorem eqsTo_succ (T : List Int) (n : Nat) (p : Int) (t : List (List Int)) (piv : List Nat) (cols : List Nat) {S : List (List Int)} {i : Nat} (h : i < S.length) : eqsTo T n p t piv cols S (i + 1) = eqsTo T n p t piv cols S i ++ eqsR T n p t piv (rowOf S i) cols := by
  rw [eqsTo, List.take_succ_eq_append_getElem h, List.flatMap_append, rowOf_eq h]; simp [eqsTo]
theorem length_eqsTo (T : List Int) (n : Nat) (p : Int) (t : List (List Int)) (piv : List Nat) (cols : List Nat) (S : List (List Int)) : ∀ i, i ≤ S.length → (eqsTo T n p t piv cols S i).length = i * cols.length
  | 0, _ => by simp [eqsTo]
  | i + 1, h => by rw [eqsTo_succ _ _ _ _ _ _ h, List.length_append, length_eqsTo T n p t piv cols S i (by omega), eqsR, List.length_map, Nat.add_mul]; omega
/-- What NormalizerOf and its like give. -/
def intoL (T : List Int) (n : Nat) (p : Int) (t : List (List Int)) (piv : List Nat) (S : List (List Int)) : List (List Int) := kerL p n (eqsTo T n p t piv (List.range n) S S.length)
def intoF (T : List Int) (n : Nat) (p : Int) (t : List (List Int)) (piv : List Nat) (S : List (List Int)) : List (List Int) := kerL p n (eqsTo T n p t piv (freeTo piv n) S S.length)
theorem redV_ok {p : Int} (hp : 2 ≤ p) {n : Nat} {S : List (List Int)} {piv : List Nat} (h : Rf p n S piv) {v : List Int} (hv : v.length = n) (rv : resid p v = true) : (redV p S piv v).length = n ∧ resid p (redV p S piv v) = true ∧
    Sp p n S (fun c => vec (redV p S piv v) c - vec v c) ∧ ∀ j, j < piv.length → vec (redV p S piv v) (pv piv j) = 0 := by
  obtain ⟨l1, r1⟩ := redTo_ok hp h hv rv piv.length (Nat.le_refl _)
  obtain ⟨h1, h2⟩ := redTo_spec hp h hv rv piv.length (Nat.le_refl _)
  exact ⟨l1, r1, h1, h2⟩
theorem imgR_ok {T : List Int} {n : Nat} {p : Int} (hp : 2 ≤ p) {t : List (List Int)} {piv : List Nat} (ht : Rf p n t piv) (v : List Int) (i : Nat) : (imgR T n p t piv v i).length = n ∧ resid p (imgR T n p t piv v i) = true ∧
    Sp p n t (fun c => vec (imgR T n p t piv v i) c - vec (braL T (unitL n i) v n p) c) ∧ ∀ j, j < piv.length → vec (imgR T n p t piv v i) (pv piv j) = 0 :=
  redV_ok hp ht (length_braL _ _ _ _ _) (resid_braL _ _ _ _ hp)
theorem eqR_ok {T : List Int} {n : Nat} {p : Int} (hp : 2 ≤ p) {t : List (List Int)} {piv : List Nat} (ht : Rf p n t piv) (v : List Int) (c : Nat) : (eqR T n p t piv v c).length = n ∧ resid p (eqR T n p t piv v c) = true :=
  ⟨length_tab _ _, resid_tab fun i _ => resid_vec' (imgR_ok hp ht v i).2.1 (by omega) c⟩
theorem Wf_iff_mem {p : Int} {n : Nat} {R : List (List Int)} : Wf p n R ↔ ∀ l, l ∈ R → l.length = n ∧ resid p l = true :=
  ⟨fun h l hl => by
    obtain ⟨j, hj, e⟩ := List.mem_iff_getElem.1 hl
    rw [rowOf_eq hj] at e; rw [← e]; exact h j hj, fun h i hi => h _ (by rw [← rowOf_eq hi]; exact List.getElem_mem hi)⟩
theorem Kr_iff_mem {p : Int} {n : Nat} {R : List (List Int)} {f : Nat → Int} : Kr p n R f ↔ ∀ l, l ∈ R → ∃ u, sumTo n (fun c => vec l c * f c) = p * u :=
  ⟨fun h l hl => by
    obtain ⟨j, hj, e⟩ := List.mem_iff_getElem.1 hl
    rw [rowOf_eq hj] at e; rw [← e]; exact h j hj, fun h i hi => h _ (by rw [← rowOf_eq hi]; exact List.getElem_mem hi)⟩
theorem Wf_eqsTo {T : List Int} {n : Nat} {p : Int} (hp : 2 ≤ p) {t : List (List Int)} {piv : List Nat} (ht : Rf p n t piv) (cols : List Nat) (S : List (List Int)) (i : Nat) : Wf p n (eqsTo T n p t piv cols S i) := by
  rw [Wf_iff_mem]
  intro l hl
  obtain ⟨v, _, hl⟩ := List.mem_flatMap.1 hl
  obtain ⟨c, _, rfl⟩ := List.mem_map.1 hl
  exact eqR_ok hp ht v c
theorem Kr_eqs {T : List Int} {n : Nat} {p : Int} {t : List (List Int)} {piv : List Nat} {cols : List Nat} {S : List (List Int)} {f : Nat → Int} :
    Kr p n (eqsTo T n p t piv cols S S.length) f ↔ ∀ v, v ∈ S → ∀ c, c ∈ cols → ∃ u, sumTo n (fun i => vec (imgR T n p t piv v i) c * f i) = p * u := by
  have e : ∀ v c, sumTo n (fun i => vec (eqR T n p t piv v c) i * f i) = sumTo n (fun i => vec (imgR T n p t piv v i) c * f i) := fun v c => sumTo_congr fun i hi => by rw [eqR, vec_tab hi]
  rw [Kr_iff_mem, eqsTo, List.take_length]
  constructor
  · intro h v hv c hc
    rw [← e]
    exact h _ (List.mem_flatMap.2 ⟨v, hv, List.mem_map.2 ⟨c, hc, rfl⟩⟩)
  · intro h l hl
    obtain ⟨v, hv, hl⟩ := List.mem_flatMap.1 hl
    obtain ⟨c, hc, rfl⟩ := List.mem_map.1 hl
    rw [e]
    exact h v hv c hc
/-- The rows at the columns with a pivot are zeros. -/
theorem into_eq {T : List Int} {n : Nat} {p : Int} (hP : isPrime p = true) {t : List (List Int)} {piv : List Nat} (ht : Rf p n t piv) (S : List (List Int)) : intoL T n p t piv S = intoF T n p t piv S := by
  have hp := (isPrime_bd hP).1
  refine kerL_eq hP (Wf_eqsTo hp ht _ _ _) (Wf_eqsTo hp ht _ _ _) fun f => ?_
  rw [Kr_eqs, Kr_eqs]
  constructor
  · exact fun h v hv c hc => h v hv c (List.mem_range.2 (mem_freeTo.1 hc).1)
  · intro h v hv c hc
    by_cases hcp : c ∈ piv
    · obtain ⟨j, hj, rfl⟩ := mem_pv hcp
      refine ⟨0, ?_⟩
      rw [sumTo_congr (g := fun _ => 0) (fun i _ => by rw [(imgR_ok hp ht v i).2.2.2 j hj, Int.zero_mul]), sumTo_zero]; simp
    · exact h v hv c (mem_freeTo.2 ⟨List.mem_range.1 hc, hcp⟩)
theorem sp_sum_of {p : Int} {n : Nat} {R : List (List Int)} {g : Nat → Nat → Int} (f : Nat → Int) (m : Nat) (h : ∀ i, i < m → Sp p n R (g i)) : Sp p n R (fun c => sumTo m fun i => f i * g i c) := by
  induction m with
  | zero => exact Sp.zero.eqOn fun _ _ => rfl
  | succ m ih => exact (Sp.comb (f m) (ih fun i hi => h i (by omega)) (h m (by omega))).eqOn fun c _ => rfl
/-- An element lies in it if its brackets with the rows lie in the space. -/
theorem into_iff {T : List Int} {n : Nat} {p : Int} (hP : isPrime p = true) {t : List (List Int)} {piv : List Nat} (ht : Rf p n t piv) (S : List (List Int)) {f : Nat → Int} :
    Sp p n (intoL T n p t piv S) f ↔ ∀ v, v ∈ S → Sp p n t (fun c => sumTo n fun i => f i * vec (braL T (unitL n i) v n p) c) := by
  have hp := (isPrime_bd hP).1
  rw [intoL, kerL_iff hP (Wf_eqsTo hp ht _ _ _), Kr_eqs]
  have hd : ∀ v, Sp p n t (fun c => sumTo n fun i => f i * (vec (imgR T n p t piv v i) c - vec (braL T (unitL n i) v n p) c)) := fun v => sp_sum_of f n fun i _ => (imgR_ok hp ht v i).2.2.1
  constructor
  · intro h v hv
    refine ((hd v).mul (-1)).congr fun c hc => ?_
    obtain ⟨u, hu⟩ := h v hv c (List.mem_range.2 hc)
    refine ⟨-u, ?_⟩
    have e : sumTo n (fun i => vec (imgR T n p t piv v i) c * f i) = sumTo n (fun i => f i * (vec (imgR T n p t piv v i) c - vec (braL T (unitL n i) v n p) c)) + sumTo n (fun i => f i * vec (braL T (unitL n i) v n p) c) := by
      rw [← sumTo_add]; exact sumTo_congr fun i _ => by grind
    rw [e] at hu
    grind
  · intro h v hv c hc
    have h3 : Sp p n t (fun c => sumTo n fun i => f i * vec (imgR T n p t piv v i) c) := (Sp.comb 1 (hd v) (h v hv)).eqOn fun c _ => by
      show _ = _ + 1 * _
      rw [Int.one_mul, ← sumTo_add]; exact sumTo_congr fun i _ => by grind
    obtain ⟨u, hu⟩ := ht.nil h3 (fun j hj => ⟨0, by rw [sumTo_congr (g := fun _ => 0) (fun i _ => by rw [(imgR_ok hp ht v i).2.2.2 j hj, Int.mul_zero]), sumTo_zero]; simp⟩) c (List.mem_range.1 hc)
    exact ⟨u, by rw [← hu]; exact sumTo_congr fun i _ => Int.mul_comm _ _⟩
end Go.Proofs.Ytbnefjhljfbecaa
