/- Coordinates, as plain lists: the solution of linear equations solves them; a basis with its numbers beside it gives the same; tables made from half of their brackets. -/
import Derived.Test.YtbnefjhljfbecaaKer
namespace Go.Proofs.Ytbnefjhljfbecaa
set_option maxRecDepth 100000
open Go.RowKit

/-- Rows are independent. -/
def Ind (p : Int) (n : Nat) (S : List (List Int)) : Prop := ∀ x : Nat → Int, (∀ c, c < n → ∃ u, sumTo S.length (fun j => x j * vec (rowOf S j) c) = p * u) → ∀ j, j < S.length → ∃ u, x j = p * u
/-- x holds the coordinates of V in the rows S. -/
structure Cod (p : Int) (n : Nat) (S : List (List Int)) (V x : List Int) : Prop where
  len : x.length = S.length
  res : resid p x = true
  eq : ∀ c, c < n → ∃ u, sumTo S.length (fun j => vec x j * vec (rowOf S j) c) - vec V c = p * u
theorem Cod.unique {p : Int} {n : Nat} {S : List (List Int)} {V x y : List Int} (hI : Ind p n S) (hx : Cod p n S V x) (hy : Cod p n S V y) : x = y := by
  refine list_ext (by rw [hx.len, hy.len]) fun j hj => ?_
  rw [hx.len] at hj
  obtain ⟨u, hu⟩ := hI (fun j => vec x j + (-1) * vec y j) (fun c hc => by
    obtain ⟨a, ha⟩ := hx.eq c hc
    obtain ⟨b, hb⟩ := hy.eq c hc
    refine ⟨a - b, ?_⟩
    have e : sumTo S.length (fun j => (vec x j + (-1) * vec y j) * vec (rowOf S j) c) = sumTo S.length (fun j => vec x j * vec (rowOf S j) c) + (-1) * sumTo S.length (fun j => vec y j * vec (rowOf S j) c) := by
      rw [← sumTo_mul, ← sumTo_add]; exact sumTo_congr fun i _ => by grind
    rw [e]; grind) j hj
  exact resid_eq_of (resid_vec hx.res (by rw [hx.len]; exact hj)) (resid_vec hy.res (by rw [hy.len]; exact hj)) (u := u) (by omega)
theorem Cod.sp {p : Int} {n : Nat} {S : List (List Int)} {V x : List Int} (h : Cod p n S V x) : Sp p n S (vec V) :=
  (sp_sum (p := p) (n := n) (R := S) (vec x)).congr fun c hc => h.eq c hc
theorem Rf.ind {p : Int} {n : Nat} {S : List (List Int)} {piv : List Nat} (h : Rf p n S piv) : Ind p n S := fun x hx j hj => by
  have hj' : j < piv.length := by rw [← h.len]; exact hj
  obtain ⟨u, hu⟩ := hx (pv piv j) (h.lt j hj')
  refine ⟨u, ?_⟩
  rw [← hu, sumTo_congr (g := fun i => if i = j then x i else 0) (fun i hi => by
    by_cases e : i = j
    · subst e; rw [h.one i hj', if_pos rfl, Int.mul_one]
    · rw [h.off j i hj' (by rw [← h.len]; exact hi) (fun e2 => e e2.symm), if_neg e, Int.mul_zero]), sumTo_single hj x]
/-- The numbers at the pivots are the coordinates in a reduced form. -/
def atPiv (piv : List Nat) (V : List Int) : List Int := piv.map fun c => vec V c
theorem length_atPiv (piv : List Nat) (V : List Int) : (atPiv piv V).length = piv.length := by simp [atPiv]
theorem vec_atPiv {piv : List Nat} {V : List Int} {i : Nat} (h : i < piv.length) : vec (atPiv piv V) i = vec V (pv piv i) := by
  simp [vec, atPiv, pv, List.getD_eq_getElem?_getD, h]
theorem resid_atPiv {p : Int} (hp : 0 < p) {V : List Int} (h : resid p V = true) (piv : List Nat) : resid p (atPiv piv V) = true :=
  resid_iff.2 fun i hi => by rw [length_atPiv] at hi; rw [vec_atPiv hi]; exact resid_vec' h hp _
theorem Rf.cod {p : Int} (hp : 2 ≤ p) {n : Nat} {S : List (List Int)} {piv : List Nat} (h : Rf p n S piv) {V : List Int} (rV : resid p V = true) (hV : Sp p n S (vec V)) : Cod p n S V (atPiv piv V) := by
  refine ⟨by rw [length_atPiv, h.len], resid_atPiv (by omega) rV piv, fun c hc => ?_⟩
  obtain ⟨u, hu⟩ := h.coef hV c hc
  rw [h.len, sumTo_congr (g := fun i => vec V (pv piv i) * vec (rowOf S i) c) (fun i hi => by rw [vec_atPiv hi])]
  exact ⟨-u, by grind⟩

theorem vec_slTo {c : Nat} {piv : List Nat} {F : Nat → Int} (hlt : ∀ i, i < piv.length → pv piv i < c) (hmono : ∀ i j, i < j → j < piv.length → pv piv i < pv piv j) {d : Nat} (hd : d < c) : ∀ k, k ≤ piv.length →
    (∀ j, j < k → d = pv piv j → vec (slTo c piv F k) d = F j) ∧ ((∀ j, j < k → d ≠ pv piv j) → vec (slTo c piv F k) d = 0)
  | 0, _ => ⟨fun j hj => absurd hj (Nat.not_lt_zero _), fun _ => by simp [slTo, vec, List.getD_eq_getElem?_getD, hd]⟩
  | k + 1, h => by
    obtain ⟨h1, h2⟩ := vec_slTo (F := F) hlt hmono hd k (by omega)
    have hk := hlt k (by omega)
    refine ⟨fun j hj e => ?_, fun hne => ?_⟩
    · rw [slTo, vec_set (by rw [length_slTo]; exact hk)]
      by_cases e2 : j = k
      · subst e2; rw [if_pos e]
      · rw [if_neg (fun e3 => by have := hmono j k (by omega) (by omega); omega)]
        exact h1 j (by omega) e
    · rw [slTo, vec_set (by rw [length_slTo]; exact hk), if_neg (hne k (by omega))]
      exact h2 fun j hj => hne j (by omega)
theorem resid_slTo {p : Int} (hp : 2 ≤ p) (c : Nat) (piv : List Nat) {F : Nat → Int} (hF : ∀ i, 0 ≤ F i ∧ F i < p) : ∀ k, resid p (slTo c piv F k) = true
  | 0 => by
    refine resid_iff.2 fun i hi => ?_
    rw [length_slTo] at hi
    simp [slTo, vec, List.getD_eq_getElem?_getD, hi]; omega
  | k + 1 => resid_set (resid_slTo hp c piv hF k) (hF k).1 (hF k).2

/-- A vector whose numbers at the pivots are the last numbers of the reduced rows solves the equations. -/
theorem solves {p : Int} (hP : isPrime p = true) {k : Nat} {M : List (List Int)} (hM : Wf p (k + 1) M) (hn : k ∉ pivL p (k + 1) M) {x : Nat → Int}
    (hxp : ∀ i, i < (pivL p (k + 1) M).length → x (pv (pivL p (k + 1) M) i) = vec (rowOf (spanL p (k + 1) M) i) k) (hx0 : ∀ c, c < k → c ∉ pivL p (k + 1) M → x c = 0) :
    ∀ i, i < M.length → ∃ u, sumTo k (fun c => vec (rowOf M i) c * x c) - vec (rowOf M i) k = p * u := by
  have hrf := spanL_rf hP hM
  have hout := spanL_out hP hM
  obtain ⟨piv, hpiv⟩ : ∃ piv, piv = pivL p (k + 1) M := ⟨_, rfl⟩
  obtain ⟨Q, hQQ⟩ : ∃ Q, Q = spanL p (k + 1) M := ⟨_, rfl⟩
  rw [← hpiv, ← hQQ] at hrf hxp
  rw [← hpiv] at hn hx0
  rw [← hQQ] at hout
  have hlt : ∀ i, i < piv.length → pv piv i < k := fun i hi => by
    have := hrf.lt i hi
    have hne : pv piv i ≠ k := fun e => hn (e ▸ pv_mem hi)
    omega
  obtain ⟨y, hy⟩ : ∃ y : Nat → Int, ∀ c, y c = if c = k then -1 else x c := ⟨_, fun _ => rfl⟩
  have hyS : ∀ (f : Nat → Int), sumTo (k + 1) (fun c => f c * y c) = sumTo k (fun c => f c * x c) - f k := fun f => by
    rw [sumTo, sumTo_congr (g := fun c => f c * x c) (fun c hc => by rw [hy, if_neg (show ¬ c = k by omega)]), hy, if_pos rfl]
    omega
  have hQ : ∀ i, i < Q.length → ∃ u, sumTo (k + 1) (fun c => vec (rowOf Q i) c * y c) = p * u := fun i hi => by
    have hi' : i < piv.length := by rw [← hrf.len]; exact hi
    refine ⟨0, ?_⟩
    rw [hyS]
    have e : sumTo k (fun c => vec (rowOf Q i) c * x c) = sumTo k (fun c => if c = pv piv i then vec (rowOf Q i) k else 0) := sumTo_congr fun c hc => by
      by_cases hcp : c ∈ piv
      · obtain ⟨j, hj, rfl⟩ := mem_pv hcp
        rw [hxp j hj]
        by_cases e : j = i
        · subst e; rw [hrf.one j hj, if_pos rfl, Int.one_mul]
        · rw [hrf.off j i hj hi' e, if_neg, Int.zero_mul]
          intro e2
          rcases Nat.lt_or_gt_of_ne e with h | h
          · have := hrf.mono j i h hi'; omega
          · have := hrf.mono i j h hj; omega
      · rw [hx0 c hc hcp, if_neg (fun e : c = pv piv i => hcp (by rw [e]; exact pv_mem hi')), Int.mul_zero]
    rw [e, sumTo_single (hlt i hi') (fun _ => vec (rowOf Q i) k)]
    omega
  intro i hi
  obtain ⟨u, hu⟩ := kl_sp hQ (hout i hi)
  rw [hyS] at hu
  exact ⟨u, hu⟩
/-- What l1Solve gives are the coordinates. -/
theorem solL_cod {p : Int} (hP : isPrime p = true) {n : Nat} {S : List (List Int)} {V : List Int} (hS : Wf p n S) (hV : V.length = n) (rV : resid p V = true) (hB : solB p n S.length (tpD S.length n (flat n S)) V = true) :
    Cod p n S V (solL p n S.length (tpD S.length n (flat n S)) V) := by
  have hp := (isPrime_bd hP).1
  have hM : Wf p (S.length + 1) (solM n S.length (tpD S.length n (flat n S)) V) := Wf_rowsM (by omega) (resid_auD (length_tpD _ _ _) hV (resid_tpD (length_flat _ _) (resid_flat (by omega) hS)) rV)
  have hrf := spanL_rf hP hM
  have hst := reduceL_ok (by omega : 0 < p) hM
  have hn : S.length ∉ pivL p (S.length + 1) (solM n S.length (tpD S.length n (flat n S)) V) := by simpa [solB] using hB
  have e : ∀ i j, i < n → j < S.length → vec (rowOf (solM n S.length (tpD S.length n (flat n S)) V) i) j = vec (rowOf S j) i := fun i j hi hj => by
    rw [solM, row_auD _ _ hi hj, vec_tpD _ hj hi, vec_flat hj hi]
  have e2 : ∀ i, i < n → vec (rowOf (solM n S.length (tpD S.length n (flat n S)) V) i) S.length = vec V i := fun i hi => by rw [solM, row_auD_last _ _ hi]
  have hl : (solM n S.length (tpD S.length n (flat n S)) V).length = n := length_rowsM _ _ _
  rw [solL, if_pos hB]
  obtain ⟨M, hMM⟩ : ∃ M, M = solM n S.length (tpD S.length n (flat n S)) V := ⟨_, rfl⟩
  rw [← hMM] at hM hrf hst hn e e2 hl ⊢
  have hlt : ∀ i, i < (pivL p (S.length + 1) M).length → pv (pivL p (S.length + 1) M) i < S.length := fun i hi => by
    have := hrf.lt i hi
    have hne : pv (pivL p (S.length + 1) M) i ≠ S.length := fun e => hn (by have h9 := pv_mem hi; rwa [e] at h9)
    omega
  have hv := fun d (hd : d < S.length) => vec_slTo (F := fun i => vec (rowOf (reduceL p (S.length + 1) M).1 i) S.length) hlt hrf.mono hd _ (Nat.le_refl _)
  have hsol := solves hP hM hn (x := vec (slTo S.length (pivL p (S.length + 1) M) (fun i => vec (rowOf (reduceL p (S.length + 1) M).1 i) S.length) (pivL p (S.length + 1) M).length))
    (fun i hi => by
      rw [(hv _ (hlt i hi)).1 i hi rfl, spanL, rowOf_take]
      exact hi) (fun c hc hcp => (hv c hc).2 fun j hj e => hcp (by rw [e]; exact pv_mem hj))
  refine ⟨length_slTo _ _ _ _, resid_slTo hp _ _ (fun i => ?_) _, fun c hc => ?_⟩
  · by_cases hi : i < (reduceL p (S.length + 1) M).1.length
    · exact resid_vec' (hst.wf i hi).2 (by omega) _
    · have : rowOf (reduceL p (S.length + 1) M).1 i = [] := by simp [rowOf, List.getD_eq_getElem?_getD, List.getElem?_eq_none (Nat.le_of_not_lt hi)]
      rw [this]; simp [vec]; omega
  · obtain ⟨u, hu⟩ := hsol c (by rw [hl]; exact hc)
    rw [e2 c hc, sumTo_congr (g := fun j => vec (slTo S.length (pivL p (S.length + 1) M) (fun i => vec (rowOf (reduceL p (S.length + 1) M).1 i) S.length) (pivL p (S.length + 1) M).length) j * vec (rowOf S j) c) (fun j hj => by rw [e c j hc hj, Int.mul_comm])] at hu
    exact ⟨u, hu⟩
theorem solB_iff {p : Int} (hP : isPrime p = true) {n : Nat} {S : List (List Int)} {V : List Int} (hS : Wf p n S) (hV : V.length = n) (rV : resid p V = true) : solB p n S.length (tpD S.length n (flat n S)) V = true ↔ Sp p n S (vec V) := by
  rw [← coord_iff hP hS hV rV, solB, decide_eq_true_eq, solM]

/-! A basis with numbers beside it. -/
/-- Rows with the rows of the unit matrix beside them. -/
def besR (S : List (List Int)) (i : Nat) : List Int := rowOf S i ++ unitL S.length i
def besL (S : List (List Int)) : List (List Int) := (List.range S.length).map (besR S)
theorem length_besL (S : List (List Int)) : (besL S).length = S.length := by simp [besL]
theorem rowOf_besL {S : List (List Int)} {i : Nat} (h : i < S.length) : rowOf (besL S) i = besR S i := by simp [rowOf, besL, List.getD_eq_getElem?_getD, h]
theorem vec_app_left {a b : List Int} {i : Nat} (h : i < a.length) : vec (a ++ b) i = vec a i := by simp [vec, List.getD_eq_getElem?_getD, List.getElem?_append_left h]
theorem vec_app_right {a b : List Int} {i : Nat} : vec (a ++ b) (a.length + i) = vec b i := by
  simp [vec, List.getD_eq_getElem?_getD, List.getElem?_append_right (show a.length ≤ a.length + i by omega)]
theorem Wf_besL {p : Int} (hp : 2 ≤ p) {n : Nat} {S : List (List Int)} (hS : Wf p n S) : Wf p (n + S.length) (besL S) := fun i hi => by
  rw [length_besL] at hi
  rw [rowOf_besL hi, besR]
  obtain ⟨h1, h2⟩ := hS i hi
  exact ⟨by rw [List.length_append, h1, length_unitL], resid_app h2 (resid_unitL hp _ _)⟩
theorem besL_sp {p : Int} {n : Nat} {S : List (List Int)} (hS : ∀ i, i < S.length → (rowOf S i).length = n) {f : Nat → Int} (h : Sp p (n + S.length) (besL S) f) : ∀ c, c < n → ∃ u, f c - sumTo S.length (fun j => f (n + j) * vec (rowOf S j) c) = p * u := by
  induction h with
  | row i hi =>
    intro c hc
    rw [length_besL] at hi
    have hl := hS i hi
    refine ⟨0, ?_⟩
    rw [rowOf_besL hi, besR, vec_app_left (by rw [hl]; exact hc), sumTo_congr (g := fun j => if j = i then vec (rowOf S j) c else 0) (fun j hj => by
      rw [← hl, vec_app_right, unitL, vec_tab hj]
      by_cases e : j = i <;> simp [e]), sumTo_single hi (fun j => vec (rowOf S j) c)]
    omega
  | zero =>
    intro c _
    exact ⟨0, by rw [sumTo_congr (g := fun _ => 0) (fun j _ => Int.zero_mul _), sumTo_zero]; simp⟩
  | comb k _ _ h1 h2 =>
    rename_i f g _ _
    intro c hc
    obtain ⟨u, hu⟩ := h1 c hc
    obtain ⟨v, hv⟩ := h2 c hc
    refine ⟨u + k * v, ?_⟩
    have e : sumTo S.length (fun j => (f (n + j) + k * g (n + j)) * vec (rowOf S j) c) = sumTo S.length (fun j => f (n + j) * vec (rowOf S j) c) + k * sumTo S.length (fun j => g (n + j) * vec (rowOf S j) c) := by
      rw [← sumTo_mul, ← sumTo_add]; exact sumTo_congr fun i _ => by grind
    show f c + k * g c - _ = _
    rw [e]; grind
  | congr _ he h1 =>
    rename_i f g _
    intro c hc
    obtain ⟨u, hu⟩ := h1 c hc
    obtain ⟨v, hv⟩ := he c (by omega)
    obtain ⟨x, hx⟩ := sumTo_dvd (p := p) (n := S.length) (a := fun j => f (n + j) * vec (rowOf S j) c + (-1) * (g (n + j) * vec (rowOf S j) c)) fun j hj => by
      obtain ⟨y, hy⟩ := he (n + j) (by omega)
      refine ⟨y * vec (rowOf S j) c, ?_⟩
      have e1 : f (n + j) = g (n + j) + p * y := by omega
      rw [e1]; grind
    rw [sumTo_add, sumTo_mul] at hx
    exact ⟨u - v + x, by grind⟩
/-- The rows' first numbers. -/
def cutL (n : Nat) (Q : List (List Int)) : List (List Int) := Q.map fun l => l.take n
theorem length_cutL (n : Nat) (Q : List (List Int)) : (cutL n Q).length = Q.length := by simp [cutL]
theorem rowOf_cutL {n : Nat} {Q : List (List Int)} {i : Nat} (h : i < Q.length) : rowOf (cutL n Q) i = (rowOf Q i).take n := by
  simp [rowOf, cutL, List.getD_eq_getElem?_getD, h]
theorem vec_take {l : List Int} {n c : Nat} (h : c < n) : vec (l.take n) c = vec l c := by simp [vec, List.getD_eq_getElem?_getD, h]
theorem vec_drop (l : List Int) (n c : Nat) : vec (l.drop n) c = vec l (n + c) := by simp [vec, List.getD_eq_getElem?_getD, List.getElem?_drop]
theorem Wf_cutL {p : Int} {n m : Nat} {Q : List (List Int)} (h : Wf p (n + m) Q) : Wf p n (cutL n Q) := fun i hi => by
  rw [length_cutL] at hi
  rw [rowOf_cutL hi]
  obtain ⟨h1, h2⟩ := h i hi
  refine ⟨by rw [List.length_take, h1]; omega, resid_iff.2 fun c hc => ?_⟩
  rw [List.length_take] at hc
  rw [vec_take (by omega)]
  exact resid_vec h2 (by omega)
theorem sp_cut {p : Int} {n m : Nat} {Q : List (List Int)} {f : Nat → Int} (h : Sp p (n + m) Q f) : Sp p n (cutL n Q) f := by
  induction h with
  | row i hi => exact (Sp.row i (by rw [length_cutL]; exact hi)).eqOn fun c hc => by rw [rowOf_cutL hi, vec_take hc]
  | zero => exact .zero
  | comb k _ _ h1 h2 => exact .comb k h1 h2
  | congr _ h h1 => exact h1.congr fun c hc => h c (by omega)
theorem sp_cut_of {p : Int} {n m : Nat} {Q R : List (List Int)} (hR : ∀ i, i < R.length → Sp p (n + m) Q (vec (rowOf R i))) {f : Nat → Int} (h : Sp p n (cutL n R) f) : Sp p n (cutL n Q) f :=
  h.trans fun i hi => by
    rw [length_cutL] at hi
    exact (sp_cut (hR i hi)).eqOn fun c hc => by rw [rowOf_cutL hi, vec_take hc]
theorem cut_besL {p : Int} {n : Nat} {S : List (List Int)} (hS : Wf p n S) : cutL n (besL S) = S :=
  rows_ext (by rw [length_cutL, length_besL]) fun i hi => by
    rw [length_cutL, length_besL] at hi
    rw [rowOf_cutL (by rw [length_besL]; exact hi), rowOf_besL hi, besR]
    have := (hS i hi).1
    rw [List.take_append_of_le_length (by omega), List.take_of_length_le (by omega)]

/-- How many of some columns that go up lie below n. -/
def cntB (n : Nat) (piv : List Nat) : Nat := (piv.filter fun c => decide (c < n)).length
theorem up_split {n : Nat} : ∀ {piv : List Nat}, (∀ i j, i < j → j < piv.length → pv piv i < pv piv j) → piv.filter (fun c => decide (c < n)) = piv.take (cntB n piv) ∧ (∀ i, i < piv.length → (pv piv i < n ↔ i < cntB n piv))
  | [], _ => ⟨by simp [cntB], fun i hi => absurd hi (Nat.not_lt_zero _)⟩
  | c :: cs, h => by
    have h' : ∀ i j, i < j → j < cs.length → pv cs i < pv cs j := fun i j hij hj => h (i + 1) (j + 1) (by omega) (by simpa using hj)
    obtain ⟨h1, h2⟩ := up_split (n := n) h'
    by_cases hc : c < n
    · have e : cntB n (c :: cs) = cntB n cs + 1 := by simp [cntB, hc]
      refine ⟨by rw [e, List.take_succ_cons, ← h1]; simp [hc], fun i hi => ?_⟩
      cases i with
      | zero => exact ⟨fun _ => by omega, fun _ => hc⟩
      | succ i => rw [e]; exact (h2 i (by simpa using hi)).trans ⟨fun h => by omega, fun h => by omega⟩
    · have all : ∀ i, i < cs.length → ¬ pv cs i < n := fun i hi => by
        have : c < pv cs i := h 0 (i + 1) (by omega) (by simpa using hi)
        omega
      have e0 : cntB n cs = 0 := by
        rcases Nat.eq_zero_or_pos (cntB n cs) with h0 | h0
        · exact h0
        · have hle : cntB n cs ≤ cs.length := List.length_filter_le _ _
          exact absurd ((h2 0 (by omega)).2 h0) (all 0 (by omega))
      have e : cntB n (c :: cs) = 0 := by rw [← e0]; simp [cntB, hc]
      have h0 : cs.filter (fun c => decide (c < n)) = [] := by rw [h1, e0]; rfl
      refine ⟨by rw [e]; simp [hc, h0], fun i hi => ?_⟩
      cases i with
      | zero => exact ⟨fun h => absurd h hc, fun h => by omega⟩
      | succ i => exact ⟨fun h => absurd h (all i (by simpa using hi)), fun h => by omega⟩

/-- The basis: its pivots and its rows' first numbers are the reduced form of the rows. -/
theorem bes_rf {p : Int} (hP : isPrime p = true) {n : Nat} {S : List (List Int)} (hS : Wf p n S) :
    (pivL p (n + S.length) (besL S)).filter (fun c => decide (c < n)) = pivL p n S ∧ ∀ i, i < (pivL p n S).length → (rowOf (reduceL p (n + S.length) (besL S)).1 i).take n = rowOf (spanL p n S) i := by
  have hp := (isPrime_bd hP).1
  have hW := Wf_besL hp hS
  have hrf := spanL_rf hP hW
  obtain ⟨piv, hpiv⟩ : ∃ piv, piv = pivL p (n + S.length) (besL S) := ⟨_, rfl⟩
  obtain ⟨Q, hQ⟩ : ∃ Q, Q = spanL p (n + S.length) (besL S) := ⟨_, rfl⟩
  have hin := spanL_in hP hW
  have hout := spanL_out hP hW
  rw [← hQ] at hin hout
  rw [← hpiv, ← hQ] at hrf
  obtain ⟨h1, h2⟩ := up_split (n := n) hrf.mono
  obtain ⟨k, hk⟩ : ∃ k, k = cntB n piv := ⟨_, rfl⟩
  rw [← hk] at h1 h2
  have hkl : k ≤ piv.length := by rw [hk]; exact List.length_filter_le _ _
  have hcw := Wf_cutL hrf.wf
  -- the cut of the first k rows
  have hrw : ∀ i, i < k → rowOf (cutL n (Q.take k)) i = (rowOf Q i).take n := fun i hi => by
    rw [rowOf_cutL (by rw [List.length_take, hrf.len]; omega), rowOf_take hi]
  have hlen : (cutL n (Q.take k)).length = k := by rw [length_cutL, List.length_take, hrf.len]; omega
  have hpt : ∀ i, i < k → pv (piv.take k) i = pv piv i := fun i hi => by simp [pv, List.getD_eq_getElem?_getD, hi]
  have hptl : (piv.take k).length = k := by rw [List.length_take]; omega
  have hR : Rf p n (cutL n (Q.take k)) (piv.take k) := by
    refine ⟨by rw [hlen, hptl], fun i hi => ?_, fun i hi => ?_, fun i j hij hj => ?_, fun i hi => ?_, fun i j hi hj hij => ?_, fun i c hi hc => ?_⟩
    · rw [hlen] at hi
      rw [hrw i hi]
      have := hcw i (by rw [length_cutL, hrf.len]; omega)
      rwa [rowOf_cutL (by rw [hrf.len]; omega)] at this
    · rw [hptl] at hi; rw [hpt i hi]; exact (h2 i (by omega)).2 hi
    · rw [hptl] at hj; rw [hpt i (by omega), hpt j hj]; exact hrf.mono i j hij (by omega)
    · rw [hptl] at hi; rw [hpt i hi, hrw i hi, vec_take ((h2 i (by omega)).2 hi)]; exact hrf.one i (by omega)
    · rw [hptl] at hi hj; rw [hpt i hi, hrw j hj, vec_take ((h2 i (by omega)).2 hi)]; exact hrf.off i j (by omega) (by omega) hij
    · rw [hptl] at hi; rw [hpt i hi] at hc
      have := (h2 i (by omega)).2 hi
      rw [hrw i hi, vec_take (by omega)]; exact hrf.lead i c (by omega) hc
  -- the other rows are zeros there
  have hz : ∀ i, k ≤ i → i < Q.length → ∀ c, c < n → vec (rowOf Q i) c = 0 := fun i hki hi c hc => by
    rw [hrf.len] at hi
    have : ¬ pv piv i < n := fun h => by have := (h2 i hi).1 h; omega
    exact hrf.lead i c hi (by omega)
  have hcut : ∀ i, i < (cutL n Q).length → Sp p n (cutL n (Q.take k)) (vec (rowOf (cutL n Q) i)) := fun i hi => by
    rw [length_cutL] at hi
    by_cases hik : i < k
    · exact (Sp.row i (by rw [hlen]; exact hik)).eqOn fun c _ => by rw [hrw i hik, rowOf_cutL hi]
    · exact Sp.zero.eqOn fun c hc => by rw [rowOf_cutL hi, vec_take hc, hz i (by omega) hi c hc]
  have e := Rf.unique hp hR (spanL_rf hP hS) (fun i hi => by
    rw [hlen] at hi
    have h3 : Sp p n (cutL n (besL S)) (vec (rowOf (cutL n (Q.take k)) i)) := (sp_cut (hin i (by rw [hrf.len]; omega))).eqOn fun c hc => by rw [hrw i hi, vec_take hc]
    rw [cut_besL hS] at h3
    exact h3.trans (spanL_out hP hS)) (fun i hi => by
    have h3 := spanL_in hP hS i hi
    rw [← cut_besL hS] at h3
    rw [cut_besL hS] at h3
    rw [← cut_besL hS] at h3
    have h4 : Sp p n (cutL n Q) (vec (rowOf (spanL p n S) i)) := sp_cut_of hout (by simpa [cut_besL hS] using h3)
    exact h4.trans hcut)
  refine ⟨by rw [← hpiv, h1]; exact e.2, fun i hi => ?_⟩
  rw [← e.2, hptl] at hi
  rw [← e.1, hrw i hi, hQ, spanL, rowOf_take]
  have : pivL p (n + S.length) (besL S) = (reduceL p (n + S.length) (besL S)).2 := rfl
  rw [← this, ← hpiv]; omega

/-- The numbers of a vector, while they are made: F gives the factors, E the numbers beside the rows. -/
def cooTo (p : Int) (m : Nat) (F : Nat → Int) (E : Nat → List Int) : Nat → List Int
  | 0 => List.replicate m 0
  | k + 1 => if F k = 0 then cooTo p m F E k else addL (cooTo p m F E k) (F k) (E k) p
theorem cooTo_ok {p : Int} (hp : 2 ≤ p) {m : Nat} {F : Nat → Int} {E : Nat → List Int} : ∀ (k : Nat), (∀ i, i < k → (E i).length = m) → (cooTo p m F E k).length = m ∧ resid p (cooTo p m F E k) = true ∧ ∀ j, j < m → ∃ u, vec (cooTo p m F E k) j - sumTo k (fun i => F i * vec (E i) j) = p * u
  | 0, _ => by
    refine ⟨by simp [cooTo], ?_, fun j hj => ⟨0, by simp [cooTo, sumTo, vec, List.getD_eq_getElem?_getD, hj]⟩⟩
    refine resid_iff.2 fun i hi => ?_
    have hi' : i < m := by simpa [cooTo] using hi
    simp [cooTo, vec, List.getD_eq_getElem?_getD, hi']; omega
  | k + 1, hE => by
    obtain ⟨h1, h2, h3⟩ := cooTo_ok hp (F := F) k (fun i hi => hE i (by omega))
    have hl := hE k (by omega)
    rw [cooTo]
    split
    · rename_i e
      refine ⟨h1, h2, fun j hj => ?_⟩
      obtain ⟨u, hu⟩ := h3 j hj
      exact ⟨u, by rw [sumTo, e]; omega⟩
    · refine ⟨by rw [length_addL _ _ _ _ (by rw [hl, h1]), h1], resid_addL _ _ _ _ (by omega), fun j hj => ?_⟩
      obtain ⟨u, hu⟩ := h3 j hj
      rw [vec_addLq (by rw [hl, h1]) (by rw [h1]; exact hj)]
      obtain ⟨v, hv⟩ := emod_dvd (p := p) (a := vec (cooTo p m F E k) j + F k * vec (E k) j)
      exact ⟨u - v, by rw [sumTo]; grind⟩
/-- What is left at a pivot when its turn comes is what stood there. -/
theorem redTo_at {p : Int} (hp : 2 ≤ p) {n : Nat} {S : List (List Int)} {piv : List Nat} (h : Rf p n S piv) {v : List Int} (hv : v.length = n) (rv : resid p v = true) : ∀ k, k ≤ piv.length → ∀ j, k ≤ j → j < piv.length → vec (redTo p S piv v k) (pv piv j) = vec v (pv piv j)
  | 0, _, _, _, _ => rfl
  | k + 1, hk, j, hj, hj' => by
    have ih := redTo_at hp h hv rv k (by omega) j (by omega) hj'
    obtain ⟨l1, r1⟩ := redTo_ok hp h hv rv k (by omega)
    have hl := (h.wf k (by rw [h.len]; omega)).1
    rw [redTo]
    split
    · exact ih
    · have hjn := h.lt j hj'
      rw [vec_addL _ _ (by rw [hl, l1]) (by rw [l1]; exact hjn), h.off j k hj' (by omega) (by omega), Int.mul_zero, Int.add_zero, ih]
      have := resid_vec' rv (by omega : 0 < p) (pv piv j)
      exact Int.emod_eq_of_lt this.1 this.2
/-- The numbers beside the rows. -/
def bessE (p : Int) (n : Nat) (S : List (List Int)) (i : Nat) : List Int := (rowOf (reduceL p (n + S.length) (besL S)).1 i).drop n
def cooF (p : Int) (S : List (List Int)) (piv : List Nat) (v : List Int) (i : Nat) : Int := vec (redTo p S piv v i) (pv piv i)
def cooL (p : Int) (n : Nat) (S : List (List Int)) (v : List Int) : List Int := cooTo p S.length (cooF p (spanL p n S) (pivL p n S) v) (bessE p n S) (pivL p n S).length
def cooB (p : Int) (n : Nat) (S : List (List Int)) (v : List Int) : Bool := zeroL (redV p (spanL p n S) (pivL p n S) v)
theorem cooB_iff {p : Int} (hP : isPrime p = true) {n : Nat} {S : List (List Int)} (hS : Wf p n S) {v : List Int} (hv : v.length = n) (rv : resid p v = true) : cooB p n S v = true ↔ Sp p n S (vec v) := by
  rw [cooB, redV_zero (isPrime_bd hP).1 (spanL_rf hP hS) hv rv]
  exact ⟨fun h => h.trans (spanL_in hP hS), fun h => h.trans (spanL_out hP hS)⟩
theorem pivL_le {p : Int} (hP : isPrime p = true) {n : Nat} {S : List (List Int)} (hS : Wf p n S) : (pivL p n S).length ≤ (pivL p (n + S.length) (besL S)).length := by
  rw [← (bes_rf hP hS).1]; exact List.length_filter_le _ _
theorem bessE_ok {p : Int} (hP : isPrime p = true) {n : Nat} {S : List (List Int)} (hS : Wf p n S) {i : Nat} (hi : i < (pivL p n S).length) : (bessE p n S i).length = S.length ∧ resid p (bessE p n S i) = true ∧ ∀ c, c < n → ∃ u, vec (rowOf (spanL p n S) i) c - sumTo S.length (fun j => vec (bessE p n S i) j * vec (rowOf S j) c) = p * u := by
  have hp := (isPrime_bd hP).1
  have hW := Wf_besL hp hS
  have hok := reduceL_ok (by omega : 0 < p) hW
  have hle := pivL_le hP hS
  have hpl : (pivL p (n + S.length) (besL S)).length ≤ (besL S).length := hok.piv
  have hil : i < (reduceL p (n + S.length) (besL S)).1.length := by rw [hok.len]; omega
  obtain ⟨h1, h2⟩ := hok.wf i hil
  refine ⟨by rw [bessE, List.length_drop, h1]; omega, resid_iff.2 fun j hj => ?_, fun c hc => ?_⟩
  · rw [bessE, List.length_drop, h1] at hj
    rw [bessE, vec_drop]
    exact resid_vec h2 (by omega)
  · have hin := spanL_in hP hW i (by rw [length_spanL hP hW]; omega)
    have e : rowOf (spanL p (n + S.length) (besL S)) i = rowOf (reduceL p (n + S.length) (besL S)).1 i := by
      rw [spanL, rowOf_take]
      have : (reduceL p (n + S.length) (besL S)).2 = pivL p (n + S.length) (besL S) := rfl
      rw [this]; omega
    rw [e] at hin
    obtain ⟨u, hu⟩ := besL_sp (fun i hi => (hS i hi).1) hin c hc
    refine ⟨u, ?_⟩
    rw [← (bes_rf hP hS).2 i hi, vec_take hc, ← hu]
    congr 1
    exact sumTo_congr fun j _ => by rw [bessE, vec_drop]
/-- The numbers are the coordinates. -/
theorem cooL_cod {p : Int} (hP : isPrime p = true) {n : Nat} {S : List (List Int)} (hS : Wf p n S) {v : List Int} (hv : v.length = n) (rv : resid p v = true) (hB : Sp p n S (vec v)) : Cod p n S v (cooL p n S v) := by
  have hp := (isPrime_bd hP).1
  have hrf := spanL_rf hP hS
  obtain ⟨h1, h2, h3⟩ := cooTo_ok hp (F := cooF p (spanL p n S) (pivL p n S) v) (E := bessE p n S) (m := S.length) (pivL p n S).length (fun i hi => (bessE_ok hP hS hi).1)
  refine ⟨h1, h2, fun c hc => ?_⟩
  obtain ⟨u, hu⟩ := hrf.coef (hB.trans (spanL_out hP hS)) c hc
  obtain ⟨x, hx⟩ := sumTo_dvd (p := p) (n := S.length) (a := fun j => vec (cooL p n S v) j * vec (rowOf S j) c + (-1) * (sumTo (pivL p n S).length (fun i => cooF p (spanL p n S) (pivL p n S) v i * vec (bessE p n S i) j) * vec (rowOf S j) c)) fun j hj => by
    obtain ⟨y, hy⟩ := h3 j hj
    refine ⟨y * vec (rowOf S j) c, ?_⟩
    have e1 : vec (cooL p n S v) j = sumTo (pivL p n S).length (fun i => cooF p (spanL p n S) (pivL p n S) v i * vec (bessE p n S i) j) + p * y := by
      have : vec (cooL p n S v) j - sumTo (pivL p n S).length (fun i => cooF p (spanL p n S) (pivL p n S) v i * vec (bessE p n S i) j) = p * y := hy
      omega
    rw [e1]; grind
  rw [sumTo_add, sumTo_mul] at hx
  have e2 : sumTo S.length (fun j => sumTo (pivL p n S).length (fun i => cooF p (spanL p n S) (pivL p n S) v i * vec (bessE p n S i) j) * vec (rowOf S j) c) =
      sumTo (pivL p n S).length (fun i => cooF p (spanL p n S) (pivL p n S) v i * sumTo S.length (fun j => vec (bessE p n S i) j * vec (rowOf S j) c)) := by
    rw [sumTo_congr (g := fun j => sumTo (pivL p n S).length (fun i => cooF p (spanL p n S) (pivL p n S) v i * vec (bessE p n S i) j * vec (rowOf S j) c)) (fun j _ => by rw [← sumTo_mul_right]), sumTo_comm]
    exact sumTo_congr fun i _ => by rw [← sumTo_mul]; exact sumTo_congr fun j _ => Int.mul_assoc _ _ _
  rw [e2] at hx
  obtain ⟨z, hz⟩ := sumTo_dvd (p := p) (n := (pivL p n S).length) (a := fun i => vec v (pv (pivL p n S) i) * vec (rowOf (spanL p n S) i) c + (-1) * (cooF p (spanL p n S) (pivL p n S) v i * sumTo S.length (fun j => vec (bessE p n S i) j * vec (rowOf S j) c))) fun i hi => by
    obtain ⟨y, hy⟩ := (bessE_ok hP hS hi).2.2 c hc
    have e : cooF p (spanL p n S) (pivL p n S) v i = vec v (pv (pivL p n S) i) := redTo_at hp hrf hv rv i (by omega) i (Nat.le_refl _) hi
    refine ⟨vec v (pv (pivL p n S) i) * y, ?_⟩
    show vec v (pv (pivL p n S) i) * vec (rowOf (spanL p n S) i) c + (-1) * (cooF p (spanL p n S) (pivL p n S) v i * _) = _
    rw [e]; grind
  rw [sumTo_add, sumTo_mul] at hz
  exact ⟨x - z - u, by grind⟩
/-- The rows are independent if each has a pivot. -/
theorem ind_of_rank {p : Int} (hP : isPrime p = true) {n : Nat} {S : List (List Int)} (hS : Wf p n S) (h : (pivL p n S).length = S.length) : Ind p n S := by
  have hp := (isPrime_bd hP).1
  have hW := Wf_besL hp hS
  have hrf := spanL_rf hP hW
  intro x hx j hj
  -- the row x, with zeros ahead, lies in the span of the rows with the unit matrix; all pivots stand ahead
  have hall : ∀ i, i < (pivL p (n + S.length) (besL S)).length → pv (pivL p (n + S.length) (besL S)) i < n := by
    obtain ⟨h1, h2⟩ := up_split (n := n) hrf.mono
    have hle : (pivL p (n + S.length) (besL S)).length ≤ S.length := by
      have := (reduceL_ok (by omega : 0 < p) hW).piv
      rwa [length_besL] at this
    have hc : cntB n (pivL p (n + S.length) (besL S)) = S.length := by
      have e := congrArg List.length (bes_rf hP hS).1
      rw [h] at e
      exact e
    intro i hi
    exact (h2 i hi).2 (by omega)
  obtain ⟨f, hf⟩ : ∃ f : Nat → Int, f = fun c => sumTo (besL S).length fun j => x j * vec (rowOf (besL S) j) c := ⟨_, rfl⟩
  have hs : Sp p (n + S.length) (besL S) f := by rw [hf]; exact sp_sum x
  have e1 : ∀ c, c < n → f c = sumTo S.length (fun j => x j * vec (rowOf S j) c) := fun c hc => by
    rw [hf, length_besL]
    exact sumTo_congr fun i hi => by rw [rowOf_besL hi, besR, vec_app_left (by rw [(hS i hi).1]; exact hc)]
  have e2 : f (n + j) = x j := by
    rw [hf, length_besL]
    show sumTo S.length (fun i => x i * vec (rowOf (besL S) i) (n + j)) = x j
    rw [sumTo_congr (g := fun i => if i = j then x i else 0) (fun i hi => by
      rw [rowOf_besL hi, besR, ← (hS i hi).1, vec_app_right, unitL, vec_tab hj]
      by_cases e : j = i
      · rw [if_pos e, if_pos e.symm, Int.mul_one]
      · rw [if_neg e, if_neg (fun h => e h.symm), Int.mul_zero]), sumTo_single hj x]
  have := hrf.nil (hs.trans (spanL_out hP hW)) (fun i hi => by rw [e1 _ (hall i hi)]; exact hx _ (hall i hi)) (n + j) (by omega)
  rwa [e2] at this
end Go.Proofs.Ytbnefjhljfbecaa
