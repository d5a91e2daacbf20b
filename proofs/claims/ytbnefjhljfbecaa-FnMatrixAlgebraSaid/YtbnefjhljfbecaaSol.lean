/- Linear equations: when they can be solved. -/
import Derived.Test.YtbnefjhljfbecaaRedV
namespace Go.Proofs.Ytbnefjhljfbecaa
set_option maxRecDepth 100000
open Go.RowKit

/-- A list that is filled. -/
def filTo (N : Nat) (F : Nat → Int) (q : Nat) : List Int := tab N fun x => if x < q then F x else 0
theorem length_filTo (N : Nat) (F : Nat → Int) (q : Nat) : (filTo N F q).length = N := length_tab _ _
theorem filTo_zero (N : Nat) (F : Nat → Int) : filTo N F 0 = List.replicate N 0 := by
  refine list_ext (by rw [length_filTo]; simp) fun q hq => ?_
  rw [length_filTo] at hq
  rw [filTo, vec_tab hq, if_neg (Nat.not_lt_zero _)]
  simp [vec, List.getD_eq_getElem?_getD, hq]
theorem filTo_set {N q : Nat} {F : Nat → Int} {x : Int} (hx : x = F q) : (filTo N F q).set q x = filTo N F (q + 1) := by
  rw [filTo, tab_set, filTo]
  refine tab_congr fun y hy => ?_
  by_cases e : y = q
  · rw [if_pos e, if_pos (by omega), hx, e]
  · rw [if_neg e]
    by_cases h : y < q
    · rw [if_pos h, if_pos (by omega)]
    · rw [if_neg h, if_neg (by omega)]
theorem filTo_end (N : Nat) (F : Nat → Int) : filTo N F N = tab N F := tab_congr fun _q hq => if_pos hq

/-- The transposed matrix, while it is made. -/
def tpTo (r c : Nat) (D : List Int) (i j : Nat) : List Int := tab (c * r) fun q => if q % r < i ∨ (q % r = i ∧ q / r < j) then vec D ((q % r) * c + q / r) else 0
def tpD (r c : Nat) (D : List Int) : List Int := tab (c * r) fun q => vec D ((q % r) * c + q / r)
theorem length_tpTo (r c : Nat) (D : List Int) (i j : Nat) : (tpTo r c D i j).length = c * r := length_tab _ _
theorem length_tpD (r c : Nat) (D : List Int) : (tpD r c D).length = c * r := length_tab _ _
theorem posR {r c q : Nat} (h : q < c * r) : 0 < r := by
  rcases Nat.eq_zero_or_pos r with rfl | h1
  · simp at h
  · exact h1
theorem tpTo_zero (r c : Nat) (D : List Int) : tpTo r c D 0 0 = List.replicate (c * r) 0 := by
  refine list_ext (by rw [length_tpTo]; simp) fun q hq => ?_
  rw [length_tpTo] at hq
  rw [tpTo, vec_tab hq, if_neg (by rintro (h | ⟨_, h⟩) <;> exact absurd h (Nat.not_lt_zero _))]
  simp [vec, List.getD_eq_getElem?_getD, hq]
theorem dmR {t j k : Nat} (h : k < t) : (j * t + k) / t = j ∧ (j * t + k) % t = k := by
  have ht : 0 < t := by omega
  constructor
  · rw [Nat.add_comm, Nat.add_mul_div_right _ _ ht, Nat.div_eq_of_lt h, Nat.zero_add]
  · rw [Nat.add_comm, Nat.add_mul_mod_self_right, Nat.mod_eq_of_lt h]
theorem tpTo_set {r c i j : Nat} (D : List Int) (hi : i < r) : (tpTo r c D i j).set (j * r + i) (vec D (i * c + j)) = tpTo r c D i (j + 1) := by
  rw [tpTo, tab_set, tpTo]
  refine tab_congr fun q hq => ?_
  by_cases e : q = j * r + i
  · rw [if_pos e, e, (dmR hi).1, (dmR hi).2, if_pos (by omega)]
  · rw [if_neg e]
    by_cases h : q % r < i ∨ (q % r = i ∧ q / r < j)
    · rw [if_pos h, if_pos (by omega)]
    · rw [if_neg h, if_neg]
      rintro (h1 | ⟨h1, h2⟩)
      · exact h (.inl h1)
      · rcases Nat.lt_or_ge (q / r) j with h3 | h3
        · exact h (.inr ⟨h1, h3⟩)
        · apply e
          have := Nat.div_add_mod q r
          rw [h1, show q / r = j by omega, Nat.mul_comm] at this
          exact this.symm
theorem tpTo_row (r c : Nat) (D : List Int) (i : Nat) : tpTo r c D i c = tpTo r c D (i + 1) 0 := by
  rw [tpTo, tpTo]
  refine tab_congr fun q hq => ?_
  have hr := posR hq
  have h1 : q / r < c := by rw [Nat.div_lt_iff_lt_mul hr]; exact hq
  by_cases h : q % r < i ∨ (q % r = i ∧ q / r < c)
  · rw [if_pos h, if_pos (by omega)]
  · rw [if_neg h, if_neg (by
      rintro (h2 | ⟨_, h2⟩)
      · exact h (by omega)
      · exact absurd h2 (Nat.not_lt_zero _))]
theorem tpTo_end (r c : Nat) (D : List Int) : tpTo r c D r 0 = tpD r c D := tab_congr fun _q hq => if_pos (.inl (Nat.mod_lt _ (posR hq)))
theorem vec_tpD {r c i j : Nat} (D : List Int) (hi : i < r) (hj : j < c) : vec (tpD r c D) (j * r + i) = vec D (i * c + j) := by
  have := row_bd (c := r) hj
  rw [tpD, vec_tab (by omega), (dmR hi).1, (dmR hi).2]
theorem resid_tpD {p : Int} {r c : Nat} {D : List Int} (hD : D.length = r * c) (h : resid p D = true) : resid p (tpD r c D) = true :=
  resid_iff.2 fun q hq => by
    rw [length_tpD] at hq
    have hr := posR hq
    rw [tpD, vec_tab hq]
    have h1 : q / r < c := by rw [Nat.div_lt_iff_lt_mul hr]; exact hq
    have h2 := row_bd (c := c) (Nat.mod_lt q hr)
    exact resid_vec h (by rw [hD]; omega)

/-- The matrix with one more column. -/
def auF (c : Nat) (D V : List Int) (x : Nat) : Int := if x % (c + 1) < c then vec D (x / (c + 1) * c + x % (c + 1)) else vec V (x / (c + 1))
def auD (r c : Nat) (D V : List Int) : List Int := tab (r * (c + 1)) (auF c D V)
theorem length_auD (r c : Nat) (D V : List Int) : (auD r c D V).length = r * (c + 1) := length_tab _ _
theorem auF_in {c i j : Nat} (D V : List Int) (hj : j < c) : auF c D V (i * (c + 1) + j) = vec D (i * c + j) := by
  have := dmR (j := i) (show j < c + 1 by omega)
  rw [auF, this.1, this.2, if_pos hj]
theorem auF_last (c i : Nat) (D V : List Int) : auF c D V (i * (c + 1) + c) = vec V i := by
  have := dmR (j := i) (show c < c + 1 by omega)
  rw [auF, this.1, this.2, if_neg (Nat.lt_irrefl _)]
theorem resid_auD {p : Int} {r c : Nat} {D V : List Int} (hD : D.length = r * c) (hV : V.length = r) (h : resid p D = true) (h2 : resid p V = true) : resid p (auD r c D V) = true :=
  resid_iff.2 fun q hq => by
    rw [length_auD] at hq
    have h1 : q / (c + 1) < r := by rw [Nat.div_lt_iff_lt_mul (by omega)]; exact hq
    rw [auD, vec_tab hq, auF]
    split
    · have h3 := row_bd (c := c) h1
      exact resid_vec h (by rw [hD]; omega)
    · exact resid_vec h2 (by rw [hV]; exact h1)
theorem row_auD {r c i j : Nat} (D V : List Int) (hi : i < r) (hj : j < c) : vec (rowOf (rowsM r (c + 1) (auD r c D V)) i) j = vec D (i * c + j) := by
  have := row_bd (c := c + 1) hi
  rw [rowOf_rowsM hi, rowM, vec_tab (by omega), auD, vec_tab (by omega), auF_in D V hj]
theorem row_auD_last {r c i : Nat} (D V : List Int) (hi : i < r) : vec (rowOf (rowsM r (c + 1) (auD r c D V)) i) c = vec V i := by
  have := row_bd (c := c + 1) hi
  rw [rowOf_rowsM hi, rowM, vec_tab (by omega), auD, vec_tab (by omega), auF_last]

theorem sumTo_dvd {p : Int} {n : Nat} {a : Nat → Int} (h : ∀ c, c < n → ∃ u, a c = p * u) : ∃ u, sumTo n a = p * u := by
  induction n with
  | zero => exact ⟨0, by simp [sumTo]⟩
  | succ n ih =>
    obtain ⟨u, hu⟩ := ih fun c hc => h c (by omega)
    obtain ⟨v, hv⟩ := h n (by omega)
    exact ⟨u + v, by rw [sumTo, hu, hv]; grind⟩
/-- Numbers that take rows to 0 take what the rows span to 0. -/
theorem kl_sp {p : Int} {m : Nat} {R : List (List Int)} {y f : Nat → Int} (hy : ∀ i, i < R.length → ∃ u, sumTo m (fun c => vec (rowOf R i) c * y c) = p * u) (hf : Sp p m R f) : ∃ u, sumTo m (fun c => f c * y c) = p * u := by
  induction hf with
  | row i hi => exact hy i hi
  | zero => exact ⟨0, by rw [sumTo_congr (g := fun _ => 0) (fun _ _ => Int.zero_mul _), sumTo_zero]; simp⟩
  | comb k _ _ h1 h2 =>
    rename_i f g _ _
    obtain ⟨u, hu⟩ := h1
    obtain ⟨v, hv⟩ := h2
    refine ⟨u + k * v, ?_⟩
    have e : sumTo m (fun c => (f c + k * g c) * y c) = sumTo m (fun c => f c * y c) + k * sumTo m (fun c => g c * y c) := by
      rw [← sumTo_mul, ← sumTo_add]
      exact sumTo_congr fun i _ => by grind
    rw [e, hu, hv]; grind
  | congr _ he h1 =>
    rename_i f g _
    obtain ⟨u, hu⟩ := h1
    obtain ⟨v, hv⟩ := sumTo_dvd (p := p) (n := m) (a := fun c => f c * y c + (-1) * (g c * y c)) fun c hc => by
      obtain ⟨x, hx⟩ := he c hc
      refine ⟨x * y c, ?_⟩
      have e1 : f c = g c + p * x := by omega
      rw [e1]; grind
    rw [sumTo_add, sumTo_mul, hu] at hv
    exact ⟨u - v, by grind⟩
/-- What rows span is a sum of them. -/
theorem sp_comb {p : Int} {n : Nat} {R : List (List Int)} {f : Nat → Int} (hf : Sp p n R f) : ∃ x : Nat → Int, ∀ c, c < n → ∃ u, f c - sumTo R.length (fun j => x j * vec (rowOf R j) c) = p * u := by
  induction hf with
  | row i hi =>
    refine ⟨fun j => if j = i then 1 else 0, fun c _ => ⟨0, ?_⟩⟩
    rw [sumTo_congr (g := fun j => if j = i then vec (rowOf R j) c else 0) (fun j _ => by by_cases e : j = i <;> simp [e]), sumTo_single hi (fun j => vec (rowOf R j) c)]
    simp
  | zero => exact ⟨fun _ => 0, fun c _ => ⟨0, by rw [sumTo_congr (g := fun _ => 0) (fun _ _ => Int.zero_mul _), sumTo_zero]; simp⟩⟩
  | comb k _ _ h1 h2 =>
    rename_i f g _ _
    obtain ⟨x, hx⟩ := h1
    obtain ⟨y, hy⟩ := h2
    refine ⟨fun j => x j + k * y j, fun c hc => ?_⟩
    obtain ⟨u, hu⟩ := hx c hc
    obtain ⟨v, hv⟩ := hy c hc
    refine ⟨u + k * v, ?_⟩
    have e : sumTo R.length (fun j => (x j + k * y j) * vec (rowOf R j) c) = sumTo R.length (fun j => x j * vec (rowOf R j) c) + k * sumTo R.length (fun j => y j * vec (rowOf R j) c) := by
      rw [← sumTo_mul, ← sumTo_add]
      exact sumTo_congr fun i _ => by grind
    show f c + k * g c - _ = _
    rw [e]; grind
  | congr _ he h1 =>
    rename_i f g _
    obtain ⟨x, hx⟩ := h1
    refine ⟨x, fun c hc => ?_⟩
    obtain ⟨u, hu⟩ := hx c hc
    obtain ⟨v, hv⟩ := he c hc
    exact ⟨u - v, by grind⟩
theorem sp_sum {p : Int} {n : Nat} {R : List (List Int)} (x : Nat → Int) : Sp p n R (fun c => sumTo R.length fun j => x j * vec (rowOf R j) c) := by
  have key : ∀ m, m ≤ R.length → Sp p n R (fun c => sumTo m fun j => x j * vec (rowOf R j) c) := by
    intro m
    induction m with
    | zero => intro _; exact Sp.zero.eqOn fun _ _ => rfl
    | succ m ih => intro hm; exact (Sp.comb (x m) (ih (by omega)) (.row m (by omega))).eqOn fun c _ => rfl
  exact key _ (Nat.le_refl _)
/-- Equations can be solved if no pivot stands in the last column; that is so if the right side lies in the span. -/
theorem solv_iff {p : Int} (hP : isPrime p = true) {n : Nat} {S M : List (List Int)} {V : List Int} (hM : Wf p (S.length + 1) M) (hl : M.length = n) (h1 : ∀ i j, i < n → j < S.length → vec (rowOf M i) j = vec (rowOf S j) i) (h2 : ∀ i, i < n → vec (rowOf M i) S.length = vec V i) :
    S.length ∉ pivL p (S.length + 1) M ↔ Sp p n S (vec V) := by
  have hp := (isPrime_bd hP).1
  have hrf := spanL_rf hP hM
  constructor
  · intro hn
    -- the numbers that the reduced rows give
    obtain ⟨k, hk⟩ : ∃ k, k = S.length := ⟨_, rfl⟩
    rw [← hk] at hrf hn h1 h2 hM
    have hout := spanL_out hP hM
    obtain ⟨piv, hpiv⟩ : ∃ piv, piv = pivL p (k + 1) M := ⟨_, rfl⟩
    obtain ⟨Q, hQQ⟩ : ∃ Q, Q = spanL p (k + 1) M := ⟨_, rfl⟩
    rw [← hpiv, ← hQQ] at hrf
    rw [← hpiv] at hn
    rw [← hQQ] at hout
    obtain ⟨x, hxd⟩ : ∃ x : Nat → Int, ∀ c, x c = sumTo piv.length fun i => if pv piv i = c then vec (rowOf Q i) k else 0 := ⟨_, fun _ => rfl⟩
    have hlt : ∀ i, i < piv.length → pv piv i < k := fun i hi => by
      have := hrf.lt i hi
      have hne : pv piv i ≠ k := fun e => hn (e ▸ pv_mem hi)
      omega
    have hxp : ∀ i, i < piv.length → x (pv piv i) = vec (rowOf Q i) k := fun i hi => by
      rw [hxd, sumTo_congr (g := fun j => if j = i then vec (rowOf Q j) k else 0) (fun j hj => by
        by_cases e : j = i
        · subst e; simp
        · rw [if_neg e, if_neg]
          intro e2
          rcases Nat.lt_or_gt_of_ne e with h | h
          · have := hrf.mono j i h hi; omega
          · have := hrf.mono i j h hj; omega), sumTo_single hi (fun j => vec (rowOf Q j) k)]
    have hx0 : ∀ c, (∀ i, i < piv.length → pv piv i ≠ c) → x c = 0 := fun c hc => by
      rw [hxd, sumTo_congr (g := fun _ => 0) (fun i hi => if_neg (hc i hi)), sumTo_zero]
    obtain ⟨y, hy⟩ : ∃ y : Nat → Int, ∀ c, y c = if c = k then -1 else x c := ⟨_, fun _ => rfl⟩
    have hyS : ∀ (f : Nat → Int), sumTo (k + 1) (fun c => f c * y c) = sumTo k (fun c => f c * x c) - f k := fun f => by
      rw [sumTo, sumTo_congr (g := fun c => f c * x c) (fun c hc => by rw [hy, if_neg (show ¬ c = k by omega)]), hy, if_pos rfl]
      omega
    have hQ : ∀ i, i < Q.length → ∃ u, sumTo (k + 1) (fun c => vec (rowOf Q i) c * y c) = p * u := fun i hi => by
      have hi' : i < piv.length := by rw [← hrf.len]; exact hi
      refine ⟨0, ?_⟩
      rw [hyS]
      have e : sumTo k (fun c => vec (rowOf Q i) c * x c) = sumTo k (fun c => if c = pv piv i then vec (rowOf Q i) k else 0) := sumTo_congr fun c hc => by
        by_cases hcp : c ∈ piv
        · obtain ⟨j, hj, rfl⟩ := mem_pv hcp
          rw [hxp j hj]
          by_cases e : j = i
          · subst e; rw [hrf.one j hj, if_pos rfl, Int.one_mul]
          · rw [hrf.off j i hj hi' e, if_neg, Int.zero_mul]
            intro e2
            rcases Nat.lt_or_gt_of_ne e with h | h
            · have := hrf.mono j i h hi'; omega
            · have := hrf.mono i j h hj; omega
        · rw [hx0 c (fun j hj (e : pv piv j = c) => hcp (by rw [← e]; exact pv_mem hj)), if_neg (fun e : c = pv piv i => hcp (by rw [e]; exact pv_mem hi')), Int.mul_zero]
      rw [e, sumTo_single (hlt i hi') (fun _ => vec (rowOf Q i) k)]
      omega
    refine (sp_sum (p := p) (n := n) (R := S) x).congr fun i hi => ?_
    obtain ⟨u, hu⟩ := kl_sp hQ (hout i (by rw [hl]; exact hi))
    rw [← hk]
    rw [hyS, h2 i hi, sumTo_congr (g := fun j => x j * vec (rowOf S j) i) (fun j hj => by rw [h1 i j hi hj, Int.mul_comm])] at hu
    exact ⟨u, hu⟩
  · intro hV hc
    obtain ⟨x, hx⟩ := sp_comb hV
    obtain ⟨k, hk, hk2⟩ := mem_pv hc
    obtain ⟨y, hy⟩ : ∃ y : Nat → Int, ∀ c, y c = if c = S.length then -1 else x c := ⟨_, fun _ => rfl⟩
    have hyS : ∀ (f : Nat → Int), sumTo (S.length + 1) (fun c => f c * y c) = sumTo S.length (fun c => f c * x c) - f S.length := fun f => by
      rw [sumTo, sumTo_congr (g := fun c => f c * x c) (fun c hc => by rw [hy, if_neg (show ¬ c = S.length by omega)]), hy, if_pos rfl]
      omega
    have hMk : ∀ i, i < M.length → ∃ u, sumTo (S.length + 1) (fun c => vec (rowOf M i) c * y c) = p * u := fun i hi => by
      rw [hl] at hi
      obtain ⟨u, hu⟩ := hx i hi
      refine ⟨-u, ?_⟩
      rw [hyS, h2 i hi, sumTo_congr (g := fun j => x j * vec (rowOf S j) i) (fun j hj => by rw [h1 i j hi hj, Int.mul_comm])]
      grind
    obtain ⟨u, hu⟩ := kl_sp hMk (spanL_in hP hM k (by rw [hrf.len]; exact hk))
    rw [hyS, sumTo_congr (g := fun _ => 0) (fun c hcl => by rw [hrf.lead k c hk (by rw [hk2]; exact hcl), Int.zero_mul]), sumTo_zero] at hu
    have h1' := hrf.one k hk
    rw [hk2] at h1'
    rw [h1'] at hu
    have : p ∣ 1 := ⟨-u, by grind⟩
    have := Int.le_of_dvd (by decide) this
    omega
/-- The coordinates of a vector in the rows of a space are looked for so. -/
theorem coord_iff {p : Int} (hP : isPrime p = true) {n : Nat} {S : List (List Int)} {V : List Int} (hS : Wf p n S) (hV : V.length = n) (rV : resid p V = true) :
    S.length ∉ pivL p (S.length + 1) (rowsM n (S.length + 1) (auD n S.length (tpD S.length n (flat n S)) V)) ↔ Sp p n S (vec V) := by
  have hp := (isPrime_bd hP).1
  refine solv_iff hP (Wf_rowsM (by omega) (resid_auD (length_tpD _ _ _) hV (resid_tpD (length_flat _ _) (resid_flat (by omega) hS)) rV)) (length_rowsM _ _ _) (fun i j hi hj => ?_) fun i hi => row_auD_last _ _ hi
  rw [row_auD _ _ hi hj, vec_tpD _ hj hi, vec_flat hj hi]
/-- The solution, while it is made. -/
def slTo (c : Nat) (piv : List Nat) (F : Nat → Int) : Nat → List Int
  | 0 => List.replicate c 0
  | k + 1 => (slTo c piv F k).set (pv piv k) (F k)
theorem length_slTo (c : Nat) (piv : List Nat) (F : Nat → Int) : ∀ k, (slTo c piv F k).length = c
  | 0 => by simp [slTo]
  | k + 1 => by rw [slTo, List.length_set, length_slTo]
end Go.Proofs.Ytbnefjhljfbecaa
