import Derived.Test.YtbnefjhljfbecaaGreatDoorW07
import Derived.Test.YtbnefjhljfbecaaGreatDoorW32
import Derived.Test.YtbnefjhljfbecaaGreatDoorW33
namespace Go.Proofs.YtbnefjhljfbecaaGreatDoor
set_option maxRecDepth 100000
section
open Go.RowKit
theorem spaceOk_rf {p r c : Int} {D : List Int} (h : spaceOk p r c D = true) : ∃ (n : Nat) (R : List (List Int)) (a : List Nat), c = n ∧ r = R.length ∧ D = flat n R ∧ Rf p n R a ∧ R.length ≤ 40 ∧ n ≤ 40 ∧ isPrime p = true := by
 simp only [spaceOk, Bool.and_eq_true, decide_eq_true_eq] at h
 obtain ⟨h1, h2, h3⟩ := h
 obtain ⟨a, b, rfl, rfl, ha, hb, hD, hR, h4, h5, hP⟩ := matOk_spec h1
 rw [Int.toNat_natCast, Int.toNat_natCast] at h2 h3
 have hrf := spanL_rf hP (Wf_rowsM (p := p) (by omega) (r := a) (c := b) hR)
 refine ⟨b, spanL p b (rowsM a b D), _, rfl, by rw [h3], h2.symm, hrf, by omega, hb, hP⟩
structure Grow (p : Int) (n : Nat) (f : List (List Int) → List (List Int)) : Prop where
 rf : ∀ R a, Rf p n R a → ∃ b, Rf p n (f R) b
 sup : ∀ R a, Rf p n R a → ∀ i, i < R.length → Sp p n (f R) (vec (rowOf R i))
def growTo (f : List (List Int) → List (List Int)) : Nat → List (List Int) → List (List Int)
 | 0, R => R
 | k + 1, R => if (f R).length = R.length then R else growTo f k (f R)
theorem Grow.le {p : Int} (hp : 2 ≤ p) {n : Nat} {f : List (List Int) → List (List Int)} (g : Grow p n f) {R : List (List Int)} {a : List Nat} (h : Rf p n R a) : R.length ≤ (f R).length := by
 obtain ⟨b, hb⟩ := g.rf R a h
 exact h.length_le hp hb (g.sup R a h)
theorem growTo_stop {f : List (List Int) → List (List Int)} {R : List (List Int)} (h : (f R).length = R.length) (k : Nat) : growTo f k R = R := by
 cases k with
 | zero => rfl
 | succ k => rw [growTo, if_pos h]
theorem Grow.fuel {p : Int} (hp : 2 ≤ p) {n : Nat} {f : List (List Int) → List (List Int)} (g : Grow p n f) : ∀ (k m : Nat) {R : List (List Int)} {a : List Nat}, Rf p n R a → n - R.length ≤ k → n - R.length ≤ m → growTo f k R = growTo f m R
 | 0, m, R, a, hok, hf, hg => by
  obtain ⟨b, hb⟩ := g.rf R a hok
  have h1 := g.le hp hok
  have h2 := rf_le_n hp hb
  have h : (f R).length = R.length := by omega
  rw [growTo_stop h, growTo_stop h]
 | k + 1, m, R, a, hok, hf, hg => by
  obtain ⟨b, hb⟩ := g.rf R a hok
  have h1 := g.le hp hok
  have h2 := rf_le_n hp hb
  by_cases h : (f R).length = R.length
  ·rw [growTo_stop h, growTo_stop h]
  ·obtain ⟨m', rfl⟩ : ∃ m', m = m' + 1 := ⟨m - 1, by omega⟩
   rw [growTo, growTo, if_neg h, if_neg h]
   exact g.fuel hp k m' hb (by omega) (by omega)
end
section
open Go.RowKit
theorem vec_pivI {piv : List Nat} {k : Nat} (h : k < piv.length) : vec (pivI piv) k = (pv piv k : Int) := by
 simp [vec, pivI, pv, List.getD_eq_getElem?_getD, h]
end
section
open Go.RowKit
theorem dmR {t j k : Nat} (h : k < t) : (j * t + k) / t = j ∧ (j * t + k) % t = k := by
 have ht : 0 < t := by omega
 constructor
 ·rw [Nat.add_comm, Nat.add_mul_div_right _ _ ht, Nat.div_eq_of_lt h, Nat.zero_add]
 ·rw [Nat.add_comm, Nat.add_mul_mod_self_right, Nat.mod_eq_of_lt h]
def auF (c : Nat) (D V : List Int) (x : Nat) : Int := if x % (c + 1) < c then vec D (x / (c + 1) * c + x % (c + 1)) else vec V (x / (c + 1))
theorem auF_in {c i j : Nat} (D V : List Int) (hj : j < c) : auF c D V (i * (c + 1) + j) = vec D (i * c + j) := by
 have := dmR (j := i) (show j < c + 1 by omega)
 rw [auF, this.1, this.2, if_pos hj]
theorem sumTo_dvd {p : Int} {n : Nat} {a : Nat → Int} (h : ∀ c, c < n → ∃ u, a c = p * u) : ∃ u, sumTo n a = p * u := by
 induction n with
 | zero => exact ⟨0, by simp [sumTo]⟩
 | succ n ih =>
  obtain ⟨u, hu⟩ := ih fun c hc => h c (by omega)
  obtain ⟨v, hv⟩ := h n (by omega)
  exact ⟨u + v, by rw [sumTo, hu, hv]; grind⟩
theorem kl_sp {p : Int} {m : Nat} {R : List (List Int)} {y f : Nat → Int} (hy : ∀ i, i < R.length → ∃ u, sumTo m (fun c => vec (rowOf R i) c * y c) = p * u) (hf : Sp p m R f) : ∃ u, sumTo m (fun c => f c * y c) = p * u := by
 induction hf with
 | row i hi => exact hy i hi
 | zero => exact ⟨0, by rw [sumTo_congr (g := fun _ => 0) (fun _ _ => Int.zero_mul _), sumTo_zero]; simp⟩
 | comb k _ _ h1 h2 =>
  rename_i f g _ _
  obtain ⟨u, hu⟩ := h1
  obtain ⟨v, hv⟩ := h2
  refine ⟨u + k * v, ?_⟩
  have e : sumTo m (fun c => (f c + k * g c) * y c) = sumTo m (fun c => f c * y c) + k * sumTo m (fun c => g c * y c) := by
   rw [← sumTo_mul, ← sumTo_add]
   exact sumTo_congr fun i _ => by grind
  rw [e, hu, hv]; grind
 | congr _ he h1 =>
  rename_i f g _
  obtain ⟨u, hu⟩ := h1
  obtain ⟨v, hv⟩ := sumTo_dvd (p := p) (n := m) (a := fun c => f c * y c + (-1) * (g c * y c)) fun c hc => by
   obtain ⟨x, hx⟩ := he c hc
   refine ⟨x * y c, ?_⟩
   have e1 : f c = g c + p * x := by omega
   rw [e1]; grind
  rw [sumTo_add, sumTo_mul, hu] at hv
  exact ⟨u - v, by grind⟩
theorem sp_sum {p : Int} {n : Nat} {R : List (List Int)} (x : Nat → Int) : Sp p n R (fun c => sumTo R.length fun j => x j * vec (rowOf R j) c) := by
 have key : ∀ m, m ≤ R.length → Sp p n R (fun c => sumTo m fun j => x j * vec (rowOf R j) c) := by
  intro m
  induction m with
  | zero => intro _; exact Sp.zero.eqOn fun _ _ => rfl
  | succ m ih => intro hm; exact (Sp.comb (x m) (ih (by omega)) (.row m (by omega))).eqOn fun c _ => rfl
 exact key _ (Nat.le_refl _)
end
section
open Go.RowKit
set_option maxHeartbeats 400000 in
theorem l1Find_any (v : Value) (l : List Int) (x : Int) (w : World) (hv : Ints w v l) :
  Calls Tryz.prog 71 #[v, .int .i64 x] w fun e w' => e = .returned (.int .i64 (idx (fun y => y == x) l 0)) ∧ w = w' := by
 obtain ⟨A, c, rfl, h1, h2, h3⟩ := hv
 obtain ⟨R, hR⟩ : ∃ R, R = idx (fun y => y == x) l 0 := ⟨_, rfl⟩
 rw [← hR]
 have HR := Lib.hid hR
 clear hR
 go_enter Tryz.func71, Tryz.ntmps71
 go_wp2
 go_loop [5] (fun vi => ∃ k : Nat, vi = .int .i64 k ∧ Hid (R = idx (fun y => y == x) (l.drop k) k)) (fun vi => l.length - (intOf vi).toNat)
 case atStart => exact ⟨0, rfl, HR⟩
 case round =>
  obtain ⟨k, rfl, HM⟩ := hrel
  by_cases hk : k < l.length
  ·obtain ⟨b, off, rfl, hc⟩ := h3 (by omega)
   have e1 := hc k l[k] (List.getElem?_eq_getElem hk)
   have HD := Lib.hid (idx_drop (fun y => y == x) l k hk)
   clear hc h3
   by_cases hx : l[k] = x
   ·have HX := Lib.hid hx
    have e2 : (l[k] == x) = true := by rw [hx]; simp
    clear hx
    go_wp2
    go_ret
    exact ⟨ret_int (by rw [HM.out, HD.out, if_pos (by simp [HX.out])]), rfl⟩
   ·have e2 : (l[k] == x) = false := by rw [beq_eq_false_iff_ne]; exact hx
    go_wp2
    go_round
    case rel => exact ⟨k + 1, by go_num, by rw [HM.out, HD.out, if_neg (by simp [hx])]; exact rfl⟩
    case measure => simp [intOf]; omega
  ·have HE := Lib.hid (idx_end (fun y => y == x) l k (by omega))
   clear h3
   go_wp2
   go_ret
   exact ⟨ret_int (by rw [HM.out, HE.out]), rfl⟩
theorem find_piv (piv : List Nat) (c : Nat) : decide (0 ≤ idx (fun y => y == (c : Int)) (pivI piv) 0) = decide (c ∈ piv) := by
 rw [idx_any _ _ 0 (Int.le_refl _), Bool.eq_iff_iff, List.any_eq_true, decide_eq_true_eq]
 constructor
 ·rintro ⟨x, hx, hc⟩
  obtain ⟨a, ha, rfl⟩ := List.mem_map.1 hx
  simp only [beq_iff_eq] at hc
  have : a = c := by omega
  exact this ▸ ha
 ·intro h
  exact ⟨(c : Int), List.mem_map.2 ⟨c, h, rfl⟩, by simp⟩
end
section
open Go.RowKit
def Kr (p : Int) (n : Nat) (R : List (List Int)) (f : Nat → Int) : Prop := ∀ i, i < R.length → ∃ u, sumTo n (fun c => vec (rowOf R i) c * f c) = p * u
theorem Kr.sp {p : Int} {n : Nat} {R : List (List Int)} {f g : Nat → Int} (h : Kr p n R f) (hg : Sp p n R g) : ∃ u, sumTo n (fun c => g c * f c) = p * u := kl_sp h hg
theorem Kr.of {p : Int} {n : Nat} {R S : List (List Int)} {f : Nat → Int} (h : Kr p n R f) (hs : ∀ i, i < S.length → Sp p n R (vec (rowOf S i))) : Kr p n S f := fun i hi => h.sp (hs i hi)
theorem Kr_span {p : Int} (hP : isPrime p = true) {n : Nat} {R : List (List Int)} (hR : Wf p n R) {f : Nat → Int} : Kr p n (spanL p n R) f ↔ Kr p n R f :=
 ⟨fun h => h.of (spanL_out hP hR), fun h => h.of (spanL_in hP hR)⟩
def kerTo (p : Int) (n : Nat) (S : List (List Int)) (piv : List Nat) (c : Nat) : Nat → List Int
 | 0 => unitL n c
 | i + 1 => (kerTo p n S piv c i).set (pv piv i) ((-(vec (rowOf S i) c)) % p)
def kerV (p : Int) (n : Nat) (S : List (List Int)) (piv : List Nat) (c : Nat) : List Int := kerTo p n S piv c piv.length
def freeTo (piv : List Nat) (c : Nat) : List Nat := (List.range c).filter fun d => decide (d ∉ piv)
theorem freeTo_yes {piv : List Nat} {c : Nat} (h : c ∉ piv) : freeTo piv (c + 1) = freeTo piv c ++ [c] := by
 rw [freeTo, List.range_succ, List.filter_append]; simp [freeTo, h]
theorem freeTo_no {piv : List Nat} {c : Nat} (h : c ∈ piv) : freeTo piv (c + 1) = freeTo piv c := by
 rw [freeTo, List.range_succ, List.filter_append]; simp [freeTo, h]
theorem mem_freeTo {piv : List Nat} {c d : Nat} : d ∈ freeTo piv c ↔ d < c ∧ d ∉ piv := by simp [freeTo]
theorem length_freeTo (piv : List Nat) (c : Nat) : (freeTo piv c).length ≤ c := by
 have := List.length_filter_le (fun d => decide (d ∉ piv)) (List.range c)
 simpa [freeTo] using this
def kerTab (p : Int) (n : Nat) (S : List (List Int)) (piv : List Nat) (c : Nat) : List (List Int) := (freeTo piv c).map (kerV p n S piv)
theorem kerTab_yes {p : Int} {n : Nat} {S : List (List Int)} {piv : List Nat} {c : Nat} (h : c ∉ piv) : kerTab p n S piv (c + 1) = kerTab p n S piv c ++ [kerV p n S piv c] := by
 rw [kerTab, freeTo_yes h, List.map_append]; rfl
theorem kerTab_no {p : Int} {n : Nat} {S : List (List Int)} {piv : List Nat} {c : Nat} (h : c ∈ piv) : kerTab p n S piv (c + 1) = kerTab p n S piv c := by
 rw [kerTab, freeTo_no h, kerTab]
theorem length_kerTab (p : Int) (n : Nat) (S : List (List Int)) (piv : List Nat) (c : Nat) : (kerTab p n S piv c).length ≤ c := by
 rw [kerTab, List.length_map]; exact length_freeTo _ _
def kerL (p : Int) (n : Nat) (R : List (List Int)) : List (List Int) := spanL p n (kerTab p n (reduceL p n R).1 (pivL p n R) n)
theorem length_kerTo (p : Int) (n : Nat) (S : List (List Int)) (piv : List Nat) (c : Nat) : ∀ i, (kerTo p n S piv c i).length = n
 | 0 => length_unitL n c
 | i + 1 => by rw [kerTo, List.length_set, length_kerTo]
theorem length_kerV (p : Int) (n : Nat) (S : List (List Int)) (piv : List Nat) (c : Nat) : (kerV p n S piv c).length = n := length_kerTo _ _ _ _ _ _
theorem resid_kerTo {p : Int} (hp : 2 ≤ p) (n : Nat) (S : List (List Int)) (piv : List Nat) (c : Nat) : ∀ i, resid p (kerTo p n S piv c i) = true
 | 0 => resid_unitL hp n c
 | i + 1 => resid_set (resid_kerTo hp n S piv c i) (Int.emod_nonneg _ (by omega)) (Int.emod_lt_of_pos _ (by omega))
theorem kerTo_take {p : Int} {n : Nat} {R : List (List Int)} {piv : List Nat} {c k : Nat} : ∀ i, i ≤ k → kerTo p n (R.take k) piv c i = kerTo p n R piv c i
 | 0, _ => rfl
 | i + 1, h => by rw [kerTo, kerTo, kerTo_take i (by omega), rowOf_take (by omega)]
theorem Wf_map {p : Int} {n : Nat} {α : Type} {l : List α} {f : α → List Int} (h : ∀ a, a ∈ l → (f a).length = n ∧ resid p (f a) = true) : Wf p n (l.map f) := fun i hi => by
 have hl : i < l.length := by simpa using hi
 have e : rowOf (l.map f) i = f l[i] := by simp [rowOf, List.getD_eq_getElem?_getD, hl]
 rw [e]; exact h _ (List.getElem_mem hl)
theorem Wf_kerTab {p : Int} (hp : 2 ≤ p) (n : Nat) (S : List (List Int)) (piv : List Nat) (c : Nat) : Wf p n (kerTab p n S piv c) :=
 Wf_map fun _d _ => ⟨length_kerV _ _ _ _ _, resid_kerTo hp _ _ _ _ _⟩
theorem kerL_span {p : Int} (n : Nat) (R : List (List Int)) : kerL p n R = spanL p n (kerTab p n (spanL p n R) (pivL p n R) n) := by
 have e : kerTab p n (spanL p n R) (pivL p n R) n = kerTab p n (reduceL p n R).1 (pivL p n R) n := List.map_congr_left fun c _ => kerTo_take _ (Nat.le_refl _)
 rw [kerL, e]
theorem kerL_rf {p : Int} (hP : isPrime p = true) (n : Nat) (R : List (List Int)) : ∃ a, Rf p n (kerL p n R) a := ⟨_, spanL_rf hP (Wf_kerTab (isPrime_bd hP).1 _ _ _ _)⟩
theorem Wf_kerL {p : Int} (hP : isPrime p = true) (n : Nat) (R : List (List Int)) : Wf p n (kerL p n R) := (Wf_kerTab (isPrime_bd hP).1 _ _ _ _).spanL hP
theorem vec_kerTo {p : Int} {n : Nat} {S : List (List Int)} {piv : List Nat} (hS : Rf p n S piv) {c d : Nat} (hc : c < n) (hcp : c ∉ piv) (hd : d < n) : ∀ i, i ≤ piv.length →
  (d ∉ piv → vec (kerTo p n S piv c i) d = if d = c then 1 else 0) ∧ (∀ j, j < i → d = pv piv j → vec (kerTo p n S piv c i) d = (-(vec (rowOf S j) c)) % p)
 | 0, _ => ⟨fun _ => by rw [kerTo, unitL, vec_tab hd], fun j hj => absurd hj (Nat.not_lt_zero _)⟩
 | i + 1, h => by
  obtain ⟨h1, h2⟩ := vec_kerTo hS hc hcp hd i (by omega)
  have hlt := hS.lt i (by omega)
  refine ⟨fun hdp => ?_, fun j hj e => ?_⟩
  ·rw [kerTo, vec_set (by rw [length_kerTo]; exact hlt), if_neg (fun e => hdp (by rw [e]; exact pv_mem (by omega)))]
   exact h1 hdp
  ·rw [kerTo, vec_set (by rw [length_kerTo]; exact hlt)]
   by_cases e2 : j = i
   ·subst e2; rw [if_pos e]
   ·rw [if_neg (fun e3 => by
     have := hS.mono j i (by omega) (by omega)
     omega)]
    exact h2 j (by omega) e
theorem vec_kerV_free {p : Int} {n : Nat} {S : List (List Int)} {piv : List Nat} (hS : Rf p n S piv) {c d : Nat} (hc : c < n) (hcp : c ∉ piv) (hd : d < n) (hdp : d ∉ piv) : vec (kerV p n S piv c) d = if d = c then 1 else 0 :=
 (vec_kerTo hS hc hcp hd piv.length (Nat.le_refl _)).1 hdp
theorem vec_kerV_piv {p : Int} {n : Nat} {S : List (List Int)} {piv : List Nat} (hS : Rf p n S piv) {c j : Nat} (hc : c < n) (hcp : c ∉ piv) (hj : j < piv.length) : vec (kerV p n S piv c) (pv piv j) = (-(vec (rowOf S j) c)) % p :=
 (vec_kerTo hS hc hcp (hS.lt j hj) piv.length (Nat.le_refl _)).2 j hj rfl
theorem Rf.row_sum {p : Int} {n : Nat} {S : List (List Int)} {piv : List Nat} (hS : Rf p n S piv) {i : Nat} (hi : i < piv.length) (f : Nat → Int) :
  sumTo n (fun d => vec (rowOf S i) d * f d) = f (pv piv i) + sumTo n (fun d => if d ∈ piv then 0 else vec (rowOf S i) d * f d) := by
 have e : sumTo n (fun d => vec (rowOf S i) d * f d) = sumTo n (fun d => (if d = pv piv i then f (pv piv i) else 0) + (if d ∈ piv then 0 else vec (rowOf S i) d * f d)) := sumTo_congr fun d hd => by
  by_cases hdp : d ∈ piv
  ·obtain ⟨j, hj, rfl⟩ := mem_pv hdp
   rw [if_pos hdp]
   by_cases e : j = i
   ·subst e; rw [hS.one j hj, if_pos rfl]; omega
   ·rw [hS.off j i hj hi e, if_neg (fun e2 => by
     rcases Nat.lt_or_gt_of_ne e with h | h
     ·have := hS.mono j i h hi; omega
     ·have := hS.mono i j h hj; omega)]
    simp
  ·rw [if_neg hdp, if_neg (fun e => hdp (by rw [e]; exact pv_mem hi))]; omega
 rw [e, sumTo_add, sumTo_single (hS.lt i hi) (fun _ => f (pv piv i))]
theorem mem_rows {p : Int} {n : Nat} {R : List (List Int)} {l : List Int} (h : l ∈ R) : Sp p n R (vec l) := by
 obtain ⟨j, hj, e⟩ := List.mem_iff_getElem.1 h
 rw [rowOf_eq hj] at e
 rw [← e]; exact .row j hj
theorem ker_iff {p : Int} (_hp : 2 ≤ p) {n : Nat} {S : List (List Int)} {piv : List Nat} (hS : Rf p n S piv) {f : Nat → Int} : Sp p n (kerTab p n S piv n) f ↔ Kr p n S f := by
 constructor
 ·intro hf i hi
  have hi' : i < piv.length := by rw [← hS.len]; exact hi
  have hk0 : ∀ k, k < (kerTab p n S piv n).length → ∃ u, sumTo n (fun d => vec (rowOf (kerTab p n S piv n) k) d * vec (rowOf S i) d) = p * u := fun k hk => by
   have hk' : k < (freeTo piv n).length := by simpa [kerTab] using hk
   obtain ⟨c, hc⟩ : ∃ c, c = (freeTo piv n)[k] := ⟨_, rfl⟩
   have e : rowOf (kerTab p n S piv n) k = kerV p n S piv c := by rw [hc]; simp [rowOf, kerTab, List.getD_eq_getElem?_getD, hk']
   obtain ⟨h1, h2⟩ := mem_freeTo.1 (show c ∈ freeTo piv n by rw [hc]; exact List.getElem_mem hk')
   rw [e]
   have e2 : sumTo n (fun d => vec (kerV p n S piv c) d * vec (rowOf S i) d) = sumTo n (fun d => vec (rowOf S i) d * vec (kerV p n S piv c) d) := sumTo_congr fun _ _ => Int.mul_comm _ _
   rw [e2, hS.row_sum hi', vec_kerV_piv hS h1 h2 hi']
   have e3 : sumTo n (fun d => if d ∈ piv then 0 else vec (rowOf S i) d * vec (kerV p n S piv c) d) = sumTo n (fun d => if d = c then vec (rowOf S i) d else 0) := sumTo_congr fun d hd => by
    by_cases hdp : d ∈ piv
    ·rw [if_pos hdp, if_neg (fun (e : d = c) => h2 (by rw [← e]; exact hdp))]
    ·rw [if_neg hdp, vec_kerV_free hS h1 h2 hd hdp]
     by_cases e4 : d = c <;> simp [e4]
   rw [e3, sumTo_single h1 (fun d => vec (rowOf S i) d)]
   obtain ⟨v, hv⟩ := emod_dvd (p := p) (a := -(vec (rowOf S i) c))
   exact ⟨-v, by grind⟩
  obtain ⟨u, hu⟩ := kl_sp hk0 hf
  exact ⟨u, by rw [← hu]; exact sumTo_congr fun _ _ => Int.mul_comm _ _⟩
 ·intro hf
  have key : ∀ m, m ≤ n → Sp p n (kerTab p n S piv n) (fun d => sumTo m (fun c => if c ∈ piv then 0 else f c * vec (kerV p n S piv c) d)) := by
   intro m
   induction m with
   | zero => intro _; exact Sp.zero.eqOn fun _ _ => rfl
   | succ m ih =>
    intro hm
    by_cases hmp : m ∈ piv
    ·exact (ih (by omega)).eqOn fun d _ => by rw [sumTo, if_pos hmp]; omega
    ·have hmem : kerV p n S piv m ∈ kerTab p n S piv n := List.mem_map.2 ⟨m, mem_freeTo.2 ⟨by omega, hmp⟩, rfl⟩
     exact (Sp.comb (f m) (ih (by omega)) (mem_rows hmem)).eqOn fun d _ => by rw [sumTo, if_neg hmp]
  refine (key n (Nat.le_refl _)).congr fun d hd => ?_
  by_cases hdp : d ∈ piv
  ·obtain ⟨j, hj, rfl⟩ := mem_pv hdp
   obtain ⟨u, hu⟩ := hf j (by rw [hS.len]; exact hj)
   rw [hS.row_sum hj] at hu
   obtain ⟨v, hv⟩ := sumTo_dvd (p := p) (n := n) (a := fun c => (if c ∈ piv then 0 else f c * vec (kerV p n S piv c) (pv piv j)) + (if c ∈ piv then 0 else vec (rowOf S j) c * f c)) fun c hc => by
    by_cases hcp : c ∈ piv
    ·exact ⟨0, by simp [hcp]⟩
    ·obtain ⟨x, hx⟩ := emod_dvd (p := p) (a := -(vec (rowOf S j) c))
     refine ⟨-(f c * x), ?_⟩
     simp only [if_neg hcp]
     rw [vec_kerV_piv hS hc hcp hj]
     have e1 : (-(vec (rowOf S j) c)) % p = -(vec (rowOf S j) c) - p * x := by omega
     rw [e1]; grind
   rw [sumTo_add] at hv
   exact ⟨v - u, by grind⟩
  ·refine ⟨0, ?_⟩
   have e : sumTo n (fun c => if c ∈ piv then 0 else f c * vec (kerV p n S piv c) d) = sumTo n (fun c => if c = d then f c else 0) := sumTo_congr fun c hc => by
    by_cases hcp : c ∈ piv
    ·rw [if_pos hcp, if_neg (fun (e : c = d) => hdp (by rw [← e]; exact hcp))]
    ·rw [if_neg hcp, vec_kerV_free hS hc hcp hd hdp]
     by_cases e : c = d
     ·subst e; simp
     ·rw [if_neg (fun e2 => e e2.symm), if_neg e]; simp
   rw [e, sumTo_single hd f]; omega
theorem kerL_iff {p : Int} (hP : isPrime p = true) {n : Nat} {R : List (List Int)} (hR : Wf p n R) {f : Nat → Int} : Sp p n (kerL p n R) f ↔ Kr p n R f := by
 have hp := (isPrime_bd hP).1
 have hw := Wf_kerTab hp n (spanL p n R) (pivL p n R) n
 rw [← Kr_span hP hR, ← ker_iff hp (spanL_rf hP hR), kerL_span]
 exact ⟨fun h => h.trans (spanL_in hP hw), fun h => h.trans (spanL_out hP hw)⟩
theorem Kr_iff_mem {p : Int} {n : Nat} {R : List (List Int)} {f : Nat → Int} : Kr p n R f ↔ ∀ l, l ∈ R → ∃ u, sumTo n (fun c => vec l c * f c) = p * u :=
 ⟨fun h l hl => by
  obtain ⟨j, hj, e⟩ := List.mem_iff_getElem.1 hl
  rw [rowOf_eq hj] at e; rw [← e]; exact h j hj, fun h i hi => h _ (by rw [← rowOf_eq hi]; exact List.getElem_mem hi)⟩
theorem sp_sum_of {p : Int} {n : Nat} {R : List (List Int)} {g : Nat → Nat → Int} (f : Nat → Int) (m : Nat) (h : ∀ i, i < m → Sp p n R (g i)) : Sp p n R (fun c => sumTo m fun i => f i * g i c) := by
 induction m with
 | zero => exact Sp.zero.eqOn fun _ _ => rfl
 | succ m ih => exact (Sp.comb (f m) (ih fun i hi => h i (by omega)) (h m (by omega))).eqOn fun c _ => rfl
end
section
open Go.RowKit
theorem ker_ker {p : Int} (hP : isPrime p = true) {n : Nat} {R : List (List Int)} (hR : Wf p n R) {f : Nat → Int} : Sp p n (kerL p n (kerL p n R)) f ↔ Sp p n R f := by
 have hp := (isPrime_bd hP).1
 rw [kerL_iff hP (Wf_kerL hP n R)]
 constructor
 ·intro h
  have hS := spanL_rf hP hR
  have hw := Wf_kerTab hp n (spanL p n R) (pivL p n R) n
  have hk : ∀ g, Sp p n (kerTab p n (spanL p n R) (pivL p n R) n) g → ∃ u, sumTo n (fun c => g c * f c) = p * u := fun g hg => h.sp (by rw [kerL_span]; exact hg.trans (spanL_out hP hw))
  have hsp : Sp p n (spanL p n R) f := by
   obtain ⟨S, hSe⟩ : ∃ S, S = spanL p n R := ⟨_, rfl⟩
   obtain ⟨piv, hpe⟩ : ∃ piv, piv = pivL p n R := ⟨_, rfl⟩
   rw [← hSe, ← hpe] at hS hk
   rw [← hSe]
   have h1 : Sp p n S (fun d => sumTo S.length fun j => f (pv piv j) * vec (rowOf S j) d) := sp_sum_of (g := fun j => vec (rowOf S j)) (fun j => f (pv piv j)) S.length (fun j hj => .row j hj)
   have hpz : ∀ i, i < piv.length → sumTo S.length (fun j => f (pv piv j) * vec (rowOf S j) (pv piv i)) = f (pv piv i) := fun i hi => by
    rw [sumTo_congr (g := fun j => if j = i then f (pv piv i) else 0) (fun j hj => by
     by_cases e : j = i
     ·subst e; rw [hS.one j hi, if_pos rfl]; omega
     ·rw [hS.off i j hi (by rw [← hS.len]; exact hj) (fun e2 => e e2.symm), if_neg e]; simp)]
    exact sumTo_single (by rw [hS.len]; exact hi) (fun _ => f (pv piv i))
   refine h1.congr fun d hd => ?_
   by_cases hdp : d ∈ piv
   ·obtain ⟨i, hi, rfl⟩ := mem_pv hdp
    exact ⟨0, by rw [hpz i hi]; omega⟩
   ·have hmem : Sp p n (kerTab p n S piv n) (vec (kerV p n S piv d)) := mem_rows (List.mem_map.2 ⟨d, mem_freeTo.2 ⟨hd, hdp⟩, rfl⟩)
    obtain ⟨u, hu⟩ := hk _ hmem
    obtain ⟨v, hv⟩ := ((ker_iff hp hS).1 hmem).sp h1
    have hx : ∀ c, c < n → ∃ x, vec (kerV p n S piv d) c * f c - (sumTo S.length fun j => f (pv piv j) * vec (rowOf S j) c) * vec (kerV p n S piv d) c - (if c = d then f d - (sumTo S.length fun j => f (pv piv j) * vec (rowOf S j) d) else 0) = p * x := fun c hc => by
     by_cases hcp : c ∈ piv
     ·obtain ⟨i, hi, rfl⟩ := mem_pv hcp
      rw [hpz i hi, if_neg (fun e => hdp (by rw [← e]; exact hcp))]
      exact ⟨0, by grind⟩
     ·rw [vec_kerV_free hS hd hdp hc hcp]
      by_cases e : c = d
      ·subst e; exact ⟨0, by simp⟩
      ·exact ⟨0, by simp [e]⟩
    obtain ⟨x, hx⟩ := sumTo_dvd hx
    have e : sumTo n (fun c => vec (kerV p n S piv d) c * f c - (sumTo S.length fun j => f (pv piv j) * vec (rowOf S j) c) * vec (kerV p n S piv d) c - (if c = d then f d - (sumTo S.length fun j => f (pv piv j) * vec (rowOf S j) d) else 0))
      = sumTo n (fun c => vec (kerV p n S piv d) c * f c) - sumTo n (fun c => (sumTo S.length fun j => f (pv piv j) * vec (rowOf S j) c) * vec (kerV p n S piv d) c) - (f d - (sumTo S.length fun j => f (pv piv j) * vec (rowOf S j) d)) := by
     have e9 := sumTo_single hd (fun _ => f d - (sumTo S.length fun j => f (pv piv j) * vec (rowOf S j) d))
     have e8 : ∀ (m : Nat) (a b c : Nat → Int), sumTo m (fun i => a i - b i - c i) = sumTo m a - sumTo m b - sumTo m c := fun m a b c => by
      induction m with
      | zero => rfl
      | succ m ih => rw [sumTo, sumTo, sumTo, sumTo, ih]; omega
     rw [e8, e9]
    rw [e, hu, hv] at hx
    exact ⟨x - u + v, by grind⟩
  exact hsp.trans (spanL_in hP hR)
 ·intro h i hi
  obtain ⟨u, hu⟩ := ((kerL_iff hP hR).1 (.row i hi)).sp h
  exact ⟨u, by rw [← hu]; exact sumTo_congr fun _ _ => Int.mul_comm _ _⟩
theorem Kr_app {p : Int} {n : Nat} {X Y : List (List Int)} {f : Nat → Int} : Kr p n (X ++ Y) f ↔ Kr p n X f ∧ Kr p n Y f := by
 rw [Kr_iff_mem, Kr_iff_mem, Kr_iff_mem]
 exact ⟨fun h => ⟨fun l hl => h l (List.mem_append_left _ hl), fun l hl => h l (List.mem_append_right _ hl)⟩, fun h l hl => (List.mem_append.1 hl).elim (h.1 l) (h.2 l)⟩
def meetL (p : Int) (n : Nat) (A B : List (List Int)) : List (List Int) := kerL p n (spanL p n (kerL p n A ++ kerL p n B))
theorem meet_iff {p : Int} (hP : isPrime p = true) {n : Nat} {A B : List (List Int)} (hA : Wf p n A) (hB : Wf p n B) {f : Nat → Int} : Sp p n (meetL p n A B) f ↔ Sp p n A f ∧ Sp p n B f := by
 have w1 := Wf_kerL hP n A
 have w2 := Wf_kerL hP n B
 rw [meetL, kerL_iff hP ((w1.app w2).spanL hP), Kr_span hP (w1.app w2), Kr_app, ← kerL_iff hP w1, ← kerL_iff hP w2, ker_ker hP hA, ker_ker hP hB]
theorem meet_rf {p : Int} (hP : isPrime p = true) (n : Nat) (A B : List (List Int)) : ∃ a, Rf p n (meetL p n A B) a := kerL_rf hP n _
theorem rf_ext {p : Int} (hP : isPrime p = true) {n : Nat} {R S : List (List Int)} {a b : List Nat} (hR : Rf p n R a) (hS : Rf p n S b) (h : ∀ f, Sp p n R f ↔ Sp p n S f) : R = S := by
 have e := (spanL_eq hP hR.wf hS.wf (fun i hi => (h _).1 (.row i hi)) (fun i hi => (h _).2 (.row i hi))).1
 rwa [(spanL_self hP hR).1, (spanL_self hP hS).1] at e
end
end Go.Proofs.YtbnefjhljfbecaaGreatDoor
