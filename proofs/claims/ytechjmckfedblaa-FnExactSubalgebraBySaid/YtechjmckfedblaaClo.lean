/- Spaces that grow by their brackets until they do not grow any more. -/
import Derived.Test.YtechjmckfedblaaSer
import Derived.Test.YtechjmckfedblaaAlgP
namespace Go.Proofs.Ytechjmckfedblaa
set_option maxRecDepth 100000
open Go.RowKit

/-- A space in another one with no more rows is the other one. -/
theorem Rf.eq_len {p : Int} (hp : 2 ≤ p) {n : Nat} {R S : List (List Int)} {a b : List Nat} (h1 : Rf p n R a) (h2 : Rf p n S b) (h : ∀ i, i < R.length → Sp p n S (vec (rowOf R i))) (e : S.length ≤ R.length) : R = S := by
  have hab := h1.pivSub hp h2 h
  have hpm := perm_of_sub a b h1.nodup hab (by rw [← h1.len, ← h2.len]; exact e)
  refine (h1.unique hp h2 h fun i hi => ?_).1
  have key : ∀ m, m ≤ a.length → Sp p n R (fun c => sumTo m fun k => vec (rowOf S i) (pv a k) * vec (rowOf R k) c) := by
    intro m
    induction m with
    | zero => intro _; exact Sp.zero.eqOn fun _ _ => rfl
    | succ m ih => intro hm; exact (Sp.comb (vec (rowOf S i) (pv a m)) (ih (by omega)) (.row m (by rw [h1.len]; omega))).eqOn fun c _ => rfl
  have hR := key a.length (Nat.le_refl _)
  have hn := h2.nil (Sp.comb (-1) (.row i hi) (hR.trans h)) fun j hj => by
    obtain ⟨k, hk, hk2⟩ := mem_pv (hpm.mem_iff.2 (pv_mem hj))
    refine ⟨0, ?_⟩
    rw [← hk2, sumTo_congr (g := fun l => if l = k then vec (rowOf S i) (pv a l) else 0) (fun l hl => by
      by_cases e : l = k
      · rw [if_pos e, e, h1.one k hk, Int.mul_one]
      · rw [if_neg e, h1.off k l hk hl (fun h => e h.symm), Int.mul_zero]), sumTo_single hk (fun l => vec (rowOf S i) (pv a l))]
    omega
  refine hR.congr fun c hc => ?_
  obtain ⟨u, hu⟩ := hn c hc
  exact ⟨-u, by grind⟩

/-- Brackets change their sign. -/
def AntiT (p : Int) (n : Nat) (T : List Int) : Prop := ∀ a b c, a < n → b < n → c < n → ∃ u, t3 T n a b c + t3 T n b a c = p * u
theorem anti_of {p : Int} {n : Nat} {T : List Int} (h : algOk p n T = true) : AntiT p n T := by
  have ht : tableS T n p = true := by
    simp only [algOk, Bool.and_eq_true, decide_eq_true_eq] at h
    obtain ⟨_, _, _, _, h5⟩ := h
    rwa [Int.toNat_natCast, table_eq] at h5
  have key : ∀ a b c, b ≤ a → a < n → c < n → ∃ u, t3 T n a b c + t3 T n b a c = p * u := fun a b c hb ha hc => by
    unfold tableS at ht
    rw [Bool.and_eq_true] at ht
    have h1 := (allF_iff _ _ _).1 ht.1 a (Nat.zero_le _) (by omega)
    have h2 := (allF_iff _ _ _).1 h1 b (Nat.zero_le _) (by omega)
    have h3 := (allF_iff _ _ _).1 h2 c (Nat.zero_le _) (by omega)
    unfold pairS at h3
    rw [Bool.and_eq_true, beq_iff_eq] at h3
    obtain ⟨u, hu⟩ := Int.dvd_of_emod_eq_zero h3.2
    exact ⟨u, hu⟩
  intro a b c ha hb hc
  rcases Nat.le_total b a with h1 | h1
  · exact key a b c h1 ha hc
  · obtain ⟨u, hu⟩ := key b a c h1 hb hc
    exact ⟨u, by omega⟩
theorem bF_anti {p : Int} {n : Nat} {T : List Int} (h : AntiT p n T) (f g : Nat → Int) {c : Nat} (hc : c < n) : ∃ u, bF T n f g c + bF T n g f c = p * u := by
  refine ⟨sumTo n fun a => sumTo n fun b => f a * g b * ((t3 T n a b c + t3 T n b a c) / p), ?_⟩
  have e : bF T n g f c = sumTo n fun a => sumTo n fun b => f a * g b * t3 T n b a c := by
    unfold bF
    rw [sumTo_comm]
    exact sumTo_congr fun a _ => sumTo_congr fun b _ => by grind
  rw [e]
  unfold bF
  rw [← sumTo_add, ← sumTo_mul]
  refine sumTo_congr fun a ha => ?_
  rw [← sumTo_add, ← sumTo_mul]
  refine sumTo_congr fun b hb => ?_
  obtain ⟨u, hu⟩ := h a b c ha hb hc
  have hq : t3 T n a b c + t3 T n b a c = p * ((t3 T n a b c + t3 T n b a c) / p) := by
    rw [Int.mul_ediv_cancel_of_dvd ⟨u, hu⟩]
  show f a * g b * t3 T n a b c + f a * g b * t3 T n b a c = p * (f a * g b * ((t3 T n a b c + t3 T n b a c) / p))
  generalize (t3 T n a b c + t3 T n b a c) / p = q at hq ⊢
  rw [← Int.mul_add, hq]
  grind
/-- Brackets in the other order span the same. -/
theorem brR_anti {p : Int} {n : Nat} {T : List Int} (h : AntiT p n T) {R S : List (List Int)} (hR : Wf p n R) (hS : Wf p n S) {i : Nat} (hi : i < (brR T n p R S).length) : Sp p n (brR T n p S R) (vec (rowOf (brR T n p R S) i)) := by
  obtain ⟨a, b, ha, hb, e⟩ := brR_row hR hS (List.getElem_mem hi)
  rw [rowOf_eq hi] at e
  rw [e]
  refine ((brR_bra hS hR (.row b hb) (.row a ha)).mul (-1)).congr fun c hc => ?_
  rw [braL, vec_tab hc]
  obtain ⟨u, hu⟩ := bF_anti h (vec (rowOf R a)) (vec (rowOf S b)) hc
  obtain ⟨v, hv⟩ := emod_dvd (p := p) (a := bra1 T (rowOf R a) (rowOf S b) n n c)
  have hb1 : bra1 T (rowOf R a) (rowOf S b) n n c = bF T n (vec (rowOf R a)) (vec (rowOf S b)) c := rfl
  rw [hb1] at hv ⊢
  exact ⟨v - u, by grind⟩
theorem stepS_swap {p : Int} (hP : isPrime p = true) {n : Nat} {T : List Int} (h : AntiT p n T) {R : List (List Int)} (hR : Wf p n R) : spanL p n (brR T n p R (uniR n)) = stepS true T n p R := by
  have hp := (isPrime_bd hP).1
  exact (spanL_eq hP (Wf_brR hp _ _) (Wf_brR hp _ _) (fun i hi => brR_anti h hR (Wf_uniR hp n) hi) (fun i hi => brR_anti h (Wf_uniR hp n) hR hi)).1

theorem Wf.app {p : Int} {n : Nat} {R S : List (List Int)} (h1 : Wf p n R) (h2 : Wf p n S) : Wf p n (R ++ S) := by
  intro i hi
  rw [List.length_append] at hi
  by_cases e : i < R.length
  · rw [show rowOf (R ++ S) i = rowOf R i by simp [rowOf, List.getD_eq_getElem?_getD, List.getElem?_append_left e]]
    exact h1 i e
  · rw [show rowOf (R ++ S) i = rowOf S (i - R.length) by simp [rowOf, List.getD_eq_getElem?_getD, List.getElem?_append_right (show R.length ≤ i by omega)]]
    exact h2 _ (by omega)
theorem Wf.stepS {k : Bool} {T : List Int} {n : Nat} {p : Int} (hP : isPrime p = true) (R : List (List Int)) : Wf p n (stepS k T n p R) := (Wf_stepArg k T n (isPrime_bd hP).1 R).spanL hP
/-- One step of a closure: as a subalgebra (false) or as an ideal (true). -/
def cloNext (k : Bool) (T : List Int) (n : Nat) (p : Int) (R : List (List Int)) : List (List Int) := spanL p n (R ++ stepS k T n p R)
theorem cloNext_rf {k : Bool} {T : List Int} {n : Nat} {p : Int} (hP : isPrime p = true) {R : List (List Int)} (h : Wf p n R) : ∃ a, Rf p n (cloNext k T n p R) a := ⟨_, spanL_rf hP (h.app (Wf.stepS hP R))⟩
theorem rf_le_n {n : Nat} {p : Int} (hp : 2 ≤ p) {R : List (List Int)} {a : List Nat} (h : Rf p n R a) : R.length ≤ n := by
  have := h.length_le hp (Rf_uniR hp n) fun _ _ => sp_uniR _ _ _
  rwa [length_uniR] at this
theorem sp_app_left {p : Int} {n : Nat} {R S : List (List Int)} {f : Nat → Int} (h : Sp p n R f) : Sp p n (R ++ S) f := h.mono fun _ hl => List.mem_append_left _ hl
theorem cloNext_sup {k : Bool} {T : List Int} {n : Nat} {p : Int} (hP : isPrime p = true) {R : List (List Int)} (h : Wf p n R) (i : Nat) (hi : i < R.length) : Sp p n (cloNext k T n p R) (vec (rowOf R i)) :=
  (sp_app_left (.row i hi)).trans fun j hj => spanL_out hP (h.app (Wf.stepS hP R)) j hj
theorem cloNext_le {k : Bool} {T : List Int} {n : Nat} {p : Int} (hP : isPrime p = true) {R : List (List Int)} {a : List Nat} (h : Rf p n R a) : R.length ≤ (cloNext k T n p R).length := by
  obtain ⟨b, hb⟩ := cloNext_rf (k := k) (T := T) hP h.wf
  exact h.length_le (isPrime_bd hP).1 hb (cloNext_sup hP h.wf)
theorem cloNext_same {k : Bool} {T : List Int} {n : Nat} {p : Int} (hP : isPrime p = true) {R : List (List Int)} {a : List Nat} (h : Rf p n R a) (e : (cloNext k T n p R).length = R.length) : cloNext k T n p R = R := by
  obtain ⟨b, hb⟩ := cloNext_rf (k := k) (T := T) hP h.wf
  exact (h.eq_len (isPrime_bd hP).1 hb (cloNext_sup hP h.wf) (Nat.le_of_eq e)).symm

def cloTo (k : Bool) (T : List Int) (n : Nat) (p : Int) : Nat → List (List Int) → List (List Int)
  | 0, R => R
  | f + 1, R => if (cloNext k T n p R).length = R.length then R else cloTo k T n p f (cloNext k T n p R)
def cloL (k : Bool) (T : List Int) (n : Nat) (p : Int) (R : List (List Int)) : List (List Int) := cloTo k T n p n R
theorem cloTo_stop {k : Bool} {T : List Int} {n : Nat} {p : Int} {R : List (List Int)} (h : (cloNext k T n p R).length = R.length) (f : Nat) : cloTo k T n p f R = R := by
  cases f with
  | zero => rfl
  | succ f => rw [cloTo, if_pos h]
theorem cloTo_fuel {k : Bool} {T : List Int} {n : Nat} {p : Int} (hP : isPrime p = true) : ∀ (f g : Nat) {R : List (List Int)} {a : List Nat}, Rf p n R a → n - R.length ≤ f → n - R.length ≤ g → cloTo k T n p f R = cloTo k T n p g R
  | 0, g, R, a, hok, hf, hg => by
    obtain ⟨b, hb⟩ := cloNext_rf (k := k) (T := T) hP hok.wf
    have h1 := cloNext_le (k := k) (T := T) hP hok
    have h2 := rf_le_n (isPrime_bd hP).1 hb
    have h : (cloNext k T n p R).length = R.length := by omega
    rw [cloTo_stop h, cloTo_stop h]
  | f + 1, g, R, a, hok, hf, hg => by
    obtain ⟨b, hb⟩ := cloNext_rf (k := k) (T := T) hP hok.wf
    have h1 := cloNext_le (k := k) (T := T) hP hok
    have h2 := rf_le_n (isPrime_bd hP).1 hb
    by_cases h : (cloNext k T n p R).length = R.length
    · rw [cloTo_stop h, cloTo_stop h]
    · obtain ⟨g', rfl⟩ : ∃ g', g = g' + 1 := ⟨g - 1, by omega⟩
      rw [cloTo, cloTo, if_neg h, if_neg h]
      exact cloTo_fuel hP f g' hb (by omega) (by omega)
theorem cloTo_rf {k : Bool} {T : List Int} {n : Nat} {p : Int} (hP : isPrime p = true) : ∀ (f : Nat) {R : List (List Int)} {a : List Nat}, Rf p n R a → ∃ b, Rf p n (cloTo k T n p f R) b
  | 0, _, _, h => ⟨_, h⟩
  | f + 1, R, a, h => by
    rw [cloTo]
    split
    · exact ⟨_, h⟩
    · obtain ⟨b, hb⟩ := cloNext_rf (k := k) (T := T) hP h.wf
      exact cloTo_rf hP f hb
/-- A run of a closure's loop. -/
def CloRun (k : Bool) (T : List Int) (n : Nat) (p : Int) (R G : List (List Int)) : Prop := (∃ a, Rf p n R a) ∧ G = cloTo k T n p (n - R.length) R
theorem CloRun.start {k : Bool} {T : List Int} {n : Nat} {p : Int} (hP : isPrime p = true) {R : List (List Int)} {a : List Nat} (h : Rf p n R a) : CloRun k T n p R (cloL k T n p R) :=
  ⟨⟨_, h⟩, cloTo_fuel hP _ _ h (by omega) (by omega)⟩
theorem CloRun.stop {k : Bool} {T : List Int} {n : Nat} {p : Int} {R G : List (List Int)} (h : CloRun k T n p R G) (e : (cloNext k T n p R).length = R.length) : R = G := by
  rw [h.2, cloTo_stop e]
theorem CloRun.next {k : Bool} {T : List Int} {n : Nat} {p : Int} (hP : isPrime p = true) {R G : List (List Int)} (h : CloRun k T n p R G) (e : (cloNext k T n p R).length ≠ R.length) : CloRun k T n p (cloNext k T n p R) G ∧ R.length < (cloNext k T n p R).length ∧ (cloNext k T n p R).length ≤ n := by
  obtain ⟨⟨a, ha⟩, hG⟩ := h
  obtain ⟨b, hb⟩ := cloNext_rf (k := k) (T := T) hP ha.wf
  have h1 := cloNext_le (k := k) (T := T) hP ha
  have h2 := rf_le_n (isPrime_bd hP).1 hb
  refine ⟨⟨⟨b, hb⟩, ?_⟩, by omega, h2⟩
  rw [hG]
  obtain ⟨m, hm⟩ : ∃ m, n - R.length = m + 1 := ⟨n - R.length - 1, by omega⟩
  rw [hm, cloTo, if_neg e]
  exact cloTo_fuel hP _ _ hb (by omega) (by omega)
end Go.Proofs.Ytechjmckfedblaa
