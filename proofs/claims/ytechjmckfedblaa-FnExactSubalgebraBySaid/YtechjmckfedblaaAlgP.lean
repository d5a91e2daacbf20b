/- The program's algebra and the reference's: one law. -/
import Derived.Test.YtechjmckfedblaaAlgK
namespace Go.Proofs.Ytechjmckfedblaa
set_option maxRecDepth 100000
open Go.RowKit

theorem bracketL_eq (T U V : List Int) (n : Nat) (p : Int) : bracketL T U V n p = braL T U V n p := by
  refine tab_congr fun k _ => ?_
  unfold bracketS bra1 rightS
  rw [sumTo_emod_congr (g := fun b => vec V b * sumTo n (fun a => vec U a * t3 T n a b k)) (fun b _ => mul_mod_right _ _ _)]
  congr 1
  rw [sumTo_congr (g := fun b => sumTo n (fun a => vec U a * vec V b * t3 T n a b k)) (fun b _ => by
    rw [← sumTo_mul]; exact sumTo_congr fun a _ => by rw [← Int.mul_assoc, Int.mul_comm (vec V b)]), sumTo_comm]

theorem rightL_eq (T U : List Int) (n : Nat) (p : Int) {k : Nat} (hk : k < n) : rightL T U n p k = braL T U (unitL n k) n p := by
  refine tab_congr fun q _ => ?_
  unfold rightS bra1
  congr 1
  refine sumTo_congr fun a _ => ?_
  rw [sumTo_congr (g := fun b => if b = k then vec U a * t3 T n a b q else 0) (fun b hb => by
    rw [unitL, vec_tab hb]; split <;> simp), sumTo_single hk]

theorem plusL_tab (n : Nat) (f g : Nat → Int) (p : Int) : plusL p (tab n f) (tab n g) = addL (tab n f) 1 (tab n g) p := by
  rw [addL_tab, plusL, length_tab]
  exact tab_congr fun i hi => by rw [vec_tab hi, vec_tab hi, Int.one_mul]

theorem jacL_eq (T : List Int) (n : Nat) (p : Int) {i j k : Nat} (hi : i < n) (hj : j < n) (hk : k < n) : jacL T n p i j k = jacSL T n p i j k := by
  unfold jacL jacSL jac1
  rw [rightL_eq T _ n p hk, rightL_eq T _ n p hi, rightL_eq T _ n p hj]
  unfold braL
  rw [plusL_tab, addL_tab, plusL_tab]

theorem jac_eq (T : List Int) (n : Nat) (p : Int) {i : Nat} (hi : i < n) : jacI T n p i = jacS T n p i := by
  refine allF_congr fun j _ h2 => allF_congr fun k _ h4 => ?_
  rw [jacL_eq T n p hi (by omega) (by omega)]

theorem pair_eq (T : List Int) (n : Nat) (p : Int) (i j : Nat) : pairI T n p i j = allF (pairS T n p i j) n 0 := by
  rw [Bool.eq_iff_iff, allF_iff]
  unfold pairI pairS rowT
  rw [addL_tab, Bool.and_eq_true, zeroL_iff, length_tab]
  by_cases e : i = j
  · subst e
    simp only [if_true, Bool.and_eq_true, beq_iff_eq, zeroL_iff, length_tab]
    constructor
    · rintro ⟨h1, h2⟩ k _ hk
      have a := h1 k (by omega)
      have b := h2 k (by omega)
      rw [vec_tab (by omega)] at a b
      rw [Int.one_mul] at a
      exact ⟨b, a⟩
    · intro h
      refine ⟨fun k hk => ?_, fun k hk => ?_⟩
      · rw [vec_tab hk, Int.one_mul]; exact (h k (by omega) (by omega)).2
      · rw [vec_tab hk]; exact (h k (by omega) (by omega)).1
  · simp only [if_neg e, Bool.true_and, beq_iff_eq, and_true]
    constructor
    · intro h k _ hk
      have a := h k (by omega)
      rw [vec_tab (by omega), Int.one_mul] at a
      exact a
    · intro h k hk
      rw [vec_tab hk, Int.one_mul]; exact h k (by omega) (by omega)

theorem table_eq (T : List Int) (n : Nat) (p : Int) : tableI T n p = tableS T n p := by
  unfold tableI tableS
  congr 1
  · exact allF_congr fun i _ _ => allF_congr fun j _ _ => pair_eq T n p i j
  · exact allF_congr fun i _ hi => jac_eq T n p (by omega)

/-- The reference's AlgebraOk and the program's, of any algebra. -/
theorem AlgebraOkI_any (p n : Int) (t : Value) (T : List Int) (w : World) (ht : Ints w t T) (hp : p ≤ 9223372036854775807) :
    Calls Try.prog 71 #[.agg #[.int .i64 p, .int .i64 n, t]] w (RetBool w (algOk p n T)) := by
  by_cases h : (isPrime p && (inR n 0 28 && (decide ((T.length : Int) = n * n * n) && resid p T))) = true
  · simp only [Bool.and_eq_true, decide_eq_true_eq] at h
    obtain ⟨h1, h2, h3, h4⟩ := h
    obtain ⟨m, rfl⟩ : ∃ m : Nat, n = m := ⟨n.toNat, by simp [inR] at h2; omega⟩
    have hm : m ≤ 28 := by simp [inR] at h2; omega
    have h3' : T.length = m * m * m := by exact_mod_cast h3
    have e : algOk p m T = tableI T m p := by simp only [algOk, h1, h2, decide_eq_true h3, h4, Bool.true_and, Int.toNat_natCast]
    rw [e]
    exact AlgebraOkI_in p m t T w ht h1 hm h3' h4
  · have h' : (isPrime p && (inR n 0 28 && (decide ((T.length : Int) = n * n * n) && resid p T))) = false := by simpa using h
    have e : algOk p n T = false := by
      rw [algOk, ← Bool.and_assoc (decide _), ← Bool.and_assoc (inR n 0 28), ← Bool.and_assoc (isPrime p), h']; rfl
    rw [e]
    exact AlgebraOkI_out p n t T w ht hp h'
theorem AlgebraOkS_any (p n : Int) (t : Value) (T : List Int) (w : World) (ht : Ints w t T) :
    Calls Try.prog 68 #[.agg #[.int .i64 p, .int .i64 n, t]] w (RetBool w (algOk p n T)) := by
  by_cases h : (isPrime p && (inR n 0 28 && (decide ((T.length : Int) = n * n * n) && resid p T))) = true
  · simp only [Bool.and_eq_true, decide_eq_true_eq] at h
    obtain ⟨h1, h2, h3, h4⟩ := h
    obtain ⟨m, rfl⟩ : ∃ m : Nat, n = m := ⟨n.toNat, by simp [inR] at h2; omega⟩
    have hm : m ≤ 28 := by simp [inR] at h2; omega
    have h3' : T.length = m * m * m := by exact_mod_cast h3
    have e : algOk p m T = tableS T m p := by simp only [algOk, h1, h2, decide_eq_true h3, h4, Bool.true_and, Int.toNat_natCast, table_eq]
    rw [e]
    exact AlgebraOkS_in p m t T w ht h1 hm h3' h4
  · have h' : (isPrime p && (inR n 0 28 && (decide ((T.length : Int) = n * n * n) && resid p T))) = false := by simpa using h
    have e : algOk p n T = false := by
      rw [algOk, ← Bool.and_assoc (decide _), ← Bool.and_assoc (inR n 0 28), ← Bool.and_assoc (isPrime p), h']; rfl
    rw [e]
    exact AlgebraOkS_out p n t T w ht h'
/-- What an algebra that passes is. -/
theorem algOk_spec {p n : Int} {T : List Int} (h : algOk p n T = true) : ∃ m : Nat, n = m ∧ m ≤ 28 ∧ T.length = m * m * m ∧ resid p T = true ∧ 2 ≤ p ∧ p ≤ 10007 ∧ isPrime p = true := by
  simp only [algOk, Bool.and_eq_true, decide_eq_true_eq] at h
  obtain ⟨h1, h2, h3, h4, _⟩ := h
  obtain ⟨m, rfl⟩ : ∃ m : Nat, n = m := ⟨n.toNat, by simp [inR] at h2; omega⟩
  exact ⟨m, rfl, by simp [inR] at h2; omega, by exact_mod_cast h3, h4, (isPrime_bd h1).1, (isPrime_bd h1).2, h1⟩
end Go.Proofs.Ytechjmckfedblaa
