/- KilledBy: what the two programs compute, as plain lists. -/
import Derived.Test.YthiainhhaokjoaaGreatMeetP
import Derived.Test.YthiainhhaokjoaaGreatTrans
namespace Go.Proofs.YthiainhhaokjoaaGreat
set_option maxRecDepth 100000
open Go.RowKit

/-- The columns of a matrix, as rows. -/
def colR (s : Nat) (D : List Int) : List (List Int) := rowsM s s (trD s D)
theorem length_colR (s : Nat) (D : List Int) : (colR s D).length = s := length_rowsM _ _ _
theorem Wf_colR {p : Int} (hp : 2 ≤ p) (s : Nat) {D : List Int} (h : resid p D = true) : Wf p s (colR s D) := Wf_rowsM (by omega) (resid_trD (by omega) h)
/-- The columns of the first k of some matrices. -/
def kilE (s : Nat) (Es : List (List Int)) : Nat → List (List Int)
  | 0 => []
  | k + 1 => kilE s Es k ++ colR s (rowOf Es k)
/-- What the first k of some matrices kill, by meets. -/
def kilS (p : Int) (s : Nat) (Es : List (List Int)) : Nat → List (List Int)
  | 0 => uniR s
  | k + 1 => meetL p s (kilS p s Es k) (kerL p s (colR s (rowOf Es k)))
theorem length_kilE (s : Nat) (Es : List (List Int)) : ∀ k, (kilE s Es k).length = k * s
  | 0 => by simp [kilE]
  | k + 1 => by rw [kilE, List.length_append, length_kilE s Es k, length_colR, Nat.succ_mul]
theorem Wf_kilE {p : Int} (hp : 2 ≤ p) (s : Nat) (Es : List (List Int)) : ∀ k, (∀ i, i < k → resid p (rowOf Es i) = true) → Wf p s (kilE s Es k)
  | 0, _ => fun i hi => absurd hi (Nat.not_lt_zero i)
  | k + 1, h => (Wf_kilE hp s Es k fun i hi => h i (by omega)).app (Wf_colR hp s (h k (by omega)))
theorem kilS_rf {p : Int} (hP : isPrime p = true) (s : Nat) (Es : List (List Int)) : ∀ k, ∃ a, Rf p s (kilS p s Es k) a
  | 0 => ⟨_, Rf_uniR (isPrime_bd hP).1 s⟩
  | _ + 1 => meet_rf hP s _ _
theorem kilS_sp {p : Int} (hP : isPrime p = true) (s : Nat) (Es : List (List Int)) {f : Nat → Int} : ∀ k, (∀ i, i < k → resid p (rowOf Es i) = true) → (Sp p s (kilS p s Es k) f ↔ Kr p s (kilE s Es k) f)
  | 0, _ => ⟨fun _ i hi => absurd hi (Nat.not_lt_zero i), fun _ => sp_uniR p s f⟩
  | k + 1, h => by
    obtain ⟨a, ha⟩ := kilS_rf hP s Es k
    have hc := Wf_colR (isPrime_bd hP).1 s (h k (by omega))
    rw [kilS, kilE, meet_iff hP ha.wf (Wf_kerL hP s _), Kr_app, kerL_iff hP hc, kilS_sp hP s Es k fun i hi => h i (by omega)]
/-- The meets are the kernel of all columns. -/
theorem kilS_eq {p : Int} (hP : isPrime p = true) (s : Nat) (Es : List (List Int)) (k : Nat) (h : ∀ i, i < k → resid p (rowOf Es i) = true) : kilS p s Es k = kerL p s (kilE s Es k) := by
  obtain ⟨a, ha⟩ := kilS_rf hP s Es k
  obtain ⟨b, hb⟩ := kerL_rf hP s (kilE s Es k)
  refine rf_ext hP ha hb fun f => ?_
  rw [kilS_sp hP s Es k h, kerL_iff hP (Wf_kilE (isPrime_bd hP).1 s Es k h)]
theorem kilS_Wf {p : Int} (hP : isPrime p = true) (s : Nat) (Es : List (List Int)) (k : Nat) : Wf p s (kilS p s Es k) := by obtain ⟨a, ha⟩ := kilS_rf hP s Es k; exact ha.wf
theorem kilS_le {p : Int} (hP : isPrime p = true) (s : Nat) (Es : List (List Int)) (k : Nat) : (kilS p s Es k).length ≤ s := by obtain ⟨a, ha⟩ := kilS_rf hP s Es k; exact rf_le_n (isPrime_bd hP).1 ha
/-- The matrices at some places. -/
def picL (Ms : List (List Int)) (els : List Int) : List (List Int) := els.map fun e => rowOf Ms e.toNat
theorem rowOf_picL {Ms : List (List Int)} {els : List Int} {i : Nat} (hi : i < els.length) : rowOf (picL Ms els) i = rowOf Ms (vec els i).toNat := by
  simp [rowOf, picL, vec, List.getD_eq_getElem?_getD, hi]
/-- All of them lie in the list. -/
def elsOk (m : Nat) (els : List Int) : Bool := els.all fun e => decide (0 ≤ e) && decide (e ≤ (m : Int) - 1)
end Go.Proofs.YthiainhhaokjoaaGreat
