/- CentreOf, CentralizerOf, NormalizerOf of both programs. -/
import Derived.Test.YtcdbgcpccmcbeaaIntoF
namespace Go.Proofs.Ytcdbgcpccmcbeaa
set_option maxRecDepth 100000
open Go.RowKit

theorem Rf_none (p : Int) (n : Nat) : Rf p n [] [] := ⟨rfl, fun _i hi => absurd hi (Nat.not_lt_zero _), fun _i hi => absurd hi (Nat.not_lt_zero _), fun _i _j _ hj => absurd hj (Nat.not_lt_zero _), fun _i hi => absurd hi (Nat.not_lt_zero _), fun _i _j hi => absurd hi (Nat.not_lt_zero _), fun _i _c hi => absurd hi (Nat.not_lt_zero _)⟩
theorem flat_none (n : Nat) : flat n [] = [] := by simp [flat, tab]
theorem Wf_intoL {T : List Int} {n : Nat} {p : Int} (hP : isPrime p = true) (t : List (List Int)) (piv : List Nat) (S : List (List Int)) : ∃ a, Rf p n (intoL T n p t piv S) a := kerL_rf hP n _
theorem length_intoL {T : List Int} {n : Nat} {p : Int} (hP : isPrime p = true) (t : List (List Int)) (piv : List Nat) (S : List (List Int)) : (intoL T n p t piv S).length ≤ n := by
  obtain ⟨a, ha⟩ := Wf_intoL (T := T) (n := n) hP t piv S
  exact rf_le_n (isPrime_bd hP).1 ha
/-- The centre. -/
def cenL (T : List Int) (n : Nat) (p : Int) : List (List Int) := intoL T n p [] [] (uniR n)
def cenP (p n : Int) (T : List Int) : Int := if algOk p n T then p else 0
def cenR (p n : Int) (T : List Int) : Int := if algOk p n T then (cenL T n.toNat p).length else 0
def cenC (p n : Int) (T : List Int) : Int := if algOk p n T then n else 0
def cenD (p n : Int) (T : List Int) : List Int := if algOk p n T then flat n.toNat (cenL T n.toNat p) else []
theorem cenD_bd (p n : Int) (T : List Int) : (cenD p n T).length ≤ 784 := by
  unfold cenD
  split
  · rename_i h
    obtain ⟨m, rfl, hm, _, _, h2, _, hP⟩ := algOk_spec h
    rw [length_flat, Int.toNat_natCast]
    exact mul_le (Nat.le_trans (length_intoL hP _ _ _) hm) hm
  · simp
/-- Centralizers (false) and normalizers (true). -/
def ctL (k : Bool) (T : List Int) (n : Nat) (p : Int) (R : List (List Int)) : List (List Int) := intoL T n p (if k then R else []) (if k then pivL p n R else []) R
def ctP (p n : Int) (T : List Int) (q r c : Int) (D : List Int) : Int := if subOk p n T q r c D then p else 0
def ctR (k : Bool) (p n : Int) (T : List Int) (q r c : Int) (D : List Int) : Int := if subOk p n T q r c D then (ctL k T n.toNat p (rowsM r.toNat n.toNat D)).length else 0
def ctC (p n : Int) (T : List Int) (q r c : Int) (D : List Int) : Int := if subOk p n T q r c D then n else 0
def ctD (k : Bool) (p n : Int) (T : List Int) (q r c : Int) (D : List Int) : List Int := if subOk p n T q r c D then flat n.toNat (ctL k T n.toNat p (rowsM r.toNat n.toNat D)) else []
theorem ctD_bd (k : Bool) (p n : Int) (T : List Int) (q r c : Int) (D : List Int) : (ctD k p n T q r c D).length ≤ 784 := by
  unfold ctD
  split
  · rename_i h
    obtain ⟨h1, _, _, _⟩ := subOk_spec h
    obtain ⟨m, rfl, hm, _, _, h2, _, hP⟩ := algOk_spec h1
    rw [length_flat, Int.toNat_natCast]
    exact mul_le (Nat.le_trans (length_intoL hP _ _ _) hm) hm
  · simp



end Go.Proofs.Ytcdbgcpccmcbeaa
