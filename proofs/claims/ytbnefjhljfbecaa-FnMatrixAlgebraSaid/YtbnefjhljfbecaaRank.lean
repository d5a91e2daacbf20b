/- The rank of a matrix, in the reference: RankOf. -/
import Derived.Test.YtbnefjhljfbecaaSolS
namespace Go.Proofs.Ytbnefjhljfbecaa
set_option maxRecDepth 100000
open Go.RowKit

/-- The rank. -/
def rankL (p : Int) (n : Nat) (S : List (List Int)) : Nat := (pivL p n S).length
theorem sp_all {p : Int} (hP : isPrime p = true) {n : Nat} {S : List (List Int)} (hS : Wf p n S) (h : (pivL p n S).length = n) (f : Nat → Int) : Sp p n S f := by
  have hp := (isPrime_bd hP).1
  have hrf := spanL_rf hP hS
  have e := hrf.eq_len hp (Rf_uniR hp n) (fun _ _ => sp_uniR _ _ _) (by rw [length_uniR, hrf.len, h]; exact Nat.le_refl _)
  have h1 : Sp p n (spanL p n S) f := by rw [e]; exact sp_uniR _ _ _
  exact h1.trans (spanL_in hP hS)
theorem rankL_le {p : Int} (hP : isPrime p = true) {n : Nat} {S : List (List Int)} (hS : Wf p n S) : rankL p n S ≤ n := by
  have hrf := spanL_rf hP hS
  have := rf_le_n (isPrime_bd hP).1 hrf
  rw [hrf.len] at this
  exact this
end Go.Proofs.Ytbnefjhljfbecaa
