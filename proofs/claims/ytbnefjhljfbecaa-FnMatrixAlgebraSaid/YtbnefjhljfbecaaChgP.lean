/- Tables in another basis, as plain lists. -/
import Derived.Test.YtbnefjhljfbecaaChgS
import Derived.Test.YtbnefjhljfbecaaRank
namespace Go.Proofs.Ytbnefjhljfbecaa
set_option maxRecDepth 100000
open Go.RowKit

theorem getElem_prodL (T : List Int) (n : Nat) (p : Int) (S : List Int) (rt : Nat) (U : List Int) {i j : Nat} (hj : j < rt) : ∀ rs, i < rs → (prodL T n p rs S rt U)[i * rt + j]? = some (braL T (rowM n S i) (rowM n U j) n p)
  | 0, h => absurd h (Nat.not_lt_zero _)
  | rs + 1, h => by
    have e : prodL T n p (rs + 1) S rt U = prodL T n p rs S rt U ++ (List.range rt).map fun b => braL T (rowM n S rs) (rowM n U b) n p := by
      rw [prodL, ← prodTo_row]; simp [prodL, prodTo]
    have hl : (prodL T n p rs S rt U).length = rs * rt := by rw [prodL, length_prodTo, Nat.add_zero]
    rw [e]
    by_cases hi : i < rs
    · have hb := Nat.mul_le_mul_right rt (show i + 1 ≤ rs by omega)
      rw [Nat.add_mul, Nat.one_mul] at hb
      rw [List.getElem?_append_left (by omega)]
      exact getElem_prodL T n p S rt U hj rs hi
    · obtain rfl : i = rs := by omega
      rw [List.getElem?_append_right (by omega), hl, Nat.add_sub_cancel_left]
      simp [hj]
theorem rowOf_prodL (T : List Int) (n : Nat) (p : Int) (S : List Int) (rt : Nat) (U : List Int) {i j rs : Nat} (hi : i < rs) (hj : j < rt) : rowOf (prodL T n p rs S rt U) (i * rt + j) = braL T (rowM n S i) (rowM n U j) n p := by
  rw [rowOf, List.getD_eq_getElem?_getD, getElem_prodL T n p S rt U hj rs hi]; rfl

/-- A new basis' table: solved row by row; and by the half below the diagonal. -/
def cbL (p : Int) (n : Nat) (T D : List Int) : List Int := rowsT n (tabX p n n D (prodL T n p n D n D)) (n * n)
def cbF (p : Int) (n : Nat) (T : List Int) (S : List (List Int)) (i j : Nat) : List Int := cooL p n S (braL T (rowOf S i) (rowOf S j) n p)
theorem cb_both {p : Int} {n : Nat} {T D : List Int} (hA : algOk p n T = true) (hP : isPrime p = true) (hD : D.length = n * n) (rD : resid p D = true) (hr : rankL p n (rowsM n n D) = n) :
    tabOk p n n D (prodL T n p n D n D) = true ∧ cbL p n T D = tbL p n (cbF p n T (rowsM n n D)) := by
  have hp := (isPrime_bd hP).1
  have hS : Wf p n (rowsM n n D) := Wf_rowsM (by omega) rD
  have hl := length_rowsM n n D
  have hfl := flat_rowsM hD
  obtain ⟨S, hSd⟩ : ∃ S, S = rowsM n n D := ⟨_, rfl⟩
  have hrow : ∀ a, a < n → rowM n D a = rowOf S a := fun a ha => by rw [hSd, rowOf_rowsM ha]
  rw [← hSd] at hr hS hl hfl ⊢
  have hI : Ind p n S := ind_of_rank hP hS (by rw [hl]; exact hr)
  have hsp := fun V => sp_all hP hS hr V
  have hQ : ∀ a b, a < n → b < n → rowOf (prodL T n p n D n D) (a * n + b) = braL T (rowOf S a) (rowOf S b) n p := fun a b ha hb => by rw [rowOf_prodL T n p D n D ha hb, hrow a ha, hrow b hb]
  have hB : ∀ a b, a < n → b < n → solB p n n (tpD n n D) (braL T (rowOf S a) (rowOf S b) n p) = true := fun a b ha hb => by
    have := (solB_iff hP hS (length_braL T (rowOf S a) (rowOf S b) n p) (resid_braL T _ _ n hp)).2 (hsp _)
    rwa [hl, hfl] at this
  have hX : ∀ a b, a < n → b < n → tabX p n n D (prodL T n p n D n D) a b = cbF p n T S a b := fun a b ha hb => by
    have c1 := solL_cod hP hS (length_braL T (rowOf S a) (rowOf S b) n p) (resid_braL T _ _ n hp) (by rw [hl, hfl]; exact hB a b ha hb)
    rw [hl, hfl] at c1
    rw [tabX, hQ a b ha hb]
    exact Cod.unique hI c1 (cooL_cod hP hS (length_braL _ _ _ _ _) (resid_braL _ _ _ _ hp) (hsp _))
  have hC : ∀ a b, Cod p n S (braL T (rowOf S a) (rowOf S b) n p) (cbF p n T S a b) := fun a b => cooL_cod hP hS (length_braL _ _ _ _ _) (resid_braL _ _ _ _ hp) (hsp _)
  refine ⟨tabOk_iff.2 fun q hq => ?_, rowsT_eq (fun a b ha hb => hX a b ha (by omega)) (fun a ha c hc => ?_) (fun a b hb hab c hc => ?_)⟩
  · have hn : 0 < n := by
      rcases Nat.eq_zero_or_pos n with rfl | h1
      · simp at hq
      · exact h1
    have h1 : q / n < n := by rw [Nat.div_lt_iff_lt_mul hn]; exact hq
    have h2 := Nat.mod_lt q hn
    have e := Nat.div_add_mod q n
    rw [Nat.mul_comm] at e
    rw [← e, hQ _ _ h1 h2]
    exact hB _ _ h1 h2
  · rw [hX a a ha ha]
    exact Cod.zero hp hI (hC a a) (fun c hc => braL_diag (anti_of hA) (diag_of hA) _ hc) c (by rw [hl]; exact hc)
  · rw [hX a b (by omega) hb, hX b a hb (by omega)]
    exact Cod.neg hp hI (hC a b) (hC b a) (fun c hc => neg_dvd (braL_neg (anti_of hA) _ _ hc)) c (by rw [hl]; exact hc)

/-- What ChangeBasis answers. -/
def cbOk (p n : Int) (T : List Int) (q r c : Int) (D : List Int) : Bool := algOk p n T && matOk q r c D && decide (q = p) && decide (r = n) && decide (c = n) && decide (rankL p n.toNat (rowsM n.toNat n.toNat D) = n.toNat)
def cbP (p n : Int) (T : List Int) (q r c : Int) (D : List Int) : Int := if cbOk p n T q r c D then p else 0
def cbN (p n : Int) (T : List Int) (q r c : Int) (D : List Int) : Int := if cbOk p n T q r c D then n else 0
def cbT (p n : Int) (T : List Int) (q r c : Int) (D : List Int) : List Int := if cbOk p n T q r c D then cbL p n.toNat T D else []
theorem cbT_bd (p n : Int) (T : List Int) (q r c : Int) (D : List Int) : (cbT p n T q r c D).length ≤ 21952 := by
  unfold cbT
  by_cases h : cbOk p n T q r c D = true
  · rw [if_pos h]
    simp only [cbOk, Bool.and_eq_true, decide_eq_true_eq] at h
    obtain ⟨m, rfl, h1, _⟩ := algOk_spec h.1.1.1.1.1
    rw [Int.toNat_natCast, cbL, length_rowsT]
    have := mul_le (mul_le h1 h1) h1
    omega
  · rw [if_neg h]; simp
end Go.Proofs.Ytbnefjhljfbecaa
