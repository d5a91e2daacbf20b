/- The table of a subalgebra, as plain lists. -/
import Derived.Test.YtcdbgcpccmcbeaaChgS
import Derived.Test.YtcdbgcpccmcbeaaIsa
namespace Go.Proofs.Ytcdbgcpccmcbeaa
set_option maxRecDepth 100000
open Go.RowKit

/-- prodL's rows by their places. -/
theorem getElem_prodL' (T : List Int) (n : Nat) (p : Int) (S : List Int) (rt : Nat) (U : List Int) {i j : Nat} (hj : j < rt) : ∀ rs, i < rs → (prodL T n p rs S rt U)[i * rt + j]? = some (braL T (rowM n S i) (rowM n U j) n p)
  | 0, h => absurd h (Nat.not_lt_zero _)
  | rs + 1, h => by
    have e : prodL T n p (rs + 1) S rt U = prodL T n p rs S rt U ++ (List.range rt).map fun b => braL T (rowM n S rs) (rowM n U b) n p := by
      rw [prodL, ← prodTo_row]; simp [prodL, prodTo]
    have hl : (prodL T n p rs S rt U).length = rs * rt := by rw [prodL, length_prodTo, Nat.add_zero]
    rw [e]
    by_cases hi : i < rs
    · have hb := Nat.mul_le_mul_right rt (show i + 1 ≤ rs by omega)
      rw [Nat.add_mul, Nat.one_mul] at hb
      rw [List.getElem?_append_left (by omega)]
      exact getElem_prodL' T n p S rt U hj rs hi
    · obtain rfl : i = rs := by omega
      rw [List.getElem?_append_right (by omega), hl, Nat.add_sub_cancel_left]
      simp [hj]
theorem rowOf_prodR {p : Int} {n : Nat} (T : List Int) {R : List (List Int)} (hR : Wf p n R) {i j : Nat} (hi : i < R.length) (hj : j < R.length) : rowOf (prodL T n p R.length (flat n R) R.length (flat n R)) (i * R.length + j) = braL T (rowOf R i) (rowOf R j) n p := by
  rw [rowOf, List.getD_eq_getElem?_getD, getElem_prodL' T n p (flat n R) R.length (flat n R) hj R.length hi, rowM_flat hi (hR i hi).1, rowM_flat hj (hR j hj).1]; rfl

def stF (p : Int) (n : Nat) (T : List Int) (R : List (List Int)) (piv : List Nat) (i j : Nat) : List Int := atPiv piv (braL T (rowOf R i) (rowOf R j) n p)
theorem st_both {p : Int} {n : Nat} {T : List Int} {R : List (List Int)} {piv : List Nat} (hA : algOk p n T = true) (hP : isPrime p = true) (hR : Rf p n R piv)
    (hcl : ∀ i j, i < R.length → j < R.length → Sp p n R (vec (braL T (rowOf R i) (rowOf R j) n p))) :
    tabOk p R.length n (flat n R) (prodL T n p R.length (flat n R) R.length (flat n R)) = true ∧ rowsT R.length (tabX p R.length n (flat n R) (prodL T n p R.length (flat n R) R.length (flat n R))) (R.length * R.length) = tbL p R.length (stF p n T R piv) := by
  have hp := (isPrime_bd hP).1
  have hW := hR.wf
  have hI := hR.ind
  have hB : ∀ a b, a < R.length → b < R.length → solB p n R.length (tpD R.length n (flat n R)) (braL T (rowOf R a) (rowOf R b) n p) = true := fun a b ha hb => (solB_iff hP hW (length_braL T (rowOf R a) (rowOf R b) n p) (resid_braL T _ _ n hp)).2 (hcl a b ha hb)
  have hC : ∀ a b, a < R.length → b < R.length → Cod p n R (braL T (rowOf R a) (rowOf R b) n p) (stF p n T R piv a b) := fun a b ha hb => hR.cod hp (resid_braL T _ _ n hp) (hcl a b ha hb)
  have hX : ∀ a b, a < R.length → b < R.length → tabX p R.length n (flat n R) (prodL T n p R.length (flat n R) R.length (flat n R)) a b = stF p n T R piv a b := fun a b ha hb => by
    rw [tabX, rowOf_prodR T hW ha hb]
    exact Cod.unique hI (solL_cod hP hW (length_braL _ _ _ _ _) (resid_braL _ _ _ _ hp) (hB a b ha hb)) (hC a b ha hb)
  refine ⟨tabOk_iff.2 fun q hq => ?_, rowsT_eq (fun a b ha hb => hX a b ha (by omega)) (fun a ha c hc => ?_) (fun a b hb hab c hc => ?_)⟩
  · have hn : 0 < R.length := by
      rcases Nat.eq_zero_or_pos R.length with h1 | h1
      · rw [h1] at hq; simp at hq
      · exact h1
    have h1 : q / R.length < R.length := by rw [Nat.div_lt_iff_lt_mul hn]; exact hq
    have h2 := Nat.mod_lt q hn
    have e := Nat.div_add_mod q R.length
    rw [Nat.mul_comm] at e
    rw [← e, rowOf_prodR T hW h1 h2]
    exact hB _ _ h1 h2
  · rw [hX a a ha ha]
    exact Cod.zero hp hI (hC a a ha ha) (fun c hc => braL_diag (anti_of hA) (diag_of hA) _ hc) c hc
  · rw [hX a b (by omega) hb, hX b a hb (by omega)]
    exact Cod.neg hp hI (hC a b (by omega) hb) (hC b a hb (by omega)) (fun c hc => neg_dvd (braL_neg (anti_of hA) _ _ hc)) c hc
/-- A subalgebra's brackets lie in it. -/
theorem isa_cl {p : Int} {n : Nat} {T : List Int} {R : List (List Int)} {piv : List Nat} (hP : isPrime p = true) (hR : Rf p n R piv) (h : subB p R piv (stepS false T n p R) = true) :
    ∀ i j, i < R.length → j < R.length → Sp p n R (vec (braL T (rowOf R i) (rowOf R j) n p)) := fun i j hi hj => by
  have hp := (isPrime_bd hP).1
  have hst : stepS false T n p R = spanL p n (brR T n p R R) := by simp [stepS]
  rw [hst] at h
  have hwb := Wf_brR (T := T) (n := n) hp R R
  have hall := (subB_iff hp hR (spanL_rf hP hwb).wf).1 h
  have h1 := sp_mem (p := p) (n := n) (brR_mem (T := T) hR.wf hR.wf hi hj)
  exact (h1.trans (spanL_out hP hwb)).trans hall
theorem isa_spec {p n q r c : Int} {T D : List Int} (h : isaOk false p n T q r c D = true) : ∃ (m : Nat) (R : List (List Int)) (piv : List Nat), n = m ∧ c = m ∧ q = p ∧ r = R.length ∧ D = flat m R ∧ Rf p m R piv ∧ algOk p m T = true ∧ m ≤ 28 ∧ R.length ≤ m ∧ isPrime p = true ∧ T.length = m * m * m ∧ resid p T = true ∧ (∀ i j, i < R.length → j < R.length → Sp p m R (vec (braL T (rowOf R i) (rowOf R j) m p))) := by
  rw [isaOk, Bool.and_eq_true] at h
  obtain ⟨b1, b2⟩ := h
  obtain ⟨c1, c2, e1, e2⟩ := subOk_spec b1
  subst q
  obtain ⟨m, rfl, k1, kT, k3', k4, k5, k6⟩ := algOk_spec c1
  subst c
  obtain ⟨d, R, a, ed, rfl, hD, ha, hR40, hd40, hP⟩ := spaceOk_rf c2
  have ed' : m = d := by omega
  subst ed'
  have hpv := (spanL_self k6 ha).2
  have hrm : rowsM ((R.length : Int)).toNat ((m : Int)).toNat D = R := by rw [Int.toNat_natCast, Int.toNat_natCast, hD]; exact rowsM_flat ha.wf
  rw [hrm, saB, Int.toNat_natCast, hpv] at b2
  exact ⟨m, R, a, rfl, rfl, rfl, rfl, hD, ha, c1, k1, rf_le_n k4 ha, k6, kT, k3', isa_cl k6 ha b2⟩

/-- What SubTable answers. -/
def stP (p n : Int) (T : List Int) (q r c : Int) (D : List Int) : Int := if isaOk false p n T q r c D then p else 0
def stN (p n : Int) (T : List Int) (q r c : Int) (D : List Int) : Int := if isaOk false p n T q r c D then r else 0
def stT (p n : Int) (T : List Int) (q r c : Int) (D : List Int) : List Int := if isaOk false p n T q r c D then rowsT r.toNat (tabX p r.toNat n.toNat D (prodL T n.toNat p r.toNat D r.toNat D)) (r.toNat * r.toNat) else []
theorem stT_bd (p n : Int) (T : List Int) (q r c : Int) (D : List Int) : (stT p n T q r c D).length ≤ 21952 := by
  unfold stT
  by_cases h : isaOk false p n T q r c D = true
  · rw [if_pos h]
    obtain ⟨m, R, piv, rfl, rfl, rfl, rfl, rfl, h1, h2, h3, h4, -⟩ := isa_spec h
    rw [Int.toNat_natCast, length_rowsT]
    have := mul_le (mul_le (show R.length ≤ 28 by omega) (show R.length ≤ 28 by omega)) (show R.length ≤ 28 by omega)
    omega
  · rw [if_neg h]; simp
end Go.Proofs.Ytcdbgcpccmcbeaa
