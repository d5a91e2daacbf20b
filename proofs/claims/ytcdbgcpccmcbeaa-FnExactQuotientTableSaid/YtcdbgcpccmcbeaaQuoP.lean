/- The table of a quotient, as plain lists. -/
import Derived.Test.YtcdbgcpccmcbeaaStP
namespace Go.Proofs.Ytcdbgcpccmcbeaa
set_option maxRecDepth 100000
open Go.RowKit

theorem pv_free {piv : List Nat} {n i : Nat} (h : i < (freeTo piv n).length) : pv (freeTo piv n) i < n := (mem_freeTo.1 (pv_mem h)).1

theorem redV_anti {p : Int} (hp : 2 ≤ p) {n : Nat} {S : List (List Int)} {piv : List Nat} (h : Rf p n S piv) {V W : List Int} (hV : V.length = n) (rV : resid p V = true) (hW : W.length = n) (rW : resid p W = true)
    (hs : ∀ c, c < n → ∃ u, vec V c + vec W c = p * u) : ∀ c, c < n → vec (redV p S piv V) c = (-(vec (redV p S piv W) c)) % p := fun c hc => by
  obtain ⟨l1, r1, s1, z1⟩ := redV_ok hp h hV rV
  obtain ⟨l2, r2, s2, z2⟩ := redV_ok hp h hW rW
  have s3 : Sp p n S (fun c => vec (redV p S piv V) c + 1 * vec (redV p S piv W) c) := (Sp.comb 1 s1 s2).congr fun c hc => by
    obtain ⟨u, hu⟩ := hs c hc
    exact ⟨-u, by grind⟩
  obtain ⟨u, hu⟩ := h.nil s3 (fun j hj => ⟨0, by rw [z1 j hj, z2 j hj]; omega⟩) c hc
  have h1 := resid_vec r1 (i := c) (by rw [l1]; exact hc)
  have h2 := resid_vec r2 (i := c) (by rw [l2]; exact hc)
  have e := neg_of_sum (a := vec (redV p S piv V) c) (b := vec (redV p S piv W) c) (p := p) (u := u) (by omega)
  rwa [Int.emod_eq_of_lt h1.1 h1.2, Int.emod_eq_of_lt h2.1 h2.2] at e
theorem redV_nil {p : Int} (hp : 2 ≤ p) {n : Nat} {S : List (List Int)} {piv : List Nat} (h : Rf p n S piv) {V : List Int} (hV : V.length = n) (rV : resid p V = true) (h0 : ∀ c, c < n → vec V c = 0) : ∀ c, c < n → vec (redV p S piv V) c = 0 := fun c hc => by
  have hz := (redV_zero hp h hV rV).2 (Sp.zero.eqOn fun c hc => h0 c hc)
  exact zeroL_iff.1 hz c (by rw [(redV_ok hp h hV rV).1]; exact hc)

/-- The entries of a quotient's table. -/
def qtF (p : Int) (n : Nat) (T : List Int) (R : List (List Int)) (piv : List Nat) (i j : Nat) : List Int := atPiv (freeTo piv n) (redV p R piv (rowT T n (pv (freeTo piv n) i) (pv (freeTo piv n) j)))
theorem qt_both {p : Int} {n : Nat} {T : List Int} {R : List (List Int)} {piv : List Nat} (hA : algOk p n T = true) (hP : isPrime p = true) (rT : resid p T = true) (hR : Rf p n R piv) :
    rowsT (freeTo piv n).length (qtF p n T R piv) ((freeTo piv n).length * (freeTo piv n).length) = tbL p (freeTo piv n).length (qtF p n T R piv) := by
  have hp := (isPrime_bd hP).1
  have hl : ∀ i j, (rowT T n i j).length = n := fun i j => length_tab _ _
  have hr : ∀ i j, resid p (rowT T n i j) = true := fun i j => resid_rowT rT (by omega) _ _ _
  refine rowsT_eq (fun a b _ _ => rfl) (fun a ha c hc => ?_) (fun a b hb hab c hc => ?_)
  · rw [qtF, vec_atPiv hc]
    exact redV_nil hp hR (hl _ _) (hr _ _) (fun c hc => by rw [rowT, vec_tab hc]; exact diag_of hA _ c (pv_free ha) hc) _ (pv_free hc)
  · rw [qtF, vec_atPiv hc, qtF, vec_atPiv hc]
    exact redV_anti hp hR (hl _ _) (hr _ _) (hl _ _) (hr _ _) (fun c hc => by rw [rowT, vec_tab hc, rowT, vec_tab hc]; exact anti_of hA _ _ c (pv_free (by omega)) (pv_free hb) hc) _ (pv_free hc)

/-- What a space that passes is. -/
theorem isa_spec2 {k : Bool} {p n q r c : Int} {T D : List Int} (h : isaOk k p n T q r c D = true) : ∃ (m : Nat) (R : List (List Int)) (piv : List Nat), n = m ∧ c = m ∧ q = p ∧ r = R.length ∧ D = flat m R ∧ Rf p m R piv ∧ algOk p m T = true ∧ m ≤ 28 ∧ R.length ≤ m ∧ isPrime p = true ∧ T.length = m * m * m ∧ resid p T = true ∧ (spanL p m R) = R ∧ pivL p m R = piv := by
  rw [isaOk, Bool.and_eq_true] at h
  obtain ⟨b1, b2⟩ := h
  obtain ⟨c1, c2, e1, e2⟩ := subOk_spec b1
  subst q
  obtain ⟨m, rfl, k1, kT, k3', k4, k5, k6⟩ := algOk_spec c1
  subst c
  obtain ⟨d, R, a, ed, rfl, hD, ha, hR40, hd40, hP⟩ := spaceOk_rf c2
  have ed' : m = d := by omega
  subst ed'
  exact ⟨m, R, a, rfl, rfl, rfl, rfl, hD, ha, c1, k1, rf_le_n k4 ha, k6, kT, k3', spanL_self k6 ha⟩

/-- What QuotientTable answers. -/
def qtPiv (p n : Int) (r : Int) (D : List Int) : List Nat := pivL p n.toNat (rowsM r.toNat n.toNat D)
def qtP (p n : Int) (T : List Int) (q r c : Int) (D : List Int) : Int := if isaOk true p n T q r c D then p else 0
def qtN (p n : Int) (T : List Int) (q r c : Int) (D : List Int) : Int := if isaOk true p n T q r c D then (freeTo (qtPiv p n r D) n.toNat).length else 0
def qtT (p n : Int) (T : List Int) (q r c : Int) (D : List Int) : List Int := if isaOk true p n T q r c D then tbL p (freeTo (qtPiv p n r D) n.toNat).length (qtF p n.toNat T (rowsM r.toNat n.toNat D) (qtPiv p n r D)) else []
theorem qt_piv {p : Int} {m : Nat} {R : List (List Int)} {piv : List Nat} (hR : Rf p m R piv) (h : pivL p m R = piv) : qtPiv p m R.length (flat m R) = piv ∧ rowsM ((R.length : Int)).toNat ((m : Int)).toNat (flat m R) = R := by
  have e : rowsM ((R.length : Int)).toNat ((m : Int)).toNat (flat m R) = R := by rw [Int.toNat_natCast, Int.toNat_natCast]; exact rowsM_flat hR.wf
  exact ⟨by rw [qtPiv, e, Int.toNat_natCast, h], e⟩
theorem qtT_bd (p n : Int) (T : List Int) (q r c : Int) (D : List Int) : (qtT p n T q r c D).length ≤ 21952 := by
  unfold qtT
  by_cases h : isaOk true p n T q r c D = true
  · rw [if_pos h]
    obtain ⟨m, R, piv, rfl, rfl, rfl, rfl, rfl, h1, h2, h3, h4, -⟩ := isa_spec2 h
    rw [length_tbL, Int.toNat_natCast]
    have hl := length_freeTo (qtPiv q m R.length (flat m R)) m
    have := mul_le (mul_le (show (freeTo (qtPiv q m R.length (flat m R)) m).length ≤ 28 by omega) (show (freeTo (qtPiv q m R.length (flat m R)) m).length ≤ 28 by omega)) (show (freeTo (qtPiv q m R.length (flat m R)) m).length ≤ 28 by omega)
    omega
  · rw [if_neg h]; simp
end Go.Proofs.Ytcdbgcpccmcbeaa
