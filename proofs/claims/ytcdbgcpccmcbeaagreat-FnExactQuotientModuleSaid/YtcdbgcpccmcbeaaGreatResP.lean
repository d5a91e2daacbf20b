/- RestrictTo and QuotientModule, as plain lists. -/
import Derived.Test.YtcdbgcpccmcbeaaGreatIsmS
import Derived.Test.YtcdbgcpccmcbeaaGreatCo
import Derived.Test.YtcdbgcpccmcbeaaGreatKer
import Derived.Test.YtcdbgcpccmcbeaaGreatLawM
namespace Go.Proofs.YtcdbgcpccmcbeaaGreat
set_option maxRecDepth 100000
open Go.RowKit

/-- What a submodule is. -/
theorem ism_spec {p n q r c : Int} {T D : List Int} {ms : List Mt} (h : ismOk p n T ms q r c D = true) : ∃ (N s : Nat) (R : List (List Int)) (piv : List Nat), n = N ∧ q = p ∧ r = R.length ∧ c = s ∧ D = flat s R ∧ Rf p s R piv ∧ R.length ≤ s ∧ s ≤ 30 ∧ N ≤ 28 ∧ isPrime p = true ∧ ms.length = N ∧ 0 < N ∧ rowsM r.toNat c.toNat D = R ∧ pivL p s R = piv ∧
    (∀ i, i < ms.length → (mAt ms i).p = p ∧ (mAt ms i).r = s ∧ (mAt ms i).c = s ∧ (mAt ms i).d.length = s * s ∧ resid p (mAt ms i).d = true) ∧ (∀ i, i < ms.length → ∀ j, j < R.length → Sp p s R (vec (rowOf (mulR p s R (mAt ms i)) j))) := by
  rw [ismOk, Bool.and_eq_true] at h
  obtain ⟨h1, h2⟩ := h
  obtain ⟨b1, b2, rfl, b4⟩ := spmOk_spec h1
  obtain ⟨N, s, rfl, hl, hN0, hs, hs30, hA, hM⟩ := isMod_all b1
  obtain ⟨N', e, hN, _⟩ := algOk_spec hA
  obtain ⟨d, R, a, rfl, rfl, hD, hrm, ha, hR40, hd40, hP⟩ := rowsM_ok b2
  have ed : d = s := by omega
  subst ed
  have hp := (isPrime_bd hP).1
  refine ⟨N, d, R, a, rfl, rfl, rfl, rfl, hD, ha, rf_le_n hp ha, hs30, by omega, hP, hl, hN0, hrm, (spanL_self hP ha).2, hM, fun i hi j hj => ?_⟩
  have h3 : smTo q d ms R a ms.length 0 = true := by rw [smTo_eq hP ms ha]; rw [smB, hrm, Int.toNat_natCast, Int.toNat_natCast] at h2; exact h2
  have h4 := (smTo_iff q d ms R a ms.length 0).1 h3 i (Nat.zero_le _) (by omega)
  have hW := Wf_mulR hp d R (mAt ms i)
  have h5 := (subB_iff hp ha (spanL_rf hP hW).wf).1 h4
  exact (spanL_out hP hW j (by rw [length_mulR]; exact hj)).trans h5

/-- One matrix of the module on the space. -/
def rsRows (p : Int) (n : Nat) (R : List (List Int)) (piv : List Nat) (m : Mt) : List (List Int) := (mulR p n R m).map (atPiv piv)
theorem length_rsRows (p : Int) (n : Nat) (R : List (List Int)) (piv : List Nat) (m : Mt) : (rsRows p n R piv m).length = R.length := by rw [rsRows, List.length_map, length_mulR]
theorem rsRows_take {p : Int} {n : Nat} {R : List (List Int)} {piv : List Nat} {m : Mt} {k : Nat} (h : k < R.length) : (rsRows p n R piv m).take (k + 1) = (rsRows p n R piv m).take k ++ [atPiv piv (rowOf (mulR p n R m) k)] := by
  have hk : k < (mulR p n R m).length := by rw [length_mulR]; exact h
  rw [List.take_succ_eq_append_getElem (by rw [length_rsRows]; exact h)]
  simp only [rsRows, List.getElem_map, rowOf_eq hk]
def rsMt (p : Int) (n : Nat) (R : List (List Int)) (piv : List Nat) (m : Mt) : Mt := ⟨p, R.length, R.length, (rsRows p n R piv m).flatten⟩
/-- One matrix of the module on the quotient. -/
def qmRow (p : Int) (n : Nat) (R : List (List Int)) (piv : List Nat) (m : Mt) (k : Nat) : List Int := atPiv (freeTo piv n) (redV p R piv (rowM n m.d (pv (freeTo piv n) k)))
def qmRows (p : Int) (n : Nat) (R : List (List Int)) (piv : List Nat) (m : Mt) : List (List Int) := (List.range (freeTo piv n).length).map (qmRow p n R piv m)
theorem length_qmRows (p : Int) (n : Nat) (R : List (List Int)) (piv : List Nat) (m : Mt) : (qmRows p n R piv m).length = (freeTo piv n).length := by simp [qmRows]
theorem qmRows_take {p : Int} {n : Nat} {R : List (List Int)} {piv : List Nat} {m : Mt} {k : Nat} (h : k < (freeTo piv n).length) : (qmRows p n R piv m).take (k + 1) = (qmRows p n R piv m).take k ++ [qmRow p n R piv m k] := by
  rw [List.take_succ_eq_append_getElem (by rw [length_qmRows]; exact h)]
  simp only [qmRows, List.getElem_map, List.getElem_range]
def qmMt (p : Int) (n : Nat) (R : List (List Int)) (piv : List Nat) (m : Mt) : Mt := ⟨p, (freeTo piv n).length, (freeTo piv n).length, (qmRows p n R piv m).flatten⟩
/-- The list of the first i matrices. -/
def mkTo (f : Mt → Mt) (ms : List Mt) (i : Nat) : List Mt := (ms.take i).map f
theorem mkTo_zero (f : Mt → Mt) (ms : List Mt) : mkTo f ms 0 = [] := by simp [mkTo]
theorem mkTo_succ {f : Mt → Mt} {ms : List Mt} {i : Nat} (h : i < ms.length) : mkTo f ms (i + 1) = mkTo f ms i ++ [f (mAt ms i)] := by
  rw [mkTo, List.take_succ_eq_append_getElem h, List.map_append, mAt_get h]; rfl
theorem length_mkTo {f : Mt → Mt} {ms : List Mt} {i : Nat} (h : i ≤ ms.length) : (mkTo f ms i).length = i := by rw [mkTo, List.length_map, List.length_take]; omega

theorem total_rows {c : Nat} : ∀ ll : List (List Int), (∀ l, l ∈ ll → l.length = c) → total ll = ll.length * c
  | [], _ => by simp [total]
  | l :: ll, h => by
    rw [total, h l (by simp), total_rows ll fun x hx => h x (by simp [hx]), List.length_cons, Nat.add_mul]; omega
theorem length_flatten_rows {c : Nat} : ∀ ll : List (List Int), (∀ l, l ∈ ll → l.length = c) → ll.flatten.length = ll.length * c
  | [], _ => by simp
  | l :: ll, h => by
    rw [List.flatten_cons, List.length_append, h l (by simp), length_flatten_rows ll fun x hx => h x (by simp [hx]), List.length_cons, Nat.add_mul]; omega
theorem rsRows_len {p : Int} {n : Nat} {R : List (List Int)} {piv : List Nat} {m : Mt} (h : R.length = piv.length) : ∀ l, l ∈ rsRows p n R piv m → l.length = R.length := fun l hl => by
  obtain ⟨x, _, rfl⟩ := List.mem_map.1 hl
  rw [length_atPiv, h]
theorem qmRows_len {p : Int} {n : Nat} {R : List (List Int)} {piv : List Nat} {m : Mt} : ∀ l, l ∈ qmRows p n R piv m → l.length = (freeTo piv n).length := fun l hl => by
  obtain ⟨x, _, rfl⟩ := List.mem_map.1 hl
  rw [qmRow, length_atPiv]
/-- The coordinates of a row in a space are its places at the pivots. -/
theorem rs_sol {p : Int} (hP : isPrime p = true) {n : Nat} {R : List (List Int)} {piv : List Nat} (hR : Rf p n R piv) {V : List Int} (hV : V.length = n) (rV : resid p V = true) (h : Sp p n R (vec V)) :
    solL p n R.length (tpD R.length n (flat n R)) V = atPiv piv V := by
  have hp := (isPrime_bd hP).1
  exact Cod.unique hR.ind (solL_cod hP hR.wf hV rV ((solB_iff hP hR.wf hV rV).2 h)) (hR.cod hp rV h)

/-- What RestrictTo and QuotientModule answer. -/
def rsMs (p n : Int) (T : List Int) (ms : List Mt) (q r c : Int) (D : List Int) : List Mt := if ismOk p n T ms q r c D then mkTo (rsMt p c.toNat (rowsM r.toNat c.toNat D) (pivL p c.toNat (rowsM r.toNat c.toNat D))) ms ms.length else []
def qmMs (p n : Int) (T : List Int) (ms : List Mt) (q r c : Int) (D : List Int) : List Mt := if ismOk p n T ms q r c D then mkTo (qmMt p c.toNat (rowsM r.toNat c.toNat D) (pivL p c.toNat (rowsM r.toNat c.toNat D))) ms ms.length else []
theorem dLen_le5 (ms : List Mt) (k : Nat) (h : ∀ m ∈ ms, m.d.length ≤ k) : dLen ms ≤ ms.length * k := by
  induction ms with
  | nil => simp [dLen]
  | cons m ms ih =>
    have h1 := ih fun x hx => h x (by simp [hx])
    have h2 := h m (by simp)
    rw [dLen, List.length_cons, Nat.add_mul]; omega
theorem mkTo_bd {f : Mt → Mt} {ms : List Mt} (hl : ms.length ≤ 28) (h : ∀ m, (f m).d.length ≤ 900) : markMsLen (mkTo f ms ms.length) ≤ 25284 := by
  have hd := dLen_le5 (mkTo f ms ms.length) 900 fun x hx => by
    obtain ⟨m, _, rfl⟩ := List.mem_map.1 hx
    exact h m
  unfold markMsLen
  rw [length_mkTo (Nat.le_refl _)] at hd ⊢
  have h2 : ms.length * 900 ≤ 28 * 900 := Nat.mul_le_mul hl (Nat.le_refl _)
  omega
theorem rsMs_bd (p n : Int) (T : List Int) (ms : List Mt) (q r c : Int) (D : List Int) : markMsLen (rsMs p n T ms q r c D) ≤ 25284 := by
  by_cases h : ismOk p n T ms q r c D = true
  · rw [rsMs, if_pos h]
    obtain ⟨N, s, R, piv, rfl, rfl, rfl, rfl, hD, hR, h1, h2, h3, hP, hl, hN0, hrm, hpv, -⟩ := ism_spec h
    refine mkTo_bd (by omega) fun m => ?_
    rw [hrm, Int.toNat_natCast, hpv]
    show (rsRows _ _ _ _ _).flatten.length ≤ _
    rw [length_flatten_rows _ (rsRows_len hR.len), length_rsRows]
    exact mul_le (show R.length ≤ 30 by omega) (show R.length ≤ 30 by omega)
  · rw [rsMs, if_neg h]; simp [markMsLen, dLen]
theorem qmMs_bd (p n : Int) (T : List Int) (ms : List Mt) (q r c : Int) (D : List Int) : markMsLen (qmMs p n T ms q r c D) ≤ 25284 := by
  by_cases h : ismOk p n T ms q r c D = true
  · rw [qmMs, if_pos h]
    obtain ⟨N, s, R, piv, rfl, rfl, rfl, rfl, hD, hR, h1, h2, h3, hP, hl, hN0, hrm, hpv, -⟩ := ism_spec h
    refine mkTo_bd (by omega) fun m => ?_
    rw [hrm, Int.toNat_natCast, hpv]
    have hf := length_freeTo piv s
    show (qmRows _ _ _ _ _).flatten.length ≤ _
    rw [length_flatten_rows _ qmRows_len, length_qmRows]
    exact mul_le (show (freeTo piv s).length ≤ 30 by omega) (show (freeTo piv s).length ≤ 30 by omega)
  · rw [qmMs, if_neg h]; simp [markMsLen, dLen]
end Go.Proofs.YtcdbgcpccmcbeaaGreat
