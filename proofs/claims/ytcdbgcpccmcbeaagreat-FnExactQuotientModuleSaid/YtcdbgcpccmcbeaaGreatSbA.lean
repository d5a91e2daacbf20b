/- Submodules in the reference: l10Moved, SubmoduleBy. SubmoduleBy of the reference. -/
import Derived.Test.YtcdbgcpccmcbeaaGreatMovA
import Derived.Test.YtcdbgcpccmcbeaaGreatModA
import Derived.Test.YtcdbgcpccmcbeaaGreatCloA
import Derived.Test.YtcdbgcpccmcbeaaGreatMul
import Derived.Test.YtcdbgcpccmcbeaaGreatSubSp
import Derived.Test.YtcdbgcpccmcbeaaGreatRegX
namespace Go.Proofs.YtcdbgcpccmcbeaaGreat
set_option maxRecDepth 100000
section
open Go.RowKit

set_option maxHeartbeats 4000000 in
theorem l10Moved_any (p n : Int) (d l c : Nat) (A : Option Addr) (v u : Value) (R : List (List Int)) (ms : List Mt) (w : World) (hv : MatsR w v ms) (hu : Ints w u (flat d R)) (hn : n = ms.length) {a : List Nat} (hRf : Rf p d R a) (hd : d ≤ 30) (hl : 0 < ms.length)
    (hM : ∀ i, i < ms.length → (mAt ms i).p = p ∧ (mAt ms i).r = d ∧ (mAt ms i).c = d ∧ (mAt ms i).d.length = d * d ∧ resid p (mAt ms i).d = true) (hP : isPrime p = true) :
    Calls Tryz.prog 49 #[.agg #[.int .i64 p, .int .i64 n, .slice A l c], v, .agg #[.int .i64 p, .int .i64 R.length, .int .i64 d, u]] w (RetMat w p (mvNext p d ms R).length d (flat d (mvNext p d ms R))) := by
  obtain ⟨b1, b2⟩ := isPrime_bd hP
  have h1 := (((((St.start w).arg hu).pushFact hv.fact).box [.int .i64 p, .int .i64 n, .slice A l c] 34).box [.int .i64 p, .int .i64 R.length, .int .i64 d, u] 37).box [.int .i64 0, .int .i64 0, .int .i64 0, .slice none 0 0] 37
  simp only [World.size_alloc] at h1
  obtain ⟨A1, k1, rfl, _, _, _⟩ := id hu
  obtain ⟨A2, k2, rfl, _, _, _⟩ := id hv
  have hRn := rf_le_n b1 hRf
  obtain ⟨D, hD⟩ : ∃ D, D = flat d R := ⟨_, rfl⟩
  obtain ⟨r, hr⟩ : ∃ r, r = R.length := ⟨_, rfl⟩
  rw [← hD, ← hr] at h1 ⊢
  have h2 := (h1.pushRo (h1.ro 4 rfl)).box [.int .i64 p, .int .i64 r, .int .i64 d, .slice A1 D.length k1] 37
  obtain ⟨x0, x1, x2, x3⟩ := h1.box4 1 rfl
  have HV := Lib.hid hv
  have HRf := Lib.hid hRf
  have HM := Lib.hid hM
  have Hn := Lib.hid hn
  have HD := Lib.hid hD
  have Hr := Lib.hid hr
  have HRn := Lib.hid hRn
  have hLD := length_flat d R
  rw [← hD, ← hr] at hLD
  have HLD := Lib.hid hLD
  have H0 : Hid (R.length = (mvTo p d ms R 0).length) := rfl
  clear hu hv hn hM hRf h1 hLD hD hr hRn
  go_enter Tryz.func49, Tryz.ntmps49
  go_wp2
  clear x0 x1 x2 x3
  simp only [World.size_alloc] at h2 ⊢
  generalize hBo : w.heap.size + 1 + 1 + 1 = Bo at h2 ⊢
  clear hBo
  go_loopw [8] (fun v8 wr => ∃ (i : Nat) (Ad : Option Addr) (nd cd : Nat), v8 = .int .i64 i ∧ i ≤ ms.length ∧ ∃ x : It, (x = .own (.slice Ad nd cd) (flat d (mvTo p d ms R i)) ∨ (i = 0 ∧ x = .ro (.slice Ad nd cd) (flat d (mvTo p d ms R i)))) ∧ St w wr [.box Bo [.int .i64 p, .int .i64 (mvTo p d ms R i).length, .int .i64 d, .slice Ad nd cd], x, .box (w.heap.size + 1 + 1) [.int .i64 0, .int .i64 0, .int .i64 0, .slice none 0 0], .box (w.heap.size + 1) [.int .i64 p, .int .i64 r, .int .i64 d, .slice A1 D.length k1], .box w.heap.size [.int .i64 p, .int .i64 n, .slice A l c], .fact (fun w' => MatsR w' (.slice A2 ms.length k2) ms), .ro (.slice A1 D.length k1) D]) (fun v8 _ => ms.length - (intOf v8).toNat)
  case atStart => exact ⟨0, A1, D.length, k1, rfl, by omega, _, .inr ⟨rfl, rfl⟩, by show St w _ [.box Bo [.int .i64 p, .int .i64 R.length, .int .i64 d, .slice A1 D.length k1], .ro _ (flat d R), _, _, _, _, _]; rw [← Hr.out, ← HD.out]; exact h2⟩
  case round =>
    clear h2
    obtain ⟨i, Ad, nd, cd, rfl, a1, x, hx, h2⟩ := hrel
    have hin : Ints wr (.slice Ad nd cd) (flat d (mvTo p d ms R i)) := (by
      rcases hx with rfl | ⟨_, rfl⟩
      · exact h2.ownInts 1 rfl
      · exact h2.roInts 1 rfl)
    obtain ⟨z0, z1, z2⟩ := h2.box3 4 rfl
    by_cases hi : i < ms.length
    · obtain ⟨b, off, A9, c9, hbA, hm⟩ := HV.out.at (i := i) hi
      rw [mAt_get hi] at hm
      obtain ⟨u1, u2, u3, u4, u5⟩ := HM.out i hi
      obtain ⟨b3, hb3⟩ := mvTo_rf hP ms HRf.out i
      have hMn := rf_le_n b1 hb3
      have hSW := Wf_mulR b1 d R (mAt ms i)
      have hSl := length_mulR p d R (mAt ms i)
      have hSf := flat_mulR p d R (mAt ms i)
      have hst : mvTo p d ms R (i + 1) = spanL p d (mvTo p d ms R i ++ mulR p d R (mAt ms i)) := rfl
      obtain ⟨E, hE⟩ : ∃ E, E = (mAt ms i).d := ⟨_, rfl⟩
      have hmf : MtAt w b (off + i * 4) ⟨p, d, d, E⟩ (.slice A9 E.length c9) := by unfold MtAt at hm ⊢; rw [u1, u2, u3, ← hE] at hm; exact hm
      rw [← hE] at u4 u5 hSf
      have h3 := h2.pushOld hmf.fact
      obtain ⟨S1, hS1⟩ : ∃ S1, S1 = mulR p d R (mAt ms i) := ⟨_, rfl⟩
      obtain ⟨M, hMM⟩ : ∃ M, M = mvTo p d ms R i := ⟨_, rfl⟩
      obtain ⟨M2, hM2⟩ : ∃ M2, M2 = mvTo p d ms R (i + 1) := ⟨_, rfl⟩
      rw [← hS1] at hSW hSl hSf hst
      rw [← hMM] at hst hb3 hMn hin h3
      rw [← hM2] at hst
      rw [← Hr.out] at hSl
      have HMul := Lib.hid (show ∀ (W : World), Ints W (.slice A1 D.length k1) D → Ints W (.slice A9 E.length c9) E → Calls Tryz.prog 87 #[.agg #[.int .i64 p, .int .i64 r, .int .i64 d, .slice A1 D.length k1], .agg #[.int .i64 p, .int .i64 d, .int .i64 d, .slice A9 E.length c9]] W (RetMat W p r d (flat d S1)) from fun W x1 x2 => by
        rw [hSf, ← Hr.out, ← HD.out]
        exact l1Mul_any p p d r d d _ _ D E W x1 x2 rfl HLD.out u4 (by have := Hr.out; have := HRn.out; omega) (by omega) (by omega) b1 b2 (by rw [HD.out]; exact resid_flat (by omega) HRf.out.wf) u5)
      have HJ := Lib.hid (show ∀ (W : World) (v1 v2 : Value), Ints W v1 (flat d M) → Ints W v2 (flat d S1) → Calls Tryz.prog 86 #[.agg #[.int .i64 p, .int .i64 M.length, .int .i64 d, v1], .agg #[.int .i64 p, .int .i64 r, .int .i64 d, v2]] W (RetMat W p M2.length d (flat d M2)) from fun W v1 v2 x1 x2 => by
        rw [hst, ← hSl]
        exact l1Join_any p p d d v1 v2 M S1 W x1 x2 hb3.wf hSW (by omega) (by have := Hr.out; have := HRn.out; omega) (by omega) hP)
      have HM2 := Lib.hid hM2
      have iN : (i : Int) < n := by rw [Hn.out]; omega
      have iM : (i : Int) < (ms.length : Int) := by omega
      clear hm hmf u1 u2 u3 u4 u5 hb3 hMn hSW hSl hSf hst hE hS1 hMM hM2 h2
      subst hbA
      go_upto_region 5 with fail
      clear z0 z1 z2
      have g0 := h3.drew
      have hin0 : Ints wr.drew (.slice Ad nd cd) (flat d M) := hin
      refine wp_region_cut (S := fun w' => (w'.cell? ⟨Bo, 0, none⟩ = some (.int .i64 p) ∧ w'.cell? ⟨Bo, 1, none⟩ = some (.int .i64 M.length) ∧ w'.cell? ⟨Bo, 2, none⟩ = some (.int .i64 d) ∧ w'.cell? ⟨Bo, 3, none⟩ = some (.slice Ad nd cd)) ∧ (w'.cell? ⟨w.heap.size + 1, 0, none⟩ = some (.int .i64 p) ∧ w'.cell? ⟨w.heap.size + 1, 1, none⟩ = some (.int .i64 r) ∧ w'.cell? ⟨w.heap.size + 1, 2, none⟩ = some (.int .i64 d) ∧ w'.cell? ⟨w.heap.size + 1, 3, none⟩ = some (.slice A1 D.length k1)) ∧ w'.cell? ⟨b, off + i * 4, none⟩ = some (.int .i64 p) ∧ w'.cell? ⟨b, off + i * 4 + 1, none⟩ = some (.int .i64 d) ∧ w'.cell? ⟨b, off + i * 4 + 2, none⟩ = some (.int .i64 d) ∧ w'.cell? ⟨b, off + i * 4 + 3, none⟩ = some (.slice A9 E.length c9)) 8 (by kernel_rfl) (by kernel_rfl) ⟨g0.box4 1 rfl, g0.box4 4 rfl, (g0.fact 0 rfl).1, (g0.fact 0 rfl).2.1, (g0.fact 0 rfl).2.2.1, (g0.fact 0 rfl).2.2.2.1⟩ (fun hHeld => ?_)
      simp only [List.take_succ_cons, List.take_zero]
      refine anyH_take (v := ?_) 0 rfl (by kernel_rfl) (by kernel_rfl) (by kernel_rfl) (fun _ _ _ h => h) rfl ?_ hHeld ?_
      rotate_left
      · intro w' hSw
        go_simp
        try with_reducible rfl
      try simp only [Act.put, List.setIfInBounds_toArray, List.set_cons_zero, List.set_cons_succ]
      refine anyH_take (v := ?_) 1 rfl (by kernel_rfl) (by kernel_rfl) (by kernel_rfl) (fun _ _ _ h => h) rfl ?_ hHeld ?_
      rotate_left
      · intro w' hSw
        go_simp
        try with_reducible rfl
      try simp only [Act.put, List.setIfInBounds_toArray, List.set_cons_zero, List.set_cons_succ]
      refine anyH_take (v := ?_) 2 rfl (by kernel_rfl) (by kernel_rfl) (by kernel_rfl) (fun _ _ _ h => h) rfl ?_ hHeld ?_
      rotate_left
      · intro w' hSw
        go_simp
        try with_reducible rfl
      try simp only [Act.put, List.setIfInBounds_toArray, List.set_cons_zero, List.set_cons_succ]
      refine anyH_take (v := ?_) 3 rfl (by kernel_rfl) (by kernel_rfl) (by kernel_rfl) (fun _ _ _ h => h) rfl ?_ hHeld ?_
      rotate_left
      · intro w' hSw
        go_simp
        try with_reducible rfl
      try simp only [Act.put, List.setIfInBounds_toArray, List.set_cons_zero, List.set_cons_succ]
      refine anyH_take (v := ?_) 4 rfl (by kernel_rfl) (by kernel_rfl) (by kernel_rfl) (fun _ _ _ h => h) rfl ?_ hHeld ?_
      rotate_left
      · intro w' hSw
        go_simp
        try with_reducible rfl
      try simp only [Act.put, List.setIfInBounds_toArray, List.set_cons_zero, List.set_cons_succ]
      refine anyH_take (v := ?_) 5 rfl (by kernel_rfl) (by kernel_rfl) (by kernel_rfl) (fun _ _ _ h => h) rfl ?_ hHeld ?_
      rotate_left
      · intro w' hSw
        go_simp
        try with_reducible rfl
      try simp only [Act.put, List.setIfInBounds_toArray, List.set_cons_zero, List.set_cons_succ]
      refine wpAnyH_ready (rs := [6]) (by kernel_rfl) (by simp) ?_
      refine ready_cons rfl (fun K hK => ?_) AllReadyH.nil
      go_simp
      refine (HMul.out _ (g0.roInts 7 rfl) (g0.fact 0 rfl).2.2.2.2).mono ?_
      rintro (e : Ending) w4 ⟨u4, rfl, ho4, hb4⟩
      obtain ⟨A6, n6, c6, rfl⟩ := ho4.slice
      have g1 := g0.pushOwn hb4 ho4
      have hin1 := hin0.below hb4
      show K _ _
      refine hK.out _ _ ?_ (fun hHeld => ?_)
      · exact ⟨g1.box4 2 rfl, g1.box4 5 rfl, (g1.fact 1 rfl).1, (g1.fact 1 rfl).2.1, (g1.fact 1 rfl).2.2.1, (g1.fact 1 rfl).2.2.2.1⟩
      clear hK K
      try simp only [Act.put, List.setIfInBounds_toArray, List.set_cons_zero, List.set_cons_succ]
      refine wpAnyH_ready (rs := [7]) (by kernel_rfl) (by simp) ?_
      refine ready_cons rfl (fun K hK => ?_) AllReadyH.nil
      go_simp
      refine (HJ.out _ _ _ hin1 (g1.ownInts 0 rfl)).mono ?_
      rintro (e : Ending) w5 ⟨u5, rfl, ho5, hb5⟩
      obtain ⟨A7, n7, c7, rfl⟩ := ho5.slice
      have g2 := g1.pushOwn hb5 ho5
      show K _ _
      refine hK.out _ _ ?_ (fun hHeld => ?_)
      · exact ⟨g2.box4 3 rfl, g2.box4 6 rfl, (g2.fact 2 rfl).1, (g2.fact 2 rfl).2.1, (g2.fact 2 rfl).2.2.1, (g2.fact 2 rfl).2.2.2.1⟩
      clear hK K
      try simp only [Act.put, List.setIfInBounds_toArray, List.set_cons_zero, List.set_cons_succ]
      refine wpAnyH_done (by kernel_rfl) ?_ _
      show wpList _ _ _ _ _ _
      simp only [List.drop_succ_cons, List.drop_zero]
      clear hHeld
      obtain ⟨p0, p1, p2, p3⟩ := g2.box4 3 rfl
      have f0 := g2.free 3 rfl 0
      have f1 := g2.free 3 rfl 1
      have f2 := g2.free 3 rfl 2
      have f3 := g2.free 3 rfl 3
      have h5 := (((g2.setBox 3 rfl 0 (.int .i64 p)).setBox 3 rfl 1 (.int .i64 M2.length)).setBox 3 rfl 2 (.int .i64 d)).setBox 3 rfl 3 (.slice A7 n7 c7)
      obtain ⟨r0, r1, r2, r3⟩ := h5.box4 3 rfl
      clear g0 g1 h3 hin hin0 hin1 hx
      go_wp2
      go_roundw
      case rel => exact ⟨i + 1, A7, n7, c7, by go_num, by omega, _, .inl rfl, by rw [← HM2.out]; exact (((h5.rid 4).rid 2).rid 1).toFront 1 rfl⟩
      case measure => simp [intOf]; omega
    · obtain rfl : i = ms.length := by omega
      have iN : ¬ ((ms.length : Int) < n) := by rw [Hn.out]; omega
      obtain rfl : x = .own (.slice Ad nd cd) (flat d (mvTo p d ms R ms.length)) := (by
        rcases hx with h0 | ⟨h0, _⟩
        · exact h0
        · omega)
      obtain ⟨M2, hM2⟩ : ∃ M2, M2 = mvTo p d ms R ms.length := ⟨_, rfl⟩
      have e1 : mvNext p d ms R = M2 := hM2.symm
      have HE := Lib.hid e1
      rw [← hM2] at h2
      clear e1 hM2 hin hx
      obtain ⟨v0, v1, v2, v3⟩ := h2.box4 0 rfl
      obtain ⟨p0, p1, p2, p3⟩ := h2.box4 2 rfl
      have f0 := h2.free 2 rfl 0
      have f1 := h2.free 2 rfl 1
      have f2 := h2.free 2 rfl 2
      have f3 := h2.free 2 rfl 3
      have h5 := (((h2.setBox 2 rfl 0 (.int .i64 p)).setBox 2 rfl 1 (.int .i64 M2.length)).setBox 2 rfl 2 (.int .i64 d)).setBox 2 rfl 3 (.slice Ad nd cd)
      obtain ⟨r0, r1, r2, r3⟩ := h5.box4 2 rfl
      go_wp2
      rw [HE.out]
      refine bodyPost_ret (v := .agg #[.int .i64 p, .int .i64 M2.length, .int .i64 d, .slice Ad nd cd]) (by simp [results, Tryz.results49, go_sem, r0, r1, r2, r3]) rfl ⟨_, rfl, h5.own 1 rfl, h5.below⟩
end
section
open Go.RowKit

/-- What SubmoduleBy returns. -/
def sbOk (p n : Int) (T : List Int) (ms : List Mt) (q r c : Int) (D : List Int) : Bool := isMod p n T ms && (matOk q r c D && (decide (q = p) && decide (c = (mAt ms 0).r)))
def sbL (p c : Int) (ms : List Mt) (r : Int) (D : List Int) : List (List Int) := growTo (mvNext p c.toNat ms) c.toNat (spanL p c.toNat (rowsM r.toNat c.toNat D))
def sbP (p n : Int) (T : List Int) (ms : List Mt) (q r c : Int) (D : List Int) : Int := if sbOk p n T ms q r c D then p else 0
def sbR (p n : Int) (T : List Int) (ms : List Mt) (q r c : Int) (D : List Int) : Int := if sbOk p n T ms q r c D then (sbL p c ms r D).length else 0
def sbC (p n : Int) (T : List Int) (ms : List Mt) (q r c : Int) (D : List Int) : Int := if sbOk p n T ms q r c D then c else 0
def sbD (p n : Int) (T : List Int) (ms : List Mt) (q r c : Int) (D : List Int) : List Int := if sbOk p n T ms q r c D then flat c.toNat (sbL p c ms r D) else []
theorem sbOk_spec {p n q r c : Int} {T D : List Int} {ms : List Mt} (h : sbOk p n T ms q r c D = true) : isMod p n T ms = true ∧ matOk q r c D = true ∧ q = p ∧ c = (mAt ms 0).r := by
  simp only [sbOk, Bool.and_eq_true, decide_eq_true_eq] at h
  exact h
theorem sbD_bd (p n : Int) (T : List Int) (ms : List Mt) (q r c : Int) (D : List Int) : (sbD p n T ms q r c D).length ≤ 900 := by
  unfold sbD
  split
  · rename_i h
    obtain ⟨h1, h2, e1, e2⟩ := sbOk_spec h
    subst e1
    obtain ⟨N, s, _, _, _, hs, hs30, _, _⟩ := isMod_all h1
    obtain ⟨a, b, ea, eb, _, _, _, hr, h3, _, hP⟩ := matOk_spec h2
    have ec : c = (s : Nat) := by rw [e2, hs]
    subst ec
    rw [length_flat, Int.toNat_natCast]
    obtain ⟨z, hz⟩ := (mv_grow hP ms).rfTo s (spanL_rf hP (Wf_rowsM (p := q) (by omega) (r := r.toNat) (c := s) hr))
    have hl : (sbL q s ms r D).length ≤ s := by
      rw [sbL, Int.toNat_natCast]
      exact rf_le_n h3 hz
    exact mul_le (Nat.le_trans hl hs30) hs30
  · simp

end
end Go.Proofs.YtcdbgcpccmcbeaaGreat
