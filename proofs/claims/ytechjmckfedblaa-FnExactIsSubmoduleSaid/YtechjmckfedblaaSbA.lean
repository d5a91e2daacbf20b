/- Submodules in the reference: l10Moved, SubmoduleBy. SubmoduleBy of the reference. -/
import Derived.Test.YtechjmckfedblaaMovA
import Derived.Test.YtechjmckfedblaaModA
import Derived.Test.YtechjmckfedblaaCloA
import Derived.Test.YtechjmckfedblaaMul
import Derived.Test.YtechjmckfedblaaSubSp
import Derived.Test.YtechjmckfedblaaRegX
namespace Go.Proofs.Ytechjmckfedblaa
set_option maxRecDepth 100000
section
open Go.RowKit

set_option maxHeartbeats 4000000 in
theorem l10Moved_any (p n : Int) (d l c : Nat) (A : Option Addr) (v u : Value) (R : List (List Int)) (ms : List Mt) (w : World) (hv : MatsR w v ms) (hu : Ints w u (flat d R)) (hn : n = ms.length) {a : List Nat} (hRf : Rf p d R a) (hd : d ≤ 30) (hl : 0 < ms.length)
    (hM : ∀ i, i < ms.length → (mAt ms i).p = p ∧ (mAt ms i).r = d ∧ (mAt ms i).c = d ∧ (mAt ms i).d.length = d * d ∧ resid p (mAt ms i).d = true) (hP : isPrime p = true) :
    Calls Try.prog 97 #[.agg #[.int .i64 p, .int .i64 n, .slice A l c], v, .agg #[.int .i64 p, .int .i64 R.length, .int .i64 d, u]] w (RetMat w p (mvNext p d ms R).length d (flat d (mvNext p d ms R))) := by
  obtain ⟨b1, b2⟩ := isPrime_bd hP
  have h1 := (((((St.start w).arg hu).pushFact hv.fact).box [.int .i64 p, .int .i64 n, .slice A l c] 30).box [.int .i64 p, .int .i64 R.length, .int .i64 d, u] 32).box [.int .i64 0, .int .i64 0, .int .i64 0, .slice none 0 0] 32
  simp only [World.size_alloc] at h1
  obtain ⟨A1, k1, rfl, _, _, _⟩ := id hu
  obtain ⟨A2, k2, rfl, _, _, _⟩ := id hv
  have hRn := rf_le_n b1 hRf
  obtain ⟨D, hD⟩ : ∃ D, D = flat d R := ⟨_, rfl⟩
  obtain ⟨r, hr⟩ : ∃ r, r = R.length := ⟨_, rfl⟩
  rw [← hD, ← hr] at h1 ⊢
  have h2 := (h1.pushRo (h1.ro 4 rfl)).box [.int .i64 p, .int .i64 r, .int .i64 d, .slice A1 D.length k1] 32
  obtain ⟨x0, x1, x2, x3⟩ := h1.box4 1 rfl
  have HV := Lib.hid hv
  have HRf := Lib.hid hRf
  have HM := Lib.hid hM
  have Hn := Lib.hid hn
  have HD := Lib.hid hD
  have Hr := Lib.hid hr
  have HRn := Lib.hid hRn
  have hLD := length_flat d R
  rw [← hD, ← hr] at hLD
  have HLD := Lib.hid hLD
  have H0 : Hid (R.length = (mvTo p d ms R 0).length) := rfl
  clear hu hv hn hM hRf h1 hLD hD hr hRn
  go_enter Try.func97, Try.ntmps97
  go_wp2
  clear x0 x1 x2 x3
  simp only [World.size_alloc] at h2 ⊢
  generalize hBo : w.heap.size + 1 + 1 + 1 = Bo at h2 ⊢
  clear hBo
  go_loopw [8] (fun v8 wr => ∃ (i : Nat) (Ad : Option Addr) (nd cd : Nat), v8 = .int .i64 i ∧ i ≤ ms.length ∧ ∃ x : It, (x = .own (.slice Ad nd cd) (flat d (mvTo p d ms R i)) ∨ (i = 0 ∧ x = .ro (.slice Ad nd cd) (flat d (mvTo p d ms R i)))) ∧ St w wr [.box Bo [.int .i64 p, .int .i64 (mvTo p d ms R i).length, .int .i64 d, .slice Ad nd cd], x, .box (w.heap.size + 1 + 1) [.int .i64 0, .int .i64 0, .int .i64 0, .slice none 0 0], .box (w.heap.size + 1) [.int .i64 p, .int .i64 r, .int .i64 d, .slice A1 D.length k1], .box w.heap.size [.int .i64 p, .int .i64 n, .slice A l c], .fact (fun w' => MatsR w' (.slice A2 ms.length k2) ms), .ro (.slice A1 D.length k1) D]) (fun v8 _ => ms.length - (intOf v8).toNat)
  case atStart => exact ⟨0, A1, D.length, k1, rfl, by omega, _, .inr ⟨rfl, rfl⟩, by show St w _ [.box Bo [.int .i64 p, .int .i64 R.length, .int .i64 d, .slice A1 D.length k1], .ro _ (flat d R), _, _, _, _, _]; rw [← Hr.out, ← HD.out]; exact h2⟩
  case round =>
    clear h2
    obtain ⟨i, Ad, nd, cd, rfl, a1, x, hx, h2⟩ := hrel
    have hin : Ints wr (.slice Ad nd cd) (flat d (mvTo p d ms R i)) := (by
      rcases hx with rfl | ⟨_, rfl⟩
      · exact h2.ownInts 1 rfl
      · exact h2.roInts 1 rfl)
    obtain ⟨z0, z1, z2⟩ := h2.box3 4 rfl
    by_cases hi : i < ms.length
    · obtain ⟨b, off, A9, c9, hbA, hm⟩ := HV.out.at (i := i) hi
      rw [mAt_get hi] at hm
      obtain ⟨u1, u2, u3, u4, u5⟩ := HM.out i hi
      obtain ⟨b3, hb3⟩ := mvTo_rf hP ms HRf.out i
      have hMn := rf_le_n b1 hb3
      have hSW := Wf_mulR b1 d R (mAt ms i)
      have hSl := length_mulR p d R (mAt ms i)
      have hSf := flat_mulR p d R (mAt ms i)
      have hst : mvTo p d ms R (i + 1) = spanL p d (mvTo p d ms R i ++ mulR p d R (mAt ms i)) := rfl
      obtain ⟨E, hE⟩ : ∃ E, E = (mAt ms i).d := ⟨_, rfl⟩
      have hmf : MtAt w b (off + i * 4) ⟨p, d, d, E⟩ (.slice A9 E.length c9) := by unfold MtAt at hm ⊢; rw [u1, u2, u3, ← hE] at hm; exact hm
      rw [← hE] at u4 u5 hSf
      have h3 := h2.pushOld hmf.fact
      obtain ⟨S1, hS1⟩ : ∃ S1, S1 = mulR p d R (mAt ms i) := ⟨_, rfl⟩
      obtain ⟨M, hMM⟩ : ∃ M, M = mvTo p d ms R i := ⟨_, rfl⟩
      obtain ⟨M2, hM2⟩ : ∃ M2, M2 = mvTo p d ms R (i + 1) := ⟨_, rfl⟩
      rw [← hS1] at hSW hSl hSf hst
      rw [← hMM] at hst hb3 hMn hin h3
      rw [← hM2] at hst
      rw [← Hr.out] at hSl
      have HMul := Lib.hid (show ∀ (W : World), Ints W (.slice A1 D.length k1) D → Ints W (.slice A9 E.length c9) E → Calls Try.prog 149 #[.agg #[.int .i64 p, .int .i64 r, .int .i64 d, .slice A1 D.length k1], .agg #[.int .i64 p, .int .i64 d, .int .i64 d, .slice A9 E.length c9]] W (RetMat W p r d (flat d S1)) from fun W x1 x2 => by
        rw [hSf, ← Hr.out, ← HD.out]
        exact l1Mul_any p p d r d d _ _ D E W x1 x2 rfl HLD.out u4 (by have := Hr.out; have := HRn.out; omega) (by omega) (by omega) b1 b2 (by rw [HD.out]; exact resid_flat (by omega) HRf.out.wf) u5)
      have HJ := Lib.hid (show ∀ (W : World) (v1 v2 : Value), Ints W v1 (flat d M) → Ints W v2 (flat d S1) → Calls Try.prog 136 #[.agg #[.int .i64 p, .int .i64 M.length, .int .i64 d, v1], .agg #[.int .i64 p, .int .i64 r, .int .i64 d, v2]] W (RetMat W p M2.length d (flat d M2)) from fun W v1 v2 x1 x2 => by
        rw [hst, ← hSl]
        exact l1Join_any p p d d v1 v2 M S1 W x1 x2 hb3.wf hSW (by omega) (by have := Hr.out; have := HRn.out; omega) (by omega) hP)
      have HM2 := Lib.hid hM2
      have iN : (i : Int) < n := by rw [Hn.out]; omega
      have iM : (i : Int) < (ms.length : Int) := by omega
      clear hm hmf u1 u2 u3 u4 u5 hb3 hMn hSW hSl hSf hst hE hS1 hMM hM2 h2
      subst hbA
      go_upto_region 5 with fail
      clear z0 z1 z2
      have g0 := h3.drew
      have hin0 : Ints wr.drew (.slice Ad nd cd) (flat d M) := hin
      refine wp_region_cut (S := fun w' => (w'.cell? ⟨Bo, 0, none⟩ = some (.int .i64 p) ∧ w'.cell? ⟨Bo, 1, none⟩ = some (.int .i64 M.length) ∧ w'.cell? ⟨Bo, 2, none⟩ = some (.int .i64 d) ∧ w'.cell? ⟨Bo, 3, none⟩ = some (.slice Ad nd cd)) ∧ (w'.cell? ⟨w.heap.size + 1, 0, none⟩ = some (.int .i64 p) ∧ w'.cell? ⟨w.heap.size + 1, 1, none⟩ = some (.int .i64 r) ∧ w'.cell? ⟨w.heap.size + 1, 2, none⟩ = some (.int .i64 d) ∧ w'.cell? ⟨w.heap.size + 1, 3, none⟩ = some (.slice A1 D.length k1)) ∧ w'.cell? ⟨b, off + i * 4, none⟩ = some (.int .i64 p) ∧ w'.cell? ⟨b, off + i * 4 + 1, none⟩ = some (.int .i64 d) ∧ w'.cell? ⟨b, off + i * 4 + 2, none⟩ = some (.int .i64 d) ∧ w'.cell? ⟨b, off + i * 4 + 3, none⟩ = some (.slice A9 E.length c9)) 8 (by kernel_rfl) (by kernel_rfl) ⟨g0.box4 1 rfl, g0.box4 4 rfl, (g0.fact 0 rfl).1, (g0.fact 0 rfl).2.1, (g0.fact 0 rfl).2.2.1, (g0.fact 0 rfl).2.2.2.1⟩ (fun hHeld => ?_)
      simp only [List.take_succ_cons, List.take_zero]
      refine anyH_take (v := ?_) 0 rfl (by kernel_rfl) (by kernel_rfl) (by kernel_rfl) (fun _ _ _ h => h) rfl ?_ hHeld ?_
      rotate_left
      · intro w' hSw
        go_simp
        try with_reducible rfl
      try simp only [Act.put, List.setIfInBounds_toArray, List.set_cons_zero, List.set_cons_succ]
      refine anyH_take (v := ?_) 1 rfl (by kernel_rfl) (by kernel_rfl) (by kernel_rfl) (fun _ _ _ h => h) rfl ?_ hHeld ?_
      rotate_left
      · intro w' hSw
        go_simp
        try with_reducible rfl
      try simp only [Act.put, List.setIfInBounds_toArray, List.set_cons_zero, List.set_cons_succ]
      refine anyH_take (v := ?_) 2 rfl (by kernel_rfl) (by kernel_rfl) (by kernel_rfl) (fun _ _ _ h => h) rfl ?_ hHeld ?_
      rotate_left
      · intro w' hSw
        go_simp
        try with_reducible rfl
      try simp only [Act.put, List.setIfInBounds_toArray, List.set_cons_zero, List.set_cons_succ]
      refine anyH_take (v := ?_) 3 rfl (by kernel_rfl) (by kernel_rfl) (by kernel_rfl) (fun _ _ _ h => h) rfl ?_ hHeld ?_
      rotate_left
      · intro w' hSw
        go_simp
        try with_reducible rfl
      try simp only [Act.put, List.setIfInBounds_toArray, List.set_cons_zero, List.set_cons_succ]
      refine anyH_take (v := ?_) 4 rfl (by kernel_rfl) (by kernel_rfl) (by kernel_rfl) (fun _ _ _ h => h) rfl ?_ hHeld ?_
      rotate_left
      · intro w' hSw
        go_simp
        try with_reducible rfl
      try simp only [Act.put, List.setIfInBounds_toArray, List.set_cons_zero, List.set_cons_succ]
      refine anyH_take (v := ?_) 5 rfl (by kernel_rfl) (by kernel_rfl) (by kernel_rfl) (fun _ _ _ h => h) rfl ?_ hHeld ?_
      rotate_left
      · intro w' hSw
        go_simp
        try with_reducible rfl
      try simp only [Act.put, List.setIfInBounds_toArray, List.set_cons_zero, List.set_cons_succ]
      refine wpAnyH_ready (rs := [6]) (by kernel_rfl) (by simp) ?_
      refine ready_cons rfl (fun K hK => ?_) AllReadyH.nil
      go_simp
      refine (HMul.out _ (g0.roInts 7 rfl) (g0.fact 0 rfl).2.2.2.2).mono ?_
      rintro (e : Ending) w4 ⟨u4, rfl, ho4, hb4⟩
      obtain ⟨A6, n6, c6, rfl⟩ := ho4.slice
      have g1 := g0.pushOwn hb4 ho4
      have hin1 := hin0.below hb4
      show K _ _
      refine hK.out _ _ ?_ (fun hHeld => ?_)
      · exact ⟨g1.box4 2 rfl, g1.box4 5 rfl, (g1.fact 1 rfl).1, (g1.fact 1 rfl).2.1, (g1.fact 1 rfl).2.2.1, (g1.fact 1 rfl).2.2.2.1⟩
      clear hK K
      try simp only [Act.put, List.setIfInBounds_toArray, List.set_cons_zero, List.set_cons_succ]
      refine wpAnyH_ready (rs := [7]) (by kernel_rfl) (by simp) ?_
      refine ready_cons rfl (fun K hK => ?_) AllReadyH.nil
      go_simp
      refine (HJ.out _ _ _ hin1 (g1.ownInts 0 rfl)).mono ?_
      rintro (e : Ending) w5 ⟨u5, rfl, ho5, hb5⟩
      obtain ⟨A7, n7, c7, rfl⟩ := ho5.slice
      have g2 := g1.pushOwn hb5 ho5
      show K _ _
      refine hK.out _ _ ?_ (fun hHeld => ?_)
      · exact ⟨g2.box4 3 rfl, g2.box4 6 rfl, (g2.fact 2 rfl).1, (g2.fact 2 rfl).2.1, (g2.fact 2 rfl).2.2.1, (g2.fact 2 rfl).2.2.2.1⟩
      clear hK K
      try simp only [Act.put, List.setIfInBounds_toArray, List.set_cons_zero, List.set_cons_succ]
      refine wpAnyH_done (by kernel_rfl) ?_ _
      show wpList _ _ _ _ _ _
      simp only [List.drop_succ_cons, List.drop_zero]
      clear hHeld
      obtain ⟨p0, p1, p2, p3⟩ := g2.box4 3 rfl
      have f0 := g2.free 3 rfl 0
      have f1 := g2.free 3 rfl 1
      have f2 := g2.free 3 rfl 2
      have f3 := g2.free 3 rfl 3
      have h5 := (((g2.setBox 3 rfl 0 (.int .i64 p)).setBox 3 rfl 1 (.int .i64 M2.length)).setBox 3 rfl 2 (.int .i64 d)).setBox 3 rfl 3 (.slice A7 n7 c7)
      obtain ⟨r0, r1, r2, r3⟩ := h5.box4 3 rfl
      clear g0 g1 h3 hin hin0 hin1 hx
      go_wp2
      go_roundw
      case rel => exact ⟨i + 1, A7, n7, c7, by go_num, by omega, _, .inl rfl, by rw [← HM2.out]; exact (((h5.rid 4).rid 2).rid 1).toFront 1 rfl⟩
      case measure => simp [intOf]; omega
    · obtain rfl : i = ms.length := by omega
      have iN : ¬ ((ms.length : Int) < n) := by rw [Hn.out]; omega
      obtain rfl : x = .own (.slice Ad nd cd) (flat d (mvTo p d ms R ms.length)) := (by
        rcases hx with h0 | ⟨h0, _⟩
        · exact h0
        · omega)
      obtain ⟨M2, hM2⟩ : ∃ M2, M2 = mvTo p d ms R ms.length := ⟨_, rfl⟩
      have e1 : mvNext p d ms R = M2 := hM2.symm
      have HE := Lib.hid e1
      rw [← hM2] at h2
      clear e1 hM2 hin hx
      obtain ⟨v0, v1, v2, v3⟩ := h2.box4 0 rfl
      obtain ⟨p0, p1, p2, p3⟩ := h2.box4 2 rfl
      have f0 := h2.free 2 rfl 0
      have f1 := h2.free 2 rfl 1
      have f2 := h2.free 2 rfl 2
      have f3 := h2.free 2 rfl 3
      have h5 := (((h2.setBox 2 rfl 0 (.int .i64 p)).setBox 2 rfl 1 (.int .i64 M2.length)).setBox 2 rfl 2 (.int .i64 d)).setBox 2 rfl 3 (.slice Ad nd cd)
      obtain ⟨r0, r1, r2, r3⟩ := h5.box4 2 rfl
      go_wp2
      rw [HE.out]
      refine bodyPost_ret (v := .agg #[.int .i64 p, .int .i64 M2.length, .int .i64 d, .slice Ad nd cd]) (by simp [results, Try.results97, go_sem, r0, r1, r2, r3]) rfl ⟨_, rfl, h5.own 1 rfl, h5.below⟩
end
section
open Go.RowKit

/-- What SubmoduleBy returns. -/
def sbOk (p n : Int) (T : List Int) (ms : List Mt) (q r c : Int) (D : List Int) : Bool := isMod p n T ms && (matOk q r c D && (decide (q = p) && decide (c = (mAt ms 0).r)))
def sbL (p c : Int) (ms : List Mt) (r : Int) (D : List Int) : List (List Int) := growTo (mvNext p c.toNat ms) c.toNat (spanL p c.toNat (rowsM r.toNat c.toNat D))
def sbP (p n : Int) (T : List Int) (ms : List Mt) (q r c : Int) (D : List Int) : Int := if sbOk p n T ms q r c D then p else 0
def sbR (p n : Int) (T : List Int) (ms : List Mt) (q r c : Int) (D : List Int) : Int := if sbOk p n T ms q r c D then (sbL p c ms r D).length else 0
def sbC (p n : Int) (T : List Int) (ms : List Mt) (q r c : Int) (D : List Int) : Int := if sbOk p n T ms q r c D then c else 0
def sbD (p n : Int) (T : List Int) (ms : List Mt) (q r c : Int) (D : List Int) : List Int := if sbOk p n T ms q r c D then flat c.toNat (sbL p c ms r D) else []
theorem sbOk_spec {p n q r c : Int} {T D : List Int} {ms : List Mt} (h : sbOk p n T ms q r c D = true) : isMod p n T ms = true ∧ matOk q r c D = true ∧ q = p ∧ c = (mAt ms 0).r := by
  simp only [sbOk, Bool.and_eq_true, decide_eq_true_eq] at h
  exact h
theorem sbD_bd (p n : Int) (T : List Int) (ms : List Mt) (q r c : Int) (D : List Int) : (sbD p n T ms q r c D).length ≤ 900 := by
  unfold sbD
  split
  · rename_i h
    obtain ⟨h1, h2, e1, e2⟩ := sbOk_spec h
    subst e1
    obtain ⟨N, s, _, _, _, hs, hs30, _, _⟩ := isMod_all h1
    obtain ⟨a, b, ea, eb, _, _, _, hr, h3, _, hP⟩ := matOk_spec h2
    have ec : c = (s : Nat) := by rw [e2, hs]
    subst ec
    rw [length_flat, Int.toNat_natCast]
    obtain ⟨z, hz⟩ := (mv_grow hP ms).rfTo s (spanL_rf hP (Wf_rowsM (p := q) (by omega) (r := r.toNat) (c := s) hr))
    have hl : (sbL q s ms r D).length ≤ s := by
      rw [sbL, Int.toNat_natCast]
      exact rf_le_n h3 hz
    exact mul_le (Nat.le_trans hl hs30) hs30
  · simp

set_option maxHeartbeats 4000000 in
theorem SubmoduleByS_any (p n q r c : Int) (t v u : Value) (T D : List Int) (ms : List Mt) (w : World) (ht : Ints w t T) (hv : MatsR w v ms) (hu : Ints w u D) (hp0 : p ≤ 9223372036854775807) (hq : q ≤ 9223372036854775807) (hw : ∀ i, i < ms.length → (mAt ms i).p ≤ 9223372036854775807) :
    Calls Try.prog 52 #[.agg #[.int .i64 p, .int .i64 n, t], v, .agg #[.int .i64 q, .int .i64 r, .int .i64 c, u]] w (RetMatB w (sbP p n T ms q r c D) (sbR p n T ms q r c D) (sbC p n T ms q r c D) (sbD p n T ms q r c D) (sbOk p n T ms q r c D)) := by
  have h1 := (((((St.start w).arg ht).arg hu).pushFact hv.fact).box [.int .i64 p, .int .i64 n, t] 30).box [.int .i64 q, .int .i64 r, .int .i64 c, u] 32
  replace h1 := h1.box [.int .i64 0, .int .i64 0, .int .i64 0, .slice none 0 0] 32
  simp only [World.size_alloc] at h1
  obtain ⟨A, k, rfl, _, _, _⟩ := id ht
  obtain ⟨A2, k2, rfl, _, _, _⟩ := id hv
  obtain ⟨A3, k3, rfl, _, _, _⟩ := id hu
  have HI := Lib.hid (fun (W : World) (h1 : Ints W (.slice A T.length k) T) (h2 : MatsR W (.slice A2 ms.length k2) ms) => IsModuleS_any p n _ _ T ms W h1 h2 hp0 hw)
  have HMk := Lib.hid (fun (W : World) (h1 : Ints W (.slice A3 D.length k3) D) => MatrixOkS_any q r c _ D W h1 hq)
  have HV := Lib.hid hv
  clear ht hv hu hw
  by_cases b1 : isMod p n T ms = true
  case neg =>
    have b1 : isMod p n T ms = false := by simpa using b1
    have b0 : sbOk p n T ms q r c D = false := by rw [sbOk, b1, Bool.false_and]
    rw [show sbP p n T ms q r c D = 0 by simp [sbP, b0], show sbR p n T ms q r c D = 0 by simp [sbR, b0], show sbC p n T ms q r c D = 0 by simp [sbC, b0], show sbD p n T ms q r c D = [] by simp [sbD, b0], b0]
    have B1 := Lib.hid b1
    clear b1 b0
    go_enter Try.func52, Try.ntmps52
    go_upto_region 1 with fail
    have g0 := h1.drew
    refine wp_region_held_drew (S := fun w' => (w'.cell? ⟨w.heap.size, 0, none⟩ = some (.int .i64 p) ∧ w'.cell? ⟨w.heap.size, 1, none⟩ = some (.int .i64 n) ∧ w'.cell? ⟨w.heap.size, 2, none⟩ = some (.slice A T.length k)) ∧ (w'.cell? ⟨w.heap.size + 1, 0, none⟩ = some (.int .i64 q) ∧ w'.cell? ⟨w.heap.size + 1, 1, none⟩ = some (.int .i64 r) ∧ w'.cell? ⟨w.heap.size + 1, 2, none⟩ = some (.int .i64 c) ∧ w'.cell? ⟨w.heap.size + 1, 3, none⟩ = some (.slice A3 D.length k3))) (by kernel_rfl) ⟨g0.box3 2 rfl, g0.box4 1 rfl⟩ (fun hHeld => ?_)
    refine anyH_take (v := ?_) 0 rfl (by kernel_rfl) (by kernel_rfl) (by kernel_rfl) (fun _ _ _ h => h) rfl ?_ hHeld ?_
    rotate_left
    · intro w' hSw
      go_simp
      try with_reducible rfl
    try simp only [Act.put, List.setIfInBounds_toArray, List.set_cons_zero, List.set_cons_succ]
    refine anyH_take (v := ?_) 1 rfl (by kernel_rfl) (by kernel_rfl) (by kernel_rfl) (fun _ _ _ h => h) rfl ?_ hHeld ?_
    rotate_left
    · intro w' hSw
      go_simp
      try with_reducible rfl
    try simp only [Act.put, List.setIfInBounds_toArray, List.set_cons_zero, List.set_cons_succ]
    refine wpAnyH_ready (rs := [2]) (by kernel_rfl) (by simp) ?_
    refine ready_cons rfl (fun K hK => ?_) AllReadyH.nil
    go_simp
    refine (HI.out _ (g0.roInts 5 rfl) (g0.fact 3 rfl)).mono ?_
    rintro (e : Ending) w1 ⟨rfl, hb1⟩
    have g1 := g0.on hb1
    rw [B1.out]
    clear hb1
    show K _ _
    refine hK.out _ _ ?_ (fun hHeld => ?_)
    · exact ⟨g1.box3 2 rfl, g1.box4 1 rfl⟩
    clear hK K
    try simp only [Act.put, List.setIfInBounds_toArray, List.set_cons_zero, List.set_cons_succ]
    refine anyH_take (v := ?_) 3 rfl (by kernel_rfl) (by kernel_rfl) (by kernel_rfl) (fun _ _ _ h => h) rfl ?_ hHeld ?_
    rotate_left
    · intro w' hSw
      go_simp
      try with_reducible rfl
    try simp only [Act.put, List.setIfInBounds_toArray, List.set_cons_zero, List.set_cons_succ]
    refine anyH_take (v := ?_) 4 rfl (by kernel_rfl) (by kernel_rfl) (by kernel_rfl) (fun _ _ _ h => h) rfl ?_ hHeld ?_
    rotate_left
    · intro w' hSw
      go_simp
      try with_reducible rfl
    try simp only [Act.put, List.setIfInBounds_toArray, List.set_cons_zero, List.set_cons_succ]
    refine anyH_skip 5 rfl (by kernel_rfl) (by kernel_rfl) (by kernel_rfl) (fun _ _ _ h => h) rfl hHeld ?_
    try simp only [Act.put, List.setIfInBounds_toArray, List.set_cons_zero, List.set_cons_succ]
    refine anyH_skip 6 rfl (by kernel_rfl) (by kernel_rfl) (by kernel_rfl) (fun _ _ _ h => h) rfl hHeld ?_
    try simp only [Act.put, List.setIfInBounds_toArray, List.set_cons_zero, List.set_cons_succ]
    refine anyH_skip 7 rfl (by kernel_rfl) (by kernel_rfl) (by kernel_rfl) (fun _ _ _ h => h) rfl hHeld ?_
    try simp only [Act.put, List.setIfInBounds_toArray, List.set_cons_zero, List.set_cons_succ]
    refine anyH_take (v := ?_) 8 rfl (by kernel_rfl) (by kernel_rfl) (by kernel_rfl) (fun _ _ _ h => h) rfl ?_ hHeld ?_
    rotate_left
    · intro w' hSw
      go_simp
      try with_reducible rfl
    try simp only [Act.put, List.setIfInBounds_toArray, List.set_cons_zero, List.set_cons_succ]
    refine anyH_take (v := ?_) 9 rfl (by kernel_rfl) (by kernel_rfl) (by kernel_rfl) (fun _ _ _ h => h) rfl ?_ hHeld ?_
    rotate_left
    · intro w' hSw
      go_simp
      try with_reducible rfl
    try simp only [Act.put, List.setIfInBounds_toArray, List.set_cons_zero, List.set_cons_succ]
    refine anyH_skip 10 rfl (by kernel_rfl) (by kernel_rfl) (by kernel_rfl) (fun _ _ _ h => h) rfl hHeld ?_
    try simp only [Act.put, List.setIfInBounds_toArray, List.set_cons_zero, List.set_cons_succ]
    refine anyH_skip 11 rfl (by kernel_rfl) (by kernel_rfl) (by kernel_rfl) (fun _ _ _ h => h) rfl hHeld ?_
    try simp only [Act.put, List.setIfInBounds_toArray, List.set_cons_zero, List.set_cons_succ]
    refine anyH_skip 12 rfl (by kernel_rfl) (by kernel_rfl) (by kernel_rfl) (fun _ _ _ h => h) rfl hHeld ?_
    try simp only [Act.put, List.setIfInBounds_toArray, List.set_cons_zero, List.set_cons_succ]
    refine anyH_skip 13 rfl (by kernel_rfl) (by kernel_rfl) (by kernel_rfl) (fun _ _ _ h => h) rfl hHeld ?_
    try simp only [Act.put, List.setIfInBounds_toArray, List.set_cons_zero, List.set_cons_succ]
    refine anyH_skip 14 rfl (by kernel_rfl) (by kernel_rfl) (by kernel_rfl) (fun _ _ _ h => h) rfl hHeld ?_
    try simp only [Act.put, List.setIfInBounds_toArray, List.set_cons_zero, List.set_cons_succ]
    refine anyH_take (v := ?_) 15 rfl (by kernel_rfl) (by kernel_rfl) (by kernel_rfl) (fun _ _ _ h => h) rfl ?_ hHeld ?_
    rotate_left
    · intro w' hSw
      go_simp
      try with_reducible rfl
    try simp only [Act.put, List.setIfInBounds_toArray, List.set_cons_zero, List.set_cons_succ]
    refine anyH_take (v := ?_) 16 rfl (by kernel_rfl) (by kernel_rfl) (by kernel_rfl) (fun _ _ _ h => h) rfl ?_ hHeld ?_
    rotate_left
    · intro w' hSw
      go_simp
      try with_reducible rfl
    try simp only [Act.put, List.setIfInBounds_toArray, List.set_cons_zero, List.set_cons_succ]
    refine anyH_skip 17 rfl (by kernel_rfl) (by kernel_rfl) (by kernel_rfl) (fun _ _ _ h => h) rfl hHeld ?_
    try simp only [Act.put, List.setIfInBounds_toArray, List.set_cons_zero, List.set_cons_succ]
    refine anyH_skip 18 rfl (by kernel_rfl) (by kernel_rfl) (by kernel_rfl) (fun _ _ _ h => h) rfl hHeld ?_
    try simp only [Act.put, List.setIfInBounds_toArray, List.set_cons_zero, List.set_cons_succ]
    refine anyH_skip 19 rfl (by kernel_rfl) (by kernel_rfl) (by kernel_rfl) (fun _ _ _ h => h) rfl hHeld ?_
    try simp only [Act.put, List.setIfInBounds_toArray, List.set_cons_zero, List.set_cons_succ]
    refine anyH_skip 20 rfl (by kernel_rfl) (by kernel_rfl) (by kernel_rfl) (fun _ _ _ h => h) rfl hHeld ?_
    try simp only [Act.put, List.setIfInBounds_toArray, List.set_cons_zero, List.set_cons_succ]
    refine anyH_skip 21 rfl (by kernel_rfl) (by kernel_rfl) (by kernel_rfl) (fun _ _ _ h => h) rfl hHeld ?_
    try simp only [Act.put, List.setIfInBounds_toArray, List.set_cons_zero, List.set_cons_succ]
    refine anyH_take (v := ?_) 22 rfl (by kernel_rfl) (by kernel_rfl) (by kernel_rfl) (fun _ _ _ h => h) rfl ?_ hHeld ?_
    rotate_left
    · intro w' hSw
      go_simp
      try with_reducible rfl
    try simp only [Act.put, List.setIfInBounds_toArray, List.set_cons_zero, List.set_cons_succ]
    refine wpAnyH_done (by kernel_rfl) ?_ _
    clear hHeld
    obtain ⟨v0, v1, v2, v3⟩ := g1.box4 0 rfl
    have f0 := g1.free 0 rfl 0
    have f1 := g1.free 0 rfl 1
    have f2 := g1.free 0 rfl 2
    have f3 := g1.free 0 rfl 3
    have h4 := (((g1.setBox 0 rfl 0 (.int .i64 0)).setBox 0 rfl 1 (.int .i64 0)).setBox 0 rfl 2 (.int .i64 0)).setBox 0 rfl 3 (.slice none 0 0)
    obtain ⟨r0, r1, r2, r3⟩ := h4.box4 0 rfl
    go_wp2
    refine bodyPost_ret (v := .tuple #[.agg #[.int .i64 0, .int .i64 0, .int .i64 0, .slice none 0 0], .bool false]) (by simp [results, Try.results52, go_sem, r0, r1, r2, r3]) rfl ⟨_, rfl, Own.nil, h4.below⟩
  by_cases b2 : matOk q r c D = true
  case neg =>
    have b2 : matOk q r c D = false := by simpa using b2
    have b0 : sbOk p n T ms q r c D = false := by rw [sbOk, b2, Bool.false_and, Bool.and_false]
    rw [show sbP p n T ms q r c D = 0 by simp [sbP, b0], show sbR p n T ms q r c D = 0 by simp [sbR, b0], show sbC p n T ms q r c D = 0 by simp [sbC, b0], show sbD p n T ms q r c D = [] by simp [sbD, b0], b0]
    have B1 := Lib.hid b1
    have B2 := Lib.hid b2
    clear b1 b2 b0
    go_enter Try.func52, Try.ntmps52
    go_upto_region 1 with fail
    have g0 := h1.drew
    refine wp_region_held_drew (S := fun w' => (w'.cell? ⟨w.heap.size, 0, none⟩ = some (.int .i64 p) ∧ w'.cell? ⟨w.heap.size, 1, none⟩ = some (.int .i64 n) ∧ w'.cell? ⟨w.heap.size, 2, none⟩ = some (.slice A T.length k)) ∧ (w'.cell? ⟨w.heap.size + 1, 0, none⟩ = some (.int .i64 q) ∧ w'.cell? ⟨w.heap.size + 1, 1, none⟩ = some (.int .i64 r) ∧ w'.cell? ⟨w.heap.size + 1, 2, none⟩ = some (.int .i64 c) ∧ w'.cell? ⟨w.heap.size + 1, 3, none⟩ = some (.slice A3 D.length k3))) (by kernel_rfl) ⟨g0.box3 2 rfl, g0.box4 1 rfl⟩ (fun hHeld => ?_)
    refine anyH_take (v := ?_) 0 rfl (by kernel_rfl) (by kernel_rfl) (by kernel_rfl) (fun _ _ _ h => h) rfl ?_ hHeld ?_
    rotate_left
    · intro w' hSw
      go_simp
      try with_reducible rfl
    try simp only [Act.put, List.setIfInBounds_toArray, List.set_cons_zero, List.set_cons_succ]
    refine anyH_take (v := ?_) 1 rfl (by kernel_rfl) (by kernel_rfl) (by kernel_rfl) (fun _ _ _ h => h) rfl ?_ hHeld ?_
    rotate_left
    · intro w' hSw
      go_simp
      try with_reducible rfl
    try simp only [Act.put, List.setIfInBounds_toArray, List.set_cons_zero, List.set_cons_succ]
    refine wpAnyH_ready (rs := [2]) (by kernel_rfl) (by simp) ?_
    refine ready_cons rfl (fun K hK => ?_) AllReadyH.nil
    go_simp
    refine (HI.out _ (g0.roInts 5 rfl) (g0.fact 3 rfl)).mono ?_
    rintro (e : Ending) w1 ⟨rfl, hb1⟩
    have g1 := g0.on hb1
    rw [B1.out]
    clear hb1
    show K _ _
    refine hK.out _ _ ?_ (fun hHeld => ?_)
    · exact ⟨g1.box3 2 rfl, g1.box4 1 rfl⟩
    clear hK K
    try simp only [Act.put, List.setIfInBounds_toArray, List.set_cons_zero, List.set_cons_succ]
    refine anyH_take (v := ?_) 3 rfl (by kernel_rfl) (by kernel_rfl) (by kernel_rfl) (fun _ _ _ h => h) rfl ?_ hHeld ?_
    rotate_left
    · intro w' hSw
      go_simp
      try with_reducible rfl
    try simp only [Act.put, List.setIfInBounds_toArray, List.set_cons_zero, List.set_cons_succ]
    refine anyH_take (v := ?_) 4 rfl (by kernel_rfl) (by kernel_rfl) (by kernel_rfl) (fun _ _ _ h => h) rfl ?_ hHeld ?_
    rotate_left
    · intro w' hSw
      go_simp
      try with_reducible rfl
    try simp only [Act.put, List.setIfInBounds_toArray, List.set_cons_zero, List.set_cons_succ]
    refine anyH_take (v := ?_) 5 rfl (by kernel_rfl) (by kernel_rfl) (by kernel_rfl) (fun _ _ _ h => h) rfl ?_ hHeld ?_
    rotate_left
    · intro w' hSw
      go_simp
      try with_reducible rfl
    try simp only [Act.put, List.setIfInBounds_toArray, List.set_cons_zero, List.set_cons_succ]
    refine wpAnyH_ready (rs := [6]) (by kernel_rfl) (by simp) ?_
    refine ready_cons rfl (fun K hK => ?_) AllReadyH.nil
    go_simp
    refine (HMk.out _ (g1.roInts 4 rfl)).mono ?_
    rintro (e : Ending) w2 ⟨rfl, hb1⟩
    have g2 := g1.on hb1
    rw [B2.out]
    clear hb1
    show K _ _
    refine hK.out _ _ ?_ (fun hHeld => ?_)
    · exact ⟨g2.box3 2 rfl, g2.box4 1 rfl⟩
    clear hK K
    try simp only [Act.put, List.setIfInBounds_toArray, List.set_cons_zero, List.set_cons_succ]
    refine anyH_take (v := ?_) 7 rfl (by kernel_rfl) (by kernel_rfl) (by kernel_rfl) (fun _ _ _ h => h) rfl ?_ hHeld ?_
    rotate_left
    · intro w' hSw
      go_simp
      try with_reducible rfl
    try simp only [Act.put, List.setIfInBounds_toArray, List.set_cons_zero, List.set_cons_succ]
    refine anyH_take (v := ?_) 8 rfl (by kernel_rfl) (by kernel_rfl) (by kernel_rfl) (fun _ _ _ h => h) rfl ?_ hHeld ?_
    rotate_left
    · intro w' hSw
      go_simp
      try with_reducible rfl
    try simp only [Act.put, List.setIfInBounds_toArray, List.set_cons_zero, List.set_cons_succ]
    refine anyH_take (v := ?_) 9 rfl (by kernel_rfl) (by kernel_rfl) (by kernel_rfl) (fun _ _ _ h => h) rfl ?_ hHeld ?_
    rotate_left
    · intro w' hSw
      go_simp
      try with_reducible rfl
    try simp only [Act.put, List.setIfInBounds_toArray, List.set_cons_zero, List.set_cons_succ]
    refine anyH_skip 10 rfl (by kernel_rfl) (by kernel_rfl) (by kernel_rfl) (fun _ _ _ h => h) rfl hHeld ?_
    try simp only [Act.put, List.setIfInBounds_toArray, List.set_cons_zero, List.set_cons_succ]
    refine anyH_skip 11 rfl (by kernel_rfl) (by kernel_rfl) (by kernel_rfl) (fun _ _ _ h => h) rfl hHeld ?_
    try simp only [Act.put, List.setIfInBounds_toArray, List.set_cons_zero, List.set_cons_succ]
    refine anyH_skip 12 rfl (by kernel_rfl) (by kernel_rfl) (by kernel_rfl) (fun _ _ _ h => h) rfl hHeld ?_
    try simp only [Act.put, List.setIfInBounds_toArray, List.set_cons_zero, List.set_cons_succ]
    refine anyH_skip 13 rfl (by kernel_rfl) (by kernel_rfl) (by kernel_rfl) (fun _ _ _ h => h) rfl hHeld ?_
    try simp only [Act.put, List.setIfInBounds_toArray, List.set_cons_zero, List.set_cons_succ]
    refine anyH_skip 14 rfl (by kernel_rfl) (by kernel_rfl) (by kernel_rfl) (fun _ _ _ h => h) rfl hHeld ?_
    try simp only [Act.put, List.setIfInBounds_toArray, List.set_cons_zero, List.set_cons_succ]
    refine anyH_take (v := ?_) 15 rfl (by kernel_rfl) (by kernel_rfl) (by kernel_rfl) (fun _ _ _ h => h) rfl ?_ hHeld ?_
    rotate_left
    · intro w' hSw
      go_simp
      try with_reducible rfl
    try simp only [Act.put, List.setIfInBounds_toArray, List.set_cons_zero, List.set_cons_succ]
    refine anyH_take (v := ?_) 16 rfl (by kernel_rfl) (by kernel_rfl) (by kernel_rfl) (fun _ _ _ h => h) rfl ?_ hHeld ?_
    rotate_left
    · intro w' hSw
      go_simp
      try with_reducible rfl
    try simp only [Act.put, List.setIfInBounds_toArray, List.set_cons_zero, List.set_cons_succ]
    refine anyH_skip 17 rfl (by kernel_rfl) (by kernel_rfl) (by kernel_rfl) (fun _ _ _ h => h) rfl hHeld ?_
    try simp only [Act.put, List.setIfInBounds_toArray, List.set_cons_zero, List.set_cons_succ]
    refine anyH_skip 18 rfl (by kernel_rfl) (by kernel_rfl) (by kernel_rfl) (fun _ _ _ h => h) rfl hHeld ?_
    try simp only [Act.put, List.setIfInBounds_toArray, List.set_cons_zero, List.set_cons_succ]
    refine anyH_skip 19 rfl (by kernel_rfl) (by kernel_rfl) (by kernel_rfl) (fun _ _ _ h => h) rfl hHeld ?_
    try simp only [Act.put, List.setIfInBounds_toArray, List.set_cons_zero, List.set_cons_succ]
    refine anyH_skip 20 rfl (by kernel_rfl) (by kernel_rfl) (by kernel_rfl) (fun _ _ _ h => h) rfl hHeld ?_
    try simp only [Act.put, List.setIfInBounds_toArray, List.set_cons_zero, List.set_cons_succ]
    refine anyH_skip 21 rfl (by kernel_rfl) (by kernel_rfl) (by kernel_rfl) (fun _ _ _ h => h) rfl hHeld ?_
    try simp only [Act.put, List.setIfInBounds_toArray, List.set_cons_zero, List.set_cons_succ]
    refine anyH_take (v := ?_) 22 rfl (by kernel_rfl) (by kernel_rfl) (by kernel_rfl) (fun _ _ _ h => h) rfl ?_ hHeld ?_
    rotate_left
    · intro w' hSw
      go_simp
      try with_reducible rfl
    try simp only [Act.put, List.setIfInBounds_toArray, List.set_cons_zero, List.set_cons_succ]
    refine wpAnyH_done (by kernel_rfl) ?_ _
    clear hHeld
    obtain ⟨v0, v1, v2, v3⟩ := g2.box4 0 rfl
    have f0 := g2.free 0 rfl 0
    have f1 := g2.free 0 rfl 1
    have f2 := g2.free 0 rfl 2
    have f3 := g2.free 0 rfl 3
    have h4 := (((g2.setBox 0 rfl 0 (.int .i64 0)).setBox 0 rfl 1 (.int .i64 0)).setBox 0 rfl 2 (.int .i64 0)).setBox 0 rfl 3 (.slice none 0 0)
    obtain ⟨r0, r1, r2, r3⟩ := h4.box4 0 rfl
    go_wp2
    refine bodyPost_ret (v := .tuple #[.agg #[.int .i64 0, .int .i64 0, .int .i64 0, .slice none 0 0], .bool false]) (by simp [results, Try.results52, go_sem, r0, r1, r2, r3]) rfl ⟨_, rfl, Own.nil, h4.below⟩
  by_cases b3 : q = p
  case neg =>
    have b0 : sbOk p n T ms q r c D = false := by rw [sbOk, decide_eq_false b3, Bool.false_and, Bool.and_false, Bool.and_false]
    rw [show sbP p n T ms q r c D = 0 by simp [sbP, b0], show sbR p n T ms q r c D = 0 by simp [sbR, b0], show sbC p n T ms q r c D = 0 by simp [sbC, b0], show sbD p n T ms q r c D = [] by simp [sbD, b0], b0]
    have B1 := Lib.hid b1
    have B2 := Lib.hid b2
    have e4 : (q == p) = false := by rw [beq_eq_false_iff_ne]; exact b3
    have e5 : (q != p) = true := by rw [bne, e4]; rfl
    clear b1 b2 b0
    go_enter Try.func52, Try.ntmps52
    go_upto_region 1 with fail
    have g0 := h1.drew
    refine wp_region_held_drew (S := fun w' => (w'.cell? ⟨w.heap.size, 0, none⟩ = some (.int .i64 p) ∧ w'.cell? ⟨w.heap.size, 1, none⟩ = some (.int .i64 n) ∧ w'.cell? ⟨w.heap.size, 2, none⟩ = some (.slice A T.length k)) ∧ (w'.cell? ⟨w.heap.size + 1, 0, none⟩ = some (.int .i64 q) ∧ w'.cell? ⟨w.heap.size + 1, 1, none⟩ = some (.int .i64 r) ∧ w'.cell? ⟨w.heap.size + 1, 2, none⟩ = some (.int .i64 c) ∧ w'.cell? ⟨w.heap.size + 1, 3, none⟩ = some (.slice A3 D.length k3))) (by kernel_rfl) ⟨g0.box3 2 rfl, g0.box4 1 rfl⟩ (fun hHeld => ?_)
    refine anyH_take (v := ?_) 0 rfl (by kernel_rfl) (by kernel_rfl) (by kernel_rfl) (fun _ _ _ h => h) rfl ?_ hHeld ?_
    rotate_left
    · intro w' hSw
      go_simp
      try with_reducible rfl
    try simp only [Act.put, List.setIfInBounds_toArray, List.set_cons_zero, List.set_cons_succ]
    refine anyH_take (v := ?_) 1 rfl (by kernel_rfl) (by kernel_rfl) (by kernel_rfl) (fun _ _ _ h => h) rfl ?_ hHeld ?_
    rotate_left
    · intro w' hSw
      go_simp
      try with_reducible rfl
    try simp only [Act.put, List.setIfInBounds_toArray, List.set_cons_zero, List.set_cons_succ]
    refine wpAnyH_ready (rs := [2]) (by kernel_rfl) (by simp) ?_
    refine ready_cons rfl (fun K hK => ?_) AllReadyH.nil
    go_simp
    refine (HI.out _ (g0.roInts 5 rfl) (g0.fact 3 rfl)).mono ?_
    rintro (e : Ending) w1 ⟨rfl, hb1⟩
    have g1 := g0.on hb1
    rw [B1.out]
    clear hb1
    show K _ _
    refine hK.out _ _ ?_ (fun hHeld => ?_)
    · exact ⟨g1.box3 2 rfl, g1.box4 1 rfl⟩
    clear hK K
    try simp only [Act.put, List.setIfInBounds_toArray, List.set_cons_zero, List.set_cons_succ]
    refine anyH_take (v := ?_) 3 rfl (by kernel_rfl) (by kernel_rfl) (by kernel_rfl) (fun _ _ _ h => h) rfl ?_ hHeld ?_
    rotate_left
    · intro w' hSw
      go_simp
      try with_reducible rfl
    try simp only [Act.put, List.setIfInBounds_toArray, List.set_cons_zero, List.set_cons_succ]
    refine anyH_take (v := ?_) 4 rfl (by kernel_rfl) (by kernel_rfl) (by kernel_rfl) (fun _ _ _ h => h) rfl ?_ hHeld ?_
    rotate_left
    · intro w' hSw
      go_simp
      try with_reducible rfl
    try simp only [Act.put, List.setIfInBounds_toArray, List.set_cons_zero, List.set_cons_succ]
    refine anyH_take (v := ?_) 5 rfl (by kernel_rfl) (by kernel_rfl) (by kernel_rfl) (fun _ _ _ h => h) rfl ?_ hHeld ?_
    rotate_left
    · intro w' hSw
      go_simp
      try with_reducible rfl
    try simp only [Act.put, List.setIfInBounds_toArray, List.set_cons_zero, List.set_cons_succ]
    refine wpAnyH_ready (rs := [6]) (by kernel_rfl) (by simp) ?_
    refine ready_cons rfl (fun K hK => ?_) AllReadyH.nil
    go_simp
    refine (HMk.out _ (g1.roInts 4 rfl)).mono ?_
    rintro (e : Ending) w2 ⟨rfl, hb1⟩
    have g2 := g1.on hb1
    rw [B2.out]
    clear hb1
    show K _ _
    refine hK.out _ _ ?_ (fun hHeld => ?_)
    · exact ⟨g2.box3 2 rfl, g2.box4 1 rfl⟩
    clear hK K
    try simp only [Act.put, List.setIfInBounds_toArray, List.set_cons_zero, List.set_cons_succ]
    refine anyH_take (v := ?_) 7 rfl (by kernel_rfl) (by kernel_rfl) (by kernel_rfl) (fun _ _ _ h => h) rfl ?_ hHeld ?_
    rotate_left
    · intro w' hSw
      go_simp
      try with_reducible rfl
    try simp only [Act.put, List.setIfInBounds_toArray, List.set_cons_zero, List.set_cons_succ]
    refine anyH_take (v := ?_) 8 rfl (by kernel_rfl) (by kernel_rfl) (by kernel_rfl) (fun _ _ _ h => h) rfl ?_ hHeld ?_
    rotate_left
    · intro w' hSw
      go_simp
      try with_reducible rfl
    try simp only [Act.put, List.setIfInBounds_toArray, List.set_cons_zero, List.set_cons_succ]
    refine anyH_take (v := ?_) 9 rfl (by kernel_rfl) (by kernel_rfl) (by kernel_rfl) (fun _ _ _ h => h) rfl ?_ hHeld ?_
    rotate_left
    · intro w' hSw
      go_simp
      try with_reducible rfl
    try simp only [Act.put, List.setIfInBounds_toArray, List.set_cons_zero, List.set_cons_succ]
    refine anyH_take (v := ?_) 10 rfl (by kernel_rfl) (by kernel_rfl) (by kernel_rfl) (fun _ _ _ h => h) rfl ?_ hHeld ?_
    rotate_left
    · intro w' hSw
      go_simp
      try with_reducible rfl
    try simp only [Act.put, List.setIfInBounds_toArray, List.set_cons_zero, List.set_cons_succ]
    refine anyH_take (v := ?_) 11 rfl (by kernel_rfl) (by kernel_rfl) (by kernel_rfl) (fun _ _ _ h => h) rfl ?_ hHeld ?_
    rotate_left
    · intro w' hSw
      go_simp
      try with_reducible rfl
    try simp only [Act.put, List.setIfInBounds_toArray, List.set_cons_zero, List.set_cons_succ]
    refine anyH_take (v := ?_) 12 rfl (by kernel_rfl) (by kernel_rfl) (by kernel_rfl) (fun _ _ _ h => h) rfl ?_ hHeld ?_
    rotate_left
    · intro w' hSw
      go_simp
      try with_reducible rfl
    try simp only [Act.put, List.setIfInBounds_toArray, List.set_cons_zero, List.set_cons_succ]
    refine anyH_take (v := ?_) 13 rfl (by kernel_rfl) (by kernel_rfl) (by kernel_rfl) (fun _ _ _ h => h) rfl ?_ hHeld ?_
    rotate_left
    · intro w' hSw
      go_simp
      try with_reducible rfl
    try simp only [Act.put, List.setIfInBounds_toArray, List.set_cons_zero, List.set_cons_succ]
    refine anyH_take (v := ?_) 14 rfl (by kernel_rfl) (by kernel_rfl) (by kernel_rfl) (fun _ _ _ h => h) rfl ?_ hHeld ?_
    rotate_left
    · intro w' hSw
      go_simp
      try with_reducible rfl
    try simp only [Act.put, List.setIfInBounds_toArray, List.set_cons_zero, List.set_cons_succ]
    refine anyH_take (v := ?_) 15 rfl (by kernel_rfl) (by kernel_rfl) (by kernel_rfl) (fun _ _ _ h => h) rfl ?_ hHeld ?_
    rotate_left
    · intro w' hSw
      go_simp
      try with_reducible rfl
    try simp only [Act.put, List.setIfInBounds_toArray, List.set_cons_zero, List.set_cons_succ]
    refine anyH_take (v := ?_) 16 rfl (by kernel_rfl) (by kernel_rfl) (by kernel_rfl) (fun _ _ _ h => h) rfl ?_ hHeld ?_
    rotate_left
    · intro w' hSw
      go_simp
      try with_reducible rfl
    try simp only [Act.put, List.setIfInBounds_toArray, List.set_cons_zero, List.set_cons_succ]
    refine anyH_skip 17 rfl (by kernel_rfl) (by kernel_rfl) (by kernel_rfl) (fun _ _ _ h => h) rfl hHeld ?_
    try simp only [Act.put, List.setIfInBounds_toArray, List.set_cons_zero, List.set_cons_succ]
    refine anyH_skip 18 rfl (by kernel_rfl) (by kernel_rfl) (by kernel_rfl) (fun _ _ _ h => h) rfl hHeld ?_
    try simp only [Act.put, List.setIfInBounds_toArray, List.set_cons_zero, List.set_cons_succ]
    refine anyH_skip 19 rfl (by kernel_rfl) (by kernel_rfl) (by kernel_rfl) (fun _ _ _ h => h) rfl hHeld ?_
    try simp only [Act.put, List.setIfInBounds_toArray, List.set_cons_zero, List.set_cons_succ]
    refine anyH_skip 20 rfl (by kernel_rfl) (by kernel_rfl) (by kernel_rfl) (fun _ _ _ h => h) rfl hHeld ?_
    try simp only [Act.put, List.setIfInBounds_toArray, List.set_cons_zero, List.set_cons_succ]
    refine anyH_skip 21 rfl (by kernel_rfl) (by kernel_rfl) (by kernel_rfl) (fun _ _ _ h => h) rfl hHeld ?_
    try simp only [Act.put, List.setIfInBounds_toArray, List.set_cons_zero, List.set_cons_succ]
    refine anyH_take (v := ?_) 22 rfl (by kernel_rfl) (by kernel_rfl) (by kernel_rfl) (fun _ _ _ h => h) rfl ?_ hHeld ?_
    rotate_left
    · intro w' hSw
      go_simp
      try with_reducible rfl
    try simp only [Act.put, List.setIfInBounds_toArray, List.set_cons_zero, List.set_cons_succ]
    refine wpAnyH_done (by kernel_rfl) ?_ _
    clear hHeld
    obtain ⟨v0, v1, v2, v3⟩ := g2.box4 0 rfl
    have f0 := g2.free 0 rfl 0
    have f1 := g2.free 0 rfl 1
    have f2 := g2.free 0 rfl 2
    have f3 := g2.free 0 rfl 3
    have h4 := (((g2.setBox 0 rfl 0 (.int .i64 0)).setBox 0 rfl 1 (.int .i64 0)).setBox 0 rfl 2 (.int .i64 0)).setBox 0 rfl 3 (.slice none 0 0)
    obtain ⟨r0, r1, r2, r3⟩ := h4.box4 0 rfl
    go_wp2
    refine bodyPost_ret (v := .tuple #[.agg #[.int .i64 0, .int .i64 0, .int .i64 0, .slice none 0 0], .bool false]) (by simp [results, Try.results52, go_sem, r0, r1, r2, r3]) rfl ⟨_, rfl, Own.nil, h4.below⟩
  obtain ⟨N, s, hn, hln, hN0, hs, hs30, hA, hM⟩ := isMod_all b1
  have hl0 : 0 < ms.length := by omega
  subst q
  have HSz := Lib.hid (show ∀ W, MatsR W (.slice A2 ms.length k2) ms → Calls Try.prog 62 #[.slice A2 ms.length k2] W (fun e w' => e = .returned (.int .i64 (s : Int)) ∧ W = w') from fun W h => by rw [← hs]; exact size_mods hl0 h)
  by_cases b4 : c = s
  case neg =>
    have b0 : sbOk p n T ms p r c D = false := by rw [sbOk, decide_eq_false (show ¬ c = (mAt ms 0).r by rw [hs]; exact b4), Bool.and_false, Bool.and_false, Bool.and_false]
    rw [show sbP p n T ms p r c D = 0 by simp [sbP, b0], show sbR p n T ms p r c D = 0 by simp [sbR, b0], show sbC p n T ms p r c D = 0 by simp [sbC, b0], show sbD p n T ms p r c D = [] by simp [sbD, b0], b0]
    have B1 := Lib.hid b1
    have B2 := Lib.hid b2
    have e4 : (c == (s : Int)) = false := by rw [beq_eq_false_iff_ne]; exact b4
    have e5 : (c != (s : Int)) = true := by rw [bne, e4]; rfl
    clear b1 b2 b0 hn hln hs hA hM
    go_enter Try.func52, Try.ntmps52
    go_upto_region 1 with fail
    have g0 := h1.drew
    refine wp_region_held_drew (S := fun w' => (w'.cell? ⟨w.heap.size, 0, none⟩ = some (.int .i64 p) ∧ w'.cell? ⟨w.heap.size, 1, none⟩ = some (.int .i64 n) ∧ w'.cell? ⟨w.heap.size, 2, none⟩ = some (.slice A T.length k)) ∧ (w'.cell? ⟨w.heap.size + 1, 0, none⟩ = some (.int .i64 p) ∧ w'.cell? ⟨w.heap.size + 1, 1, none⟩ = some (.int .i64 r) ∧ w'.cell? ⟨w.heap.size + 1, 2, none⟩ = some (.int .i64 c) ∧ w'.cell? ⟨w.heap.size + 1, 3, none⟩ = some (.slice A3 D.length k3))) (by kernel_rfl) ⟨g0.box3 2 rfl, g0.box4 1 rfl⟩ (fun hHeld => ?_)
    refine anyH_take (v := ?_) 0 rfl (by kernel_rfl) (by kernel_rfl) (by kernel_rfl) (fun _ _ _ h => h) rfl ?_ hHeld ?_
    rotate_left
    · intro w' hSw
      go_simp
      try with_reducible rfl
    try simp only [Act.put, List.setIfInBounds_toArray, List.set_cons_zero, List.set_cons_succ]
    refine anyH_take (v := ?_) 1 rfl (by kernel_rfl) (by kernel_rfl) (by kernel_rfl) (fun _ _ _ h => h) rfl ?_ hHeld ?_
    rotate_left
    · intro w' hSw
      go_simp
      try with_reducible rfl
    try simp only [Act.put, List.setIfInBounds_toArray, List.set_cons_zero, List.set_cons_succ]
    refine wpAnyH_ready (rs := [2]) (by kernel_rfl) (by simp) ?_
    refine ready_cons rfl (fun K hK => ?_) AllReadyH.nil
    go_simp
    refine (HI.out _ (g0.roInts 5 rfl) (g0.fact 3 rfl)).mono ?_
    rintro (e : Ending) w1 ⟨rfl, hb1⟩
    have g1 := g0.on hb1
    rw [B1.out]
    clear hb1
    show K _ _
    refine hK.out _ _ ?_ (fun hHeld => ?_)
    · exact ⟨g1.box3 2 rfl, g1.box4 1 rfl⟩
    clear hK K
    try simp only [Act.put, List.setIfInBounds_toArray, List.set_cons_zero, List.set_cons_succ]
    refine anyH_take (v := ?_) 3 rfl (by kernel_rfl) (by kernel_rfl) (by kernel_rfl) (fun _ _ _ h => h) rfl ?_ hHeld ?_
    rotate_left
    · intro w' hSw
      go_simp
      try with_reducible rfl
    try simp only [Act.put, List.setIfInBounds_toArray, List.set_cons_zero, List.set_cons_succ]
    refine anyH_take (v := ?_) 4 rfl (by kernel_rfl) (by kernel_rfl) (by kernel_rfl) (fun _ _ _ h => h) rfl ?_ hHeld ?_
    rotate_left
    · intro w' hSw
      go_simp
      try with_reducible rfl
    try simp only [Act.put, List.setIfInBounds_toArray, List.set_cons_zero, List.set_cons_succ]
    refine anyH_take (v := ?_) 5 rfl (by kernel_rfl) (by kernel_rfl) (by kernel_rfl) (fun _ _ _ h => h) rfl ?_ hHeld ?_
    rotate_left
    · intro w' hSw
      go_simp
      try with_reducible rfl
    try simp only [Act.put, List.setIfInBounds_toArray, List.set_cons_zero, List.set_cons_succ]
    refine wpAnyH_ready (rs := [6]) (by kernel_rfl) (by simp) ?_
    refine ready_cons rfl (fun K hK => ?_) AllReadyH.nil
    go_simp
    refine (HMk.out _ (g1.roInts 4 rfl)).mono ?_
    rintro (e : Ending) w2 ⟨rfl, hb1⟩
    have g2 := g1.on hb1
    rw [B2.out]
    clear hb1
    show K _ _
    refine hK.out _ _ ?_ (fun hHeld => ?_)
    · exact ⟨g2.box3 2 rfl, g2.box4 1 rfl⟩
    clear hK K
    try simp only [Act.put, List.setIfInBounds_toArray, List.set_cons_zero, List.set_cons_succ]
    refine anyH_take (v := ?_) 7 rfl (by kernel_rfl) (by kernel_rfl) (by kernel_rfl) (fun _ _ _ h => h) rfl ?_ hHeld ?_
    rotate_left
    · intro w' hSw
      go_simp
      try with_reducible rfl
    try simp only [Act.put, List.setIfInBounds_toArray, List.set_cons_zero, List.set_cons_succ]
    refine anyH_take (v := ?_) 8 rfl (by kernel_rfl) (by kernel_rfl) (by kernel_rfl) (fun _ _ _ h => h) rfl ?_ hHeld ?_
    rotate_left
    · intro w' hSw
      go_simp
      try with_reducible rfl
    try simp only [Act.put, List.setIfInBounds_toArray, List.set_cons_zero, List.set_cons_succ]
    refine anyH_take (v := ?_) 9 rfl (by kernel_rfl) (by kernel_rfl) (by kernel_rfl) (fun _ _ _ h => h) rfl ?_ hHeld ?_
    rotate_left
    · intro w' hSw
      go_simp
      try with_reducible rfl
    try simp only [Act.put, List.setIfInBounds_toArray, List.set_cons_zero, List.set_cons_succ]
    refine anyH_take (v := ?_) 10 rfl (by kernel_rfl) (by kernel_rfl) (by kernel_rfl) (fun _ _ _ h => h) rfl ?_ hHeld ?_
    rotate_left
    · intro w' hSw
      go_simp
      try with_reducible rfl
    try simp only [Act.put, List.setIfInBounds_toArray, List.set_cons_zero, List.set_cons_succ]
    refine anyH_take (v := ?_) 11 rfl (by kernel_rfl) (by kernel_rfl) (by kernel_rfl) (fun _ _ _ h => h) rfl ?_ hHeld ?_
    rotate_left
    · intro w' hSw
      go_simp
      try with_reducible rfl
    try simp only [Act.put, List.setIfInBounds_toArray, List.set_cons_zero, List.set_cons_succ]
    refine anyH_take (v := ?_) 12 rfl (by kernel_rfl) (by kernel_rfl) (by kernel_rfl) (fun _ _ _ h => h) rfl ?_ hHeld ?_
    rotate_left
    · intro w' hSw
      go_simp
      try with_reducible rfl
    try simp only [Act.put, List.setIfInBounds_toArray, List.set_cons_zero, List.set_cons_succ]
    refine anyH_take (v := ?_) 13 rfl (by kernel_rfl) (by kernel_rfl) (by kernel_rfl) (fun _ _ _ h => h) rfl ?_ hHeld ?_
    rotate_left
    · intro w' hSw
      go_simp
      try with_reducible rfl
    try simp only [Act.put, List.setIfInBounds_toArray, List.set_cons_zero, List.set_cons_succ]
    refine anyH_take (v := ?_) 14 rfl (by kernel_rfl) (by kernel_rfl) (by kernel_rfl) (fun _ _ _ h => h) rfl ?_ hHeld ?_
    rotate_left
    · intro w' hSw
      go_simp
      try with_reducible rfl
    try simp only [Act.put, List.setIfInBounds_toArray, List.set_cons_zero, List.set_cons_succ]
    refine anyH_take (v := ?_) 15 rfl (by kernel_rfl) (by kernel_rfl) (by kernel_rfl) (fun _ _ _ h => h) rfl ?_ hHeld ?_
    rotate_left
    · intro w' hSw
      go_simp
      try with_reducible rfl
    try simp only [Act.put, List.setIfInBounds_toArray, List.set_cons_zero, List.set_cons_succ]
    refine anyH_take (v := ?_) 16 rfl (by kernel_rfl) (by kernel_rfl) (by kernel_rfl) (fun _ _ _ h => h) rfl ?_ hHeld ?_
    rotate_left
    · intro w' hSw
      go_simp
      try with_reducible rfl
    try simp only [Act.put, List.setIfInBounds_toArray, List.set_cons_zero, List.set_cons_succ]
    refine anyH_take (v := ?_) 17 rfl (by kernel_rfl) (by kernel_rfl) (by kernel_rfl) (fun _ _ _ h => h) rfl ?_ hHeld ?_
    rotate_left
    · intro w' hSw
      go_simp
      try with_reducible rfl
    try simp only [Act.put, List.setIfInBounds_toArray, List.set_cons_zero, List.set_cons_succ]
    refine anyH_take (v := ?_) 18 rfl (by kernel_rfl) (by kernel_rfl) (by kernel_rfl) (fun _ _ _ h => h) rfl ?_ hHeld ?_
    rotate_left
    · intro w' hSw
      go_simp
      try with_reducible rfl
    try simp only [Act.put, List.setIfInBounds_toArray, List.set_cons_zero, List.set_cons_succ]
    refine anyH_take (v := ?_) 19 rfl (by kernel_rfl) (by kernel_rfl) (by kernel_rfl) (fun _ _ _ h => h) rfl ?_ hHeld ?_
    rotate_left
    · intro w' hSw
      go_simp
      try with_reducible rfl
    try simp only [Act.put, List.setIfInBounds_toArray, List.set_cons_zero, List.set_cons_succ]
    refine wpAnyH_ready (rs := [20]) (by kernel_rfl) (by simp) ?_
    refine ready_cons rfl (fun K hK => ?_) AllReadyH.nil
    go_simp
    refine (HSz.out _ (g2.fact 3 rfl)).mono ?_
    rintro (e : Ending) w3 ⟨rfl, rfl⟩
    show K _ _
    refine hK.out _ _ ?_ (fun hHeld => ?_)
    · exact ⟨g2.box3 2 rfl, g2.box4 1 rfl⟩
    clear hK K
    try simp only [Act.put, List.setIfInBounds_toArray, List.set_cons_zero, List.set_cons_succ]
    refine anyH_take (v := ?_) 21 rfl (by kernel_rfl) (by kernel_rfl) (by kernel_rfl) (fun _ _ _ h => h) rfl ?_ hHeld ?_
    rotate_left
    · intro w' hSw
      go_simp
      try with_reducible rfl
    try simp only [Act.put, List.setIfInBounds_toArray, List.set_cons_zero, List.set_cons_succ]
    refine anyH_take (v := ?_) 22 rfl (by kernel_rfl) (by kernel_rfl) (by kernel_rfl) (fun _ _ _ h => h) rfl ?_ hHeld ?_
    rotate_left
    · intro w' hSw
      go_simp
      try with_reducible rfl
    try simp only [Act.put, List.setIfInBounds_toArray, List.set_cons_zero, List.set_cons_succ]
    refine wpAnyH_done (by kernel_rfl) ?_ _
    clear hHeld
    obtain ⟨v0, v1, v2, v3⟩ := g2.box4 0 rfl
    have f0 := g2.free 0 rfl 0
    have f1 := g2.free 0 rfl 1
    have f2 := g2.free 0 rfl 2
    have f3 := g2.free 0 rfl 3
    have h4 := (((g2.setBox 0 rfl 0 (.int .i64 0)).setBox 0 rfl 1 (.int .i64 0)).setBox 0 rfl 2 (.int .i64 0)).setBox 0 rfl 3 (.slice none 0 0)
    obtain ⟨r0, r1, r2, r3⟩ := h4.box4 0 rfl
    go_wp2
    refine bodyPost_ret (v := .tuple #[.agg #[.int .i64 0, .int .i64 0, .int .i64 0, .slice none 0 0], .bool false]) (by simp [results, Try.results52, go_sem, r0, r1, r2, r3]) rfl ⟨_, rfl, Own.nil, h4.below⟩
  have b0 : sbOk p n T ms p r c D = true := by rw [sbOk, b1, b2, decide_eq_true (rfl : p = p), decide_eq_true (show c = (mAt ms 0).r by rw [hs]; exact b4)]; rfl
  obtain ⟨rs, cs, rfl, ecs, i1, i2, iS, iR, k3', k4, k6⟩ := matOk_spec b2
  subst c
  have e6 : s = cs := by omega
  subst e6
  have hWr := Wf_rowsM (p := p) (by omega) (r := rs) (c := s) iR
  have hRf := spanL_rf k6 hWr
  have hL : sbL p s ms rs D = growTo (mvNext p s ms) s (spanL p s (rowsM rs s D)) := by simp [sbL]
  obtain ⟨R0, hR0⟩ : ∃ R0, R0 = spanL p s (rowsM rs s D) := ⟨_, rfl⟩
  rw [← hR0] at hL hRf
  obtain ⟨G, hG⟩ : ∃ G, G = growTo (mvNext p s ms) s R0 := ⟨_, rfl⟩
  rw [← hG] at hL
  rw [show sbP p n T ms p rs s D = p by simp [sbP, b0], show sbR p n T ms p rs s D = G.length by rw [sbR, if_pos b0, hL], show sbC p n T ms p rs s D = s by simp [sbC, b0], show sbD p n T ms p rs s D = flat s G by rw [sbD, if_pos b0, hL]; simp, b0]
  have HGr : Hid (GrowRun p s (mvNext p s ms) R0 G) := by show GrowRun p s (mvNext p s ms) R0 G; rw [hG]; exact GrowRun.start k3' (mv_grow k6 ms) hRf
  have HB1 := Lib.hid b1
  have HM := Lib.hid hM
  have Hn := Lib.hid (show n = (ms.length : Int) by rw [hn, hln])
  have HP := Lib.hid k6
  have HSp := Lib.hid (show ∀ (W : World) (v1 : Value), Ints W v1 D → Calls Try.prog 82 #[.agg #[.int .i64 p, .int .i64 rs, .int .i64 s, v1]] W (RetMat W p R0.length s (flat s R0)) from fun W v1 x1 => by
    rw [hR0]
    exact l1Span_any p rs s v1 D W x1 iS (by have := mul_le i1 i2; omega) (by omega) (by omega) k6 iR)
  have B1 := Lib.hid b1
  have B2 := Lib.hid b2
  clear b0 b1 b2 hL hG hR0 hRf hWr iR iS hn hln hs hA hM ecs k3' k4 k6
  go_enter Try.func52, Try.ntmps52
  go_upto_region 1 with fail
  have g0 := h1.drew
  refine wp_region_held_drew (S := fun w' => (w'.cell? ⟨w.heap.size, 0, none⟩ = some (.int .i64 p) ∧ w'.cell? ⟨w.heap.size, 1, none⟩ = some (.int .i64 n) ∧ w'.cell? ⟨w.heap.size, 2, none⟩ = some (.slice A T.length k)) ∧ (w'.cell? ⟨w.heap.size + 1, 0, none⟩ = some (.int .i64 p) ∧ w'.cell? ⟨w.heap.size + 1, 1, none⟩ = some (.int .i64 rs) ∧ w'.cell? ⟨w.heap.size + 1, 2, none⟩ = some (.int .i64 s) ∧ w'.cell? ⟨w.heap.size + 1, 3, none⟩ = some (.slice A3 D.length k3))) (by kernel_rfl) ⟨g0.box3 2 rfl, g0.box4 1 rfl⟩ (fun hHeld => ?_)
  refine anyH_take (v := ?_) 0 rfl (by kernel_rfl) (by kernel_rfl) (by kernel_rfl) (fun _ _ _ h => h) rfl ?_ hHeld ?_
  rotate_left
  · intro w' hSw
    go_simp
    try with_reducible rfl
  try simp only [Act.put, List.setIfInBounds_toArray, List.set_cons_zero, List.set_cons_succ]
  refine anyH_take (v := ?_) 1 rfl (by kernel_rfl) (by kernel_rfl) (by kernel_rfl) (fun _ _ _ h => h) rfl ?_ hHeld ?_
  rotate_left
  · intro w' hSw
    go_simp
    try with_reducible rfl
  try simp only [Act.put, List.setIfInBounds_toArray, List.set_cons_zero, List.set_cons_succ]
  refine wpAnyH_ready (rs := [2]) (by kernel_rfl) (by simp) ?_
  refine ready_cons rfl (fun K hK => ?_) AllReadyH.nil
  go_simp
  refine (HI.out _ (g0.roInts 5 rfl) (g0.fact 3 rfl)).mono ?_
  rintro (e : Ending) w1 ⟨rfl, hb1⟩
  have g1 := g0.on hb1
  rw [B1.out]
  clear hb1
  show K _ _
  refine hK.out _ _ ?_ (fun hHeld => ?_)
  · exact ⟨g1.box3 2 rfl, g1.box4 1 rfl⟩
  clear hK K
  try simp only [Act.put, List.setIfInBounds_toArray, List.set_cons_zero, List.set_cons_succ]
  refine anyH_take (v := ?_) 3 rfl (by kernel_rfl) (by kernel_rfl) (by kernel_rfl) (fun _ _ _ h => h) rfl ?_ hHeld ?_
  rotate_left
  · intro w' hSw
    go_simp
    try with_reducible rfl
  try simp only [Act.put, List.setIfInBounds_toArray, List.set_cons_zero, List.set_cons_succ]
  refine anyH_take (v := ?_) 4 rfl (by kernel_rfl) (by kernel_rfl) (by kernel_rfl) (fun _ _ _ h => h) rfl ?_ hHeld ?_
  rotate_left
  · intro w' hSw
    go_simp
    try with_reducible rfl
  try simp only [Act.put, List.setIfInBounds_toArray, List.set_cons_zero, List.set_cons_succ]
  refine anyH_take (v := ?_) 5 rfl (by kernel_rfl) (by kernel_rfl) (by kernel_rfl) (fun _ _ _ h => h) rfl ?_ hHeld ?_
  rotate_left
  · intro w' hSw
    go_simp
    try with_reducible rfl
  try simp only [Act.put, List.setIfInBounds_toArray, List.set_cons_zero, List.set_cons_succ]
  refine wpAnyH_ready (rs := [6]) (by kernel_rfl) (by simp) ?_
  refine ready_cons rfl (fun K hK => ?_) AllReadyH.nil
  go_simp
  refine (HMk.out _ (g1.roInts 4 rfl)).mono ?_
  rintro (e : Ending) w2 ⟨rfl, hb1⟩
  have g2 := g1.on hb1
  rw [B2.out]
  clear hb1
  show K _ _
  refine hK.out _ _ ?_ (fun hHeld => ?_)
  · exact ⟨g2.box3 2 rfl, g2.box4 1 rfl⟩
  clear hK K
  try simp only [Act.put, List.setIfInBounds_toArray, List.set_cons_zero, List.set_cons_succ]
  refine anyH_take (v := ?_) 7 rfl (by kernel_rfl) (by kernel_rfl) (by kernel_rfl) (fun _ _ _ h => h) rfl ?_ hHeld ?_
  rotate_left
  · intro w' hSw
    go_simp
    try with_reducible rfl
  try simp only [Act.put, List.setIfInBounds_toArray, List.set_cons_zero, List.set_cons_succ]
  refine anyH_take (v := ?_) 8 rfl (by kernel_rfl) (by kernel_rfl) (by kernel_rfl) (fun _ _ _ h => h) rfl ?_ hHeld ?_
  rotate_left
  · intro w' hSw
    go_simp
    try with_reducible rfl
  try simp only [Act.put, List.setIfInBounds_toArray, List.set_cons_zero, List.set_cons_succ]
  refine anyH_take (v := ?_) 9 rfl (by kernel_rfl) (by kernel_rfl) (by kernel_rfl) (fun _ _ _ h => h) rfl ?_ hHeld ?_
  rotate_left
  · intro w' hSw
    go_simp
    try with_reducible rfl
  try simp only [Act.put, List.setIfInBounds_toArray, List.set_cons_zero, List.set_cons_succ]
  refine anyH_take (v := ?_) 10 rfl (by kernel_rfl) (by kernel_rfl) (by kernel_rfl) (fun _ _ _ h => h) rfl ?_ hHeld ?_
  rotate_left
  · intro w' hSw
    go_simp
    try with_reducible rfl
  try simp only [Act.put, List.setIfInBounds_toArray, List.set_cons_zero, List.set_cons_succ]
  refine anyH_take (v := ?_) 11 rfl (by kernel_rfl) (by kernel_rfl) (by kernel_rfl) (fun _ _ _ h => h) rfl ?_ hHeld ?_
  rotate_left
  · intro w' hSw
    go_simp
    try with_reducible rfl
  try simp only [Act.put, List.setIfInBounds_toArray, List.set_cons_zero, List.set_cons_succ]
  refine anyH_take (v := ?_) 12 rfl (by kernel_rfl) (by kernel_rfl) (by kernel_rfl) (fun _ _ _ h => h) rfl ?_ hHeld ?_
  rotate_left
  · intro w' hSw
    go_simp
    try with_reducible rfl
  try simp only [Act.put, List.setIfInBounds_toArray, List.set_cons_zero, List.set_cons_succ]
  refine anyH_take (v := ?_) 13 rfl (by kernel_rfl) (by kernel_rfl) (by kernel_rfl) (fun _ _ _ h => h) rfl ?_ hHeld ?_
  rotate_left
  · intro w' hSw
    go_simp
    try with_reducible rfl
  try simp only [Act.put, List.setIfInBounds_toArray, List.set_cons_zero, List.set_cons_succ]
  refine anyH_take (v := ?_) 14 rfl (by kernel_rfl) (by kernel_rfl) (by kernel_rfl) (fun _ _ _ h => h) rfl ?_ hHeld ?_
  rotate_left
  · intro w' hSw
    go_simp
    try with_reducible rfl
  try simp only [Act.put, List.setIfInBounds_toArray, List.set_cons_zero, List.set_cons_succ]
  refine anyH_take (v := ?_) 15 rfl (by kernel_rfl) (by kernel_rfl) (by kernel_rfl) (fun _ _ _ h => h) rfl ?_ hHeld ?_
  rotate_left
  · intro w' hSw
    go_simp
    try with_reducible rfl
  try simp only [Act.put, List.setIfInBounds_toArray, List.set_cons_zero, List.set_cons_succ]
  refine anyH_take (v := ?_) 16 rfl (by kernel_rfl) (by kernel_rfl) (by kernel_rfl) (fun _ _ _ h => h) rfl ?_ hHeld ?_
  rotate_left
  · intro w' hSw
    go_simp
    try with_reducible rfl
  try simp only [Act.put, List.setIfInBounds_toArray, List.set_cons_zero, List.set_cons_succ]
  refine anyH_take (v := ?_) 17 rfl (by kernel_rfl) (by kernel_rfl) (by kernel_rfl) (fun _ _ _ h => h) rfl ?_ hHeld ?_
  rotate_left
  · intro w' hSw
    go_simp
    try with_reducible rfl
  try simp only [Act.put, List.setIfInBounds_toArray, List.set_cons_zero, List.set_cons_succ]
  refine anyH_take (v := ?_) 18 rfl (by kernel_rfl) (by kernel_rfl) (by kernel_rfl) (fun _ _ _ h => h) rfl ?_ hHeld ?_
  rotate_left
  · intro w' hSw
    go_simp
    try with_reducible rfl
  try simp only [Act.put, List.setIfInBounds_toArray, List.set_cons_zero, List.set_cons_succ]
  refine anyH_take (v := ?_) 19 rfl (by kernel_rfl) (by kernel_rfl) (by kernel_rfl) (fun _ _ _ h => h) rfl ?_ hHeld ?_
  rotate_left
  · intro w' hSw
    go_simp
    try with_reducible rfl
  try simp only [Act.put, List.setIfInBounds_toArray, List.set_cons_zero, List.set_cons_succ]
  refine wpAnyH_ready (rs := [20]) (by kernel_rfl) (by simp) ?_
  refine ready_cons rfl (fun K hK => ?_) AllReadyH.nil
  go_simp
  refine (HSz.out _ (g2.fact 3 rfl)).mono ?_
  rintro (e : Ending) w3 ⟨rfl, rfl⟩
  show K _ _
  refine hK.out _ _ ?_ (fun hHeld => ?_)
  · exact ⟨g2.box3 2 rfl, g2.box4 1 rfl⟩
  clear hK K
  try simp only [Act.put, List.setIfInBounds_toArray, List.set_cons_zero, List.set_cons_succ]
  refine anyH_take (v := ?_) 21 rfl (by kernel_rfl) (by kernel_rfl) (by kernel_rfl) (fun _ _ _ h => h) rfl ?_ hHeld ?_
  rotate_left
  · intro w' hSw
    go_simp
    try with_reducible rfl
  try simp only [Act.put, List.setIfInBounds_toArray, List.set_cons_zero, List.set_cons_succ]
  refine anyH_take (v := ?_) 22 rfl (by kernel_rfl) (by kernel_rfl) (by kernel_rfl) (fun _ _ _ h => h) rfl ?_ hHeld ?_
  rotate_left
  · intro w' hSw
    go_simp
    try with_reducible rfl
  try simp only [Act.put, List.setIfInBounds_toArray, List.set_cons_zero, List.set_cons_succ]
  refine wpAnyH_done (by kernel_rfl) ?_ _
  clear hHeld
  obtain ⟨x0, x1, x2, x3⟩ := g2.box4 1 rfl
  go_wp2_with fail
  refine (HSp.out _ _ (g2.roInts 4 rfl)).mono ?_
  rintro (e : Ending) w5 ⟨u5, rfl, ho5, hb5⟩
  obtain ⟨A6, n6, c6, rfl⟩ := ho5.slice
  have h3 := (g2.pushOwn hb5 ho5).box [.int .i64 p, .int .i64 R0.length, .int .i64 s, .slice A6 n6 c6] 32
  clear x0 x1 x2 x3 ho5 hb5 g0 g1 g2
  go_wp2
  generalize w5.heap.size = Bs at h3 ⊢
  go_loopg [] (s - R0.length) (fun gk wr => ∃ (R : List (List Int)) (Ad : Option Addr) (nd cd : Nat), Hid (s - R.length = gk) ∧ Hid (GrowRun p s (mvNext p s ms) R G) ∧ St w wr [.box Bs [.int .i64 p, .int .i64 R.length, .int .i64 s, .slice Ad nd cd], .own (.slice Ad nd cd) (flat s R), .box (w.heap.size + 1 + 1) [.int .i64 0, .int .i64 0, .int .i64 0, .slice none 0 0], .box (w.heap.size + 1) [.int .i64 p, .int .i64 rs, .int .i64 s, .slice A3 D.length k3], .box w.heap.size [.int .i64 p, .int .i64 n, .slice A T.length k], .fact (fun w' => MatsR w' (.slice A2 ms.length k2) ms), .ro (.slice A3 D.length k3) D, .ro (.slice A T.length k) T])
  case atStart => exact ⟨R0, A6, n6, c6, rfl, HGr, h3⟩
  case round =>
    clear h3
    obtain ⟨R, Ad, nd, cd, hlg, HR, h3⟩ := hrel
    obtain ⟨a, ha⟩ := HR.out.1
    have hMv := l10Moved_any p n s T.length k A (.slice A2 ms.length k2) (.slice Ad nd cd) R ms wr (h3.fact 5 rfl) (h3.ownInts 1 rfl) Hn.out ha hs30 hl0 HM.out HP.out
    obtain ⟨R2, hR2⟩ : ∃ R2, R2 = mvNext p s ms R := ⟨_, rfl⟩
    rw [← hR2] at hMv
    obtain ⟨l2, hl2⟩ : ∃ l2, l2 = R2.length := ⟨_, rfl⟩
    obtain ⟨r, hr⟩ : ∃ r, r = R.length := ⟨_, rfl⟩
    rw [← hl2, ← hr] at hMv
    rw [← hr] at h3
    have HMv := Lib.hid hMv
    have HR2 := Lib.hid hR2
    have Hl2 := Lib.hid hl2
    have Hr := Lib.hid hr
    clear hMv hR2 hl2 hr ha a
    obtain ⟨x0, x1, x2, x3⟩ := h3.box4 0 rfl
    obtain ⟨y0, y1, y2⟩ := h3.box3 4 rfl
    go_wp2_with fail
    refine HMv.out.mono ?_
    rintro (e : Ending) w6 ⟨u6, rfl, ho6, hb6⟩
    obtain ⟨A7, n7, c7, rfl⟩ := ho6.slice
    have h5 := (h3.pushOwn hb6 ho6).box [.int .i64 p, .int .i64 l2, .int .i64 s, .slice A7 n7 c7] 32
    clear x0 x1 x2 x3 y0 y1 y2 ho6 hb6 h3
    obtain ⟨x0, x1, x2, x3⟩ := h5.box4 0 rfl
    obtain ⟨z0, z1, z2, z3⟩ := h5.box4 2 rfl
    by_cases he : l2 = r
    · subst he
      obtain ⟨p0, p1, p2, p3⟩ := h5.box4 4 rfl
      have f0 := h5.free 4 rfl 0
      have f1 := h5.free 4 rfl 1
      have f2 := h5.free 4 rfl 2
      have f3 := h5.free 4 rfl 3
      have h6 := (((h5.setBox 4 rfl 0 (.int .i64 p)).setBox 4 rfl 1 (.int .i64 l2)).setBox 4 rfl 2 (.int .i64 s)).setBox 4 rfl 3 (.slice A7 n7 c7)
      obtain ⟨r0, r1, r2, r3⟩ := h6.box4 4 rfl
      go_wp2
      have hh := HR.out
      obtain ⟨a, ha⟩ := hh.1
      have hlen : (mvNext p s ms R).length = R.length := by rw [← HR2.out, ← Hl2.out, Hr.out]
      have e1 : R2 = G := by rw [HR2.out, (mv_grow HP.out ms).same (isPrime_bd HP.out).1 ha hlen]; exact hh.stop hlen
      rw [← e1, ← Hl2.out]
      refine bodyPost_ret (v := .tuple #[.agg #[.int .i64 p, .int .i64 l2, .int .i64 s, .slice A7 n7 c7], .bool true]) (by simp [results, Try.results52, go_sem, r0, r1, r2, r3]) rfl ⟨_, rfl, h6.own 1 rfl, h6.below⟩
    · have e1 : ((l2 : Int) == (r : Int)) = false := by rw [beq_eq_false_iff_ne]; omega
      have e2 : ¬ ((l2 : Int) = (r : Int)) := by omega
      obtain ⟨p0, p1, p2, p3⟩ := h5.box4 2 rfl
      have f0 := h5.free 2 rfl 0
      have f1 := h5.free 2 rfl 1
      have f2 := h5.free 2 rfl 2
      have f3 := h5.free 2 rfl 3
      have h6 := (((h5.setBox 2 rfl 0 (.int .i64 p)).setBox 2 rfl 1 (.int .i64 l2)).setBox 2 rfl 2 (.int .i64 s)).setBox 2 rfl 3 (.slice A7 n7 c7)
      obtain ⟨r0, r1, r2, r3⟩ := h6.box4 2 rfl
      go_wp2
      have hnx := HR.out.next (isPrime_bd HP.out).1 (mv_grow HP.out ms) (by rw [← HR2.out, ← Hl2.out, ← Hr.out]; exact he)
      rw [← HR2.out] at hnx
      go_roundg (s - R2.length)
      case measure => have := hlg.out; omega
      case rel => exact ⟨R2, A7, n7, c7, rfl, hnx.1, by rw [← Hl2.out]; exact (((h6.rid 3).rid 0).toFront 1 rfl)⟩
end
end Go.Proofs.Ytechjmckfedblaa
