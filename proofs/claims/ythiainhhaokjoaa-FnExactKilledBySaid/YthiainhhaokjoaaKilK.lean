/- l10Killed: the meets of the kernels of some matrices. -/
import Derived.Test.YthiainhhaokjoaaKilP
import Derived.Test.YthiainhhaokjoaaMeet
import Derived.Test.YthiainhhaokjoaaRegX
import Derived.Test.YthiainhhaokjoaaModS
namespace Go.Proofs.Ythiainhhaokjoaa
set_option maxRecDepth 100000
open Go.RowKit

set_option maxHeartbeats 8000000 in
theorem l10Killed_any (p : Int) (s : Nat) (v : Value) (ms : List Mt) (w : World) (hv : MatsR w v ms) (hOk : ∀ i, i < ms.length → (mAt ms i).p = p ∧ (mAt ms i).r = s ∧ (mAt ms i).c = s ∧ (mAt ms i).d.length = s * s ∧ resid p (mAt ms i).d = true) (hml : ms.length ≤ 4194304) (hs : s ≤ 30) (hP : isPrime p = true) :
    Calls Try.prog 81 #[.int .i64 p, .int .i64 s, v] w (RetMat w p (kilS p s (ms.map Mt.d) ms.length).length s (flat s (kilS p s (ms.map Mt.d) ms.length))) := by
  obtain ⟨hp, hp'⟩ := isPrime_bd hP
  obtain ⟨A, k, rfl, _, _, _⟩ := id hv
  have h1 := ((St.start w).pushFact hv.fact).box [.int .i64 0, .int .i64 0, .int .i64 0, .slice none 0 0] 40
  have HU := Lib.hid (fun W => l1Unit_any p s W hP (by omega))
  have HV := Lib.hid hv
  have hKs := fun (e : Nat) (he : e < ms.length) => (show kilS p s (ms.map Mt.d) (e + 1) = meetL p s (kilS p s (ms.map Mt.d) e) (kerL p s (colR s (mAt ms e).d)) by
    rw [kilS]
    congr 3
    simp [rowOf, mAt, List.getD_eq_getElem?_getD, he])
  have HKs := Lib.hid hKs
  have HKW := Lib.hid (fun e => kilS_Wf hP s (ms.map Mt.d) e)
  have HKl := Lib.hid (fun e => kilS_le hP s (ms.map Mt.d) e)
  have HM := Lib.hid hOk
  have HP := Lib.hid hP
  obtain ⟨X, hX⟩ : ∃ X, X = kilS p s (ms.map Mt.d) ms.length := ⟨_, rfl⟩
  rw [← hX]
  obtain ⟨Xl, hXl⟩ : ∃ Xl, Xl = X.length := ⟨_, rfl⟩
  rw [← hXl]
  have HX := Lib.hid hX
  have HXl := Lib.hid hXl
  clear hv hKs hOk hP hX hXl
  go_enter Try.func81, Try.ntmps81
  go_wp2_with fail
  refine (HU.out _).mono ?_
  rintro (e : Ending) w7 ⟨u7, rfl, ho7, hb7⟩
  obtain ⟨Ak, nk, ck, rfl⟩ := ho7.slice
  have h6 := (h1.pushOwn hb7 ho7).box [.int .i64 p, .int .i64 s, .int .i64 s, .slice Ak nk ck] 40
  clear h1 hb7 ho7
  go_wp2
  generalize hB9 : w7.heap.size = B9 at h6 ⊢
  clear hB9
  go_loopw [8] (fun v8 wr => ∃ (e : Nat) (Ak : Option Addr) (nk ck Kl : Nat) (K : List (List Int)), v8 = .int .i64 e ∧ e ≤ ms.length ∧ Hid (K = kilS p s (ms.map Mt.d) e ∧ Kl = K.length) ∧ St w wr [.box B9 [.int .i64 p, .int .i64 Kl, .int .i64 s, .slice Ak nk ck], .own (.slice Ak nk ck) (flat s K), .box w.heap.size [.int .i64 0, .int .i64 0, .int .i64 0, .slice none 0 0], .fact (fun w' => MatsR w' (.slice A ms.length k) ms)]) (fun v8 _ => ms.length - (intOf v8).toNat)
  case atStart => exact ⟨0, _, _, _, s, uniR s, rfl, by omega, Lib.hid ⟨rfl, (length_uniR s).symm⟩, by rw [flat_uniR]; exact h6⟩
  case round =>
    clear h6
    obtain ⟨e, Ak, nk, ck, Kl, K, rfl, a1, HK, g⟩ := hrel
    by_cases he : e < ms.length
    · obtain ⟨b, off, A9, c9, rfl, hm⟩ := HV.out.at (i := e) he
      rw [mAt_get he] at hm
      obtain ⟨u1, u2, u3, u4, u5⟩ := HM.out e he
      have hKs := HKs.out e he
      have hKW := HKW.out e
      have hKl := HKl.out e
      obtain ⟨hK1, hK2⟩ := HK.out
      rw [← hK1] at hKs hKW hKl
      obtain ⟨D, hD⟩ : ∃ D, D = (mAt ms e).d := ⟨_, rfl⟩
      have hmf : MtAt w b (off + e * 4) ⟨p, s, s, D⟩ (.slice A9 D.length c9) := by unfold MtAt at hm ⊢; rw [u1, u2, u3, ← hD] at hm; exact hm
      rw [← hD] at u4 u5 hKs
      have hss := mul_le hs hs
      have HT := Lib.hid (fun (W : World) (v1 : Value) (x1 : Ints W v1 D) => l1Transpose_any p s v1 D W x1 u4 hs HP.out u5)
      have hKer := fun (W : World) (v1 : Value) (x1 : Ints W v1 (trD s D)) => l1Kernel_any p s s v1 (trD s D) W x1 (length_trD _ _) (by omega) (by omega) (by omega) HP.out (resid_trD (by omega) u5)
      rw [show rowsM s s (trD s D) = colR s D from rfl] at hKer
      have hCW := Wf_kerL HP.out s (colR s D)
      have hCl : (kerL p s (colR s D)).length ≤ s := by obtain ⟨a, ha⟩ := kerL_rf HP.out s (colR s D); exact rf_le_n hp ha
      obtain ⟨C, hC⟩ : ∃ C, C = kerL p s (colR s D) := ⟨_, rfl⟩
      rw [← hC] at hKer hCW hCl hKs
      have hMt := fun (W : World) (v1 v2 : Value) (x1 : Ints W v1 (flat s K)) (x2 : Ints W v2 (flat s C)) => l1Meet_any p s v1 v2 K C W x1 x2 hKW hCW (by omega) (by omega) (by omega) HP.out
      rw [← hKs, ← hK2] at hMt
      obtain ⟨K2, hK3⟩ : ∃ K2, K2 = kilS p s (ms.map Mt.d) (e + 1) := ⟨_, rfl⟩
      rw [← hK3] at hMt
      obtain ⟨K2l, hK2l⟩ : ∃ K2l, K2l = K2.length := ⟨_, rfl⟩
      rw [← hK2l] at hMt
      obtain ⟨Cl, hCl2⟩ : ∃ Cl, Cl = C.length := ⟨_, rfl⟩
      rw [← hCl2] at hMt hKer
      have HKer := Lib.hid hKer
      have HMt := Lib.hid hMt
      have HK3 := Lib.hid hK3
      have HK2l := Lib.hid hK2l
      have h4 := g.pushOld hmf.fact
      have HF4 := Lib.hid (show ∀ w' : World, MtAt w' b (off + e * 4) ⟨p, s, s, D⟩ (.slice A9 D.length c9) → w'.cell? ⟨b, off + e * 4, none⟩ = some (.int .i64 p) ∧ w'.cell? ⟨b, off + e * 4 + 1, none⟩ = some (.int .i64 s) ∧ w'.cell? ⟨b, off + e * 4 + 2, none⟩ = some (.int .i64 s) ∧ w'.cell? ⟨b, off + e * 4 + 3, none⟩ = some (.slice A9 D.length c9) from fun w' h => ⟨h.1, h.2.1, h.2.2.1, h.2.2.2.1⟩)
      have ie : (e : Int) < (ms.length : Int) := by omega
      clear hm hmf hD hKs hKW hKl hK1 hK2 hKer hMt hC hCW hCl hCl2 hK3 hK2l u1 u2 u3 u4 u5 g HK hss
      go_upto_region 5 with fail
      have g0 := h4.drew
      refine wp_region_cut (S := fun w' => (w'.cell? ⟨B9, 0, none⟩ = some (.int .i64 p) ∧ w'.cell? ⟨B9, 1, none⟩ = some (.int .i64 Kl) ∧ w'.cell? ⟨B9, 2, none⟩ = some (.int .i64 s) ∧ w'.cell? ⟨B9, 3, none⟩ = some (.slice Ak nk ck)) ∧ w'.cell? ⟨b, off + e * 4, none⟩ = some (.int .i64 p) ∧ w'.cell? ⟨b, off + e * 4 + 1, none⟩ = some (.int .i64 s) ∧ w'.cell? ⟨b, off + e * 4 + 2, none⟩ = some (.int .i64 s) ∧ w'.cell? ⟨b, off + e * 4 + 3, none⟩ = some (.slice A9 D.length c9)) 8 (by kernel_rfl) (by kernel_rfl) ⟨g0.box4 1 rfl, HF4.out _ (g0.fact 0 rfl)⟩ (fun hHeld => ?_)
      simp only [List.take_succ_cons, List.take_zero]
      refine anyH_take (v := ?_) 0 rfl (by kernel_rfl) (by kernel_rfl) (by kernel_rfl) (fun _ _ _ h => h) rfl ?_ hHeld ?_
      rotate_left
      · intro w' hSw
        go_simp
        try with_reducible rfl
      try simp only [Act.put, List.setIfInBounds_toArray, List.set_cons_zero, List.set_cons_succ]
      refine anyH_take (v := ?_) 1 rfl (by kernel_rfl) (by kernel_rfl) (by kernel_rfl) (fun _ _ _ h => h) rfl ?_ hHeld ?_
      rotate_left
      · intro w' hSw
        go_simp
        try with_reducible rfl
      try simp only [Act.put, List.setIfInBounds_toArray, List.set_cons_zero, List.set_cons_succ]
      refine anyH_take (v := ?_) 2 rfl (by kernel_rfl) (by kernel_rfl) (by kernel_rfl) (fun _ _ _ h => h) rfl ?_ hHeld ?_
      rotate_left
      · intro w' hSw
        go_simp
        try with_reducible rfl
      try simp only [Act.put, List.setIfInBounds_toArray, List.set_cons_zero, List.set_cons_succ]
      refine anyH_take (v := ?_) 3 rfl (by kernel_rfl) (by kernel_rfl) (by kernel_rfl) (fun _ _ _ h => h) rfl ?_ hHeld ?_
      rotate_left
      · intro w' hSw
        go_simp
        try with_reducible rfl
      try simp only [Act.put, List.setIfInBounds_toArray, List.set_cons_zero, List.set_cons_succ]
      refine anyH_take (v := ?_) 4 rfl (by kernel_rfl) (by kernel_rfl) (by kernel_rfl) (fun _ _ _ h => h) rfl ?_ hHeld ?_
      rotate_left
      · intro w' hSw
        go_simp
        try with_reducible rfl
      try simp only [Act.put, List.setIfInBounds_toArray, List.set_cons_zero, List.set_cons_succ]
      refine wpAnyH_ready (rs := [5]) (by kernel_rfl) (by simp) ?_
      refine ready_cons rfl (fun K hK => ?_) AllReadyH.nil
      go_simp
      refine (HT.out _ _ (g0.fact 0 rfl).2.2.2.2).mono ?_
      rintro (e : Ending) w8 ⟨u8, rfl, ho8, hb8⟩
      obtain ⟨A10, n10, c10, rfl⟩ := ho8.slice
      have g1 := g0.pushOwn hb8 ho8
      show K _ _
      refine hK.out _ _ ?_ (fun hHeld => ?_)
      · exact ⟨g1.box4 2 rfl, HF4.out _ (g1.fact 1 rfl)⟩
      clear hK K
      try simp only [Act.put, List.setIfInBounds_toArray, List.set_cons_zero, List.set_cons_succ]
      refine wpAnyH_ready (rs := [6]) (by kernel_rfl) (by simp) ?_
      refine ready_cons rfl (fun K hK => ?_) AllReadyH.nil
      go_simp
      refine (HKer.out _ _ (g1.ownInts 0 rfl)).mono ?_
      rintro (e : Ending) w9 ⟨u9, rfl, ho9, hb9⟩
      obtain ⟨A11, n11, c11, rfl⟩ := ho9.slice
      have g2 := g1.pushOwn hb9 ho9
      show K _ _
      refine hK.out _ _ ?_ (fun hHeld => ?_)
      · exact ⟨g2.box4 3 rfl, HF4.out _ (g2.fact 2 rfl)⟩
      clear hK K
      try simp only [Act.put, List.setIfInBounds_toArray, List.set_cons_zero, List.set_cons_succ]
      refine wpAnyH_ready (rs := [7]) (by kernel_rfl) (by simp) ?_
      refine ready_cons rfl (fun K hK => ?_) AllReadyH.nil
      go_simp
      refine (HMt.out _ _ _ (g2.ownInts 4 rfl) (g2.ownInts 0 rfl)).mono ?_
      rintro (e : Ending) w10 ⟨u10, rfl, ho10, hb10⟩
      obtain ⟨A12, n12, c12, rfl⟩ := ho10.slice
      have g3 := g2.pushOwn hb10 ho10
      show K _ _
      refine hK.out _ _ ?_ (fun hHeld => ?_)
      · exact ⟨g3.box4 4 rfl, HF4.out _ (g3.fact 3 rfl)⟩
      clear hK K
      try simp only [Act.put, List.setIfInBounds_toArray, List.set_cons_zero, List.set_cons_succ]
      refine wpAnyH_done (by kernel_rfl) ?_ _
      show wpList _ _ _ _ _ _
      simp only [List.drop_succ_cons, List.drop_zero]
      clear hHeld
      clear h4 g0 g1 g2 ho8 hb8 ho9 hb9 ho10 hb10
      obtain ⟨p0, p1, p2, p3⟩ := g3.box4 4 rfl
      have f0 := g3.free 4 rfl 0
      have f1 := g3.free 4 rfl 1
      have f2 := g3.free 4 rfl 2
      have f3 := g3.free 4 rfl 3
      have g5 := (((g3.setBox 4 rfl 0 (.int .i64 p)).setBox 4 rfl 1 (.int .i64 K2l)).setBox 4 rfl 2 (.int .i64 s)).setBox 4 rfl 3 (.slice A12 n12 c12)
      obtain ⟨r0, r1, r2, r3⟩ := g5.box4 4 rfl
      go_wp2
      go_roundw
      case rel => exact ⟨e + 1, _, _, _, K2l, K2, by go_num, by omega, Lib.hid ⟨HK3.out, HK2l.out⟩, g5.re [4, 0, 6, 7] (by decide) (fun j => by rcases j with _ | _ | _ | _ | j <;> rfl)⟩
      case measure => simp [intOf]; omega
    · obtain rfl : e = ms.length := by omega
      obtain ⟨hK1, hK2⟩ := HK.out
      rw [← HX.out] at hK1
      subst hK1
      rw [← HXl.out] at hK2
      subst hK2
      obtain ⟨y0, y1, y2, y3⟩ := g.box4 0 rfl
      obtain ⟨p0, p1, p2, p3⟩ := g.box4 2 rfl
      have f0 := g.free 2 rfl 0
      have f1 := g.free 2 rfl 1
      have f2 := g.free 2 rfl 2
      have f3 := g.free 2 rfl 3
      have g5 := (((g.setBox 2 rfl 0 (.int .i64 p)).setBox 2 rfl 1 (.int .i64 Kl)).setBox 2 rfl 2 (.int .i64 s)).setBox 2 rfl 3 (.slice Ak nk ck)
      obtain ⟨r0, r1, r2, r3⟩ := g5.box4 2 rfl
      go_wp2
      refine bodyPost_ret (v := .agg #[.int .i64 p, .int .i64 Kl, .int .i64 s, .slice Ak nk ck]) (by simp [results, Try.results81, go_sem, r0, r1, r2, r3]) rfl ⟨_, rfl, g5.own 1 rfl, g5.below⟩
end Go.Proofs.Ythiainhhaokjoaa
