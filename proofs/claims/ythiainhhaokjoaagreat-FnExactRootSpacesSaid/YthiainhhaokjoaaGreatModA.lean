/- IsModule of the program. MatrixOf of both programs. What functions leave that return matrices and a Bool; what the walks want of a module. -/
import Derived.Test.YthiainhhaokjoaaGreatModS
import Derived.Test.YthiainhhaokjoaaGreatAdjA
namespace Go.Proofs.YthiainhhaokjoaaGreat
set_option maxRecDepth 100000
section
open Go.RowKit

set_option maxHeartbeats 8000000 in
theorem IsModuleI_any (p n : Int) (t v : Value) (T : List Int) (ms : List Mt) (w : World) (ht : Ints w t T) (hv : MatsR w v ms) (hp0 : p ≤ 9223372036854775807) (hw : ∀ i, i < ms.length → (mAt ms i).p ≤ 9223372036854775807) :
    Calls Tryz.prog 58 #[.agg #[.int .i64 p, .int .i64 n, t], v] w (RetBool w (isMod p n T ms)) := by
  have h1 := (((St.start w).arg ht).pushFact hv.fact).box [.int .i64 p, .int .i64 n, t] 33
  obtain ⟨A, k, rfl, _, _, _⟩ := id ht
  obtain ⟨A2, k2, rfl, _, _, _⟩ := id hv
  by_cases b1 : algOk p n T = true
  case neg =>
    have b1 : algOk p n T = false := by simpa using b1
    rw [show isMod p n T ms = false by simp [isMod, modHead, b1]]
    clear ht hv hw
    obtain ⟨z0, z1, z2⟩ := h1.box3 0 rfl
    go_enter Tryz.func58, Tryz.ntmps58
    go_wp2_with fail
    refine (AlgebraOkI_any p n _ T _ (h1.roInts 2 rfl) hp0).mono ?_
    rintro e wn ⟨rfl, hb1⟩
    replace h1 := h1.on hb1
    clear hb1
    go_wp2
    go_ret
    exact ⟨rfl, h1.below⟩
  by_cases b2 : n = 0
  case pos =>
    rw [show isMod p n T ms = false by simp [isMod, modHead, b2]]
    have e2 : (n == 0) = true := by simp [b2]
    clear ht hv hw b2
    obtain ⟨z0, z1, z2⟩ := h1.box3 0 rfl
    go_enter Tryz.func58, Tryz.ntmps58
    go_wp2_with fail
    refine (AlgebraOkI_any p n _ T _ (h1.roInts 2 rfl) hp0).mono ?_
    rintro e wn ⟨rfl, hb1⟩
    replace h1 := h1.on hb1
    clear hb1
    clear z0 z1 z2
    obtain ⟨z0, z1, z2⟩ := h1.box3 0 rfl
    go_wp2
    go_ret
    exact ⟨rfl, h1.below⟩
  by_cases b3 : (ms.length : Int) = n
  case neg =>
    rw [show isMod p n T ms = false by simp [isMod, modHead, b3]]
    have e2 : (n == 0) = false := by simp [b2]
    have e3 : ((ms.length : Int) != n) = true := by simp [b3]
    clear ht hv hw b2 b3
    obtain ⟨z0, z1, z2⟩ := h1.box3 0 rfl
    go_enter Tryz.func58, Tryz.ntmps58
    go_wp2_with fail
    refine (AlgebraOkI_any p n _ T _ (h1.roInts 2 rfl) hp0).mono ?_
    rintro e wn ⟨rfl, hb1⟩
    replace h1 := h1.on hb1
    clear hb1
    clear z0 z1 z2
    obtain ⟨z0, z1, z2⟩ := h1.box3 0 rfl
    go_wp2
    go_ret
    exact ⟨rfl, h1.below⟩
  obtain ⟨N, rfl, k1, kT, k3, k4, k5, k6⟩ := algOk_spec b1
  have hN : ms.length = N := by omega
  have hN0 : 0 < N := by omega
  obtain ⟨m0, ms, rfl⟩ : ∃ a l, ms = a :: l := by cases ms with | nil => simp at hN; omega | cons a l => exact ⟨a, l, rfl⟩
  obtain ⟨R, hR⟩ : ∃ R, R = isMod p N T (m0 :: ms) := ⟨_, rfl⟩
  rw [← hR]
  have hm0 : mAt (m0 :: ms) 0 = m0 := rfl
  obtain ⟨K0, hK0⟩ : ∃ K0, K0 = modComs p N T (m0 :: ms) := ⟨_, rfl⟩
  have HR : Hid (R = (allF (fun i => mtOk p m0.r (mAt (m0 :: ms) i)) (N - 0) 0 && K0)) := by
    show _ = _
    rw [hR, isMod, modHead, b1, hK0, modMats, hm0, Int.toNat_natCast, Nat.sub_zero, show decide ((N : Int) ≠ 0 ∧ ((m0 :: ms).length : Int) = N) = true from decide_eq_true ⟨b2, b3⟩]
    rfl
  have HK0 : Hid (K0 = allF (fun i => allF (comAt p m0.r.toNat N T (m0 :: ms) i) i 0) (N - 0) 0) := by show _ = _; rw [hK0, modComs, hm0, Int.toNat_natCast]; rfl
  obtain ⟨b0, off0, A8, k8, rfl, hmt0⟩ := hv.at (i := 0) (by simp)
  replace h1 := h1.pushOld (R := fun w' => w'.cell? ⟨b0, off0 + 1, none⟩ = some (.int .i64 m0.r)) (fun w' hk => (World.cell?_of_block (hk _ (World.block_lt_of_cell? w _ hmt0.2.1))).trans hmt0.2.1)
  have HV := Lib.hid hv
  have HW := Lib.hid hw
  have HT := Lib.hid kT
  have HN := Lib.hid hN
  have e2 : ((N : Int) == 0) = false := by simp; omega
  have e3 : ((ms.length : Int) + 1 != N) = false := by
    rw [show (ms.length : Int) + 1 = N by rw [← hN]; simp]
    simp
  have i0 : (0 : Int) < (ms.length : Int) + 1 := by omega
  have hlen : (ms.length : Int) + 1 = N := by rw [← hN]; simp
  have B1 := Lib.hid b1
  have HLen := Lib.hid hlen
  clear ht hv hw hR hm0 hK0 hmt0 kT b2 b3 hN b1 hlen
  obtain ⟨z0, z1, z2⟩ := h1.box3 1 rfl
  go_enter Tryz.func58, Tryz.ntmps58
  go_wp2_with fail
  refine (AlgebraOkI_any p N _ T _ (h1.roInts 3 rfl) hp0).mono ?_
  rintro (e : Ending) w1 ⟨rfl, hb1⟩
  replace h1 := h1.on hb1
  rw [B1.out]
  clear hb1 z0 z1 z2
  obtain ⟨z0, z1, z2⟩ := h1.box3 1 rfl
  have y0 := h1.fact 0 rfl
  go_wp2
  clear z0 z1 z2 y0
  go_loopw [33] (fun v5 wr => ∃ i : Nat, v5 = .int .i64 i ∧ i ≤ N ∧ Hid (∀ k, k < i → mtOk p m0.r (mAt (m0 :: ms) k) = true) ∧ Hid (R = (allF (fun i => mtOk p m0.r (mAt (m0 :: ms) i)) (N - i) i && K0)) ∧ St w wr [.fact (fun w' => w'.cell? ⟨b0, off0 + 1, none⟩ = some (.int .i64 m0.r)), .box w.heap.size [.int .i64 p, .int .i64 N, .slice A T.length k], .fact (fun w' => MatsR w' (.slice (some ⟨b0, off0, none⟩) (m0 :: ms).length k2) (m0 :: ms)), .ro (.slice A T.length k) T]) (fun v5 _ => N - (intOf v5).toNat)
  case atStart => exact ⟨0, rfl, by omega, fun k hk => absurd hk (Nat.not_lt_zero k), HR, h1⟩
  case round =>
    clear h1 HR
    obtain ⟨i, rfl, a1, HAll, HR, h1⟩ := hrel
    by_cases hi : i < N
    · have him : i < (m0 :: ms).length := by rw [HN.out]; exact hi
      obtain ⟨b9, off9, A9, c9, hbo, hm⟩ := HV.out.at (i := i) him
      simp only [Option.some.injEq, Addr.mk.injEq, and_true] at hbo
      obtain ⟨rfl, rfl⟩ := hbo
      rw [mAt_get him] at hm
      have hmw := HW.out i him
      have hst := HR.out
      rw [allF_step hi] at hst
      obtain ⟨m, hmm⟩ : ∃ m, m = mAt (m0 :: ms) i := ⟨_, rfl⟩
      have HMm := Lib.hid hmm
      have iM2 : (i : Int) < (ms.length : Int) + 1 := by rw [HLen.out]; omega
      have HS1 : Hid (R = (mtOk p m0.r m && (allF (fun i => mtOk p m0.r (mAt (m0 :: ms) i)) (N - (i + 1)) (i + 1) && K0))) := by show _ = _; rw [hst, hmm, Bool.and_assoc]
      rw [← hmm] at hm hmw
      have h2 := pushMt h1 hm
      have hIn : IntsB w w.heap.size (.slice A9 m.d.length c9) m.d := hm.2.2.2.2.toB
      have HI := Lib.hid hIn
      clear hst hmm hm hIn him h1 HR
      by_cases b4 : matOk m.p m.r m.c m.d = true
      case neg =>
        have B4 : Hid (matOk m.p m.r m.c m.d = false) := by show _ = _; simpa using b4
        have HF : Hid (R = false) := by show _ = _; rw [HS1.out, mtOk, B4.out]; simp
        clear b4
        obtain ⟨q0, q1, q2, q3⟩ := h2.fact 0 rfl
        have h3 := h2.box [.int .i64 m.p, .int .i64 m.r, .int .i64 m.c, .slice A9 m.d.length c9] 35
        obtain ⟨x0, x1, x2, x3⟩ := h3.box4 0 rfl
        go_wp2_with fail
        refine (MatrixOkI_any m.p m.r m.c _ m.d _ (HI.out.below h3.below (Nat.le_refl _)).ints hmw).mono ?_
        rintro (e : Ending) w2 ⟨rfl, hb2⟩
        have h4 := h3.on hb2
        rw [B4.out]
        clear hb2 x0 x1 x2 x3 q0 q1 q2 q3 h2 h3
        obtain ⟨x0, x1, x2, x3⟩ := h4.box4 0 rfl
        obtain ⟨z0, z1, z2⟩ := h4.box3 3 rfl
        have g1 := h4.drop 1
        go_wp2
        go_ret
        exact ⟨ret_bool HF.out.symm, g1.below⟩
      have B4 := Lib.hid b4
      clear b4
      by_cases c1 : m.p = p
      case neg =>
        have t1 : (m.p != p) = true := by simp [c1]
        have HF : Hid (R = false) := by
          show _ = _
          rw [HS1.out, mtOk, show decide (m.p = p ∧ m.r = m0.r ∧ m.c = m0.r ∧ m0.r ≤ 30) = false from decide_eq_false (fun h => c1 h.1)]
          simp
        clear c1
        obtain ⟨q0, q1, q2, q3⟩ := h2.fact 0 rfl
        have h3 := h2.box [.int .i64 m.p, .int .i64 m.r, .int .i64 m.c, .slice A9 m.d.length c9] 35
        obtain ⟨x0, x1, x2, x3⟩ := h3.box4 0 rfl
        go_wp2_with fail
        refine (MatrixOkI_any m.p m.r m.c _ m.d _ (HI.out.below h3.below (Nat.le_refl _)).ints hmw).mono ?_
        rintro (e : Ending) w2 ⟨rfl, hb2⟩
        have h4 := h3.on hb2
        rw [B4.out]
        clear hb2 x0 x1 x2 x3 q0 q1 q2 q3 h2 h3
        obtain ⟨x0, x1, x2, x3⟩ := h4.box4 0 rfl
        obtain ⟨z0, z1, z2⟩ := h4.box3 3 rfl
        have g1 := h4.drop 1
        go_wp2
        go_ret
        exact ⟨ret_bool HF.out.symm, g1.below⟩
      have t1 : (m.p != p) = false := by simp [c1]
      by_cases c2 : m.r = m0.r
      case neg =>
        have t2 : (m.r != m0.r) = true := by simp [c2]
        have HF : Hid (R = false) := by
          show _ = _
          rw [HS1.out, mtOk, show decide (m.p = p ∧ m.r = m0.r ∧ m.c = m0.r ∧ m0.r ≤ 30) = false from decide_eq_false (fun h => c2 (by omega))]
          simp
        clear c1 c2
        obtain ⟨q0, q1, q2, q3⟩ := h2.fact 0 rfl
        have h3 := h2.box [.int .i64 m.p, .int .i64 m.r, .int .i64 m.c, .slice A9 m.d.length c9] 35
        obtain ⟨x0, x1, x2, x3⟩ := h3.box4 0 rfl
        go_wp2_with fail
        refine (MatrixOkI_any m.p m.r m.c _ m.d _ (HI.out.below h3.below (Nat.le_refl _)).ints hmw).mono ?_
        rintro (e : Ending) w2 ⟨rfl, hb2⟩
        have h4 := h3.on hb2
        rw [B4.out]
        clear hb2 x0 x1 x2 x3 q0 q1 q2 q3 h2 h3
        obtain ⟨x0, x1, x2, x3⟩ := h4.box4 0 rfl
        obtain ⟨z0, z1, z2⟩ := h4.box3 3 rfl
        have g1 := h4.drop 1
        go_wp2
        go_ret
        exact ⟨ret_bool HF.out.symm, g1.below⟩
      have t2 : (m.r != m0.r) = false := by simp [c2]
      by_cases c3 : m.c = m0.r
      case neg =>
        have t3 : (m.c != m0.r) = true := by simp [c3]
        have HF : Hid (R = false) := by
          show _ = _
          rw [HS1.out, mtOk, show decide (m.p = p ∧ m.r = m0.r ∧ m.c = m0.r ∧ m0.r ≤ 30) = false from decide_eq_false (fun h => c3 (by omega))]
          simp
        clear c1 c2 c3
        obtain ⟨q0, q1, q2, q3⟩ := h2.fact 0 rfl
        have h3 := h2.box [.int .i64 m.p, .int .i64 m.r, .int .i64 m.c, .slice A9 m.d.length c9] 35
        obtain ⟨x0, x1, x2, x3⟩ := h3.box4 0 rfl
        go_wp2_with fail
        refine (MatrixOkI_any m.p m.r m.c _ m.d _ (HI.out.below h3.below (Nat.le_refl _)).ints hmw).mono ?_
        rintro (e : Ending) w2 ⟨rfl, hb2⟩
        have h4 := h3.on hb2
        rw [B4.out]
        clear hb2 x0 x1 x2 x3 q0 q1 q2 q3 h2 h3
        obtain ⟨x0, x1, x2, x3⟩ := h4.box4 0 rfl
        obtain ⟨z0, z1, z2⟩ := h4.box3 3 rfl
        have g1 := h4.drop 1
        go_wp2
        go_ret
        exact ⟨ret_bool HF.out.symm, g1.below⟩
      have t3 : (m.c != m0.r) = false := by simp [c3]
      by_cases c4 : m0.r ≤ 30
      case neg =>
        have t4 : (30 : Int) < m0.r := by omega
        have HF : Hid (R = false) := by
          show _ = _
          rw [HS1.out, mtOk, show decide (m.p = p ∧ m.r = m0.r ∧ m.c = m0.r ∧ m0.r ≤ 30) = false from decide_eq_false (fun h => c4 (by omega))]
          simp
        clear c1 c2 c3 c4
        obtain ⟨q0, q1, q2, q3⟩ := h2.fact 0 rfl
        have h3 := h2.box [.int .i64 m.p, .int .i64 m.r, .int .i64 m.c, .slice A9 m.d.length c9] 35
        obtain ⟨x0, x1, x2, x3⟩ := h3.box4 0 rfl
        go_wp2_with fail
        refine (MatrixOkI_any m.p m.r m.c _ m.d _ (HI.out.below h3.below (Nat.le_refl _)).ints hmw).mono ?_
        rintro (e : Ending) w2 ⟨rfl, hb2⟩
        have h4 := h3.on hb2
        rw [B4.out]
        clear hb2 x0 x1 x2 x3 q0 q1 q2 q3 h2 h3
        obtain ⟨x0, x1, x2, x3⟩ := h4.box4 0 rfl
        obtain ⟨z0, z1, z2⟩ := h4.box3 3 rfl
        have g1 := h4.drop 1
        go_wp2
        go_ret
        exact ⟨ret_bool HF.out.symm, g1.below⟩
      have t4 : ¬ ((30 : Int) < m0.r) := by omega
      have hmt : mtOk p m0.r m = true := by
        rw [mtOk, B4.out, show decide (m.p = p ∧ m.r = m0.r ∧ m.c = m0.r ∧ m0.r ≤ 30) = true from decide_eq_true (by omega)]; rfl
      have HS2 : Hid (R = (allF (fun i => mtOk p m0.r (mAt (m0 :: ms) i)) (N - (i + 1)) (i + 1) && K0)) := by show _ = _; rw [HS1.out, hmt, Bool.true_and]
      have HAll2 : Hid (∀ k, k < i + 1 → mtOk p m0.r (mAt (m0 :: ms) k) = true) := fun k hk => by
        rcases Nat.lt_or_ge k i with h | h
        · exact HAll.out k h
        · obtain rfl : k = i := by omega
          rw [← HMm.out]; exact hmt
      clear c1 c2 c3 c4 hmt
      obtain ⟨q0, q1, q2, q3⟩ := h2.fact 0 rfl
      have h3 := h2.box [.int .i64 m.p, .int .i64 m.r, .int .i64 m.c, .slice A9 m.d.length c9] 35
      obtain ⟨x0, x1, x2, x3⟩ := h3.box4 0 rfl
      go_wp2_with fail
      refine (MatrixOkI_any m.p m.r m.c _ m.d _ (HI.out.below h3.below (Nat.le_refl _)).ints hmw).mono ?_
      rintro (e : Ending) w2 ⟨rfl, hb2⟩
      have h4 := h3.on hb2
      rw [B4.out]
      clear hb2 x0 x1 x2 x3 q0 q1 q2 q3 h2 h3
      obtain ⟨x0, x1, x2, x3⟩ := h4.box4 0 rfl
      obtain ⟨z0, z1, z2⟩ := h4.box3 3 rfl
      have g1 := h4.drop 1
      go_wp2
      go_roundw
      case rel => exact ⟨i + 1, by go_num, by omega, HAll2, HS2, g1.drop 1⟩
      case measure => simp [intOf]; omega
    · obtain rfl : i = N := by omega
      obtain ⟨s, hs, hs30, hMs⟩ := mats_spec HN.out hN0 HAll.out
      have HM := Lib.hid hMs
      have HRK : Hid (R = allF (fun a => allF (comAt p s i T (m0 :: ms) a) a 0) (i - 0) 0) := by
        show _ = _
        rw [HR.out, Nat.sub_self, allF, Bool.true_and, HK0.out, hs, Int.toNat_natCast]
      have Hs := Lib.hid hs
      have iM2 : ¬ ((i : Int) < (ms.length : Int) + 1) := by rw [HLen.out]; omega
      clear hs hMs HR HAll
      obtain ⟨z0, z1, z2⟩ := h1.box3 1 rfl
      go_wp2_with fail
      refine (newLie_any p i _ _ _ _ _ rfl).mono ?_
      rintro (e : Ending) w9 ⟨rfl, hb9⟩
      replace h1 := (h1.on hb9).box [.int .i64 p, .int .i64 i, .slice A T.length k] 68
      clear hb9 z0 z1 z2
      obtain ⟨z0, z1, z2⟩ := h1.box3 2 rfl
      go_wp2
      clear z0 z1 z2
      go_loopw [68] (fun v6 wr => ∃ a : Nat, v6 = .int .i64 a ∧ a ≤ i ∧ Hid (R = allF (fun a => allF (comAt p s i T (m0 :: ms) a) a 0) (i - a) a) ∧ St w wr [.box w9.heap.size [.int .i64 p, .int .i64 i, .slice A T.length k], .fact (fun w' => w'.cell? ⟨b0, off0 + 1, none⟩ = some (.int .i64 m0.r)), .box w.heap.size [.int .i64 p, .int .i64 i, .slice A T.length k], .fact (fun w' => MatsR w' (.slice (some ⟨b0, off0, none⟩) (m0 :: ms).length k2) (m0 :: ms)), .ro (.slice A T.length k) T]) (fun v6 _ => i - (intOf v6).toNat)
      case atStart => exact ⟨0, rfl, by omega, HRK, h1⟩
      case round =>
        clear h1 HRK
        obtain ⟨a, rfl, a2, HRK, h1⟩ := hrel
        obtain ⟨z0, z1, z2⟩ := h1.box3 2 rfl
        by_cases ha : a < i
        · obtain ⟨K1, hK1⟩ : ∃ K1, K1 = allF (fun a => allF (comAt p s i T (m0 :: ms) a) a 0) (i - (a + 1)) (a + 1) := ⟨_, rfl⟩
          have HM1 : Hid (R = (allF (comAt p s i T (m0 :: ms) a) (a - 0) 0 && K1)) := by
            have := HRK.out
            rw [allF_step ha, ← hK1] at this
            exact this
          have HK1 := Lib.hid hK1
          clear hK1 HRK
          go_wp2
          clear z0 z1 z2
          go_loopw [72] (fun v7 wr => ∃ j : Nat, v7 = .int .i64 j ∧ j ≤ a ∧ Hid (R = (allF (comAt p s i T (m0 :: ms) a) (a - j) j && K1)) ∧ St w wr [.box w9.heap.size [.int .i64 p, .int .i64 i, .slice A T.length k], .fact (fun w' => w'.cell? ⟨b0, off0 + 1, none⟩ = some (.int .i64 m0.r)), .box w.heap.size [.int .i64 p, .int .i64 i, .slice A T.length k], .fact (fun w' => MatsR w' (.slice (some ⟨b0, off0, none⟩) (m0 :: ms).length k2) (m0 :: ms)), .ro (.slice A T.length k) T]) (fun v7 _ => a - (intOf v7).toNat)
          case atStart => exact ⟨0, rfl, by omega, HM1, h1⟩
          case round =>
            clear h1 HM1
            obtain ⟨j, rfl, a3, HM2, h1⟩ := hrel
            by_cases hj : j < a
            · have hst := HM2.out
              rw [allF_step hj, Bool.and_assoc] at hst
              obtain ⟨bb, hbb⟩ : ∃ bb, bb = comAt p s i T (m0 :: ms) a j := ⟨_, rfl⟩
              rw [← hbb] at hst
              have HST := Lib.hid hst
              have hia : a < (m0 :: ms).length := by rw [HN.out]; exact ha
              have hij : j < (m0 :: ms).length := by rw [HN.out]; omega
              obtain ⟨b9, off9, A9, c9, hbo, hma⟩ := HV.out.at (i := a) hia
              simp only [Option.some.injEq, Addr.mk.injEq, and_true] at hbo
              obtain ⟨rfl, rfl⟩ := hbo
              obtain ⟨b7, off7, A7, c7, hbo, hmj⟩ := HV.out.at (i := j) hij
              simp only [Option.some.injEq, Addr.mk.injEq, and_true] at hbo
              obtain ⟨rfl, rfl⟩ := hbo
              obtain ⟨g1, g2, g3, g4, g5⟩ := HM.out a hia
              obtain ⟨f1, f2, f3, f4, f5⟩ := HM.out j hij
              rw [mAt_get hia] at hma g1 g2 g3 g4 g5
              rw [mAt_get hij] at hmj f1 f2 f3 f4 f5
              have h2 := pushMt (pushMt h1 hma) hmj
              obtain ⟨Da, hDa⟩ : ∃ Da, Da = (mAt (m0 :: ms) a).d := ⟨_, rfl⟩
              obtain ⟨Dj, hDj⟩ : ∃ Dj, Dj = (mAt (m0 :: ms) j).d := ⟨_, rfl⟩
              have HIa : Hid (IntsB w w.heap.size (.slice A9 Da.length c9) Da) := by rw [hDa]; exact hma.2.2.2.2.toB
              have HIj : Hid (IntsB w w.heap.size (.slice A7 Dj.length c7) Dj) := by rw [hDj]; exact hmj.2.2.2.2.toB
              rw [g1, g2, g3, ← hDa, f1, f2, f3, ← hDj] at h2
              rw [← hDa] at g4 g5
              rw [← hDj] at f4 f5
              have hBB : Hid (bb = decide (sumMTo p (s * s) (rowT T i a j) ((m0 :: ms).map Mt.d) i = comD p s Dj Da)) := by show _ = _; rw [hbb, comAt, hDa, hDj]
              have hss := mul_le (show s ≤ 40 by omega) (show s ≤ 40 by omega)
              have iA : (a : Int) < (ms.length : Int) + 1 := by rw [HLen.out]; omega
              have iJ : (j : Int) < (ms.length : Int) + 1 := by rw [HLen.out]; omega
              have HSum := Lib.hid (sumMTo_ok (p := p) k4 (n := s * s) (K := rowT T i a j) (Ms := (m0 :: ms).map Mt.d) (fun q hq => by
                rw [← rowOf_eq hq, List.getElem_map]; exact (HM.out q (by simpa using hq)).2.2.2.1) i (by rw [List.length_map, HN.out]; exact Nat.le_refl _))
              have hrT : resid p (rowT T i a j) = true := resid_rowT k3 (by omega) i a j
              have hcom := comD_ok k4 s Dj Da
              have C1 := Lib.hid (show ∀ (W : World) (x y : Value), Ints W x Dj → Ints W y Da → Calls Tryz.prog 63 #[.agg #[.int .i64 p, .int .i64 s, .int .i64 s, x], .agg #[.int .i64 p, .int .i64 s, .int .i64 s, y]] W (RetMat W p s s (mulD p s s s Dj Da)) from fun W x y h1 h2 => times_any p p s s s s x y Dj Da W h1 h2 f4 g4 (by omega) (by omega) (by omega) k4 k5 f5 g5)
              have C2 := Lib.hid (show ∀ (W : World) (x y : Value), Ints W x Da → Ints W y Dj → Calls Tryz.prog 63 #[.agg #[.int .i64 p, .int .i64 s, .int .i64 s, x], .agg #[.int .i64 p, .int .i64 s, .int .i64 s, y]] W (RetMat W p s s (mulD p s s s Da Dj)) from fun W x y h1 h2 => times_any p p s s s s x y Da Dj W h1 h2 g4 f4 (by omega) (by omega) (by omega) k4 k5 g5 f5)
              have C3 := Lib.hid (show ∀ (W : World) (x y : Value), Ints W x (mulD p s s s Dj Da) → Ints W y (mulD p s s s Da Dj) → Calls Tryz.prog 62 #[.agg #[.int .i64 p, .int .i64 s, .int .i64 s, x], .int .i64 (p - 1), .agg #[.int .i64 p, .int .i64 s, .int .i64 s, y]] W (RetMat W p s s (comD p s Dj Da)) from fun W x y h1 h2 => plus_any p p s s s s (p - 1) x y (mulD p s s s Dj Da) (mulD p s s s Da Dj) W h1 h2 (by rw [length_mulD]; omega) (by rw [length_mulD, length_mulD]) k4 k5 (by omega) (by omega) (resid_mulD k4 _ _ _ _ _) (resid_mulD k4 _ _ _ _ _))
              have C4 := Lib.hid (show ∀ (W : World) (x : Value), MatsR W (.slice (some ⟨b0, off0, none⟩) (m0 :: ms).length k2) (m0 :: ms) → Ints W x (rowT T i a j) → Calls Tryz.prog 125 #[.slice (some ⟨b0, off0, none⟩) (m0 :: ms).length k2, x] W (RetMat W p s s (sumMTo p (s * s) (rowT T i a j) ((m0 :: ms).map Mt.d) i)) from fun W x h1 h2 => sumMatrices_any p i s _ x _ m0 ms W h1 h2 HN.out (len_rowT _ _ _ _) k1 (by omega) HM.out k6 hrT)
              have C5 := Lib.hid (show ∀ (W : World) (x y : Value), Ints W x (sumMTo p (s * s) (rowT T i a j) ((m0 :: ms).map Mt.d) i) → Ints W y (comD p s Dj Da) → Calls Tryz.prog 84 #[x, y] W (fun e w' => e = .returned (.bool bb) ∧ ∃ n, w' = W.drewN n) from fun W x y h1 h2 => by
                have := Equal_any x y _ _ W h1 h2
                rwa [← hBB] at this)
              have hcl : (comD p s Dj Da).length = s * s := hcom.1
              have HCl := Lib.hid hcl
              clear hst hbb hma hmj g1 g2 g3 g4 g5 f1 f2 f3 f4 f5 hDa hDj hia hij HM2 h1 hrT hcom hcl
              have hwp : IntKind.i64.wrap (p - 1) = p - 1 := wrap_ok (by omega) (by omega)
              obtain ⟨OL, hOL, h2⟩ := h2.letter
              go_upto_region 17 with fail
              go_cut [11] (fun s11 wx => ∃ (bx : Nat) (A6 : Option Addr) (c6 : Nat), s11 = .pointer (some ⟨bx, 0, none⟩) ∧ St w wx (.box bx [.int .i64 p, .int .i64 s, .int .i64 s, .slice A6 (s * s) c6] :: .own (.slice A6 (s * s) c6) (comD p s Dj Da) :: OL))
              case first =>
                subst hOL
                have g0 := h2.drew
                refine wp_region_cut (S := fun w' => (w'.cell? ⟨b0, off0 + j * 4, none⟩ = some (.int .i64 p) ∧ w'.cell? ⟨b0, off0 + j * 4 + 1, none⟩ = some (.int .i64 s) ∧ w'.cell? ⟨b0, off0 + j * 4 + 2, none⟩ = some (.int .i64 s) ∧ w'.cell? ⟨b0, off0 + j * 4 + 3, none⟩ = some (.slice A7 Dj.length c7)) ∧ (w'.cell? ⟨b0, off0 + a * 4, none⟩ = some (.int .i64 p) ∧ w'.cell? ⟨b0, off0 + a * 4 + 1, none⟩ = some (.int .i64 s) ∧ w'.cell? ⟨b0, off0 + a * 4 + 2, none⟩ = some (.int .i64 s) ∧ w'.cell? ⟨b0, off0 + a * 4 + 3, none⟩ = some (.slice A9 Da.length c9)) ∧ w'.cell? ⟨w.heap.size, 0, none⟩ = some (.int .i64 p) ∧ w'.cell? ⟨w.heap.size, 1, none⟩ = some (.int .i64 i) ∧ w'.cell? ⟨w.heap.size, 2, none⟩ = some (.slice A T.length k)) 23 (by kernel_rfl) (by kernel_rfl) ⟨g0.fact 0 rfl, g0.fact 1 rfl, g0.box3 4 rfl⟩ (fun hHeld => ?_)
                simp only [List.take_succ_cons, List.take_zero]
                generalize wr.drew = y0 at g0 hHeld ⊢
                clear h2
                refine anyH_take (v := ?_) 0 rfl (by kernel_rfl) (by kernel_rfl) (by kernel_rfl) (fun _ _ _ h => h) rfl ?_ hHeld ?_
                rotate_left
                · intro w' hSw
                  go_simp
                  try with_reducible rfl
                try simp only [Act.put, List.setIfInBounds_toArray, List.set_cons_zero, List.set_cons_succ]
                refine anyH_take (v := ?_) 1 rfl (by kernel_rfl) (by kernel_rfl) (by kernel_rfl) (fun _ _ _ h => h) rfl ?_ hHeld ?_
                rotate_left
                · intro w' hSw
                  go_simp
                  try with_reducible rfl
                try simp only [Act.put, List.setIfInBounds_toArray, List.set_cons_zero, List.set_cons_succ]
                refine anyH_take (v := ?_) 2 rfl (by kernel_rfl) (by kernel_rfl) (by kernel_rfl) (fun _ _ _ h => h) rfl ?_ hHeld ?_
                rotate_left
                · intro w' hSw
                  go_simp
                  try with_reducible rfl
                try simp only [Act.put, List.setIfInBounds_toArray, List.set_cons_zero, List.set_cons_succ]
                refine anyH_take (v := ?_) 3 rfl (by kernel_rfl) (by kernel_rfl) (by kernel_rfl) (fun _ _ _ h => h) rfl ?_ hHeld ?_
                rotate_left
                · intro w' hSw
                  go_simp
                  try with_reducible rfl
                try simp only [Act.put, List.setIfInBounds_toArray, List.set_cons_zero, List.set_cons_succ]
                refine anyH_take (v := ?_) 4 rfl (by kernel_rfl) (by kernel_rfl) (by kernel_rfl) (fun _ _ _ h => h) rfl ?_ hHeld ?_
                rotate_left
                · intro w' hSw
                  go_simp
                  try with_reducible rfl
                try simp only [Act.put, List.setIfInBounds_toArray, List.set_cons_zero, List.set_cons_succ]
                refine anyH_take (v := ?_) 5 rfl (by kernel_rfl) (by kernel_rfl) (by kernel_rfl) (fun _ _ _ h => h) rfl ?_ hHeld ?_
                rotate_left
                · intro w' hSw
                  go_simp
                  try with_reducible rfl
                try simp only [Act.put, List.setIfInBounds_toArray, List.set_cons_zero, List.set_cons_succ]
                refine anyH_take (v := ?_) 6 rfl (by kernel_rfl) (by kernel_rfl) (by kernel_rfl) (fun _ _ _ h => h) rfl ?_ hHeld ?_
                rotate_left
                · intro w' hSw
                  go_simp
                  try with_reducible rfl
                try simp only [Act.put, List.setIfInBounds_toArray, List.set_cons_zero, List.set_cons_succ]
                refine anyH_take (v := ?_) 7 rfl (by kernel_rfl) (by kernel_rfl) (by kernel_rfl) (fun _ _ _ h => h) rfl ?_ hHeld ?_
                rotate_left
                · intro w' hSw
                  go_simp
                  try with_reducible rfl
                try simp only [Act.put, List.setIfInBounds_toArray, List.set_cons_zero, List.set_cons_succ]
                refine anyH_take (v := ?_) 9 rfl (by kernel_rfl) (by kernel_rfl) (by kernel_rfl) (fun _ _ _ h => h) rfl ?_ hHeld ?_
                rotate_left
                · intro w' hSw
                  go_simp
                  try with_reducible rfl
                try simp only [Act.put, List.setIfInBounds_toArray, List.set_cons_zero, List.set_cons_succ]
                refine anyH_take (v := ?_) 10 rfl (by kernel_rfl) (by kernel_rfl) (by kernel_rfl) (fun _ _ _ h => h) rfl ?_ hHeld ?_
                rotate_left
                · intro w' hSw
                  go_simp
                  try with_reducible rfl
                try simp only [Act.put, List.setIfInBounds_toArray, List.set_cons_zero, List.set_cons_succ]
                refine anyH_take (v := ?_) 11 rfl (by kernel_rfl) (by kernel_rfl) (by kernel_rfl) (fun _ _ _ h => h) rfl ?_ hHeld ?_
                rotate_left
                · intro w' hSw
                  go_simp
                  try with_reducible rfl
                try simp only [Act.put, List.setIfInBounds_toArray, List.set_cons_zero, List.set_cons_succ]
                refine anyH_take (v := ?_) 12 rfl (by kernel_rfl) (by kernel_rfl) (by kernel_rfl) (fun _ _ _ h => h) rfl ?_ hHeld ?_
                rotate_left
                · intro w' hSw
                  go_simp
                  try with_reducible rfl
                try simp only [Act.put, List.setIfInBounds_toArray, List.set_cons_zero, List.set_cons_succ]
                refine anyH_take (v := ?_) 13 rfl (by kernel_rfl) (by kernel_rfl) (by kernel_rfl) (fun _ _ _ h => h) rfl ?_ hHeld ?_
                rotate_left
                · intro w' hSw
                  go_simp
                  try with_reducible rfl
                try simp only [Act.put, List.setIfInBounds_toArray, List.set_cons_zero, List.set_cons_succ]
                refine anyH_take (v := ?_) 14 rfl (by kernel_rfl) (by kernel_rfl) (by kernel_rfl) (fun _ _ _ h => h) rfl ?_ hHeld ?_
                rotate_left
                · intro w' hSw
                  go_simp
                  try with_reducible rfl
                try simp only [Act.put, List.setIfInBounds_toArray, List.set_cons_zero, List.set_cons_succ]
                refine anyH_take (v := ?_) 15 rfl (by kernel_rfl) (by kernel_rfl) (by kernel_rfl) (fun _ _ _ h => h) rfl ?_ hHeld ?_
                rotate_left
                · intro w' hSw
                  go_simp
                  try with_reducible rfl
                try simp only [Act.put, List.setIfInBounds_toArray, List.set_cons_zero, List.set_cons_succ]
                refine anyH_take (v := ?_) 16 rfl (by kernel_rfl) (by kernel_rfl) (by kernel_rfl) (fun _ _ _ h => h) rfl ?_ hHeld ?_
                rotate_left
                · intro w' hSw
                  go_simp
                  try with_reducible rfl
                try simp only [Act.put, List.setIfInBounds_toArray, List.set_cons_zero, List.set_cons_succ]
                refine anyH_take (v := ?_) 17 rfl (by kernel_rfl) (by kernel_rfl) (by kernel_rfl) (fun _ _ _ h => h) rfl ?_ hHeld ?_
                rotate_left
                · intro w' hSw
                  go_simp
                  try with_reducible rfl
                try simp only [Act.put, List.setIfInBounds_toArray, List.set_cons_zero, List.set_cons_succ]
                refine anyH_take (v := ?_) 18 rfl (by kernel_rfl) (by kernel_rfl) (by kernel_rfl) (fun _ _ _ h => h) rfl ?_ hHeld ?_
                rotate_left
                · intro w' hSw
                  go_simp
                  try with_reducible rfl
                try simp only [Act.put, List.setIfInBounds_toArray, List.set_cons_zero, List.set_cons_succ]
                refine anyH_take (v := ?_) 19 rfl (by kernel_rfl) (by kernel_rfl) (by kernel_rfl) (fun _ _ _ h => h) rfl ?_ hHeld ?_
                rotate_left
                · intro w' hSw
                  go_simp
                  try with_reducible rfl
                try simp only [Act.put, List.setIfInBounds_toArray, List.set_cons_zero, List.set_cons_succ]
                refine wpAnyH_ready (rs := [8, 22]) (by kernel_rfl) (by simp) ?_
                refine ready_cons rfl (fun K hK => ?_) (ready_cons rfl (fun K hK => ?_) AllReadyH.nil)
                · go_simp
                  refine (C1.out _ _ _ (HIj.out.below g0.below (Nat.le_refl _)).ints (HIa.out.below g0.below (Nat.le_refl _)).ints).mono ?_
                  rintro (e : Ending) y1 ⟨u, rfl, ho, hb⟩
                  obtain ⟨AA8, nn8, cc8, rfl⟩ := ho.slice
                  have g1 := g0.pushOwn hb ho
                  clear hb ho
                  show K _ _
                  refine hK.out _ _ ?_ (fun hHeld => ?_)
                  · exact ⟨g1.fact 1 rfl, g1.fact 2 rfl, g1.box3 5 rfl⟩
                  clear hK K
                  try simp only [Act.put, List.setIfInBounds_toArray, List.set_cons_zero, List.set_cons_succ]
                  refine wpAnyH_ready (rs := [20, 22]) (by kernel_rfl) (by simp) ?_
                  refine ready_cons rfl (fun K hK => ?_) (ready_cons rfl (fun K hK => ?_) AllReadyH.nil)
                  · go_simp
                    refine (C2.out _ _ _ (HIa.out.below g1.below (Nat.le_refl _)).ints (HIj.out.below g1.below (Nat.le_refl _)).ints).mono ?_
                    rintro (e : Ending) y2 ⟨u, rfl, ho, hb⟩
                    obtain ⟨AA20, nn20, cc20, rfl⟩ := ho.slice
                    have g2 := g1.pushOwn hb ho
                    clear hb ho
                    show K _ _
                    refine hK.out _ _ ?_ (fun hHeld => ?_)
                    · exact ⟨g2.fact 2 rfl, g2.fact 3 rfl, g2.box3 6 rfl⟩
                    clear hK K
                    try simp only [Act.put, List.setIfInBounds_toArray, List.set_cons_zero, List.set_cons_succ]
                    refine wpAnyH_ready (rs := [21, 22]) (by kernel_rfl) (by simp) ?_
                    refine ready_cons rfl (fun K hK => ?_) (ready_cons rfl (fun K hK => ?_) AllReadyH.nil)
                    · go_simp
                      refine (C3.out _ _ _ (g2.ownInts 1 rfl) (g2.ownInts 0 rfl)).mono ?_
                      rintro (e : Ending) y3 ⟨u, rfl, ho, hb⟩
                      obtain ⟨A6, c6, rfl, _, _, _⟩ := id ho.ints
                      rw [HCl.out] at ho ⊢
                      have g3 := g2.pushOwn hb ho
                      clear hb ho
                      show K _ _
                      refine hK.out _ _ ?_ (fun hHeld => ?_)
                      · exact ⟨g3.fact 3 rfl, g3.fact 4 rfl, g3.box3 7 rfl⟩
                      clear hK K
                      try simp only [Act.put, List.setIfInBounds_toArray, List.set_cons_zero, List.set_cons_succ]
                      refine wpAnyH_ready (rs := [22]) (by kernel_rfl) (by simp) ?_
                      refine ready_cons rfl (fun K hK => ?_) AllReadyH.nil
                      · go_simp
                        have g4 := g3.box [.int .i64 0, .int .i64 0, .int .i64 0, .slice none 0 0] 35
                        refine hK.out _ _ ?_ (fun hHeld => ?_)
                        · exact ⟨g4.fact 4 rfl, g4.fact 5 rfl, g4.box3 8 rfl⟩
                        clear hK K
                        generalize World.alloc y3 (.cells #[.int .i64 0, .int .i64 0, .int .i64 0, .slice none 0 0] 35) = y4 at g4 hHeld ⊢
                        try simp only [Act.put, List.setIfInBounds_toArray, List.set_cons_zero, List.set_cons_succ]
                        obtain ⟨p0, p1, p2, p3⟩ := g4.box4 0 rfl
                        have f0 := g4.free 0 rfl 0
                        have f1 := g4.free 0 rfl 1
                        have f2 := g4.free 0 rfl 2
                        have f3 := g4.free 0 rfl 3
                        have q1 := (((g4.setBox 0 rfl 0 (.int .i64 p)).setBox 0 rfl 1 (.int .i64 s)).setBox 0 rfl 2 (.int .i64 s)).setBox 0 rfl 3 (.slice A6 (s * s) c6)
                        refine wpAnyH_done (by kernel_rfl) ?_ _
                        show wpList _ _ _ _ _ _
                        simp only [List.drop_succ_cons, List.drop_zero]
                        go_wp2_with fail
                        go_meet
                        have q2 := q1.toFront 0 rfl
                        exact ⟨_, _, _, rfl, ((q2.re ([0, 1, 4, 5, 6, 7, 8, 9, 10]) (by decide) (fun j => by match j with | 0 => rfl | 1 => rfl | 2 => rfl | 3 => rfl | 4 => rfl | 5 => rfl | 6 => rfl | 7 => rfl | 8 => rfl | j + 9 => rfl)))⟩
                    · go_simp
                      have g3 := g2.box [.int .i64 0, .int .i64 0, .int .i64 0, .slice none 0 0] 35
                      refine hK.out _ _ ?_ (fun hHeld => ?_)
                      · exact ⟨g3.fact 3 rfl, g3.fact 4 rfl, g3.box3 7 rfl⟩
                      clear hK K
                      generalize World.alloc y2 (.cells #[.int .i64 0, .int .i64 0, .int .i64 0, .slice none 0 0] 35) = y3 at g3 hHeld ⊢
                      try simp only [Act.put, List.setIfInBounds_toArray, List.set_cons_zero, List.set_cons_succ]
                      refine wpAnyH_ready (rs := [21]) (by kernel_rfl) (by simp) ?_
                      refine ready_cons rfl (fun K hK => ?_) AllReadyH.nil
                      · go_simp
                        refine (C3.out _ _ _ (g3.ownInts 2 rfl) (g3.ownInts 1 rfl)).mono ?_
                        rintro (e : Ending) y4 ⟨u, rfl, ho, hb⟩
                        obtain ⟨A6, c6, rfl, _, _, _⟩ := id ho.ints
                        rw [HCl.out] at ho ⊢
                        have g4 := g3.pushOwn hb ho
                        clear hb ho
                        show K _ _
                        refine hK.out _ _ ?_ (fun hHeld => ?_)
                        · exact ⟨g4.fact 4 rfl, g4.fact 5 rfl, g4.box3 8 rfl⟩
                        clear hK K
                        try simp only [Act.put, List.setIfInBounds_toArray, List.set_cons_zero, List.set_cons_succ]
                        obtain ⟨p0, p1, p2, p3⟩ := g4.box4 1 rfl
                        have f0 := g4.free 1 rfl 0
                        have f1 := g4.free 1 rfl 1
                        have f2 := g4.free 1 rfl 2
                        have f3 := g4.free 1 rfl 3
                        have q1 := (((g4.setBox 1 rfl 0 (.int .i64 p)).setBox 1 rfl 1 (.int .i64 s)).setBox 1 rfl 2 (.int .i64 s)).setBox 1 rfl 3 (.slice A6 (s * s) c6)
                        refine wpAnyH_done (by kernel_rfl) ?_ _
                        show wpList _ _ _ _ _ _
                        simp only [List.drop_succ_cons, List.drop_zero]
                        go_wp2_with fail
                        go_meet
                        have q2 := q1.toFront 1 rfl
                        exact ⟨_, _, _, rfl, ((q2.re ([0, 1, 4, 5, 6, 7, 8, 9, 10]) (by decide) (fun j => by match j with | 0 => rfl | 1 => rfl | 2 => rfl | 3 => rfl | 4 => rfl | 5 => rfl | 6 => rfl | 7 => rfl | 8 => rfl | j + 9 => rfl)))⟩
                  · go_simp
                    have g2 := g1.box [.int .i64 0, .int .i64 0, .int .i64 0, .slice none 0 0] 35
                    refine hK.out _ _ ?_ (fun hHeld => ?_)
                    · exact ⟨g2.fact 2 rfl, g2.fact 3 rfl, g2.box3 6 rfl⟩
                    clear hK K
                    generalize World.alloc y1 (.cells #[.int .i64 0, .int .i64 0, .int .i64 0, .slice none 0 0] 35) = y2 at g2 hHeld ⊢
                    try simp only [Act.put, List.setIfInBounds_toArray, List.set_cons_zero, List.set_cons_succ]
                    refine wpAnyH_ready (rs := [20]) (by kernel_rfl) (by simp) ?_
                    refine ready_cons rfl (fun K hK => ?_) AllReadyH.nil
                    · go_simp
                      refine (C2.out _ _ _ (HIa.out.below g2.below (Nat.le_refl _)).ints (HIj.out.below g2.below (Nat.le_refl _)).ints).mono ?_
                      rintro (e : Ending) y3 ⟨u, rfl, ho, hb⟩
                      obtain ⟨AA20, nn20, cc20, rfl⟩ := ho.slice
                      have g3 := g2.pushOwn hb ho
                      clear hb ho
                      show K _ _
                      refine hK.out _ _ ?_ (fun hHeld => ?_)
                      · exact ⟨g3.fact 3 rfl, g3.fact 4 rfl, g3.box3 7 rfl⟩
                      clear hK K
                      try simp only [Act.put, List.setIfInBounds_toArray, List.set_cons_zero, List.set_cons_succ]
                      refine wpAnyH_ready (rs := [21]) (by kernel_rfl) (by simp) ?_
                      refine ready_cons rfl (fun K hK => ?_) AllReadyH.nil
                      · go_simp
                        refine (C3.out _ _ _ (g3.ownInts 2 rfl) (g3.ownInts 0 rfl)).mono ?_
                        rintro (e : Ending) y4 ⟨u, rfl, ho, hb⟩
                        obtain ⟨A6, c6, rfl, _, _, _⟩ := id ho.ints
                        rw [HCl.out] at ho ⊢
                        have g4 := g3.pushOwn hb ho
                        clear hb ho
                        show K _ _
                        refine hK.out _ _ ?_ (fun hHeld => ?_)
                        · exact ⟨g4.fact 4 rfl, g4.fact 5 rfl, g4.box3 8 rfl⟩
                        clear hK K
                        try simp only [Act.put, List.setIfInBounds_toArray, List.set_cons_zero, List.set_cons_succ]
                        obtain ⟨p0, p1, p2, p3⟩ := g4.box4 2 rfl
                        have f0 := g4.free 2 rfl 0
                        have f1 := g4.free 2 rfl 1
                        have f2 := g4.free 2 rfl 2
                        have f3 := g4.free 2 rfl 3
                        have q1 := (((g4.setBox 2 rfl 0 (.int .i64 p)).setBox 2 rfl 1 (.int .i64 s)).setBox 2 rfl 2 (.int .i64 s)).setBox 2 rfl 3 (.slice A6 (s * s) c6)
                        refine wpAnyH_done (by kernel_rfl) ?_ _
                        show wpList _ _ _ _ _ _
                        simp only [List.drop_succ_cons, List.drop_zero]
                        go_wp2_with fail
                        go_meet
                        have q2 := q1.toFront 2 rfl
                        exact ⟨_, _, _, rfl, ((q2.re ([0, 1, 4, 5, 6, 7, 8, 9, 10]) (by decide) (fun j => by match j with | 0 => rfl | 1 => rfl | 2 => rfl | 3 => rfl | 4 => rfl | 5 => rfl | 6 => rfl | 7 => rfl | 8 => rfl | j + 9 => rfl)))⟩
                · go_simp
                  have g1 := g0.box [.int .i64 0, .int .i64 0, .int .i64 0, .slice none 0 0] 35
                  refine hK.out _ _ ?_ (fun hHeld => ?_)
                  · exact ⟨g1.fact 1 rfl, g1.fact 2 rfl, g1.box3 5 rfl⟩
                  clear hK K
                  generalize World.alloc y0 (.cells #[.int .i64 0, .int .i64 0, .int .i64 0, .slice none 0 0] 35) = y1 at g1 hHeld ⊢
                  try simp only [Act.put, List.setIfInBounds_toArray, List.set_cons_zero, List.set_cons_succ]
                  refine wpAnyH_ready (rs := [8]) (by kernel_rfl) (by simp) ?_
                  refine ready_cons rfl (fun K hK => ?_) AllReadyH.nil
                  · go_simp
                    refine (C1.out _ _ _ (HIj.out.below g1.below (Nat.le_refl _)).ints (HIa.out.below g1.below (Nat.le_refl _)).ints).mono ?_
                    rintro (e : Ending) y2 ⟨u, rfl, ho, hb⟩
                    obtain ⟨AA8, nn8, cc8, rfl⟩ := ho.slice
                    have g2 := g1.pushOwn hb ho
                    clear hb ho
                    show K _ _
                    refine hK.out _ _ ?_ (fun hHeld => ?_)
                    · exact ⟨g2.fact 2 rfl, g2.fact 3 rfl, g2.box3 6 rfl⟩
                    clear hK K
                    try simp only [Act.put, List.setIfInBounds_toArray, List.set_cons_zero, List.set_cons_succ]
                    refine wpAnyH_ready (rs := [20]) (by kernel_rfl) (by simp) ?_
                    refine ready_cons rfl (fun K hK => ?_) AllReadyH.nil
                    · go_simp
                      refine (C2.out _ _ _ (HIa.out.below g2.below (Nat.le_refl _)).ints (HIj.out.below g2.below (Nat.le_refl _)).ints).mono ?_
                      rintro (e : Ending) y3 ⟨u, rfl, ho, hb⟩
                      obtain ⟨AA20, nn20, cc20, rfl⟩ := ho.slice
                      have g3 := g2.pushOwn hb ho
                      clear hb ho
                      show K _ _
                      refine hK.out _ _ ?_ (fun hHeld => ?_)
                      · exact ⟨g3.fact 3 rfl, g3.fact 4 rfl, g3.box3 7 rfl⟩
                      clear hK K
                      try simp only [Act.put, List.setIfInBounds_toArray, List.set_cons_zero, List.set_cons_succ]
                      refine wpAnyH_ready (rs := [21]) (by kernel_rfl) (by simp) ?_
                      refine ready_cons rfl (fun K hK => ?_) AllReadyH.nil
                      · go_simp
                        refine (C3.out _ _ _ (g3.ownInts 1 rfl) (g3.ownInts 0 rfl)).mono ?_
                        rintro (e : Ending) y4 ⟨u, rfl, ho, hb⟩
                        obtain ⟨A6, c6, rfl, _, _, _⟩ := id ho.ints
                        rw [HCl.out] at ho ⊢
                        have g4 := g3.pushOwn hb ho
                        clear hb ho
                        show K _ _
                        refine hK.out _ _ ?_ (fun hHeld => ?_)
                        · exact ⟨g4.fact 4 rfl, g4.fact 5 rfl, g4.box3 8 rfl⟩
                        clear hK K
                        try simp only [Act.put, List.setIfInBounds_toArray, List.set_cons_zero, List.set_cons_succ]
                        obtain ⟨p0, p1, p2, p3⟩ := g4.box4 3 rfl
                        have f0 := g4.free 3 rfl 0
                        have f1 := g4.free 3 rfl 1
                        have f2 := g4.free 3 rfl 2
                        have f3 := g4.free 3 rfl 3
                        have q1 := (((g4.setBox 3 rfl 0 (.int .i64 p)).setBox 3 rfl 1 (.int .i64 s)).setBox 3 rfl 2 (.int .i64 s)).setBox 3 rfl 3 (.slice A6 (s * s) c6)
                        refine wpAnyH_done (by kernel_rfl) ?_ _
                        show wpList _ _ _ _ _ _
                        simp only [List.drop_succ_cons, List.drop_zero]
                        go_wp2_with fail
                        go_meet
                        have q2 := q1.toFront 3 rfl
                        exact ⟨_, _, _, rfl, ((q2.re ([0, 1, 4, 5, 6, 7, 8, 9, 10]) (by decide) (fun j => by match j with | 0 => rfl | 1 => rfl | 2 => rfl | 3 => rfl | 4 => rfl | 5 => rfl | 6 => rfl | 7 => rfl | 8 => rfl | j + 9 => rfl)))⟩
              case rest =>
              clear h2
              obtain ⟨bx, A6, c6, rfl, h2⟩ := hcut
              subst hOL
              go_upto_region 18 with fail
              have g0 := h2.drew
              refine wp_region_held_drew (S := fun w' => (w'.cell? ⟨bx, 0, none⟩ = some (.int .i64 p) ∧ w'.cell? ⟨bx, 1, none⟩ = some (.int .i64 s) ∧ w'.cell? ⟨bx, 2, none⟩ = some (.int .i64 s) ∧ w'.cell? ⟨bx, 3, none⟩ = some (.slice A6 (s * s) c6)) ∧ w'.cell? ⟨w9.heap.size, 0, none⟩ = some (.int .i64 p) ∧ w'.cell? ⟨w9.heap.size, 1, none⟩ = some (.int .i64 i) ∧ w'.cell? ⟨w9.heap.size, 2, none⟩ = some (.slice A T.length k)) (by kernel_rfl) ⟨g0.box4 0 rfl, g0.box3 4 rfl⟩ (fun hHeld => ?_)
              refine anyH_take (v := ?_) 0 rfl (by kernel_rfl) (by kernel_rfl) (by kernel_rfl) (fun _ _ _ h => h) rfl ?_ hHeld ?_
              rotate_left
              · intro w' hSw
                go_simp
                try with_reducible rfl
              try simp only [Act.put, List.setIfInBounds_toArray, List.set_cons_zero, List.set_cons_succ]
              refine anyH_take (v := ?_) 1 rfl (by kernel_rfl) (by kernel_rfl) (by kernel_rfl) (fun _ _ _ h => h) rfl ?_ hHeld ?_
              rotate_left
              · intro w' hSw
                go_simp
                try with_reducible rfl
              try simp only [Act.put, List.setIfInBounds_toArray, List.set_cons_zero, List.set_cons_succ]
              refine anyH_take (v := ?_) 2 rfl (by kernel_rfl) (by kernel_rfl) (by kernel_rfl) (fun _ _ _ h => h) rfl ?_ hHeld ?_
              rotate_left
              · intro w' hSw
                go_simp
                try with_reducible rfl
              try simp only [Act.put, List.setIfInBounds_toArray, List.set_cons_zero, List.set_cons_succ]
              refine anyH_take (v := ?_) 3 rfl (by kernel_rfl) (by kernel_rfl) (by kernel_rfl) (fun _ _ _ h => h) rfl ?_ hHeld ?_
              rotate_left
              · intro w' hSw
                go_simp
                try with_reducible rfl
              try simp only [Act.put, List.setIfInBounds_toArray, List.set_cons_zero, List.set_cons_succ]
              refine anyH_take (v := ?_) 7 rfl (by kernel_rfl) (by kernel_rfl) (by kernel_rfl) (fun _ _ _ h => h) rfl ?_ hHeld ?_
              rotate_left
              · intro w' hSw
                go_simp
                try with_reducible rfl
              try simp only [Act.put, List.setIfInBounds_toArray, List.set_cons_zero, List.set_cons_succ]
              refine anyH_take (v := ?_) 8 rfl (by kernel_rfl) (by kernel_rfl) (by kernel_rfl) (fun _ _ _ h => h) rfl ?_ hHeld ?_
              rotate_left
              · intro w' hSw
                go_simp
                try with_reducible rfl
              try simp only [Act.put, List.setIfInBounds_toArray, List.set_cons_zero, List.set_cons_succ]
              refine wpAnyH_ready (rs := [4]) (by kernel_rfl) (by simp) ?_
              refine ready_cons rfl (fun K hK => ?_) AllReadyH.nil
              go_simp
              refine (pair_any p i _ T a j w.heap.size _ (g0.ro 8 rfl) g0.size HT.out ha (by omega) k1).mono ?_
              rintro (e : Ending) w3 ⟨A5, c5, rfl, hr3, hb3⟩
              have g1 := (g0.on hb3).pushRo hr3
              show K _ _
              refine hK.out _ _ ?_ (fun hHeld => ?_)
              · exact ⟨g1.box4 1 rfl, g1.box3 5 rfl⟩
              clear hK K
              try simp only [Act.put, List.setIfInBounds_toArray, List.set_cons_zero, List.set_cons_succ]
              refine wpAnyH_ready (rs := [5]) (by kernel_rfl) (by simp) ?_
              refine ready_cons rfl (fun K hK => ?_) AllReadyH.nil
              go_simp
              refine (C4.out _ _ (g1.fact 8 rfl) (g1.roInts 0 rfl)).mono ?_
              rintro (e : Ending) w4 ⟨u4, rfl, ho4, hb4⟩
              obtain ⟨A4, n4, c4, rfl⟩ := ho4.slice
              have hfd := fieldM3 p s s A4 n4 c4
              have g2 := g1.pushOwn hb4 ho4
              show K _ _
              refine hK.out _ _ ?_ (fun hHeld => ?_)
              · exact ⟨g2.box4 2 rfl, g2.box3 6 rfl⟩
              clear hK K
              try simp only [Act.put, List.setIfInBounds_toArray, List.set_cons_zero, List.set_cons_succ]
              refine anyH_take (v := ?_) 6 rfl (by kernel_rfl) (by kernel_rfl) (by kernel_rfl) (fun _ _ _ h => h) rfl ?_ hHeld ?_
              rotate_left
              · intro w' hSw
                go_simp
                try with_reducible rfl
              try simp only [Act.put, List.setIfInBounds_toArray, List.set_cons_zero, List.set_cons_succ]
              refine wpAnyH_ready (rs := [9]) (by kernel_rfl) (by simp) ?_
              refine ready_cons rfl (fun K hK => ?_) AllReadyH.nil
              go_simp
              refine (C5.out _ _ _ (g2.ownInts 0 rfl) (g2.ownInts 3 rfl)).mono ?_
              rintro (e : Ending) w5 ⟨rfl, nd, rfl⟩
              have g4 := g2.drewN nd
              show K _ _
              refine hK.out _ _ ?_ (fun hHeld => ?_)
              · exact ⟨g4.box4 2 rfl, g4.box3 6 rfl⟩
              clear hK K
              try simp only [Act.put, List.setIfInBounds_toArray, List.set_cons_zero, List.set_cons_succ]
              refine anyH_take (v := ?_) 10 rfl (by kernel_rfl) (by kernel_rfl) (by kernel_rfl) (fun _ _ _ h => h) rfl ?_ hHeld ?_
              rotate_left
              · intro w' hSw
                go_simp
                try with_reducible rfl
              try simp only [Act.put, List.setIfInBounds_toArray, List.set_cons_zero, List.set_cons_succ]
              refine wpAnyH_done (by kernel_rfl) ?_ _
              clear hHeld g0 g1 g2 h2 hb3 hb4 ho4 hr3
              cases bb with
              | false =>
                go_wp2
                go_ret
                exact ⟨ret_bool (by rw [HST.out]; rfl), g4.below⟩
              | true =>
                have HM3 : Hid (R = (allF (comAt p s i T (m0 :: ms) a) (a - (j + 1)) (j + 1) && K1)) := by show _ = _; rw [HST.out, Bool.true_and]
                go_wp2
                go_roundw
                case rel => exact ⟨j + 1, by go_num, by omega, HM3, g4.drop 6⟩
                case measure => simp [intOf]; omega
            · obtain rfl : j = a := by omega
              have HM4 : Hid (R = allF (fun a => allF (comAt p s i T (m0 :: ms) a) a 0) (i - (j + 1)) (j + 1)) := by
                show _ = _
                rw [HM2.out, Nat.sub_self, allF, Bool.true_and, HK1.out]
              go_wp2
              go_roundw
              case rel => exact ⟨j + 1, by go_num, by omega, HM4, h1⟩
              case measure => simp [intOf]; omega
        · obtain rfl : a = i := by omega
          have HT1 : Hid (R = true) := by show _ = _; rw [HRK.out, Nat.sub_self, allF]
          go_wp2
          go_ret
          exact ⟨ret_bool HT1.out.symm, h1.below⟩
end
section
open Go.RowKit

theorem isMod_spec {p n : Int} {T : List Int} {ms : List Mt} (h : isMod p n T ms = true) : ∃ (N s : Nat) (m0 : Mt) (l : List Mt), n = N ∧ ms = m0 :: l ∧ (m0 :: l).length = N ∧ m0.r = s ∧ s ≤ 30 ∧ algOk p N T = true ∧
    ∀ i (h : i < (m0 :: l).length), ((m0 :: l)[i]).p = p ∧ ((m0 :: l)[i]).r = s ∧ ((m0 :: l)[i]).c = s ∧ ((m0 :: l)[i]).d.length = s * s ∧ resid p ((m0 :: l)[i]).d = true := by
  simp only [isMod, Bool.and_eq_true] at h
  obtain ⟨h1, h2, _⟩ := h
  simp only [modHead, Bool.and_eq_true, decide_eq_true_eq] at h1
  obtain ⟨h3, h4, h5⟩ := h1
  obtain ⟨N, rfl, _⟩ := algOk_spec h3
  have hl : ms.length = N := by omega
  have hN : 0 < N := by omega
  rw [modMats, Int.toNat_natCast, allF_iff] at h2
  obtain ⟨m0, l, rfl⟩ : ∃ a l, ms = a :: l := by cases ms with | nil => simp at hl; omega | cons a l => exact ⟨a, l, rfl⟩
  obtain ⟨s, g1, g2, g3⟩ := mats_spec (s := (mAt (m0 :: l) 0).r) hl hN (fun k hk => h2 k (Nat.zero_le _) (by omega))
  exact ⟨N, s, m0, l, rfl, rfl, hl, g1, g2, h3, g3⟩
/-- What a function leaves that returns a matrix and a Bool. -/
def RetMB (w : World) (a0 a1 a2 : Int) (l : List Int) (b : Bool) (e : Ending) (w' : World) : Prop := ∃ u, e = .returned (.tuple #[.agg #[.int .i64 a0, .int .i64 a1, .int .i64 a2, u], .bool b]) ∧ Own w' w.heap.size u l ∧ Below w.heap.size w w'
def moOk (p n : Int) (T : List Int) (ms : List Mt) (X : List Int) : Bool := isMod p n T ms && vecOk p n X
def moP (p n : Int) (T : List Int) (ms : List Mt) (X : List Int) : Int := if moOk p n T ms X then p else 0
def moR (p n : Int) (T : List Int) (ms : List Mt) (X : List Int) : Int := if moOk p n T ms X then (mAt ms 0).r else 0
def moD (p n : Int) (T : List Int) (ms : List Mt) (X : List Int) : List Int := if moOk p n T ms X then sumMTo p ((mAt ms 0).r.toNat * (mAt ms 0).r.toNat) X (ms.map Mt.d) n.toNat else []
theorem moD_bd (p n : Int) (T : List Int) (ms : List Mt) (X : List Int) : (moD p n T ms X).length ≤ 900 := by
  unfold moD
  split
  · rename_i h
    simp only [moOk, Bool.and_eq_true] at h
    obtain ⟨N, s, m0, l, rfl, rfl, hl, h1, h2, h3, h4⟩ := isMod_spec h.1
    obtain ⟨_, _, _, _, _, h5, _⟩ := algOk_spec h3
    show (sumMTo p (m0.r.toNat * m0.r.toNat) X _ _).length ≤ 900
    rw [h1, Int.toNat_natCast, Int.toNat_natCast]
    have := (sumMTo_ok (p := p) h5 (n := s * s) (K := X) (Ms := (m0 :: l).map Mt.d) (fun q hq => by rw [← rowOf_eq hq, List.getElem_map]; exact (h4 q (by simpa using hq)).2.2.2.1) N (by rw [List.length_map, hl]; exact Nat.le_refl _)).1
    rw [this]
    exact mul_le h2 h2
  · simp

end
section
open Go.RowKit

/-- What the walks want of a module. -/
theorem isMod_all {p n : Int} {T : List Int} {ms : List Mt} (h : isMod p n T ms = true) : ∃ (N s : Nat), n = N ∧ ms.length = N ∧ 0 < N ∧ (mAt ms 0).r = s ∧ s ≤ 30 ∧ algOk p N T = true ∧
    ∀ i, i < ms.length → (mAt ms i).p = p ∧ (mAt ms i).r = s ∧ (mAt ms i).c = s ∧ (mAt ms i).d.length = s * s ∧ resid p (mAt ms i).d = true := by
  obtain ⟨N, s, m0, l, rfl, rfl, hl, h1, h2, h3, h4⟩ := isMod_spec h
  refine ⟨N, s, rfl, hl, by simp at hl; omega, h1, h2, h3, fun i hi => ?_⟩
  rw [← mAt_get hi]
  exact h4 i hi
/-- What a function leaves that returns matrices and a Bool. -/
def RetMsB (w : World) (ms : List Mt) (b : Bool) (e : Ending) (w' : World) : Prop := ∃ v us, e = .returned (.tuple #[v, .bool b]) ∧ us.length = ms.length ∧ It.ok w.heap.size w' (matsIt v us ms) ∧ (matsIt v us ms).fp.Nodup ∧ Below w.heap.size w w'
theorem RetMsB.nil {w w' : World} (h : Below w.heap.size w w') : RetMsB w [] false (.returned (.tuple #[.slice none 0 0, .bool false])) w' := by
  obtain ⟨v, us, h1, h2, h3, h4, h5⟩ := RetMs.nil h
  simp only [Ending.returned.injEq] at h1
  subst h1
  exact ⟨_, us, rfl, h2, h3, h4, h5⟩
end
end Go.Proofs.YthiainhhaokjoaaGreat
