/- The elements whose brackets lie in a space, in the reference: l2Into. -/
import Derived.Test.YtcdbgcpccmcbeaaIntoI
namespace Go.Proofs.Ytcdbgcpccmcbeaa
set_option maxRecDepth 100000
open Go.RowKit

theorem cell_alloc {w : World} {o : Obj} {a : Addr} {x : Value} (h : w.cell? a = some x) : (w.alloc o).cell? a = some x :=
  (((Below.refl w.heap.size w).alloc (Nat.le_refl _) o).cell (p := a) (World.block_lt_of_cell? w _ h)).trans h


set_option maxHeartbeats 1000000 in
theorem l2Into_any (p q1 : Int) (n : Nat) (t s u : Value) (T : List Int) (S Tg : List (List Int)) (piv : List Nat) (w : World) (ht : Ints w t T) (hs : Ints w s (flat n S)) (hu : Ints w u (flat n Tg)) (hT : T.length = n * n * n) (hS : Wf p n S) (hSl : S.length ≤ 40) (hTg : Rf p n Tg piv) (hn : n ≤ 28) (hP : isPrime p = true) (rT : resid p T = true) :
    Calls Try.prog 157 #[.agg #[.int .i64 p, .int .i64 n, t], .agg #[.int .i64 q1, .int .i64 S.length, .int .i64 n, s], .agg #[.int .i64 p, .int .i64 Tg.length, .int .i64 n, u]] w
      (RetMat w p (intoF T n p Tg piv S).length n (flat n (intoF T n p Tg piv S))) := by
  obtain ⟨b1, b2⟩ := isPrime_bd hP
  have h1 := ((((((St.start w).arg ht).arg hs).arg hu).box [.int .i64 p, .int .i64 n, t] 29).box [.int .i64 q1, .int .i64 S.length, .int .i64 n, s] 33).box [.int .i64 p, .int .i64 Tg.length, .int .i64 n, u] 33
  replace h1 := h1.box [.int .i64 0, .int .i64 0, .int .i64 0, .slice none 0 0] 33
  simp only [World.size_alloc] at h1
  obtain ⟨A, k, rfl, _, _, _⟩ := id ht
  obtain ⟨A1, k1, rfl, _, _, _⟩ := id hs
  obtain ⟨A2, k2, rfl, _, _, _⟩ := id hu
  have htn := rf_le_n b1 hTg
  have hDl := length_flat n S
  have hEl := length_flat n Tg
  have hFr : ∀ (W : World) (v : Value), Ints W v (flat n Tg) → Calls Try.prog 90 #[.agg #[.int .i64 p, .int .i64 Tg.length, .int .i64 n, v]] W (RetOwn W (pivI (freeTo piv n))) := fun W v hW => l2Free_any p n Tg piv v W hW hTg (by omega) (by omega) hP
  have hRb : ∀ (W : World) (v1 v2 : Value) (X : List Int), Ints W v1 (flat n Tg) → Ints W v2 X → X.length = n → resid p X = true → Calls Try.prog 91 #[.agg #[.int .i64 p, .int .i64 Tg.length, .int .i64 n, v1], v2] W (RetOwn W (redV p Tg piv X)) := fun W v1 v2 X x1 x2 x3 x4 => l2Modulo_any p n Tg piv v1 v2 X W x1 x2 hTg x3 x4 (by omega) hP
  have hRow : ∀ (W : World) (v : Value) (i B : Nat), IntsB W B v (flat n S) → B ≤ W.heap.size → i < S.length → Calls Try.prog 66 #[.agg #[.int .i64 q1, .int .i64 S.length, .int .i64 n, v], .int .i64 i] W (RetB W B n (rowOf S i)) := fun W v i B x1 x2 x3 => by
    have := l1Row_any q1 S.length n v (flat n S) i B W x1 x2 hDl (by have := mul_le hSl (show n ≤ 40 by omega); omega) (by omega) x3
    rwa [rowM_flat x3 (hS i x3).1] at this
  have hWe := Wf_eqsTo (T := T) b1 hTg (freeTo piv n) S S.length
  have hMl := length_eqsTo T n p Tg piv (freeTo piv n) S S.length (Nat.le_refl _)
  have hFl := length_freeTo piv n
  have hKn : kerL p n (eqsTo T n p Tg piv (freeTo piv n) S S.length) = intoF T n p Tg piv S := rfl
  obtain ⟨K, hK⟩ : ∃ K, K = intoF T n p Tg piv S := ⟨_, rfl⟩
  rw [← hK] at hKn ⊢
  obtain ⟨E, hE⟩ : ∃ E, E = flat n Tg := ⟨_, rfl⟩
  obtain ⟨D, hD⟩ : ∃ D, D = flat n S := ⟨_, rfl⟩
  obtain ⟨rt, hrt⟩ : ∃ rt, rt = Tg.length := ⟨_, rfl⟩
  obtain ⟨rs, hrs⟩ : ∃ rs, rs = S.length := ⟨_, rfl⟩
  obtain ⟨Fr, hFr2⟩ : ∃ Fr, Fr = freeTo piv n := ⟨_, rfl⟩
  have hFb : ∀ i, i < Fr.length → pv Fr i < n := fun i hi => by
    have := pv_mem hi
    rw [hFr2] at this
    rw [hFr2]; exact (mem_freeTo.1 this).1
  rw [← hE, ← hrt] at hRb hFr
  rw [← hD, ← hrs] at hRow
  rw [← hE, ← hrt, ← hD, ← hrs] at h1
  rw [← hE, ← hrt, ← hD, ← hrs]
  rw [← hFr2] at hFr hFl hMl hKn hWe
  rw [← hrs] at hMl hSl
  have HFr := Lib.hid hFr
  have HRb := Lib.hid hRb
  have HRow := Lib.hid hRow
  have HWe := Lib.hid hWe
  have HMl := Lib.hid hMl
  have HKn := Lib.hid hKn
  have HT := Lib.hid hT
  have HP := Lib.hid hP
  have HS := Lib.hid hS
  have Hrs := Lib.hid hrs
  have HFl := Lib.hid hFl
  have HFb := Lib.hid hFb
  have HrT := Lib.hid rT
  have HIl := Lib.hid (fun (v : List Int) (i : Nat) => (imgR_ok (T := T) b1 hTg v i).1)
  clear ht hs hu hT hS hTg hDl hEl hFr hRb hRow hWe hMl hKn hK hE hD hrt hrs hP rT hFr2 hFb htn
  obtain ⟨z0, z1, z2, z3⟩ := h1.box4 1 rfl
  go_enter Try.func157, Try.ntmps157
  go_wp2_with fail
  refine (HFr.out _ _ (h1.roInts 4 rfl)).mono ?_
  rintro (e : Ending) w8 ⟨vf, rfl, ho, hb1⟩
  obtain ⟨Af, cf, rfl, _, _, _⟩ := id ho.ints
  replace h1 := (h1.pushOwn hb1 ho).emptyRows
  rw [length_pivI] at h1 ⊢
  clear ho hb1 z0 z1 z2 z3
  go_wp2
  go_loopw [8, 9, 10, 11, 12, 13, 14] (fun v8 v9 _ _ _ _ _ wr => ∃ (i : Nat) (us : List Value), v9 = .int .i64 i ∧ i ≤ rs ∧ Hid (us.length = (eqsTo T n p Tg piv Fr S i).length) ∧ St w wr [rowsIt v8 us (eqsTo T n p Tg piv Fr S i), .own (.slice Af Fr.length cf) (pivI Fr), .box (w.heap.size + 1 + 1 + 1) [.int .i64 0, .int .i64 0, .int .i64 0, .slice none 0 0], .box (w.heap.size + 1 + 1) [.int .i64 p, .int .i64 rt, .int .i64 n, .slice A2 E.length k2], .box (w.heap.size + 1) [.int .i64 q1, .int .i64 rs, .int .i64 n, .slice A1 D.length k1], .box w.heap.size [.int .i64 p, .int .i64 n, .slice A T.length k], .ro (.slice A2 E.length k2) E, .ro (.slice A1 D.length k1) D, .ro (.slice A T.length k) T]) (fun _ v9 _ _ _ _ _ _ => rs - (intOf v9).toNat)
  case atStart => exact ⟨0, [], rfl, by omega, rfl, h1⟩
  case round =>
    clear h1
    obtain ⟨i, us, rfl, a1, Hul, h1⟩ := hrel
    obtain ⟨x0, x1, x2, x3⟩ := h1.box4 4 rfl
    by_cases hi : i < rs
    · have hiS : i < S.length := by rw [← Hrs.out]; exact hi
      have HSi := Lib.hid (HS.out i hiS)
      obtain ⟨V, hV⟩ : ∃ V, V = rowOf S i := ⟨_, rfl⟩
      have HV := Lib.hid hV
      have hVl : V.length = n := by rw [hV]; exact HSi.out.1
      have hVr : resid p V = true := by rw [hV]; exact HSi.out.2
      have HRi := Lib.hid (show ∀ (W : World) (v : Value) (B : Nat), IntsB W B v D → B ≤ W.heap.size → Calls Try.prog 66 #[.agg #[.int .i64 q1, .int .i64 rs, .int .i64 n, v], .int .i64 i] W (RetB W B n V) from fun W v B y1 y2 => by rw [hV]; exact HRow.out W v i B y1 y2 hi)
      have HVl := Lib.hid hVl
      have HVr := Lib.hid hVr
      have i1 : (i : Int) < rs := by omega
      have h2 := h1.emptyRows
      clear hV hVl hVr
      go_wp2
      clear x0 x1 x2 x3 h1
      go_loopw [10, 11] (fun v10 v11 wr => ∃ (j : Nat) (us2 : List Value), v11 = .int .i64 j ∧ j ≤ n ∧ Hid (us2.length = j) ∧ St w wr [rowsIt v10 us2 (imgsTo T n p Tg piv V j), rowsIt u8 us (eqsTo T n p Tg piv Fr S i), .own (.slice Af Fr.length cf) (pivI Fr), .box (w.heap.size + 1 + 1 + 1) [.int .i64 0, .int .i64 0, .int .i64 0, .slice none 0 0], .box (w.heap.size + 1 + 1) [.int .i64 p, .int .i64 rt, .int .i64 n, .slice A2 E.length k2], .box (w.heap.size + 1) [.int .i64 q1, .int .i64 rs, .int .i64 n, .slice A1 D.length k1], .box w.heap.size [.int .i64 p, .int .i64 n, .slice A T.length k], .ro (.slice A2 E.length k2) E, .ro (.slice A1 D.length k1) D, .ro (.slice A T.length k) T]) (fun _ v11 _ => n - (intOf v11).toNat)
      case atStart => exact ⟨0, [], rfl, by omega, rfl, h2⟩
      case round =>
        clear h2
        obtain ⟨j, us2, rfl, a2, Hu2, h2⟩ := hrel
        obtain ⟨y0, y1, y2⟩ := h2.box3 6 rfl
        by_cases hj : j < n
        · have HU := Lib.hid (fun W => l2Basis_any n j W (by omega) hj)
          have HB := Lib.hid (show ∀ (W : World) (B : Nat) (v1 v2 v3 : Value), IntsB W B v1 T → IntsB W B v2 (unitL n j) → IntsB W B v3 V → B ≤ W.heap.size → Calls Try.prog 139 #[.agg #[.int .i64 p, .int .i64 n, v1], v2, v3] W (RetOwn W (braL T (unitL n j) V n p)) from fun W B v1 v2 v3 x1 x2 x3 x4 =>
            l2Bracket_any p n v1 v2 v3 T (unitL n j) V B W x1 x2 x3 x4 HT.out (length_unitL n j) HVl.out hn b1 b2 HrT.out (resid_unitL b1 n j) HVr.out)
          have HR := Lib.hid (show ∀ (W : World) (v1 v2 : Value), Ints W v1 E → Ints W v2 (braL T (unitL n j) V n p) → Calls Try.prog 91 #[.agg #[.int .i64 p, .int .i64 rt, .int .i64 n, v1], v2] W (RetOwn W (imgR T n p Tg piv V j)) from fun W v1 v2 x1 x2 => HRb.out W v1 v2 _ x1 x2 (length_braL _ _ _ _ _) (resid_braL _ _ _ _ b1))
          have HN := Lib.hid (imgsTo_succ T n p Tg piv V j)
          have Hl2 := Lib.hid (Hu2.out.trans (length_imgsTo T n p Tg piv V j).symm)
          have Hl3 := Lib.hid (show (imgsTo T n p Tg piv V j).length + 1 ≤ 1099511627776 by rw [length_imgsTo]; omega)
          have ij : (j : Int) < n := by omega
          go_upto_region 10 with fail
          clear y0 y1 y2
          have g0 := h2.drew
          refine wp_region_cut (S := fun w' => (w'.cell? ⟨w.heap.size, 0, none⟩ = some (.int .i64 p) ∧ w'.cell? ⟨w.heap.size, 1, none⟩ = some (.int .i64 n) ∧ w'.cell? ⟨w.heap.size, 2, none⟩ = some (.slice A T.length k)) ∧ (w'.cell? ⟨w.heap.size + 1, 0, none⟩ = some (.int .i64 q1) ∧ w'.cell? ⟨w.heap.size + 1, 1, none⟩ = some (.int .i64 rs) ∧ w'.cell? ⟨w.heap.size + 1, 2, none⟩ = some (.int .i64 n) ∧ w'.cell? ⟨w.heap.size + 1, 3, none⟩ = some (.slice A1 D.length k1)) ∧ (w'.cell? ⟨w.heap.size + 1 + 1, 0, none⟩ = some (.int .i64 p) ∧ w'.cell? ⟨w.heap.size + 1 + 1, 1, none⟩ = some (.int .i64 rt) ∧ w'.cell? ⟨w.heap.size + 1 + 1, 2, none⟩ = some (.int .i64 n) ∧ w'.cell? ⟨w.heap.size + 1 + 1, 3, none⟩ = some (.slice A2 E.length k2))) 13 (by kernel_rfl) (by kernel_rfl) ⟨g0.box3 6 rfl, g0.box4 5 rfl, g0.box4 4 rfl⟩ (fun hHeld => ?_)
          simp only [List.take_succ_cons, List.take_zero]
          refine anyH_take (v := ?_) 0 rfl (by kernel_rfl) (by kernel_rfl) (by kernel_rfl) (fun _ _ _ h => h) rfl ?_ hHeld ?_
          rotate_left
          · intro w' hSw
            go_simp
            try with_reducible rfl
          try simp only [Act.put, List.setIfInBounds_toArray, List.set_cons_zero, List.set_cons_succ]
          refine anyH_take (v := ?_) 1 rfl (by kernel_rfl) (by kernel_rfl) (by kernel_rfl) (fun _ _ _ h => h) rfl ?_ hHeld ?_
          rotate_left
          · intro w' hSw
            go_simp
            try with_reducible rfl
          try simp only [Act.put, List.setIfInBounds_toArray, List.set_cons_zero, List.set_cons_succ]
          refine anyH_take (v := ?_) 2 rfl (by kernel_rfl) (by kernel_rfl) (by kernel_rfl) (fun _ _ _ h => h) rfl ?_ hHeld ?_
          rotate_left
          · intro w' hSw
            go_simp
            try with_reducible rfl
          try simp only [Act.put, List.setIfInBounds_toArray, List.set_cons_zero, List.set_cons_succ]
          refine anyH_take (v := ?_) 3 rfl (by kernel_rfl) (by kernel_rfl) (by kernel_rfl) (fun _ _ _ h => h) rfl ?_ hHeld ?_
          rotate_left
          · intro w' hSw
            go_simp
            try with_reducible rfl
          try simp only [Act.put, List.setIfInBounds_toArray, List.set_cons_zero, List.set_cons_succ]
          refine anyH_take (v := ?_) 4 rfl (by kernel_rfl) (by kernel_rfl) (by kernel_rfl) (fun _ _ _ h => h) rfl ?_ hHeld ?_
          rotate_left
          · intro w' hSw
            go_simp
            try with_reducible rfl
          try simp only [Act.put, List.setIfInBounds_toArray, List.set_cons_zero, List.set_cons_succ]
          refine anyH_take (v := ?_) 5 rfl (by kernel_rfl) (by kernel_rfl) (by kernel_rfl) (fun _ _ _ h => h) rfl ?_ hHeld ?_
          rotate_left
          · intro w' hSw
            go_simp
            try with_reducible rfl
          try simp only [Act.put, List.setIfInBounds_toArray, List.set_cons_zero, List.set_cons_succ]
          refine anyH_take (v := ?_) 7 rfl (by kernel_rfl) (by kernel_rfl) (by kernel_rfl) (fun _ _ _ h => h) rfl ?_ hHeld ?_
          rotate_left
          · intro w' hSw
            go_simp
            try with_reducible rfl
          try simp only [Act.put, List.setIfInBounds_toArray, List.set_cons_zero, List.set_cons_succ]
          refine anyH_take (v := ?_) 8 rfl (by kernel_rfl) (by kernel_rfl) (by kernel_rfl) (fun _ _ _ h => h) rfl ?_ hHeld ?_
          rotate_left
          · intro w' hSw
            go_simp
            try with_reducible rfl
          try simp only [Act.put, List.setIfInBounds_toArray, List.set_cons_zero, List.set_cons_succ]
          refine wpAnyH_ready (rs := [6]) (by kernel_rfl) (by simp) ?_
          refine ready_cons rfl (fun K hK => ?_) AllReadyH.nil
          go_simp
          refine (HU.out _).mono ?_
          rintro (e : Ending) w4 ⟨u4, rfl, ho4, hb4⟩
          obtain ⟨A4, n4, c4, rfl⟩ := ho4.slice
          have g1 := g0.pushOwn hb4 ho4
          clear ho4 hb4
          show K _ _
          refine hK.out _ _ ?_ (fun hHeld => ?_)
          · exact ⟨g1.box3 7 rfl, g1.box4 6 rfl, g1.box4 5 rfl⟩
          clear hK K
          try simp only [Act.put, List.setIfInBounds_toArray, List.set_cons_zero, List.set_cons_succ]
          refine wpAnyH_ready (rs := [9]) (by kernel_rfl) (by simp) ?_
          refine ready_cons rfl (fun K hK => ?_) AllReadyH.nil
          go_simp
          refine (HRi.out _ _ _ (g1.roUp 9 rfl) (Nat.le_refl _)).mono ?_
          rintro (e : Ending) w5 ⟨A5, c5, rfl, hr2, hb5⟩
          have g2 := g1.on hb5
          clear hb5
          show K _ _
          refine hK.out _ _ ?_ (fun hHeld => ?_)
          · exact ⟨g2.box3 7 rfl, g2.box4 6 rfl, g2.box4 5 rfl⟩
          clear hK K
          try simp only [Act.put, List.setIfInBounds_toArray, List.set_cons_zero, List.set_cons_succ]
          refine wpAnyH_ready (rs := [10]) (by kernel_rfl) (by simp) ?_
          refine ready_cons rfl (fun K hK => ?_) AllReadyH.nil
          go_simp
          refine (HB.out _ _ _ _ _ (g2.roUp 10 rfl) (g2.ownInts 0 rfl).toB (IntsB.ints hr2).toB (Nat.le_refl _)).mono ?_
          rintro (e : Ending) w6 ⟨u6, rfl, ho6, hb6⟩
          obtain ⟨A6, n6, c6, rfl⟩ := ho6.slice
          have g3 := g2.pushOwn hb6 ho6
          show K _ _
          refine hK.out _ _ ?_ (fun hHeld => ?_)
          · exact ⟨g3.box3 8 rfl, g3.box4 7 rfl, g3.box4 6 rfl⟩
          clear hK K
          try simp only [Act.put, List.setIfInBounds_toArray, List.set_cons_zero, List.set_cons_succ]
          refine wpAnyH_ready (rs := [11]) (by kernel_rfl) (by simp) ?_
          refine ready_cons rfl (fun K hK => ?_) AllReadyH.nil
          go_simp
          refine (HR.out _ _ _ (g3.roInts 9 rfl) (g3.ownInts 0 rfl)).mono ?_
          rintro (e : Ending) w7 ⟨u7, rfl, ho7, hb7⟩
          obtain ⟨A7, n7, c7, rfl⟩ := ho7.slice
          have g4 := g3.pushOwn hb7 ho7
          show K _ _
          refine hK.out _ _ ?_ (fun hHeld => ?_)
          · exact ⟨g4.box3 9 rfl, g4.box4 8 rfl, g4.box4 7 rfl⟩
          clear hK K
          try simp only [Act.put, List.setIfInBounds_toArray, List.set_cons_zero, List.set_cons_succ]
          refine wpAnyH_ready (rs := [12]) (by kernel_rfl) (by simp) ?_
          refine ready_cons rfl (fun K hK => ?_) AllReadyH.nil
          go_simp
          have ga := g4.alloc' (.cells #[.slice A7 n7 c7] 22)
          refine hK.out _ _ ?_ (fun hHeld => ?_)
          · exact ⟨ga.box3 9 rfl, ga.box4 8 rfl, ga.box4 7 rfl⟩
          clear hK K
          try simp only [Act.put, List.setIfInBounds_toArray, List.set_cons_zero, List.set_cons_succ]
          refine wpAnyH_done (by kernel_rfl) ?_ _
          show wpList _ _ _ _ _ _
          simp only [List.drop_succ_cons, List.drop_zero]
          clear hHeld
          clear g0 g1 g2 g3 ga h2 ho6 hb6 ho7 hb7 hr2
          go_wp2_with (at_builtin; refine wp_append_row' rfl (.tmp 31) (.tmp 43) rfl g4 2 rfl Hl2.out rfl rfl Hl3.out ?_; intro v1 w8 h3)
          replace h3 := h3.drop 2
          go_roundw
          case rel => exact ⟨j + 1, us2 ++ [_], by go_num, by omega, by show _ = _; rw [List.length_append, Hu2.out]; rfl, by rw [HN.out]; exact h3⟩
          case measure => simp [intOf]; omega
        · obtain rfl : j = n := by omega
          obtain ⟨M, hM⟩ : ∃ M, M = imgsTo T j p Tg piv V j := ⟨_, rfl⟩
          have hMl : M.length = j := by rw [hM]; exact length_imgsTo T j p Tg piv V j
          have hMr : ∀ i, i < j → rowOf M i = imgR T j p Tg piv V i := fun i hi => by rw [hM]; exact rowOf_imgsTo hi
          rw [← hM] at h2
          have Hus2 := Lib.hid (show us2.length = M.length by rw [hMl]; exact Hu2.out)
          obtain ⟨Am, cm, rfl, _, _, _⟩ := id (h2.rowsR 0 rfl Hus2.out)
          rw [hMl] at h2 ⊢
          have HMl2 := Lib.hid hMl
          have HMr := Lib.hid hMr
          have HMrl := Lib.hid (show ∀ i, i < j → (rowOf M i).length = j from fun i hi => by rw [hMr i hi]; exact HIl.out V i)
          have He0 := Lib.hid (eqsAt_zero T j p Tg piv Fr S i)
          clear hM hMl hMr Hu2
          go_wp2
          clear y0 y1 y2
          go_loopw [8, 12, 13, 14] (fun v8 v12 _ _ wr => ∃ (c : Nat) (us : List Value), v12 = .int .i64 c ∧ c ≤ Fr.length ∧ Hid (us.length = (eqsAt T j p Tg piv Fr S i c).length) ∧ St w wr [rowsIt (.slice Am j cm) us2 M, rowsIt v8 us (eqsAt T j p Tg piv Fr S i c), .own (.slice Af Fr.length cf) (pivI Fr), .box (w.heap.size + 1 + 1 + 1) [.int .i64 0, .int .i64 0, .int .i64 0, .slice none 0 0], .box (w.heap.size + 1 + 1) [.int .i64 p, .int .i64 rt, .int .i64 j, .slice A2 E.length k2], .box (w.heap.size + 1) [.int .i64 q1, .int .i64 rs, .int .i64 j, .slice A1 D.length k1], .box w.heap.size [.int .i64 p, .int .i64 j, .slice A T.length k], .ro (.slice A2 E.length k2) E, .ro (.slice A1 D.length k1) D, .ro (.slice A T.length k) T]) (fun _ v12 _ _ _ => Fr.length - (intOf v12).toNat)
          case atStart => exact ⟨0, us, rfl, by omega, by show _ = _; rw [He0.out]; exact Hul.out, by rw [He0.out]; exact h2⟩
          case round =>
            clear h2 Hul
            obtain ⟨c, us, rfl, a3, Hul, h2⟩ := hrel
            by_cases hc : c < Fr.length
            · have h3 := h2.empty
              have ic : (c : Int) < Fr.length := by omega
              go_wp2
              clear h2
              go_loopw [13, 14] (fun v13 v14 wr => ∃ d : Nat, v14 = .int .i64 d ∧ d ≤ j ∧ St w wr [.own v13 (tab d fun i => vec (imgR T j p Tg piv V i) (pv Fr c)), rowsIt (.slice Am j cm) us2 M, rowsIt u8 us (eqsAt T j p Tg piv Fr S i c), .own (.slice Af Fr.length cf) (pivI Fr), .box (w.heap.size + 1 + 1 + 1) [.int .i64 0, .int .i64 0, .int .i64 0, .slice none 0 0], .box (w.heap.size + 1 + 1) [.int .i64 p, .int .i64 rt, .int .i64 j, .slice A2 E.length k2], .box (w.heap.size + 1) [.int .i64 q1, .int .i64 rs, .int .i64 j, .slice A1 D.length k1], .box w.heap.size [.int .i64 p, .int .i64 j, .slice A T.length k], .ro (.slice A2 E.length k2) E, .ro (.slice A1 D.length k1) D, .ro (.slice A T.length k) T]) (fun _ v14 _ => j - (intOf v14).toNat)
              case atStart => exact ⟨0, rfl, by omega, h3⟩
              case round =>
                clear h3
                obtain ⟨d, rfl, a4, h3⟩ := hrel
                obtain ⟨y0, y1, y2⟩ := h3.box3 7 rfl
                by_cases hd : d < j
                · have hfb := HFb.out c hc
                  obtain ⟨gf, rfl, hq8⟩ := h3.ownSomeA 3 rfl (by rw [length_pivI]; omega)
                  clear hq8
                  obtain ⟨gm, rfl⟩ := h3.vecSome 1 rfl (by rw [HMl2.out]; omega)
                  have hrl : (rowOf M d).length = j := HMrl.out d hd
                  obtain ⟨b, dd, _, rc, rcell, _, _⟩ := h3.rowG 1 rfl Hus2.out HMl2.out.symm (k := d) (by rw [HMl2.out]; exact hd) hrl (by omega)
                  have rv := rcell (pv Fr c) hfb
                  rw [HMr.out d hd] at rv
                  have pc := (h3.ownCellA 3 rfl (q := c) (by rw [length_pivI]; exact hc)).1
                  rw [vec_pivI hc] at pc
                  have HN := Lib.hid (tab_succ d fun i => vec (imgR T j p Tg piv V i) (pv Fr c))
                  obtain ⟨x, hx⟩ : ∃ x, x = vec (imgR T j p Tg piv V d) (pv Fr c) := ⟨_, rfl⟩
                  have HX := Lib.hid hx
                  rw [← hx] at rv
                  obtain ⟨tl, htl⟩ : ∃ tl, tl = (tab d fun i => vec (imgR T j p Tg piv V i) (pv Fr c)) := ⟨_, rfl⟩
                  have Htl := Lib.hid htl
                  have Hl1 := Lib.hid (show tl.length + 1 ≤ 17592186044416 by rw [htl, length_tab]; omega)
                  rw [← htl] at h3
                  obtain ⟨q, hq⟩ : ∃ q, q = pv Fr c := ⟨_, rfl⟩
                  rw [← hq] at rv pc hfb
                  have i4 : (d : Int) < j := by omega
                  have i5 : (q : Int) < j := by omega
                  clear rcell hrl hx htl hq
                  go_upto_region 18 with fail
                  clear y0 y1 y2
                  have g0 := h3.drew
                  have rc0 : wr.drew.cell? ⟨gm, d, none⟩ = some (.slice (some ⟨b, 0, none⟩) j dd) := rc
                  have rv0 : wr.drew.cell? ⟨b, q, none⟩ = some (.int .i64 x) := rv
                  have pc0 : wr.drew.cell? ⟨gf, c, none⟩ = some (.int .i64 (q : Nat)) := pc
                  refine wp_region_cut (S := fun w' => w'.cell? ⟨gm, d, none⟩ = some (.slice (some ⟨b, 0, none⟩) j dd) ∧ w'.cell? ⟨b, q, none⟩ = some (.int .i64 x) ∧ w'.cell? ⟨gf, c, none⟩ = some (.int .i64 (q : Nat))) 12 (by kernel_rfl) (by kernel_rfl) ⟨rc0, rv0, pc0⟩ (fun hHeld => ?_)
                  simp only [List.take_succ_cons, List.take_zero]
                  clear rc rv pc
                  refine anyH_take (v := ?_) 0 rfl (by kernel_rfl) (by kernel_rfl) (by kernel_rfl) (fun _ _ _ h => h) rfl ?_ hHeld ?_
                  rotate_left
                  · intro w' hSw
                    go_simp
                    try with_reducible rfl
                  try simp only [Act.put, List.setIfInBounds_toArray, List.set_cons_zero, List.set_cons_succ]
                  refine anyH_take (v := ?_) 1 rfl (by kernel_rfl) (by kernel_rfl) (by kernel_rfl) (fun _ _ _ h => h) rfl ?_ hHeld ?_
                  rotate_left
                  · intro w' hSw
                    go_simp
                    try with_reducible rfl
                  try simp only [Act.put, List.setIfInBounds_toArray, List.set_cons_zero, List.set_cons_succ]
                  refine anyH_take (v := ?_) 2 rfl (by kernel_rfl) (by kernel_rfl) (by kernel_rfl) (fun _ _ _ h => h) rfl ?_ hHeld ?_
                  rotate_left
                  · intro w' hSw
                    go_simp
                    try with_reducible rfl
                  try simp only [Act.put, List.setIfInBounds_toArray, List.set_cons_zero, List.set_cons_succ]
                  refine anyH_take (v := ?_) 3 rfl (by kernel_rfl) (by kernel_rfl) (by kernel_rfl) (fun _ _ _ h => h) rfl ?_ hHeld ?_
                  rotate_left
                  · intro w' hSw
                    go_simp
                    try with_reducible rfl
                  try simp only [Act.put, List.setIfInBounds_toArray, List.set_cons_zero, List.set_cons_succ]
                  refine anyH_take (v := ?_) 4 rfl (by kernel_rfl) (by kernel_rfl) (by kernel_rfl) (fun _ _ _ h => h) rfl ?_ hHeld ?_
                  rotate_left
                  · intro w' hSw
                    go_simp
                    try with_reducible rfl
                  try simp only [Act.put, List.setIfInBounds_toArray, List.set_cons_zero, List.set_cons_succ]
                  refine anyH_take (v := ?_) 5 rfl (by kernel_rfl) (by kernel_rfl) (by kernel_rfl) (fun _ _ _ h => h) rfl ?_ hHeld ?_
                  rotate_left
                  · intro w' hSw
                    go_simp
                    try with_reducible rfl
                  try simp only [Act.put, List.setIfInBounds_toArray, List.set_cons_zero, List.set_cons_succ]
                  refine anyH_take (v := ?_) 6 rfl (by kernel_rfl) (by kernel_rfl) (by kernel_rfl) (fun _ _ _ h => h) rfl ?_ hHeld ?_
                  rotate_left
                  · intro w' hSw
                    go_simp
                    try with_reducible rfl
                  try simp only [Act.put, List.setIfInBounds_toArray, List.set_cons_zero, List.set_cons_succ]
                  refine anyH_take (v := ?_) 7 rfl (by kernel_rfl) (by kernel_rfl) (by kernel_rfl) (fun _ _ _ h => h) rfl ?_ hHeld ?_
                  rotate_left
                  · intro w' hSw
                    go_simp
                    try with_reducible rfl
                  try simp only [Act.put, List.setIfInBounds_toArray, List.set_cons_zero, List.set_cons_succ]
                  refine anyH_take (v := ?_) 8 rfl (by kernel_rfl) (by kernel_rfl) (by kernel_rfl) (fun _ _ _ h => h) rfl ?_ hHeld ?_
                  rotate_left
                  · intro w' hSw
                    go_simp
                    try with_reducible rfl
                  try simp only [Act.put, List.setIfInBounds_toArray, List.set_cons_zero, List.set_cons_succ]
                  refine anyH_take (v := ?_) 9 rfl (by kernel_rfl) (by kernel_rfl) (by kernel_rfl) (fun _ _ _ h => h) rfl ?_ hHeld ?_
                  rotate_left
                  · intro w' hSw
                    go_simp
                    try with_reducible rfl
                  try simp only [Act.put, List.setIfInBounds_toArray, List.set_cons_zero, List.set_cons_succ]
                  refine anyH_take (v := ?_) 10 rfl (by kernel_rfl) (by kernel_rfl) (by kernel_rfl) (fun _ _ _ h => h) rfl ?_ hHeld ?_
                  rotate_left
                  · intro w' hSw
                    go_simp
                    try with_reducible rfl
                  try simp only [Act.put, List.setIfInBounds_toArray, List.set_cons_zero, List.set_cons_succ]
                  refine wpAnyH_ready (rs := [11]) (by kernel_rfl) (by simp) ?_
                  refine ready_cons rfl (fun K hK => ?_) AllReadyH.nil
                  go_simp
                  refine hK.out _ _ ?_ (fun hHeld => ?_)
                  · exact ⟨cell_alloc rc0, cell_alloc rv0, cell_alloc pc0⟩
                  clear hK K
                  try simp only [Act.put, List.setIfInBounds_toArray, List.set_cons_zero, List.set_cons_succ]
                  refine wpAnyH_done (by kernel_rfl) ?_ _
                  show wpList _ _ _ _ _ _
                  simp only [List.drop_succ_cons, List.drop_zero]
                  clear hHeld
                  clear h3
                  go_wp2_with (at_builtin; refine wp_append_ints rfl (.tmp 58) (.tmp 69) rfl w.heap.size _ _ tl [x] rfl rfl ((g0.alloc' _).own 0 rfl) Ints.one Hl1.out (g0.alloc' _).size ?_; intro v1 w7 ho1 hg1 hb1; have h4 := (g0.alloc' _).appended 0 rfl ho1 hg1 hb1)
                  go_roundw
                  case rel => exact ⟨d + 1, by go_num, by omega, by rw [HN.out, ← HX.out, ← Htl.out]; exact h4⟩
                  case measure => simp [intOf]; omega
                · obtain rfl : d = j := by omega
                  have HN := Lib.hid (eqsAt_succ T d p Tg piv S i hc)
                  have HQ := Lib.hid (show (tab d fun i => vec (imgR T d p Tg piv V i) (pv Fr c)) = eqR T d p Tg piv (rowOf S i) (pv Fr c) by rw [← HV.out]; rfl)
                  have hll := length_eqsAt T d p Tg piv Fr (S := S) (i := i) (by omega) c
                  have h9 : i * Fr.length ≤ 40 * 28 := Nat.mul_le_mul (by omega) (by have := HFl.out; omega)
                  have Hl1 := Lib.hid (show (eqsAt T d p Tg piv Fr S i c).length + 1 ≤ 1099511627776 by have := HFl.out; omega)
                  rw [HQ.out] at h3
                  obtain ⟨A9, n9, c9, rfl⟩ := (h3.own 0 rfl).slice
                  clear hll h9
                  go_wp2_with (at_builtin; refine wp_append_row' rfl (.tmp 71) (.tmp 73) rfl h3 1 rfl Hul.out rfl rfl Hl1.out ?_; intro v1 w1 h4)
                  go_roundw
                  case rel => exact ⟨c + 1, us ++ [_], by go_num, by omega, by show _ = _; rw [HN.out, List.length_append, List.length_append, Hul.out]; rfl, by rw [HN.out]; exact h4⟩
                  case measure => simp [intOf]; omega
            · obtain rfl : c = Fr.length := by omega
              have HN := Lib.hid (eqsAt_end T j p Tg piv Fr (S := S) (i := i) hiS (Nat.le_refl _))
              replace h2 := h2.drop 1
              go_wp2
              go_roundw
              case rel => exact ⟨i + 1, us, by go_num, by omega, by show _ = _; rw [← HN.out]; exact Hul.out, by rw [← HN.out]; exact h2⟩
              case measure => simp [intOf]; omega
    · obtain rfl : i = rs := by omega
      rw [Hrs.out] at Hul
      rw [show eqsTo T n p Tg piv Fr S i = eqsTo T n p Tg piv Fr S S.length by rw [Hrs.out]] at h1
      obtain ⟨Q, hQ⟩ : ∃ Q, Q = eqsTo T n p Tg piv Fr S S.length := ⟨_, rfl⟩
      have hWq := HWe.out
      have hKq := HKn.out
      have hlq := HMl.out
      rw [← hQ] at hWq hKq
      rw [show eqsTo T n p Tg piv Fr S i = Q by rw [hQ, Hrs.out]] at hlq
      rw [← hQ] at h1
      have Hu9 := Lib.hid (show us.length = Q.length by rw [hQ]; exact Hul.out)
      have h9 : i * Fr.length ≤ 40 * 28 := Nat.mul_le_mul hSl (by have := HFl.out; omega)
      have h8 : Q.length * n ≤ 1120 * 28 := Nat.mul_le_mul (by omega) hn
      have hq := h1.rowsR 0 rfl Hu9.out
      obtain ⟨A5, c5, rfl, _, _, _⟩ := id hq
      have HRo := Lib.hid (show ∀ W, IntRows W (.slice A5 Q.length c5) Q → Calls Try.prog 102 #[.int .i64 p, .int .i64 n, .slice A5 Q.length c5] W (RetMat W p Q.length n (flat n Q)) from fun W hW => by
        have := l1Rows_any p n _ Q W hW (by rw [total_wf hWq]; omega)
        rwa [← flat_flatten hWq] at this)
      have HK := Lib.hid (show ∀ W v, Ints W v (flat n Q) → Calls Try.prog 104 #[.agg #[.int .i64 p, .int .i64 Q.length, .int .i64 n, v]] W (RetMat W p K.length n (flat n K)) from fun W v hW => by
        have := l1Kernel_any p Q.length n v (flat n Q) W hW (length_flat n Q) (by omega) (by omega) (by omega) HP.out (resid_flat (by omega) hWq)
        rw [rowsM_flat hWq, hKq] at this
        exact this)
      obtain ⟨z0, z1, z2⟩ := h1.box3 5 rfl
      clear hq hWq hKq hlq hQ h9 h8
      go_wp2_with fail
      refine (HRo.out _ (h1.rowsR 0 rfl Hu9.out)).mono ?_
      rintro (e : Ending) w4 ⟨u4, rfl, ho4, hb4⟩
      have g1 := h1.pushOwn hb4 ho4
      clear ho4 hb4 h1 z0 z1 z2 x0 x1 x2 x3
      go_wp2_with fail
      refine (HK.out _ _ (g1.ownInts 0 rfl)).mono ?_
      rintro (e : Ending) w5 ⟨u5, rfl, ho5, hb5⟩
      obtain ⟨A7, c7, rfl, _, _, _⟩ := id ho5.ints
      have g2 := g1.pushOwn hb5 ho5
      clear ho5 hb5 g1
      obtain ⟨p0, p1, p2, p3⟩ := g2.box4 4 rfl
      have f0 := g2.free 4 rfl 0
      have f1 := g2.free 4 rfl 1
      have f2 := g2.free 4 rfl 2
      have f3 := g2.free 4 rfl 3
      have g3 := (((g2.setBox 4 rfl 0 (.int .i64 p)).setBox 4 rfl 1 (.int .i64 K.length)).setBox 4 rfl 2 (.int .i64 n)).setBox 4 rfl 3 (.slice A7 (flat n K).length c7)
      obtain ⟨r0, r1, r2, r3⟩ := g3.box4 4 rfl
      go_wp2
      refine bodyPost_ret (v := .agg #[.int .i64 p, .int .i64 K.length, .int .i64 n, .slice A7 (flat n K).length c7]) (by simp [results, Try.results157, go_sem, r0, r1, r2, r3]) rfl ⟨_, rfl, g3.own 0 rfl, g3.below⟩
end Go.Proofs.Ytcdbgcpccmcbeaa
