/- The elements whose brackets lie in a space, in the program: into. -/
import Derived.Test.YtcdbgcpccmcbeaaIntoS
namespace Go.Proofs.Ytcdbgcpccmcbeaa
set_option maxRecDepth 100000
open Go.RowKit

theorem tab_succ (n : Nat) (f : Nat → Int) : tab (n + 1) f = tab n f ++ [f n] := by simp [tab, List.range_succ]
/-- The images while they are made. -/
def imgsTo (T : List Int) (n : Nat) (p : Int) (t : List (List Int)) (piv : List Nat) (v : List Int) (k : Nat) : List (List Int) := (List.range k).map (imgR T n p t piv v)
theorem imgsTo_succ (T : List Int) (n : Nat) (p : Int) (t : List (List Int)) (piv : List Nat) (v : List Int) (k : Nat) : imgsTo T n p t piv v (k + 1) = imgsTo T n p t piv v k ++ [imgR T n p t piv v k] := by simp [imgsTo, List.range_succ]
theorem length_imgsTo (T : List Int) (n : Nat) (p : Int) (t : List (List Int)) (piv : List Nat) (v : List Int) (k : Nat) : (imgsTo T n p t piv v k).length = k := by simp [imgsTo]
theorem rowOf_imgsTo {T : List Int} {n : Nat} {p : Int} {t : List (List Int)} {piv : List Nat} {v : List Int} {k i : Nat} (h : i < k) : rowOf (imgsTo T n p t piv v k) i = imgR T n p t piv v i := by
  simp [rowOf, imgsTo, List.getD_eq_getElem?_getD, h]
/-- The equations while they are made, for the columns of a list. -/
def eqsAt (T : List Int) (n : Nat) (p : Int) (t : List (List Int)) (piv : List Nat) (cols : List Nat) (S : List (List Int)) (i k : Nat) : List (List Int) := eqsTo T n p t piv cols S i ++ eqsR T n p t piv (rowOf S i) (cols.take k)
theorem eqsAt_zero (T : List Int) (n : Nat) (p : Int) (t : List (List Int)) (piv : List Nat) (cols : List Nat) (S : List (List Int)) (i : Nat) : eqsAt T n p t piv cols S i 0 = eqsTo T n p t piv cols S i := by simp [eqsAt, eqsR]
theorem eqsAt_end (T : List Int) (n : Nat) (p : Int) (t : List (List Int)) (piv : List Nat) (cols : List Nat) {S : List (List Int)} {i k : Nat} (h : i < S.length) (hk : cols.length ≤ k) : eqsAt T n p t piv cols S i k = eqsTo T n p t piv cols S (i + 1) := by
  rw [eqsAt, List.take_of_length_le hk, eqsTo_succ _ _ _ _ _ _ h]
theorem eqsAt_succ (T : List Int) (n : Nat) (p : Int) (t : List (List Int)) (piv : List Nat) {cols : List Nat} (S : List (List Int)) (i : Nat) {k : Nat} (h : k < cols.length) : eqsAt T n p t piv cols S i (k + 1) = eqsAt T n p t piv cols S i k ++ [eqR T n p t piv (rowOf S i) (pv cols k)] := by
  rw [eqsAt, take_piv h, eqsR, List.map_append, eqsAt, List.append_assoc]; rfl
theorem length_eqsAt (T : List Int) (n : Nat) (p : Int) (t : List (List Int)) (piv : List Nat) (cols : List Nat) {S : List (List Int)} {i : Nat} (h : i ≤ S.length) (k : Nat) : (eqsAt T n p t piv cols S i k).length ≤ i * cols.length + cols.length := by
  rw [eqsAt, List.length_append, length_eqsTo _ _ _ _ _ _ _ _ h, eqsR, List.length_map, List.length_take]; omega

set_option maxHeartbeats 1000000 in
theorem into_any (p q1 _q2 : Int) (n : Nat) (t s u : Value) (T : List Int) (S Tg : List (List Int)) (piv : List Nat) (w : World) (ht : Ints w t T) (hs : Ints w s (flat n S)) (hu : Ints w u (flat n Tg)) (hT : T.length = n * n * n) (hS : Wf p n S) (hSl : S.length ≤ 40) (hTg : Rf p n Tg piv) (hn : n ≤ 28) (hP : isPrime p = true) (rT : resid p T = true) :
    Calls Try.prog 88 #[.agg #[.int .i64 p, .int .i64 n, t], .agg #[.int .i64 q1, .int .i64 S.length, .int .i64 n, s], .agg #[.int .i64 p, .int .i64 Tg.length, .int .i64 n, u]] w
      (RetMat w p (intoL T n p Tg piv S).length n (flat n (intoL T n p Tg piv S))) := by
  obtain ⟨b1, b2⟩ := isPrime_bd hP
  have h1 := (((((((St.start w).arg ht).arg hs).arg hu).box [.int .i64 p, .int .i64 n, t] 69).box [.int .i64 q1, .int .i64 S.length, .int .i64 n, s] 33).box [.int .i64 p, .int .i64 Tg.length, .int .i64 n, u] 33).box [.int .i64 0, .int .i64 0, .int .i64 0, .slice none 0 0] 33
  replace h1 := h1.emptyRows
  simp only [World.size_alloc] at h1
  obtain ⟨A, k, rfl, _, _, _⟩ := id ht
  obtain ⟨A1, k1, rfl, _, _, _⟩ := id hs
  obtain ⟨A2, k2, rfl, _, _, _⟩ := id hu
  have hDl := length_flat n S
  have hEl := length_flat n Tg
  have hRw : ∀ (W : World) (v : Value), Ints W v (flat n S) → Calls Try.prog 58 #[.agg #[.int .i64 q1, .int .i64 S.length, .int .i64 n, v]] W (RetLL W S) := fun W v hW => by
    have := rowsOf_any q1 S.length n v (flat n S) W hW hDl (by have := mul_le hSl (show n ≤ 40 by omega); omega) (by omega)
    rwa [rowsM_flat hS] at this
  have hRb : ∀ (W : World) (v1 v2 : Value) (X : List Int), Ints W v1 (flat n Tg) → Ints W v2 X → X.length = n → resid p X = true → Calls Try.prog 97 #[.agg #[.int .i64 p, .int .i64 Tg.length, .int .i64 n, v1], v2] W (RetOwn W (redV p Tg piv X)) := fun W v1 v2 X x1 x2 x3 x4 => reduceBy_any p n Tg piv v1 v2 X W x1 x2 hTg x3 x4 (by omega) b1 b2
  have hWe := Wf_eqsTo (T := T) b1 hTg (List.range n) S S.length
  have hMl := length_eqsTo T n p Tg piv (List.range n) S S.length (Nat.le_refl _)
  have hKn : kerL p n (eqsTo T n p Tg piv (List.range n) S S.length) = intoL T n p Tg piv S := rfl
  obtain ⟨K, hK⟩ : ∃ K, K = intoL T n p Tg piv S := ⟨_, rfl⟩
  rw [← hK] at hKn ⊢
  obtain ⟨E, hE⟩ : ∃ E, E = flat n Tg := ⟨_, rfl⟩
  obtain ⟨D, hD⟩ : ∃ D, D = flat n S := ⟨_, rfl⟩
  obtain ⟨rt, hrt⟩ : ∃ rt, rt = Tg.length := ⟨_, rfl⟩
  obtain ⟨rs, hrs⟩ : ∃ rs, rs = S.length := ⟨_, rfl⟩
  have hKw := Wf_kerL hP n (eqsTo T n p Tg piv (List.range n) S S.length)
  rw [hKn] at hKw
  rw [← hE, ← hrt] at hRb
  rw [← hD, ← hrs] at hRw
  rw [← hE, ← hrt, ← hD, ← hrs] at h1
  rw [← hE, ← hrt, ← hD, ← hrs]
  rw [← hrs] at hMl hSl
  have HRw := Lib.hid hRw
  have HRb := Lib.hid hRb
  have HWe := Lib.hid hWe
  have HMl := Lib.hid hMl
  have HKn := Lib.hid hKn
  have HT := Lib.hid hT
  have HP := Lib.hid hP
  have HS := Lib.hid hS
  have Hrs := Lib.hid hrs
  have HKw := Lib.hid hKw
  have HKl := Lib.hid (show K.length ≤ n by rw [hK]; obtain ⟨a, ha⟩ := kerL_rf hP n (eqsTo T n p Tg piv (List.range n) S S.length); exact rf_le_n b1 ha)
  have HrT := Lib.hid rT
  have HIl := Lib.hid (fun (v : List Int) (i : Nat) => (imgR_ok (T := T) b1 hTg v i).1)
  clear ht hs hu hT hS hTg hDl hEl hRw hRb hWe hMl hKn hK hE hD hrt hrs hP hKw rT
  obtain ⟨z0, z1, z2, z3⟩ := h1.box4 3 rfl
  go_enter Try.func88, Try.ntmps88
  go_wp2_with fail
  refine (HRw.out _ _ (h1.roInts 6 rfl)).mono ?_
  rintro (e : Ending) w8 ⟨vr, us1, rfl, hul1, hok, hnd, hb1⟩
  obtain ⟨Ar, cr, rfl, _, _, _⟩ := id (It.rows hok hul1)
  replace h1 := h1.pushRows hb1 hok hnd
  have Hul1 := Lib.hid hul1
  rw [← Hrs.out] at h1 ⊢
  clear hok hnd hb1 z0 z1 z2 z3 hul1
  go_wp2
  go_loopw [7, 9, 10, 11, 12, 13, 15, 20] (fun v7 _ _ _ _ _ _ v20 wr => ∃ (i : Nat) (us : List Value), v20 = .int .i64 i ∧ i ≤ rs ∧ Hid (us.length = (eqsTo T n p Tg piv (List.range n) S i).length) ∧ St w wr [rowsIt (.slice Ar rs cr) us1 S, rowsIt v7 us (eqsTo T n p Tg piv (List.range n) S i), .box (w.heap.size + 1 + 1 + 1) [.int .i64 0, .int .i64 0, .int .i64 0, .slice none 0 0], .box (w.heap.size + 1 + 1) [.int .i64 p, .int .i64 rt, .int .i64 n, .slice A2 E.length k2], .box (w.heap.size + 1) [.int .i64 q1, .int .i64 rs, .int .i64 n, .slice A1 D.length k1], .box w.heap.size [.int .i64 p, .int .i64 n, .slice A T.length k], .ro (.slice A2 E.length k2) E, .ro (.slice A1 D.length k1) D, .ro (.slice A T.length k) T]) (fun _ _ _ _ _ _ _ v20 _ => rs - (intOf v20).toNat)
  case atStart => exact ⟨0, [], rfl, by omega, rfl, h1⟩
  case round =>
    clear h1
    obtain ⟨i, us, rfl, a1, Hul, h1⟩ := hrel
    by_cases hi : i < rs
    · have hiS : i < S.length := by rw [← Hrs.out]; exact hi
      obtain ⟨gr, rfl⟩ := h1.vecSome 0 rfl (by omega)
      obtain ⟨Ai, ci, hui, e0, _⟩ := h1.row 0 rfl Hul1.out Hrs.out (k := i) hiS
      have HSi := Lib.hid (HS.out i hiS)
      obtain ⟨V, hV⟩ : ∃ V, V = rowOf S i := ⟨_, rfl⟩
      rw [← hV] at hui e0
      have HV := Lib.hid hV
      have Hui := Lib.hid hui
      have hVl : V.length = n := by rw [hV]; exact HSi.out.1
      have hVr : resid p V = true := by rw [hV]; exact HSi.out.2
      have HVl := Lib.hid hVl
      have HVr := Lib.hid hVr
      have i1 : (i : Int) < rs := by omega
      have h2 := h1.emptyRows
      obtain ⟨y0, y1, y2⟩ := h2.box3 6 rfl
      clear hui hV hVl hVr
      go_wp2
      clear e0 y0 y1 y2 h1
      go_loopw [10, 11, 27] (fun v10 _ v27 wr => ∃ (j : Nat) (us2 : List Value), v27 = .int .i64 j ∧ j ≤ n ∧ Hid (us2.length = j) ∧ St w wr [rowsIt v10 us2 (imgsTo T n p Tg piv V j), rowsIt (.slice (some ⟨gr, 0, none⟩) rs cr) us1 S, rowsIt u7 us (eqsTo T n p Tg piv (List.range n) S i), .box (w.heap.size + 1 + 1 + 1) [.int .i64 0, .int .i64 0, .int .i64 0, .slice none 0 0], .box (w.heap.size + 1 + 1) [.int .i64 p, .int .i64 rt, .int .i64 n, .slice A2 E.length k2], .box (w.heap.size + 1) [.int .i64 q1, .int .i64 rs, .int .i64 n, .slice A1 D.length k1], .box w.heap.size [.int .i64 p, .int .i64 n, .slice A T.length k], .ro (.slice A2 E.length k2) E, .ro (.slice A1 D.length k1) D, .ro (.slice A T.length k) T]) (fun _ _ v27 _ => n - (intOf v27).toNat)
      case atStart => exact ⟨0, [], rfl, by omega, rfl, h2⟩
      case round =>
        clear h2
        obtain ⟨j, us2, rfl, a2, Hu2, h2⟩ := hrel
        by_cases hj : j < n
        · have HU := Lib.hid (fun W => unit_any n j W (by omega) hj)
          have HB := Lib.hid (show ∀ (W : World) (B : Nat) (v1 v2 v3 : Value), IntsB W B v1 T → IntsB W B v2 (unitL n j) → IntsB W B v3 V → B ≤ W.heap.size → Calls Try.prog 80 #[.agg #[.int .i64 p, .int .i64 n, v1], v2, v3] W (RetOwn W (braL T (unitL n j) V n p)) from fun W B v1 v2 v3 x1 x2 x3 x4 => by
            have := bracket_any p n v1 v2 v3 T (unitL n j) V B W x1 x2 x3 x4 HT.out (length_unitL n j) HVl.out hn b1 b2 HrT.out (resid_unitL b1 n j) HVr.out
            rwa [bracketL_eq] at this)
          have HR := Lib.hid (show ∀ (W : World) (v1 v2 : Value), Ints W v1 E → Ints W v2 (braL T (unitL n j) V n p) → Calls Try.prog 97 #[.agg #[.int .i64 p, .int .i64 rt, .int .i64 n, v1], v2] W (RetOwn W (imgR T n p Tg piv V j)) from fun W v1 v2 x1 x2 => HRb.out W v1 v2 _ x1 x2 (length_braL _ _ _ _ _) (resid_braL _ _ _ _ b1))
          have HN := Lib.hid (imgsTo_succ T n p Tg piv V j)
          have Hl2 := Lib.hid (Hu2.out.trans (length_imgsTo T n p Tg piv V j).symm)
          have Hl3 := Lib.hid (show (imgsTo T n p Tg piv V j).length + 1 ≤ 1099511627776 by rw [length_imgsTo]; omega)
          have ij : (j : Int) < n := by omega
          go_upto_region 9 with fail
          have g0 := h2.drew
          have HVi := Lib.hid (fun (W : World) (L : List It) (jj : Nat) (h : St w W L) (hL : L[jj]? = some (rowsIt (.slice (some ⟨gr, 0, none⟩) rs cr) us1 S)) => (show Ints W (.slice Ai V.length ci) V by rw [HV.out]; have := (h.rowAt jj hL Hrs.out Hui.out hiS).2; rwa [HV.out] at this))
          refine wp_region_cut (S := fun w' => (w'.cell? ⟨w.heap.size, 0, none⟩ = some (.int .i64 p) ∧ w'.cell? ⟨w.heap.size, 1, none⟩ = some (.int .i64 n) ∧ w'.cell? ⟨w.heap.size, 2, none⟩ = some (.slice A T.length k)) ∧ (w'.cell? ⟨w.heap.size + 1 + 1, 0, none⟩ = some (.int .i64 p) ∧ w'.cell? ⟨w.heap.size + 1 + 1, 1, none⟩ = some (.int .i64 rt) ∧ w'.cell? ⟨w.heap.size + 1 + 1, 2, none⟩ = some (.int .i64 n) ∧ w'.cell? ⟨w.heap.size + 1 + 1, 3, none⟩ = some (.slice A2 E.length k2))) 11 (by kernel_rfl) (by kernel_rfl) ⟨g0.box3 6 rfl, g0.box4 4 rfl⟩ (fun hHeld => ?_)
          simp only [List.take_succ_cons, List.take_zero]
          refine anyH_take (v := ?_) 0 rfl (by kernel_rfl) (by kernel_rfl) (by kernel_rfl) (fun _ _ _ h => h) rfl ?_ hHeld ?_
          rotate_left
          · intro w' hSw
            go_simp
            try with_reducible rfl
          try simp only [Act.put, List.setIfInBounds_toArray, List.set_cons_zero, List.set_cons_succ]
          refine anyH_take (v := ?_) 1 rfl (by kernel_rfl) (by kernel_rfl) (by kernel_rfl) (fun _ _ _ h => h) rfl ?_ hHeld ?_
          rotate_left
          · intro w' hSw
            go_simp
            try with_reducible rfl
          try simp only [Act.put, List.setIfInBounds_toArray, List.set_cons_zero, List.set_cons_succ]
          refine anyH_take (v := ?_) 2 rfl (by kernel_rfl) (by kernel_rfl) (by kernel_rfl) (fun _ _ _ h => h) rfl ?_ hHeld ?_
          rotate_left
          · intro w' hSw
            go_simp
            try with_reducible rfl
          try simp only [Act.put, List.setIfInBounds_toArray, List.set_cons_zero, List.set_cons_succ]
          refine anyH_take (v := ?_) 3 rfl (by kernel_rfl) (by kernel_rfl) (by kernel_rfl) (fun _ _ _ h => h) rfl ?_ hHeld ?_
          rotate_left
          · intro w' hSw
            go_simp
            try with_reducible rfl
          try simp only [Act.put, List.setIfInBounds_toArray, List.set_cons_zero, List.set_cons_succ]
          refine anyH_take (v := ?_) 4 rfl (by kernel_rfl) (by kernel_rfl) (by kernel_rfl) (fun _ _ _ h => h) rfl ?_ hHeld ?_
          rotate_left
          · intro w' hSw
            go_simp
            try with_reducible rfl
          try simp only [Act.put, List.setIfInBounds_toArray, List.set_cons_zero, List.set_cons_succ]
          refine anyH_take (v := ?_) 5 rfl (by kernel_rfl) (by kernel_rfl) (by kernel_rfl) (fun _ _ _ h => h) rfl ?_ hHeld ?_
          rotate_left
          · intro w' hSw
            go_simp
            try with_reducible rfl
          try simp only [Act.put, List.setIfInBounds_toArray, List.set_cons_zero, List.set_cons_succ]
          refine anyH_take (v := ?_) 7 rfl (by kernel_rfl) (by kernel_rfl) (by kernel_rfl) (fun _ _ _ h => h) rfl ?_ hHeld ?_
          rotate_left
          · intro w' hSw
            go_simp
            try with_reducible rfl
          try simp only [Act.put, List.setIfInBounds_toArray, List.set_cons_zero, List.set_cons_succ]
          refine wpAnyH_ready (rs := [6]) (by kernel_rfl) (by simp) ?_
          refine ready_cons rfl (fun K hK => ?_) AllReadyH.nil
          go_simp
          refine (HU.out _).mono ?_
          rintro (e : Ending) w4 ⟨u4, rfl, ho4, hb4⟩
          obtain ⟨A4, n4, c4, rfl⟩ := ho4.slice
          have g1 := g0.pushOwn hb4 ho4
          show K _ _
          refine hK.out _ _ ?_ (fun hHeld => ?_)
          · exact ⟨g1.box3 7 rfl, g1.box4 5 rfl⟩
          clear hK K
          try simp only [Act.put, List.setIfInBounds_toArray, List.set_cons_zero, List.set_cons_succ]
          refine wpAnyH_ready (rs := [8]) (by kernel_rfl) (by simp) ?_
          refine ready_cons rfl (fun K hK => ?_) AllReadyH.nil
          go_simp
          refine (HB.out _ _ _ _ _ (g1.roUp 10 rfl) (g1.ownInts 0 rfl).toB (HVi.out _ _ 2 g1 rfl).toB (Nat.le_refl _)).mono ?_
          rintro (e : Ending) w5 ⟨u5, rfl, ho5, hb5⟩
          obtain ⟨A5, n5, c5, rfl⟩ := ho5.slice
          have g2 := g1.pushOwn hb5 ho5
          show K _ _
          refine hK.out _ _ ?_ (fun hHeld => ?_)
          · exact ⟨g2.box3 8 rfl, g2.box4 6 rfl⟩
          clear hK K
          try simp only [Act.put, List.setIfInBounds_toArray, List.set_cons_zero, List.set_cons_succ]
          refine wpAnyH_ready (rs := [9]) (by kernel_rfl) (by simp) ?_
          refine ready_cons rfl (fun K hK => ?_) AllReadyH.nil
          go_simp
          refine (HR.out _ _ _ (g2.roInts 9 rfl) (g2.ownInts 0 rfl)).mono ?_
          rintro (e : Ending) w6 ⟨u6, rfl, ho6, hb6⟩
          obtain ⟨A6, n6, c6, rfl⟩ := ho6.slice
          have g3 := g2.pushOwn hb6 ho6
          show K _ _
          refine hK.out _ _ ?_ (fun hHeld => ?_)
          · exact ⟨g3.box3 9 rfl, g3.box4 7 rfl⟩
          clear hK K
          try simp only [Act.put, List.setIfInBounds_toArray, List.set_cons_zero, List.set_cons_succ]
          refine wpAnyH_ready (rs := [10]) (by kernel_rfl) (by simp) ?_
          refine ready_cons rfl (fun K hK => ?_) AllReadyH.nil
          go_simp
          have ga := g3.alloc' (.cells #[.slice A6 n6 c6] 22)
          refine hK.out _ _ ?_ (fun hHeld => ?_)
          · exact ⟨ga.box3 9 rfl, ga.box4 7 rfl⟩
          clear hK K
          try simp only [Act.put, List.setIfInBounds_toArray, List.set_cons_zero, List.set_cons_succ]
          refine wpAnyH_done (by kernel_rfl) ?_ _
          show wpList _ _ _ _ _ _
          simp only [List.drop_succ_cons, List.drop_zero]
          clear hHeld
          clear g0 g1 g2 ga h2 ho4 hb4 ho5 hb5 ho6 hb6
          go_wp2_with (at_builtin; refine wp_append_row' rfl (.tmp 30) (.tmp 40) rfl g3 2 rfl Hl2.out rfl rfl Hl3.out ?_; intro v1 w7 h3)
          replace h3 := h3.drop 2
          go_roundw
          case rel => exact ⟨j + 1, us2 ++ [_], by go_num, by omega, by show _ = _; rw [List.length_append, Hu2.out]; rfl, by rw [HN.out]; exact h3⟩
          case measure => simp [intOf]; omega
        · obtain rfl : j = n := by omega
          obtain ⟨M, hM⟩ : ∃ M, M = imgsTo T j p Tg piv V j := ⟨_, rfl⟩
          have hMl : M.length = j := by rw [hM]; exact length_imgsTo T j p Tg piv V j
          have hMr : ∀ i, i < j → rowOf M i = imgR T j p Tg piv V i := fun i hi => by rw [hM]; exact rowOf_imgsTo hi
          rw [← hM] at h2
          have Hus2 := Lib.hid (show us2.length = M.length by rw [hMl]; exact Hu2.out)
          obtain ⟨Am, cm, rfl, _, _, _⟩ := id (h2.rowsR 0 rfl Hus2.out)
          rw [hMl] at h2 ⊢
          have HMl2 := Lib.hid hMl
          have HMr := Lib.hid hMr
          have HMrl := Lib.hid (show ∀ i, i < j → (rowOf M i).length = j from fun i hi => by rw [hMr i hi]; exact HIl.out V i)
          have He0 := Lib.hid (eqsAt_zero T j p Tg piv (List.range j) S i)
          obtain ⟨y0, y1, y2⟩ := h2.box3 6 rfl
          clear hM hMl hMr Hu2
          go_wp2
          clear y0 y1 y2
          go_loopw [7, 12, 13, 15, 45] (fun v7 v12 _ _ v45 wr => ∃ (c : Nat) (us : List Value), v45 = .int .i64 c ∧ c ≤ j ∧ Hid (us.length = (eqsAt T j p Tg piv (List.range j) S i c).length) ∧ St w wr [rowsIt (.slice Am j cm) us2 M, rowsIt (.slice (some ⟨gr, 0, none⟩) rs cr) us1 S, rowsIt v7 us (eqsAt T j p Tg piv (List.range j) S i c), .box (w.heap.size + 1 + 1 + 1) [.int .i64 0, .int .i64 0, .int .i64 0, .slice none 0 0], .box (w.heap.size + 1 + 1) [.int .i64 p, .int .i64 rt, .int .i64 j, .slice A2 E.length k2], .box (w.heap.size + 1) [.int .i64 q1, .int .i64 rs, .int .i64 j, .slice A1 D.length k1], .box w.heap.size [.int .i64 p, .int .i64 j, .slice A T.length k], .ro (.slice A2 E.length k2) E, .ro (.slice A1 D.length k1) D, .ro (.slice A T.length k) T]) (fun _ _ _ _ v45 _ => j - (intOf v45).toNat)
          case atStart => exact ⟨0, us, rfl, by omega, by show _ = _; rw [He0.out]; exact Hul.out, by rw [He0.out]; exact h2⟩
          case round =>
            clear h2 Hul
            obtain ⟨c, us, rfl, a3, Hul, h2⟩ := hrel
            by_cases hc : c < j
            · have h3 := h2.empty
              have ic : (c : Int) < j := by omega
              go_wp2
              clear h2
              go_loopw [13, 15, 51] (fun v13 _ v51 wr => ∃ d : Nat, v51 = .int .i64 d ∧ d ≤ j ∧ St w wr [.own v13 (tab d fun i => vec (imgR T j p Tg piv V i) c), rowsIt (.slice Am j cm) us2 M, rowsIt (.slice (some ⟨gr, 0, none⟩) rs cr) us1 S, rowsIt u7 us (eqsAt T j p Tg piv (List.range j) S i c), .box (w.heap.size + 1 + 1 + 1) [.int .i64 0, .int .i64 0, .int .i64 0, .slice none 0 0], .box (w.heap.size + 1 + 1) [.int .i64 p, .int .i64 rt, .int .i64 j, .slice A2 E.length k2], .box (w.heap.size + 1) [.int .i64 q1, .int .i64 rs, .int .i64 j, .slice A1 D.length k1], .box w.heap.size [.int .i64 p, .int .i64 j, .slice A T.length k], .ro (.slice A2 E.length k2) E, .ro (.slice A1 D.length k1) D, .ro (.slice A T.length k) T]) (fun _ _ v51 _ => j - (intOf v51).toNat)
              case atStart => exact ⟨0, rfl, by omega, h3⟩
              case round =>
                clear h3
                obtain ⟨d, rfl, a4, h3⟩ := hrel
                by_cases hd : d < j
                · obtain ⟨gm, rfl⟩ := h3.vecSome 1 rfl (by rw [HMl2.out]; omega)
                  have hrl : (rowOf M d).length = j := HMrl.out d hd
                  obtain ⟨b, dd, _, rc, rcell, _, _⟩ := h3.rowG 1 rfl Hus2.out HMl2.out.symm (k := d) (by rw [HMl2.out]; exact hd) hrl (by omega)
                  have rv := rcell c hc
                  rw [HMr.out d hd] at rv
                  have HN := Lib.hid (tab_succ d fun i => vec (imgR T j p Tg piv V i) c)
                  obtain ⟨x, hx⟩ : ∃ x, x = vec (imgR T j p Tg piv V d) c := ⟨_, rfl⟩
                  have HX := Lib.hid hx
                  rw [← hx] at rv
                  have Hl1 := Lib.hid (show (tab d fun i => vec (imgR T j p Tg piv V i) c).length + 1 ≤ 17592186044416 by rw [length_tab]; omega)
                  have i4 : (d : Int) < j := by omega
                  clear rcell hrl hx
                  go_wp2_with (at_builtin; refine wp_append_ints rfl (.tmp 55) (.tmp 60) rfl w.heap.size _ _ (tab d fun i => vec (imgR T j p Tg piv V i) c) [x] rfl rfl ((h3.alloc' _).own 0 rfl) Ints.one Hl1.out (h3.alloc' _).size ?_; intro v1 w7 ho1 hg1 hb1; have h4 := (h3.alloc' _).appended 0 rfl ho1 hg1 hb1)
                  go_roundw
                  case rel => exact ⟨d + 1, by go_num, by omega, by rw [HN.out, ← HX.out]; exact h4⟩
                  case measure => simp [intOf]; omega
                · obtain rfl : d = j := by omega
                  have HN := Lib.hid (eqsAt_succ T d p Tg piv (cols := List.range d) S i (k := c) (by simpa using hc))
                  have HQ := Lib.hid (show (tab d fun i => vec (imgR T d p Tg piv V i) c) = eqR T d p Tg piv (rowOf S i) (pv (List.range d) c) by rw [pv_range hc, ← HV.out]; rfl)
                  have hll := length_eqsAt T d p Tg piv (List.range d) (S := S) (i := i) (by omega) c
                  rw [List.length_range] at hll
                  have h9 : i * d ≤ 40 * 28 := Nat.mul_le_mul (by omega) hn
                  have Hl1 := Lib.hid (show (eqsAt T d p Tg piv (List.range d) S i c).length + 1 ≤ 1099511627776 by omega)
                  rw [HQ.out] at h3
                  obtain ⟨A9, n9, c9, rfl⟩ := (h3.own 0 rfl).slice
                  clear hll h9
                  go_wp2_with (at_builtin; refine wp_append_row' rfl (.tmp 63) (.tmp 65) rfl h3 2 rfl Hul.out rfl rfl Hl1.out ?_; intro v1 w1 h4)
                  go_roundw
                  case rel => exact ⟨c + 1, us ++ [_], by go_num, by omega, by show _ = _; rw [HN.out, List.length_append, List.length_append, Hul.out]; rfl, by rw [HN.out]; exact h4⟩
                  case measure => simp [intOf]; omega
            · obtain rfl : c = j := by omega
              have HN := Lib.hid (eqsAt_end T c p Tg piv (List.range c) (S := S) (i := i) (k := c) hiS (by simp))
              replace h2 := h2.drop 1
              go_wp2
              go_roundw
              case rel => exact ⟨i + 1, us, by go_num, by omega, by show _ = _; rw [← HN.out]; exact Hul.out, by rw [← HN.out]; exact h2⟩
              case measure => simp [intOf]; omega
    · obtain rfl : i = rs := by omega
      rw [Hrs.out] at Hul
      have h2 := h1.drop 1
      rw [show eqsTo T n p Tg piv (List.range n) S i = eqsTo T n p Tg piv (List.range n) S S.length by rw [Hrs.out]] at h2
      obtain ⟨Q, hQ⟩ : ∃ Q, Q = eqsTo T n p Tg piv (List.range n) S S.length := ⟨_, rfl⟩
      have hWq := HWe.out
      have hKq := HKn.out
      have hlq := HMl.out
      rw [← hQ] at hWq hKq
      rw [show eqsTo T n p Tg piv (List.range n) S i = Q by rw [hQ, Hrs.out], List.length_range] at hlq
      change St w _ [rowsIt _ us _, _, _, _, _, _, _, _] at h2
      rw [← hQ] at h2
      have Hu9 := Lib.hid (show us.length = Q.length by rw [hQ]; exact Hul.out)
      have h9 : i * n ≤ 40 * 28 := Nat.mul_le_mul hSl hn
      have hq := h2.rowsR 0 rfl Hu9.out
      obtain ⟨A5, c5, rfl, _, _, _⟩ := id hq
      have HK := Lib.hid (show ∀ W, IntRows W (.slice A5 Q.length c5) Q → Calls Try.prog 107 #[.slice A5 Q.length c5, .int .i64 n, .int .i64 p] W (RetLL W K) from fun W hW => by
        have := kernel_any p n _ Q W hW hWq (by omega) (by omega) HP.out
        rwa [hKq] at this)
      have HMo := Lib.hid (show ∀ W v, IntRows W v K → Calls Try.prog 127 #[.int .i64 p, .int .i64 n, v] W (RetMat W p K.length n (flat n K)) from fun W v hW => by
        have := matrixOf_any p n v K W hW (by rw [total_wf HKw.out]; have := mul_le (show K.length ≤ 40 by have := HKl.out; omega) (show n ≤ 40 by omega); omega)
        rwa [← flat_flatten HKw.out] at this)
      clear hq hWq hKq hlq hQ h9 h1
      go_upto_region 23 with fail
      have g0 := h2.drew
      refine wp_region_cut (S := fun w' => (w'.cell? ⟨w.heap.size, 0, none⟩ = some (.int .i64 p) ∧ w'.cell? ⟨w.heap.size, 1, none⟩ = some (.int .i64 n) ∧ w'.cell? ⟨w.heap.size, 2, none⟩ = some (.slice A T.length k))) 11 (by kernel_rfl) (by kernel_rfl) (g0.box3 4 rfl) (fun hHeld => ?_)
      simp only [List.take_succ_cons, List.take_zero]
      refine anyH_take (v := ?_) 0 rfl (by kernel_rfl) (by kernel_rfl) (by kernel_rfl) (fun _ _ _ h => h) rfl ?_ hHeld ?_
      rotate_left
      · intro w' hSw
        go_simp
        try with_reducible rfl
      try simp only [Act.put, List.setIfInBounds_toArray, List.set_cons_zero, List.set_cons_succ]
      refine anyH_take (v := ?_) 1 rfl (by kernel_rfl) (by kernel_rfl) (by kernel_rfl) (fun _ _ _ h => h) rfl ?_ hHeld ?_
      rotate_left
      · intro w' hSw
        go_simp
        try with_reducible rfl
      try simp only [Act.put, List.setIfInBounds_toArray, List.set_cons_zero, List.set_cons_succ]
      refine anyH_take (v := ?_) 2 rfl (by kernel_rfl) (by kernel_rfl) (by kernel_rfl) (fun _ _ _ h => h) rfl ?_ hHeld ?_
      rotate_left
      · intro w' hSw
        go_simp
        try with_reducible rfl
      try simp only [Act.put, List.setIfInBounds_toArray, List.set_cons_zero, List.set_cons_succ]
      refine anyH_take (v := ?_) 3 rfl (by kernel_rfl) (by kernel_rfl) (by kernel_rfl) (fun _ _ _ h => h) rfl ?_ hHeld ?_
      rotate_left
      · intro w' hSw
        go_simp
        try with_reducible rfl
      try simp only [Act.put, List.setIfInBounds_toArray, List.set_cons_zero, List.set_cons_succ]
      refine anyH_take (v := ?_) 4 rfl (by kernel_rfl) (by kernel_rfl) (by kernel_rfl) (fun _ _ _ h => h) rfl ?_ hHeld ?_
      rotate_left
      · intro w' hSw
        go_simp
        try with_reducible rfl
      try simp only [Act.put, List.setIfInBounds_toArray, List.set_cons_zero, List.set_cons_succ]
      refine anyH_take (v := ?_) 5 rfl (by kernel_rfl) (by kernel_rfl) (by kernel_rfl) (fun _ _ _ h => h) rfl ?_ hHeld ?_
      rotate_left
      · intro w' hSw
        go_simp
        try with_reducible rfl
      try simp only [Act.put, List.setIfInBounds_toArray, List.set_cons_zero, List.set_cons_succ]
      refine anyH_take (v := ?_) 6 rfl (by kernel_rfl) (by kernel_rfl) (by kernel_rfl) (fun _ _ _ h => h) rfl ?_ hHeld ?_
      rotate_left
      · intro w' hSw
        go_simp
        try with_reducible rfl
      try simp only [Act.put, List.setIfInBounds_toArray, List.set_cons_zero, List.set_cons_succ]
      refine anyH_take (v := ?_) 7 rfl (by kernel_rfl) (by kernel_rfl) (by kernel_rfl) (fun _ _ _ h => h) rfl ?_ hHeld ?_
      rotate_left
      · intro w' hSw
        go_simp
        try with_reducible rfl
      try simp only [Act.put, List.setIfInBounds_toArray, List.set_cons_zero, List.set_cons_succ]
      refine anyH_take (v := ?_) 8 rfl (by kernel_rfl) (by kernel_rfl) (by kernel_rfl) (fun _ _ _ h => h) rfl ?_ hHeld ?_
      rotate_left
      · intro w' hSw
        go_simp
        try with_reducible rfl
      try simp only [Act.put, List.setIfInBounds_toArray, List.set_cons_zero, List.set_cons_succ]
      refine wpAnyH_ready (rs := [9]) (by kernel_rfl) (by simp) ?_
      refine ready_cons rfl (fun K hK => ?_) AllReadyH.nil
      go_simp
      refine (HK.out _ (g0.rowsR 0 rfl Hu9.out)).mono ?_
      rintro (e : Ending) w4 ⟨u4, us4, rfl, hul4, hok4, hnd4, hb4⟩
      have g1 := g0.pushRows hb4 hok4 hnd4
      show K _ _
      refine hK.out _ _ ?_ (fun hHeld => ?_)
      · exact (g1.box3 5 rfl)
      clear hK K
      try simp only [Act.put, List.setIfInBounds_toArray, List.set_cons_zero, List.set_cons_succ]
      refine wpAnyH_ready (rs := [10]) (by kernel_rfl) (by simp) ?_
      refine ready_cons rfl (fun K hK => ?_) AllReadyH.nil
      go_simp
      refine (HMo.out _ _ (g1.rowsR 0 rfl hul4)).mono ?_
      rintro (e : Ending) w5 ⟨u5, rfl, ho5, hb5⟩
      obtain ⟨A7, c7, rfl, _, _, _⟩ := id ho5.ints
      have g2 := g1.pushOwn hb5 ho5
      show K _ _
      refine hK.out _ _ ?_ (fun hHeld => ?_)
      · exact (g2.box3 6 rfl)
      clear hK K
      try simp only [Act.put, List.setIfInBounds_toArray, List.set_cons_zero, List.set_cons_succ]
      refine wpAnyH_done (by kernel_rfl) ?_ _
      show wpList _ _ _ _ _ _
      simp only [List.drop_succ_cons, List.drop_zero]
      clear hHeld
      obtain ⟨p0, p1, p2, p3⟩ := g2.box4 3 rfl
      have f0 := g2.free 3 rfl 0
      have f1 := g2.free 3 rfl 1
      have f2 := g2.free 3 rfl 2
      have f3 := g2.free 3 rfl 3
      have g3 := (((g2.setBox 3 rfl 0 (.int .i64 p)).setBox 3 rfl 1 (.int .i64 K.length)).setBox 3 rfl 2 (.int .i64 n)).setBox 3 rfl 3 (.slice A7 (flat n K).length c7)
      obtain ⟨r0, r1, r2, r3⟩ := g3.box4 3 rfl
      clear g0 g1 h2
      go_wp2
      refine bodyPost_ret (v := .agg #[.int .i64 p, .int .i64 K.length, .int .i64 n, .slice A7 (flat n K).length c7]) (by simp [results, Try.results88, go_sem, r0, r1, r2, r3]) rfl ⟨_, rfl, g3.own 0 rfl, g3.below⟩
end Go.Proofs.Ytcdbgcpccmcbeaa
