/- IsToral of the program. -/
import Derived.Test.YthiainhhaokjoaaGreatTorP
import Derived.Test.YthiainhhaokjoaaGreatFlt
namespace Go.Proofs.YthiainhhaokjoaaGreat
set_option maxRecDepth 100000
open Go.RowKit

set_option maxHeartbeats 4000000 in
theorem IsToralI_any (p n q r c : Int) (t u : Value) (T D : List Int) (w : World) (ht : Ints w t T) (hu : Ints w u D) (hp : p ≤ 9223372036854775807) (hq : q ≤ 9223372036854775807) :
    Calls Tryz.prog 37 #[.agg #[.int .i64 p, .int .i64 n, t], .agg #[.int .i64 q, .int .i64 r, .int .i64 c, u]] w (RetBool w (torOk p n T q r c D)) := by
  have h1 := ((((St.start w).arg ht).arg hu).box [.int .i64 p, .int .i64 n, t] 33).box [.int .i64 q, .int .i64 r, .int .i64 c, u] 35
  simp only [World.size_alloc] at h1
  obtain ⟨A, k, rfl, _, _, _⟩ := id ht
  obtain ⟨A1, k1, rfl, _, _, _⟩ := id hu
  have HI := Lib.hid (fun (W : World) (x1 : Ints W (.slice A T.length k) T) (x2 : Ints W (.slice A1 D.length k1) D) => isSubspaceOf_any p n q r c _ _ T D W x1 x2 hp hq)
  clear ht hu
  obtain ⟨B, hB⟩ : ∃ B, B = torOk p n T q r c D := ⟨_, rfl⟩
  rw [← hB]
  obtain ⟨x0, x1, x2⟩ := h1.box3 1 rfl
  obtain ⟨y0, y1, y2, y3⟩ := h1.box4 0 rfl
  by_cases b1 : subOk p n T q r c D = true
  case neg =>
    have b1 : subOk p n T q r c D = false := by simpa using b1
    have HB := Lib.hid (show B = false by rw [hB, torOk, b1, Bool.false_and])
    have B1 := Lib.hid b1
    clear b1 hB
    go_enter Tryz.func37, Tryz.ntmps37
    go_wp2_with fail
    refine (HI.out _ (h1.roInts 3 rfl) (h1.roInts 2 rfl)).mono ?_
    rintro (e : Ending) w3 ⟨rfl, hb3⟩
    have g1 := h1.on hb3
    rw [B1.out]
    go_wp2
    go_ret
    exact ⟨ret_bool HB.out.symm, g1.below⟩
  obtain ⟨c1, c2, rfl, rfl⟩ := subOk_spec b1
  obtain ⟨m, rfl, m28, kT, rT, k4, k5, hP⟩ := algOk_spec c1
  obtain ⟨a, b, rfl, eb, ka, kb, kD, rD, -⟩ := matOk_spec (spaceOk_mat c2)
  have eb' : m = b := by omega
  subst eb'
  clear eb
  have B1 := Lib.hid b1
  by_cases b2 : q ≤ 101
  case neg =>
    have HB := Lib.hid (show B = false by rw [hB, torOk, b1, Bool.true_and, decide_eq_false b2, Bool.false_and])
    have i1 : (101 : Int) < q := by omega
    clear b1 hB c1 c2 kT rT hP kD rD b2
    go_enter Tryz.func37, Tryz.ntmps37
    go_wp2_with fail
    refine (HI.out _ (h1.roInts 3 rfl) (h1.roInts 2 rfl)).mono ?_
    rintro (e : Ending) w3 ⟨rfl, hb3⟩
    have g1 := h1.on hb3
    rw [B1.out]
    clear x0 x1 x2 y0 y1 y2 y3 h1
    obtain ⟨x0, x1, x2⟩ := g1.box3 1 rfl
    go_wp2
    go_ret
    exact ⟨ret_bool HB.out.symm, g1.below⟩
  have i1 : ¬ ((101 : Int) < q) := by omega
  have HPr := Lib.hid (fun (W : World) (x1 : Ints W (.slice A T.length k) T) (x2 : Ints W (.slice A1 D.length k1) D) => product_any q q q m a a _ _ _ T D D W x1 x2 x2 kT kD kD m28 (by omega) (by omega) hP rT rD rD)
  have HAd := Lib.hid (fun (W : World) (v : Value) (U : List Int) (x1 : Ints W (.slice A T.length k) T) (x2 : Ints W v U) (x3 : U.length = m) (x4 : resid q U = true) => adjoint_any q m _ v T U W x1 x2 kT x3 m28 k4 k5 rT x4)
  have HPw := Lib.hid (show ∀ (W : World) (v : Value) (X : List Int) (x1 : Ints W v X) (x2 : X.length = m * m) (x3 : resid q X = true), Calls Tryz.prog 85 #[.agg #[.int .i64 q, .int .i64 m, .int .i64 m, v], .int .i64 q] W (RetMat W q m m (pwM q m X q.toNat)) from fun W v X x1 x2 x3 => by
    have h9 := powerOf_any q m q.toNat v X W x1 x2 (by omega) (by omega) hP x3
    rwa [Int.toNat_of_nonneg (by omega)] at h9)
  have HAr := Lib.hid (fun U => resid_adM k4 T U m)
  obtain ⟨l, hl⟩ : ∃ l, l = (spanL q m (prodL T m q a D a D)).length := ⟨_, rfl⟩
  have hB2 : B = (decide (l = 0) && allF (torAt q m T D) a 0) := by rw [hB, torOk, b1, decide_eq_true b2, Int.toNat_natCast, Int.toNat_natCast, ← hl]; simp
  obtain ⟨X9, hX9⟩ : ∃ X, X = spanM q m (prodL T m q a D a D) := ⟨_, rfl⟩
  rw [← hl, ← hX9] at HPr
  have HRw := Lib.hid (fun (W : World) (x1 : Ints W (.slice A1 D.length k1) D) => rowsOf_any q a m _ D W x1 kD (by have := mul_le ka kb; omega) (by omega))
  have HB2 := Lib.hid hB2
  have HRd := Lib.hid (fun i => resid_rowM (by omega : (0 : Int) < q) rD m i)
  obtain ⟨M, hM⟩ : ∃ M, M = rowsM a m D := ⟨_, rfl⟩
  have HMl := Lib.hid (show M.length = a by rw [hM]; exact length_rowsM _ _ _)
  have HMr := Lib.hid (show ∀ j, j < a → rowOf M j = rowM m D j from fun j hj => by rw [hM, rowOf_rowsM hj])
  rw [← hM] at HRw
  clear hB hB2 hl hX9 hM b1 c1 c2 kT rT hP kD rD b2
  go_enter Tryz.func37, Tryz.ntmps37
  go_wp2_with fail
  refine (HI.out _ (h1.roInts 3 rfl) (h1.roInts 2 rfl)).mono ?_
  rintro (e : Ending) w3 ⟨rfl, hb3⟩
  have g1 := h1.on hb3
  rw [B1.out]
  clear x0 x1 x2 y0 y1 y2 y3 h1 hb3
  obtain ⟨x0, x1, x2⟩ := g1.box3 1 rfl
  go_wp2_with fail
  refine (newLie_any q m (.slice A T.length k) A T.length k _ rfl).mono ?_
  rintro (e : Ending) w4 ⟨rfl, hb4⟩
  have g2 := (g1.on hb4).box [.int .i64 q, .int .i64 m, .slice A T.length k] 68
  clear x0 x1 x2 g1 hb4
  obtain ⟨x0, x1, x2⟩ := g2.box3 0 rfl
  obtain ⟨y0, y1, y2, y3⟩ := g2.box4 1 rfl
  go_wp2_with fail
  refine (HPr.out _ (g2.roInts 4 rfl) (g2.roInts 3 rfl)).mono ?_
  rintro (e : Ending) w5 ⟨u5, rfl, ho5, hb5⟩
  obtain ⟨A5, n5, c5, rfl⟩ := ho5.slice
  have hfd := fieldM1 q l m A5 n5 c5
  have g3 := (g2.on hb5)
  generalize hBl : w4.heap.size = Bl at g3 ⊢
  clear hBl
  clear x0 x1 x2 y0 y1 y2 y3 g2 hb5 ho5
  by_cases hl0 : l = 0
  case neg =>
    have i2 : (0 : Int) < (l : Int) := by omega
    have HN := Lib.hid (show B = false by rw [HB2.out, decide_eq_false hl0, Bool.false_and])
    clear hl0
    go_wp2
    go_ret
    exact ⟨ret_bool HN.out.symm, g3.below⟩
  have i2 : ¬ ((0 : Int) < (l : Int)) := by omega
  have HRun : Hid (B = allF (torAt q m T D) (a - 0) 0) := by show _ = _; rw [HB2.out, decide_eq_true hl0, Bool.true_and]; rfl
  clear hl0
  obtain ⟨y0, y1, y2, y3⟩ := g3.box4 1 rfl
  go_wp2_with fail
  refine (HRw.out _ (g3.roInts 3 rfl)).mono ?_
  rintro (e : Ending) w6 ⟨u6, us6, rfl, hul6, hok6, hnd6, hb6⟩
  obtain ⟨A6, c6, rfl, _, _, _⟩ := id (It.rows hok6 hul6)
  have g4 := g3.pushRows hb6 hok6 hnd6
  have Hu6 := Lib.hid hul6
  rw [HMl.out] at g4 ⊢
  clear y0 y1 y2 y3 g3 hb6 hok6 hnd6 hul6 hfd i2
  go_wp2
  go_loopw [29] (fun v29 wr => ∃ i : Nat, v29 = .int .i64 i ∧ i ≤ a ∧ Hid (B = allF (torAt q m T D) (a - i) i) ∧ St w wr [rowsIt (.slice A6 a c6) us6 M, .box Bl [.int .i64 q, .int .i64 m, .slice A T.length k], .box (w.heap.size + 1) [.int .i64 q, .int .i64 a, .int .i64 m, .slice A1 D.length k1], .box w.heap.size [.int .i64 q, .int .i64 m, .slice A T.length k], .ro (.slice A1 D.length k1) D, .ro (.slice A T.length k) T]) (fun v29 _ => a - (intOf v29).toNat)
  case atStart => exact ⟨0, rfl, by omega, HRun, g4⟩
  case round =>
    clear g4 HRun
    obtain ⟨i, rfl, a1, HRun, g⟩ := hrel
    by_cases hi : i < a
    · obtain ⟨gm, rfl⟩ := g.vecSome 0 rfl (by rw [HMl.out]; omega)
      obtain ⟨A7, c7, hui, e0, _⟩ := g.row 0 rfl Hu6.out HMl.out.symm (k := i) (by rw [HMl.out]; exact hi)
      have Hui := Lib.hid hui
      have HStp := Lib.hid (show allF (torAt q m T D) (a - i) i = (torAt q m T D i && allF (torAt q m T D) (a - (i + 1)) (i + 1)) by rw [show a - i = (a - (i + 1)) + 1 by omega]; rfl)
      have HZ0 := Lib.hid (show torAt q m T D i = decide (pwM q m (adM T (rowM m D i) m q) q.toNat = adM T (rowM m D i) m q) by rw [torAt]; exact decide_eq_decide.2 ⟨fun h => h.symm, fun h => h.symm⟩)
      have HA2 := Lib.hid (fun (W : World) (v : Value) x1 (x2 : Ints W v (rowM m D i)) => HAd.out W v _ x1 x2 (length_rowM _ _ _) (HRd.out i))
      obtain ⟨Ad, hAd⟩ : ∃ Ad, Ad = adM T (rowM m D i) m q := ⟨_, rfl⟩
      have hAl : Ad.length = m * m := by rw [hAd]; exact length_adM _ _ _ _
      have hAr : resid q Ad = true := by rw [hAd]; exact HAr.out _
      rw [← hAd] at HA2 HZ0
      have HP2 := Lib.hid (fun (W : World) (v : Value) x1 => HPw.out W v Ad x1 hAl hAr)
      obtain ⟨Pw, hPw⟩ : ∃ Pw, Pw = pwM q m Ad q.toNat := ⟨_, rfl⟩
      rw [← hPw] at HP2 HZ0
      obtain ⟨Z, hZ⟩ : ∃ Z, Z = decide (Pw = Ad) := ⟨_, rfl⟩
      have HZ := Lib.hid hZ
      rw [← hZ] at HZ0
      rw [HMr.out i hi, length_rowM] at e0 hui
      have ii : (i : Int) < (a : Int) := by omega
      clear hAd hAl hAr hPw hZ hui
      obtain ⟨x0, x1, x2⟩ := g.box3 1 rfl
      go_wp2_with fail
      refine (HA2.out _ _ (g.roInts 5 rfl) (by have h9 := (g.rowAt 0 rfl HMl.out.symm Hui.out (by rw [HMl.out]; exact hi)).2; rw [HMr.out i hi, length_rowM] at h9; exact h9)).mono ?_
      rintro (e : Ending) w7 ⟨u7, rfl, ho7, hb7⟩
      obtain ⟨A8, n8, c8, rfl⟩ := ho7.slice
      have g2 := (g.pushOwn hb7 ho7).box [.int .i64 q, .int .i64 m, .int .i64 m, .slice A8 n8 c8] 35
      clear x0 x1 x2 e0 g hb7 ho7
      go_upto_region 10 with fail
      generalize hBx : w7.heap.size = Bx at g2 ⊢
      clear hBx
      have g0 := g2.drew
      refine wp_region_held_drew (S := fun w' => (w'.cell? ⟨Bx, 0, none⟩ = some (.int .i64 q) ∧ w'.cell? ⟨Bx, 1, none⟩ = some (.int .i64 m) ∧ w'.cell? ⟨Bx, 2, none⟩ = some (.int .i64 m) ∧ w'.cell? ⟨Bx, 3, none⟩ = some (.slice A8 n8 c8)) ∧ (w'.cell? ⟨w.heap.size, 0, none⟩ = some (.int .i64 q) ∧ w'.cell? ⟨w.heap.size, 1, none⟩ = some (.int .i64 m) ∧ w'.cell? ⟨w.heap.size, 2, none⟩ = some (.slice A T.length k))) (by kernel_rfl) ⟨g0.box4 0 rfl, g0.box3 5 rfl⟩ (fun hHeld => ?_)
      refine anyH_take (v := ?_) 0 rfl (by kernel_rfl) (by kernel_rfl) (by kernel_rfl) (fun _ _ _ h => h) rfl ?_ hHeld ?_
      rotate_left
      · intro w' hSw
        go_simp
        try with_reducible rfl
      try simp only [Act.put, List.setIfInBounds_toArray, List.set_cons_zero, List.set_cons_succ]
      refine anyH_take (v := ?_) 1 rfl (by kernel_rfl) (by kernel_rfl) (by kernel_rfl) (fun _ _ _ h => h) rfl ?_ hHeld ?_
      rotate_left
      · intro w' hSw
        go_simp
        try with_reducible rfl
      try simp only [Act.put, List.setIfInBounds_toArray, List.set_cons_zero, List.set_cons_succ]
      refine anyH_take (v := ?_) 2 rfl (by kernel_rfl) (by kernel_rfl) (by kernel_rfl) (fun _ _ _ h => h) rfl ?_ hHeld ?_
      rotate_left
      · intro w' hSw
        go_simp
        try with_reducible rfl
      try simp only [Act.put, List.setIfInBounds_toArray, List.set_cons_zero, List.set_cons_succ]
      refine anyH_take (v := ?_) 5 rfl (by kernel_rfl) (by kernel_rfl) (by kernel_rfl) (fun _ _ _ h => h) rfl ?_ hHeld ?_
      rotate_left
      · intro w' hSw
        go_simp
        try with_reducible rfl
      try simp only [Act.put, List.setIfInBounds_toArray, List.set_cons_zero, List.set_cons_succ]
      refine anyH_take (v := ?_) 6 rfl (by kernel_rfl) (by kernel_rfl) (by kernel_rfl) (fun _ _ _ h => h) rfl ?_ hHeld ?_
      rotate_left
      · intro w' hSw
        go_simp
        try with_reducible rfl
      try simp only [Act.put, List.setIfInBounds_toArray, List.set_cons_zero, List.set_cons_succ]
      refine wpAnyH_ready (rs := [3]) (by kernel_rfl) (by simp) ?_
      refine ready_cons rfl (fun K hK => ?_) AllReadyH.nil
      go_simp
      refine (HP2.out _ _ (g0.ownInts 1 rfl)).mono ?_
      rintro (e : Ending) w8 ⟨u8, rfl, ho8, hb8⟩
      obtain ⟨A9, n9, c9, rfl⟩ := ho8.slice
      have hfd := fieldM3 q m m A9 n9 c9
      have g3 := g0.pushOwn hb8 ho8
      show K _ _
      refine hK.out _ _ ?_ (fun hHeld => ?_)
      · exact ⟨g3.box4 1 rfl, g3.box3 6 rfl⟩
      clear hK K
      try simp only [Act.put, List.setIfInBounds_toArray, List.set_cons_zero, List.set_cons_succ]
      refine anyH_take (v := ?_) 4 rfl (by kernel_rfl) (by kernel_rfl) (by kernel_rfl) (fun _ _ _ h => h) rfl ?_ hHeld ?_
      rotate_left
      · intro w' hSw
        go_simp
        try with_reducible rfl
      try simp only [Act.put, List.setIfInBounds_toArray, List.set_cons_zero, List.set_cons_succ]
      refine wpAnyH_ready (rs := [7]) (by kernel_rfl) (by simp) ?_
      refine ready_cons rfl (fun K hK => ?_) AllReadyH.nil
      go_simp
      refine (Equal_any _ _ Pw Ad _ (g3.ownInts 0 rfl) (g3.ownInts 2 rfl)).mono ?_
      rintro (e : Ending) w9 ⟨rfl, nd, rfl⟩
      rw [← HZ.out]
      have g4 := g3.drewN nd
      show K _ _
      refine hK.out _ _ ?_ (fun hHeld => ?_)
      · exact ⟨g4.box4 1 rfl, g4.box3 6 rfl⟩
      clear hK K
      try simp only [Act.put, List.setIfInBounds_toArray, List.set_cons_zero, List.set_cons_succ]
      refine anyH_take (v := ?_) 8 rfl (by kernel_rfl) (by kernel_rfl) (by kernel_rfl) (fun _ _ _ h => h) rfl ?_ hHeld ?_
      rotate_left
      · intro w' hSw
        go_simp
        try with_reducible rfl
      try simp only [Act.put, List.setIfInBounds_toArray, List.set_cons_zero, List.set_cons_succ]
      refine wpAnyH_done (by kernel_rfl) ?_ _
      clear hHeld
      clear g0 g2 g3 hb8 ho8 hfd
      cases Z with
      | true =>
        have HN : Hid (B = allF (torAt q m T D) (a - (i + 1)) (i + 1)) := by show _ = _; rw [HRun.out, HStp.out, HZ0.out, Bool.true_and]
        go_wp2
        go_roundw
        case rel => exact ⟨i + 1, by go_num, by omega, HN, g4.drop 3⟩
        case measure => simp [intOf]; omega
      | false =>
        have HN : Hid (B = false) := by show _ = _; rw [HRun.out, HStp.out, HZ0.out, Bool.false_and]
        go_wp2
        go_ret
        exact ⟨ret_bool HN.out.symm, g4.below⟩
    · obtain rfl : i = a := by omega
      have HN : Hid (B = true) := by show _ = _; rw [HRun.out, Nat.sub_self]; rfl
      go_wp2
      go_ret
      exact ⟨ret_bool HN.out.symm, g.below⟩
end Go.Proofs.YthiainhhaokjoaaGreat
