/- SubTable of the reference. -/
import Derived.Test.YtcdbgcpccmcbeaaStP
namespace Go.Proofs.Ytcdbgcpccmcbeaa
set_option maxRecDepth 100000
open Go.RowKit

set_option maxHeartbeats 2000000 in
theorem SubTableS_any (p n q r c : Int) (t u : Value) (T D : List Int) (w : World) (ht : Ints w t T) (hu : Ints w u D) (hp : p ≤ 9223372036854775807) (hq : q ≤ 9223372036854775807) :
    Calls Try.prog 25 #[.agg #[.int .i64 p, .int .i64 n, t], .agg #[.int .i64 q, .int .i64 r, .int .i64 c, u]] w (RetAlgB w (stP p n T q r c D) (stN p n T q r c D) (stT p n T q r c D) (isaOk false p n T q r c D)) := by
  have h1 := (((((St.start w).arg ht).arg hu).box [.int .i64 p, .int .i64 n, t] 29).box [.int .i64 q, .int .i64 r, .int .i64 c, u] 33).box [.int .i64 0, .int .i64 0, .slice none 0 0] 29
  simp only [World.size_alloc] at h1
  obtain ⟨A, k, rfl, _, _, _⟩ := id ht
  obtain ⟨A1, k1, rfl, _, _, _⟩ := id hu
  have HI := Lib.hid (fun (W : World) (x1 : Ints W (.slice A T.length k) T) (x2 : Ints W (.slice A1 D.length k1) D) => IsSubalgebraS_any p n q r c _ _ T D W x1 x2 hp hq)
  clear ht hu
  obtain ⟨Po, hPo⟩ : ∃ Po : Ending → World → Prop, Po = RetAlgB w (stP p n T q r c D) (stN p n T q r c D) (stT p n T q r c D) (isaOk false p n T q r c D) := ⟨_, rfl⟩
  rw [← hPo]
  obtain ⟨x0, x1, x2⟩ := h1.box3 2 rfl
  obtain ⟨y0, y1, y2, y3⟩ := h1.box4 1 rfl
  by_cases b1 : isaOk false p n T q r c D = true
  case neg =>
    have b1 : isaOk false p n T q r c D = false := by simpa using b1
    have HF := Lib.hid (show Po = RetAlgB w 0 0 [] false by rw [hPo, stP, stN, stT, b1]; rfl)
    have B1 := Lib.hid b1
    clear b1 hPo
    go_enter Try.func25, Try.ntmps25
    go_wp2_with fail
    refine (HI.out _ (h1.roInts 4 rfl) (h1.roInts 3 rfl)).mono ?_
    rintro (e : Ending) w3 ⟨rfl, hb3⟩
    have g1 := h1.on hb3
    rw [B1.out]
    clear x0 x1 x2 y0 y1 y2 y3 hb3 h1
    obtain ⟨p0, p1, p2⟩ := g1.box3 0 rfl
    have f0 := g1.free 0 rfl 0
    have f1 := g1.free 0 rfl 1
    have f2 := g1.free 0 rfl 2
    have g9 := ((g1.setBox 0 rfl 0 (.int .i64 0)).setBox 0 rfl 1 (.int .i64 0)).setBox 0 rfl 2 (.slice none 0 0)
    obtain ⟨r0, r1, r2⟩ := g9.box3 0 rfl
    go_wp2
    refine bodyPost_ret (v := .tuple #[.agg #[.int .i64 0, .int .i64 0, .slice none 0 0], .bool false]) (by simp [results, Try.results25, go_sem, r0, r1, r2]) rfl ?_
    rw [HF.out]
    exact ⟨_, rfl, Own.nil, g9.below⟩
  case pos =>
    obtain ⟨m, R, piv, rfl, rfl, rfl, rfl, hD, h2, h3, h4, h5, h6, h7, h8, h9⟩ := isa_spec b1
    have hDl : D.length = R.length * m := by rw [hD]; exact length_flat _ _
    have hDr : resid q D = true := by rw [hD]; exact resid_flat (by have := (isPrime_bd h6).1; omega) h2.wf
    have hb := st_both h3 h6 h2 h9
    rw [← hD] at hb
    have HF0 : Po = RetAlgB w q R.length (rowsT R.length (tabX q R.length m D (prodL T m q R.length D R.length D)) (R.length * R.length)) true := by rw [hPo, stP, stN, stT, b1]; simp
    have hBr := fun (W : World) (x1 : Ints W (.slice A T.length k) T) (x2 : Ints W (.slice A1 D.length k1) D) => l2Brackets_any q q m R.length _ _ T D W x1 x2 h7 hDl h4 (by omega) h6 h8 hDr
    have hWq : Wf q m (prodL T m q R.length D R.length D) := Wf_prodTo (isPrime_bd h6).1 _ _ _ _ _
    have hQl : (prodL T m q R.length D R.length D).length = R.length * R.length := by rw [prodL, length_prodTo, Nat.add_zero]
    have hTb := fun (W : World) (v : Value) (x1 : Ints W (.slice A1 D.length k1) D) (x2 : IntRows W v (prodL T m q R.length D R.length D)) => l2Table_any q R.length m _ v D _ W x1 x2 hDl hWq hQl (by omega) (by omega) h6 hDr
    simp only [hb.1, if_true] at hTb
    obtain ⟨X, hX⟩ : ∃ X, X = rowsT R.length (tabX q R.length m D (prodL T m q R.length D R.length D)) (R.length * R.length) := ⟨_, rfl⟩
    rw [← hX] at HF0 hTb
    obtain ⟨Q, hQ⟩ : ∃ Q, Q = prodL T m q R.length D R.length D := ⟨_, rfl⟩
    rw [← hQ] at hBr hTb
    obtain ⟨l, hl⟩ : ∃ l, l = R.length := ⟨_, rfl⟩
    rw [← hl] at hBr hTb HF0 h1 HI b1 y1 ⊢
    have HF := Lib.hid HF0
    have HB := Lib.hid hBr
    have HTb := Lib.hid hTb
    have B1 := Lib.hid b1
    clear b1 hPo hD h2 h3 h4 h5 h6 h7 h8 h9 hDl hDr hb HF0 hBr hWq hQl hTb hX hQ hl
    go_enter Try.func25, Try.ntmps25
    go_wp2_with fail
    refine (HI.out _ (h1.roInts 4 rfl) (h1.roInts 3 rfl)).mono ?_
    rintro (e : Ending) w3 ⟨rfl, hb3⟩
    have g1 := h1.on hb3
    rw [B1.out]
    clear x0 x1 x2 y0 y1 y2 y3 hb3 h1
    obtain ⟨x0, x1, x2⟩ := g1.box3 2 rfl
    obtain ⟨y0, y1, y2, y3⟩ := g1.box4 1 rfl
    go_upto_region 3 with fail
    clear x0 x1 x2 y0 y1 y2 y3
    have g2 := g1.drew
    refine wp_region_cut (S := fun w' => (w'.cell? ⟨w.heap.size, 0, none⟩ = some (.int .i64 q) ∧ w'.cell? ⟨w.heap.size, 1, none⟩ = some (.int .i64 m) ∧ w'.cell? ⟨w.heap.size, 2, none⟩ = some (.slice A T.length k)) ∧ (w'.cell? ⟨w.heap.size + 1, 0, none⟩ = some (.int .i64 q) ∧ w'.cell? ⟨w.heap.size + 1, 1, none⟩ = some (.int .i64 l) ∧ w'.cell? ⟨w.heap.size + 1, 2, none⟩ = some (.int .i64 m) ∧ w'.cell? ⟨w.heap.size + 1, 3, none⟩ = some (.slice A1 D.length k1))) 8 (by kernel_rfl) (by kernel_rfl) ⟨g2.box3 2 rfl, g2.box4 1 rfl⟩ (fun hHeld => ?_)
    simp only [List.take_succ_cons, List.take_zero]
    refine anyH_take (v := ?_) 0 rfl (by kernel_rfl) (by kernel_rfl) (by kernel_rfl) (fun _ _ _ h => h) rfl ?_ hHeld ?_
    rotate_left
    · intro w' hSw
      go_simp
      try with_reducible rfl
    try simp only [Act.put, List.setIfInBounds_toArray, List.set_cons_zero, List.set_cons_succ]
    refine anyH_take (v := ?_) 1 rfl (by kernel_rfl) (by kernel_rfl) (by kernel_rfl) (fun _ _ _ h => h) rfl ?_ hHeld ?_
    rotate_left
    · intro w' hSw
      go_simp
      try with_reducible rfl
    try simp only [Act.put, List.setIfInBounds_toArray, List.set_cons_zero, List.set_cons_succ]
    refine anyH_take (v := ?_) 2 rfl (by kernel_rfl) (by kernel_rfl) (by kernel_rfl) (fun _ _ _ h => h) rfl ?_ hHeld ?_
    rotate_left
    · intro w' hSw
      go_simp
      try with_reducible rfl
    try simp only [Act.put, List.setIfInBounds_toArray, List.set_cons_zero, List.set_cons_succ]
    refine wpAnyH_ready (rs := [3]) (by kernel_rfl) (by simp) ?_
    refine ready_cons rfl (fun K hK => ?_) AllReadyH.nil
    go_simp
    refine (HB.out _ (g2.roInts 4 rfl) (g2.roInts 3 rfl)).mono ?_
    rintro (e : Ending) w4 ⟨u4, us4, rfl, hul4, hok4, hnd4, hb4⟩
    have g3 := g2.pushRows hb4 hok4 hnd4
    show K _ _
    refine hK.out _ _ ?_ (fun hHeld => ?_)
    · exact ⟨g3.box3 3 rfl, g3.box4 2 rfl⟩
    clear hK K
    try simp only [Act.put, List.setIfInBounds_toArray, List.set_cons_zero, List.set_cons_succ]
    refine wpAnyH_ready (rs := [4]) (by kernel_rfl) (by simp) ?_
    refine ready_cons rfl (fun K hK => ?_) AllReadyH.nil
    go_simp
    refine (HTb.out _ _ (g3.roInts 4 rfl) (g3.rowsR 0 rfl hul4)).mono ?_
    rintro (e : Ending) w5 ⟨u5, rfl, ho5, hb5⟩
    obtain ⟨A5, n5, c5, rfl⟩ := ho5.slice
    have g4 := g3.pushOwn hb5 ho5
    show K _ _
    refine hK.out _ _ ?_ (fun hHeld => ?_)
    · exact ⟨g4.box3 4 rfl, g4.box4 3 rfl⟩
    clear hK K
    try simp only [Act.put, List.setIfInBounds_toArray, List.set_cons_zero, List.set_cons_succ]
    refine anyH_take (v := ?_) 5 rfl (by kernel_rfl) (by kernel_rfl) (by kernel_rfl) (fun _ _ _ h => h) rfl ?_ hHeld ?_
    rotate_left
    · intro w' hSw
      go_simp
      try with_reducible rfl
    try simp only [Act.put, List.setIfInBounds_toArray, List.set_cons_zero, List.set_cons_succ]
    refine anyH_take (v := ?_) 6 rfl (by kernel_rfl) (by kernel_rfl) (by kernel_rfl) (fun _ _ _ h => h) rfl ?_ hHeld ?_
    rotate_left
    · intro w' hSw
      go_simp
      try with_reducible rfl
    try simp only [Act.put, List.setIfInBounds_toArray, List.set_cons_zero, List.set_cons_succ]
    obtain ⟨p0, p1, p2⟩ := g4.box3 2 rfl
    have f0 := g4.free 2 rfl 0
    have f1 := g4.free 2 rfl 1
    have f2 := g4.free 2 rfl 2
    have g5 := ((g4.setBox 2 rfl 0 (.int .i64 q)).setBox 2 rfl 1 (.int .i64 l)).setBox 2 rfl 2 (.slice A5 n5 c5)
    obtain ⟨r0, r1, r2⟩ := g5.box3 2 rfl
    refine wpAnyH_ready (rs := [7]) (by kernel_rfl) (by simp) ?_
    refine ready_cons rfl (fun K hK => ?_) AllReadyH.nil
    go_simp
    refine hK.out _ _ ?_ (fun hHeld => ?_)
    · exact ⟨g5.box3 4 rfl, g5.box4 3 rfl⟩
    clear hK K
    try simp only [Act.put, List.setIfInBounds_toArray, List.set_cons_zero, List.set_cons_succ]
    refine wpAnyH_done (by kernel_rfl) ?_ _
    show wpList _ _ _ _ _ _
    simp only [List.drop_succ_cons, List.drop_zero]
    clear hHeld
    go_wp2
    refine bodyPost_ret (v := .tuple #[.agg #[.int .i64 q, .int .i64 l, .slice A5 n5 c5], .bool true]) (by simp [results, Try.results25, go_sem, r0, r1, r2]) rfl ?_
    rw [HF.out]
    exact ⟨_, rfl, g5.own 0 rfl, g5.below⟩
end Go.Proofs.Ytcdbgcpccmcbeaa
