/- l1Join of the reference, for lists of up to 64 places; l3Lists. -/
import Derived.Test.YthiainhhaokjoaaGreatCloA
import Derived.Test.YthiainhhaokjoaaGreatRowsJ
namespace Go.Proofs.YthiainhhaokjoaaGreat
set_option maxRecDepth 100000
open Go.RowKit

set_option maxHeartbeats 2000000 in
theorem l1Join_big (p q c : Int) (n : Nat) (t u : Value) (R S : List (List Int)) (w : World) (ht : Ints w t (flat n R)) (hu : Ints w u (flat n S)) (hR : Wf p n R) (hS : Wf p n S) (hr : R.length ≤ 64) (hs : S.length ≤ 1600) (hn : n ≤ 64) (hP : isPrime p = true) :
    Calls Tryz.prog 174 #[.agg #[.int .i64 p, .int .i64 R.length, .int .i64 n, t], .agg #[.int .i64 q, .int .i64 S.length, .int .i64 c, u]] w (RetMat w p (spanL p n (R ++ S)).length n (flat n (spanL p n (R ++ S)))) := by
  have hp := (isPrime_bd hP).1
  have h1 := (((((St.start w).arg ht).arg hu).box [.int .i64 p, .int .i64 R.length, .int .i64 n, t] 35).box [.int .i64 q, .int .i64 S.length, .int .i64 c, u] 35).box [.int .i64 0, .int .i64 0, .int .i64 0, .slice none 0 0] 35
  simp only [World.size_alloc] at h1
  obtain ⟨A, k0, rfl, _, _, _⟩ := id ht
  obtain ⟨A2, k2, rfl, _, _, _⟩ := id hu
  obtain ⟨r, er⟩ : ∃ r, r = R.length := ⟨_, rfl⟩
  obtain ⟨s, es⟩ : ∃ s, s = S.length := ⟨_, rfl⟩
  have hb1 := mul_le hr hn
  have hb2 := mul_le hs hn
  have hDl := length_flat n R
  have hEl := length_flat n S
  have hlen : (flat n R ++ flat n S).length = (r + s) * n := by rw [List.length_append, hDl, hEl, er, es, Nat.add_mul]
  have hrows := rowsM_app hR hS
  have hres := resid_app (resid_flat (by omega) hR) (resid_flat (by omega) hS)
  rw [← er, ← es] at hrows
  rw [← er] at hDl hb1
  rw [← es] at hEl hb2
  obtain ⟨F, hF⟩ : ∃ F, F = flat n (spanL p n (R ++ S)) := ⟨_, rfl⟩
  obtain ⟨l, hl⟩ : ∃ l, l = (spanL p n (R ++ S)).length := ⟨_, rfl⟩
  have HSp := Lib.hid (show ∀ (W : World) (v : Value), Ints W v (flat n R ++ flat n S) → Calls Tryz.prog 144 #[.agg #[.int .i64 p, .int .i64 (r + s : Nat), .int .i64 n, v]] W (RetMat W p l n F) from fun W v hv => by
    have := l1Span_any p (r + s) n v _ W hv hlen (by rw [Nat.add_mul]; omega) (by omega) (by omega) hP hres
    rw [hrows] at this
    rw [hF, hl]
    exact this)
  rw [← hF, ← hl]
  rw [← er] at h1 hr ⊢
  rw [← es] at h1 hs ⊢
  obtain ⟨D, hD⟩ : ∃ D, D = flat n R := ⟨_, rfl⟩
  obtain ⟨E, hE⟩ : ∃ E, E = flat n S := ⟨_, rfl⟩
  rw [← hD] at h1 hDl HSp ⊢
  rw [← hE] at h1 hEl HSp ⊢
  obtain ⟨rs, hrs⟩ : ∃ rs, rs = r + s := ⟨_, rfl⟩
  rw [← hrs] at HSp
  have e1 : (r : Int) + (s : Int) = (rs : Int) := by omega
  have e2 : IntKind.i64.wrap (rs : Int) = rs := wrap_ok (by omega) (by omega)
  have HDl := Lib.hid hDl
  have HEl := Lib.hid hEl
  clear ht hu hR hS hF hl hD hE er es hDl hEl hlen hrows hres hrs
  go_enter Tryz.func174, Tryz.ntmps174
  go_upto_region 1 with fail
  have g0 := h1.drew
  refine wp_region_cut (S := fun w' => (w'.cell? ⟨w.heap.size, 0, none⟩ = some (.int .i64 p) ∧ w'.cell? ⟨w.heap.size, 1, none⟩ = some (.int .i64 r) ∧ w'.cell? ⟨w.heap.size, 2, none⟩ = some (.int .i64 n) ∧ w'.cell? ⟨w.heap.size, 3, none⟩ = some (.slice A D.length k0)) ∧ w'.cell? ⟨w.heap.size + 1, 0, none⟩ = some (.int .i64 q) ∧ w'.cell? ⟨w.heap.size + 1, 1, none⟩ = some (.int .i64 s) ∧ w'.cell? ⟨w.heap.size + 1, 2, none⟩ = some (.int .i64 c) ∧ w'.cell? ⟨w.heap.size + 1, 3, none⟩ = some (.slice A2 E.length k2)) 15 (by kernel_rfl) (by kernel_rfl) ⟨g0.box4 2 rfl, g0.box4 1 rfl⟩ (fun hHeld => ?_)
  simp only [List.take_succ_cons, List.take_zero]
  refine anyH_take (v := ?_) 0 rfl (by kernel_rfl) (by kernel_rfl) (by kernel_rfl) (fun _ _ _ h => h) rfl ?_ hHeld ?_
  rotate_left
  · intro w' hSw
    go_simp
    try with_reducible rfl
  try simp only [Act.put, List.setIfInBounds_toArray, List.set_cons_zero, List.set_cons_succ]
  refine anyH_take (v := ?_) 1 rfl (by kernel_rfl) (by kernel_rfl) (by kernel_rfl) (fun _ _ _ h => h) rfl ?_ hHeld ?_
  rotate_left
  · intro w' hSw
    go_simp
    try with_reducible rfl
  try simp only [Act.put, List.setIfInBounds_toArray, List.set_cons_zero, List.set_cons_succ]
  refine anyH_take (v := ?_) 2 rfl (by kernel_rfl) (by kernel_rfl) (by kernel_rfl) (fun _ _ _ h => h) rfl ?_ hHeld ?_
  rotate_left
  · intro w' hSw
    go_simp
    try with_reducible rfl
  try simp only [Act.put, List.setIfInBounds_toArray, List.set_cons_zero, List.set_cons_succ]
  refine anyH_take (v := ?_) 3 rfl (by kernel_rfl) (by kernel_rfl) (by kernel_rfl) (fun _ _ _ h => h) rfl ?_ hHeld ?_
  rotate_left
  · intro w' hSw
    go_simp
    try with_reducible rfl
  try simp only [Act.put, List.setIfInBounds_toArray, List.set_cons_zero, List.set_cons_succ]
  refine anyH_take (v := ?_) 4 rfl (by kernel_rfl) (by kernel_rfl) (by kernel_rfl) (fun _ _ _ h => h) rfl ?_ hHeld ?_
  rotate_left
  · intro w' hSw
    go_simp
    try with_reducible rfl
  try simp only [Act.put, List.setIfInBounds_toArray, List.set_cons_zero, List.set_cons_succ]
  refine anyH_take (v := ?_) 5 rfl (by kernel_rfl) (by kernel_rfl) (by kernel_rfl) (fun _ _ _ h => h) rfl ?_ hHeld ?_
  rotate_left
  · intro w' hSw
    go_simp
    try with_reducible rfl
  try simp only [Act.put, List.setIfInBounds_toArray, List.set_cons_zero, List.set_cons_succ]
  refine anyH_take (v := ?_) 6 rfl (by kernel_rfl) (by kernel_rfl) (by kernel_rfl) (fun _ _ _ h => h) rfl ?_ hHeld ?_
  rotate_left
  · intro w' hSw
    go_simp
    try with_reducible rfl
  try simp only [Act.put, List.setIfInBounds_toArray, List.set_cons_zero, List.set_cons_succ]
  refine anyH_take (v := ?_) 7 rfl (by kernel_rfl) (by kernel_rfl) (by kernel_rfl) (fun _ _ _ h => h) rfl ?_ hHeld ?_
  rotate_left
  · intro w' hSw
    go_simp
    try with_reducible rfl
  try simp only [Act.put, List.setIfInBounds_toArray, List.set_cons_zero, List.set_cons_succ]
  refine anyH_take (v := ?_) 8 rfl (by kernel_rfl) (by kernel_rfl) (by kernel_rfl) (fun _ _ _ h => h) rfl ?_ hHeld ?_
  rotate_left
  · intro w' hSw
    go_simp
    try with_reducible rfl
  try simp only [Act.put, List.setIfInBounds_toArray, List.set_cons_zero, List.set_cons_succ]
  refine anyH_take (v := ?_) 9 rfl (by kernel_rfl) (by kernel_rfl) (by kernel_rfl) (fun _ _ _ h => h) rfl ?_ hHeld ?_
  rotate_left
  · intro w' hSw
    go_simp
    try with_reducible rfl
  try simp only [Act.put, List.setIfInBounds_toArray, List.set_cons_zero, List.set_cons_succ]
  refine anyH_take (v := ?_) 10 rfl (by kernel_rfl) (by kernel_rfl) (by kernel_rfl) (fun _ _ _ h => h) rfl ?_ hHeld ?_
  rotate_left
  · intro w' hSw
    go_simp
    try with_reducible rfl
  try simp only [Act.put, List.setIfInBounds_toArray, List.set_cons_zero, List.set_cons_succ]
  refine anyH_take (v := ?_) 12 rfl (by kernel_rfl) (by kernel_rfl) (by kernel_rfl) (fun _ _ _ h => h) rfl ?_ hHeld ?_
  rotate_left
  · intro w' hSw
    go_simp
    try with_reducible rfl
  try simp only [Act.put, List.setIfInBounds_toArray, List.set_cons_zero, List.set_cons_succ]
  refine anyH_take (v := ?_) 13 rfl (by kernel_rfl) (by kernel_rfl) (by kernel_rfl) (fun _ _ _ h => h) rfl ?_ hHeld ?_
  rotate_left
  · intro w' hSw
    go_simp
    try with_reducible rfl
  try simp only [Act.put, List.setIfInBounds_toArray, List.set_cons_zero, List.set_cons_succ]
  refine wpAnyH_ready (rs := [11]) (by kernel_rfl) (by simp) ?_
  refine ready_cons rfl (fun K hK => ?_) AllReadyH.nil
  go_simp
  refine (l1Ints_any _ D _ (g0.roInts 4 rfl) (by rw [HDl.out]; omega)).mono ?_
  rintro (e : Ending) w1 ⟨u1, rfl, ho1, hb1⟩
  obtain ⟨A5, n5, c5, rfl⟩ := ho1.slice
  have g1 := g0.pushOwn hb1 ho1
  show K _ _
  refine hK.out _ _ ?_ (fun hHeld => ?_)
  · exact ⟨g1.box4 3 rfl, g1.box4 2 rfl⟩
  clear hK K
  try simp only [Act.put, List.setIfInBounds_toArray, List.set_cons_zero, List.set_cons_succ]
  refine wpAnyH_ready (rs := [14]) (by kernel_rfl) (by simp) ?_
  refine ready_cons rfl (fun K hK => ?_) AllReadyH.nil
  refine step_append_ints rfl (.tmp 16) (.tmp 18) rfl g1 0 rfl (g1.roInts 4 rfl) (by rw [HDl.out, HEl.out]; omega) rfl rfl fun vA w2 g2 => ?_
  simp only [List.set_cons_zero] at g2
  obtain ⟨A6, n6, c6, rfl⟩ := (g2.own 0 rfl).slice
  refine hK.out _ _ ?_ (fun hHeld => ?_)
  · exact ⟨g2.box4 3 rfl, g2.box4 2 rfl⟩
  clear hK K
  try simp only [Act.put, List.setIfInBounds_toArray, List.set_cons_zero, List.set_cons_succ]
  refine wpAnyH_done (by kernel_rfl) ?_ _
  show wpList _ _ _ _ _ _
  simp only [List.drop_succ_cons, List.drop_zero]
  clear hHeld
  go_wp2_with fail
  refine (HSp.out _ _ (g2.ownInts 0 rfl)).mono ?_
  rintro (e : Ending) w3 ⟨u3, rfl, ho3, hb3⟩
  obtain ⟨A7, n7, c7, rfl⟩ := ho3.slice
  have g3 := g2.pushOwn hb3 ho3
  obtain ⟨p0, p1, p2, p3⟩ := g3.box4 2 rfl
  have f0 := g3.free 2 rfl 0
  have f1 := g3.free 2 rfl 1
  have f2 := g3.free 2 rfl 2
  have f3 := g3.free 2 rfl 3
  have h5 := (((g3.setBox 2 rfl 0 (.int .i64 p)).setBox 2 rfl 1 (.int .i64 l)).setBox 2 rfl 2 (.int .i64 n)).setBox 2 rfl 3 (.slice A7 n7 c7)
  obtain ⟨r0, r1, r2, r3⟩ := h5.box4 2 rfl
  clear g0 g1 g2 g3 h1 ho1 ho3 hb1 hb3
  go_wp2
  refine bodyPost_ret (v := .agg #[.int .i64 p, .int .i64 l, .int .i64 n, .slice A7 n7 c7]) (by simp [results, Tryz.results174, go_sem, r0, r1, r2, r3]) rfl ⟨_, rfl, h5.own 0 rfl, h5.below⟩


end Go.Proofs.YthiainhhaokjoaaGreat
