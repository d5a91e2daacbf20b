/- SubmoduleBy of the program. -/
import Derived.Test.YtechjmckfedblaaSbA
import Derived.Test.YtechjmckfedblaaMovA
namespace Go.Proofs.Ytechjmckfedblaa
set_option maxRecDepth 100000
open Go.RowKit

set_option maxHeartbeats 4000000 in
theorem SubmoduleByI_any (p n q r c : Int) (t v u : Value) (T D : List Int) (ms : List Mt) (w : World) (ht : Ints w t T) (hv : MatsR w v ms) (hu : Ints w u D) (hp0 : p ≤ 9223372036854775807) (hq : q ≤ 9223372036854775807) (hw : ∀ i, i < ms.length → (mAt ms i).p ≤ 9223372036854775807) :
    Calls Try.prog 53 #[.agg #[.int .i64 p, .int .i64 n, t], v, .agg #[.int .i64 q, .int .i64 r, .int .i64 c, u]] w (RetMatB w (sbP p n T ms q r c D) (sbR p n T ms q r c D) (sbC p n T ms q r c D) (sbD p n T ms q r c D) (sbOk p n T ms q r c D)) := by
  have h1 := (((((St.start w).arg ht).arg hu).pushFact hv.fact).box [.int .i64 p, .int .i64 n, t] 30).box [.int .i64 q, .int .i64 r, .int .i64 c, u] 32
  replace h1 := h1.box [.int .i64 0, .int .i64 0, .int .i64 0, .slice none 0 0] 32
  simp only [World.size_alloc] at h1
  obtain ⟨A, k, rfl, _, _, _⟩ := id ht
  obtain ⟨A2, k2, rfl, _, _, _⟩ := id hv
  obtain ⟨A3, k3, rfl, _, _, _⟩ := id hu
  have HI := Lib.hid (fun (W : World) (h1 : Ints W (.slice A T.length k) T) (h2 : MatsR W (.slice A2 ms.length k2) ms) => IsModuleI_any p n _ _ T ms W h1 h2 hp0 hw)
  have HMk := Lib.hid (fun (W : World) (h1 : Ints W (.slice A3 D.length k3) D) => MatrixOkI_any q r c _ D W h1 hq)
  have HV := Lib.hid hv
  clear ht hv hu hw
  by_cases b1 : isMod p n T ms = true
  case neg =>
    have b1 : isMod p n T ms = false := by simpa using b1
    have b0 : sbOk p n T ms q r c D = false := by rw [sbOk, b1, Bool.false_and]
    rw [show sbP p n T ms q r c D = 0 by simp [sbP, b0], show sbR p n T ms q r c D = 0 by simp [sbR, b0], show sbC p n T ms q r c D = 0 by simp [sbC, b0], show sbD p n T ms q r c D = [] by simp [sbD, b0], b0]
    have B1 := Lib.hid b1
    clear b1 b0
    go_enter Try.func53, Try.ntmps53
    go_upto_region 1 with fail
    have g0 := h1.drew
    refine wp_region_held_drew (S := fun w' => (w'.cell? ⟨w.heap.size, 0, none⟩ = some (.int .i64 p) ∧ w'.cell? ⟨w.heap.size, 1, none⟩ = some (.int .i64 n) ∧ w'.cell? ⟨w.heap.size, 2, none⟩ = some (.slice A T.length k)) ∧ (w'.cell? ⟨w.heap.size + 1, 0, none⟩ = some (.int .i64 q) ∧ w'.cell? ⟨w.heap.size + 1, 1, none⟩ = some (.int .i64 r) ∧ w'.cell? ⟨w.heap.size + 1, 2, none⟩ = some (.int .i64 c) ∧ w'.cell? ⟨w.heap.size + 1, 3, none⟩ = some (.slice A3 D.length k3))) (by kernel_rfl) ⟨g0.box3 2 rfl, g0.box4 1 rfl⟩ (fun hHeld => ?_)
    refine anyH_take (v := ?_) 0 rfl (by kernel_rfl) (by kernel_rfl) (by kernel_rfl) (fun _ _ _ h => h) rfl ?_ hHeld ?_
    rotate_left
    · intro w' hSw
      go_simp
      try with_reducible rfl
    try simp only [Act.put, List.setIfInBounds_toArray, List.set_cons_zero, List.set_cons_succ]
    refine anyH_take (v := ?_) 1 rfl (by kernel_rfl) (by kernel_rfl) (by kernel_rfl) (fun _ _ _ h => h) rfl ?_ hHeld ?_
    rotate_left
    · intro w' hSw
      go_simp
      try with_reducible rfl
    try simp only [Act.put, List.setIfInBounds_toArray, List.set_cons_zero, List.set_cons_succ]
    refine wpAnyH_ready (rs := [2]) (by kernel_rfl) (by simp) ?_
    refine ready_cons rfl (fun K hK => ?_) AllReadyH.nil
    go_simp
    refine (HI.out _ (g0.roInts 5 rfl) (g0.fact 3 rfl)).mono ?_
    rintro (e : Ending) w1 ⟨rfl, hb1⟩
    have g1 := g0.on hb1
    rw [B1.out]
    clear hb1
    show K _ _
    refine hK.out _ _ ?_ (fun hHeld => ?_)
    · exact ⟨g1.box3 2 rfl, g1.box4 1 rfl⟩
    clear hK K
    try simp only [Act.put, List.setIfInBounds_toArray, List.set_cons_zero, List.set_cons_succ]
    refine anyH_take (v := ?_) 3 rfl (by kernel_rfl) (by kernel_rfl) (by kernel_rfl) (fun _ _ _ h => h) rfl ?_ hHeld ?_
    rotate_left
    · intro w' hSw
      go_simp
      try with_reducible rfl
    try simp only [Act.put, List.setIfInBounds_toArray, List.set_cons_zero, List.set_cons_succ]
    refine anyH_take (v := ?_) 4 rfl (by kernel_rfl) (by kernel_rfl) (by kernel_rfl) (fun _ _ _ h => h) rfl ?_ hHeld ?_
    rotate_left
    · intro w' hSw
      go_simp
      try with_reducible rfl
    try simp only [Act.put, List.setIfInBounds_toArray, List.set_cons_zero, List.set_cons_succ]
    refine anyH_skip 5 rfl (by kernel_rfl) (by kernel_rfl) (by kernel_rfl) (fun _ _ _ h => h) rfl hHeld ?_
    try simp only [Act.put, List.setIfInBounds_toArray, List.set_cons_zero, List.set_cons_succ]
    refine anyH_skip 6 rfl (by kernel_rfl) (by kernel_rfl) (by kernel_rfl) (fun _ _ _ h => h) rfl hHeld ?_
    try simp only [Act.put, List.setIfInBounds_toArray, List.set_cons_zero, List.set_cons_succ]
    refine anyH_skip 7 rfl (by kernel_rfl) (by kernel_rfl) (by kernel_rfl) (fun _ _ _ h => h) rfl hHeld ?_
    try simp only [Act.put, List.setIfInBounds_toArray, List.set_cons_zero, List.set_cons_succ]
    refine anyH_take (v := ?_) 8 rfl (by kernel_rfl) (by kernel_rfl) (by kernel_rfl) (fun _ _ _ h => h) rfl ?_ hHeld ?_
    rotate_left
    · intro w' hSw
      go_simp
      try with_reducible rfl
    try simp only [Act.put, List.setIfInBounds_toArray, List.set_cons_zero, List.set_cons_succ]
    refine anyH_take (v := ?_) 9 rfl (by kernel_rfl) (by kernel_rfl) (by kernel_rfl) (fun _ _ _ h => h) rfl ?_ hHeld ?_
    rotate_left
    · intro w' hSw
      go_simp
      try with_reducible rfl
    try simp only [Act.put, List.setIfInBounds_toArray, List.set_cons_zero, List.set_cons_succ]
    refine anyH_skip 10 rfl (by kernel_rfl) (by kernel_rfl) (by kernel_rfl) (fun _ _ _ h => h) rfl hHeld ?_
    try simp only [Act.put, List.setIfInBounds_toArray, List.set_cons_zero, List.set_cons_succ]
    refine anyH_skip 11 rfl (by kernel_rfl) (by kernel_rfl) (by kernel_rfl) (fun _ _ _ h => h) rfl hHeld ?_
    try simp only [Act.put, List.setIfInBounds_toArray, List.set_cons_zero, List.set_cons_succ]
    refine anyH_skip 12 rfl (by kernel_rfl) (by kernel_rfl) (by kernel_rfl) (fun _ _ _ h => h) rfl hHeld ?_
    try simp only [Act.put, List.setIfInBounds_toArray, List.set_cons_zero, List.set_cons_succ]
    refine anyH_skip 13 rfl (by kernel_rfl) (by kernel_rfl) (by kernel_rfl) (fun _ _ _ h => h) rfl hHeld ?_
    try simp only [Act.put, List.setIfInBounds_toArray, List.set_cons_zero, List.set_cons_succ]
    refine anyH_skip 14 rfl (by kernel_rfl) (by kernel_rfl) (by kernel_rfl) (fun _ _ _ h => h) rfl hHeld ?_
    try simp only [Act.put, List.setIfInBounds_toArray, List.set_cons_zero, List.set_cons_succ]
    refine anyH_take (v := ?_) 15 rfl (by kernel_rfl) (by kernel_rfl) (by kernel_rfl) (fun _ _ _ h => h) rfl ?_ hHeld ?_
    rotate_left
    · intro w' hSw
      go_simp
      try with_reducible rfl
    try simp only [Act.put, List.setIfInBounds_toArray, List.set_cons_zero, List.set_cons_succ]
    refine anyH_take (v := ?_) 16 rfl (by kernel_rfl) (by kernel_rfl) (by kernel_rfl) (fun _ _ _ h => h) rfl ?_ hHeld ?_
    rotate_left
    · intro w' hSw
      go_simp
      try with_reducible rfl
    try simp only [Act.put, List.setIfInBounds_toArray, List.set_cons_zero, List.set_cons_succ]
    refine anyH_skip 17 rfl (by kernel_rfl) (by kernel_rfl) (by kernel_rfl) (fun _ _ _ h => h) rfl hHeld ?_
    try simp only [Act.put, List.setIfInBounds_toArray, List.set_cons_zero, List.set_cons_succ]
    refine anyH_skip 18 rfl (by kernel_rfl) (by kernel_rfl) (by kernel_rfl) (fun _ _ _ h => h) rfl hHeld ?_
    try simp only [Act.put, List.setIfInBounds_toArray, List.set_cons_zero, List.set_cons_succ]
    refine anyH_skip 19 rfl (by kernel_rfl) (by kernel_rfl) (by kernel_rfl) (fun _ _ _ h => h) rfl hHeld ?_
    try simp only [Act.put, List.setIfInBounds_toArray, List.set_cons_zero, List.set_cons_succ]
    refine anyH_skip 20 rfl (by kernel_rfl) (by kernel_rfl) (by kernel_rfl) (fun _ _ _ h => h) rfl hHeld ?_
    try simp only [Act.put, List.setIfInBounds_toArray, List.set_cons_zero, List.set_cons_succ]
    refine anyH_skip 21 rfl (by kernel_rfl) (by kernel_rfl) (by kernel_rfl) (fun _ _ _ h => h) rfl hHeld ?_
    try simp only [Act.put, List.setIfInBounds_toArray, List.set_cons_zero, List.set_cons_succ]
    refine anyH_skip 22 rfl (by kernel_rfl) (by kernel_rfl) (by kernel_rfl) (fun _ _ _ h => h) rfl hHeld ?_
    try simp only [Act.put, List.setIfInBounds_toArray, List.set_cons_zero, List.set_cons_succ]
    refine anyH_skip 23 rfl (by kernel_rfl) (by kernel_rfl) (by kernel_rfl) (fun _ _ _ h => h) rfl hHeld ?_
    try simp only [Act.put, List.setIfInBounds_toArray, List.set_cons_zero, List.set_cons_succ]
    refine anyH_take (v := ?_) 24 rfl (by kernel_rfl) (by kernel_rfl) (by kernel_rfl) (fun _ _ _ h => h) rfl ?_ hHeld ?_
    rotate_left
    · intro w' hSw
      go_simp
      try with_reducible rfl
    try simp only [Act.put, List.setIfInBounds_toArray, List.set_cons_zero, List.set_cons_succ]
    refine wpAnyH_done (by kernel_rfl) ?_ _
    clear hHeld
    obtain ⟨v0, v1, v2, v3⟩ := g1.box4 0 rfl
    have f0 := g1.free 0 rfl 0
    have f1 := g1.free 0 rfl 1
    have f2 := g1.free 0 rfl 2
    have f3 := g1.free 0 rfl 3
    have h4 := (((g1.setBox 0 rfl 0 (.int .i64 0)).setBox 0 rfl 1 (.int .i64 0)).setBox 0 rfl 2 (.int .i64 0)).setBox 0 rfl 3 (.slice none 0 0)
    obtain ⟨r0, r1, r2, r3⟩ := h4.box4 0 rfl
    go_wp2
    refine bodyPost_ret (v := .tuple #[.agg #[.int .i64 0, .int .i64 0, .int .i64 0, .slice none 0 0], .bool false]) (by simp [results, Try.results53, go_sem, r0, r1, r2, r3]) rfl ⟨_, rfl, Own.nil, h4.below⟩
  by_cases b2 : matOk q r c D = true
  case neg =>
    have b2 : matOk q r c D = false := by simpa using b2
    have b0 : sbOk p n T ms q r c D = false := by rw [sbOk, b2, Bool.false_and, Bool.and_false]
    rw [show sbP p n T ms q r c D = 0 by simp [sbP, b0], show sbR p n T ms q r c D = 0 by simp [sbR, b0], show sbC p n T ms q r c D = 0 by simp [sbC, b0], show sbD p n T ms q r c D = [] by simp [sbD, b0], b0]
    have B1 := Lib.hid b1
    have B2 := Lib.hid b2
    clear b1 b2 b0
    go_enter Try.func53, Try.ntmps53
    go_upto_region 1 with fail
    have g0 := h1.drew
    refine wp_region_held_drew (S := fun w' => (w'.cell? ⟨w.heap.size, 0, none⟩ = some (.int .i64 p) ∧ w'.cell? ⟨w.heap.size, 1, none⟩ = some (.int .i64 n) ∧ w'.cell? ⟨w.heap.size, 2, none⟩ = some (.slice A T.length k)) ∧ (w'.cell? ⟨w.heap.size + 1, 0, none⟩ = some (.int .i64 q) ∧ w'.cell? ⟨w.heap.size + 1, 1, none⟩ = some (.int .i64 r) ∧ w'.cell? ⟨w.heap.size + 1, 2, none⟩ = some (.int .i64 c) ∧ w'.cell? ⟨w.heap.size + 1, 3, none⟩ = some (.slice A3 D.length k3))) (by kernel_rfl) ⟨g0.box3 2 rfl, g0.box4 1 rfl⟩ (fun hHeld => ?_)
    refine anyH_take (v := ?_) 0 rfl (by kernel_rfl) (by kernel_rfl) (by kernel_rfl) (fun _ _ _ h => h) rfl ?_ hHeld ?_
    rotate_left
    · intro w' hSw
      go_simp
      try with_reducible rfl
    try simp only [Act.put, List.setIfInBounds_toArray, List.set_cons_zero, List.set_cons_succ]
    refine anyH_take (v := ?_) 1 rfl (by kernel_rfl) (by kernel_rfl) (by kernel_rfl) (fun _ _ _ h => h) rfl ?_ hHeld ?_
    rotate_left
    · intro w' hSw
      go_simp
      try with_reducible rfl
    try simp only [Act.put, List.setIfInBounds_toArray, List.set_cons_zero, List.set_cons_succ]
    refine wpAnyH_ready (rs := [2]) (by kernel_rfl) (by simp) ?_
    refine ready_cons rfl (fun K hK => ?_) AllReadyH.nil
    go_simp
    refine (HI.out _ (g0.roInts 5 rfl) (g0.fact 3 rfl)).mono ?_
    rintro (e : Ending) w1 ⟨rfl, hb1⟩
    have g1 := g0.on hb1
    rw [B1.out]
    clear hb1
    show K _ _
    refine hK.out _ _ ?_ (fun hHeld => ?_)
    · exact ⟨g1.box3 2 rfl, g1.box4 1 rfl⟩
    clear hK K
    try simp only [Act.put, List.setIfInBounds_toArray, List.set_cons_zero, List.set_cons_succ]
    refine anyH_take (v := ?_) 3 rfl (by kernel_rfl) (by kernel_rfl) (by kernel_rfl) (fun _ _ _ h => h) rfl ?_ hHeld ?_
    rotate_left
    · intro w' hSw
      go_simp
      try with_reducible rfl
    try simp only [Act.put, List.setIfInBounds_toArray, List.set_cons_zero, List.set_cons_succ]
    refine anyH_take (v := ?_) 4 rfl (by kernel_rfl) (by kernel_rfl) (by kernel_rfl) (fun _ _ _ h => h) rfl ?_ hHeld ?_
    rotate_left
    · intro w' hSw
      go_simp
      try with_reducible rfl
    try simp only [Act.put, List.setIfInBounds_toArray, List.set_cons_zero, List.set_cons_succ]
    refine anyH_take (v := ?_) 5 rfl (by kernel_rfl) (by kernel_rfl) (by kernel_rfl) (fun _ _ _ h => h) rfl ?_ hHeld ?_
    rotate_left
    · intro w' hSw
      go_simp
      try with_reducible rfl
    try simp only [Act.put, List.setIfInBounds_toArray, List.set_cons_zero, List.set_cons_succ]
    refine wpAnyH_ready (rs := [6]) (by kernel_rfl) (by simp) ?_
    refine ready_cons rfl (fun K hK => ?_) AllReadyH.nil
    go_simp
    refine (HMk.out _ (g1.roInts 4 rfl)).mono ?_
    rintro (e : Ending) w2 ⟨rfl, hb1⟩
    have g2 := g1.on hb1
    rw [B2.out]
    clear hb1
    show K _ _
    refine hK.out _ _ ?_ (fun hHeld => ?_)
    · exact ⟨g2.box3 2 rfl, g2.box4 1 rfl⟩
    clear hK K
    try simp only [Act.put, List.setIfInBounds_toArray, List.set_cons_zero, List.set_cons_succ]
    refine anyH_take (v := ?_) 7 rfl (by kernel_rfl) (by kernel_rfl) (by kernel_rfl) (fun _ _ _ h => h) rfl ?_ hHeld ?_
    rotate_left
    · intro w' hSw
      go_simp
      try with_reducible rfl
    try simp only [Act.put, List.setIfInBounds_toArray, List.set_cons_zero, List.set_cons_succ]
    refine anyH_take (v := ?_) 8 rfl (by kernel_rfl) (by kernel_rfl) (by kernel_rfl) (fun _ _ _ h => h) rfl ?_ hHeld ?_
    rotate_left
    · intro w' hSw
      go_simp
      try with_reducible rfl
    try simp only [Act.put, List.setIfInBounds_toArray, List.set_cons_zero, List.set_cons_succ]
    refine anyH_take (v := ?_) 9 rfl (by kernel_rfl) (by kernel_rfl) (by kernel_rfl) (fun _ _ _ h => h) rfl ?_ hHeld ?_
    rotate_left
    · intro w' hSw
      go_simp
      try with_reducible rfl
    try simp only [Act.put, List.setIfInBounds_toArray, List.set_cons_zero, List.set_cons_succ]
    refine anyH_skip 10 rfl (by kernel_rfl) (by kernel_rfl) (by kernel_rfl) (fun _ _ _ h => h) rfl hHeld ?_
    try simp only [Act.put, List.setIfInBounds_toArray, List.set_cons_zero, List.set_cons_succ]
    refine anyH_skip 11 rfl (by kernel_rfl) (by kernel_rfl) (by kernel_rfl) (fun _ _ _ h => h) rfl hHeld ?_
    try simp only [Act.put, List.setIfInBounds_toArray, List.set_cons_zero, List.set_cons_succ]
    refine anyH_skip 12 rfl (by kernel_rfl) (by kernel_rfl) (by kernel_rfl) (fun _ _ _ h => h) rfl hHeld ?_
    try simp only [Act.put, List.setIfInBounds_toArray, List.set_cons_zero, List.set_cons_succ]
    refine anyH_skip 13 rfl (by kernel_rfl) (by kernel_rfl) (by kernel_rfl) (fun _ _ _ h => h) rfl hHeld ?_
    try simp only [Act.put, List.setIfInBounds_toArray, List.set_cons_zero, List.set_cons_succ]
    refine anyH_skip 14 rfl (by kernel_rfl) (by kernel_rfl) (by kernel_rfl) (fun _ _ _ h => h) rfl hHeld ?_
    try simp only [Act.put, List.setIfInBounds_toArray, List.set_cons_zero, List.set_cons_succ]
    refine anyH_take (v := ?_) 15 rfl (by kernel_rfl) (by kernel_rfl) (by kernel_rfl) (fun _ _ _ h => h) rfl ?_ hHeld ?_
    rotate_left
    · intro w' hSw
      go_simp
      try with_reducible rfl
    try simp only [Act.put, List.setIfInBounds_toArray, List.set_cons_zero, List.set_cons_succ]
    refine anyH_take (v := ?_) 16 rfl (by kernel_rfl) (by kernel_rfl) (by kernel_rfl) (fun _ _ _ h => h) rfl ?_ hHeld ?_
    rotate_left
    · intro w' hSw
      go_simp
      try with_reducible rfl
    try simp only [Act.put, List.setIfInBounds_toArray, List.set_cons_zero, List.set_cons_succ]
    refine anyH_skip 17 rfl (by kernel_rfl) (by kernel_rfl) (by kernel_rfl) (fun _ _ _ h => h) rfl hHeld ?_
    try simp only [Act.put, List.setIfInBounds_toArray, List.set_cons_zero, List.set_cons_succ]
    refine anyH_skip 18 rfl (by kernel_rfl) (by kernel_rfl) (by kernel_rfl) (fun _ _ _ h => h) rfl hHeld ?_
    try simp only [Act.put, List.setIfInBounds_toArray, List.set_cons_zero, List.set_cons_succ]
    refine anyH_skip 19 rfl (by kernel_rfl) (by kernel_rfl) (by kernel_rfl) (fun _ _ _ h => h) rfl hHeld ?_
    try simp only [Act.put, List.setIfInBounds_toArray, List.set_cons_zero, List.set_cons_succ]
    refine anyH_skip 20 rfl (by kernel_rfl) (by kernel_rfl) (by kernel_rfl) (fun _ _ _ h => h) rfl hHeld ?_
    try simp only [Act.put, List.setIfInBounds_toArray, List.set_cons_zero, List.set_cons_succ]
    refine anyH_skip 21 rfl (by kernel_rfl) (by kernel_rfl) (by kernel_rfl) (fun _ _ _ h => h) rfl hHeld ?_
    try simp only [Act.put, List.setIfInBounds_toArray, List.set_cons_zero, List.set_cons_succ]
    refine anyH_skip 22 rfl (by kernel_rfl) (by kernel_rfl) (by kernel_rfl) (fun _ _ _ h => h) rfl hHeld ?_
    try simp only [Act.put, List.setIfInBounds_toArray, List.set_cons_zero, List.set_cons_succ]
    refine anyH_skip 23 rfl (by kernel_rfl) (by kernel_rfl) (by kernel_rfl) (fun _ _ _ h => h) rfl hHeld ?_
    try simp only [Act.put, List.setIfInBounds_toArray, List.set_cons_zero, List.set_cons_succ]
    refine anyH_take (v := ?_) 24 rfl (by kernel_rfl) (by kernel_rfl) (by kernel_rfl) (fun _ _ _ h => h) rfl ?_ hHeld ?_
    rotate_left
    · intro w' hSw
      go_simp
      try with_reducible rfl
    try simp only [Act.put, List.setIfInBounds_toArray, List.set_cons_zero, List.set_cons_succ]
    refine wpAnyH_done (by kernel_rfl) ?_ _
    clear hHeld
    obtain ⟨v0, v1, v2, v3⟩ := g2.box4 0 rfl
    have f0 := g2.free 0 rfl 0
    have f1 := g2.free 0 rfl 1
    have f2 := g2.free 0 rfl 2
    have f3 := g2.free 0 rfl 3
    have h4 := (((g2.setBox 0 rfl 0 (.int .i64 0)).setBox 0 rfl 1 (.int .i64 0)).setBox 0 rfl 2 (.int .i64 0)).setBox 0 rfl 3 (.slice none 0 0)
    obtain ⟨r0, r1, r2, r3⟩ := h4.box4 0 rfl
    go_wp2
    refine bodyPost_ret (v := .tuple #[.agg #[.int .i64 0, .int .i64 0, .int .i64 0, .slice none 0 0], .bool false]) (by simp [results, Try.results53, go_sem, r0, r1, r2, r3]) rfl ⟨_, rfl, Own.nil, h4.below⟩
  by_cases b3 : q = p
  case neg =>
    have b0 : sbOk p n T ms q r c D = false := by rw [sbOk, decide_eq_false b3, Bool.false_and, Bool.and_false, Bool.and_false]
    rw [show sbP p n T ms q r c D = 0 by simp [sbP, b0], show sbR p n T ms q r c D = 0 by simp [sbR, b0], show sbC p n T ms q r c D = 0 by simp [sbC, b0], show sbD p n T ms q r c D = [] by simp [sbD, b0], b0]
    have B1 := Lib.hid b1
    have B2 := Lib.hid b2
    have e4 : (q == p) = false := by rw [beq_eq_false_iff_ne]; exact b3
    have e5 : (q != p) = true := by rw [bne, e4]; rfl
    clear b1 b2 b0
    go_enter Try.func53, Try.ntmps53
    go_upto_region 1 with fail
    have g0 := h1.drew
    refine wp_region_held_drew (S := fun w' => (w'.cell? ⟨w.heap.size, 0, none⟩ = some (.int .i64 p) ∧ w'.cell? ⟨w.heap.size, 1, none⟩ = some (.int .i64 n) ∧ w'.cell? ⟨w.heap.size, 2, none⟩ = some (.slice A T.length k)) ∧ (w'.cell? ⟨w.heap.size + 1, 0, none⟩ = some (.int .i64 q) ∧ w'.cell? ⟨w.heap.size + 1, 1, none⟩ = some (.int .i64 r) ∧ w'.cell? ⟨w.heap.size + 1, 2, none⟩ = some (.int .i64 c) ∧ w'.cell? ⟨w.heap.size + 1, 3, none⟩ = some (.slice A3 D.length k3))) (by kernel_rfl) ⟨g0.box3 2 rfl, g0.box4 1 rfl⟩ (fun hHeld => ?_)
    refine anyH_take (v := ?_) 0 rfl (by kernel_rfl) (by kernel_rfl) (by kernel_rfl) (fun _ _ _ h => h) rfl ?_ hHeld ?_
    rotate_left
    · intro w' hSw
      go_simp
      try with_reducible rfl
    try simp only [Act.put, List.setIfInBounds_toArray, List.set_cons_zero, List.set_cons_succ]
    refine anyH_take (v := ?_) 1 rfl (by kernel_rfl) (by kernel_rfl) (by kernel_rfl) (fun _ _ _ h => h) rfl ?_ hHeld ?_
    rotate_left
    · intro w' hSw
      go_simp
      try with_reducible rfl
    try simp only [Act.put, List.setIfInBounds_toArray, List.set_cons_zero, List.set_cons_succ]
    refine wpAnyH_ready (rs := [2]) (by kernel_rfl) (by simp) ?_
    refine ready_cons rfl (fun K hK => ?_) AllReadyH.nil
    go_simp
    refine (HI.out _ (g0.roInts 5 rfl) (g0.fact 3 rfl)).mono ?_
    rintro (e : Ending) w1 ⟨rfl, hb1⟩
    have g1 := g0.on hb1
    rw [B1.out]
    clear hb1
    show K _ _
    refine hK.out _ _ ?_ (fun hHeld => ?_)
    · exact ⟨g1.box3 2 rfl, g1.box4 1 rfl⟩
    clear hK K
    try simp only [Act.put, List.setIfInBounds_toArray, List.set_cons_zero, List.set_cons_succ]
    refine anyH_take (v := ?_) 3 rfl (by kernel_rfl) (by kernel_rfl) (by kernel_rfl) (fun _ _ _ h => h) rfl ?_ hHeld ?_
    rotate_left
    · intro w' hSw
      go_simp
      try with_reducible rfl
    try simp only [Act.put, List.setIfInBounds_toArray, List.set_cons_zero, List.set_cons_succ]
    refine anyH_take (v := ?_) 4 rfl (by kernel_rfl) (by kernel_rfl) (by kernel_rfl) (fun _ _ _ h => h) rfl ?_ hHeld ?_
    rotate_left
    · intro w' hSw
      go_simp
      try with_reducible rfl
    try simp only [Act.put, List.setIfInBounds_toArray, List.set_cons_zero, List.set_cons_succ]
    refine anyH_take (v := ?_) 5 rfl (by kernel_rfl) (by kernel_rfl) (by kernel_rfl) (fun _ _ _ h => h) rfl ?_ hHeld ?_
    rotate_left
    · intro w' hSw
      go_simp
      try with_reducible rfl
    try simp only [Act.put, List.setIfInBounds_toArray, List.set_cons_zero, List.set_cons_succ]
    refine wpAnyH_ready (rs := [6]) (by kernel_rfl) (by simp) ?_
    refine ready_cons rfl (fun K hK => ?_) AllReadyH.nil
    go_simp
    refine (HMk.out _ (g1.roInts 4 rfl)).mono ?_
    rintro (e : Ending) w2 ⟨rfl, hb1⟩
    have g2 := g1.on hb1
    rw [B2.out]
    clear hb1
    show K _ _
    refine hK.out _ _ ?_ (fun hHeld => ?_)
    · exact ⟨g2.box3 2 rfl, g2.box4 1 rfl⟩
    clear hK K
    try simp only [Act.put, List.setIfInBounds_toArray, List.set_cons_zero, List.set_cons_succ]
    refine anyH_take (v := ?_) 7 rfl (by kernel_rfl) (by kernel_rfl) (by kernel_rfl) (fun _ _ _ h => h) rfl ?_ hHeld ?_
    rotate_left
    · intro w' hSw
      go_simp
      try with_reducible rfl
    try simp only [Act.put, List.setIfInBounds_toArray, List.set_cons_zero, List.set_cons_succ]
    refine anyH_take (v := ?_) 8 rfl (by kernel_rfl) (by kernel_rfl) (by kernel_rfl) (fun _ _ _ h => h) rfl ?_ hHeld ?_
    rotate_left
    · intro w' hSw
      go_simp
      try with_reducible rfl
    try simp only [Act.put, List.setIfInBounds_toArray, List.set_cons_zero, List.set_cons_succ]
    refine anyH_take (v := ?_) 9 rfl (by kernel_rfl) (by kernel_rfl) (by kernel_rfl) (fun _ _ _ h => h) rfl ?_ hHeld ?_
    rotate_left
    · intro w' hSw
      go_simp
      try with_reducible rfl
    try simp only [Act.put, List.setIfInBounds_toArray, List.set_cons_zero, List.set_cons_succ]
    refine anyH_take (v := ?_) 10 rfl (by kernel_rfl) (by kernel_rfl) (by kernel_rfl) (fun _ _ _ h => h) rfl ?_ hHeld ?_
    rotate_left
    · intro w' hSw
      go_simp
      try with_reducible rfl
    try simp only [Act.put, List.setIfInBounds_toArray, List.set_cons_zero, List.set_cons_succ]
    refine anyH_take (v := ?_) 11 rfl (by kernel_rfl) (by kernel_rfl) (by kernel_rfl) (fun _ _ _ h => h) rfl ?_ hHeld ?_
    rotate_left
    · intro w' hSw
      go_simp
      try with_reducible rfl
    try simp only [Act.put, List.setIfInBounds_toArray, List.set_cons_zero, List.set_cons_succ]
    refine anyH_take (v := ?_) 12 rfl (by kernel_rfl) (by kernel_rfl) (by kernel_rfl) (fun _ _ _ h => h) rfl ?_ hHeld ?_
    rotate_left
    · intro w' hSw
      go_simp
      try with_reducible rfl
    try simp only [Act.put, List.setIfInBounds_toArray, List.set_cons_zero, List.set_cons_succ]
    refine anyH_take (v := ?_) 13 rfl (by kernel_rfl) (by kernel_rfl) (by kernel_rfl) (fun _ _ _ h => h) rfl ?_ hHeld ?_
    rotate_left
    · intro w' hSw
      go_simp
      try with_reducible rfl
    try simp only [Act.put, List.setIfInBounds_toArray, List.set_cons_zero, List.set_cons_succ]
    refine anyH_take (v := ?_) 14 rfl (by kernel_rfl) (by kernel_rfl) (by kernel_rfl) (fun _ _ _ h => h) rfl ?_ hHeld ?_
    rotate_left
    · intro w' hSw
      go_simp
      try with_reducible rfl
    try simp only [Act.put, List.setIfInBounds_toArray, List.set_cons_zero, List.set_cons_succ]
    refine anyH_take (v := ?_) 15 rfl (by kernel_rfl) (by kernel_rfl) (by kernel_rfl) (fun _ _ _ h => h) rfl ?_ hHeld ?_
    rotate_left
    · intro w' hSw
      go_simp
      try with_reducible rfl
    try simp only [Act.put, List.setIfInBounds_toArray, List.set_cons_zero, List.set_cons_succ]
    refine anyH_take (v := ?_) 16 rfl (by kernel_rfl) (by kernel_rfl) (by kernel_rfl) (fun _ _ _ h => h) rfl ?_ hHeld ?_
    rotate_left
    · intro w' hSw
      go_simp
      try with_reducible rfl
    try simp only [Act.put, List.setIfInBounds_toArray, List.set_cons_zero, List.set_cons_succ]
    refine anyH_skip 17 rfl (by kernel_rfl) (by kernel_rfl) (by kernel_rfl) (fun _ _ _ h => h) rfl hHeld ?_
    try simp only [Act.put, List.setIfInBounds_toArray, List.set_cons_zero, List.set_cons_succ]
    refine anyH_skip 18 rfl (by kernel_rfl) (by kernel_rfl) (by kernel_rfl) (fun _ _ _ h => h) rfl hHeld ?_
    try simp only [Act.put, List.setIfInBounds_toArray, List.set_cons_zero, List.set_cons_succ]
    refine anyH_skip 19 rfl (by kernel_rfl) (by kernel_rfl) (by kernel_rfl) (fun _ _ _ h => h) rfl hHeld ?_
    try simp only [Act.put, List.setIfInBounds_toArray, List.set_cons_zero, List.set_cons_succ]
    refine anyH_skip 20 rfl (by kernel_rfl) (by kernel_rfl) (by kernel_rfl) (fun _ _ _ h => h) rfl hHeld ?_
    try simp only [Act.put, List.setIfInBounds_toArray, List.set_cons_zero, List.set_cons_succ]
    refine anyH_skip 21 rfl (by kernel_rfl) (by kernel_rfl) (by kernel_rfl) (fun _ _ _ h => h) rfl hHeld ?_
    try simp only [Act.put, List.setIfInBounds_toArray, List.set_cons_zero, List.set_cons_succ]
    refine anyH_skip 22 rfl (by kernel_rfl) (by kernel_rfl) (by kernel_rfl) (fun _ _ _ h => h) rfl hHeld ?_
    try simp only [Act.put, List.setIfInBounds_toArray, List.set_cons_zero, List.set_cons_succ]
    refine anyH_skip 23 rfl (by kernel_rfl) (by kernel_rfl) (by kernel_rfl) (fun _ _ _ h => h) rfl hHeld ?_
    try simp only [Act.put, List.setIfInBounds_toArray, List.set_cons_zero, List.set_cons_succ]
    refine anyH_take (v := ?_) 24 rfl (by kernel_rfl) (by kernel_rfl) (by kernel_rfl) (fun _ _ _ h => h) rfl ?_ hHeld ?_
    rotate_left
    · intro w' hSw
      go_simp
      try with_reducible rfl
    try simp only [Act.put, List.setIfInBounds_toArray, List.set_cons_zero, List.set_cons_succ]
    refine wpAnyH_done (by kernel_rfl) ?_ _
    clear hHeld
    obtain ⟨v0, v1, v2, v3⟩ := g2.box4 0 rfl
    have f0 := g2.free 0 rfl 0
    have f1 := g2.free 0 rfl 1
    have f2 := g2.free 0 rfl 2
    have f3 := g2.free 0 rfl 3
    have h4 := (((g2.setBox 0 rfl 0 (.int .i64 0)).setBox 0 rfl 1 (.int .i64 0)).setBox 0 rfl 2 (.int .i64 0)).setBox 0 rfl 3 (.slice none 0 0)
    obtain ⟨r0, r1, r2, r3⟩ := h4.box4 0 rfl
    go_wp2
    refine bodyPost_ret (v := .tuple #[.agg #[.int .i64 0, .int .i64 0, .int .i64 0, .slice none 0 0], .bool false]) (by simp [results, Try.results53, go_sem, r0, r1, r2, r3]) rfl ⟨_, rfl, Own.nil, h4.below⟩
  obtain ⟨N, s, hn, hln, hN0, hs, hs30, hA, hM⟩ := isMod_all b1
  have hl0 : 0 < ms.length := by omega
  subst q
  obtain ⟨b, off, A9, c9, hbA, hm⟩ := HV.out.at (i := 0) hl0
  have hX : w.cell? ⟨b, off + 1, none⟩ = some (.int .i64 s) := by
    have := hm.2.1
    rw [mAt_get hl0, hs] at this
    simpa using this
  subst hbA
  replace h1 := h1.pushOld (R := fun w' => w'.cell? ⟨b, off + 1, none⟩ = some (.int .i64 s)) (fun w' hk => (World.cell?_of_block (hk _ (World.block_lt_of_cell? w _ hX))).trans hX)
  have im0 : 0 < ms.length := hl0
  clear hm hX A9 c9
  by_cases b4 : c = s
  case neg =>
    have b0 : sbOk p n T ms p r c D = false := by rw [sbOk, decide_eq_false (show ¬ c = (mAt ms 0).r by rw [hs]; exact b4), Bool.and_false, Bool.and_false, Bool.and_false]
    rw [show sbP p n T ms p r c D = 0 by simp [sbP, b0], show sbR p n T ms p r c D = 0 by simp [sbR, b0], show sbC p n T ms p r c D = 0 by simp [sbC, b0], show sbD p n T ms p r c D = [] by simp [sbD, b0], b0]
    have B1 := Lib.hid b1
    have B2 := Lib.hid b2
    have e4 : (c == (s : Int)) = false := by rw [beq_eq_false_iff_ne]; exact b4
    have e5 : (c != (s : Int)) = true := by rw [bne, e4]; rfl
    clear b1 b2 b0 hn hln hs hA hM
    go_enter Try.func53, Try.ntmps53
    go_upto_region 1 with fail
    have g0 := h1.drew
    refine wp_region_held_drew (S := fun w' => (w'.cell? ⟨w.heap.size, 0, none⟩ = some (.int .i64 p) ∧ w'.cell? ⟨w.heap.size, 1, none⟩ = some (.int .i64 n) ∧ w'.cell? ⟨w.heap.size, 2, none⟩ = some (.slice A T.length k)) ∧ (w'.cell? ⟨w.heap.size + 1, 0, none⟩ = some (.int .i64 p) ∧ w'.cell? ⟨w.heap.size + 1, 1, none⟩ = some (.int .i64 r) ∧ w'.cell? ⟨w.heap.size + 1, 2, none⟩ = some (.int .i64 c) ∧ w'.cell? ⟨w.heap.size + 1, 3, none⟩ = some (.slice A3 D.length k3)) ∧ w'.cell? ⟨b, off + 1, none⟩ = some (.int .i64 s)) (by kernel_rfl) ⟨g0.box3 3 rfl, g0.box4 2 rfl, g0.fact 0 rfl⟩ (fun hHeld => ?_)
    refine anyH_take (v := ?_) 0 rfl (by kernel_rfl) (by kernel_rfl) (by kernel_rfl) (fun _ _ _ h => h) rfl ?_ hHeld ?_
    rotate_left
    · intro w' hSw
      go_simp
      try with_reducible rfl
    try simp only [Act.put, List.setIfInBounds_toArray, List.set_cons_zero, List.set_cons_succ]
    refine anyH_take (v := ?_) 1 rfl (by kernel_rfl) (by kernel_rfl) (by kernel_rfl) (fun _ _ _ h => h) rfl ?_ hHeld ?_
    rotate_left
    · intro w' hSw
      go_simp
      try with_reducible rfl
    try simp only [Act.put, List.setIfInBounds_toArray, List.set_cons_zero, List.set_cons_succ]
    refine wpAnyH_ready (rs := [2]) (by kernel_rfl) (by simp) ?_
    refine ready_cons rfl (fun K hK => ?_) AllReadyH.nil
    go_simp
    refine (HI.out _ (g0.roInts 6 rfl) (g0.fact 4 rfl)).mono ?_
    rintro (e : Ending) w1 ⟨rfl, hb1⟩
    have g1 := g0.on hb1
    rw [B1.out]
    clear hb1
    show K _ _
    refine hK.out _ _ ?_ (fun hHeld => ?_)
    · exact ⟨g1.box3 3 rfl, g1.box4 2 rfl, g1.fact 0 rfl⟩
    clear hK K
    try simp only [Act.put, List.setIfInBounds_toArray, List.set_cons_zero, List.set_cons_succ]
    refine anyH_take (v := ?_) 3 rfl (by kernel_rfl) (by kernel_rfl) (by kernel_rfl) (fun _ _ _ h => h) rfl ?_ hHeld ?_
    rotate_left
    · intro w' hSw
      go_simp
      try with_reducible rfl
    try simp only [Act.put, List.setIfInBounds_toArray, List.set_cons_zero, List.set_cons_succ]
    refine anyH_take (v := ?_) 4 rfl (by kernel_rfl) (by kernel_rfl) (by kernel_rfl) (fun _ _ _ h => h) rfl ?_ hHeld ?_
    rotate_left
    · intro w' hSw
      go_simp
      try with_reducible rfl
    try simp only [Act.put, List.setIfInBounds_toArray, List.set_cons_zero, List.set_cons_succ]
    refine anyH_take (v := ?_) 5 rfl (by kernel_rfl) (by kernel_rfl) (by kernel_rfl) (fun _ _ _ h => h) rfl ?_ hHeld ?_
    rotate_left
    · intro w' hSw
      go_simp
      try with_reducible rfl
    try simp only [Act.put, List.setIfInBounds_toArray, List.set_cons_zero, List.set_cons_succ]
    refine wpAnyH_ready (rs := [6]) (by kernel_rfl) (by simp) ?_
    refine ready_cons rfl (fun K hK => ?_) AllReadyH.nil
    go_simp
    refine (HMk.out _ (g1.roInts 5 rfl)).mono ?_
    rintro (e : Ending) w2 ⟨rfl, hb1⟩
    have g2 := g1.on hb1
    rw [B2.out]
    clear hb1
    show K _ _
    refine hK.out _ _ ?_ (fun hHeld => ?_)
    · exact ⟨g2.box3 3 rfl, g2.box4 2 rfl, g2.fact 0 rfl⟩
    clear hK K
    try simp only [Act.put, List.setIfInBounds_toArray, List.set_cons_zero, List.set_cons_succ]
    refine anyH_take (v := ?_) 7 rfl (by kernel_rfl) (by kernel_rfl) (by kernel_rfl) (fun _ _ _ h => h) rfl ?_ hHeld ?_
    rotate_left
    · intro w' hSw
      go_simp
      try with_reducible rfl
    try simp only [Act.put, List.setIfInBounds_toArray, List.set_cons_zero, List.set_cons_succ]
    refine anyH_take (v := ?_) 8 rfl (by kernel_rfl) (by kernel_rfl) (by kernel_rfl) (fun _ _ _ h => h) rfl ?_ hHeld ?_
    rotate_left
    · intro w' hSw
      go_simp
      try with_reducible rfl
    try simp only [Act.put, List.setIfInBounds_toArray, List.set_cons_zero, List.set_cons_succ]
    refine anyH_take (v := ?_) 9 rfl (by kernel_rfl) (by kernel_rfl) (by kernel_rfl) (fun _ _ _ h => h) rfl ?_ hHeld ?_
    rotate_left
    · intro w' hSw
      go_simp
      try with_reducible rfl
    try simp only [Act.put, List.setIfInBounds_toArray, List.set_cons_zero, List.set_cons_succ]
    refine anyH_take (v := ?_) 10 rfl (by kernel_rfl) (by kernel_rfl) (by kernel_rfl) (fun _ _ _ h => h) rfl ?_ hHeld ?_
    rotate_left
    · intro w' hSw
      go_simp
      try with_reducible rfl
    try simp only [Act.put, List.setIfInBounds_toArray, List.set_cons_zero, List.set_cons_succ]
    refine anyH_take (v := ?_) 11 rfl (by kernel_rfl) (by kernel_rfl) (by kernel_rfl) (fun _ _ _ h => h) rfl ?_ hHeld ?_
    rotate_left
    · intro w' hSw
      go_simp
      try with_reducible rfl
    try simp only [Act.put, List.setIfInBounds_toArray, List.set_cons_zero, List.set_cons_succ]
    refine anyH_take (v := ?_) 12 rfl (by kernel_rfl) (by kernel_rfl) (by kernel_rfl) (fun _ _ _ h => h) rfl ?_ hHeld ?_
    rotate_left
    · intro w' hSw
      go_simp
      try with_reducible rfl
    try simp only [Act.put, List.setIfInBounds_toArray, List.set_cons_zero, List.set_cons_succ]
    refine anyH_take (v := ?_) 13 rfl (by kernel_rfl) (by kernel_rfl) (by kernel_rfl) (fun _ _ _ h => h) rfl ?_ hHeld ?_
    rotate_left
    · intro w' hSw
      go_simp
      try with_reducible rfl
    try simp only [Act.put, List.setIfInBounds_toArray, List.set_cons_zero, List.set_cons_succ]
    refine anyH_take (v := ?_) 14 rfl (by kernel_rfl) (by kernel_rfl) (by kernel_rfl) (fun _ _ _ h => h) rfl ?_ hHeld ?_
    rotate_left
    · intro w' hSw
      go_simp
      try with_reducible rfl
    try simp only [Act.put, List.setIfInBounds_toArray, List.set_cons_zero, List.set_cons_succ]
    refine anyH_take (v := ?_) 15 rfl (by kernel_rfl) (by kernel_rfl) (by kernel_rfl) (fun _ _ _ h => h) rfl ?_ hHeld ?_
    rotate_left
    · intro w' hSw
      go_simp
      try with_reducible rfl
    try simp only [Act.put, List.setIfInBounds_toArray, List.set_cons_zero, List.set_cons_succ]
    refine anyH_take (v := ?_) 16 rfl (by kernel_rfl) (by kernel_rfl) (by kernel_rfl) (fun _ _ _ h => h) rfl ?_ hHeld ?_
    rotate_left
    · intro w' hSw
      go_simp
      try with_reducible rfl
    try simp only [Act.put, List.setIfInBounds_toArray, List.set_cons_zero, List.set_cons_succ]
    refine anyH_take (v := ?_) 17 rfl (by kernel_rfl) (by kernel_rfl) (by kernel_rfl) (fun _ _ _ h => h) rfl ?_ hHeld ?_
    rotate_left
    · intro w' hSw
      go_simp
      try with_reducible rfl
    try simp only [Act.put, List.setIfInBounds_toArray, List.set_cons_zero, List.set_cons_succ]
    refine anyH_take (v := ?_) 18 rfl (by kernel_rfl) (by kernel_rfl) (by kernel_rfl) (fun _ _ _ h => h) rfl ?_ hHeld ?_
    rotate_left
    · intro w' hSw
      go_simp
      try with_reducible rfl
    try simp only [Act.put, List.setIfInBounds_toArray, List.set_cons_zero, List.set_cons_succ]
    refine anyH_take (v := ?_) 19 rfl (by kernel_rfl) (by kernel_rfl) (by kernel_rfl) (fun _ _ _ h => h) rfl ?_ hHeld ?_
    rotate_left
    · intro w' hSw
      go_simp
      try with_reducible rfl
    try simp only [Act.put, List.setIfInBounds_toArray, List.set_cons_zero, List.set_cons_succ]
    refine anyH_take (v := ?_) 20 rfl (by kernel_rfl) (by kernel_rfl) (by kernel_rfl) (fun _ _ _ h => h) rfl ?_ hHeld ?_
    rotate_left
    · intro w' hSw
      go_simp
      try with_reducible rfl
    try simp only [Act.put, List.setIfInBounds_toArray, List.set_cons_zero, List.set_cons_succ]
    refine anyH_take (v := ?_) 21 rfl (by kernel_rfl) (by kernel_rfl) (by kernel_rfl) (fun _ _ _ h => h) rfl ?_ hHeld ?_
    rotate_left
    · intro w' hSw
      go_simp
      try with_reducible rfl
    try simp only [Act.put, List.setIfInBounds_toArray, List.set_cons_zero, List.set_cons_succ]
    refine anyH_take (v := ?_) 22 rfl (by kernel_rfl) (by kernel_rfl) (by kernel_rfl) (fun _ _ _ h => h) rfl ?_ hHeld ?_
    rotate_left
    · intro w' hSw
      go_simp
      try with_reducible rfl
    try simp only [Act.put, List.setIfInBounds_toArray, List.set_cons_zero, List.set_cons_succ]
    refine anyH_take (v := ?_) 23 rfl (by kernel_rfl) (by kernel_rfl) (by kernel_rfl) (fun _ _ _ h => h) rfl ?_ hHeld ?_
    rotate_left
    · intro w' hSw
      go_simp
      try with_reducible rfl
    try simp only [Act.put, List.setIfInBounds_toArray, List.set_cons_zero, List.set_cons_succ]
    refine anyH_take (v := ?_) 24 rfl (by kernel_rfl) (by kernel_rfl) (by kernel_rfl) (fun _ _ _ h => h) rfl ?_ hHeld ?_
    rotate_left
    · intro w' hSw
      go_simp
      try with_reducible rfl
    try simp only [Act.put, List.setIfInBounds_toArray, List.set_cons_zero, List.set_cons_succ]
    refine wpAnyH_done (by kernel_rfl) ?_ _
    clear hHeld
    have gz := g2.drop 1
    obtain ⟨v0, v1, v2, v3⟩ := gz.box4 0 rfl
    have f0 := gz.free 0 rfl 0
    have f1 := gz.free 0 rfl 1
    have f2 := gz.free 0 rfl 2
    have f3 := gz.free 0 rfl 3
    have h4 := (((gz.setBox 0 rfl 0 (.int .i64 0)).setBox 0 rfl 1 (.int .i64 0)).setBox 0 rfl 2 (.int .i64 0)).setBox 0 rfl 3 (.slice none 0 0)
    obtain ⟨r0, r1, r2, r3⟩ := h4.box4 0 rfl
    go_wp2
    refine bodyPost_ret (v := .tuple #[.agg #[.int .i64 0, .int .i64 0, .int .i64 0, .slice none 0 0], .bool false]) (by simp [results, Try.results53, go_sem, r0, r1, r2, r3]) rfl ⟨_, rfl, Own.nil, h4.below⟩
  have b0 : sbOk p n T ms p r c D = true := by rw [sbOk, b1, b2, decide_eq_true (rfl : p = p), decide_eq_true (show c = (mAt ms 0).r by rw [hs]; exact b4)]; rfl
  obtain ⟨rs, cs, rfl, ecs, i1, i2, iS, iR, k3', k4, k6⟩ := matOk_spec b2
  subst c
  have e6 : s = cs := by omega
  subst e6
  have hWr := Wf_rowsM (p := p) (by omega) (r := rs) (c := s) iR
  have hRf := spanL_rf k6 hWr
  have hL : sbL p s ms rs D = growTo (mvNext p s ms) s (spanL p s (rowsM rs s D)) := by simp [sbL]
  obtain ⟨R0, hR0⟩ : ∃ R0, R0 = spanL p s (rowsM rs s D) := ⟨_, rfl⟩
  rw [← hR0] at hL hRf
  obtain ⟨G, hG⟩ : ∃ G, G = growTo (mvNext p s ms) s R0 := ⟨_, rfl⟩
  rw [← hG] at hL
  rw [show sbP p n T ms p rs s D = p by simp [sbP, b0], show sbR p n T ms p rs s D = G.length by rw [sbR, if_pos b0, hL], show sbC p n T ms p rs s D = s by simp [sbC, b0], show sbD p n T ms p rs s D = flat s G by rw [sbD, if_pos b0, hL]; simp, b0]
  have HGr : Hid (GrowRun p s (mvNext p s ms) R0 G) := by show GrowRun p s (mvNext p s ms) R0 G; rw [hG]; exact GrowRun.start k3' (mv_grow k6 ms) hRf
  have HB1 := Lib.hid b1
  have HM := Lib.hid hM
  have Hn := Lib.hid (show n = (ms.length : Int) by rw [hn, hln])
  have HP := Lib.hid k6
  have HSp := Lib.hid (show ∀ (W : World) (v1 : Value), Ints W v1 D → Calls Try.prog 84 #[.agg #[.int .i64 p, .int .i64 rs, .int .i64 s, v1]] W (RetMat W p R0.length s (flat s R0)) from fun W v1 x1 => by
    rw [hR0]
    exact SpanOf_any p rs s v1 D W x1 iS i1 i2 k6 iR)
  have B1 := Lib.hid b1
  have B2 := Lib.hid b2
  clear b0 b1 b2 hL hG hR0 hRf hWr iR iS hn hln hs hA hM ecs k3' k4 k6
  go_enter Try.func53, Try.ntmps53
  go_upto_region 1 with fail
  have g0 := h1.drew
  refine wp_region_held_drew (S := fun w' => (w'.cell? ⟨w.heap.size, 0, none⟩ = some (.int .i64 p) ∧ w'.cell? ⟨w.heap.size, 1, none⟩ = some (.int .i64 n) ∧ w'.cell? ⟨w.heap.size, 2, none⟩ = some (.slice A T.length k)) ∧ (w'.cell? ⟨w.heap.size + 1, 0, none⟩ = some (.int .i64 p) ∧ w'.cell? ⟨w.heap.size + 1, 1, none⟩ = some (.int .i64 rs) ∧ w'.cell? ⟨w.heap.size + 1, 2, none⟩ = some (.int .i64 s) ∧ w'.cell? ⟨w.heap.size + 1, 3, none⟩ = some (.slice A3 D.length k3)) ∧ w'.cell? ⟨b, off + 1, none⟩ = some (.int .i64 s)) (by kernel_rfl) ⟨g0.box3 3 rfl, g0.box4 2 rfl, g0.fact 0 rfl⟩ (fun hHeld => ?_)
  refine anyH_take (v := ?_) 0 rfl (by kernel_rfl) (by kernel_rfl) (by kernel_rfl) (fun _ _ _ h => h) rfl ?_ hHeld ?_
  rotate_left
  · intro w' hSw
    go_simp
    try with_reducible rfl
  try simp only [Act.put, List.setIfInBounds_toArray, List.set_cons_zero, List.set_cons_succ]
  refine anyH_take (v := ?_) 1 rfl (by kernel_rfl) (by kernel_rfl) (by kernel_rfl) (fun _ _ _ h => h) rfl ?_ hHeld ?_
  rotate_left
  · intro w' hSw
    go_simp
    try with_reducible rfl
  try simp only [Act.put, List.setIfInBounds_toArray, List.set_cons_zero, List.set_cons_succ]
  refine wpAnyH_ready (rs := [2]) (by kernel_rfl) (by simp) ?_
  refine ready_cons rfl (fun K hK => ?_) AllReadyH.nil
  go_simp
  refine (HI.out _ (g0.roInts 6 rfl) (g0.fact 4 rfl)).mono ?_
  rintro (e : Ending) w1 ⟨rfl, hb1⟩
  have g1 := g0.on hb1
  rw [B1.out]
  clear hb1
  show K _ _
  refine hK.out _ _ ?_ (fun hHeld => ?_)
  · exact ⟨g1.box3 3 rfl, g1.box4 2 rfl, g1.fact 0 rfl⟩
  clear hK K
  try simp only [Act.put, List.setIfInBounds_toArray, List.set_cons_zero, List.set_cons_succ]
  refine anyH_take (v := ?_) 3 rfl (by kernel_rfl) (by kernel_rfl) (by kernel_rfl) (fun _ _ _ h => h) rfl ?_ hHeld ?_
  rotate_left
  · intro w' hSw
    go_simp
    try with_reducible rfl
  try simp only [Act.put, List.setIfInBounds_toArray, List.set_cons_zero, List.set_cons_succ]
  refine anyH_take (v := ?_) 4 rfl (by kernel_rfl) (by kernel_rfl) (by kernel_rfl) (fun _ _ _ h => h) rfl ?_ hHeld ?_
  rotate_left
  · intro w' hSw
    go_simp
    try with_reducible rfl
  try simp only [Act.put, List.setIfInBounds_toArray, List.set_cons_zero, List.set_cons_succ]
  refine anyH_take (v := ?_) 5 rfl (by kernel_rfl) (by kernel_rfl) (by kernel_rfl) (fun _ _ _ h => h) rfl ?_ hHeld ?_
  rotate_left
  · intro w' hSw
    go_simp
    try with_reducible rfl
  try simp only [Act.put, List.setIfInBounds_toArray, List.set_cons_zero, List.set_cons_succ]
  refine wpAnyH_ready (rs := [6]) (by kernel_rfl) (by simp) ?_
  refine ready_cons rfl (fun K hK => ?_) AllReadyH.nil
  go_simp
  refine (HMk.out _ (g1.roInts 5 rfl)).mono ?_
  rintro (e : Ending) w2 ⟨rfl, hb1⟩
  have g2 := g1.on hb1
  rw [B2.out]
  clear hb1
  show K _ _
  refine hK.out _ _ ?_ (fun hHeld => ?_)
  · exact ⟨g2.box3 3 rfl, g2.box4 2 rfl, g2.fact 0 rfl⟩
  clear hK K
  try simp only [Act.put, List.setIfInBounds_toArray, List.set_cons_zero, List.set_cons_succ]
  refine anyH_take (v := ?_) 7 rfl (by kernel_rfl) (by kernel_rfl) (by kernel_rfl) (fun _ _ _ h => h) rfl ?_ hHeld ?_
  rotate_left
  · intro w' hSw
    go_simp
    try with_reducible rfl
  try simp only [Act.put, List.setIfInBounds_toArray, List.set_cons_zero, List.set_cons_succ]
  refine anyH_take (v := ?_) 8 rfl (by kernel_rfl) (by kernel_rfl) (by kernel_rfl) (fun _ _ _ h => h) rfl ?_ hHeld ?_
  rotate_left
  · intro w' hSw
    go_simp
    try with_reducible rfl
  try simp only [Act.put, List.setIfInBounds_toArray, List.set_cons_zero, List.set_cons_succ]
  refine anyH_take (v := ?_) 9 rfl (by kernel_rfl) (by kernel_rfl) (by kernel_rfl) (fun _ _ _ h => h) rfl ?_ hHeld ?_
  rotate_left
  · intro w' hSw
    go_simp
    try with_reducible rfl
  try simp only [Act.put, List.setIfInBounds_toArray, List.set_cons_zero, List.set_cons_succ]
  refine anyH_take (v := ?_) 10 rfl (by kernel_rfl) (by kernel_rfl) (by kernel_rfl) (fun _ _ _ h => h) rfl ?_ hHeld ?_
  rotate_left
  · intro w' hSw
    go_simp
    try with_reducible rfl
  try simp only [Act.put, List.setIfInBounds_toArray, List.set_cons_zero, List.set_cons_succ]
  refine anyH_take (v := ?_) 11 rfl (by kernel_rfl) (by kernel_rfl) (by kernel_rfl) (fun _ _ _ h => h) rfl ?_ hHeld ?_
  rotate_left
  · intro w' hSw
    go_simp
    try with_reducible rfl
  try simp only [Act.put, List.setIfInBounds_toArray, List.set_cons_zero, List.set_cons_succ]
  refine anyH_take (v := ?_) 12 rfl (by kernel_rfl) (by kernel_rfl) (by kernel_rfl) (fun _ _ _ h => h) rfl ?_ hHeld ?_
  rotate_left
  · intro w' hSw
    go_simp
    try with_reducible rfl
  try simp only [Act.put, List.setIfInBounds_toArray, List.set_cons_zero, List.set_cons_succ]
  refine anyH_take (v := ?_) 13 rfl (by kernel_rfl) (by kernel_rfl) (by kernel_rfl) (fun _ _ _ h => h) rfl ?_ hHeld ?_
  rotate_left
  · intro w' hSw
    go_simp
    try with_reducible rfl
  try simp only [Act.put, List.setIfInBounds_toArray, List.set_cons_zero, List.set_cons_succ]
  refine anyH_take (v := ?_) 14 rfl (by kernel_rfl) (by kernel_rfl) (by kernel_rfl) (fun _ _ _ h => h) rfl ?_ hHeld ?_
  rotate_left
  · intro w' hSw
    go_simp
    try with_reducible rfl
  try simp only [Act.put, List.setIfInBounds_toArray, List.set_cons_zero, List.set_cons_succ]
  refine anyH_take (v := ?_) 15 rfl (by kernel_rfl) (by kernel_rfl) (by kernel_rfl) (fun _ _ _ h => h) rfl ?_ hHeld ?_
  rotate_left
  · intro w' hSw
    go_simp
    try with_reducible rfl
  try simp only [Act.put, List.setIfInBounds_toArray, List.set_cons_zero, List.set_cons_succ]
  refine anyH_take (v := ?_) 16 rfl (by kernel_rfl) (by kernel_rfl) (by kernel_rfl) (fun _ _ _ h => h) rfl ?_ hHeld ?_
  rotate_left
  · intro w' hSw
    go_simp
    try with_reducible rfl
  try simp only [Act.put, List.setIfInBounds_toArray, List.set_cons_zero, List.set_cons_succ]
  refine anyH_take (v := ?_) 17 rfl (by kernel_rfl) (by kernel_rfl) (by kernel_rfl) (fun _ _ _ h => h) rfl ?_ hHeld ?_
  rotate_left
  · intro w' hSw
    go_simp
    try with_reducible rfl
  try simp only [Act.put, List.setIfInBounds_toArray, List.set_cons_zero, List.set_cons_succ]
  refine anyH_take (v := ?_) 18 rfl (by kernel_rfl) (by kernel_rfl) (by kernel_rfl) (fun _ _ _ h => h) rfl ?_ hHeld ?_
  rotate_left
  · intro w' hSw
    go_simp
    try with_reducible rfl
  try simp only [Act.put, List.setIfInBounds_toArray, List.set_cons_zero, List.set_cons_succ]
  refine anyH_take (v := ?_) 19 rfl (by kernel_rfl) (by kernel_rfl) (by kernel_rfl) (fun _ _ _ h => h) rfl ?_ hHeld ?_
  rotate_left
  · intro w' hSw
    go_simp
    try with_reducible rfl
  try simp only [Act.put, List.setIfInBounds_toArray, List.set_cons_zero, List.set_cons_succ]
  refine anyH_take (v := ?_) 20 rfl (by kernel_rfl) (by kernel_rfl) (by kernel_rfl) (fun _ _ _ h => h) rfl ?_ hHeld ?_
  rotate_left
  · intro w' hSw
    go_simp
    try with_reducible rfl
  try simp only [Act.put, List.setIfInBounds_toArray, List.set_cons_zero, List.set_cons_succ]
  refine anyH_take (v := ?_) 21 rfl (by kernel_rfl) (by kernel_rfl) (by kernel_rfl) (fun _ _ _ h => h) rfl ?_ hHeld ?_
  rotate_left
  · intro w' hSw
    go_simp
    try with_reducible rfl
  try simp only [Act.put, List.setIfInBounds_toArray, List.set_cons_zero, List.set_cons_succ]
  refine anyH_take (v := ?_) 22 rfl (by kernel_rfl) (by kernel_rfl) (by kernel_rfl) (fun _ _ _ h => h) rfl ?_ hHeld ?_
  rotate_left
  · intro w' hSw
    go_simp
    try with_reducible rfl
  try simp only [Act.put, List.setIfInBounds_toArray, List.set_cons_zero, List.set_cons_succ]
  refine anyH_take (v := ?_) 23 rfl (by kernel_rfl) (by kernel_rfl) (by kernel_rfl) (fun _ _ _ h => h) rfl ?_ hHeld ?_
  rotate_left
  · intro w' hSw
    go_simp
    try with_reducible rfl
  try simp only [Act.put, List.setIfInBounds_toArray, List.set_cons_zero, List.set_cons_succ]
  refine anyH_take (v := ?_) 24 rfl (by kernel_rfl) (by kernel_rfl) (by kernel_rfl) (fun _ _ _ h => h) rfl ?_ hHeld ?_
  rotate_left
  · intro w' hSw
    go_simp
    try with_reducible rfl
  try simp only [Act.put, List.setIfInBounds_toArray, List.set_cons_zero, List.set_cons_succ]
  refine wpAnyH_done (by kernel_rfl) ?_ _
  clear hHeld
  replace h1 := g2.drop 1
  clear g0 g1 g2
  obtain ⟨x0, x1, x2, x3⟩ := h1.box4 1 rfl
  go_wp2_with fail
  refine (HSp.out _ _ (h1.roInts 4 rfl)).mono ?_
  rintro (e : Ending) w5 ⟨u5, rfl, ho5, hb5⟩
  obtain ⟨A6, n6, c6, rfl⟩ := ho5.slice
  have h3 := (h1.pushOwn hb5 ho5).box [.int .i64 p, .int .i64 R0.length, .int .i64 s, .slice A6 n6 c6] 32
  clear x0 x1 x2 x3 ho5 hb5
  go_wp2
  generalize w5.heap.size = Bs at h3 ⊢
  go_loopg [] (s - R0.length) (fun gk wr => ∃ (R : List (List Int)) (Ad : Option Addr) (nd cd : Nat), Hid (s - R.length = gk) ∧ Hid (GrowRun p s (mvNext p s ms) R G) ∧ St w wr [.box Bs [.int .i64 p, .int .i64 R.length, .int .i64 s, .slice Ad nd cd], .own (.slice Ad nd cd) (flat s R), .box (w.heap.size + 1 + 1) [.int .i64 0, .int .i64 0, .int .i64 0, .slice none 0 0], .box (w.heap.size + 1) [.int .i64 p, .int .i64 rs, .int .i64 s, .slice A3 D.length k3], .box w.heap.size [.int .i64 p, .int .i64 n, .slice A T.length k], .fact (fun w' => MatsR w' (.slice (some ⟨b, off, none⟩) ms.length k2) ms), .ro (.slice A3 D.length k3) D, .ro (.slice A T.length k) T])
  case atStart => exact ⟨R0, A6, n6, c6, rfl, HGr, h3⟩
  case round =>
    clear h3 h1
    obtain ⟨R, Ad, nd, cd, hlg, HR, h3⟩ := hrel
    obtain ⟨a, ha⟩ := HR.out.1
    have hRs := rf_le_n (isPrime_bd HP.out).1 ha
    obtain ⟨r, hr⟩ : ∃ r, r = R.length := ⟨_, rfl⟩
    obtain ⟨E, hE⟩ : ∃ E, E = flat s R := ⟨_, rfl⟩
    have hEl := length_flat s R
    rw [← hE, ← hr] at hEl
    rw [← hr, ← hE] at h3
    have Hr := Lib.hid hr
    have HE := Lib.hid hE
    have HEl := Lib.hid hEl
    have HRf := Lib.hid ha
    have hrs : r ≤ s := by omega
    clear hr hE hEl ha hRs
    have h4 := (h3.box [.int .i64 p, .int .i64 r, .int .i64 s, .slice Ad nd cd] 32)
    obtain ⟨x0, x1, x2, x3⟩ := h3.box4 0 rfl
    obtain ⟨OL, hOL, h4⟩ : ∃ OL, OL = _ ∧ St w _ (.box wr.heap.size [.int .i64 p, .int .i64 r, .int .i64 s, .slice Ad nd cd] :: OL) := ⟨_, rfl, h4⟩
    go_wp2
    generalize wr.heap.size = Bn at h4 ⊢
    clear x0 x1 x2 x3 h3
    go_loopw [43] (fun v43 wr => ∃ (i : Nat) (Ae : Option Addr) (ne ce : Nat), v43 = .int .i64 i ∧ i ≤ ms.length ∧ ∃ x : It, ((i = 0 ∧ Ae = Ad ∧ ne = nd ∧ ce = cd ∧ x = .fact fun _ => True) ∨ x = .own (.slice Ae ne ce) (flat s (mvTo p s ms R i))) ∧ St w wr (.box Bn [.int .i64 p, .int .i64 (mvTo p s ms R i).length, .int .i64 s, .slice Ae ne ce] :: x :: OL)) (fun v43 _ => ms.length - (intOf v43).toNat)
    case atStart =>
      refine ⟨0, Ad, nd, cd, rfl, by omega, _, .inl ⟨rfl, rfl, rfl, rfl, rfl⟩, ?_⟩
      show St w _ (.box Bn [.int .i64 p, .int .i64 R.length, .int .i64 s, .slice Ad nd cd] :: _)
      rw [← Hr.out]
      exact (h4.pushFact (R := fun _ => True) fun _ _ => trivial).swap2
    case round =>
      clear h4
      obtain ⟨i, Ae, ne, ce, rfl, a1, x, hx, h4⟩ := hrel
      have hin : Ints wr (.slice Ae ne ce) (flat s (mvTo p s ms R i)) := (by
        rcases hx with ⟨rfl, rfl, rfl, rfl, rfl⟩ | rfl
        · subst hOL
          have := h4.ownInts 3 rfl
          rw [HE.out] at this
          exact this
        · exact h4.ownInts 1 rfl)
      by_cases hi : i < ms.length
      · obtain ⟨b', off', A9, c9, hbA, hm⟩ := HV.out.at (i := i) hi
        simp only [Option.some.injEq, Addr.mk.injEq, and_true] at hbA
        obtain ⟨rfl, rfl⟩ := hbA
        rw [mAt_get hi] at hm
        obtain ⟨u1, u2, u3, u4, u5⟩ := HM.out i hi
        obtain ⟨b1, b2⟩ := isPrime_bd HP.out
        obtain ⟨b3, hb3⟩ := mvTo_rf HP.out ms HRf.out i
        have hMn := rf_le_n b1 hb3
        have hSW := Wf_mulR b1 s R (mAt ms i)
        have hSl := length_mulR p s R (mAt ms i)
        have hQf := spanL_rf HP.out hSW
        have hst : mvTo p s ms R (i + 1) = spanL p s (mvTo p s ms R i ++ spanL p s (mulR p s R (mAt ms i))) := by rw [spanL_app_span HP.out hb3.wf hSW]; rfl
        have hmr : mulR p s R (mAt ms i) = rowsM R.length s (mulD p R.length s s (flat s R) (mAt ms i).d) := rfl
        obtain ⟨M9, hM9⟩ : ∃ M9, M9 = (mAt ms i).d := ⟨_, rfl⟩
        have hmf : MtAt w b (off + i * 4) ⟨p, s, s, M9⟩ (.slice A9 M9.length c9) := by unfold MtAt at hm ⊢; rw [u1, u2, u3, ← hM9] at hm; exact hm
        rw [← hM9] at u4 u5 hmr
        have h5 := h4.pushOld hmf.fact
        obtain ⟨S1, hS1⟩ : ∃ S1, S1 = mulR p s R (mAt ms i) := ⟨_, rfl⟩
        obtain ⟨M, hMM⟩ : ∃ M, M = mvTo p s ms R i := ⟨_, rfl⟩
        obtain ⟨M2, hM2⟩ : ∃ M2, M2 = mvTo p s ms R (i + 1) := ⟨_, rfl⟩
        rw [← hS1] at hSW hSl hst hmr hQf
        rw [← hMM] at hst hb3 hMn hin h5
        rw [← hM2] at hst
        obtain ⟨Q, hQ⟩ : ∃ Q, Q = spanL p s S1 := ⟨_, rfl⟩
        rw [← hQ] at hst hQf
        rw [← Hr.out, ← HE.out] at hmr
        obtain ⟨P9, hP9⟩ : ∃ P9, P9 = mulD p r s s E M9 := ⟨_, rfl⟩
        have hPl : P9.length = r * s := by rw [hP9, length_mulD]
        have hPr : resid p P9 = true := by rw [hP9]; exact resid_mulD b1 _ _ _ _ _
        have HMul := Lib.hid (show ∀ (W : World) (v1 : Value), Ints W v1 E → Ints W (.slice A9 M9.length c9) M9 → Calls Try.prog 99 #[.agg #[.int .i64 p, .int .i64 r, .int .i64 s, v1], .agg #[.int .i64 p, .int .i64 s, .int .i64 s, .slice A9 M9.length c9]] W (RetMat W p r s P9) from fun W v1 x1 x2 => by
          rw [hP9]
          exact times_any p p s r s s _ _ E M9 W x1 x2 HEl.out u4 (by omega) (by omega) (by omega) b1 b2 (by rw [HE.out]; exact resid_flat (by omega) HRf.out.wf) u5)
        have HS := Lib.hid (show ∀ (W : World) (v1 : Value), Ints W v1 P9 → Calls Try.prog 84 #[.agg #[.int .i64 p, .int .i64 r, .int .i64 s, v1]] W (RetMat W p Q.length s (flat s Q)) from fun W v1 x1 => by
          have := SpanOf_any p r s v1 P9 W x1 hPl (by omega) (by omega) HP.out hPr
          rw [hP9, ← hmr, ← hQ] at this
          exact this)
        have HJ := Lib.hid (show ∀ (W : World) (v1 v2 : Value), Ints W v1 (flat s M) → Ints W v2 (flat s Q) → Calls Try.prog 100 #[.agg #[.int .i64 p, .int .i64 M.length, .int .i64 s, v1], .agg #[.int .i64 p, .int .i64 Q.length, .int .i64 s, v2]] W (RetMatB W p M2.length s (flat s M2) true) from fun W v1 v2 x1 x2 => by
          rw [hst]
          exact SumSpaces_any p s v1 v2 M Q W x1 x2 hb3 hQf (by omega) HP.out)
        have HM2 := Lib.hid hM2
        have HMM := Lib.hid hMM
        have iM : (i : Int) < (ms.length : Int) := by omega
        clear hm hmf u1 u2 u3 u4 u5 hb3 hMn hSW hSl hst hS1 hMM hM2 h4 b1 b2 hQ hQf hmr hM9 hP9 hPl hPr
        obtain ⟨q0, q1, q2, q3, _⟩ := h5.fact 0 rfl
        have h6 := h5.box [.int .i64 p, .int .i64 s, .int .i64 s, .slice A9 M9.length c9] 32
        go_upto_region 8 with fail
        clear q0 q1 q2 q3
        generalize hBx : wr.heap.size = Bx at h6 ⊢
        clear hBx
        subst hOL
        have g0 := h6.drew
        have hin0 : Ints (wr.alloc (.cells #[.int .i64 p, .int .i64 s, .int .i64 s, .slice A9 M9.length c9] 32)).drew (.slice Ae ne ce) (flat s M) := (by
          rw [← HMM.out] at hx
          rcases hx with ⟨h0, rfl, rfl, rfl, rfl⟩ | rfl
          · have := g0.ownInts 5 rfl
            rw [HE.out] at this
            rw [HMM.out, h0]
            exact this
          · exact g0.ownInts 3 rfl)
        clear h5 h6
        refine wp_region_held_drew (S := fun w' => (w'.cell? ⟨Bs, 0, none⟩ = some (.int .i64 p) ∧ w'.cell? ⟨Bs, 1, none⟩ = some (.int .i64 r) ∧ w'.cell? ⟨Bs, 2, none⟩ = some (.int .i64 s) ∧ w'.cell? ⟨Bs, 3, none⟩ = some (.slice Ad nd cd)) ∧ w'.cell? ⟨Bx, 0, none⟩ = some (.int .i64 p) ∧ w'.cell? ⟨Bx, 1, none⟩ = some (.int .i64 s) ∧ w'.cell? ⟨Bx, 2, none⟩ = some (.int .i64 s) ∧ w'.cell? ⟨Bx, 3, none⟩ = some (.slice A9 M9.length c9)) (by kernel_rfl) ⟨g0.box4 4 rfl, g0.box4 0 rfl⟩ (fun hHeld => ?_)
        refine anyH_take (v := ?_) 1 rfl (by kernel_rfl) (by kernel_rfl) (by kernel_rfl) (fun _ _ _ h => h) rfl ?_ hHeld ?_
        rotate_left
        · intro w' hSw
          go_simp
          try with_reducible rfl
        try simp only [Act.put, List.setIfInBounds_toArray, List.set_cons_zero, List.set_cons_succ]
        refine anyH_take (v := ?_) 2 rfl (by kernel_rfl) (by kernel_rfl) (by kernel_rfl) (fun _ _ _ h => h) rfl ?_ hHeld ?_
        rotate_left
        · intro w' hSw
          go_simp
          try with_reducible rfl
        try simp only [Act.put, List.setIfInBounds_toArray, List.set_cons_zero, List.set_cons_succ]
        refine wpAnyH_ready (rs := [0, 3]) (by kernel_rfl) (by simp) ?_
        refine ready_cons rfl (fun K hK => ?_) (ready_cons rfl (fun K hK => ?_) AllReadyH.nil)
        · obtain ⟨p0, p1, p2, p3⟩ := g0.box4 2 rfl
          go_simp
          refine hK.out _ _ ?_ (fun hHeld => ?_)
          · exact ⟨g0.box4 4 rfl, g0.box4 0 rfl⟩
          clear hK K p0 p1 p2 p3
          try simp only [Act.put, List.setIfInBounds_toArray, List.set_cons_zero, List.set_cons_succ]
          refine wpAnyH_ready (rs := [3]) (by kernel_rfl) (by simp) ?_
          refine ready_cons rfl (fun K hK => ?_) AllReadyH.nil
          go_simp
          refine (HMul.out _ _ (g0.ownInts 5 rfl) (g0.fact 1 rfl).2.2.2.2).mono ?_
          rintro (e : Ending) w6 ⟨u6, rfl, ho6, hb6⟩
          obtain ⟨A7, n7, c7, rfl⟩ := ho6.slice
          have g1 := g0.pushOwn hb6 ho6
          have hin1 := hin0.below hb6
          show K _ _
          refine hK.out _ _ ?_ (fun hHeld => ?_)
          · exact ⟨g1.box4 5 rfl, g1.box4 1 rfl⟩
          clear hK K
          try simp only [Act.put, List.setIfInBounds_toArray, List.set_cons_zero, List.set_cons_succ]
          refine wpAnyH_ready (rs := [4]) (by kernel_rfl) (by simp) ?_
          refine ready_cons rfl (fun K hK => ?_) AllReadyH.nil
          go_simp
          refine (HS.out _ _ (g1.ownInts 0 rfl)).mono ?_
          rintro (e : Ending) w7 ⟨u7, rfl, ho7, hb7⟩
          obtain ⟨A8, n8, c8, rfl⟩ := ho7.slice
          have g2 := g1.pushOwn hb7 ho7
          have hin2 := hin1.below hb7
          show K _ _
          refine hK.out _ _ ?_ (fun hHeld => ?_)
          · exact ⟨g2.box4 6 rfl, g2.box4 2 rfl⟩
          clear hK K
          try simp only [Act.put, List.setIfInBounds_toArray, List.set_cons_zero, List.set_cons_succ]
          refine wpAnyH_ready (rs := [5]) (by kernel_rfl) (by simp) ?_
          refine ready_cons rfl (fun K hK => ?_) AllReadyH.nil
          go_simp
          refine (HJ.out _ _ _ hin2 (g2.ownInts 0 rfl)).mono ?_
          rintro (e : Ending) w8 ⟨u8, rfl, ho8, hb8⟩
          obtain ⟨A10, n10, c10, rfl⟩ := ho8.slice
          have g3 := g2.pushOwn hb8 ho8
          show K _ _
          refine hK.out _ _ ?_ (fun hHeld => ?_)
          · exact ⟨g3.box4 7 rfl, g3.box4 3 rfl⟩
          clear hK K
          try simp only [Act.put, List.setIfInBounds_toArray, List.set_cons_zero, List.set_cons_succ]
          refine anyH_take (v := ?_) 6 rfl (by kernel_rfl) (by kernel_rfl) (by kernel_rfl) (fun _ _ _ h => h) rfl ?_ hHeld ?_
          rotate_left
          · intro w' hSw
            go_simp
            try with_reducible rfl
          try simp only [Act.put, List.setIfInBounds_toArray, List.set_cons_zero, List.set_cons_succ]
          refine anyH_take (v := ?_) 7 rfl (by kernel_rfl) (by kernel_rfl) (by kernel_rfl) (fun _ _ _ h => h) rfl ?_ hHeld ?_
          rotate_left
          · intro w' hSw
            go_simp
            try with_reducible rfl
          try simp only [Act.put, List.setIfInBounds_toArray, List.set_cons_zero, List.set_cons_succ]
          refine anyH_take (v := ?_) 8 rfl (by kernel_rfl) (by kernel_rfl) (by kernel_rfl) (fun _ _ _ h => h) rfl ?_ hHeld ?_
          rotate_left
          · intro w' hSw
            go_simp
            try with_reducible rfl
          try simp only [Act.put, List.setIfInBounds_toArray, List.set_cons_zero, List.set_cons_succ]
          obtain ⟨p0, p1, p2, p3⟩ := g3.box4 5 rfl
          have f0 := g3.free 5 rfl 0
          have f1 := g3.free 5 rfl 1
          have f2 := g3.free 5 rfl 2
          have f3 := g3.free 5 rfl 3
          have h7 := (((g3.setBox 5 rfl 0 (.int .i64 p)).setBox 5 rfl 1 (.int .i64 M2.length)).setBox 5 rfl 2 (.int .i64 s)).setBox 5 rfl 3 (.slice A10 n10 c10)
          refine wpAnyH_ready (rs := [9]) (by kernel_rfl) (by simp) ?_
          refine ready_cons rfl (fun K hK => ?_) AllReadyH.nil
          go_simp
          refine hK.out _ _ ?_ (fun hHeld => ?_)
          · exact ⟨h7.box4 7 rfl, h7.box4 3 rfl⟩
          clear hK K
          try simp only [Act.put, List.setIfInBounds_toArray, List.set_cons_zero, List.set_cons_succ]
          refine wpAnyH_done (by kernel_rfl) ?_ _
          clear hHeld p0 p1 p2 p3 f0 f1 f2 f3 g0 g1 g2 g3 hin hin0 hin1 hin2 hx
          go_wp2
          go_roundw
          case rel => exact ⟨i + 1, A10, n10, c10, by go_num, by omega, _, .inr rfl, by rw [← HM2.out]; exact (((((h7.rid 6).rid 4).rid 3).rid 2).rid 1).toFront 1 rfl⟩
          case measure => simp [intOf]; omega
        · go_simp
          refine (HMul.out _ _ (g0.ownInts 5 rfl) (g0.fact 1 rfl).2.2.2.2).mono ?_
          rintro (e : Ending) w6 ⟨u6, rfl, ho6, hb6⟩
          obtain ⟨A7, n7, c7, rfl⟩ := ho6.slice
          have g1 := g0.pushOwn hb6 ho6
          have hin1 := hin0.below hb6
          show K _ _
          refine hK.out _ _ ?_ (fun hHeld => ?_)
          · exact ⟨g1.box4 5 rfl, g1.box4 1 rfl⟩
          clear hK K
          try simp only [Act.put, List.setIfInBounds_toArray, List.set_cons_zero, List.set_cons_succ]
          refine wpAnyH_ready (rs := [0, 4]) (by kernel_rfl) (by simp) ?_
          refine ready_cons rfl (fun K hK => ?_) (ready_cons rfl (fun K hK => ?_) AllReadyH.nil)
          · obtain ⟨p0, p1, p2, p3⟩ := g1.box4 3 rfl
            go_simp
            refine hK.out _ _ ?_ (fun hHeld => ?_)
            · exact ⟨g1.box4 5 rfl, g1.box4 1 rfl⟩
            clear hK K p0 p1 p2 p3
            try simp only [Act.put, List.setIfInBounds_toArray, List.set_cons_zero, List.set_cons_succ]
            refine wpAnyH_ready (rs := [4]) (by kernel_rfl) (by simp) ?_
            refine ready_cons rfl (fun K hK => ?_) AllReadyH.nil
            go_simp
            refine (HS.out _ _ (g1.ownInts 0 rfl)).mono ?_
            rintro (e : Ending) w7 ⟨u7, rfl, ho7, hb7⟩
            obtain ⟨A8, n8, c8, rfl⟩ := ho7.slice
            have g2 := g1.pushOwn hb7 ho7
            have hin2 := hin1.below hb7
            show K _ _
            refine hK.out _ _ ?_ (fun hHeld => ?_)
            · exact ⟨g2.box4 6 rfl, g2.box4 2 rfl⟩
            clear hK K
            try simp only [Act.put, List.setIfInBounds_toArray, List.set_cons_zero, List.set_cons_succ]
            refine wpAnyH_ready (rs := [5]) (by kernel_rfl) (by simp) ?_
            refine ready_cons rfl (fun K hK => ?_) AllReadyH.nil
            go_simp
            refine (HJ.out _ _ _ hin2 (g2.ownInts 0 rfl)).mono ?_
            rintro (e : Ending) w8 ⟨u8, rfl, ho8, hb8⟩
            obtain ⟨A10, n10, c10, rfl⟩ := ho8.slice
            have g3 := g2.pushOwn hb8 ho8
            show K _ _
            refine hK.out _ _ ?_ (fun hHeld => ?_)
            · exact ⟨g3.box4 7 rfl, g3.box4 3 rfl⟩
            clear hK K
            try simp only [Act.put, List.setIfInBounds_toArray, List.set_cons_zero, List.set_cons_succ]
            refine anyH_take (v := ?_) 6 rfl (by kernel_rfl) (by kernel_rfl) (by kernel_rfl) (fun _ _ _ h => h) rfl ?_ hHeld ?_
            rotate_left
            · intro w' hSw
              go_simp
              try with_reducible rfl
            try simp only [Act.put, List.setIfInBounds_toArray, List.set_cons_zero, List.set_cons_succ]
            refine anyH_take (v := ?_) 7 rfl (by kernel_rfl) (by kernel_rfl) (by kernel_rfl) (fun _ _ _ h => h) rfl ?_ hHeld ?_
            rotate_left
            · intro w' hSw
              go_simp
              try with_reducible rfl
            try simp only [Act.put, List.setIfInBounds_toArray, List.set_cons_zero, List.set_cons_succ]
            refine anyH_take (v := ?_) 8 rfl (by kernel_rfl) (by kernel_rfl) (by kernel_rfl) (fun _ _ _ h => h) rfl ?_ hHeld ?_
            rotate_left
            · intro w' hSw
              go_simp
              try with_reducible rfl
            try simp only [Act.put, List.setIfInBounds_toArray, List.set_cons_zero, List.set_cons_succ]
            obtain ⟨p0, p1, p2, p3⟩ := g3.box4 5 rfl
            have f0 := g3.free 5 rfl 0
            have f1 := g3.free 5 rfl 1
            have f2 := g3.free 5 rfl 2
            have f3 := g3.free 5 rfl 3
            have h7 := (((g3.setBox 5 rfl 0 (.int .i64 p)).setBox 5 rfl 1 (.int .i64 M2.length)).setBox 5 rfl 2 (.int .i64 s)).setBox 5 rfl 3 (.slice A10 n10 c10)
            refine wpAnyH_ready (rs := [9]) (by kernel_rfl) (by simp) ?_
            refine ready_cons rfl (fun K hK => ?_) AllReadyH.nil
            go_simp
            refine hK.out _ _ ?_ (fun hHeld => ?_)
            · exact ⟨h7.box4 7 rfl, h7.box4 3 rfl⟩
            clear hK K
            try simp only [Act.put, List.setIfInBounds_toArray, List.set_cons_zero, List.set_cons_succ]
            refine wpAnyH_done (by kernel_rfl) ?_ _
            clear hHeld p0 p1 p2 p3 f0 f1 f2 f3 g0 g1 g2 g3 hin hin0 hin1 hin2 hx
            go_wp2
            go_roundw
            case rel => exact ⟨i + 1, A10, n10, c10, by go_num, by omega, _, .inr rfl, by rw [← HM2.out]; exact (((((h7.rid 6).rid 4).rid 3).rid 2).rid 1).toFront 1 rfl⟩
            case measure => simp [intOf]; omega
          · go_simp
            refine (HS.out _ _ (g1.ownInts 0 rfl)).mono ?_
            rintro (e : Ending) w7 ⟨u7, rfl, ho7, hb7⟩
            obtain ⟨A8, n8, c8, rfl⟩ := ho7.slice
            have g2 := g1.pushOwn hb7 ho7
            have hin2 := hin1.below hb7
            show K _ _
            refine hK.out _ _ ?_ (fun hHeld => ?_)
            · exact ⟨g2.box4 6 rfl, g2.box4 2 rfl⟩
            clear hK K
            try simp only [Act.put, List.setIfInBounds_toArray, List.set_cons_zero, List.set_cons_succ]
            refine wpAnyH_ready (rs := [0]) (by kernel_rfl) (by simp) ?_
            refine ready_cons rfl (fun K hK => ?_) AllReadyH.nil
            obtain ⟨p0, p1, p2, p3⟩ := g2.box4 4 rfl
            go_simp
            refine hK.out _ _ ?_ (fun hHeld => ?_)
            · exact ⟨g2.box4 6 rfl, g2.box4 2 rfl⟩
            clear hK K p0 p1 p2 p3
            try simp only [Act.put, List.setIfInBounds_toArray, List.set_cons_zero, List.set_cons_succ]
            refine wpAnyH_ready (rs := [5]) (by kernel_rfl) (by simp) ?_
            refine ready_cons rfl (fun K hK => ?_) AllReadyH.nil
            go_simp
            refine (HJ.out _ _ _ hin2 (g2.ownInts 0 rfl)).mono ?_
            rintro (e : Ending) w8 ⟨u8, rfl, ho8, hb8⟩
            obtain ⟨A10, n10, c10, rfl⟩ := ho8.slice
            have g3 := g2.pushOwn hb8 ho8
            show K _ _
            refine hK.out _ _ ?_ (fun hHeld => ?_)
            · exact ⟨g3.box4 7 rfl, g3.box4 3 rfl⟩
            clear hK K
            try simp only [Act.put, List.setIfInBounds_toArray, List.set_cons_zero, List.set_cons_succ]
            refine anyH_take (v := ?_) 6 rfl (by kernel_rfl) (by kernel_rfl) (by kernel_rfl) (fun _ _ _ h => h) rfl ?_ hHeld ?_
            rotate_left
            · intro w' hSw
              go_simp
              try with_reducible rfl
            try simp only [Act.put, List.setIfInBounds_toArray, List.set_cons_zero, List.set_cons_succ]
            refine anyH_take (v := ?_) 7 rfl (by kernel_rfl) (by kernel_rfl) (by kernel_rfl) (fun _ _ _ h => h) rfl ?_ hHeld ?_
            rotate_left
            · intro w' hSw
              go_simp
              try with_reducible rfl
            try simp only [Act.put, List.setIfInBounds_toArray, List.set_cons_zero, List.set_cons_succ]
            refine anyH_take (v := ?_) 8 rfl (by kernel_rfl) (by kernel_rfl) (by kernel_rfl) (fun _ _ _ h => h) rfl ?_ hHeld ?_
            rotate_left
            · intro w' hSw
              go_simp
              try with_reducible rfl
            try simp only [Act.put, List.setIfInBounds_toArray, List.set_cons_zero, List.set_cons_succ]
            obtain ⟨p0, p1, p2, p3⟩ := g3.box4 5 rfl
            have f0 := g3.free 5 rfl 0
            have f1 := g3.free 5 rfl 1
            have f2 := g3.free 5 rfl 2
            have f3 := g3.free 5 rfl 3
            have h7 := (((g3.setBox 5 rfl 0 (.int .i64 p)).setBox 5 rfl 1 (.int .i64 M2.length)).setBox 5 rfl 2 (.int .i64 s)).setBox 5 rfl 3 (.slice A10 n10 c10)
            refine wpAnyH_ready (rs := [9]) (by kernel_rfl) (by simp) ?_
            refine ready_cons rfl (fun K hK => ?_) AllReadyH.nil
            go_simp
            refine hK.out _ _ ?_ (fun hHeld => ?_)
            · exact ⟨h7.box4 7 rfl, h7.box4 3 rfl⟩
            clear hK K
            try simp only [Act.put, List.setIfInBounds_toArray, List.set_cons_zero, List.set_cons_succ]
            refine wpAnyH_done (by kernel_rfl) ?_ _
            clear hHeld p0 p1 p2 p3 f0 f1 f2 f3 g0 g1 g2 g3 hin hin0 hin1 hin2 hx
            go_wp2
            go_roundw
            case rel => exact ⟨i + 1, A10, n10, c10, by go_num, by omega, _, .inr rfl, by rw [← HM2.out]; exact (((((h7.rid 6).rid 4).rid 3).rid 2).rid 1).toFront 1 rfl⟩
            case measure => simp [intOf]; omega
      · obtain rfl : i = ms.length := by omega
        obtain rfl : x = .own (.slice Ae ne ce) (flat s (mvTo p s ms R ms.length)) := (by
          rcases hx with ⟨h0, _⟩ | h0
          · omega
          · exact h0)
        subst hOL
        clear hin hx
        obtain ⟨R2, hR2⟩ : ∃ R2, R2 = mvNext p s ms R := ⟨_, rfl⟩
        rw [show mvTo p s ms R ms.length = R2 from hR2.symm] at h4
        obtain ⟨l2, hl2⟩ : ∃ l2, l2 = R2.length := ⟨_, rfl⟩
        rw [← hl2] at h4
        have HR2 := Lib.hid hR2
        have Hl2 := Lib.hid hl2
        clear hR2 hl2
        obtain ⟨x0, x1, x2, x3⟩ := h4.box4 0 rfl
        obtain ⟨z0, z1, z2, z3⟩ := h4.box4 2 rfl
        by_cases he : l2 = r
        · subst he
          obtain ⟨p0, p1, p2, p3⟩ := h4.box4 4 rfl
          have f0 := h4.free 4 rfl 0
          have f1 := h4.free 4 rfl 1
          have f2 := h4.free 4 rfl 2
          have f3 := h4.free 4 rfl 3
          have h6 := (((h4.setBox 4 rfl 0 (.int .i64 p)).setBox 4 rfl 1 (.int .i64 l2)).setBox 4 rfl 2 (.int .i64 s)).setBox 4 rfl 3 (.slice Ad nd cd)
          obtain ⟨r0, r1, r2, r3⟩ := h6.box4 4 rfl
          go_wp2
          have hlen : (mvNext p s ms R).length = R.length := by rw [← HR2.out, ← Hl2.out, Hr.out]
          have e1 : R = G := HR.out.stop hlen
          rw [← e1, ← Hr.out, ← HE.out]
          refine bodyPost_ret (v := .tuple #[.agg #[.int .i64 p, .int .i64 l2, .int .i64 s, .slice Ad nd cd], .bool true]) (by simp [results, Try.results53, go_sem, r0, r1, r2, r3]) rfl ⟨_, rfl, h6.own 3 rfl, h6.below⟩
        · have e1 : ((l2 : Int) == (r : Int)) = false := by rw [beq_eq_false_iff_ne]; omega
          have e2 : ¬ ((l2 : Int) = (r : Int)) := by omega
          obtain ⟨p0, p1, p2, p3⟩ := h4.box4 2 rfl
          have f0 := h4.free 2 rfl 0
          have f1 := h4.free 2 rfl 1
          have f2 := h4.free 2 rfl 2
          have f3 := h4.free 2 rfl 3
          have h6 := (((h4.setBox 2 rfl 0 (.int .i64 p)).setBox 2 rfl 1 (.int .i64 l2)).setBox 2 rfl 2 (.int .i64 s)).setBox 2 rfl 3 (.slice Ae ne ce)
          obtain ⟨r0, r1, r2, r3⟩ := h6.box4 2 rfl
          go_wp2
          have hnx := HR.out.next (isPrime_bd HP.out).1 (mv_grow HP.out ms) (by rw [← HR2.out, ← Hl2.out, ← Hr.out]; exact he)
          rw [← HR2.out] at hnx
          go_roundg (s - R2.length)
          case measure => have := hlg.out; omega
          case rel => exact ⟨R2, Ae, ne, ce, rfl, hnx.1, by rw [← Hl2.out]; exact (((h6.rid 3).rid 0).toFront 1 rfl)⟩
end Go.Proofs.Ytechjmckfedblaa
