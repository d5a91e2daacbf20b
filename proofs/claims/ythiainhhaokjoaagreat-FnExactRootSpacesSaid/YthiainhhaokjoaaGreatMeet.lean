/- l1Meet of the reference: what two spaces have in common. -/
import Derived.Test.YthiainhhaokjoaaGreatMeetP
import Derived.Test.YthiainhhaokjoaaGreatJoinB
import Derived.Test.YthiainhhaokjoaaGreatKerS
import Derived.Test.YthiainhhaokjoaaGreatRegX
namespace Go.Proofs.YthiainhhaokjoaaGreat
set_option maxRecDepth 100000
open Go.RowKit

set_option maxHeartbeats 1000000 in
theorem l1Meet_any (p : Int) (n : Nat) (t u : Value) (R S : List (List Int)) (w : World) (ht : Ints w t (flat n R)) (hu : Ints w u (flat n S)) (hR : Wf p n R) (hS : Wf p n S) (hr : R.length ≤ 64) (hs : S.length ≤ 64) (hn : n ≤ 64) (hP : isPrime p = true) :
    Calls Tryz.prog 146 #[.agg #[.int .i64 p, .int .i64 R.length, .int .i64 n, t], .agg #[.int .i64 p, .int .i64 S.length, .int .i64 n, u]] w (RetMat w p (meetL p n R S).length n (flat n (meetL p n R S))) := by
  have hp := (isPrime_bd hP).1
  have h1 := (((((St.start w).arg ht).arg hu).box [.int .i64 p, .int .i64 R.length, .int .i64 n, t] 35).box [.int .i64 p, .int .i64 S.length, .int .i64 n, u] 35).box [.int .i64 0, .int .i64 0, .int .i64 0, .slice none 0 0] 35
  simp only [World.size_alloc] at h1
  obtain ⟨A, k0, rfl, _, _, _⟩ := id ht
  obtain ⟨A2, k2, rfl, _, _, _⟩ := id hu
  have hK := fun (X : List (List Int)) (hX : Wf p n X) (hl : X.length ≤ 128) (W : World) (v : Value) (x1 : Ints W v (flat n X)) => (show Calls Tryz.prog 147 #[.agg #[.int .i64 p, .int .i64 X.length, .int .i64 n, v]] W (RetMat W p (kerL p n X).length n (flat n (kerL p n X))) by
    have h9 := l1Kernel_any p X.length n v (flat n X) W x1 (length_flat _ _) (by have := Nat.mul_le_mul hl hn; omega) (by omega) (by omega) hP (resid_flat (by omega) hX)
    rw [rowsM_flat hX] at h9
    exact h9)
  have hKl := fun (X : List (List Int)) => (show (kerL p n X).length ≤ n by obtain ⟨a, ha⟩ := kerL_rf hP n X; exact rf_le_n hp ha)
  have HKR := Lib.hid (hK R hR (by omega))
  have HKS := Lib.hid (hK S hS (by omega))
  have w1 := Wf_kerL hP n R
  have w2 := Wf_kerL hP n S
  have hJ := fun (W : World) (v1 v2 : Value) (x1 : Ints W v1 (flat n (kerL p n R))) (x2 : Ints W v2 (flat n (kerL p n S))) => l1Join_big p p n n v1 v2 (kerL p n R) (kerL p n S) W x1 x2 w1 w2 (by have := hKl R; omega) (by have := hKl S; omega) hn hP
  have hrf := spanL_rf hP (w1.app w2)
  have HKJ := Lib.hid (hK (spanL p n (kerL p n R ++ kerL p n S)) hrf.wf (by have := rf_le_n hp hrf; omega))
  have HJ := Lib.hid hJ
  have hM : kerL p n (spanL p n (kerL p n R ++ kerL p n S)) = meetL p n R S := rfl
  rw [hM] at HKJ
  obtain ⟨M, hM2⟩ : ∃ M, M = meetL p n R S := ⟨_, rfl⟩
  rw [← hM2] at HKJ ⊢
  obtain ⟨J, hJ2⟩ : ∃ J, J = spanL p n (kerL p n R ++ kerL p n S) := ⟨_, rfl⟩
  rw [← hJ2] at HJ HKJ
  obtain ⟨KR, hKR⟩ : ∃ KR, KR = kerL p n R := ⟨_, rfl⟩
  obtain ⟨KS, hKS⟩ : ∃ KS, KS = kerL p n S := ⟨_, rfl⟩
  rw [← hKR] at HKR HJ
  rw [← hKS] at HKS HJ
  obtain ⟨D, hD⟩ : ∃ D, D = flat n R := ⟨_, rfl⟩
  obtain ⟨E, hE⟩ : ∃ E, E = flat n S := ⟨_, rfl⟩
  obtain ⟨r, hr9⟩ : ∃ r, r = R.length := ⟨_, rfl⟩
  obtain ⟨s, hs9⟩ : ∃ s, s = S.length := ⟨_, rfl⟩
  rw [← hD, ← hr9] at HKR
  rw [← hE, ← hs9] at HKS
  rw [← hD, ← hE, ← hr9, ← hs9] at h1
  rw [← hD, ← hE, ← hr9, ← hs9]
  obtain ⟨ml, hml⟩ : ∃ ml, ml = M.length := ⟨_, rfl⟩
  rw [← hml] at HKJ ⊢
  clear ht hu hR hS hr hs hK hKl w1 w2 hJ hrf hM hM2 hJ2 hKR hKS hD hE hr9 hs9 hml
  go_enter Tryz.func146, Tryz.ntmps146
  go_upto_region 1 with fail
  have g0 := h1.drew
  refine wp_region_held_drew (S := fun w' => (w'.cell? ⟨w.heap.size, 0, none⟩ = some (.int .i64 p) ∧ w'.cell? ⟨w.heap.size, 1, none⟩ = some (.int .i64 r) ∧ w'.cell? ⟨w.heap.size, 2, none⟩ = some (.int .i64 n) ∧ w'.cell? ⟨w.heap.size, 3, none⟩ = some (.slice A D.length k0)) ∧ (w'.cell? ⟨w.heap.size + 1, 0, none⟩ = some (.int .i64 p) ∧ w'.cell? ⟨w.heap.size + 1, 1, none⟩ = some (.int .i64 s) ∧ w'.cell? ⟨w.heap.size + 1, 2, none⟩ = some (.int .i64 n) ∧ w'.cell? ⟨w.heap.size + 1, 3, none⟩ = some (.slice A2 E.length k2))) (by kernel_rfl) ⟨g0.box4 2 rfl, g0.box4 1 rfl⟩ (fun hHeld => ?_)
  refine anyH_take (v := ?_) 0 rfl (by kernel_rfl) (by kernel_rfl) (by kernel_rfl) (fun _ _ _ h => h) rfl ?_ hHeld ?_
  rotate_left
  · intro w' hSw
    go_simp
    try with_reducible rfl
  try simp only [Act.put, List.setIfInBounds_toArray, List.set_cons_zero, List.set_cons_succ]
  refine anyH_take (v := ?_) 2 rfl (by kernel_rfl) (by kernel_rfl) (by kernel_rfl) (fun _ _ _ h => h) rfl ?_ hHeld ?_
  rotate_left
  · intro w' hSw
    go_simp
    try with_reducible rfl
  try simp only [Act.put, List.setIfInBounds_toArray, List.set_cons_zero, List.set_cons_succ]
  refine wpAnyH_ready (rs := [1]) (by kernel_rfl) (by simp) ?_
  refine ready_cons rfl (fun K hK => ?_) AllReadyH.nil
  go_simp
  refine (HKR.out _ _ (g0.roInts 4 rfl)).mono ?_
  rintro (e : Ending) w3 ⟨u3, rfl, ho3, hb3⟩
  obtain ⟨A3, n3, c3, rfl⟩ := ho3.slice
  have g1 := g0.pushOwn hb3 ho3
  show K _ _
  refine hK.out _ _ ?_ (fun hHeld => ?_)
  · exact ⟨g1.box4 3 rfl, g1.box4 2 rfl⟩
  clear hK K
  try simp only [Act.put, List.setIfInBounds_toArray, List.set_cons_zero, List.set_cons_succ]
  refine wpAnyH_ready (rs := [3]) (by kernel_rfl) (by simp) ?_
  refine ready_cons rfl (fun K hK => ?_) AllReadyH.nil
  go_simp
  refine (HKS.out _ _ (g1.roInts 4 rfl)).mono ?_
  rintro (e : Ending) w4 ⟨u4, rfl, ho4, hb4⟩
  obtain ⟨A4, n4, c4, rfl⟩ := ho4.slice
  have g2 := g1.pushOwn hb4 ho4
  show K _ _
  refine hK.out _ _ ?_ (fun hHeld => ?_)
  · exact ⟨g2.box4 4 rfl, g2.box4 3 rfl⟩
  clear hK K
  try simp only [Act.put, List.setIfInBounds_toArray, List.set_cons_zero, List.set_cons_succ]
  refine wpAnyH_ready (rs := [4]) (by kernel_rfl) (by simp) ?_
  refine ready_cons rfl (fun K hK => ?_) AllReadyH.nil
  go_simp
  refine (HJ.out _ _ _ (g2.ownInts 1 rfl) (g2.ownInts 0 rfl)).mono ?_
  rintro (e : Ending) w5 ⟨u5, rfl, ho5, hb5⟩
  obtain ⟨A5, n5, c5, rfl⟩ := ho5.slice
  have g3 := g2.pushOwn hb5 ho5
  show K _ _
  refine hK.out _ _ ?_ (fun hHeld => ?_)
  · exact ⟨g3.box4 5 rfl, g3.box4 4 rfl⟩
  clear hK K
  try simp only [Act.put, List.setIfInBounds_toArray, List.set_cons_zero, List.set_cons_succ]
  refine wpAnyH_ready (rs := [5]) (by kernel_rfl) (by simp) ?_
  refine ready_cons rfl (fun K hK => ?_) AllReadyH.nil
  go_simp
  refine (HKJ.out _ _ (g3.ownInts 0 rfl)).mono ?_
  rintro (e : Ending) w6 ⟨u6, rfl, ho6, hb6⟩
  obtain ⟨A6, n6, c6, rfl⟩ := ho6.slice
  have g4 := g3.pushOwn hb6 ho6
  show K _ _
  refine hK.out _ _ ?_ (fun hHeld => ?_)
  · exact ⟨g4.box4 6 rfl, g4.box4 5 rfl⟩
  clear hK K
  try simp only [Act.put, List.setIfInBounds_toArray, List.set_cons_zero, List.set_cons_succ]
  obtain ⟨p0, p1, p2, p3⟩ := g4.box4 4 rfl
  have f0 := g4.free 4 rfl 0
  have f1 := g4.free 4 rfl 1
  have f2 := g4.free 4 rfl 2
  have f3 := g4.free 4 rfl 3
  have g5 := (((g4.setBox 4 rfl 0 (.int .i64 p)).setBox 4 rfl 1 (.int .i64 ml)).setBox 4 rfl 2 (.int .i64 n)).setBox 4 rfl 3 (.slice A6 n6 c6)
  obtain ⟨r0, r1, r2, r3⟩ := g5.box4 4 rfl
  refine wpAnyH_ready (rs := [6]) (by kernel_rfl) (by simp) ?_
  refine ready_cons rfl (fun K hK => ?_) AllReadyH.nil
  go_simp
  refine hK.out _ _ ?_ (fun hHeld => ?_)
  · exact ⟨g5.box4 6 rfl, g5.box4 5 rfl⟩
  clear hK K
  try simp only [Act.put, List.setIfInBounds_toArray, List.set_cons_zero, List.set_cons_succ]
  refine wpAnyH_done (by kernel_rfl) ?_ _
  clear hHeld
  go_wp2
  refine bodyPost_ret (v := .agg #[.int .i64 p, .int .i64 ml, .int .i64 n, .slice A6 n6 c6]) (by simp [results, Tryz.results146, go_sem, r0, r1, r2, r3]) rfl ⟨_, rfl, g5.own 0 rfl, g5.below⟩
end Go.Proofs.YthiainhhaokjoaaGreat
