/- CentreOf, CentralizerOf, NormalizerOf of both programs. -/
import Derived.Test.YtechjmckfedblaaIntoF
namespace Go.Proofs.Ytechjmckfedblaa
set_option maxRecDepth 100000
open Go.RowKit

theorem Rf_none (p : Int) (n : Nat) : Rf p n [] [] := ⟨rfl, fun _i hi => absurd hi (Nat.not_lt_zero _), fun _i hi => absurd hi (Nat.not_lt_zero _), fun _i _j _ hj => absurd hj (Nat.not_lt_zero _), fun _i hi => absurd hi (Nat.not_lt_zero _), fun _i _j hi => absurd hi (Nat.not_lt_zero _), fun _i _c hi => absurd hi (Nat.not_lt_zero _)⟩
theorem flat_none (n : Nat) : flat n [] = [] := by simp [flat, tab]
theorem Wf_intoL {T : List Int} {n : Nat} {p : Int} (hP : isPrime p = true) (t : List (List Int)) (piv : List Nat) (S : List (List Int)) : ∃ a, Rf p n (intoL T n p t piv S) a := kerL_rf hP n _
theorem length_intoL {T : List Int} {n : Nat} {p : Int} (hP : isPrime p = true) (t : List (List Int)) (piv : List Nat) (S : List (List Int)) : (intoL T n p t piv S).length ≤ n := by
  obtain ⟨a, ha⟩ := Wf_intoL (T := T) (n := n) hP t piv S
  exact rf_le_n (isPrime_bd hP).1 ha
/-- The centre. -/
def cenL (T : List Int) (n : Nat) (p : Int) : List (List Int) := intoL T n p [] [] (uniR n)
def cenP (p n : Int) (T : List Int) : Int := if algOk p n T then p else 0
def cenR (p n : Int) (T : List Int) : Int := if algOk p n T then (cenL T n.toNat p).length else 0
def cenC (p n : Int) (T : List Int) : Int := if algOk p n T then n else 0
def cenD (p n : Int) (T : List Int) : List Int := if algOk p n T then flat n.toNat (cenL T n.toNat p) else []
theorem cenD_bd (p n : Int) (T : List Int) : (cenD p n T).length ≤ 784 := by
  unfold cenD
  split
  · rename_i h
    obtain ⟨m, rfl, hm, _, _, h2, _, hP⟩ := algOk_spec h
    rw [length_flat, Int.toNat_natCast]
    exact mul_le (Nat.le_trans (length_intoL hP _ _ _) hm) hm
  · simp
/-- Centralizers (false) and normalizers (true). -/
def ctL (k : Bool) (T : List Int) (n : Nat) (p : Int) (R : List (List Int)) : List (List Int) := intoL T n p (if k then R else []) (if k then pivL p n R else []) R
def ctP (p n : Int) (T : List Int) (q r c : Int) (D : List Int) : Int := if subOk p n T q r c D then p else 0
def ctR (k : Bool) (p n : Int) (T : List Int) (q r c : Int) (D : List Int) : Int := if subOk p n T q r c D then (ctL k T n.toNat p (rowsM r.toNat n.toNat D)).length else 0
def ctC (p n : Int) (T : List Int) (q r c : Int) (D : List Int) : Int := if subOk p n T q r c D then n else 0
def ctD (k : Bool) (p n : Int) (T : List Int) (q r c : Int) (D : List Int) : List Int := if subOk p n T q r c D then flat n.toNat (ctL k T n.toNat p (rowsM r.toNat n.toNat D)) else []
theorem ctD_bd (k : Bool) (p n : Int) (T : List Int) (q r c : Int) (D : List Int) : (ctD k p n T q r c D).length ≤ 784 := by
  unfold ctD
  split
  · rename_i h
    obtain ⟨h1, _, _, _⟩ := subOk_spec h
    obtain ⟨m, rfl, hm, _, _, h2, _, hP⟩ := algOk_spec h1
    rw [length_flat, Int.toNat_natCast]
    exact mul_le (Nat.le_trans (length_intoL hP _ _ _) hm) hm
  · simp



set_option maxHeartbeats 1000000 in
theorem CentreOfS_any (p n : Int) (t : Value) (T : List Int) (w : World) (ht : Ints w t T) :
    Calls Try.prog 44 #[.agg #[.int .i64 p, .int .i64 n, t]] w (RetMat w (cenP p n T) (cenR p n T) (cenC p n T) (cenD p n T)) := by
  have h1 := ((St.start1 ht).box [.int .i64 p, .int .i64 n, t] 30).box [.int .i64 0, .int .i64 0, .int .i64 0, .slice none 0 0] 32
  simp only [World.size_alloc] at h1
  obtain ⟨A, k, rfl, _, _, _⟩ := id ht
  clear ht
  by_cases b1 : algOk p n T = true
  case neg =>
    have b1 : algOk p n T = false := by simpa using b1
    rw [show cenP p n T = 0 by simp [cenP, b1], show cenR p n T = 0 by simp [cenR, b1], show cenC p n T = 0 by simp [cenC, b1], show cenD p n T = [] by simp [cenD, b1]]
    obtain ⟨z0, z1, z2⟩ := h1.box3 1 rfl
    go_enter Try.func44, Try.ntmps44
    go_wp2_with fail
    refine (AlgebraOkS_any p n _ T _ (h1.roInts 2 rfl)).mono ?_
    rintro (e : Ending) w1 ⟨rfl, hb1⟩
    replace h1 := h1.on hb1
    rw [b1]
    clear hb1 z0 z1 z2
    obtain ⟨p0, p1, p2, p3⟩ := h1.box4 0 rfl
    have f0 := h1.free 0 rfl 0
    have f1 := h1.free 0 rfl 1
    have f2 := h1.free 0 rfl 2
    have f3 := h1.free 0 rfl 3
    have h4 := (((h1.setBox 0 rfl 0 (.int .i64 0)).setBox 0 rfl 1 (.int .i64 0)).setBox 0 rfl 2 (.int .i64 0)).setBox 0 rfl 3 (.slice none 0 0)
    obtain ⟨r0, r1, r2, r3⟩ := h4.box4 0 rfl
    go_wp2
    refine bodyPost_ret (v := .agg #[.int .i64 0, .int .i64 0, .int .i64 0, .slice none 0 0]) (by simp [results, Try.results44, go_sem, r0, r1, r2, r3]) rfl ⟨_, rfl, Own.nil, h4.below⟩
  case pos =>
    obtain ⟨m, rfl, k1, kT, k3, k4, k5, k6⟩ := algOk_spec b1
    obtain ⟨K, hK⟩ : ∃ K, K = cenL T m p := ⟨_, rfl⟩
    rw [show cenP p m T = p by simp [cenP, b1], show cenR p m T = K.length by rw [cenR, if_pos b1, hK]; simp, show cenC p m T = m by simp [cenC, b1], show cenD p m T = flat m K by rw [cenD, if_pos b1, hK]; simp]
    have HI := Lib.hid (show ∀ (W : World) (v1 v2 v3 : Value), Ints W v1 T → Ints W v2 (unitD m) → Ints W v3 [] → Calls Try.prog 93 #[.agg #[.int .i64 p, .int .i64 m, v1], .agg #[.int .i64 p, .int .i64 m, .int .i64 m, v2], .agg #[.int .i64 p, .int .i64 0, .int .i64 m, v3]] W (RetMat W p K.length m (flat m K)) from fun W v1 v2 v3 x1 x2 x3 => by
      have := l2Into_any p p m v1 v2 v3 T (uniR m) [] [] W x1 (by rw [flat_uniR]; exact x2) (by rw [flat_none]; exact x3) kT (Wf_uniR k4 m) (by rw [length_uniR]; omega) (Rf_none p m) k1 k6 k3
      rw [length_uniR] at this
      rw [hK, cenL, into_eq k6 (Rf_none p m)]
      exact this)
    have HU := Lib.hid (fun W => l2All_any p m A T.length k W k6 (by omega))
    have HN := Lib.hid (fun W => l2None_any p m A T.length k W)
    obtain ⟨z0, z1, z2⟩ := h1.box3 1 rfl
    clear hK kT k3 k4 k5
    go_enter Try.func44, Try.ntmps44
    go_wp2_with fail
    refine (AlgebraOkS_any p m _ T _ (h1.roInts 2 rfl)).mono ?_
    rintro (e : Ending) w1 ⟨rfl, hb1⟩
    replace h1 := h1.on hb1
    rw [b1]
    clear hb1 z0 z1 z2
    go_upto_region 3 with fail
    have g0 := h1.drew
    clear h1
    refine wp_region_cut (S := fun w' => (w'.cell? ⟨w.heap.size, 0, none⟩ = some (.int .i64 p) ∧ w'.cell? ⟨w.heap.size, 1, none⟩ = some (.int .i64 m) ∧ w'.cell? ⟨w.heap.size, 2, none⟩ = some (.slice A T.length k))) 6 (by kernel_rfl) (by kernel_rfl) (g0.box3 1 rfl) (fun hHeld => ?_)
    simp only [List.take_succ_cons, List.take_zero]
    refine anyH_take (v := ?_) 0 rfl (by kernel_rfl) (by kernel_rfl) (by kernel_rfl) (fun _ _ _ h => h) rfl ?_ hHeld ?_
    rotate_left
    · intro w' hSw
      go_simp
      try with_reducible rfl
    try simp only [Act.put, List.setIfInBounds_toArray, List.set_cons_zero, List.set_cons_succ]
    refine anyH_take (v := ?_) 1 rfl (by kernel_rfl) (by kernel_rfl) (by kernel_rfl) (fun _ _ _ h => h) rfl ?_ hHeld ?_
    rotate_left
    · intro w' hSw
      go_simp
      try with_reducible rfl
    try simp only [Act.put, List.setIfInBounds_toArray, List.set_cons_zero, List.set_cons_succ]
    refine anyH_take (v := ?_) 3 rfl (by kernel_rfl) (by kernel_rfl) (by kernel_rfl) (fun _ _ _ h => h) rfl ?_ hHeld ?_
    rotate_left
    · intro w' hSw
      go_simp
      try with_reducible rfl
    try simp only [Act.put, List.setIfInBounds_toArray, List.set_cons_zero, List.set_cons_succ]
    refine wpAnyH_ready (rs := [2]) (by kernel_rfl) (by simp) ?_
    refine ready_cons rfl (fun K hK => ?_) AllReadyH.nil
    go_simp
    refine (HU.out _).mono ?_
    rintro (e : Ending) w4 ⟨u4, rfl, ho4, hb4⟩
    obtain ⟨A4, n4, c4, rfl⟩ := ho4.slice
    have g1 := g0.pushOwn hb4 ho4
    clear ho4 hb4
    show K _ _
    refine hK.out _ _ ?_ (fun hHeld => ?_)
    · exact (g1.box3 2 rfl)
    clear hK K
    try simp only [Act.put, List.setIfInBounds_toArray, List.set_cons_zero, List.set_cons_succ]
    refine wpAnyH_ready (rs := [4]) (by kernel_rfl) (by simp) ?_
    refine ready_cons rfl (fun K hK => ?_) AllReadyH.nil
    go_simp
    refine (HN.out _).mono ?_
    rintro (e : Ending) w5 ⟨u5, rfl, ho5, hb5⟩
    obtain ⟨A5, n5, c5, rfl⟩ := ho5.slice
    have g2 := g1.pushOwn hb5 ho5
    show K _ _
    refine hK.out _ _ ?_ (fun hHeld => ?_)
    · exact (g2.box3 3 rfl)
    clear hK K
    try simp only [Act.put, List.setIfInBounds_toArray, List.set_cons_zero, List.set_cons_succ]
    refine wpAnyH_ready (rs := [5]) (by kernel_rfl) (by simp) ?_
    refine ready_cons rfl (fun K hK => ?_) AllReadyH.nil
    go_simp
    refine (HI.out _ _ _ _ (g2.roInts 4 rfl) (g2.ownInts 1 rfl) (g2.ownInts 0 rfl)).mono ?_
    rintro (e : Ending) w6 ⟨u6, rfl, ho6, hb6⟩
    obtain ⟨A7, c7, rfl, _, _, _⟩ := id ho6.ints
    have g3 := g2.pushOwn hb6 ho6
    show K _ _
    refine hK.out _ _ ?_ (fun hHeld => ?_)
    · exact (g3.box3 4 rfl)
    clear hK K
    try simp only [Act.put, List.setIfInBounds_toArray, List.set_cons_zero, List.set_cons_succ]
    refine wpAnyH_done (by kernel_rfl) ?_ _
    show wpList _ _ _ _ _ _
    simp only [List.drop_succ_cons, List.drop_zero]
    clear hHeld
    obtain ⟨p0, p1, p2, p3⟩ := g3.box4 3 rfl
    have f0 := g3.free 3 rfl 0
    have f1 := g3.free 3 rfl 1
    have f2 := g3.free 3 rfl 2
    have f3 := g3.free 3 rfl 3
    have g4 := (((g3.setBox 3 rfl 0 (.int .i64 p)).setBox 3 rfl 1 (.int .i64 K.length)).setBox 3 rfl 2 (.int .i64 m)).setBox 3 rfl 3 (.slice A7 (flat m K).length c7)
    obtain ⟨r0, r1, r2, r3⟩ := g4.box4 3 rfl
    clear g0 g1 g2 g3
    go_wp2
    refine bodyPost_ret (v := .agg #[.int .i64 p, .int .i64 K.length, .int .i64 m, .slice A7 (flat m K).length c7]) (by simp [results, Try.results44, go_sem, r0, r1, r2, r3]) rfl ⟨_, rfl, g4.own 0 rfl, g4.below⟩

set_option maxHeartbeats 1000000 in
theorem CentreOfI_any (p n : Int) (t : Value) (T : List Int) (w : World) (ht : Ints w t T) (hp : p ≤ 9223372036854775807) :
    Calls Try.prog 45 #[.agg #[.int .i64 p, .int .i64 n, t]] w (RetMat w (cenP p n T) (cenR p n T) (cenC p n T) (cenD p n T)) := by
  have h1 := ((St.start1 ht).box [.int .i64 p, .int .i64 n, t] 30).box [.int .i64 0, .int .i64 0, .int .i64 0, .slice none 0 0] 32
  simp only [World.size_alloc] at h1
  obtain ⟨A, k, rfl, _, _, _⟩ := id ht
  clear ht
  by_cases b1 : algOk p n T = true
  case neg =>
    have b1 : algOk p n T = false := by simpa using b1
    rw [show cenP p n T = 0 by simp [cenP, b1], show cenR p n T = 0 by simp [cenR, b1], show cenC p n T = 0 by simp [cenC, b1], show cenD p n T = [] by simp [cenD, b1]]
    obtain ⟨z0, z1, z2⟩ := h1.box3 1 rfl
    go_enter Try.func45, Try.ntmps45
    go_wp2_with fail
    refine (AlgebraOkI_any p n _ T _ (h1.roInts 2 rfl) hp).mono ?_
    rintro (e : Ending) w1 ⟨rfl, hb1⟩
    replace h1 := h1.on hb1
    rw [b1]
    clear hb1 z0 z1 z2
    obtain ⟨p0, p1, p2, p3⟩ := h1.box4 0 rfl
    have f0 := h1.free 0 rfl 0
    have f1 := h1.free 0 rfl 1
    have f2 := h1.free 0 rfl 2
    have f3 := h1.free 0 rfl 3
    have h4 := (((h1.setBox 0 rfl 0 (.int .i64 0)).setBox 0 rfl 1 (.int .i64 0)).setBox 0 rfl 2 (.int .i64 0)).setBox 0 rfl 3 (.slice none 0 0)
    obtain ⟨r0, r1, r2, r3⟩ := h4.box4 0 rfl
    go_wp2
    refine bodyPost_ret (v := .agg #[.int .i64 0, .int .i64 0, .int .i64 0, .slice none 0 0]) (by simp [results, Try.results45, go_sem, r0, r1, r2, r3]) rfl ⟨_, rfl, Own.nil, h4.below⟩
  case pos =>
    obtain ⟨m, rfl, k1, kT, k3, k4, k5, k6⟩ := algOk_spec b1
    obtain ⟨K, hK⟩ : ∃ K, K = cenL T m p := ⟨_, rfl⟩
    rw [show cenP p m T = p by simp [cenP, b1], show cenR p m T = K.length by rw [cenR, if_pos b1, hK]; simp, show cenC p m T = m by simp [cenC, b1], show cenD p m T = flat m K by rw [cenD, if_pos b1, hK]; simp]
    have HI := Lib.hid (show ∀ (W : World) (v1 v2 : Value), Ints W v1 T → Ints W v2 (unitD m) → Calls Try.prog 95 #[.agg #[.int .i64 p, .int .i64 m, v1], .agg #[.int .i64 p, .int .i64 m, .int .i64 m, v2], .agg #[.int .i64 p, .int .i64 0, .int .i64 m, .slice none 0 0]] W (RetMat W p K.length m (flat m K)) from fun W v1 v2 x1 x2 => by
      have := into_any p p p m v1 v2 (.slice none 0 0) T (uniR m) [] [] W x1 (by rw [flat_uniR]; exact x2) (by rw [flat_none]; exact Own.nil.ints (lo := 0)) kT (Wf_uniR k4 m) (by rw [length_uniR]; omega) (Rf_none p m) k1 k6 k3
      rw [length_uniR] at this
      rw [hK, cenL]
      exact this)
    have HU := Lib.hid (fun W => UnitMatrixI_any p m W k6 (by omega))
    have HN := Lib.hid (fun W => newLie_any p m (.slice A T.length k) A T.length k W rfl)
    obtain ⟨z0, z1, z2⟩ := h1.box3 1 rfl
    clear hK kT k3 k4 k5
    go_enter Try.func45, Try.ntmps45
    go_wp2_with fail
    refine (AlgebraOkI_any p m _ T _ (h1.roInts 2 rfl) hp).mono ?_
    rintro (e : Ending) w1 ⟨rfl, hb1⟩
    replace h1 := h1.on hb1
    rw [b1]
    clear hb1 z0 z1 z2
    go_upto_region 3 with fail
    have g0 := h1.drew
    clear h1
    refine wp_region_cut (S := fun w' => (w'.cell? ⟨w.heap.size, 0, none⟩ = some (.int .i64 p) ∧ w'.cell? ⟨w.heap.size, 1, none⟩ = some (.int .i64 m) ∧ w'.cell? ⟨w.heap.size, 2, none⟩ = some (.slice A T.length k))) 13 (by kernel_rfl) (by kernel_rfl) (g0.box3 1 rfl) (fun hHeld => ?_)
    simp only [List.take_succ_cons, List.take_zero]
    refine anyH_take (v := ?_) 0 rfl (by kernel_rfl) (by kernel_rfl) (by kernel_rfl) (fun _ _ _ h => h) rfl ?_ hHeld ?_
    rotate_left
    · intro w' hSw
      go_simp
      try with_reducible rfl
    try simp only [Act.put, List.setIfInBounds_toArray, List.set_cons_zero, List.set_cons_succ]
    refine anyH_take (v := ?_) 2 rfl (by kernel_rfl) (by kernel_rfl) (by kernel_rfl) (fun _ _ _ h => h) rfl ?_ hHeld ?_
    rotate_left
    · intro w' hSw
      go_simp
      try with_reducible rfl
    try simp only [Act.put, List.setIfInBounds_toArray, List.set_cons_zero, List.set_cons_succ]
    refine anyH_take (v := ?_) 3 rfl (by kernel_rfl) (by kernel_rfl) (by kernel_rfl) (fun _ _ _ h => h) rfl ?_ hHeld ?_
    rotate_left
    · intro w' hSw
      go_simp
      try with_reducible rfl
    try simp only [Act.put, List.setIfInBounds_toArray, List.set_cons_zero, List.set_cons_succ]
    refine anyH_take (v := ?_) 4 rfl (by kernel_rfl) (by kernel_rfl) (by kernel_rfl) (fun _ _ _ h => h) rfl ?_ hHeld ?_
    rotate_left
    · intro w' hSw
      go_simp
      try with_reducible rfl
    try simp only [Act.put, List.setIfInBounds_toArray, List.set_cons_zero, List.set_cons_succ]
    refine anyH_take (v := ?_) 5 rfl (by kernel_rfl) (by kernel_rfl) (by kernel_rfl) (fun _ _ _ h => h) rfl ?_ hHeld ?_
    rotate_left
    · intro w' hSw
      go_simp
      try with_reducible rfl
    try simp only [Act.put, List.setIfInBounds_toArray, List.set_cons_zero, List.set_cons_succ]
    refine anyH_take (v := ?_) 7 rfl (by kernel_rfl) (by kernel_rfl) (by kernel_rfl) (fun _ _ _ h => h) rfl ?_ hHeld ?_
    rotate_left
    · intro w' hSw
      go_simp
      try with_reducible rfl
    try simp only [Act.put, List.setIfInBounds_toArray, List.set_cons_zero, List.set_cons_succ]
    refine anyH_take (v := ?_) 8 rfl (by kernel_rfl) (by kernel_rfl) (by kernel_rfl) (fun _ _ _ h => h) rfl ?_ hHeld ?_
    rotate_left
    · intro w' hSw
      go_simp
      try with_reducible rfl
    try simp only [Act.put, List.setIfInBounds_toArray, List.set_cons_zero, List.set_cons_succ]
    refine anyH_take (v := ?_) 9 rfl (by kernel_rfl) (by kernel_rfl) (by kernel_rfl) (fun _ _ _ h => h) rfl ?_ hHeld ?_
    rotate_left
    · intro w' hSw
      go_simp
      try with_reducible rfl
    try simp only [Act.put, List.setIfInBounds_toArray, List.set_cons_zero, List.set_cons_succ]
    refine anyH_take (v := ?_) 10 rfl (by kernel_rfl) (by kernel_rfl) (by kernel_rfl) (fun _ _ _ h => h) rfl ?_ hHeld ?_
    rotate_left
    · intro w' hSw
      go_simp
      try with_reducible rfl
    try simp only [Act.put, List.setIfInBounds_toArray, List.set_cons_zero, List.set_cons_succ]
    refine anyH_take (v := ?_) 11 rfl (by kernel_rfl) (by kernel_rfl) (by kernel_rfl) (fun _ _ _ h => h) rfl ?_ hHeld ?_
    rotate_left
    · intro w' hSw
      go_simp
      try with_reducible rfl
    try simp only [Act.put, List.setIfInBounds_toArray, List.set_cons_zero, List.set_cons_succ]
    refine wpAnyH_ready (rs := [1]) (by kernel_rfl) (by simp) ?_
    refine ready_cons rfl (fun K hK => ?_) AllReadyH.nil
    go_simp
    refine (HN.out _).mono ?_
    rintro (e : Ending) w4 ⟨rfl, hb4⟩
    have g1 := g0.on hb4
    clear hb4
    show K _ _
    refine hK.out _ _ ?_ (fun hHeld => ?_)
    · exact (g1.box3 1 rfl)
    clear hK K
    try simp only [Act.put, List.setIfInBounds_toArray, List.set_cons_zero, List.set_cons_succ]
    refine wpAnyH_ready (rs := [6]) (by kernel_rfl) (by simp) ?_
    refine ready_cons rfl (fun K hK => ?_) AllReadyH.nil
    go_simp
    refine (HU.out _).mono ?_
    rintro (e : Ending) w5 ⟨u5, rfl, ho5, hb5⟩
    obtain ⟨A5, n5, c5, rfl⟩ := ho5.slice
    have g2 := g1.pushOwn hb5 ho5
    show K _ _
    refine hK.out _ _ ?_ (fun hHeld => ?_)
    · exact (g2.box3 2 rfl)
    clear hK K
    try simp only [Act.put, List.setIfInBounds_toArray, List.set_cons_zero, List.set_cons_succ]
    refine wpAnyH_ready (rs := [12]) (by kernel_rfl) (by simp) ?_
    refine ready_cons rfl (fun K hK => ?_) AllReadyH.nil
    go_simp
    refine (HI.out _ _ _ (g2.roInts 3 rfl) (g2.ownInts 0 rfl)).mono ?_
    rintro (e : Ending) w6 ⟨u6, rfl, ho6, hb6⟩
    obtain ⟨A7, c7, rfl, _, _, _⟩ := id ho6.ints
    have g3 := g2.pushOwn hb6 ho6
    show K _ _
    refine hK.out _ _ ?_ (fun hHeld => ?_)
    · exact (g3.box3 3 rfl)
    clear hK K
    try simp only [Act.put, List.setIfInBounds_toArray, List.set_cons_zero, List.set_cons_succ]
    refine wpAnyH_done (by kernel_rfl) ?_ _
    show wpList _ _ _ _ _ _
    simp only [List.drop_succ_cons, List.drop_zero]
    clear hHeld
    obtain ⟨p0, p1, p2, p3⟩ := g3.box4 2 rfl
    have f0 := g3.free 2 rfl 0
    have f1 := g3.free 2 rfl 1
    have f2 := g3.free 2 rfl 2
    have f3 := g3.free 2 rfl 3
    have g4 := (((g3.setBox 2 rfl 0 (.int .i64 p)).setBox 2 rfl 1 (.int .i64 K.length)).setBox 2 rfl 2 (.int .i64 m)).setBox 2 rfl 3 (.slice A7 (flat m K).length c7)
    obtain ⟨r0, r1, r2, r3⟩ := g4.box4 2 rfl
    clear g0 g1 g2 g3
    go_wp2
    refine bodyPost_ret (v := .agg #[.int .i64 p, .int .i64 K.length, .int .i64 m, .slice A7 (flat m K).length c7]) (by simp [results, Try.results45, go_sem, r0, r1, r2, r3]) rfl ⟨_, rfl, g4.own 0 rfl, g4.below⟩


set_option maxHeartbeats 1000000 in
theorem CentralizerOfS_any (p n q r c : Int) (t u : Value) (T D : List Int) (w : World) (ht : Ints w t T) (hu : Ints w u D) (hp : p ≤ 9223372036854775807) (hq : q ≤ 9223372036854775807) :
    Calls Try.prog 48 #[.agg #[.int .i64 p, .int .i64 n, t], .agg #[.int .i64 q, .int .i64 r, .int .i64 c, u]] w (RetMatB w (ctP p n T q r c D) (ctR false p n T q r c D) (ctC p n T q r c D) (ctD false p n T q r c D) (subOk p n T q r c D)) := by
  have h1 := ((((St.start w).arg ht).arg hu).box [.int .i64 p, .int .i64 n, t] 30).box [.int .i64 q, .int .i64 r, .int .i64 c, u] 32
  replace h1 := h1.box [.int .i64 0, .int .i64 0, .int .i64 0, .slice none 0 0] 32
  simp only [World.size_alloc] at h1
  obtain ⟨A, k, rfl, _, _, _⟩ := id ht
  obtain ⟨A1, k1, rfl, _, _, _⟩ := id hu
  clear ht hu
  by_cases b1 : subOk p n T q r c D = true
  case neg =>
    have b1 : subOk p n T q r c D = false := by simpa using b1
    rw [show ctP p n T q r c D = 0 by simp [ctP, b1], show ctR false p n T q r c D = 0 by simp [ctR, b1], show ctC p n T q r c D = 0 by simp [ctC, b1], show ctD false p n T q r c D = [] by simp [ctD, b1], b1]
    obtain ⟨y0, y1, y2⟩ := h1.box3 2 rfl
    obtain ⟨x0, x1, x2, x3⟩ := h1.box4 1 rfl
    go_enter Try.func48, Try.ntmps48
    go_wp2_with fail
    refine (l2Space_any p n q r c _ _ T D _ (h1.roInts 4 rfl) (h1.roInts 3 rfl) hp hq).mono ?_
    rintro (e : Ending) w1 ⟨rfl, hb1⟩
    replace h1 := h1.on hb1
    rw [b1]
    clear hb1 y0 y1 y2 x0 x1 x2 x3
    obtain ⟨p0, p1, p2, p3⟩ := h1.box4 0 rfl
    have f0 := h1.free 0 rfl 0
    have f1 := h1.free 0 rfl 1
    have f2 := h1.free 0 rfl 2
    have f3 := h1.free 0 rfl 3
    have h4 := (((h1.setBox 0 rfl 0 (.int .i64 0)).setBox 0 rfl 1 (.int .i64 0)).setBox 0 rfl 2 (.int .i64 0)).setBox 0 rfl 3 (.slice none 0 0)
    obtain ⟨r0, r1, r2, r3⟩ := h4.box4 0 rfl
    go_wp2
    refine bodyPost_ret (v := .tuple #[.agg #[.int .i64 0, .int .i64 0, .int .i64 0, .slice none 0 0], .bool false]) (by simp [results, Try.results48, go_sem, r0, r1, r2, r3]) rfl ⟨_, rfl, Own.nil, h4.below⟩
  case pos =>
    obtain ⟨c1, c2, e1, e2⟩ := subOk_spec b1
    subst q
    obtain ⟨m, rfl, kn, kT, k3, k4, k5, k6⟩ := algOk_spec c1
    subst c
    obtain ⟨d, R, a, ed, rfl, hD, ha, hR40, hd40, hP⟩ := spaceOk_rf c2
    have ed' : m = d := by omega
    subst ed'
    have hrm : rowsM ((R.length : Int)).toNat ((m : Int)).toNat D = R := by rw [Int.toNat_natCast, Int.toNat_natCast, hD]; exact rowsM_flat ha.wf
    have hpv := (spanL_self k6 ha).2
    obtain ⟨K, hK⟩ : ∃ K, K = ctL false T m p R := ⟨_, rfl⟩
    rw [show ctP p m T p R.length m D = p by simp [ctP, b1], show ctR false p m T p R.length m D = K.length by rw [ctR, if_pos b1, hrm, hK]; simp, show ctC p m T p R.length m D = m by simp [ctC, b1], show ctD false p m T p R.length m D = flat m K by rw [ctD, if_pos b1, hrm, hK]; simp, b1]
    obtain ⟨r, hr⟩ : ∃ r, r = R.length := ⟨_, rfl⟩
    have HI := Lib.hid (show ∀ (W : World) (v1 v2 v3 : Value), Ints W v1 T → Ints W v2 D → Ints W v3 [] → Calls Try.prog 93 #[.agg #[.int .i64 p, .int .i64 m, v1], .agg #[.int .i64 p, .int .i64 r, .int .i64 m, v2], .agg #[.int .i64 p, .int .i64 0, .int .i64 m, v3]] W (RetMat W p K.length m (flat m K)) from fun W v1 v2 v3 x1 x2 x3 => by
      have := l2Into_any p p m v1 v2 v3 T R [] [] W x1 (by rw [← hD]; exact x2) (by rw [flat_none]; exact x3) kT ha.wf hR40 (Rf_none p m) kn k6 k3
      rw [hK, ctL, hr]
      simp only [Bool.false_eq_true, if_false]
      rw [into_eq k6 (Rf_none p m)]
      exact this)
    have HN := Lib.hid (fun W => l2None_any p m A T.length k W)
    have B1 := Lib.hid b1
    have Hr := Lib.hid hr
    rw [← hr] at h1
    clear hK c1 c2 kT k3 k4 k5 k6 hD ha hP hpv hrm b1 hr
    obtain ⟨y0, y1, y2⟩ := h1.box3 2 rfl
    obtain ⟨x0, x1, x2, x3⟩ := h1.box4 1 rfl
    rw [← Hr.out] at B1 ⊢
    go_enter Try.func48, Try.ntmps48
    go_wp2_with fail
    refine (l2Space_any p m p r m _ _ T D _ (h1.roInts 4 rfl) (h1.roInts 3 rfl) hp hq).mono ?_
    rintro (e : Ending) w1 ⟨rfl, hb1⟩
    replace h1 := h1.on hb1
    rw [B1.out]
    clear hb1 y0 y1 y2 x0 x1 x2 x3
    go_upto_region 3 with fail
    have g0 := h1.drew
    clear h1
    refine wp_region_cut (S := fun w' => (w'.cell? ⟨w.heap.size, 0, none⟩ = some (.int .i64 p) ∧ w'.cell? ⟨w.heap.size, 1, none⟩ = some (.int .i64 m) ∧ w'.cell? ⟨w.heap.size, 2, none⟩ = some (.slice A T.length k)) ∧ (w'.cell? ⟨w.heap.size + 1, 0, none⟩ = some (.int .i64 p) ∧ w'.cell? ⟨w.heap.size + 1, 1, none⟩ = some (.int .i64 r) ∧ w'.cell? ⟨w.heap.size + 1, 2, none⟩ = some (.int .i64 m) ∧ w'.cell? ⟨w.heap.size + 1, 3, none⟩ = some (.slice A1 D.length k1))) 5 (by kernel_rfl) (by kernel_rfl) ⟨g0.box3 2 rfl, g0.box4 1 rfl⟩ (fun hHeld => ?_)
    simp only [List.take_succ_cons, List.take_zero]
    refine anyH_take (v := ?_) 0 rfl (by kernel_rfl) (by kernel_rfl) (by kernel_rfl) (fun _ _ _ h => h) rfl ?_ hHeld ?_
    rotate_left
    · intro w' hSw
      go_simp
      try with_reducible rfl
    try simp only [Act.put, List.setIfInBounds_toArray, List.set_cons_zero, List.set_cons_succ]
    refine anyH_take (v := ?_) 1 rfl (by kernel_rfl) (by kernel_rfl) (by kernel_rfl) (fun _ _ _ h => h) rfl ?_ hHeld ?_
    rotate_left
    · intro w' hSw
      go_simp
      try with_reducible rfl
    try simp only [Act.put, List.setIfInBounds_toArray, List.set_cons_zero, List.set_cons_succ]
    refine anyH_take (v := ?_) 2 rfl (by kernel_rfl) (by kernel_rfl) (by kernel_rfl) (fun _ _ _ h => h) rfl ?_ hHeld ?_
    rotate_left
    · intro w' hSw
      go_simp
      try with_reducible rfl
    try simp only [Act.put, List.setIfInBounds_toArray, List.set_cons_zero, List.set_cons_succ]
    refine wpAnyH_ready (rs := [3]) (by kernel_rfl) (by simp) ?_
    refine ready_cons rfl (fun K hK => ?_) AllReadyH.nil
    go_simp
    refine (HN.out _).mono ?_
    rintro (e : Ending) w5 ⟨u5, rfl, ho5, hb5⟩
    obtain ⟨A5, n5, c5, rfl⟩ := ho5.slice
    have g2 := g0.pushOwn hb5 ho5
    show K _ _
    refine hK.out _ _ ?_ (fun hHeld => ?_)
    · exact ⟨g2.box3 3 rfl, g2.box4 2 rfl⟩
    clear hK K
    try simp only [Act.put, List.setIfInBounds_toArray, List.set_cons_zero, List.set_cons_succ]
    refine wpAnyH_ready (rs := [4]) (by kernel_rfl) (by simp) ?_
    refine ready_cons rfl (fun K hK => ?_) AllReadyH.nil
    go_simp
    refine (HI.out _ _ _ _ (g2.roInts 5 rfl) (g2.roInts 4 rfl) (g2.ownInts 0 rfl)).mono ?_
    rintro (e : Ending) w6 ⟨u6, rfl, ho6, hb6⟩
    obtain ⟨A7, c7, rfl, _, _, _⟩ := id ho6.ints
    have g3 := g2.pushOwn hb6 ho6
    show K _ _
    refine hK.out _ _ ?_ (fun hHeld => ?_)
    · exact ⟨g3.box3 4 rfl, g3.box4 3 rfl⟩
    clear hK K
    try simp only [Act.put, List.setIfInBounds_toArray, List.set_cons_zero, List.set_cons_succ]
    refine wpAnyH_done (by kernel_rfl) ?_ _
    show wpList _ _ _ _ _ _
    simp only [List.drop_succ_cons, List.drop_zero]
    clear hHeld
    obtain ⟨p0, p1, p2, p3⟩ := g3.box4 2 rfl
    have f0 := g3.free 2 rfl 0
    have f1 := g3.free 2 rfl 1
    have f2 := g3.free 2 rfl 2
    have f3 := g3.free 2 rfl 3
    have gz := (((g3.setBox 2 rfl 0 (.int .i64 p)).setBox 2 rfl 1 (.int .i64 K.length)).setBox 2 rfl 2 (.int .i64 m)).setBox 2 rfl 3 (.slice A7 (flat m K).length c7)
    obtain ⟨r0, r1, r2, r3⟩ := gz.box4 2 rfl
    go_wp2
    refine bodyPost_ret (v := .tuple #[.agg #[.int .i64 p, .int .i64 K.length, .int .i64 m, .slice A7 (flat m K).length c7], .bool true]) (by simp [results, Try.results48, go_sem, r0, r1, r2, r3]) rfl ⟨_, rfl, gz.own 0 rfl, gz.below⟩

set_option maxHeartbeats 1000000 in
theorem NormalizerOfS_any (p n q r c : Int) (t u : Value) (T D : List Int) (w : World) (ht : Ints w t T) (hu : Ints w u D) (hp : p ≤ 9223372036854775807) (hq : q ≤ 9223372036854775807) :
    Calls Try.prog 46 #[.agg #[.int .i64 p, .int .i64 n, t], .agg #[.int .i64 q, .int .i64 r, .int .i64 c, u]] w (RetMatB w (ctP p n T q r c D) (ctR true p n T q r c D) (ctC p n T q r c D) (ctD true p n T q r c D) (subOk p n T q r c D)) := by
  have h1 := ((((St.start w).arg ht).arg hu).box [.int .i64 p, .int .i64 n, t] 30).box [.int .i64 q, .int .i64 r, .int .i64 c, u] 32
  replace h1 := h1.box [.int .i64 0, .int .i64 0, .int .i64 0, .slice none 0 0] 32
  simp only [World.size_alloc] at h1
  obtain ⟨A, k, rfl, _, _, _⟩ := id ht
  obtain ⟨A1, k1, rfl, _, _, _⟩ := id hu
  clear ht hu
  by_cases b1 : subOk p n T q r c D = true
  case neg =>
    have b1 : subOk p n T q r c D = false := by simpa using b1
    rw [show ctP p n T q r c D = 0 by simp [ctP, b1], show ctR true p n T q r c D = 0 by simp [ctR, b1], show ctC p n T q r c D = 0 by simp [ctC, b1], show ctD true p n T q r c D = [] by simp [ctD, b1], b1]
    obtain ⟨y0, y1, y2⟩ := h1.box3 2 rfl
    obtain ⟨x0, x1, x2, x3⟩ := h1.box4 1 rfl
    go_enter Try.func46, Try.ntmps46
    go_wp2_with fail
    refine (l2Space_any p n q r c _ _ T D _ (h1.roInts 4 rfl) (h1.roInts 3 rfl) hp hq).mono ?_
    rintro (e : Ending) w1 ⟨rfl, hb1⟩
    replace h1 := h1.on hb1
    rw [b1]
    clear hb1 y0 y1 y2 x0 x1 x2 x3
    obtain ⟨p0, p1, p2, p3⟩ := h1.box4 0 rfl
    have f0 := h1.free 0 rfl 0
    have f1 := h1.free 0 rfl 1
    have f2 := h1.free 0 rfl 2
    have f3 := h1.free 0 rfl 3
    have h4 := (((h1.setBox 0 rfl 0 (.int .i64 0)).setBox 0 rfl 1 (.int .i64 0)).setBox 0 rfl 2 (.int .i64 0)).setBox 0 rfl 3 (.slice none 0 0)
    obtain ⟨r0, r1, r2, r3⟩ := h4.box4 0 rfl
    go_wp2
    refine bodyPost_ret (v := .tuple #[.agg #[.int .i64 0, .int .i64 0, .int .i64 0, .slice none 0 0], .bool false]) (by simp [results, Try.results46, go_sem, r0, r1, r2, r3]) rfl ⟨_, rfl, Own.nil, h4.below⟩
  case pos =>
    obtain ⟨c1, c2, e1, e2⟩ := subOk_spec b1
    subst q
    obtain ⟨m, rfl, kn, kT, k3, k4, k5, k6⟩ := algOk_spec c1
    subst c
    obtain ⟨d, R, a, ed, rfl, hD, ha, hR40, hd40, hP⟩ := spaceOk_rf c2
    have ed' : m = d := by omega
    subst ed'
    have hrm : rowsM ((R.length : Int)).toNat ((m : Int)).toNat D = R := by rw [Int.toNat_natCast, Int.toNat_natCast, hD]; exact rowsM_flat ha.wf
    have hpv := (spanL_self k6 ha).2
    obtain ⟨K, hK⟩ : ∃ K, K = ctL true T m p R := ⟨_, rfl⟩
    rw [show ctP p m T p R.length m D = p by simp [ctP, b1], show ctR true p m T p R.length m D = K.length by rw [ctR, if_pos b1, hrm, hK]; simp, show ctC p m T p R.length m D = m by simp [ctC, b1], show ctD true p m T p R.length m D = flat m K by rw [ctD, if_pos b1, hrm, hK]; simp, b1]
    obtain ⟨r, hr⟩ : ∃ r, r = R.length := ⟨_, rfl⟩
    have HI := Lib.hid (show ∀ (W : World) (v1 v2 v3 : Value), Ints W v1 T → Ints W v2 D → Ints W v3 D → Calls Try.prog 93 #[.agg #[.int .i64 p, .int .i64 m, v1], .agg #[.int .i64 p, .int .i64 r, .int .i64 m, v2], .agg #[.int .i64 p, .int .i64 r, .int .i64 m, v3]] W (RetMat W p K.length m (flat m K)) from fun W v1 v2 v3 x1 x2 x3 => by
      have := l2Into_any p p m v1 v2 v3 T R R a W x1 (by rw [← hD]; exact x2) (by rw [← hD]; exact x3) kT ha.wf hR40 ha kn k6 k3
      rw [hK, ctL, hr]
      simp only [if_true]
      rw [hpv, into_eq k6 ha]
      exact this)
    have B1 := Lib.hid b1
    have Hr := Lib.hid hr
    rw [← hr] at h1
    clear hK c1 c2 kT k3 k4 k5 k6 hD ha hP hpv hrm b1 hr
    obtain ⟨y0, y1, y2⟩ := h1.box3 2 rfl
    obtain ⟨x0, x1, x2, x3⟩ := h1.box4 1 rfl
    rw [← Hr.out] at B1 ⊢
    go_enter Try.func46, Try.ntmps46
    go_wp2_with fail
    refine (l2Space_any p m p r m _ _ T D _ (h1.roInts 4 rfl) (h1.roInts 3 rfl) hp hq).mono ?_
    rintro (e : Ending) w1 ⟨rfl, hb1⟩
    replace h1 := h1.on hb1
    rw [B1.out]
    clear hb1 y0 y1 y2 x0 x1 x2 x3
    obtain ⟨y0, y1, y2⟩ := h1.box3 2 rfl
    obtain ⟨x0, x1, x2, x3⟩ := h1.box4 1 rfl
    go_wp2_with fail
    refine (HI.out _ _ _ _ (h1.roInts 4 rfl) (h1.roInts 3 rfl) (h1.roInts 3 rfl)).mono ?_
    rintro (e : Ending) w6 ⟨u6, rfl, ho6, hb6⟩
    obtain ⟨A7, c7, rfl, _, _, _⟩ := id ho6.ints
    have g3 := h1.pushOwn hb6 ho6
    clear ho6 hb6 y0 y1 y2 x0 x1 x2 x3
    obtain ⟨p0, p1, p2, p3⟩ := g3.box4 1 rfl
    have f0 := g3.free 1 rfl 0
    have f1 := g3.free 1 rfl 1
    have f2 := g3.free 1 rfl 2
    have f3 := g3.free 1 rfl 3
    have gz := (((g3.setBox 1 rfl 0 (.int .i64 p)).setBox 1 rfl 1 (.int .i64 K.length)).setBox 1 rfl 2 (.int .i64 m)).setBox 1 rfl 3 (.slice A7 (flat m K).length c7)
    obtain ⟨r0, r1, r2, r3⟩ := gz.box4 1 rfl
    go_wp2
    refine bodyPost_ret (v := .tuple #[.agg #[.int .i64 p, .int .i64 K.length, .int .i64 m, .slice A7 (flat m K).length c7], .bool true]) (by simp [results, Try.results46, go_sem, r0, r1, r2, r3]) rfl ⟨_, rfl, gz.own 0 rfl, gz.below⟩

set_option maxHeartbeats 1000000 in
theorem CentralizerOfI_any (p n q r c : Int) (t u : Value) (T D : List Int) (w : World) (ht : Ints w t T) (hu : Ints w u D) (hp : p ≤ 9223372036854775807) (hq : q ≤ 9223372036854775807) :
    Calls Try.prog 49 #[.agg #[.int .i64 p, .int .i64 n, t], .agg #[.int .i64 q, .int .i64 r, .int .i64 c, u]] w (RetMatB w (ctP p n T q r c D) (ctR false p n T q r c D) (ctC p n T q r c D) (ctD false p n T q r c D) (subOk p n T q r c D)) := by
  have h1 := ((((St.start w).arg ht).arg hu).box [.int .i64 p, .int .i64 n, t] 30).box [.int .i64 q, .int .i64 r, .int .i64 c, u] 32
  replace h1 := h1.box [.int .i64 0, .int .i64 0, .int .i64 0, .slice none 0 0] 32
  simp only [World.size_alloc] at h1
  obtain ⟨A, k, rfl, _, _, _⟩ := id ht
  obtain ⟨A1, k1, rfl, _, _, _⟩ := id hu
  clear ht hu
  by_cases b1 : subOk p n T q r c D = true
  case neg =>
    have b1 : subOk p n T q r c D = false := by simpa using b1
    rw [show ctP p n T q r c D = 0 by simp [ctP, b1], show ctR false p n T q r c D = 0 by simp [ctR, b1], show ctC p n T q r c D = 0 by simp [ctC, b1], show ctD false p n T q r c D = [] by simp [ctD, b1], b1]
    obtain ⟨y0, y1, y2⟩ := h1.box3 2 rfl
    obtain ⟨x0, x1, x2, x3⟩ := h1.box4 1 rfl
    go_enter Try.func49, Try.ntmps49
    go_wp2_with fail
    refine (isSubspaceOf_any p n q r c _ _ T D _ (h1.roInts 4 rfl) (h1.roInts 3 rfl) hp hq).mono ?_
    rintro (e : Ending) w1 ⟨rfl, hb1⟩
    replace h1 := h1.on hb1
    rw [b1]
    clear hb1 y0 y1 y2 x0 x1 x2 x3
    obtain ⟨p0, p1, p2, p3⟩ := h1.box4 0 rfl
    have f0 := h1.free 0 rfl 0
    have f1 := h1.free 0 rfl 1
    have f2 := h1.free 0 rfl 2
    have f3 := h1.free 0 rfl 3
    have h4 := (((h1.setBox 0 rfl 0 (.int .i64 0)).setBox 0 rfl 1 (.int .i64 0)).setBox 0 rfl 2 (.int .i64 0)).setBox 0 rfl 3 (.slice none 0 0)
    obtain ⟨r0, r1, r2, r3⟩ := h4.box4 0 rfl
    go_wp2
    refine bodyPost_ret (v := .tuple #[.agg #[.int .i64 0, .int .i64 0, .int .i64 0, .slice none 0 0], .bool false]) (by simp [results, Try.results49, go_sem, r0, r1, r2, r3]) rfl ⟨_, rfl, Own.nil, h4.below⟩
  case pos =>
    obtain ⟨c1, c2, e1, e2⟩ := subOk_spec b1
    subst q
    obtain ⟨m, rfl, kn, kT, k3, k4, k5, k6⟩ := algOk_spec c1
    subst c
    obtain ⟨d, R, a, ed, rfl, hD, ha, hR40, hd40, hP⟩ := spaceOk_rf c2
    have ed' : m = d := by omega
    subst ed'
    have hrm : rowsM ((R.length : Int)).toNat ((m : Int)).toNat D = R := by rw [Int.toNat_natCast, Int.toNat_natCast, hD]; exact rowsM_flat ha.wf
    have hpv := (spanL_self k6 ha).2
    obtain ⟨K, hK⟩ : ∃ K, K = ctL false T m p R := ⟨_, rfl⟩
    rw [show ctP p m T p R.length m D = p by simp [ctP, b1], show ctR false p m T p R.length m D = K.length by rw [ctR, if_pos b1, hrm, hK]; simp, show ctC p m T p R.length m D = m by simp [ctC, b1], show ctD false p m T p R.length m D = flat m K by rw [ctD, if_pos b1, hrm, hK]; simp, b1]
    obtain ⟨r, hr⟩ : ∃ r, r = R.length := ⟨_, rfl⟩
    have HI := Lib.hid (show ∀ (W : World) (v1 v2 : Value), Ints W v1 T → Ints W v2 D → Calls Try.prog 95 #[.agg #[.int .i64 p, .int .i64 m, v1], .agg #[.int .i64 p, .int .i64 r, .int .i64 m, v2], .agg #[.int .i64 p, .int .i64 0, .int .i64 m, .slice none 0 0]] W (RetMat W p K.length m (flat m K)) from fun W v1 v2 x1 x2 => by
      have := into_any p p p m v1 v2 (.slice none 0 0) T R [] [] W x1 (by rw [← hD]; exact x2) (by rw [flat_none]; exact Own.nil.ints (lo := 0)) kT ha.wf hR40 (Rf_none p m) kn k6 k3
      rw [hK, ctL, hr]
      simp only [Bool.false_eq_true, if_false]
      exact this)
    have HN := Lib.hid (fun W => newLie_any p m (.slice A T.length k) A T.length k W rfl)
    have B1 := Lib.hid b1
    have Hr := Lib.hid hr
    rw [← hr] at h1
    clear hK c1 c2 kT k3 k4 k5 k6 hD ha hP hpv hrm b1 hr
    obtain ⟨y0, y1, y2⟩ := h1.box3 2 rfl
    obtain ⟨x0, x1, x2, x3⟩ := h1.box4 1 rfl
    rw [← Hr.out] at B1 ⊢
    go_enter Try.func49, Try.ntmps49
    go_wp2_with fail
    refine (isSubspaceOf_any p m p r m _ _ T D _ (h1.roInts 4 rfl) (h1.roInts 3 rfl) hp hq).mono ?_
    rintro (e : Ending) w1 ⟨rfl, hb1⟩
    replace h1 := h1.on hb1
    rw [B1.out]
    clear hb1 y0 y1 y2 x0 x1 x2 x3
    go_upto_region 3 with fail
    have g0 := h1.drew
    clear h1
    refine wp_region_cut (S := fun w' => (w'.cell? ⟨w.heap.size, 0, none⟩ = some (.int .i64 p) ∧ w'.cell? ⟨w.heap.size, 1, none⟩ = some (.int .i64 m) ∧ w'.cell? ⟨w.heap.size, 2, none⟩ = some (.slice A T.length k)) ∧ (w'.cell? ⟨w.heap.size + 1, 0, none⟩ = some (.int .i64 p) ∧ w'.cell? ⟨w.heap.size + 1, 1, none⟩ = some (.int .i64 r) ∧ w'.cell? ⟨w.heap.size + 1, 2, none⟩ = some (.int .i64 m) ∧ w'.cell? ⟨w.heap.size + 1, 3, none⟩ = some (.slice A1 D.length k1))) 9 (by kernel_rfl) (by kernel_rfl) ⟨g0.box3 2 rfl, g0.box4 1 rfl⟩ (fun hHeld => ?_)
    simp only [List.take_succ_cons, List.take_zero]
    refine anyH_take (v := ?_) 0 rfl (by kernel_rfl) (by kernel_rfl) (by kernel_rfl) (fun _ _ _ h => h) rfl ?_ hHeld ?_
    rotate_left
    · intro w' hSw
      go_simp
      try with_reducible rfl
    try simp only [Act.put, List.setIfInBounds_toArray, List.set_cons_zero, List.set_cons_succ]
    refine anyH_take (v := ?_) 2 rfl (by kernel_rfl) (by kernel_rfl) (by kernel_rfl) (fun _ _ _ h => h) rfl ?_ hHeld ?_
    rotate_left
    · intro w' hSw
      go_simp
      try with_reducible rfl
    try simp only [Act.put, List.setIfInBounds_toArray, List.set_cons_zero, List.set_cons_succ]
    refine anyH_take (v := ?_) 3 rfl (by kernel_rfl) (by kernel_rfl) (by kernel_rfl) (fun _ _ _ h => h) rfl ?_ hHeld ?_
    rotate_left
    · intro w' hSw
      go_simp
      try with_reducible rfl
    try simp only [Act.put, List.setIfInBounds_toArray, List.set_cons_zero, List.set_cons_succ]
    refine anyH_take (v := ?_) 4 rfl (by kernel_rfl) (by kernel_rfl) (by kernel_rfl) (fun _ _ _ h => h) rfl ?_ hHeld ?_
    rotate_left
    · intro w' hSw
      go_simp
      try with_reducible rfl
    try simp only [Act.put, List.setIfInBounds_toArray, List.set_cons_zero, List.set_cons_succ]
    refine anyH_take (v := ?_) 5 rfl (by kernel_rfl) (by kernel_rfl) (by kernel_rfl) (fun _ _ _ h => h) rfl ?_ hHeld ?_
    rotate_left
    · intro w' hSw
      go_simp
      try with_reducible rfl
    try simp only [Act.put, List.setIfInBounds_toArray, List.set_cons_zero, List.set_cons_succ]
    refine anyH_take (v := ?_) 6 rfl (by kernel_rfl) (by kernel_rfl) (by kernel_rfl) (fun _ _ _ h => h) rfl ?_ hHeld ?_
    rotate_left
    · intro w' hSw
      go_simp
      try with_reducible rfl
    try simp only [Act.put, List.setIfInBounds_toArray, List.set_cons_zero, List.set_cons_succ]
    refine anyH_take (v := ?_) 7 rfl (by kernel_rfl) (by kernel_rfl) (by kernel_rfl) (fun _ _ _ h => h) rfl ?_ hHeld ?_
    rotate_left
    · intro w' hSw
      go_simp
      try with_reducible rfl
    try simp only [Act.put, List.setIfInBounds_toArray, List.set_cons_zero, List.set_cons_succ]
    refine wpAnyH_ready (rs := [1]) (by kernel_rfl) (by simp) ?_
    refine ready_cons rfl (fun K hK => ?_) AllReadyH.nil
    go_simp
    refine (HN.out _).mono ?_
    rintro (e : Ending) w5 ⟨rfl, hb5⟩
    have g2 := g0.on hb5
    show K _ _
    refine hK.out _ _ ?_ (fun hHeld => ?_)
    · exact ⟨g2.box3 2 rfl, g2.box4 1 rfl⟩
    clear hK K
    try simp only [Act.put, List.setIfInBounds_toArray, List.set_cons_zero, List.set_cons_succ]
    refine wpAnyH_ready (rs := [8]) (by kernel_rfl) (by simp) ?_
    refine ready_cons rfl (fun K hK => ?_) AllReadyH.nil
    go_simp
    refine (HI.out _ _ _ (g2.roInts 4 rfl) (g2.roInts 3 rfl)).mono ?_
    rintro (e : Ending) w6 ⟨u6, rfl, ho6, hb6⟩
    obtain ⟨A7, c7, rfl, _, _, _⟩ := id ho6.ints
    have g3 := g2.pushOwn hb6 ho6
    show K _ _
    refine hK.out _ _ ?_ (fun hHeld => ?_)
    · exact ⟨g3.box3 3 rfl, g3.box4 2 rfl⟩
    clear hK K
    try simp only [Act.put, List.setIfInBounds_toArray, List.set_cons_zero, List.set_cons_succ]
    refine wpAnyH_done (by kernel_rfl) ?_ _
    show wpList _ _ _ _ _ _
    simp only [List.drop_succ_cons, List.drop_zero]
    clear hHeld
    obtain ⟨p0, p1, p2, p3⟩ := g3.box4 1 rfl
    have f0 := g3.free 1 rfl 0
    have f1 := g3.free 1 rfl 1
    have f2 := g3.free 1 rfl 2
    have f3 := g3.free 1 rfl 3
    have gz := (((g3.setBox 1 rfl 0 (.int .i64 p)).setBox 1 rfl 1 (.int .i64 K.length)).setBox 1 rfl 2 (.int .i64 m)).setBox 1 rfl 3 (.slice A7 (flat m K).length c7)
    obtain ⟨r0, r1, r2, r3⟩ := gz.box4 1 rfl
    go_wp2
    refine bodyPost_ret (v := .tuple #[.agg #[.int .i64 p, .int .i64 K.length, .int .i64 m, .slice A7 (flat m K).length c7], .bool true]) (by simp [results, Try.results49, go_sem, r0, r1, r2, r3]) rfl ⟨_, rfl, gz.own 0 rfl, gz.below⟩

set_option maxHeartbeats 1000000 in
theorem NormalizerOfI_any (p n q r c : Int) (t u : Value) (T D : List Int) (w : World) (ht : Ints w t T) (hu : Ints w u D) (hp : p ≤ 9223372036854775807) (hq : q ≤ 9223372036854775807) :
    Calls Try.prog 47 #[.agg #[.int .i64 p, .int .i64 n, t], .agg #[.int .i64 q, .int .i64 r, .int .i64 c, u]] w (RetMatB w (ctP p n T q r c D) (ctR true p n T q r c D) (ctC p n T q r c D) (ctD true p n T q r c D) (subOk p n T q r c D)) := by
  have h1 := ((((St.start w).arg ht).arg hu).box [.int .i64 p, .int .i64 n, t] 30).box [.int .i64 q, .int .i64 r, .int .i64 c, u] 32
  replace h1 := h1.box [.int .i64 0, .int .i64 0, .int .i64 0, .slice none 0 0] 32
  simp only [World.size_alloc] at h1
  obtain ⟨A, k, rfl, _, _, _⟩ := id ht
  obtain ⟨A1, k1, rfl, _, _, _⟩ := id hu
  clear ht hu
  by_cases b1 : subOk p n T q r c D = true
  case neg =>
    have b1 : subOk p n T q r c D = false := by simpa using b1
    rw [show ctP p n T q r c D = 0 by simp [ctP, b1], show ctR true p n T q r c D = 0 by simp [ctR, b1], show ctC p n T q r c D = 0 by simp [ctC, b1], show ctD true p n T q r c D = [] by simp [ctD, b1], b1]
    obtain ⟨y0, y1, y2⟩ := h1.box3 2 rfl
    obtain ⟨x0, x1, x2, x3⟩ := h1.box4 1 rfl
    go_enter Try.func47, Try.ntmps47
    go_wp2_with fail
    refine (isSubspaceOf_any p n q r c _ _ T D _ (h1.roInts 4 rfl) (h1.roInts 3 rfl) hp hq).mono ?_
    rintro (e : Ending) w1 ⟨rfl, hb1⟩
    replace h1 := h1.on hb1
    rw [b1]
    clear hb1 y0 y1 y2 x0 x1 x2 x3
    obtain ⟨p0, p1, p2, p3⟩ := h1.box4 0 rfl
    have f0 := h1.free 0 rfl 0
    have f1 := h1.free 0 rfl 1
    have f2 := h1.free 0 rfl 2
    have f3 := h1.free 0 rfl 3
    have h4 := (((h1.setBox 0 rfl 0 (.int .i64 0)).setBox 0 rfl 1 (.int .i64 0)).setBox 0 rfl 2 (.int .i64 0)).setBox 0 rfl 3 (.slice none 0 0)
    obtain ⟨r0, r1, r2, r3⟩ := h4.box4 0 rfl
    go_wp2
    refine bodyPost_ret (v := .tuple #[.agg #[.int .i64 0, .int .i64 0, .int .i64 0, .slice none 0 0], .bool false]) (by simp [results, Try.results47, go_sem, r0, r1, r2, r3]) rfl ⟨_, rfl, Own.nil, h4.below⟩
  case pos =>
    obtain ⟨c1, c2, e1, e2⟩ := subOk_spec b1
    subst q
    obtain ⟨m, rfl, kn, kT, k3, k4, k5, k6⟩ := algOk_spec c1
    subst c
    obtain ⟨d, R, a, ed, rfl, hD, ha, hR40, hd40, hP⟩ := spaceOk_rf c2
    have ed' : m = d := by omega
    subst ed'
    have hrm : rowsM ((R.length : Int)).toNat ((m : Int)).toNat D = R := by rw [Int.toNat_natCast, Int.toNat_natCast, hD]; exact rowsM_flat ha.wf
    have hpv := (spanL_self k6 ha).2
    obtain ⟨K, hK⟩ : ∃ K, K = ctL true T m p R := ⟨_, rfl⟩
    rw [show ctP p m T p R.length m D = p by simp [ctP, b1], show ctR true p m T p R.length m D = K.length by rw [ctR, if_pos b1, hrm, hK]; simp, show ctC p m T p R.length m D = m by simp [ctC, b1], show ctD true p m T p R.length m D = flat m K by rw [ctD, if_pos b1, hrm, hK]; simp, b1]
    obtain ⟨r, hr⟩ : ∃ r, r = R.length := ⟨_, rfl⟩
    have HI := Lib.hid (show ∀ (W : World) (v1 v2 v3 : Value), Ints W v1 T → Ints W v2 D → Ints W v3 D → Calls Try.prog 95 #[.agg #[.int .i64 p, .int .i64 m, v1], .agg #[.int .i64 p, .int .i64 r, .int .i64 m, v2], .agg #[.int .i64 p, .int .i64 r, .int .i64 m, v3]] W (RetMat W p K.length m (flat m K)) from fun W v1 v2 v3 x1 x2 x3 => by
      have := into_any p p p m v1 v2 v3 T R R a W x1 (by rw [← hD]; exact x2) (by rw [← hD]; exact x3) kT ha.wf hR40 ha kn k6 k3
      rw [hK, ctL, hr]
      simp only [if_true]
      rw [hpv]
      exact this)
    have HN := Lib.hid (fun W => newLie_any p m (.slice A T.length k) A T.length k W rfl)
    have B1 := Lib.hid b1
    have Hr := Lib.hid hr
    rw [← hr] at h1
    clear hK c1 c2 kT k3 k4 k5 k6 hD ha hP hpv hrm b1 hr
    obtain ⟨y0, y1, y2⟩ := h1.box3 2 rfl
    obtain ⟨x0, x1, x2, x3⟩ := h1.box4 1 rfl
    rw [← Hr.out] at B1 ⊢
    go_enter Try.func47, Try.ntmps47
    go_wp2_with fail
    refine (isSubspaceOf_any p m p r m _ _ T D _ (h1.roInts 4 rfl) (h1.roInts 3 rfl) hp hq).mono ?_
    rintro (e : Ending) w1 ⟨rfl, hb1⟩
    replace h1 := h1.on hb1
    rw [B1.out]
    clear hb1 y0 y1 y2 x0 x1 x2 x3
    go_upto_region 3 with fail
    have g0 := h1.drew
    clear h1
    refine wp_region_cut (S := fun w' => (w'.cell? ⟨w.heap.size, 0, none⟩ = some (.int .i64 p) ∧ w'.cell? ⟨w.heap.size, 1, none⟩ = some (.int .i64 m) ∧ w'.cell? ⟨w.heap.size, 2, none⟩ = some (.slice A T.length k)) ∧ (w'.cell? ⟨w.heap.size + 1, 0, none⟩ = some (.int .i64 p) ∧ w'.cell? ⟨w.heap.size + 1, 1, none⟩ = some (.int .i64 r) ∧ w'.cell? ⟨w.heap.size + 1, 2, none⟩ = some (.int .i64 m) ∧ w'.cell? ⟨w.heap.size + 1, 3, none⟩ = some (.slice A1 D.length k1))) 5 (by kernel_rfl) (by kernel_rfl) ⟨g0.box3 2 rfl, g0.box4 1 rfl⟩ (fun hHeld => ?_)
    simp only [List.take_succ_cons, List.take_zero]
    refine anyH_take (v := ?_) 0 rfl (by kernel_rfl) (by kernel_rfl) (by kernel_rfl) (fun _ _ _ h => h) rfl ?_ hHeld ?_
    rotate_left
    · intro w' hSw
      go_simp
      try with_reducible rfl
    try simp only [Act.put, List.setIfInBounds_toArray, List.set_cons_zero, List.set_cons_succ]
    refine anyH_take (v := ?_) 2 rfl (by kernel_rfl) (by kernel_rfl) (by kernel_rfl) (fun _ _ _ h => h) rfl ?_ hHeld ?_
    rotate_left
    · intro w' hSw
      go_simp
      try with_reducible rfl
    try simp only [Act.put, List.setIfInBounds_toArray, List.set_cons_zero, List.set_cons_succ]
    refine anyH_take (v := ?_) 3 rfl (by kernel_rfl) (by kernel_rfl) (by kernel_rfl) (fun _ _ _ h => h) rfl ?_ hHeld ?_
    rotate_left
    · intro w' hSw
      go_simp
      try with_reducible rfl
    try simp only [Act.put, List.setIfInBounds_toArray, List.set_cons_zero, List.set_cons_succ]
    refine wpAnyH_ready (rs := [1]) (by kernel_rfl) (by simp) ?_
    refine ready_cons rfl (fun K hK => ?_) AllReadyH.nil
    go_simp
    refine (HN.out _).mono ?_
    rintro (e : Ending) w5 ⟨rfl, hb5⟩
    have g2 := g0.on hb5
    show K _ _
    refine hK.out _ _ ?_ (fun hHeld => ?_)
    · exact ⟨g2.box3 2 rfl, g2.box4 1 rfl⟩
    clear hK K
    try simp only [Act.put, List.setIfInBounds_toArray, List.set_cons_zero, List.set_cons_succ]
    refine wpAnyH_ready (rs := [4]) (by kernel_rfl) (by simp) ?_
    refine ready_cons rfl (fun K hK => ?_) AllReadyH.nil
    go_simp
    refine (HI.out _ _ _ _ (g2.roInts 4 rfl) (g2.roInts 3 rfl) (g2.roInts 3 rfl)).mono ?_
    rintro (e : Ending) w6 ⟨u6, rfl, ho6, hb6⟩
    obtain ⟨A7, c7, rfl, _, _, _⟩ := id ho6.ints
    have g3 := g2.pushOwn hb6 ho6
    show K _ _
    refine hK.out _ _ ?_ (fun hHeld => ?_)
    · exact ⟨g3.box3 3 rfl, g3.box4 2 rfl⟩
    clear hK K
    try simp only [Act.put, List.setIfInBounds_toArray, List.set_cons_zero, List.set_cons_succ]
    refine wpAnyH_done (by kernel_rfl) ?_ _
    show wpList _ _ _ _ _ _
    simp only [List.drop_succ_cons, List.drop_zero]
    clear hHeld
    obtain ⟨p0, p1, p2, p3⟩ := g3.box4 1 rfl
    have f0 := g3.free 1 rfl 0
    have f1 := g3.free 1 rfl 1
    have f2 := g3.free 1 rfl 2
    have f3 := g3.free 1 rfl 3
    have gz := (((g3.setBox 1 rfl 0 (.int .i64 p)).setBox 1 rfl 1 (.int .i64 K.length)).setBox 1 rfl 2 (.int .i64 m)).setBox 1 rfl 3 (.slice A7 (flat m K).length c7)
    obtain ⟨r0, r1, r2, r3⟩ := gz.box4 1 rfl
    go_wp2
    refine bodyPost_ret (v := .tuple #[.agg #[.int .i64 p, .int .i64 K.length, .int .i64 m, .slice A7 (flat m K).length c7], .bool true]) (by simp [results, Try.results47, go_sem, r0, r1, r2, r3]) rfl ⟨_, rfl, gz.own 0 rfl, gz.below⟩
end Go.Proofs.Ytechjmckfedblaa
