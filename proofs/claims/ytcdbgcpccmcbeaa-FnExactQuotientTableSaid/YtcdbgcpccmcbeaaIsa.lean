/- IsSubalgebra and IsIdeal of both programs. -/
import Derived.Test.YtcdbgcpccmcbeaaSolS
namespace Go.Proofs.Ytcdbgcpccmcbeaa
set_option maxRecDepth 100000
open Go.RowKit

/-- Subalgebras (false) and ideals (true). -/
def saB (k : Bool) (p : Int) (n : Nat) (T : List Int) (R : List (List Int)) : Bool := subB p R (pivL p n R) (stepS k T n p R)
def isaOk (k : Bool) (p n : Int) (T : List Int) (q r c : Int) (D : List Int) : Bool := subOk p n T q r c D && saB k p n.toNat T (rowsM r.toNat n.toNat D)
theorem stepS_rf {k : Bool} {T : List Int} {n : Nat} {p : Int} (hP : isPrime p = true) (R : List (List Int)) : Rf p n (stepS k T n p R) (pivL p n (if k then brR T n p (uniR n) R else brR T n p R R)) := spanL_rf hP (Wf_stepArg k T n (isPrime_bd hP).1 R)
theorem brR_unit (T : List Int) (n : Nat) (p : Int) (R : List (List Int)) : prodL T n p n (unitD n) R.length (flat n R) = brR T n p (uniR n) R := by
  rw [brR, length_uniR, flat_uniR]
theorem brR_unit2 (T : List Int) (n : Nat) (p : Int) (R : List (List Int)) : prodL T n p R.length (flat n R) n (unitD n) = brR T n p R (uniR n) := by
  rw [brR, length_uniR, flat_uniR]

set_option maxHeartbeats 4000000 in
theorem IsSubalgebraS_any (p n q r c : Int) (t u : Value) (T D : List Int) (w : World) (ht : Ints w t T) (hu : Ints w u D) (hp : p ≤ 9223372036854775807) (hq : q ≤ 9223372036854775807) :
    Calls Try.prog 74 #[.agg #[.int .i64 p, .int .i64 n, t], .agg #[.int .i64 q, .int .i64 r, .int .i64 c, u]] w (RetBool w (isaOk false p n T q r c D)) := by
  have h1 := ((((St.start w).arg ht).arg hu).box [.int .i64 p, .int .i64 n, t] 29).box [.int .i64 q, .int .i64 r, .int .i64 c, u] 33
  simp only [World.size_alloc] at h1
  obtain ⟨A, k, rfl, _, _, _⟩ := id ht
  obtain ⟨A3, k3, rfl, _, _, _⟩ := id hu
  have HI := Lib.hid (fun (W : World) (h1 : Ints W (.slice A T.length k) T) (h2 : Ints W (.slice A3 D.length k3) D) => l2Space_any p n q r c _ _ T D W h1 h2 hp hq)
  clear ht hu
  obtain ⟨B, hB⟩ : ∃ B, B = isaOk false p n T q r c D := ⟨_, rfl⟩
  rw [← hB]
  by_cases b1 : subOk p n T q r c D = true
  case neg =>
    have b1 : subOk p n T q r c D = false := by simpa using b1
    have HB := Lib.hid (show B = false by rw [hB, isaOk, b1, Bool.false_and])
    have B1 := Lib.hid b1
    clear b1 hB
    go_enter Try.func74, Try.ntmps74
    go_upto_region 1 with fail
    have g0 := h1.drew
    refine wp_region_held_drew (S := fun w' => (w'.cell? ⟨w.heap.size, 0, none⟩ = some (.int .i64 p) ∧ w'.cell? ⟨w.heap.size, 1, none⟩ = some (.int .i64 n) ∧ w'.cell? ⟨w.heap.size, 2, none⟩ = some (.slice A T.length k)) ∧ w'.cell? ⟨w.heap.size + 1, 0, none⟩ = some (.int .i64 q) ∧ w'.cell? ⟨w.heap.size + 1, 1, none⟩ = some (.int .i64 r) ∧ w'.cell? ⟨w.heap.size + 1, 2, none⟩ = some (.int .i64 c) ∧ w'.cell? ⟨w.heap.size + 1, 3, none⟩ = some (.slice A3 D.length k3)) (by kernel_rfl) ⟨g0.box3 1 rfl, g0.box4 0 rfl⟩ (fun hHeld => ?_)
    refine anyH_take (v := ?_) 0 rfl (by kernel_rfl) (by kernel_rfl) (by kernel_rfl) (fun _ _ _ h => h) rfl ?_ hHeld ?_
    rotate_left
    · intro w' hSw
      go_simp
      try with_reducible rfl
    try simp only [Act.put, List.setIfInBounds_toArray, List.set_cons_zero, List.set_cons_succ]
    refine anyH_take (v := ?_) 1 rfl (by kernel_rfl) (by kernel_rfl) (by kernel_rfl) (fun _ _ _ h => h) rfl ?_ hHeld ?_
    rotate_left
    · intro w' hSw
      go_simp
      try with_reducible rfl
    try simp only [Act.put, List.setIfInBounds_toArray, List.set_cons_zero, List.set_cons_succ]
    refine wpAnyH_ready (rs := [2]) (by kernel_rfl) (by simp) ?_
    refine ready_cons rfl (fun K hK => ?_) AllReadyH.nil
    go_simp
    refine (HI.out _ (g0.roInts 3 rfl) (g0.roInts 2 rfl)).mono ?_
    rintro (e : Ending) w1 ⟨rfl, hb1⟩
    have g1 := g0.on hb1
    rw [B1.out]
    clear hb1
    show K _ _
    refine hK.out _ _ ?_ (fun hHeld => ?_)
    · exact ⟨g1.box3 1 rfl, g1.box4 0 rfl⟩
    clear hK K
    try simp only [Act.put, List.setIfInBounds_toArray, List.set_cons_zero, List.set_cons_succ]
    refine anyH_take (v := ?_) 3 rfl (by kernel_rfl) (by kernel_rfl) (by kernel_rfl) (fun _ _ _ h => h) rfl ?_ hHeld ?_
    rotate_left
    · intro w' hSw
      go_simp
      try with_reducible rfl
    try simp only [Act.put, List.setIfInBounds_toArray, List.set_cons_zero, List.set_cons_succ]
    refine anyH_skip 4 rfl (by kernel_rfl) (by kernel_rfl) (by kernel_rfl) (fun _ _ _ h => h) rfl hHeld ?_
    try simp only [Act.put, List.setIfInBounds_toArray, List.set_cons_zero, List.set_cons_succ]
    refine anyH_skip 5 rfl (by kernel_rfl) (by kernel_rfl) (by kernel_rfl) (fun _ _ _ h => h) rfl hHeld ?_
    try simp only [Act.put, List.setIfInBounds_toArray, List.set_cons_zero, List.set_cons_succ]
    refine anyH_skip 6 rfl (by kernel_rfl) (by kernel_rfl) (by kernel_rfl) (fun _ _ _ h => h) rfl hHeld ?_
    try simp only [Act.put, List.setIfInBounds_toArray, List.set_cons_zero, List.set_cons_succ]
    refine anyH_skip 7 rfl (by kernel_rfl) (by kernel_rfl) (by kernel_rfl) (fun _ _ _ h => h) rfl hHeld ?_
    try simp only [Act.put, List.setIfInBounds_toArray, List.set_cons_zero, List.set_cons_succ]
    refine anyH_skip 8 rfl (by kernel_rfl) (by kernel_rfl) (by kernel_rfl) (fun _ _ _ h => h) rfl hHeld ?_
    try simp only [Act.put, List.setIfInBounds_toArray, List.set_cons_zero, List.set_cons_succ]
    refine anyH_skip 9 rfl (by kernel_rfl) (by kernel_rfl) (by kernel_rfl) (fun _ _ _ h => h) rfl hHeld ?_
    try simp only [Act.put, List.setIfInBounds_toArray, List.set_cons_zero, List.set_cons_succ]
    refine anyH_take (v := ?_) 10 rfl (by kernel_rfl) (by kernel_rfl) (by kernel_rfl) (fun _ _ _ h => h) rfl ?_ hHeld ?_
    rotate_left
    · intro w' hSw
      go_simp
      try with_reducible rfl
    try simp only [Act.put, List.setIfInBounds_toArray, List.set_cons_zero, List.set_cons_succ]
    refine anyH_take (v := ?_) 11 rfl (by kernel_rfl) (by kernel_rfl) (by kernel_rfl) (fun _ _ _ h => h) rfl ?_ hHeld ?_
    rotate_left
    · intro w' hSw
      go_simp
      try with_reducible rfl
    try simp only [Act.put, List.setIfInBounds_toArray, List.set_cons_zero, List.set_cons_succ]
    refine wpAnyH_done (by kernel_rfl) ?_ _
    clear hHeld
    go_wp2
    go_ret
    exact ⟨ret_bool HB.out.symm, g1.below⟩
  obtain ⟨c1, c2, e1, e2⟩ := subOk_spec b1
  subst q
  obtain ⟨m, rfl, k1, kT, k3', k4, k5, k6⟩ := algOk_spec c1
  subst c
  obtain ⟨d, R, a, ed, rfl, hD, ha, hR40, hd40, hP⟩ := spaceOk_rf c2
  have ed' : m = d := by omega
  subst ed'
  have hpv := (spanL_self k6 ha).2
  have hrm : rowsM ((R.length : Int)).toNat ((m : Int)).toNat D = R := by rw [Int.toNat_natCast, Int.toNat_natCast, hD]; exact rowsM_flat ha.wf
  have hbB : B = subB p R a (stepS false T m p R) := by rw [hB, isaOk, b1, Bool.true_and, hrm, saB, Int.toNat_natCast, hpv]
  have hsr := stepS_rf (k := false) (T := T) (n := m) k6 R
  have hsl := rf_le_n k4 hsr
  have hRn := rf_le_n k4 ha
  obtain ⟨Q, hQ⟩ : ∃ Q, Q = stepS false T m p R := ⟨_, rfl⟩
  obtain ⟨l, hl⟩ : ∃ l, l = Q.length := ⟨_, rfl⟩
  obtain ⟨r, hr⟩ : ∃ r, r = R.length := ⟨_, rfl⟩
  rw [← hQ] at hbB hsr hsl
  have hDl : D.length = r * m := by rw [hD, length_flat, hr]
  have hDr : resid p D = true := by rw [hD]; exact resid_flat (by omega) ha.wf
  have HP := Lib.hid (show ∀ (W : World), Ints W (.slice A T.length k) T → Ints W (.slice A3 D.length k3) D → Calls Try.prog 64 #[.agg #[.int .i64 p, .int .i64 m, .slice A T.length k], .agg #[.int .i64 p, .int .i64 r, .int .i64 m, .slice A3 D.length k3], .agg #[.int .i64 p, .int .i64 r, .int .i64 m, .slice A3 D.length k3]] W (RetMat W p l m (flat m Q)) from fun W x1 x2 => by
    have := l2Product_any p p p m r r _ _ _ T D D W x1 x2 x2 kT hDl hDl k1 (by omega) (by omega) k6 k3' hDr hDr
    rw [hl, hQ]
    have e9 : stepS false T m p R = spanL p m (prodL T m p r D r D) := by rw [hD, hr]; rfl
    rw [e9]
    exact this)
  have HW := Lib.hid (show ∀ (W : World) (v1 : Value), Ints W v1 (flat m Q) → Ints W (.slice A3 D.length k3) D → Calls Try.prog 146 #[.agg #[.int .i64 p, .int .i64 l, .int .i64 m, v1], .agg #[.int .i64 p, .int .i64 r, .int .i64 m, .slice A3 D.length k3]] W (RetBool W (subB p R a Q)) from fun W v1 x1 x2 => by
    have x3 : Ints W (.slice A3 D.length k3) (flat m R) := by rw [← hD]; exact x2
    rw [hl, hr]
    exact l1Within_any p m v1 _ Q R W x1 x3 hsr.wf ha (by omega) (by omega) k6)
  have HbB := Lib.hid hbB
  have B1 := Lib.hid b1
  rw [← hr] at HI B1 h1 ⊢
  clear hB c1 c2 kT k3' k4 k5 k6 hD ha hP hpv hrm hsr hsl hRn hQ hl hr hDl hDr hbB b1
  go_enter Try.func74, Try.ntmps74
  go_upto_region 1 with fail
  have g0 := h1.drew
  refine wp_region_held_drew (S := fun w' => (w'.cell? ⟨w.heap.size, 0, none⟩ = some (.int .i64 p) ∧ w'.cell? ⟨w.heap.size, 1, none⟩ = some (.int .i64 m) ∧ w'.cell? ⟨w.heap.size, 2, none⟩ = some (.slice A T.length k)) ∧ w'.cell? ⟨w.heap.size + 1, 0, none⟩ = some (.int .i64 p) ∧ w'.cell? ⟨w.heap.size + 1, 1, none⟩ = some (.int .i64 r) ∧ w'.cell? ⟨w.heap.size + 1, 2, none⟩ = some (.int .i64 m) ∧ w'.cell? ⟨w.heap.size + 1, 3, none⟩ = some (.slice A3 D.length k3)) (by kernel_rfl) ⟨g0.box3 1 rfl, g0.box4 0 rfl⟩ (fun hHeld => ?_)
  refine anyH_take (v := ?_) 0 rfl (by kernel_rfl) (by kernel_rfl) (by kernel_rfl) (fun _ _ _ h => h) rfl ?_ hHeld ?_
  rotate_left
  · intro w' hSw
    go_simp
    try with_reducible rfl
  try simp only [Act.put, List.setIfInBounds_toArray, List.set_cons_zero, List.set_cons_succ]
  refine anyH_take (v := ?_) 1 rfl (by kernel_rfl) (by kernel_rfl) (by kernel_rfl) (fun _ _ _ h => h) rfl ?_ hHeld ?_
  rotate_left
  · intro w' hSw
    go_simp
    try with_reducible rfl
  try simp only [Act.put, List.setIfInBounds_toArray, List.set_cons_zero, List.set_cons_succ]
  refine wpAnyH_ready (rs := [2]) (by kernel_rfl) (by simp) ?_
  refine ready_cons rfl (fun K hK => ?_) AllReadyH.nil
  go_simp
  refine (HI.out _ (g0.roInts 3 rfl) (g0.roInts 2 rfl)).mono ?_
  rintro (e : Ending) w1 ⟨rfl, hb1⟩
  have g1 := g0.on hb1
  rw [B1.out]
  clear hb1
  show K _ _
  refine hK.out _ _ ?_ (fun hHeld => ?_)
  · exact ⟨g1.box3 1 rfl, g1.box4 0 rfl⟩
  clear hK K
  try simp only [Act.put, List.setIfInBounds_toArray, List.set_cons_zero, List.set_cons_succ]
  refine anyH_take (v := ?_) 3 rfl (by kernel_rfl) (by kernel_rfl) (by kernel_rfl) (fun _ _ _ h => h) rfl ?_ hHeld ?_
  rotate_left
  · intro w' hSw
    go_simp
    try with_reducible rfl
  try simp only [Act.put, List.setIfInBounds_toArray, List.set_cons_zero, List.set_cons_succ]
  refine anyH_take (v := ?_) 4 rfl (by kernel_rfl) (by kernel_rfl) (by kernel_rfl) (fun _ _ _ h => h) rfl ?_ hHeld ?_
  rotate_left
  · intro w' hSw
    go_simp
    try with_reducible rfl
  try simp only [Act.put, List.setIfInBounds_toArray, List.set_cons_zero, List.set_cons_succ]
  refine anyH_take (v := ?_) 5 rfl (by kernel_rfl) (by kernel_rfl) (by kernel_rfl) (fun _ _ _ h => h) rfl ?_ hHeld ?_
  rotate_left
  · intro w' hSw
    go_simp
    try with_reducible rfl
  try simp only [Act.put, List.setIfInBounds_toArray, List.set_cons_zero, List.set_cons_succ]
  refine anyH_take (v := ?_) 6 rfl (by kernel_rfl) (by kernel_rfl) (by kernel_rfl) (fun _ _ _ h => h) rfl ?_ hHeld ?_
  rotate_left
  · intro w' hSw
    go_simp
    try with_reducible rfl
  try simp only [Act.put, List.setIfInBounds_toArray, List.set_cons_zero, List.set_cons_succ]
  refine anyH_take (v := ?_) 8 rfl (by kernel_rfl) (by kernel_rfl) (by kernel_rfl) (fun _ _ _ h => h) rfl ?_ hHeld ?_
  rotate_left
  · intro w' hSw
    go_simp
    try with_reducible rfl
  try simp only [Act.put, List.setIfInBounds_toArray, List.set_cons_zero, List.set_cons_succ]
  refine wpAnyH_ready (rs := [7]) (by kernel_rfl) (by simp) ?_
  refine ready_cons rfl (fun K hK => ?_) AllReadyH.nil
  go_simp
  refine (HP.out _ (g1.roInts 3 rfl) (g1.roInts 2 rfl)).mono ?_
  rintro (e : Ending) w7 ⟨u7, rfl, ho7, hb7⟩
  obtain ⟨A79, n7, c7, rfl⟩ := ho7.slice
  have g2 := g1.pushOwn hb7 ho7
  show K _ _
  refine hK.out _ _ ?_ (fun hHeld => ?_)
  · exact ⟨g2.box3 2 rfl, g2.box4 1 rfl⟩
  clear hK K
  try simp only [Act.put, List.setIfInBounds_toArray, List.set_cons_zero, List.set_cons_succ]
  refine wpAnyH_ready (rs := [9]) (by kernel_rfl) (by simp) ?_
  refine ready_cons rfl (fun K hK => ?_) AllReadyH.nil
  go_simp
  refine (HW.out _ _ (g2.ownInts 0 rfl) (g2.roInts 3 rfl)).mono ?_
  rintro (e : Ending) w9 ⟨rfl, hb9⟩
  have gz := g2.on hb9
  rw [← HbB.out]
  show K _ _
  refine hK.out _ _ ?_ (fun hHeld => ?_)
  · exact ⟨gz.box3 2 rfl, gz.box4 1 rfl⟩
  clear hK K
  try simp only [Act.put, List.setIfInBounds_toArray, List.set_cons_zero, List.set_cons_succ]
  refine anyH_take (v := ?_) 10 rfl (by kernel_rfl) (by kernel_rfl) (by kernel_rfl) (fun _ _ _ h => h) rfl ?_ hHeld ?_
  rotate_left
  · intro w' hSw
    go_simp
    try with_reducible rfl
  try simp only [Act.put, List.setIfInBounds_toArray, List.set_cons_zero, List.set_cons_succ]
  refine anyH_take (v := ?_) 11 rfl (by kernel_rfl) (by kernel_rfl) (by kernel_rfl) (fun _ _ _ h => h) rfl ?_ hHeld ?_
  rotate_left
  · intro w' hSw
    go_simp
    try with_reducible rfl
  try simp only [Act.put, List.setIfInBounds_toArray, List.set_cons_zero, List.set_cons_succ]
  refine wpAnyH_done (by kernel_rfl) ?_ _
  clear hHeld
  go_wp2
  go_ret
  exact ⟨rfl, gz.below⟩

set_option maxHeartbeats 4000000 in
theorem IsIdealS_any (p n q r c : Int) (t u : Value) (T D : List Int) (w : World) (ht : Ints w t T) (hu : Ints w u D) (hp : p ≤ 9223372036854775807) (hq : q ≤ 9223372036854775807) :
    Calls Try.prog 89 #[.agg #[.int .i64 p, .int .i64 n, t], .agg #[.int .i64 q, .int .i64 r, .int .i64 c, u]] w (RetBool w (isaOk true p n T q r c D)) := by
  have h1 := ((((St.start w).arg ht).arg hu).box [.int .i64 p, .int .i64 n, t] 29).box [.int .i64 q, .int .i64 r, .int .i64 c, u] 33
  simp only [World.size_alloc] at h1
  obtain ⟨A, k, rfl, _, _, _⟩ := id ht
  obtain ⟨A3, k3, rfl, _, _, _⟩ := id hu
  have HI := Lib.hid (fun (W : World) (h1 : Ints W (.slice A T.length k) T) (h2 : Ints W (.slice A3 D.length k3) D) => l2Space_any p n q r c _ _ T D W h1 h2 hp hq)
  clear ht hu
  obtain ⟨B, hB⟩ : ∃ B, B = isaOk true p n T q r c D := ⟨_, rfl⟩
  rw [← hB]
  by_cases b1 : subOk p n T q r c D = true
  case neg =>
    have b1 : subOk p n T q r c D = false := by simpa using b1
    have HB := Lib.hid (show B = false by rw [hB, isaOk, b1, Bool.false_and])
    have B1 := Lib.hid b1
    clear b1 hB
    go_enter Try.func89, Try.ntmps89
    go_upto_region 1 with fail
    have g0 := h1.drew
    refine wp_region_held_drew (S := fun w' => (w'.cell? ⟨w.heap.size, 0, none⟩ = some (.int .i64 p) ∧ w'.cell? ⟨w.heap.size, 1, none⟩ = some (.int .i64 n) ∧ w'.cell? ⟨w.heap.size, 2, none⟩ = some (.slice A T.length k)) ∧ w'.cell? ⟨w.heap.size + 1, 0, none⟩ = some (.int .i64 q) ∧ w'.cell? ⟨w.heap.size + 1, 1, none⟩ = some (.int .i64 r) ∧ w'.cell? ⟨w.heap.size + 1, 2, none⟩ = some (.int .i64 c) ∧ w'.cell? ⟨w.heap.size + 1, 3, none⟩ = some (.slice A3 D.length k3)) (by kernel_rfl) ⟨g0.box3 1 rfl, g0.box4 0 rfl⟩ (fun hHeld => ?_)
    refine anyH_take (v := ?_) 0 rfl (by kernel_rfl) (by kernel_rfl) (by kernel_rfl) (fun _ _ _ h => h) rfl ?_ hHeld ?_
    rotate_left
    · intro w' hSw
      go_simp
      try with_reducible rfl
    try simp only [Act.put, List.setIfInBounds_toArray, List.set_cons_zero, List.set_cons_succ]
    refine anyH_take (v := ?_) 1 rfl (by kernel_rfl) (by kernel_rfl) (by kernel_rfl) (fun _ _ _ h => h) rfl ?_ hHeld ?_
    rotate_left
    · intro w' hSw
      go_simp
      try with_reducible rfl
    try simp only [Act.put, List.setIfInBounds_toArray, List.set_cons_zero, List.set_cons_succ]
    refine wpAnyH_ready (rs := [2]) (by kernel_rfl) (by simp) ?_
    refine ready_cons rfl (fun K hK => ?_) AllReadyH.nil
    go_simp
    refine (HI.out _ (g0.roInts 3 rfl) (g0.roInts 2 rfl)).mono ?_
    rintro (e : Ending) w1 ⟨rfl, hb1⟩
    have g1 := g0.on hb1
    rw [B1.out]
    clear hb1
    show K _ _
    refine hK.out _ _ ?_ (fun hHeld => ?_)
    · exact ⟨g1.box3 1 rfl, g1.box4 0 rfl⟩
    clear hK K
    try simp only [Act.put, List.setIfInBounds_toArray, List.set_cons_zero, List.set_cons_succ]
    refine anyH_take (v := ?_) 3 rfl (by kernel_rfl) (by kernel_rfl) (by kernel_rfl) (fun _ _ _ h => h) rfl ?_ hHeld ?_
    rotate_left
    · intro w' hSw
      go_simp
      try with_reducible rfl
    try simp only [Act.put, List.setIfInBounds_toArray, List.set_cons_zero, List.set_cons_succ]
    refine anyH_skip 4 rfl (by kernel_rfl) (by kernel_rfl) (by kernel_rfl) (fun _ _ _ h => h) rfl hHeld ?_
    try simp only [Act.put, List.setIfInBounds_toArray, List.set_cons_zero, List.set_cons_succ]
    refine anyH_skip 5 rfl (by kernel_rfl) (by kernel_rfl) (by kernel_rfl) (fun _ _ _ h => h) rfl hHeld ?_
    try simp only [Act.put, List.setIfInBounds_toArray, List.set_cons_zero, List.set_cons_succ]
    refine anyH_skip 6 rfl (by kernel_rfl) (by kernel_rfl) (by kernel_rfl) (fun _ _ _ h => h) rfl hHeld ?_
    try simp only [Act.put, List.setIfInBounds_toArray, List.set_cons_zero, List.set_cons_succ]
    refine anyH_skip 7 rfl (by kernel_rfl) (by kernel_rfl) (by kernel_rfl) (fun _ _ _ h => h) rfl hHeld ?_
    try simp only [Act.put, List.setIfInBounds_toArray, List.set_cons_zero, List.set_cons_succ]
    refine anyH_skip 8 rfl (by kernel_rfl) (by kernel_rfl) (by kernel_rfl) (fun _ _ _ h => h) rfl hHeld ?_
    try simp only [Act.put, List.setIfInBounds_toArray, List.set_cons_zero, List.set_cons_succ]
    refine anyH_skip 9 rfl (by kernel_rfl) (by kernel_rfl) (by kernel_rfl) (fun _ _ _ h => h) rfl hHeld ?_
    try simp only [Act.put, List.setIfInBounds_toArray, List.set_cons_zero, List.set_cons_succ]
    refine anyH_skip 10 rfl (by kernel_rfl) (by kernel_rfl) (by kernel_rfl) (fun _ _ _ h => h) rfl hHeld ?_
    try simp only [Act.put, List.setIfInBounds_toArray, List.set_cons_zero, List.set_cons_succ]
    refine anyH_take (v := ?_) 11 rfl (by kernel_rfl) (by kernel_rfl) (by kernel_rfl) (fun _ _ _ h => h) rfl ?_ hHeld ?_
    rotate_left
    · intro w' hSw
      go_simp
      try with_reducible rfl
    try simp only [Act.put, List.setIfInBounds_toArray, List.set_cons_zero, List.set_cons_succ]
    refine anyH_take (v := ?_) 12 rfl (by kernel_rfl) (by kernel_rfl) (by kernel_rfl) (fun _ _ _ h => h) rfl ?_ hHeld ?_
    rotate_left
    · intro w' hSw
      go_simp
      try with_reducible rfl
    try simp only [Act.put, List.setIfInBounds_toArray, List.set_cons_zero, List.set_cons_succ]
    refine wpAnyH_done (by kernel_rfl) ?_ _
    clear hHeld
    go_wp2
    go_ret
    exact ⟨ret_bool HB.out.symm, g1.below⟩
  obtain ⟨c1, c2, e1, e2⟩ := subOk_spec b1
  subst q
  obtain ⟨m, rfl, k1, kT, k3', k4, k5, k6⟩ := algOk_spec c1
  subst c
  obtain ⟨d, R, a, ed, rfl, hD, ha, hR40, hd40, hP⟩ := spaceOk_rf c2
  have ed' : m = d := by omega
  subst ed'
  have hpv := (spanL_self k6 ha).2
  have hrm : rowsM ((R.length : Int)).toNat ((m : Int)).toNat D = R := by rw [Int.toNat_natCast, Int.toNat_natCast, hD]; exact rowsM_flat ha.wf
  have hbB : B = subB p R a (stepS true T m p R) := by rw [hB, isaOk, b1, Bool.true_and, hrm, saB, Int.toNat_natCast, hpv]
  have hsr := stepS_rf (k := true) (T := T) (n := m) k6 R
  have hsl := rf_le_n k4 hsr
  have hRn := rf_le_n k4 ha
  obtain ⟨Q, hQ⟩ : ∃ Q, Q = stepS true T m p R := ⟨_, rfl⟩
  obtain ⟨l, hl⟩ : ∃ l, l = Q.length := ⟨_, rfl⟩
  obtain ⟨r, hr⟩ : ∃ r, r = R.length := ⟨_, rfl⟩
  rw [← hQ] at hbB hsr hsl
  have hDl : D.length = r * m := by rw [hD, length_flat, hr]
  have hDr : resid p D = true := by rw [hD]; exact resid_flat (by omega) ha.wf
  have HU := Lib.hid (fun W => l2All_any p m A T.length k W k6 (by omega))
  have HP := Lib.hid (show ∀ (W : World) (v1 : Value), Ints W (.slice A T.length k) T → Ints W v1 (unitD m) → Ints W (.slice A3 D.length k3) D → Calls Try.prog 64 #[.agg #[.int .i64 p, .int .i64 m, .slice A T.length k], .agg #[.int .i64 p, .int .i64 m, .int .i64 m, v1], .agg #[.int .i64 p, .int .i64 r, .int .i64 m, .slice A3 D.length k3]] W (RetMat W p l m (flat m Q)) from fun W v1 x1 x2 x3 => by
    have := l2Product_any p p p m m r _ _ _ T (unitD m) D W x1 x2 x3 kT (length_unitD m) hDl k1 (by omega) (by omega) k6 k3' (resid_unitD k4 m) hDr
    rw [hl, hQ]
    have e9 : stepS true T m p R = spanL p m (prodL T m p m (unitD m) r D) := by rw [hD, hr, brR_unit]; rfl
    rw [e9]
    exact this)
  have HW := Lib.hid (show ∀ (W : World) (v1 : Value), Ints W v1 (flat m Q) → Ints W (.slice A3 D.length k3) D → Calls Try.prog 146 #[.agg #[.int .i64 p, .int .i64 l, .int .i64 m, v1], .agg #[.int .i64 p, .int .i64 r, .int .i64 m, .slice A3 D.length k3]] W (RetBool W (subB p R a Q)) from fun W v1 x1 x2 => by
    have x3 : Ints W (.slice A3 D.length k3) (flat m R) := by rw [← hD]; exact x2
    rw [hl, hr]
    exact l1Within_any p m v1 _ Q R W x1 x3 hsr.wf ha (by omega) (by omega) k6)
  have HbB := Lib.hid hbB
  have B1 := Lib.hid b1
  rw [← hr] at HI B1 h1 ⊢
  clear hB c1 c2 kT k3' k4 k5 k6 hD ha hP hpv hrm hsr hsl hRn hQ hl hr hDl hDr hbB b1
  go_enter Try.func89, Try.ntmps89
  go_upto_region 1 with fail
  have g0 := h1.drew
  refine wp_region_held_drew (S := fun w' => (w'.cell? ⟨w.heap.size, 0, none⟩ = some (.int .i64 p) ∧ w'.cell? ⟨w.heap.size, 1, none⟩ = some (.int .i64 m) ∧ w'.cell? ⟨w.heap.size, 2, none⟩ = some (.slice A T.length k)) ∧ w'.cell? ⟨w.heap.size + 1, 0, none⟩ = some (.int .i64 p) ∧ w'.cell? ⟨w.heap.size + 1, 1, none⟩ = some (.int .i64 r) ∧ w'.cell? ⟨w.heap.size + 1, 2, none⟩ = some (.int .i64 m) ∧ w'.cell? ⟨w.heap.size + 1, 3, none⟩ = some (.slice A3 D.length k3)) (by kernel_rfl) ⟨g0.box3 1 rfl, g0.box4 0 rfl⟩ (fun hHeld => ?_)
  refine anyH_take (v := ?_) 0 rfl (by kernel_rfl) (by kernel_rfl) (by kernel_rfl) (fun _ _ _ h => h) rfl ?_ hHeld ?_
  rotate_left
  · intro w' hSw
    go_simp
    try with_reducible rfl
  try simp only [Act.put, List.setIfInBounds_toArray, List.set_cons_zero, List.set_cons_succ]
  refine anyH_take (v := ?_) 1 rfl (by kernel_rfl) (by kernel_rfl) (by kernel_rfl) (fun _ _ _ h => h) rfl ?_ hHeld ?_
  rotate_left
  · intro w' hSw
    go_simp
    try with_reducible rfl
  try simp only [Act.put, List.setIfInBounds_toArray, List.set_cons_zero, List.set_cons_succ]
  refine wpAnyH_ready (rs := [2]) (by kernel_rfl) (by simp) ?_
  refine ready_cons rfl (fun K hK => ?_) AllReadyH.nil
  go_simp
  refine (HI.out _ (g0.roInts 3 rfl) (g0.roInts 2 rfl)).mono ?_
  rintro (e : Ending) w1 ⟨rfl, hb1⟩
  have g1 := g0.on hb1
  rw [B1.out]
  clear hb1
  show K _ _
  refine hK.out _ _ ?_ (fun hHeld => ?_)
  · exact ⟨g1.box3 1 rfl, g1.box4 0 rfl⟩
  clear hK K
  try simp only [Act.put, List.setIfInBounds_toArray, List.set_cons_zero, List.set_cons_succ]
  refine anyH_take (v := ?_) 3 rfl (by kernel_rfl) (by kernel_rfl) (by kernel_rfl) (fun _ _ _ h => h) rfl ?_ hHeld ?_
  rotate_left
  · intro w' hSw
    go_simp
    try with_reducible rfl
  try simp only [Act.put, List.setIfInBounds_toArray, List.set_cons_zero, List.set_cons_succ]
  refine anyH_take (v := ?_) 4 rfl (by kernel_rfl) (by kernel_rfl) (by kernel_rfl) (fun _ _ _ h => h) rfl ?_ hHeld ?_
  rotate_left
  · intro w' hSw
    go_simp
    try with_reducible rfl
  try simp only [Act.put, List.setIfInBounds_toArray, List.set_cons_zero, List.set_cons_succ]
  refine anyH_take (v := ?_) 5 rfl (by kernel_rfl) (by kernel_rfl) (by kernel_rfl) (fun _ _ _ h => h) rfl ?_ hHeld ?_
  rotate_left
  · intro w' hSw
    go_simp
    try with_reducible rfl
  try simp only [Act.put, List.setIfInBounds_toArray, List.set_cons_zero, List.set_cons_succ]
  refine anyH_take (v := ?_) 7 rfl (by kernel_rfl) (by kernel_rfl) (by kernel_rfl) (fun _ _ _ h => h) rfl ?_ hHeld ?_
  rotate_left
  · intro w' hSw
    go_simp
    try with_reducible rfl
  try simp only [Act.put, List.setIfInBounds_toArray, List.set_cons_zero, List.set_cons_succ]
  refine anyH_take (v := ?_) 9 rfl (by kernel_rfl) (by kernel_rfl) (by kernel_rfl) (fun _ _ _ h => h) rfl ?_ hHeld ?_
  rotate_left
  · intro w' hSw
    go_simp
    try with_reducible rfl
  try simp only [Act.put, List.setIfInBounds_toArray, List.set_cons_zero, List.set_cons_succ]
  refine wpAnyH_ready (rs := [6]) (by kernel_rfl) (by simp) ?_
  refine ready_cons rfl (fun K hK => ?_) AllReadyH.nil
  go_simp
  refine (HU.out _).mono ?_
  rintro (e : Ending) w6 ⟨u6, rfl, ho6, hb6⟩
  obtain ⟨A69, n6, c6, rfl⟩ := ho6.slice
  have g2 := g1.pushOwn hb6 ho6
  show K _ _
  refine hK.out _ _ ?_ (fun hHeld => ?_)
  · exact ⟨g2.box3 2 rfl, g2.box4 1 rfl⟩
  clear hK K
  try simp only [Act.put, List.setIfInBounds_toArray, List.set_cons_zero, List.set_cons_succ]
  refine wpAnyH_ready (rs := [8]) (by kernel_rfl) (by simp) ?_
  refine ready_cons rfl (fun K hK => ?_) AllReadyH.nil
  go_simp
  refine (HP.out _ _ (g2.roInts 4 rfl) (g2.ownInts 0 rfl) (g2.roInts 3 rfl)).mono ?_
  rintro (e : Ending) w8 ⟨u8, rfl, ho8, hb8⟩
  obtain ⟨A89, n8, c8, rfl⟩ := ho8.slice
  have g3 := g2.pushOwn hb8 ho8
  show K _ _
  refine hK.out _ _ ?_ (fun hHeld => ?_)
  · exact ⟨g3.box3 3 rfl, g3.box4 2 rfl⟩
  clear hK K
  try simp only [Act.put, List.setIfInBounds_toArray, List.set_cons_zero, List.set_cons_succ]
  refine wpAnyH_ready (rs := [10]) (by kernel_rfl) (by simp) ?_
  refine ready_cons rfl (fun K hK => ?_) AllReadyH.nil
  go_simp
  refine (HW.out _ _ (g3.ownInts 0 rfl) (g3.roInts 4 rfl)).mono ?_
  rintro (e : Ending) w10 ⟨rfl, hb10⟩
  have gz := g3.on hb10
  rw [← HbB.out]
  show K _ _
  refine hK.out _ _ ?_ (fun hHeld => ?_)
  · exact ⟨gz.box3 3 rfl, gz.box4 2 rfl⟩
  clear hK K
  try simp only [Act.put, List.setIfInBounds_toArray, List.set_cons_zero, List.set_cons_succ]
  refine anyH_take (v := ?_) 11 rfl (by kernel_rfl) (by kernel_rfl) (by kernel_rfl) (fun _ _ _ h => h) rfl ?_ hHeld ?_
  rotate_left
  · intro w' hSw
    go_simp
    try with_reducible rfl
  try simp only [Act.put, List.setIfInBounds_toArray, List.set_cons_zero, List.set_cons_succ]
  refine anyH_take (v := ?_) 12 rfl (by kernel_rfl) (by kernel_rfl) (by kernel_rfl) (fun _ _ _ h => h) rfl ?_ hHeld ?_
  rotate_left
  · intro w' hSw
    go_simp
    try with_reducible rfl
  try simp only [Act.put, List.setIfInBounds_toArray, List.set_cons_zero, List.set_cons_succ]
  refine wpAnyH_done (by kernel_rfl) ?_ _
  clear hHeld
  go_wp2
  go_ret
  exact ⟨rfl, gz.below⟩

set_option maxHeartbeats 4000000 in
theorem IsSubalgebraI_any (p n q r c : Int) (t u : Value) (T D : List Int) (w : World) (ht : Ints w t T) (hu : Ints w u D) (hp : p ≤ 9223372036854775807) (hq : q ≤ 9223372036854775807) :
    Calls Try.prog 77 #[.agg #[.int .i64 p, .int .i64 n, t], .agg #[.int .i64 q, .int .i64 r, .int .i64 c, u]] w (RetBool w (isaOk false p n T q r c D)) := by
  have h1 := ((((St.start w).arg ht).arg hu).box [.int .i64 p, .int .i64 n, t] 29).box [.int .i64 q, .int .i64 r, .int .i64 c, u] 33
  simp only [World.size_alloc] at h1
  obtain ⟨A, k, rfl, _, _, _⟩ := id ht
  obtain ⟨A3, k3, rfl, _, _, _⟩ := id hu
  have HI := Lib.hid (fun (W : World) (h1 : Ints W (.slice A T.length k) T) (h2 : Ints W (.slice A3 D.length k3) D) => isSubspaceOf_any p n q r c _ _ T D W h1 h2 hp hq)
  clear ht hu
  obtain ⟨B, hB⟩ : ∃ B, B = isaOk false p n T q r c D := ⟨_, rfl⟩
  rw [← hB]
  by_cases b1 : subOk p n T q r c D = true
  case neg =>
    have b1 : subOk p n T q r c D = false := by simpa using b1
    have HB := Lib.hid (show B = false by rw [hB, isaOk, b1, Bool.false_and])
    have B1 := Lib.hid b1
    clear b1 hB
    go_enter Try.func77, Try.ntmps77
    go_upto_region 1 with fail
    have g0 := h1.drew
    refine wp_region_held_drew (S := fun w' => (w'.cell? ⟨w.heap.size, 0, none⟩ = some (.int .i64 p) ∧ w'.cell? ⟨w.heap.size, 1, none⟩ = some (.int .i64 n) ∧ w'.cell? ⟨w.heap.size, 2, none⟩ = some (.slice A T.length k)) ∧ w'.cell? ⟨w.heap.size + 1, 0, none⟩ = some (.int .i64 q) ∧ w'.cell? ⟨w.heap.size + 1, 1, none⟩ = some (.int .i64 r) ∧ w'.cell? ⟨w.heap.size + 1, 2, none⟩ = some (.int .i64 c) ∧ w'.cell? ⟨w.heap.size + 1, 3, none⟩ = some (.slice A3 D.length k3)) (by kernel_rfl) ⟨g0.box3 1 rfl, g0.box4 0 rfl⟩ (fun hHeld => ?_)
    refine anyH_take (v := ?_) 0 rfl (by kernel_rfl) (by kernel_rfl) (by kernel_rfl) (fun _ _ _ h => h) rfl ?_ hHeld ?_
    rotate_left
    · intro w' hSw
      go_simp
      try with_reducible rfl
    try simp only [Act.put, List.setIfInBounds_toArray, List.set_cons_zero, List.set_cons_succ]
    refine anyH_take (v := ?_) 1 rfl (by kernel_rfl) (by kernel_rfl) (by kernel_rfl) (fun _ _ _ h => h) rfl ?_ hHeld ?_
    rotate_left
    · intro w' hSw
      go_simp
      try with_reducible rfl
    try simp only [Act.put, List.setIfInBounds_toArray, List.set_cons_zero, List.set_cons_succ]
    refine wpAnyH_ready (rs := [2]) (by kernel_rfl) (by simp) ?_
    refine ready_cons rfl (fun K hK => ?_) AllReadyH.nil
    go_simp
    refine (HI.out _ (g0.roInts 3 rfl) (g0.roInts 2 rfl)).mono ?_
    rintro (e : Ending) w1 ⟨rfl, hb1⟩
    have g1 := g0.on hb1
    rw [B1.out]
    clear hb1
    show K _ _
    refine hK.out _ _ ?_ (fun hHeld => ?_)
    · exact ⟨g1.box3 1 rfl, g1.box4 0 rfl⟩
    clear hK K
    try simp only [Act.put, List.setIfInBounds_toArray, List.set_cons_zero, List.set_cons_succ]
    refine anyH_take (v := ?_) 3 rfl (by kernel_rfl) (by kernel_rfl) (by kernel_rfl) (fun _ _ _ h => h) rfl ?_ hHeld ?_
    rotate_left
    · intro w' hSw
      go_simp
      try with_reducible rfl
    try simp only [Act.put, List.setIfInBounds_toArray, List.set_cons_zero, List.set_cons_succ]
    refine anyH_skip 4 rfl (by kernel_rfl) (by kernel_rfl) (by kernel_rfl) (fun _ _ _ h => h) rfl hHeld ?_
    try simp only [Act.put, List.setIfInBounds_toArray, List.set_cons_zero, List.set_cons_succ]
    refine anyH_skip 5 rfl (by kernel_rfl) (by kernel_rfl) (by kernel_rfl) (fun _ _ _ h => h) rfl hHeld ?_
    try simp only [Act.put, List.setIfInBounds_toArray, List.set_cons_zero, List.set_cons_succ]
    refine anyH_skip 6 rfl (by kernel_rfl) (by kernel_rfl) (by kernel_rfl) (fun _ _ _ h => h) rfl hHeld ?_
    try simp only [Act.put, List.setIfInBounds_toArray, List.set_cons_zero, List.set_cons_succ]
    refine anyH_skip 7 rfl (by kernel_rfl) (by kernel_rfl) (by kernel_rfl) (fun _ _ _ h => h) rfl hHeld ?_
    try simp only [Act.put, List.setIfInBounds_toArray, List.set_cons_zero, List.set_cons_succ]
    refine anyH_skip 8 rfl (by kernel_rfl) (by kernel_rfl) (by kernel_rfl) (fun _ _ _ h => h) rfl hHeld ?_
    try simp only [Act.put, List.setIfInBounds_toArray, List.set_cons_zero, List.set_cons_succ]
    refine anyH_skip 9 rfl (by kernel_rfl) (by kernel_rfl) (by kernel_rfl) (fun _ _ _ h => h) rfl hHeld ?_
    try simp only [Act.put, List.setIfInBounds_toArray, List.set_cons_zero, List.set_cons_succ]
    refine anyH_skip 10 rfl (by kernel_rfl) (by kernel_rfl) (by kernel_rfl) (fun _ _ _ h => h) rfl hHeld ?_
    try simp only [Act.put, List.setIfInBounds_toArray, List.set_cons_zero, List.set_cons_succ]
    refine anyH_take (v := ?_) 11 rfl (by kernel_rfl) (by kernel_rfl) (by kernel_rfl) (fun _ _ _ h => h) rfl ?_ hHeld ?_
    rotate_left
    · intro w' hSw
      go_simp
      try with_reducible rfl
    try simp only [Act.put, List.setIfInBounds_toArray, List.set_cons_zero, List.set_cons_succ]
    refine anyH_take (v := ?_) 12 rfl (by kernel_rfl) (by kernel_rfl) (by kernel_rfl) (fun _ _ _ h => h) rfl ?_ hHeld ?_
    rotate_left
    · intro w' hSw
      go_simp
      try with_reducible rfl
    try simp only [Act.put, List.setIfInBounds_toArray, List.set_cons_zero, List.set_cons_succ]
    refine wpAnyH_done (by kernel_rfl) ?_ _
    clear hHeld
    go_wp2
    go_ret
    exact ⟨ret_bool HB.out.symm, g1.below⟩
  obtain ⟨c1, c2, e1, e2⟩ := subOk_spec b1
  subst q
  obtain ⟨m, rfl, k1, kT, k3', k4, k5, k6⟩ := algOk_spec c1
  subst c
  obtain ⟨d, R, a, ed, rfl, hD, ha, hR40, hd40, hP⟩ := spaceOk_rf c2
  have ed' : m = d := by omega
  subst ed'
  have hpv := (spanL_self k6 ha).2
  have hrm : rowsM ((R.length : Int)).toNat ((m : Int)).toNat D = R := by rw [Int.toNat_natCast, Int.toNat_natCast, hD]; exact rowsM_flat ha.wf
  have hbB : B = subB p R a (stepS false T m p R) := by rw [hB, isaOk, b1, Bool.true_and, hrm, saB, Int.toNat_natCast, hpv]
  have hsr := stepS_rf (k := false) (T := T) (n := m) k6 R
  have hsl := rf_le_n k4 hsr
  have hRn := rf_le_n k4 ha
  obtain ⟨Q, hQ⟩ : ∃ Q, Q = stepS false T m p R := ⟨_, rfl⟩
  obtain ⟨l, hl⟩ : ∃ l, l = Q.length := ⟨_, rfl⟩
  obtain ⟨r, hr⟩ : ∃ r, r = R.length := ⟨_, rfl⟩
  rw [← hQ] at hbB hsr hsl
  have hDl : D.length = r * m := by rw [hD, length_flat, hr]
  have hDr : resid p D = true := by rw [hD]; exact resid_flat (by omega) ha.wf
  have HP := Lib.hid (show ∀ (W : World), Ints W (.slice A T.length k) T → Ints W (.slice A3 D.length k3) D → Calls Try.prog 70 #[.agg #[.int .i64 p, .int .i64 m, .slice A T.length k], .agg #[.int .i64 p, .int .i64 r, .int .i64 m, .slice A3 D.length k3], .agg #[.int .i64 p, .int .i64 r, .int .i64 m, .slice A3 D.length k3]] W (RetMat W p l m (flat m Q)) from fun W x1 x2 => by
    have := product_any p p p m r r _ _ _ T D D W x1 x2 x2 kT hDl hDl k1 (by omega) (by omega) k6 k3' hDr hDr
    rw [hl, hQ]
    have e9 : stepS false T m p R = spanL p m (prodL T m p r D r D) := by rw [hD, hr]; rfl
    rw [e9]
    exact this)
  have HW := Lib.hid (show ∀ (W : World) (v1 : Value), Ints W v1 (flat m Q) → Ints W (.slice A3 D.length k3) D → Calls Try.prog 149 #[.agg #[.int .i64 p, .int .i64 l, .int .i64 m, v1], .agg #[.int .i64 p, .int .i64 r, .int .i64 m, .slice A3 D.length k3]] W (RetBool W (subB p R a Q)) from fun W v1 x1 x2 => by
    have x3 : Ints W (.slice A3 D.length k3) (flat m R) := by rw [← hD]; exact x2
    rw [hl, hr]
    exact IsSubspace_any p m v1 _ Q R W x1 x3 hsr ha (by omega) k6)
  have HbB := Lib.hid hbB
  have B1 := Lib.hid b1
  rw [← hr] at HI B1 h1 ⊢
  clear hB c1 c2 kT k3' k4 k5 k6 hD ha hP hpv hrm hsr hsl hRn hQ hl hr hDl hDr hbB b1
  go_enter Try.func77, Try.ntmps77
  go_upto_region 1 with fail
  have g0 := h1.drew
  refine wp_region_held_drew (S := fun w' => (w'.cell? ⟨w.heap.size, 0, none⟩ = some (.int .i64 p) ∧ w'.cell? ⟨w.heap.size, 1, none⟩ = some (.int .i64 m) ∧ w'.cell? ⟨w.heap.size, 2, none⟩ = some (.slice A T.length k)) ∧ w'.cell? ⟨w.heap.size + 1, 0, none⟩ = some (.int .i64 p) ∧ w'.cell? ⟨w.heap.size + 1, 1, none⟩ = some (.int .i64 r) ∧ w'.cell? ⟨w.heap.size + 1, 2, none⟩ = some (.int .i64 m) ∧ w'.cell? ⟨w.heap.size + 1, 3, none⟩ = some (.slice A3 D.length k3)) (by kernel_rfl) ⟨g0.box3 1 rfl, g0.box4 0 rfl⟩ (fun hHeld => ?_)
  refine anyH_take (v := ?_) 0 rfl (by kernel_rfl) (by kernel_rfl) (by kernel_rfl) (fun _ _ _ h => h) rfl ?_ hHeld ?_
  rotate_left
  · intro w' hSw
    go_simp
    try with_reducible rfl
  try simp only [Act.put, List.setIfInBounds_toArray, List.set_cons_zero, List.set_cons_succ]
  refine anyH_take (v := ?_) 1 rfl (by kernel_rfl) (by kernel_rfl) (by kernel_rfl) (fun _ _ _ h => h) rfl ?_ hHeld ?_
  rotate_left
  · intro w' hSw
    go_simp
    try with_reducible rfl
  try simp only [Act.put, List.setIfInBounds_toArray, List.set_cons_zero, List.set_cons_succ]
  refine wpAnyH_ready (rs := [2]) (by kernel_rfl) (by simp) ?_
  refine ready_cons rfl (fun K hK => ?_) AllReadyH.nil
  go_simp
  refine (HI.out _ (g0.roInts 3 rfl) (g0.roInts 2 rfl)).mono ?_
  rintro (e : Ending) w1 ⟨rfl, hb1⟩
  have g1 := g0.on hb1
  rw [B1.out]
  clear hb1
  show K _ _
  refine hK.out _ _ ?_ (fun hHeld => ?_)
  · exact ⟨g1.box3 1 rfl, g1.box4 0 rfl⟩
  clear hK K
  try simp only [Act.put, List.setIfInBounds_toArray, List.set_cons_zero, List.set_cons_succ]
  refine anyH_take (v := ?_) 3 rfl (by kernel_rfl) (by kernel_rfl) (by kernel_rfl) (fun _ _ _ h => h) rfl ?_ hHeld ?_
  rotate_left
  · intro w' hSw
    go_simp
    try with_reducible rfl
  try simp only [Act.put, List.setIfInBounds_toArray, List.set_cons_zero, List.set_cons_succ]
  refine anyH_take (v := ?_) 4 rfl (by kernel_rfl) (by kernel_rfl) (by kernel_rfl) (fun _ _ _ h => h) rfl ?_ hHeld ?_
  rotate_left
  · intro w' hSw
    go_simp
    try with_reducible rfl
  try simp only [Act.put, List.setIfInBounds_toArray, List.set_cons_zero, List.set_cons_succ]
  refine anyH_take (v := ?_) 6 rfl (by kernel_rfl) (by kernel_rfl) (by kernel_rfl) (fun _ _ _ h => h) rfl ?_ hHeld ?_
  rotate_left
  · intro w' hSw
    go_simp
    try with_reducible rfl
  try simp only [Act.put, List.setIfInBounds_toArray, List.set_cons_zero, List.set_cons_succ]
  refine anyH_take (v := ?_) 7 rfl (by kernel_rfl) (by kernel_rfl) (by kernel_rfl) (fun _ _ _ h => h) rfl ?_ hHeld ?_
  rotate_left
  · intro w' hSw
    go_simp
    try with_reducible rfl
  try simp only [Act.put, List.setIfInBounds_toArray, List.set_cons_zero, List.set_cons_succ]
  refine anyH_take (v := ?_) 9 rfl (by kernel_rfl) (by kernel_rfl) (by kernel_rfl) (fun _ _ _ h => h) rfl ?_ hHeld ?_
  rotate_left
  · intro w' hSw
    go_simp
    try with_reducible rfl
  try simp only [Act.put, List.setIfInBounds_toArray, List.set_cons_zero, List.set_cons_succ]
  refine wpAnyH_ready (rs := [5]) (by kernel_rfl) (by simp) ?_
  refine ready_cons rfl (fun K hK => ?_) AllReadyH.nil
  go_simp
  refine (newLie_any p m (.slice A T.length k) A T.length k _ rfl).mono ?_
  rintro (e : Ending) w5 ⟨rfl, hb5⟩
  have g2 := g1.on hb5
  show K _ _
  refine hK.out _ _ ?_ (fun hHeld => ?_)
  · exact ⟨g2.box3 1 rfl, g2.box4 0 rfl⟩
  clear hK K
  try simp only [Act.put, List.setIfInBounds_toArray, List.set_cons_zero, List.set_cons_succ]
  refine wpAnyH_ready (rs := [8]) (by kernel_rfl) (by simp) ?_
  refine ready_cons rfl (fun K hK => ?_) AllReadyH.nil
  go_simp
  refine (HP.out _ (g2.roInts 3 rfl) (g2.roInts 2 rfl)).mono ?_
  rintro (e : Ending) w8 ⟨u8, rfl, ho8, hb8⟩
  obtain ⟨A89, n8, c8, rfl⟩ := ho8.slice
  have g3 := g2.pushOwn hb8 ho8
  show K _ _
  refine hK.out _ _ ?_ (fun hHeld => ?_)
  · exact ⟨g3.box3 2 rfl, g3.box4 1 rfl⟩
  clear hK K
  try simp only [Act.put, List.setIfInBounds_toArray, List.set_cons_zero, List.set_cons_succ]
  refine wpAnyH_ready (rs := [10]) (by kernel_rfl) (by simp) ?_
  refine ready_cons rfl (fun K hK => ?_) AllReadyH.nil
  go_simp
  refine (HW.out _ _ (g3.ownInts 0 rfl) (g3.roInts 3 rfl)).mono ?_
  rintro (e : Ending) w10 ⟨rfl, hb10⟩
  have gz := g3.on hb10
  rw [← HbB.out]
  show K _ _
  refine hK.out _ _ ?_ (fun hHeld => ?_)
  · exact ⟨gz.box3 2 rfl, gz.box4 1 rfl⟩
  clear hK K
  try simp only [Act.put, List.setIfInBounds_toArray, List.set_cons_zero, List.set_cons_succ]
  refine anyH_take (v := ?_) 11 rfl (by kernel_rfl) (by kernel_rfl) (by kernel_rfl) (fun _ _ _ h => h) rfl ?_ hHeld ?_
  rotate_left
  · intro w' hSw
    go_simp
    try with_reducible rfl
  try simp only [Act.put, List.setIfInBounds_toArray, List.set_cons_zero, List.set_cons_succ]
  refine anyH_take (v := ?_) 12 rfl (by kernel_rfl) (by kernel_rfl) (by kernel_rfl) (fun _ _ _ h => h) rfl ?_ hHeld ?_
  rotate_left
  · intro w' hSw
    go_simp
    try with_reducible rfl
  try simp only [Act.put, List.setIfInBounds_toArray, List.set_cons_zero, List.set_cons_succ]
  refine wpAnyH_done (by kernel_rfl) ?_ _
  clear hHeld
  go_wp2
  go_ret
  exact ⟨rfl, gz.below⟩

set_option maxHeartbeats 4000000 in
theorem IsIdealI_any (p n q r c : Int) (t u : Value) (T D : List Int) (w : World) (ht : Ints w t T) (hu : Ints w u D) (hp : p ≤ 9223372036854775807) (hq : q ≤ 9223372036854775807) :
    Calls Try.prog 93 #[.agg #[.int .i64 p, .int .i64 n, t], .agg #[.int .i64 q, .int .i64 r, .int .i64 c, u]] w (RetBool w (isaOk true p n T q r c D)) := by
  have h1 := ((((St.start w).arg ht).arg hu).box [.int .i64 p, .int .i64 n, t] 29).box [.int .i64 q, .int .i64 r, .int .i64 c, u] 33
  simp only [World.size_alloc] at h1
  obtain ⟨A, k, rfl, _, _, _⟩ := id ht
  obtain ⟨A3, k3, rfl, _, _, _⟩ := id hu
  have HI := Lib.hid (fun (W : World) (h1 : Ints W (.slice A T.length k) T) (h2 : Ints W (.slice A3 D.length k3) D) => isSubspaceOf_any p n q r c _ _ T D W h1 h2 hp hq)
  clear ht hu
  obtain ⟨B, hB⟩ : ∃ B, B = isaOk true p n T q r c D := ⟨_, rfl⟩
  rw [← hB]
  by_cases b1 : subOk p n T q r c D = true
  case neg =>
    have b1 : subOk p n T q r c D = false := by simpa using b1
    have HB := Lib.hid (show B = false by rw [hB, isaOk, b1, Bool.false_and])
    have B1 := Lib.hid b1
    clear b1 hB
    go_enter Try.func93, Try.ntmps93
    go_upto_region 1 with fail
    have g0 := h1.drew
    refine wp_region_held_drew (S := fun w' => (w'.cell? ⟨w.heap.size, 0, none⟩ = some (.int .i64 p) ∧ w'.cell? ⟨w.heap.size, 1, none⟩ = some (.int .i64 n) ∧ w'.cell? ⟨w.heap.size, 2, none⟩ = some (.slice A T.length k)) ∧ w'.cell? ⟨w.heap.size + 1, 0, none⟩ = some (.int .i64 q) ∧ w'.cell? ⟨w.heap.size + 1, 1, none⟩ = some (.int .i64 r) ∧ w'.cell? ⟨w.heap.size + 1, 2, none⟩ = some (.int .i64 c) ∧ w'.cell? ⟨w.heap.size + 1, 3, none⟩ = some (.slice A3 D.length k3)) (by kernel_rfl) ⟨g0.box3 1 rfl, g0.box4 0 rfl⟩ (fun hHeld => ?_)
    refine anyH_take (v := ?_) 0 rfl (by kernel_rfl) (by kernel_rfl) (by kernel_rfl) (fun _ _ _ h => h) rfl ?_ hHeld ?_
    rotate_left
    · intro w' hSw
      go_simp
      try with_reducible rfl
    try simp only [Act.put, List.setIfInBounds_toArray, List.set_cons_zero, List.set_cons_succ]
    refine anyH_take (v := ?_) 1 rfl (by kernel_rfl) (by kernel_rfl) (by kernel_rfl) (fun _ _ _ h => h) rfl ?_ hHeld ?_
    rotate_left
    · intro w' hSw
      go_simp
      try with_reducible rfl
    try simp only [Act.put, List.setIfInBounds_toArray, List.set_cons_zero, List.set_cons_succ]
    refine wpAnyH_ready (rs := [2]) (by kernel_rfl) (by simp) ?_
    refine ready_cons rfl (fun K hK => ?_) AllReadyH.nil
    go_simp
    refine (HI.out _ (g0.roInts 3 rfl) (g0.roInts 2 rfl)).mono ?_
    rintro (e : Ending) w1 ⟨rfl, hb1⟩
    have g1 := g0.on hb1
    rw [B1.out]
    clear hb1
    show K _ _
    refine hK.out _ _ ?_ (fun hHeld => ?_)
    · exact ⟨g1.box3 1 rfl, g1.box4 0 rfl⟩
    clear hK K
    try simp only [Act.put, List.setIfInBounds_toArray, List.set_cons_zero, List.set_cons_succ]
    refine anyH_take (v := ?_) 3 rfl (by kernel_rfl) (by kernel_rfl) (by kernel_rfl) (fun _ _ _ h => h) rfl ?_ hHeld ?_
    rotate_left
    · intro w' hSw
      go_simp
      try with_reducible rfl
    try simp only [Act.put, List.setIfInBounds_toArray, List.set_cons_zero, List.set_cons_succ]
    refine anyH_skip 4 rfl (by kernel_rfl) (by kernel_rfl) (by kernel_rfl) (fun _ _ _ h => h) rfl hHeld ?_
    try simp only [Act.put, List.setIfInBounds_toArray, List.set_cons_zero, List.set_cons_succ]
    refine anyH_skip 5 rfl (by kernel_rfl) (by kernel_rfl) (by kernel_rfl) (fun _ _ _ h => h) rfl hHeld ?_
    try simp only [Act.put, List.setIfInBounds_toArray, List.set_cons_zero, List.set_cons_succ]
    refine anyH_skip 6 rfl (by kernel_rfl) (by kernel_rfl) (by kernel_rfl) (fun _ _ _ h => h) rfl hHeld ?_
    try simp only [Act.put, List.setIfInBounds_toArray, List.set_cons_zero, List.set_cons_succ]
    refine anyH_skip 7 rfl (by kernel_rfl) (by kernel_rfl) (by kernel_rfl) (fun _ _ _ h => h) rfl hHeld ?_
    try simp only [Act.put, List.setIfInBounds_toArray, List.set_cons_zero, List.set_cons_succ]
    refine anyH_skip 8 rfl (by kernel_rfl) (by kernel_rfl) (by kernel_rfl) (fun _ _ _ h => h) rfl hHeld ?_
    try simp only [Act.put, List.setIfInBounds_toArray, List.set_cons_zero, List.set_cons_succ]
    refine anyH_skip 9 rfl (by kernel_rfl) (by kernel_rfl) (by kernel_rfl) (fun _ _ _ h => h) rfl hHeld ?_
    try simp only [Act.put, List.setIfInBounds_toArray, List.set_cons_zero, List.set_cons_succ]
    refine anyH_skip 10 rfl (by kernel_rfl) (by kernel_rfl) (by kernel_rfl) (fun _ _ _ h => h) rfl hHeld ?_
    try simp only [Act.put, List.setIfInBounds_toArray, List.set_cons_zero, List.set_cons_succ]
    refine anyH_skip 11 rfl (by kernel_rfl) (by kernel_rfl) (by kernel_rfl) (fun _ _ _ h => h) rfl hHeld ?_
    try simp only [Act.put, List.setIfInBounds_toArray, List.set_cons_zero, List.set_cons_succ]
    refine anyH_skip 12 rfl (by kernel_rfl) (by kernel_rfl) (by kernel_rfl) (fun _ _ _ h => h) rfl hHeld ?_
    try simp only [Act.put, List.setIfInBounds_toArray, List.set_cons_zero, List.set_cons_succ]
    refine anyH_skip 13 rfl (by kernel_rfl) (by kernel_rfl) (by kernel_rfl) (fun _ _ _ h => h) rfl hHeld ?_
    try simp only [Act.put, List.setIfInBounds_toArray, List.set_cons_zero, List.set_cons_succ]
    refine anyH_skip 14 rfl (by kernel_rfl) (by kernel_rfl) (by kernel_rfl) (fun _ _ _ h => h) rfl hHeld ?_
    try simp only [Act.put, List.setIfInBounds_toArray, List.set_cons_zero, List.set_cons_succ]
    refine anyH_take (v := ?_) 15 rfl (by kernel_rfl) (by kernel_rfl) (by kernel_rfl) (fun _ _ _ h => h) rfl ?_ hHeld ?_
    rotate_left
    · intro w' hSw
      go_simp
      try with_reducible rfl
    try simp only [Act.put, List.setIfInBounds_toArray, List.set_cons_zero, List.set_cons_succ]
    refine anyH_take (v := ?_) 16 rfl (by kernel_rfl) (by kernel_rfl) (by kernel_rfl) (fun _ _ _ h => h) rfl ?_ hHeld ?_
    rotate_left
    · intro w' hSw
      go_simp
      try with_reducible rfl
    try simp only [Act.put, List.setIfInBounds_toArray, List.set_cons_zero, List.set_cons_succ]
    refine wpAnyH_done (by kernel_rfl) ?_ _
    clear hHeld
    go_wp2
    go_ret
    exact ⟨ret_bool HB.out.symm, g1.below⟩
  obtain ⟨c1, c2, e1, e2⟩ := subOk_spec b1
  subst q
  obtain ⟨m, rfl, k1, kT, k3', k4, k5, k6⟩ := algOk_spec c1
  subst c
  obtain ⟨d, R, a, ed, rfl, hD, ha, hR40, hd40, hP⟩ := spaceOk_rf c2
  have ed' : m = d := by omega
  subst ed'
  have hpv := (spanL_self k6 ha).2
  have hrm : rowsM ((R.length : Int)).toNat ((m : Int)).toNat D = R := by rw [Int.toNat_natCast, Int.toNat_natCast, hD]; exact rowsM_flat ha.wf
  have hbB : B = subB p R a (stepS true T m p R) := by rw [hB, isaOk, b1, Bool.true_and, hrm, saB, Int.toNat_natCast, hpv]
  have hsr := stepS_rf (k := true) (T := T) (n := m) k6 R
  have hsl := rf_le_n k4 hsr
  have hRn := rf_le_n k4 ha
  obtain ⟨Q, hQ⟩ : ∃ Q, Q = stepS true T m p R := ⟨_, rfl⟩
  obtain ⟨l, hl⟩ : ∃ l, l = Q.length := ⟨_, rfl⟩
  obtain ⟨r, hr⟩ : ∃ r, r = R.length := ⟨_, rfl⟩
  rw [← hQ] at hbB hsr hsl
  have hDl : D.length = r * m := by rw [hD, length_flat, hr]
  have hDr : resid p D = true := by rw [hD]; exact resid_flat (by omega) ha.wf
  have hAn := anti_of c1
  have HU := Lib.hid (fun W => UnitMatrixI_any p m W k6 (by omega))
  have HP := Lib.hid (show ∀ (W : World) (v1 : Value), Ints W (.slice A T.length k) T → Ints W (.slice A3 D.length k3) D → Ints W v1 (unitD m) → Calls Try.prog 70 #[.agg #[.int .i64 p, .int .i64 m, .slice A T.length k], .agg #[.int .i64 p, .int .i64 r, .int .i64 m, .slice A3 D.length k3], .agg #[.int .i64 p, .int .i64 m, .int .i64 m, v1]] W (RetMat W p l m (flat m Q)) from fun W v1 x1 x2 x3 => by
    have := product_any p p p m r m _ _ _ T D (unitD m) W x1 x2 x3 kT hDl (length_unitD m) k1 (by omega) (by omega) k6 k3' hDr (resid_unitD k4 m)
    rw [hl, hQ]
    have e9 : stepS true T m p R = spanL p m (prodL T m p r D m (unitD m)) := by rw [hD, hr, brR_unit2, stepS_swap k6 hAn ha.wf]
    rw [e9]
    exact this)
  have HW := Lib.hid (show ∀ (W : World) (v1 : Value), Ints W v1 (flat m Q) → Ints W (.slice A3 D.length k3) D → Calls Try.prog 149 #[.agg #[.int .i64 p, .int .i64 l, .int .i64 m, v1], .agg #[.int .i64 p, .int .i64 r, .int .i64 m, .slice A3 D.length k3]] W (RetBool W (subB p R a Q)) from fun W v1 x1 x2 => by
    have x3 : Ints W (.slice A3 D.length k3) (flat m R) := by rw [← hD]; exact x2
    rw [hl, hr]
    exact IsSubspace_any p m v1 _ Q R W x1 x3 hsr ha (by omega) k6)
  have HbB := Lib.hid hbB
  have B1 := Lib.hid b1
  rw [← hr] at HI B1 h1 ⊢
  clear hB c1 c2 kT k3' k4 k5 k6 hD ha hP hpv hrm hsr hsl hRn hQ hl hr hDl hDr hbB b1 hAn
  go_enter Try.func93, Try.ntmps93
  go_upto_region 1 with fail
  have g0 := h1.drew
  refine wp_region_held_drew (S := fun w' => (w'.cell? ⟨w.heap.size, 0, none⟩ = some (.int .i64 p) ∧ w'.cell? ⟨w.heap.size, 1, none⟩ = some (.int .i64 m) ∧ w'.cell? ⟨w.heap.size, 2, none⟩ = some (.slice A T.length k)) ∧ w'.cell? ⟨w.heap.size + 1, 0, none⟩ = some (.int .i64 p) ∧ w'.cell? ⟨w.heap.size + 1, 1, none⟩ = some (.int .i64 r) ∧ w'.cell? ⟨w.heap.size + 1, 2, none⟩ = some (.int .i64 m) ∧ w'.cell? ⟨w.heap.size + 1, 3, none⟩ = some (.slice A3 D.length k3)) (by kernel_rfl) ⟨g0.box3 1 rfl, g0.box4 0 rfl⟩ (fun hHeld => ?_)
  refine anyH_take (v := ?_) 0 rfl (by kernel_rfl) (by kernel_rfl) (by kernel_rfl) (fun _ _ _ h => h) rfl ?_ hHeld ?_
  rotate_left
  · intro w' hSw
    go_simp
    try with_reducible rfl
  try simp only [Act.put, List.setIfInBounds_toArray, List.set_cons_zero, List.set_cons_succ]
  refine anyH_take (v := ?_) 1 rfl (by kernel_rfl) (by kernel_rfl) (by kernel_rfl) (fun _ _ _ h => h) rfl ?_ hHeld ?_
  rotate_left
  · intro w' hSw
    go_simp
    try with_reducible rfl
  try simp only [Act.put, List.setIfInBounds_toArray, List.set_cons_zero, List.set_cons_succ]
  refine wpAnyH_ready (rs := [2]) (by kernel_rfl) (by simp) ?_
  refine ready_cons rfl (fun K hK => ?_) AllReadyH.nil
  go_simp
  refine (HI.out _ (g0.roInts 3 rfl) (g0.roInts 2 rfl)).mono ?_
  rintro (e : Ending) w1 ⟨rfl, hb1⟩
  have g1 := g0.on hb1
  rw [B1.out]
  clear hb1
  show K _ _
  refine hK.out _ _ ?_ (fun hHeld => ?_)
  · exact ⟨g1.box3 1 rfl, g1.box4 0 rfl⟩
  clear hK K
  try simp only [Act.put, List.setIfInBounds_toArray, List.set_cons_zero, List.set_cons_succ]
  refine anyH_take (v := ?_) 3 rfl (by kernel_rfl) (by kernel_rfl) (by kernel_rfl) (fun _ _ _ h => h) rfl ?_ hHeld ?_
  rotate_left
  · intro w' hSw
    go_simp
    try with_reducible rfl
  try simp only [Act.put, List.setIfInBounds_toArray, List.set_cons_zero, List.set_cons_succ]
  refine anyH_take (v := ?_) 4 rfl (by kernel_rfl) (by kernel_rfl) (by kernel_rfl) (fun _ _ _ h => h) rfl ?_ hHeld ?_
  rotate_left
  · intro w' hSw
    go_simp
    try with_reducible rfl
  try simp only [Act.put, List.setIfInBounds_toArray, List.set_cons_zero, List.set_cons_succ]
  refine anyH_take (v := ?_) 6 rfl (by kernel_rfl) (by kernel_rfl) (by kernel_rfl) (fun _ _ _ h => h) rfl ?_ hHeld ?_
  rotate_left
  · intro w' hSw
    go_simp
    try with_reducible rfl
  try simp only [Act.put, List.setIfInBounds_toArray, List.set_cons_zero, List.set_cons_succ]
  refine anyH_take (v := ?_) 7 rfl (by kernel_rfl) (by kernel_rfl) (by kernel_rfl) (fun _ _ _ h => h) rfl ?_ hHeld ?_
  rotate_left
  · intro w' hSw
    go_simp
    try with_reducible rfl
  try simp only [Act.put, List.setIfInBounds_toArray, List.set_cons_zero, List.set_cons_succ]
  refine anyH_take (v := ?_) 8 rfl (by kernel_rfl) (by kernel_rfl) (by kernel_rfl) (fun _ _ _ h => h) rfl ?_ hHeld ?_
  rotate_left
  · intro w' hSw
    go_simp
    try with_reducible rfl
  try simp only [Act.put, List.setIfInBounds_toArray, List.set_cons_zero, List.set_cons_succ]
  refine anyH_take (v := ?_) 9 rfl (by kernel_rfl) (by kernel_rfl) (by kernel_rfl) (fun _ _ _ h => h) rfl ?_ hHeld ?_
  rotate_left
  · intro w' hSw
    go_simp
    try with_reducible rfl
  try simp only [Act.put, List.setIfInBounds_toArray, List.set_cons_zero, List.set_cons_succ]
  refine anyH_take (v := ?_) 10 rfl (by kernel_rfl) (by kernel_rfl) (by kernel_rfl) (fun _ _ _ h => h) rfl ?_ hHeld ?_
  rotate_left
  · intro w' hSw
    go_simp
    try with_reducible rfl
  try simp only [Act.put, List.setIfInBounds_toArray, List.set_cons_zero, List.set_cons_succ]
  refine anyH_take (v := ?_) 13 rfl (by kernel_rfl) (by kernel_rfl) (by kernel_rfl) (fun _ _ _ h => h) rfl ?_ hHeld ?_
  rotate_left
  · intro w' hSw
    go_simp
    try with_reducible rfl
  try simp only [Act.put, List.setIfInBounds_toArray, List.set_cons_zero, List.set_cons_succ]
  refine wpAnyH_ready (rs := [5]) (by kernel_rfl) (by simp) ?_
  refine ready_cons rfl (fun K hK => ?_) AllReadyH.nil
  go_simp
  refine (newLie_any p m (.slice A T.length k) A T.length k _ rfl).mono ?_
  rintro (e : Ending) w5 ⟨rfl, hb5⟩
  have g2 := g1.on hb5
  show K _ _
  refine hK.out _ _ ?_ (fun hHeld => ?_)
  · exact ⟨g2.box3 1 rfl, g2.box4 0 rfl⟩
  clear hK K
  try simp only [Act.put, List.setIfInBounds_toArray, List.set_cons_zero, List.set_cons_succ]
  refine wpAnyH_ready (rs := [11]) (by kernel_rfl) (by simp) ?_
  refine ready_cons rfl (fun K hK => ?_) AllReadyH.nil
  go_simp
  refine (HU.out _).mono ?_
  rintro (e : Ending) w11 ⟨u11, rfl, ho11, hb11⟩
  obtain ⟨A119, n11, c11, rfl⟩ := ho11.slice
  have g3 := g2.pushOwn hb11 ho11
  show K _ _
  refine hK.out _ _ ?_ (fun hHeld => ?_)
  · exact ⟨g3.box3 2 rfl, g3.box4 1 rfl⟩
  clear hK K
  try simp only [Act.put, List.setIfInBounds_toArray, List.set_cons_zero, List.set_cons_succ]
  refine wpAnyH_ready (rs := [12]) (by kernel_rfl) (by simp) ?_
  refine ready_cons rfl (fun K hK => ?_) AllReadyH.nil
  go_simp
  refine (HP.out _ _ (g3.roInts 4 rfl) (g3.roInts 3 rfl) (g3.ownInts 0 rfl)).mono ?_
  rintro (e : Ending) w12 ⟨u12, rfl, ho12, hb12⟩
  obtain ⟨A129, n12, c12, rfl⟩ := ho12.slice
  have g4 := g3.pushOwn hb12 ho12
  show K _ _
  refine hK.out _ _ ?_ (fun hHeld => ?_)
  · exact ⟨g4.box3 3 rfl, g4.box4 2 rfl⟩
  clear hK K
  try simp only [Act.put, List.setIfInBounds_toArray, List.set_cons_zero, List.set_cons_succ]
  refine wpAnyH_ready (rs := [14]) (by kernel_rfl) (by simp) ?_
  refine ready_cons rfl (fun K hK => ?_) AllReadyH.nil
  go_simp
  refine (HW.out _ _ (g4.ownInts 0 rfl) (g4.roInts 4 rfl)).mono ?_
  rintro (e : Ending) w14 ⟨rfl, hb14⟩
  have gz := g4.on hb14
  rw [← HbB.out]
  show K _ _
  refine hK.out _ _ ?_ (fun hHeld => ?_)
  · exact ⟨gz.box3 3 rfl, gz.box4 2 rfl⟩
  clear hK K
  try simp only [Act.put, List.setIfInBounds_toArray, List.set_cons_zero, List.set_cons_succ]
  refine anyH_take (v := ?_) 15 rfl (by kernel_rfl) (by kernel_rfl) (by kernel_rfl) (fun _ _ _ h => h) rfl ?_ hHeld ?_
  rotate_left
  · intro w' hSw
    go_simp
    try with_reducible rfl
  try simp only [Act.put, List.setIfInBounds_toArray, List.set_cons_zero, List.set_cons_succ]
  refine anyH_take (v := ?_) 16 rfl (by kernel_rfl) (by kernel_rfl) (by kernel_rfl) (fun _ _ _ h => h) rfl ?_ hHeld ?_
  rotate_left
  · intro w' hSw
    go_simp
    try with_reducible rfl
  try simp only [Act.put, List.setIfInBounds_toArray, List.set_cons_zero, List.set_cons_succ]
  refine wpAnyH_done (by kernel_rfl) ?_ _
  clear hHeld
  go_wp2
  go_ret
  exact ⟨rfl, gz.below⟩

end Go.Proofs.Ytcdbgcpccmcbeaa
