/- The reference's commutator; the program's sumMatrices. -/
import Derived.Test.YtechjmckfedblaaMulS
import Derived.Test.YtechjmckfedblaaL10Sum
namespace Go.Proofs.Ytechjmckfedblaa
set_option maxRecDepth 100000
open Go.RowKit

/-- D E - E D. -/
def comD (p : Int) (s : Nat) (D E : List Int) : List Int := addL (mulD p s s s D E) (p - 1) (mulD p s s s E D) p
theorem addL_minus {p : Int} {D E : List Int} (h : E.length = D.length) : addL D (-1) E p = addL D (p - 1) E p := by
  refine list_ext (by rw [length_addL _ _ _ _ h, length_addL _ _ _ _ h]) fun i hi => ?_
  rw [length_addL _ _ _ _ h] at hi
  rw [vec_addLq h hi, vec_addLq h hi, show vec D i + (p - 1) * vec E i = (vec D i + -1 * vec E i) + p * vec E i by rw [Int.sub_mul]; omega, Int.add_mul_emod_self_left]
theorem comD_ok {p : Int} (hp : 2 ≤ p) (s : Nat) (D E : List Int) : (comD p s D E).length = s * s ∧ resid p (comD p s D E) = true :=
  ⟨by rw [comD, length_addL _ _ _ _ (by rw [length_mulD, length_mulD]), length_mulD], resid_addL _ _ _ _ (by omega)⟩

set_option maxHeartbeats 4000000 in
theorem l1Commutator_any (p : Int) (s : Nat) (t u : Value) (D E : List Int) (w : World) (ht : Ints w t D) (hu : Ints w u E) (hD : D.length = s * s) (hE : E.length = s * s) (hs : s ≤ 40) (hp : 2 ≤ p) (hp' : p ≤ 10007) (rD : resid p D = true) (rE : resid p E = true) :
    Calls Try.prog 115 #[.agg #[.int .i64 p, .int .i64 s, .int .i64 s, t], .agg #[.int .i64 p, .int .i64 s, .int .i64 s, u]] w (RetMat w p s s (comD p s D E)) := by
  have h1 := (((((St.start w).arg ht).arg hu).box [.int .i64 p, .int .i64 s, .int .i64 s, t] 32).box [.int .i64 p, .int .i64 s, .int .i64 s, u] 32).box [.int .i64 0, .int .i64 0, .int .i64 0, .slice none 0 0] 32
  simp only [World.size_alloc] at h1
  obtain ⟨A, k0, rfl, _, _, _⟩ := id ht
  obtain ⟨A2, k2, rfl, _, _, _⟩ := id hu
  have hss := mul_le hs hs
  obtain ⟨X, hX⟩ : ∃ X, X = mulD p s s s D E := ⟨_, rfl⟩
  obtain ⟨Y, hY⟩ : ∃ Y, Y = mulD p s s s E D := ⟨_, rfl⟩
  obtain ⟨R, hR⟩ : ∃ R, R = comD p s D E := ⟨_, rfl⟩
  have hXl : X.length = s * s := by rw [hX, length_mulD]
  have hYl : Y.length = s * s := by rw [hY, length_mulD]
  have hXr : resid p X = true := by rw [hX]; exact resid_mulD hp _ _ _ _ _
  have hYr : resid p Y = true := by rw [hY]; exact resid_mulD hp _ _ _ _ _
  have hRl : R.length = s * s := by rw [hR]; exact (comD_ok hp s D E).1
  have hRe : addL X 1 (scaleR p (-1 % p) Y) p = R := by rw [addL_scale (by omega) (by rw [hYl, hXl]), addL_minus (by rw [hYl, hXl]), hR, comD, hX, hY]
  have C1 := Lib.hid (show ∀ (W : World) (a b : Value), Ints W a D → Ints W b E → Calls Try.prog 149 #[.agg #[.int .i64 p, .int .i64 s, .int .i64 s, a], .agg #[.int .i64 p, .int .i64 s, .int .i64 s, b]] W (RetMat W p s s X) from fun W a b ha hb => by rw [hX]; exact l1Mul_any p p s s s s a b D E W ha hb rfl hD hE hs hs hs hp hp' rD rE)
  have C2 := Lib.hid (show ∀ (W : World) (a b : Value), Ints W a E → Ints W b D → Calls Try.prog 149 #[.agg #[.int .i64 p, .int .i64 s, .int .i64 s, a], .agg #[.int .i64 p, .int .i64 s, .int .i64 s, b]] W (RetMat W p s s Y) from fun W a b ha hb => by rw [hY]; exact l1Mul_any p p s s s s a b E D W ha hb rfl hE hD hs hs hs hp hp' rE rD)
  have C3 := Lib.hid (show ∀ (W : World) (a : Value), Ints W a Y → Calls Try.prog 155 #[.agg #[.int .i64 p, .int .i64 s, .int .i64 s, a], .int .i64 (-1)] W (RetMat W p s s (scaleR p (-1 % p) Y)) from fun W a ha => l1Scale_any p s s (-1) a Y W ha (by omega) hp hp' (by omega) (by omega) hYr)
  have C4 := Lib.hid (show ∀ (W : World) (a b : Value), Ints W a X → Ints W b (scaleR p (-1 % p) Y) → Calls Try.prog 154 #[.agg #[.int .i64 p, .int .i64 s, .int .i64 s, a], .agg #[.int .i64 p, .int .i64 s, .int .i64 s, b]] W (RetMat W p s s R) from fun W a b ha hb => by
    have := l1Add_any p p s s s s a b X (scaleR p (-1 % p) Y) W ha hb (by omega) (by rw [length_scaleR, hYl, hXl]) hp hp' hXr (resid_scaleR (by omega) _ _)
    rwa [hRe] at this)
  rw [← hR]
  clear ht hu hD hE hX hY hR hXl hYl hXr hYr hRl hRe
  go_enter Try.func115, Try.ntmps115
  go_wp2_with fail
  have g0 := h1.drew
  refine wp_region_cut (S := fun w' => (w'.cell? ⟨w.heap.size, 0, none⟩ = some (.int .i64 p) ∧ w'.cell? ⟨w.heap.size, 1, none⟩ = some (.int .i64 s) ∧ w'.cell? ⟨w.heap.size, 2, none⟩ = some (.int .i64 s) ∧ w'.cell? ⟨w.heap.size, 3, none⟩ = some (.slice A D.length k0)) ∧ w'.cell? ⟨w.heap.size + 1, 0, none⟩ = some (.int .i64 p) ∧ w'.cell? ⟨w.heap.size + 1, 1, none⟩ = some (.int .i64 s) ∧ w'.cell? ⟨w.heap.size + 1, 2, none⟩ = some (.int .i64 s) ∧ w'.cell? ⟨w.heap.size + 1, 3, none⟩ = some (.slice A2 E.length k2)) 8 (by kernel_rfl) (by kernel_rfl) ⟨g0.box4 2 rfl, g0.box4 1 rfl⟩ (fun hHeld => ?_)
  simp only [List.take_succ_cons, List.take_zero]
  refine anyH_take (v := ?_) 0 rfl (by kernel_rfl) (by kernel_rfl) (by kernel_rfl) (fun _ _ _ h => h) rfl ?_ hHeld ?_
  rotate_left
  · intro w' hSw
    go_simp
    try with_reducible rfl
  try simp only [Act.put, List.setIfInBounds_toArray, List.set_cons_zero, List.set_cons_succ]
  refine anyH_take (v := ?_) 1 rfl (by kernel_rfl) (by kernel_rfl) (by kernel_rfl) (fun _ _ _ h => h) rfl ?_ hHeld ?_
  rotate_left
  · intro w' hSw
    go_simp
    try with_reducible rfl
  try simp only [Act.put, List.setIfInBounds_toArray, List.set_cons_zero, List.set_cons_succ]
  refine anyH_take (v := ?_) 3 rfl (by kernel_rfl) (by kernel_rfl) (by kernel_rfl) (fun _ _ _ h => h) rfl ?_ hHeld ?_
  rotate_left
  · intro w' hSw
    go_simp
    try with_reducible rfl
  try simp only [Act.put, List.setIfInBounds_toArray, List.set_cons_zero, List.set_cons_succ]
  refine anyH_take (v := ?_) 4 rfl (by kernel_rfl) (by kernel_rfl) (by kernel_rfl) (fun _ _ _ h => h) rfl ?_ hHeld ?_
  rotate_left
  · intro w' hSw
    go_simp
    try with_reducible rfl
  try simp only [Act.put, List.setIfInBounds_toArray, List.set_cons_zero, List.set_cons_succ]
  refine wpAnyH_ready (rs := [2]) (by kernel_rfl) (by simp) ?_
  refine ready_cons rfl (fun K hK => ?_) AllReadyH.nil
  go_simp
  refine (C1.out _ _ _ (g0.roInts 4 rfl) (g0.roInts 3 rfl)).mono ?_
  rintro (e : Ending) w1 ⟨u1, rfl, ho1, hb1⟩
  obtain ⟨A5, n5, c5, rfl⟩ := ho1.slice
  have g1 := g0.pushOwn hb1 ho1
  show K _ _
  refine hK.out _ _ ?_ (fun hHeld => ?_)
  · exact ⟨g1.box4 3 rfl, g1.box4 2 rfl⟩
  clear hK K
  try simp only [Act.put, List.setIfInBounds_toArray, List.set_cons_zero, List.set_cons_succ]
  refine wpAnyH_ready (rs := [5]) (by kernel_rfl) (by simp) ?_
  refine ready_cons rfl (fun K hK => ?_) AllReadyH.nil
  go_simp
  refine (C2.out _ _ _ (g1.roInts 4 rfl) (g1.roInts 5 rfl)).mono ?_
  rintro (e : Ending) w2 ⟨u2, rfl, ho2, hb2⟩
  obtain ⟨A6, n6, c6, rfl⟩ := ho2.slice
  have g2 := g1.pushOwn hb2 ho2
  show K _ _
  refine hK.out _ _ ?_ (fun hHeld => ?_)
  · exact ⟨g2.box4 4 rfl, g2.box4 3 rfl⟩
  clear hK K
  try simp only [Act.put, List.setIfInBounds_toArray, List.set_cons_zero, List.set_cons_succ]
  refine wpAnyH_ready (rs := [6]) (by kernel_rfl) (by simp) ?_
  refine ready_cons rfl (fun K hK => ?_) AllReadyH.nil
  go_simp
  refine (C3.out _ _ (g2.ownInts 0 rfl)).mono ?_
  rintro (e : Ending) w3 ⟨u3, rfl, ho3, hb3⟩
  obtain ⟨A7, n7, c7, rfl⟩ := ho3.slice
  have g3 := g2.pushOwn hb3 ho3
  show K _ _
  refine hK.out _ _ ?_ (fun hHeld => ?_)
  · exact ⟨g3.box4 5 rfl, g3.box4 4 rfl⟩
  clear hK K
  try simp only [Act.put, List.setIfInBounds_toArray, List.set_cons_zero, List.set_cons_succ]
  refine wpAnyH_ready (rs := [7]) (by kernel_rfl) (by simp) ?_
  refine ready_cons rfl (fun K hK => ?_) AllReadyH.nil
  go_simp
  refine (C4.out _ _ _ (g3.ownInts 2 rfl) (g3.ownInts 0 rfl)).mono ?_
  rintro (e : Ending) w4 ⟨u4, rfl, ho4, hb4⟩
  obtain ⟨A8, n8, c8, rfl⟩ := ho4.slice
  have g4 := g3.pushOwn hb4 ho4
  show K _ _
  refine hK.out _ _ ?_ (fun hHeld => ?_)
  · exact ⟨g4.box4 6 rfl, g4.box4 5 rfl⟩
  clear hK K
  try simp only [Act.put, List.setIfInBounds_toArray, List.set_cons_zero, List.set_cons_succ]
  refine wpAnyH_done (by kernel_rfl) ?_ _
  show wpList _ _ _ _ _ _
  simp only [List.drop_succ_cons, List.drop_zero]
  clear hHeld
  obtain ⟨p0, p1, p2, p3⟩ := g4.box4 4 rfl
  have f0 := g4.free 4 rfl 0
  have f1 := g4.free 4 rfl 1
  have f2 := g4.free 4 rfl 2
  have f3 := g4.free 4 rfl 3
  have h5 := (((g4.setBox 4 rfl 0 (.int .i64 p)).setBox 4 rfl 1 (.int .i64 s)).setBox 4 rfl 2 (.int .i64 s)).setBox 4 rfl 3 (.slice A8 n8 c8)
  obtain ⟨r0, r1, r2, r3⟩ := h5.box4 4 rfl
  clear g0 g1 g2 g3 h1 ho1 ho2 ho3 ho4 hb1 hb2 hb3 hb4
  go_wp2
  refine bodyPost_ret (v := .agg #[.int .i64 p, .int .i64 s, .int .i64 s, .slice A8 n8 c8]) (by simp [results, Try.results115, go_sem, r0, r1, r2, r3]) rfl ⟨_, rfl, h5.own 0 rfl, h5.below⟩

set_option maxHeartbeats 4000000 in
theorem sumMatrices_any (p : Int) (n s : Nat) (v x : Value) (K : List Int) (m0 : Mt) (ms : List Mt) (w : World) (hv : MatsR w v (m0 :: ms)) (hx : Ints w x K) (hn : (m0 :: ms).length = n) (hK : K.length = n) (hn' : n ≤ 28) (hs : s ≤ 40)
    (hM : ∀ i (h : i < (m0 :: ms).length), ((m0 :: ms)[i]).p = p ∧ ((m0 :: ms)[i]).r = s ∧ ((m0 :: ms)[i]).c = s ∧ ((m0 :: ms)[i]).d.length = s * s ∧ resid p ((m0 :: ms)[i]).d = true) (hP : isPrime p = true) (rK : resid p K = true) :
    Calls Try.prog 119 #[v, x] w (RetMat w p s s (sumMTo p (s * s) K ((m0 :: ms).map Mt.d) n)) := by
  obtain ⟨hp, hp'⟩ := isPrime_bd hP
  have h1 := (((St.start w).arg hx).pushFact hv.fact).box [.int .i64 0, .int .i64 0, .int .i64 0, .slice none 0 0] 32
  obtain ⟨A1, k1, rfl, _, _, _⟩ := id hx
  obtain ⟨A2, k2, rfl, _, _, _⟩ := id hv
  have hss := mul_le hs hs
  obtain ⟨q0, q1, q2, q3, _⟩ := hM 0 (by simp)
  simp only [List.getElem_cons_zero] at q0 q1 q2 q3
  obtain ⟨b0, off0, A8, k8, rfl, hm0⟩ := hv.at (i := 0) (by simp)
  simp only [List.getElem_cons_zero, Nat.zero_mul, Nat.add_zero] at hm0
  unfold MtAt at hm0
  rw [q0, q1, q2] at hm0
  have h1 := h1.pushOld (R := fun w' => w'.cell? ⟨b0, off0, none⟩ = some (.int .i64 p) ∧ w'.cell? ⟨b0, off0 + 1, none⟩ = some (.int .i64 s) ∧ w'.cell? ⟨b0, off0 + 2, none⟩ = some (.int .i64 s)) (fun w' hk => by
    obtain ⟨k0, k1, k2, _, _⟩ := hm0
    have kk : ∀ {o : Nat} {x : Value}, w.cell? ⟨b0, o, none⟩ = some x → w'.cell? ⟨b0, o, none⟩ = some x := fun h => (World.cell?_of_block (hk _ (World.block_lt_of_cell? w _ h))).trans h
    exact ⟨kk k0, kk k1, kk k2⟩)
  have HZ := Lib.hid (fun W => ZeroMatrixI_any p s s W hP (by omega) (by omega))
  have HN := Lib.hid hn
  have HV := Lib.hid hv
  have HKl := Lib.hid hK
  have HM := Lib.hid hM
  have i0 : (0 : Int) < (ms.length : Int) + 1 := by omega
  clear hx hv hM hn hK hm0 q0 q1 q2 q3
  go_enter Try.func119, Try.ntmps119
  go_upto_region 1 with fail
  generalize hW0 : (w.alloc (.cells #[.int .i64 0, .int .i64 0, .int .i64 0, .slice none 0 0] 32)) = W0 at h1 ⊢
  clear hW0
  go_cut [5] (fun s5 wx => ∃ (bx : Nat) (A7 : Option Addr) (c7 : Nat), s5 = .pointer (some ⟨bx, 0, none⟩) ∧ St w wx [.box bx [.int .i64 p, .int .i64 s, .int .i64 s, .slice A7 (s * s) c7], .own (.slice A7 (s * s) c7) (List.replicate (s * s) 0), .fact (fun w' => w'.cell? ⟨b0, off0, none⟩ = some (.int .i64 p) ∧ w'.cell? ⟨b0, off0 + 1, none⟩ = some (.int .i64 s) ∧ w'.cell? ⟨b0, off0 + 2, none⟩ = some (.int .i64 s)), .box w.heap.size [.int .i64 0, .int .i64 0, .int .i64 0, .slice none 0 0], .fact (fun w' => MatsR w' (.slice (some ⟨b0, off0, none⟩) (m0 :: ms).length k2) (m0 :: ms)), .ro (.slice A1 K.length k1) K])
  case first =>
    have g0 := h1.drew
    refine wp_region_cut (S := fun w' => w'.cell? ⟨b0, off0, none⟩ = some (.int .i64 p) ∧ w'.cell? ⟨b0, off0 + 1, none⟩ = some (.int .i64 s) ∧ w'.cell? ⟨b0, off0 + 2, none⟩ = some (.int .i64 s)) 14 (by kernel_rfl) (by kernel_rfl) (g0.fact 0 rfl) (fun hHeld => ?_)
    simp only [List.take_succ_cons, List.take_zero]
    generalize W0.drew = y0 at g0 hHeld ⊢
    clear h1
    refine anyH_take (v := ?_) 0 rfl (by kernel_rfl) (by kernel_rfl) (by kernel_rfl) (fun _ _ _ h => h) rfl ?_ hHeld ?_
    rotate_left
    · intro w' hSw
      go_simp
      try with_reducible rfl
    try simp only [Act.put, List.setIfInBounds_toArray, List.set_cons_zero, List.set_cons_succ]
    refine anyH_take (v := ?_) 1 rfl (by kernel_rfl) (by kernel_rfl) (by kernel_rfl) (fun _ _ _ h => h) rfl ?_ hHeld ?_
    rotate_left
    · intro w' hSw
      go_simp
      try with_reducible rfl
    try simp only [Act.put, List.setIfInBounds_toArray, List.set_cons_zero, List.set_cons_succ]
    refine anyH_take (v := ?_) 2 rfl (by kernel_rfl) (by kernel_rfl) (by kernel_rfl) (fun _ _ _ h => h) rfl ?_ hHeld ?_
    rotate_left
    · intro w' hSw
      go_simp
      try with_reducible rfl
    try simp only [Act.put, List.setIfInBounds_toArray, List.set_cons_zero, List.set_cons_succ]
    refine anyH_take (v := ?_) 3 rfl (by kernel_rfl) (by kernel_rfl) (by kernel_rfl) (fun _ _ _ h => h) rfl ?_ hHeld ?_
    rotate_left
    · intro w' hSw
      go_simp
      try with_reducible rfl
    try simp only [Act.put, List.setIfInBounds_toArray, List.set_cons_zero, List.set_cons_succ]
    refine anyH_take (v := ?_) 4 rfl (by kernel_rfl) (by kernel_rfl) (by kernel_rfl) (fun _ _ _ h => h) rfl ?_ hHeld ?_
    rotate_left
    · intro w' hSw
      go_simp
      try with_reducible rfl
    try simp only [Act.put, List.setIfInBounds_toArray, List.set_cons_zero, List.set_cons_succ]
    refine anyH_take (v := ?_) 5 rfl (by kernel_rfl) (by kernel_rfl) (by kernel_rfl) (fun _ _ _ h => h) rfl ?_ hHeld ?_
    rotate_left
    · intro w' hSw
      go_simp
      try with_reducible rfl
    try simp only [Act.put, List.setIfInBounds_toArray, List.set_cons_zero, List.set_cons_succ]
    refine anyH_take (v := ?_) 6 rfl (by kernel_rfl) (by kernel_rfl) (by kernel_rfl) (fun _ _ _ h => h) rfl ?_ hHeld ?_
    rotate_left
    · intro w' hSw
      go_simp
      try with_reducible rfl
    try simp only [Act.put, List.setIfInBounds_toArray, List.set_cons_zero, List.set_cons_succ]
    refine anyH_take (v := ?_) 7 rfl (by kernel_rfl) (by kernel_rfl) (by kernel_rfl) (fun _ _ _ h => h) rfl ?_ hHeld ?_
    rotate_left
    · intro w' hSw
      go_simp
      try with_reducible rfl
    try simp only [Act.put, List.setIfInBounds_toArray, List.set_cons_zero, List.set_cons_succ]
    refine anyH_take (v := ?_) 8 rfl (by kernel_rfl) (by kernel_rfl) (by kernel_rfl) (fun _ _ _ h => h) rfl ?_ hHeld ?_
    rotate_left
    · intro w' hSw
      go_simp
      try with_reducible rfl
    try simp only [Act.put, List.setIfInBounds_toArray, List.set_cons_zero, List.set_cons_succ]
    refine anyH_take (v := ?_) 9 rfl (by kernel_rfl) (by kernel_rfl) (by kernel_rfl) (fun _ _ _ h => h) rfl ?_ hHeld ?_
    rotate_left
    · intro w' hSw
      go_simp
      try with_reducible rfl
    try simp only [Act.put, List.setIfInBounds_toArray, List.set_cons_zero, List.set_cons_succ]
    refine anyH_take (v := ?_) 10 rfl (by kernel_rfl) (by kernel_rfl) (by kernel_rfl) (fun _ _ _ h => h) rfl ?_ hHeld ?_
    rotate_left
    · intro w' hSw
      go_simp
      try with_reducible rfl
    try simp only [Act.put, List.setIfInBounds_toArray, List.set_cons_zero, List.set_cons_succ]
    refine anyH_take (v := ?_) 11 rfl (by kernel_rfl) (by kernel_rfl) (by kernel_rfl) (fun _ _ _ h => h) rfl ?_ hHeld ?_
    rotate_left
    · intro w' hSw
      go_simp
      try with_reducible rfl
    try simp only [Act.put, List.setIfInBounds_toArray, List.set_cons_zero, List.set_cons_succ]
    refine wpAnyH_ready (rs := [12, 13]) (by kernel_rfl) (by simp) ?_
    refine ready_cons rfl (fun K hK => ?_) (ready_cons rfl (fun K hK => ?_) AllReadyH.nil)
    · go_simp
      refine (HZ.out _).mono ?_
      rintro (e : Ending) y1 ⟨u, rfl, ho, hb1⟩
      obtain ⟨A7, c7, rfl, _, _, _⟩ := id ho.ints
      rw [List.length_replicate] at ho ⊢
      have g1 := g0.pushOwn hb1 ho
      clear ho hb1
      show K _ _
      refine hK.out _ _ ?_ (fun hHeld => ?_)
      · exact g1.fact 1 rfl
      clear hK K
      try simp only [Act.put, List.setIfInBounds_toArray, List.set_cons_zero, List.set_cons_succ]
      refine wpAnyH_ready (rs := [13]) (by kernel_rfl) (by simp) ?_
      refine ready_cons rfl (fun K hK => ?_) AllReadyH.nil
      · go_simp
        have g2 := g1.box [.int .i64 0, .int .i64 0, .int .i64 0, .slice none 0 0] 32
        refine hK.out _ _ ?_ (fun hHeld => ?_)
        · exact g2.fact 2 rfl
        clear hK K
        generalize World.alloc y1 (.cells #[.int .i64 0, .int .i64 0, .int .i64 0, .slice none 0 0] 32) = y2 at g2 hHeld ⊢
        try simp only [Act.put, List.setIfInBounds_toArray, List.set_cons_zero, List.set_cons_succ]
        obtain ⟨p0, p1, p2, p3⟩ := g2.box4 0 rfl
        have f0 := g2.free 0 rfl 0
        have f1 := g2.free 0 rfl 1
        have f2 := g2.free 0 rfl 2
        have f3 := g2.free 0 rfl 3
        have q1 := (((g2.setBox 0 rfl 0 (.int .i64 p)).setBox 0 rfl 1 (.int .i64 s)).setBox 0 rfl 2 (.int .i64 s)).setBox 0 rfl 3 (.slice A7 (s * s) c7)
        refine wpAnyH_done (by kernel_rfl) ?_ _
        show wpList _ _ _ _ _ _
        simp only [List.drop_succ_cons, List.drop_zero]
        go_wp2_with fail
        go_meet
        exact ⟨_, _, _, rfl, q1⟩
    · go_simp
      have g1 := g0.box [.int .i64 0, .int .i64 0, .int .i64 0, .slice none 0 0] 32
      refine hK.out _ _ ?_ (fun hHeld => ?_)
      · exact g1.fact 1 rfl
      clear hK K
      generalize World.alloc y0 (.cells #[.int .i64 0, .int .i64 0, .int .i64 0, .slice none 0 0] 32) = y1 at g1 hHeld ⊢
      try simp only [Act.put, List.setIfInBounds_toArray, List.set_cons_zero, List.set_cons_succ]
      refine wpAnyH_ready (rs := [12]) (by kernel_rfl) (by simp) ?_
      refine ready_cons rfl (fun K hK => ?_) AllReadyH.nil
      · go_simp
        refine (HZ.out _).mono ?_
        rintro (e : Ending) y2 ⟨u, rfl, ho, hb1⟩
        obtain ⟨A7, c7, rfl, _, _, _⟩ := id ho.ints
        rw [List.length_replicate] at ho ⊢
        have g2 := g1.pushOwn hb1 ho
        clear ho hb1
        show K _ _
        refine hK.out _ _ ?_ (fun hHeld => ?_)
        · exact g2.fact 2 rfl
        clear hK K
        try simp only [Act.put, List.setIfInBounds_toArray, List.set_cons_zero, List.set_cons_succ]
        obtain ⟨p0, p1, p2, p3⟩ := g2.box4 1 rfl
        have f0 := g2.free 1 rfl 0
        have f1 := g2.free 1 rfl 1
        have f2 := g2.free 1 rfl 2
        have f3 := g2.free 1 rfl 3
        have q1 := (((g2.setBox 1 rfl 0 (.int .i64 p)).setBox 1 rfl 1 (.int .i64 s)).setBox 1 rfl 2 (.int .i64 s)).setBox 1 rfl 3 (.slice A7 (s * s) c7)
        refine wpAnyH_done (by kernel_rfl) ?_ _
        show wpList _ _ _ _ _ _
        simp only [List.drop_succ_cons, List.drop_zero]
        go_wp2_with fail
        go_meet
        exact ⟨_, _, _, rfl, q1.toFront 1 rfl⟩
  case rest =>
  clear h1
  obtain ⟨bx, A7, c7, rfl, h1⟩ := hcut
  obtain ⟨Ms, hMs⟩ : ∃ Ms, Ms = (m0 :: ms).map Mt.d := ⟨_, rfl⟩
  have hMr : ∀ i (hi : i < (m0 :: ms).length), rowOf Ms i = ((m0 :: ms)[i]).d := fun i hi => by
    rw [hMs, ← rowOf_eq (by simpa using hi), List.getElem_map]
  have hMl : Ms.length = n := by rw [hMs, List.length_map]; exact HN.out
  have HMr := Lib.hid hMr
  have HMl := Lib.hid hMl
  have HOk := Lib.hid (sumMTo_ok (p := p) hp (n := s * s) (K := K) (Ms := Ms) (fun i hi => by rw [hMr i (by rw [HN.out, ← hMl]; exact hi)]; exact (HM.out i (by rw [HN.out, ← hMl]; exact hi)).2.2.2.1))
  have HRf := Lib.hid (show sumMTo p (s * s) K ((m0 :: ms).map Mt.d) n = sumMTo p (s * s) K Ms n by rw [hMs])
  clear hMs hMr hMl
  go_wp2
  go_loopw [23] (fun v23 wr => ∃ (i : Nat), v23 = .int .i64 i ∧ i ≤ n ∧ St w wr [.box bx [.int .i64 p, .int .i64 s, .int .i64 s, .slice A7 (s * s) c7], .own (.slice A7 (s * s) c7) (sumMTo p (s * s) K Ms i), .fact (fun w' => w'.cell? ⟨b0, off0, none⟩ = some (.int .i64 p) ∧ w'.cell? ⟨b0, off0 + 1, none⟩ = some (.int .i64 s) ∧ w'.cell? ⟨b0, off0 + 2, none⟩ = some (.int .i64 s)), .box w.heap.size [.int .i64 0, .int .i64 0, .int .i64 0, .slice none 0 0], .fact (fun w' => MatsR w' (.slice (some ⟨b0, off0, none⟩) (m0 :: ms).length k2) (m0 :: ms)), .ro (.slice A1 K.length k1) K]) (fun v23 _ => n - (intOf v23).toNat)
  case atStart => exact ⟨0, rfl, by omega, h1⟩
  case round =>
    clear h1
    obtain ⟨i, rfl, a1, h1⟩ := hrel
    by_cases hi : i < n
    · obtain ⟨kb, koff, rfl⟩ := h1.roSome 5 rfl (by rw [HKl.out]; omega)
      have hik : i < K.length := by rw [HKl.out]; exact hi
      have y0 := h1.roCell 5 rfl (q := i) hik
      have hkr := resid_vec rK (i := i) hik
      obtain ⟨x, hx⟩ : ∃ x, x = vec K i := ⟨_, rfl⟩
      have hS : sumMTo p (s * s) K Ms (i + 1) = if x = 0 then sumMTo p (s * s) K Ms i else addL (sumMTo p (s * s) K Ms i) x (rowOf Ms i) p := by rw [hx]; rfl
      rw [← hx] at y0 hkr
      have iK : (i : Int) < K.length := by omega
      clear hx
      by_cases hx0 : x = 0
      · rw [if_pos hx0] at hS
        have HS2 := Lib.hid hS
        have t1 : (x != 0) = false := by simp [hx0]
        clear hx0 hS
        go_wp2
        go_roundw
        case rel => exact ⟨i + 1, by go_num, by omega, by rw [HS2.out]; exact h1⟩
        case measure => simp [intOf]; omega
      · rw [if_neg hx0] at hS
        have t1 : (x != 0) = true := by simp [hx0]
        have him : i < (m0 :: ms).length := by rw [HN.out]; exact hi
        obtain ⟨g1, g2, g3, g4, g5⟩ := HM.out i him
        rw [HMr.out i him] at hS
        obtain ⟨b, off, A9, c9, hbo, hm⟩ := HV.out.at (i := i) him
        simp only [Option.some.injEq, Addr.mk.injEq, and_true] at hbo
        obtain ⟨rfl, rfl⟩ := hbo
        obtain ⟨Di, hDi⟩ : ∃ Di, Di = ((m0 :: ms)[i]).d := ⟨_, rfl⟩
        unfold MtAt at hm
        rw [g1, g2, g3] at hm
        rw [← hDi] at hm g4 g5 hS
        have h2 := h1.pushOld (R := fun w' => w'.cell? ⟨b0, off0 + i * 4 + 3, none⟩ = some (.slice A9 Di.length c9)) (fun w' hk => (World.cell?_of_block (hk _ (World.block_lt_of_cell? w _ hm.2.2.2.1))).trans hm.2.2.2.1)
        have hIn : IntsB w w.heap.size (.slice A9 Di.length c9) Di := hm.2.2.2.2.toB
        have HI := Lib.hid hIn
        obtain ⟨o1, o2⟩ := HOk.out i (by rw [HMl.out]; omega)
        have HDl := Lib.hid g4
        have HDr := Lib.hid g5
        have HO1 := Lib.hid o1
        have HO2 := Lib.hid o2
        have HS2 := Lib.hid hS
        have iM2 : (i : Int) < (ms.length : Int) + 1 := by rw [List.length_cons] at him; omega
        clear g1 g2 g3 g4 g5 hm hDi o1 o2 hS hIn him
        go_upto_region 6 with fail
        clear y0
        have g0 := h2.drew
        refine wp_region_cut (S := fun w' => (w'.cell? ⟨bx, 0, none⟩ = some (.int .i64 p) ∧ w'.cell? ⟨bx, 1, none⟩ = some (.int .i64 s) ∧ w'.cell? ⟨bx, 2, none⟩ = some (.int .i64 s) ∧ w'.cell? ⟨bx, 3, none⟩ = some (.slice A7 (s * s) c7)) ∧ w'.cell? ⟨b0, off0 + i * 4 + 3, none⟩ = some (.slice A9 Di.length c9)) 10 (by kernel_rfl) (by kernel_rfl) ⟨g0.box4 1 rfl, g0.fact 0 rfl⟩ (fun hHeld => ?_)
        simp only [List.take_succ_cons, List.take_zero]
        refine anyH_take (v := ?_) 0 rfl (by kernel_rfl) (by kernel_rfl) (by kernel_rfl) (fun _ _ _ h => h) rfl ?_ hHeld ?_
        rotate_left
        · intro w' hSw
          go_simp
          try with_reducible rfl
        try simp only [Act.put, List.setIfInBounds_toArray, List.set_cons_zero, List.set_cons_succ]
        refine anyH_take (v := ?_) 1 rfl (by kernel_rfl) (by kernel_rfl) (by kernel_rfl) (fun _ _ _ h => h) rfl ?_ hHeld ?_
        rotate_left
        · intro w' hSw
          go_simp
          try with_reducible rfl
        try simp only [Act.put, List.setIfInBounds_toArray, List.set_cons_zero, List.set_cons_succ]
        refine anyH_take (v := ?_) 2 rfl (by kernel_rfl) (by kernel_rfl) (by kernel_rfl) (fun _ _ _ h => h) rfl ?_ hHeld ?_
        rotate_left
        · intro w' hSw
          go_simp
          try with_reducible rfl
        try simp only [Act.put, List.setIfInBounds_toArray, List.set_cons_zero, List.set_cons_succ]
        refine anyH_take (v := ?_) 3 rfl (by kernel_rfl) (by kernel_rfl) (by kernel_rfl) (fun _ _ _ h => h) rfl ?_ hHeld ?_
        rotate_left
        · intro w' hSw
          go_simp
          try with_reducible rfl
        try simp only [Act.put, List.setIfInBounds_toArray, List.set_cons_zero, List.set_cons_succ]
        refine anyH_take (v := ?_) 4 rfl (by kernel_rfl) (by kernel_rfl) (by kernel_rfl) (fun _ _ _ h => h) rfl ?_ hHeld ?_
        rotate_left
        · intro w' hSw
          go_simp
          try with_reducible rfl
        try simp only [Act.put, List.setIfInBounds_toArray, List.set_cons_zero, List.set_cons_succ]
        refine anyH_take (v := ?_) 5 rfl (by kernel_rfl) (by kernel_rfl) (by kernel_rfl) (fun _ _ _ h => h) rfl ?_ hHeld ?_
        rotate_left
        · intro w' hSw
          go_simp
          try with_reducible rfl
        try simp only [Act.put, List.setIfInBounds_toArray, List.set_cons_zero, List.set_cons_succ]
        refine anyH_take (v := ?_) 6 rfl (by kernel_rfl) (by kernel_rfl) (by kernel_rfl) (fun _ _ _ h => h) rfl ?_ hHeld ?_
        rotate_left
        · intro w' hSw
          go_simp
          try with_reducible rfl
        try simp only [Act.put, List.setIfInBounds_toArray, List.set_cons_zero, List.set_cons_succ]
        refine anyH_take (v := ?_) 7 rfl (by kernel_rfl) (by kernel_rfl) (by kernel_rfl) (fun _ _ _ h => h) rfl ?_ hHeld ?_
        rotate_left
        · intro w' hSw
          go_simp
          try with_reducible rfl
        try simp only [Act.put, List.setIfInBounds_toArray, List.set_cons_zero, List.set_cons_succ]
        refine anyH_take (v := ?_) 8 rfl (by kernel_rfl) (by kernel_rfl) (by kernel_rfl) (fun _ _ _ h => h) rfl ?_ hHeld ?_
        rotate_left
        · intro w' hSw
          go_simp
          try with_reducible rfl
        try simp only [Act.put, List.setIfInBounds_toArray, List.set_cons_zero, List.set_cons_succ]
        refine anyH_take (v := ?_) 9 rfl (by kernel_rfl) (by kernel_rfl) (by kernel_rfl) (fun _ _ _ h => h) rfl ?_ hHeld ?_
        rotate_left
        · intro w' hSw
          go_simp
          try with_reducible rfl
        try simp only [Act.put, List.setIfInBounds_toArray, List.set_cons_zero, List.set_cons_succ]
        refine wpAnyH_done (by kernel_rfl) ?_ _
        show wpList _ _ _ _ _ _
        simp only [List.drop_succ_cons, List.drop_zero]
        clear hHeld
        have hI2 : IntsB _ w.heap.size (.slice A9 Di.length c9) Di := HI.out.below g0.below (Nat.le_refl _)
        go_wp2_with fail
        refine (addTo_any _ _ (sumMTo p (s * s) K Ms i) Di x p w.heap.size _ (g0.own 2 rfl) hI2.ints (fun h g hg e => ?_) (by rw [HDl.out, HO1.out]) (by rw [HO1.out]; omega) hp hp' hkr.1 (by omega) HO2.out HDr.out).mono ?_
        · obtain ⟨b', off', c', he, hbb⟩ := hI2.2 h
          have := ((g0.own 2 rfl).lt g hg).1
          rw [he] at e
          simp [Value.ownBlock] at e
          omega
        rintro (e : Ending) w3 ⟨rfl, ho, hg⟩
        rw [← HS2.out] at ho
        have h3 := (g0.wrote 2 rfl ho hg).drop 1
        clear g0 h1 h2 ho hg hI2
        go_wp2
        go_roundw
        case rel => exact ⟨i + 1, by go_num, by omega, h3⟩
        case measure => simp [intOf]; omega
    · obtain rfl : i = n := by omega
      rw [← HRf.out] at h1
      have iK : ¬ ((i : Int) < K.length) := by rw [HKl.out]; omega
      have f0 := h1.free 3 rfl 0
      have f1 := h1.free 3 rfl 1
      have f2 := h1.free 3 rfl 2
      have f3 := h1.free 3 rfl 3
      obtain ⟨z0, z1, z2, z3⟩ := h1.box4 0 rfl
      obtain ⟨x0, x1, x2, x3⟩ := h1.box4 3 rfl
      have h2 := (((h1.setBox 3 rfl 0 (.int .i64 p)).setBox 3 rfl 1 (.int .i64 s)).setBox 3 rfl 2 (.int .i64 s)).setBox 3 rfl 3 (.slice A7 (s * s) c7)
      obtain ⟨r0, r1, r2, r3⟩ := h2.box4 3 rfl
      go_wp2
      refine bodyPost_ret (v := .agg #[.int .i64 p, .int .i64 s, .int .i64 s, .slice A7 (s * s) c7]) (by simp [results, Try.results119, go_sem, r0, r1, r2, r3]) rfl ⟨_, rfl, h2.own 1 rfl, h2.below⟩
end Go.Proofs.Ytechjmckfedblaa
