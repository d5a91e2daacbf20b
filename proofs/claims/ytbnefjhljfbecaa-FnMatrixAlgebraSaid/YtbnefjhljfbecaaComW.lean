/- The program's CommutatorOf at square matrices of one size. The reference's CommutatorOf, AddMatrices, ScaleMatrix, ZeroMatrix at well-formed matrices. The law's own functions over matrices: unit, plus, ints, equal. The reference's ZeroMatrix at a prime and small sizes. -/
import Derived.Test.YtbnefjhljfbecaaMatY
import Derived.Test.YtbnefjhljfbecaaSubSp
import Derived.Test.YtbnefjhljfbecaaRegX
import Derived.Test.YtbnefjhljfbecaaLite
namespace Go.Proofs.Ytbnefjhljfbecaa
set_option maxRecDepth 100000
section
open Go.RowKit
namespace Mx
theorem matOk_of {p : Int} {s : Nat} {D : List Int} (hP : isPrime p = true) (hs : s ≤ 40) (hD : D.length = s * s) (rD : resid p D = true) : matOk p s s D = true := by
  simp only [matOk, hP, rD, Bool.true_and, Bool.and_true, Bool.and_eq_true, decide_eq_true_eq]
  refine ⟨by simp [inR]; omega, by simp [inR]; omega, by rw [hD]; simp⟩

set_option maxHeartbeats 4000000 in
theorem CommutatorI_any (p : Int) (s : Nat) (t u : Value) (D E : List Int) (w : World) (ht : Ints w t D) (hu : Ints w u E) (hP : isPrime p = true) (hs : s ≤ 40) (hD : D.length = s * s) (hE : E.length = s * s) (rD : resid p D = true) (rE : resid p E = true) :
    Calls Try.prog 27 #[.agg #[.int .i64 p, .int .i64 s, .int .i64 s, t], .agg #[.int .i64 p, .int .i64 s, .int .i64 s, u]] w (RetMatB w p s s (comD p s D E) true) := by
  obtain ⟨hp, hp'⟩ := isPrime_bd hP
  have h1 := (((((St.start w).arg ht).arg hu).box [.int .i64 p, .int .i64 s, .int .i64 s, t] 35).box [.int .i64 p, .int .i64 s, .int .i64 s, u] 35).box [.int .i64 0, .int .i64 0, .int .i64 0, .slice none 0 0] 35
  simp only [World.size_alloc] at h1
  obtain ⟨A, k0, rfl, _, _, _⟩ := id ht
  obtain ⟨A2, k2, rfl, _, _, _⟩ := id hu
  have hss := mul_le hs hs
  obtain ⟨X, hX⟩ : ∃ X, X = mulD p s s s D E := ⟨_, rfl⟩
  obtain ⟨Y, hY⟩ : ∃ Y, Y = mulD p s s s E D := ⟨_, rfl⟩
  obtain ⟨R, hR⟩ : ∃ R, R = comD p s D E := ⟨_, rfl⟩
  have hXl : X.length = s * s := by rw [hX, length_mulD]
  have hYl : Y.length = s * s := by rw [hY, length_mulD]
  have hXr : resid p X = true := by rw [hX]; exact resid_mulD hp _ _ _ _ _
  have hYr : resid p Y = true := by rw [hY]; exact resid_mulD hp _ _ _ _ _
  have hRe : addL X (p - 1) Y p = R := by rw [hR, comD, hX, hY]
  have M1 := Lib.hid (show ∀ (W : World) (a : Value), Ints W a D → Calls Try.prog 23 #[.agg #[.int .i64 p, .int .i64 s, .int .i64 s, a]] W (RetBool W true) from fun W a ha => by
    have := MatrixOkI_any p s s a D W ha (by omega)
    rwa [matOk_of hP hs hD rD] at this)
  have M2 := Lib.hid (show ∀ (W : World) (a : Value), Ints W a E → Calls Try.prog 23 #[.agg #[.int .i64 p, .int .i64 s, .int .i64 s, a]] W (RetBool W true) from fun W a ha => by
    have := MatrixOkI_any p s s a E W ha (by omega)
    rwa [matOk_of hP hs hE rE] at this)
  have C1 := Lib.hid (show ∀ (W : World) (a b : Value), Ints W a D → Ints W b E → Calls Try.prog 56 #[.agg #[.int .i64 p, .int .i64 s, .int .i64 s, a], .agg #[.int .i64 p, .int .i64 s, .int .i64 s, b]] W (RetMat W p s s X) from fun W a b ha hb => by
    rw [hX]; exact times_any p p s s s s a b D E W ha hb hD hE hs hs hs hp hp' rD rE)
  have C2 := Lib.hid (show ∀ (W : World) (a b : Value), Ints W a E → Ints W b D → Calls Try.prog 56 #[.agg #[.int .i64 p, .int .i64 s, .int .i64 s, a], .agg #[.int .i64 p, .int .i64 s, .int .i64 s, b]] W (RetMat W p s s Y) from fun W a b ha hb => by
    rw [hY]; exact times_any p p s s s s a b E D W ha hb hE hD hs hs hs hp hp' rE rD)
  have C3 := Lib.hid (show ∀ (W : World) (a b : Value), Ints W a X → Ints W b Y → Calls Try.prog 55 #[.agg #[.int .i64 p, .int .i64 s, .int .i64 s, a], .int .i64 (p - 1), .agg #[.int .i64 p, .int .i64 s, .int .i64 s, b]] W (RetMat W p s s R) from fun W a b ha hb => by
    have := plus_any p p s s s s (p - 1) a b X Y W ha hb (by omega) (by omega) hp hp' (by omega) (by omega) hXr hYr
    rwa [hRe] at this)
  rw [← hR]
  have t1 : (p != p) = false := by simp
  have t2 : ((s : Int) != (s : Int)) = false := by simp
  have t3 : IntKind.i64.wrap (p - 1) = p - 1 := wrap_ok (by omega) (by omega)
  clear ht hu hD hE hX hY hR hXl hYl hXr hYr hRe rD rE
  go_enter Try.func27, Try.ntmps27
  obtain ⟨z0, z1, z2, z3⟩ := h1.box4 1 rfl
  obtain ⟨y0, y1, y2, y3⟩ := h1.box4 2 rfl
  go_wp2_with fail
  refine (M1.out _ _ (h1.roInts 4 rfl)).mono ?_
  rintro (e : Ending) w1 ⟨rfl, hb1⟩
  replace h1 := h1.on hb1
  clear z0 z1 z2 z3 y0 y1 y2 y3 hb1
  obtain ⟨z0, z1, z2, z3⟩ := h1.box4 1 rfl
  obtain ⟨y0, y1, y2, y3⟩ := h1.box4 2 rfl
  go_wp2_with fail
  refine (M2.out _ _ (h1.roInts 3 rfl)).mono ?_
  rintro (e : Ending) w2 ⟨rfl, hb1⟩
  replace h1 := h1.on hb1
  clear z0 z1 z2 z3 y0 y1 y2 y3 hb1 M1 M2
  obtain ⟨z0, z1, z2, z3⟩ := h1.box4 1 rfl
  obtain ⟨y0, y1, y2, y3⟩ := h1.box4 2 rfl
  go_upto_region 3 with fail
  have g0 := h1.drew
  clear z0 z1 z2 z3 y0 y1 y2 y3
  refine wp_region_cut (S := fun w' => (w'.cell? ⟨w.heap.size, 0, none⟩ = some (.int .i64 p) ∧ w'.cell? ⟨w.heap.size, 1, none⟩ = some (.int .i64 s) ∧ w'.cell? ⟨w.heap.size, 2, none⟩ = some (.int .i64 s) ∧ w'.cell? ⟨w.heap.size, 3, none⟩ = some (.slice A D.length k0)) ∧ (w'.cell? ⟨w.heap.size + 1, 0, none⟩ = some (.int .i64 p) ∧ w'.cell? ⟨w.heap.size + 1, 1, none⟩ = some (.int .i64 s) ∧ w'.cell? ⟨w.heap.size + 1, 2, none⟩ = some (.int .i64 s) ∧ w'.cell? ⟨w.heap.size + 1, 3, none⟩ = some (.slice A2 E.length k2))) 10 (by kernel_rfl) (by kernel_rfl) ⟨g0.box4 2 rfl, g0.box4 1 rfl⟩ (fun hHeld => ?_)
  simp only [List.take_succ_cons, List.take_zero]
  refine anyH_take (v := ?_) 0 rfl (by kernel_rfl) (by kernel_rfl) (by kernel_rfl) (fun _ _ _ h => h) rfl ?_ hHeld ?_
  rotate_left
  · intro w' hSw
    go_simp
    try with_reducible rfl
  try simp only [Act.put, List.setIfInBounds_toArray, List.set_cons_zero, List.set_cons_succ]
  refine anyH_take (v := ?_) 1 rfl (by kernel_rfl) (by kernel_rfl) (by kernel_rfl) (fun _ _ _ h => h) rfl ?_ hHeld ?_
  rotate_left
  · intro w' hSw
    go_simp
    try with_reducible rfl
  try simp only [Act.put, List.setIfInBounds_toArray, List.set_cons_zero, List.set_cons_succ]
  refine anyH_take (v := ?_) 3 rfl (by kernel_rfl) (by kernel_rfl) (by kernel_rfl) (fun _ _ _ h => h) rfl ?_ hHeld ?_
  rotate_left
  · intro w' hSw
    go_simp
    try with_reducible rfl
  try simp only [Act.put, List.setIfInBounds_toArray, List.set_cons_zero, List.set_cons_succ]
  refine anyH_take (v := ?_) 4 rfl (by kernel_rfl) (by kernel_rfl) (by kernel_rfl) (fun _ _ _ h => h) rfl ?_ hHeld ?_
  rotate_left
  · intro w' hSw
    go_simp
    try with_reducible rfl
  try simp only [Act.put, List.setIfInBounds_toArray, List.set_cons_zero, List.set_cons_succ]
  refine anyH_take (v := ?_) 5 rfl (by kernel_rfl) (by kernel_rfl) (by kernel_rfl) (fun _ _ _ h => h) rfl ?_ hHeld ?_
  rotate_left
  · intro w' hSw
    go_simp
    try with_reducible rfl
  try simp only [Act.put, List.setIfInBounds_toArray, List.set_cons_zero, List.set_cons_succ]
  refine anyH_take (v := ?_) 6 rfl (by kernel_rfl) (by kernel_rfl) (by kernel_rfl) (fun _ _ _ h => h) rfl ?_ hHeld ?_
  rotate_left
  · intro w' hSw
    go_simp
    try with_reducible rfl
  try simp only [Act.put, List.setIfInBounds_toArray, List.set_cons_zero, List.set_cons_succ]
  refine anyH_take (v := ?_) 7 rfl (by kernel_rfl) (by kernel_rfl) (by kernel_rfl) (fun _ _ _ h => h) rfl ?_ hHeld ?_
  rotate_left
  · intro w' hSw
    go_simp
    try with_reducible rfl
  try simp only [Act.put, List.setIfInBounds_toArray, List.set_cons_zero, List.set_cons_succ]
  refine wpAnyH_ready (rs := [2]) (by kernel_rfl) (by simp) ?_
  refine ready_cons rfl (fun K hK => ?_) AllReadyH.nil
  go_simp
  refine (C1.out _ _ _ (g0.roInts 4 rfl) (g0.roInts 3 rfl)).mono ?_
  rintro (e : Ending) w3 ⟨u1, rfl, ho1, hb1⟩
  obtain ⟨A5, n5, c5, rfl⟩ := ho1.slice
  have g1 := g0.pushOwn hb1 ho1
  show K _ _
  refine hK.out _ _ ?_ (fun hHeld => ?_)
  · exact ⟨g1.box4 3 rfl, g1.box4 2 rfl⟩
  clear hK K
  try simp only [Act.put, List.setIfInBounds_toArray, List.set_cons_zero, List.set_cons_succ]
  refine wpAnyH_ready (rs := [8]) (by kernel_rfl) (by simp) ?_
  refine ready_cons rfl (fun K hK => ?_) AllReadyH.nil
  go_simp
  refine (C2.out _ _ _ (g1.roInts 4 rfl) (g1.roInts 5 rfl)).mono ?_
  rintro (e : Ending) w4 ⟨u2, rfl, ho2, hb2⟩
  obtain ⟨A6, n6, c6, rfl⟩ := ho2.slice
  have g2 := g1.pushOwn hb2 ho2
  show K _ _
  refine hK.out _ _ ?_ (fun hHeld => ?_)
  · exact ⟨g2.box4 4 rfl, g2.box4 3 rfl⟩
  clear hK K
  try simp only [Act.put, List.setIfInBounds_toArray, List.set_cons_zero, List.set_cons_succ]
  refine wpAnyH_ready (rs := [9]) (by kernel_rfl) (by simp) ?_
  refine ready_cons rfl (fun K hK => ?_) AllReadyH.nil
  go_simp
  refine (C3.out _ _ _ (g2.ownInts 1 rfl) (g2.ownInts 0 rfl)).mono ?_
  rintro (e : Ending) w5 ⟨u3, rfl, ho3, hb3⟩
  obtain ⟨A7, n7, c7, rfl⟩ := ho3.slice
  have g3 := g2.pushOwn hb3 ho3
  show K _ _
  refine hK.out _ _ ?_ (fun hHeld => ?_)
  · exact ⟨g3.box4 5 rfl, g3.box4 4 rfl⟩
  clear hK K
  try simp only [Act.put, List.setIfInBounds_toArray, List.set_cons_zero, List.set_cons_succ]
  refine wpAnyH_done (by kernel_rfl) ?_ _
  show wpList _ _ _ _ _ _
  simp only [List.drop_succ_cons, List.drop_zero]
  clear hHeld
  obtain ⟨p0, p1, p2, p3⟩ := g3.box4 3 rfl
  have f0 := g3.free 3 rfl 0
  have f1 := g3.free 3 rfl 1
  have f2 := g3.free 3 rfl 2
  have f3 := g3.free 3 rfl 3
  have h5 := (((g3.setBox 3 rfl 0 (.int .i64 p)).setBox 3 rfl 1 (.int .i64 s)).setBox 3 rfl 2 (.int .i64 s)).setBox 3 rfl 3 (.slice A7 n7 c7)
  obtain ⟨r0, r1, r2, r3⟩ := h5.box4 3 rfl
  clear g0 g1 g2 g3 h1 ho1 ho2 ho3 hb1 hb2 hb3
  go_wp2
  refine bodyPost_ret (v := .tuple #[.agg #[.int .i64 p, .int .i64 s, .int .i64 s, .slice A7 n7 c7], .bool true]) (by simp [results, Try.results27, go_sem, r0, r1, r2, r3]) rfl ⟨_, rfl, h5.own 0 rfl, h5.below⟩
end Mx
end
section
open Go.RowKit
namespace Mx
set_option maxHeartbeats 4000000 in
theorem CommutatorS_any (p : Int) (s : Nat) (t u : Value) (D E : List Int) (w : World) (ht : Ints w t D) (hu : Ints w u E) (hP : isPrime p = true) (hs : s ≤ 40) (hD : D.length = s * s) (hE : E.length = s * s) (rD : resid p D = true) (rE : resid p E = true) :
    Calls Try.prog 14 #[.agg #[.int .i64 p, .int .i64 s, .int .i64 s, t], .agg #[.int .i64 p, .int .i64 s, .int .i64 s, u]] w (RetMatB w p s s (comD p s D E) true) := by
  obtain ⟨hp, hp'⟩ := isPrime_bd hP
  have h1 := (((((St.start w).arg ht).arg hu).box [.int .i64 p, .int .i64 s, .int .i64 s, t] 35).box [.int .i64 p, .int .i64 s, .int .i64 s, u] 35).box [.int .i64 0, .int .i64 0, .int .i64 0, .slice none 0 0] 35
  simp only [World.size_alloc] at h1
  obtain ⟨A, k0, rfl, _, _, _⟩ := id ht
  obtain ⟨A2, k2, rfl, _, _, _⟩ := id hu
  have hss := mul_le hs hs
  obtain ⟨R, hR⟩ : ∃ R, R = (comD p s D E) := ⟨_, rfl⟩
  have M1 := Lib.hid (show ∀ (W : World) (a : Value), Ints W a D → Calls Try.prog 29 #[.agg #[.int .i64 p, .int .i64 s, .int .i64 s, a]] W (RetBool W true) from fun W a ha => by
    have := MatrixOkS_any p s s a D W ha (by omega)
    rwa [matOk_of hP hs hD rD] at this)
  have M2 := Lib.hid (show ∀ (W : World) (a : Value), Ints W a E → Calls Try.prog 29 #[.agg #[.int .i64 p, .int .i64 s, .int .i64 s, a]] W (RetBool W true) from fun W a ha => by
    have := MatrixOkS_any p s s a E W ha (by omega)
    rwa [matOk_of hP hs hE rE] at this)
  have C1 := Lib.hid (fun (W : World) (a b : Value) (ha : Ints W a D) (hb : Ints W b E) => l1Commutator_any p s a b D E W ha hb hD hE hs hp hp' rD rE)
  rw [← hR] at C1 ⊢
  have t1 : (p != p) = false := by simp
  have t2 : ((s : Int) != (s : Int)) = false := by simp
  clear ht hu hD hE hR rD rE
  go_enter Try.func14, Try.ntmps14
  obtain ⟨z0, z1, z2, z3⟩ := h1.box4 1 rfl
  obtain ⟨y0, y1, y2, y3⟩ := h1.box4 2 rfl
  go_wp2_with fail
  refine (M1.out _ _ (h1.roInts 4 rfl)).mono ?_
  rintro (e : Ending) w1 ⟨rfl, hb1⟩
  replace h1 := h1.on hb1
  clear z0 z1 z2 z3 y0 y1 y2 y3 hb1
  obtain ⟨z0, z1, z2, z3⟩ := h1.box4 1 rfl
  obtain ⟨y0, y1, y2, y3⟩ := h1.box4 2 rfl
  go_wp2_with fail
  refine (M2.out _ _ (h1.roInts 3 rfl)).mono ?_
  rintro (e : Ending) w2 ⟨rfl, hb1⟩
  replace h1 := h1.on hb1
  clear z0 z1 z2 z3 y0 y1 y2 y3 hb1 M1 M2
  obtain ⟨z0, z1, z2, z3⟩ := h1.box4 1 rfl
  obtain ⟨y0, y1, y2, y3⟩ := h1.box4 2 rfl
  go_wp2_with fail
  refine (C1.out _ _ _ (h1.roInts 4 rfl) (h1.roInts 3 rfl)).mono ?_
  rintro (e : Ending) w3 ⟨u1, rfl, ho1, hb1⟩
  obtain ⟨A5, n5, c5, rfl⟩ := ho1.slice
  have g1 := h1.pushOwn hb1 ho1
  clear z0 z1 z2 z3 y0 y1 y2 y3 C1
  obtain ⟨p0, p1, p2, p3⟩ := g1.box4 1 rfl
  have f0 := g1.free 1 rfl 0
  have f1 := g1.free 1 rfl 1
  have f2 := g1.free 1 rfl 2
  have f3 := g1.free 1 rfl 3
  have h5 := (((g1.setBox 1 rfl 0 (.int .i64 p)).setBox 1 rfl 1 (.int .i64 s)).setBox 1 rfl 2 (.int .i64 s)).setBox 1 rfl 3 (.slice A5 n5 c5)
  obtain ⟨r0, r1, r2, r3⟩ := h5.box4 1 rfl
  clear g1 h1 ho1 hb1
  go_wp2
  refine bodyPost_ret (v := .tuple #[.agg #[.int .i64 p, .int .i64 s, .int .i64 s, .slice A5 n5 c5], .bool true]) (by simp [results, Try.results14, go_sem, r0, r1, r2, r3]) rfl ⟨_, rfl, h5.own 0 rfl, h5.below⟩
set_option maxHeartbeats 4000000 in
theorem AddMatricesS_any (p : Int) (s : Nat) (t u : Value) (D E : List Int) (w : World) (ht : Ints w t D) (hu : Ints w u E) (hP : isPrime p = true) (hs : s ≤ 40) (hD : D.length = s * s) (hE : E.length = s * s) (rD : resid p D = true) (rE : resid p E = true) :
    Calls Try.prog 46 #[.agg #[.int .i64 p, .int .i64 s, .int .i64 s, t], .agg #[.int .i64 p, .int .i64 s, .int .i64 s, u]] w (RetMatB w p s s (addL D 1 E p) true) := by
  obtain ⟨hp, hp'⟩ := isPrime_bd hP
  have h1 := (((((St.start w).arg ht).arg hu).box [.int .i64 p, .int .i64 s, .int .i64 s, t] 35).box [.int .i64 p, .int .i64 s, .int .i64 s, u] 35).box [.int .i64 0, .int .i64 0, .int .i64 0, .slice none 0 0] 35
  simp only [World.size_alloc] at h1
  obtain ⟨A, k0, rfl, _, _, _⟩ := id ht
  obtain ⟨A2, k2, rfl, _, _, _⟩ := id hu
  have hss := mul_le hs hs
  obtain ⟨R, hR⟩ : ∃ R, R = (addL D 1 E p) := ⟨_, rfl⟩
  have M1 := Lib.hid (show ∀ (W : World) (a : Value), Ints W a D → Calls Try.prog 29 #[.agg #[.int .i64 p, .int .i64 s, .int .i64 s, a]] W (RetBool W true) from fun W a ha => by
    have := MatrixOkS_any p s s a D W ha (by omega)
    rwa [matOk_of hP hs hD rD] at this)
  have M2 := Lib.hid (show ∀ (W : World) (a : Value), Ints W a E → Calls Try.prog 29 #[.agg #[.int .i64 p, .int .i64 s, .int .i64 s, a]] W (RetBool W true) from fun W a ha => by
    have := MatrixOkS_any p s s a E W ha (by omega)
    rwa [matOk_of hP hs hE rE] at this)
  have C1 := Lib.hid (fun (W : World) (a b : Value) (ha : Ints W a D) (hb : Ints W b E) => l1Add_any p p s s s s a b D E W ha hb (by omega) (by omega) hp hp' rD rE)
  rw [← hR] at C1 ⊢
  have t1 : (p != p) = false := by simp
  have t2 : ((s : Int) != (s : Int)) = false := by simp
  clear ht hu hD hE hR rD rE
  go_enter Try.func46, Try.ntmps46
  obtain ⟨z0, z1, z2, z3⟩ := h1.box4 1 rfl
  obtain ⟨y0, y1, y2, y3⟩ := h1.box4 2 rfl
  go_wp2_with fail
  refine (M1.out _ _ (h1.roInts 4 rfl)).mono ?_
  rintro (e : Ending) w1 ⟨rfl, hb1⟩
  replace h1 := h1.on hb1
  clear z0 z1 z2 z3 y0 y1 y2 y3 hb1
  obtain ⟨z0, z1, z2, z3⟩ := h1.box4 1 rfl
  obtain ⟨y0, y1, y2, y3⟩ := h1.box4 2 rfl
  go_wp2_with fail
  refine (M2.out _ _ (h1.roInts 3 rfl)).mono ?_
  rintro (e : Ending) w2 ⟨rfl, hb1⟩
  replace h1 := h1.on hb1
  clear z0 z1 z2 z3 y0 y1 y2 y3 hb1 M1 M2
  obtain ⟨z0, z1, z2, z3⟩ := h1.box4 1 rfl
  obtain ⟨y0, y1, y2, y3⟩ := h1.box4 2 rfl
  go_wp2_with fail
  refine (C1.out _ _ _ (h1.roInts 4 rfl) (h1.roInts 3 rfl)).mono ?_
  rintro (e : Ending) w3 ⟨u1, rfl, ho1, hb1⟩
  obtain ⟨A5, n5, c5, rfl⟩ := ho1.slice
  have g1 := h1.pushOwn hb1 ho1
  clear z0 z1 z2 z3 y0 y1 y2 y3 C1
  obtain ⟨p0, p1, p2, p3⟩ := g1.box4 1 rfl
  have f0 := g1.free 1 rfl 0
  have f1 := g1.free 1 rfl 1
  have f2 := g1.free 1 rfl 2
  have f3 := g1.free 1 rfl 3
  have h5 := (((g1.setBox 1 rfl 0 (.int .i64 p)).setBox 1 rfl 1 (.int .i64 s)).setBox 1 rfl 2 (.int .i64 s)).setBox 1 rfl 3 (.slice A5 n5 c5)
  obtain ⟨r0, r1, r2, r3⟩ := h5.box4 1 rfl
  clear g1 h1 ho1 hb1
  go_wp2
  refine bodyPost_ret (v := .tuple #[.agg #[.int .i64 p, .int .i64 s, .int .i64 s, .slice A5 n5 c5], .bool true]) (by simp [results, Try.results46, go_sem, r0, r1, r2, r3]) rfl ⟨_, rfl, h5.own 0 rfl, h5.below⟩

set_option maxHeartbeats 4000000 in
theorem ScaleMatrixS_any (p k : Int) (s : Nat) (t : Value) (D : List Int) (w : World) (ht : Ints w t D) (hP : isPrime p = true) (hs : s ≤ 40) (hD : D.length = s * s) (rD : resid p D = true) (hk : 0 ≤ k) (hk2 : k < p) :
    Calls Try.prog 13 #[.agg #[.int .i64 p, .int .i64 s, .int .i64 s, t], .int .i64 k] w (RetMat w p s s (scaleR p (k % p) D)) := by
  obtain ⟨hp, hp'⟩ := isPrime_bd hP
  have h1 := (((St.start w).arg ht).box [.int .i64 p, .int .i64 s, .int .i64 s, t] 35).box [.int .i64 0, .int .i64 0, .int .i64 0, .slice none 0 0] 35
  simp only [World.size_alloc] at h1
  obtain ⟨A, k0, rfl, _, _, _⟩ := id ht
  have hss := mul_le hs hs
  obtain ⟨R, hR⟩ : ∃ R, R = scaleR p (k % p) D := ⟨_, rfl⟩
  have M1 := Lib.hid (show ∀ (W : World) (a : Value), Ints W a D → Calls Try.prog 29 #[.agg #[.int .i64 p, .int .i64 s, .int .i64 s, a]] W (RetBool W true) from fun W a ha => by
    have := MatrixOkS_any p s s a D W ha (by omega)
    rwa [matOk_of hP hs hD rD] at this)
  have C1 := Lib.hid (fun (W : World) (a : Value) (ha : Ints W a D) => l1Scale_any p s s k a D W ha (by omega) hp hp' (by omega) (by omega) rD)
  rw [← hR] at C1 ⊢
  clear ht hD hR rD
  go_enter Try.func13, Try.ntmps13
  obtain ⟨z0, z1, z2, z3⟩ := h1.box4 1 rfl
  go_wp2_with fail
  refine (M1.out _ _ (h1.roInts 2 rfl)).mono ?_
  rintro (e : Ending) w1 ⟨rfl, hb1⟩
  replace h1 := h1.on hb1
  clear z0 z1 z2 z3 hb1 M1
  obtain ⟨z0, z1, z2, z3⟩ := h1.box4 1 rfl
  go_wp2_with fail
  refine (C1.out _ _ (h1.roInts 2 rfl)).mono ?_
  rintro (e : Ending) w3 ⟨u1, rfl, ho1, hb1⟩
  obtain ⟨A5, n5, c5, rfl⟩ := ho1.slice
  have g1 := h1.pushOwn hb1 ho1
  clear z0 z1 z2 z3 C1
  obtain ⟨p0, p1, p2, p3⟩ := g1.box4 1 rfl
  have f0 := g1.free 1 rfl 0
  have f1 := g1.free 1 rfl 1
  have f2 := g1.free 1 rfl 2
  have f3 := g1.free 1 rfl 3
  have h5 := (((g1.setBox 1 rfl 0 (.int .i64 p)).setBox 1 rfl 1 (.int .i64 s)).setBox 1 rfl 2 (.int .i64 s)).setBox 1 rfl 3 (.slice A5 n5 c5)
  obtain ⟨r0, r1, r2, r3⟩ := h5.box4 1 rfl
  clear g1 h1 ho1 hb1
  go_wp2
  refine bodyPost_ret (v := .agg #[.int .i64 p, .int .i64 s, .int .i64 s, .slice A5 n5 c5]) (by simp [results, Try.results13, go_sem, r0, r1, r2, r3]) rfl ⟨_, rfl, h5.own 0 rfl, h5.below⟩
end Mx
end
section
open Go.RowKit
namespace Mx
set_option maxHeartbeats 4000000 in
theorem unitL_any (n k : Nat) (w : World) (hn : n ≤ 1048576) (hk : k < n) :
    Calls Try.prog 10 #[.int .i64 n, .int .i64 k] w fun e w' => ∃ v, e = .returned v ∧ Own w' w.heap.size v ((List.replicate n 0).set k 1) ∧ Below w.heap.size w w' := by
  have h1 := (St.start w).zeros n (by omega)
  have hmk := makeI n (by omega)
  have k1 : (k : Int) < n := by omega
  go_enter Try.func10, Try.ntmps10
  go_upto_region 2 with fail
  generalize World.alloc _ _ = wa at h1 ⊢
  obtain ⟨s0, f0⟩ := h1.ownCellA 0 rfl (q := k) (by rw [List.length_replicate]; exact hk)
  have h2 := h1.set 0 rfl k 1
  simp only [List.set_cons_zero] at h2
  go_wp2
  go_ret
  exact ⟨_, rfl, h2.own 0 rfl, h2.below⟩

set_option maxHeartbeats 4000000 in
theorem intsL_any (u v : Value) (l : List Int) (w : World) (hu : Ints w u l) (hv : Ints w v l) :
    Calls Try.prog 48 #[u, v] w (RetBool w true) := by
  have h1 := ((St.start w).arg hu).arg hv
  obtain ⟨A, k0, rfl, _, _, _⟩ := id hu
  obtain ⟨A2, k2, rfl, _, _, _⟩ := id hv
  have t1 : ((l.length : Int) != (l.length : Int)) = false := by simp
  clear hu hv
  go_enter Try.func48, Try.ntmps48
  go_wp2
  go_loopw [5] (fun v5 wr => ∃ i : Nat, v5 = .int .i64 i ∧ i ≤ l.length ∧ St w wr [.ro (.slice A2 l.length k2) l, .ro (.slice A l.length k0) l]) (fun v5 _ => l.length - (intOf v5).toNat)
  case atStart => exact ⟨0, rfl, by omega, h1⟩
  case round =>
    clear h1
    obtain ⟨i, rfl, a1, h1⟩ := hrel
    by_cases hi : i < l.length
    · have i1 : (i : Int) < l.length := by omega
      obtain ⟨b, off, rfl, _, e1⟩ := (h1.roInts 1 rfl).toB.cell hi
      obtain ⟨b2, off2, rfl, _, e2⟩ := (h1.roInts 0 rfl).toB.cell hi
      obtain ⟨x, hx⟩ : ∃ x, x = vec l i := ⟨_, rfl⟩
      rw [← hx] at e1 e2
      have t2 : (x != x) = false := by simp
      clear hx
      go_upto_region 6 with fail
      have g1 := h1.drew
      have e1' : (World.drew wr).cell? _ = _ := e1
      have e2' : (World.drew wr).cell? _ = _ := e2
      refine wp_region_held_drew (S := fun w' => w'.cell? ⟨b, off + i, none⟩ = some (.int .i64 x) ∧ w'.cell? ⟨b2, off2 + i, none⟩ = some (.int .i64 x)) (by kernel_rfl) ⟨e1', e2'⟩ (fun hHeld => ?_)
      refine anyH_take (v := ?_) 0 rfl (by kernel_rfl) (by kernel_rfl) (by kernel_rfl) (fun _ _ _ h => h) rfl ?_ hHeld ?_
      rotate_left
      · intro w' hSw
        go_simp
        try with_reducible rfl
      try simp only [Act.put, List.setIfInBounds_toArray, List.set_cons_zero, List.set_cons_succ]
      refine anyH_take (v := ?_) 1 rfl (by kernel_rfl) (by kernel_rfl) (by kernel_rfl) (fun _ _ _ h => h) rfl ?_ hHeld ?_
      rotate_left
      · intro w' hSw
        go_simp
        try with_reducible rfl
      try simp only [Act.put, List.setIfInBounds_toArray, List.set_cons_zero, List.set_cons_succ]
      refine anyH_take (v := ?_) 2 rfl (by kernel_rfl) (by kernel_rfl) (by kernel_rfl) (fun _ _ _ h => h) rfl ?_ hHeld ?_
      rotate_left
      · intro w' hSw
        go_simp
        try with_reducible rfl
      try simp only [Act.put, List.setIfInBounds_toArray, List.set_cons_zero, List.set_cons_succ]
      refine anyH_take (v := ?_) 3 rfl (by kernel_rfl) (by kernel_rfl) (by kernel_rfl) (fun _ _ _ h => h) rfl ?_ hHeld ?_
      rotate_left
      · intro w' hSw
        go_simp
        try with_reducible rfl
      try simp only [Act.put, List.setIfInBounds_toArray, List.set_cons_zero, List.set_cons_succ]
      refine anyH_take (v := ?_) 4 rfl (by kernel_rfl) (by kernel_rfl) (by kernel_rfl) (fun _ _ _ h => h) rfl ?_ hHeld ?_
      rotate_left
      · intro w' hSw
        go_simp
        try with_reducible rfl
      try simp only [Act.put, List.setIfInBounds_toArray, List.set_cons_zero, List.set_cons_succ]
      refine anyH_take (v := ?_) 5 rfl (by kernel_rfl) (by kernel_rfl) (by kernel_rfl) (fun _ _ _ h => h) rfl ?_ hHeld ?_
      rotate_left
      · intro w' hSw
        go_simp
        try with_reducible rfl
      try simp only [Act.put, List.setIfInBounds_toArray, List.set_cons_zero, List.set_cons_succ]
      refine anyH_take (v := ?_) 6 rfl (by kernel_rfl) (by kernel_rfl) (by kernel_rfl) (fun _ _ _ h => h) rfl ?_ hHeld ?_
      rotate_left
      · intro w' hSw
        go_simp
        try with_reducible rfl
      try simp only [Act.put, List.setIfInBounds_toArray, List.set_cons_zero, List.set_cons_succ]
      refine anyH_take (v := ?_) 7 rfl (by kernel_rfl) (by kernel_rfl) (by kernel_rfl) (fun _ _ _ h => h) rfl ?_ hHeld ?_
      rotate_left
      · intro w' hSw
        go_simp
        try with_reducible rfl
      try simp only [Act.put, List.setIfInBounds_toArray, List.set_cons_zero, List.set_cons_succ]
      refine anyH_take (v := ?_) 8 rfl (by kernel_rfl) (by kernel_rfl) (by kernel_rfl) (fun _ _ _ h => h) rfl ?_ hHeld ?_
      rotate_left
      · intro w' hSw
        go_simp
        try with_reducible rfl
      try simp only [Act.put, List.setIfInBounds_toArray, List.set_cons_zero, List.set_cons_succ]
      refine wpAnyH_done (by kernel_rfl) ?_ _
      clear hHeld
      clear e1 e2 e1' e2' h1
      go_wp2
      go_roundw
      case rel => exact ⟨i + 1, by go_num, by omega, g1⟩
      case measure => simp [intOf]; omega
    · obtain rfl : i = l.length := by omega
      go_wp2
      go_ret
      exact ⟨rfl, h1.below⟩
set_option maxHeartbeats 4000000 in
theorem equalL_any (p : Int) (s : Nat) (t u : Value) (D : List Int) (w : World) (ht : Ints w t D) (hu : Ints w u D) :
    Calls Try.prog 15 #[.agg #[.int .i64 p, .int .i64 s, .int .i64 s, t], .agg #[.int .i64 p, .int .i64 s, .int .i64 s, u]] w (RetBool w true) := by
  have h1 := ((((St.start w).arg ht).arg hu).box [.int .i64 p, .int .i64 s, .int .i64 s, t] 35).box [.int .i64 p, .int .i64 s, .int .i64 s, u] 35
  simp only [World.size_alloc] at h1
  obtain ⟨A, k0, rfl, _, _, _⟩ := id ht
  obtain ⟨A2, k2, rfl, _, _, _⟩ := id hu
  have C1 := Lib.hid (fun (W : World) (a b : Value) (ha : Ints W a D) (hb : Ints W b D) => intsL_any a b D W ha hb)
  have t1 : (p == p) = true := by simp
  have t2 : ((s : Int) == (s : Int)) = true := by simp
  clear ht hu
  go_enter Try.func15, Try.ntmps15
  obtain ⟨z0, z1, z2, z3⟩ := h1.box4 0 rfl
  obtain ⟨y0, y1, y2, y3⟩ := h1.box4 1 rfl
  go_wp2_with fail
  refine (C1.out _ _ _ (h1.roInts 3 rfl) (h1.roInts 2 rfl)).mono ?_
  rintro (e : Ending) w1 ⟨rfl, hb1⟩
  go_wp2
  go_ret
  exact ⟨rfl, (h1.on hb1).below⟩

set_option maxHeartbeats 4000000 in
theorem plusL_any (p : Int) (s : Nat) (t u : Value) (D E : List Int) (w : World) (ht : Ints w t D) (hu : Ints w u E) (hP : isPrime p = true) (hs : s ≤ 40) (hD : D.length = s * s) (hE : E.length = s * s) (rD : resid p D = true) (rE : resid p E = true) :
    Calls Try.prog 12 #[.agg #[.int .i64 p, .int .i64 s, .int .i64 s, t], .agg #[.int .i64 p, .int .i64 s, .int .i64 s, u]] w (RetMat w p s s (addL D 1 E p)) := by
  have h1 := (((((St.start w).arg ht).arg hu).box [.int .i64 p, .int .i64 s, .int .i64 s, t] 35).box [.int .i64 p, .int .i64 s, .int .i64 s, u] 35).box [.int .i64 0, .int .i64 0, .int .i64 0, .slice none 0 0] 35
  simp only [World.size_alloc] at h1
  obtain ⟨A, k0, rfl, _, _, _⟩ := id ht
  obtain ⟨A2, k2, rfl, _, _, _⟩ := id hu
  obtain ⟨R, hR⟩ : ∃ R, R = addL D 1 E p := ⟨_, rfl⟩
  have C1 := Lib.hid (fun (W : World) (a b : Value) (ha : Ints W a D) (hb : Ints W b E) => AddMatricesS_any p s a b D E W ha hb hP hs hD hE rD rE)
  rw [← hR] at C1 ⊢
  clear ht hu hD hE hR rD rE
  go_enter Try.func12, Try.ntmps12
  obtain ⟨z0, z1, z2, z3⟩ := h1.box4 1 rfl
  obtain ⟨y0, y1, y2, y3⟩ := h1.box4 2 rfl
  go_wp2_with fail
  refine (C1.out _ _ _ (h1.roInts 4 rfl) (h1.roInts 3 rfl)).mono ?_
  rintro (e : Ending) w3 ⟨u1, rfl, ho1, hb1⟩
  obtain ⟨A5, n5, c5, rfl⟩ := ho1.slice
  have g1 := (h1.pushOwn hb1 ho1).box [.int .i64 p, .int .i64 s, .int .i64 s, .slice A5 n5 c5] 35
  clear z0 z1 z2 z3 y0 y1 y2 y3 C1 h1 ho1 hb1
  go_upto_region 2 with fail
  generalize World.alloc _ _ = wa at g1 ⊢
  obtain ⟨z0, z1, z2, z3⟩ := g1.box4 0 rfl
  obtain ⟨p0, p1, p2, p3⟩ := g1.box4 2 rfl
  have f0 := g1.free 2 rfl 0
  have f1 := g1.free 2 rfl 1
  have f2 := g1.free 2 rfl 2
  have f3 := g1.free 2 rfl 3
  have h5 := (((g1.setBox 2 rfl 0 (.int .i64 p)).setBox 2 rfl 1 (.int .i64 s)).setBox 2 rfl 2 (.int .i64 s)).setBox 2 rfl 3 (.slice A5 n5 c5)
  obtain ⟨r0, r1, r2, r3⟩ := h5.box4 2 rfl
  clear g1
  go_wp2
  refine bodyPost_ret (v := .agg #[.int .i64 p, .int .i64 s, .int .i64 s, .slice A5 n5 c5]) (by simp [results, Try.results12, go_sem, r0, r1, r2, r3]) rfl ⟨_, rfl, h5.own 1 rfl, h5.below⟩
end Mx
end
section
open Go.RowKit
namespace Mx
set_option maxHeartbeats 4000000 in
theorem ZeroMatrixS_any (p : Int) (s : Nat) (w : World) (hP : isPrime p = true) (hs : s ≤ 40) :
    Calls Try.prog 11 #[.int .i64 p, .int .i64 s, .int .i64 s] w (RetMat w p s s (List.replicate (s * s) 0)) := by
  have hb := isPrime_bd hP
  have h := mul_le hs hs
  have i1 : inR s 0 40 = true := inR_true (by omega) (by omega)
  have h1 := (St.start w).box [.int .i64 0, .int .i64 0, .int .i64 0, .slice none 0 0] 35
  have C1 := Lib.hid (fun W => l1Zero_any p s s W (by omega))
  go_enter Try.func11, Try.ntmps11
  go_wp2_with (first
    | (go_at_call 44; refine (IsPrimeS_any _ _).mono ?_; rintro (e : Ending) w' ⟨rfl, rfl⟩)
    | (go_at_call 45; refine (l1In_any _ _ _ _).mono ?_; rintro (e : Ending) w' ⟨rfl, rfl⟩)
    | fail)
  refine (C1.out _).mono ?_
  rintro (e : Ending) w3 ⟨u1, rfl, ho1, hb1⟩
  obtain ⟨A5, n5, c5, rfl⟩ := ho1.slice
  have g1 := h1.pushOwn hb1 ho1
  obtain ⟨p0, p1, p2, p3⟩ := g1.box4 1 rfl
  have f0 := g1.free 1 rfl 0
  have f1 := g1.free 1 rfl 1
  have f2 := g1.free 1 rfl 2
  have f3 := g1.free 1 rfl 3
  have h5 := (((g1.setBox 1 rfl 0 (.int .i64 p)).setBox 1 rfl 1 (.int .i64 s)).setBox 1 rfl 2 (.int .i64 s)).setBox 1 rfl 3 (.slice A5 n5 c5)
  obtain ⟨r0, r1, r2, r3⟩ := h5.box4 1 rfl
  clear g1 h1 ho1 hb1
  go_wp2
  refine bodyPost_ret (v := .agg #[.int .i64 p, .int .i64 s, .int .i64 s, .slice A5 n5 c5]) (by simp [results, Try.results11, go_sem, r0, r1, r2, r3]) rfl ⟨_, rfl, h5.own 0 rfl, h5.below⟩
end Mx
end
end Go.Proofs.Ytbnefjhljfbecaa
