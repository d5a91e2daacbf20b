import Derived.Test.YtbnefjhljfbecaaGreatDoorW39
import Derived.Test.YtbnefjhljfbecaaGreatDoorW42
namespace Go.Proofs.YtbnefjhljfbecaaGreatDoor
set_option maxRecDepth 100000
open Go.RowKit
set_option maxHeartbeats 4000000 in
theorem IsToralS_any (p n q r c : Int) (t u : Value) (T D : List Int) (w : World) (ht : Ints w t T) (hu : Ints w u D) (hp : p ≤ 9223372036854775807) (hq : q ≤ 9223372036854775807) :
  Calls Tryz.prog 13 #[.agg #[.int .i64 p, .int .i64 n, t], .agg #[.int .i64 q, .int .i64 r, .int .i64 c, u]] w (RetBool w (torOk p n T q r c D)) := by
 have h1 := ((((St.start w).arg ht).arg hu).box [.int .i64 p, .int .i64 n, t] 30).box [.int .i64 q, .int .i64 r, .int .i64 c, u] 32
 simp only [World.size_alloc] at h1
 obtain ⟨A, k, rfl, _, _, _⟩ := id ht
 obtain ⟨A1, k1, rfl, _, _, _⟩ := id hu
 have HI := Lib.hid (fun (W : World) (x1 : Ints W (.slice A T.length k) T) (x2 : Ints W (.slice A1 D.length k1) D) => l2Space_any p n q r c _ _ T D W x1 x2 hp hq)
 clear ht hu
 obtain ⟨B, hB⟩ : ∃ B, B = torOk p n T q r c D := ⟨_, rfl⟩
 rw [← hB]
 obtain ⟨x0, x1, x2⟩ := h1.box3 1 rfl
 obtain ⟨y0, y1, y2, y3⟩ := h1.box4 0 rfl
 by_cases b1 : subOk p n T q r c D = true
 case neg =>
  have b1 : subOk p n T q r c D = false := by simpa using b1
  have HB := Lib.hid (show B = false by rw [hB, torOk, b1, Bool.false_and])
  have B1 := Lib.hid b1
  clear b1 hB
  go_enter Tryz.func13, Tryz.ntmps13
  go_wp2_with fail
  refine (HI.out _ (h1.roInts 3 rfl) (h1.roInts 2 rfl)).mono ?_
  rintro (e : Ending) w3 ⟨rfl, hb3⟩
  have g1 := h1.on hb3
  rw [B1.out]
  go_wp2
  go_ret
  exact ⟨ret_bool HB.out.symm, g1.below⟩
 obtain ⟨c1, c2, rfl, rfl⟩ := subOk_spec b1
 obtain ⟨m, rfl, m28, kT, rT, k4, k5, hP⟩ := algOk_spec c1
 obtain ⟨a, b, rfl, eb, ka, kb, kD, rD, -⟩ := matOk_spec (spaceOk_mat c2)
 have eb' : m = b := by omega
 subst eb'
 clear eb
 have B1 := Lib.hid b1
 by_cases b2 : q ≤ 101
 case neg =>
  have HB := Lib.hid (show B = false by rw [hB, torOk, b1, Bool.true_and, decide_eq_false b2, Bool.false_and])
  have i1 : (101 : Int) < q := by omega
  clear b1 hB c1 c2 kT rT hP kD rD b2
  go_enter Tryz.func13, Tryz.ntmps13
  go_wp2_with fail
  refine (HI.out _ (h1.roInts 3 rfl) (h1.roInts 2 rfl)).mono ?_
  rintro (e : Ending) w3 ⟨rfl, hb3⟩
  have g1 := h1.on hb3
  rw [B1.out]
  clear x0 x1 x2 y0 y1 y2 y3 h1
  obtain ⟨x0, x1, x2⟩ := g1.box3 1 rfl
  go_wp2
  go_ret
  exact ⟨ret_bool HB.out.symm, g1.below⟩
 have i1 : decide ((101 : Int) < q) = false := decide_eq_false (by omega)
 have HPr := Lib.hid (fun (W : World) (x1 : Ints W (.slice A T.length k) T) (x2 : Ints W (.slice A1 D.length k1) D) => l2Product_any q q q m a a _ _ _ T D D W x1 x2 x2 kT kD kD m28 (by omega) (by omega) hP rT rD rD)
 have HAd := Lib.hid (fun (W : World) (v : Value) (U : List Int) (x1 : Ints W (.slice A T.length k) T) (x2 : Ints W v U) (x3 : U.length = m) (x4 : resid q U = true) => l2Adjoint_any q m _ v T U W x1 x2 kT x3 m28 k4 k5 rT x4)
 have HPw := Lib.hid (show ∀ (W : World) (v : Value) (X : List Int) (x1 : Ints W v X) (x2 : X.length = m * m) (x3 : resid q X = true), Calls Tryz.prog 34 #[.agg #[.int .i64 q, .int .i64 m, .int .i64 m, v], .int .i64 q] W (RetMat W q m m (pwM q m X q.toNat)) from fun W v X x1 x2 x3 => by
  have h9 := l7PowerMatrix_any q m q.toNat v X W x1 x2 (by omega) (by omega) hP x3
  rwa [Int.toNat_of_nonneg (by omega)] at h9)
 have HAr := Lib.hid (fun U => resid_adM k4 T U m)
 obtain ⟨l, hl⟩ : ∃ l, l = (spanL q m (prodL T m q a D a D)).length := ⟨_, rfl⟩
 have hB2 : B = (decide (l = 0) && allF (torAt q m T D) a 0) := by rw [hB, torOk, b1, decide_eq_true b2, Int.toNat_natCast, Int.toNat_natCast, ← hl]; simp
 obtain ⟨X9, hX9⟩ : ∃ X, X = spanM q m (prodL T m q a D a D) := ⟨_, rfl⟩
 rw [← hl, ← hX9] at HPr
 have HRo := Lib.hid (fun (W : World) (j : Nat) (x1 : IntsB W w.heap.size (.slice A1 D.length k1) D) (x2 : w.heap.size ≤ W.heap.size) (hj : j < a) => l1Row_any q a m _ D j w.heap.size W x1 x2 kD (by have := mul_le ka kb; omega) (by omega) hj)
 have HB2 := Lib.hid hB2
 have HRd := Lib.hid (fun i => resid_rowM (by omega : (0 : Int) < q) rD m i)
 clear hB hB2 hl hX9 b1 c1 c2 kT rT hP kD rD b2
 go_enter Tryz.func13, Tryz.ntmps13
 go_wp2_with fail
 refine (HI.out _ (h1.roInts 3 rfl) (h1.roInts 2 rfl)).mono ?_
 rintro (e : Ending) w3 ⟨rfl, hb3⟩
 have g2 := h1.on hb3
 rw [B1.out]
 clear x0 x1 x2 y0 y1 y2 y3 h1 hb3
 obtain ⟨x0, x1, x2⟩ := g2.box3 1 rfl
 obtain ⟨y0, y1, y2, y3⟩ := g2.box4 0 rfl
 go_wp2_with fail
 refine (HPr.out _ (g2.roInts 3 rfl) (g2.roInts 2 rfl)).mono ?_
 rintro (e : Ending) w5 ⟨u5, rfl, ho5, hb5⟩
 obtain ⟨A5, n5, c5, rfl⟩ := ho5.slice
 have hfd := fieldM1 q l m A5 n5 c5
 have g3 := (g2.on hb5)
 clear x0 x1 x2 y0 y1 y2 y3 g2 hb5 ho5
 by_cases hl0 : l = 0
 case neg =>
  have i2 : (0 : Int) < (l : Int) := by omega
  have HN := Lib.hid (show B = false by rw [HB2.out, decide_eq_false hl0, Bool.false_and])
  clear hl0
  go_wp2
  go_ret
  exact ⟨ret_bool HN.out.symm, g3.below⟩
 have HRun : Hid (B = allF (torAt q m T D) (a - 0) 0) := by show _ = _; rw [HB2.out, decide_eq_true hl0, Bool.true_and]; rfl
 subst hl0
 have hfd0 := fieldM1 q 0 m A5 n5 c5
 go_wp2
 clear hfd hfd0 i1
 go_loopw [5] (fun v5 wr => ∃ i : Nat, v5 = .int .i64 i ∧ i ≤ a ∧ Hid (B = allF (torAt q m T D) (a - i) i) ∧ St w wr [.box (w.heap.size + 1) [.int .i64 q, .int .i64 a, .int .i64 m, .slice A1 D.length k1], .box w.heap.size [.int .i64 q, .int .i64 m, .slice A T.length k], .ro (.slice A1 D.length k1) D, .ro (.slice A T.length k) T]) (fun v5 _ => a - (intOf v5).toNat)
 case atStart => exact ⟨0, rfl, by omega, HRun, g3⟩
 case round =>
  clear g3 HRun
  obtain ⟨i, rfl, a1, HRun, g⟩ := hrel
  obtain ⟨y0, y1, y2, y3⟩ := g.box4 0 rfl
  by_cases hi : i < a
  ·have HStp := Lib.hid (show allF (torAt q m T D) (a - i) i = (torAt q m T D i && allF (torAt q m T D) (a - (i + 1)) (i + 1)) by rw [show a - i = (a - (i + 1)) + 1 by omega]; rfl)
   have HZ0 := Lib.hid (show torAt q m T D i = decide (adM T (rowM m D i) m q = pwM q m (adM T (rowM m D i) m q) q.toNat) from rfl)
   have HA2 := Lib.hid (fun (W : World) (v : Value) x1 (x2 : Ints W v (rowM m D i)) => HAd.out W v _ x1 x2 (length_rowM _ _ _) (HRd.out i))
   have HR2 := Lib.hid (fun (W : World) x1 x2 => HRo.out W i x1 x2 hi)
   obtain ⟨Ad, hAd⟩ : ∃ Ad, Ad = adM T (rowM m D i) m q := ⟨_, rfl⟩
   have hAl : Ad.length = m * m := by rw [hAd]; exact length_adM _ _ _ _
   have hAr : resid q Ad = true := by rw [hAd]; exact HAr.out _
   rw [← hAd] at HA2 HZ0
   have HP2 := Lib.hid (fun (W : World) (v : Value) x1 => HPw.out W v Ad x1 hAl hAr)
   obtain ⟨Pw, hPw⟩ : ∃ Pw, Pw = pwM q m Ad q.toNat := ⟨_, rfl⟩
   rw [← hPw] at HP2 HZ0
   obtain ⟨Z, hZ⟩ : ∃ Z, Z = decide (Ad = Pw) := ⟨_, rfl⟩
   have HEq := Lib.hid (show ∀ (W : World) (v1 v2 : Value) (x1 : Ints W v1 Ad) (x2 : Ints W v2 Pw), Calls Tryz.prog 16 #[.agg #[.int .i64 q, .int .i64 m, .int .i64 m, v1], .agg #[.int .i64 q, .int .i64 m, .int .i64 m, v2]] W (RetBool W Z) from fun W v1 v2 x1 x2 => by
    have h9 := l1Equal_any q m m q m m v1 v2 Ad Pw W x1 x2
    rw [show decide (q = q ∧ (m : Int) = m ∧ (m : Int) = m ∧ Ad = Pw) = Z by rw [hZ]; exact decide_eq_decide.2 ⟨fun h => h.2.2.2, fun h => ⟨rfl, rfl, rfl, h⟩⟩] at h9
    exact h9)
   rw [← hZ] at HZ0
   have ii : (i : Int) < (a : Int) := by omega
   clear hAd hAl hAr hPw hZ
   go_upto_region 6 with fail
   clear y0 y1 y2 y3
   go_cut [6] (fun s6 wx => ∃ (Bx : Nat) (A8 : Option Addr) (n8 c8 : Nat) (v7 : Value) (r7 : List Int), s6 = .pointer (some ⟨Bx, 0, none⟩) ∧ St w wx [.own (.slice A8 n8 c8) Ad, .ro v7 r7, .box (w.heap.size + 1) [.int .i64 q, .int .i64 a, .int .i64 m, .slice A1 D.length k1], .box w.heap.size [.int .i64 q, .int .i64 m, .slice A T.length k], .ro (.slice A1 D.length k1) D, .ro (.slice A T.length k) T, .box Bx [.int .i64 q, .int .i64 m, .int .i64 m, .slice A8 n8 c8]])
   case first =>
    replace g := g.drew
    refine wp_region_cut (S := fun w' => (w'.cell? ⟨w.heap.size, 0, none⟩ = some (.int .i64 q) ∧ w'.cell? ⟨w.heap.size, 1, none⟩ = some (.int .i64 m) ∧ w'.cell? ⟨w.heap.size, 2, none⟩ = some (.slice A T.length k)) ∧ (w'.cell? ⟨w.heap.size + 1, 0, none⟩ = some (.int .i64 q) ∧ w'.cell? ⟨w.heap.size + 1, 1, none⟩ = some (.int .i64 a) ∧ w'.cell? ⟨w.heap.size + 1, 2, none⟩ = some (.int .i64 m) ∧ w'.cell? ⟨w.heap.size + 1, 3, none⟩ = some (.slice A1 D.length k1))) 6 (by kernel_rfl) (by kernel_rfl) ⟨g.box3 1 rfl, g.box4 0 rfl⟩ (fun hHeld => ?_)
    simp only [List.take_succ_cons, List.take_zero]
    generalize wr.drew = v0 at g hHeld ⊢
    refine tkA 0 hHeld ?_
    refine tkA 1 hHeld ?_
    refine tkA 2 hHeld ?_
    refine wpAnyH_ready (rs := [3, 5]) (by kernel_rfl) (by simp) ?_
    refine ready_cons rfl (fun K hK => ?_) (ready_cons rfl (fun K hK => ?_) AllReadyH.nil)
    ·go_simp
     refine (HR2.out _ (g.ro 2 rfl) g.size).mono ?_
     rintro (e : Ending) w5 ⟨A7, c7, rfl, hr5, hb5⟩
     replace g := (g.on hb5).pushRo hr5
     show K _ _
     refine outA hK ?_ fun hHeld => ?_
     ·exact ⟨g.box3 2 rfl, g.box4 1 rfl⟩
     clear hK K
     refine wpAnyH_ready (rs := [4, 5]) (by kernel_rfl) (by simp) ?_
     refine ready_cons rfl (fun K hK => ?_) (ready_cons rfl (fun K hK => ?_) AllReadyH.nil)
     ·go_simp
      refine (HA2.out _ _ (g.roInts 4 rfl) (g.roInts 0 rfl)).mono ?_
      rintro (e : Ending) w6 ⟨u6, rfl, ho6, hb6⟩
      obtain ⟨A8, n8, c8, rfl⟩ := ho6.slice
      replace g := g.pushOwn hb6 ho6
      show K _ _
      refine outA hK ?_ fun hHeld => ?_
      ·exact ⟨g.box3 3 rfl, g.box4 2 rfl⟩
      clear hK K
      refine rcA 5 fun K hK => ?_
      ·go_simp
       replace g := (g.box [.int .i64 0, .int .i64 0, .int .i64 0, .slice none 0 0] 32).toBack
       simp only [List.cons_append, List.nil_append] at g
       refine hK.out _ _ ?_ (fun hHeld => ?_)
       ·exact ⟨g.box3 3 rfl, g.box4 2 rfl⟩
       clear hK K
       generalize w6.alloc (.cells #[.int .i64 0, .int .i64 0, .int .i64 0, .slice none 0 0] 32) = va at g hHeld ⊢
       try simp only [Act.put, List.setIfInBounds_toArray, List.set_cons_zero, List.set_cons_succ]
       refine wpAnyH_done (by kernel_rfl) ?_ _
       show wpList _ _ _ _ _ _
       simp only [List.drop_succ_cons, List.drop_zero]
       clear hHeld
       obtain ⟨p0, p1, p2, p3⟩ := g.box4 6 rfl
       have f0 := g.free 6 rfl 0
       have f1 := g.free 6 rfl 1
       have f2 := g.free 6 rfl 2
       have f3 := g.free 6 rfl 3
       have g4 := (((g.setBox 6 rfl 0 (.int .i64 q)).setBox 6 rfl 1 (.int .i64 m)).setBox 6 rfl 2 (.int .i64 m)).setBox 6 rfl 3 (.slice A8 n8 c8)
       obtain ⟨r0, r1, r2, r3⟩ := g4.box4 6 rfl
       go_wp2
       go_meet
       exact ⟨_, A8, n8, c8, _, _, rfl, g4⟩
     ·go_simp
      replace g := (g.box [.int .i64 0, .int .i64 0, .int .i64 0, .slice none 0 0] 32).toBack
      simp only [List.cons_append, List.nil_append] at g
      refine hK.out _ _ ?_ (fun hHeld => ?_)
      ·exact ⟨g.box3 2 rfl, g.box4 1 rfl⟩
      clear hK K
      generalize w5.alloc (.cells #[.int .i64 0, .int .i64 0, .int .i64 0, .slice none 0 0] 32) = va at g hHeld ⊢
      try simp only [Act.put, List.setIfInBounds_toArray, List.set_cons_zero, List.set_cons_succ]
      refine rcA 4 fun K hK => ?_
      ·go_simp
       refine (HA2.out _ _ (g.roInts 4 rfl) (g.roInts 0 rfl)).mono ?_
       rintro (e : Ending) w6 ⟨u6, rfl, ho6, hb6⟩
       obtain ⟨A8, n8, c8, rfl⟩ := ho6.slice
       replace g := g.pushOwn hb6 ho6
       show K _ _
       refine outA hK ?_ fun hHeld => ?_
       ·exact ⟨g.box3 3 rfl, g.box4 2 rfl⟩
       clear hK K
       refine wpAnyH_done (by kernel_rfl) ?_ _
       show wpList _ _ _ _ _ _
       simp only [List.drop_succ_cons, List.drop_zero]
       clear hHeld
       obtain ⟨p0, p1, p2, p3⟩ := g.box4 6 rfl
       have f0 := g.free 6 rfl 0
       have f1 := g.free 6 rfl 1
       have f2 := g.free 6 rfl 2
       have f3 := g.free 6 rfl 3
       have g4 := (((g.setBox 6 rfl 0 (.int .i64 q)).setBox 6 rfl 1 (.int .i64 m)).setBox 6 rfl 2 (.int .i64 m)).setBox 6 rfl 3 (.slice A8 n8 c8)
       obtain ⟨r0, r1, r2, r3⟩ := g4.box4 6 rfl
       go_wp2
       go_meet
       exact ⟨_, A8, n8, c8, _, _, rfl, g4⟩
    ·go_simp
     replace g := (g.box [.int .i64 0, .int .i64 0, .int .i64 0, .slice none 0 0] 32).toBack
     simp only [List.cons_append, List.nil_append] at g
     refine hK.out _ _ ?_ (fun hHeld => ?_)
     ·exact ⟨g.box3 1 rfl, g.box4 0 rfl⟩
     clear hK K
     generalize v0.alloc (.cells #[.int .i64 0, .int .i64 0, .int .i64 0, .slice none 0 0] 32) = va at g hHeld ⊢
     try simp only [Act.put, List.setIfInBounds_toArray, List.set_cons_zero, List.set_cons_succ]
     refine rcA 3 fun K hK => ?_
     ·go_simp
      refine (HR2.out _ (g.ro 2 rfl) g.size).mono ?_
      rintro (e : Ending) w5 ⟨A7, c7, rfl, hr5, hb5⟩
      replace g := (g.on hb5).pushRo hr5
      show K _ _
      refine outA hK ?_ fun hHeld => ?_
      ·exact ⟨g.box3 2 rfl, g.box4 1 rfl⟩
      clear hK K
      refine rcA 4 fun K hK => ?_
      ·go_simp
       refine (HA2.out _ _ (g.roInts 4 rfl) (g.roInts 0 rfl)).mono ?_
       rintro (e : Ending) w6 ⟨u6, rfl, ho6, hb6⟩
       obtain ⟨A8, n8, c8, rfl⟩ := ho6.slice
       replace g := g.pushOwn hb6 ho6
       show K _ _
       refine outA hK ?_ fun hHeld => ?_
       ·exact ⟨g.box3 3 rfl, g.box4 2 rfl⟩
       clear hK K
       refine wpAnyH_done (by kernel_rfl) ?_ _
       show wpList _ _ _ _ _ _
       simp only [List.drop_succ_cons, List.drop_zero]
       clear hHeld
       obtain ⟨p0, p1, p2, p3⟩ := g.box4 6 rfl
       have f0 := g.free 6 rfl 0
       have f1 := g.free 6 rfl 1
       have f2 := g.free 6 rfl 2
       have f3 := g.free 6 rfl 3
       have g4 := (((g.setBox 6 rfl 0 (.int .i64 q)).setBox 6 rfl 1 (.int .i64 m)).setBox 6 rfl 2 (.int .i64 m)).setBox 6 rfl 3 (.slice A8 n8 c8)
       obtain ⟨r0, r1, r2, r3⟩ := g4.box4 6 rfl
       go_wp2
       go_meet
       exact ⟨_, A8, n8, c8, _, _, rfl, g4⟩
   obtain ⟨Bx, A8, n8, c8, v7, r7, rfl, g2⟩ := hcut
   clear g
   go_upto_region 7 with fail
   have g0 := g2.drew
   refine wp_region_held_drew (S := fun w' => (w'.cell? ⟨Bx, 0, none⟩ = some (.int .i64 q) ∧ w'.cell? ⟨Bx, 1, none⟩ = some (.int .i64 m) ∧ w'.cell? ⟨Bx, 2, none⟩ = some (.int .i64 m) ∧ w'.cell? ⟨Bx, 3, none⟩ = some (.slice A8 n8 c8)) ∧ (w'.cell? ⟨w.heap.size, 0, none⟩ = some (.int .i64 q) ∧ w'.cell? ⟨w.heap.size, 1, none⟩ = some (.int .i64 m) ∧ w'.cell? ⟨w.heap.size, 2, none⟩ = some (.slice A T.length k))) (by kernel_rfl) ⟨g0.box4 6 rfl, g0.box3 3 rfl⟩ (fun hHeld => ?_)
   refine tkA 0 hHeld ?_
   refine tkA 1 hHeld ?_
   refine tkA 2 hHeld ?_
   refine tkA 3 hHeld ?_
   refine rcA 4 fun K hK => ?_
   go_simp
   refine (HP2.out _ _ (g0.ownInts 0 rfl)).mono ?_
   rintro (e : Ending) w8 ⟨u8, rfl, ho8, hb8⟩
   obtain ⟨A9, n9, c9, rfl⟩ := ho8.slice
   have g3 := g0.pushOwn hb8 ho8
   show K _ _
   refine outA hK ?_ fun hHeld => ?_
   ·exact ⟨g3.box4 7 rfl, g3.box3 4 rfl⟩
   clear hK K
   refine rcA 5 fun K hK => ?_
   go_simp
   refine (HEq.out _ _ _ (g3.ownInts 1 rfl) (g3.ownInts 0 rfl)).mono ?_
   rintro (e : Ending) w9 ⟨rfl, hb9⟩
   have g4 := g3.on hb9
   show K _ _
   refine outA hK ?_ fun hHeld => ?_
   ·exact ⟨g4.box4 7 rfl, g4.box3 4 rfl⟩
   clear hK K
   refine tkA 6 hHeld ?_
   refine wpAnyH_done (by kernel_rfl) ?_ _
   clear hHeld
   clear g0 g2 g3 hb8 ho8 hb9
   cases Z with
   | true =>
    have HN : Hid (B = allF (torAt q m T D) (a - (i + 1)) (i + 1)) := by show _ = _; rw [HRun.out, HStp.out, HZ0.out, Bool.true_and]
    go_wp2
    go_roundw
    case rel => exact ⟨i + 1, by go_num, by omega, HN, g4.re [3, 4, 5, 6] (by decide) (fun j => by rcases j with _ | _ | _ | _ | j <;> rfl)⟩
    case measure => simp [intOf]; omega
   | false =>
    have HN : Hid (B = false) := by show _ = _; rw [HRun.out, HStp.out, HZ0.out, Bool.false_and]
    go_wp2
    go_ret
    exact ⟨ret_bool HN.out.symm, g4.below⟩
  ·obtain rfl : i = a := by omega
   have HN : Hid (B = true) := by show _ = _; rw [HRun.out, Nat.sub_self]; rfl
   go_wp2
   go_ret
   exact ⟨ret_bool HN.out.symm, g.below⟩
end Go.Proofs.YtbnefjhljfbecaaGreatDoor
