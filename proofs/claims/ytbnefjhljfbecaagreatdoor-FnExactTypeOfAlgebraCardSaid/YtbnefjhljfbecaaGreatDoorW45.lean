import Derived.Test.YtbnefjhljfbecaaGreatDoorW23
import Derived.Test.YtbnefjhljfbecaaGreatDoorW39
import Derived.Test.YtbnefjhljfbecaaGreatDoorW40
import Derived.Test.YtbnefjhljfbecaaGreatDoorW42
import Derived.Test.YtbnefjhljfbecaaGreatDoorW43
import Derived.Test.YtbnefjhljfbecaaGreatDoorW44
namespace Go.Proofs.YtbnefjhljfbecaaGreatDoor
set_option maxRecDepth 100000
section
open Go.RowKit
def rotL (p n : Int) (T : List Int) (q r c : Int) (D : List Int) : List (List Int × List (List Int)) := if torOk p n T q r c D then rotR p n.toNat ((rowsM r.toNat n.toNat D).map fun x => adM T x n.toNat p) (uniR n.toNat) else []
theorem tor_spec {p n q r c : Int} {T D : List Int} (h : torOk p n T q r c D = true) : ∃ m a : Nat, n = m ∧ q = p ∧ r = a ∧ c = m ∧ m ≤ 28 ∧ T.length = m * m * m ∧ resid p T = true ∧ isPrime p = true ∧ D.length = a * m ∧ resid p D = true ∧ p ≤ 101 ∧ ∃ b, Rf p m (rowsM a m D) b := by
 simp only [torOk, Bool.and_eq_true] at h
 obtain ⟨h1, h2⟩ := h
 obtain ⟨c1, c2, rfl, rfl⟩ := subOk_spec h1
 obtain ⟨m, rfl, m28, kT, rT, k4, k5, hP⟩ := algOk_spec c1
 obtain ⟨a, b, rfl, eb, ka, kb, kD, rD, -⟩ := matOk_spec (spaceOk_mat c2)
 have eb' : m = b := by omega
 subst eb'
 have h3 : q ≤ 101 := by
  have := h2
  simp only [decide_eq_true_eq] at this
  omega
 obtain ⟨n', R, a', e1, e2, e3, hR, -⟩ := spaceOk_rf c2
 have e1' : m = n' := by omega
 have e2' : a = R.length := by omega
 refine ⟨m, a, rfl, rfl, rfl, rfl, m28, kT, rT, hP, kD, rD, h3, a', ?_⟩
 rw [e3, e2', ← e1', rowsM_flat (by rw [e1']; exact hR.wf), e1']
 exact hR
end
section
open Go.RowKit
set_option maxHeartbeats 4000000 in
theorem IsToralI_any (p n q r c : Int) (t u : Value) (T D : List Int) (w : World) (ht : Ints w t T) (hu : Ints w u D) (hp : p ≤ 9223372036854775807) (hq : q ≤ 9223372036854775807) :
  Calls Tryz.prog 24 #[.agg #[.int .i64 p, .int .i64 n, t], .agg #[.int .i64 q, .int .i64 r, .int .i64 c, u]] w (RetBool w (torOk p n T q r c D)) := by
 have h1 := ((((St.start w).arg ht).arg hu).box [.int .i64 p, .int .i64 n, t] 30).box [.int .i64 q, .int .i64 r, .int .i64 c, u] 32
 simp only [World.size_alloc] at h1
 obtain ⟨A, k, rfl, _, _, _⟩ := id ht
 obtain ⟨A1, k1, rfl, _, _, _⟩ := id hu
 have HI := Lib.hid (fun (W : World) (x1 : Ints W (.slice A T.length k) T) (x2 : Ints W (.slice A1 D.length k1) D) => isSubspaceOf_any p n q r c _ _ T D W x1 x2 hp hq)
 clear ht hu
 obtain ⟨B, hB⟩ : ∃ B, B = torOk p n T q r c D := ⟨_, rfl⟩
 rw [← hB]
 obtain ⟨x0, x1, x2⟩ := h1.box3 1 rfl
 obtain ⟨y0, y1, y2, y3⟩ := h1.box4 0 rfl
 by_cases b1 : subOk p n T q r c D = true
 case neg =>
  have b1 : subOk p n T q r c D = false := by simpa using b1
  have HB := Lib.hid (show B = false by rw [hB, torOk, b1, Bool.false_and])
  have B1 := Lib.hid b1
  clear b1 hB
  go_enter Tryz.func24, Tryz.ntmps24
  go_wp2_with fail
  refine (HI.out _ (h1.roInts 3 rfl) (h1.roInts 2 rfl)).mono ?_
  rintro (e : Ending) w3 ⟨rfl, hb3⟩
  have g1 := h1.on hb3
  rw [B1.out]
  go_wp2
  go_ret
  exact ⟨ret_bool HB.out.symm, g1.below⟩
 obtain ⟨c1, c2, rfl, rfl⟩ := subOk_spec b1
 obtain ⟨m, rfl, m28, kT, rT, k4, k5, hP⟩ := algOk_spec c1
 obtain ⟨a, b, rfl, eb, ka, kb, kD, rD, -⟩ := matOk_spec (spaceOk_mat c2)
 have eb' : m = b := by omega
 subst eb'
 clear eb
 have B1 := Lib.hid b1
 by_cases b2 : q ≤ 101
 case neg =>
  have HB := Lib.hid (show B = false by rw [hB, torOk, b1, Bool.true_and, decide_eq_false b2, Bool.false_and])
  have i1 : (101 : Int) < q := by omega
  clear b1 hB c1 c2 kT rT hP kD rD b2
  go_enter Tryz.func24, Tryz.ntmps24
  go_wp2_with fail
  refine (HI.out _ (h1.roInts 3 rfl) (h1.roInts 2 rfl)).mono ?_
  rintro (e : Ending) w3 ⟨rfl, hb3⟩
  have g1 := h1.on hb3
  rw [B1.out]
  clear x0 x1 x2 y0 y1 y2 y3 h1
  obtain ⟨x0, x1, x2⟩ := g1.box3 1 rfl
  go_wp2
  go_ret
  exact ⟨ret_bool HB.out.symm, g1.below⟩
 have i1 : ¬ ((101 : Int) < q) := by omega
 have HPr := Lib.hid (fun (W : World) (x1 : Ints W (.slice A T.length k) T) (x2 : Ints W (.slice A1 D.length k1) D) => product_any q q q m a a _ _ _ T D D W x1 x2 x2 kT kD kD m28 (by omega) (by omega) hP rT rD rD)
 have HAd := Lib.hid (fun (W : World) (v : Value) (U : List Int) (x1 : Ints W (.slice A T.length k) T) (x2 : Ints W v U) (x3 : U.length = m) (x4 : resid q U = true) => adjoint_any q m _ v T U W x1 x2 kT x3 m28 k4 k5 rT x4)
 have HPw := Lib.hid (show ∀ (W : World) (v : Value) (X : List Int) (x1 : Ints W v X) (x2 : X.length = m * m) (x3 : resid q X = true), Calls Tryz.prog 48 #[.agg #[.int .i64 q, .int .i64 m, .int .i64 m, v], .int .i64 q] W (RetMat W q m m (pwM q m X q.toNat)) from fun W v X x1 x2 x3 => by
  have h9 := powerOf_any q m q.toNat v X W x1 x2 (by omega) (by omega) hP x3
  rwa [Int.toNat_of_nonneg (by omega)] at h9)
 have HAr := Lib.hid (fun U => resid_adM k4 T U m)
 obtain ⟨l, hl⟩ : ∃ l, l = (spanL q m (prodL T m q a D a D)).length := ⟨_, rfl⟩
 have hB2 : B = (decide (l = 0) && allF (torAt q m T D) a 0) := by rw [hB, torOk, b1, decide_eq_true b2, Int.toNat_natCast, Int.toNat_natCast, ← hl]; simp
 obtain ⟨X9, hX9⟩ : ∃ X, X = spanM q m (prodL T m q a D a D) := ⟨_, rfl⟩
 rw [← hl, ← hX9] at HPr
 have HRw := Lib.hid (fun (W : World) (x1 : Ints W (.slice A1 D.length k1) D) => rowsOf_any q a m _ D W x1 kD (by have := mul_le ka kb; omega) (by omega))
 have HB2 := Lib.hid hB2
 have HRd := Lib.hid (fun i => resid_rowM (by omega : (0 : Int) < q) rD m i)
 obtain ⟨M, hM⟩ : ∃ M, M = rowsM a m D := ⟨_, rfl⟩
 have HMl := Lib.hid (show M.length = a by rw [hM]; exact length_rowsM _ _ _)
 have HMr := Lib.hid (show ∀ j, j < a → rowOf M j = rowM m D j from fun j hj => by rw [hM, rowOf_rowsM hj])
 rw [← hM] at HRw
 clear hB hB2 hl hX9 hM b1 c1 c2 kT rT hP kD rD b2
 go_enter Tryz.func24, Tryz.ntmps24
 go_wp2_with fail
 refine (HI.out _ (h1.roInts 3 rfl) (h1.roInts 2 rfl)).mono ?_
 rintro (e : Ending) w3 ⟨rfl, hb3⟩
 have g1 := h1.on hb3
 rw [B1.out]
 clear x0 x1 x2 y0 y1 y2 y3 h1 hb3
 obtain ⟨x0, x1, x2⟩ := g1.box3 1 rfl
 go_wp2_with fail
 refine (newLie_any q m (.slice A T.length k) A T.length k _ rfl).mono ?_
 rintro (e : Ending) w4 ⟨rfl, hb4⟩
 have g2 := (g1.on hb4).box [.int .i64 q, .int .i64 m, .slice A T.length k] 69
 clear x0 x1 x2 g1 hb4
 obtain ⟨x0, x1, x2⟩ := g2.box3 0 rfl
 obtain ⟨y0, y1, y2, y3⟩ := g2.box4 1 rfl
 go_wp2_with fail
 refine (HPr.out _ (g2.roInts 4 rfl) (g2.roInts 3 rfl)).mono ?_
 rintro (e : Ending) w5 ⟨u5, rfl, ho5, hb5⟩
 obtain ⟨A5, n5, c5, rfl⟩ := ho5.slice
 have hfd := fieldM1 q l m A5 n5 c5
 have g3 := (g2.on hb5)
 generalize hBl : w4.heap.size = Bl at g3 ⊢
 clear hBl
 clear x0 x1 x2 y0 y1 y2 y3 g2 hb5 ho5
 by_cases hl0 : l = 0
 case neg =>
  have i2 : (0 : Int) < (l : Int) := by omega
  have HN := Lib.hid (show B = false by rw [HB2.out, decide_eq_false hl0, Bool.false_and])
  clear hl0
  go_wp2
  go_ret
  exact ⟨ret_bool HN.out.symm, g3.below⟩
 have i2 : ¬ ((0 : Int) < (l : Int)) := by omega
 have HRun : Hid (B = allF (torAt q m T D) (a - 0) 0) := by show _ = _; rw [HB2.out, decide_eq_true hl0, Bool.true_and]; rfl
 clear hl0
 obtain ⟨y0, y1, y2, y3⟩ := g3.box4 1 rfl
 go_wp2_with fail
 refine (HRw.out _ (g3.roInts 3 rfl)).mono ?_
 rintro (e : Ending) w6 ⟨u6, us6, rfl, hul6, hok6, hnd6, hb6⟩
 obtain ⟨A6, c6, rfl, _, _, _⟩ := id (It.rows hok6 hul6)
 have g4 := g3.pushRows hb6 hok6 hnd6
 have Hu6 := Lib.hid hul6
 rw [HMl.out] at g4 ⊢
 clear y0 y1 y2 y3 g3 hb6 hok6 hnd6 hul6 hfd i2
 go_wp2
 go_loopw [29] (fun v29 wr => ∃ i : Nat, v29 = .int .i64 i ∧ i ≤ a ∧ Hid (B = allF (torAt q m T D) (a - i) i) ∧ St w wr [rowsIt (.slice A6 a c6) us6 M, .box Bl [.int .i64 q, .int .i64 m, .slice A T.length k], .box (w.heap.size + 1) [.int .i64 q, .int .i64 a, .int .i64 m, .slice A1 D.length k1], .box w.heap.size [.int .i64 q, .int .i64 m, .slice A T.length k], .ro (.slice A1 D.length k1) D, .ro (.slice A T.length k) T]) (fun v29 _ => a - (intOf v29).toNat)
 case atStart => exact ⟨0, rfl, by omega, HRun, g4⟩
 case round =>
  clear g4 HRun
  obtain ⟨i, rfl, a1, HRun, g⟩ := hrel
  by_cases hi : i < a
  ·obtain ⟨gm, rfl⟩ := g.vecSome 0 rfl (by rw [HMl.out]; omega)
   obtain ⟨A7, c7, hui, e0, _⟩ := g.row 0 rfl Hu6.out HMl.out.symm (k := i) (by rw [HMl.out]; exact hi)
   have Hui := Lib.hid hui
   have HStp := Lib.hid (show allF (torAt q m T D) (a - i) i = (torAt q m T D i && allF (torAt q m T D) (a - (i + 1)) (i + 1)) by rw [show a - i = (a - (i + 1)) + 1 by omega]; rfl)
   have HZ0 := Lib.hid (show torAt q m T D i = decide (pwM q m (adM T (rowM m D i) m q) q.toNat = adM T (rowM m D i) m q) by rw [torAt]; exact decide_eq_decide.2 ⟨fun h => h.symm, fun h => h.symm⟩)
   have HA2 := Lib.hid (fun (W : World) (v : Value) x1 (x2 : Ints W v (rowM m D i)) => HAd.out W v _ x1 x2 (length_rowM _ _ _) (HRd.out i))
   obtain ⟨Ad, hAd⟩ : ∃ Ad, Ad = adM T (rowM m D i) m q := ⟨_, rfl⟩
   have hAl : Ad.length = m * m := by rw [hAd]; exact length_adM _ _ _ _
   have hAr : resid q Ad = true := by rw [hAd]; exact HAr.out _
   rw [← hAd] at HA2 HZ0
   have HP2 := Lib.hid (fun (W : World) (v : Value) x1 => HPw.out W v Ad x1 hAl hAr)
   obtain ⟨Pw, hPw⟩ : ∃ Pw, Pw = pwM q m Ad q.toNat := ⟨_, rfl⟩
   rw [← hPw] at HP2 HZ0
   obtain ⟨Z, hZ⟩ : ∃ Z, Z = decide (Pw = Ad) := ⟨_, rfl⟩
   have HZ := Lib.hid hZ
   rw [← hZ] at HZ0
   rw [HMr.out i hi, length_rowM] at e0 hui
   have ii : (i : Int) < (a : Int) := by omega
   clear hAd hAl hAr hPw hZ hui
   obtain ⟨x0, x1, x2⟩ := g.box3 1 rfl
   go_wp2_with fail
   refine (HA2.out _ _ (g.roInts 5 rfl) (by have h9 := (g.rowAt 0 rfl HMl.out.symm Hui.out (by rw [HMl.out]; exact hi)).2; rw [HMr.out i hi, length_rowM] at h9; exact h9)).mono ?_
   rintro (e : Ending) w7 ⟨u7, rfl, ho7, hb7⟩
   obtain ⟨A8, n8, c8, rfl⟩ := ho7.slice
   have g2 := (g.pushOwn hb7 ho7).box [.int .i64 q, .int .i64 m, .int .i64 m, .slice A8 n8 c8] 32
   clear x0 x1 x2 e0 g hb7 ho7
   go_upto_region 10 with fail
   generalize hBx : w7.heap.size = Bx at g2 ⊢
   clear hBx
   have g0 := g2.drew
   refine wp_region_held_drew (S := fun w' => (w'.cell? ⟨Bx, 0, none⟩ = some (.int .i64 q) ∧ w'.cell? ⟨Bx, 1, none⟩ = some (.int .i64 m) ∧ w'.cell? ⟨Bx, 2, none⟩ = some (.int .i64 m) ∧ w'.cell? ⟨Bx, 3, none⟩ = some (.slice A8 n8 c8)) ∧ (w'.cell? ⟨w.heap.size, 0, none⟩ = some (.int .i64 q) ∧ w'.cell? ⟨w.heap.size, 1, none⟩ = some (.int .i64 m) ∧ w'.cell? ⟨w.heap.size, 2, none⟩ = some (.slice A T.length k))) (by kernel_rfl) ⟨g0.box4 0 rfl, g0.box3 5 rfl⟩ (fun hHeld => ?_)
   refine tkA 0 hHeld ?_
   refine tkA 1 hHeld ?_
   refine tkA 2 hHeld ?_
   refine tkA 5 hHeld ?_
   refine tkA 6 hHeld ?_
   refine rcA 3 fun K hK => ?_
   go_simp
   refine (HP2.out _ _ (g0.ownInts 1 rfl)).mono ?_
   rintro (e : Ending) w8 ⟨u8, rfl, ho8, hb8⟩
   obtain ⟨A9, n9, c9, rfl⟩ := ho8.slice
   have hfd := fieldM3 q m m A9 n9 c9
   have g3 := g0.pushOwn hb8 ho8
   show K _ _
   refine outA hK ?_ fun hHeld => ?_
   ·exact ⟨g3.box4 1 rfl, g3.box3 6 rfl⟩
   clear hK K
   refine tkA 4 hHeld ?_
   refine rcA 7 fun K hK => ?_
   go_simp
   refine (Equal_any _ _ Pw Ad _ (g3.ownInts 0 rfl) (g3.ownInts 2 rfl)).mono ?_
   rintro (e : Ending) w9 ⟨rfl, nd, rfl⟩
   rw [← HZ.out]
   have g4 := g3.drewN nd
   show K _ _
   refine outA hK ?_ fun hHeld => ?_
   ·exact ⟨g4.box4 1 rfl, g4.box3 6 rfl⟩
   clear hK K
   refine tkA 8 hHeld ?_
   refine wpAnyH_done (by kernel_rfl) ?_ _
   clear hHeld
   clear g0 g2 g3 hb8 ho8 hfd
   cases Z with
   | true =>
    have HN : Hid (B = allF (torAt q m T D) (a - (i + 1)) (i + 1)) := by show _ = _; rw [HRun.out, HStp.out, HZ0.out, Bool.true_and]
    go_wp2
    go_roundw
    case rel => exact ⟨i + 1, by go_num, by omega, HN, g4.drop 3⟩
    case measure => simp [intOf]; omega
   | false =>
    have HN : Hid (B = false) := by show _ = _; rw [HRun.out, HStp.out, HZ0.out, Bool.false_and]
    go_wp2
    go_ret
    exact ⟨ret_bool HN.out.symm, g4.below⟩
  ·obtain rfl : i = a := by omega
   have HN : Hid (B = true) := by show _ = _; rw [HRun.out, Nat.sub_self]; rfl
   go_wp2
   go_ret
   exact ⟨ret_bool HN.out.symm, g.below⟩
end
section
section
open Go.RowKit
theorem tab_nextK (n : Nat) (f : Nat → Int) : tab (n + 1) f = tab n f ++ [f n] := by simp [tab, List.range_succ]
set_option maxHeartbeats 4000000 in
theorem RootSpacesI_any (p n q r c : Int) (t u : Value) (T D : List Int) (w : World) (ht : Ints w t T) (hu : Ints w u D) (hp : p ≤ 9223372036854775807) (hq : q ≤ 9223372036854775807) :
  Calls Tryz.prog 25 #[.agg #[.int .i64 p, .int .i64 n, t], .agg #[.int .i64 q, .int .i64 r, .int .i64 c, u]] w (RetLM w p n.toNat (rotL p n T q r c D)) := by
 have h1 := ((((St.start w).arg ht).arg hu).box [.int .i64 p, .int .i64 n, t] 30).box [.int .i64 q, .int .i64 r, .int .i64 c, u] 32
 simp only [World.size_alloc] at h1
 obtain ⟨A, k, rfl, _, _, _⟩ := id ht
 obtain ⟨A1, k1, rfl, _, _, _⟩ := id hu
 have HI := Lib.hid (fun (W : World) (x1 : Ints W (.slice A T.length k) T) (x2 : Ints W (.slice A1 D.length k1) D) => IsToralI_any p n q r c _ _ T D W x1 x2 hp hq)
 obtain ⟨X, hX⟩ : ∃ X, X = rotL p n T q r c D := ⟨_, rfl⟩
 rw [← hX]
 obtain ⟨x0, x1, x2⟩ := h1.box3 1 rfl
 obtain ⟨y0, y1, y2, y3⟩ := h1.box4 0 rfl
 clear ht hu
 by_cases b1 : torOk p n T q r c D = true
 case neg =>
  have b1 : torOk p n T q r c D = false := by simpa using b1
  have HF := Lib.hid (show X = [] by rw [hX, rotL, b1]; rfl)
  have B1 := Lib.hid b1
  clear b1 hX
  go_enter Tryz.func25, Tryz.ntmps25
  go_wp2_with fail
  refine (HI.out _ (h1.roInts 3 rfl) (h1.roInts 2 rfl)).mono ?_
  rintro (e : Ending) w3 ⟨rfl, hb3⟩
  have g1 := h1.on hb3
  rw [B1.out]
  go_wp2
  refine bodyPost_ret (v := .tuple #[.slice none 0 0, .slice none 0 0]) (by simp [results, Tryz.results25, go_sem]) rfl ?_
  rw [HF.out]
  exact RetLM.nil g1.below
 case pos =>
  obtain ⟨m, a, rfl, rfl, rfl, rfl, m28, kT, rT, hP, kD, rD, h101, b, hb⟩ := tor_spec b1
  obtain ⟨hp2, hp3⟩ := isPrime_bd hP
  have ha := rf_le_n hp2 hb
  rw [length_rowsM] at ha
  obtain ⟨As, hAs⟩ : ∃ As, As = (rowsM a m D).map fun x => adM T x m q := ⟨_, rfl⟩
  have hAl : ∀ B ∈ As, B.length = m * m ∧ resid q B = true := fun B hB => by
   rw [hAs] at hB
   obtain ⟨x, _, rfl⟩ := List.mem_map.1 hB
   exact ⟨length_adM _ _ _ _, resid_adM hp2 _ _ _⟩
  have hAn : As.length = a := by rw [hAs, List.length_map, length_rowsM]
  have hAk : ∀ i, i < a → As[i]? = some (adM T (rowOf (rowsM a m D) i) m q) := fun i hi => by
   have hi2 : i < (rowsM a m D).length := by rw [length_rowsM]; exact hi
   rw [hAs, List.getElem?_map, List.getElem?_eq_getElem hi2, rowOf_eq hi2]; rfl
  have hTk : ∀ i, i < a → mpL q m (As.take (i + 1)) = mpL q m (As.take i) ++ [⟨q, m, m, adM T (rowOf (rowsM a m D) i) m q⟩] := fun i hi => by
   have hi2 : i < As.length := by rw [hAn]; exact hi
   have h9 := hAk i hi
   rw [List.getElem?_eq_getElem hi2] at h9
   rw [List.take_succ_eq_append_getElem hi2, mpL, List.map_append, Option.some.inj h9]; rfl
  have hMl : ∀ i, i ≤ a → (mpL q m (As.take i)).length = i := fun i hi => by rw [mpL, List.length_map, List.length_take]; omega
  have hRo := fun (W : World) (x2 : Ints W (.slice A1 D.length k1) D) => rowsOf_any q a m _ D W x2 kD (by have := mul_le (show a ≤ 28 by omega) m28; omega) (by omega)
  have hRw : Wf q m (rowsM a m D) := hb.wf
  have hAd := fun (W : World) (v1 : Value) (i : Nat) (hi : i < a) (x1 : Ints W (.slice A T.length k) T) (x2 : Ints W v1 (rowOf (rowsM a m D) i)) => adjoint_any q m _ v1 T _ W x1 x2 kT (hRw i (by rw [length_rowsM]; exact hi)).1 m28 hp2 hp3 rT (hRw i (by rw [length_rowsM]; exact hi)).2
  have hUn := fun W => UnitMatrixI_any q m W hP (by omega)
  have hEg := fun (W0 W : World) (t9 v9 u9 : Value) (x1 : St W0 W [.own t9 (unitD m)]) (x2 : MatsR W0 v9 (mpL q m (As.take a))) (x3 : Ints W0 u9 (pvs q)) => (show Calls Tryz.prog 49 #[.agg #[.int .i64 q, .int .i64 m, .int .i64 m, t9], v9, u9] W (RetEg W0 q m X []) by
   have h9 := eigenspaces_any q m hP m28 As hAl (by omega) (uniR m) _ t9 v9 u9 W0 W [] (by rw [flat_uniR]; exact x1) (Rf_uniR hp2 m) (by rw [← show As.take a = As from List.take_of_length_le (by omega)]; exact x2) x3
   rw [length_uniR] at h9
   rw [hX, rotL, if_pos b1, Int.toNat_natCast, Int.toNat_natCast, ← hAs]
   exact h9)
  have hR9 := length_rowsM a m D
  obtain ⟨R, hR⟩ : ∃ R, R = rowsM a m D := ⟨_, rfl⟩
  rw [← hR] at hTk hRo hAd hR9
  obtain ⟨P, hPn⟩ : ∃ P : Nat, P = q.toNat := ⟨_, rfl⟩
  have hqP : (P : Int) = q := by omega
  have HTk := Lib.hid hTk
  have HMl := Lib.hid hMl
  have HRo := Lib.hid hRo
  have HAd := Lib.hid hAd
  have HUn := Lib.hid hUn
  have HEg := Lib.hid hEg
  have HR9 := Lib.hid hR9
  have B1 := Lib.hid b1
  have HqP := Lib.hid hqP
  have Hpv := Lib.hid (show pvs q = tab P fun i => (i : Int) by rw [pvs, hPn])
  have Hp3 := Lib.hid hp3
  have a28 : a ≤ 28 := by omega
  rw [Int.toNat_natCast]
  clear b1 hX kT rT hP kD rD hb hAs hAl hAn hAk hTk hMl hRo hRw hAd hUn hEg hR9 hR hPn hqP hp3
  go_enter Tryz.func25, Tryz.ntmps25
  go_wp2_with fail
  refine (HI.out _ (h1.roInts 3 rfl) (h1.roInts 2 rfl)).mono ?_
  rintro (e : Ending) w3 ⟨rfl, hb3⟩
  have g1 := h1.on hb3
  rw [B1.out]
  clear x0 x1 x2 y0 y1 y2 y3 h1 hb3
  obtain ⟨x0, x1, x2⟩ := g1.box3 1 rfl
  go_wp2_with fail
  refine (newLie_any q m (.slice A T.length k) A T.length k _ rfl).mono ?_
  rintro (e : Ending) w4 ⟨rfl, hb4⟩
  have g2 := ((g1.on hb4).box [.int .i64 q, .int .i64 m, .slice A T.length k] 69).emptyMats
  simp only [World.size_alloc] at g2
  clear x0 x1 x2 g1 hb4
  obtain ⟨y0, y1, y2, y3⟩ := g2.box4 2 rfl
  go_wp2_with fail
  refine (HRo.out _ (g2.roInts 4 rfl)).mono ?_
  rintro (e : Ending) w5 ⟨u5, us5, rfl, hul5, hok5, hnd5, hb5⟩
  have g3 := (g2.pushRows hb5 hok5 hnd5).swap2
  obtain ⟨A5, c5, rfl, _, _, _⟩ := id (g3.rowsR 1 rfl hul5)
  rw [HR9.out] at g3 ⊢
  have Hul5 := Lib.hid hul5
  generalize hB4 : w4.heap.size = B4 at g3 ⊢
  clear hB4 y0 y1 y2 y3 g2 hul5 hok5 hnd5 hb5
  go_wp2
  go_loopw [7, 9, 22] (fun v7 _ v22 wr => ∃ (i : Nat) (us : List Value), v22 = .int .i64 i ∧ i ≤ a ∧ Hid (us.length = i) ∧ St w wr [matsIt v7 us (mpL q m (As.take i)), rowsIt (.slice A5 a c5) us5 R, .box B4 [.int .i64 q, .int .i64 m, .slice A T.length k], .box (w.heap.size + 1) [.int .i64 q, .int .i64 a, .int .i64 m, .slice A1 D.length k1], .box w.heap.size [.int .i64 q, .int .i64 m, .slice A T.length k], .ro (.slice A1 D.length k1) D, .ro (.slice A T.length k) T]) (fun _ _ v22 _ => a - (intOf v22).toNat)
  case atStart => exact ⟨0, [], rfl, by omega, Lib.hid rfl, g3⟩
  case round =>
   clear g3
   obtain ⟨i, us, rfl, a1, Hul, g⟩ := hrel
   by_cases hi : i < a
   case pos =>
    have ii : (i : Int) < (a : Int) := by omega
    obtain ⟨gr, rfl⟩ := g.vecSome 1 rfl (by rw [HR9.out]; omega)
    obtain ⟨Ar, cr, -, e0, e1⟩ := g.row 1 rfl Hul5.out HR9.out.symm (k := i) (by rw [HR9.out]; exact hi)
    have HAd1 := Lib.hid (fun W v1 x1 x2 => HAd.out W v1 i hi x1 x2)
    have HTk1 := Lib.hid (HTk.out i hi)
    obtain ⟨Rr, hRr⟩ : ∃ Rr, Rr = rowOf R i := ⟨_, rfl⟩
    rw [← hRr] at e0 e1 HAd1 HTk1
    have Hl2 := Lib.hid (show us.length = (mpL q m (As.take i)).length by rw [HMl.out i a1]; exact Hul.out)
    have Hl3 := Lib.hid (show (mpL q m (As.take i)).length + 1 ≤ 1099511627776 by rw [HMl.out i a1]; omega)
    obtain ⟨x0, x1, x2⟩ := g.box3 2 rfl
    clear hRr
    go_wp2_with fail
    refine (HAd1.out _ _ (g.roInts 6 rfl) e1).mono ?_
    rintro (e : Ending) w6 ⟨u6, rfl, ho6, hb6⟩
    obtain ⟨A6, n6, c6, rfl⟩ := ho6.slice
    have g4 := g.pushOwn hb6 ho6
    clear x0 x1 x2 e0 e1 g ho6 hb6
    go_wp2_with (at_builtin; refine wp_append_mat rfl (.tmp 26) (.tmp 30) rfl ⟨q, m, m, adM T Rr m q⟩ g4 0 rfl Hl2.out rfl rfl Hl3.out ?_; intro v1 w7 g5)
    go_roundw
    case rel => exact ⟨i + 1, us ++ [_], by go_num, by omega, by show _ = _; rw [List.length_append, Hul.out]; rfl, by rw [HTk1.out]; exact g5⟩
    case measure => simp [intOf]; omega
   case neg =>
    obtain rfl : i = a := by omega
    have h6 := g.empty
    obtain ⟨x0, x1, x2⟩ := g.box3 4 rfl
    obtain ⟨z0, z1, z2⟩ := h6.box3 5 rfl
    clear g
    go_wp2
    clear x0 x1 x2 z0 z1 z2
    go_loopw [10, 11, 36] (fun v10 _ v36 wr => ∃ (j : Nat), v36 = .int .i64 j ∧ j ≤ P ∧ St w wr [.own v10 (tab j fun i => (i : Int)), matsIt u7 us (mpL q m (As.take i)), rowsIt (.slice A5 i c5) us5 R, .box B4 [.int .i64 q, .int .i64 m, .slice A T.length k], .box (w.heap.size + 1) [.int .i64 q, .int .i64 i, .int .i64 m, .slice A1 D.length k1], .box w.heap.size [.int .i64 q, .int .i64 m, .slice A T.length k], .ro (.slice A1 D.length k1) D, .ro (.slice A T.length k) T]) (fun _ _ v36 _ => P - (intOf v36).toNat)
    case atStart => exact ⟨0, rfl, by omega, h6⟩
    case round =>
     clear h6
     obtain ⟨j, rfl, a2, g⟩ := hrel
     have hP7 : P ≤ 10007 := by have := HqP.out; have := Hp3.out; omega
     by_cases hj : j < P
     case pos =>
      have ij : (j : Int) < q := by have := HqP.out; omega
      have HT9 := Lib.hid (tab_nextK j fun i => (i : Int))
      have Hl1 := Lib.hid (show (tab j fun i => (i : Int)).length + 1 ≤ 17592186044416 by rw [length_tab]; omega)
      go_wp2_with (at_builtin; refine wp_append_ints rfl (.tmp 39) (.tmp 41) rfl w.heap.size _ _ (tab j fun i => (i : Int)) [(j : Int)] rfl rfl ((g.alloc' _).own 0 rfl) Ints.one Hl1.out (g.alloc' _).size ?_; intro v1 w7 ho1 hg1 hb1; have h4 := (g.alloc' _).appended 0 rfl ho1 hg1 hb1)
      go_roundw
      case rel => exact ⟨j + 1, by go_num, by omega, by rw [HT9.out]; exact h4⟩
      case measure => simp [intOf]; omega
     case neg =>
      obtain rfl : j = P := by omega
      have ij : ¬ ((j : Int) < q) := by have := HqP.out; omega
      rw [← Hpv.out] at g
      have Hms := Lib.hid (show us.length = (mpL q m (As.take i)).length by rw [HMl.out i (Nat.le_refl _)]; exact Hul.out)
      obtain ⟨x0, x1, x2⟩ := g.box3 5 rfl
      have hm9 := g.mats 1 rfl Hms.out
      have hv9 := g.ownInts 0 rfl
      go_wp2_with fail
      refine (HUn.out _).mono ?_
      rintro (e : Ending) w8 ⟨u8, rfl, ho8, hb8⟩
      have g9 := (St.start wr).pushOwn hb8 ho8
      clear x0 x1 x2
      go_wp2_with fail
      refine (HEg.out wr _ _ _ _ g9 hm9 hv9).mono ?_
      rintro (e : Ending) w9 ⟨v1, us1, v2, us2, rfl, hl1, hl2, hst⟩
      have g10 := g.pushLM hst
      obtain ⟨A7, n7, c7, rfl⟩ := g10.rowsSlice 0 rfl (by rw [length_lmL]; exact hl1)
      obtain ⟨A8, n8, c8, rfl⟩ : ∃ A n c, v2 = .slice A n c := by
       obtain ⟨A, c, e, _⟩ := g10.mats 1 rfl (by rw [length_lmM]; exact hl2)
       exact ⟨A, _, c, e⟩
      clear g g9 hst hm9 hv9 ho8 hb8
      go_wp2
      refine bodyPost_ret (v := .tuple #[.slice A7 n7 c7, .slice A8 n8 c8]) (by simp [results, Tryz.results25, go_sem]) rfl ?_
      exact ⟨_, us1, _, us2, rfl, hl1, hl2, g10.re [0, 1] (by decide) (fun j => by rcases j with _ | _ | j <;> rfl)⟩
end
section
open Go.RowKit
theorem total_bdR {B : Nat} : ∀ ll : List (List Int), (∀ l ∈ ll, l.length ≤ B) → total ll ≤ ll.length * B
 | [], _ => by simp [total]
 | l :: ll, h => by
  have h1 := total_bdR ll fun x hx => h x (by simp [hx])
  have h2 := h l (by simp)
  simp only [total, List.length_cons, Nat.add_mul, Nat.one_mul]
  omega
theorem dLen_bdR {B : Nat} : ∀ ms : List Mt, (∀ m ∈ ms, m.d.length ≤ B) → dLen ms ≤ ms.length * B
 | [], _ => by simp [dLen]
 | m :: ms, h => by
  have h1 := dLen_bdR ms fun x hx => h x (by simp [hx])
  have h2 := h m (by simp)
  simp only [dLen, List.length_cons, Nat.add_mul, Nat.one_mul]
  omega
theorem rotL_bd (p n : Int) (T : List Int) (q r c : Int) (D : List Int) : total (lmL (rotL p n T q r c D)) ≤ 784 ∧ (lmL (rotL p n T q r c D)).length ≤ 28 ∧ markMsLen (lmM p n.toNat (rotL p n T q r c D)) ≤ 22036 := by
 by_cases h : torOk p n T q r c D = true
 ·obtain ⟨m, a, rfl, rfl, rfl, rfl, m28, kT, rT, hP, kD, rD, -, b, hb⟩ := tor_spec h
  have hp := (isPrime_bd hP).1
  have ha := rf_le_n hp hb
  rw [length_rowsM] at ha
  rw [rotL, if_pos h, Int.toNat_natCast, Int.toNat_natCast]
  have hAl : ∀ B ∈ (rowsM a m D).map (fun x => adM T x m q), B.length = m * m := adsR_len _
  have h1 := length_rotR hP hAl (Rf_uniR hp m)
  rw [length_uniR] at h1
  have h2 := (rotR_ok hP _ (uniR m) _ hAl (Rf_uniR hp m)).2
  obtain ⟨X, hX⟩ : ∃ X, X = rotR q m ((rowsM a m D).map fun x => adM T x m q) (uniR m) := ⟨_, rfl⟩
  rw [← hX] at h1 h2 ⊢
  have h3 := total_bdR (B := 28) (lmL X) fun l hl => by
   obtain ⟨x, hx, rfl⟩ := List.mem_map.1 hl
   rw [(h2 x hx).2.2, List.length_map, length_rowsM]; omega
  have h4 := dLen_bdR (B := 784) (lmM q m X) fun y hy => by
   obtain ⟨x, hx, rfl⟩ := List.mem_map.1 hy
   obtain ⟨e, he⟩ := (h2 x hx).2.1
   have h5 := rf_le_n hp he
   show (flat m x.2).length ≤ 784
   rw [length_flat]
   exact mul_le (Nat.le_trans h5 m28) m28
  rw [length_lmL] at h3
  rw [length_lmM] at h4
  refine ⟨by omega, by rw [length_lmL]; omega, ?_⟩
  unfold markMsLen
  rw [length_lmM]
  omega
 ·have h : torOk p n T q r c D = false := by simpa using h
  have e : rotL p n T q r c D = [] := by rw [rotL, h]; rfl
  rw [e]
  exact ⟨by simp [lmL, total], by simp [lmL], by simp [lmM, markMsLen, dLen]⟩
end
end
end Go.Proofs.YtbnefjhljfbecaaGreatDoor
