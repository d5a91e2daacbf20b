import Derived.Test.YtbnefjhljfbecaaGreatDoorW33
import Derived.Test.YtbnefjhljfbecaaGreatDoorW45
import Derived.Test.YtbnefjhljfbecaaGreatDoorW46
import Derived.Test.YtbnefjhljfbecaaGreatDoorW48
namespace Go.Proofs.YtbnefjhljfbecaaGreatDoor
set_option maxRecDepth 100000
open Go.RowKit
namespace Tya
open Mp Car
set_option maxHeartbeats 16000000 in
theorem TypeOfAlgebraS_any (p n q r c : Int) (t u : Value) (T D : List Int) (w : World) (ht : Ints w t T) (hu : Ints w u D) (hp : p ≤ 9223372036854775807) (hq : q ≤ 9223372036854775807) :
  Calls Tryz.prog 6 #[.agg #[.int .i64 p, .int .i64 n, t], .agg #[.int .i64 q, .int .i64 r, .int .i64 c, u]] w fun e w' => e = .returned (.string (tyaB p n T q r c D)) ∧ Below w.heap.size w w' := by
 have h1 := ((((St.start w).arg ht).arg hu).box [.int .i64 p, .int .i64 n, t] 30).box [.int .i64 q, .int .i64 r, .int .i64 c, u] 32
 simp only [World.size_alloc] at h1
 obtain ⟨A, k, rfl, _, _, _⟩ := id ht
 obtain ⟨A1, k1, rfl, _, _, _⟩ := id hu
 have HI := Lib.hid (fun (W : World) (x1 : Ints W (.slice A T.length k) T) (x2 : Ints W (.slice A1 D.length k1) D) => IsToralS_any p n q r c _ _ T D W x1 x2 hp hq)
 clear ht hu
 obtain ⟨Po, hPo⟩ : ∃ Po : ByteArray, Po = tyaB p n T q r c D := ⟨_, rfl⟩
 rw [← hPo]
 obtain ⟨x0, x1, x2⟩ := h1.box3 1 rfl
 obtain ⟨y0, y1, y2, y3⟩ := h1.box4 0 rfl
 by_cases b1 : torOk p n T q r c D = true
 case neg =>
  have b1 : torOk p n T q r c D = false := by simpa using b1
  have HB := Lib.hid (show Po = ⟨#[]⟩ by rw [hPo, tyaB, b1, if_neg (fun h => Bool.noConfusion h.2)])
  have B1 := Lib.hid b1
  clear b1 hPo
  go_enter Tryz.func6, Tryz.ntmps6
  go_wp2_with fail
  refine (HI.out _ (h1.roInts 3 rfl) (h1.roInts 2 rfl)).mono ?_
  rintro (e : Ending) w3 ⟨rfl, hb3⟩
  rw [B1.out]
  go_wp2
  go_ret
  exact ⟨by rw [HB.out]; rfl, (h1.on hb3).below⟩
 by_cases hp5 : p < 5
 ·have HB := Lib.hid (show Po = ⟨#[]⟩ by rw [hPo, tyaB, if_neg (fun h => by omega)])
  have B1 := Lib.hid b1
  clear hPo b1
  go_enter Tryz.func6, Tryz.ntmps6
  go_wp2_with fail
  refine (HI.out _ (h1.roInts 3 rfl) (h1.roInts 2 rfl)).mono ?_
  rintro (e : Ending) w3 ⟨rfl, hb3⟩
  rw [B1.out]
  have g1 := h1.on hb3
  clear x0 x1 x2 y0 y1 y2 y3 h1 hb3
  obtain ⟨x0, x1, x2⟩ := g1.box3 1 rfl
  go_wp2
  go_ret
  exact ⟨by rw [HB.out]; rfl, g1.below⟩
 obtain ⟨m, a, e1, e2, e3, e4, m28, a28, kT, rT, hP, kD, rD, h101, hL, hm0⟩ := rotL_spec b1
 obtain ⟨m', a', e5, -, e6, -, -, -, -, -, -, -, -, b, hb⟩ := tor_spec b1
 subst e1 e2 e3 e4
 obtain rfl : m = m' := by omega
 obtain rfl : a = a' := by omega
 have b2 := (isPrime_bd hP).1
 have hPo2 : Po = tyS q m D (rotL q m T q a m D) a := by
  rw [hPo, tyaB, if_pos ⟨by omega, b1⟩, Int.toNat_natCast]
  exact tya_eq b2 m D (fun x hx => (hL x hx).2) a
 have hLl : (rotL q m T q a m D).length ≤ 28 := by
  have := (rotL_bd q m T q a m D).2.1
  rwa [length_lmL] at this
 have hF : rotL q m T q a m D = rotR q m ((rowsM a m D).map fun x => adM T x m q) (uniR m) := by rw [rotL, if_pos b1, Int.toNat_natCast, Int.toNat_natCast]
 have B1 := Lib.hid b1
 have hR := fun (W : World) (x1 : Ints W (.slice A T.length k) T) (x2 : Ints W (.slice A1 D.length k1) D) => (show Calls Tryz.prog 14 #[.agg #[.int .i64 q, .int .i64 m, .slice A T.length k], .agg #[.int .i64 q, .int .i64 a, .int .i64 m, .slice A1 D.length k1]] W (RetLM W q m (rotL q m T q a m D)) by
  have h9 := l7RootSpaces_any q m _ _ T (rowsM a m D) b W x1 (show Ints W (.slice A1 D.length k1) (flat m (rowsM a m D)) by rw [flat_rowsM kD]; exact x2) kT rT hb m28 hP
  rw [length_rowsM] at h9
  rw [hF]; exact h9)
 obtain ⟨L, hLd⟩ : ∃ L, L = rotL q m T q a m D := ⟨_, rfl⟩
 rw [← hLd] at hR hPo2 hLl hL hm0
 have HR := Lib.hid hR
 have HPo := Lib.hid hPo2
 have HL := Lib.hid hL
 have HD := Lib.hid kD
 have Hm0 := Lib.hid hm0
 clear b1 hPo hPo2 hL hLd hP kT rT rD hm0 kD hR hF hb e5 e6 b
 go_enter Tryz.func6, Tryz.ntmps6
 go_wp2_with fail
 refine (HI.out _ (h1.roInts 3 rfl) (h1.roInts 2 rfl)).mono ?_
 rintro (e : Ending) w3 ⟨rfl, hb3⟩
 have g1 := h1.on hb3
 rw [B1.out]
 clear x0 x1 x2 y0 y1 y2 y3 h1 hb3 HI
 obtain ⟨x0, x1, x2⟩ := g1.box3 1 rfl
 obtain ⟨y0, y1, y2, y3⟩ := g1.box4 0 rfl
 go_wp2_with fail
 refine (HR.out _ (g1.roInts 3 rfl) (g1.roInts 2 rfl)).mono ?_
 rintro (e : Ending) w4 ⟨v4, us4, v5, us5, rfl, hul4, hul5, h4⟩
 have gw := g1.on h4.below
 have hv4 := h4.rowsR 0 rfl (by rw [length_lmL]; exact hul4)
 have hv5 := h4.mats 1 rfl (by rw [length_lmM]; exact hul5)
 have hx := gw.atL 1 rfl
 have hy := gw.atL 0 rfl
 have hD9 := gw.roInts 2 rfl
 have HX := Lib.hid hx
 have HY := Lib.hid hy
 have g := ((((((St.start w4).pushOld hx.fact).pushOld hy.fact).pushRo hD9.toB).pushOld hv5.fact).pushOld hv4.fact).emptyRb
 obtain ⟨A4, k4, rfl, _, _, _⟩ := id hv4
 obtain ⟨A5, k5, rfl, _, _, _⟩ := id hv5
 clear x0 x1 x2 y0 y1 y2 y3 g1 HR h4 hx hy hD9
 have HV4 := Lib.hid hv4
 have HV5 := Lib.hid hv5
 obtain ⟨l, hl⟩ : ∃ l, l = L.length := ⟨_, rfl⟩
 rw [length_lmL, ← hl] at HV4 g ⊢
 rw [length_lmM, ← hl] at HV5 g ⊢
 rw [← hl] at hLl
 have Hl := Lib.hid hl
 have HRb := Lib.hid (show RBor w4 [] (rts (L.take 0)) by
  rw [List.take_zero]
  exact RBor.nil w4)
 have HAll := Lib.hid (show (L.take 0).all (okS q m D L) = true by rw [List.take_zero]; rfl)
 have HBad := Lib.hid (fun (x : List Int × List (List Int)) (hx : x ∈ L) (h : okS q m D L x = false) => (show Po = ⟨#[]⟩ by
  rw [HPo.out, tyS, if_neg]
  intro h2
  rw [List.all_eq_true.1 h2 x hx] at h
  exact Bool.noConfusion h))
 have HZ := Lib.hid (fun (W : World) (v : Value) (X : List Int) (h : Ints W v X) => l1IsZero_any v X W h)
 have HPc := Lib.hid (fun (W : World) (u : Value) (Q : List Int) (h1 : IntRows W (.slice A4 l k4) (lmL L)) (h2 : Ints W u Q) => l5Place_any _ u (lmL L) Q W h1 h2 (by rw [length_lmL, ← hl]; omega))
 have HTm := Lib.hid (fun (W : World) (y x : Value) (X : List Int) (hX : X.length = a) (rX : resid q X = true) (h1 : Ints W y (List.replicate a 0)) (h2 : Ints W x X) => (show Calls Tryz.prog 18 #[.int .i64 q, y, .int .i64 (-1), x] W (RetOwn W (ngL q X)) by
  rw [ngL, hX]
  exact times_res q (-1) y x _ X W h1 h2 (by simpa using hX) (by simp; omega) b2 h101 (resid_rep0 (by omega) _) rX (by omega)))
 generalize hBa : w.heap.size = Ba at g HX HY ⊢
 generalize hBs : Ba + 1 = Bs at g HX HY ⊢
 clear hv4 hv5 hl hBa hBs hul4 hul5
 go_wp2
 generalize hB9 : w4.heap.size = B9 at g ⊢
 generalize World.alloc _ _ = wl at g ⊢
 clear hB9
 go_loopw [7, 8] (fun v7 v8 wr => ∃ (i : Nat) (us : List Value), v8 = .int .i64 i ∧ i ≤ l ∧ Hid (RBor w4 us (rts (L.take i))) ∧ Hid ((L.take i).all (okS q m D L) = true) ∧ St w4 wr [rbIt v7 us, .fact fun w' => IntRows w' (.slice A4 l k4) (lmL L), .fact fun w' => MatsR w' (.slice A5 l k5) (lmM q m L), .ro (.slice A1 D.length k1) D, .fact fun w' => AtL w' Bs [.int .i64 q, .int .i64 a, .int .i64 m, .slice A1 D.length k1], .fact fun w' => AtL w' Ba [.int .i64 q, .int .i64 m, .slice A T.length k]]) (fun _ v8 _ => l - (intOf v8).toNat)
 case atStart => exact ⟨0, [], rfl, by omega, HRb, HAll, g⟩
 case round =>
  clear g HRb HAll
  obtain ⟨i, us, rfl, a1, HRb, HAll, g⟩ := hrel
  by_cases hi : i < l
  ·have hiL : i < L.length := by rw [← Hl.out]; exact hi
   obtain ⟨x, hx⟩ : ∃ x, L[i]? = some x := ⟨_, List.getElem?_eq_getElem hiL⟩
   obtain ⟨_, e0⟩ := List.getElem?_eq_some_iff.1 hx
   have hxm := List.mem_of_getElem? hx
   obtain ⟨x1, x2⟩ := HL.out x hxm
   obtain ⟨b4, off4, A9, c9, hA4, hm4⟩ := HV4.out.at (i := i) (by rw [length_lmL]; exact hiL)
   obtain ⟨b5, off5, A10, c10, hA5, hm5⟩ := HV5.out.at (i := i) (by rw [length_lmM]; exact hiL)
   have e1 : (lmL L)[i]'(by rw [length_lmL]; exact hiL) = x.1 := by simp [lmL, e0]
   have e2 : (lmM q m L)[i]'(by rw [length_lmM]; exact hiL) = rsM q m x.2 := by simp [lmM, e0]
   rw [e1, x1] at hm4
   rw [e2] at hm5
   subst hA4 hA5
   have hR1 := fun (h : zeroL x.1 = true) => (show rts (L.take (i + 1)) = rts (L.take i) by rw [take_get hx, rts_snoc, if_pos h])
   have hR2 := fun (h : ¬ zeroL x.1 = true) => (show rts (L.take (i + 1)) = rts (L.take i) ++ [x.1] by rw [take_get hx, rts_snoc, if_neg h])
   have hAl := (show (L.take (i + 1)).all (okS q m D L) = okS q m D L x by rw [take_get hx, List.all_append, HAll.out]; simp)
   have hBx := HBad.out x hxm
   have hOk : okS q m D L x = if zeroL x.1 = true then decide (flat m x.2 = D) else decide (x.2.length = 1) && isIn (L.map Prod.fst) (ngL q x.1) := rfl
   have HX1 := Lib.hid hm4.2
   have hrl : (rts (L.take i)).length ≤ i := Nat.le_trans (rts_len _) (by rw [List.length_take]; omega)
   have hZ := fun (W : World) (v : Value) (h : Ints W v x.1) => HZ.out W v x.1 h
   have hm1 : 0 < m := by
    rcases Nat.eq_zero_or_pos m with h | h
    ·rw [Hm0.out h] at hiL
     simp at hiL
    ·exact h
   have hdec : decide (q = q ∧ (x.2.length : Int) = (a : Int) ∧ (m : Int) = (m : Int) ∧ flat m x.2 = D) = decide (flat m x.2 = D) := by
    rw [Bool.eq_iff_iff, decide_eq_true_eq, decide_eq_true_eq]
    constructor
    ·exact fun h => h.2.2.2
    ·intro h
     refine ⟨rfl, ?_, rfl, h⟩
     have h9 := congrArg List.length h
     rw [length_flat, HD.out] at h9
     have := Nat.eq_of_mul_eq_mul_right hm1 h9
     omega
   have hE := fun (W : World) (v u : Value) (h : Ints W v (flat m x.2)) (h2 : Ints W u D) => (show Calls Tryz.prog 16 #[.agg #[.int .i64 q, .int .i64 x.2.length, .int .i64 m, v], .agg #[.int .i64 q, .int .i64 a, .int .i64 m, u]] W (RetBool W (decide (flat m x.2 = D))) by
    have := l1Equal_any q x.2.length m q a m v u (flat m x.2) D W h h2
    rwa [hdec] at this)
   have hT := fun (W : World) (y v : Value) (h1 : Ints W y (List.replicate a 0)) (h2 : Ints W v x.1) => HTm.out W y v x.1 x1 x2 h1 h2
   obtain ⟨NG, hNG⟩ : ∃ NG, NG = ngL q x.1 := ⟨_, rfl⟩
   rw [← hNG] at hT hOk
   obtain ⟨h3, h4, h5⟩ := plc_iff (lmL L) NG 0
   have h6 := plc_bd (lmL L) NG 0
   rw [length_lmL, ← Hl.out] at h6
   have hPc := fun (W : World) (u : Value) (h1 : IntRows W (.slice (some ⟨b4, off4, none⟩) l k4) (lmL L)) (h2 : Ints W u NG) => HPc.out W u NG h1 h2
   obtain ⟨pc, hpc⟩ : ∃ pc, pc = plc (lmL L) NG 0 := ⟨_, rfl⟩
   rw [← hpc] at hPc h3 h4 h5 h6
   have hin : isIn (L.map Prod.fst) NG = decide (0 ≤ pc) := by
    rw [Bool.eq_iff_iff, decide_eq_true_eq, h3]
    exact decide_eq_true_iff
   rw [hin] at hOk
   obtain ⟨zb, hzb⟩ : ∃ zb, zb = zeroL x.1 := ⟨_, rfl⟩
   obtain ⟨ob, hob⟩ : ∃ ob, ob = okS q m D L x := ⟨_, rfl⟩
   rw [← hzb] at hZ hR1 hR2 hOk
   rw [← hob] at hOk hBx hAl
   have g1 := (g.pushOld hm5.fact).pushOld hm4.fact
   obtain ⟨y0, y1⟩ := g1.fact 0 rfl
   have i1 : (i : Int) < (l : Int) := by omega
   have HZ2 := Lib.hid hZ
   have HE2 := Lib.hid hE
   have HT2 := Lib.hid hT
   have HP2 := Lib.hid hPc
   have HR1 := Lib.hid hR1
   have HR2 := Lib.hid hR2
   have HAl := Lib.hid hAl
   have HBx := Lib.hid hBx
   have HOk := Lib.hid hOk
   have Hul := Lib.hid (show us.length + 1 ≤ 1099511627776 by rw [HRb.out.1]; omega)
   obtain ⟨F, hF⟩ : ∃ F, F = flat m x.2 := ⟨_, rfl⟩
   obtain ⟨s, hs⟩ : ∃ s, s = x.2.length := ⟨_, rfl⟩
   have hrs : rsM q m x.2 = ⟨q, s, m, F⟩ := by rw [rsM, hF, hs]
   rw [hrs] at g1
   rw [← hF, ← hs] at HE2
   rw [← hF, ← hs] at HOk
   obtain ⟨X, hX⟩ : ∃ X, X = x.1 := ⟨_, rfl⟩
   rw [← hX] at g1 HZ2 HR2 HX1 HT2
   clear hm4 hm5 e0 e1 e2 hx hxm x1 x2 hR1 hR2 hAl hBx hOk hZ hE hzb hob hF hs hrs hX hiL hrl g y1 hT hNG h3 h4 hPc hpc hin hdec hm1
   go_wp2_with fail
   refine (HZ2.out _ _ (g1.fact 0 rfl).2).mono ?_
   rintro (e : Ending) w5 ⟨rfl, rfl⟩
   clear HZ2 y0
   cases zb with
   | true =>
    rw [if_pos rfl] at HOk
    have HR3 := Lib.hid (HR1.out rfl)
    clear HR1 HR2 HT2 HP2
    go_upto_region 9 with fail
    have g2 := g1.drew
    refine wp_region_held_drew (S := fun w' => (w'.cell? ⟨b5, off5 + i * 4, none⟩ = some (.int .i64 q) ∧ w'.cell? ⟨b5, off5 + i * 4 + 1, none⟩ = some (.int .i64 s) ∧ w'.cell? ⟨b5, off5 + i * 4 + 2, none⟩ = some (.int .i64 m) ∧ w'.cell? ⟨b5, off5 + i * 4 + 3, none⟩ = some (.slice A10 F.length c10)) ∧ (w'.cell? ⟨Bs, 0, none⟩ = some (.int .i64 q) ∧ w'.cell? ⟨Bs, 1, none⟩ = some (.int .i64 a) ∧ w'.cell? ⟨Bs, 2, none⟩ = some (.int .i64 m) ∧ w'.cell? ⟨Bs, 3, none⟩ = some (.slice A1 D.length k1))) (by kernel_rfl) ⟨⟨(g2.fact 1 rfl).1, (g2.fact 1 rfl).2.1, (g2.fact 1 rfl).2.2.1, (g2.fact 1 rfl).2.2.2.1⟩, ⟨(g2.fact 6 rfl) 0 _ rfl, (g2.fact 6 rfl) 1 _ rfl, (g2.fact 6 rfl) 2 _ rfl, (g2.fact 6 rfl) 3 _ rfl⟩⟩ (fun hHeld => ?_)
    refine tkA 0 hHeld ?_
    refine tkA 1 hHeld ?_
    refine tkA 2 hHeld ?_
    refine tkA 3 hHeld ?_
    refine tkA 4 hHeld ?_
    refine rcA 5 fun K hK => ?_
    go_simp
    refine (HE2.out _ _ _ (g2.fact 1 rfl).2.2.2.2 (g2.roInts 5 rfl)).mono ?_
    rintro (e : Ending) w6 ⟨rfl, hb6⟩
    have g3 := g2.on hb6
    show K _ _
    refine outA hK ?_ fun hHeld => ?_
    ·exact ⟨⟨(g3.fact 1 rfl).1, (g3.fact 1 rfl).2.1, (g3.fact 1 rfl).2.2.1, (g3.fact 1 rfl).2.2.2.1⟩, ⟨(g3.fact 6 rfl) 0 _ rfl, (g3.fact 6 rfl) 1 _ rfl, (g3.fact 6 rfl) 2 _ rfl, (g3.fact 6 rfl) 3 _ rfl⟩⟩
    clear hK K
    refine tkA 6 hHeld ?_
    refine wpAnyH_done (by kernel_rfl) ?_ _
    clear hHeld
    replace g3 := g3.drop 2
    simp only [List.drop_succ_cons, List.drop_zero] at g3
    clear g1 g2 HE2 hb6
    obtain ⟨db, hdb⟩ : ∃ db, db = decide (F = D) := ⟨_, rfl⟩
    rw [← hdb] at HOk ⊢
    clear hdb
    cases db with
    | false =>
     have HB := Lib.hid (HBx.out HOk.out)
     go_wp2
     go_ret
     exact ⟨by rw [HB.out]; rfl, (gw.on g3.below).below⟩
    | true =>
     have HA2 := Lib.hid (show (L.take (i + 1)).all (okS q m D L) = true by rw [HAl.out, HOk.out])
     go_wp2
     go_roundw
     case rel => exact ⟨i + 1, us, by go_num, by omega, by rw [HR3.out]; exact HRb, HA2, g3⟩
     case measure => simp [intOf]; omega
   | false =>
    rw [if_neg (by decide)] at HOk
    have HR3 := Lib.hid (HR2.out (by decide))
    clear HR1 HR2 HE2
    by_cases hs1 : s = 1
    ·subst hs1
     have HR4 := Lib.hid (show RBor w4 (us ++ [Value.slice A9 a c9]) (rts (L.take (i + 1))) by rw [HR3.out]; exact HRb.out.snoc HX1.out)
     have hmk2 := makeI a (by omega)
     go_upto_region 11 with fail
     have g2 := g1.drew
     clear g1
     refine wp_region_held_drew (S := fun w' => w'.cell? ⟨b5, off5 + i * 4 + 1, none⟩ = some (.int .i64 1) ∧ w'.cell? ⟨Ba, 0, none⟩ = some (.int .i64 q) ∧ w'.cell? ⟨Bs, 1, none⟩ = some (.int .i64 a) ∧ w'.cell? ⟨b4, off4 + i, none⟩ = some (.slice A9 a c9)) (by kernel_rfl) ⟨(g2.fact 1 rfl).2.1, (g2.fact 7 rfl) 0 _ rfl, (g2.fact 6 rfl) 1 _ rfl, (g2.fact 0 rfl).1⟩ (fun hHeld => ?_)
     refine tkA 0 hHeld ?_
     refine tkA 1 hHeld ?_
     refine tkA 2 hHeld ?_
     refine tkA 3 hHeld ?_
     refine tkA 4 hHeld ?_
     refine tkA 5 hHeld ?_
     refine tkA 6 hHeld ?_
     refine tkA 7 hHeld ?_
     refine tkA 8 hHeld ?_
     refine tkA 9 hHeld ?_
     refine tkA 10 hHeld ?_
     refine tkA 11 hHeld ?_
     refine tkA 13 hHeld ?_
     refine tkA 14 hHeld ?_
     refine tkA 15 hHeld ?_
     refine tkA 16 hHeld ?_
     refine rcA 12 fun K hK => ?_
     go_simp
     have g3 := g2.zeros a (by omega)
     refine outA hK ?_ fun hHeld => ?_
     ·exact ⟨(g3.fact 2 rfl).2.1, (g3.fact 8 rfl) 0 _ rfl, (g3.fact 7 rfl) 1 _ rfl, (g3.fact 1 rfl).1⟩
     clear hK K
     refine rcA 17 fun K hK => ?_
     go_simp
     refine (HT2.out _ _ _ (g3.ownInts 0 rfl) (g3.fact 1 rfl).2).mono ?_
     rintro (e : Ending) w6 ⟨u6, rfl, ho6, hb6⟩
     obtain ⟨A6, n6, c6, rfl⟩ := ho6.slice
     have g4 := g3.pushOwn hb6 ho6
     show K _ _
     refine outA hK ?_ fun hHeld => ?_
     ·exact ⟨(g4.fact 3 rfl).2.1, (g4.fact 9 rfl) 0 _ rfl, (g4.fact 8 rfl) 1 _ rfl, (g4.fact 2 rfl).1⟩
     clear hK K
     refine rcA 18 fun K hK => ?_
     go_simp
     refine (HP2.out _ _ (g4.fact 5 rfl) (g4.ownInts 0 rfl)).mono ?_
     rintro (e : Ending) w7 ⟨rfl, hb7⟩
     have g5 := g4.on hb7
     show K _ _
     refine outA hK ?_ fun hHeld => ?_
     ·exact ⟨(g5.fact 3 rfl).2.1, (g5.fact 9 rfl) 0 _ rfl, (g5.fact 8 rfl) 1 _ rfl, (g5.fact 2 rfl).1⟩
     clear hK K
     by_cases hpc : pc < 0
     ·refine tkA 19 hHeld ?_
      refine tkA 20 hHeld ?_
      refine wpAnyH_done (by kernel_rfl) ?_ _
      clear hHeld
      have HB := Lib.hid (HBx.out (by
       rw [HOk.out, decide_eq_false (show ¬ 0 ≤ pc by omega)]
       rfl))
      clear g2 g3 g4 ho6 hb6 hb7 hmk2
      go_wp2
      go_ret
      exact ⟨by rw [HB.out]; rfl, (gw.on g5.below).below⟩
     ·refine tkA 19 hHeld ?_
      refine tkA 20 hHeld ?_
      refine wpAnyH_done (by kernel_rfl) ?_ _
      clear hHeld
      have HA2 := Lib.hid (show (L.take (i + 1)).all (okS q m D L) = true by
       rw [HAl.out, HOk.out, decide_eq_true (show 0 ≤ pc by omega)]
       rfl)
      obtain ⟨y0, y1⟩ := g5.fact 2 rfl
      have g6 := g5.drop 4
      simp only [List.drop_succ_cons, List.drop_zero] at g6
      clear g2 g3 g4 g5 ho6 hb6 hb7 hmk2 y1
      go_wp2_with (at_builtin; refine wp_append_rb rfl (.tmp 68) (.tmp 73) rfl g6 0 rfl rfl rfl rfl Hul.out ?_; intro v1 w8 h7)
      go_roundw
      case rel => exact ⟨i + 1, us ++ [_], by go_num, by omega, HR4, HA2, h7⟩
      case measure => simp [intOf]; omega
    ·have HB := Lib.hid (HBx.out (by rw [HOk.out, decide_eq_false hs1]; rfl))
     have t1 : ((s : Int) != 1) = true := by rw [bne_iff_ne]; omega
     go_upto_region 11 with fail
     have g2 := g1.drew
     clear g1
     refine wp_region_held_drew (S := fun w' => w'.cell? ⟨b5, off5 + i * 4 + 1, none⟩ = some (.int .i64 s)) (by kernel_rfl) (g2.fact 1 rfl).2.1 (fun hHeld => ?_)
     refine tkA 0 hHeld ?_
     refine tkA 1 hHeld ?_
     refine tkA 2 hHeld ?_
     refine tkA 3 hHeld ?_
     refine tkA 4 hHeld ?_
     refine tkA 5 hHeld ?_
     refine tkA 6 hHeld ?_
     refine skA 7 hHeld ?_
     refine skA 8 hHeld ?_
     refine skA 9 hHeld ?_
     refine skA 10 hHeld ?_
     refine skA 11 hHeld ?_
     refine skA 12 hHeld ?_
     refine skA 13 hHeld ?_
     refine skA 14 hHeld ?_
     refine skA 15 hHeld ?_
     refine skA 16 hHeld ?_
     refine skA 17 hHeld ?_
     refine skA 18 hHeld ?_
     refine skA 19 hHeld ?_
     refine tkA 20 hHeld ?_
     refine wpAnyH_done (by kernel_rfl) ?_ _
     clear hHeld
     go_wp2
     go_ret
     exact ⟨by rw [HB.out]; rfl, (gw.on g2.below).below⟩
  ·obtain rfl : l = i := by omega
   have hA2 := HAll.out
   have hR2 := HRb.out
   rw [List.take_of_length_le (by rw [← Hl.out]; exact Nat.le_refl _)] at hA2 hR2
   have hPo2 : Po = bty q (rts L) a := by rw [HPo.out, tyS, if_pos hA2]
   have hrl := rts_len L
   rw [← Hl.out] at hrl
   have hLst := rts_lst HL.out
   have HBa := Lib.hid (fun (W : World) (v : Value) (h : IntRows W v (rts L)) => l7Base_any q v (rts L) a W h hLst (by omega) (by omega) b2 h101)
   have hv7 := hR2.rows g 0 rfl
   have x0 := (g.fact 5 rfl) 0 _ rfl
   have HV7 := Lib.hid hv7
   clear hA2 hR2 HAll HRb
   go_wp2_with fail
   refine (HBa.out _ _ HV7.out).mono ?_
   rintro (e : Ending) w6 ⟨v8, us8, rfl, hR8, h8⟩
   have gx := g.on h8.below
   have hvB := hR8.rows h8 0 rfl
   have hvR := HV7.out.keep fun _ hp => h8.below.cell hp
   have hx9 := gx.fact 5 rfl
   have hy9 := gx.fact 4 rfl
   have g9 := (((St.start w6).pushOld (AtL.fact hx9)).pushOld (AtL.fact hy9)).pushOld hvR.fact
   have gww := gw.on gx.below
   obtain ⟨AR, kR, rfl, _, _, _⟩ := id hv7
   obtain ⟨AB, kB, rfl, _, _, _⟩ := id hvB
   have hBl : Lst q a (basL q (rts L)) := (hLst.filter _).filter _
   have hNu := fun (W : World) (x y : Value) (X Y : List Int) (hX : X.length = a) (rX : resid q X = true) (hY : Y.length = a) (rY : resid q Y = true) (h0 : IntRows W (.slice AR (rts L).length kR) (rts L)) (h1 : Ints W x X) (h2 : Ints W y Y) => l7Number_any q _ x y (rts L) X Y W h0 h1 h2 (by omega) (by omega) (by omega) b2 h101 rX rY
   unfold bty at hPo2
   obtain ⟨B, hB⟩ : ∃ B, B = basL q (rts L) := ⟨_, rfl⟩
   rw [← hB] at hvB hBl hPo2 ⊢
   have hBr : ∀ i, i < B.length → (rowOf B i).length = a ∧ resid q (rowOf B i) = true := fun i hi => hBl _ (rowOf_mem hi)
   have hD0 := prsTo_zero (num q (isIn (rts L))) B
   have hDn := fun i j (hi : i < B.length) (hj : j < B.length) => prsTo_next (num q (isIn (rts L))) B hi hj
   have hDr := fun i => prsTo_row (num q (isIn (rts L))) B i
   have hDe := prsTo_end (num q (isIn (rts L))) B
   have hDl := fun i j (hi : i < B.length) (hj : j ≤ B.length) => length_prsTo (num q (isIn (rts L))) B hi hj
   obtain ⟨DD, hDD⟩ : ∃ DD, DD = prs (num q (isIn (rts L))) B := ⟨_, rfl⟩
   obtain ⟨h, hh⟩ : ∃ h, h = B.length := ⟨_, rfl⟩
   rw [← hDD] at hPo2 hDe
   obtain ⟨pd, hpd⟩ : ∃ pd, pd = prsTo (num q (isIn (rts L))) B := ⟨_, rfl⟩
   rw [← hpd] at hD0 hDn hDr hDe hDl
   rw [← hh] at hvB hBr hPo2 hDn hDr hDe hDl ⊢
   have HVB := Lib.hid hvB
   have Hh := Lib.hid hh
   have HBr := Lib.hid hBr
   have HD0 := Lib.hid hD0
   have HDn := Lib.hid hDn
   have HDr := Lib.hid hDr
   have HDe := Lib.hid hDe
   have HDl := Lib.hid hDl
   have HNu := Lib.hid hNu
   by_cases hin : inR (h : Int) 1 4 = true
   case neg =>
    have hin : inR (h : Int) 1 4 = false := by simpa using hin
    have HB := Lib.hid (show Po = ⟨#[]⟩ by rw [hPo2, if_neg (fun h => by rw [hin] at h; exact Bool.noConfusion h.1)])
    clear x0 hv7 HV7 g gx HBa h8 hR8 hx9 hy9 hPo2 hvB hBl hB hBr hD0 hDn hDr hDe hDl hDD hh hpd hNu hLst hrl hvR
    go_wp2_with (go_at_call 20; refine (l1In_any _ _ _ _).mono ?_; rintro e w' ⟨rfl, rfl⟩)
    go_ret
    exact ⟨by rw [HB.out]; rfl, (gww.on g9.below).below⟩
   have x1 := (g9.fact 1 rfl) 1 _ rfl
   by_cases hqa : h = a
   case neg =>
    have HB := Lib.hid (show Po = ⟨#[]⟩ by rw [hPo2, if_neg (fun h => hqa (by have := h.2; omega))])
    have t1 : ((h : Int) != (a : Int)) = true := by rw [bne_iff_ne]; omega
    clear x0 hv7 HV7 g gx HBa h8 hR8 hx9 hy9 hPo2 hvB hBl hB hBr hD0 hDn hDr hDe hDl hDD hh hpd hNu hLst hrl hvR hqa
    go_wp2_with (go_at_call 20; refine (l1In_any _ _ _ _).mono ?_; rintro e w' ⟨rfl, rfl⟩)
    go_ret
    exact ⟨by rw [HB.out]; rfl, (gww.on g9.below).below⟩
   have hq28 : h ≤ 4 := by simp [inR] at hin; omega
   have HPq := Lib.hid (show Po = typB h DD by rw [hPo2, if_pos ⟨hin, by omega⟩])
   have t1 : ((h : Int) != (a : Int)) = false := by rw [hqa]; simp
   have HTy := Lib.hid (fun (W : World) (v : Value) (hv : Ints W v DD) => TypeOfS_any (h : Int) v DD W hv)
   have g10 := g9.empty.box [.int .i64 h, .slice (some ⟨w6.heap.size, 0, none⟩) 0 0] 49
   clear x0 hv7 HV7 g gx HBa h8 hR8 hx9 hy9 hPo2 hvB hBl hB hBr hD0 hDn hDr hDe hDl hDD hh hpd hNu hLst hrl hvR hqa g9
   go_wp2_with (go_at_call 20; refine (l1In_any _ _ _ _).mono ?_; rintro e w' ⟨rfl, rfl⟩)
   simp only [World.size_alloc] at g10
   generalize hBc : w6.heap.size + 1 = Bc at g10 ⊢
   generalize World.alloc _ _ = wl4 at g10 ⊢
   clear hBc x1
   go_loopw [11, 12] (fun v11 _ wr => ∃ (i : Nat) (vd : Value), v11 = .int .i64 i ∧ i ≤ h ∧ St w6 wr [.box Bc [.int .i64 h, vd], .own vd (pd i 0), .fact fun w' => IntRows w' (.slice AR (rts L).length kR) (rts L), .fact fun w' => AtL w' Bs [.int .i64 q, .int .i64 a, .int .i64 m, .slice A1 D.length k1], .fact fun w' => AtL w' Ba [.int .i64 q, .int .i64 m, .slice A T.length k]]) (fun v11 _ _ => h - (intOf v11).toNat)
   case atStart => exact ⟨0, _, rfl, by omega, by rw [HD0.out]; exact g10⟩
   case round =>
    clear g10
    obtain ⟨i, vd, rfl, a5, g⟩ := hrel
    by_cases hi : i < h
    ·have hiB : i < B.length := by rw [← Hh.out]; exact hi
     obtain ⟨bp, op, A9, c9, hA, hm⟩ := HVB.out.at (i := i) hiB
     obtain ⟨r1, r2⟩ := HBr.out i hi
     rw [rowOf_eq hiB, r1] at hm
     have HDi := Lib.hid (fun j (hj : j < h) => HDn.out i j hi hj)
     have HDri := Lib.hid (HDr.out i)
     have HDli := Lib.hid (fun j (hj : j ≤ h) => HDl.out i j hi hj)
     obtain ⟨X, hX⟩ : ∃ X, X = rowOf B i := ⟨_, rfl⟩
     rw [← hX] at r1 r2 HDi hm
     have HX := Lib.hid (And.intro r1 r2)
     have HF1 := Lib.hid hm.fact
     subst hA
     have i1 : (i : Int) < (h : Int) := by omega
     clear hX r1 r2 hm hiB
     go_wp2
     go_loopw [12] (fun v12 wr => ∃ (j : Nat) (vd : Value), v12 = .int .i64 j ∧ j ≤ h ∧ St w6 wr [.box Bc [.int .i64 h, vd], .own vd (pd i j), .fact fun w' => IntRows w' (.slice AR (rts L).length kR) (rts L), .fact fun w' => AtL w' Bs [.int .i64 q, .int .i64 a, .int .i64 m, .slice A1 D.length k1], .fact fun w' => AtL w' Ba [.int .i64 q, .int .i64 m, .slice A T.length k]]) (fun v12 _ => h - (intOf v12).toNat)
     case atStart => exact ⟨0, vd, rfl, by omega, g⟩
     case round =>
      clear g
      obtain ⟨j, vd, rfl, a6, g⟩ := hrel
      by_cases hj : j < h
      ·have hjB : j < B.length := by rw [← Hh.out]; exact hj
       obtain ⟨bp2, op2, A10, c10, hA, hm⟩ := HVB.out.at (i := j) hjB
       simp only [Option.some.injEq, Addr.mk.injEq, and_true] at hA
       obtain ⟨rfl, rfl⟩ := hA
       obtain ⟨r1, r2⟩ := HBr.out j hj
       rw [rowOf_eq hjB, r1] at hm
       have HT := Lib.hid (HDi.out j hj)
       obtain ⟨Y, hY⟩ : ∃ Y, Y = rowOf B j := ⟨_, rfl⟩
       rw [← hY] at r1 r2 HT hm
       have HN1 := Lib.hid (fun (W : World) (x y : Value) h0 hx hy => HNu.out W x y X Y HX.out.1 HX.out.2 r1 r2 h0 hx hy)
       obtain ⟨nv, hnv⟩ : ∃ nv, nv = num q (isIn (rts L)) X Y := ⟨_, rfl⟩
       rw [← hnv] at HN1 HT
       have HLen := Lib.hid (show (pd i j).length + [nv].length ≤ 17592186044416 by
        rw [HDli.out j (by omega), List.length_singleton]
        have := Nat.mul_le_mul (show i ≤ 4 by omega) (show h ≤ 4 by omega)
        omega)
       have j1 : (j : Int) < (h : Int) := by omega
       obtain ⟨Ad, nd, cd, rfl⟩ := (g.own 1 rfl).slice
       have g1 := ((g.pushOld HF1.out).pushOld hm.fact).drew
       clear hY r1 r2 hm hnv g hjB
       go_upto_region 24 with fail
       refine wp_region_cut (S := fun w' => (w'.cell? ⟨Bc, 0, none⟩ = some (.int .i64 h) ∧ w'.cell? ⟨Bc, 1, none⟩ = some (.slice Ad nd cd)) ∧ w'.cell? ⟨Ba, 0, none⟩ = some (.int .i64 q) ∧ w'.cell? ⟨bp, op + i, none⟩ = some (.slice A9 a c9) ∧ w'.cell? ⟨bp, op + j, none⟩ = some (.slice A10 a c10)) 17 (by kernel_rfl) (by kernel_rfl) ⟨g1.box2 2 rfl, (g1.fact 6 rfl) 0 _ rfl, (g1.fact 1 rfl).1, (g1.fact 0 rfl).1⟩ (fun hHeld => ?_)
       simp only [List.take_succ_cons, List.take_zero]
       refine tkA 0 hHeld ?_
       refine tkA 1 hHeld ?_
       refine tkA 2 hHeld ?_
       refine tkA 3 hHeld ?_
       refine tkA 4 hHeld ?_
       refine tkA 5 hHeld ?_
       refine tkA 6 hHeld ?_
       refine tkA 7 hHeld ?_
       refine tkA 8 hHeld ?_
       refine tkA 9 hHeld ?_
       refine tkA 10 hHeld ?_
       refine tkA 11 hHeld ?_
       refine tkA 12 hHeld ?_
       refine rcA 13 fun K hK => ?_
       go_simp
       refine (HN1.out _ _ _ (g1.fact 4 rfl) (g1.fact 1 rfl).2 (g1.fact 0 rfl).2).mono ?_
       rintro (e : Ending) w7 ⟨rfl, hb7⟩
       have g2 := g1.on hb7
       show K _ _
       refine outA hK ?_ fun hHeld => ?_
       ·exact ⟨g2.box2 2 rfl, (g2.fact 6 rfl) 0 _ rfl, (g2.fact 1 rfl).1, (g2.fact 0 rfl).1⟩
       clear hK K
       refine rcA 14 fun K hK => ?_
       go_simp
       have g3 := g2.lit [nv] (by simp [maxLen])
       simp only [List.map_cons, List.map_nil, List.length_cons, List.length_nil] at g3
       refine outA hK ?_ fun hHeld => ?_
       ·exact ⟨g3.box2 3 rfl, (g3.fact 7 rfl) 0 _ rfl, (g3.fact 2 rfl).1, (g3.fact 1 rfl).1⟩
       clear hK K
       refine rcA 15 fun K hK => ?_
       refine step_append_ints rfl (.tmp 107) (.tmp 120) rfl g3 4 rfl (g3.ownInts 0 rfl) HLen.out rfl rfl fun vA w8 g4 => ?_
       simp only [List.set_cons_zero, List.set_cons_succ] at g4
       rw [← HT.out] at g4
       obtain ⟨A6, n6, c6, rfl⟩ := (g4.own 4 rfl).slice
       refine outA hK ?_ fun hHeld => ?_
       ·exact ⟨g4.box2 3 rfl, (g4.fact 7 rfl) 0 _ rfl, (g4.fact 2 rfl).1, (g4.fact 1 rfl).1⟩
       clear hK K
       refine tkA 16 hHeld ?_
       refine wpAnyH_done (by kernel_rfl) ?_ _
       show wpList _ _ _ _ _ _
       simp only [List.drop_succ_cons, List.drop_zero]
       clear hHeld
       have f1 := g4.free 3 rfl 1
       obtain ⟨p0, p1⟩ := g4.box2 3 rfl
       have h6 := g4.setBox 3 rfl 1 (.slice A6 n6 c6)
       simp only [List.set_cons_zero, List.set_cons_succ] at h6
       replace h6 := h6.drop 3
       clear g1 g2 g3 g4 hb7
       go_wp2
       go_roundw
       case rel => exact ⟨j + 1, .slice A6 n6 c6, by go_num, by omega, h6⟩
       case measure => simp [intOf]; omega
      ·obtain rfl : h = j := by omega
       rw [HDri.out] at g
       go_wp2
       go_roundw
       case rel => exact ⟨i + 1, vd, by go_num, by omega, g⟩
       case measure => simp [intOf]; omega
    ·obtain rfl : h = i := by omega
     rw [HDe.out] at g
     obtain ⟨Ad, nd, cd, rfl⟩ := (g.own 1 rfl).slice
     obtain ⟨z0, z1⟩ := g.box2 0 rfl
     go_wp2_with fail
     refine (HTy.out _ _ (g.ownInts 1 rfl)).mono ?_
     rintro (e : Ending) w9 ⟨rfl, hb9⟩
     go_wp2
     go_ret
     exact ⟨by rw [HPq.out]; rfl, (gww.on (g.on hb9).below).below⟩
end Tya
end Go.Proofs.YtbnefjhljfbecaaGreatDoor
