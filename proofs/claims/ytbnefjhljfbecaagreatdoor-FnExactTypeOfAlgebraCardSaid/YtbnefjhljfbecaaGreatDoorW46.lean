import Derived.Test.YtbnefjhljfbecaaGreatDoorW34
import Derived.Test.YtbnefjhljfbecaaGreatDoorW45
namespace Go.Proofs.YtbnefjhljfbecaaGreatDoor
set_option maxRecDepth 100000
open Go.RowKit
namespace Tya
open Mp Car
theorem rotR_mem {p : Int} {n : Nat} : ∀ (As : List (List Int)) (S : List (List Int)) (x : List Int × List (List Int)), x ∈ rotR p n As S → x.1.length = As.length ∧ ∀ e ∈ x.1, 0 ≤ e ∧ e < p
 | [], S, x, h => by
  unfold rotR at h
  split at h
  ·simp at h
  ·obtain rfl : x = ([], S) := by simpa using h
   exact ⟨rfl, fun e he => by simp at he⟩
 | A :: As, S, x, h => by
  unfold rotR at h
  split at h
  ·simp at h
  ·obtain ⟨m, hm, h2⟩ := List.mem_flatMap.1 h
   obtain ⟨y, hy, rfl⟩ := List.mem_map.1 h2
   have hm := List.mem_range.1 hm
   obtain ⟨h3, h4⟩ := rotR_mem As _ y hy
   refine ⟨by simp [h3], fun e he => ?_⟩
   rcases List.mem_cons.1 he with rfl | he
   ·omega
   ·exact h4 e he
theorem resid_all {p : Int} {l : List Int} (h : ∀ e ∈ l, 0 ≤ e ∧ e < p) : resid p l = true := resid_iff.2 fun i hi => h _ (by
 simp [Go.Proofs.YtbnefjhljfbecaaGreatDoor.vec, List.getD_eq_getElem?_getD, hi])
theorem rotL_spec {p n q r c : Int} {T D : List Int} (h : torOk p n T q r c D = true) : ∃ m a : Nat, n = m ∧ q = p ∧ r = a ∧ c = m ∧ m ≤ 28 ∧ a ≤ m ∧ T.length = m * m * m ∧ resid p T = true ∧ isPrime p = true ∧ D.length = a * m ∧ resid p D = true ∧ p ≤ 101 ∧ (∀ x ∈ rotL p n T q r c D, x.1.length = a ∧ resid p x.1 = true) ∧ (m = 0 → rotL p n T q r c D = []) := by
 obtain ⟨m, a, rfl, rfl, rfl, rfl, m28, kT, rT, hP, kD, rD, h101, b, hb⟩ := tor_spec h
 have ha := rf_le_n (isPrime_bd hP).1 hb
 rw [length_rowsM] at ha
 refine ⟨m, a, rfl, rfl, rfl, rfl, m28, ha, kT, rT, hP, kD, rD, h101, fun x hx => ?_, fun h0 => ?_⟩
 ·rw [rotL, if_pos h] at hx
  obtain ⟨h1, h2⟩ := rotR_mem _ _ x hx
  exact ⟨by rw [h1, List.length_map, length_rowsM]; rfl, resid_all h2⟩
 ·subst h0
  rw [rotL, if_pos h]
  exact rotR_nil _ _ _ (by simp [uniR, rowsM])
theorem rts_snoc (L : List (List Int × List (List Int))) (x : List Int × List (List Int)) : rts (L ++ [x]) = if zeroL x.1 = true then rts L else rts L ++ [x.1] := by
 unfold rts
 rw [List.map_append, List.filter_append]
 by_cases h : zeroL x.1 = true
 ·simp [h]
 ·simp [h]
theorem take_get {α : Type} {L : List α} {i : Nat} {x : α} (h : L[i]? = some x) : L.take (i + 1) = L.take i ++ [x] := by
 rw [List.take_add_one, h]
 rfl
theorem rts_lst {p : Int} {a : Nat} {L : List (List Int × List (List Int))} (h : ∀ x ∈ L, x.1.length = a ∧ resid p x.1 = true) : Lst p a (rts L) := fun y hy => by
 obtain ⟨h1, _⟩ := List.mem_filter.1 hy
 obtain ⟨x, hx, rfl⟩ := List.mem_map.1 h1
 exact h x hx
theorem rts_pos {p : Int} {a : Nat} {L : List (List Int × List (List Int))} (h : ∀ x ∈ L, x.1.length = a ∧ resid p x.1 = true) (h0 : 0 < (rts L).length) : 0 < a := by
 rcases Nat.eq_zero_or_pos a with e | e
 ·exfalso
  have hm := List.getElem_mem h0
  obtain ⟨h1, h2⟩ := List.mem_filter.1 hm
  obtain ⟨x, hx, h3⟩ := List.mem_map.1 h1
  have h4 := (h x hx).1
  rw [h3, e] at h4
  rw [List.eq_nil_of_length_eq_zero h4] at h2
  exact Bool.noConfusion h2
 ·exact e
theorem rts_len (L : List (List Int × List (List Int))) : (rts L).length ≤ L.length := by
 unfold rts
 exact Nat.le_trans (List.length_filter_le _ _) (by simp)
def tyaB (p n : Int) (T : List Int) (q r c : Int) (D : List Int) : ByteArray := if 5 ≤ p ∧ torOk p n T q r c D = true then tyI p n.toNat D (rotL p n T q r c D) r else ⟨#[]⟩
set_option maxHeartbeats 16000000 in
theorem TypeOfAlgebraI_any (p n q r c : Int) (t u : Value) (T D : List Int) (w : World) (ht : Ints w t T) (hu : Ints w u D) (hp : p ≤ 9223372036854775807) (hq : q ≤ 9223372036854775807) (hT : TabAt w) (hM : MaxAt w) :
  Calls Tryz.prog 9 #[.agg #[.int .i64 p, .int .i64 n, t], .agg #[.int .i64 q, .int .i64 r, .int .i64 c, u]] w fun e w' => e = .returned (.string (tyaB p n T q r c D)) ∧ Below w.heap.size w w' := by
 have h1 := ((((((St.start w).pushOld hM.fact).pushOld hT.fact).pushRo ht.toB).pushRo hu.toB).box [.int .i64 p, .int .i64 n, t] 30).box [.int .i64 q, .int .i64 r, .int .i64 c, u] 32
 simp only [World.size_alloc] at h1
 obtain ⟨A, k, rfl, _, _, _⟩ := id ht
 obtain ⟨A1, k1, rfl, _, _, _⟩ := id hu
 have HI := Lib.hid (fun (W : World) (x1 : Ints W (.slice A T.length k) T) (x2 : Ints W (.slice A1 D.length k1) D) => IsToralI_any p n q r c _ _ T D W x1 x2 hp hq)
 have HR := Lib.hid (fun (W : World) (x1 : Ints W (.slice A T.length k) T) (x2 : Ints W (.slice A1 D.length k1) D) => RootSpacesI_any p n q r c _ _ T D W x1 x2 hp hq)
 clear ht hu hT hM
 obtain ⟨Po, hPo⟩ : ∃ Po : ByteArray, Po = tyaB p n T q r c D := ⟨_, rfl⟩
 rw [← hPo]
 obtain ⟨x0, x1, x2⟩ := h1.box3 1 rfl
 obtain ⟨y0, y1, y2, y3⟩ := h1.box4 0 rfl
 by_cases hp5 : p < 5
 ·have HB := Lib.hid (show Po = ⟨#[]⟩ by rw [hPo, tyaB, if_neg (fun h => by omega)])
  clear hPo
  go_enter Tryz.func9, Tryz.ntmps9
  go_wp2
  go_ret
  exact ⟨by rw [HB.out]; rfl, h1.below⟩
 by_cases b1 : torOk p n T q r c D = true
 case neg =>
  have b1 : torOk p n T q r c D = false := by simpa using b1
  have HB := Lib.hid (show Po = ⟨#[]⟩ by rw [hPo, tyaB, b1, if_neg (fun h => Bool.noConfusion h.2)])
  have B1 := Lib.hid b1
  clear b1 hPo
  go_enter Tryz.func9, Tryz.ntmps9
  go_wp2_with fail
  refine (HI.out _ (h1.roInts 3 rfl) (h1.roInts 2 rfl)).mono ?_
  rintro (e : Ending) w3 ⟨rfl, hb3⟩
  rw [B1.out]
  go_wp2
  go_ret
  exact ⟨by rw [HB.out]; rfl, (h1.on hb3).below⟩
 obtain ⟨m, a, rfl, rfl, rfl, rfl, m28, a28, kT, rT, hP, kD, rD, h101, hL, hm0⟩ := rotL_spec b1
 have hPo2 : Po = tyI q m D (rotL q m T q a m D) a := by rw [hPo, tyaB, if_pos ⟨by omega, b1⟩, Int.toNat_natCast]
 have hLl : (rotL q m T q a m D).length ≤ 28 := by
  have := (rotL_bd q m T q a m D).2.1
  rwa [length_lmL] at this
 have B1 := Lib.hid b1
 rw [Int.toNat_natCast] at HR
 obtain ⟨L, hLd⟩ : ∃ L, L = rotL q m T q a m D := ⟨_, rfl⟩
 rw [← hLd] at HR hPo2 hLl hL
 have b2 := (isPrime_bd hP).1
 have HPo := Lib.hid hPo2
 have HL := Lib.hid hL
 have HD := Lib.hid kD
 clear b1 hPo hPo2 hL hLd hP kT rT rD hm0 kD
 go_enter Tryz.func9, Tryz.ntmps9
 go_wp2_with fail
 refine (HI.out _ (h1.roInts 3 rfl) (h1.roInts 2 rfl)).mono ?_
 rintro (e : Ending) w3 ⟨rfl, hb3⟩
 have g1 := h1.on hb3
 rw [B1.out]
 clear x0 x1 x2 y0 y1 y2 y3 h1 hb3 HI
 obtain ⟨x0, x1, x2⟩ := g1.box3 1 rfl
 obtain ⟨y0, y1, y2, y3⟩ := g1.box4 0 rfl
 go_wp2_with fail
 refine (HR.out _ (g1.roInts 3 rfl) (g1.roInts 2 rfl)).mono ?_
 rintro (e : Ending) w4 ⟨v4, us4, v5, us5, rfl, hul4, hul5, h4⟩
 have gw := g1.on h4.below
 have hv4 := h4.rowsR 0 rfl (by rw [length_lmL]; exact hul4)
 have hv5 := h4.mats 1 rfl (by rw [length_lmM]; exact hul5)
 have hx := gw.atL 1 rfl
 have hy := gw.atL 0 rfl
 have hD9 := gw.roInts 2 rfl
 have hT9 := gw.fact 4 rfl
 have hM9 := gw.fact 5 rfl
 have g := ((((((((St.start w4).pushOld (MaxAt.fact hM9)).pushOld (TabAt.fact hT9)).pushOld hx.fact).pushOld hy.fact).pushRo hD9.toB).pushOld hv5.fact).pushOld hv4.fact).emptyRb
 obtain ⟨A4, k4, rfl, _, _, _⟩ := id hv4
 obtain ⟨A5, k5, rfl, _, _, _⟩ := id hv5
 clear x0 x1 x2 y0 y1 y2 y3 g1 HR h4 hx hy hD9
 have HV4 := Lib.hid hv4
 have HV5 := Lib.hid hv5
 obtain ⟨l, hl⟩ : ∃ l, l = L.length := ⟨_, rfl⟩
 rw [length_lmL, ← hl] at HV4 g ⊢
 rw [length_lmM, ← hl] at HV5 g ⊢
 rw [← hl] at hLl
 have Hl := Lib.hid hl
 have HRb := Lib.hid (show RBor w4 [] (rts (L.take 0)) by
  rw [List.take_zero]
  exact RBor.nil w4)
 have HAll := Lib.hid (show (L.take 0).all (okI m D) = true by rw [List.take_zero]; rfl)
 have HBad := Lib.hid (fun (x : List Int × List (List Int)) (hx : x ∈ L) (h : okI m D x = false) => (show Po = ⟨#[]⟩ by
  rw [HPo.out, tyI, if_neg]
  intro h2
  rw [List.all_eq_true.1 h2 x hx] at h
  exact Bool.noConfusion h))
 have HZ := Lib.hid (fun (W : World) (v : Value) (X : List Int) (h : Ints W v X) => isZero_any v X W h)
 have HEq := Lib.hid (fun (W : World) (v u : Value) (X Y : List Int) (h : Ints W v X) (h2 : Ints W u Y) => Equal_any v u X Y W h h2)
 generalize hBa : w.heap.size = Ba at g ⊢
 generalize hBs : Ba + 1 = Bs at g ⊢
 clear hv4 hv5 hl hT9 hM9 hBa hBs hul4 hul5
 go_wp2
 generalize hB9 : w4.heap.size = B9 at g ⊢
 generalize World.alloc _ _ = wl at g ⊢
 clear hB9
 go_loopw [7, 8, 9, 28] (fun v7 _ _ v28 wr => ∃ (i : Nat) (us : List Value), v28 = .int .i64 i ∧ i ≤ l ∧ Hid (RBor w4 us (rts (L.take i))) ∧ Hid ((L.take i).all (okI m D) = true) ∧ St w4 wr [rbIt v7 us, .fact fun w' => IntRows w' (.slice A4 l k4) (lmL L), .fact fun w' => MatsR w' (.slice A5 l k5) (lmM q m L), .ro (.slice A1 D.length k1) D, .fact fun w' => AtL w' Bs [.int .i64 q, .int .i64 a, .int .i64 m, .slice A1 D.length k1], .fact fun w' => AtL w' Ba [.int .i64 q, .int .i64 m, .slice A T.length k], .fact TabAt, .fact MaxAt]) (fun _ _ _ v28 _ => l - (intOf v28).toNat)
 case atStart => exact ⟨0, [], rfl, by omega, HRb, HAll, g⟩
 case round =>
  clear g HRb HAll
  obtain ⟨i, us, rfl, a1, HRb, HAll, g⟩ := hrel
  by_cases hi : i < l
  ·have hiL : i < L.length := by rw [← Hl.out]; exact hi
   obtain ⟨x, hx⟩ : ∃ x, L[i]? = some x := ⟨_, List.getElem?_eq_getElem hiL⟩
   obtain ⟨_, e0⟩ := List.getElem?_eq_some_iff.1 hx
   have hxm := List.mem_of_getElem? hx
   obtain ⟨x1, x2⟩ := HL.out x hxm
   obtain ⟨b4, off4, A9, c9, hA4, hm4⟩ := HV4.out.at (i := i) (by rw [length_lmL]; exact hiL)
   obtain ⟨b5, off5, A10, c10, hA5, hm5⟩ := HV5.out.at (i := i) (by rw [length_lmM]; exact hiL)
   have e1 : (lmL L)[i]'(by rw [length_lmL]; exact hiL) = x.1 := by simp [lmL, e0]
   have e2 : (lmM q m L)[i]'(by rw [length_lmM]; exact hiL) = rsM q m x.2 := by simp [lmM, e0]
   rw [e1, x1] at hm4
   rw [e2] at hm5
   subst hA4 hA5
   have HTk := Lib.hid (take_get hx)
   have hR1 := fun (h : zeroL x.1 = true) => (show rts (L.take (i + 1)) = rts (L.take i) by rw [take_get hx, rts_snoc, if_pos h])
   have hR2 := fun (h : ¬ zeroL x.1 = true) => (show rts (L.take (i + 1)) = rts (L.take i) ++ [x.1] by rw [take_get hx, rts_snoc, if_neg h])
   have hAl := (show (L.take (i + 1)).all (okI m D) = okI m D x by rw [take_get hx, List.all_append, HAll.out]; simp)
   have hBx := HBad.out x hxm
   have hOk : okI m D x = if zeroL x.1 = true then decide (flat m x.2 = D) else decide (x.2.length = 1) := rfl
   have HX1 := Lib.hid hm4.2
   have hrl : (rts (L.take i)).length ≤ i := Nat.le_trans (rts_len _) (by rw [List.length_take]; omega)
   have hZ := fun (W : World) (v : Value) (h : Ints W v x.1) => HZ.out W v x.1 h
   have hE := fun (W : World) (v u : Value) (h : Ints W v (flat m x.2)) (h2 : Ints W u D) => HEq.out W v u _ _ h h2
   obtain ⟨zb, hzb⟩ : ∃ zb, zb = zeroL x.1 := ⟨_, rfl⟩
   obtain ⟨ob, hob⟩ : ∃ ob, ob = okI m D x := ⟨_, rfl⟩
   rw [← hzb] at hZ hR1 hR2 hOk
   rw [← hob] at hOk hBx hAl
   have g1 := (g.pushOld hm5.fact).pushOld hm4.fact
   obtain ⟨y0, y1⟩ := g1.fact 0 rfl
   have i1 : (i : Int) < (l : Int) := by omega
   have HZ2 := Lib.hid hZ
   have HE2 := Lib.hid hE
   have HR1 := Lib.hid hR1
   have HR2 := Lib.hid hR2
   have HAl := Lib.hid hAl
   have HBx := Lib.hid hBx
   have HOk := Lib.hid hOk
   have Hul := Lib.hid (show us.length + 1 ≤ 1099511627776 by rw [HRb.out.1]; omega)
   obtain ⟨F, hF⟩ : ∃ F, F = flat m x.2 := ⟨_, rfl⟩
   obtain ⟨s, hs⟩ : ∃ s, s = x.2.length := ⟨_, rfl⟩
   have hrs : rsM q m x.2 = ⟨q, s, m, F⟩ := by rw [rsM, hF, hs]
   rw [hrs] at g1
   rw [← hF] at HE2
   rw [← hF, ← hs] at HOk
   obtain ⟨X, hX⟩ : ∃ X, X = x.1 := ⟨_, rfl⟩
   rw [← hX] at g1 HZ2 HR2 HX1
   clear hm4 hm5 e0 e1 e2 hx hxm x1 x2 hR1 hR2 hAl hBx hOk hZ hE hzb hob hF hs hrs hX hiL hrl g y1
   go_wp2_with fail
   refine (HZ2.out _ _ (g1.fact 0 rfl).2).mono ?_
   rintro (e : Ending) w5 ⟨rfl, rfl⟩
   clear HZ2 y0
   cases zb with
   | true =>
    rw [if_pos rfl] at HOk
    have HR3 := Lib.hid (HR1.out rfl)
    clear HR1 HR2
    go_upto_region 9 with fail
    have g2 := g1.drew
    refine wp_region_held_drew (S := fun w' => w'.cell? ⟨b5, off5 + i * 4 + 3, none⟩ = some (.slice A10 F.length c10) ∧ (w'.cell? ⟨Bs, 0, none⟩ = some (.int .i64 q) ∧ w'.cell? ⟨Bs, 1, none⟩ = some (.int .i64 a) ∧ w'.cell? ⟨Bs, 2, none⟩ = some (.int .i64 m) ∧ w'.cell? ⟨Bs, 3, none⟩ = some (.slice A1 D.length k1))) (by kernel_rfl) ⟨(g2.fact 1 rfl).2.2.2.1, ⟨(g2.fact 6 rfl) 0 _ rfl, (g2.fact 6 rfl) 1 _ rfl, (g2.fact 6 rfl) 2 _ rfl, (g2.fact 6 rfl) 3 _ rfl⟩⟩ (fun hHeld => ?_)
    refine tkA 0 hHeld ?_
    refine tkA 1 hHeld ?_
    refine tkA 2 hHeld ?_
    refine tkA 3 hHeld ?_
    refine tkA 4 hHeld ?_
    refine tkA 5 hHeld ?_
    refine tkA 6 hHeld ?_
    refine rcA 7 fun K hK => ?_
    go_simp
    refine (HE2.out _ _ _ (g2.fact 1 rfl).2.2.2.2 (g2.roInts 5 rfl)).mono ?_
    rintro (e : Ending) w6 ⟨rfl, nd, rfl⟩
    have g3 := g2.drewN nd
    show K _ _
    refine outA hK ?_ fun hHeld => ?_
    ·exact ⟨(g3.fact 1 rfl).2.2.2.1, ⟨(g3.fact 6 rfl) 0 _ rfl, (g3.fact 6 rfl) 1 _ rfl, (g3.fact 6 rfl) 2 _ rfl, (g3.fact 6 rfl) 3 _ rfl⟩⟩
    clear hK K
    refine tkA 8 hHeld ?_
    refine wpAnyH_done (by kernel_rfl) ?_ _
    clear hHeld
    replace g3 := g3.drop 2
    simp only [List.drop_succ_cons, List.drop_zero] at g3
    generalize World.drewN _ _ = wd at g3 ⊢
    clear g1 g2 HE2
    obtain ⟨db, hdb⟩ : ∃ db, db = decide (F = D) := ⟨_, rfl⟩
    rw [← hdb] at HOk ⊢
    clear hdb
    cases db with
    | false =>
     have HB := Lib.hid (HBx.out HOk.out)
     go_wp2
     go_ret
     exact ⟨by rw [HB.out]; rfl, (gw.on g3.below).below⟩
    | true =>
     have HA2 := Lib.hid (show (L.take (i + 1)).all (okI m D) = true by rw [HAl.out, HOk.out])
     go_wp2
     go_roundw
     case rel => exact ⟨i + 1, us, by go_num, by omega, by rw [HR3.out]; exact HRb, HA2, g3⟩
     case measure => simp [intOf]; omega
   | false =>
    rw [if_neg (by decide)] at HOk
    have HR3 := Lib.hid (HR2.out (by decide))
    have z0 := (g1.fact 1 rfl).2.1
    have g3 := g1.drop 2
    simp only [List.drop_succ_cons, List.drop_zero] at g3
    clear HR1 HR2 HE2 g1
    by_cases hs1 : s = 1
    ·subst hs1
     have HA2 := Lib.hid (show (L.take (i + 1)).all (okI m D) = true by rw [HAl.out, HOk.out]; rfl)
     have HR4 := Lib.hid (show RBor w4 (us ++ [Value.slice A9 a c9]) (rts (L.take (i + 1))) by rw [HR3.out]; exact HRb.out.snoc HX1.out)
     go_wp2_with (at_builtin; refine wp_append_rb rfl (.tmp 50) (.tmp 52) rfl g3 0 rfl rfl rfl rfl Hul.out ?_; intro v1 w7 h7)
     go_roundw
     case rel => exact ⟨i + 1, us ++ [_], by go_num, by omega, HR4, HA2, h7⟩
     case measure => simp [intOf]; omega
    ·have HB := Lib.hid (HBx.out (by rw [HOk.out]; exact decide_eq_false hs1))
     have t1 : ((s : Int) != 1) = true := by rw [bne_iff_ne]; omega
     go_wp2
     go_ret
     exact ⟨by rw [HB.out]; rfl, (gw.on g3.below).below⟩
  ·obtain rfl : l = i := by omega
   have hA2 := HAll.out
   have hR2 := HRb.out
   rw [List.take_of_length_le (by rw [← Hl.out]; exact Nat.le_refl _)] at hA2 hR2
   have HPo2 := Lib.hid (show Po = tyr q (rts L) a by rw [HPo.out, tyI, if_pos hA2])
   have hrl := rts_len L
   rw [← Hl.out] at hrl
   have HTy := Lib.hid (fun (W : World) (v : Value) (h : IntRows W v (rts L)) (hT : TabAt W) (hM : MaxAt W) => typeOfRoots_any q v (rts L) a W h (rts_lst HL.out) (rts_pos HL.out) (by omega) (by omega) b2 h101 hT hM)
   have hv7 := hR2.rows g 0 rfl
   have hx := g.fact 5 rfl
   have hy := g.fact 4 rfl
   have x0 := hx 0 _ rfl
   have y1 := hy 1 _ rfl
   have HV7 := Lib.hid hv7
   clear hA2 hR2 hrl hv7 hx hy
   go_wp2_with fail
   refine (HTy.out _ _ HV7.out (g.fact 6 rfl) (g.fact 7 rfl)).mono ?_
   rintro (e : Ending) w5 ⟨rfl, hb5⟩
   go_wp2
   go_ret
   exact ⟨by rw [HPo2.out]; rfl, (gw.on (g.on hb5).below).below⟩
end Tya
end Go.Proofs.YtbnefjhljfbecaaGreatDoor
