import Derived.Maps.Own
import Derived.Test.YtbnefjhljfbecaaGreatDoorW19
import Derived.Test.YtbnefjhljfbecaaGreatDoorW21
import Derived.Test.YtbnefjhljfbecaaGreatDoorW25
import Derived.Test.YtbnefjhljfbecaaGreatDoorW27
import Derived.Test.YtbnefjhljfbecaaGreatDoorW33
namespace Go.Proofs.YtbnefjhljfbecaaGreatDoor
set_option maxRecDepth 100000
open Go.RowKit
namespace Tya
open Mp Car
theorem resid_rep0 {p : Int} (hp : 2 ≤ p) (c : Nat) : resid p (List.replicate c 0) = true := resid_iff.2 fun i hi => by
 have : Go.Proofs.YtbnefjhljfbecaaGreatDoor.vec (List.replicate c 0) i = 0 := by
  rw [List.length_replicate] at hi
  simp [Go.Proofs.YtbnefjhljfbecaaGreatDoor.vec, List.getD_eq_getElem?_getD, hi]
 rw [this]
 omega
theorem take_rowOf {S : List (List Int)} {i : Nat} (hi : i < S.length) : S.take (i + 1) = S.take i ++ [rowOf S i] := by
 rw [List.take_succ_eq_append_getElem hi, rowOf_eq hi]
theorem drop_rowOf {S : List (List Int)} {i : Nat} (hi : i < S.length) : S.drop i = rowOf S i :: S.drop (i + 1) := by
 rw [List.drop_eq_getElem_cons hi, rowOf_eq hi]
def posB (p : Int) (R : List (List Int)) (y : List Int) : Bool := decide (0 < sgn p (isIn R) y R)
def posT (p : Int) (R : List (List Int)) (i : Nat) : List (List Int) := (R.take i).filter (posB p R)
theorem posT_yes {p : Int} {R : List (List Int)} {i : Nat} (hi : i < R.length) (h : posB p R (rowOf R i) = true) : posT p R (i + 1) = posT p R i ++ [rowOf R i] := by
 unfold posT
 rw [take_rowOf hi, List.filter_append]
 simp [h]
theorem posT_no {p : Int} {R : List (List Int)} {i : Nat} (hi : i < R.length) (h : posB p R (rowOf R i) = false) : posT p R (i + 1) = posT p R i := by
 unfold posT
 rw [take_rowOf hi, List.filter_append]
 simp [h]
theorem posT_end {p : Int} {R : List (List Int)} : posT p R R.length = posL p R := by
 unfold posT
 rw [List.take_length]
 rfl
def simT (p : Int) (P : List (List Int)) (i : Nat) : List (List Int) := (P.take i).filter (simB p P)
theorem simT_yes {p : Int} {P : List (List Int)} {i : Nat} (hi : i < P.length) (h : simB p P (rowOf P i) = true) : simT p P (i + 1) = simT p P i ++ [rowOf P i] := by
 unfold simT
 rw [take_rowOf hi, List.filter_append]
 simp [h]
theorem simT_no {p : Int} {P : List (List Int)} {i : Nat} (hi : i < P.length) (h : simB p P (rowOf P i) = false) : simT p P (i + 1) = simT p P i := by
 unfold simT
 rw [take_rowOf hi, List.filter_append]
 simp [h]
set_option maxHeartbeats 16000000 in
theorem typeOfRoots_any (p : Int) (v : Value) (R : List (List Int)) (a : Nat) (w : World) (hv : IntRows w v R) (hR : Lst p a R) (h0 : 0 < R.length → 0 < a) (hn : R.length ≤ 28) (ha : a ≤ 28) (hp : 2 ≤ p) (hp' : p ≤ 101) (hT : TabAt w) (hM : MaxAt w) :
  Calls Tryz.prog 28 #[v, .int .i64 p, .int .i64 a] w fun e w' => e = .returned (.string (tyr p R a)) ∧ Below w.heap.size w w' := by
 have h1 := ((((St.start w).pushOld hM.fact).pushOld hT.fact).newS Tryz.prog 9 4).box [.int .i64 p, .map (some w.heap.size)] 80
 simp only [World.size_alloc] at h1
 obtain ⟨A, k0, rfl, _, _, _⟩ := id hv
 obtain ⟨n, hnn⟩ : ∃ n, n = R.length := ⟨_, rfl⟩
 rw [← hnn] at hv h0 hn ⊢
 have hrow := fun i (hi : i < n) => hR (rowOf R i) (rowOf_mem (by rw [← hnn]; exact hi))
 have HFi := Lib.hid (fun (W : World) (u : Value) (X : List Int) (hX : X.length = a) (rX : resid p X = true) (h : 0 < n) (hu : Ints W u X) (ht : TabAt W) => FormatInts_any u X W hu (sml_of hp' rX) (by have := h0 h; omega) (by omega) ht)
 have HPl := Lib.hid (fun (W : World) (k : Int) (m x y : Value) (X Y : List Int) (hX : X.length = a) (rX : resid p X = true) (hY : Y.length = a) (rY : resid p Y = true) (hk : -10 ≤ k ∧ k ≤ 10) (hm : m.oneCell' = true) (hx : Ints W x X) (hy : Ints W y Y) => plusI_any p k m x y X Y W hx hy hm (by omega) (by omega) hp hp' rX rY hk)
 have HSz := Lib.hid (fun (X : List Int) (hX : X.length = a) (rX : resid p X = true) => encB_size (sml_of hp' rX) (show X.length ≤ 1000 by omega))
 have HNu := Lib.hid (fun (W : World) (bm nm : Nat) (x y : Value) (X Y : List Int) (hX : X.length = a) (rX : resid p X = true) (hY : Y.length = a) (rY : resid p Y = true) (h : 0 < n) (hx : Ints W x X) (hy : Ints W y Y) (hm : SM bm nm (setR R) W) (ht : TabAt W) => (show Calls Tryz.prog 55 #[.agg #[.int .i64 p, .map (some bm)], x, y] W fun e w' => e = .returned (.int .i64 (num p (isIn R) X Y)) ∧ Below W.heap.size W w' by
  have := numI_any p x y X Y bm nm (setR R) W hx hy hm ht (by omega) (by have := h0 h; omega) (by omega) hp hp' rX rY
  rwa [num_in hp hp' hR hX hY] at this))
 have HRl := Lib.hid hnn
 have HV := Lib.hid hv
 have HRw := Lib.hid hrow
 have HLst := Lib.hid hR
 obtain ⟨Po, hPo⟩ : ∃ Po : ByteArray, Po = tyr p R a := ⟨_, rfl⟩
 rw [← hPo]
 have HPo := Lib.hid hPo
 have hp28 : a ≤ 28 := ha
 clear hv hR hT hM hnn hrow hPo
 have hmk : ∀ W, (Instr.makeMap 78 none).run Tryz.prog W = .ok (.map (some W.heap.size)) (W.alloc (.map #[] 0)) := fun _ => rfl
 go_enter Tryz.func28, Tryz.ntmps28
 go_wp2
 generalize hbm : w.heap.size = bm at h1 ⊢
 generalize hbx : bm + 1 = Bx at h1 ⊢
 rw [← setR_nil] at h1
 clear hbx
 go_loopw [9, 34] (fun _ v34 wr => ∃ i : Nat, v34 = .int .i64 i ∧ i ≤ n ∧ St w wr [.box Bx [.int .i64 p, .map (some bm)], smapIt Tryz.prog 9 4 bm i (setR (R.take i)), .fact TabAt, .fact MaxAt]) (fun _ v34 _ => n - (intOf v34).toNat)
 case atStart => exact ⟨0, rfl, by omega, by rw [List.take_zero]; exact h1⟩
 case round =>
  clear h1
  obtain ⟨i, rfl, a1, g⟩ := hrel
  by_cases hi : i < n
  ·have hiR : i < R.length := by rw [← HRl.out]; exact hi
   obtain ⟨bb, off, A9, c9, hA, hm⟩ := HV.out.at (i := i) hiR
   obtain ⟨r1, r2⟩ := HRw.out i hi
   have HN := Lib.hid (take_rowOf hiR)
   rw [rowOf_eq hiR, r1] at hm
   subst hA
   obtain ⟨X, hX⟩ : ∃ X, X = rowOf R i := ⟨_, rfl⟩
   rw [← hX] at hm r1 r2 HN
   have HF := Lib.hid (fun (W : World) (u : Value) hu ht => HFi.out W u X r1 r2 (by omega) hu ht)
   have HS := Lib.hid (HSz.out X r1 r2)
   have HSn := Lib.hid (show upd (setR (R.take i)) (encB X) true = setR (R.take (i + 1)) by rw [setR_snoc, HN.out])
   obtain ⟨se, hse⟩ : ∃ se, se = encB X := ⟨_, rfl⟩
   rw [← hse] at HF HS HSn
   have Hn9 := Lib.hid (show i < maxLen by simp only [maxLen]; omega)
   have i1 : (i : Int) < (n : Int) := by omega
   have g1 := g.pushOld hm.fact
   obtain ⟨y0, y1⟩ := g1.fact 0 rfl
   clear hm hX r1 r2 hiR hse g HN
   go_upto_region 5 with fail
   replace g1 := g1.drew
   clear y0 y1
   refine wp_region_cut (S := fun w' => (w'.cell? ⟨Bx, 0, none⟩ = some (.int .i64 p) ∧ w'.cell? ⟨Bx, 1, none⟩ = some (.map (some bm)))) 4 (by kernel_rfl) (by kernel_rfl) (g1.box2 1 rfl) (fun hHeld => ?_)
   simp only [List.take_succ_cons, List.take_zero]
   refine tkA 0 hHeld ?_
   refine tkA 1 hHeld ?_
   refine tkA 2 hHeld ?_
   refine rcA 3 fun K hK => ?_
   go_simp
   refine (HF.out _ _ (g1.fact 0 rfl).2 (g1.fact 3 rfl)).mono ?_
   rintro (e : Ending) w5 ⟨rfl, hb5⟩
   have g2 := g1.on hb5
   show K _ _
   refine outA hK ?_ fun hHeld => ?_
   ·exact (g2.box2 1 rfl)
   clear hK K
   refine wpAnyH_done (by kernel_rfl) ?_ _
   show wpList _ _ _ _ _ _
   simp only [List.drop_succ_cons, List.drop_zero]
   clear hHeld
   clear g1 hb5
   refine wp_putS (t := 78) rfl (.tmp 39) (.tmp 41) (.const (.bool true)) rfl g2 2 rfl mt Hn9.out (s := se) (by have := HS.out; simp only [maxLen]; omega) rfl rfl rfl ?_
   intro w8 g3
   simp only [List.set_cons_succ, List.set_cons_zero] at g3
   rw [HSn.out] at g3
   replace g3 := g3.drop 1
   clear g2
   go_wp2
   go_roundw
   case rel => exact ⟨i + 1, by go_num, by omega, g3⟩
   case measure => simp [intOf]; omega
  ·obtain rfl : n = i := by omega
   rw [List.take_of_length_le (by rw [← HRl.out]; exact Nat.le_refl _)] at g
   have g1 := g.emptyRb
   have HAll := Lib.hid (show (R.take 0).all (fun y => isIn R (ngL p y)) = true by rw [List.take_zero]; rfl)
   have HRb := Lib.hid (show RBor w [] (posT p R 0) by
    unfold posT
    rw [List.take_zero]
    exact RBor.nil w)
   have HLk := Lib.hid (fun (W : World) (L : List It) (j : Nat) (Y : List Int) (h1 : Y.length = a) (h2 : resid p Y = true) (h : St w W L) (hj : L[j]? = some (smapIt Tryz.prog 9 4 bm n (setR R))) => (show (Instr.lookup 78 (.map (some bm)) (.string (encB Y)) false).run Tryz.prog W = .ok (.bool (isIn R Y)) W by
    have := SM.look (show SM bm n (setR R) W from h.smap j hj) (HSz.out Y h1 h2)
    rwa [setR_in hp' HLst.out h1 h2] at this))
   clear g hi
   go_wp2
   generalize World.alloc _ _ = wl at g1 ⊢
   generalize wr.heap.size = B1 at g1 ⊢
   go_loopw [10, 12, 14, 15, 46] (fun v10 _ _ _ v46 wr => ∃ (i : Nat) (us : List Value), v46 = .int .i64 i ∧ i ≤ n ∧ Hid (RBor w us (posT p R i)) ∧ Hid ((R.take i).all (fun y => isIn R (ngL p y)) = true) ∧ St w wr [rbIt v10 us, .box Bx [.int .i64 p, .map (some bm)], smapIt Tryz.prog 9 4 bm n (setR R), .fact TabAt, .fact MaxAt]) (fun _ _ _ _ v46 _ => n - (intOf v46).toNat)
   case atStart => exact ⟨0, [], rfl, by omega, HRb, HAll, g1⟩
   case round =>
    clear g1 HRb HAll
    obtain ⟨i, us, rfl, a2, HRb, HAll, g⟩ := hrel
    by_cases hi : i < n
    ·have hiR : i < R.length := by rw [← HRl.out]; exact hi
     obtain ⟨bb, off, A9, c9, hA, hm⟩ := HV.out.at (i := i) hiR
     obtain ⟨r1, r2⟩ := HRw.out i hi
     have hmem := rowOf_mem hiR
     have hall : (R.take (i + 1)).all (fun y => isIn R (ngL p y)) = isIn R (ngL p (rowOf R i)) := by
      rw [take_rowOf hiR, List.all_append, HAll.out]
      simp
     have hpy := fun h => posT_yes (p := p) hiR h
     have hpn := fun h => posT_no (p := p) hiR h
     rw [rowOf_eq hiR, r1] at hm
     subst hA
     obtain ⟨Y, hY⟩ : ∃ Y, Y = rowOf R i := ⟨_, rfl⟩
     rw [← hY] at hm r1 r2 hmem hall hpy hpn
     have hng : (ngL p Y).length = a ∧ resid p (ngL p Y) = true := by
      unfold ngL
      exact ⟨by rw [length_addL _ _ _ _ (by simp), List.length_replicate, r1], resid_addL _ _ _ _ (by omega)⟩
     obtain ⟨NG, hNG⟩ : ∃ NG, NG = ngL p Y := ⟨_, rfl⟩
     rw [← hNG] at hng hall
     have HP1 := Lib.hid (fun (W : World) (x y : Value) (hx : Ints W x (List.replicate a 0)) (hy : Ints W y Y) => (show Calls Tryz.prog 54 #[.agg #[.int .i64 p, .map (some bm)], x, .int .i64 (-1), y] W (RetOwn W NG) by
      rw [hNG, ngL, r1]
      exact HPl.out W (-1) _ x y _ Y (by simp) (resid_rep0 (by omega) _) r1 r2 (by omega) rfl hx hy))
     have HF := Lib.hid (fun (W : World) (u : Value) hu ht => HFi.out W u NG hng.1 hng.2 (by omega) hu ht)
     have HL := Lib.hid (fun (W : World) (L : List It) (j : Nat) h hj => HLk.out W L j NG hng.1 hng.2 h hj)
     obtain ⟨b, hb⟩ : ∃ b, b = isIn R NG := ⟨_, rfl⟩
     rw [← hb] at HL hall
     obtain ⟨se, hse⟩ : ∃ se, se = encB NG := ⟨_, rfl⟩
     rw [← hse] at HF HL
     have HY1 := Lib.hid hm.2
     have HYl := Lib.hid (And.intro r1 r2)
     have Hall := Lib.hid hall
     have HBad := Lib.hid (fun (e : b = false) => (show Po = ⟨#[]⟩ by
      rw [HPo.out]
      unfold tyr
      rw [if_neg]
      intro h
      have := List.all_eq_true.1 h Y hmem
      rw [← hNG, ← hb, e] at this
      exact Bool.noConfusion this))
     have Hpy := Lib.hid hpy
     have Hpn := Lib.hid hpn
     have i1 : (i : Int) < (n : Int) := by omega
     have hmk2 := makeI a (by omega)
     have g1 := g.pushOld hm.fact
     obtain ⟨y0, y1⟩ := g1.fact 0 rfl
     clear hm hY r1 r2 hiR hse g hng hNG hb hall hpy hpn hmem
     go_upto_region 11 with fail
     replace g1 := g1.drew
     clear y0 y1
     refine wp_region_held_drew (S := fun w' => (w'.cell? ⟨Bx, 0, none⟩ = some (.int .i64 p) ∧ w'.cell? ⟨Bx, 1, none⟩ = some (.map (some bm))) ∧ (Instr.lookup 78 (.map (some bm)) (.string se) false).run Tryz.prog w' = .ok (.bool b) w') (by kernel_rfl) ⟨g1.box2 2 rfl, HL.out _ _ 3 g1 rfl⟩ (fun hHeld => ?_)
     refine tkA 0 hHeld ?_
     refine tkA 1 hHeld ?_
     refine tkA 2 hHeld ?_
     refine tkA 3 hHeld ?_
     refine tkA 4 hHeld ?_
     refine tkA 6 hHeld ?_
     refine rcA 5 fun K hK => ?_
     go_simp
     have g2 := g1.zeros a (by omega)
     refine outA hK ?_ fun hHeld => ?_
     ·exact ⟨g2.box2 3 rfl, HL.out _ _ 4 g2 rfl⟩
     clear hK K
     refine rcA 7 fun K hK => ?_
     go_simp
     refine (HP1.out _ _ _ (g2.ownInts 0 rfl) (g2.fact 1 rfl).2).mono ?_
     rintro (e : Ending) w5 ⟨u5, rfl, ho5, hb5⟩
     obtain ⟨A5, n5, c5, rfl⟩ := ho5.slice
     have g3 := g2.pushOwn hb5 ho5
     show K _ _
     refine outA hK ?_ fun hHeld => ?_
     ·exact ⟨g3.box2 4 rfl, HL.out _ _ 5 g3 rfl⟩
     clear hK K
     refine rcA 8 fun K hK => ?_
     go_simp
     refine (HF.out _ _ (g3.ownInts 0 rfl) (g3.fact 6 rfl)).mono ?_
     rintro (e : Ending) w6 ⟨rfl, hb6⟩
     have g4 := g3.on hb6
     show K _ _
     refine outA hK ?_ fun hHeld => ?_
     ·exact ⟨g4.box2 4 rfl, HL.out _ _ 5 g4 rfl⟩
     clear hK K
     refine tkA 9 hHeld ?_
     refine tkA 10 hHeld ?_
     refine wpAnyH_done (by kernel_rfl) ?_ _
     clear hHeld
     replace g4 := g4.drop 2
     simp only [List.drop_succ_cons, List.drop_zero] at g4
     clear g1 g2 g3 ho5 hb5 hb6 hmk2 HL HF HP1
     cases b with
     | false =>
      have HB := Lib.hid (HBad.out rfl)
      clear HBad
      go_wp2
      go_ret
      exact ⟨by rw [HB.out]; rfl, g4.below⟩
     | true =>
      clear HBad
      go_wp2
      go_loopw [10, 14, 15, 63] (fun v10 _ _ v63 wr => ∃ j : Nat, v63 = .int .i64 j ∧ j ≤ n ∧ Hid (sgn p (isIn R) Y R = sgn p (isIn R) Y (R.drop j)) ∧ St w wr [.fact fun w' => RowAt w' bb (off + i) Y (.slice A9 a c9), rbIt v10 us, .box Bx [.int .i64 p, .map (some bm)], smapIt Tryz.prog 9 4 bm n (setR R), .fact TabAt, .fact MaxAt]) (fun _ _ _ v63 _ => n - (intOf v63).toNat)
      case atStart => exact ⟨0, rfl, by omega, Lib.hid rfl, g4⟩
      case round =>
       clear g4
       obtain ⟨j, rfl, a3, HSg, g⟩ := hrel
       by_cases hj : j < n
       ·have hjR : j < R.length := by rw [← HRl.out]; exact hj
        obtain ⟨bb2, off2, A10, c10, hA, hm⟩ := HV.out.at (i := j) hjR
        simp only [Option.some.injEq, Addr.mk.injEq, and_true] at hA
        obtain ⟨rfl, rfl⟩ := hA
        obtain ⟨r1, r2⟩ := HRw.out j hj
        have hsg : sgn p (isIn R) Y (R.drop j) = if num p (isIn R) (rowOf R j) Y = 0 then sgn p (isIn R) Y (R.drop (j + 1)) else num p (isIn R) (rowOf R j) Y := by rw [drop_rowOf hjR, sgn]
        rw [rowOf_eq hjR, r1] at hm
        obtain ⟨X, hX⟩ : ∃ X, X = rowOf R j := ⟨_, rfl⟩
        rw [← hX] at hm r1 r2 hsg
        have HN1 := Lib.hid (fun (W : World) (x y : Value) hx hy hm ht => HNu.out W bm n x y X Y r1 r2 HYl.out.1 HYl.out.2 (by omega) hx hy hm ht)
        obtain ⟨nv, hnv⟩ : ∃ nv, nv = num p (isIn R) X Y := ⟨_, rfl⟩
        rw [← hnv] at HN1 hsg
        have Hsg := Lib.hid hsg
        have j1 : (j : Int) < (n : Int) := by omega
        have g1 := g.pushOld hm.fact
        obtain ⟨y0, y1⟩ := g1.fact 0 rfl
        obtain ⟨z0, z1⟩ := g1.box2 3 rfl
        clear hm hX r1 r2 hjR hnv g hsg
        go_wp2_with fail
        refine (HN1.out _ _ _ (g1.fact 0 rfl).2 (g1.fact 1 rfl).2 (g1.smap 4 rfl) (g1.fact 5 rfl)).mono ?_
        rintro (e : Ending) w5 ⟨rfl, hb5⟩
        have g2 := (g1.on hb5).drop 1
        clear y0 y1 z0 z1 g1 hb5 HN1
        rcases Int.lt_trichotomy nv 0 with hn0 | hn0 | hn0
        ·have t1 : ¬ (nv > 0) := by omega
         have t2 : (nv != 0) = true := by rw [bne_iff_ne]; omega
         have HE := Lib.hid (show posT p R (i + 1) = posT p R i from Hpn.out (decide_eq_false (by rw [HSg.out, Hsg.out, if_neg (by omega)]; omega)))
         replace g2 := g2.drop 1
         go_wp2
         go_roundw
         case rel => exact ⟨i + 1, us, by go_num, by omega, by rw [HE.out]; exact HRb, Hall, g2⟩
         case measure => simp [intOf]; omega
        ·subst hn0
         have HE := Lib.hid (show sgn p (isIn R) Y R = sgn p (isIn R) Y (R.drop (j + 1)) by rw [HSg.out, Hsg.out, if_pos rfl])
         go_wp2
         go_roundw
         case rel =>
          (repeat apply Exists.intro)
          refine And.intro ?_ rfl
          exact ⟨j + 1, by go_num, by omega, HE, g2⟩
         case measure => simp [intOf]; omega
        ·have t1 : nv > 0 := by omega
         have t2 : (nv != 0) = true := by rw [bne_iff_ne]; omega
         have HE := Lib.hid (show posT p R (i + 1) = posT p R i ++ [Y] from Hpy.out (decide_eq_true (by rw [HSg.out, Hsg.out, if_neg (by omega)]; omega)))
         have HR2 := Lib.hid (show RBor w (us ++ [Value.slice A9 a c9]) (posT p R (i + 1)) by rw [HE.out]; exact HRb.out.snoc HY1.out)
         have Hul := Lib.hid (show us.length + 1 ≤ 1099511627776 by
          have h8 : (posT p R i).length ≤ i := by
           unfold posT
           exact Nat.le_trans (List.length_filter_le _ _) (by rw [List.length_take]; omega)
          rw [HRb.out.1]
          omega)
         replace g2 := g2.drop 1
         go_wp2_with (at_builtin; refine wp_append_rb rfl (.tmp 73) (.tmp 75) rfl g2 0 rfl rfl rfl rfl Hul.out ?_; intro v1 w6 h6)
         go_roundw
         case rel => exact ⟨i + 1, us ++ [_], by go_num, by omega, HR2, Hall, h6⟩
         case measure => simp [intOf]; omega
       ·obtain rfl : n = j := by omega
        have HE := Lib.hid (show posT p R (i + 1) = posT p R i from Hpn.out (decide_eq_false (by
         rw [HSg.out, List.drop_of_length_le (by rw [← HRl.out]; exact Nat.le_refl _)]
         show ¬ (0 : Int) < 0
         omega)))
        replace g := g.drop 1
        go_wp2
        go_roundw
        case rel => exact ⟨i + 1, us, by go_num, by omega, by rw [HE.out]; exact HRb, Hall, g⟩
        case measure => simp [intOf]; omega
    ·obtain rfl : n = i := by omega
     have HPo2 := Lib.hid (show Po = bty p R a by
      have := HAll.out
      rw [List.take_of_length_le (by rw [← HRl.out]; exact Nat.le_refl _)] at this
      rw [HPo.out, tyr, if_pos this])
     have hRb := HRb.out
     rw [HRl.out, posT_end] at hRb
     have hPm : (posL p R).length ≤ n := by rw [HRl.out]; exact List.length_filter_le _ _
     have hPl : Lst p a (posL p R) := HLst.out.filter _
     have hBs : (posL p R).filter (simB p (posL p R)) = basL p R := rfl
     obtain ⟨P, hP⟩ : ∃ P, P = posL p R := ⟨_, rfl⟩
     rw [← hP] at hRb hPm hPl hBs
     have HPb := Lib.hid hRb
     have HPl2 := Lib.hid hPl
     have hPr : ∀ i, i < P.length → (rowOf P i).length = a ∧ resid p (rowOf P i) = true := fun i hi => hPl _ (rowOf_mem hi)
     have HPr := Lib.hid hPr
     have HPg := Lib.hid (fun (W : World) (L : List It) (j : Nat) (A : Option Addr) (n c : Nat) (h : St w W L) (hj : L[j]? = some (rbIt (.slice A n c) us)) (i : Nat) (hi : i < P.length) => (show ∃ b A9 c9, A = some ⟨b, 0, none⟩ ∧ W.cell? ⟨b, i, none⟩ = some (.slice A9 a c9) ∧ Ints w (.slice A9 a c9) (rowOf P i) by
      obtain ⟨b, A9, c9, e1, e2, e3⟩ := hRb.get h j hj hi
      rw [rowOf_eq hi, (hPr i hi).1] at e2 e3
      exact ⟨b, A9, c9, e1, e2, e3⟩))
     have HSi := Lib.hid (fun (q : List Int) (hq : q ∈ P) => (show setR (smL p P) (encB q) = sumB p P q ∧ simB p P q = !sumB p P q from ⟨smL_in hp hp' hPl hq, simB_iff hp hPl hq⟩))
     obtain ⟨Ap, cp, hvp, -, -, -⟩ := id (hRb.rows g 0 rfl)
     subst hvp
     obtain ⟨m, hm⟩ : ∃ m, m = P.length := ⟨_, rfl⟩
     have Hm := Lib.hid hm
     have HPa := Lib.hid (fun (i : Nat) (h : i < m) => (show 0 < n by omega))
     have HBs := Lib.hid hBs
     rw [← hm] at g hPm HPr HPg ⊢
     have g1 := g.newS Tryz.prog 9 4
     rw [← setR_nil] at g1
     have HT0 := Lib.hid (prsTo_zero (fun x y => addL x 1 y p) P)
     have HTn := Lib.hid (fun i j (hi : i < m) (hj : j < m) => prsTo_next (fun x y => addL x 1 y p) P (i := i) (j := j) (by rw [← hm]; exact hi) (by rw [← hm]; exact hj))
     have HTr := Lib.hid (fun i => (show prsTo (fun x y => addL x 1 y p) P i m = prsTo (fun x y => addL x 1 y p) P (i + 1) 0 by rw [hm]; exact prsTo_row _ P i))
     have HTe := Lib.hid (show prsTo (fun x y => addL x 1 y p) P m 0 = smL p P by rw [hm]; exact prsTo_end _ P)
     obtain ⟨pr, hpr⟩ : ∃ pr, pr = prsTo (fun x y => addL x 1 y p) P := ⟨_, rfl⟩
     rw [← hpr] at HT0 HTn HTr HTe
     clear hP HPo HAll HRb hi hRb hPl hPr hm hBs g hpr
     go_wp2
     generalize World.alloc _ _ = wl2 at g1 ⊢
     generalize wr.heap.size = bs at g1 ⊢
     go_loopw [18, 20, 84] (fun _ _ v84 wr => ∃ i : Nat, v84 = .int .i64 i ∧ i ≤ m ∧ St w wr [smapIt Tryz.prog 9 4 bs (i * m) (setR (pr i 0)), rbIt (.slice Ap m cp) us, .box Bx [.int .i64 p, .map (some bm)], smapIt Tryz.prog 9 4 bm n (setR R), .fact TabAt, .fact MaxAt]) (fun _ _ v84 _ => m - (intOf v84).toNat)
     case atStart => exact ⟨0, rfl, by omega, by rw [Nat.zero_mul, HT0.out]; exact g1⟩
     case round =>
      clear g1
      obtain ⟨i, rfl, a3, g⟩ := hrel
      by_cases hi : i < m
      ·obtain ⟨bp, A9, c9, rfl, y0, hI⟩ := HPg.out _ _ 1 _ _ _ g rfl i hi
       obtain ⟨r1, r2⟩ := HPr.out i hi
       have HTi := Lib.hid (fun j (hj : j < m) => HTn.out i j hi hj)
       have HTri := Lib.hid (HTr.out i)
       obtain ⟨X, hX⟩ : ∃ X, X = rowOf P i := ⟨_, rfl⟩
       rw [← hX] at r1 r2 HTi hI
       have HX := Lib.hid (And.intro r1 r2)
       have i1 : (i : Int) < (m : Int) := by omega
       have g1 := g.pushRo (hI.toB.below g.below (Nat.le_refl _))
       clear hX r1 r2 hI g
       go_wp2
       clear y0
       go_loopw [20, 90] (fun _ v90 wr => ∃ j : Nat, v90 = .int .i64 j ∧ j ≤ m ∧ St w wr [.ro (.slice A9 a c9) X, smapIt Tryz.prog 9 4 bs (i * m + j) (setR (pr i j)), rbIt (.slice (some ⟨bp, 0, none⟩) m cp) us, .box Bx [.int .i64 p, .map (some bm)], smapIt Tryz.prog 9 4 bm n (setR R), .fact TabAt, .fact MaxAt]) (fun _ v90 _ => m - (intOf v90).toNat)
       case atStart => exact ⟨0, rfl, by omega, g1⟩
       case round =>
        clear g1
        obtain ⟨j, rfl, a4, g⟩ := hrel
        by_cases hj : j < m
        ·obtain ⟨bp2, A10, c10, hA, y0, hI⟩ := HPg.out _ _ 2 _ _ _ g rfl j hj
         simp only [Option.some.injEq, Addr.mk.injEq, and_true] at hA
         subst hA
         obtain ⟨r1, r2⟩ := HPr.out j hj
         have HT := Lib.hid (HTi.out j hj)
         obtain ⟨Y, hY⟩ : ∃ Y, Y = rowOf P j := ⟨_, rfl⟩
         rw [← hY] at r1 r2 HT hI
         obtain ⟨Q, hQ⟩ : ∃ Q, Q = addL X 1 Y p := ⟨_, rfl⟩
         have hQl : Q.length = a ∧ resid p Q = true := by rw [hQ]; exact ⟨by rw [length_addL _ _ _ _ (by rw [r1, HX.out.1]), HX.out.1], resid_addL _ _ _ _ (by omega)⟩
         have HP3 := Lib.hid (fun (W : World) (x y : Value) (hx : Ints W x X) (hy : Ints W y Y) => (show Calls Tryz.prog 54 #[.agg #[.int .i64 p, .map (some bm)], x, .int .i64 1, y] W (RetOwn W Q) by
          rw [hQ]
          exact HPl.out W 1 _ x y X Y HX.out.1 HX.out.2 r1 r2 (by omega) rfl hx hy))
         rw [← hQ] at HT
         have HF := Lib.hid (fun (W : World) (u : Value) hu ht => HFi.out W u Q hQl.1 hQl.2 (HPa.out i hi) hu ht)
         have HS := Lib.hid (HSz.out Q hQl.1 hQl.2)
         have HSn := Lib.hid (show upd (setR (pr i j)) (encB Q) true = setR (pr i (j + 1)) by rw [setR_snoc, HT.out])
         obtain ⟨se, hse⟩ : ∃ se, se = encB Q := ⟨_, rfl⟩
         rw [← hse] at HF HS HSn
         have Hn9 := Lib.hid (show i * m + j < maxLen by
          have := Nat.mul_le_mul (show i ≤ 28 by omega) (show m ≤ 28 by omega)
          simp only [maxLen]
          omega)
         have j1 : (j : Int) < (m : Int) := by omega
         have g1 := g.pushRo (hI.toB.below g.below (Nat.le_refl _))
         obtain ⟨z0, z1⟩ := g1.box2 4 rfl
         clear hY r1 r2 hI hQ hQl hse g HT
         go_wp2_with fail
         refine (HP3.out _ _ _ (g1.roInts 1 rfl) (g1.roInts 0 rfl)).mono ?_
         rintro (e : Ending) w5 ⟨u5, rfl, ho5, hb5⟩
         obtain ⟨A5, n5, c5, rfl⟩ := ho5.slice
         have g2 := g1.pushOwn hb5 ho5
         clear y0 z0 z1 g1 ho5 hb5
         go_wp2_with fail
         refine (HF.out _ _ (g2.ownInts 0 rfl) (g2.fact 7 rfl)).mono ?_
         rintro (e : Ending) w6 ⟨rfl, hb6⟩
         have g3 := g2.on hb6
         clear g2 hb6
         go_wp2_with (at_mapUpdate; refine wp_putS (t := 78) rfl (.tmp 94) (.tmp 99) (.const (.bool true)) rfl g3 3 rfl mt Hn9.out (s := se) (by have := HS.out; simp only [maxLen]; omega) rfl rfl rfl ?_; intro w8 g4)
         simp only [List.set_cons_succ, List.set_cons_zero] at g4
         rw [HSn.out] at g4
         replace g4 := g4.drop 2
         go_roundw
         case rel => exact ⟨j + 1, by go_num, by omega, g4⟩
         case measure => simp [intOf]; omega
        ·obtain rfl : m = j := by omega
         replace g := g.drop 1
         simp only [List.drop_succ_cons, List.drop_zero] at g
         rw [HTri.out] at g
         go_wp2
         go_roundw
         case rel => exact ⟨i + 1, by go_num, by omega, by rw [Nat.succ_mul]; exact g⟩
         case measure => simp [intOf]; omega
      ·obtain rfl : m = i := by omega
       rw [HTe.out] at g
       have g1 := g.emptyRb
       have HRb := Lib.hid (show RBor w [] (simT p P 0) by
        unfold simT
        rw [List.take_zero]
        exact RBor.nil w)
       have HLs := Lib.hid (fun (W : World) (L : List It) (j : Nat) (i : Nat) (hi : i < m) (h : St w W L) (hj : L[j]? = some (smapIt Tryz.prog 9 4 bs (m * m) (setR (smL p P)))) => (show (Instr.lookup 78 (.map (some bs)) (.string (encB (rowOf P i))) false).run Tryz.prog W = .ok (.bool (!simB p P (rowOf P i))) W by
        obtain ⟨r1, r2⟩ := HPr.out i hi
        have h1 := SM.look (show SM bs (m * m) (setR (smL p P)) W from h.smap j hj) (HSz.out _ r1 r2)
        obtain ⟨e1, e2⟩ := HSi.out _ (rowOf_mem (by rw [← Hm.out]; exact hi))
        rw [e1] at h1
        rw [e2, Bool.not_not]
        exact h1))
       have Hsy := Lib.hid (fun i (hi : i < m) (h : simB p P (rowOf P i) = true) => simT_yes (p := p) (P := P) (i := i) (by rw [← Hm.out]; exact hi) h)
       have Hsn := Lib.hid (fun i (hi : i < m) (h : simB p P (rowOf P i) = false) => simT_no (p := p) (P := P) (i := i) (by rw [← Hm.out]; exact hi) h)
       have Hsl := Lib.hid (fun i => (show (simT p P i).length ≤ i by
        unfold simT
        exact Nat.le_trans (List.length_filter_le _ _) (by rw [List.length_take]; omega)))
       clear g hi
       go_wp2
       generalize World.alloc _ _ = wl3 at g1 ⊢
       generalize wr.heap.size = B3 at g1 ⊢
       go_loopw [21, 23, 105] (fun v21 _ v105 wr => ∃ (i : Nat) (us2 : List Value), v105 = .int .i64 i ∧ i ≤ m ∧ Hid (RBor w us2 (simT p P i)) ∧ St w wr [rbIt v21 us2, smapIt Tryz.prog 9 4 bs (m * m) (setR (smL p P)), rbIt (.slice Ap m cp) us, .box Bx [.int .i64 p, .map (some bm)], smapIt Tryz.prog 9 4 bm n (setR R), .fact TabAt, .fact MaxAt]) (fun _ _ v105 _ => m - (intOf v105).toNat)
       case atStart => exact ⟨0, [], rfl, by omega, HRb, g1⟩
       case round =>
        clear g1 HRb
        obtain ⟨i, us2, rfl, a4, HRb, g⟩ := hrel
        by_cases hi : i < m
        ·obtain ⟨bp, A9, c9, rfl, y0, hI⟩ := HPg.out _ _ 2 _ _ _ g rfl i hi
         obtain ⟨r1, r2⟩ := HPr.out i hi
         have HL := Lib.hid (fun (W : World) (L : List It) (j : Nat) h hj => HLs.out W L j i hi h hj)
         have hsy := Hsy.out i hi
         have hsn := Hsn.out i hi
         obtain ⟨X, hX⟩ : ∃ X, X = rowOf P i := ⟨_, rfl⟩
         rw [← hX] at r1 r2 HL hsy hsn hI
         have HF := Lib.hid (fun (W : World) (u : Value) hu ht => HFi.out W u X r1 r2 (HPa.out i hi) hu ht)
         obtain ⟨b, hb⟩ : ∃ b, b = simB p P X := ⟨_, rfl⟩
         rw [← hb] at HL hsy hsn
         obtain ⟨se, hse⟩ : ∃ se, se = encB X := ⟨_, rfl⟩
         rw [← hse] at HF HL
         have HI := Lib.hid hI
         have HSy := Lib.hid hsy
         have HSn := Lib.hid hsn
         have i1 : (i : Int) < (m : Int) := by omega
         have g1 := g.pushRo (hI.toB.below g.below (Nat.le_refl _))
         clear hX r1 r2 hI hb hse g hsy hsn
         go_wp2_with fail
         refine (HF.out _ _ (g1.roInts 0 rfl) (g1.fact 6 rfl)).mono ?_
         rintro (e : Ending) w6 ⟨rfl, hb6⟩
         have g2 := (g1.on hb6).drop 1
         simp only [List.drop_succ_cons, List.drop_zero] at g2
         have lk := HL.out _ _ 1 g2 rfl
         clear g1 hb6 y0 HL HF
         cases b with
         | false =>
          have HN := Lib.hid (HSn.out rfl)
          go_wp2
          go_roundw
          case rel => exact ⟨i + 1, us2, by go_num, by omega, by rw [HN.out]; exact HRb, g2⟩
          case measure => simp [intOf]; omega
         | true =>
          have HN := Lib.hid (HSy.out rfl)
          have HR2 := Lib.hid (show RBor w (us2 ++ [Value.slice A9 a c9]) (simT p P (i + 1)) by rw [HN.out]; exact HRb.out.snoc HI.out)
          have Hul := Lib.hid (show us2.length + 1 ≤ 1099511627776 by
           have h8 := Hsl.out i
           rw [HRb.out.1]
           omega)
          go_wp2_with (at_builtin; refine wp_append_rb rfl (.tmp 114) (.tmp 116) rfl g2 0 rfl rfl rfl rfl Hul.out ?_; intro v1 w7 h7)
          go_roundw
          case rel => exact ⟨i + 1, us2 ++ [_], by go_num, by omega, HR2, h7⟩
          case measure => simp [intOf]; omega
        ·obtain rfl : m = i := by omega
         have hRb := HRb.out
         have hse : simT p P m = basL p R := by
          unfold simT
          rw [List.take_of_length_le (by rw [← Hm.out]; exact Nat.le_refl _)]
          exact HBs.out
         have hBl : (basL p R).length ≤ m := by rw [← hse]; exact Hsl.out m
         rw [hse] at hRb
         have hBr : ∀ i, i < (basL p R).length → (rowOf (basL p R) i).length = a ∧ resid p (rowOf (basL p R) i) = true := fun i hi => (HPl2.out.filter (simB p P)) _ (by rw [HBs.out]; exact rowOf_mem hi)
         have hPo := HPo2.out
         unfold bty at hPo
         obtain ⟨B, hB⟩ : ∃ B, B = basL p R := ⟨_, rfl⟩
         rw [← hB] at hRb hBl hBr hPo
         obtain ⟨Ab, cb, hvb, -, -, -⟩ := id (hRb.rows g 0 rfl)
         subst hvb
         have hBg := fun (W : World) (L : List It) (j : Nat) (A : Option Addr) (n c : Nat) (h : St w W L) (hj : L[j]? = some (rbIt (.slice A n c) us2)) (i : Nat) (hi : i < B.length) => (show ∃ b A9 c9, A = some ⟨b, 0, none⟩ ∧ W.cell? ⟨b, i, none⟩ = some (.slice A9 a c9) ∧ Ints w (.slice A9 a c9) (rowOf B i) by
          obtain ⟨b, A9, c9, e1, e2, e3⟩ := hRb.get h j hj hi
          rw [rowOf_eq hi, (hBr i hi).1] at e2 e3
          exact ⟨b, A9, c9, e1, e2, e3⟩)
         have hD0 := prsTo_zero (num p (isIn R)) B
         have hDn := fun i j (hi : i < B.length) (hj : j < B.length) => prsTo_next (num p (isIn R)) B hi hj
         have hDr := fun i => prsTo_row (num p (isIn R)) B i
         have hDe := prsTo_end (num p (isIn R)) B
         have hDl := fun i j (hi : i < B.length) (hj : j ≤ B.length) => length_prsTo (num p (isIn R)) B hi hj
         obtain ⟨D, hD⟩ : ∃ D, D = prs (num p (isIn R)) B := ⟨_, rfl⟩
         obtain ⟨q, hq⟩ : ∃ q, q = B.length := ⟨_, rfl⟩
         rw [← hD] at hPo hDe
         rw [← hq] at g hBl hBr hPo hBg hDn hDr hDe hDl ⊢
         obtain ⟨pd, hpd⟩ : ∃ pd, pd = prsTo (num p (isIn R)) B := ⟨_, rfl⟩
         rw [← hpd] at hD0 hDn hDr hDe hDl
         have HBr := Lib.hid hBr
         have HBg := Lib.hid hBg
         have HD0 := Lib.hid hD0
         have HDn := Lib.hid hDn
         have HDr := Lib.hid hDr
         have HDe := Lib.hid hDe
         have HDl := Lib.hid hDl
         have HBa := Lib.hid (fun (i : Nat) (h : i < q) => (show 0 < n by omega))
         by_cases hin : inR (q : Int) 1 4 = true
         case neg =>
          have hin : inR (q : Int) 1 4 = false := by simpa using hin
          have HB := Lib.hid (show Po = ⟨#[]⟩ by rw [hPo, if_neg (fun h => by rw [hin] at h; exact Bool.noConfusion h.1)])
          clear hPo hBr hBg hD0 hDn hDr hDe hDl hRb hse hB hD hq hpd
          go_wp2_with (go_at_call 56; refine (inside_any _ _ _ _).mono ?_; rintro e w' ⟨rfl, rfl⟩)
          go_ret
          exact ⟨by rw [HB.out]; rfl, g.below⟩
         by_cases hqa : q = a
         case neg =>
          have HB := Lib.hid (show Po = ⟨#[]⟩ by rw [hPo, if_neg (fun h => hqa (by have := h.2; omega))])
          have t1 : ((q : Int) != (a : Int)) = true := by rw [bne_iff_ne]; omega
          clear hPo hBr hBg hD0 hDn hDr hDe hDl hRb hse hB hD hq hpd
          go_wp2_with (go_at_call 56; refine (inside_any _ _ _ _).mono ?_; rintro e w' ⟨rfl, rfl⟩)
          go_ret
          exact ⟨by rw [HB.out]; rfl, g.below⟩
         have hq28 : q ≤ 4 := by simp [inR] at hin; omega
         have HPq := Lib.hid (show Po = typB a D by rw [hPo, if_pos ⟨hin, by omega⟩, hqa])
         have t1 : ((q : Int) != (a : Int)) = false := by rw [hqa]; simp
         have HTy := Lib.hid (fun (W : World) (v : Value) (hv : Ints W v D) (hM : MaxAt W) => TypeOf_any (a : Int) v D W hv hM (by omega))
         have g1 := (g.pushOwn (Below.refl _ _) Own.nil).box [.int .i64 a, .slice none 0 0] 49
         clear hPo hBr hBg hD0 hDn hDr hDe hDl hRb hse hB hD hq hpd g hi hqa
         go_wp2_with (go_at_call 56; refine (inside_any _ _ _ _).mono ?_; rintro e w' ⟨rfl, rfl⟩)
         generalize World.alloc _ _ = wl4 at g1 ⊢
         generalize wr.heap.size = Bc at g1 ⊢
         go_loopw [26, 28, 133] (fun _ _ v133 wr => ∃ (i : Nat) (vd : Value), v133 = .int .i64 i ∧ i ≤ q ∧ St w wr [.box Bc [.int .i64 a, vd], .own vd (pd i 0), rbIt (.slice Ab q cb) us2, smapIt Tryz.prog 9 4 bs (m * m) (setR (smL p P)), rbIt (.slice Ap m cp) us, .box Bx [.int .i64 p, .map (some bm)], smapIt Tryz.prog 9 4 bm n (setR R), .fact TabAt, .fact MaxAt]) (fun _ _ v133 _ => q - (intOf v133).toNat)
         case atStart => exact ⟨0, _, rfl, by omega, by rw [HD0.out]; exact g1⟩
         case round =>
          clear g1
          obtain ⟨i, vd, rfl, a5, g⟩ := hrel
          by_cases hi : i < q
          ·obtain ⟨bp, A9, c9, rfl, y0, hI⟩ := HBg.out _ _ 2 _ _ _ g rfl i hi
           obtain ⟨r1, r2⟩ := HBr.out i hi
           have HDi := Lib.hid (fun j (hj : j < q) => HDn.out i j hi hj)
           have HDri := Lib.hid (HDr.out i)
           have HDli := Lib.hid (fun j (hj : j ≤ q) => HDl.out i j hi hj)
           obtain ⟨X, hX⟩ : ∃ X, X = rowOf B i := ⟨_, rfl⟩
           rw [← hX] at r1 r2 HDi hI
           have HX := Lib.hid (And.intro r1 r2)
           have i1 : (i : Int) < (q : Int) := by omega
           have g1 := g.pushRo (hI.toB.below g.below (Nat.le_refl _))
           clear hX r1 r2 hI g
           go_wp2
           clear y0
           go_loopw [28, 139] (fun _ v139 wr => ∃ (j : Nat) (vd : Value), v139 = .int .i64 j ∧ j ≤ q ∧ St w wr [.ro (.slice A9 a c9) X, .box Bc [.int .i64 a, vd], .own vd (pd i j), rbIt (.slice (some ⟨bp, 0, none⟩) q cb) us2, smapIt Tryz.prog 9 4 bs (m * m) (setR (smL p P)), rbIt (.slice Ap m cp) us, .box Bx [.int .i64 p, .map (some bm)], smapIt Tryz.prog 9 4 bm n (setR R), .fact TabAt, .fact MaxAt]) (fun _ v139 _ => q - (intOf v139).toNat)
           case atStart => exact ⟨0, vd, rfl, by omega, g1⟩
           case round =>
            clear g1
            obtain ⟨j, vd, rfl, a6, g⟩ := hrel
            by_cases hj : j < q
            ·obtain ⟨bp2, A10, c10, hA, y0, hI⟩ := HBg.out _ _ 3 _ _ _ g rfl j hj
             simp only [Option.some.injEq, Addr.mk.injEq, and_true] at hA
             subst hA
             obtain ⟨r1, r2⟩ := HBr.out j hj
             have HT := Lib.hid (HDi.out j hj)
             obtain ⟨Y, hY⟩ : ∃ Y, Y = rowOf B j := ⟨_, rfl⟩
             rw [← hY] at r1 r2 HT hI
             have HN1 := Lib.hid (fun (W : World) (x y : Value) hx hy hm ht => HNu.out W bm n x y X Y HX.out.1 HX.out.2 r1 r2 (HBa.out i hi) hx hy hm ht)
             obtain ⟨nv, hnv⟩ : ∃ nv, nv = num p (isIn R) X Y := ⟨_, rfl⟩
             rw [← hnv] at HN1 HT
             have HLen := Lib.hid (show (pd i j).length + [nv].length ≤ 17592186044416 by
              rw [HDli.out j (by omega), List.length_singleton]
              have := Nat.mul_le_mul (show i ≤ 4 by omega) (show q ≤ 4 by omega)
              omega)
             have j1 : (j : Int) < (q : Int) := by omega
             obtain ⟨Ad, nd, cd, rfl⟩ := (g.own 2 rfl).slice
             have g1 := g.pushRo (hI.toB.below g.below (Nat.le_refl _))
             clear hY r1 r2 hI hnv g
             go_upto_region 48 with fail
             replace g1 := g1.drew
             clear y0
             refine wp_region_cut (S := fun w' => (w'.cell? ⟨Bc, 0, none⟩ = some (.int .i64 a) ∧ w'.cell? ⟨Bc, 1, none⟩ = some (.slice Ad nd cd)) ∧ (w'.cell? ⟨Bx, 0, none⟩ = some (.int .i64 p) ∧ w'.cell? ⟨Bx, 1, none⟩ = some (.map (some bm)))) 9 (by kernel_rfl) (by kernel_rfl) ⟨g1.box2 2 rfl, g1.box2 7 rfl⟩ (fun hHeld => ?_)
             simp only [List.take_succ_cons, List.take_zero]
             refine tkA 0 hHeld ?_
             refine tkA 1 hHeld ?_
             refine tkA 2 hHeld ?_
             refine tkA 3 hHeld ?_
             refine tkA 4 hHeld ?_
             refine rcA 5 fun K hK => ?_
             go_simp
             refine (HN1.out _ _ _ (g1.roInts 1 rfl) (g1.roInts 0 rfl) (g1.smap 8 rfl) (g1.fact 9 rfl)).mono ?_
             rintro (e : Ending) w5 ⟨rfl, hb5⟩
             have g2 := g1.on hb5
             show K _ _
             refine outA hK ?_ fun hHeld => ?_
             ·exact ⟨g2.box2 2 rfl, g2.box2 7 rfl⟩
             clear hK K
             refine rcA 6 fun K hK => ?_
             go_simp
             have g3 := g2.lit [nv] (by simp [maxLen])
             simp only [List.map_cons, List.map_nil, List.length_cons, List.length_nil] at g3
             refine outA hK ?_ fun hHeld => ?_
             ·exact ⟨g3.box2 3 rfl, g3.box2 8 rfl⟩
             clear hK K
             refine rcA 7 fun K hK => ?_
             refine step_append_ints rfl (.tmp 144) (.tmp 149) rfl g3 4 rfl (g3.ownInts 0 rfl) HLen.out rfl rfl fun vA w6 g4 => ?_
             simp only [List.set_cons_zero, List.set_cons_succ] at g4
             rw [← HT.out] at g4
             obtain ⟨A6, n6, c6, rfl⟩ := (g4.own 4 rfl).slice
             refine outA hK ?_ fun hHeld => ?_
             ·exact ⟨g4.box2 3 rfl, g4.box2 8 rfl⟩
             clear hK K
             refine tkA 8 hHeld ?_
             refine wpAnyH_done (by kernel_rfl) ?_ _
             show wpList _ _ _ _ _ _
             simp only [List.drop_succ_cons, List.drop_zero]
             clear hHeld
             have f1 := g4.free 3 rfl 1
             obtain ⟨p0, p1⟩ := g4.box2 3 rfl
             have h6 := g4.setBox 3 rfl 1 (.slice A6 n6 c6)
             simp only [List.set_cons_zero, List.set_cons_succ] at h6
             replace h6 := h6.drop 2
             clear g1 g2 g3 g4 hb5
             go_wp2
             go_roundw
             case rel => exact ⟨j + 1, .slice A6 n6 c6, by go_num, by omega, h6⟩
             case measure => simp [intOf]; omega
            ·obtain rfl : q = j := by omega
             replace g := g.drop 1
             simp only [List.drop_succ_cons, List.drop_zero] at g
             rw [HDri.out] at g
             go_wp2
             go_roundw
             case rel => exact ⟨i + 1, vd, by go_num, by omega, g⟩
             case measure => simp [intOf]; omega
          ·obtain rfl : q = i := by omega
           rw [HDe.out] at g
           obtain ⟨Ad, nd, cd, rfl⟩ := (g.own 1 rfl).slice
           obtain ⟨z0, z1⟩ := g.box2 0 rfl
           go_wp2_with fail
           refine (HTy.out _ _ (g.ownInts 1 rfl) (g.fact 8 rfl)).mono ?_
           rintro (e : Ending) w5 ⟨rfl, hb5⟩
           go_wp2
           go_ret
           exact ⟨by rw [HPq.out]; rfl, (g.on hb5).below⟩
end Tya
end Go.Proofs.YtbnefjhljfbecaaGreatDoor
