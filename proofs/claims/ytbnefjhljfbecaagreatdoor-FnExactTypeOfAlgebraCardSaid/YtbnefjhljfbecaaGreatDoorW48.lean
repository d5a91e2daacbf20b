import Derived.Test.YtbnefjhljfbecaaGreatDoorW19
import Derived.Test.YtbnefjhljfbecaaGreatDoorW34
import Derived.Test.YtbnefjhljfbecaaGreatDoorW47
namespace Go.Proofs.YtbnefjhljfbecaaGreatDoor
set_option maxRecDepth 100000
section
open Go.RowKit
namespace Tya
def simF (p : Int) (P : List (List Int)) (X : List Int) (j : Nat) : Bool := (P.take j).all fun b => !isIn P (addL X (-1) b p)
theorem simF_next {p : Int} {P : List (List Int)} {X : List Int} {j : Nat} (hj : j < P.length) : simF p P X (j + 1) = (simF p P X j && !isIn P (addL X (-1) (rowOf P j) p)) := by
 unfold simF
 rw [take_rowOf hj, List.all_append]
 simp
theorem simF_end {p : Int} {P : List (List Int)} {X : List Int} : simF p P X P.length = simB p P X := by
 unfold simF
 rw [List.take_length]
 rfl
theorem rb_cell {w0 w : World} {L : List It} {us : List Value} (h : St w0 w L) (j : Nat) {b n c : Nat} (hj : L[j]? = some (rbIt (.slice (some ⟨b, 0, none⟩) n c) us)) {i : Nat} (hi : i < us.length) : w.cell? ⟨b, i, none⟩ = us[i]? := by
 obtain ⟨h1, _⟩ := h.at j hj
 rcases id h1.2 with ⟨e0, h0⟩ | ⟨g, cap, cur, e0, hb, hg, hn, hm, _⟩
 ·omega
 ·simp only [Value.slice.injEq, Option.some.injEq, Addr.mk.injEq] at e0
  obtain ⟨⟨rfl, _⟩, rfl, rfl⟩ := e0
  exact World.ownsRow.cellAt h1 i (by omega)
def RetRb (w : World) (ll : List (List Int)) (e : Ending) (w' : World) : Prop := ∃ v us, e = .returned v ∧ RBor w us ll ∧ St w w' [rbIt v us]
set_option maxHeartbeats 16000000 in
theorem l7Base_any (p : Int) (v : Value) (R : List (List Int)) (a : Nat) (w : World) (hv : IntRows w v R) (hR : Lst p a R) (hn : R.length ≤ 28) (ha : a ≤ 28) (hp : 2 ≤ p) (hp' : p ≤ 101) :
  Calls Tryz.prog 19 #[.int .i64 p, v] w (RetRb w (basL p R)) := by
 have h1 := ((St.start w).pushFact hv.fact).emptyRb
 obtain ⟨A, k0, rfl, _, _, _⟩ := id hv
 obtain ⟨n, hnn⟩ : ∃ n, n = R.length := ⟨_, rfl⟩
 rw [← hnn] at hv hn h1 ⊢
 have hrow := fun i (hi : i < n) => hR (rowOf R i) (rowOf_mem (by rw [← hnn]; exact hi))
 have HSg := Lib.hid (fun (W : World) (y : Value) (Y : List Int) (hY : Y.length = a) (rY : resid p Y = true) (h1 : IntRows W (.slice A n k0) R) (h2 : Ints W y Y) => l7Sign_any p _ y R a Y W h1 h2 hR (by omega) ha hY hp hp' rY)
 have HTm := Lib.hid (fun (W : World) (y x : Value) (Y X : List Int) (hY : Y.length = a) (rY : resid p Y = true) (hX : X.length = a) (rX : resid p X = true) (h1 : Ints W y Y) (h2 : Ints W x X) => times_res p (-1) y x Y X W h1 h2 (by omega) (by omega) hp hp' rY rX (by omega))
 have HPl := Lib.hid (fun (W : World) (v u : Value) (ll : List (List Int)) (Q : List Int) (h1 : IntRows W v ll) (h2 : Ints W u Q) (hl : ll.length ≤ 28) => l5Place_any v u ll Q W h1 h2 (by omega))
 have HRl := Lib.hid hnn
 have HV := Lib.hid hv
 have HRw := Lib.hid hrow
 have HLst := Lib.hid hR
 clear hv hR hnn hrow
 go_enter Tryz.func19, Tryz.ntmps19
 go_wp2
 have HRb := Lib.hid (show RBor w [] (posT p R 0) by
  unfold posT
  rw [List.take_zero]
  exact RBor.nil w)
 go_loopw [5, 6] (fun v5 v6 wr => ∃ (i : Nat) (us : List Value), v6 = .int .i64 i ∧ i ≤ n ∧ Hid (RBor w us (posT p R i)) ∧ St w wr [rbIt v5 us, .fact fun w' => IntRows w' (.slice A n k0) R]) (fun _ v6 _ => n - (intOf v6).toNat)
 case atStart => exact ⟨0, [], rfl, by omega, HRb, h1⟩
 case round =>
  clear h1 HRb
  obtain ⟨i, us, rfl, a1, HRb, g⟩ := hrel
  by_cases hi : i < n
  ·have hiR : i < R.length := by rw [← HRl.out]; exact hi
   obtain ⟨bb, off, A9, c9, hA, hm⟩ := HV.out.at (i := i) hiR
   obtain ⟨r1, r2⟩ := HRw.out i hi
   have hpy := fun h => posT_yes (p := p) hiR h
   have hpn := fun h => posT_no (p := p) hiR h
   rw [rowOf_eq hiR, r1] at hm
   subst hA
   obtain ⟨Y, hY⟩ : ∃ Y, Y = rowOf R i := ⟨_, rfl⟩
   rw [← hY] at hm r1 r2 hpy hpn
   have HS1 := Lib.hid (fun (W : World) (y : Value) h1 h2 => HSg.out W y Y r1 r2 h1 h2)
   have hpd : posB p R Y = decide (0 < sgn p (isIn R) Y R) := rfl
   obtain ⟨s, hs⟩ : ∃ s, s = sgn p (isIn R) Y R := ⟨_, rfl⟩
   rw [← hs] at HS1 hpd
   have HY1 := Lib.hid hm.2
   have Hpy := Lib.hid hpy
   have Hpn := Lib.hid hpn
   have Hpd := Lib.hid hpd
   have Hul := Lib.hid (show us.length + 1 ≤ 1099511627776 by
    have h8 : (posT p R i).length ≤ i := by
     unfold posT
     exact Nat.le_trans (List.length_filter_le _ _) (by rw [List.length_take]; omega)
    rw [HRb.out.1]
    omega)
   have i1 : (i : Int) < (n : Int) := by omega
   have g1 := g.pushOld hm.fact
   obtain ⟨y0, y1⟩ := g1.fact 0 rfl
   clear hm hY r1 r2 hiR g hs hpy hpn hpd y1
   go_wp2_with fail
   refine (HS1.out _ _ (g1.fact 2 rfl) (g1.fact 0 rfl).2).mono ?_
   rintro (e : Ending) w3 ⟨rfl, hb3⟩
   have g2 := g1.on hb3
   clear g1 hb3 y0
   obtain ⟨y0, y1⟩ := g2.fact 0 rfl
   have g3 := g2.drop 1
   simp only [List.drop_succ_cons, List.drop_zero] at g3
   clear g2 y1
   by_cases hs0 : 0 < s
   ·have HE := Lib.hid (show posT p R (i + 1) = posT p R i ++ [Y] from Hpy.out (by rw [Hpd.out]; exact decide_eq_true hs0))
    have HR2 := Lib.hid (show RBor w (us ++ [Value.slice A9 a c9]) (posT p R (i + 1)) by rw [HE.out]; exact HRb.out.snoc HY1.out)
    have t1 : s > 0 := hs0
    go_wp2_with (at_builtin; refine wp_append_rb rfl (.tmp 26) (.tmp 31) rfl g3 0 rfl rfl rfl rfl Hul.out ?_; intro v1 w6 h6)
    go_roundw
    case rel => exact ⟨i + 1, us ++ [_], by go_num, by omega, HR2, h6⟩
    case measure => simp [intOf]; omega
   ·have HE := Lib.hid (show posT p R (i + 1) = posT p R i from Hpn.out (by rw [Hpd.out]; exact decide_eq_false hs0))
    have t1 : ¬ s > 0 := hs0
    go_wp2
    go_roundw
    case rel => exact ⟨i + 1, us, by go_num, by omega, by rw [HE.out]; exact HRb, g3⟩
    case measure => simp [intOf]; omega
  ·obtain rfl : n = i := by omega
   have hRb := HRb.out
   rw [HRl.out, posT_end] at hRb
   have hPm : (posL p R).length ≤ n := by rw [HRl.out]; exact List.length_filter_le _ _
   have hPl : Lst p a (posL p R) := HLst.out.filter _
   have hBs : (posL p R).filter (simB p (posL p R)) = basL p R := rfl
   obtain ⟨P, hP⟩ : ∃ P, P = posL p R := ⟨_, rfl⟩
   rw [← hP] at hRb hPm hPl hBs
   have hPr : ∀ i, i < P.length → (rowOf P i).length = a ∧ resid p (rowOf P i) = true := fun i hi => hPl _ (rowOf_mem hi)
   have HPg := Lib.hid (fun (W : World) (L : List It) (j : Nat) (A : Option Addr) (n c : Nat) (h : St w W L) (hj : L[j]? = some (rbIt (.slice A n c) us)) (i : Nat) (hi : i < P.length) => (show ∃ b A9 c9, A = some ⟨b, 0, none⟩ ∧ W.cell? ⟨b, i, none⟩ = some (.slice A9 a c9) ∧ Ints w (.slice A9 a c9) (rowOf P i) by
    obtain ⟨b, A9, c9, e1, e2, e3⟩ := hRb.get h j hj hi
    rw [rowOf_eq hi, (hPr i hi).1] at e2 e3
    exact ⟨b, A9, c9, e1, e2, e3⟩))
   have HPb := Lib.hid hRb
   obtain ⟨Ap, cp, hvp, -, -, -⟩ := id (hRb.rows g 0 rfl)
   subst hvp
   obtain ⟨m, hm⟩ : ∃ m, m = P.length := ⟨_, rfl⟩
   have Hm := Lib.hid hm
   have HPr := Lib.hid hPr
   have HBs := Lib.hid hBs
   rw [← hm] at g hPm HPr HPg ⊢
   have Hsy := Lib.hid (fun i (hi : i < m) (h : simB p P (rowOf P i) = true) => simT_yes (p := p) (P := P) (i := i) (by rw [← hm]; exact hi) h)
   have Hsn := Lib.hid (fun i (hi : i < m) (h : simB p P (rowOf P i) = false) => simT_no (p := p) (P := P) (i := i) (by rw [← hm]; exact hi) h)
   have Hsl := Lib.hid (fun i => (show (simT p P i).length ≤ i by
    unfold simT
    exact Nat.le_trans (List.length_filter_le _ _) (by rw [List.length_take]; omega)))
   have g1 := g.emptyRb
   have HRb2 := Lib.hid (show RBor w [] (simT p P 0) by
    unfold simT
    rw [List.take_zero]
    exact RBor.nil w)
   clear hP HRb hi hRb hPl hPr hm hBs g
   go_wp2
   go_loopw [7, 8, 9, 10] (fun v7 v8 _ _ wr => ∃ (i : Nat) (us2 : List Value), v8 = .int .i64 i ∧ i ≤ m ∧ Hid (RBor w us2 (simT p P i)) ∧ St w wr [rbIt v7 us2, rbIt (.slice Ap m cp) us, .fact fun w' => IntRows w' (.slice A n k0) R]) (fun _ v8 _ _ _ => m - (intOf v8).toNat)
   case atStart => exact ⟨0, [], rfl, by omega, HRb2, g1⟩
   case round =>
    clear g1 HRb2
    obtain ⟨i, us2, rfl, a2, HRb, g⟩ := hrel
    by_cases hi : i < m
    ·obtain ⟨bp, A9, c9, rfl, y0, hI⟩ := HPg.out _ _ 1 _ _ _ g rfl i hi
     obtain ⟨r1, r2⟩ := HPr.out i hi
     have hsy := Hsy.out i hi
     have hsn := Hsn.out i hi
     obtain ⟨X, hX⟩ : ∃ X, X = rowOf P i := ⟨_, rfl⟩
     rw [← hX] at r1 r2 hsy hsn hI
     have HX := Lib.hid (And.intro r1 r2)
     have HI := Lib.hid hI
     have HUi := Lib.hid (show us[i]? = some (.slice A9 a c9) ∧ i < us.length from ⟨(rb_cell g 1 rfl (by rw [HPb.out.1, ← Hm.out]; exact hi)).symm.trans y0, by rw [HPb.out.1, ← Hm.out]; exact hi⟩)
     have HSy := Lib.hid hsy
     have HSn := Lib.hid hsn
     have i1 : (i : Int) < (m : Int) := by omega
     clear hX r1 r2 hI hsy hsn y0
     go_wp2
     go_loopw [9, 10] (fun v9 v10 wr => ∃ j : Nat, v10 = .int .i64 j ∧ j ≤ m ∧ v9 = .bool (simF p P X j) ∧ St w wr [rbIt u7 us2, rbIt (.slice (some ⟨bp, 0, none⟩) m cp) us, .fact fun w' => IntRows w' (.slice A n k0) R]) (fun _ v10 _ => m - (intOf v10).toNat)
     case atStart => exact ⟨0, rfl, by omega, rfl, g⟩
     case round =>
      clear g
      obtain ⟨j, rfl, a3, rfl, g⟩ := hrel
      by_cases hj : j < m
      ·have hjP : j < P.length := by rw [← Hm.out]; exact hj
       have hnx := simF_next (p := p) (X := X) hjP
       obtain ⟨fb, hfb⟩ : ∃ fb, fb = simF p P X j := ⟨_, rfl⟩
       rw [← hfb] at hnx ⊢
       have j1 : (j : Int) < (m : Int) := by omega
       cases fb with
       | false =>
        have HE := Lib.hid (show simF p P X (j + 1) = false by rw [hnx]; rfl)
        clear hnx hfb hjP
        go_upto_region 15 with fail
        have g0 := g.drew
        refine wp_region_held_drew (S := fun w' => True) (by kernel_rfl) trivial (fun hHeld => ?_)
        refine tkA 0 hHeld ?_
        refine tkA 1 hHeld ?_
        refine skA 2 hHeld ?_
        refine skA 3 hHeld ?_
        refine skA 4 hHeld ?_
        refine skA 5 hHeld ?_
        refine skA 6 hHeld ?_
        refine skA 7 hHeld ?_
        refine skA 8 hHeld ?_
        refine skA 9 hHeld ?_
        refine skA 10 hHeld ?_
        refine skA 11 hHeld ?_
        refine skA 12 hHeld ?_
        refine skA 13 hHeld ?_
        refine skA 14 hHeld ?_
        refine tkA 15 hHeld ?_
        refine tkA 16 hHeld ?_
        refine wpAnyH_done (by kernel_rfl) ?_ _
        clear hHeld
        go_wp2
        go_roundw
        case rel => exact ⟨j + 1, by go_num, by omega, by rw [HE.out], g0⟩
        case measure => simp [intOf]; omega
       | true =>
        obtain ⟨bp2, A10, c10, hA2, z0, hJ⟩ := HPg.out _ _ 1 _ _ _ g rfl j hj
        simp only [Option.some.injEq, Addr.mk.injEq, and_true] at hA2
        subst hA2
        obtain ⟨s1, s2⟩ := HPr.out j hj
        obtain ⟨Y, hY⟩ : ∃ Y, Y = rowOf P j := ⟨_, rfl⟩
        rw [← hY] at s1 s2 hJ hnx
        obtain ⟨Q, hQ⟩ : ∃ Q, Q = addL X (-1) Y p := ⟨_, rfl⟩
        have HT2 := Lib.hid (fun (W : World) (x y : Value) (h1 : Ints W x X) (h2 : Ints W y Y) => (show Calls Tryz.prog 18 #[.int .i64 p, x, .int .i64 (-1), y] W (RetOwn W Q) by
         rw [hQ]
         exact HTm.out W x y X Y HX.out.1 HX.out.2 s1 s2 h1 h2))
        rw [← hQ] at hnx
        have HP2 := Lib.hid (fun (W : World) (v u : Value) (h1 : IntRows W v P) (h2 : Ints W u Q) => HPl.out W v u P Q h1 h2 (by rw [← Hm.out]; omega))
        obtain ⟨h3, h4, h5⟩ := plc_iff P Q 0
        have h6 := plc_bd P Q 0
        rw [← Hm.out] at h6
        obtain ⟨pc, hpc⟩ : ∃ pc, pc = plc P Q 0 := ⟨_, rfl⟩
        rw [← hpc] at HP2 h4 h5 h6
        have H4 := Lib.hid h4
        have Hnx := Lib.hid hnx
        have g1 := (g.pushRo (HI.out.toB.below g.below (Nat.le_refl _))).pushRo (hJ.toB.below g.below (Nat.le_refl _))
        have HUj := Lib.hid (show us[j]? = some (.slice A10 a c10) ∧ j < us.length from ⟨(rb_cell g 1 rfl (by rw [HPb.out.1, ← Hm.out]; exact hj)).symm.trans z0, by rw [HPb.out.1, ← Hm.out]; exact hj⟩)
        have HCi := Lib.hid (fun (W : World) (L : List It) (k : Nat) (h : St w W L) (hk : L[k]? = some (rbIt (.slice (some ⟨bp, 0, none⟩) m cp) us)) => (show W.cell? ⟨bp, i, none⟩ = some (.slice A9 a c9) ∧ W.cell? ⟨bp, j, none⟩ = some (.slice A10 a c10) from ⟨(rb_cell h k hk HUi.out.2).trans HUi.out.1, (rb_cell h k hk HUj.out.2).trans HUj.out.1⟩))
        clear hY s1 s2 hJ hQ hpc h3 h4 hnx hfb hjP g z0
        have g0 := g1.drew
        clear g1
        go_upto_region 15 with fail
        refine wp_region_held_drew (S := fun w' => w'.cell? ⟨bp, i, none⟩ = some (.slice A9 a c9) ∧ w'.cell? ⟨bp, j, none⟩ = some (.slice A10 a c10)) (by kernel_rfl) (HCi.out _ _ 3 g0 rfl) (fun hHeld => ?_)
        refine tkA 0 hHeld ?_
        refine tkA 1 hHeld ?_
        refine tkA 2 hHeld ?_
        refine tkA 3 hHeld ?_
        refine tkA 4 hHeld ?_
        refine tkA 5 hHeld ?_
        refine tkA 6 hHeld ?_
        refine tkA 7 hHeld ?_
        refine tkA 8 hHeld ?_
        refine tkA 9 hHeld ?_
        refine tkA 10 hHeld ?_
        refine tkA 11 hHeld ?_
        refine rcA 12 fun K hK => ?_
        go_simp
        refine (HT2.out _ _ _ (g0.roInts 1 rfl) (g0.roInts 0 rfl)).mono ?_
        rintro (e : Ending) w6 ⟨u6, rfl, ho6, hb6⟩
        obtain ⟨A6, n6, c6, rfl⟩ := ho6.slice
        have g1 := g0.pushOwn hb6 ho6
        show K _ _
        refine outA hK ?_ fun hHeld => ?_
        ·exact (HCi.out _ _ 4 g1 rfl)
        clear hK K
        refine rcA 13 fun K hK => ?_
        go_simp
        refine (HP2.out _ _ _ (HPb.out.rows g1 4 rfl) (g1.ownInts 0 rfl)).mono ?_
        rintro (e : Ending) w7 ⟨rfl, hb7⟩
        have g2 := g1.on hb7
        show K _ _
        refine outA hK ?_ fun hHeld => ?_
        ·exact (HCi.out _ _ 4 g2 rfl)
        clear hK K
        by_cases hin : pc < 0
        ·have HE := Lib.hid (show simF p P X (j + 1) = true by
          rw [Hnx.out, show isIn P Q = false from decide_eq_false (H4.out.1 hin)]
          rfl)
         have g3 := g2.drop 3
         simp only [List.drop_succ_cons, List.drop_zero] at g3
         refine tkA 14 hHeld ?_
         refine tkA 15 hHeld ?_
         refine tkA 16 hHeld ?_
         refine wpAnyH_done (by kernel_rfl) ?_ _
         clear hHeld
         clear g0 g1 g2 ho6 hb6 hb7
         go_wp2
         go_roundw
         case rel => exact ⟨j + 1, by go_num, by omega, by rw [HE.out], g3⟩
         case measure => simp [intOf]; omega
        ·have HE := Lib.hid (show simF p P X (j + 1) = false by
          rw [Hnx.out, show isIn P Q = true from decide_eq_true (by
           have h := H4.out
           exact Decidable.byContradiction fun h2 => hin (h.2 h2))]
          rfl)
         have g3 := g2.drop 3
         simp only [List.drop_succ_cons, List.drop_zero] at g3
         refine tkA 14 hHeld ?_
         refine tkA 15 hHeld ?_
         refine tkA 16 hHeld ?_
         refine wpAnyH_done (by kernel_rfl) ?_ _
         clear hHeld
         clear g0 g1 g2 ho6 hb6 hb7
         go_wp2
         go_roundw
         case rel => exact ⟨j + 1, by go_num, by omega, by rw [HE.out], g3⟩
         case measure => simp [intOf]; omega
      ·obtain rfl : m = j := by omega
       rw [show simF p P X m = simB p P X by rw [Hm.out]; exact simF_end]
       obtain ⟨sb, hsb⟩ : ∃ sb, sb = simB p P X := ⟨_, rfl⟩
       rw [← hsb]
       cases sb with
       | false =>
        have HN := Lib.hid (HSn.out hsb.symm)
        clear hsb
        go_wp2
        go_roundw
        case rel => exact ⟨i + 1, us2, by go_num, by omega, by rw [HN.out]; exact HRb, g⟩
        case measure => simp [intOf]; omega
       | true =>
        have HN := Lib.hid (HSy.out hsb.symm)
        have HR2 := Lib.hid (show RBor w (us2 ++ [Value.slice A9 a c9]) (simT p P (i + 1)) by rw [HN.out]; exact HRb.out.snoc HI.out)
        have Hul := Lib.hid (show us2.length + 1 ≤ 1099511627776 by
         have h8 := Hsl.out i
         rw [HRb.out.1]
         omega)
        have y0 := (rb_cell g 1 rfl HUi.out.2).trans HUi.out.1
        clear hsb
        go_wp2_with (at_builtin; refine wp_append_rb rfl (.tmp 63) (.tmp 68) rfl g 0 rfl rfl rfl rfl Hul.out ?_; intro v1 w7 h7)
        go_roundw
        case rel => exact ⟨i + 1, us2 ++ [_], by go_num, by omega, HR2, h7⟩
        case measure => simp [intOf]; omega
    ·obtain rfl : m = i := by omega
     have hRb := HRb.out
     have hse : simT p P m = basL p R := by
      unfold simT
      rw [List.take_of_length_le (by rw [← Hm.out]; exact Nat.le_refl _)]
      exact HBs.out
     rw [hse] at hRb
     have HR2 := Lib.hid hRb
     have g2 := g.re [0] (L' := [_]) (by decide) (fun j => by rcases j with _ | j <;> simp <;> rfl)
     clear hRb hse g
     go_wp2
     go_ret
     exact ⟨_, us2, rfl, HR2.out, g2⟩
end Tya
end
section
open Go.RowKit
namespace Car
def nmT (t : List Nat) (i : Nat) : ByteArray := nameT (t.take i)
theorem join_snoc (y : List UInt8) (r : List (List UInt8)) (x : List UInt8) (sep : List UInt8) : Lib.join (y :: r ++ [x]) sep = Lib.join (y :: r) sep ++ sep ++ x := by
 rw [List.cons_append, Lib.join_cons, Lib.join_cons]
 simp [Lib.joinTail, List.append_assoc]
theorem bytes_ext {a b : ByteArray} (h : a.data.toList = b.data.toList) : a = b := by
 cases a
 cases b
 congr 1
 exact Array.toList_inj.1 h
theorem nmT_zero (t : List Nat) : nmT t 0 = ⟨#[]⟩ := by
 unfold nmT nameT
 rw [List.take_zero]
 rfl
theorem nmT_one {t : List Nat} (h : 0 < t.length) : nmT t 0 ++ nmB t[0] = nmT t 1 := by
 rw [nmT_zero]
 refine bytes_ext ?_
 rw [ByteArray.toList_data_append]
 unfold nmT nameT
 rw [List.take_succ_eq_append_getElem h, List.take_zero]
 simp [Lib.join_one]
theorem nmT_next {t : List Nat} {i : Nat} (h : i < t.length) (h0 : ¬ i = 0) : nmT t i ++ ⟨#[43]⟩ ++ nmB t[i] = nmT t (i + 1) := by
 refine bytes_ext ?_
 rw [ByteArray.toList_data_append, ByteArray.toList_data_append]
 unfold nmT nameT
 rw [List.take_succ_eq_append_getElem h, List.map_append]
 obtain ⟨y, r, hyr⟩ : ∃ y r, t.take i = y :: r := by
  cases ht : t.take i with
  | nil =>
   have := congrArg List.length ht
   rw [List.length_take, List.length_nil] at this
   omega
  | cons y r => exact ⟨y, r, rfl⟩
 rw [hyr, List.map_cons, List.map_cons, List.map_nil]
 have := join_snoc (nmB y).data.toList (r.map fun k => (nmB k).data.toList) (nmB t[i]).data.toList [43]
 simp only [List.append_assoc] at this ⊢
 rw [this]
theorem nmB_size {k : Nat} (h : k < 12) : (nmB k).size ≤ 10 := by
 have hd : ((List.range 12).all fun k => decide ((nmB k).size ≤ 10)) = true := by decide +kernel
 exact of_decide_eq_true (List.all_eq_true.1 hd k (List.mem_range.2 h))
theorem nmT_size {t : List Nat} (hk : ∀ k, k ∈ t → k < 12) : ∀ i, i ≤ t.length → (nmT t i).size ≤ 11 * i
 | 0, _ => by rw [nmT_zero]; exact Nat.le_refl _
 | i + 1, h => by
  have h1 := nmT_size hk i (by omega)
  have h2 := nmB_size (hk t[i] (List.getElem_mem (by omega)))
  by_cases h0 : i = 0
  ·subst h0
   rw [← nmT_one (by omega), ByteArray.size_append]
   omega
  ·rw [← nmT_next (by omega) h0, ByteArray.size_append, ByteArray.size_append]
   have : (ByteArray.mk #[43]).size = 1 := rfl
   omega
theorem parts_mem {r : Int} {D : List Int} {t : List Nat} (h : partsB r D = some t) : ∃ n : Nat, 1 ≤ n ∧ n ≤ 4 ∧ t ∈ tys n := by
 unfold partsB at h
 split at h
 ·rename_i h2
  obtain ⟨n, rfl⟩ : ∃ n : Nat, r = (n : Int) := ⟨r.toNat, by have := h2.1; simp [inR] at this; omega⟩
  have h4 : 1 ≤ n ∧ n ≤ 4 := by have := h2.1; simp [inR] at this; omega
  have hD : D.length = n * n := by have := h2.2; rw [← Int.natCast_mul] at this; omega
  rw [Int.toNat_natCast] at h
  have hc := carI_of_parts h4.1 h4.2 hD h
  unfold carI at hc
  obtain ⟨t', ht', hb⟩ := List.any_eq_true.1 hc
  rw [parts_of_bt h4.1 h4.2 hD ht' hb] at h
  exact ⟨n, h4.1, h4.2, Option.some.inj h ▸ ht'⟩
 ·cases h
set_option maxHeartbeats 4000000 in
theorem TypeOfS_any (r : Int) (v : Value) (D : List Int) (w : World) (hv : Ints w v D) :
  Calls Tryz.prog 22 #[.agg #[.int .i64 r, v]] w fun e w' => e = .returned (.string (typB r D)) ∧ Below w.heap.size w w' := by
 rw [← typ_eq]
 have g := (St.start1 hv).box [.int .i64 r, v] 49
 obtain ⟨A, c, rfl, _, _, _⟩ := id hv
 have HP := Lib.hid (fun W x => l5Parts_any r (.slice A D.length c) D W x)
 obtain ⟨Po, hPo⟩ : ∃ Po, Po = typS r D := ⟨_, rfl⟩
 rw [← hPo]
 unfold typS at hPo
 have hmem := fun t h => parts_mem (r := r) (D := D) (t := t) h
 obtain ⟨o, ho⟩ : ∃ o, o = partsB r D := ⟨_, rfl⟩
 rw [← ho] at HP hPo hmem
 have HMem := Lib.hid hmem
 obtain ⟨dl, hdl⟩ : ∃ dl, dl = D.length := ⟨_, rfl⟩
 rw [← hdl] at g HP ⊢
 obtain ⟨z0, z1⟩ := g.box2 0 rfl
 have HPo := Lib.hid hPo
 clear ho hdl hv hPo hmem
 go_enter Tryz.func22, Tryz.ntmps22
 go_wp2_with fail
 refine (HP.out _ (g.roInts 1 rfl)).mono ?_
 rintro (e : Ending) w3 ⟨hb3, h3⟩
 have g2 := g.on hb3
 rcases h3 with ⟨rfl, rfl⟩ | ⟨t, u3, rfl, rfl, hs⟩
 ·have HE := Lib.hid (show Po = ⟨#[]⟩ from HPo.out)
  go_wp2
  go_loopw [5, 6] (fun v5 v6 wr => v5 = .string ⟨#[]⟩ ∧ v6 = .int .i64 0 ∧ wr = w3) (fun _ _ _ => 0)
  case atStart => exact ⟨rfl, rfl, rfl⟩
  case round =>
   obtain ⟨rfl, rfl, rfl⟩ := hrel
   go_wp2
   go_ret
   exact ⟨by rw [HE.out]; rfl, g2.below⟩
 ·obtain ⟨Av, cv, rfl, hcv, hcell⟩ := id hs
  rw [List.length_map] at hcell hcv ⊢
  have HE := Lib.hid (show Po = nameT t from HPo.out)
  have HC := Lib.hid hcell
  obtain ⟨l, hl⟩ : ∃ l, l = t.length := ⟨_, rfl⟩
  have Hl := Lib.hid hl
  rw [← hl] at HC ⊢
  obtain ⟨nn, n1, n4, ht⟩ := HMem.out t rfl
  obtain ⟨_, _, j3, j4, j5⟩ := jn_ok n1 n4 ht
  have HSz := Lib.hid (fun i (h : i ≤ l) => (show (nmT t i).size ≤ 44 by
   have := nmT_size j5 i (by rw [← hl]; exact h)
   omega))
  have HNb := Lib.hid (fun i (h : i < t.length) => nmB_size (j5 t[i] (List.getElem_mem h)))
  have HN1 := Lib.hid (fun (h : 0 < t.length) => nmT_one h)
  have HNn := Lib.hid (fun i (h : i < t.length) h0 => nmT_next (t := t) (i := i) h h0)
  have hl4 : l ≤ 4 := by omega
  clear hs hcell hl hcv HP HPo HMem ht j3 j4 j5 n1 n4
  go_wp2
  go_loopw [5, 6] (fun v5 v6 wr => ∃ i : Nat, v6 = .int .i64 i ∧ i ≤ l ∧ v5 = .string (nmT t i) ∧ wr = w3) (fun _ v6 _ => l - (intOf v6).toNat)
  case atStart => exact ⟨0, rfl, by omega, rfl, rfl⟩
  case round =>
   obtain ⟨i, rfl, a1, rfl, rfl⟩ := hrel
   by_cases hi : i < l
   ·have hit : i < t.length := by rw [← Hl.out]; exact hi
    obtain ⟨b, o, rfl, _, _, hc⟩ := HC.out (by omega)
    have e1 := hc i (nmB t[i]) (by simp [hit])
    obtain ⟨x, hx⟩ : ∃ x, x = nmB t[i] := ⟨_, rfl⟩
    rw [← hx] at e1
    have i1 : (i : Int) < (l : Int) := by omega
    have hb1 := HSz.out i a1
    have hb2 := HNb.out i hit
    rw [← hx] at hb2
    by_cases h0 : i = 0
    ·subst h0
     have hn := HN1.out hit
     rw [← hx] at hn
     rw [Nat.add_zero] at e1
     obtain ⟨a, ha⟩ : ∃ a, a = nmT t 0 := ⟨_, rfl⟩
     rw [← ha] at hb1 hn ⊢
     have q1 : ¬ 9223372036854775807 < a.size + x.size := by omega
     have HN := Lib.hid hn
     clear hc hx ha hit hn hb1 hb2
     go_wp2
     go_roundw
     case rel => exact ⟨1, by go_num, by omega, by rw [HN.out], trivial⟩
     case measure => simp [intOf]; omega
    ·have hn := HNn.out i hit h0
     rw [← hx] at hn
     obtain ⟨a, ha⟩ : ∃ a, a = nmT t i := ⟨_, rfl⟩
     rw [← ha] at hb1 hn ⊢
     have q1 : ¬ 9223372036854775807 < a.size + 1 := by omega
     have q2 : ¬ 9223372036854775807 < a.size + 1 + x.size := by omega
     have HN := Lib.hid hn
     have t1 : (i : Int) > 0 := by omega
     clear hc hx ha hit hn hb1 hb2
     go_wp2
     go_roundw
     case rel => exact ⟨i + 1, by go_num, hi, by rw [HN.out], trivial⟩
     case measure => simp [intOf]; omega
   ·obtain rfl : l = i := by omega
    have HN := Lib.hid (show nmT t l = nameT t by unfold nmT; rw [List.take_of_length_le (by rw [← Hl.out]; exact Nat.le_refl _)])
    go_wp2
    go_ret
    exact ⟨by rw [HE.out, ← HN.out]; rfl, g2.below⟩
end Car
end
end Go.Proofs.YtbnefjhljfbecaaGreatDoor
