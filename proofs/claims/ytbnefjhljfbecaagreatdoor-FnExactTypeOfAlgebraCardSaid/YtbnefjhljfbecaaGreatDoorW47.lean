import Derived.Test.YtbnefjhljfbecaaGreatDoorW07
import Derived.Test.YtbnefjhljfbecaaGreatDoorW08
import Derived.Test.YtbnefjhljfbecaaGreatDoorW21
import Derived.Test.YtbnefjhljfbecaaGreatDoorW22
import Derived.Test.YtbnefjhljfbecaaGreatDoorW24
import Derived.Test.YtbnefjhljfbecaaGreatDoorW25
import Derived.Test.YtbnefjhljfbecaaGreatDoorW27
namespace Go.Proofs.YtbnefjhljfbecaaGreatDoor
set_option maxRecDepth 100000
section
open Go.RowKit
namespace Srr
open Stp Car
def timF (p : Int) (Y : List Int) (n : Int) (X : List Int) (i : Nat) : Int := (vec Y i + n * vec X i) % p
def timL (p : Int) (Y : List Int) (n : Int) (X : List Int) : List Int := mapI Y.length (timF p Y n X)
theorem length_timL (p : Int) (Y : List Int) (n : Int) (X : List Int) : (timL p Y n X).length = Y.length := length_mapI _ _
theorem mul_small {x y : Int} (h1 : -100000 ≤ x ∧ x ≤ 100000) (h2 : -100000 ≤ y ∧ y ≤ 100000) : -10000000000 ≤ x * y ∧ x * y ≤ 10000000000 := by
 have h : (x * y).natAbs ≤ 100000 * 100000 := by
  rw [Int.natAbs_mul]
  exact Nat.mul_le_mul (by omega) (by omega)
 omega
set_option maxHeartbeats 4000000 in
theorem l7Times_any (p n : Int) (y x : Value) (Y X : List Int) (w : World) (hy : Ints w y Y) (hx : Ints w x X) (hl : X.length = Y.length) (hn9 : Y.length ≤ 1000) (hp : 1 ≤ p) (hp' : p ≤ 10007)
  (hn : -100000 ≤ n ∧ n ≤ 100000) (hX : ∀ i, -100000 ≤ vec X i ∧ vec X i ≤ 100000) (hY : ∀ i, -100000 ≤ vec Y i ∧ vec Y i ≤ 100000) :
  Calls Tryz.prog 18 #[.int .i64 p, y, .int .i64 n, x] w (RetOwn w (timL p Y n X)) := by
 have g := (((St.start w).arg hx).arg hy).zeros Y.length (by omega)
 have hmk := makeI Y.length (by omega)
 obtain ⟨A, cy, rfl, _, _, _⟩ := id hy
 obtain ⟨A2, cx, rfl, _, _, _⟩ := id hx
 have H0 := Lib.hid (Stp.fillTo_zero (timF p Y n X) (List.replicate Y.length 0))
 have HE := Stp.fillTo_end (timF p Y n X) (List.replicate Y.length 0)
 rw [List.length_replicate] at HE
 rw [← H0.out] at g
 obtain ⟨Z, hZ⟩ : ∃ Z : List Int, Z = List.replicate Y.length 0 := ⟨_, rfl⟩
 have hlZ : Z.length = Y.length := by rw [hZ, List.length_replicate]
 rw [← hZ] at g HE
 obtain ⟨R, hR⟩ : ∃ R, R = timL p Y n X := ⟨_, rfl⟩
 have HR := Lib.hid (hR.trans HE.symm)
 rw [← hR]
 rw [hl] at g
 obtain ⟨yl, hyl⟩ : ∃ yl, yl = Y.length := ⟨_, rfl⟩
 have Hyl := Lib.hid hyl
 have Hxl := Lib.hid (show yl = X.length by rw [hl, hyl])
 rw [hl]
 rw [← hyl] at g HR hn9 hlZ hmk ⊢
 have HlZ := Lib.hid hlZ
 have HX := Lib.hid hX
 have HY := Lib.hid hY
 clear hx hy hX hY hR hyl HE hZ H0 hlZ hl
 go_enter Tryz.func18, Tryz.ntmps18
 go_wp2
 go_loopw [10] (fun v10 wr => ∃ k : Nat, v10 = .int .i64 k ∧ k ≤ yl ∧ St w wr [.own (.slice (some ⟨w.heap.size, 0, none⟩) yl yl) (Stp.fillTo (timF p Y n X) Z k), .ro (.slice A yl cy) Y, .ro (.slice A2 yl cx) X]) (fun v10 _ => yl - (intOf v10).toNat)
 case atStart => exact ⟨0, rfl, by omega, g⟩
 case round =>
  clear g
  obtain ⟨k, rfl, a1, g⟩ := hrel
  by_cases hk : k < yl
  ·have hXk := HX.out k
   have hYk := HY.out k
   have b6 := mul_small hn hXk
   have hfs := Stp.fillTo_set (timF p Y n X) Z k (by rw [HlZ.out]; exact hk)
   have hlf := Stp.length_fillTo (timF p Y n X) Z k
   obtain ⟨LL, hLL⟩ : ∃ LL, LL = Stp.fillTo (timF p Y n X) Z k := ⟨_, rfl⟩
   rw [← hLL] at g hfs hlf
   obtain ⟨x, hxx⟩ : ∃ x, x = vec X k := ⟨_, rfl⟩
   obtain ⟨y, hyy⟩ : ∃ y, y = vec Y k := ⟨_, rfl⟩
   obtain ⟨T2, hT2⟩ : ∃ T2, T2 = timF p Y n X k := ⟨_, rfl⟩
   have hT3 : T2 = (y + n * x) % p := by rw [hT2, hxx, hyy]; rfl
   rw [← hxx] at hXk b6
   rw [← hyy] at hYk
   obtain ⟨z, hz⟩ : ∃ z, z = n * x := ⟨_, rfl⟩
   rw [← hz] at b6 hT3
   obtain ⟨s, hs⟩ : ∃ s, s = y + z := ⟨_, rfl⟩
   have HM := Lib.hid (fun W => l1Mod_any s p W (by omega) (by omega) hp hp')
   rw [← hs] at hT3
   rw [← hT3] at HM
   rw [← hT2] at hfs
   have hLk : k < LL.length := by rw [hlf, HlZ.out]; exact hk
   obtain ⟨bx, ox, rfl, -, -⟩ := (g.ro 2 rfl).cell (k := k) (by rw [← Hxl.out]; exact hk)
   obtain ⟨by', oy, rfl, -, -⟩ := (g.ro 1 rfl).cell (k := k) (by rw [← Hyl.out]; exact hk)
   have HC := Lib.hid (fun (W : World) (o1 : It) (L : List It) (h : St w W (o1 :: .ro (.slice (some ⟨by', oy, none⟩) yl cy) Y :: .ro (.slice (some ⟨bx, ox, none⟩) yl cx) X :: L)) => show W.cell? ⟨by', oy + k, none⟩ = some (.int .i64 y) ∧ W.cell? ⟨bx, ox + k, none⟩ = some (.int .i64 x) by
    have h1 := h.roCell 1 rfl (q := k) (by rw [← Hyl.out]; exact hk)
    have h2 := h.roCell 2 rfl (q := k) (by rw [← Hxl.out]; exact hk)
    rw [← hyy] at h1
    rw [← hxx] at h2
    exact ⟨h1, h2⟩)
   have HO := Lib.hid (fun (W : World) (L : List It) (h : St w W (.own (.slice (some ⟨w.heap.size, 0, none⟩) yl yl) LL :: L)) => show W.frozen? ⟨w.heap.size, k, none⟩ = false ∧ W.cell? ⟨w.heap.size, k, none⟩ = some (.int .i64 (vec LL k)) from ⟨(h.ownCell 0 rfl (q := k) hLk).2, (h.ownCell 0 rfl (q := k) hLk).1⟩)
   have ik : (k : Int) < (yl : Int) := by omega
   have w1 : IntKind.i64.wrap (n * x) = z := by rw [← hz]; exact wrap_ok (by omega) (by omega)
   have w2 : IntKind.i64.wrap (y + z) = s := by rw [hs]; exact wrap_ok (by omega) (by omega)
   have w3 : wrap64 (n * x) = z := by rw [← hz]; unfold wrap64; omega
   have w4 : wrap64 (y + z) = s := by rw [hs]; unfold wrap64; omega
   have Hfs := Lib.hid hfs
   clear hXk hYk b6 hlf hLL hT2 hT3 hxx hyy hz hs hLk hfs
   go_upto_region 5 with fail
   have g0 := g.drew
   clear g
   refine wp_region_cut (S := fun w' => w'.cell? ⟨by', oy + k, none⟩ = some (.int .i64 y) ∧ w'.cell? ⟨bx, ox + k, none⟩ = some (.int .i64 x)) 15 (by kernel_rfl) (by kernel_rfl) ⟨(HC.out _ _ _ g0).1, (HC.out _ _ _ g0).2⟩ (fun hHeld => ?_)
   simp only [List.take_succ_cons, List.take_zero]
   obtain ⟨v0, hv0, g8⟩ : ∃ v0, v0 = wr.drew ∧ St w v0 _ := ⟨_, rfl, g0⟩
   rw [← hv0] at g0 hHeld ⊢
   clear hv0 g8
   refine tkA 0 hHeld ?_
   refine tkA 1 hHeld ?_
   refine tkA 2 hHeld ?_
   refine tkA 3 hHeld ?_
   refine tkA 4 hHeld ?_
   refine tkA 5 hHeld ?_
   refine tkA 6 hHeld ?_
   refine tkA 7 hHeld ?_
   refine tkA 8 hHeld ?_
   refine tkA 9 hHeld ?_
   refine tkA 10 hHeld ?_
   refine tkA 11 hHeld ?_
   refine tkA 12 hHeld ?_
   refine tkA 13 hHeld ?_
   refine rcA 14 fun K hK => ?_
   go_simp
   refine (HM.out _).mono ?_
   rintro (e : Ending) w5 ⟨rfl, rfl⟩
   show K _ _
   refine outA hK ?_ fun hHeld => ?_
   ·exact ⟨(HC.out _ _ _ g0).1, (HC.out _ _ _ g0).2⟩
   clear hK K
   refine wpAnyH_done (by kernel_rfl) ?_ _
   show wpList _ _ _ _ _ _
   simp only [List.drop_succ_cons, List.drop_zero]
   clear hHeld
   obtain ⟨f0, f1⟩ := HO.out _ _ g0
   go_wp2
   go_roundw
   case rel => exact ⟨k + 1, by go_num, by omega, by rw [← Hfs.out]; exact g0.set 0 rfl k T2⟩
   case measure => simp [intOf]; omega
  ·obtain rfl : yl = k := by omega
   rw [← HlZ.out] at g HR
   rw [← HR.out] at g
   rw [HlZ.out] at g
   go_wp2
   go_ret
   exact ⟨_, rfl, g.own 0 rfl, g.below⟩
end Srr
end
section
open Go.RowKit
namespace Tya
def plc : List (List Int) → List Int → Nat → Int
 | [], _, _ => -1
 | x :: xs, q, i => if x = q then i else plc xs q (i + 1)
theorem plc_iff : ∀ (ll : List (List Int)) (q : List Int) (i : Nat), (0 ≤ plc ll q i ↔ q ∈ ll) ∧ (plc ll q i < 0 ↔ q ∉ ll) ∧ -1 ≤ plc ll q i
 | [], q, i => by simp [plc]
 | x :: xs, q, i => by
  unfold plc
  obtain ⟨h1, h2, h3⟩ := plc_iff xs q (i + 1)
  by_cases h : x = q
  ·subst h
   rw [if_pos rfl]
   refine ⟨by simp, ?_, by omega⟩
   constructor
   ·intro h; omega
   ·intro h; simp at h
  ·rw [if_neg h]
   have hn : q ∈ x :: xs ↔ q ∈ xs := by simp [Ne.symm h]
   refine ⟨by rw [h1, hn], by rw [h2, not_congr hn], h3⟩
theorem plc_bd (ll : List (List Int)) (q : List Int) (i : Nat) : plc ll q i ≤ i + ll.length := by
 induction ll generalizing i with
 | nil => simp [plc]
 | cons x xs ih =>
  unfold plc
  split
  ·simp only [List.length_cons]; omega
  ·have := ih (i + 1); simp only [List.length_cons]; omega
set_option maxHeartbeats 2000000 in
theorem l5Place_any (v u : Value) (ll : List (List Int)) (X : List Int) (w : World) (hv : IntRows w v ll) (hu : Ints w u X) (hl : ll.length ≤ 4096) :
  Calls Tryz.prog 17 #[v, u] w fun e w' => e = .returned (.int .i64 (plc ll X 0)) ∧ Below w.heap.size w w' := by
 have h1 := (St.start w).arg hu
 obtain ⟨A, k0, rfl, _, _, _⟩ := id hv
 have HV := Lib.hid hv
 have HS := Lib.hid (fun (W : World) (a : Value) (Y : List Int) (h1 : Ints W a Y) (h2 : Ints W u X) => l1Same_any a u Y X W h1 h2)
 obtain ⟨n, hn⟩ : ∃ n, n = ll.length := ⟨_, rfl⟩
 rw [← hn] at HV hl ⊢
 have Hn := Lib.hid hn
 obtain ⟨R, hR⟩ : ∃ R, R = plc ll X 0 := ⟨_, rfl⟩
 have HR := Lib.hid (show R = plc (ll.drop 0) X 0 by rw [hR]; rfl)
 rw [← hR]
 clear hv hu hn hR
 go_enter Tryz.func17, Tryz.ntmps17
 go_wp2
 go_loopw [5] (fun v5 wr => ∃ i : Nat, v5 = .int .i64 i ∧ i ≤ n ∧ Hid (R = plc (ll.drop i) X i) ∧ St w wr [.ro u X]) (fun v5 _ => n - (intOf v5).toNat)
 case atStart => exact ⟨0, rfl, by omega, HR, h1⟩
 case round =>
  clear h1 HR
  obtain ⟨i, rfl, a1, HR, g⟩ := hrel
  by_cases hi : i < n
  ·have hiL : i < ll.length := by rw [← Hn.out]; exact hi
   obtain ⟨b, off, A9, c9, hA, hm⟩ := HV.out.at (i := i) hiL
   subst hA
   have hst : plc (ll.drop i) X i = if ll[i] = X then (i : Int) else plc (ll.drop (i + 1)) X (i + 1) := by rw [List.drop_eq_getElem_cons hiL, plc]
   obtain ⟨Y, hY⟩ : ∃ Y, Y = ll[i] := ⟨_, rfl⟩
   rw [← hY] at hm hst
   have g1 := g.pushOld hm.fact
   obtain ⟨y0, y1⟩ := g1.fact 0 rfl
   have i1 : (i : Int) < (n : Int) := by omega
   clear hm hY hiL g y1
   go_wp2_with fail
   refine (HS.out _ _ Y (g1.fact 0 rfl).2 (g1.roInts 1 rfl)).mono ?_
   rintro (e : Ending) w3 ⟨rfl, nd, rfl⟩
   have g2 := (g1.drewN nd).drop 1
   generalize World.drewN _ _ = wd at g2 ⊢
   clear g1 y0
   by_cases hYX : Y = X
   ·rw [decide_eq_true hYX]
    have HE := Lib.hid (show R = (i : Int) by rw [HR.out, hst, if_pos hYX])
    clear hst hYX
    go_wp2
    go_ret
    exact ⟨by rw [HE.out]; rfl, g2.below⟩
   ·rw [decide_eq_false hYX]
    have HE := Lib.hid (show R = plc (ll.drop (i + 1)) X (i + 1) by rw [HR.out, hst, if_neg hYX])
    clear hst hYX
    go_wp2
    go_roundw
    case rel => exact ⟨i + 1, by go_num, by omega, HE, g2⟩
    case measure => simp [intOf]; omega
  ·obtain rfl : n = i := by omega
   have HE := Lib.hid (show R = -1 by rw [HR.out, List.drop_of_length_le (by rw [← Hn.out]; exact Nat.le_refl _)]; rfl)
   go_wp2
   go_ret
   exact ⟨by rw [HE.out]; rfl, g.below⟩
theorem timL_eq (p : Int) (Y : List Int) (n : Int) (X : List Int) (h : X.length = Y.length) : Srr.timL p Y n X = addL Y n X p := by
 refine list_ext (by rw [Srr.length_timL, length_addL _ _ _ _ h]) fun i hi => ?_
 rw [Srr.length_timL] at hi
 unfold Srr.timL
 rw [Stp.vec_mapI _ _ hi, vec_addL _ _ h hi]
 rfl
theorem times_res (p k : Int) (y x : Value) (Y X : List Int) (w : World) (hy : Ints w y Y) (hx : Ints w x X) (hl : X.length = Y.length) (hn : Y.length ≤ 100) (hp : 2 ≤ p) (hp' : p ≤ 101) (rY : resid p Y = true) (rX : resid p X = true) (hk : -10 ≤ k ∧ k ≤ 10) :
  Calls Tryz.prog 18 #[.int .i64 p, y, .int .i64 k, x] w (RetOwn w (addL Y k X p)) := by
 have := Srr.l7Times_any p k y x Y X w hy hx hl (by omega) (by omega) (by omega) (by omega) (fun i => by have := resid_vec' rX (by omega) i; omega) (fun i => by have := resid_vec' rY (by omega) i; omega)
 rwa [timL_eq p Y k X hl] at this
theorem stpF_yes' {p : Int} {M : List Int → Bool} {y : List Int} {k : Int} {x : List Int} {r : Nat} (hr : r < 3) (h : M (addL y (k * ((r : Int) + 1)) x p) = true) : stpF p M y k x (3 - r) r = stpF p M y k x (3 - (r + 1)) (r + 1) := by
 obtain ⟨f, hf⟩ : ∃ f, 3 - r = f + 1 := ⟨2 - r, by omega⟩
 rw [hf, show 3 - (r + 1) = f by omega, stpF, if_pos h]
theorem stpF_no' {p : Int} {M : List Int → Bool} {y : List Int} {k : Int} {x : List Int} {r : Nat} (hr : r < 3) (h : M (addL y (k * ((r : Int) + 1)) x p) = false) : stpF p M y k x (3 - r) r = r := by
 obtain ⟨f, hf⟩ : ∃ f, 3 - r = f + 1 := ⟨2 - r, by omega⟩
 rw [hf, stpF, if_neg (by rw [h]; simp)]
set_option maxHeartbeats 4000000 in
theorem l7Steps_any (p k : Int) (v y x : Value) (R : List (List Int)) (Y X : List Int) (w : World) (hv : IntRows w v R) (hy : Ints w y Y) (hx : Ints w x X) (hR : R.length ≤ 28) (hl : X.length = Y.length) (hn : Y.length ≤ 100) (hp : 2 ≤ p) (hp' : p ≤ 101) (rY : resid p Y = true) (rX : resid p X = true) (hk : k = -1 ∨ k = 1) :
  Calls Tryz.prog 41 #[.int .i64 p, v, y, .int .i64 k, x] w fun e w' => e = .returned (.int .i64 (stp p (isIn R) Y k X : Int)) ∧ Below w.heap.size w w' := by
 have h1 := (((St.start w).pushFact hv.fact).arg hx).arg hy
 obtain ⟨A, k0, rfl, _, _, _⟩ := id hv
 have HTm := Lib.hid (fun (W : World) (z : Int) (hz : -3 ≤ z ∧ z ≤ 3) (h1 : Ints W y Y) (h2 : Ints W x X) => times_res p z y x Y X W h1 h2 hl hn hp hp' rY rX (by omega))
 have HPl := Lib.hid (fun (W : World) (u : Value) (Q : List Int) (h1 : IntRows W (.slice A R.length k0) R) (h2 : Ints W u Q) => l5Place_any _ u R Q W h1 h2 (by omega))
 obtain ⟨n, hn2⟩ : ∃ n, n = R.length := ⟨_, rfl⟩
 rw [← hn2] at HPl h1 ⊢
 obtain ⟨sk, hsk⟩ : ∃ sk, sk = stp p (isIn R) Y k X := ⟨_, rfl⟩
 have HSk := Lib.hid (show sk = stpF p (isIn R) Y k X (3 - 0) 0 from hsk)
 rw [← hsk]
 have Hk := Lib.hid hk
 clear hv hy hx hl hn rY rX hn2 hsk hk
 go_enter Tryz.func41, Tryz.ntmps41
 go_wp2
 go_loopw [11] (fun v11 wr => ∃ r : Nat, v11 = .int .i64 r ∧ r ≤ 3 ∧ Hid (sk = stpF p (isIn R) Y k X (3 - r) r) ∧ St w wr [.ro y Y, .ro x X, .fact fun w' => IntRows w' (.slice A n k0) R]) (fun v11 _ => 3 - (intOf v11).toNat)
 case atStart => exact ⟨0, rfl, by omega, HSk, h1⟩
 case round =>
  clear h1 HSk
  obtain ⟨r, rfl, a1, HSk, g⟩ := hrel
  by_cases hr : r < 3
  ·have r1 : (r : Int) < 3 := by omega
   obtain ⟨z, hz⟩ : ∃ z, z = k * ((r : Int) + 1) := ⟨_, rfl⟩
   have hzb : -3 ≤ z ∧ z ≤ 3 := by rcases Hk.out with e | e <;> rw [e] at hz <;> omega
   have hzz : IntKind.i64.wrap (k * IntKind.i64.wrap ((r : Int) + 1)) = z := by
    rw [wrap_ok (x := (r : Int) + 1) (by omega) (by omega), ← hz]
    exact wrap_ok (by omega) (by omega)
   have hzw : IntKind.i64.wrap z = z := wrap_ok (by omega) (by omega)
   obtain ⟨Q, hQ⟩ : ∃ Q, Q = addL Y z X p := ⟨_, rfl⟩
   have HT2 := Lib.hid (fun (W : World) a b => (show Calls Tryz.prog 18 #[.int .i64 p, y, .int .i64 z, x] W (RetOwn W Q) by
    rw [hQ]
    exact HTm.out W z hzb a b))
   have HP2 := Lib.hid (fun (W : World) (u : Value) a b => HPl.out W u Q a b)
   obtain ⟨h3, h4, h5⟩ := plc_iff R Q 0
   have h6 := plc_bd R Q 0
   obtain ⟨pc, hpc⟩ : ∃ pc, pc = plc R Q 0 := ⟨_, rfl⟩
   rw [← hpc] at HP2 h3 h4 h5 h6
   have m1 : k * ((r : Int) + 1) = z := hz.symm
   have Hz := Lib.hid hz
   have HQ := Lib.hid hQ
   have H3 := Lib.hid h3
   have H4 := Lib.hid h4
   clear hz hQ hpc h3 h4
   go_wp2_with fail
   first | rw [hzz] | skip
   refine (HT2.out _ (g.roInts 0 rfl) (g.roInts 1 rfl)).mono ?_
   rintro (e : Ending) w3 ⟨u3, rfl, ho3, hb3⟩
   obtain ⟨A3, n3, c3, rfl⟩ := ho3.slice
   have g1 := g.pushOwn hb3 ho3
   clear ho3 hb3 g
   go_wp2_with fail
   refine (HP2.out _ _ (g1.fact 3 rfl) (g1.ownInts 0 rfl)).mono ?_
   rintro (e : Ending) w4 ⟨rfl, hb4⟩
   have g2 := (g1.on hb4).drop 1
   clear g1 hb4 m1 hzz hzw
   by_cases hin : 0 ≤ pc
   ·have HE := Lib.hid (show sk = stpF p (isIn R) Y k X (3 - (r + 1)) (r + 1) by
     rw [HSk.out]
     exact stpF_yes' hr (by rw [← Hz.out, ← HQ.out]; exact decide_eq_true (H3.out.1 hin)))
    go_wp2
    go_roundw
    case rel => exact ⟨r + 1, by go_num, by omega, HE, g2⟩
    case measure => simp [intOf]; omega
   ·have HE := Lib.hid (show sk = r by
     rw [HSk.out]
     exact stpF_no' hr (by rw [← Hz.out, ← HQ.out]; exact decide_eq_false (H4.out.1 (by omega))))
    have t1 : ¬ pc ≥ 0 := hin
    go_wp2
    go_ret
    exact ⟨by rw [HE.out]; rfl, g2.below⟩
  ·have r1 : ¬ (r : Int) < 3 := by omega
   have HE := Lib.hid (show sk = r by rw [HSk.out, show 3 - r = 0 by omega]; rfl)
   go_wp2
   go_ret
   exact ⟨by rw [HE.out]; rfl, g.below⟩
end Tya
end
section
open Go.RowKit
namespace Tya
set_option maxHeartbeats 4000000 in
theorem l7Number_any (p : Int) (v x y : Value) (R : List (List Int)) (X Y : List Int) (w : World) (hv : IntRows w v R) (hx : Ints w x X) (hy : Ints w y Y) (hR : R.length ≤ 28) (hl : Y.length = X.length) (hn : X.length ≤ 100) (hp : 2 ≤ p) (hp' : p ≤ 101) (rX : resid p X = true) (rY : resid p Y = true) :
  Calls Tryz.prog 21 #[.int .i64 p, v, x, y] w fun e w' => e = .returned (.int .i64 (num p (isIn R) X Y)) ∧ Below w.heap.size w w' := by
 have h1 := (((St.start w).pushFact hv.fact).arg hx).arg hy
 have hEq := fun (W : World) (a : Ints W x X) (b : Ints W y Y) => l1Same_any x y X Y W a b
 by_cases hXY : X = Y
 ·rw [decide_eq_true hXY] at hEq
  have hN : num p (isIn R) X Y = 2 := by rw [num, if_pos hXY]
  rw [hN]
  have HEq := Lib.hid hEq
  clear hx hy hl hn hXY hN hEq hv rX rY
  go_enter Tryz.func21, Tryz.ntmps21
  go_wp2_with fail
  refine (HEq.out _ (h1.roInts 1 rfl) (h1.roInts 0 rfl)).mono ?_
  rintro (e : Ending) w3 ⟨rfl, nd, rfl⟩
  go_wp2
  go_ret
  exact ⟨rfl, (h1.drewN nd).below⟩
 rw [decide_eq_false hXY] at hEq
 have HEq := Lib.hid hEq
 have hPl := fun (W : World) (a : Ints W x X) (b : Ints W y Y) => times_res p 1 x y X Y W a b hl hn hp hp' rX rY (by omega)
 have hZe := fun (W : World) (v : Value) (a : Ints W v (addL X 1 Y p)) => l1IsZero_any v _ W a
 by_cases hz : zeroL (addL X 1 Y p) = true
 ·rw [hz] at hZe
  have hN : num p (isIn R) X Y = -2 := by rw [num, if_neg hXY, if_pos hz]
  rw [hN]
  have HPl := Lib.hid hPl
  have HZe := Lib.hid hZe
  clear hx hy hl hn hXY hN hEq hPl hZe hz hv rX rY
  go_enter Tryz.func21, Tryz.ntmps21
  go_wp2_with fail
  refine (HEq.out _ (h1.roInts 1 rfl) (h1.roInts 0 rfl)).mono ?_
  rintro (e : Ending) w3 ⟨rfl, nd, rfl⟩
  replace h1 := h1.drewN nd
  generalize World.drewN _ _ = wd at h1 ⊢
  go_wp2_with fail
  refine (HPl.out _ (h1.roInts 1 rfl) (h1.roInts 0 rfl)).mono ?_
  rintro (e : Ending) w4 ⟨u4, rfl, ho4, hb4⟩
  obtain ⟨A4, n4, c4, rfl⟩ := ho4.slice
  have g2 := h1.pushOwn hb4 ho4
  go_wp2_with fail
  refine (HZe.out _ _ (g2.ownInts 0 rfl)).mono ?_
  rintro (e : Ending) w5 ⟨rfl, rfl⟩
  go_wp2
  go_ret
  exact ⟨rfl, g2.below⟩
 have hz : zeroL (addL X 1 Y p) = false := by simpa using hz
 rw [hz] at hZe
 have HPl := Lib.hid hPl
 have HZe := Lib.hid hZe
 have hN : num p (isIn R) X Y = (stp p (isIn R) Y (-1) X : Int) - stp p (isIn R) Y 1 X := by rw [num, if_neg hXY, hz]; rfl
 rw [hN]
 have HS1 := Lib.hid (fun (W : World) (a : IntRows W v R) (b : Ints W y Y) (c : Ints W x X) => l7Steps_any p (-1) v y x R Y X W a b c hR hl.symm (by omega) hp hp' rY rX (.inl rfl))
 have HS2 := Lib.hid (fun (W : World) (a : IntRows W v R) (b : Ints W y Y) (c : Ints W x X) => l7Steps_any p 1 v y x R Y X W a b c hR hl.symm (by omega) hp hp' rY rX (.inr rfl))
 have b1 := stp_le p (isIn R) Y (-1) X
 have b2 := stp_le p (isIn R) Y 1 X
 obtain ⟨s1, hs1⟩ : ∃ s1, s1 = stp p (isIn R) Y (-1) X := ⟨_, rfl⟩
 obtain ⟨s2, hs2⟩ : ∃ s2, s2 = stp p (isIn R) Y 1 X := ⟨_, rfl⟩
 rw [← hs1] at HS1 b1 ⊢
 rw [← hs2] at HS2 b2 ⊢
 have m1 : IntKind.i64.wrap ((s1 : Int) - (s2 : Int)) = (s1 : Int) - (s2 : Int) := wrap_ok (by omega) (by omega)
 clear hx hy hl hn hXY hN hEq hPl hZe hz hv rX rY hs1 hs2 hR
 go_enter Tryz.func21, Tryz.ntmps21
 go_wp2_with fail
 refine (HEq.out _ (h1.roInts 1 rfl) (h1.roInts 0 rfl)).mono ?_
 rintro (e : Ending) w3 ⟨rfl, nd, rfl⟩
 replace h1 := h1.drewN nd
 generalize World.drewN _ _ = wd at h1 ⊢
 go_wp2_with fail
 refine (HPl.out _ (h1.roInts 1 rfl) (h1.roInts 0 rfl)).mono ?_
 rintro (e : Ending) w4 ⟨u4, rfl, ho4, hb4⟩
 obtain ⟨A4, n4, c4, rfl⟩ := ho4.slice
 have g2 := h1.pushOwn hb4 ho4
 go_wp2_with fail
 refine (HZe.out _ _ (g2.ownInts 0 rfl)).mono ?_
 rintro (e : Ending) w5 ⟨rfl, rfl⟩
 replace g2 := g2.drop 1
 simp only [List.drop_succ_cons, List.drop_zero] at g2
 go_wp2_with fail
 refine (HS1.out _ (g2.fact 2 rfl) (g2.roInts 0 rfl) (g2.roInts 1 rfl)).mono ?_
 rintro (e : Ending) w6 ⟨rfl, hb6⟩
 have g3 := g2.on hb6
 go_wp2_with fail
 refine (HS2.out _ (g3.fact 2 rfl) (g3.roInts 0 rfl) (g3.roInts 1 rfl)).mono ?_
 rintro (e : Ending) w7 ⟨rfl, hb7⟩
 have g4 := g3.on hb7
 go_wp2
 go_ret
 exact ⟨rfl, g4.below⟩
set_option maxHeartbeats 4000000 in
theorem l7Sign_any (p : Int) (v y : Value) (R : List (List Int)) (a : Nat) (Y : List Int) (w : World) (hv : IntRows w v R) (hy : Ints w y Y) (hR : Lst p a R) (hn : R.length ≤ 28) (ha : a ≤ 28) (hY : Y.length = a) (hp : 2 ≤ p) (hp' : p ≤ 101) (rY : resid p Y = true) :
  Calls Tryz.prog 40 #[.int .i64 p, v, y] w fun e w' => e = .returned (.int .i64 (sgn p (isIn R) Y R)) ∧ Below w.heap.size w w' := by
 have h1 := ((St.start w).pushFact hv.fact).arg hy
 obtain ⟨A, k0, rfl, _, _, _⟩ := id hv
 have HV := Lib.hid hv
 have HN := Lib.hid (fun (W : World) (x : Value) (X : List Int) (hX : X ∈ R) (h1 : IntRows W (.slice A R.length k0) R) (h2 : Ints W x X) (h3 : Ints W y Y) => l7Number_any p _ x y R X Y W h1 h2 h3 hn (by rw [hY, (hR X hX).1]) (by rw [(hR X hX).1]; omega) hp hp' (hR X hX).2 rY)
 obtain ⟨n, hn2⟩ : ∃ n, n = R.length := ⟨_, rfl⟩
 rw [← hn2] at HV HN h1 hn ⊢
 have Hn := Lib.hid hn2
 obtain ⟨S, hS⟩ : ∃ S, S = sgn p (isIn R) Y R := ⟨_, rfl⟩
 have HS := Lib.hid (show S = sgn p (isIn R) Y (R.drop 0) from hS)
 rw [← hS]
 clear hv hy hR hY hn2 hS rY
 go_enter Tryz.func40, Tryz.ntmps40
 go_wp2
 go_loopw [7, 8] (fun v7 _ wr => ∃ j : Nat, v7 = .int .i64 j ∧ j ≤ n ∧ Hid (S = sgn p (isIn R) Y (R.drop j)) ∧ St w wr [.ro y Y, .fact fun w' => IntRows w' (.slice A n k0) R]) (fun v7 _ _ => n - (intOf v7).toNat)
 case atStart => exact ⟨0, rfl, by omega, HS, h1⟩
 case round =>
  clear h1 HS
  obtain ⟨j, rfl, a1, HS, g⟩ := hrel
  by_cases hj : j < n
  ·have hjR : j < R.length := by rw [← Hn.out]; exact hj
   obtain ⟨b, off, A9, c9, hA, hm⟩ := HV.out.at (i := j) hjR
   subst hA
   have hst : sgn p (isIn R) Y (R.drop j) = if num p (isIn R) R[j] Y = 0 then sgn p (isIn R) Y (R.drop (j + 1)) else num p (isIn R) R[j] Y := by rw [List.drop_eq_getElem_cons hjR, sgn]
   have HN2 := Lib.hid (fun (W : World) (x : Value) (k1 : IntRows W (.slice (some ⟨b, off, none⟩) n k0) R) (k2 : Ints W x R[j]) (k3 : Ints W y Y) => HN.out W x R[j] (List.getElem_mem hjR) k1 k2 k3)
   obtain ⟨X, hX⟩ : ∃ X, X = R[j] := ⟨_, rfl⟩
   rw [← hX] at hm hst HN2
   obtain ⟨nv, hnv⟩ : ∃ nv, nv = num p (isIn R) X Y := ⟨_, rfl⟩
   rw [← hnv] at hst HN2
   have Hst := Lib.hid hst
   have g1 := g.pushOld hm.fact
   obtain ⟨y0, y1⟩ := g1.fact 0 rfl
   have i1 : (j : Int) < (n : Int) := by omega
   clear hm hX hjR g y1 hnv hst
   go_wp2_with fail
   refine (HN2.out _ _ (g1.fact 2 rfl) (g1.fact 0 rfl).2 (g1.roInts 1 rfl)).mono ?_
   rintro (e : Ending) w3 ⟨rfl, hb3⟩
   have g2 := (g1.on hb3).drop 1
   clear g1 hb3 y0
   by_cases h0 : nv = 0
   ·subst h0
    have HE := Lib.hid (show S = sgn p (isIn R) Y (R.drop (j + 1)) by rw [HS.out, Hst.out, if_pos rfl])
    go_wp2
    go_roundw
    case rel => exact ⟨j + 1, by go_num, by omega, HE, g2⟩
    case measure => simp [intOf]; omega
   ·have t1 : (nv != 0) = true := by rw [bne_iff_ne]; exact h0
    have HE := Lib.hid (show S = nv by rw [HS.out, Hst.out, if_neg h0])
    go_wp2
    go_ret
    exact ⟨by rw [HE.out]; rfl, g2.below⟩
  ·obtain rfl : n = j := by omega
   have HE := Lib.hid (show S = 0 by rw [HS.out, List.drop_of_length_le (by rw [← Hn.out]; exact Nat.le_refl _)]; rfl)
   go_wp2
   go_ret
   exact ⟨by rw [HE.out]; rfl, g.below⟩
end Tya
end
end Go.Proofs.YtbnefjhljfbecaaGreatDoor
