import Derived.Test.YtbnefjhljfbecaaGreatDoorW05
import Derived.Test.YtbnefjhljfbecaaGreatDoorW07
import Derived.Test.YtbnefjhljfbecaaGreatDoorW19
import Derived.Test.YtbnefjhljfbecaaGreatDoorW26
namespace Go.Proofs.YtbnefjhljfbecaaGreatDoor
set_option maxRecDepth 100000
section
open Go.RowKit
theorem Own.lit {W : World} {l : List Int} (hl : l.length ≤ maxLen) : Own (W.alloc (.cells (l.map (Value.int .i64)).toArray 3)) W.heap.size (.slice (some ⟨W.heap.size, 0, none⟩) l.length l.length) l := by
 have := World.ownsRow_lit (base := W.heap.size) (e := 3) (size := 1) W (l.map (Value.int .i64)).toArray l.length (Nat.le_refl _) hl (by simp)
 simpa [Own] using this
theorem St.lit {w0 w : World} {L : List It} (h : St w0 w L) (l : List Int) (hl : l.length ≤ maxLen) : St w0 (w.alloc (.cells (l.map (Value.int .i64)).toArray 3)) (.own (.slice (some ⟨w.heap.size, 0, none⟩) l.length l.length) l :: L) :=
 h.pushOwn ((Below.refl _ _).alloc (Nat.le_refl _) _) (Own.lit hl)
namespace Tya
open Mp
theorem mt : MT Tryz.prog 78 9 4 .bool := ⟨Tryz.underlying78, Tryz.underlying9, Tryz.underlying4⟩
def SM (bm nm : Nat) (S : ByteArray → Bool) (w : World) : Prop := SMap Tryz.prog 9 4 bm nm S w
theorem SM.fact {bm nm : Nat} {S : ByteArray → Bool} {w : World} (h : SM bm nm S w) : It.ok w.heap.size w (.fact (SM bm nm S)) := fun _ hk => SMap.same h (hk bm (SMap.lt h))
theorem zbool (w : World) : (zeroValue 4).run Tryz.prog w = .ok (.bool false) w := by kernel_rfl
theorem SM.look {bm nm : Nat} {S : ByteArray → Bool} {w : World} (h : SM bm nm S w) {s : ByteArray} (hs : s.size ≤ 100000) : (Instr.lookup 78 (.map (some bm)) (.string s) false).run Tryz.prog w = .ok (.bool (S s)) w :=
 SMap.look h mt zbool (by simp only [maxLen]; omega)
theorem encB_size {l : List Int} (h : Sml l) (hl : l.length ≤ 1000) : (encB l).size ≤ 100000 := by
 have := encL_len h
 show (encL l).toArray.size ≤ _
 simp only [List.size_toArray]
 omega
def acc (s1 s2 : Int) (i : Nat) : Int := if i = 0 then 0 else if i = 1 then s1 else s1 - s2
theorem stpF_yes {p : Int} {M : List Int → Bool} {y : List Int} {k : Int} {x : List Int} {r : Nat} (hr : r < 3) (h : M (addL y (k * ((r : Int) + 1)) x p) = true) : stpF p M y k x (3 - r) r = stpF p M y k x (3 - (r + 1)) (r + 1) := by
 obtain ⟨f, hf⟩ : ∃ f, 3 - r = f + 1 := ⟨2 - r, by omega⟩
 rw [hf, show 3 - (r + 1) = f by omega, stpF, if_pos h]
theorem stpF_no {p : Int} {M : List Int → Bool} {y : List Int} {k : Int} {x : List Int} {r : Nat} (hr : r < 3) (h : M (addL y (k * ((r : Int) + 1)) x p) = false) : stpF p M y k x (3 - r) r = r := by
 obtain ⟨f, hf⟩ : ∃ f, 3 - r = f + 1 := ⟨2 - r, by omega⟩
 rw [hf, stpF, if_neg (by rw [h]; simp)]
set_option maxHeartbeats 8000000 in
theorem numI_any (p : Int) (x y : Value) (X Y : List Int) (bm nm : Nat) (S : ByteArray → Bool) (w : World) (hx : Ints w x X) (hy : Ints w y Y) (hm : SM bm nm S w) (hT : TabAt w) (hl : Y.length = X.length) (h0 : 0 < X.length) (hn : X.length ≤ 100) (hp : 2 ≤ p) (hp' : p ≤ 101) (rX : resid p X = true) (rY : resid p Y = true) :
  Calls Tryz.prog 55 #[.agg #[.int .i64 p, .map (some bm)], x, y] w fun e w' => e = .returned (.int .i64 (num p (fun q => S (encB q)) X Y)) ∧ Below w.heap.size w w' := by
 have h1 := (((((St.start w).pushFact hT.fact).pushOld hm.fact).arg hx).arg hy).box [.int .i64 p, .map (some bm)] 80
 obtain ⟨A, cx, rfl, _, _, _⟩ := id hx
 obtain ⟨A2, cy, rfl, _, _, _⟩ := id hy
 have hEq := fun (W : World) (a : Ints W (.slice A X.length cx) X) (b : Ints W (.slice A2 Y.length cy) Y) => Equal_any _ _ X Y W a b
 by_cases hXY : X = Y
 ·rw [decide_eq_true hXY] at hEq
  have hN : num p (fun q => S (encB q)) X Y = 2 := by rw [num, if_pos hXY]
  rw [hN]
  have HEq := Lib.hid hEq
  clear hx hy hm hT hl hn hXY hN hEq
  go_enter Tryz.func55, Tryz.ntmps55
  go_wp2_with fail
  refine (HEq.out _ (h1.roInts 2 rfl) (h1.roInts 1 rfl)).mono ?_
  rintro (e : Ending) w3 ⟨rfl, nd, rfl⟩
  go_wp2
  go_ret
  exact ⟨rfl, (h1.drewN nd).below⟩
 rw [decide_eq_false hXY] at hEq
 have HEq := Lib.hid hEq
 have hPl := fun (W : World) (a : Ints W (.slice A X.length cx) X) (b : Ints W (.slice A2 Y.length cy) Y) => plusI_any p 1 (.map (some bm)) _ _ X Y W a b rfl hl hn hp hp' rX rY (by omega)
 have hZe := fun (W : World) (v : Value) (a : Ints W v (addL X 1 Y p)) => isZero_any v _ W a
 by_cases hz : zeroL (addL X 1 Y p) = true
 ·rw [hz] at hZe
  have hN : num p (fun q => S (encB q)) X Y = -2 := by rw [num, if_neg hXY, if_pos hz]
  rw [hN]
  have HPl := Lib.hid hPl
  have HZe := Lib.hid hZe
  clear hx hy hm hT hl hn hXY hN hEq hPl hZe hz rX rY
  obtain ⟨z0, z1⟩ := h1.box2 0 rfl
  go_enter Tryz.func55, Tryz.ntmps55
  go_wp2_with fail
  refine (HEq.out _ (h1.roInts 2 rfl) (h1.roInts 1 rfl)).mono ?_
  rintro (e : Ending) w3 ⟨rfl, nd, rfl⟩
  replace h1 := h1.drewN nd
  clear z0 z1
  obtain ⟨z0, z1⟩ := h1.box2 0 rfl
  generalize World.drewN _ _ = wd at h1 z0 z1 ⊢
  go_wp2_with fail
  refine (HPl.out _ (h1.roInts 2 rfl) (h1.roInts 1 rfl)).mono ?_
  rintro (e : Ending) w4 ⟨u4, rfl, ho4, hb4⟩
  obtain ⟨A4, n4, c4, rfl⟩ := ho4.slice
  have g2 := h1.pushOwn hb4 ho4
  clear z0 z1
  go_wp2_with fail
  refine (HZe.out _ _ (g2.ownInts 0 rfl)).mono ?_
  rintro (e : Ending) w5 ⟨rfl, rfl⟩
  go_wp2
  go_ret
  exact ⟨rfl, g2.below⟩
 have hz : zeroL (addL X 1 Y p) = false := by simpa using hz
 rw [hz] at hZe
 have HPl := Lib.hid hPl
 have HZe := Lib.hid hZe
 obtain ⟨M, hM⟩ : ∃ M : List Int → Bool, M = fun q => S (encB q) := ⟨_, rfl⟩
 have hN : num p M X Y = (stp p M Y (-1) X : Int) - stp p M Y 1 X := by rw [num, if_neg hXY, hz]; rfl
 rw [← hM, hN]
 obtain ⟨s1, hs1⟩ : ∃ s1 : Int, s1 = (stp p M Y (-1) X : Int) := ⟨_, rfl⟩
 obtain ⟨s2, hs2⟩ : ∃ s2 : Int, s2 = (stp p M Y 1 X : Int) := ⟨_, rfl⟩
 have b1 : 0 ≤ s1 ∧ s1 ≤ 3 := by have := stp_le p M Y (-1) X; omega
 have b2 : 0 ≤ s2 ∧ s2 ≤ 3 := by have := stp_le p M Y 1 X; omega
 rw [← hs1, ← hs2]
 have HK := Lib.hid (fun (i : Nat) (hi : i < 2) => (show (Go.Proofs.YtbnefjhljfbecaaGreatDoor.vec [-1, 1] i = -1 ∨ Go.Proofs.YtbnefjhljfbecaaGreatDoor.vec [-1, 1] i = 1) ∧ acc s1 s2 (i + 1) = acc s1 s2 i - Go.Proofs.YtbnefjhljfbecaaGreatDoor.vec [-1, 1] i * (stp p M Y (Go.Proofs.YtbnefjhljfbecaaGreatDoor.vec [-1, 1] i) X : Int) by
  have : i = 0 ∨ i = 1 := by omega
  rcases this with rfl | rfl
  ·refine ⟨.inl rfl, ?_⟩
   show s1 = 0 - (-1) * (stp p M Y (-1) X : Int)
   omega
  ·refine ⟨.inr rfl, ?_⟩
   show s1 - s2 = s1 - 1 * (stp p M Y 1 X : Int)
   omega))
 have HAb := Lib.hid (fun (i : Nat) (_ : i ≤ 2) => (show -10 ≤ acc s1 s2 i ∧ acc s1 s2 i ≤ 10 by unfold acc; split; omega; split <;> omega))
 have HPk := Lib.hid (fun (W : World) (k : Int) (hk : -3 ≤ k ∧ k ≤ 3) (a : Ints W (.slice A2 Y.length cy) Y) (b : Ints W (.slice A X.length cx) X) => plusI_any p k (.map (some bm)) _ _ Y X W a b rfl hl.symm (by omega) hp hp' rY rX (by omega))
 have HFi := Lib.hid (fun (W : World) (k : Int) (v : Value) (a : Ints W v (addL Y k X p)) (ht : TabAt W) => FormatInts_any v _ W a (sml_of hp' (resid_addL _ _ _ _ (by omega))) (by rw [length_addL _ _ _ _ hl.symm]; omega) (by rw [length_addL _ _ _ _ hl.symm]; omega) ht)
 have HLk := Lib.hid (fun (W : World) (k : Int) (b : Bool) (hb : M (addL Y k X p) = b) (h : SM bm nm S W) => (show (Instr.lookup 78 (.map (some bm)) (.string (encB (addL Y k X p))) false).run Tryz.prog W = .ok (.bool b) W by
  rw [← hb, hM]
  exact h.look (encB_size (sml_of hp' (resid_addL _ _ _ _ (by omega))) (by rw [length_addL _ _ _ _ hl.symm]; omega))))
 clear hx hy hm hT hl h0 hn hXY hEq hPl hZe hz hM hN hs1 hs2 rX rY
 obtain ⟨z0, z1⟩ := h1.box2 0 rfl
 go_enter Tryz.func55, Tryz.ntmps55
 go_wp2_with fail
 refine (HEq.out _ (h1.roInts 2 rfl) (h1.roInts 1 rfl)).mono ?_
 rintro (e : Ending) w3 ⟨rfl, nd, rfl⟩
 replace h1 := h1.drewN nd
 clear z0 z1
 obtain ⟨z0, z1⟩ := h1.box2 0 rfl
 generalize World.drewN _ _ = wd at h1 z0 z1 ⊢
 go_wp2_with fail
 refine (HPl.out _ (h1.roInts 2 rfl) (h1.roInts 1 rfl)).mono ?_
 rintro (e : Ending) w4 ⟨u4, rfl, ho4, hb4⟩
 obtain ⟨A4, n4, c4, rfl⟩ := ho4.slice
 have g2 := h1.pushOwn hb4 ho4
 clear z0 z1
 go_wp2_with fail
 refine (HZe.out _ _ (g2.ownInts 0 rfl)).mono ?_
 rintro (e : Ending) w5 ⟨rfl, rfl⟩
 have g3 := (g2.drop 1).lit [-1, 1] (by decide)
 simp only [List.drop_succ_cons, List.drop_zero, List.length_cons, List.length_nil, List.map_cons, List.map_nil] at g3
 clear g2 h1 ho4 hb4 HPl HZe HEq
 go_wp2
 generalize w4.heap.size = Bl at g3 ⊢
 generalize World.alloc _ _ = wl at g3 ⊢
 go_loopw [7, 9, 10, 23] (fun v7 _ _ v23 wr => ∃ i : Nat, v23 = .int .i64 i ∧ i ≤ 2 ∧ v7 = .int .i64 (acc s1 s2 i) ∧ St w wr [.own (.slice (some ⟨Bl, 0, none⟩) 2 2) [-1, 1], .box w.heap.size [.int .i64 p, .map (some bm)], .ro (.slice A2 Y.length cy) Y, .ro (.slice A X.length cx) X, .fact (SM bm nm S), .fact TabAt]) (fun _ _ _ v23 _ => 2 - (intOf v23).toNat)
 case atStart => exact ⟨0, rfl, by omega, rfl, g3⟩
 case round =>
  clear g3
  obtain ⟨i, rfl, a1, rfl, g⟩ := hrel
  have hab := HAb.out i a1
  obtain ⟨ac, hac⟩ : ∃ ac, ac = acc s1 s2 i := ⟨_, rfl⟩
  rw [← hac] at hab ⊢
  by_cases hi : i < 2
  ·obtain ⟨hk1, hk2⟩ := HK.out i hi
   have e1 := (g.ownCell 0 rfl (q := i) hi).1
   rw [← hac] at hk2
   obtain ⟨kz, hkz⟩ : ∃ kz, kz = Go.Proofs.YtbnefjhljfbecaaGreatDoor.vec [-1, 1] i := ⟨_, rfl⟩
   rw [← hkz] at hk1 hk2 e1
   have Hk := Lib.hid hk1
   have HAc := Lib.hid hk2
   have i1 : (i : Int) < 2 := by omega
   clear hkz hk1 hk2 hac
   go_wp2
   clear e1
   go_loopw [10] (fun v10 wr => ∃ r : Nat, v10 = .int .i64 r ∧ r ≤ 3 ∧ Hid (stp p M Y kz X = stpF p M Y kz X (3 - r) r) ∧ St w wr [.own (.slice (some ⟨Bl, 0, none⟩) 2 2) [-1, 1], .box w.heap.size [.int .i64 p, .map (some bm)], .ro (.slice A2 Y.length cy) Y, .ro (.slice A X.length cx) X, .fact (SM bm nm S), .fact TabAt]) (fun v10 _ => 3 - (intOf v10).toNat)
   case atStart => exact ⟨0, rfl, by omega, Lib.hid rfl, g⟩
   case round =>
    clear g
    obtain ⟨r, rfl, a2, HSk, g⟩ := hrel
    by_cases hr : r < 3
    ·have r1 : (r : Int) < 3 := by omega
     obtain ⟨z, hz⟩ : ∃ z, z = kz * ((r : Int) + 1) := ⟨_, rfl⟩
     have hzb : -3 ≤ z ∧ z ≤ 3 := by rcases Hk.out with e | e <;> rw [e] at hz <;> omega
     have hzz : IntKind.i64.wrap (kz * IntKind.i64.wrap ((r : Int) + 1)) = z := by
      rw [wrap_ok (x := (r : Int) + 1) (by omega) (by omega), ← hz]
      exact wrap_ok (by omega) (by omega)
     obtain ⟨b, hb⟩ : ∃ b, b = M (addL Y z X p) := ⟨_, rfl⟩
     have HP2 := Lib.hid (fun (W : World) a b => (show Calls Tryz.prog 54 #[.agg #[.int .i64 p, .map (some bm)], .slice A2 Y.length cy, .int .i64 (IntKind.i64.wrap (kz * IntKind.i64.wrap ((r : Int) + 1))), .slice A X.length cx] W (RetOwn W (addL Y z X p)) by
      rw [hzz]
      exact HPk.out W z hzb a b))
     have HF2 := Lib.hid (fun W v a t => HFi.out W z v a t)
     have HL2 := Lib.hid (fun W h => HLk.out W z b hb.symm h)
     have HbS := Lib.hid hb
     have Hz := Lib.hid hz
     obtain ⟨Q, hQ⟩ : ∃ Q, Q = addL Y z X p := ⟨_, rfl⟩
     rw [← hQ] at HP2 HF2 HL2 HbS
     obtain ⟨se, hse⟩ : ∃ se, se = encB Q := ⟨_, rfl⟩
     rw [← hse] at HF2 HL2
     have HQ := Lib.hid hQ
     clear hb hz hzb hse hQ hzz
     have g0 := g.drew
     clear g
     go_upto_region 10 with fail
     refine wp_region_held_drew (S := fun w' => (w'.cell? ⟨w.heap.size, 0, none⟩ = some (.int .i64 p) ∧ w'.cell? ⟨w.heap.size, 1, none⟩ = some (.map (some bm))) ∧ (Instr.lookup 78 (.map (some bm)) (.string se) false).run Tryz.prog w' = .ok (.bool b) w') (by kernel_rfl) ⟨g0.box2 1 rfl, HL2.out _ (g0.fact 4 rfl)⟩ (fun hHeld => ?_)
     refine tkA 0 hHeld ?_
     refine tkA 1 hHeld ?_
     refine tkA 2 hHeld ?_
     refine tkA 3 hHeld ?_
     refine tkA 4 hHeld ?_
     refine tkA 5 hHeld ?_
     refine tkA 6 hHeld ?_
     refine tkA 7 hHeld ?_
     refine tkA 8 hHeld ?_
     refine tkA 9 hHeld ?_
     refine tkA 10 hHeld ?_
     refine tkA 11 hHeld ?_
     refine rcA 12 fun K hK => ?_
     go_simp
     refine (HP2.out _ (g0.roInts 2 rfl) (g0.roInts 3 rfl)).mono ?_
     rintro (e : Ending) w6 ⟨u6, rfl, ho6, hb6⟩
     obtain ⟨A6, n6, c6, rfl⟩ := ho6.slice
     have g1 := g0.pushOwn hb6 ho6
     show K _ _
     refine outA hK ?_ fun hHeld => ?_
     ·exact ⟨g1.box2 2 rfl, HL2.out _ (g1.fact 5 rfl)⟩
     clear hK K
     refine rcA 13 fun K hK => ?_
     go_simp
     refine (HF2.out _ _ (g1.ownInts 0 rfl) (g1.fact 6 rfl)).mono ?_
     rintro (e : Ending) w7 ⟨rfl, hb7⟩
     have g2 := g1.on hb7
     show K _ _
     refine outA hK ?_ fun hHeld => ?_
     ·exact ⟨g2.box2 2 rfl, HL2.out _ (g2.fact 5 rfl)⟩
     clear hK K
     refine tkA 14 hHeld ?_
     refine tkA 15 hHeld ?_
     refine wpAnyH_done (by kernel_rfl) ?_ _
     clear hHeld
     have g := g2.drop 1
     simp only [List.drop_succ_cons, List.drop_zero] at g
     clear g0 g1 g2 ho6 hb6 hb7
     cases b with
     | true =>
      have HS2 := Lib.hid (show stp p M Y kz X = stpF p M Y kz X (3 - (r + 1)) (r + 1) by
       rw [HSk.out]
       exact stpF_yes hr (by rw [← Hz.out, ← HQ.out]; exact HbS.out.symm))
      go_wp2
      go_roundw
      case rel => exact ⟨r + 1, by go_num, by omega, HS2, g⟩
      case measure => simp [intOf]; omega
     | false =>
      have HSk2 : (stp p M Y kz X : Int) = (r : Int) := by
       rw [HSk.out]
       exact congrArg _ (stpF_no hr (by rw [← Hz.out, ← HQ.out]; exact HbS.out.symm))
      obtain ⟨z2, hz2⟩ : ∃ z2, z2 = kz * (r : Int) := ⟨_, rfl⟩
      have hz2b : -3 ≤ z2 ∧ z2 ≤ 3 := by rcases Hk.out with e | e <;> rw [e] at hz2 <;> omega
      have m1 : kz * (r : Int) = z2 := hz2.symm
      have m2 : IntKind.i64.wrap z2 = z2 := wrap_ok (by omega) (by omega)
      have m3 : IntKind.i64.wrap (ac - z2) = ac - z2 := wrap_ok (by omega) (by omega)
      have HA3 := Lib.hid (show acc s1 s2 (i + 1) = ac - z2 by rw [HAc.out, HSk2, hz2])
      clear hz2 HSk2
      go_wp2
      go_roundw
      case rel => exact ⟨i + 1, by go_num, by omega, by rw [HA3.out], g⟩
      case measure => simp [intOf]; omega
    ·have r1 : ¬ (r : Int) < 3 := by omega
     have HSk2 : (stp p M Y kz X : Int) = (r : Int) := by
      rw [HSk.out, show 3 - r = 0 by omega]
      rfl
     have g0 := g.drew
     go_upto_region 10 with fail
     refine wp_region_held_drew (S := fun w' => (w'.cell? ⟨w.heap.size, 0, none⟩ = some (.int .i64 p) ∧ w'.cell? ⟨w.heap.size, 1, none⟩ = some (.map (some bm)))) (by kernel_rfl) (g0.box2 1 rfl) (fun hHeld => ?_)
     refine tkA 0 hHeld ?_
     refine tkA 1 hHeld ?_
     refine tkA 2 hHeld ?_
     refine skA 3 hHeld ?_
     refine skA 4 hHeld ?_
     refine skA 5 hHeld ?_
     refine skA 6 hHeld ?_
     refine skA 7 hHeld ?_
     refine skA 8 hHeld ?_
     refine skA 9 hHeld ?_
     refine skA 10 hHeld ?_
     refine skA 11 hHeld ?_
     refine skA 12 hHeld ?_
     refine skA 13 hHeld ?_
     refine skA 14 hHeld ?_
     refine tkA 15 hHeld ?_
     refine wpAnyH_done (by kernel_rfl) ?_ _
     clear hHeld
     clear g
     have g := g0
     clear g0
     obtain ⟨z2, hz2⟩ : ∃ z2, z2 = kz * (r : Int) := ⟨_, rfl⟩
     have hz2b : -3 ≤ z2 ∧ z2 ≤ 3 := by rcases Hk.out with e | e <;> rw [e] at hz2 <;> omega
     have m1 : kz * (r : Int) = z2 := hz2.symm
     have m2 : IntKind.i64.wrap z2 = z2 := wrap_ok (by omega) (by omega)
     have m3 : IntKind.i64.wrap (ac - z2) = ac - z2 := wrap_ok (by omega) (by omega)
     have HA3 := Lib.hid (show acc s1 s2 (i + 1) = ac - z2 by rw [HAc.out, HSk2, hz2])
     clear hz2 HSk2
     go_wp2
     go_roundw
     case rel => exact ⟨i + 1, by go_num, by omega, by rw [HA3.out], g⟩
     case measure => simp [intOf]; omega
  ·obtain rfl : i = 2 := by omega
   have HA2 := Lib.hid (show ac = s1 - s2 from hac)
   clear hac
   go_wp2
   go_ret
   exact ⟨by rw [HA2.out]; rfl, g.below⟩
end Tya
end
section
open Go.RowKit
def rbIt (v : Value) (us : List Value) : It := .vec v 22 1 us.length us []
theorem It.rb {B : Nat} {w : World} {v : Value} {us : List Value} {ll : List (List Int)} (h : (rbIt v us).ok B w) (hl : us.length = ll.length) (hr : ∀ (i : Nat) (u : Value) (l : List Int), us[i]? = some u → ll[i]? = some l → Ints w u l) : IntRows w v ll := by
 obtain ⟨h1, _⟩ := h
 rcases id h1.2 with ⟨rfl, h0⟩ | ⟨g, cap, cur, rfl, hb, hg, hn, hm, _⟩
 ·obtain rfl : ll = [] := List.eq_nil_of_length_eq_zero (by rw [← hl]; exact h0)
  exact ⟨none, 0, rfl, by simp, by simp, fun h => by simp at h⟩
 ·rw [hl] at hn ⊢
  refine ⟨_, cap, rfl, hn, by simpa [maxLen] using hm, fun _ => ⟨g, 0, rfl, fun i l hi => ?_⟩⟩
  have hil := (List.getElem?_eq_some_iff.1 hi).1
  have hu : us[i]? = some (us[i]'(by omega)) := List.getElem?_eq_getElem _
  refine ⟨_, by rw [Nat.zero_add]; exact (World.ownsRow.cellAt h1 i (by omega)).trans hu, hr i _ l hu hi⟩
theorem wp_append_rb {w0 w : World} {L : List It} {ops : Array Oper} {rest : List Oper} {o : Oper} {a : Act} {Q : Exit → Act → World → Prop} (hgd : o.guard = none) (s x : Operand)
  (ho : o.op = .call { callee := .builtin .append, args := #[s, x], argTypes := #[39, 39] }) {u v : Value} {us : List Value} (h : St w0 w L) (j : Nat) (hj : L[j]? = some (rbIt v us)) (hu : u.oneCell' = true)
  (hs : a.eval s = v) (hx : a.eval x = .slice (some ⟨w.heap.size, 0, none⟩) 1 1) (hlen : us.length + 1 ≤ 1099511627776)
  (hk : ∀ v' w', St w0 w' (L.set j (rbIt v' (us ++ [u]))) → wpList Tryz.prog ops Q rest (a.put o.dst v') w') : wpList Tryz.prog ops Q (o :: rest) a (w.alloc (.cells #[u] 22)) := by
 obtain ⟨i, h1, h2, h3, h4⟩ := info_parts infoR
 refine wp_append_vec hgd s x 39 22 1 24 i _ ho Tryz.underlying39 h1 h2 h3 h4 rfl (by decide) h j hj [u] rfl (by simpa using hu) hs hx (by simp only [maxLen]; omega) (by omega) fun v' w' hst => hk v' w' ?_
 have e : rbIt v' (us ++ [u]) = .vec v' 22 1 (us.length + 1) (us ++ [u]) [] := by
  unfold rbIt; simp
 rw [e]; exact hst
def RBor (w : World) (us : List Value) (ll : List (List Int)) : Prop := us.length = ll.length ∧ ∀ (i : Nat) (u : Value) (l : List Int), us[i]? = some u → ll[i]? = some l → Ints w u l
theorem RBor.nil (w : World) : RBor w [] [] := ⟨rfl, fun i u m h => by simp at h⟩
theorem RBor.snoc {w : World} {us : List Value} {ll : List (List Int)} (h : RBor w us ll) {u : Value} {l : List Int} (hu : Ints w u l) : RBor w (us ++ [u]) (ll ++ [l]) := by
 obtain ⟨hl, hr⟩ := h
 refine ⟨by simp [hl], fun i x y h1 h2 => ?_⟩
 rcases Nat.lt_trichotomy i us.length with e | e | e
 ·rw [List.getElem?_append_left e] at h1
  rw [List.getElem?_append_left (by omega)] at h2
  exact hr i x y h1 h2
 ·rw [List.getElem?_append_right (by omega), show i - us.length = 0 by omega] at h1
  rw [List.getElem?_append_right (by omega), show i - ll.length = 0 by omega] at h2
  simp only [List.getElem?_cons_zero, Option.some.injEq] at h1 h2
  subst h1; subst h2; exact hu
 ·have := (List.getElem?_eq_some_iff.1 h1).1
  simp at this; omega
theorem RBor.rows {w0 w : World} {L : List It} {us : List Value} {ll : List (List Int)} (hb : RBor w0 us ll) (h : St w0 w L) (j : Nat) {v : Value} (hj : L[j]? = some (rbIt v us)) : IntRows w v ll :=
 It.rb (h.at j hj) hb.1 fun i u m h1 h2 => (hb.2 i u m h1 h2).below h.below
theorem RBor.get {w0 w : World} {L : List It} {us : List Value} {ll : List (List Int)} (hb : RBor w0 us ll) (h : St w0 w L) (j : Nat) {A : Option Addr} {n c : Nat} (hj : L[j]? = some (rbIt (.slice A n c) us)) {i : Nat} (hi : i < ll.length) :
  ∃ b A9 c9, A = some ⟨b, 0, none⟩ ∧ w.cell? ⟨b, i, none⟩ = some (.slice A9 ll[i].length c9) ∧ Ints w0 (.slice A9 ll[i].length c9) ll[i] := by
 obtain ⟨hl, hr⟩ := hb
 obtain ⟨h1, _⟩ := h.at j hj
 have hu : us[i]? = some (us[i]'(by omega)) := List.getElem?_eq_getElem _
 have hI := hr i _ ll[i] hu (List.getElem?_eq_getElem hi)
 obtain ⟨A9, c9, e, _⟩ := id hI
 rcases id h1.2 with ⟨e0, h0⟩ | ⟨g, cap, cur, e0, hb, hg, hn, hm, _⟩
 ·omega
 ·simp only [Value.slice.injEq] at e0
  obtain ⟨rfl, rfl, rfl⟩ := e0
  have hc : w.cell? ⟨g, i, none⟩ = us[i]? := World.ownsRow.cellAt h1 i (by omega)
  refine ⟨g, A9, c9, rfl, ?_, by rw [← e]; exact hI⟩
  rw [← e]
  exact hc.trans hu
theorem St.emptyRb {w0 w : World} {L : List It} (h : St w0 w L) : St w0 (w.alloc (.cells #[] 22)) (rbIt (.slice (some ⟨w.heap.size, 0, none⟩) 0 0) [] :: L) := h.emptyRows
end
end Go.Proofs.YtbnefjhljfbecaaGreatDoor
