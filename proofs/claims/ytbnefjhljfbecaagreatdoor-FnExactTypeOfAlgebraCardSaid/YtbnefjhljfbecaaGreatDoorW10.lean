import Derived.Test.YtbnefjhljfbecaaGreatDoorW09
namespace Go.Proofs.YtbnefjhljfbecaaGreatDoor
set_option maxRecDepth 100000
open Go.RowKit
namespace Car
def prS (n : Nat) (D : List Int) (m : Nat) (E : List Int) (used : List Nat) (x j : Nat) : Bool := en n D x ((used ++ [x]).getD j 0) == en m E used.length j && en n D ((used ++ [x]).getD j 0) x == en m E j used.length
theorem ok_prS (n : Nat) (D : List Int) (m : Nat) (E : List Int) (used : List Nat) (x : Nat) : ok n D m E used x = (!used.contains x && (List.range' 0 (used.length + 1)).all (prS n D m E used x)) := by
 rw [Bool.eq_iff_iff, ok_iff, Bool.and_eq_true, List.all_eq_true]
 have g1 : ∀ j, j < used.length → (used ++ [x]).getD j 0 = used.getD j 0 := fun j hj => by rw [getD_app, if_pos hj]
 have g2 : (used ++ [x]).getD used.length 0 = x := by rw [getD_app, if_neg (by omega), Nat.sub_self]; rfl
 constructor
 ·rintro ⟨h1, h2, h3⟩
  refine ⟨by simpa using h1, fun j hj => ?_⟩
  obtain ⟨d, hd, e⟩ := List.mem_range'.1 hj
  unfold prS
  by_cases hjk : j = used.length
  ·rw [hjk, g2, h2]; simp
  ·rw [g1 j (by omega), (h3 j (by omega)).1, (h3 j (by omega)).2]; simp
 ·rintro ⟨h1, h2⟩
  have hm : ∀ j, j ≤ used.length → prS n D m E used x j = true := fun j hj => h2 j (List.mem_range'.2 ⟨j, by omega, by omega⟩)
  refine ⟨by simpa using h1, ?_, fun j hj => ?_⟩
  ·have := hm used.length (Nat.le_refl _)
   unfold prS at this
   rw [g2, Bool.and_eq_true] at this
   simpa using this.1
  ·have := hm j (by omega)
   unfold prS at this
   rw [g1 j hj, Bool.and_eq_true] at this
   exact ⟨by simpa using this.1, by simpa using this.2⟩
theorem any_drop {rows : List Nat} {i : Nat} (p : Nat → Bool) (h : i < rows.length) : (rows.drop i).any p = (p (rows.getD i 0) || (rows.drop (i + 1)).any p) := by
 rw [List.drop_eq_getElem_cons h, List.any_cons]
 simp [List.getD, List.getElem?_eq_getElem h]
def FiAt (n : Nat) (D : List Int) (m : Nat) (E : List Int) (rows : List Nat) (f : Nat) : Prop := ∀ (used : List Nat) (a b u r : Value) (w : World), used.length + f = m → (∀ x, x ∈ used → x < n) → Ints w a D → Ints w b E → Ints w u (used.map Int.ofNat) → Ints w r (rows.map Int.ofNat) →
  Calls Tryz.prog 74 #[.agg #[.int .i64 n, a], r, u, .agg #[.int .i64 m, b]] w fun e w' => e = .returned (.bool (bt n D m E rows f used)) ∧ Below w.heap.size w w'
set_option maxHeartbeats 8000000 in
theorem fits_step (n : Nat) (D : List Int) (m : Nat) (E : List Int) (rows : List Nat) (hD : D.length = n * n) (hE : E.length = m * m) (hn : n ≤ 4) (hm : m ≤ 4) (hrl : rows.length = m) (hrb : ∀ x, x ∈ rows → x < n) (f : Nat) (ih : FiAt n D m E rows f) : FiAt n D m E rows (f + 1) := by
 intro used a b u r w hl hb ha hbE hu hr
 have h1 := (((((St.start w).arg ha).arg hbE).arg hr).arg hu)
 have h2 := (h1.box [.int .i64 n, a] 49).box [.int .i64 m, b] 49
 simp only [World.size_alloc] at h2
 obtain ⟨A0, c0, rfl, _, _, _⟩ := id ha
 obtain ⟨A1, c1, rfl, _, _, _⟩ := id hbE
 obtain ⟨A2, c2, rfl, _, _, _⟩ := id hu
 obtain ⟨A3, c3, rfl, _, _, _⟩ := id hr
 obtain ⟨R, hR⟩ : ∃ R, R = bt n D m E rows (f + 1) used := ⟨_, rfl⟩
 rw [← hR]
 have HR := Lib.hid (show R = (rows.drop 0).any fun x => ok n D m E used x && bt n D m E rows f (used ++ [x]) by rw [hR, List.drop_zero]; rfl)
 have hnn : n * n ≤ 16 := Nat.mul_le_mul hn hn
 have hmm : m * m ≤ 16 := Nat.mul_le_mul hm hm
 have hDl : D.length ≤ 16 := by omega
 have hEl : E.length ≤ 16 := by omega
 obtain ⟨k, hk⟩ : ∃ k, k = used.length := ⟨_, rfl⟩
 obtain ⟨UI, hUI⟩ : ∃ UI, UI = used.map Int.ofNat := ⟨_, rfl⟩
 obtain ⟨RI, hRI⟩ : ∃ RI, RI = rows.map Int.ofNat := ⟨_, rfl⟩
 have hUl : UI.length = k := by rw [hUI, List.length_map, hk]
 have hRl : RI.length = m := by rw [hRI, List.length_map, hrl]
 have hkm : k < m := by omega
 have HIh := Lib.hid (fun (x : Nat) (hx : x < n) (v : Value) (W : World) (x1 : Ints W (.slice A0 D.length c0) D) (x2 : Ints W (.slice A1 E.length c1) E) (x3 : Ints W v ((used ++ [x]).map Int.ofNat)) (x4 : Ints W (.slice A3 m c3) RI) => ih (used ++ [x]) _ _ v _ W (by rw [List.length_append, List.length_singleton]; omega) (fun y hy => by
  rcases List.mem_append.1 hy with hy | hy
  ·exact hb y hy
  ·rw [List.mem_singleton.1 hy]; exact hx) x1 x2 x3 (by rw [← hRI]; exact x4))
 have HAt := Lib.hid (fun (W : World) (i j : Nat) (hi : i < n) (hj : j < n) (x : Ints W (.slice A0 D.length c0) D) => l5At_any n _ D i j W x hD hn hi hj)
 have HWt := Lib.hid (fun (W : World) (i j : Nat) (hi : i < m) (hj : j < m) (x : Ints W (.slice A1 E.length c1) E) => l5At_any m _ E i j W x hE hm hi hj)
 have HOk := Lib.hid (fun x => ok_prS n D m E used x)
 have HB := Lib.hid (fun (j : Nat) (hj : j < k) => hb (used.getD j 0) (getD_mem (by omega)))
 have HRb := Lib.hid (fun (i : Nat) (hi : i < m) => hrb (rows.getD i 0) (getD_mem (by omega)))
 have HRv := Lib.hid (fun (i : Nat) => show vec RI i = ((rows.getD i 0 : Nat) : Int) by rw [hRI, vec_nat])
 have HFd := Lib.hid (fun (x : Nat) (W : World) (x1 : Ints W (.slice A2 k c2) UI) => find_any _ UI (x : Int) W x1)
 have HFn := Lib.hid (fun (x : Nat) => show 0 ≤ found UI (x : Int) ↔ x ∈ used by rw [hUI]; exact found_nat used x)
 have HLi := Lib.hid (fun (W : World) (x1 : Ints W (.slice A2 k c2) UI) => l1Ints_any _ UI W x1 (by rw [hUl]; omega))
 have HDr := Lib.hid (fun (i : Nat) (p : Nat → Bool) (hi : i < m) => any_drop (rows := rows) (i := i) p (by omega))
 rw [← hUI, ← hRI] at h2
 rw [← hUI, ← hRI]
 rw [hUl, hRl] at h2 ⊢
 have HUl := Lib.hid hUl
 have HRl := Lib.hid hRl
 have HUI := Lib.hid hUI
 have hkm' : ((k : Int) == (m : Int)) = false := by rw [beq_eq_false_iff_ne]; omega
 rw [← hk] at HOk
 have Hk := Lib.hid hk
 have Hrl := Lib.hid hrl
 clear h1 ih ha hbE hu hr hR hl hb hnn hmm hUl hRl hk hD hE hUI hRI hrl hrb
 go_enter Tryz.func74, Tryz.ntmps74
 go_wp2
 go_loopw [10] (fun v10 wr => ∃ i : Nat, v10 = .int .i64 i ∧ i ≤ m ∧ St w wr [.box (w.heap.size + 1) [.int .i64 m, .slice A1 E.length c1], .box w.heap.size [.int .i64 n, .slice A0 D.length c0], .ro (.slice A2 k c2) UI, .ro (.slice A3 m c3) RI, .ro (.slice A1 E.length c1) E, .ro (.slice A0 D.length c0) D] ∧ Hid (R = (rows.drop i).any fun x => ok n D m E used x && bt n D m E rows f (used ++ [x]))) (fun v10 _ => m - (intOf v10).toNat)
 case atStart => exact ⟨0, rfl, by omega, h2, HR⟩
 case round =>
  clear h2 HR
  obtain ⟨i, rfl, a1, g, HR⟩ := hrel
  by_cases hi : i < m
  ·have ii : (i : Int) < (m : Int) := by omega
   have HRs := Lib.hid (HR.out.trans (HDr.out i _ hi))
   obtain ⟨b3, o3, rfl, _, z3⟩ := (g.ro 3 rfl).cell (k := i) (by rw [HRl.out]; exact hi)
   rw [HRv.out] at z3
   have hxn := HRb.out i hi
   obtain ⟨x, hx⟩ : ∃ x, x = rows.getD i 0 := ⟨_, rfl⟩
   rw [← hx] at z3 hxn HRs
   have hok := HOk.out x
   obtain ⟨bt1, hbt1⟩ : ∃ bt1, bt1 = bt n D m E rows f (used ++ [x]) := ⟨_, rfl⟩
   have HIh1 := Lib.hid (fun v W x1 x2 x3 x4 => HIh.out x hxn v W x1 x2 x3 x4)
   rw [← hbt1] at HIh1
   have HFd1 := Lib.hid (fun W x1 => HFd.out x W x1)
   have hfn := HFn.out x
   obtain ⟨F, hF⟩ : ∃ F, F = found UI (x : Int) := ⟨_, rfl⟩
   rw [← hF] at hfn HFd1
   have HR1 := Lib.hid (show R = ((ok n D m E used x && bt1) || (rows.drop (i + 1)).any fun x => ok n D m E used x && bt n D m E rows f (used ++ [x])) by rw [HRs.out, hbt1])
   have HZ := Lib.hid (fun (W : World) (h : Ints W (.slice (some ⟨b3, o3, none⟩) m c3) RI) => (show W.cell? ⟨b3, o3 + i, none⟩ = some (.int .i64 x) by
    obtain ⟨b, off, e, _, hc⟩ := h.toB.cell (k := i) (by rw [HRl.out]; exact hi)
    simp only [Option.some.injEq, Addr.mk.injEq] at e
    obtain ⟨rfl, rfl, _⟩ := e
    rw [HRv.out, ← hx] at hc
    exact hc))
   clear hbt1 hF HRs HR hx
   by_cases hu : x ∈ used
   ·have hF0 := hfn.2 hu
    have hok0 : ok n D m E used x = false := by rw [hok, show used.contains x = true by simpa using hu]; rfl
    have HR2 := Lib.hid (show R = (rows.drop (i + 1)).any fun x => ok n D m E used x && bt n D m E rows f (used ++ [x]) by rw [HR1.out, hok0]; rfl)
    clear hok hok0 hu hfn HR1
    go_wp2_with fail
    refine (HFd1.out _ (g.roInts 2 rfl)).mono ?_
    rintro (e : Ending) w3 ⟨rfl, rfl⟩
    go_wp2
    go_roundw
    case rel => exact ⟨i + 1, by go_num, by omega, g, HR2⟩
    case measure => simp [intOf]; omega
   ·have hF0 : ¬ (0 ≤ F) := fun h => hu (hfn.1 h)
    obtain ⟨PP, hPP⟩ : ∃ PP, PP = (List.range' 0 (k + 1)).all (prS n D m E used x) := ⟨_, rfl⟩
    have hok1 : ok n D m E used x = PP := by rw [hok, show used.contains x = false by simpa using hu, hPP]; rfl
    have HR2 := Lib.hid (show R = ((PP && bt1) || (rows.drop (i + 1)).any fun x => ok n D m E used x && bt n D m E rows f (used ++ [x])) by rw [HR1.out, hok1])
    have HPP := Lib.hid (show PP = (List.range' 0 (k + 1 - 0)).all (prS n D m E used x) from hPP)
    have HSm := Lib.hid (show (used ++ [x]).map Int.ofNat = UI ++ [(x : Int)] by rw [List.map_append, ← HUI.out]; rfl)
    have HLn := Lib.hid (show UI.length + [(x : Int)].length ≤ 17592186044416 by rw [HUl.out]; simp only [List.length_singleton]; omega)
    clear hok hok1 hu hfn HR1 hPP
    go_wp2_with fail
    refine (HFd1.out _ (g.roInts 2 rfl)).mono ?_
    rintro (e : Ending) w3 ⟨rfl, rfl⟩
    go_upto_region 8 with fail
    go_cut [11] from 20 to 88 (fun s11 wx => ∃ (Ax : Option Addr) (nx cx : Nat), s11 = .slice Ax nx cx ∧ St w wx [.own (.slice Ax nx cx) (UI ++ [(x : Int)]), .box (w.heap.size + 1) [.int .i64 m, .slice A1 E.length c1], .box w.heap.size [.int .i64 n, .slice A0 D.length c0], .ro (.slice A2 k c2) UI, .ro (.slice (some ⟨b3, o3, none⟩) m c3) RI, .ro (.slice A1 E.length c1) E, .ro (.slice A0 D.length c0) D])
    case first =>
     have g0 := g.drew
     have z3' : wr.drew.cell? ⟨b3, o3 + i, none⟩ = some (.int .i64 x) := z3
     refine wp_region_held_drew (S := fun w' => w'.cell? ⟨b3, o3 + i, none⟩ = some (.int .i64 x)) (by kernel_rfl) z3' (fun hHeld => ?_)
     refine tkA 0 hHeld ?_
     refine tkA 2 hHeld ?_
     refine tkA 3 hHeld ?_
     refine tkA 4 hHeld ?_
     refine tkA 5 hHeld ?_
     refine wpAnyH_ready (rs := [1, 6]) (by kernel_rfl) (by simp) ?_
     refine ready_cons rfl (fun K hK => ?_) (ready_cons rfl (fun K hK => ?_) AllReadyH.nil)
     ·go_simp
      refine (HLi.out _ (g0.roInts 2 rfl)).mono ?_
      rintro (e : Ending) w4 ⟨u4, rfl, ho4, hb4⟩
      obtain ⟨A4, n4, c4, rfl⟩ := ho4.slice
      have g5 := g0.pushOwn hb4 ho4
      show K _ _
      refine outA hK ?_ fun hHeld => ?_
      ·exact HZ.out _ (g5.roInts 4 rfl)
      clear hK K
      refine rcA 6 fun K hK => ?_
      go_simp
      have g1 := g5.litInt x
      refine outA hK ?_ fun hHeld => ?_
      ·exact (HZ.out _ (g1.roInts 5 rfl))
      clear hK K
      refine rcA 7 fun K hK => ?_
      refine step_app rfl (.tmp 34) (.tmp 39) rfl g1 1 rfl (g1.ownInts 0 rfl) HLn.out rfl rfl fun vA w6 g2 => ?_
      simp only [List.set_cons_zero, List.set_cons_succ] at g2
      obtain ⟨A6, n6, c6, rfl⟩ := (g2.own 1 rfl).slice
      refine outA hK ?_ fun hHeld => ?_
      ·exact HZ.out _ (g2.roInts 5 rfl)
      clear hK K
      refine tkA 8 hHeld ?_
      refine wpAnyH_done (by kernel_rfl) ?_ _
      clear hHeld
      have g3 := g2.drop 1
      simp only [List.drop_succ_cons, List.drop_zero] at g3
      go_wp2
      go_meet
      exact ⟨_, _, _, rfl, g3⟩
     ·go_simp
      have g5 := g0.litInt x
      refine outA hK ?_ fun hHeld => ?_
      ·exact (HZ.out _ (g5.roInts 4 rfl))
      clear hK K
      refine rcA 1 fun K hK => ?_
      go_simp
      refine (HLi.out _ (g5.roInts 3 rfl)).mono ?_
      rintro (e : Ending) w4 ⟨u4, rfl, ho4, hb4⟩
      obtain ⟨A4, n4, c4, rfl⟩ := ho4.slice
      have g1 := (g5.pushOwn hb4 ho4).swap2
      show K _ _
      refine outA hK ?_ fun hHeld => ?_
      ·exact (HZ.out _ (g1.roInts 5 rfl))
      clear hK K
      refine rcA 7 fun K hK => ?_
      refine step_app rfl (.tmp 34) (.tmp 39) rfl g1 1 rfl (g1.ownInts 0 rfl) HLn.out rfl rfl fun vA w6 g2 => ?_
      simp only [List.set_cons_zero, List.set_cons_succ] at g2
      obtain ⟨A6, n6, c6, rfl⟩ := (g2.own 1 rfl).slice
      refine outA hK ?_ fun hHeld => ?_
      ·exact HZ.out _ (g2.roInts 5 rfl)
      clear hK K
      refine tkA 8 hHeld ?_
      refine wpAnyH_done (by kernel_rfl) ?_ _
      clear hHeld
      have g3 := g2.drop 1
      simp only [List.drop_succ_cons, List.drop_zero] at g3
      go_wp2
      go_meet
      exact ⟨_, _, _, rfl, g3⟩
    case rest =>
    obtain ⟨Ax, nx, cx, rfl, g4⟩ := hcut
    have hXl : (UI ++ [(x : Int)]).length = k + 1 := by rw [List.length_append, HUl.out]; rfl
    obtain ⟨gx, rfl, hnx⟩ := g4.ownSome 0 rfl (by rw [hXl]; omega)
    rw [hXl] at hnx
    obtain ⟨kx, hkx⟩ : ∃ kx, kx = nx := ⟨_, rfl⟩
    obtain ⟨UX, hUX⟩ : ∃ UX, UX = UI ++ [(x : Int)] := ⟨_, rfl⟩
    rw [← hUX] at g4 hXl
    have HXl := Lib.hid hXl
    have HUX := Lib.hid hUX
    have HNx := Lib.hid hnx
    have HVx := Lib.hid (fun (q : Nat) => show vec UX q = (((used ++ [x]).getD q 0 : Nat) : Int) by rw [hUX, ← HSm.out, vec_nat])
    have HVk := Lib.hid (show (used ++ [x]).getD k 0 = x by rw [getD_app, if_neg (by rw [← Hk.out]; omega), ← Hk.out, Nat.sub_self]; rfl)
    have HVn := Lib.hid (fun (q : Nat) (hq : q ≤ k) => show (used ++ [x]).getD q 0 < n by
     by_cases hqk : q = k
     ·rw [hqk, HVk.out]; exact hxn
     ·rw [getD_app, if_pos (by rw [← Hk.out]; omega)]
      exact HB.out q (by omega))
    clear g hXl hUX hnx hkx kx z3
    go_wp2
    go_loopw [12, 13] (fun v12 v13 wr => ∃ (j : Nat) (okv : Bool), v12 = .bool okv ∧ v13 = .int .i64 j ∧ j ≤ k + 1 ∧ St w wr [.own (.slice (some ⟨gx, 0, none⟩) nx cx) UX, .box (w.heap.size + 1) [.int .i64 m, .slice A1 E.length c1], .box w.heap.size [.int .i64 n, .slice A0 D.length c0], .ro (.slice A2 k c2) UI, .ro (.slice (some ⟨b3, o3, none⟩) m c3) RI, .ro (.slice A1 E.length c1) E, .ro (.slice A0 D.length c0) D] ∧ Hid (PP = (okv && (List.range' j (k + 1 - j)).all (prS n D m E used x)))) (fun _ v13 _ => k + 1 - (intOf v13).toNat)
    case atStart => exact ⟨0, true, rfl, rfl, by omega, g4, HPP⟩
    case round =>
     clear g4 HPP
     obtain ⟨j, okv, rfl, rfl, a2, g, HP⟩ := hrel
     by_cases hj : j ≤ k
     ·have ij : (j : Int) ≤ (k : Int) := by omega
      have hyn := HVn.out j hj
      have ijx : (j : Int) < (nx : Int) := by rw [HNx.out]; omega
      have ikx : (k : Int) < (nx : Int) := by rw [HNx.out]; omega
      have hprs : prS n D m E used x j = ((en n D x ((used ++ [x]).getD j 0) == en m E k j) && (en n D ((used ++ [x]).getD j 0) x == en m E j k)) := by unfold prS; rw [← Hk.out]
      obtain ⟨y, hy⟩ : ∃ y, y = (used ++ [x]).getD j 0 := ⟨_, rfl⟩
      rw [← hy] at hyn hprs
      have HYk := Lib.hid (fun (W : World) (L : List It) (h : St w W (.own (.slice (some ⟨gx, 0, none⟩) nx cx) UX :: L)) => (show W.cell? ⟨gx, k, none⟩ = some (.int .i64 x) by
       have := (h.ownCell 0 rfl (q := k) (by rw [HXl.out]; omega)).1
       rwa [HVx.out, HVk.out] at this))
      have HYj := Lib.hid (fun (W : World) (L : List It) (h : St w W (.own (.slice (some ⟨gx, 0, none⟩) nx cx) UX :: L)) => (show W.cell? ⟨gx, j, none⟩ = some (.int .i64 y) by
       have := (h.ownCell 0 rfl (q := j) (by rw [HXl.out]; omega)).1
       rwa [HVx.out, ← hy] at this))
      have HA1 := Lib.hid (fun W x1 => HAt.out W x y hxn hyn x1)
      have HA2 := Lib.hid (fun W x1 => HAt.out W y x hyn hxn x1)
      have HW1 := Lib.hid (fun W x1 => HWt.out W k j hkm (by omega) x1)
      have HW2 := Lib.hid (fun W x1 => HWt.out W j k (by omega) hkm x1)
      obtain ⟨da, hda⟩ : ∃ da, da = en n D x y := ⟨_, rfl⟩
      obtain ⟨ea, hea⟩ : ∃ ea, ea = en m E k j := ⟨_, rfl⟩
      obtain ⟨db, hdb⟩ : ∃ db, db = en n D y x := ⟨_, rfl⟩
      obtain ⟨eb, heb⟩ : ∃ eb, eb = en m E j k := ⟨_, rfl⟩
      rw [← hda] at HA1 hprs
      rw [← hdb] at HA2 hprs
      rw [← hea] at HW1 hprs
      rw [← heb] at HW2 hprs
      have HP2 := Lib.hid (show PP = ((okv && ((da == ea) && (db == eb))) && (List.range' (j + 1) (k + 1 - (j + 1))).all (prS n D m E used x)) by rw [HP.out, all_cons _ (by omega), hprs]; simp only [Bool.and_assoc])
      clear hda hea hdb heb hprs hy HP
      have g0 := g.drew
      cases okv with
      | false =>
       go_upto_region 13 with fail
       refine wp_region_held_drew (S := fun w' => True) (by kernel_rfl) trivial (fun hHeld => ?_)
       refine tkA 0 hHeld ?_
       refine tkA 1 hHeld ?_
       refine skA 2 hHeld ?_
       refine skA 3 hHeld ?_
       refine skA 4 hHeld ?_
       refine skA 5 hHeld ?_
       refine skA 6 hHeld ?_
       refine skA 7 hHeld ?_
       refine skA 8 hHeld ?_
       refine skA 9 hHeld ?_
       refine skA 10 hHeld ?_
       refine skA 11 hHeld ?_
       refine skA 12 hHeld ?_
       refine skA 13 hHeld ?_
       refine skA 14 hHeld ?_
       refine skA 15 hHeld ?_
       refine skA 16 hHeld ?_
       refine tkA 17 hHeld ?_
       refine tkA 18 hHeld ?_
       refine skA 19 hHeld ?_
       refine skA 20 hHeld ?_
       refine skA 21 hHeld ?_
       refine skA 22 hHeld ?_
       refine skA 23 hHeld ?_
       refine skA 24 hHeld ?_
       refine skA 25 hHeld ?_
       refine skA 26 hHeld ?_
       refine skA 27 hHeld ?_
       refine skA 28 hHeld ?_
       refine skA 29 hHeld ?_
       refine skA 30 hHeld ?_
       refine skA 31 hHeld ?_
       refine skA 32 hHeld ?_
       refine skA 33 hHeld ?_
       refine tkA 34 hHeld ?_
       refine tkA 35 hHeld ?_
       refine wpAnyH_done (by kernel_rfl) ?_ _
       clear hHeld
       clear g
       go_wp2
       go_roundw
       case rel => exact ⟨j + 1, false, rfl, by go_num, by omega, g0, Lib.hid (by rw [HP2.out]; rfl)⟩
       case measure => simp [intOf]; omega
      | true =>
       go_upto_region 13 with fail
       refine wp_region_held_drew (S := fun w' => (w'.cell? ⟨w.heap.size, 0, none⟩ = some (.int .i64 n) ∧ w'.cell? ⟨w.heap.size, 1, none⟩ = some (.slice A0 D.length c0)) ∧ (w'.cell? ⟨w.heap.size + 1, 0, none⟩ = some (.int .i64 m) ∧ w'.cell? ⟨w.heap.size + 1, 1, none⟩ = some (.slice A1 E.length c1)) ∧ w'.cell? ⟨gx, k, none⟩ = some (.int .i64 x) ∧ w'.cell? ⟨gx, j, none⟩ = some (.int .i64 y)) (by kernel_rfl) ⟨g0.box2 2 rfl, g0.box2 1 rfl, HYk.out _ _ g0, HYj.out _ _ g0⟩ (fun hHeld => ?_)
       obtain ⟨v0, hv0, g8⟩ : ∃ v0, v0 = wr.drew ∧ St w v0 _ := ⟨_, rfl, g0⟩
       rw [← hv0] at g0 hHeld ⊢
       clear hv0 g8 g
       refine tkA 0 hHeld ?_
       refine tkA 1 hHeld ?_
       refine tkA 2 hHeld ?_
       refine tkA 3 hHeld ?_
       refine tkA 4 hHeld ?_
       refine tkA 5 hHeld ?_
       refine tkA 6 hHeld ?_
       refine tkA 7 hHeld ?_
       refine tkA 8 hHeld ?_
       refine tkA 9 hHeld ?_
       refine tkA 10 hHeld ?_
       refine tkA 12 hHeld ?_
       refine tkA 13 hHeld ?_
       refine tkA 14 hHeld ?_
       refine rcA 11 fun K hK => ?_
       go_simp
       refine (HA1.out _ (g0.roInts 6 rfl)).mono ?_
       rintro (e : Ending) w4 ⟨rfl, hb4⟩
       have g1 := g0.on hb4
       show K _ _
       refine outA hK ?_ fun hHeld => ?_
       ·exact ⟨g1.box2 2 rfl, g1.box2 1 rfl, HYk.out _ _ g1, HYj.out _ _ g1⟩
       clear hK K
       refine rcA 15 fun K hK => ?_
       go_simp
       refine (HW1.out _ (g1.roInts 5 rfl)).mono ?_
       rintro (e : Ending) w5 ⟨rfl, hb5⟩
       have g2 := g1.on hb5
       show K _ _
       refine outA hK ?_ fun hHeld => ?_
       ·exact ⟨g2.box2 2 rfl, g2.box2 1 rfl, HYk.out _ _ g2, HYj.out _ _ g2⟩
       clear hK K
       by_cases h1 : da = ea
       ·subst h1
        refine tkA 16 hHeld ?_
        refine tkA 17 hHeld ?_
        refine tkA 18 hHeld ?_
        refine tkA 19 hHeld ?_
        refine tkA 20 hHeld ?_
        refine tkA 21 hHeld ?_
        refine tkA 22 hHeld ?_
        refine tkA 23 hHeld ?_
        refine tkA 24 hHeld ?_
        refine tkA 25 hHeld ?_
        refine tkA 26 hHeld ?_
        refine tkA 27 hHeld ?_
        refine tkA 29 hHeld ?_
        refine tkA 30 hHeld ?_
        refine tkA 31 hHeld ?_
        refine rcA 28 fun K hK => ?_
        go_simp
        refine (HA2.out _ (g2.roInts 6 rfl)).mono ?_
        rintro (e : Ending) w6 ⟨rfl, hb6⟩
        have g3 := g2.on hb6
        show K _ _
        refine outA hK ?_ fun hHeld => ?_
        ·exact ⟨g3.box2 2 rfl, g3.box2 1 rfl, HYk.out _ _ g3, HYj.out _ _ g3⟩
        clear hK K
        refine rcA 32 fun K hK => ?_
        go_simp
        refine (HW2.out _ (g3.roInts 5 rfl)).mono ?_
        rintro (e : Ending) w7 ⟨rfl, hb7⟩
        have g4 := g3.on hb7
        show K _ _
        refine outA hK ?_ fun hHeld => ?_
        ·exact ⟨g4.box2 2 rfl, g4.box2 1 rfl, HYk.out _ _ g4, HYj.out _ _ g4⟩
        clear hK K
        refine tkA 33 hHeld ?_
        refine tkA 34 hHeld ?_
        refine tkA 35 hHeld ?_
        refine wpAnyH_done (by kernel_rfl) ?_ _
        clear hHeld
        clear g0 g1 g2 g3
        go_wp2
        go_roundw
        case rel => exact ⟨j + 1, db == eb, rfl, by go_num, by omega, g4, Lib.hid (by rw [HP2.out]; simp)⟩
        case measure => simp [intOf]; omega
       ·have t1 : (da == ea) = false := by rw [beq_eq_false_iff_ne]; exact h1
        refine tkA 16 hHeld ?_
        refine tkA 17 hHeld ?_
        refine tkA 18 hHeld ?_
        refine skA 19 hHeld ?_
        refine skA 20 hHeld ?_
        refine skA 21 hHeld ?_
        refine skA 22 hHeld ?_
        refine skA 23 hHeld ?_
        refine skA 24 hHeld ?_
        refine skA 25 hHeld ?_
        refine skA 26 hHeld ?_
        refine skA 27 hHeld ?_
        refine skA 28 hHeld ?_
        refine skA 29 hHeld ?_
        refine skA 30 hHeld ?_
        refine skA 31 hHeld ?_
        refine skA 32 hHeld ?_
        refine skA 33 hHeld ?_
        refine tkA 34 hHeld ?_
        refine tkA 35 hHeld ?_
        refine wpAnyH_done (by kernel_rfl) ?_ _
        clear hHeld
        have HT1 := Lib.hid t1
        clear g0 g1 t1 h1
        go_wp2
        go_roundw
        case rel => exact ⟨j + 1, false, rfl, by go_num, by omega, g2, Lib.hid (by rw [HP2.out, HT1.out]; simp)⟩
        case measure => simp [intOf]; omega
     ·obtain rfl : j = k + 1 := by omega
      have hPf : PP = okv := by rw [HP.out, Nat.sub_self]; simp
      subst hPf
      clear HP
      have ij : ¬ (((k : Int) + 1) ≤ (k : Int)) := by omega
      cases PP with
      | false =>
       have HR3 := Lib.hid (show R = (rows.drop (i + 1)).any fun x => ok n D m E used x && bt n D m E rows f (used ++ [x]) by rw [HR2.out]; rfl)
       have g5 := g.drop 1
       simp only [List.drop_succ_cons, List.drop_zero] at g5
       go_wp2
       go_roundw
       case rel => exact ⟨i + 1, by go_num, by omega, g5, HR3⟩
       case measure => simp [intOf]; omega
      | true =>
       obtain ⟨z0, z1⟩ := g.box2 1 rfl
       obtain ⟨z2, z3⟩ := g.box2 2 rfl
       go_wp2_with fail
       refine (HIh1.out _ _ (g.roInts 6 rfl) (g.roInts 5 rfl) (by rw [HSm.out, ← HUX.out]; exact g.ownInts 0 rfl) (g.roInts 4 rfl)).mono ?_
       rintro (e : Ending) w7 ⟨rfl, hb7⟩
       have g5 := (g.on hb7).drop 1
       simp only [List.drop_succ_cons, List.drop_zero] at g5
       clear g z0 z1 z2 z3 hb7
       cases bt1 with
       | true =>
        have HRt := Lib.hid (show R = true by rw [HR2.out]; rfl)
        go_wp2
        go_ret
        exact ⟨ret_bool (by rw [HRt.out]), g5.below⟩
       | false =>
        have HR3 := Lib.hid (show R = (rows.drop (i + 1)).any fun x => ok n D m E used x && bt n D m E rows f (used ++ [x]) by rw [HR2.out]; rfl)
        go_wp2
        go_roundw
        case rel => exact ⟨i + 1, by go_num, by omega, g5, HR3⟩
        case measure => simp [intOf]; omega
  ·obtain rfl : i = m := by omega
   have HRe := Lib.hid (show R = false by rw [HR.out, List.drop_eq_nil_of_le (by rw [Hrl.out]; exact Nat.le_refl _)]; rfl)
   go_wp2
   go_ret
   exact ⟨ret_bool (by rw [HRe.out]), g.below⟩
end Car
end Go.Proofs.YtbnefjhljfbecaaGreatDoor
