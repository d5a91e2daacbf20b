/- Relations of Serre, the reference: SerreOk. -/
import Derived.Test.YtcngijafnnmccaaGreatDoorSrrD
import Derived.Test.YtcngijafnnmccaaGreatDoorAdjA
namespace Go.Proofs.YtcngijafnnmccaaGreatDoor
set_option maxRecDepth 100000
open Go.RowKit
namespace Srr
open Stp Car

def vF (p n : Int) (E F : List (List Int)) (i : Nat) : Bool := vecOk p n (rowOf E i) && vecOk p n (rowOf F i)
def fM (p : Int) (n : Nat) (T : List Int) (r : Nat) (D : List Int) (E F : List (List Int)) (i : Nat) : Bool := (List.range' 0 (r - 0)).all fun j => sM p n T r D E F i j
theorem mulL_length {p k : Int} {X : List Int} {n : Nat} (h : X.length = n) : (mulL p k X).length = n := by rw [length_mulL, h]
set_option maxHeartbeats 8000000 in
theorem SerreOkS_any (p N r : Int) (t d ve vf : Value) (T D : List Int) (E F : List (List Int)) (w : World) (ht : Ints w t T) (hd : Ints w d D) (hv : IntRows w ve E) (hu : IntRows w vf F) :
    Calls Tryz.prog 7 #[.agg #[.int .i64 p, .int .i64 N, t], .agg #[.int .i64 r, d], ve, vf] w (RetBool w (serOk p N T r D E F)) := by
  have g := ((((St.start w).arg hd).arg ht).box [.int .i64 p, .int .i64 N, t] 32).box [.int .i64 r, d] 34
  simp only [World.size_alloc] at g
  obtain ⟨A, c, rfl, _, _, _⟩ := id hv
  obtain ⟨A', c', rfl, _, _, _⟩ := id hu
  obtain ⟨X, hX⟩ : ∃ X, X = serOk p N T r D E F := ⟨_, rfl⟩
  rw [← hX]
  obtain ⟨z0, z1⟩ := g.box2 0 rfl
  obtain ⟨y0, y1, y2⟩ := g.box3 1 rfl
  unfold serOk at hX
  have HA := Lib.hid (fun (W : World) (x : Ints W t T) => AlgebraOkS_any p N t T W x)
  have HC := Lib.hid (fun (W : World) (x : Ints W d D) => IsCartanS_any r d D W x)
  obtain ⟨a1, ha1⟩ : ∃ a1, a1 = algOk p N T := ⟨_, rfl⟩
  obtain ⟨a2, ha2⟩ : ∃ a2, a2 = carB r D := ⟨_, rfl⟩
  rw [← ha1] at HA hX
  rw [← ha2] at HC hX
  cases a1 with
  | false =>
    obtain rfl : X = false := hX
    clear ha1 ha2 ht hd hv hu HC
    go_enter Tryz.func7, Tryz.ntmps7
    go_wp2_with fail
    refine (HA.out _ (g.roInts 2 rfl)).mono ?_
    rintro (e : Ending) w3 ⟨rfl, hb3⟩
    have g3 := g.on hb3
    go_wp2
    go_ret
    exact ⟨rfl, g3.below⟩
  | true =>
  cases a2 with
  | false =>
    obtain rfl : X = false := hX
    clear ha1 ha2 ht hd hv hu
    go_enter Tryz.func7, Tryz.ntmps7
    go_wp2_with fail
    refine (HA.out _ (g.roInts 2 rfl)).mono ?_
    rintro (e : Ending) w3 ⟨rfl, hb3⟩
    have g3 := g.on hb3
    clear z0 z1 y0 y1 y2
    obtain ⟨z0, z1⟩ := g3.box2 0 rfl
    go_wp2_with fail
    refine (HC.out _ (g3.roInts 3 rfl)).mono ?_
    rintro (e : Ending) w4 ⟨rfl, hb4⟩
    have g4 := g3.on hb4
    go_wp2
    go_ret
    exact ⟨rfl, g4.below⟩
  | true =>
  obtain ⟨n, rfl, hn, hT, rT, hp, hp', _⟩ := algOk_spec ha1.symm
  obtain ⟨m, rfl, m1, m4, hD, hen⟩ := carB_spec ha2.symm
  simp only [Bool.true_and, Int.toNat_natCast] at hX
  clear ha1 ha2
  by_cases l1 : E.length = m
  case neg =>
    have e1 : decide ((E.length : Int) = m) = false := decide_eq_false (by omega)
    rw [e1] at hX
    obtain rfl : X = false := hX
    have l2 : ¬ (E.length : Int) = (m : Int) := by omega
    obtain ⟨el, hel⟩ : ∃ el, el = E.length := ⟨_, rfl⟩
    obtain ⟨fl, hfl⟩ : ∃ fl, fl = F.length := ⟨_, rfl⟩
    rw [← hel] at l2 ⊢
    rw [← hfl]
    clear e1 l1 ht hd hv hu hT hD hen hel hfl rT
    go_enter Tryz.func7, Tryz.ntmps7
    go_wp2_with fail
    refine (HA.out _ (g.roInts 2 rfl)).mono ?_
    rintro (e : Ending) w3 ⟨rfl, hb3⟩
    have g3 := g.on hb3
    clear z0 z1 y0 y1 y2
    obtain ⟨z0, z1⟩ := g3.box2 0 rfl
    go_wp2_with fail
    refine (HC.out _ (g3.roInts 3 rfl)).mono ?_
    rintro (e : Ending) w4 ⟨rfl, hb4⟩
    have g4 := g3.on hb4
    clear z0 z1
    obtain ⟨z0, z1⟩ := g4.box2 0 rfl
    go_wp2
    go_ret
    exact ⟨rfl, g4.below⟩
  by_cases l2 : F.length = m
  case neg =>
    have e1 : decide ((F.length : Int) = m) = false := decide_eq_false (by omega)
    rw [e1, Bool.false_and, Bool.and_false] at hX
    obtain rfl : X = false := hX
    have l2 : ¬ (F.length : Int) = (m : Int) := by omega
    obtain ⟨el, hel⟩ : ∃ el, el = E.length := ⟨_, rfl⟩
    obtain ⟨fl, hfl⟩ : ∃ fl, fl = F.length := ⟨_, rfl⟩
    rw [← hfl] at l2 ⊢
    rw [l1]
    clear e1 l1 ht hd hv hu hT hD hen hel hfl rT
    go_enter Tryz.func7, Tryz.ntmps7
    go_wp2_with fail
    refine (HA.out _ (g.roInts 2 rfl)).mono ?_
    rintro (e : Ending) w3 ⟨rfl, hb3⟩
    have g3 := g.on hb3
    clear z0 z1 y0 y1 y2
    obtain ⟨z0, z1⟩ := g3.box2 0 rfl
    go_wp2_with fail
    refine (HC.out _ (g3.roInts 3 rfl)).mono ?_
    rintro (e : Ending) w4 ⟨rfl, hb4⟩
    have g4 := g3.on hb4
    clear z0 z1
    obtain ⟨z0, z1⟩ := g4.box2 0 rfl
    go_wp2
    go_ret
    exact ⟨rfl, g4.below⟩
  rw [decide_eq_true (by omega : (E.length : Int) = m), decide_eq_true (by omega : (F.length : Int) = m), Bool.true_and, Bool.true_and] at hX
  rw [l1] at hv ⊢
  rw [l2] at hu ⊢
  obtain ⟨Y, hY⟩ : ∃ Y, Y = serS p n T m D E F := ⟨_, rfl⟩
  have HY := Lib.hid (show Y = ((List.range' 0 (m - 0)).all (fM p n T m D E F) && (serV p n T m D E && serV p n T m D F)) from hY)
  rw [← hY] at hX
  have HX : Hid (X = ((List.range' 0 (m - 0)).all (vF p n E F) && Y)) := hX
  have Hv := Lib.hid hv
  have Hu := Lib.hid hu
  have HlE := Lib.hid l1
  have HlF := Lib.hid l2
  have Hen := Lib.hid hen
  obtain ⟨At, ct, hte, _, _, _⟩ := id ht
  have HV2 := Lib.hid (fun (Z : List Int) (W : World) (z : Value) (x : Ints W z Z) => l2Vector_any p n t z At _ ct Z W hte x)
  have HB := Lib.hid (fun (X Y : List Int) (hX : X.length = n ∧ resid p X = true) (hY : Y.length = n ∧ resid p Y = true) (W : World) (x y : Value) (x0 : Ints W t T) (x1 : Ints W x X) (x2 : Ints W y Y) => l2Bracket_any p n t x y T X Y _ W x0.toB x1.toB x2.toB (Nat.le_refl _) hT hX.1 hY.1 hn hp hp' rT hX.2 hY.2)
  have Hb := Lib.hid (fun (X Y : List Int) => (⟨length_braL T X Y n p, resid_braL T X Y n hp⟩ : (braL T X Y n p).length = n ∧ resid p (braL T X Y n p) = true))
  have HAt := Lib.hid (fun (i j : Nat) (hi : i < m) (hj : j < m) (W : World) (x : Ints W d D) => l5At_any m d D i j W x hD m4 hi hj)
  have HMu := Lib.hid (fun (k : Int) (Z : List Int) (hZ : Z.length = n ∧ resid p Z = true) (hk : -1000 ≤ k ∧ k ≤ 1000) (W : World) (z : Value) (x : Ints W z Z) => l7Multiple_any p k z Z W x (by rw [hZ.1]; omega) (by omega) hp' (by omega) (fun i => by
    have := resid_vec' hZ.2 (by omega) i
    omega))
  have HS := Lib.hid (fun (W : World) (hh : ∀ i, i < m → (rowOf E i).length = n ∧ resid p (rowOf E i) = true) (x0 : Ints W t T) (x1 : Ints W d D) (x2 : IntRows W (.slice A m c) E) => l7Serre_any p n m T D E t d (.slice A m c) W x0 x1 x2 l1 hD m4 hen hT hn hp hp' rT hh)
  have HS2 := Lib.hid (fun (W : World) (hh : ∀ i, i < m → (rowOf F i).length = n ∧ resid p (rowOf F i) = true) (x0 : Ints W t T) (x1 : Ints W d D) (x2 : IntRows W (.slice A' m c') F) => l7Serre_any p n m T D F t d (.slice A' m c') W x0 x1 x2 l2 hD m4 hen hT hn hp hp' rT hh)
  obtain ⟨V1, hV1⟩ : ∃ V1, V1 = serV p n T m D E := ⟨_, rfl⟩
  obtain ⟨V2, hV2⟩ : ∃ V2, V2 = serV p n T m D F := ⟨_, rfl⟩
  rw [← hV1] at HS HY
  rw [← hV2] at HS2 HY
  clear l1 l2 hX hY hv hu ht hd hT hD hen rT hte hV1 hV2
  go_enter Tryz.func7, Tryz.ntmps7
  go_wp2_with fail
  refine (HA.out _ (g.roInts 2 rfl)).mono ?_
  rintro (e : Ending) w3 ⟨rfl, hb3⟩
  have g3 := g.on hb3
  clear z0 z1 y0 y1 y2 HA
  obtain ⟨z0, z1⟩ := g3.box2 0 rfl
  go_wp2_with fail
  refine (HC.out _ (g3.roInts 3 rfl)).mono ?_
  rintro (e : Ending) w4 ⟨rfl, hb4⟩
  have g4 := (g3.on hb4)
  clear z0 z1 g g3 hb3 hb4 HC
  obtain ⟨z0, z1⟩ := g4.box2 0 rfl
  have g5 := g4.emptyRows
  clear g4
  go_wp2
  clear z0 z1
  go_loopw [9, 10] (fun v9 v10 wr => ∃ (i : Nat) (us : List Value), v10 = .int .i64 i ∧ i ≤ m ∧ St w wr [rowsIt v9 us (HH p n T E F i), .box (w.heap.size + 1) [.int .i64 m, d], .box w.heap.size [.int .i64 p, .int .i64 n, t], .ro t T, .ro d D] ∧ Hid (us.length = i) ∧ Hid (X = ((List.range' i (m - i)).all (vF p n E F) && Y)) ∧ Hid (∀ k, k < i → vF p n E F k = true)) (fun _ v10 _ => m - (intOf v10).toNat)
  case atStart => exact ⟨0, [], rfl, by omega, g5, rfl, HX, fun k hk => absurd hk (by omega)⟩
  case round =>
    clear g5 HX
    obtain ⟨i, us, rfl, a1, g, Hul, HX, Hok⟩ := hrel
    obtain ⟨z0, z1⟩ := g.box2 1 rfl
    by_cases hi : i < m
    · have ii : (i : Int) < (m : Int) := by omega
      have hiE : i < E.length := by rw [HlE.out]; exact hi
      have hiF : i < F.length := by rw [HlF.out]; exact hi
      obtain ⟨be, oe, A1, c1, rfl, m1'⟩ := Hv.out.at (i := i) hiE
      obtain ⟨bf, of_, A2, c2, rfl, m2'⟩ := Hu.out.at (i := i) hiF
      rw [rowOf_eq hiE] at m1'
      rw [rowOf_eq hiF] at m2'
      have HXs := Lib.hid (show X = ((vF p n E F i && (List.range' (i + 1) (m - (i + 1))).all (vF p n E F)) && Y) by rw [HX.out, all_cons _ hi])
      have HV3 := Lib.hid (HV2.out (rowOf E i))
      have HV4 := Lib.hid (HV2.out (rowOf F i))
      have hvf : vF p n E F i = (vecOk p n (rowOf E i) && vecOk p n (rowOf F i)) := rfl
      obtain ⟨b1, hb1⟩ : ∃ b1, b1 = vecOk p n (rowOf E i) := ⟨_, rfl⟩
      obtain ⟨b2, hb2⟩ : ∃ b2, b2 = vecOk p n (rowOf F i) := ⟨_, rfl⟩
      rw [← hb1] at HV3 hvf
      rw [← hb2] at HV4 hvf
      have Hvf := Lib.hid hvf
      have g2 := (g.pushOld m1'.fact).pushOld m2'.fact
      obtain ⟨lE, hlE⟩ : ∃ lE, lE = (rowOf E i).length := ⟨_, rfl⟩
      obtain ⟨lF, hlF⟩ : ∃ lF, lF = (rowOf F i).length := ⟨_, rfl⟩
      rw [← hlE, ← hlF] at g2
      have Hb1 := Lib.hid hb1
      have Hb2 := Lib.hid hb2
      have HBr := Lib.hid (fun (h1 : (rowOf E i).length = n ∧ resid p (rowOf E i) = true) (h2 : (rowOf F i).length = n ∧ resid p (rowOf F i) = true) => HB.out (rowOf E i) (rowOf F i) h1 h2)
      have HhF := Lib.hid (show hF p n T E F i = braL T (rowOf E i) (rowOf F i) n p from rfl)
      rw [← HhF.out] at HBr
      have HHs := Lib.hid (show HH p n T E F (i + 1) = HH p n T E F i ++ [hF p n T E F i] from HH_succ p n T E F i)
      have Hul2 := Lib.hid (show us.length = (HH p n T E F i).length by rw [length_HH]; exact Hul.out)
      have Hl3 := Lib.hid (show (HH p n T E F i).length + 1 ≤ 1099511627776 by rw [length_HH]; omega)
      obtain ⟨HL, hHL⟩ : ∃ HL, HL = HH p n T E F i := ⟨_, rfl⟩
      rw [← hHL] at g2 HHs Hul2 Hl3
      clear hb1 hb2 hlE hlF hvf g m1' m2' hHL
      cases b1 with
      | false =>
        go_upto_region 7 with fail
        have g0 := g2.drew
        refine wp_region_held_drew (S := fun w' => (w'.cell? ⟨w.heap.size, 0, none⟩ = some (.int .i64 p) ∧ w'.cell? ⟨w.heap.size, 1, none⟩ = some (.int .i64 n) ∧ w'.cell? ⟨w.heap.size, 2, none⟩ = some (t)) ∧ w'.cell? ⟨be, oe + i, none⟩ = some (.slice A1 lE c1) ∧ w'.cell? ⟨bf, of_ + i, none⟩ = some (.slice A2 lF c2)) (by kernel_rfl) ⟨g0.box3 4 rfl, (g0.fact 1 rfl).1, (g0.fact 0 rfl).1⟩ (fun hHeld => ?_)
        obtain ⟨v0, hv0, g8⟩ : ∃ v0, v0 = wr.drew ∧ St w v0 _ := ⟨_, rfl, g0⟩
        rw [← hv0] at g0 hHeld ⊢
        clear hv0 g8 g2
        refine anyH_take (v := ?_) 0 rfl (by kernel_rfl) (by kernel_rfl) (by kernel_rfl) (fun _ _ _ h => h) rfl ?_ hHeld ?_
        rotate_left
        · intro w' hSw
          go_simp
          try with_reducible rfl
        try simp only [Act.put, List.setIfInBounds_toArray, List.set_cons_zero, List.set_cons_succ]
        refine anyH_take (v := ?_) 1 rfl (by kernel_rfl) (by kernel_rfl) (by kernel_rfl) (fun _ _ _ h => h) rfl ?_ hHeld ?_
        rotate_left
        · intro w' hSw
          go_simp
          try with_reducible rfl
        try simp only [Act.put, List.setIfInBounds_toArray, List.set_cons_zero, List.set_cons_succ]
        refine anyH_take (v := ?_) 2 rfl (by kernel_rfl) (by kernel_rfl) (by kernel_rfl) (fun _ _ _ h => h) rfl ?_ hHeld ?_
        rotate_left
        · intro w' hSw
          go_simp
          try with_reducible rfl
        try simp only [Act.put, List.setIfInBounds_toArray, List.set_cons_zero, List.set_cons_succ]
        refine anyH_take (v := ?_) 3 rfl (by kernel_rfl) (by kernel_rfl) (by kernel_rfl) (fun _ _ _ h => h) rfl ?_ hHeld ?_
        rotate_left
        · intro w' hSw
          go_simp
          try with_reducible rfl
        try simp only [Act.put, List.setIfInBounds_toArray, List.set_cons_zero, List.set_cons_succ]
        refine anyH_take (v := ?_) 4 rfl (by kernel_rfl) (by kernel_rfl) (by kernel_rfl) (fun _ _ _ h => h) rfl ?_ hHeld ?_
        rotate_left
        · intro w' hSw
          go_simp
          try with_reducible rfl
        try simp only [Act.put, List.setIfInBounds_toArray, List.set_cons_zero, List.set_cons_succ]
        refine wpAnyH_ready (rs := [5]) (by kernel_rfl) (by simp) ?_
        refine ready_cons rfl (fun K hK => ?_) AllReadyH.nil
        go_simp
        refine (HV3.out _ _ (g0.fact 1 rfl).2).mono ?_
        rintro (e : Ending) w5 ⟨rfl, hb5⟩
        have g1 := g0.on hb5
        show K _ _
        refine hK.out _ _ ?_ (fun hHeld => ?_)
        · exact ⟨g1.box3 4 rfl, (g1.fact 1 rfl).1, (g1.fact 0 rfl).1⟩
        clear hK K
        try simp only [Act.put, List.setIfInBounds_toArray, List.set_cons_zero, List.set_cons_succ]
        clear g0 hb5
        refine anyH_take (v := ?_) 6 rfl (by kernel_rfl) (by kernel_rfl) (by kernel_rfl) (fun _ _ _ h => h) rfl ?_ hHeld ?_
        rotate_left
        · intro w' hSw
          go_simp
          try with_reducible rfl
        try simp only [Act.put, List.setIfInBounds_toArray, List.set_cons_zero, List.set_cons_succ]
        refine anyH_take (v := ?_) 7 rfl (by kernel_rfl) (by kernel_rfl) (by kernel_rfl) (fun _ _ _ h => h) rfl ?_ hHeld ?_
        rotate_left
        · intro w' hSw
          go_simp
          try with_reducible rfl
        try simp only [Act.put, List.setIfInBounds_toArray, List.set_cons_zero, List.set_cons_succ]
        refine anyH_skip 8 rfl (by kernel_rfl) (by kernel_rfl) (by kernel_rfl) (fun _ _ _ h => h) rfl hHeld ?_
        try simp only [Act.put, List.setIfInBounds_toArray, List.set_cons_zero, List.set_cons_succ]
        refine anyH_skip 9 rfl (by kernel_rfl) (by kernel_rfl) (by kernel_rfl) (fun _ _ _ h => h) rfl hHeld ?_
        try simp only [Act.put, List.setIfInBounds_toArray, List.set_cons_zero, List.set_cons_succ]
        refine anyH_skip 10 rfl (by kernel_rfl) (by kernel_rfl) (by kernel_rfl) (fun _ _ _ h => h) rfl hHeld ?_
        try simp only [Act.put, List.setIfInBounds_toArray, List.set_cons_zero, List.set_cons_succ]
        refine anyH_skip 11 rfl (by kernel_rfl) (by kernel_rfl) (by kernel_rfl) (fun _ _ _ h => h) rfl hHeld ?_
        try simp only [Act.put, List.setIfInBounds_toArray, List.set_cons_zero, List.set_cons_succ]
        refine anyH_skip 12 rfl (by kernel_rfl) (by kernel_rfl) (by kernel_rfl) (fun _ _ _ h => h) rfl hHeld ?_
        try simp only [Act.put, List.setIfInBounds_toArray, List.set_cons_zero, List.set_cons_succ]
        refine anyH_skip 13 rfl (by kernel_rfl) (by kernel_rfl) (by kernel_rfl) (fun _ _ _ h => h) rfl hHeld ?_
        try simp only [Act.put, List.setIfInBounds_toArray, List.set_cons_zero, List.set_cons_succ]
        refine anyH_skip 14 rfl (by kernel_rfl) (by kernel_rfl) (by kernel_rfl) (fun _ _ _ h => h) rfl hHeld ?_
        try simp only [Act.put, List.setIfInBounds_toArray, List.set_cons_zero, List.set_cons_succ]
        refine anyH_take (v := ?_) 15 rfl (by kernel_rfl) (by kernel_rfl) (by kernel_rfl) (fun _ _ _ h => h) rfl ?_ hHeld ?_
        rotate_left
        · intro w' hSw
          go_simp
          try with_reducible rfl
        try simp only [Act.put, List.setIfInBounds_toArray, List.set_cons_zero, List.set_cons_succ]
        refine wpAnyH_done (by kernel_rfl) ?_ _
        clear hHeld
        have HF9 := Lib.hid (show X = false by rw [HXs.out, Hvf.out]; rfl)
        go_wp2
        go_ret
        exact ⟨ret_bool HF9.out.symm, g1.below⟩
      | true =>
      cases b2 with
      | false =>
        go_upto_region 7 with fail
        have g0 := g2.drew
        refine wp_region_held_drew (S := fun w' => (w'.cell? ⟨w.heap.size, 0, none⟩ = some (.int .i64 p) ∧ w'.cell? ⟨w.heap.size, 1, none⟩ = some (.int .i64 n) ∧ w'.cell? ⟨w.heap.size, 2, none⟩ = some (t)) ∧ w'.cell? ⟨be, oe + i, none⟩ = some (.slice A1 lE c1) ∧ w'.cell? ⟨bf, of_ + i, none⟩ = some (.slice A2 lF c2)) (by kernel_rfl) ⟨g0.box3 4 rfl, (g0.fact 1 rfl).1, (g0.fact 0 rfl).1⟩ (fun hHeld => ?_)
        obtain ⟨v0, hv0, g8⟩ : ∃ v0, v0 = wr.drew ∧ St w v0 _ := ⟨_, rfl, g0⟩
        rw [← hv0] at g0 hHeld ⊢
        clear hv0 g8 g2
        refine anyH_take (v := ?_) 0 rfl (by kernel_rfl) (by kernel_rfl) (by kernel_rfl) (fun _ _ _ h => h) rfl ?_ hHeld ?_
        rotate_left
        · intro w' hSw
          go_simp
          try with_reducible rfl
        try simp only [Act.put, List.setIfInBounds_toArray, List.set_cons_zero, List.set_cons_succ]
        refine anyH_take (v := ?_) 1 rfl (by kernel_rfl) (by kernel_rfl) (by kernel_rfl) (fun _ _ _ h => h) rfl ?_ hHeld ?_
        rotate_left
        · intro w' hSw
          go_simp
          try with_reducible rfl
        try simp only [Act.put, List.setIfInBounds_toArray, List.set_cons_zero, List.set_cons_succ]
        refine anyH_take (v := ?_) 2 rfl (by kernel_rfl) (by kernel_rfl) (by kernel_rfl) (fun _ _ _ h => h) rfl ?_ hHeld ?_
        rotate_left
        · intro w' hSw
          go_simp
          try with_reducible rfl
        try simp only [Act.put, List.setIfInBounds_toArray, List.set_cons_zero, List.set_cons_succ]
        refine anyH_take (v := ?_) 3 rfl (by kernel_rfl) (by kernel_rfl) (by kernel_rfl) (fun _ _ _ h => h) rfl ?_ hHeld ?_
        rotate_left
        · intro w' hSw
          go_simp
          try with_reducible rfl
        try simp only [Act.put, List.setIfInBounds_toArray, List.set_cons_zero, List.set_cons_succ]
        refine anyH_take (v := ?_) 4 rfl (by kernel_rfl) (by kernel_rfl) (by kernel_rfl) (fun _ _ _ h => h) rfl ?_ hHeld ?_
        rotate_left
        · intro w' hSw
          go_simp
          try with_reducible rfl
        try simp only [Act.put, List.setIfInBounds_toArray, List.set_cons_zero, List.set_cons_succ]
        refine wpAnyH_ready (rs := [5]) (by kernel_rfl) (by simp) ?_
        refine ready_cons rfl (fun K hK => ?_) AllReadyH.nil
        go_simp
        refine (HV3.out _ _ (g0.fact 1 rfl).2).mono ?_
        rintro (e : Ending) w5 ⟨rfl, hb5⟩
        have g1 := g0.on hb5
        show K _ _
        refine hK.out _ _ ?_ (fun hHeld => ?_)
        · exact ⟨g1.box3 4 rfl, (g1.fact 1 rfl).1, (g1.fact 0 rfl).1⟩
        clear hK K
        try simp only [Act.put, List.setIfInBounds_toArray, List.set_cons_zero, List.set_cons_succ]
        clear g0 hb5
        refine anyH_take (v := ?_) 6 rfl (by kernel_rfl) (by kernel_rfl) (by kernel_rfl) (fun _ _ _ h => h) rfl ?_ hHeld ?_
        rotate_left
        · intro w' hSw
          go_simp
          try with_reducible rfl
        try simp only [Act.put, List.setIfInBounds_toArray, List.set_cons_zero, List.set_cons_succ]
        refine anyH_take (v := ?_) 7 rfl (by kernel_rfl) (by kernel_rfl) (by kernel_rfl) (fun _ _ _ h => h) rfl ?_ hHeld ?_
        rotate_left
        · intro w' hSw
          go_simp
          try with_reducible rfl
        try simp only [Act.put, List.setIfInBounds_toArray, List.set_cons_zero, List.set_cons_succ]
        refine anyH_take (v := ?_) 8 rfl (by kernel_rfl) (by kernel_rfl) (by kernel_rfl) (fun _ _ _ h => h) rfl ?_ hHeld ?_
        rotate_left
        · intro w' hSw
          go_simp
          try with_reducible rfl
        try simp only [Act.put, List.setIfInBounds_toArray, List.set_cons_zero, List.set_cons_succ]
        refine anyH_take (v := ?_) 9 rfl (by kernel_rfl) (by kernel_rfl) (by kernel_rfl) (fun _ _ _ h => h) rfl ?_ hHeld ?_
        rotate_left
        · intro w' hSw
          go_simp
          try with_reducible rfl
        try simp only [Act.put, List.setIfInBounds_toArray, List.set_cons_zero, List.set_cons_succ]
        refine anyH_take (v := ?_) 10 rfl (by kernel_rfl) (by kernel_rfl) (by kernel_rfl) (fun _ _ _ h => h) rfl ?_ hHeld ?_
        rotate_left
        · intro w' hSw
          go_simp
          try with_reducible rfl
        try simp only [Act.put, List.setIfInBounds_toArray, List.set_cons_zero, List.set_cons_succ]
        refine anyH_take (v := ?_) 11 rfl (by kernel_rfl) (by kernel_rfl) (by kernel_rfl) (fun _ _ _ h => h) rfl ?_ hHeld ?_
        rotate_left
        · intro w' hSw
          go_simp
          try with_reducible rfl
        try simp only [Act.put, List.setIfInBounds_toArray, List.set_cons_zero, List.set_cons_succ]
        refine anyH_take (v := ?_) 12 rfl (by kernel_rfl) (by kernel_rfl) (by kernel_rfl) (fun _ _ _ h => h) rfl ?_ hHeld ?_
        rotate_left
        · intro w' hSw
          go_simp
          try with_reducible rfl
        try simp only [Act.put, List.setIfInBounds_toArray, List.set_cons_zero, List.set_cons_succ]
        refine wpAnyH_ready (rs := [13]) (by kernel_rfl) (by simp) ?_
        refine ready_cons rfl (fun K hK => ?_) AllReadyH.nil
        go_simp
        refine (HV4.out _ _ (g1.fact 0 rfl).2).mono ?_
        rintro (e : Ending) w6 ⟨rfl, hb6⟩
        have g2 := g1.on hb6
        show K _ _
        refine hK.out _ _ ?_ (fun hHeld => ?_)
        · exact ⟨g2.box3 4 rfl, (g2.fact 1 rfl).1, (g2.fact 0 rfl).1⟩
        clear hK K
        try simp only [Act.put, List.setIfInBounds_toArray, List.set_cons_zero, List.set_cons_succ]
        clear g1 hb6
        refine anyH_take (v := ?_) 14 rfl (by kernel_rfl) (by kernel_rfl) (by kernel_rfl) (fun _ _ _ h => h) rfl ?_ hHeld ?_
        rotate_left
        · intro w' hSw
          go_simp
          try with_reducible rfl
        try simp only [Act.put, List.setIfInBounds_toArray, List.set_cons_zero, List.set_cons_succ]
        refine anyH_take (v := ?_) 15 rfl (by kernel_rfl) (by kernel_rfl) (by kernel_rfl) (fun _ _ _ h => h) rfl ?_ hHeld ?_
        rotate_left
        · intro w' hSw
          go_simp
          try with_reducible rfl
        try simp only [Act.put, List.setIfInBounds_toArray, List.set_cons_zero, List.set_cons_succ]
        refine wpAnyH_done (by kernel_rfl) ?_ _
        clear hHeld
        have HF9 := Lib.hid (show X = false by rw [HXs.out, Hvf.out]; rfl)
        go_wp2
        go_ret
        exact ⟨ret_bool HF9.out.symm, g2.below⟩
      | true =>
        have o1 := vecOk_spec Hb1.out.symm
        have o2 := vecOk_spec Hb2.out.symm
        have HBr2 := Lib.hid (HBr.out ⟨by omega, o1.2⟩ ⟨by omega, o2.2⟩)
        clear o1 o2
        go_upto_region 7 with fail
        have g0 := g2.drew
        refine wp_region_held_drew (S := fun w' => (w'.cell? ⟨w.heap.size, 0, none⟩ = some (.int .i64 p) ∧ w'.cell? ⟨w.heap.size, 1, none⟩ = some (.int .i64 n) ∧ w'.cell? ⟨w.heap.size, 2, none⟩ = some (t)) ∧ w'.cell? ⟨be, oe + i, none⟩ = some (.slice A1 lE c1) ∧ w'.cell? ⟨bf, of_ + i, none⟩ = some (.slice A2 lF c2)) (by kernel_rfl) ⟨g0.box3 4 rfl, (g0.fact 1 rfl).1, (g0.fact 0 rfl).1⟩ (fun hHeld => ?_)
        obtain ⟨v0, hv0, g8⟩ : ∃ v0, v0 = wr.drew ∧ St w v0 _ := ⟨_, rfl, g0⟩
        rw [← hv0] at g0 hHeld ⊢
        clear hv0 g8 g2
        refine anyH_take (v := ?_) 0 rfl (by kernel_rfl) (by kernel_rfl) (by kernel_rfl) (fun _ _ _ h => h) rfl ?_ hHeld ?_
        rotate_left
        · intro w' hSw
          go_simp
          try with_reducible rfl
        try simp only [Act.put, List.setIfInBounds_toArray, List.set_cons_zero, List.set_cons_succ]
        refine anyH_take (v := ?_) 1 rfl (by kernel_rfl) (by kernel_rfl) (by kernel_rfl) (fun _ _ _ h => h) rfl ?_ hHeld ?_
        rotate_left
        · intro w' hSw
          go_simp
          try with_reducible rfl
        try simp only [Act.put, List.setIfInBounds_toArray, List.set_cons_zero, List.set_cons_succ]
        refine anyH_take (v := ?_) 2 rfl (by kernel_rfl) (by kernel_rfl) (by kernel_rfl) (fun _ _ _ h => h) rfl ?_ hHeld ?_
        rotate_left
        · intro w' hSw
          go_simp
          try with_reducible rfl
        try simp only [Act.put, List.setIfInBounds_toArray, List.set_cons_zero, List.set_cons_succ]
        refine anyH_take (v := ?_) 3 rfl (by kernel_rfl) (by kernel_rfl) (by kernel_rfl) (fun _ _ _ h => h) rfl ?_ hHeld ?_
        rotate_left
        · intro w' hSw
          go_simp
          try with_reducible rfl
        try simp only [Act.put, List.setIfInBounds_toArray, List.set_cons_zero, List.set_cons_succ]
        refine anyH_take (v := ?_) 4 rfl (by kernel_rfl) (by kernel_rfl) (by kernel_rfl) (fun _ _ _ h => h) rfl ?_ hHeld ?_
        rotate_left
        · intro w' hSw
          go_simp
          try with_reducible rfl
        try simp only [Act.put, List.setIfInBounds_toArray, List.set_cons_zero, List.set_cons_succ]
        refine wpAnyH_ready (rs := [5]) (by kernel_rfl) (by simp) ?_
        refine ready_cons rfl (fun K hK => ?_) AllReadyH.nil
        go_simp
        refine (HV3.out _ _ (g0.fact 1 rfl).2).mono ?_
        rintro (e : Ending) w5 ⟨rfl, hb5⟩
        have g1 := g0.on hb5
        show K _ _
        refine hK.out _ _ ?_ (fun hHeld => ?_)
        · exact ⟨g1.box3 4 rfl, (g1.fact 1 rfl).1, (g1.fact 0 rfl).1⟩
        clear hK K
        try simp only [Act.put, List.setIfInBounds_toArray, List.set_cons_zero, List.set_cons_succ]
        clear g0 hb5
        refine anyH_take (v := ?_) 6 rfl (by kernel_rfl) (by kernel_rfl) (by kernel_rfl) (fun _ _ _ h => h) rfl ?_ hHeld ?_
        rotate_left
        · intro w' hSw
          go_simp
          try with_reducible rfl
        try simp only [Act.put, List.setIfInBounds_toArray, List.set_cons_zero, List.set_cons_succ]
        refine anyH_take (v := ?_) 7 rfl (by kernel_rfl) (by kernel_rfl) (by kernel_rfl) (fun _ _ _ h => h) rfl ?_ hHeld ?_
        rotate_left
        · intro w' hSw
          go_simp
          try with_reducible rfl
        try simp only [Act.put, List.setIfInBounds_toArray, List.set_cons_zero, List.set_cons_succ]
        refine anyH_take (v := ?_) 8 rfl (by kernel_rfl) (by kernel_rfl) (by kernel_rfl) (fun _ _ _ h => h) rfl ?_ hHeld ?_
        rotate_left
        · intro w' hSw
          go_simp
          try with_reducible rfl
        try simp only [Act.put, List.setIfInBounds_toArray, List.set_cons_zero, List.set_cons_succ]
        refine anyH_take (v := ?_) 9 rfl (by kernel_rfl) (by kernel_rfl) (by kernel_rfl) (fun _ _ _ h => h) rfl ?_ hHeld ?_
        rotate_left
        · intro w' hSw
          go_simp
          try with_reducible rfl
        try simp only [Act.put, List.setIfInBounds_toArray, List.set_cons_zero, List.set_cons_succ]
        refine anyH_take (v := ?_) 10 rfl (by kernel_rfl) (by kernel_rfl) (by kernel_rfl) (fun _ _ _ h => h) rfl ?_ hHeld ?_
        rotate_left
        · intro w' hSw
          go_simp
          try with_reducible rfl
        try simp only [Act.put, List.setIfInBounds_toArray, List.set_cons_zero, List.set_cons_succ]
        refine anyH_take (v := ?_) 11 rfl (by kernel_rfl) (by kernel_rfl) (by kernel_rfl) (fun _ _ _ h => h) rfl ?_ hHeld ?_
        rotate_left
        · intro w' hSw
          go_simp
          try with_reducible rfl
        try simp only [Act.put, List.setIfInBounds_toArray, List.set_cons_zero, List.set_cons_succ]
        refine anyH_take (v := ?_) 12 rfl (by kernel_rfl) (by kernel_rfl) (by kernel_rfl) (fun _ _ _ h => h) rfl ?_ hHeld ?_
        rotate_left
        · intro w' hSw
          go_simp
          try with_reducible rfl
        try simp only [Act.put, List.setIfInBounds_toArray, List.set_cons_zero, List.set_cons_succ]
        refine wpAnyH_ready (rs := [13]) (by kernel_rfl) (by simp) ?_
        refine ready_cons rfl (fun K hK => ?_) AllReadyH.nil
        go_simp
        refine (HV4.out _ _ (g1.fact 0 rfl).2).mono ?_
        rintro (e : Ending) w6 ⟨rfl, hb6⟩
        have g2 := g1.on hb6
        show K _ _
        refine hK.out _ _ ?_ (fun hHeld => ?_)
        · exact ⟨g2.box3 4 rfl, (g2.fact 1 rfl).1, (g2.fact 0 rfl).1⟩
        clear hK K
        try simp only [Act.put, List.setIfInBounds_toArray, List.set_cons_zero, List.set_cons_succ]
        clear g1 hb6
        refine anyH_take (v := ?_) 14 rfl (by kernel_rfl) (by kernel_rfl) (by kernel_rfl) (fun _ _ _ h => h) rfl ?_ hHeld ?_
        rotate_left
        · intro w' hSw
          go_simp
          try with_reducible rfl
        try simp only [Act.put, List.setIfInBounds_toArray, List.set_cons_zero, List.set_cons_succ]
        refine anyH_take (v := ?_) 15 rfl (by kernel_rfl) (by kernel_rfl) (by kernel_rfl) (fun _ _ _ h => h) rfl ?_ hHeld ?_
        rotate_left
        · intro w' hSw
          go_simp
          try with_reducible rfl
        try simp only [Act.put, List.setIfInBounds_toArray, List.set_cons_zero, List.set_cons_succ]
        refine wpAnyH_done (by kernel_rfl) ?_ _
        clear hHeld
        go_upto_region 9 with fail
        have g0 := g2.drew
        clear g2
        refine wp_region_cut (S := fun w' => (w'.cell? ⟨w.heap.size, 0, none⟩ = some (.int .i64 p) ∧ w'.cell? ⟨w.heap.size, 1, none⟩ = some (.int .i64 n) ∧ w'.cell? ⟨w.heap.size, 2, none⟩ = some (t)) ∧ w'.cell? ⟨be, oe + i, none⟩ = some (.slice A1 lE c1) ∧ w'.cell? ⟨bf, of_ + i, none⟩ = some (.slice A2 lF c2)) 12 (by kernel_rfl) (by kernel_rfl) ⟨g0.box3 4 rfl, (g0.fact 1 rfl).1, (g0.fact 0 rfl).1⟩ (fun hHeld => ?_)
        simp only [List.take_succ_cons, List.take_zero]
        obtain ⟨v0, hv0, g8⟩ : ∃ v0, v0 = w6.drew ∧ St w v0 _ := ⟨_, rfl, g0⟩
        rw [← hv0] at g0 hHeld ⊢
        clear hv0 g8
        refine anyH_take (v := ?_) 0 rfl (by kernel_rfl) (by kernel_rfl) (by kernel_rfl) (fun _ _ _ h => h) rfl ?_ hHeld ?_
        rotate_left
        · intro w' hSw
          go_simp
          try with_reducible rfl
        try simp only [Act.put, List.setIfInBounds_toArray, List.set_cons_zero, List.set_cons_succ]
        refine anyH_take (v := ?_) 1 rfl (by kernel_rfl) (by kernel_rfl) (by kernel_rfl) (fun _ _ _ h => h) rfl ?_ hHeld ?_
        rotate_left
        · intro w' hSw
          go_simp
          try with_reducible rfl
        try simp only [Act.put, List.setIfInBounds_toArray, List.set_cons_zero, List.set_cons_succ]
        refine anyH_take (v := ?_) 2 rfl (by kernel_rfl) (by kernel_rfl) (by kernel_rfl) (fun _ _ _ h => h) rfl ?_ hHeld ?_
        rotate_left
        · intro w' hSw
          go_simp
          try with_reducible rfl
        try simp only [Act.put, List.setIfInBounds_toArray, List.set_cons_zero, List.set_cons_succ]
        refine anyH_take (v := ?_) 3 rfl (by kernel_rfl) (by kernel_rfl) (by kernel_rfl) (fun _ _ _ h => h) rfl ?_ hHeld ?_
        rotate_left
        · intro w' hSw
          go_simp
          try with_reducible rfl
        try simp only [Act.put, List.setIfInBounds_toArray, List.set_cons_zero, List.set_cons_succ]
        refine anyH_take (v := ?_) 4 rfl (by kernel_rfl) (by kernel_rfl) (by kernel_rfl) (fun _ _ _ h => h) rfl ?_ hHeld ?_
        rotate_left
        · intro w' hSw
          go_simp
          try with_reducible rfl
        try simp only [Act.put, List.setIfInBounds_toArray, List.set_cons_zero, List.set_cons_succ]
        refine anyH_take (v := ?_) 5 rfl (by kernel_rfl) (by kernel_rfl) (by kernel_rfl) (fun _ _ _ h => h) rfl ?_ hHeld ?_
        rotate_left
        · intro w' hSw
          go_simp
          try with_reducible rfl
        try simp only [Act.put, List.setIfInBounds_toArray, List.set_cons_zero, List.set_cons_succ]
        refine anyH_take (v := ?_) 6 rfl (by kernel_rfl) (by kernel_rfl) (by kernel_rfl) (fun _ _ _ h => h) rfl ?_ hHeld ?_
        rotate_left
        · intro w' hSw
          go_simp
          try with_reducible rfl
        try simp only [Act.put, List.setIfInBounds_toArray, List.set_cons_zero, List.set_cons_succ]
        refine anyH_take (v := ?_) 7 rfl (by kernel_rfl) (by kernel_rfl) (by kernel_rfl) (fun _ _ _ h => h) rfl ?_ hHeld ?_
        rotate_left
        · intro w' hSw
          go_simp
          try with_reducible rfl
        try simp only [Act.put, List.setIfInBounds_toArray, List.set_cons_zero, List.set_cons_succ]
        refine anyH_take (v := ?_) 8 rfl (by kernel_rfl) (by kernel_rfl) (by kernel_rfl) (fun _ _ _ h => h) rfl ?_ hHeld ?_
        rotate_left
        · intro w' hSw
          go_simp
          try with_reducible rfl
        try simp only [Act.put, List.setIfInBounds_toArray, List.set_cons_zero, List.set_cons_succ]
        refine anyH_take (v := ?_) 9 rfl (by kernel_rfl) (by kernel_rfl) (by kernel_rfl) (fun _ _ _ h => h) rfl ?_ hHeld ?_
        rotate_left
        · intro w' hSw
          go_simp
          try with_reducible rfl
        try simp only [Act.put, List.setIfInBounds_toArray, List.set_cons_zero, List.set_cons_succ]
        refine wpAnyH_ready (rs := [10]) (by kernel_rfl) (by simp) ?_
        refine ready_cons rfl (fun K hK => ?_) AllReadyH.nil
        go_simp
        refine (HBr2.out _ _ _ (g0.roInts 5 rfl) (g0.fact 1 rfl).2 (g0.fact 0 rfl).2).mono ?_
        rintro (e : Ending) w7 ⟨u7, rfl, ho7, hb7⟩
        obtain ⟨A7, l7, c7, rfl⟩ := ho7.slice
        have g1 := g0.pushOwn hb7 ho7
        show K _ _
        refine hK.out _ _ ?_ (fun hHeld => ?_)
        · exact ⟨g1.box3 5 rfl, (g1.fact 2 rfl).1, (g1.fact 1 rfl).1⟩
        clear hK K
        try simp only [Act.put, List.setIfInBounds_toArray, List.set_cons_zero, List.set_cons_succ]
        refine wpAnyH_ready (rs := [11]) (by kernel_rfl) (by simp) ?_
        refine ready_cons rfl (fun K hK => ?_) AllReadyH.nil
        go_simp
        have g2 := g1.alloc' (.cells #[.slice A7 l7 c7] 22)
        refine hK.out _ _ ?_ (fun hHeld => ?_)
        · exact ⟨g2.box3 5 rfl, (g2.fact 2 rfl).1, (g2.fact 1 rfl).1⟩
        clear hK K
        try simp only [Act.put, List.setIfInBounds_toArray, List.set_cons_zero, List.set_cons_succ]
        refine wpAnyH_done (by kernel_rfl) ?_ _
        show wpList _ _ _ _ _ _
        simp only [List.drop_succ_cons, List.drop_zero]
        clear hHeld
        have h5 := g1.re [0, 3, 4, 5, 6, 7] (L' := [_, _, _, _, _, _]) (by decide) (fun j => by rcases j with _ | _ | _ | _ | _ | _ | j <;> rfl)
        clear g0 g1 g2 ho7 hb7
        go_wp2_with (at_builtin; refine wp_append_row' rfl (.tmp 59) (.tmp 70) rfl h5 0 rfl Hul2.out rfl rfl Hl3.out ?_; intro v1 w8 h6)
        have HX2 := Lib.hid (show X = ((List.range' (i + 1) (m - (i + 1))).all (vF p n E F) && Y) by rw [HXs.out, Hvf.out]; rfl)
        have Hok2 := Lib.hid (show ∀ k, k < i + 1 → vF p n E F k = true from fun k hk => by
          by_cases e : k = i
          · rw [e, Hvf.out]; rfl
          · exact Hok.out k (by omega))
        go_roundw
        case rel => exact ⟨i + 1, us ++ [Value.slice A7 l7 c7], by go_num, by omega, by rw [HHs.out]; exact h6, by show _ = _; simp [Hul.out], HX2, Hok2⟩
        case measure => simp [intOf]; omega
    · obtain rfl : m = i := by omega
      have HXM : Hid (X = ((List.range' 0 (m - 0)).all (fM p n T m D E F) && (V1 && V2))) := by
        show X = _
        rw [HX.out, Nat.sub_self]
        exact HY.out
      have HEv := Lib.hid (fun i (hi : i < m) => show (rowOf E i).length = n ∧ resid p (rowOf E i) = true by
        have h9 := Hok.out i hi
        unfold vF at h9
        rw [Bool.and_eq_true] at h9
        have := vecOk_spec h9.1
        exact ⟨by omega, this.2⟩)
      have HFv := Lib.hid (fun i (hi : i < m) => show (rowOf F i).length = n ∧ resid p (rowOf F i) = true by
        have h9 := Hok.out i hi
        unfold vF at h9
        rw [Bool.and_eq_true] at h9
        have := vecOk_spec h9.2
        exact ⟨by omega, this.2⟩)
      have Hul2 := Lib.hid (show us.length = (HH p n T E F m).length by rw [length_HH]; exact Hul.out)
      have HSe := Lib.hid (fun W => HS.out W HEv.out)
      have HSf := Lib.hid (fun W => HS2.out W HFv.out)
      clear HX Hok Hul HS HS2 HV2
      go_wp2
      clear z0 z1
      go_loopw [11] (fun v11 wr => ∃ i : Nat, v11 = .int .i64 i ∧ i ≤ m ∧ St w wr [rowsIt u9 us (HH p n T E F m), .box (w.heap.size + 1) [.int .i64 m, d], .box w.heap.size [.int .i64 p, .int .i64 n, t], .ro t T, .ro d D] ∧ Hid (X = ((List.range' i (m - i)).all (fM p n T m D E F) && (V1 && V2)))) (fun v11 _ => m - (intOf v11).toNat)
      case atStart => exact ⟨0, rfl, by omega, g, HXM⟩
      case round =>
        clear g HXM
        obtain ⟨i, rfl, a1, g, HX⟩ := hrel
        obtain ⟨z0, z1⟩ := g.box2 1 rfl
        by_cases hi : i < m
        · have ii : (i : Int) < (m : Int) := by omega
          have HXi : Hid (X = (((List.range' 0 (m - 0)).all (sM p n T m D E F i) && (List.range' (i + 1) (m - (i + 1))).all (fM p n T m D E F)) && (V1 && V2))) := by
            show X = _
            rw [HX.out, all_cons _ hi]
            rfl
          go_wp2
          clear z0 z1
          go_loopw [12] (fun v12 wr => ∃ j : Nat, v12 = .int .i64 j ∧ j ≤ m ∧ St w wr [rowsIt u9 us (HH p n T E F m), .box (w.heap.size + 1) [.int .i64 m, d], .box w.heap.size [.int .i64 p, .int .i64 n, t], .ro t T, .ro d D] ∧ Hid (X = (((List.range' j (m - j)).all (sM p n T m D E F i) && (List.range' (i + 1) (m - (i + 1))).all (fM p n T m D E F)) && (V1 && V2)))) (fun v12 _ => m - (intOf v12).toNat)
          case atStart => exact ⟨0, rfl, by omega, g, HXi⟩
          case round =>
            clear g HXi HX
            obtain ⟨j, rfl, a2, g, HX⟩ := hrel
            obtain ⟨z0, z1⟩ := g.box2 1 rfl
            by_cases hj : j < m
            · have jj : (j : Int) < (m : Int) := by omega
              have HXs : Hid (X = (((sM p n T m D E F i j && (List.range' (j + 1) (m - (j + 1))).all (sM p n T m D E F i)) && (List.range' (i + 1) (m - (i + 1))).all (fM p n T m D E F)) && (V1 && V2))) := by
                show X = _
                rw [HX.out, all_cons _ hj]
              obtain ⟨gh, ch, A1, c1, A2, c2, be, oe, A3, c3, A4, c4, bf, of_, A5, c5, A6, c6, rfl, rfl, rfl, HF⟩ := env g Hul2.out HlE.out HlF.out Hv.out Hu.out hi hj (fun i hi => (HEv.out i hi).1) (fun i hi => (HFv.out i hi).1)
              have C1 := Lib.hid (HB.out (hF p n T E F i) (hF p n T E F j) (Hb.out _ _) (Hb.out _ _))
              have C3 := Lib.hid (HB.out (rowOf E i) (rowOf F j) (HEv.out i hi) (HFv.out j hj))
              have C5 := Lib.hid (HB.out (hF p n T E F i) (rowOf E j) (Hb.out _ _) (HEv.out j hj))
              have C8 := Lib.hid (HB.out (hF p n T E F i) (rowOf F j) (Hb.out _ _) (HFv.out j hj))
              obtain ⟨e1, e2⟩ := Hen.out i j hi hj
              have C6 := Lib.hid (HMu.out (en m D i j) (rowOf E j) (HEv.out j hj) (by omega))
              have C9 := Lib.hid (HMu.out (0 - en m D i j) (rowOf F j) (HFv.out j hj) (by omega))
              have hs : sM p n T m D E F i j = ((zeroL (braL T (hF p n T E F i) (hF p n T E F j) n p) && (i == j || zeroL (braL T (rowOf E i) (rowOf F j) n p))) && (decide (braL T (hF p n T E F i) (rowOf E j) n p = mulL p (en m D i j) (rowOf E j)) && decide (braL T (hF p n T E F i) (rowOf F j) n p = mulL p (0 - en m D i j) (rowOf F j)))) := rfl
              have HAt1 := Lib.hid (HAt.out i j hi hj)
              obtain ⟨B1, hB1⟩ : ∃ B1, B1 = braL T (hF p n T E F i) (hF p n T E F j) n p := ⟨_, rfl⟩
              obtain ⟨B2, hB2⟩ : ∃ B2, B2 = braL T (rowOf E i) (rowOf F j) n p := ⟨_, rfl⟩
              obtain ⟨B3, hB3⟩ : ∃ B3, B3 = braL T (hF p n T E F i) (rowOf E j) n p := ⟨_, rfl⟩
              obtain ⟨B4, hB4⟩ : ∃ B4, B4 = braL T (hF p n T E F i) (rowOf F j) n p := ⟨_, rfl⟩
              obtain ⟨q, hq⟩ : ∃ q, q = en m D i j := ⟨_, rfl⟩
              rw [← hB1] at C1 hs
              rw [← hB2] at C3 hs
              rw [← hB3] at C5 hs
              rw [← hB4] at C8 hs
              rw [← hq] at e1 e2 C6 C9 hs HAt1
              obtain ⟨M3, hM3⟩ : ∃ M3, M3 = mulL p q (rowOf E j) := ⟨_, rfl⟩
              obtain ⟨qn, hqn⟩ : ∃ qn, qn = 0 - q := ⟨_, rfl⟩
              rw [← hqn] at C9 hs
              obtain ⟨M4, hM4⟩ : ∃ M4, M4 = mulL p qn (rowOf F j) := ⟨_, rfl⟩
              rw [← hM3] at C6 hs
              rw [← hM4] at C9 hs
              have C2 := Lib.hid (fun W x (h : Ints W x B1) => l1IsZero_any x B1 W h)
              have C4 := Lib.hid (fun W x (h : Ints W x B2) => l1IsZero_any x B2 W h)
              have C7 := Lib.hid (fun W x y (h : Ints W x B3) (h' : Ints W y M3) => l1Same_any x y B3 M3 W h h')
              have C10 := Lib.hid (fun W x y (h : Ints W x B4) (h' : Ints W y M4) => l1Same_any x y B4 M4 W h h')
              obtain ⟨p1, hp1⟩ : ∃ p1, p1 = zeroL B1 := ⟨_, rfl⟩
              obtain ⟨p2, hp2⟩ : ∃ p2, p2 = zeroL B2 := ⟨_, rfl⟩
              obtain ⟨q1, hq1⟩ : ∃ q1, q1 = decide (B3 = M3) := ⟨_, rfl⟩
              obtain ⟨q2, hq2⟩ : ∃ q2, q2 = decide (B4 = M4) := ⟨_, rfl⟩
              rw [← hp1] at C2 hs
              rw [← hp2] at C4 hs
              rw [← hq1] at C7 hs
              rw [← hq2] at C10 hs
              have x1 : IntKind.i64.wrap (0 - q) = qn := by rw [hqn]; exact wrap_ok (by omega) (by omega)
              have x2 : wrap64 (0 - q) = qn := by rw [hqn]; unfold wrap64; omega
              have x3 : wrap64 (-q) = qn := by rw [hqn]; unfold wrap64; omega
              have x4 : IntKind.i64.wrap (-q) = qn := by rw [hqn, wrap_ok (by omega) (by omega)]; omega
              replace HXs : Hid (X = (((((p1 && (i == j || p2)) && (q1 && q2)) && (List.range' (j + 1) (m - (j + 1))).all (sM p n T m D E F i)) && (List.range' (i + 1) (m - (i + 1))).all (fM p n T m D E F)) && (V1 && V2))) := by
                show X = _
                rw [HXs.out, hs]
              clear hB1 hB2 hB3 hB4 hq hM3 hM4 hqn hp1 hp2 hq1 hq2 hs HX
              go_wp2_with fail
              refine (HAt1.out _ (g.roInts 4 rfl)).mono ?_
              rintro (e : Ending) w6 ⟨rfl, hb6⟩
              have g1 := g.on hb6
              clear g hb6 z0 z1
              go_upto_region 17 with fail
              go_cut [118] from 78 to 161 (fun v118 wx => v118 = .bool (!(p1 && (i == j || p2))) ∧ St w wx [rowsIt (.slice (some ⟨gh, 0, none⟩) m ch) us (HH p n T E F m), .box (w.heap.size + 1) [.int .i64 m, d], .box w.heap.size [.int .i64 p, .int .i64 n, t], .ro t T, .ro d D])
              case first =>
                cases p1 with
                | false =>
                  go_upto_region 17 with fail
                  have g0 := g1.drew
                  refine wp_region_held_drew (S := fun w' => (w'.cell? ⟨w.heap.size, 0, none⟩ = some (.int .i64 p) ∧ w'.cell? ⟨w.heap.size, 1, none⟩ = some (.int .i64 n) ∧ w'.cell? ⟨w.heap.size, 2, none⟩ = some (t)) ∧ w'.cell? ⟨gh, i, none⟩ = some (.slice A1 n c1) ∧ w'.cell? ⟨gh, j, none⟩ = some (.slice A2 n c2) ∧ w'.cell? ⟨be, oe + i, none⟩ = some (.slice A3 n c3) ∧ w'.cell? ⟨be, oe + j, none⟩ = some (.slice A4 n c4) ∧ w'.cell? ⟨bf, of_ + i, none⟩ = some (.slice A5 n c5) ∧ w'.cell? ⟨bf, of_ + j, none⟩ = some (.slice A6 n c6)) (by kernel_rfl) (HF.out _ _ 0 g0 rfl).s (fun hHeld => ?_)
                  obtain ⟨v0, hv0, g8⟩ : ∃ v0, v0 = w6.drew ∧ St w v0 _ := ⟨_, rfl, g0⟩
                  rw [← hv0] at g0 hHeld ⊢
                  clear hv0 g8 g1
                  refine anyH_take (v := ?_) 0 rfl (by kernel_rfl) (by kernel_rfl) (by kernel_rfl) (fun _ _ _ h => h) rfl ?_ hHeld ?_
                  rotate_left
                  · intro w' hSw
                    go_simp
                    try with_reducible rfl
                  try simp only [Act.put, List.setIfInBounds_toArray, List.set_cons_zero, List.set_cons_succ]
                  refine anyH_take (v := ?_) 1 rfl (by kernel_rfl) (by kernel_rfl) (by kernel_rfl) (fun _ _ _ h => h) rfl ?_ hHeld ?_
                  rotate_left
                  · intro w' hSw
                    go_simp
                    try with_reducible rfl
                  try simp only [Act.put, List.setIfInBounds_toArray, List.set_cons_zero, List.set_cons_succ]
                  refine anyH_take (v := ?_) 2 rfl (by kernel_rfl) (by kernel_rfl) (by kernel_rfl) (fun _ _ _ h => h) rfl ?_ hHeld ?_
                  rotate_left
                  · intro w' hSw
                    go_simp
                    try with_reducible rfl
                  try simp only [Act.put, List.setIfInBounds_toArray, List.set_cons_zero, List.set_cons_succ]
                  refine anyH_take (v := ?_) 3 rfl (by kernel_rfl) (by kernel_rfl) (by kernel_rfl) (fun _ _ _ h => h) rfl ?_ hHeld ?_
                  rotate_left
                  · intro w' hSw
                    go_simp
                    try with_reducible rfl
                  try simp only [Act.put, List.setIfInBounds_toArray, List.set_cons_zero, List.set_cons_succ]
                  refine anyH_take (v := ?_) 4 rfl (by kernel_rfl) (by kernel_rfl) (by kernel_rfl) (fun _ _ _ h => h) rfl ?_ hHeld ?_
                  rotate_left
                  · intro w' hSw
                    go_simp
                    try with_reducible rfl
                  try simp only [Act.put, List.setIfInBounds_toArray, List.set_cons_zero, List.set_cons_succ]
                  refine anyH_take (v := ?_) 5 rfl (by kernel_rfl) (by kernel_rfl) (by kernel_rfl) (fun _ _ _ h => h) rfl ?_ hHeld ?_
                  rotate_left
                  · intro w' hSw
                    go_simp
                    try with_reducible rfl
                  try simp only [Act.put, List.setIfInBounds_toArray, List.set_cons_zero, List.set_cons_succ]
                  refine anyH_take (v := ?_) 6 rfl (by kernel_rfl) (by kernel_rfl) (by kernel_rfl) (fun _ _ _ h => h) rfl ?_ hHeld ?_
                  rotate_left
                  · intro w' hSw
                    go_simp
                    try with_reducible rfl
                  try simp only [Act.put, List.setIfInBounds_toArray, List.set_cons_zero, List.set_cons_succ]
                  refine anyH_take (v := ?_) 7 rfl (by kernel_rfl) (by kernel_rfl) (by kernel_rfl) (fun _ _ _ h => h) rfl ?_ hHeld ?_
                  rotate_left
                  · intro w' hSw
                    go_simp
                    try with_reducible rfl
                  try simp only [Act.put, List.setIfInBounds_toArray, List.set_cons_zero, List.set_cons_succ]
                  refine anyH_take (v := ?_) 8 rfl (by kernel_rfl) (by kernel_rfl) (by kernel_rfl) (fun _ _ _ h => h) rfl ?_ hHeld ?_
                  rotate_left
                  · intro w' hSw
                    go_simp
                    try with_reducible rfl
                  try simp only [Act.put, List.setIfInBounds_toArray, List.set_cons_zero, List.set_cons_succ]
                  refine wpAnyH_ready (rs := [9]) (by kernel_rfl) (by simp) ?_
                  refine ready_cons rfl (fun K hK => ?_) AllReadyH.nil
                  go_simp
                  refine (C1.out _ _ _ (HF.out _ _ 0 g0 rfl).t (HF.out _ _ 0 g0 rfl).hi (HF.out _ _ 0 g0 rfl).hj).mono ?_
                  rintro (e : Ending) w7 ⟨u7, rfl, ho7, hb7⟩
                  have g2 := g0.pushOwn hb7 ho7
                  show K _ _
                  refine hK.out _ _ ?_ (fun hHeld => ?_)
                  · exact (HF.out _ _ 1 g2 rfl).s
                  clear hK K
                  try simp only [Act.put, List.setIfInBounds_toArray, List.set_cons_zero, List.set_cons_succ]
                  refine wpAnyH_ready (rs := [10]) (by kernel_rfl) (by simp) ?_
                  refine ready_cons rfl (fun K hK => ?_) AllReadyH.nil
                  go_simp
                  refine (C2.out _ _ (g2.ownInts 0 rfl)).mono ?_
                  rintro (e : Ending) w8 ⟨rfl, rfl⟩
                  show K _ _
                  refine hK.out _ _ ?_ (fun hHeld => ?_)
                  · exact (HF.out _ _ 1 g2 rfl).s
                  clear hK K
                  try simp only [Act.put, List.setIfInBounds_toArray, List.set_cons_zero, List.set_cons_succ]
                  refine anyH_take (v := ?_) 11 rfl (by kernel_rfl) (by kernel_rfl) (by kernel_rfl) (fun _ _ _ h => h) rfl ?_ hHeld ?_
                  rotate_left
                  · intro w' hSw
                    go_simp
                    try with_reducible rfl
                  try simp only [Act.put, List.setIfInBounds_toArray, List.set_cons_zero, List.set_cons_succ]
                  refine anyH_take (v := ?_) 12 rfl (by kernel_rfl) (by kernel_rfl) (by kernel_rfl) (fun _ _ _ h => h) rfl ?_ hHeld ?_
                  rotate_left
                  · intro w' hSw
                    go_simp
                    try with_reducible rfl
                  try simp only [Act.put, List.setIfInBounds_toArray, List.set_cons_zero, List.set_cons_succ]
                  refine anyH_skip 13 rfl (by kernel_rfl) (by kernel_rfl) (by kernel_rfl) (fun _ _ _ h => h) rfl hHeld ?_
                  try simp only [Act.put, List.setIfInBounds_toArray, List.set_cons_zero, List.set_cons_succ]
                  refine anyH_skip 14 rfl (by kernel_rfl) (by kernel_rfl) (by kernel_rfl) (fun _ _ _ h => h) rfl hHeld ?_
                  try simp only [Act.put, List.setIfInBounds_toArray, List.set_cons_zero, List.set_cons_succ]
                  refine anyH_skip 15 rfl (by kernel_rfl) (by kernel_rfl) (by kernel_rfl) (fun _ _ _ h => h) rfl hHeld ?_
                  try simp only [Act.put, List.setIfInBounds_toArray, List.set_cons_zero, List.set_cons_succ]
                  refine anyH_skip 16 rfl (by kernel_rfl) (by kernel_rfl) (by kernel_rfl) (fun _ _ _ h => h) rfl hHeld ?_
                  try simp only [Act.put, List.setIfInBounds_toArray, List.set_cons_zero, List.set_cons_succ]
                  refine anyH_skip 17 rfl (by kernel_rfl) (by kernel_rfl) (by kernel_rfl) (fun _ _ _ h => h) rfl hHeld ?_
                  try simp only [Act.put, List.setIfInBounds_toArray, List.set_cons_zero, List.set_cons_succ]
                  refine anyH_skip 18 rfl (by kernel_rfl) (by kernel_rfl) (by kernel_rfl) (fun _ _ _ h => h) rfl hHeld ?_
                  try simp only [Act.put, List.setIfInBounds_toArray, List.set_cons_zero, List.set_cons_succ]
                  refine anyH_skip 19 rfl (by kernel_rfl) (by kernel_rfl) (by kernel_rfl) (fun _ _ _ h => h) rfl hHeld ?_
                  try simp only [Act.put, List.setIfInBounds_toArray, List.set_cons_zero, List.set_cons_succ]
                  refine anyH_skip 20 rfl (by kernel_rfl) (by kernel_rfl) (by kernel_rfl) (fun _ _ _ h => h) rfl hHeld ?_
                  try simp only [Act.put, List.setIfInBounds_toArray, List.set_cons_zero, List.set_cons_succ]
                  refine anyH_skip 21 rfl (by kernel_rfl) (by kernel_rfl) (by kernel_rfl) (fun _ _ _ h => h) rfl hHeld ?_
                  try simp only [Act.put, List.setIfInBounds_toArray, List.set_cons_zero, List.set_cons_succ]
                  refine anyH_skip 22 rfl (by kernel_rfl) (by kernel_rfl) (by kernel_rfl) (fun _ _ _ h => h) rfl hHeld ?_
                  try simp only [Act.put, List.setIfInBounds_toArray, List.set_cons_zero, List.set_cons_succ]
                  refine anyH_skip 23 rfl (by kernel_rfl) (by kernel_rfl) (by kernel_rfl) (fun _ _ _ h => h) rfl hHeld ?_
                  try simp only [Act.put, List.setIfInBounds_toArray, List.set_cons_zero, List.set_cons_succ]
                  refine anyH_skip 24 rfl (by kernel_rfl) (by kernel_rfl) (by kernel_rfl) (fun _ _ _ h => h) rfl hHeld ?_
                  try simp only [Act.put, List.setIfInBounds_toArray, List.set_cons_zero, List.set_cons_succ]
                  refine anyH_skip 25 rfl (by kernel_rfl) (by kernel_rfl) (by kernel_rfl) (fun _ _ _ h => h) rfl hHeld ?_
                  try simp only [Act.put, List.setIfInBounds_toArray, List.set_cons_zero, List.set_cons_succ]
                  refine anyH_skip 26 rfl (by kernel_rfl) (by kernel_rfl) (by kernel_rfl) (fun _ _ _ h => h) rfl hHeld ?_
                  try simp only [Act.put, List.setIfInBounds_toArray, List.set_cons_zero, List.set_cons_succ]
                  refine anyH_skip 27 rfl (by kernel_rfl) (by kernel_rfl) (by kernel_rfl) (fun _ _ _ h => h) rfl hHeld ?_
                  try simp only [Act.put, List.setIfInBounds_toArray, List.set_cons_zero, List.set_cons_succ]
                  refine anyH_skip 28 rfl (by kernel_rfl) (by kernel_rfl) (by kernel_rfl) (fun _ _ _ h => h) rfl hHeld ?_
                  try simp only [Act.put, List.setIfInBounds_toArray, List.set_cons_zero, List.set_cons_succ]
                  refine anyH_skip 29 rfl (by kernel_rfl) (by kernel_rfl) (by kernel_rfl) (fun _ _ _ h => h) rfl hHeld ?_
                  try simp only [Act.put, List.setIfInBounds_toArray, List.set_cons_zero, List.set_cons_succ]
                  refine anyH_take (v := ?_) 30 rfl (by kernel_rfl) (by kernel_rfl) (by kernel_rfl) (fun _ _ _ h => h) rfl ?_ hHeld ?_
                  rotate_left
                  · intro w' hSw
                    go_simp
                    try with_reducible rfl
                  try simp only [Act.put, List.setIfInBounds_toArray, List.set_cons_zero, List.set_cons_succ]
                  refine wpAnyH_done (by kernel_rfl) ?_ _
                  clear hHeld
                  go_wp2_with fail
                  go_meet
                  exact ⟨rfl, g2.drop 1⟩
                | true =>
                by_cases hij : i = j
                · subst hij
                  obtain ⟨rfl, rfl⟩ : A1 = A2 ∧ c1 = c2 := by
                    have h9 := (HF.out _ _ 0 g1 rfl).s
                    simpa using h9.2.1.symm.trans h9.2.2.1
                  obtain ⟨rfl, rfl⟩ : A3 = A4 ∧ c3 = c4 := by
                    have h9 := (HF.out _ _ 0 g1 rfl).s
                    simpa using h9.2.2.2.1.symm.trans h9.2.2.2.2.1
                  obtain ⟨rfl, rfl⟩ : A5 = A6 ∧ c5 = c6 := by
                    have h9 := (HF.out _ _ 0 g1 rfl).s
                    simpa using h9.2.2.2.2.2.1.symm.trans h9.2.2.2.2.2.2
                  go_upto_region 17 with fail
                  have g0 := g1.drew
                  refine wp_region_held_drew (S := fun w' => (w'.cell? ⟨w.heap.size, 0, none⟩ = some (.int .i64 p) ∧ w'.cell? ⟨w.heap.size, 1, none⟩ = some (.int .i64 n) ∧ w'.cell? ⟨w.heap.size, 2, none⟩ = some (t)) ∧ w'.cell? ⟨gh, i, none⟩ = some (.slice A1 n c1) ∧ w'.cell? ⟨gh, i, none⟩ = some (.slice A1 n c1) ∧ w'.cell? ⟨be, oe + i, none⟩ = some (.slice A3 n c3) ∧ w'.cell? ⟨be, oe + i, none⟩ = some (.slice A3 n c3) ∧ w'.cell? ⟨bf, of_ + i, none⟩ = some (.slice A5 n c5) ∧ w'.cell? ⟨bf, of_ + i, none⟩ = some (.slice A5 n c5)) (by kernel_rfl) (HF.out _ _ 0 g0 rfl).s (fun hHeld => ?_)
                  obtain ⟨v0, hv0, g8⟩ : ∃ v0, v0 = w6.drew ∧ St w v0 _ := ⟨_, rfl, g0⟩
                  rw [← hv0] at g0 hHeld ⊢
                  clear hv0 g8 g1
                  refine anyH_take (v := ?_) 0 rfl (by kernel_rfl) (by kernel_rfl) (by kernel_rfl) (fun _ _ _ h => h) rfl ?_ hHeld ?_
                  rotate_left
                  · intro w' hSw
                    go_simp
                    try with_reducible rfl
                  try simp only [Act.put, List.setIfInBounds_toArray, List.set_cons_zero, List.set_cons_succ]
                  refine anyH_take (v := ?_) 1 rfl (by kernel_rfl) (by kernel_rfl) (by kernel_rfl) (fun _ _ _ h => h) rfl ?_ hHeld ?_
                  rotate_left
                  · intro w' hSw
                    go_simp
                    try with_reducible rfl
                  try simp only [Act.put, List.setIfInBounds_toArray, List.set_cons_zero, List.set_cons_succ]
                  refine anyH_take (v := ?_) 2 rfl (by kernel_rfl) (by kernel_rfl) (by kernel_rfl) (fun _ _ _ h => h) rfl ?_ hHeld ?_
                  rotate_left
                  · intro w' hSw
                    go_simp
                    try with_reducible rfl
                  try simp only [Act.put, List.setIfInBounds_toArray, List.set_cons_zero, List.set_cons_succ]
                  refine anyH_take (v := ?_) 3 rfl (by kernel_rfl) (by kernel_rfl) (by kernel_rfl) (fun _ _ _ h => h) rfl ?_ hHeld ?_
                  rotate_left
                  · intro w' hSw
                    go_simp
                    try with_reducible rfl
                  try simp only [Act.put, List.setIfInBounds_toArray, List.set_cons_zero, List.set_cons_succ]
                  refine anyH_take (v := ?_) 4 rfl (by kernel_rfl) (by kernel_rfl) (by kernel_rfl) (fun _ _ _ h => h) rfl ?_ hHeld ?_
                  rotate_left
                  · intro w' hSw
                    go_simp
                    try with_reducible rfl
                  try simp only [Act.put, List.setIfInBounds_toArray, List.set_cons_zero, List.set_cons_succ]
                  refine anyH_take (v := ?_) 5 rfl (by kernel_rfl) (by kernel_rfl) (by kernel_rfl) (fun _ _ _ h => h) rfl ?_ hHeld ?_
                  rotate_left
                  · intro w' hSw
                    go_simp
                    try with_reducible rfl
                  try simp only [Act.put, List.setIfInBounds_toArray, List.set_cons_zero, List.set_cons_succ]
                  refine anyH_take (v := ?_) 6 rfl (by kernel_rfl) (by kernel_rfl) (by kernel_rfl) (fun _ _ _ h => h) rfl ?_ hHeld ?_
                  rotate_left
                  · intro w' hSw
                    go_simp
                    try with_reducible rfl
                  try simp only [Act.put, List.setIfInBounds_toArray, List.set_cons_zero, List.set_cons_succ]
                  refine anyH_take (v := ?_) 7 rfl (by kernel_rfl) (by kernel_rfl) (by kernel_rfl) (fun _ _ _ h => h) rfl ?_ hHeld ?_
                  rotate_left
                  · intro w' hSw
                    go_simp
                    try with_reducible rfl
                  try simp only [Act.put, List.setIfInBounds_toArray, List.set_cons_zero, List.set_cons_succ]
                  refine anyH_take (v := ?_) 8 rfl (by kernel_rfl) (by kernel_rfl) (by kernel_rfl) (fun _ _ _ h => h) rfl ?_ hHeld ?_
                  rotate_left
                  · intro w' hSw
                    go_simp
                    try with_reducible rfl
                  try simp only [Act.put, List.setIfInBounds_toArray, List.set_cons_zero, List.set_cons_succ]
                  refine wpAnyH_ready (rs := [9]) (by kernel_rfl) (by simp) ?_
                  refine ready_cons rfl (fun K hK => ?_) AllReadyH.nil
                  go_simp
                  refine (C1.out _ _ _ (HF.out _ _ 0 g0 rfl).t (HF.out _ _ 0 g0 rfl).hi (HF.out _ _ 0 g0 rfl).hj).mono ?_
                  rintro (e : Ending) w7 ⟨u7, rfl, ho7, hb7⟩
                  have g2 := g0.pushOwn hb7 ho7
                  show K _ _
                  refine hK.out _ _ ?_ (fun hHeld => ?_)
                  · exact (HF.out _ _ 1 g2 rfl).s
                  clear hK K
                  try simp only [Act.put, List.setIfInBounds_toArray, List.set_cons_zero, List.set_cons_succ]
                  refine wpAnyH_ready (rs := [10]) (by kernel_rfl) (by simp) ?_
                  refine ready_cons rfl (fun K hK => ?_) AllReadyH.nil
                  go_simp
                  refine (C2.out _ _ (g2.ownInts 0 rfl)).mono ?_
                  rintro (e : Ending) w8 ⟨rfl, rfl⟩
                  show K _ _
                  refine hK.out _ _ ?_ (fun hHeld => ?_)
                  · exact (HF.out _ _ 1 g2 rfl).s
                  clear hK K
                  try simp only [Act.put, List.setIfInBounds_toArray, List.set_cons_zero, List.set_cons_succ]
                  refine anyH_take (v := ?_) 11 rfl (by kernel_rfl) (by kernel_rfl) (by kernel_rfl) (fun _ _ _ h => h) rfl ?_ hHeld ?_
                  rotate_left
                  · intro w' hSw
                    go_simp
                    try with_reducible rfl
                  try simp only [Act.put, List.setIfInBounds_toArray, List.set_cons_zero, List.set_cons_succ]
                  refine anyH_take (v := ?_) 12 rfl (by kernel_rfl) (by kernel_rfl) (by kernel_rfl) (fun _ _ _ h => h) rfl ?_ hHeld ?_
                  rotate_left
                  · intro w' hSw
                    go_simp
                    try with_reducible rfl
                  try simp only [Act.put, List.setIfInBounds_toArray, List.set_cons_zero, List.set_cons_succ]
                  refine anyH_take (v := ?_) 13 rfl (by kernel_rfl) (by kernel_rfl) (by kernel_rfl) (fun _ _ _ h => h) rfl ?_ hHeld ?_
                  rotate_left
                  · intro w' hSw
                    go_simp
                    try with_reducible rfl
                  try simp only [Act.put, List.setIfInBounds_toArray, List.set_cons_zero, List.set_cons_succ]
                  refine anyH_take (v := ?_) 14 rfl (by kernel_rfl) (by kernel_rfl) (by kernel_rfl) (fun _ _ _ h => h) rfl ?_ hHeld ?_
                  rotate_left
                  · intro w' hSw
                    go_simp
                    try with_reducible rfl
                  try simp only [Act.put, List.setIfInBounds_toArray, List.set_cons_zero, List.set_cons_succ]
                  refine anyH_take (v := ?_) 15 rfl (by kernel_rfl) (by kernel_rfl) (by kernel_rfl) (fun _ _ _ h => h) rfl ?_ hHeld ?_
                  rotate_left
                  · intro w' hSw
                    go_simp
                    try with_reducible rfl
                  try simp only [Act.put, List.setIfInBounds_toArray, List.set_cons_zero, List.set_cons_succ]
                  refine anyH_take (v := ?_) 16 rfl (by kernel_rfl) (by kernel_rfl) (by kernel_rfl) (fun _ _ _ h => h) rfl ?_ hHeld ?_
                  rotate_left
                  · intro w' hSw
                    go_simp
                    try with_reducible rfl
                  try simp only [Act.put, List.setIfInBounds_toArray, List.set_cons_zero, List.set_cons_succ]
                  refine anyH_skip 17 rfl (by kernel_rfl) (by kernel_rfl) (by kernel_rfl) (fun _ _ _ h => h) rfl hHeld ?_
                  try simp only [Act.put, List.setIfInBounds_toArray, List.set_cons_zero, List.set_cons_succ]
                  refine anyH_skip 18 rfl (by kernel_rfl) (by kernel_rfl) (by kernel_rfl) (fun _ _ _ h => h) rfl hHeld ?_
                  try simp only [Act.put, List.setIfInBounds_toArray, List.set_cons_zero, List.set_cons_succ]
                  refine anyH_skip 19 rfl (by kernel_rfl) (by kernel_rfl) (by kernel_rfl) (fun _ _ _ h => h) rfl hHeld ?_
                  try simp only [Act.put, List.setIfInBounds_toArray, List.set_cons_zero, List.set_cons_succ]
                  refine anyH_skip 20 rfl (by kernel_rfl) (by kernel_rfl) (by kernel_rfl) (fun _ _ _ h => h) rfl hHeld ?_
                  try simp only [Act.put, List.setIfInBounds_toArray, List.set_cons_zero, List.set_cons_succ]
                  refine anyH_skip 21 rfl (by kernel_rfl) (by kernel_rfl) (by kernel_rfl) (fun _ _ _ h => h) rfl hHeld ?_
                  try simp only [Act.put, List.setIfInBounds_toArray, List.set_cons_zero, List.set_cons_succ]
                  refine anyH_skip 22 rfl (by kernel_rfl) (by kernel_rfl) (by kernel_rfl) (fun _ _ _ h => h) rfl hHeld ?_
                  try simp only [Act.put, List.setIfInBounds_toArray, List.set_cons_zero, List.set_cons_succ]
                  refine anyH_skip 23 rfl (by kernel_rfl) (by kernel_rfl) (by kernel_rfl) (fun _ _ _ h => h) rfl hHeld ?_
                  try simp only [Act.put, List.setIfInBounds_toArray, List.set_cons_zero, List.set_cons_succ]
                  refine anyH_skip 24 rfl (by kernel_rfl) (by kernel_rfl) (by kernel_rfl) (fun _ _ _ h => h) rfl hHeld ?_
                  try simp only [Act.put, List.setIfInBounds_toArray, List.set_cons_zero, List.set_cons_succ]
                  refine anyH_skip 25 rfl (by kernel_rfl) (by kernel_rfl) (by kernel_rfl) (fun _ _ _ h => h) rfl hHeld ?_
                  try simp only [Act.put, List.setIfInBounds_toArray, List.set_cons_zero, List.set_cons_succ]
                  refine anyH_skip 26 rfl (by kernel_rfl) (by kernel_rfl) (by kernel_rfl) (fun _ _ _ h => h) rfl hHeld ?_
                  try simp only [Act.put, List.setIfInBounds_toArray, List.set_cons_zero, List.set_cons_succ]
                  refine anyH_skip 27 rfl (by kernel_rfl) (by kernel_rfl) (by kernel_rfl) (fun _ _ _ h => h) rfl hHeld ?_
                  try simp only [Act.put, List.setIfInBounds_toArray, List.set_cons_zero, List.set_cons_succ]
                  refine anyH_skip 28 rfl (by kernel_rfl) (by kernel_rfl) (by kernel_rfl) (fun _ _ _ h => h) rfl hHeld ?_
                  try simp only [Act.put, List.setIfInBounds_toArray, List.set_cons_zero, List.set_cons_succ]
                  refine anyH_take (v := ?_) 29 rfl (by kernel_rfl) (by kernel_rfl) (by kernel_rfl) (fun _ _ _ h => h) rfl ?_ hHeld ?_
                  rotate_left
                  · intro w' hSw
                    go_simp
                    try with_reducible rfl
                  try simp only [Act.put, List.setIfInBounds_toArray, List.set_cons_zero, List.set_cons_succ]
                  refine anyH_take (v := ?_) 30 rfl (by kernel_rfl) (by kernel_rfl) (by kernel_rfl) (fun _ _ _ h => h) rfl ?_ hHeld ?_
                  rotate_left
                  · intro w' hSw
                    go_simp
                    try with_reducible rfl
                  try simp only [Act.put, List.setIfInBounds_toArray, List.set_cons_zero, List.set_cons_succ]
                  refine wpAnyH_done (by kernel_rfl) ?_ _
                  clear hHeld
                  go_wp2_with fail
                  go_meet
                  exact ⟨by simp, g2.drop 1⟩
                · have hne2 : ¬ (i : Int) = (j : Int) := by omega
                  have hne3 : ((i : Int) == (j : Int)) = false := by simpa using hne2
                  have hne4 : ((i : Int) != (j : Int)) = true := by simpa using hne2
                  have Hb9 := Lib.hid (show (i == j) = false by simpa using hij)
                  clear hij
                  cases p2 with
                  | false =>
                    go_upto_region 17 with fail
                    have g0 := g1.drew
                    refine wp_region_held_drew (S := fun w' => (w'.cell? ⟨w.heap.size, 0, none⟩ = some (.int .i64 p) ∧ w'.cell? ⟨w.heap.size, 1, none⟩ = some (.int .i64 n) ∧ w'.cell? ⟨w.heap.size, 2, none⟩ = some (t)) ∧ w'.cell? ⟨gh, i, none⟩ = some (.slice A1 n c1) ∧ w'.cell? ⟨gh, j, none⟩ = some (.slice A2 n c2) ∧ w'.cell? ⟨be, oe + i, none⟩ = some (.slice A3 n c3) ∧ w'.cell? ⟨be, oe + j, none⟩ = some (.slice A4 n c4) ∧ w'.cell? ⟨bf, of_ + i, none⟩ = some (.slice A5 n c5) ∧ w'.cell? ⟨bf, of_ + j, none⟩ = some (.slice A6 n c6)) (by kernel_rfl) (HF.out _ _ 0 g0 rfl).s (fun hHeld => ?_)
                    obtain ⟨v0, hv0, g8⟩ : ∃ v0, v0 = w6.drew ∧ St w v0 _ := ⟨_, rfl, g0⟩
                    rw [← hv0] at g0 hHeld ⊢
                    clear hv0 g8 g1
                    refine anyH_take (v := ?_) 0 rfl (by kernel_rfl) (by kernel_rfl) (by kernel_rfl) (fun _ _ _ h => h) rfl ?_ hHeld ?_
                    rotate_left
                    · intro w' hSw
                      go_simp
                      try with_reducible rfl
                    try simp only [Act.put, List.setIfInBounds_toArray, List.set_cons_zero, List.set_cons_succ]
                    refine anyH_take (v := ?_) 1 rfl (by kernel_rfl) (by kernel_rfl) (by kernel_rfl) (fun _ _ _ h => h) rfl ?_ hHeld ?_
                    rotate_left
                    · intro w' hSw
                      go_simp
                      try with_reducible rfl
                    try simp only [Act.put, List.setIfInBounds_toArray, List.set_cons_zero, List.set_cons_succ]
                    refine anyH_take (v := ?_) 2 rfl (by kernel_rfl) (by kernel_rfl) (by kernel_rfl) (fun _ _ _ h => h) rfl ?_ hHeld ?_
                    rotate_left
                    · intro w' hSw
                      go_simp
                      try with_reducible rfl
                    try simp only [Act.put, List.setIfInBounds_toArray, List.set_cons_zero, List.set_cons_succ]
                    refine anyH_take (v := ?_) 3 rfl (by kernel_rfl) (by kernel_rfl) (by kernel_rfl) (fun _ _ _ h => h) rfl ?_ hHeld ?_
                    rotate_left
                    · intro w' hSw
                      go_simp
                      try with_reducible rfl
                    try simp only [Act.put, List.setIfInBounds_toArray, List.set_cons_zero, List.set_cons_succ]
                    refine anyH_take (v := ?_) 4 rfl (by kernel_rfl) (by kernel_rfl) (by kernel_rfl) (fun _ _ _ h => h) rfl ?_ hHeld ?_
                    rotate_left
                    · intro w' hSw
                      go_simp
                      try with_reducible rfl
                    try simp only [Act.put, List.setIfInBounds_toArray, List.set_cons_zero, List.set_cons_succ]
                    refine anyH_take (v := ?_) 5 rfl (by kernel_rfl) (by kernel_rfl) (by kernel_rfl) (fun _ _ _ h => h) rfl ?_ hHeld ?_
                    rotate_left
                    · intro w' hSw
                      go_simp
                      try with_reducible rfl
                    try simp only [Act.put, List.setIfInBounds_toArray, List.set_cons_zero, List.set_cons_succ]
                    refine anyH_take (v := ?_) 6 rfl (by kernel_rfl) (by kernel_rfl) (by kernel_rfl) (fun _ _ _ h => h) rfl ?_ hHeld ?_
                    rotate_left
                    · intro w' hSw
                      go_simp
                      try with_reducible rfl
                    try simp only [Act.put, List.setIfInBounds_toArray, List.set_cons_zero, List.set_cons_succ]
                    refine anyH_take (v := ?_) 7 rfl (by kernel_rfl) (by kernel_rfl) (by kernel_rfl) (fun _ _ _ h => h) rfl ?_ hHeld ?_
                    rotate_left
                    · intro w' hSw
                      go_simp
                      try with_reducible rfl
                    try simp only [Act.put, List.setIfInBounds_toArray, List.set_cons_zero, List.set_cons_succ]
                    refine anyH_take (v := ?_) 8 rfl (by kernel_rfl) (by kernel_rfl) (by kernel_rfl) (fun _ _ _ h => h) rfl ?_ hHeld ?_
                    rotate_left
                    · intro w' hSw
                      go_simp
                      try with_reducible rfl
                    try simp only [Act.put, List.setIfInBounds_toArray, List.set_cons_zero, List.set_cons_succ]
                    refine wpAnyH_ready (rs := [9]) (by kernel_rfl) (by simp) ?_
                    refine ready_cons rfl (fun K hK => ?_) AllReadyH.nil
                    go_simp
                    refine (C1.out _ _ _ (HF.out _ _ 0 g0 rfl).t (HF.out _ _ 0 g0 rfl).hi (HF.out _ _ 0 g0 rfl).hj).mono ?_
                    rintro (e : Ending) w7 ⟨u7, rfl, ho7, hb7⟩
                    have g2 := g0.pushOwn hb7 ho7
                    show K _ _
                    refine hK.out _ _ ?_ (fun hHeld => ?_)
                    · exact (HF.out _ _ 1 g2 rfl).s
                    clear hK K
                    try simp only [Act.put, List.setIfInBounds_toArray, List.set_cons_zero, List.set_cons_succ]
                    refine wpAnyH_ready (rs := [10]) (by kernel_rfl) (by simp) ?_
                    refine ready_cons rfl (fun K hK => ?_) AllReadyH.nil
                    go_simp
                    refine (C2.out _ _ (g2.ownInts 0 rfl)).mono ?_
                    rintro (e : Ending) w8 ⟨rfl, rfl⟩
                    show K _ _
                    refine hK.out _ _ ?_ (fun hHeld => ?_)
                    · exact (HF.out _ _ 1 g2 rfl).s
                    clear hK K
                    try simp only [Act.put, List.setIfInBounds_toArray, List.set_cons_zero, List.set_cons_succ]
                    refine anyH_take (v := ?_) 11 rfl (by kernel_rfl) (by kernel_rfl) (by kernel_rfl) (fun _ _ _ h => h) rfl ?_ hHeld ?_
                    rotate_left
                    · intro w' hSw
                      go_simp
                      try with_reducible rfl
                    try simp only [Act.put, List.setIfInBounds_toArray, List.set_cons_zero, List.set_cons_succ]
                    refine anyH_take (v := ?_) 12 rfl (by kernel_rfl) (by kernel_rfl) (by kernel_rfl) (fun _ _ _ h => h) rfl ?_ hHeld ?_
                    rotate_left
                    · intro w' hSw
                      go_simp
                      try with_reducible rfl
                    try simp only [Act.put, List.setIfInBounds_toArray, List.set_cons_zero, List.set_cons_succ]
                    refine anyH_take (v := ?_) 13 rfl (by kernel_rfl) (by kernel_rfl) (by kernel_rfl) (fun _ _ _ h => h) rfl ?_ hHeld ?_
                    rotate_left
                    · intro w' hSw
                      go_simp
                      try with_reducible rfl
                    try simp only [Act.put, List.setIfInBounds_toArray, List.set_cons_zero, List.set_cons_succ]
                    refine anyH_take (v := ?_) 14 rfl (by kernel_rfl) (by kernel_rfl) (by kernel_rfl) (fun _ _ _ h => h) rfl ?_ hHeld ?_
                    rotate_left
                    · intro w' hSw
                      go_simp
                      try with_reducible rfl
                    try simp only [Act.put, List.setIfInBounds_toArray, List.set_cons_zero, List.set_cons_succ]
                    refine anyH_take (v := ?_) 15 rfl (by kernel_rfl) (by kernel_rfl) (by kernel_rfl) (fun _ _ _ h => h) rfl ?_ hHeld ?_
                    rotate_left
                    · intro w' hSw
                      go_simp
                      try with_reducible rfl
                    try simp only [Act.put, List.setIfInBounds_toArray, List.set_cons_zero, List.set_cons_succ]
                    refine anyH_take (v := ?_) 16 rfl (by kernel_rfl) (by kernel_rfl) (by kernel_rfl) (fun _ _ _ h => h) rfl ?_ hHeld ?_
                    rotate_left
                    · intro w' hSw
                      go_simp
                      try with_reducible rfl
                    try simp only [Act.put, List.setIfInBounds_toArray, List.set_cons_zero, List.set_cons_succ]
                    refine anyH_take (v := ?_) 17 rfl (by kernel_rfl) (by kernel_rfl) (by kernel_rfl) (fun _ _ _ h => h) rfl ?_ hHeld ?_
                    rotate_left
                    · intro w' hSw
                      go_simp
                      try with_reducible rfl
                    try simp only [Act.put, List.setIfInBounds_toArray, List.set_cons_zero, List.set_cons_succ]
                    refine anyH_take (v := ?_) 18 rfl (by kernel_rfl) (by kernel_rfl) (by kernel_rfl) (fun _ _ _ h => h) rfl ?_ hHeld ?_
                    rotate_left
                    · intro w' hSw
                      go_simp
                      try with_reducible rfl
                    try simp only [Act.put, List.setIfInBounds_toArray, List.set_cons_zero, List.set_cons_succ]
                    refine anyH_take (v := ?_) 19 rfl (by kernel_rfl) (by kernel_rfl) (by kernel_rfl) (fun _ _ _ h => h) rfl ?_ hHeld ?_
                    rotate_left
                    · intro w' hSw
                      go_simp
                      try with_reducible rfl
                    try simp only [Act.put, List.setIfInBounds_toArray, List.set_cons_zero, List.set_cons_succ]
                    refine anyH_take (v := ?_) 20 rfl (by kernel_rfl) (by kernel_rfl) (by kernel_rfl) (fun _ _ _ h => h) rfl ?_ hHeld ?_
                    rotate_left
                    · intro w' hSw
                      go_simp
                      try with_reducible rfl
                    try simp only [Act.put, List.setIfInBounds_toArray, List.set_cons_zero, List.set_cons_succ]
                    refine anyH_take (v := ?_) 21 rfl (by kernel_rfl) (by kernel_rfl) (by kernel_rfl) (fun _ _ _ h => h) rfl ?_ hHeld ?_
                    rotate_left
                    · intro w' hSw
                      go_simp
                      try with_reducible rfl
                    try simp only [Act.put, List.setIfInBounds_toArray, List.set_cons_zero, List.set_cons_succ]
                    refine anyH_take (v := ?_) 22 rfl (by kernel_rfl) (by kernel_rfl) (by kernel_rfl) (fun _ _ _ h => h) rfl ?_ hHeld ?_
                    rotate_left
                    · intro w' hSw
                      go_simp
                      try with_reducible rfl
                    try simp only [Act.put, List.setIfInBounds_toArray, List.set_cons_zero, List.set_cons_succ]
                    refine anyH_take (v := ?_) 23 rfl (by kernel_rfl) (by kernel_rfl) (by kernel_rfl) (fun _ _ _ h => h) rfl ?_ hHeld ?_
                    rotate_left
                    · intro w' hSw
                      go_simp
                      try with_reducible rfl
                    try simp only [Act.put, List.setIfInBounds_toArray, List.set_cons_zero, List.set_cons_succ]
                    refine anyH_take (v := ?_) 24 rfl (by kernel_rfl) (by kernel_rfl) (by kernel_rfl) (fun _ _ _ h => h) rfl ?_ hHeld ?_
                    rotate_left
                    · intro w' hSw
                      go_simp
                      try with_reducible rfl
                    try simp only [Act.put, List.setIfInBounds_toArray, List.set_cons_zero, List.set_cons_succ]
                    refine anyH_take (v := ?_) 25 rfl (by kernel_rfl) (by kernel_rfl) (by kernel_rfl) (fun _ _ _ h => h) rfl ?_ hHeld ?_
                    rotate_left
                    · intro w' hSw
                      go_simp
                      try with_reducible rfl
                    try simp only [Act.put, List.setIfInBounds_toArray, List.set_cons_zero, List.set_cons_succ]
                    refine wpAnyH_ready (rs := [26]) (by kernel_rfl) (by simp) ?_
                    refine ready_cons rfl (fun K hK => ?_) AllReadyH.nil
                    go_simp
                    refine (C3.out _ _ _ (HF.out _ _ 1 g2 rfl).t (HF.out _ _ 1 g2 rfl).ei (HF.out _ _ 1 g2 rfl).fj).mono ?_
                    rintro (e : Ending) w9 ⟨u9', rfl, ho9, hb9⟩
                    have g3 := g2.pushOwn hb9 ho9
                    show K _ _
                    refine hK.out _ _ ?_ (fun hHeld => ?_)
                    · exact (HF.out _ _ 2 g3 rfl).s
                    clear hK K
                    try simp only [Act.put, List.setIfInBounds_toArray, List.set_cons_zero, List.set_cons_succ]
                    refine wpAnyH_ready (rs := [27]) (by kernel_rfl) (by simp) ?_
                    refine ready_cons rfl (fun K hK => ?_) AllReadyH.nil
                    go_simp
                    refine (C4.out _ _ (g3.ownInts 0 rfl)).mono ?_
                    rintro (e : Ending) w10 ⟨rfl, rfl⟩
                    show K _ _
                    refine hK.out _ _ ?_ (fun hHeld => ?_)
                    · exact (HF.out _ _ 2 g3 rfl).s
                    clear hK K
                    try simp only [Act.put, List.setIfInBounds_toArray, List.set_cons_zero, List.set_cons_succ]
                    refine anyH_take (v := ?_) 28 rfl (by kernel_rfl) (by kernel_rfl) (by kernel_rfl) (fun _ _ _ h => h) rfl ?_ hHeld ?_
                    rotate_left
                    · intro w' hSw
                      go_simp
                      try with_reducible rfl
                    try simp only [Act.put, List.setIfInBounds_toArray, List.set_cons_zero, List.set_cons_succ]
                    refine anyH_take (v := ?_) 29 rfl (by kernel_rfl) (by kernel_rfl) (by kernel_rfl) (fun _ _ _ h => h) rfl ?_ hHeld ?_
                    rotate_left
                    · intro w' hSw
                      go_simp
                      try with_reducible rfl
                    try simp only [Act.put, List.setIfInBounds_toArray, List.set_cons_zero, List.set_cons_succ]
                    refine anyH_take (v := ?_) 30 rfl (by kernel_rfl) (by kernel_rfl) (by kernel_rfl) (fun _ _ _ h => h) rfl ?_ hHeld ?_
                    rotate_left
                    · intro w' hSw
                      go_simp
                      try with_reducible rfl
                    try simp only [Act.put, List.setIfInBounds_toArray, List.set_cons_zero, List.set_cons_succ]
                    refine wpAnyH_done (by kernel_rfl) ?_ _
                    clear hHeld
                    go_wp2_with fail
                    go_meet
                    exact ⟨by rw [Hb9.out]; rfl, g3.drop 2⟩
                  | true =>
                    go_upto_region 17 with fail
                    have g0 := g1.drew
                    refine wp_region_held_drew (S := fun w' => (w'.cell? ⟨w.heap.size, 0, none⟩ = some (.int .i64 p) ∧ w'.cell? ⟨w.heap.size, 1, none⟩ = some (.int .i64 n) ∧ w'.cell? ⟨w.heap.size, 2, none⟩ = some (t)) ∧ w'.cell? ⟨gh, i, none⟩ = some (.slice A1 n c1) ∧ w'.cell? ⟨gh, j, none⟩ = some (.slice A2 n c2) ∧ w'.cell? ⟨be, oe + i, none⟩ = some (.slice A3 n c3) ∧ w'.cell? ⟨be, oe + j, none⟩ = some (.slice A4 n c4) ∧ w'.cell? ⟨bf, of_ + i, none⟩ = some (.slice A5 n c5) ∧ w'.cell? ⟨bf, of_ + j, none⟩ = some (.slice A6 n c6)) (by kernel_rfl) (HF.out _ _ 0 g0 rfl).s (fun hHeld => ?_)
                    obtain ⟨v0, hv0, g8⟩ : ∃ v0, v0 = w6.drew ∧ St w v0 _ := ⟨_, rfl, g0⟩
                    rw [← hv0] at g0 hHeld ⊢
                    clear hv0 g8 g1
                    refine anyH_take (v := ?_) 0 rfl (by kernel_rfl) (by kernel_rfl) (by kernel_rfl) (fun _ _ _ h => h) rfl ?_ hHeld ?_
                    rotate_left
                    · intro w' hSw
                      go_simp
                      try with_reducible rfl
                    try simp only [Act.put, List.setIfInBounds_toArray, List.set_cons_zero, List.set_cons_succ]
                    refine anyH_take (v := ?_) 1 rfl (by kernel_rfl) (by kernel_rfl) (by kernel_rfl) (fun _ _ _ h => h) rfl ?_ hHeld ?_
                    rotate_left
                    · intro w' hSw
                      go_simp
                      try with_reducible rfl
                    try simp only [Act.put, List.setIfInBounds_toArray, List.set_cons_zero, List.set_cons_succ]
                    refine anyH_take (v := ?_) 2 rfl (by kernel_rfl) (by kernel_rfl) (by kernel_rfl) (fun _ _ _ h => h) rfl ?_ hHeld ?_
                    rotate_left
                    · intro w' hSw
                      go_simp
                      try with_reducible rfl
                    try simp only [Act.put, List.setIfInBounds_toArray, List.set_cons_zero, List.set_cons_succ]
                    refine anyH_take (v := ?_) 3 rfl (by kernel_rfl) (by kernel_rfl) (by kernel_rfl) (fun _ _ _ h => h) rfl ?_ hHeld ?_
                    rotate_left
                    · intro w' hSw
                      go_simp
                      try with_reducible rfl
                    try simp only [Act.put, List.setIfInBounds_toArray, List.set_cons_zero, List.set_cons_succ]
                    refine anyH_take (v := ?_) 4 rfl (by kernel_rfl) (by kernel_rfl) (by kernel_rfl) (fun _ _ _ h => h) rfl ?_ hHeld ?_
                    rotate_left
                    · intro w' hSw
                      go_simp
                      try with_reducible rfl
                    try simp only [Act.put, List.setIfInBounds_toArray, List.set_cons_zero, List.set_cons_succ]
                    refine anyH_take (v := ?_) 5 rfl (by kernel_rfl) (by kernel_rfl) (by kernel_rfl) (fun _ _ _ h => h) rfl ?_ hHeld ?_
                    rotate_left
                    · intro w' hSw
                      go_simp
                      try with_reducible rfl
                    try simp only [Act.put, List.setIfInBounds_toArray, List.set_cons_zero, List.set_cons_succ]
                    refine anyH_take (v := ?_) 6 rfl (by kernel_rfl) (by kernel_rfl) (by kernel_rfl) (fun _ _ _ h => h) rfl ?_ hHeld ?_
                    rotate_left
                    · intro w' hSw
                      go_simp
                      try with_reducible rfl
                    try simp only [Act.put, List.setIfInBounds_toArray, List.set_cons_zero, List.set_cons_succ]
                    refine anyH_take (v := ?_) 7 rfl (by kernel_rfl) (by kernel_rfl) (by kernel_rfl) (fun _ _ _ h => h) rfl ?_ hHeld ?_
                    rotate_left
                    · intro w' hSw
                      go_simp
                      try with_reducible rfl
                    try simp only [Act.put, List.setIfInBounds_toArray, List.set_cons_zero, List.set_cons_succ]
                    refine anyH_take (v := ?_) 8 rfl (by kernel_rfl) (by kernel_rfl) (by kernel_rfl) (fun _ _ _ h => h) rfl ?_ hHeld ?_
                    rotate_left
                    · intro w' hSw
                      go_simp
                      try with_reducible rfl
                    try simp only [Act.put, List.setIfInBounds_toArray, List.set_cons_zero, List.set_cons_succ]
                    refine wpAnyH_ready (rs := [9]) (by kernel_rfl) (by simp) ?_
                    refine ready_cons rfl (fun K hK => ?_) AllReadyH.nil
                    go_simp
                    refine (C1.out _ _ _ (HF.out _ _ 0 g0 rfl).t (HF.out _ _ 0 g0 rfl).hi (HF.out _ _ 0 g0 rfl).hj).mono ?_
                    rintro (e : Ending) w7 ⟨u7, rfl, ho7, hb7⟩
                    have g2 := g0.pushOwn hb7 ho7
                    show K _ _
                    refine hK.out _ _ ?_ (fun hHeld => ?_)
                    · exact (HF.out _ _ 1 g2 rfl).s
                    clear hK K
                    try simp only [Act.put, List.setIfInBounds_toArray, List.set_cons_zero, List.set_cons_succ]
                    refine wpAnyH_ready (rs := [10]) (by kernel_rfl) (by simp) ?_
                    refine ready_cons rfl (fun K hK => ?_) AllReadyH.nil
                    go_simp
                    refine (C2.out _ _ (g2.ownInts 0 rfl)).mono ?_
                    rintro (e : Ending) w8 ⟨rfl, rfl⟩
                    show K _ _
                    refine hK.out _ _ ?_ (fun hHeld => ?_)
                    · exact (HF.out _ _ 1 g2 rfl).s
                    clear hK K
                    try simp only [Act.put, List.setIfInBounds_toArray, List.set_cons_zero, List.set_cons_succ]
                    refine anyH_take (v := ?_) 11 rfl (by kernel_rfl) (by kernel_rfl) (by kernel_rfl) (fun _ _ _ h => h) rfl ?_ hHeld ?_
                    rotate_left
                    · intro w' hSw
                      go_simp
                      try with_reducible rfl
                    try simp only [Act.put, List.setIfInBounds_toArray, List.set_cons_zero, List.set_cons_succ]
                    refine anyH_take (v := ?_) 12 rfl (by kernel_rfl) (by kernel_rfl) (by kernel_rfl) (fun _ _ _ h => h) rfl ?_ hHeld ?_
                    rotate_left
                    · intro w' hSw
                      go_simp
                      try with_reducible rfl
                    try simp only [Act.put, List.setIfInBounds_toArray, List.set_cons_zero, List.set_cons_succ]
                    refine anyH_take (v := ?_) 13 rfl (by kernel_rfl) (by kernel_rfl) (by kernel_rfl) (fun _ _ _ h => h) rfl ?_ hHeld ?_
                    rotate_left
                    · intro w' hSw
                      go_simp
                      try with_reducible rfl
                    try simp only [Act.put, List.setIfInBounds_toArray, List.set_cons_zero, List.set_cons_succ]
                    refine anyH_take (v := ?_) 14 rfl (by kernel_rfl) (by kernel_rfl) (by kernel_rfl) (fun _ _ _ h => h) rfl ?_ hHeld ?_
                    rotate_left
                    · intro w' hSw
                      go_simp
                      try with_reducible rfl
                    try simp only [Act.put, List.setIfInBounds_toArray, List.set_cons_zero, List.set_cons_succ]
                    refine anyH_take (v := ?_) 15 rfl (by kernel_rfl) (by kernel_rfl) (by kernel_rfl) (fun _ _ _ h => h) rfl ?_ hHeld ?_
                    rotate_left
                    · intro w' hSw
                      go_simp
                      try with_reducible rfl
                    try simp only [Act.put, List.setIfInBounds_toArray, List.set_cons_zero, List.set_cons_succ]
                    refine anyH_take (v := ?_) 16 rfl (by kernel_rfl) (by kernel_rfl) (by kernel_rfl) (fun _ _ _ h => h) rfl ?_ hHeld ?_
                    rotate_left
                    · intro w' hSw
                      go_simp
                      try with_reducible rfl
                    try simp only [Act.put, List.setIfInBounds_toArray, List.set_cons_zero, List.set_cons_succ]
                    refine anyH_take (v := ?_) 17 rfl (by kernel_rfl) (by kernel_rfl) (by kernel_rfl) (fun _ _ _ h => h) rfl ?_ hHeld ?_
                    rotate_left
                    · intro w' hSw
                      go_simp
                      try with_reducible rfl
                    try simp only [Act.put, List.setIfInBounds_toArray, List.set_cons_zero, List.set_cons_succ]
                    refine anyH_take (v := ?_) 18 rfl (by kernel_rfl) (by kernel_rfl) (by kernel_rfl) (fun _ _ _ h => h) rfl ?_ hHeld ?_
                    rotate_left
                    · intro w' hSw
                      go_simp
                      try with_reducible rfl
                    try simp only [Act.put, List.setIfInBounds_toArray, List.set_cons_zero, List.set_cons_succ]
                    refine anyH_take (v := ?_) 19 rfl (by kernel_rfl) (by kernel_rfl) (by kernel_rfl) (fun _ _ _ h => h) rfl ?_ hHeld ?_
                    rotate_left
                    · intro w' hSw
                      go_simp
                      try with_reducible rfl
                    try simp only [Act.put, List.setIfInBounds_toArray, List.set_cons_zero, List.set_cons_succ]
                    refine anyH_take (v := ?_) 20 rfl (by kernel_rfl) (by kernel_rfl) (by kernel_rfl) (fun _ _ _ h => h) rfl ?_ hHeld ?_
                    rotate_left
                    · intro w' hSw
                      go_simp
                      try with_reducible rfl
                    try simp only [Act.put, List.setIfInBounds_toArray, List.set_cons_zero, List.set_cons_succ]
                    refine anyH_take (v := ?_) 21 rfl (by kernel_rfl) (by kernel_rfl) (by kernel_rfl) (fun _ _ _ h => h) rfl ?_ hHeld ?_
                    rotate_left
                    · intro w' hSw
                      go_simp
                      try with_reducible rfl
                    try simp only [Act.put, List.setIfInBounds_toArray, List.set_cons_zero, List.set_cons_succ]
                    refine anyH_take (v := ?_) 22 rfl (by kernel_rfl) (by kernel_rfl) (by kernel_rfl) (fun _ _ _ h => h) rfl ?_ hHeld ?_
                    rotate_left
                    · intro w' hSw
                      go_simp
                      try with_reducible rfl
                    try simp only [Act.put, List.setIfInBounds_toArray, List.set_cons_zero, List.set_cons_succ]
                    refine anyH_take (v := ?_) 23 rfl (by kernel_rfl) (by kernel_rfl) (by kernel_rfl) (fun _ _ _ h => h) rfl ?_ hHeld ?_
                    rotate_left
                    · intro w' hSw
                      go_simp
                      try with_reducible rfl
                    try simp only [Act.put, List.setIfInBounds_toArray, List.set_cons_zero, List.set_cons_succ]
                    refine anyH_take (v := ?_) 24 rfl (by kernel_rfl) (by kernel_rfl) (by kernel_rfl) (fun _ _ _ h => h) rfl ?_ hHeld ?_
                    rotate_left
                    · intro w' hSw
                      go_simp
                      try with_reducible rfl
                    try simp only [Act.put, List.setIfInBounds_toArray, List.set_cons_zero, List.set_cons_succ]
                    refine anyH_take (v := ?_) 25 rfl (by kernel_rfl) (by kernel_rfl) (by kernel_rfl) (fun _ _ _ h => h) rfl ?_ hHeld ?_
                    rotate_left
                    · intro w' hSw
                      go_simp
                      try with_reducible rfl
                    try simp only [Act.put, List.setIfInBounds_toArray, List.set_cons_zero, List.set_cons_succ]
                    refine wpAnyH_ready (rs := [26]) (by kernel_rfl) (by simp) ?_
                    refine ready_cons rfl (fun K hK => ?_) AllReadyH.nil
                    go_simp
                    refine (C3.out _ _ _ (HF.out _ _ 1 g2 rfl).t (HF.out _ _ 1 g2 rfl).ei (HF.out _ _ 1 g2 rfl).fj).mono ?_
                    rintro (e : Ending) w9 ⟨u9', rfl, ho9, hb9⟩
                    have g3 := g2.pushOwn hb9 ho9
                    show K _ _
                    refine hK.out _ _ ?_ (fun hHeld => ?_)
                    · exact (HF.out _ _ 2 g3 rfl).s
                    clear hK K
                    try simp only [Act.put, List.setIfInBounds_toArray, List.set_cons_zero, List.set_cons_succ]
                    refine wpAnyH_ready (rs := [27]) (by kernel_rfl) (by simp) ?_
                    refine ready_cons rfl (fun K hK => ?_) AllReadyH.nil
                    go_simp
                    refine (C4.out _ _ (g3.ownInts 0 rfl)).mono ?_
                    rintro (e : Ending) w10 ⟨rfl, rfl⟩
                    show K _ _
                    refine hK.out _ _ ?_ (fun hHeld => ?_)
                    · exact (HF.out _ _ 2 g3 rfl).s
                    clear hK K
                    try simp only [Act.put, List.setIfInBounds_toArray, List.set_cons_zero, List.set_cons_succ]
                    refine anyH_take (v := ?_) 28 rfl (by kernel_rfl) (by kernel_rfl) (by kernel_rfl) (fun _ _ _ h => h) rfl ?_ hHeld ?_
                    rotate_left
                    · intro w' hSw
                      go_simp
                      try with_reducible rfl
                    try simp only [Act.put, List.setIfInBounds_toArray, List.set_cons_zero, List.set_cons_succ]
                    refine anyH_take (v := ?_) 29 rfl (by kernel_rfl) (by kernel_rfl) (by kernel_rfl) (fun _ _ _ h => h) rfl ?_ hHeld ?_
                    rotate_left
                    · intro w' hSw
                      go_simp
                      try with_reducible rfl
                    try simp only [Act.put, List.setIfInBounds_toArray, List.set_cons_zero, List.set_cons_succ]
                    refine anyH_take (v := ?_) 30 rfl (by kernel_rfl) (by kernel_rfl) (by kernel_rfl) (fun _ _ _ h => h) rfl ?_ hHeld ?_
                    rotate_left
                    · intro w' hSw
                      go_simp
                      try with_reducible rfl
                    try simp only [Act.put, List.setIfInBounds_toArray, List.set_cons_zero, List.set_cons_succ]
                    refine wpAnyH_done (by kernel_rfl) ?_ _
                    clear hHeld
                    go_wp2_with fail
                    go_meet
                    exact ⟨by rw [Hb9.out]; rfl, g3.drop 2⟩
              case rest =>
                clear g1
                obtain ⟨rfl, gB⟩ := hcut
                obtain ⟨pp, hpp⟩ : ∃ pp, pp = (p1 && (i == j || p2)) := ⟨_, rfl⟩
                rw [← hpp] at HXs
                rw [← hpp]
                clear hpp
                cases pp with
                | false =>
                  have HF9 := Lib.hid (show X = false by rw [HXs.out]; simp)
                  go_wp2
                  go_ret
                  exact ⟨ret_bool HF9.out.symm, gB.below⟩
                | true =>
                  go_upto_region 19 with fail
                  go_cut [161] from 78 to 161 (fun v161 wx => v161 = .bool (!(q1 && q2)) ∧ St w wx [rowsIt (.slice (some ⟨gh, 0, none⟩) m ch) us (HH p n T E F m), .box (w.heap.size + 1) [.int .i64 m, d], .box w.heap.size [.int .i64 p, .int .i64 n, t], .ro t T, .ro d D])
                  case first =>
                    cases q1 with
                    | false =>
                      go_upto_region 19 with fail
                      have g0 := gB.drew
                      refine wp_region_held_drew (S := fun w' => (w'.cell? ⟨w.heap.size, 0, none⟩ = some (.int .i64 p) ∧ w'.cell? ⟨w.heap.size, 1, none⟩ = some (.int .i64 n) ∧ w'.cell? ⟨w.heap.size, 2, none⟩ = some (t)) ∧ w'.cell? ⟨gh, i, none⟩ = some (.slice A1 n c1) ∧ w'.cell? ⟨gh, j, none⟩ = some (.slice A2 n c2) ∧ w'.cell? ⟨be, oe + i, none⟩ = some (.slice A3 n c3) ∧ w'.cell? ⟨be, oe + j, none⟩ = some (.slice A4 n c4) ∧ w'.cell? ⟨bf, of_ + i, none⟩ = some (.slice A5 n c5) ∧ w'.cell? ⟨bf, of_ + j, none⟩ = some (.slice A6 n c6)) (by kernel_rfl) (HF.out _ _ 0 g0 rfl).s (fun hHeld => ?_)
                      obtain ⟨v9, hv9, g8⟩ : ∃ v9, v9 = World.drew _ ∧ St w v9 _ := ⟨_, rfl, g0⟩
                      rw [← hv9] at g0 hHeld ⊢
                      clear hv9 g8 gB
                      refine anyH_take (v := ?_) 0 rfl (by kernel_rfl) (by kernel_rfl) (by kernel_rfl) (fun _ _ _ h => h) rfl ?_ hHeld ?_
                      rotate_left
                      · intro w' hSw
                        go_simp
                        try with_reducible rfl
                      try simp only [Act.put, List.setIfInBounds_toArray, List.set_cons_zero, List.set_cons_succ]
                      refine anyH_take (v := ?_) 1 rfl (by kernel_rfl) (by kernel_rfl) (by kernel_rfl) (fun _ _ _ h => h) rfl ?_ hHeld ?_
                      rotate_left
                      · intro w' hSw
                        go_simp
                        try with_reducible rfl
                      try simp only [Act.put, List.setIfInBounds_toArray, List.set_cons_zero, List.set_cons_succ]
                      refine anyH_take (v := ?_) 2 rfl (by kernel_rfl) (by kernel_rfl) (by kernel_rfl) (fun _ _ _ h => h) rfl ?_ hHeld ?_
                      rotate_left
                      · intro w' hSw
                        go_simp
                        try with_reducible rfl
                      try simp only [Act.put, List.setIfInBounds_toArray, List.set_cons_zero, List.set_cons_succ]
                      refine anyH_take (v := ?_) 3 rfl (by kernel_rfl) (by kernel_rfl) (by kernel_rfl) (fun _ _ _ h => h) rfl ?_ hHeld ?_
                      rotate_left
                      · intro w' hSw
                        go_simp
                        try with_reducible rfl
                      try simp only [Act.put, List.setIfInBounds_toArray, List.set_cons_zero, List.set_cons_succ]
                      refine anyH_take (v := ?_) 4 rfl (by kernel_rfl) (by kernel_rfl) (by kernel_rfl) (fun _ _ _ h => h) rfl ?_ hHeld ?_
                      rotate_left
                      · intro w' hSw
                        go_simp
                        try with_reducible rfl
                      try simp only [Act.put, List.setIfInBounds_toArray, List.set_cons_zero, List.set_cons_succ]
                      refine anyH_take (v := ?_) 5 rfl (by kernel_rfl) (by kernel_rfl) (by kernel_rfl) (fun _ _ _ h => h) rfl ?_ hHeld ?_
                      rotate_left
                      · intro w' hSw
                        go_simp
                        try with_reducible rfl
                      try simp only [Act.put, List.setIfInBounds_toArray, List.set_cons_zero, List.set_cons_succ]
                      refine anyH_take (v := ?_) 6 rfl (by kernel_rfl) (by kernel_rfl) (by kernel_rfl) (fun _ _ _ h => h) rfl ?_ hHeld ?_
                      rotate_left
                      · intro w' hSw
                        go_simp
                        try with_reducible rfl
                      try simp only [Act.put, List.setIfInBounds_toArray, List.set_cons_zero, List.set_cons_succ]
                      refine anyH_take (v := ?_) 7 rfl (by kernel_rfl) (by kernel_rfl) (by kernel_rfl) (fun _ _ _ h => h) rfl ?_ hHeld ?_
                      rotate_left
                      · intro w' hSw
                        go_simp
                        try with_reducible rfl
                      try simp only [Act.put, List.setIfInBounds_toArray, List.set_cons_zero, List.set_cons_succ]
                      refine anyH_take (v := ?_) 8 rfl (by kernel_rfl) (by kernel_rfl) (by kernel_rfl) (fun _ _ _ h => h) rfl ?_ hHeld ?_
                      rotate_left
                      · intro w' hSw
                        go_simp
                        try with_reducible rfl
                      try simp only [Act.put, List.setIfInBounds_toArray, List.set_cons_zero, List.set_cons_succ]
                      refine anyH_take (v := ?_) 10 rfl (by kernel_rfl) (by kernel_rfl) (by kernel_rfl) (fun _ _ _ h => h) rfl ?_ hHeld ?_
                      rotate_left
                      · intro w' hSw
                        go_simp
                        try with_reducible rfl
                      try simp only [Act.put, List.setIfInBounds_toArray, List.set_cons_zero, List.set_cons_succ]
                      refine anyH_take (v := ?_) 11 rfl (by kernel_rfl) (by kernel_rfl) (by kernel_rfl) (fun _ _ _ h => h) rfl ?_ hHeld ?_
                      rotate_left
                      · intro w' hSw
                        go_simp
                        try with_reducible rfl
                      try simp only [Act.put, List.setIfInBounds_toArray, List.set_cons_zero, List.set_cons_succ]
                      refine anyH_take (v := ?_) 12 rfl (by kernel_rfl) (by kernel_rfl) (by kernel_rfl) (fun _ _ _ h => h) rfl ?_ hHeld ?_
                      rotate_left
                      · intro w' hSw
                        go_simp
                        try with_reducible rfl
                      try simp only [Act.put, List.setIfInBounds_toArray, List.set_cons_zero, List.set_cons_succ]
                      refine anyH_take (v := ?_) 13 rfl (by kernel_rfl) (by kernel_rfl) (by kernel_rfl) (fun _ _ _ h => h) rfl ?_ hHeld ?_
                      rotate_left
                      · intro w' hSw
                        go_simp
                        try with_reducible rfl
                      try simp only [Act.put, List.setIfInBounds_toArray, List.set_cons_zero, List.set_cons_succ]
                      refine anyH_take (v := ?_) 14 rfl (by kernel_rfl) (by kernel_rfl) (by kernel_rfl) (fun _ _ _ h => h) rfl ?_ hHeld ?_
                      rotate_left
                      · intro w' hSw
                        go_simp
                        try with_reducible rfl
                      try simp only [Act.put, List.setIfInBounds_toArray, List.set_cons_zero, List.set_cons_succ]
                      refine anyH_take (v := ?_) 15 rfl (by kernel_rfl) (by kernel_rfl) (by kernel_rfl) (fun _ _ _ h => h) rfl ?_ hHeld ?_
                      rotate_left
                      · intro w' hSw
                        go_simp
                        try with_reducible rfl
                      try simp only [Act.put, List.setIfInBounds_toArray, List.set_cons_zero, List.set_cons_succ]
                      refine anyH_take (v := ?_) 16 rfl (by kernel_rfl) (by kernel_rfl) (by kernel_rfl) (fun _ _ _ h => h) rfl ?_ hHeld ?_
                      rotate_left
                      · intro w' hSw
                        go_simp
                        try with_reducible rfl
                      try simp only [Act.put, List.setIfInBounds_toArray, List.set_cons_zero, List.set_cons_succ]
                      refine wpAnyH_ready (rs := [9]) (by kernel_rfl) (by simp) ?_
                      refine ready_cons rfl (fun K hK => ?_) AllReadyH.nil
                      go_simp
                      refine (C5.out _ _ _ (HF.out _ _ 0 g0 rfl).t (HF.out _ _ 0 g0 rfl).hi (HF.out _ _ 0 g0 rfl).ej).mono ?_
                      rintro (e : Ending) w10 ⟨u10, rfl, ho10, hb10⟩
                      have g3 := g0.pushOwn hb10 ho10
                      show K _ _
                      refine hK.out _ _ ?_ (fun hHeld => ?_)
                      · exact (HF.out _ _ 1 g3 rfl).s
                      clear hK K
                      try simp only [Act.put, List.setIfInBounds_toArray, List.set_cons_zero, List.set_cons_succ]
                      refine wpAnyH_ready (rs := [17]) (by kernel_rfl) (by simp) ?_
                      refine ready_cons rfl (fun K hK => ?_) AllReadyH.nil
                      go_simp
                      refine (C6.out _ _ (HF.out _ _ 1 g3 rfl).ej).mono ?_
                      rintro (e : Ending) w11 ⟨u11, rfl, ho11, hb11⟩
                      have g4 := g3.pushOwn hb11 ho11
                      show K _ _
                      refine hK.out _ _ ?_ (fun hHeld => ?_)
                      · exact (HF.out _ _ 2 g4 rfl).s
                      clear hK K
                      try simp only [Act.put, List.setIfInBounds_toArray, List.set_cons_zero, List.set_cons_succ]
                      refine wpAnyH_ready (rs := [18]) (by kernel_rfl) (by simp) ?_
                      refine ready_cons rfl (fun K hK => ?_) AllReadyH.nil
                      go_simp
                      refine (C7.out _ _ _ (g4.ownInts 1 rfl) (g4.ownInts 0 rfl)).mono ?_
                      rintro (e : Ending) w12 ⟨rfl, nd, rfl⟩
                      have g5 := g4.drewN nd
                      show K _ _
                      refine hK.out _ _ ?_ (fun hHeld => ?_)
                      · exact (HF.out _ _ 2 g5 rfl).s
                      clear hK K
                      try simp only [Act.put, List.setIfInBounds_toArray, List.set_cons_zero, List.set_cons_succ]
                      refine anyH_take (v := ?_) 19 rfl (by kernel_rfl) (by kernel_rfl) (by kernel_rfl) (fun _ _ _ h => h) rfl ?_ hHeld ?_
                      rotate_left
                      · intro w' hSw
                        go_simp
                        try with_reducible rfl
                      try simp only [Act.put, List.setIfInBounds_toArray, List.set_cons_zero, List.set_cons_succ]
                      refine anyH_take (v := ?_) 20 rfl (by kernel_rfl) (by kernel_rfl) (by kernel_rfl) (fun _ _ _ h => h) rfl ?_ hHeld ?_
                      rotate_left
                      · intro w' hSw
                        go_simp
                        try with_reducible rfl
                      try simp only [Act.put, List.setIfInBounds_toArray, List.set_cons_zero, List.set_cons_succ]
                      refine anyH_skip 21 rfl (by kernel_rfl) (by kernel_rfl) (by kernel_rfl) (fun _ _ _ h => h) rfl hHeld ?_
                      try simp only [Act.put, List.setIfInBounds_toArray, List.set_cons_zero, List.set_cons_succ]
                      refine anyH_skip 22 rfl (by kernel_rfl) (by kernel_rfl) (by kernel_rfl) (fun _ _ _ h => h) rfl hHeld ?_
                      try simp only [Act.put, List.setIfInBounds_toArray, List.set_cons_zero, List.set_cons_succ]
                      refine anyH_skip 23 rfl (by kernel_rfl) (by kernel_rfl) (by kernel_rfl) (fun _ _ _ h => h) rfl hHeld ?_
                      try simp only [Act.put, List.setIfInBounds_toArray, List.set_cons_zero, List.set_cons_succ]
                      refine anyH_skip 24 rfl (by kernel_rfl) (by kernel_rfl) (by kernel_rfl) (fun _ _ _ h => h) rfl hHeld ?_
                      try simp only [Act.put, List.setIfInBounds_toArray, List.set_cons_zero, List.set_cons_succ]
                      refine anyH_skip 25 rfl (by kernel_rfl) (by kernel_rfl) (by kernel_rfl) (fun _ _ _ h => h) rfl hHeld ?_
                      try simp only [Act.put, List.setIfInBounds_toArray, List.set_cons_zero, List.set_cons_succ]
                      refine anyH_skip 26 rfl (by kernel_rfl) (by kernel_rfl) (by kernel_rfl) (fun _ _ _ h => h) rfl hHeld ?_
                      try simp only [Act.put, List.setIfInBounds_toArray, List.set_cons_zero, List.set_cons_succ]
                      refine anyH_skip 27 rfl (by kernel_rfl) (by kernel_rfl) (by kernel_rfl) (fun _ _ _ h => h) rfl hHeld ?_
                      try simp only [Act.put, List.setIfInBounds_toArray, List.set_cons_zero, List.set_cons_succ]
                      refine anyH_skip 28 rfl (by kernel_rfl) (by kernel_rfl) (by kernel_rfl) (fun _ _ _ h => h) rfl hHeld ?_
                      try simp only [Act.put, List.setIfInBounds_toArray, List.set_cons_zero, List.set_cons_succ]
                      refine anyH_skip 29 rfl (by kernel_rfl) (by kernel_rfl) (by kernel_rfl) (fun _ _ _ h => h) rfl hHeld ?_
                      try simp only [Act.put, List.setIfInBounds_toArray, List.set_cons_zero, List.set_cons_succ]
                      refine anyH_skip 30 rfl (by kernel_rfl) (by kernel_rfl) (by kernel_rfl) (fun _ _ _ h => h) rfl hHeld ?_
                      try simp only [Act.put, List.setIfInBounds_toArray, List.set_cons_zero, List.set_cons_succ]
                      refine anyH_skip 31 rfl (by kernel_rfl) (by kernel_rfl) (by kernel_rfl) (fun _ _ _ h => h) rfl hHeld ?_
                      try simp only [Act.put, List.setIfInBounds_toArray, List.set_cons_zero, List.set_cons_succ]
                      refine anyH_skip 32 rfl (by kernel_rfl) (by kernel_rfl) (by kernel_rfl) (fun _ _ _ h => h) rfl hHeld ?_
                      try simp only [Act.put, List.setIfInBounds_toArray, List.set_cons_zero, List.set_cons_succ]
                      refine anyH_skip 33 rfl (by kernel_rfl) (by kernel_rfl) (by kernel_rfl) (fun _ _ _ h => h) rfl hHeld ?_
                      try simp only [Act.put, List.setIfInBounds_toArray, List.set_cons_zero, List.set_cons_succ]
                      refine anyH_skip 34 rfl (by kernel_rfl) (by kernel_rfl) (by kernel_rfl) (fun _ _ _ h => h) rfl hHeld ?_
                      try simp only [Act.put, List.setIfInBounds_toArray, List.set_cons_zero, List.set_cons_succ]
                      refine anyH_skip 35 rfl (by kernel_rfl) (by kernel_rfl) (by kernel_rfl) (fun _ _ _ h => h) rfl hHeld ?_
                      try simp only [Act.put, List.setIfInBounds_toArray, List.set_cons_zero, List.set_cons_succ]
                      refine anyH_skip 36 rfl (by kernel_rfl) (by kernel_rfl) (by kernel_rfl) (fun _ _ _ h => h) rfl hHeld ?_
                      try simp only [Act.put, List.setIfInBounds_toArray, List.set_cons_zero, List.set_cons_succ]
                      refine anyH_skip 37 rfl (by kernel_rfl) (by kernel_rfl) (by kernel_rfl) (fun _ _ _ h => h) rfl hHeld ?_
                      try simp only [Act.put, List.setIfInBounds_toArray, List.set_cons_zero, List.set_cons_succ]
                      refine anyH_skip 38 rfl (by kernel_rfl) (by kernel_rfl) (by kernel_rfl) (fun _ _ _ h => h) rfl hHeld ?_
                      try simp only [Act.put, List.setIfInBounds_toArray, List.set_cons_zero, List.set_cons_succ]
                      refine anyH_skip 39 rfl (by kernel_rfl) (by kernel_rfl) (by kernel_rfl) (fun _ _ _ h => h) rfl hHeld ?_
                      try simp only [Act.put, List.setIfInBounds_toArray, List.set_cons_zero, List.set_cons_succ]
                      refine anyH_skip 40 rfl (by kernel_rfl) (by kernel_rfl) (by kernel_rfl) (fun _ _ _ h => h) rfl hHeld ?_
                      try simp only [Act.put, List.setIfInBounds_toArray, List.set_cons_zero, List.set_cons_succ]
                      refine anyH_skip 41 rfl (by kernel_rfl) (by kernel_rfl) (by kernel_rfl) (fun _ _ _ h => h) rfl hHeld ?_
                      try simp only [Act.put, List.setIfInBounds_toArray, List.set_cons_zero, List.set_cons_succ]
                      refine anyH_take (v := ?_) 42 rfl (by kernel_rfl) (by kernel_rfl) (by kernel_rfl) (fun _ _ _ h => h) rfl ?_ hHeld ?_
                      rotate_left
                      · intro w' hSw
                        go_simp
                        try with_reducible rfl
                      try simp only [Act.put, List.setIfInBounds_toArray, List.set_cons_zero, List.set_cons_succ]
                      refine wpAnyH_done (by kernel_rfl) ?_ _
                      clear hHeld
                      go_wp2_with fail
                      go_meet
                      exact ⟨rfl, g5.drop 2⟩
                    | true =>
                      go_upto_region 19 with fail
                      have g0 := gB.drew
                      refine wp_region_held_drew (S := fun w' => (w'.cell? ⟨w.heap.size, 0, none⟩ = some (.int .i64 p) ∧ w'.cell? ⟨w.heap.size, 1, none⟩ = some (.int .i64 n) ∧ w'.cell? ⟨w.heap.size, 2, none⟩ = some (t)) ∧ w'.cell? ⟨gh, i, none⟩ = some (.slice A1 n c1) ∧ w'.cell? ⟨gh, j, none⟩ = some (.slice A2 n c2) ∧ w'.cell? ⟨be, oe + i, none⟩ = some (.slice A3 n c3) ∧ w'.cell? ⟨be, oe + j, none⟩ = some (.slice A4 n c4) ∧ w'.cell? ⟨bf, of_ + i, none⟩ = some (.slice A5 n c5) ∧ w'.cell? ⟨bf, of_ + j, none⟩ = some (.slice A6 n c6)) (by kernel_rfl) (HF.out _ _ 0 g0 rfl).s (fun hHeld => ?_)
                      obtain ⟨v9, hv9, g8⟩ : ∃ v9, v9 = World.drew _ ∧ St w v9 _ := ⟨_, rfl, g0⟩
                      rw [← hv9] at g0 hHeld ⊢
                      clear hv9 g8 gB
                      refine anyH_take (v := ?_) 0 rfl (by kernel_rfl) (by kernel_rfl) (by kernel_rfl) (fun _ _ _ h => h) rfl ?_ hHeld ?_
                      rotate_left
                      · intro w' hSw
                        go_simp
                        try with_reducible rfl
                      try simp only [Act.put, List.setIfInBounds_toArray, List.set_cons_zero, List.set_cons_succ]
                      refine anyH_take (v := ?_) 1 rfl (by kernel_rfl) (by kernel_rfl) (by kernel_rfl) (fun _ _ _ h => h) rfl ?_ hHeld ?_
                      rotate_left
                      · intro w' hSw
                        go_simp
                        try with_reducible rfl
                      try simp only [Act.put, List.setIfInBounds_toArray, List.set_cons_zero, List.set_cons_succ]
                      refine anyH_take (v := ?_) 2 rfl (by kernel_rfl) (by kernel_rfl) (by kernel_rfl) (fun _ _ _ h => h) rfl ?_ hHeld ?_
                      rotate_left
                      · intro w' hSw
                        go_simp
                        try with_reducible rfl
                      try simp only [Act.put, List.setIfInBounds_toArray, List.set_cons_zero, List.set_cons_succ]
                      refine anyH_take (v := ?_) 3 rfl (by kernel_rfl) (by kernel_rfl) (by kernel_rfl) (fun _ _ _ h => h) rfl ?_ hHeld ?_
                      rotate_left
                      · intro w' hSw
                        go_simp
                        try with_reducible rfl
                      try simp only [Act.put, List.setIfInBounds_toArray, List.set_cons_zero, List.set_cons_succ]
                      refine anyH_take (v := ?_) 4 rfl (by kernel_rfl) (by kernel_rfl) (by kernel_rfl) (fun _ _ _ h => h) rfl ?_ hHeld ?_
                      rotate_left
                      · intro w' hSw
                        go_simp
                        try with_reducible rfl
                      try simp only [Act.put, List.setIfInBounds_toArray, List.set_cons_zero, List.set_cons_succ]
                      refine anyH_take (v := ?_) 5 rfl (by kernel_rfl) (by kernel_rfl) (by kernel_rfl) (fun _ _ _ h => h) rfl ?_ hHeld ?_
                      rotate_left
                      · intro w' hSw
                        go_simp
                        try with_reducible rfl
                      try simp only [Act.put, List.setIfInBounds_toArray, List.set_cons_zero, List.set_cons_succ]
                      refine anyH_take (v := ?_) 6 rfl (by kernel_rfl) (by kernel_rfl) (by kernel_rfl) (fun _ _ _ h => h) rfl ?_ hHeld ?_
                      rotate_left
                      · intro w' hSw
                        go_simp
                        try with_reducible rfl
                      try simp only [Act.put, List.setIfInBounds_toArray, List.set_cons_zero, List.set_cons_succ]
                      refine anyH_take (v := ?_) 7 rfl (by kernel_rfl) (by kernel_rfl) (by kernel_rfl) (fun _ _ _ h => h) rfl ?_ hHeld ?_
                      rotate_left
                      · intro w' hSw
                        go_simp
                        try with_reducible rfl
                      try simp only [Act.put, List.setIfInBounds_toArray, List.set_cons_zero, List.set_cons_succ]
                      refine anyH_take (v := ?_) 8 rfl (by kernel_rfl) (by kernel_rfl) (by kernel_rfl) (fun _ _ _ h => h) rfl ?_ hHeld ?_
                      rotate_left
                      · intro w' hSw
                        go_simp
                        try with_reducible rfl
                      try simp only [Act.put, List.setIfInBounds_toArray, List.set_cons_zero, List.set_cons_succ]
                      refine anyH_take (v := ?_) 10 rfl (by kernel_rfl) (by kernel_rfl) (by kernel_rfl) (fun _ _ _ h => h) rfl ?_ hHeld ?_
                      rotate_left
                      · intro w' hSw
                        go_simp
                        try with_reducible rfl
                      try simp only [Act.put, List.setIfInBounds_toArray, List.set_cons_zero, List.set_cons_succ]
                      refine anyH_take (v := ?_) 11 rfl (by kernel_rfl) (by kernel_rfl) (by kernel_rfl) (fun _ _ _ h => h) rfl ?_ hHeld ?_
                      rotate_left
                      · intro w' hSw
                        go_simp
                        try with_reducible rfl
                      try simp only [Act.put, List.setIfInBounds_toArray, List.set_cons_zero, List.set_cons_succ]
                      refine anyH_take (v := ?_) 12 rfl (by kernel_rfl) (by kernel_rfl) (by kernel_rfl) (fun _ _ _ h => h) rfl ?_ hHeld ?_
                      rotate_left
                      · intro w' hSw
                        go_simp
                        try with_reducible rfl
                      try simp only [Act.put, List.setIfInBounds_toArray, List.set_cons_zero, List.set_cons_succ]
                      refine anyH_take (v := ?_) 13 rfl (by kernel_rfl) (by kernel_rfl) (by kernel_rfl) (fun _ _ _ h => h) rfl ?_ hHeld ?_
                      rotate_left
                      · intro w' hSw
                        go_simp
                        try with_reducible rfl
                      try simp only [Act.put, List.setIfInBounds_toArray, List.set_cons_zero, List.set_cons_succ]
                      refine anyH_take (v := ?_) 14 rfl (by kernel_rfl) (by kernel_rfl) (by kernel_rfl) (fun _ _ _ h => h) rfl ?_ hHeld ?_
                      rotate_left
                      · intro w' hSw
                        go_simp
                        try with_reducible rfl
                      try simp only [Act.put, List.setIfInBounds_toArray, List.set_cons_zero, List.set_cons_succ]
                      refine anyH_take (v := ?_) 15 rfl (by kernel_rfl) (by kernel_rfl) (by kernel_rfl) (fun _ _ _ h => h) rfl ?_ hHeld ?_
                      rotate_left
                      · intro w' hSw
                        go_simp
                        try with_reducible rfl
                      try simp only [Act.put, List.setIfInBounds_toArray, List.set_cons_zero, List.set_cons_succ]
                      refine anyH_take (v := ?_) 16 rfl (by kernel_rfl) (by kernel_rfl) (by kernel_rfl) (fun _ _ _ h => h) rfl ?_ hHeld ?_
                      rotate_left
                      · intro w' hSw
                        go_simp
                        try with_reducible rfl
                      try simp only [Act.put, List.setIfInBounds_toArray, List.set_cons_zero, List.set_cons_succ]
                      refine wpAnyH_ready (rs := [9]) (by kernel_rfl) (by simp) ?_
                      refine ready_cons rfl (fun K hK => ?_) AllReadyH.nil
                      go_simp
                      refine (C5.out _ _ _ (HF.out _ _ 0 g0 rfl).t (HF.out _ _ 0 g0 rfl).hi (HF.out _ _ 0 g0 rfl).ej).mono ?_
                      rintro (e : Ending) w10 ⟨u10, rfl, ho10, hb10⟩
                      have g3 := g0.pushOwn hb10 ho10
                      show K _ _
                      refine hK.out _ _ ?_ (fun hHeld => ?_)
                      · exact (HF.out _ _ 1 g3 rfl).s
                      clear hK K
                      try simp only [Act.put, List.setIfInBounds_toArray, List.set_cons_zero, List.set_cons_succ]
                      refine wpAnyH_ready (rs := [17]) (by kernel_rfl) (by simp) ?_
                      refine ready_cons rfl (fun K hK => ?_) AllReadyH.nil
                      go_simp
                      refine (C6.out _ _ (HF.out _ _ 1 g3 rfl).ej).mono ?_
                      rintro (e : Ending) w11 ⟨u11, rfl, ho11, hb11⟩
                      have g4 := g3.pushOwn hb11 ho11
                      show K _ _
                      refine hK.out _ _ ?_ (fun hHeld => ?_)
                      · exact (HF.out _ _ 2 g4 rfl).s
                      clear hK K
                      try simp only [Act.put, List.setIfInBounds_toArray, List.set_cons_zero, List.set_cons_succ]
                      refine wpAnyH_ready (rs := [18]) (by kernel_rfl) (by simp) ?_
                      refine ready_cons rfl (fun K hK => ?_) AllReadyH.nil
                      go_simp
                      refine (C7.out _ _ _ (g4.ownInts 1 rfl) (g4.ownInts 0 rfl)).mono ?_
                      rintro (e : Ending) w12 ⟨rfl, nd, rfl⟩
                      have g5 := g4.drewN nd
                      show K _ _
                      refine hK.out _ _ ?_ (fun hHeld => ?_)
                      · exact (HF.out _ _ 2 g5 rfl).s
                      clear hK K
                      try simp only [Act.put, List.setIfInBounds_toArray, List.set_cons_zero, List.set_cons_succ]
                      refine anyH_take (v := ?_) 19 rfl (by kernel_rfl) (by kernel_rfl) (by kernel_rfl) (fun _ _ _ h => h) rfl ?_ hHeld ?_
                      rotate_left
                      · intro w' hSw
                        go_simp
                        try with_reducible rfl
                      try simp only [Act.put, List.setIfInBounds_toArray, List.set_cons_zero, List.set_cons_succ]
                      refine anyH_take (v := ?_) 20 rfl (by kernel_rfl) (by kernel_rfl) (by kernel_rfl) (fun _ _ _ h => h) rfl ?_ hHeld ?_
                      rotate_left
                      · intro w' hSw
                        go_simp
                        try with_reducible rfl
                      try simp only [Act.put, List.setIfInBounds_toArray, List.set_cons_zero, List.set_cons_succ]
                      refine anyH_take (v := ?_) 21 rfl (by kernel_rfl) (by kernel_rfl) (by kernel_rfl) (fun _ _ _ h => h) rfl ?_ hHeld ?_
                      rotate_left
                      · intro w' hSw
                        go_simp
                        try with_reducible rfl
                      try simp only [Act.put, List.setIfInBounds_toArray, List.set_cons_zero, List.set_cons_succ]
                      refine anyH_take (v := ?_) 22 rfl (by kernel_rfl) (by kernel_rfl) (by kernel_rfl) (fun _ _ _ h => h) rfl ?_ hHeld ?_
                      rotate_left
                      · intro w' hSw
                        go_simp
                        try with_reducible rfl
                      try simp only [Act.put, List.setIfInBounds_toArray, List.set_cons_zero, List.set_cons_succ]
                      refine anyH_take (v := ?_) 23 rfl (by kernel_rfl) (by kernel_rfl) (by kernel_rfl) (fun _ _ _ h => h) rfl ?_ hHeld ?_
                      rotate_left
                      · intro w' hSw
                        go_simp
                        try with_reducible rfl
                      try simp only [Act.put, List.setIfInBounds_toArray, List.set_cons_zero, List.set_cons_succ]
                      refine anyH_take (v := ?_) 24 rfl (by kernel_rfl) (by kernel_rfl) (by kernel_rfl) (fun _ _ _ h => h) rfl ?_ hHeld ?_
                      rotate_left
                      · intro w' hSw
                        go_simp
                        try with_reducible rfl
                      try simp only [Act.put, List.setIfInBounds_toArray, List.set_cons_zero, List.set_cons_succ]
                      refine anyH_take (v := ?_) 25 rfl (by kernel_rfl) (by kernel_rfl) (by kernel_rfl) (fun _ _ _ h => h) rfl ?_ hHeld ?_
                      rotate_left
                      · intro w' hSw
                        go_simp
                        try with_reducible rfl
                      try simp only [Act.put, List.setIfInBounds_toArray, List.set_cons_zero, List.set_cons_succ]
                      refine anyH_take (v := ?_) 26 rfl (by kernel_rfl) (by kernel_rfl) (by kernel_rfl) (fun _ _ _ h => h) rfl ?_ hHeld ?_
                      rotate_left
                      · intro w' hSw
                        go_simp
                        try with_reducible rfl
                      try simp only [Act.put, List.setIfInBounds_toArray, List.set_cons_zero, List.set_cons_succ]
                      refine anyH_take (v := ?_) 27 rfl (by kernel_rfl) (by kernel_rfl) (by kernel_rfl) (fun _ _ _ h => h) rfl ?_ hHeld ?_
                      rotate_left
                      · intro w' hSw
                        go_simp
                        try with_reducible rfl
                      try simp only [Act.put, List.setIfInBounds_toArray, List.set_cons_zero, List.set_cons_succ]
                      refine anyH_take (v := ?_) 28 rfl (by kernel_rfl) (by kernel_rfl) (by kernel_rfl) (fun _ _ _ h => h) rfl ?_ hHeld ?_
                      rotate_left
                      · intro w' hSw
                        go_simp
                        try with_reducible rfl
                      try simp only [Act.put, List.setIfInBounds_toArray, List.set_cons_zero, List.set_cons_succ]
                      refine anyH_take (v := ?_) 29 rfl (by kernel_rfl) (by kernel_rfl) (by kernel_rfl) (fun _ _ _ h => h) rfl ?_ hHeld ?_
                      rotate_left
                      · intro w' hSw
                        go_simp
                        try with_reducible rfl
                      try simp only [Act.put, List.setIfInBounds_toArray, List.set_cons_zero, List.set_cons_succ]
                      refine anyH_take (v := ?_) 31 rfl (by kernel_rfl) (by kernel_rfl) (by kernel_rfl) (fun _ _ _ h => h) rfl ?_ hHeld ?_
                      rotate_left
                      · intro w' hSw
                        go_simp
                        try with_reducible rfl
                      try simp only [Act.put, List.setIfInBounds_toArray, List.set_cons_zero, List.set_cons_succ]
                      refine anyH_take (v := ?_) 32 rfl (by kernel_rfl) (by kernel_rfl) (by kernel_rfl) (fun _ _ _ h => h) rfl ?_ hHeld ?_
                      rotate_left
                      · intro w' hSw
                        go_simp
                        try with_reducible rfl
                      try simp only [Act.put, List.setIfInBounds_toArray, List.set_cons_zero, List.set_cons_succ]
                      refine anyH_take (v := ?_) 33 rfl (by kernel_rfl) (by kernel_rfl) (by kernel_rfl) (fun _ _ _ h => h) rfl ?_ hHeld ?_
                      rotate_left
                      · intro w' hSw
                        go_simp
                        try with_reducible rfl
                      try simp only [Act.put, List.setIfInBounds_toArray, List.set_cons_zero, List.set_cons_succ]
                      refine anyH_take (v := ?_) 34 rfl (by kernel_rfl) (by kernel_rfl) (by kernel_rfl) (fun _ _ _ h => h) rfl ?_ hHeld ?_
                      rotate_left
                      · intro w' hSw
                        go_simp
                        try with_reducible rfl
                      try simp only [Act.put, List.setIfInBounds_toArray, List.set_cons_zero, List.set_cons_succ]
                      refine anyH_take (v := ?_) 35 rfl (by kernel_rfl) (by kernel_rfl) (by kernel_rfl) (fun _ _ _ h => h) rfl ?_ hHeld ?_
                      rotate_left
                      · intro w' hSw
                        go_simp
                        try with_reducible rfl
                      try simp only [Act.put, List.setIfInBounds_toArray, List.set_cons_zero, List.set_cons_succ]
                      refine anyH_take (v := ?_) 36 rfl (by kernel_rfl) (by kernel_rfl) (by kernel_rfl) (fun _ _ _ h => h) rfl ?_ hHeld ?_
                      rotate_left
                      · intro w' hSw
                        go_simp
                        try with_reducible rfl
                      try simp only [Act.put, List.setIfInBounds_toArray, List.set_cons_zero, List.set_cons_succ]
                      refine anyH_take (v := ?_) 37 rfl (by kernel_rfl) (by kernel_rfl) (by kernel_rfl) (fun _ _ _ h => h) rfl ?_ hHeld ?_
                      rotate_left
                      · intro w' hSw
                        go_simp
                        try with_reducible rfl
                      try simp only [Act.put, List.setIfInBounds_toArray, List.set_cons_zero, List.set_cons_succ]
                      refine anyH_take (v := ?_) 38 rfl (by kernel_rfl) (by kernel_rfl) (by kernel_rfl) (fun _ _ _ h => h) rfl ?_ hHeld ?_
                      rotate_left
                      · intro w' hSw
                        go_simp
                        try with_reducible rfl
                      try simp only [Act.put, List.setIfInBounds_toArray, List.set_cons_zero, List.set_cons_succ]
                      refine wpAnyH_ready (rs := [30]) (by kernel_rfl) (by simp) ?_
                      refine ready_cons rfl (fun K hK => ?_) AllReadyH.nil
                      go_simp
                      refine (C8.out _ _ _ (HF.out _ _ 2 g5 rfl).t (HF.out _ _ 2 g5 rfl).hi (HF.out _ _ 2 g5 rfl).fj).mono ?_
                      rintro (e : Ending) w13 ⟨u13, rfl, ho13, hb13⟩
                      have g6 := g5.pushOwn hb13 ho13
                      show K _ _
                      refine hK.out _ _ ?_ (fun hHeld => ?_)
                      · exact (HF.out _ _ 3 g6 rfl).s
                      clear hK K
                      try simp only [Act.put, List.setIfInBounds_toArray, List.set_cons_zero, List.set_cons_succ]
                      refine wpAnyH_ready (rs := [39]) (by kernel_rfl) (by simp) ?_
                      refine ready_cons rfl (fun K hK => ?_) AllReadyH.nil
                      go_simp
                      refine (C9.out _ _ (HF.out _ _ 3 g6 rfl).fj).mono ?_
                      rintro (e : Ending) w14 ⟨u14, rfl, ho14, hb14⟩
                      have g7 := g6.pushOwn hb14 ho14
                      show K _ _
                      refine hK.out _ _ ?_ (fun hHeld => ?_)
                      · exact (HF.out _ _ 4 g7 rfl).s
                      clear hK K
                      try simp only [Act.put, List.setIfInBounds_toArray, List.set_cons_zero, List.set_cons_succ]
                      refine wpAnyH_ready (rs := [40]) (by kernel_rfl) (by simp) ?_
                      refine ready_cons rfl (fun K hK => ?_) AllReadyH.nil
                      go_simp
                      refine (C10.out _ _ _ (g7.ownInts 1 rfl) (g7.ownInts 0 rfl)).mono ?_
                      rintro (e : Ending) w15 ⟨rfl, nd2, rfl⟩
                      have g8 := g7.drewN nd2
                      show K _ _
                      refine hK.out _ _ ?_ (fun hHeld => ?_)
                      · exact (HF.out _ _ 4 g8 rfl).s
                      clear hK K
                      try simp only [Act.put, List.setIfInBounds_toArray, List.set_cons_zero, List.set_cons_succ]
                      refine anyH_take (v := ?_) 41 rfl (by kernel_rfl) (by kernel_rfl) (by kernel_rfl) (fun _ _ _ h => h) rfl ?_ hHeld ?_
                      rotate_left
                      · intro w' hSw
                        go_simp
                        try with_reducible rfl
                      try simp only [Act.put, List.setIfInBounds_toArray, List.set_cons_zero, List.set_cons_succ]
                      refine anyH_take (v := ?_) 42 rfl (by kernel_rfl) (by kernel_rfl) (by kernel_rfl) (fun _ _ _ h => h) rfl ?_ hHeld ?_
                      rotate_left
                      · intro w' hSw
                        go_simp
                        try with_reducible rfl
                      try simp only [Act.put, List.setIfInBounds_toArray, List.set_cons_zero, List.set_cons_succ]
                      refine wpAnyH_done (by kernel_rfl) ?_ _
                      clear hHeld
                      go_wp2_with fail
                      go_meet
                      exact ⟨rfl, g8.drop 4⟩
                  case rest =>
                    clear gB
                    obtain ⟨rfl, gB⟩ := hcut
                    obtain ⟨pp, hpp⟩ : ∃ pp, pp = (q1 && q2) := ⟨_, rfl⟩
                    rw [← hpp] at HXs
                    rw [← hpp]
                    clear hpp
                    cases pp with
                    | false =>
                      have HF9 := Lib.hid (show X = false by rw [HXs.out]; simp)
                      go_wp2
                      go_ret
                      exact ⟨ret_bool HF9.out.symm, gB.below⟩
                    | true =>
                      have HX2 := Lib.hid (show X = (((List.range' (j + 1) (m - (j + 1))).all (sM p n T m D E F i) && (List.range' (i + 1) (m - (i + 1))).all (fM p n T m D E F)) && (V1 && V2)) by rw [HXs.out]; simp)
                      go_wp2
                      go_roundw
                      case rel => first | exact ⟨j + 1, by go_num, by omega, gB, HX2⟩ | ((repeat apply Exists.intro); exact ⟨⟨j + 1, by go_num, by omega, gB, HX2⟩, rfl⟩)
                      case measure => simp [intOf]; omega
            · obtain rfl : m = j := by omega
              have HX2 : Hid (X = ((List.range' (i + 1) (m - (i + 1))).all (fM p n T m D E F) && (V1 && V2))) := by
                show X = _
                rw [HX.out, Nat.sub_self]
                rfl
              go_wp2
              go_roundw
              case rel => exact ⟨i + 1, by go_num, by omega, g, HX2⟩
              case measure => simp [intOf]; omega
        · obtain rfl : m = i := by omega
          have HX2 : Hid (X = (V1 && V2)) := by
            show X = _
            rw [HX.out, Nat.sub_self]
            rfl
          obtain ⟨y0, y1, y2⟩ := g.box3 2 rfl
          cases V1 with
          | false =>
            go_wp2_with fail
            refine (HSe.out _ (g.roInts 3 rfl) (g.roInts 4 rfl) (Hv.out.fact _ (fun b hb => g.below.block b hb))).mono ?_
            rintro (e : Ending) w6 ⟨rfl, hb6⟩
            have g1 := g.on hb6
            go_wp2
            go_ret
            exact ⟨ret_bool HX2.out.symm, g1.below⟩
          | true =>
            go_wp2_with fail
            refine (HSe.out _ (g.roInts 3 rfl) (g.roInts 4 rfl) (Hv.out.fact _ (fun b hb => g.below.block b hb))).mono ?_
            rintro (e : Ending) w6 ⟨rfl, hb6⟩
            have g1 := g.on hb6
            clear z0 z1 y0 y1 y2
            obtain ⟨z0, z1⟩ := g1.box2 1 rfl
            obtain ⟨y0, y1, y2⟩ := g1.box3 2 rfl
            go_wp2_with fail
            refine (HSf.out _ (g1.roInts 3 rfl) (g1.roInts 4 rfl) (Hu.out.fact _ (fun b hb => g1.below.block b hb))).mono ?_
            rintro (e : Ending) w7 ⟨rfl, hb7⟩
            have g2 := g1.on hb7
            go_wp2
            go_ret
            exact ⟨ret_bool HX2.out.symm, g2.below⟩

end Srr
end Go.Proofs.YtcngijafnnmccaaGreatDoor
