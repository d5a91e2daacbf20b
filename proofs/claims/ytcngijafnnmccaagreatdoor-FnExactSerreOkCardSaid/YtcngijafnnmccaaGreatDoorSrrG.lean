/- Relations of Serre, the program: SerreOk. -/
import Derived.Test.YtcngijafnnmccaaGreatDoorSrrF
import Derived.Test.YtcngijafnnmccaaGreatDoorAdjA
import Derived.Test.YtcngijafnnmccaaGreatDoorCarY
namespace Go.Proofs.YtcngijafnnmccaaGreatDoor
set_option maxRecDepth 100000
open Go.RowKit
namespace Srr
open Stp Car

def vG (p n : Int) (E F : List (List Int)) (i : Nat) : Bool := vecOk p n (rowOf E i) && vecOk p n (rowOf F i)
set_option maxHeartbeats 8000000 in
theorem SerreOkI_any (p N r : Int) (t d ve vf : Value) (T D : List Int) (E F : List (List Int)) (w : World) (ht : Ints w t T) (hd : Ints w d D) (hv : IntRows w ve E) (hu : IntRows w vf F) (hp9 : p ≤ 9223372036854775807) (hM : MaxAt w) (hr : -9223372036854775808 ≤ r ∧ r ≤ 9223372036854775807) :
    Calls Tryz.prog 11 #[.agg #[.int .i64 p, .int .i64 N, t], .agg #[.int .i64 r, d], ve, vf] w (RetBool w (serOk p N T r D E F)) := by
  have g := ((((St.start w).arg hd).arg ht).box [.int .i64 p, .int .i64 N, t] 32).box [.int .i64 r, d] 34
  simp only [World.size_alloc] at g
  obtain ⟨A, c, rfl, _, _, _⟩ := id hv
  obtain ⟨A', c', rfl, _, _, _⟩ := id hu
  obtain ⟨X, hX⟩ : ∃ X, X = serOk p N T r D E F := ⟨_, rfl⟩
  rw [← hX]
  obtain ⟨z0, z1⟩ := g.box2 0 rfl
  obtain ⟨y0, y1, y2⟩ := g.box3 1 rfl
  unfold serOk at hX
  have HMx := Lib.hid hM
  have HA := Lib.hid (fun (W : World) (x : Ints W t T) => AlgebraOkI_any p N t T W x hp9)
  have HC := Lib.hid (fun (W : World) (x : Ints W d D) (y : MaxAt W) => IsCartanI_any r d D W x y hr)
  clear hM hr hp9
  obtain ⟨a1, ha1⟩ : ∃ a1, a1 = algOk p N T := ⟨_, rfl⟩
  obtain ⟨a2, ha2⟩ : ∃ a2, a2 = carB r D := ⟨_, rfl⟩
  rw [← ha1] at HA hX
  rw [← ha2] at HC hX
  cases a1 with
  | false =>
    obtain rfl : X = false := hX
    clear ha1 ha2 ht hd hv hu HC
    go_enter Tryz.func11, Tryz.ntmps11
    go_wp2_with fail
    refine (HA.out _ (g.roInts 2 rfl)).mono ?_
    rintro (e : Ending) w3 ⟨rfl, hb3⟩
    have g3 := g.on hb3
    go_wp2
    go_ret
    exact ⟨rfl, g3.below⟩
  | true =>
  cases a2 with
  | false =>
    obtain rfl : X = false := hX
    clear ha1 ha2 ht hd hv hu
    go_enter Tryz.func11, Tryz.ntmps11
    go_wp2_with fail
    refine (HA.out _ (g.roInts 2 rfl)).mono ?_
    rintro (e : Ending) w3 ⟨rfl, hb3⟩
    have g3 := g.on hb3
    clear z0 z1 y0 y1 y2
    obtain ⟨z0, z1⟩ := g3.box2 0 rfl
    go_wp2_with fail
    refine (HC.out _ (g3.roInts 3 rfl) (Car.MaxAt.below HMx.out g3.below)).mono ?_
    rintro (e : Ending) w4 ⟨rfl, hb4⟩
    have g4 := g3.on hb4
    go_wp2
    go_ret
    exact ⟨rfl, g4.below⟩
  | true =>
  obtain ⟨n, rfl, hn, hT, rT, hp, hp', _⟩ := algOk_spec ha1.symm
  obtain ⟨m, rfl, m1, m4, hD, hen⟩ := carB_spec ha2.symm
  simp only [Bool.true_and, Int.toNat_natCast] at hX
  clear ha1 ha2
  by_cases l1 : E.length = m
  case neg =>
    have e1 : decide ((E.length : Int) = m) = false := decide_eq_false (by omega)
    rw [e1] at hX
    obtain rfl : X = false := hX
    have l2 : ¬ (E.length : Int) = (m : Int) := by omega
    obtain ⟨el, hel⟩ : ∃ el, el = E.length := ⟨_, rfl⟩
    obtain ⟨fl, hfl⟩ : ∃ fl, fl = F.length := ⟨_, rfl⟩
    rw [← hel] at l2 ⊢
    rw [← hfl]
    clear e1 l1 ht hd hv hu hT hD hen hel hfl rT
    go_enter Tryz.func11, Tryz.ntmps11
    go_wp2_with fail
    refine (HA.out _ (g.roInts 2 rfl)).mono ?_
    rintro (e : Ending) w3 ⟨rfl, hb3⟩
    have g3 := g.on hb3
    clear z0 z1 y0 y1 y2
    obtain ⟨z0, z1⟩ := g3.box2 0 rfl
    go_wp2_with fail
    refine (HC.out _ (g3.roInts 3 rfl) (Car.MaxAt.below HMx.out g3.below)).mono ?_
    rintro (e : Ending) w4 ⟨rfl, hb4⟩
    have g4 := g3.on hb4
    clear z0 z1
    obtain ⟨z0, z1⟩ := g4.box2 0 rfl
    go_wp2
    go_ret
    exact ⟨rfl, g4.below⟩
  by_cases l2 : F.length = m
  case neg =>
    have e1 : decide ((F.length : Int) = m) = false := decide_eq_false (by omega)
    rw [e1, Bool.false_and, Bool.and_false] at hX
    obtain rfl : X = false := hX
    have l2 : ¬ (F.length : Int) = (m : Int) := by omega
    obtain ⟨el, hel⟩ : ∃ el, el = E.length := ⟨_, rfl⟩
    obtain ⟨fl, hfl⟩ : ∃ fl, fl = F.length := ⟨_, rfl⟩
    rw [← hfl] at l2 ⊢
    rw [l1]
    clear e1 l1 ht hd hv hu hT hD hen hel hfl rT
    go_enter Tryz.func11, Tryz.ntmps11
    go_wp2_with fail
    refine (HA.out _ (g.roInts 2 rfl)).mono ?_
    rintro (e : Ending) w3 ⟨rfl, hb3⟩
    have g3 := g.on hb3
    clear z0 z1 y0 y1 y2
    obtain ⟨z0, z1⟩ := g3.box2 0 rfl
    go_wp2_with fail
    refine (HC.out _ (g3.roInts 3 rfl) (Car.MaxAt.below HMx.out g3.below)).mono ?_
    rintro (e : Ending) w4 ⟨rfl, hb4⟩
    have g4 := g3.on hb4
    clear z0 z1
    obtain ⟨z0, z1⟩ := g4.box2 0 rfl
    go_wp2
    go_ret
    exact ⟨rfl, g4.below⟩
  rw [decide_eq_true (by omega : (E.length : Int) = m), decide_eq_true (by omega : (F.length : Int) = m), Bool.true_and, Bool.true_and] at hX
  rw [l1] at hv ⊢
  rw [l2] at hu ⊢
  rw [← serP_eq] at hX
  obtain ⟨Y, hY⟩ : ∃ Y, Y = serP p n T m D E F := ⟨_, rfl⟩
  rw [← hY] at hX
  have HX : Hid (X = ((List.range' 0 (m - 0)).all (vG p n E F) && Y)) := hX
  have Hv := Lib.hid hv
  have Hu := Lib.hid hu
  have HlE := Lib.hid l1
  have HlF := Lib.hid l2
  obtain ⟨At, ct, hte, _, _, _⟩ := id ht
  have HV2 := Lib.hid (fun (Z : List Int) (W : World) (z : Value) (x : Ints W z Z) => isElement_any p n t z At _ ct Z W hte x (by omega) (by omega))
  have HNl := Lib.hid (fun (W : World) => newLie_any p n t At _ ct W hte)
  have HS := Lib.hid (fun (W : World) (hh : ∀ i, i < m → (rowOf E i).length = n ∧ resid p (rowOf E i) = true) (hh2 : ∀ i, i < m → (rowOf F i).length = n ∧ resid p (rowOf F i) = true) (x0 : Ints W t T) (x1 : Ints W d D) (x2 : IntRows W (.slice A m c) E) (x3 : IntRows W (.slice A' m c') F) => serre_any p n m T D E F t d (.slice A m c) (.slice A' m c') W x0 x1 x2 x3 l1 l2 hD m1 m4 hen hT hn hp hp' rT hh hh2)
  rw [← hY] at HS
  clear l1 l2 hX hY hv hu ht hd hT hD hen rT hte
  go_enter Tryz.func11, Tryz.ntmps11
  go_wp2_with fail
  refine (HA.out _ (g.roInts 2 rfl)).mono ?_
  rintro (e : Ending) w3 ⟨rfl, hb3⟩
  have g3 := g.on hb3
  clear z0 z1 y0 y1 y2 HA
  obtain ⟨z0, z1⟩ := g3.box2 0 rfl
  go_wp2_with fail
  refine (HC.out _ (g3.roInts 3 rfl) (Car.MaxAt.below HMx.out g3.below)).mono ?_
  rintro (e : Ending) w4 ⟨rfl, hb4⟩
  have g4 := (g3.on hb4)
  clear z0 z1 g g3 hb3 hb4 HC HMx
  obtain ⟨z0, z1⟩ := g4.box2 0 rfl
  go_wp2
  clear z0 z1
  go_loopw [34] (fun v34 wr => ∃ (i : Nat), v34 = .int .i64 i ∧ i ≤ m ∧ St w wr [.box (w.heap.size + 1) [.int .i64 m, d], .box w.heap.size [.int .i64 p, .int .i64 n, t], .ro t T, .ro d D] ∧ Hid (X = ((List.range' i (m - i)).all (vG p n E F) && Y)) ∧ Hid (∀ k, k < i → vG p n E F k = true)) (fun v34 _ => m - (intOf v34).toNat)
  case atStart => exact ⟨0, rfl, by omega, g4, HX, fun k hk => absurd hk (by omega)⟩
  case round =>
    clear g4 HX
    obtain ⟨i, rfl, a1, g, HX, Hok⟩ := hrel
    by_cases hi : i < m
    · have ii : (i : Int) < (m : Int) := by omega
      have hiE : i < E.length := by rw [HlE.out]; exact hi
      have hiF : i < F.length := by rw [HlF.out]; exact hi
      obtain ⟨be, oe, A1, c1, rfl, m1'⟩ := Hv.out.at (i := i) hiE
      obtain ⟨bf, of_, A2, c2, rfl, m2'⟩ := Hu.out.at (i := i) hiF
      rw [rowOf_eq hiE] at m1'
      rw [rowOf_eq hiF] at m2'
      have HXs := Lib.hid (show X = ((vG p n E F i && (List.range' (i + 1) (m - (i + 1))).all (vG p n E F)) && Y) by rw [HX.out, all_cons _ hi])
      have HV3 := Lib.hid (HV2.out (rowOf E i))
      have HV4 := Lib.hid (HV2.out (rowOf F i))
      have hvf : vG p n E F i = (vecOk p n (rowOf E i) && vecOk p n (rowOf F i)) := rfl
      obtain ⟨b1, hb1⟩ : ∃ b1, b1 = vecOk p n (rowOf E i) := ⟨_, rfl⟩
      obtain ⟨b2, hb2⟩ : ∃ b2, b2 = vecOk p n (rowOf F i) := ⟨_, rfl⟩
      rw [← hb1] at HV3 hvf
      rw [← hb2] at HV4 hvf
      have Hvf := Lib.hid hvf
      have g2 := (g.pushOld m1'.fact).pushOld m2'.fact
      obtain ⟨lE, hlE⟩ : ∃ lE, lE = (rowOf E i).length := ⟨_, rfl⟩
      obtain ⟨lF, hlF⟩ : ∃ lF, lF = (rowOf F i).length := ⟨_, rfl⟩
      rw [← hlE, ← hlF] at g2
      clear hb1 hb2 hlE hlF hvf g m1' m2'
      cases b1 with
      | false =>
        go_upto_region 6 with fail
        have g0 := g2.drew
        refine wp_region_held_drew (S := fun w' => (w'.cell? ⟨w.heap.size, 0, none⟩ = some (.int .i64 p) ∧ w'.cell? ⟨w.heap.size, 1, none⟩ = some (.int .i64 n) ∧ w'.cell? ⟨w.heap.size, 2, none⟩ = some (t)) ∧ w'.cell? ⟨be, oe + i, none⟩ = some (.slice A1 lE c1) ∧ w'.cell? ⟨bf, of_ + i, none⟩ = some (.slice A2 lF c2)) (by kernel_rfl) ⟨g0.box3 3 rfl, (g0.fact 1 rfl).1, (g0.fact 0 rfl).1⟩ (fun hHeld => ?_)
        obtain ⟨v0, hv0, g8⟩ : ∃ v0, v0 = wr.drew ∧ St w v0 _ := ⟨_, rfl, g0⟩
        rw [← hv0] at g0 hHeld ⊢
        clear hv0 g8 g2
        refine anyH_take (v := ?_) 0 rfl (by kernel_rfl) (by kernel_rfl) (by kernel_rfl) (fun _ _ _ h => h) rfl ?_ hHeld ?_
        rotate_left
        · intro w' hSw
          go_simp
          try with_reducible rfl
        try simp only [Act.put, List.setIfInBounds_toArray, List.set_cons_zero, List.set_cons_succ]
        refine anyH_take (v := ?_) 1 rfl (by kernel_rfl) (by kernel_rfl) (by kernel_rfl) (fun _ _ _ h => h) rfl ?_ hHeld ?_
        rotate_left
        · intro w' hSw
          go_simp
          try with_reducible rfl
        try simp only [Act.put, List.setIfInBounds_toArray, List.set_cons_zero, List.set_cons_succ]
        refine anyH_take (v := ?_) 2 rfl (by kernel_rfl) (by kernel_rfl) (by kernel_rfl) (fun _ _ _ h => h) rfl ?_ hHeld ?_
        rotate_left
        · intro w' hSw
          go_simp
          try with_reducible rfl
        try simp only [Act.put, List.setIfInBounds_toArray, List.set_cons_zero, List.set_cons_succ]
        refine anyH_take (v := ?_) 3 rfl (by kernel_rfl) (by kernel_rfl) (by kernel_rfl) (fun _ _ _ h => h) rfl ?_ hHeld ?_
        rotate_left
        · intro w' hSw
          go_simp
          try with_reducible rfl
        try simp only [Act.put, List.setIfInBounds_toArray, List.set_cons_zero, List.set_cons_succ]
        refine anyH_take (v := ?_) 4 rfl (by kernel_rfl) (by kernel_rfl) (by kernel_rfl) (fun _ _ _ h => h) rfl ?_ hHeld ?_
        rotate_left
        · intro w' hSw
          go_simp
          try with_reducible rfl
        try simp only [Act.put, List.setIfInBounds_toArray, List.set_cons_zero, List.set_cons_succ]
        refine wpAnyH_ready (rs := [5]) (by kernel_rfl) (by simp) ?_
        refine ready_cons rfl (fun K hK => ?_) AllReadyH.nil
        go_simp
        refine (HV3.out _ _ (g0.fact 1 rfl).2).mono ?_
        rintro (e : Ending) w5 ⟨rfl, hb5⟩
        have g1 := g0.on hb5
        show K _ _
        refine hK.out _ _ ?_ (fun hHeld => ?_)
        · exact ⟨g1.box3 3 rfl, (g1.fact 1 rfl).1, (g1.fact 0 rfl).1⟩
        clear hK K
        try simp only [Act.put, List.setIfInBounds_toArray, List.set_cons_zero, List.set_cons_succ]
        clear g0 hb5
        refine anyH_take (v := ?_) 6 rfl (by kernel_rfl) (by kernel_rfl) (by kernel_rfl) (fun _ _ _ h => h) rfl ?_ hHeld ?_
        rotate_left
        · intro w' hSw
          go_simp
          try with_reducible rfl
        try simp only [Act.put, List.setIfInBounds_toArray, List.set_cons_zero, List.set_cons_succ]
        refine anyH_take (v := ?_) 7 rfl (by kernel_rfl) (by kernel_rfl) (by kernel_rfl) (fun _ _ _ h => h) rfl ?_ hHeld ?_
        rotate_left
        · intro w' hSw
          go_simp
          try with_reducible rfl
        try simp only [Act.put, List.setIfInBounds_toArray, List.set_cons_zero, List.set_cons_succ]
        refine anyH_skip 8 rfl (by kernel_rfl) (by kernel_rfl) (by kernel_rfl) (fun _ _ _ h => h) rfl hHeld ?_
        try simp only [Act.put, List.setIfInBounds_toArray, List.set_cons_zero, List.set_cons_succ]
        refine anyH_skip 9 rfl (by kernel_rfl) (by kernel_rfl) (by kernel_rfl) (fun _ _ _ h => h) rfl hHeld ?_
        try simp only [Act.put, List.setIfInBounds_toArray, List.set_cons_zero, List.set_cons_succ]
        refine anyH_skip 10 rfl (by kernel_rfl) (by kernel_rfl) (by kernel_rfl) (fun _ _ _ h => h) rfl hHeld ?_
        try simp only [Act.put, List.setIfInBounds_toArray, List.set_cons_zero, List.set_cons_succ]
        refine anyH_skip 11 rfl (by kernel_rfl) (by kernel_rfl) (by kernel_rfl) (fun _ _ _ h => h) rfl hHeld ?_
        try simp only [Act.put, List.setIfInBounds_toArray, List.set_cons_zero, List.set_cons_succ]
        refine anyH_skip 12 rfl (by kernel_rfl) (by kernel_rfl) (by kernel_rfl) (fun _ _ _ h => h) rfl hHeld ?_
        try simp only [Act.put, List.setIfInBounds_toArray, List.set_cons_zero, List.set_cons_succ]
        refine anyH_skip 13 rfl (by kernel_rfl) (by kernel_rfl) (by kernel_rfl) (fun _ _ _ h => h) rfl hHeld ?_
        try simp only [Act.put, List.setIfInBounds_toArray, List.set_cons_zero, List.set_cons_succ]
        refine anyH_skip 14 rfl (by kernel_rfl) (by kernel_rfl) (by kernel_rfl) (fun _ _ _ h => h) rfl hHeld ?_
        try simp only [Act.put, List.setIfInBounds_toArray, List.set_cons_zero, List.set_cons_succ]
        refine anyH_take (v := ?_) 15 rfl (by kernel_rfl) (by kernel_rfl) (by kernel_rfl) (fun _ _ _ h => h) rfl ?_ hHeld ?_
        rotate_left
        · intro w' hSw
          go_simp
          try with_reducible rfl
        try simp only [Act.put, List.setIfInBounds_toArray, List.set_cons_zero, List.set_cons_succ]
        refine wpAnyH_done (by kernel_rfl) ?_ _
        clear hHeld
        have HF9 := Lib.hid (show X = false by rw [HXs.out, Hvf.out]; rfl)
        go_wp2
        go_ret
        exact ⟨ret_bool HF9.out.symm, g1.below⟩
      | true =>
      cases b2 with
      | false =>
        go_upto_region 6 with fail
        have g0 := g2.drew
        refine wp_region_held_drew (S := fun w' => (w'.cell? ⟨w.heap.size, 0, none⟩ = some (.int .i64 p) ∧ w'.cell? ⟨w.heap.size, 1, none⟩ = some (.int .i64 n) ∧ w'.cell? ⟨w.heap.size, 2, none⟩ = some (t)) ∧ w'.cell? ⟨be, oe + i, none⟩ = some (.slice A1 lE c1) ∧ w'.cell? ⟨bf, of_ + i, none⟩ = some (.slice A2 lF c2)) (by kernel_rfl) ⟨g0.box3 3 rfl, (g0.fact 1 rfl).1, (g0.fact 0 rfl).1⟩ (fun hHeld => ?_)
        obtain ⟨v0, hv0, g8⟩ : ∃ v0, v0 = wr.drew ∧ St w v0 _ := ⟨_, rfl, g0⟩
        rw [← hv0] at g0 hHeld ⊢
        clear hv0 g8 g2
        refine anyH_take (v := ?_) 0 rfl (by kernel_rfl) (by kernel_rfl) (by kernel_rfl) (fun _ _ _ h => h) rfl ?_ hHeld ?_
        rotate_left
        · intro w' hSw
          go_simp
          try with_reducible rfl
        try simp only [Act.put, List.setIfInBounds_toArray, List.set_cons_zero, List.set_cons_succ]
        refine anyH_take (v := ?_) 1 rfl (by kernel_rfl) (by kernel_rfl) (by kernel_rfl) (fun _ _ _ h => h) rfl ?_ hHeld ?_
        rotate_left
        · intro w' hSw
          go_simp
          try with_reducible rfl
        try simp only [Act.put, List.setIfInBounds_toArray, List.set_cons_zero, List.set_cons_succ]
        refine anyH_take (v := ?_) 2 rfl (by kernel_rfl) (by kernel_rfl) (by kernel_rfl) (fun _ _ _ h => h) rfl ?_ hHeld ?_
        rotate_left
        · intro w' hSw
          go_simp
          try with_reducible rfl
        try simp only [Act.put, List.setIfInBounds_toArray, List.set_cons_zero, List.set_cons_succ]
        refine anyH_take (v := ?_) 3 rfl (by kernel_rfl) (by kernel_rfl) (by kernel_rfl) (fun _ _ _ h => h) rfl ?_ hHeld ?_
        rotate_left
        · intro w' hSw
          go_simp
          try with_reducible rfl
        try simp only [Act.put, List.setIfInBounds_toArray, List.set_cons_zero, List.set_cons_succ]
        refine anyH_take (v := ?_) 4 rfl (by kernel_rfl) (by kernel_rfl) (by kernel_rfl) (fun _ _ _ h => h) rfl ?_ hHeld ?_
        rotate_left
        · intro w' hSw
          go_simp
          try with_reducible rfl
        try simp only [Act.put, List.setIfInBounds_toArray, List.set_cons_zero, List.set_cons_succ]
        refine wpAnyH_ready (rs := [5]) (by kernel_rfl) (by simp) ?_
        refine ready_cons rfl (fun K hK => ?_) AllReadyH.nil
        go_simp
        refine (HV3.out _ _ (g0.fact 1 rfl).2).mono ?_
        rintro (e : Ending) w5 ⟨rfl, hb5⟩
        have g1 := g0.on hb5
        show K _ _
        refine hK.out _ _ ?_ (fun hHeld => ?_)
        · exact ⟨g1.box3 3 rfl, (g1.fact 1 rfl).1, (g1.fact 0 rfl).1⟩
        clear hK K
        try simp only [Act.put, List.setIfInBounds_toArray, List.set_cons_zero, List.set_cons_succ]
        clear g0 hb5
        refine anyH_take (v := ?_) 6 rfl (by kernel_rfl) (by kernel_rfl) (by kernel_rfl) (fun _ _ _ h => h) rfl ?_ hHeld ?_
        rotate_left
        · intro w' hSw
          go_simp
          try with_reducible rfl
        try simp only [Act.put, List.setIfInBounds_toArray, List.set_cons_zero, List.set_cons_succ]
        refine anyH_take (v := ?_) 7 rfl (by kernel_rfl) (by kernel_rfl) (by kernel_rfl) (fun _ _ _ h => h) rfl ?_ hHeld ?_
        rotate_left
        · intro w' hSw
          go_simp
          try with_reducible rfl
        try simp only [Act.put, List.setIfInBounds_toArray, List.set_cons_zero, List.set_cons_succ]
        refine anyH_take (v := ?_) 8 rfl (by kernel_rfl) (by kernel_rfl) (by kernel_rfl) (fun _ _ _ h => h) rfl ?_ hHeld ?_
        rotate_left
        · intro w' hSw
          go_simp
          try with_reducible rfl
        try simp only [Act.put, List.setIfInBounds_toArray, List.set_cons_zero, List.set_cons_succ]
        refine anyH_take (v := ?_) 9 rfl (by kernel_rfl) (by kernel_rfl) (by kernel_rfl) (fun _ _ _ h => h) rfl ?_ hHeld ?_
        rotate_left
        · intro w' hSw
          go_simp
          try with_reducible rfl
        try simp only [Act.put, List.setIfInBounds_toArray, List.set_cons_zero, List.set_cons_succ]
        refine anyH_take (v := ?_) 10 rfl (by kernel_rfl) (by kernel_rfl) (by kernel_rfl) (fun _ _ _ h => h) rfl ?_ hHeld ?_
        rotate_left
        · intro w' hSw
          go_simp
          try with_reducible rfl
        try simp only [Act.put, List.setIfInBounds_toArray, List.set_cons_zero, List.set_cons_succ]
        refine anyH_take (v := ?_) 11 rfl (by kernel_rfl) (by kernel_rfl) (by kernel_rfl) (fun _ _ _ h => h) rfl ?_ hHeld ?_
        rotate_left
        · intro w' hSw
          go_simp
          try with_reducible rfl
        try simp only [Act.put, List.setIfInBounds_toArray, List.set_cons_zero, List.set_cons_succ]
        refine anyH_take (v := ?_) 12 rfl (by kernel_rfl) (by kernel_rfl) (by kernel_rfl) (fun _ _ _ h => h) rfl ?_ hHeld ?_
        rotate_left
        · intro w' hSw
          go_simp
          try with_reducible rfl
        try simp only [Act.put, List.setIfInBounds_toArray, List.set_cons_zero, List.set_cons_succ]
        refine wpAnyH_ready (rs := [13]) (by kernel_rfl) (by simp) ?_
        refine ready_cons rfl (fun K hK => ?_) AllReadyH.nil
        go_simp
        refine (HV4.out _ _ (g1.fact 0 rfl).2).mono ?_
        rintro (e : Ending) w6 ⟨rfl, hb6⟩
        have g2 := g1.on hb6
        show K _ _
        refine hK.out _ _ ?_ (fun hHeld => ?_)
        · exact ⟨g2.box3 3 rfl, (g2.fact 1 rfl).1, (g2.fact 0 rfl).1⟩
        clear hK K
        try simp only [Act.put, List.setIfInBounds_toArray, List.set_cons_zero, List.set_cons_succ]
        clear g1 hb6
        refine anyH_take (v := ?_) 14 rfl (by kernel_rfl) (by kernel_rfl) (by kernel_rfl) (fun _ _ _ h => h) rfl ?_ hHeld ?_
        rotate_left
        · intro w' hSw
          go_simp
          try with_reducible rfl
        try simp only [Act.put, List.setIfInBounds_toArray, List.set_cons_zero, List.set_cons_succ]
        refine anyH_take (v := ?_) 15 rfl (by kernel_rfl) (by kernel_rfl) (by kernel_rfl) (fun _ _ _ h => h) rfl ?_ hHeld ?_
        rotate_left
        · intro w' hSw
          go_simp
          try with_reducible rfl
        try simp only [Act.put, List.setIfInBounds_toArray, List.set_cons_zero, List.set_cons_succ]
        refine wpAnyH_done (by kernel_rfl) ?_ _
        clear hHeld
        have HF9 := Lib.hid (show X = false by rw [HXs.out, Hvf.out]; rfl)
        go_wp2
        go_ret
        exact ⟨ret_bool HF9.out.symm, g2.below⟩
      | true =>
        have HX2 := Lib.hid (show X = ((List.range' (i + 1) (m - (i + 1))).all (vG p n E F) && Y) by rw [HXs.out, Hvf.out]; rfl)
        have Hok2 := Lib.hid (show ∀ k, k < i + 1 → vG p n E F k = true from fun k hk => by
          by_cases e : k = i
          · rw [e, Hvf.out]; rfl
          · exact Hok.out k (by omega))
        go_upto_region 6 with fail
        have g0 := g2.drew
        refine wp_region_held_drew (S := fun w' => (w'.cell? ⟨w.heap.size, 0, none⟩ = some (.int .i64 p) ∧ w'.cell? ⟨w.heap.size, 1, none⟩ = some (.int .i64 n) ∧ w'.cell? ⟨w.heap.size, 2, none⟩ = some (t)) ∧ w'.cell? ⟨be, oe + i, none⟩ = some (.slice A1 lE c1) ∧ w'.cell? ⟨bf, of_ + i, none⟩ = some (.slice A2 lF c2)) (by kernel_rfl) ⟨g0.box3 3 rfl, (g0.fact 1 rfl).1, (g0.fact 0 rfl).1⟩ (fun hHeld => ?_)
        obtain ⟨v0, hv0, g8⟩ : ∃ v0, v0 = wr.drew ∧ St w v0 _ := ⟨_, rfl, g0⟩
        rw [← hv0] at g0 hHeld ⊢
        clear hv0 g8 g2
        refine anyH_take (v := ?_) 0 rfl (by kernel_rfl) (by kernel_rfl) (by kernel_rfl) (fun _ _ _ h => h) rfl ?_ hHeld ?_
        rotate_left
        · intro w' hSw
          go_simp
          try with_reducible rfl
        try simp only [Act.put, List.setIfInBounds_toArray, List.set_cons_zero, List.set_cons_succ]
        refine anyH_take (v := ?_) 1 rfl (by kernel_rfl) (by kernel_rfl) (by kernel_rfl) (fun _ _ _ h => h) rfl ?_ hHeld ?_
        rotate_left
        · intro w' hSw
          go_simp
          try with_reducible rfl
        try simp only [Act.put, List.setIfInBounds_toArray, List.set_cons_zero, List.set_cons_succ]
        refine anyH_take (v := ?_) 2 rfl (by kernel_rfl) (by kernel_rfl) (by kernel_rfl) (fun _ _ _ h => h) rfl ?_ hHeld ?_
        rotate_left
        · intro w' hSw
          go_simp
          try with_reducible rfl
        try simp only [Act.put, List.setIfInBounds_toArray, List.set_cons_zero, List.set_cons_succ]
        refine anyH_take (v := ?_) 3 rfl (by kernel_rfl) (by kernel_rfl) (by kernel_rfl) (fun _ _ _ h => h) rfl ?_ hHeld ?_
        rotate_left
        · intro w' hSw
          go_simp
          try with_reducible rfl
        try simp only [Act.put, List.setIfInBounds_toArray, List.set_cons_zero, List.set_cons_succ]
        refine anyH_take (v := ?_) 4 rfl (by kernel_rfl) (by kernel_rfl) (by kernel_rfl) (fun _ _ _ h => h) rfl ?_ hHeld ?_
        rotate_left
        · intro w' hSw
          go_simp
          try with_reducible rfl
        try simp only [Act.put, List.setIfInBounds_toArray, List.set_cons_zero, List.set_cons_succ]
        refine wpAnyH_ready (rs := [5]) (by kernel_rfl) (by simp) ?_
        refine ready_cons rfl (fun K hK => ?_) AllReadyH.nil
        go_simp
        refine (HV3.out _ _ (g0.fact 1 rfl).2).mono ?_
        rintro (e : Ending) w5 ⟨rfl, hb5⟩
        have g1 := g0.on hb5
        show K _ _
        refine hK.out _ _ ?_ (fun hHeld => ?_)
        · exact ⟨g1.box3 3 rfl, (g1.fact 1 rfl).1, (g1.fact 0 rfl).1⟩
        clear hK K
        try simp only [Act.put, List.setIfInBounds_toArray, List.set_cons_zero, List.set_cons_succ]
        clear g0 hb5
        refine anyH_take (v := ?_) 6 rfl (by kernel_rfl) (by kernel_rfl) (by kernel_rfl) (fun _ _ _ h => h) rfl ?_ hHeld ?_
        rotate_left
        · intro w' hSw
          go_simp
          try with_reducible rfl
        try simp only [Act.put, List.setIfInBounds_toArray, List.set_cons_zero, List.set_cons_succ]
        refine anyH_take (v := ?_) 7 rfl (by kernel_rfl) (by kernel_rfl) (by kernel_rfl) (fun _ _ _ h => h) rfl ?_ hHeld ?_
        rotate_left
        · intro w' hSw
          go_simp
          try with_reducible rfl
        try simp only [Act.put, List.setIfInBounds_toArray, List.set_cons_zero, List.set_cons_succ]
        refine anyH_take (v := ?_) 8 rfl (by kernel_rfl) (by kernel_rfl) (by kernel_rfl) (fun _ _ _ h => h) rfl ?_ hHeld ?_
        rotate_left
        · intro w' hSw
          go_simp
          try with_reducible rfl
        try simp only [Act.put, List.setIfInBounds_toArray, List.set_cons_zero, List.set_cons_succ]
        refine anyH_take (v := ?_) 9 rfl (by kernel_rfl) (by kernel_rfl) (by kernel_rfl) (fun _ _ _ h => h) rfl ?_ hHeld ?_
        rotate_left
        · intro w' hSw
          go_simp
          try with_reducible rfl
        try simp only [Act.put, List.setIfInBounds_toArray, List.set_cons_zero, List.set_cons_succ]
        refine anyH_take (v := ?_) 10 rfl (by kernel_rfl) (by kernel_rfl) (by kernel_rfl) (fun _ _ _ h => h) rfl ?_ hHeld ?_
        rotate_left
        · intro w' hSw
          go_simp
          try with_reducible rfl
        try simp only [Act.put, List.setIfInBounds_toArray, List.set_cons_zero, List.set_cons_succ]
        refine anyH_take (v := ?_) 11 rfl (by kernel_rfl) (by kernel_rfl) (by kernel_rfl) (fun _ _ _ h => h) rfl ?_ hHeld ?_
        rotate_left
        · intro w' hSw
          go_simp
          try with_reducible rfl
        try simp only [Act.put, List.setIfInBounds_toArray, List.set_cons_zero, List.set_cons_succ]
        refine anyH_take (v := ?_) 12 rfl (by kernel_rfl) (by kernel_rfl) (by kernel_rfl) (fun _ _ _ h => h) rfl ?_ hHeld ?_
        rotate_left
        · intro w' hSw
          go_simp
          try with_reducible rfl
        try simp only [Act.put, List.setIfInBounds_toArray, List.set_cons_zero, List.set_cons_succ]
        refine wpAnyH_ready (rs := [13]) (by kernel_rfl) (by simp) ?_
        refine ready_cons rfl (fun K hK => ?_) AllReadyH.nil
        go_simp
        refine (HV4.out _ _ (g1.fact 0 rfl).2).mono ?_
        rintro (e : Ending) w6 ⟨rfl, hb6⟩
        have g2 := g1.on hb6
        show K _ _
        refine hK.out _ _ ?_ (fun hHeld => ?_)
        · exact ⟨g2.box3 3 rfl, (g2.fact 1 rfl).1, (g2.fact 0 rfl).1⟩
        clear hK K
        try simp only [Act.put, List.setIfInBounds_toArray, List.set_cons_zero, List.set_cons_succ]
        clear g1 hb6
        refine anyH_take (v := ?_) 14 rfl (by kernel_rfl) (by kernel_rfl) (by kernel_rfl) (fun _ _ _ h => h) rfl ?_ hHeld ?_
        rotate_left
        · intro w' hSw
          go_simp
          try with_reducible rfl
        try simp only [Act.put, List.setIfInBounds_toArray, List.set_cons_zero, List.set_cons_succ]
        refine anyH_take (v := ?_) 15 rfl (by kernel_rfl) (by kernel_rfl) (by kernel_rfl) (fun _ _ _ h => h) rfl ?_ hHeld ?_
        rotate_left
        · intro w' hSw
          go_simp
          try with_reducible rfl
        try simp only [Act.put, List.setIfInBounds_toArray, List.set_cons_zero, List.set_cons_succ]
        refine wpAnyH_done (by kernel_rfl) ?_ _
        clear hHeld
        have g9 := g2.drop 2
        simp only [List.drop_succ_cons, List.drop_zero] at g9
        clear g2
        go_wp2
        go_roundw
        case rel => exact ⟨i + 1, by go_num, by omega, g9, HX2, Hok2⟩
        case measure => simp [intOf]; omega
    · obtain rfl : m = i := by omega
      have HXe : Hid (X = Y) := by
        show X = Y
        rw [HX.out, Nat.sub_self]
        rfl
      have HEv := Lib.hid (fun i (hi : i < m) => show (rowOf E i).length = n ∧ resid p (rowOf E i) = true by
        have h9 := Hok.out i hi
        unfold vG at h9
        rw [Bool.and_eq_true] at h9
        have := vecOk_spec h9.1
        exact ⟨by omega, this.2⟩)
      have HFv := Lib.hid (fun i (hi : i < m) => show (rowOf F i).length = n ∧ resid p (rowOf F i) = true by
        have h9 := Hok.out i hi
        unfold vG at h9
        rw [Bool.and_eq_true] at h9
        have := vecOk_spec h9.2
        exact ⟨by omega, this.2⟩)
      clear HX Hok HV2
      go_upto_region 9 with fail
      have g0 := g.drew
      refine wp_region_held_drew (S := fun w' => (w'.cell? ⟨w.heap.size, 0, none⟩ = some (.int .i64 p) ∧ w'.cell? ⟨w.heap.size, 1, none⟩ = some (.int .i64 n) ∧ w'.cell? ⟨w.heap.size, 2, none⟩ = some (t)) ∧ (w'.cell? ⟨w.heap.size + 1, 0, none⟩ = some (.int .i64 m) ∧ w'.cell? ⟨w.heap.size + 1, 1, none⟩ = some (d))) (by kernel_rfl) ⟨g0.box3 1 rfl, g0.box2 0 rfl⟩ (fun hHeld => ?_)
      obtain ⟨v0, hv0, g8⟩ : ∃ v0, v0 = wr.drew ∧ St w v0 _ := ⟨_, rfl, g0⟩
      rw [← hv0] at g0 hHeld ⊢
      clear hv0 g8 g
      refine anyH_take (v := ?_) 0 rfl (by kernel_rfl) (by kernel_rfl) (by kernel_rfl) (fun _ _ _ h => h) rfl ?_ hHeld ?_
      rotate_left
      · intro w' hSw
        go_simp
        try with_reducible rfl
      try simp only [Act.put, List.setIfInBounds_toArray, List.set_cons_zero, List.set_cons_succ]
      refine anyH_take (v := ?_) 2 rfl (by kernel_rfl) (by kernel_rfl) (by kernel_rfl) (fun _ _ _ h => h) rfl ?_ hHeld ?_
      rotate_left
      · intro w' hSw
        go_simp
        try with_reducible rfl
      try simp only [Act.put, List.setIfInBounds_toArray, List.set_cons_zero, List.set_cons_succ]
      refine anyH_take (v := ?_) 3 rfl (by kernel_rfl) (by kernel_rfl) (by kernel_rfl) (fun _ _ _ h => h) rfl ?_ hHeld ?_
      rotate_left
      · intro w' hSw
        go_simp
        try with_reducible rfl
      try simp only [Act.put, List.setIfInBounds_toArray, List.set_cons_zero, List.set_cons_succ]
      refine anyH_take (v := ?_) 4 rfl (by kernel_rfl) (by kernel_rfl) (by kernel_rfl) (fun _ _ _ h => h) rfl ?_ hHeld ?_
      rotate_left
      · intro w' hSw
        go_simp
        try with_reducible rfl
      try simp only [Act.put, List.setIfInBounds_toArray, List.set_cons_zero, List.set_cons_succ]
      refine wpAnyH_ready (rs := [1]) (by kernel_rfl) (by simp) ?_
      refine ready_cons rfl (fun K hK => ?_) AllReadyH.nil
      go_simp
      refine (HNl.out _).mono ?_
      rintro (e : Ending) w7 ⟨rfl, hb7⟩
      have g1 := g0.on hb7
      show K _ _
      refine hK.out _ _ ?_ (fun hHeld => ?_)
      · exact ⟨g1.box3 1 rfl, g1.box2 0 rfl⟩
      clear hK K
      try simp only [Act.put, List.setIfInBounds_toArray, List.set_cons_zero, List.set_cons_succ]
      refine wpAnyH_ready (rs := [5]) (by kernel_rfl) (by simp) ?_
      refine ready_cons rfl (fun K hK => ?_) AllReadyH.nil
      go_simp
      refine (HS.out _ HEv.out HFv.out (g1.roInts 2 rfl) (g1.roInts 3 rfl) (Hv.out.fact _ (fun b hb => g1.below.block b hb)) (Hu.out.fact _ (fun b hb => g1.below.block b hb))).mono ?_
      rintro (e : Ending) w8 ⟨rfl, hb8⟩
      have g2 := g1.on hb8
      show K _ _
      refine hK.out _ _ ?_ (fun hHeld => ?_)
      · exact ⟨g2.box3 1 rfl, g2.box2 0 rfl⟩
      clear hK K
      try simp only [Act.put, List.setIfInBounds_toArray, List.set_cons_zero, List.set_cons_succ]
      refine anyH_take (v := ?_) 6 rfl (by kernel_rfl) (by kernel_rfl) (by kernel_rfl) (fun _ _ _ h => h) rfl ?_ hHeld ?_
      rotate_left
      · intro w' hSw
        go_simp
        try with_reducible rfl
      try simp only [Act.put, List.setIfInBounds_toArray, List.set_cons_zero, List.set_cons_succ]
      refine wpAnyH_done (by kernel_rfl) ?_ _
      clear hHeld
      go_wp2
      go_ret
      exact ⟨ret_bool HXe.out.symm, g2.below⟩

end Srr
end Go.Proofs.YtcngijafnnmccaaGreatDoor
