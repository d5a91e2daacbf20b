/- Paths: DualPath of both. -/
import Derived.Test.YtcngijafnnmccaaDoorPthL
namespace Go.Proofs.YtcngijafnnmccaaDoor
set_option maxRecDepth 100000
open Go.RowKit
namespace Stp
open Car

set_option maxHeartbeats 4000000 in
theorem DualPathS_any (r : Int) (t v : Value) (D : List Int) (ps : List Sg) (w : World) (ht : Ints w t D) (hv : StR w v ps) :
    Calls Tryd.prog 28 #[.agg #[.int .i64 r, t], v] w (RetSs w (dualV r D ps)) := by
  have g := (((St.start w).pushFact hv.fact).arg ht).box [.int .i64 r, t] 33
  have HP := Lib.hid (fun (W : World) (x : Ints W t D) (y : StR W v ps) => PathOkS_any r _ _ D ps W x y)
  obtain ⟨A, c, rfl, _, _, _⟩ := id ht
  obtain ⟨A2, c2, rfl, _, _, _⟩ := id hv
  obtain ⟨t, htt⟩ : ∃ t, t = Value.slice A D.length c := ⟨_, rfl⟩
  have HV := Lib.hid hv
  rw [← htt] at g HP ⊢
  obtain ⟨pl, hpl⟩ : ∃ pl, pl = ps.length := ⟨_, rfl⟩
  have Hpl := Lib.hid hpl
  rw [← hpl] at g HP HV ⊢
  obtain ⟨X, hX⟩ : ∃ X, X = dualV r D ps := ⟨_, rfl⟩
  rw [← hX]
  obtain ⟨z0, z1⟩ := g.box2 0 rfl
  unfold dualV at hX
  obtain ⟨pb, hpb⟩ : ∃ pb, pb = pathB r D ps := ⟨_, rfl⟩
  rw [← hpb] at hX HP
  cases pb with
  | false =>
    obtain rfl : X = [] := hX
    clear hpb ht hv htt hpl
    go_enter Tryd.func28, Tryd.ntmps28
    go_wp2_with fail
    refine (HP.out _ (g.roInts 1 rfl) (g.fact 2 rfl)).mono ?_
    rintro (e : Ending) w3 ⟨rfl, hb3⟩
    have g3 := g.on hb3
    clear z0 z1
    go_wp2
    go_ret
    exact ⟨_, [], rfl, rfl, vecNil, by simp [stIt, It.fp, Value.ownBlock], g3.below⟩
  | true =>
    obtain ⟨n, rfl, n1, n4, h60, hOk⟩ := pathB_spec hpb.symm
    have HR : Hid (X = [] ++ dlI ps pl) := by rw [hpl]; exact hX
    have HOk := Lib.hid hOk
    rw [← hpl] at h60
    clear hX hpb ht hv htt hOk hpl
    go_enter Tryd.func28, Tryd.ntmps28
    go_wp2_with fail
    refine (HP.out _ (g.roInts 1 rfl) (g.fact 2 rfl)).mono ?_
    rintro (e : Ending) w3 ⟨rfl, hb3⟩
    have g3 := (g.on hb3).emptySteps
    clear z0 z1 g hb3
    go_wp2
    go_loopw [5, 6] (fun v5 v6 wr => ∃ (k : Nat) (us : List Value) (done : List Sg), v6 = .int .i64 ((k : Int) - 1) ∧ k ≤ pl ∧ St w wr [stIt v5 us done, .box w.heap.size [.int .i64 n, t], .ro t D, .fact (fun w' => StR w' (.slice A2 pl c2) ps)] ∧ Hid (us.length = done.length) ∧ Hid (X = done ++ dlI ps k) ∧ done.length + k = pl) (fun _ v6 _ => (intOf v6 + 1).toNat)
    case atStart => exact ⟨pl, [], [], by go_num, by omega, g3, rfl, HR, by simp⟩
    case round =>
      clear g3 HR
      obtain ⟨k, us, done, rfl, a1, g, Hul, HR, a2⟩ := hrel
      rcases k with _ | q
      · have e0 : ((0 : Nat) : Int) - 1 = -1 := rfl
        rw [e0]
        have HRe := Lib.hid (show X = done by rw [HR.out]; exact List.append_nil _)
        rw [← HRe.out] at g Hul
        go_wp2
        go_ret
        exact ⟨_, us, rfl, Hul.out, g.at 0 rfl, g.vecNodup 0 rfl, g.below⟩
      · have e0 : ((q + 1 : Nat) : Int) - 1 = (q : Int) := by omega
        rw [e0]
        clear e0
        have hk2 : q < ps.length := by rw [← Hpl.out]; omega
        obtain ⟨b, off, A9, c9, rfl, hm⟩ := HV.out.at (i := q) hk2
        rw [pAt_get hk2] at hm
        obtain ⟨b1, b2, b3, b4⟩ := stpOk_n (HOk.out q hk2)
        have b5 := vecAll b4
        have HY := Lib.hid (fun (W : World) (h : SgAt W b (off + q * 2) (pAt ps q) (.slice A9 (pAt ps q).d.length c9)) => show W.cell? ⟨b, off + q * 2 + 1, none⟩ = some (.int .i64 (pAt ps q).n) from h.2.1)
        have hdl : dlI ps (q + 1) = opp (pAt ps q) :: dlI ps q := rfl
        obtain ⟨m, hmm⟩ : ∃ m, m = pAt ps q := ⟨_, rfl⟩
        rw [← hmm] at hm HY hdl b1 b2 b3 b4 b5
        have HM := Lib.hid (fun (W : World) (y : Value) (hy : Ints W y m.d) => l5Minus_any y m.d W hy (by rw [b3]; omega) b5)
        obtain ⟨x, hx⟩ : ∃ x, x = m.n := ⟨_, rfl⟩
        obtain ⟨wl, hwl⟩ : ∃ wl, wl = m.d.length := ⟨_, rfl⟩
        have Hox := Lib.hid (show (opp m).n = x from hx.symm)
        rw [← hx] at HY b1 b2
        rw [← hwl] at HY hm
        have Hm := Lib.hid hm
        have HX2 := Lib.hid hdl
        have g0 := g.pushOld Hm.out.fact
        clear g hm hmm hx hwl b1 b2 b3 b4 b5 hk2 hdl
        have iq : (q : Int) < (pl : Int) := by omega
        have iq0 : (0 : Int) ≤ (q : Int) := by omega
        go_upto_region 7 with fail
        replace g0 := g0.drew
        refine wp_region_cut (S := fun w' => w'.cell? ⟨b, off + q * 2, none⟩ = some (.slice A9 wl c9) ∧ w'.cell? ⟨b, off + q * 2 + 1, none⟩ = some (.int .i64 x)) 14 (by kernel_rfl) (by kernel_rfl) ⟨(g0.fact 0 rfl).1, HY.out _ (g0.fact 0 rfl)⟩ (fun hHeld => ?_)
        simp only [List.take_succ_cons, List.take_zero]
        obtain ⟨v0, hv0, g8⟩ : ∃ v0, v0 = wr.drew ∧ St w v0 _ := ⟨_, rfl, g0⟩
        rw [← hv0] at g0 hHeld ⊢
        clear hv0 g8
        refine anyH_take (v := ?_) 0 rfl (by kernel_rfl) (by kernel_rfl) (by kernel_rfl) (fun _ _ _ h => h) rfl ?_ hHeld ?_
        rotate_left
        · intro w' hSw
          go_simp
          try with_reducible rfl
        try simp only [Act.put, List.setIfInBounds_toArray, List.set_cons_zero, List.set_cons_succ]
        refine anyH_take (v := ?_) 1 rfl (by kernel_rfl) (by kernel_rfl) (by kernel_rfl) (fun _ _ _ h => h) rfl ?_ hHeld ?_
        rotate_left
        · intro w' hSw
          go_simp
          try with_reducible rfl
        try simp only [Act.put, List.setIfInBounds_toArray, List.set_cons_zero, List.set_cons_succ]
        refine anyH_take (v := ?_) 2 rfl (by kernel_rfl) (by kernel_rfl) (by kernel_rfl) (fun _ _ _ h => h) rfl ?_ hHeld ?_
        rotate_left
        · intro w' hSw
          go_simp
          try with_reducible rfl
        try simp only [Act.put, List.setIfInBounds_toArray, List.set_cons_zero, List.set_cons_succ]
        refine anyH_take (v := ?_) 3 rfl (by kernel_rfl) (by kernel_rfl) (by kernel_rfl) (fun _ _ _ h => h) rfl ?_ hHeld ?_
        rotate_left
        · intro w' hSw
          go_simp
          try with_reducible rfl
        try simp only [Act.put, List.setIfInBounds_toArray, List.set_cons_zero, List.set_cons_succ]
        refine anyH_take (v := ?_) 4 rfl (by kernel_rfl) (by kernel_rfl) (by kernel_rfl) (fun _ _ _ h => h) rfl ?_ hHeld ?_
        rotate_left
        · intro w' hSw
          go_simp
          try with_reducible rfl
        try simp only [Act.put, List.setIfInBounds_toArray, List.set_cons_zero, List.set_cons_succ]
        refine anyH_take (v := ?_) 5 rfl (by kernel_rfl) (by kernel_rfl) (by kernel_rfl) (fun _ _ _ h => h) rfl ?_ hHeld ?_
        rotate_left
        · intro w' hSw
          go_simp
          try with_reducible rfl
        try simp only [Act.put, List.setIfInBounds_toArray, List.set_cons_zero, List.set_cons_succ]
        refine anyH_take (v := ?_) 7 rfl (by kernel_rfl) (by kernel_rfl) (by kernel_rfl) (fun _ _ _ h => h) rfl ?_ hHeld ?_
        rotate_left
        · intro w' hSw
          go_simp
          try with_reducible rfl
        try simp only [Act.put, List.setIfInBounds_toArray, List.set_cons_zero, List.set_cons_succ]
        refine anyH_take (v := ?_) 8 rfl (by kernel_rfl) (by kernel_rfl) (by kernel_rfl) (fun _ _ _ h => h) rfl ?_ hHeld ?_
        rotate_left
        · intro w' hSw
          go_simp
          try with_reducible rfl
        try simp only [Act.put, List.setIfInBounds_toArray, List.set_cons_zero, List.set_cons_succ]
        refine anyH_take (v := ?_) 9 rfl (by kernel_rfl) (by kernel_rfl) (by kernel_rfl) (fun _ _ _ h => h) rfl ?_ hHeld ?_
        rotate_left
        · intro w' hSw
          go_simp
          try with_reducible rfl
        try simp only [Act.put, List.setIfInBounds_toArray, List.set_cons_zero, List.set_cons_succ]
        refine anyH_take (v := ?_) 10 rfl (by kernel_rfl) (by kernel_rfl) (by kernel_rfl) (fun _ _ _ h => h) rfl ?_ hHeld ?_
        rotate_left
        · intro w' hSw
          go_simp
          try with_reducible rfl
        try simp only [Act.put, List.setIfInBounds_toArray, List.set_cons_zero, List.set_cons_succ]
        refine anyH_take (v := ?_) 11 rfl (by kernel_rfl) (by kernel_rfl) (by kernel_rfl) (fun _ _ _ h => h) rfl ?_ hHeld ?_
        rotate_left
        · intro w' hSw
          go_simp
          try with_reducible rfl
        try simp only [Act.put, List.setIfInBounds_toArray, List.set_cons_zero, List.set_cons_succ]
        refine wpAnyH_ready (rs := [6]) (by kernel_rfl) (by simp) ?_
        refine ready_cons rfl (fun K hK => ?_) AllReadyH.nil
        go_simp
        refine (HM.out _ _ (g0.fact 0 rfl).2.2).mono ?_
        rintro (e : Ending) w4 ⟨u4, rfl, ho4, hb4⟩
        obtain ⟨A4, l4, c4, rfl⟩ := ho4.slice
        have g1 := g0.pushOwn hb4 ho4
        show K _ _
        refine hK.out _ _ ?_ (fun hHeld => ?_)
        · exact ⟨(g1.fact 1 rfl).1, HY.out _ (g1.fact 1 rfl)⟩
        clear hK K
        try simp only [Act.put, List.setIfInBounds_toArray, List.set_cons_zero, List.set_cons_succ]
        refine anyH_take (v := ?_) 12 rfl (by kernel_rfl) (by kernel_rfl) (by kernel_rfl) (fun _ _ _ h => h) rfl ?_ hHeld ?_
        rotate_left
        · intro w' hSw
          go_simp
          try with_reducible rfl
        try simp only [Act.put, List.setIfInBounds_toArray, List.set_cons_zero, List.set_cons_succ]
        refine wpAnyH_ready (rs := [13]) (by kernel_rfl) (by simp) ?_
        refine ready_cons rfl (fun K hK => ?_) AllReadyH.nil
        go_simp
        have g2 := g1.alloc' (.cells #[.slice A4 l4 c4, .int .i64 x] 55)
        refine hK.out _ _ ?_ (fun hHeld => ?_)
        · exact ⟨(g2.fact 1 rfl).1, HY.out _ (g2.fact 1 rfl)⟩
        clear hK K
        try simp only [Act.put, List.setIfInBounds_toArray, List.set_cons_zero, List.set_cons_succ]
        refine wpAnyH_done (by kernel_rfl) ?_ _
        show wpList _ _ _ _ _ _
        simp only [List.drop_succ_cons, List.drop_zero]
        clear hHeld
        have h5 := g1.re [0, 2, 3, 4, 5] (L' := [_, _, _, _, _]) (by decide) (fun j => by rcases j with _ | _ | _ | _ | _ | j <;> rfl)
        clear g0 g1 g2 ho4 hb4
        rw [← Hox.out]
        go_wp2_with (at_builtin; refine wp_append_step rfl (.tmp 19) (.tmp 32) rfl (opp m) h5 0 rfl Hul.out rfl rfl (by omega) ?_; intro v1 w7 h6)
        go_roundw
        case rel => exact ⟨q, us ++ [Value.slice A4 l4 c4], done ++ [opp m], by go_num, by omega, h6, by show _ = _; simp [Hul.out], by show X = _; rw [HR.out, HX2.out]; simp, by simp; omega⟩
        case measure => simp [intOf]

set_option maxHeartbeats 4000000 in
theorem DualPathI_any (r : Int) (t v : Value) (D : List Int) (ps : List Sg) (w : World) (ht : Ints w t D) (hv : StR w v ps) (hM : MaxAt w) (hr : -9223372036854775808 ≤ r ∧ r ≤ 9223372036854775807) :
    Calls Tryd.prog 29 #[.agg #[.int .i64 r, t], v] w (RetSs w (dualV r D ps)) := by
  have g := (((St.start w).pushFact hv.fact).arg ht).box [.int .i64 r, t] 33
  have HP := Lib.hid (fun (W : World) (x : Ints W t D) (y : StR W v ps) (m : MaxAt W) => PathOkI_any r _ _ D ps W x y m hr)
  have HMx := Lib.hid (show MaxAt (w.alloc (.cells #[.int .i64 r, t] 33)) from MaxAt.below hM ((Below.refl w.heap.size w).alloc (Nat.le_refl _) _))
  obtain ⟨A, c, rfl, _, _, _⟩ := id ht
  obtain ⟨A2, c2, rfl, _, _, _⟩ := id hv
  obtain ⟨t, htt⟩ : ∃ t, t = Value.slice A D.length c := ⟨_, rfl⟩
  have HV := Lib.hid hv
  rw [← htt] at g HP HMx ⊢
  obtain ⟨pl, hpl⟩ : ∃ pl, pl = ps.length := ⟨_, rfl⟩
  have Hpl := Lib.hid hpl
  rw [← hpl] at g HP HV ⊢
  obtain ⟨X, hX⟩ : ∃ X, X = dualV r D ps := ⟨_, rfl⟩
  rw [← hX]
  obtain ⟨z0, z1⟩ := g.box2 0 rfl
  unfold dualV at hX
  obtain ⟨pb, hpb⟩ : ∃ pb, pb = pathB r D ps := ⟨_, rfl⟩
  rw [← hpb] at hX HP
  cases pb with
  | false =>
    obtain rfl : X = [] := hX
    clear hpb ht hv htt hpl hM hr
    go_enter Tryd.func29, Tryd.ntmps29
    go_wp2_with fail
    refine (HP.out _ (g.roInts 1 rfl) (g.fact 2 rfl) HMx.out).mono ?_
    rintro (e : Ending) w3 ⟨rfl, hb3⟩
    have g3 := g.on hb3
    clear z0 z1
    go_wp2
    go_ret
    exact ⟨_, [], rfl, rfl, vecNil, by simp [stIt, It.fp, Value.ownBlock], g3.below⟩
  | true =>
    obtain ⟨n, rfl, n1, n4, h60, hOk⟩ := pathB_spec hpb.symm
    have HR := Lib.hid (show X = dlI ps pl by rw [hpl]; exact hX)
    have HOk := Lib.hid hOk
    rw [← hpl] at h60
    clear hX hpb ht hv htt hOk hpl hM hr
    go_enter Tryd.func29, Tryd.ntmps29
    go_wp2_with fail
    refine (HP.out _ (g.roInts 1 rfl) (g.fact 2 rfl) HMx.out).mono ?_
    rintro (e : Ending) w3 ⟨rfl, hb3⟩
    have g3 := (g.on hb3).emptySteps
    clear z0 z1 g hb3
    go_wp2
    go_loopw [5, 15] (fun v5 v15 wr => ∃ (k : Nat) (us : List Value), v15 = .int .i64 k ∧ k ≤ pl ∧ St w wr [stIt v5 us (dlI ps k), .box w.heap.size [.int .i64 n, t], .ro t D, .fact (fun w' => StR w' (.slice A2 pl c2) ps)] ∧ Hid (us.length = (dlI ps k).length)) (fun _ v15 _ => pl - (intOf v15).toNat)
    case atStart => exact ⟨0, [], rfl, by omega, g3, rfl⟩
    case round =>
      clear g3
      obtain ⟨q, us, rfl, a1, g, Hul⟩ := hrel
      by_cases iq9 : q < pl
      · have hk2 : q < ps.length := by rw [← Hpl.out]; omega
        obtain ⟨b, off, A9, c9, rfl, hm⟩ := HV.out.at (i := q) hk2
        rw [pAt_get hk2] at hm
        obtain ⟨b1, b2, b3, b4⟩ := stpOk_n (HOk.out q hk2)
        have b5 := vecAll b4
        have HY := Lib.hid (fun (W : World) (h : SgAt W b (off + q * 2) (pAt ps q) (.slice A9 (pAt ps q).d.length c9)) => show W.cell? ⟨b, off + q * 2 + 1, none⟩ = some (.int .i64 (pAt ps q).n) from h.2.1)
        have hdl : dlI ps (q + 1) = opp (pAt ps q) :: dlI ps q := rfl
        obtain ⟨m, hmm⟩ : ∃ m, m = pAt ps q := ⟨_, rfl⟩
        rw [← hmm] at hm HY hdl b1 b2 b3 b4 b5
        have HM := Lib.hid (fun (W : World) (y : Value) (hy : Ints W y m.d) => listTimes_any y m.d W hy (by rw [b3]; omega) b5)
        obtain ⟨x, hx⟩ : ∃ x, x = m.n := ⟨_, rfl⟩
        obtain ⟨wl, hwl⟩ : ∃ wl, wl = m.d.length := ⟨_, rfl⟩
        have Hox := Lib.hid (show (opp m).n = x from hx.symm)
        rw [← hx] at HY b1 b2
        rw [← hwl] at HY hm
        have Hm := Lib.hid hm
        have HX2 := Lib.hid hdl
        have g0 := g.pushOld Hm.out.fact
        clear g hm hmm hx hwl b1 b2 b3 b4 b5 hk2 hdl
        have Hq6 := Lib.hid (show (dlI ps q).length ≤ 1000 by rw [length_dlI]; omega)
        obtain ⟨LL, hLL⟩ : ∃ LL, LL = dlI ps q := ⟨_, rfl⟩
        rw [← hLL] at g0 Hul HX2 Hq6
        clear hLL
        have iq : (q : Int) < (pl : Int) := by omega
        have y0 := (g0.fact 0 rfl).1
        have y1 := HY.out _ (g0.fact 0 rfl)
        have g1 := (g0.box [.slice A9 wl c9, .int .i64 x] 55).drew
        clear g0
        go_wp2
        go_upto_region 7 with fail
        clear y0 y1
        refine wp_region_cut (S := fun w' => (w'.cell? ⟨wr.heap.size, 0, none⟩ = some (.slice A9 wl c9) ∧ w'.cell? ⟨wr.heap.size, 1, none⟩ = some (.int .i64 x))) 8 (by kernel_rfl) (by kernel_rfl) (g1.box2 0 rfl) (fun hHeld => ?_)
        simp only [List.take_succ_cons, List.take_zero]
        obtain ⟨v0, hv0, g8⟩ : ∃ v0, v0 = (wr.alloc (.cells #[.slice A9 wl c9, .int .i64 x] 55)).drew ∧ St w v0 _ := ⟨_, rfl, g1⟩
        rw [← hv0] at g1 hHeld ⊢
        clear hv0 g8
        refine anyH_take (v := ?_) 0 rfl (by kernel_rfl) (by kernel_rfl) (by kernel_rfl) (fun _ _ _ h => h) rfl ?_ hHeld ?_
        rotate_left
        · intro w' hSw
          go_simp
          try with_reducible rfl
        try simp only [Act.put, List.setIfInBounds_toArray, List.set_cons_zero, List.set_cons_succ]
        refine anyH_take (v := ?_) 1 rfl (by kernel_rfl) (by kernel_rfl) (by kernel_rfl) (fun _ _ _ h => h) rfl ?_ hHeld ?_
        rotate_left
        · intro w' hSw
          go_simp
          try with_reducible rfl
        try simp only [Act.put, List.setIfInBounds_toArray, List.set_cons_zero, List.set_cons_succ]
        refine anyH_take (v := ?_) 2 rfl (by kernel_rfl) (by kernel_rfl) (by kernel_rfl) (fun _ _ _ h => h) rfl ?_ hHeld ?_
        rotate_left
        · intro w' hSw
          go_simp
          try with_reducible rfl
        try simp only [Act.put, List.setIfInBounds_toArray, List.set_cons_zero, List.set_cons_succ]
        refine anyH_take (v := ?_) 4 rfl (by kernel_rfl) (by kernel_rfl) (by kernel_rfl) (fun _ _ _ h => h) rfl ?_ hHeld ?_
        rotate_left
        · intro w' hSw
          go_simp
          try with_reducible rfl
        try simp only [Act.put, List.setIfInBounds_toArray, List.set_cons_zero, List.set_cons_succ]
        refine anyH_take (v := ?_) 5 rfl (by kernel_rfl) (by kernel_rfl) (by kernel_rfl) (fun _ _ _ h => h) rfl ?_ hHeld ?_
        rotate_left
        · intro w' hSw
          go_simp
          try with_reducible rfl
        try simp only [Act.put, List.setIfInBounds_toArray, List.set_cons_zero, List.set_cons_succ]
        refine wpAnyH_ready (rs := [3]) (by kernel_rfl) (by simp) ?_
        refine ready_cons rfl (fun K hK => ?_) AllReadyH.nil
        go_simp
        refine (HM.out _ _ (g1.fact 1 rfl).2.2).mono ?_
        rintro (e : Ending) w4 ⟨u4, rfl, ho4, hb4⟩
        obtain ⟨A4, l4, c4, rfl⟩ := ho4.slice
        have g2 := g1.pushOwn hb4 ho4
        show K _ _
        refine hK.out _ _ ?_ (fun hHeld => ?_)
        · exact (g2.box2 1 rfl)
        clear hK K
        try simp only [Act.put, List.setIfInBounds_toArray, List.set_cons_zero, List.set_cons_succ]
        refine anyH_take (v := ?_) 6 rfl (by kernel_rfl) (by kernel_rfl) (by kernel_rfl) (fun _ _ _ h => h) rfl ?_ hHeld ?_
        rotate_left
        · intro w' hSw
          go_simp
          try with_reducible rfl
        try simp only [Act.put, List.setIfInBounds_toArray, List.set_cons_zero, List.set_cons_succ]
        refine wpAnyH_ready (rs := [7]) (by kernel_rfl) (by simp) ?_
        refine ready_cons rfl (fun K hK => ?_) AllReadyH.nil
        go_simp
        have g3 := g2.alloc' (.cells #[.slice A4 l4 c4, .int .i64 x] 55)
        refine hK.out _ _ ?_ (fun hHeld => ?_)
        · exact (g3.box2 1 rfl)
        clear hK K
        try simp only [Act.put, List.setIfInBounds_toArray, List.set_cons_zero, List.set_cons_succ]
        refine wpAnyH_done (by kernel_rfl) ?_ _
        show wpList _ _ _ _ _ _
        simp only [List.drop_succ_cons, List.drop_zero]
        clear hHeld
        have h5 := g2.re [0, 3, 4, 5, 6] (L' := [_, _, _, _, _]) (by decide) (fun j => by rcases j with _ | _ | _ | _ | _ | j <;> rfl)
        clear g1 g2 g3 ho4 hb4
        rw [← Hox.out]
        go_wp2_with fail
        refine (Insert_any (opp m) h5 0 rfl Hul.out Hq6.out).mono ?_
        rintro (e : Ending) w7 ⟨v7, rfl, h6⟩
        go_wp2
        go_roundw
        case rel => exact ⟨q + 1, .slice A4 l4 c4 :: us, by go_num, by omega, by rw [HX2.out]; exact h6, by show _ = _; rw [HX2.out]; simp [Hul.out]⟩
        case measure => simp [intOf]; omega
      · obtain rfl : pl = q := by omega
        rw [← HR.out] at g Hul
        go_wp2
        go_ret
        exact ⟨_, us, rfl, Hul.out, g.at 0 rfl, g.vecNodup 0 rfl, g.below⟩

end Stp
end Go.Proofs.YtcngijafnnmccaaDoor
