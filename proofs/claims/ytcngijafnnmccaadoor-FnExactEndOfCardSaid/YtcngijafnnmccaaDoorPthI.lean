/- Paths: the program's PathOk. -/
import Derived.Test.YtcngijafnnmccaaDoorPthS
namespace Go.Proofs.YtcngijafnnmccaaDoor
set_option maxRecDepth 100000
open Go.RowKit
namespace Stp
open Car

def notW (x : Int) : Bool := !inR x (-1000) 1000
theorem isWeight1_any (x : Int) (w : World) : Calls Tryd.prog 83 (#[.int .i64 x] ++ #[]) w fun e w' => e = .returned (.bool (notW x)) ∧ w = w' := by
  show Calls Tryd.prog 83 #[.int .i64 x] w _
  go_enter Tryd.func83, Tryd.ntmps83
  go_wp2_with (go_at_call 45; refine (inside_any _ _ _ _).mono ?_; rintro e w' ⟨rfl, rfl⟩)
  go_ret
  exact ⟨rfl, rfl⟩
theorem any_notW (d : List Int) : d.any notW = !(d.all fun x => inR x (-1000) 1000) := by
  induction d with
  | nil => rfl
  | cons x xs ih =>
    simp only [List.any_cons, ih, List.all_cons]
    unfold notW
    rw [Bool.not_and]
set_option maxHeartbeats 1000000 in
theorem isWeight_any (n : Nat) (t v : Value) (d : List Int) (w : World) (hv : Ints w v d) :
    Calls Tryd.prog 67 #[.agg #[.int .i64 n, t], v] w fun e w' => e = .returned (.bool (wtOk n d)) ∧ Below w.heap.size w w' := by
  have g := (St.start1 hv).box [.int .i64 n, t] 33
  obtain ⟨A, c, rfl, hc1, hc2, _⟩ := id hv
  obtain ⟨z0, z1⟩ := g.box2 0 rfl
  obtain ⟨R, hR⟩ : ∃ R, R = wtOk n d := ⟨_, rfl⟩
  rw [← hR]
  obtain ⟨Y, hY⟩ : ∃ Y, Y = d.all fun x => inR x (-1000) 1000 := ⟨_, rfl⟩
  unfold wtOk at hR
  rw [← hY] at hR
  have HF := Lib.hid (fun W x => (ContainsFunc_any _ _ notW Tryd.call83 (.slice A d.length c) d W (fun x => isWeight1_any x _) x))
  rw [any_notW, ← hY] at HF
  obtain ⟨dl, hdl⟩ : ∃ dl, dl = d.length := ⟨_, rfl⟩
  rw [← hdl] at hR g HF ⊢
  by_cases hl : dl = n
  · have HR := Lib.hid (show R = Y by rw [hR, decide_eq_true hl]; exact Bool.true_and _)
    have e0 : ((dl : Int) == (n : Int)) = true := by simp; omega
    clear hR hY hdl hv hl
    go_enter Tryd.func67, Tryd.ntmps67
    go_wp2_with (go_at_call 60; refine (HF.out _ (g.roInts 1 rfl)).mono ?_; rintro e w' ⟨rfl, rfl⟩)
    go_ret
    exact ⟨ret_bool (by first | (rw [HR.out]; simp; done) | simp [HR.out]), g.below⟩
  · have HR := Lib.hid (show R = false by rw [hR, decide_eq_false hl]; rfl)
    have e0 : ((dl : Int) == (n : Int)) = false := by simp; omega
    clear hR hY hdl hv hl
    go_enter Tryd.func67, Tryd.ntmps67
    go_wp2
    go_ret
    exact ⟨ret_bool (by rw [HR.out]), g.below⟩
set_option maxHeartbeats 8000000 in
theorem PathOkI_any (r : Int) (t v : Value) (D : List Int) (ps : List Sg) (w : World) (ht : Ints w t D) (hv : StR w v ps) (hM : MaxAt w) (hr : -9223372036854775808 ≤ r ∧ r ≤ 9223372036854775807) :
    Calls Tryd.prog 44 #[.agg #[.int .i64 r, t], v] w fun e w' => e = .returned (.bool (pathB r D ps)) ∧ Below w.heap.size w w' := by
  have g := (((St.start w).pushFact hv.fact).arg ht).box [.int .i64 r, t] 33
  have hMx : MaxAt (w.alloc (.cells #[.int .i64 r, t] 33)) := MaxAt.below hM ((Below.refl w.heap.size w).alloc (Nat.le_refl _) _)
  obtain ⟨A, c, rfl, _, _, _⟩ := id ht
  obtain ⟨A2, c2, rfl, _, _, _⟩ := id hv
  have HC := Lib.hid (fun W x m => IsCartanI_any r (.slice A D.length c) D W x m hr)
  have HMx := Lib.hid hMx
  have HV := Lib.hid hv
  obtain ⟨R, hR⟩ : ∃ R, R = pathB r D ps := ⟨_, rfl⟩
  rw [← hR]
  unfold pathB at hR
  obtain ⟨cb, hcb⟩ : ∃ cb, cb = carB r D := ⟨_, rfl⟩
  rw [← hcb] at hR HC
  obtain ⟨dl, hdl⟩ : ∃ dl, dl = D.length := ⟨_, rfl⟩
  obtain ⟨pl, hpl⟩ : ∃ pl, pl = ps.length := ⟨_, rfl⟩
  rw [← hdl] at g HC HMx ⊢
  rw [← hpl] at g HV ⊢
  have Hpl := Lib.hid hpl
  obtain ⟨z0, z1⟩ := g.box2 0 rfl
  cases cb with
  | false =>
    have HR := Lib.hid (show R = false from hR)
    clear hR hcb hdl hpl ht hv hMx hM
    go_enter Tryd.func44, Tryd.ntmps44
    go_wp2_with fail
    refine (HC.out _ (g.roInts 1 rfl) HMx.out).mono ?_
    rintro (e : Ending) w3 ⟨rfl, hb3⟩
    have g3 := g.on hb3
    clear z0 z1
    obtain ⟨z0, z1⟩ := g3.box2 0 rfl
    go_wp2
    go_ret
    exact ⟨ret_bool HR.out.symm, g3.below⟩
  | true =>
    have hr4 : 1 ≤ r ∧ r ≤ 4 := by
      unfold carB at hcb
      have h := hcb.symm
      rw [Bool.and_eq_true] at h
      have := h.1
      simp [inR] at this
      exact this
    obtain ⟨n, rfl⟩ : ∃ n : Nat, r = (n : Int) := ⟨r.toNat, by omega⟩
    rw [Int.toNat_natCast, Bool.true_and] at hR
    unfold pOk at hR
    rw [← hpl] at hR
    obtain ⟨t, htt⟩ : ∃ t, t = Value.slice A dl c := ⟨_, rfl⟩
    rw [← htt] at g z1 HC HMx ⊢
    clear hcb hdl hpl ht hv hMx hM hr htt
    by_cases hl : pl ≤ 60
    · obtain ⟨E, hE⟩ : ∃ E, E = ((tm ps pl).tmod 27720 == 0 && decide (tm ps pl ≤ 83160)) := ⟨_, rfl⟩
      have HR := Lib.hid (show R = ((List.range' 0 (pl - 0)).all (stpOk n ps) && E) by rw [hR, hE, decide_eq_true hl, Bool.true_and])
      have HE := Lib.hid hE
      clear hR hE
      go_enter Tryd.func44, Tryd.ntmps44
      go_wp2_with fail
      refine (HC.out _ (g.roInts 1 rfl) HMx.out).mono ?_
      rintro (e : Ending) w3 ⟨rfl, hb3⟩
      have g3 := (((g.on hb3).toFront 1 rfl).drop 1)
      simp only [List.drop_succ_cons, List.drop_zero, List.eraseIdx_cons_succ, List.eraseIdx_cons_zero] at g3
      clear z0 z1 g hb3
      obtain ⟨z0, z1⟩ := g3.box2 0 rfl
      go_wp2
      clear z0 z1
      go_loopw [5, 18] (fun v5 v18 wr => ∃ k : Nat, v18 = .int .i64 k ∧ k ≤ pl ∧ v5 = .int .i64 (tm ps k) ∧ St w wr [.box w.heap.size [.int .i64 n, t], .fact (fun w' => StR w' (.slice A2 pl c2) ps)] ∧ Hid (R = ((List.range' k (pl - k)).all (stpOk n ps) && E)) ∧ Hid (∀ j, j < k → stpOk n ps j = true)) (fun _ v18 _ => pl - (intOf v18).toNat)
      case atStart => exact ⟨0, rfl, by omega, rfl, g3, HR, Lib.hid (fun j hj => absurd hj (by omega))⟩
      case round =>
        clear g3 HR
        obtain ⟨k, rfl, a1, rfl, g, HR, HA⟩ := hrel
        have tb := tm_bd (ps := ps) (k := k) (fun j hj => by have := stpOk_n (HA.out j hj); exact ⟨this.1, this.2.1⟩)
        by_cases hk : k < pl
        · have ik : (k : Int) < (pl : Int) := by omega
          have HRs := Lib.hid (show R = ((stpOk n ps k && (List.range' (k + 1) (pl - (k + 1))).all (stpOk n ps)) && E) by rw [HR.out, all_cons _ hk])
          have hk2 : k < ps.length := by rw [← Hpl.out]; exact hk
          obtain ⟨p1, hp1⟩ : ∃ p1, p1 = k - 1 := ⟨_, rfl⟩
          have hp2 : p1 < ps.length := by omega
          obtain ⟨b, off, A9, c9, rfl, hm⟩ := HV.out.at (i := k) hk2
          rw [pAt_get hk2] at hm
          obtain ⟨b8, off8, A8, c8, e8, hm8⟩ := HV.out.at (i := p1) hp2
          rw [pAt_get hp2] at hm8
          simp only [Option.some.injEq, Addr.mk.injEq] at e8
          obtain ⟨rfl, rfl, -⟩ := e8
          have hsk : stpOk n ps k = ((wtOk n (pAt ps k).d && inR (pAt ps k).n 1 83160) && !(decide (0 < k) && decide ((pAt ps p1).d = (pAt ps k).d))) := by rw [hp1]; rfl
          have HTs := Lib.hid (show tm ps (k + 1) = tm ps k + (pAt ps k).n from rfl)
          obtain ⟨T, hT⟩ : ∃ T, T = tm ps k := ⟨_, rfl⟩
          rw [← hT] at tb HTs ⊢
          have tb2 : T ≤ 4989600 := by omega
          obtain ⟨m, hmm⟩ : ∃ m, m = pAt ps k := ⟨_, rfl⟩
          obtain ⟨m8, hm8m⟩ : ∃ m8, m8 = pAt ps p1 := ⟨_, rfl⟩
          rw [← hmm] at hm hsk HTs
          rw [← hm8m] at hm8 hsk
          have g1 := (g.pushOld hm.fact).pushOld hm8.fact
          obtain ⟨x, hx⟩ : ∃ x, x = m.n := ⟨_, rfl⟩
          have HX := Lib.hid (fun (W : World) (h : SgAt W b (off + k * 2) m (.slice A9 m.d.length c9)) => show W.cell? ⟨b, off + k * 2 + 1, none⟩ = some (.int .i64 x) by rw [hx]; exact h.2.1)
          rw [← hx] at HTs
          obtain ⟨lat, hlat⟩ : ∃ lat, lat = wtOk n m.d := ⟨_, rfl⟩
          obtain ⟨inl, hinl⟩ : ∃ inl, inl = inR x 1 83160 := ⟨_, rfl⟩
          obtain ⟨sm, hsm⟩ : ∃ sm, sm = decide (m8.d = m.d) := ⟨_, rfl⟩
          have HL := Lib.hid (fun (W : World) (v1 : Value) (x1 : Ints W v1 m.d) => isWeight_any n t v1 m.d W x1)
          have HI := Lib.hid (fun (W : World) => inside_any x 1 83160 W)
          have HS := Lib.hid (fun (W : World) (v1 v2 : Value) (x1 : Ints W v1 m8.d) (x2 : Ints W v2 m.d) => Equal_any v1 v2 m8.d m.d W x1 x2)
          rw [← hlat] at HL
          rw [← hinl] at HI
          rw [← hsm] at HS
          have HSk := Lib.hid (show stpOk n ps k = ((lat && inl) && !(decide (0 < k) && sm)) by rw [hsk, hlat, hinl, hsm, hx])
          obtain ⟨wl, hwl⟩ : ∃ wl, wl = m.d.length := ⟨_, rfl⟩
          obtain ⟨wl8, hwl8⟩ : ∃ wl8, wl8 = m8.d.length := ⟨_, rfl⟩
          rw [← hwl] at g1 HX
          rw [← hwl8] at g1
          obtain ⟨z0, -, -⟩ := g1.fact 1 rfl
          have z1 := HX.out _ (g1.fact 1 rfl)
          have Hp1 := Lib.hid hp1
          have g0 := (g1.box [.slice A9 wl c9, .int .i64 x] 55).drew
          have hxb : inl = true → 1 ≤ x ∧ x ≤ 83160 := fun h => by rw [h] at hinl; have := hinl.symm; simpa [inR] using this
          have Hxb := Lib.hid hxb
          clear hlat hinl hsm hx hsk hwl hwl8 hmm hm8m hm hm8 HR hp1 hT hxb
          go_wp2
          cases lat with
          | false =>
            have HRf := Lib.hid (show R = false by rw [HRs.out, HSk.out]; rfl)
            go_upto_region 7 with fail
            refine wp_region_held_drew (S := fun w' => (w'.cell? ⟨w.heap.size, 0, none⟩ = some (.int .i64 n) ∧ w'.cell? ⟨w.heap.size, 1, none⟩ = some (t)) ∧ (w'.cell? ⟨wr.heap.size, 0, none⟩ = some (.slice A9 wl c9) ∧ w'.cell? ⟨wr.heap.size, 1, none⟩ = some (.int .i64 x)) ∧ w'.cell? ⟨b, off + p1 * 2, none⟩ = some (.slice A8 wl8 c8)) (by kernel_rfl) ⟨g0.box2 3 rfl, g0.box2 0 rfl, (g0.fact 1 rfl).1⟩ (fun hHeld => ?_)
            obtain ⟨v0, hv0, g8⟩ : ∃ v0, v0 = (wr.alloc (.cells #[.slice A9 wl c9, .int .i64 x] 55)).drew ∧ St w v0 _ := ⟨_, rfl, g0⟩
            rw [← hv0] at g0 hHeld ⊢
            clear hv0 g8
            refine anyH_take (v := ?_) 0 rfl (by kernel_rfl) (by kernel_rfl) (by kernel_rfl) (fun _ _ _ h => h) rfl ?_ hHeld ?_
            rotate_left
            · intro w' hSw
              go_simp
              try with_reducible rfl
            try simp only [Act.put, List.setIfInBounds_toArray, List.set_cons_zero, List.set_cons_succ]
            refine anyH_take (v := ?_) 1 rfl (by kernel_rfl) (by kernel_rfl) (by kernel_rfl) (fun _ _ _ h => h) rfl ?_ hHeld ?_
            rotate_left
            · intro w' hSw
              go_simp
              try with_reducible rfl
            try simp only [Act.put, List.setIfInBounds_toArray, List.set_cons_zero, List.set_cons_succ]
            refine anyH_take (v := ?_) 2 rfl (by kernel_rfl) (by kernel_rfl) (by kernel_rfl) (fun _ _ _ h => h) rfl ?_ hHeld ?_
            rotate_left
            · intro w' hSw
              go_simp
              try with_reducible rfl
            try simp only [Act.put, List.setIfInBounds_toArray, List.set_cons_zero, List.set_cons_succ]
            refine wpAnyH_ready (rs := [3]) (by kernel_rfl) (by simp) ?_
            refine ready_cons rfl (fun K hK => ?_) AllReadyH.nil
            go_simp
            refine (HL.out _ _ (g0.fact 2 rfl).2.2).mono ?_
            rintro (e : Ending) w4 ⟨rfl, hb4⟩
            have g1 := g0.on hb4
            show K _ _
            refine hK.out _ _ ?_ (fun hHeld => ?_)
            · exact ⟨g1.box2 3 rfl, g1.box2 0 rfl, (g1.fact 1 rfl).1⟩
            clear hK K
            try simp only [Act.put, List.setIfInBounds_toArray, List.set_cons_zero, List.set_cons_succ]
            refine anyH_take (v := ?_) 4 rfl (by kernel_rfl) (by kernel_rfl) (by kernel_rfl) (fun _ _ _ h => h) rfl ?_ hHeld ?_
            rotate_left
            · intro w' hSw
              go_simp
              try with_reducible rfl
            try simp only [Act.put, List.setIfInBounds_toArray, List.set_cons_zero, List.set_cons_succ]
            refine anyH_take (v := ?_) 5 rfl (by kernel_rfl) (by kernel_rfl) (by kernel_rfl) (fun _ _ _ h => h) rfl ?_ hHeld ?_
            rotate_left
            · intro w' hSw
              go_simp
              try with_reducible rfl
            try simp only [Act.put, List.setIfInBounds_toArray, List.set_cons_zero, List.set_cons_succ]
            refine anyH_skip 6 rfl (by kernel_rfl) (by kernel_rfl) (by kernel_rfl) (fun _ _ _ h => h) rfl hHeld ?_
            try simp only [Act.put, List.setIfInBounds_toArray, List.set_cons_zero, List.set_cons_succ]
            refine anyH_skip 7 rfl (by kernel_rfl) (by kernel_rfl) (by kernel_rfl) (fun _ _ _ h => h) rfl hHeld ?_
            try simp only [Act.put, List.setIfInBounds_toArray, List.set_cons_zero, List.set_cons_succ]
            refine anyH_skip 8 rfl (by kernel_rfl) (by kernel_rfl) (by kernel_rfl) (fun _ _ _ h => h) rfl hHeld ?_
            try simp only [Act.put, List.setIfInBounds_toArray, List.set_cons_zero, List.set_cons_succ]
            refine anyH_skip 9 rfl (by kernel_rfl) (by kernel_rfl) (by kernel_rfl) (fun _ _ _ h => h) rfl hHeld ?_
            try simp only [Act.put, List.setIfInBounds_toArray, List.set_cons_zero, List.set_cons_succ]
            refine anyH_take (v := ?_) 10 rfl (by kernel_rfl) (by kernel_rfl) (by kernel_rfl) (fun _ _ _ h => h) rfl ?_ hHeld ?_
            rotate_left
            · intro w' hSw
              go_simp
              try with_reducible rfl
            try simp only [Act.put, List.setIfInBounds_toArray, List.set_cons_zero, List.set_cons_succ]
            refine anyH_take (v := ?_) 11 rfl (by kernel_rfl) (by kernel_rfl) (by kernel_rfl) (fun _ _ _ h => h) rfl ?_ hHeld ?_
            rotate_left
            · intro w' hSw
              go_simp
              try with_reducible rfl
            try simp only [Act.put, List.setIfInBounds_toArray, List.set_cons_zero, List.set_cons_succ]
            refine anyH_skip 12 rfl (by kernel_rfl) (by kernel_rfl) (by kernel_rfl) (fun _ _ _ h => h) rfl hHeld ?_
            try simp only [Act.put, List.setIfInBounds_toArray, List.set_cons_zero, List.set_cons_succ]
            refine anyH_skip 13 rfl (by kernel_rfl) (by kernel_rfl) (by kernel_rfl) (fun _ _ _ h => h) rfl hHeld ?_
            try simp only [Act.put, List.setIfInBounds_toArray, List.set_cons_zero, List.set_cons_succ]
            refine anyH_skip 14 rfl (by kernel_rfl) (by kernel_rfl) (by kernel_rfl) (fun _ _ _ h => h) rfl hHeld ?_
            try simp only [Act.put, List.setIfInBounds_toArray, List.set_cons_zero, List.set_cons_succ]
            refine anyH_skip 15 rfl (by kernel_rfl) (by kernel_rfl) (by kernel_rfl) (fun _ _ _ h => h) rfl hHeld ?_
            try simp only [Act.put, List.setIfInBounds_toArray, List.set_cons_zero, List.set_cons_succ]
            refine anyH_skip 16 rfl (by kernel_rfl) (by kernel_rfl) (by kernel_rfl) (fun _ _ _ h => h) rfl hHeld ?_
            try simp only [Act.put, List.setIfInBounds_toArray, List.set_cons_zero, List.set_cons_succ]
            refine anyH_skip 17 rfl (by kernel_rfl) (by kernel_rfl) (by kernel_rfl) (fun _ _ _ h => h) rfl hHeld ?_
            try simp only [Act.put, List.setIfInBounds_toArray, List.set_cons_zero, List.set_cons_succ]
            refine anyH_skip 18 rfl (by kernel_rfl) (by kernel_rfl) (by kernel_rfl) (fun _ _ _ h => h) rfl hHeld ?_
            try simp only [Act.put, List.setIfInBounds_toArray, List.set_cons_zero, List.set_cons_succ]
            refine anyH_skip 19 rfl (by kernel_rfl) (by kernel_rfl) (by kernel_rfl) (fun _ _ _ h => h) rfl hHeld ?_
            try simp only [Act.put, List.setIfInBounds_toArray, List.set_cons_zero, List.set_cons_succ]
            refine anyH_skip 20 rfl (by kernel_rfl) (by kernel_rfl) (by kernel_rfl) (fun _ _ _ h => h) rfl hHeld ?_
            try simp only [Act.put, List.setIfInBounds_toArray, List.set_cons_zero, List.set_cons_succ]
            refine anyH_skip 21 rfl (by kernel_rfl) (by kernel_rfl) (by kernel_rfl) (fun _ _ _ h => h) rfl hHeld ?_
            try simp only [Act.put, List.setIfInBounds_toArray, List.set_cons_zero, List.set_cons_succ]
            refine anyH_skip 22 rfl (by kernel_rfl) (by kernel_rfl) (by kernel_rfl) (fun _ _ _ h => h) rfl hHeld ?_
            try simp only [Act.put, List.setIfInBounds_toArray, List.set_cons_zero, List.set_cons_succ]
            refine anyH_skip 23 rfl (by kernel_rfl) (by kernel_rfl) (by kernel_rfl) (fun _ _ _ h => h) rfl hHeld ?_
            try simp only [Act.put, List.setIfInBounds_toArray, List.set_cons_zero, List.set_cons_succ]
            refine anyH_skip 24 rfl (by kernel_rfl) (by kernel_rfl) (by kernel_rfl) (fun _ _ _ h => h) rfl hHeld ?_
            try simp only [Act.put, List.setIfInBounds_toArray, List.set_cons_zero, List.set_cons_succ]
            refine anyH_take (v := ?_) 25 rfl (by kernel_rfl) (by kernel_rfl) (by kernel_rfl) (fun _ _ _ h => h) rfl ?_ hHeld ?_
            rotate_left
            · intro w' hSw
              go_simp
              try with_reducible rfl
            try simp only [Act.put, List.setIfInBounds_toArray, List.set_cons_zero, List.set_cons_succ]
            refine wpAnyH_done (by kernel_rfl) ?_ _
            clear hHeld
            go_wp2
            go_ret
            exact ⟨ret_bool HRf.out.symm, g1.below⟩
          | true =>
            cases inl with
            | false =>
              have HRf := Lib.hid (show R = false by rw [HRs.out, HSk.out]; rfl)
              go_upto_region 7 with fail
              refine wp_region_held_drew (S := fun w' => (w'.cell? ⟨w.heap.size, 0, none⟩ = some (.int .i64 n) ∧ w'.cell? ⟨w.heap.size, 1, none⟩ = some (t)) ∧ (w'.cell? ⟨wr.heap.size, 0, none⟩ = some (.slice A9 wl c9) ∧ w'.cell? ⟨wr.heap.size, 1, none⟩ = some (.int .i64 x)) ∧ w'.cell? ⟨b, off + p1 * 2, none⟩ = some (.slice A8 wl8 c8)) (by kernel_rfl) ⟨g0.box2 3 rfl, g0.box2 0 rfl, (g0.fact 1 rfl).1⟩ (fun hHeld => ?_)
              obtain ⟨v0, hv0, g8⟩ : ∃ v0, v0 = (wr.alloc (.cells #[.slice A9 wl c9, .int .i64 x] 55)).drew ∧ St w v0 _ := ⟨_, rfl, g0⟩
              rw [← hv0] at g0 hHeld ⊢
              clear hv0 g8
              refine anyH_take (v := ?_) 0 rfl (by kernel_rfl) (by kernel_rfl) (by kernel_rfl) (fun _ _ _ h => h) rfl ?_ hHeld ?_
              rotate_left
              · intro w' hSw
                go_simp
                try with_reducible rfl
              try simp only [Act.put, List.setIfInBounds_toArray, List.set_cons_zero, List.set_cons_succ]
              refine anyH_take (v := ?_) 1 rfl (by kernel_rfl) (by kernel_rfl) (by kernel_rfl) (fun _ _ _ h => h) rfl ?_ hHeld ?_
              rotate_left
              · intro w' hSw
                go_simp
                try with_reducible rfl
              try simp only [Act.put, List.setIfInBounds_toArray, List.set_cons_zero, List.set_cons_succ]
              refine anyH_take (v := ?_) 2 rfl (by kernel_rfl) (by kernel_rfl) (by kernel_rfl) (fun _ _ _ h => h) rfl ?_ hHeld ?_
              rotate_left
              · intro w' hSw
                go_simp
                try with_reducible rfl
              try simp only [Act.put, List.setIfInBounds_toArray, List.set_cons_zero, List.set_cons_succ]
              refine wpAnyH_ready (rs := [3]) (by kernel_rfl) (by simp) ?_
              refine ready_cons rfl (fun K hK => ?_) AllReadyH.nil
              go_simp
              refine (HL.out _ _ (g0.fact 2 rfl).2.2).mono ?_
              rintro (e : Ending) w4 ⟨rfl, hb4⟩
              have g1 := g0.on hb4
              show K _ _
              refine hK.out _ _ ?_ (fun hHeld => ?_)
              · exact ⟨g1.box2 3 rfl, g1.box2 0 rfl, (g1.fact 1 rfl).1⟩
              clear hK K
              try simp only [Act.put, List.setIfInBounds_toArray, List.set_cons_zero, List.set_cons_succ]
              refine anyH_take (v := ?_) 4 rfl (by kernel_rfl) (by kernel_rfl) (by kernel_rfl) (fun _ _ _ h => h) rfl ?_ hHeld ?_
              rotate_left
              · intro w' hSw
                go_simp
                try with_reducible rfl
              try simp only [Act.put, List.setIfInBounds_toArray, List.set_cons_zero, List.set_cons_succ]
              refine anyH_take (v := ?_) 5 rfl (by kernel_rfl) (by kernel_rfl) (by kernel_rfl) (fun _ _ _ h => h) rfl ?_ hHeld ?_
              rotate_left
              · intro w' hSw
                go_simp
                try with_reducible rfl
              try simp only [Act.put, List.setIfInBounds_toArray, List.set_cons_zero, List.set_cons_succ]
              refine anyH_take (v := ?_) 6 rfl (by kernel_rfl) (by kernel_rfl) (by kernel_rfl) (fun _ _ _ h => h) rfl ?_ hHeld ?_
              rotate_left
              · intro w' hSw
                go_simp
                try with_reducible rfl
              try simp only [Act.put, List.setIfInBounds_toArray, List.set_cons_zero, List.set_cons_succ]
              refine anyH_take (v := ?_) 7 rfl (by kernel_rfl) (by kernel_rfl) (by kernel_rfl) (fun _ _ _ h => h) rfl ?_ hHeld ?_
              rotate_left
              · intro w' hSw
                go_simp
                try with_reducible rfl
              try simp only [Act.put, List.setIfInBounds_toArray, List.set_cons_zero, List.set_cons_succ]
              refine wpAnyH_ready (rs := [8]) (by kernel_rfl) (by simp) ?_
              refine ready_cons rfl (fun K hK => ?_) AllReadyH.nil
              go_simp
              refine (HI.out _).mono ?_
              rintro (e : Ending) w5 ⟨rfl, rfl⟩
              show K _ _
              refine hK.out _ _ ?_ (fun hHeld => ?_)
              · exact ⟨g1.box2 3 rfl, g1.box2 0 rfl, (g1.fact 1 rfl).1⟩
              clear hK K
              try simp only [Act.put, List.setIfInBounds_toArray, List.set_cons_zero, List.set_cons_succ]
              refine anyH_take (v := ?_) 9 rfl (by kernel_rfl) (by kernel_rfl) (by kernel_rfl) (fun _ _ _ h => h) rfl ?_ hHeld ?_
              rotate_left
              · intro w' hSw
                go_simp
                try with_reducible rfl
              try simp only [Act.put, List.setIfInBounds_toArray, List.set_cons_zero, List.set_cons_succ]
              refine anyH_take (v := ?_) 10 rfl (by kernel_rfl) (by kernel_rfl) (by kernel_rfl) (fun _ _ _ h => h) rfl ?_ hHeld ?_
              rotate_left
              · intro w' hSw
                go_simp
                try with_reducible rfl
              try simp only [Act.put, List.setIfInBounds_toArray, List.set_cons_zero, List.set_cons_succ]
              refine anyH_take (v := ?_) 11 rfl (by kernel_rfl) (by kernel_rfl) (by kernel_rfl) (fun _ _ _ h => h) rfl ?_ hHeld ?_
              rotate_left
              · intro w' hSw
                go_simp
                try with_reducible rfl
              try simp only [Act.put, List.setIfInBounds_toArray, List.set_cons_zero, List.set_cons_succ]
              refine anyH_skip 12 rfl (by kernel_rfl) (by kernel_rfl) (by kernel_rfl) (fun _ _ _ h => h) rfl hHeld ?_
              try simp only [Act.put, List.setIfInBounds_toArray, List.set_cons_zero, List.set_cons_succ]
              refine anyH_skip 13 rfl (by kernel_rfl) (by kernel_rfl) (by kernel_rfl) (fun _ _ _ h => h) rfl hHeld ?_
              try simp only [Act.put, List.setIfInBounds_toArray, List.set_cons_zero, List.set_cons_succ]
              refine anyH_skip 14 rfl (by kernel_rfl) (by kernel_rfl) (by kernel_rfl) (fun _ _ _ h => h) rfl hHeld ?_
              try simp only [Act.put, List.setIfInBounds_toArray, List.set_cons_zero, List.set_cons_succ]
              refine anyH_skip 15 rfl (by kernel_rfl) (by kernel_rfl) (by kernel_rfl) (fun _ _ _ h => h) rfl hHeld ?_
              try simp only [Act.put, List.setIfInBounds_toArray, List.set_cons_zero, List.set_cons_succ]
              refine anyH_skip 16 rfl (by kernel_rfl) (by kernel_rfl) (by kernel_rfl) (fun _ _ _ h => h) rfl hHeld ?_
              try simp only [Act.put, List.setIfInBounds_toArray, List.set_cons_zero, List.set_cons_succ]
              refine anyH_skip 17 rfl (by kernel_rfl) (by kernel_rfl) (by kernel_rfl) (fun _ _ _ h => h) rfl hHeld ?_
              try simp only [Act.put, List.setIfInBounds_toArray, List.set_cons_zero, List.set_cons_succ]
              refine anyH_skip 18 rfl (by kernel_rfl) (by kernel_rfl) (by kernel_rfl) (fun _ _ _ h => h) rfl hHeld ?_
              try simp only [Act.put, List.setIfInBounds_toArray, List.set_cons_zero, List.set_cons_succ]
              refine anyH_skip 19 rfl (by kernel_rfl) (by kernel_rfl) (by kernel_rfl) (fun _ _ _ h => h) rfl hHeld ?_
              try simp only [Act.put, List.setIfInBounds_toArray, List.set_cons_zero, List.set_cons_succ]
              refine anyH_skip 20 rfl (by kernel_rfl) (by kernel_rfl) (by kernel_rfl) (fun _ _ _ h => h) rfl hHeld ?_
              try simp only [Act.put, List.setIfInBounds_toArray, List.set_cons_zero, List.set_cons_succ]
              refine anyH_skip 21 rfl (by kernel_rfl) (by kernel_rfl) (by kernel_rfl) (fun _ _ _ h => h) rfl hHeld ?_
              try simp only [Act.put, List.setIfInBounds_toArray, List.set_cons_zero, List.set_cons_succ]
              refine anyH_skip 22 rfl (by kernel_rfl) (by kernel_rfl) (by kernel_rfl) (fun _ _ _ h => h) rfl hHeld ?_
              try simp only [Act.put, List.setIfInBounds_toArray, List.set_cons_zero, List.set_cons_succ]
              refine anyH_skip 23 rfl (by kernel_rfl) (by kernel_rfl) (by kernel_rfl) (fun _ _ _ h => h) rfl hHeld ?_
              try simp only [Act.put, List.setIfInBounds_toArray, List.set_cons_zero, List.set_cons_succ]
              refine anyH_skip 24 rfl (by kernel_rfl) (by kernel_rfl) (by kernel_rfl) (fun _ _ _ h => h) rfl hHeld ?_
              try simp only [Act.put, List.setIfInBounds_toArray, List.set_cons_zero, List.set_cons_succ]
              refine anyH_take (v := ?_) 25 rfl (by kernel_rfl) (by kernel_rfl) (by kernel_rfl) (fun _ _ _ h => h) rfl ?_ hHeld ?_
              rotate_left
              · intro w' hSw
                go_simp
                try with_reducible rfl
              try simp only [Act.put, List.setIfInBounds_toArray, List.set_cons_zero, List.set_cons_succ]
              refine wpAnyH_done (by kernel_rfl) ?_ _
              clear hHeld
              go_wp2
              go_ret
              exact ⟨ret_bool HRf.out.symm, g1.below⟩
            | true =>
              have xb := Hxb.out rfl
              by_cases h0 : 0 < k
              · have ih0 : (0 : Int) < (k : Int) := by omega
                have hks : (k : Int) - 1 = (p1 : Int) := by have := Hp1.out; omega
                have hkw : IntKind.i64.wrap ((p1 : Nat) : Int) = (p1 : Int) := wrap_ok (by omega) (by have := Hp1.out; omega)
                have ip1 : (p1 : Int) < (pl : Int) := by have := Hp1.out; omega
                have HSk2 := Lib.hid (show stpOk n ps k = !sm by rw [HSk.out, decide_eq_true h0]; simp)
                cases sm with
                | true =>
                  have HRf := Lib.hid (show R = false by rw [HRs.out, HSk2.out]; rfl)
                  go_upto_region 7 with fail
                  refine wp_region_held_drew (S := fun w' => (w'.cell? ⟨w.heap.size, 0, none⟩ = some (.int .i64 n) ∧ w'.cell? ⟨w.heap.size, 1, none⟩ = some (t)) ∧ (w'.cell? ⟨wr.heap.size, 0, none⟩ = some (.slice A9 wl c9) ∧ w'.cell? ⟨wr.heap.size, 1, none⟩ = some (.int .i64 x)) ∧ w'.cell? ⟨b, off + p1 * 2, none⟩ = some (.slice A8 wl8 c8)) (by kernel_rfl) ⟨g0.box2 3 rfl, g0.box2 0 rfl, (g0.fact 1 rfl).1⟩ (fun hHeld => ?_)
                  obtain ⟨v0, hv0, g8⟩ : ∃ v0, v0 = (wr.alloc (.cells #[.slice A9 wl c9, .int .i64 x] 55)).drew ∧ St w v0 _ := ⟨_, rfl, g0⟩
                  rw [← hv0] at g0 hHeld ⊢
                  clear hv0 g8
                  refine anyH_take (v := ?_) 0 rfl (by kernel_rfl) (by kernel_rfl) (by kernel_rfl) (fun _ _ _ h => h) rfl ?_ hHeld ?_
                  rotate_left
                  · intro w' hSw
                    go_simp
                    try with_reducible rfl
                  try simp only [Act.put, List.setIfInBounds_toArray, List.set_cons_zero, List.set_cons_succ]
                  refine anyH_take (v := ?_) 1 rfl (by kernel_rfl) (by kernel_rfl) (by kernel_rfl) (fun _ _ _ h => h) rfl ?_ hHeld ?_
                  rotate_left
                  · intro w' hSw
                    go_simp
                    try with_reducible rfl
                  try simp only [Act.put, List.setIfInBounds_toArray, List.set_cons_zero, List.set_cons_succ]
                  refine anyH_take (v := ?_) 2 rfl (by kernel_rfl) (by kernel_rfl) (by kernel_rfl) (fun _ _ _ h => h) rfl ?_ hHeld ?_
                  rotate_left
                  · intro w' hSw
                    go_simp
                    try with_reducible rfl
                  try simp only [Act.put, List.setIfInBounds_toArray, List.set_cons_zero, List.set_cons_succ]
                  refine wpAnyH_ready (rs := [3]) (by kernel_rfl) (by simp) ?_
                  refine ready_cons rfl (fun K hK => ?_) AllReadyH.nil
                  go_simp
                  refine (HL.out _ _ (g0.fact 2 rfl).2.2).mono ?_
                  rintro (e : Ending) w4 ⟨rfl, hb4⟩
                  have g1 := g0.on hb4
                  show K _ _
                  refine hK.out _ _ ?_ (fun hHeld => ?_)
                  · exact ⟨g1.box2 3 rfl, g1.box2 0 rfl, (g1.fact 1 rfl).1⟩
                  clear hK K
                  try simp only [Act.put, List.setIfInBounds_toArray, List.set_cons_zero, List.set_cons_succ]
                  refine anyH_take (v := ?_) 4 rfl (by kernel_rfl) (by kernel_rfl) (by kernel_rfl) (fun _ _ _ h => h) rfl ?_ hHeld ?_
                  rotate_left
                  · intro w' hSw
                    go_simp
                    try with_reducible rfl
                  try simp only [Act.put, List.setIfInBounds_toArray, List.set_cons_zero, List.set_cons_succ]
                  refine anyH_take (v := ?_) 5 rfl (by kernel_rfl) (by kernel_rfl) (by kernel_rfl) (fun _ _ _ h => h) rfl ?_ hHeld ?_
                  rotate_left
                  · intro w' hSw
                    go_simp
                    try with_reducible rfl
                  try simp only [Act.put, List.setIfInBounds_toArray, List.set_cons_zero, List.set_cons_succ]
                  refine anyH_take (v := ?_) 6 rfl (by kernel_rfl) (by kernel_rfl) (by kernel_rfl) (fun _ _ _ h => h) rfl ?_ hHeld ?_
                  rotate_left
                  · intro w' hSw
                    go_simp
                    try with_reducible rfl
                  try simp only [Act.put, List.setIfInBounds_toArray, List.set_cons_zero, List.set_cons_succ]
                  refine anyH_take (v := ?_) 7 rfl (by kernel_rfl) (by kernel_rfl) (by kernel_rfl) (fun _ _ _ h => h) rfl ?_ hHeld ?_
                  rotate_left
                  · intro w' hSw
                    go_simp
                    try with_reducible rfl
                  try simp only [Act.put, List.setIfInBounds_toArray, List.set_cons_zero, List.set_cons_succ]
                  refine wpAnyH_ready (rs := [8]) (by kernel_rfl) (by simp) ?_
                  refine ready_cons rfl (fun K hK => ?_) AllReadyH.nil
                  go_simp
                  refine (HI.out _).mono ?_
                  rintro (e : Ending) w5 ⟨rfl, rfl⟩
                  show K _ _
                  refine hK.out _ _ ?_ (fun hHeld => ?_)
                  · exact ⟨g1.box2 3 rfl, g1.box2 0 rfl, (g1.fact 1 rfl).1⟩
                  clear hK K
                  try simp only [Act.put, List.setIfInBounds_toArray, List.set_cons_zero, List.set_cons_succ]
                  refine anyH_take (v := ?_) 9 rfl (by kernel_rfl) (by kernel_rfl) (by kernel_rfl) (fun _ _ _ h => h) rfl ?_ hHeld ?_
                  rotate_left
                  · intro w' hSw
                    go_simp
                    try with_reducible rfl
                  try simp only [Act.put, List.setIfInBounds_toArray, List.set_cons_zero, List.set_cons_succ]
                  refine anyH_take (v := ?_) 10 rfl (by kernel_rfl) (by kernel_rfl) (by kernel_rfl) (fun _ _ _ h => h) rfl ?_ hHeld ?_
                  rotate_left
                  · intro w' hSw
                    go_simp
                    try with_reducible rfl
                  try simp only [Act.put, List.setIfInBounds_toArray, List.set_cons_zero, List.set_cons_succ]
                  refine anyH_take (v := ?_) 11 rfl (by kernel_rfl) (by kernel_rfl) (by kernel_rfl) (fun _ _ _ h => h) rfl ?_ hHeld ?_
                  rotate_left
                  · intro w' hSw
                    go_simp
                    try with_reducible rfl
                  try simp only [Act.put, List.setIfInBounds_toArray, List.set_cons_zero, List.set_cons_succ]
                  refine anyH_take (v := ?_) 12 rfl (by kernel_rfl) (by kernel_rfl) (by kernel_rfl) (fun _ _ _ h => h) rfl ?_ hHeld ?_
                  rotate_left
                  · intro w' hSw
                    go_simp
                    try with_reducible rfl
                  try simp only [Act.put, List.setIfInBounds_toArray, List.set_cons_zero, List.set_cons_succ]
                  refine anyH_take (v := ?_) 13 rfl (by kernel_rfl) (by kernel_rfl) (by kernel_rfl) (fun _ _ _ h => h) rfl ?_ hHeld ?_
                  rotate_left
                  · intro w' hSw
                    go_simp
                    try with_reducible rfl
                  try simp only [Act.put, List.setIfInBounds_toArray, List.set_cons_zero, List.set_cons_succ]
                  refine anyH_take (v := ?_) 14 rfl (by kernel_rfl) (by kernel_rfl) (by kernel_rfl) (fun _ _ _ h => h) rfl ?_ hHeld ?_
                  rotate_left
                  · intro w' hSw
                    go_simp
                    try with_reducible rfl
                  try simp only [Act.put, List.setIfInBounds_toArray, List.set_cons_zero, List.set_cons_succ]
                  refine anyH_take (v := ?_) 15 rfl (by kernel_rfl) (by kernel_rfl) (by kernel_rfl) (fun _ _ _ h => h) rfl ?_ hHeld ?_
                  rotate_left
                  · intro w' hSw
                    go_simp
                    try with_reducible rfl
                  try simp only [Act.put, List.setIfInBounds_toArray, List.set_cons_zero, List.set_cons_succ]
                  refine anyH_take (v := ?_) 16 rfl (by kernel_rfl) (by kernel_rfl) (by kernel_rfl) (fun _ _ _ h => h) rfl ?_ hHeld ?_
                  rotate_left
                  · intro w' hSw
                    go_simp
                    try with_reducible rfl
                  try simp only [Act.put, List.setIfInBounds_toArray, List.set_cons_zero, List.set_cons_succ]
                  refine anyH_take (v := ?_) 17 rfl (by kernel_rfl) (by kernel_rfl) (by kernel_rfl) (fun _ _ _ h => h) rfl ?_ hHeld ?_
                  rotate_left
                  · intro w' hSw
                    go_simp
                    try with_reducible rfl
                  try simp only [Act.put, List.setIfInBounds_toArray, List.set_cons_zero, List.set_cons_succ]
                  refine anyH_take (v := ?_) 18 rfl (by kernel_rfl) (by kernel_rfl) (by kernel_rfl) (fun _ _ _ h => h) rfl ?_ hHeld ?_
                  rotate_left
                  · intro w' hSw
                    go_simp
                    try with_reducible rfl
                  try simp only [Act.put, List.setIfInBounds_toArray, List.set_cons_zero, List.set_cons_succ]
                  refine anyH_take (v := ?_) 19 rfl (by kernel_rfl) (by kernel_rfl) (by kernel_rfl) (fun _ _ _ h => h) rfl ?_ hHeld ?_
                  rotate_left
                  · intro w' hSw
                    go_simp
                    try with_reducible rfl
                  try simp only [Act.put, List.setIfInBounds_toArray, List.set_cons_zero, List.set_cons_succ]
                  refine anyH_take (v := ?_) 20 rfl (by kernel_rfl) (by kernel_rfl) (by kernel_rfl) (fun _ _ _ h => h) rfl ?_ hHeld ?_
                  rotate_left
                  · intro w' hSw
                    go_simp
                    try with_reducible rfl
                  try simp only [Act.put, List.setIfInBounds_toArray, List.set_cons_zero, List.set_cons_succ]
                  refine anyH_take (v := ?_) 21 rfl (by kernel_rfl) (by kernel_rfl) (by kernel_rfl) (fun _ _ _ h => h) rfl ?_ hHeld ?_
                  rotate_left
                  · intro w' hSw
                    go_simp
                    try with_reducible rfl
                  try simp only [Act.put, List.setIfInBounds_toArray, List.set_cons_zero, List.set_cons_succ]
                  refine anyH_take (v := ?_) 22 rfl (by kernel_rfl) (by kernel_rfl) (by kernel_rfl) (fun _ _ _ h => h) rfl ?_ hHeld ?_
                  rotate_left
                  · intro w' hSw
                    go_simp
                    try with_reducible rfl
                  try simp only [Act.put, List.setIfInBounds_toArray, List.set_cons_zero, List.set_cons_succ]
                  refine wpAnyH_ready (rs := [23]) (by kernel_rfl) (by simp) ?_
                  refine ready_cons rfl (fun K hK => ?_) AllReadyH.nil
                  go_simp
                  refine (HS.out _ _ _ (g1.fact 1 rfl).2.2 (g1.fact 2 rfl).2.2).mono ?_
                  rintro (e : Ending) w5 ⟨rfl, nd, rfl⟩
                  have g2 := g1.drewN nd
                  show K _ _
                  refine hK.out _ _ ?_ (fun hHeld => ?_)
                  · exact ⟨g2.box2 3 rfl, g2.box2 0 rfl, (g2.fact 1 rfl).1⟩
                  clear hK K
                  try simp only [Act.put, List.setIfInBounds_toArray, List.set_cons_zero, List.set_cons_succ]
                  refine anyH_take (v := ?_) 24 rfl (by kernel_rfl) (by kernel_rfl) (by kernel_rfl) (fun _ _ _ h => h) rfl ?_ hHeld ?_
                  rotate_left
                  · intro w' hSw
                    go_simp
                    try with_reducible rfl
                  try simp only [Act.put, List.setIfInBounds_toArray, List.set_cons_zero, List.set_cons_succ]
                  refine anyH_take (v := ?_) 25 rfl (by kernel_rfl) (by kernel_rfl) (by kernel_rfl) (fun _ _ _ h => h) rfl ?_ hHeld ?_
                  rotate_left
                  · intro w' hSw
                    go_simp
                    try with_reducible rfl
                  try simp only [Act.put, List.setIfInBounds_toArray, List.set_cons_zero, List.set_cons_succ]
                  refine wpAnyH_done (by kernel_rfl) ?_ _
                  clear hHeld
                  go_wp2
                  go_ret
                  exact ⟨ret_bool HRf.out.symm, g2.below⟩
                | false =>
                  have HRf := Lib.hid (show R = ((List.range' (k + 1) (pl - (k + 1))).all (stpOk n ps) && E) by rw [HRs.out, HSk2.out]; rfl)
                  have HA2 := Lib.hid (show ∀ j, j < k + 1 → stpOk n ps j = true from fun j hj => by
                    by_cases e : j = k
                    · rw [e, HSk2.out]; rfl
                    · exact HA.out j (by omega))
                  go_upto_region 7 with fail
                  refine wp_region_held_drew (S := fun w' => (w'.cell? ⟨w.heap.size, 0, none⟩ = some (.int .i64 n) ∧ w'.cell? ⟨w.heap.size, 1, none⟩ = some (t)) ∧ (w'.cell? ⟨wr.heap.size, 0, none⟩ = some (.slice A9 wl c9) ∧ w'.cell? ⟨wr.heap.size, 1, none⟩ = some (.int .i64 x)) ∧ w'.cell? ⟨b, off + p1 * 2, none⟩ = some (.slice A8 wl8 c8)) (by kernel_rfl) ⟨g0.box2 3 rfl, g0.box2 0 rfl, (g0.fact 1 rfl).1⟩ (fun hHeld => ?_)
                  obtain ⟨v0, hv0, g8⟩ : ∃ v0, v0 = (wr.alloc (.cells #[.slice A9 wl c9, .int .i64 x] 55)).drew ∧ St w v0 _ := ⟨_, rfl, g0⟩
                  rw [← hv0] at g0 hHeld ⊢
                  clear hv0 g8
                  refine anyH_take (v := ?_) 0 rfl (by kernel_rfl) (by kernel_rfl) (by kernel_rfl) (fun _ _ _ h => h) rfl ?_ hHeld ?_
                  rotate_left
                  · intro w' hSw
                    go_simp
                    try with_reducible rfl
                  try simp only [Act.put, List.setIfInBounds_toArray, List.set_cons_zero, List.set_cons_succ]
                  refine anyH_take (v := ?_) 1 rfl (by kernel_rfl) (by kernel_rfl) (by kernel_rfl) (fun _ _ _ h => h) rfl ?_ hHeld ?_
                  rotate_left
                  · intro w' hSw
                    go_simp
                    try with_reducible rfl
                  try simp only [Act.put, List.setIfInBounds_toArray, List.set_cons_zero, List.set_cons_succ]
                  refine anyH_take (v := ?_) 2 rfl (by kernel_rfl) (by kernel_rfl) (by kernel_rfl) (fun _ _ _ h => h) rfl ?_ hHeld ?_
                  rotate_left
                  · intro w' hSw
                    go_simp
                    try with_reducible rfl
                  try simp only [Act.put, List.setIfInBounds_toArray, List.set_cons_zero, List.set_cons_succ]
                  refine wpAnyH_ready (rs := [3]) (by kernel_rfl) (by simp) ?_
                  refine ready_cons rfl (fun K hK => ?_) AllReadyH.nil
                  go_simp
                  refine (HL.out _ _ (g0.fact 2 rfl).2.2).mono ?_
                  rintro (e : Ending) w4 ⟨rfl, hb4⟩
                  have g1 := g0.on hb4
                  show K _ _
                  refine hK.out _ _ ?_ (fun hHeld => ?_)
                  · exact ⟨g1.box2 3 rfl, g1.box2 0 rfl, (g1.fact 1 rfl).1⟩
                  clear hK K
                  try simp only [Act.put, List.setIfInBounds_toArray, List.set_cons_zero, List.set_cons_succ]
                  refine anyH_take (v := ?_) 4 rfl (by kernel_rfl) (by kernel_rfl) (by kernel_rfl) (fun _ _ _ h => h) rfl ?_ hHeld ?_
                  rotate_left
                  · intro w' hSw
                    go_simp
                    try with_reducible rfl
                  try simp only [Act.put, List.setIfInBounds_toArray, List.set_cons_zero, List.set_cons_succ]
                  refine anyH_take (v := ?_) 5 rfl (by kernel_rfl) (by kernel_rfl) (by kernel_rfl) (fun _ _ _ h => h) rfl ?_ hHeld ?_
                  rotate_left
                  · intro w' hSw
                    go_simp
                    try with_reducible rfl
                  try simp only [Act.put, List.setIfInBounds_toArray, List.set_cons_zero, List.set_cons_succ]
                  refine anyH_take (v := ?_) 6 rfl (by kernel_rfl) (by kernel_rfl) (by kernel_rfl) (fun _ _ _ h => h) rfl ?_ hHeld ?_
                  rotate_left
                  · intro w' hSw
                    go_simp
                    try with_reducible rfl
                  try simp only [Act.put, List.setIfInBounds_toArray, List.set_cons_zero, List.set_cons_succ]
                  refine anyH_take (v := ?_) 7 rfl (by kernel_rfl) (by kernel_rfl) (by kernel_rfl) (fun _ _ _ h => h) rfl ?_ hHeld ?_
                  rotate_left
                  · intro w' hSw
                    go_simp
                    try with_reducible rfl
                  try simp only [Act.put, List.setIfInBounds_toArray, List.set_cons_zero, List.set_cons_succ]
                  refine wpAnyH_ready (rs := [8]) (by kernel_rfl) (by simp) ?_
                  refine ready_cons rfl (fun K hK => ?_) AllReadyH.nil
                  go_simp
                  refine (HI.out _).mono ?_
                  rintro (e : Ending) w5 ⟨rfl, rfl⟩
                  show K _ _
                  refine hK.out _ _ ?_ (fun hHeld => ?_)
                  · exact ⟨g1.box2 3 rfl, g1.box2 0 rfl, (g1.fact 1 rfl).1⟩
                  clear hK K
                  try simp only [Act.put, List.setIfInBounds_toArray, List.set_cons_zero, List.set_cons_succ]
                  refine anyH_take (v := ?_) 9 rfl (by kernel_rfl) (by kernel_rfl) (by kernel_rfl) (fun _ _ _ h => h) rfl ?_ hHeld ?_
                  rotate_left
                  · intro w' hSw
                    go_simp
                    try with_reducible rfl
                  try simp only [Act.put, List.setIfInBounds_toArray, List.set_cons_zero, List.set_cons_succ]
                  refine anyH_take (v := ?_) 10 rfl (by kernel_rfl) (by kernel_rfl) (by kernel_rfl) (fun _ _ _ h => h) rfl ?_ hHeld ?_
                  rotate_left
                  · intro w' hSw
                    go_simp
                    try with_reducible rfl
                  try simp only [Act.put, List.setIfInBounds_toArray, List.set_cons_zero, List.set_cons_succ]
                  refine anyH_take (v := ?_) 11 rfl (by kernel_rfl) (by kernel_rfl) (by kernel_rfl) (fun _ _ _ h => h) rfl ?_ hHeld ?_
                  rotate_left
                  · intro w' hSw
                    go_simp
                    try with_reducible rfl
                  try simp only [Act.put, List.setIfInBounds_toArray, List.set_cons_zero, List.set_cons_succ]
                  refine anyH_take (v := ?_) 12 rfl (by kernel_rfl) (by kernel_rfl) (by kernel_rfl) (fun _ _ _ h => h) rfl ?_ hHeld ?_
                  rotate_left
                  · intro w' hSw
                    go_simp
                    try with_reducible rfl
                  try simp only [Act.put, List.setIfInBounds_toArray, List.set_cons_zero, List.set_cons_succ]
                  refine anyH_take (v := ?_) 13 rfl (by kernel_rfl) (by kernel_rfl) (by kernel_rfl) (fun _ _ _ h => h) rfl ?_ hHeld ?_
                  rotate_left
                  · intro w' hSw
                    go_simp
                    try with_reducible rfl
                  try simp only [Act.put, List.setIfInBounds_toArray, List.set_cons_zero, List.set_cons_succ]
                  refine anyH_take (v := ?_) 14 rfl (by kernel_rfl) (by kernel_rfl) (by kernel_rfl) (fun _ _ _ h => h) rfl ?_ hHeld ?_
                  rotate_left
                  · intro w' hSw
                    go_simp
                    try with_reducible rfl
                  try simp only [Act.put, List.setIfInBounds_toArray, List.set_cons_zero, List.set_cons_succ]
                  refine anyH_take (v := ?_) 15 rfl (by kernel_rfl) (by kernel_rfl) (by kernel_rfl) (fun _ _ _ h => h) rfl ?_ hHeld ?_
                  rotate_left
                  · intro w' hSw
                    go_simp
                    try with_reducible rfl
                  try simp only [Act.put, List.setIfInBounds_toArray, List.set_cons_zero, List.set_cons_succ]
                  refine anyH_take (v := ?_) 16 rfl (by kernel_rfl) (by kernel_rfl) (by kernel_rfl) (fun _ _ _ h => h) rfl ?_ hHeld ?_
                  rotate_left
                  · intro w' hSw
                    go_simp
                    try with_reducible rfl
                  try simp only [Act.put, List.setIfInBounds_toArray, List.set_cons_zero, List.set_cons_succ]
                  refine anyH_take (v := ?_) 17 rfl (by kernel_rfl) (by kernel_rfl) (by kernel_rfl) (fun _ _ _ h => h) rfl ?_ hHeld ?_
                  rotate_left
                  · intro w' hSw
                    go_simp
                    try with_reducible rfl
                  try simp only [Act.put, List.setIfInBounds_toArray, List.set_cons_zero, List.set_cons_succ]
                  refine anyH_take (v := ?_) 18 rfl (by kernel_rfl) (by kernel_rfl) (by kernel_rfl) (fun _ _ _ h => h) rfl ?_ hHeld ?_
                  rotate_left
                  · intro w' hSw
                    go_simp
                    try with_reducible rfl
                  try simp only [Act.put, List.setIfInBounds_toArray, List.set_cons_zero, List.set_cons_succ]
                  refine anyH_take (v := ?_) 19 rfl (by kernel_rfl) (by kernel_rfl) (by kernel_rfl) (fun _ _ _ h => h) rfl ?_ hHeld ?_
                  rotate_left
                  · intro w' hSw
                    go_simp
                    try with_reducible rfl
                  try simp only [Act.put, List.setIfInBounds_toArray, List.set_cons_zero, List.set_cons_succ]
                  refine anyH_take (v := ?_) 20 rfl (by kernel_rfl) (by kernel_rfl) (by kernel_rfl) (fun _ _ _ h => h) rfl ?_ hHeld ?_
                  rotate_left
                  · intro w' hSw
                    go_simp
                    try with_reducible rfl
                  try simp only [Act.put, List.setIfInBounds_toArray, List.set_cons_zero, List.set_cons_succ]
                  refine anyH_take (v := ?_) 21 rfl (by kernel_rfl) (by kernel_rfl) (by kernel_rfl) (fun _ _ _ h => h) rfl ?_ hHeld ?_
                  rotate_left
                  · intro w' hSw
                    go_simp
                    try with_reducible rfl
                  try simp only [Act.put, List.setIfInBounds_toArray, List.set_cons_zero, List.set_cons_succ]
                  refine anyH_take (v := ?_) 22 rfl (by kernel_rfl) (by kernel_rfl) (by kernel_rfl) (fun _ _ _ h => h) rfl ?_ hHeld ?_
                  rotate_left
                  · intro w' hSw
                    go_simp
                    try with_reducible rfl
                  try simp only [Act.put, List.setIfInBounds_toArray, List.set_cons_zero, List.set_cons_succ]
                  refine wpAnyH_ready (rs := [23]) (by kernel_rfl) (by simp) ?_
                  refine ready_cons rfl (fun K hK => ?_) AllReadyH.nil
                  go_simp
                  refine (HS.out _ _ _ (g1.fact 1 rfl).2.2 (g1.fact 2 rfl).2.2).mono ?_
                  rintro (e : Ending) w5 ⟨rfl, nd, rfl⟩
                  have g2 := g1.drewN nd
                  show K _ _
                  refine hK.out _ _ ?_ (fun hHeld => ?_)
                  · exact ⟨g2.box2 3 rfl, g2.box2 0 rfl, (g2.fact 1 rfl).1⟩
                  clear hK K
                  try simp only [Act.put, List.setIfInBounds_toArray, List.set_cons_zero, List.set_cons_succ]
                  refine anyH_take (v := ?_) 24 rfl (by kernel_rfl) (by kernel_rfl) (by kernel_rfl) (fun _ _ _ h => h) rfl ?_ hHeld ?_
                  rotate_left
                  · intro w' hSw
                    go_simp
                    try with_reducible rfl
                  try simp only [Act.put, List.setIfInBounds_toArray, List.set_cons_zero, List.set_cons_succ]
                  refine anyH_take (v := ?_) 25 rfl (by kernel_rfl) (by kernel_rfl) (by kernel_rfl) (fun _ _ _ h => h) rfl ?_ hHeld ?_
                  rotate_left
                  · intro w' hSw
                    go_simp
                    try with_reducible rfl
                  try simp only [Act.put, List.setIfInBounds_toArray, List.set_cons_zero, List.set_cons_succ]
                  refine wpAnyH_done (by kernel_rfl) ?_ _
                  clear hHeld
                  clear HSk HSk2 HRs
                  obtain ⟨y0, y1⟩ := g2.box2 0 rfl
                  go_wp2
                  go_roundw
                  case rel => exact ⟨k + 1, by go_num, by omega, by rw [HTs.out], g2.drop 3, HRf, HA2⟩
                  case measure => simp [intOf]; omega
              · have ih0 : ¬ (0 : Int) < (k : Int) := by omega
                have HSk2 := Lib.hid (show stpOk n ps k = true by rw [HSk.out, decide_eq_false h0]; rfl)
                have HRf := Lib.hid (show R = ((List.range' (k + 1) (pl - (k + 1))).all (stpOk n ps) && E) by rw [HRs.out, HSk2.out]; rfl)
                have HA2 := Lib.hid (show ∀ j, j < k + 1 → stpOk n ps j = true from fun j hj => by
                  by_cases e : j = k
                  · rw [e, HSk2.out]
                  · exact HA.out j (by omega))
                go_upto_region 7 with fail
                refine wp_region_held_drew (S := fun w' => (w'.cell? ⟨w.heap.size, 0, none⟩ = some (.int .i64 n) ∧ w'.cell? ⟨w.heap.size, 1, none⟩ = some (t)) ∧ (w'.cell? ⟨wr.heap.size, 0, none⟩ = some (.slice A9 wl c9) ∧ w'.cell? ⟨wr.heap.size, 1, none⟩ = some (.int .i64 x)) ∧ w'.cell? ⟨b, off + p1 * 2, none⟩ = some (.slice A8 wl8 c8)) (by kernel_rfl) ⟨g0.box2 3 rfl, g0.box2 0 rfl, (g0.fact 1 rfl).1⟩ (fun hHeld => ?_)
                obtain ⟨v0, hv0, g8⟩ : ∃ v0, v0 = (wr.alloc (.cells #[.slice A9 wl c9, .int .i64 x] 55)).drew ∧ St w v0 _ := ⟨_, rfl, g0⟩
                rw [← hv0] at g0 hHeld ⊢
                clear hv0 g8
                refine anyH_take (v := ?_) 0 rfl (by kernel_rfl) (by kernel_rfl) (by kernel_rfl) (fun _ _ _ h => h) rfl ?_ hHeld ?_
                rotate_left
                · intro w' hSw
                  go_simp
                  try with_reducible rfl
                try simp only [Act.put, List.setIfInBounds_toArray, List.set_cons_zero, List.set_cons_succ]
                refine anyH_take (v := ?_) 1 rfl (by kernel_rfl) (by kernel_rfl) (by kernel_rfl) (fun _ _ _ h => h) rfl ?_ hHeld ?_
                rotate_left
                · intro w' hSw
                  go_simp
                  try with_reducible rfl
                try simp only [Act.put, List.setIfInBounds_toArray, List.set_cons_zero, List.set_cons_succ]
                refine anyH_take (v := ?_) 2 rfl (by kernel_rfl) (by kernel_rfl) (by kernel_rfl) (fun _ _ _ h => h) rfl ?_ hHeld ?_
                rotate_left
                · intro w' hSw
                  go_simp
                  try with_reducible rfl
                try simp only [Act.put, List.setIfInBounds_toArray, List.set_cons_zero, List.set_cons_succ]
                refine wpAnyH_ready (rs := [3]) (by kernel_rfl) (by simp) ?_
                refine ready_cons rfl (fun K hK => ?_) AllReadyH.nil
                go_simp
                refine (HL.out _ _ (g0.fact 2 rfl).2.2).mono ?_
                rintro (e : Ending) w4 ⟨rfl, hb4⟩
                have g1 := g0.on hb4
                show K _ _
                refine hK.out _ _ ?_ (fun hHeld => ?_)
                · exact ⟨g1.box2 3 rfl, g1.box2 0 rfl, (g1.fact 1 rfl).1⟩
                clear hK K
                try simp only [Act.put, List.setIfInBounds_toArray, List.set_cons_zero, List.set_cons_succ]
                refine anyH_take (v := ?_) 4 rfl (by kernel_rfl) (by kernel_rfl) (by kernel_rfl) (fun _ _ _ h => h) rfl ?_ hHeld ?_
                rotate_left
                · intro w' hSw
                  go_simp
                  try with_reducible rfl
                try simp only [Act.put, List.setIfInBounds_toArray, List.set_cons_zero, List.set_cons_succ]
                refine anyH_take (v := ?_) 5 rfl (by kernel_rfl) (by kernel_rfl) (by kernel_rfl) (fun _ _ _ h => h) rfl ?_ hHeld ?_
                rotate_left
                · intro w' hSw
                  go_simp
                  try with_reducible rfl
                try simp only [Act.put, List.setIfInBounds_toArray, List.set_cons_zero, List.set_cons_succ]
                refine anyH_take (v := ?_) 6 rfl (by kernel_rfl) (by kernel_rfl) (by kernel_rfl) (fun _ _ _ h => h) rfl ?_ hHeld ?_
                rotate_left
                · intro w' hSw
                  go_simp
                  try with_reducible rfl
                try simp only [Act.put, List.setIfInBounds_toArray, List.set_cons_zero, List.set_cons_succ]
                refine anyH_take (v := ?_) 7 rfl (by kernel_rfl) (by kernel_rfl) (by kernel_rfl) (fun _ _ _ h => h) rfl ?_ hHeld ?_
                rotate_left
                · intro w' hSw
                  go_simp
                  try with_reducible rfl
                try simp only [Act.put, List.setIfInBounds_toArray, List.set_cons_zero, List.set_cons_succ]
                refine wpAnyH_ready (rs := [8]) (by kernel_rfl) (by simp) ?_
                refine ready_cons rfl (fun K hK => ?_) AllReadyH.nil
                go_simp
                refine (HI.out _).mono ?_
                rintro (e : Ending) w5 ⟨rfl, rfl⟩
                show K _ _
                refine hK.out _ _ ?_ (fun hHeld => ?_)
                · exact ⟨g1.box2 3 rfl, g1.box2 0 rfl, (g1.fact 1 rfl).1⟩
                clear hK K
                try simp only [Act.put, List.setIfInBounds_toArray, List.set_cons_zero, List.set_cons_succ]
                refine anyH_take (v := ?_) 9 rfl (by kernel_rfl) (by kernel_rfl) (by kernel_rfl) (fun _ _ _ h => h) rfl ?_ hHeld ?_
                rotate_left
                · intro w' hSw
                  go_simp
                  try with_reducible rfl
                try simp only [Act.put, List.setIfInBounds_toArray, List.set_cons_zero, List.set_cons_succ]
                refine anyH_take (v := ?_) 10 rfl (by kernel_rfl) (by kernel_rfl) (by kernel_rfl) (fun _ _ _ h => h) rfl ?_ hHeld ?_
                rotate_left
                · intro w' hSw
                  go_simp
                  try with_reducible rfl
                try simp only [Act.put, List.setIfInBounds_toArray, List.set_cons_zero, List.set_cons_succ]
                refine anyH_take (v := ?_) 11 rfl (by kernel_rfl) (by kernel_rfl) (by kernel_rfl) (fun _ _ _ h => h) rfl ?_ hHeld ?_
                rotate_left
                · intro w' hSw
                  go_simp
                  try with_reducible rfl
                try simp only [Act.put, List.setIfInBounds_toArray, List.set_cons_zero, List.set_cons_succ]
                refine anyH_take (v := ?_) 12 rfl (by kernel_rfl) (by kernel_rfl) (by kernel_rfl) (fun _ _ _ h => h) rfl ?_ hHeld ?_
                rotate_left
                · intro w' hSw
                  go_simp
                  try with_reducible rfl
                try simp only [Act.put, List.setIfInBounds_toArray, List.set_cons_zero, List.set_cons_succ]
                refine anyH_take (v := ?_) 13 rfl (by kernel_rfl) (by kernel_rfl) (by kernel_rfl) (fun _ _ _ h => h) rfl ?_ hHeld ?_
                rotate_left
                · intro w' hSw
                  go_simp
                  try with_reducible rfl
                try simp only [Act.put, List.setIfInBounds_toArray, List.set_cons_zero, List.set_cons_succ]
                refine anyH_take (v := ?_) 14 rfl (by kernel_rfl) (by kernel_rfl) (by kernel_rfl) (fun _ _ _ h => h) rfl ?_ hHeld ?_
                rotate_left
                · intro w' hSw
                  go_simp
                  try with_reducible rfl
                try simp only [Act.put, List.setIfInBounds_toArray, List.set_cons_zero, List.set_cons_succ]
                refine anyH_skip 15 rfl (by kernel_rfl) (by kernel_rfl) (by kernel_rfl) (fun _ _ _ h => h) rfl hHeld ?_
                try simp only [Act.put, List.setIfInBounds_toArray, List.set_cons_zero, List.set_cons_succ]
                refine anyH_skip 16 rfl (by kernel_rfl) (by kernel_rfl) (by kernel_rfl) (fun _ _ _ h => h) rfl hHeld ?_
                try simp only [Act.put, List.setIfInBounds_toArray, List.set_cons_zero, List.set_cons_succ]
                refine anyH_skip 17 rfl (by kernel_rfl) (by kernel_rfl) (by kernel_rfl) (fun _ _ _ h => h) rfl hHeld ?_
                try simp only [Act.put, List.setIfInBounds_toArray, List.set_cons_zero, List.set_cons_succ]
                refine anyH_skip 18 rfl (by kernel_rfl) (by kernel_rfl) (by kernel_rfl) (fun _ _ _ h => h) rfl hHeld ?_
                try simp only [Act.put, List.setIfInBounds_toArray, List.set_cons_zero, List.set_cons_succ]
                refine anyH_skip 19 rfl (by kernel_rfl) (by kernel_rfl) (by kernel_rfl) (fun _ _ _ h => h) rfl hHeld ?_
                try simp only [Act.put, List.setIfInBounds_toArray, List.set_cons_zero, List.set_cons_succ]
                refine anyH_skip 20 rfl (by kernel_rfl) (by kernel_rfl) (by kernel_rfl) (fun _ _ _ h => h) rfl hHeld ?_
                try simp only [Act.put, List.setIfInBounds_toArray, List.set_cons_zero, List.set_cons_succ]
                refine anyH_skip 21 rfl (by kernel_rfl) (by kernel_rfl) (by kernel_rfl) (fun _ _ _ h => h) rfl hHeld ?_
                try simp only [Act.put, List.setIfInBounds_toArray, List.set_cons_zero, List.set_cons_succ]
                refine anyH_skip 22 rfl (by kernel_rfl) (by kernel_rfl) (by kernel_rfl) (fun _ _ _ h => h) rfl hHeld ?_
                try simp only [Act.put, List.setIfInBounds_toArray, List.set_cons_zero, List.set_cons_succ]
                refine anyH_skip 23 rfl (by kernel_rfl) (by kernel_rfl) (by kernel_rfl) (fun _ _ _ h => h) rfl hHeld ?_
                try simp only [Act.put, List.setIfInBounds_toArray, List.set_cons_zero, List.set_cons_succ]
                refine anyH_take (v := ?_) 24 rfl (by kernel_rfl) (by kernel_rfl) (by kernel_rfl) (fun _ _ _ h => h) rfl ?_ hHeld ?_
                rotate_left
                · intro w' hSw
                  go_simp
                  try with_reducible rfl
                try simp only [Act.put, List.setIfInBounds_toArray, List.set_cons_zero, List.set_cons_succ]
                refine anyH_take (v := ?_) 25 rfl (by kernel_rfl) (by kernel_rfl) (by kernel_rfl) (fun _ _ _ h => h) rfl ?_ hHeld ?_
                rotate_left
                · intro w' hSw
                  go_simp
                  try with_reducible rfl
                try simp only [Act.put, List.setIfInBounds_toArray, List.set_cons_zero, List.set_cons_succ]
                refine wpAnyH_done (by kernel_rfl) ?_ _
                clear hHeld
                clear HSk HSk2 HRs
                obtain ⟨y0, y1⟩ := g1.box2 0 rfl
                go_wp2
                go_roundw
                case rel => exact ⟨k + 1, by go_num, by omega, by rw [HTs.out], g1.drop 3, HRf, HA2⟩
                case measure => simp [intOf]; omega
        · obtain rfl : pl = k := by omega
          have HR2 := Lib.hid (show R = E by rw [HR.out, Nat.sub_self]; rfl)
          obtain ⟨T, hT⟩ : ∃ T, T = tm ps pl := ⟨_, rfl⟩
          have HE2 := Lib.hid (show R = (T.tmod 27720 == 0 && decide (T ≤ 83160)) by rw [HR2.out, HE.out, hT])
          rw [← hT] at tb ⊢
          have tb2 : T ≤ 4989600 := by omega
          clear hT HR HR2 HE
          obtain ⟨q, hq⟩ : ∃ q, T.tmod 27720 = q := ⟨_, rfl⟩
          have HE3 := Lib.hid (show R = (q == 0 && decide (T ≤ 83160)) by rw [HE2.out, hq])
          clear HE2
          by_cases hm : q = 0
          · subst hm
            by_cases hle : T ≤ 83160
            · have HRt := Lib.hid (show R = true by rw [HE3.out, decide_eq_true hle]; rfl)
              go_wp2
              go_ret
              exact ⟨ret_bool HRt.out.symm, g.below⟩
            · have HRt := Lib.hid (show R = false by rw [HE3.out, decide_eq_false hle]; rfl)
              go_wp2
              go_ret
              exact ⟨ret_bool HRt.out.symm, g.below⟩
          · have hm2 : (q == 0) = false := by rw [beq_eq_false_iff_ne]; exact hm
            have HRt := Lib.hid (show R = false by rw [HE3.out, hm2]; rfl)
            go_wp2
            go_ret
            exact ⟨ret_bool HRt.out.symm, g.below⟩
    · have h0 : R = false := by rw [hR, decide_eq_false hl]; rfl
      subst h0
      clear hR
      go_enter Tryd.func44, Tryd.ntmps44
      go_wp2_with fail
      refine (HC.out _ (g.roInts 1 rfl) HMx.out).mono ?_
      rintro (e : Ending) w3 ⟨rfl, hb3⟩
      have g3 := g.on hb3
      clear z0 z1
      obtain ⟨z0, z1⟩ := g3.box2 0 rfl
      go_wp2
      go_ret
      exact ⟨rfl, g3.below⟩

end Stp
end Go.Proofs.YtcngijafnnmccaaDoor
