import Derived.Deep.CutRange
import Derived.Test.YtbnefjhljfbecaaGreatDoorW07
import Derived.Test.YtbnefjhljfbecaaGreatDoorW28
namespace Go.Proofs.YtbnefjhljfbecaaGreatDoor
set_option maxRecDepth 100000
open Go.RowKit
theorem spot_int {r c i j N : Nat} (hi : i < r) (hj : j < c) (h : r * c ≤ N) : (i : Int) * c + j = ((i * c + j : Nat) : Int) ∧ 0 ≤ (i : Int) * c ∧ (i : Int) * c ≤ N ∧ i * c + j < r * c := by
 have hb := row_bd (c := c) hi
 have e1 : ((i * c : Nat) : Int) = (i : Int) * c := Int.natCast_mul _ _
 refine ⟨by simp, by omega, by omega, by omega⟩
set_option maxHeartbeats 16000000 in
theorem l1Reduce_any (p : Int) (nr nc : Nat) (t : Value) (D : List Int) (w : World) (ht : Ints w t D) (hD : D.length = nr * nc) (hb : nr * nc ≤ 4194304) (hnr : nr ≤ 4194304) (hnc : nc ≤ 4194304) (hP : isPrime p = true) (rD : resid p D = true) :
    Calls Tryz.prog 102 #[.agg #[.int .i64 p, .int .i64 nr, .int .i64 nc, t]] w fun e w' => ∃ u vp det, e = .returned (.tuple #[.agg #[.int .i64 p, .int .i64 nr, .int .i64 nc, u], vp, .int .i64 det]) ∧
      St w w' [.own vp (pivI (reduceL p nc (rowsM nr nc D)).2), .own u (flat nc (reduceL p nc (rowsM nr nc D)).1)] := by
  obtain ⟨b1, b2⟩ := isPrime_bd hP
  have h1 := (((St.start w).arg ht).box [.int .i64 p, .int .i64 nr, .int .i64 nc, t] 32).box [.int .i64 0, .int .i64 0, .int .i64 0, .slice none 0 0] 32
  simp only [World.size_alloc] at h1
  obtain ⟨A, k0, rfl, _, _, _⟩ := id ht
  have hDl : D.length ≤ 4194304 := by omega
  obtain ⟨R, hR⟩ : ∃ R, R = reduceL p nc (rowsM nr nc D) := ⟨_, rfl⟩
  rw [← hR]
  have HR : Hid (R = redR p (nc - 0) 0 (rowsM nr nc D, [])) := hR
  have Hok : Hid (RedOk p nc nr (rowsM nr nc D, [])) := by
    have := RedOk.start (Wf_rowsM (p := p) (by omega) (r := nr) (c := nc) rD)
    rw [length_rowsM] at this
    exact this
  have HF := Lib.hid (flat_rowsM (r := nr) (C := nc) hD)
  have HD := Lib.hid hD
  have HP := Lib.hid hP
  have hdet : 0 ≤ 1 % p ∧ 1 % p < p := ⟨Int.emod_nonneg _ (by omega), Int.emod_lt_of_pos _ (by omega)⟩
  clear ht hR hD hP rD
  obtain ⟨z0, z1, z2, z3⟩ := h1.box4 1 rfl
  go_enter Tryz.func102, Tryz.ntmps102
  go_wp2_with fail
  refine (l1Copy_any p nr nc _ D _ (h1.roInts 2 rfl) hDl).mono ?_
  rintro (e : Ending) w1 ⟨u, rfl, ho, hb1⟩
  obtain ⟨A5, c5, rfl, _, _, _⟩ := id ho.ints
  replace h1 := ((h1.pushOwn hb1 ho).box [.int .i64 p, .int .i64 nr, .int .i64 nc, .slice A5 D.length c5] 32).empty
  clear ho hb1 z0 z1 z2 z3
  simp only [World.size_alloc] at h1
  obtain ⟨z0, z1, z2, z3⟩ := h1.box4 4 rfl
  go_wp2
  generalize hB5 : w1.heap.size = B5 at h1 ⊢
  clear z0 z1 z2 z3
  go_loopw [6, 7, 8, 9, 10, 11, 12, 13, 14, 15, 16, 17] (fun v6 v7 v8 v9 v10 v11 v12 v13 v14 v15 v16 v17 wr => ∃ (c : Nat) (ls : List (List Int)) (piv : List Nat) (det : Int), v8 = .int .i64 c ∧ v7 = .int .i64 det ∧ 0 ≤ det ∧ det < p ∧ c ≤ nc ∧ Hid (RedOk p nc nr (ls, piv)) ∧ St w wr [.own (v6) (pivI (piv)), .box B5 [.int .i64 p, .int .i64 nr, .int .i64 nc, .slice A5 D.length c5], .own (.slice A5 D.length c5) (flat nc (ls)), .box (w.heap.size + 1) [.int .i64 0, .int .i64 0, .int .i64 0, .slice none 0 0], .box w.heap.size [.int .i64 p, .int .i64 nr, .int .i64 nc, .slice A D.length k0], .ro (.slice A D.length k0) D] ∧ Hid (R = redR p (nc - c) c (ls, piv))) (fun _ _ v8 _ _ _ _ _ _ _ _ _ _ => nc - (intOf v8).toNat)
  case atStart => exact ⟨0, _, [], _, rfl, rfl, hdet.1, hdet.2, by omega, Hok, by rw [HF.out]; exact h1, HR⟩
  case round =>
    clear h1 HR Hok HF hdet
    obtain ⟨c, ls, piv, det, rfl, rfl, d1, d2, a1, Hok, h1, HR⟩ := hrel
    have hpl : piv.length ≤ nr := Hok.out.piv
    obtain ⟨A6, c6, rfl, _, _, _⟩ := id (h1.ownInts 0 rfl)
    rw [length_pivI] at h1 ⊢
    obtain ⟨z0, z1, z2, z3⟩ := h1.box4 1 rfl
    by_cases hc : c < nc
    · by_cases hpn : piv.length < nr
      · have HS := Lib.hid (HR.out.trans (redR_step hc))
        have HLs := Lib.hid Hok.out.len
        have HWf := Lib.hid Hok.out.wf
        have HFl : Hid ((flat nc ls).length = nr * nc) := by show _ = _; rw [length_flat, HLs.out]
        obtain ⟨K, hK⟩ : ∃ K, K = findR ls c (nr - piv.length) piv.length := ⟨_, rfl⟩
        have HK0 := Lib.hid hK
        have HK := Lib.hid hK
        clear hK HR
        go_wp2
        clear z0 z1 z2 z3
        go_loopw [10] (fun v10 wr => ∃ k : Nat, v10 = .int .i64 k ∧ piv.length ≤ k ∧ k ≤ nr ∧ St w wr [.own (.slice A6 piv.length c6) (pivI (piv)), .box B5 [.int .i64 p, .int .i64 nr, .int .i64 nc, .slice A5 D.length c5], .own (.slice A5 D.length c5) (flat nc (ls)), .box (w.heap.size + 1) [.int .i64 0, .int .i64 0, .int .i64 0, .slice none 0 0], .box w.heap.size [.int .i64 p, .int .i64 nr, .int .i64 nc, .slice A D.length k0], .ro (.slice A D.length k0) D] ∧ Hid (K = findR ls c (nr - k) k)) (fun v10 _ => nr - (intOf v10).toNat)
        case atStart => exact ⟨piv.length, rfl, by omega, by omega, h1, HK⟩
        case round =>
          clear h1 HK
          obtain ⟨k, rfl, a2, a3, h1, HK⟩ := hrel
          obtain ⟨z0, z1, z2, z3⟩ := h1.box4 1 rfl
          by_cases hk : k < nr
          · go_wp2_with fail
            refine (l1At_any p nr nc _ (flat nc ls) k c _ (h1.ownInts 2 rfl) HFl.out hb hk hc).mono ?_
            rintro (e : Ending) w2 ⟨rfl, hb1⟩
            rw [vec_flat (by rw [HLs.out]; exact hk) hc]
            replace h1 := h1.on hb1
            clear hb1 z0 z1 z2 z3
            obtain ⟨z0, z1, z2, z3⟩ := h1.box4 1 rfl
            obtain ⟨x, hx⟩ : ∃ x, x = vec (rowOf ls k) c := ⟨_, rfl⟩
            rw [← hx]
            by_cases hz : x = 0
            · have HK' := Lib.hid (HK.out.trans (findR_step hk (hx ▸ hz)))
              have t1 : (x == 0) = true := by simp [hz]
              clear hx hz HK
              go_wp2
              go_roundw
              case rel => exact ⟨k + 1, by go_num, by omega, by omega, h1, HK'⟩
              case measure => simp [intOf]; omega
            · have HK' := Lib.hid (HK.out.trans (findR_here hk (hx ▸ hz)))
              have t1 : (x == 0) = false := by simp [hz]
              have hxr := resid_vec' (HWf.out k (by rw [HLs.out]; exact hk)).2 (by omega : 0 < p) c
              rw [← hx] at hxr
              obtain ⟨l1, hl1⟩ : ∃ l1, l1 = swapR ls k piv.length := ⟨_, rfl⟩
              have hl1m : l1.length = nr := by rw [hl1, length_swapR]; exact HLs.out
              have hW1 : Wf p nc l1 := by rw [hl1]; exact HWf.out.swap (by rw [HLs.out]; exact hk) (by rw [HLs.out]; exact hpn)
              have hx1 : vec (rowOf l1 piv.length) c = x := by rw [hl1, rowOf_swapR (by rw [HLs.out]; exact hk) (by rw [HLs.out]; exact hpn), if_pos rfl, hx]
              obtain ⟨l2, hl2⟩ : ∃ l2, l2 = l1.set piv.length (scaleR p (invE p x) (rowOf l1 piv.length)) := ⟨_, rfl⟩
              have HC := Lib.hid (redCol_hit (p := p) HLs.out hk (HK0.out.symm.trans HK'.out) l1 l2 hl1 (by rw [hx1]; exact hl2))
              have HL1 := Lib.hid hl1m
              have HX1 := Lib.hid hx1
              obtain ⟨ha1, ha2⟩ := hW1 piv.length (by rw [hl1m]; exact hpn)
              have HW2 : Wf p nc l2 := by rw [hl2]; exact hW1.set (by rw [hl1m]; exact hpn) (by rw [length_scaleR]; exact ha1) (resid_scaleR (by omega) _ _)
              have HL2 : l2.length = nr := by rw [hl2, List.length_set]; exact hl1m
              have Ha1 := Lib.hid ha1
              have Ha2 := Lib.hid ha2
              have HW1 := Lib.hid hW1
              replace HW2 := Lib.hid HW2
              replace HL2 := Lib.hid HL2
              replace hl2 := Lib.hid hl2
              have Hl1 := Lib.hid hl1
              have hnp : 0 < nr * nc := Nat.mul_pos (by omega) (by omega)
              obtain ⟨g, rfl, hn9⟩ := h1.ownSome 2 rfl (by rw [HFl.out]; exact hnp)
              clear hn9
              clear hl1 hl1m hx1 ha1 ha2 hW1 hx HK HK' HK0
              go_upto_if 59 with fail
              go_cut [7] from 24 to 219 (fun v7 wx => ∃ det : Int, v7 = .int .i64 det ∧ 0 ≤ det ∧ det < p ∧ wx = w2)
              case first =>
                by_cases hkr : k = piv.length
                · have t2 : ((k : Int) != (piv.length : Int)) = false := by simp [hkr]
                  go_wp2
                  go_meet
                  exact ⟨det, rfl, d1, d2, rfl⟩
                · have t2 : ((k : Int) != (piv.length : Int)) = true := by simp; omega
                  have e1 := Int.emod_nonneg (-det) (b := p) (by omega)
                  have e2 := Int.emod_lt_of_pos (-det) (show 0 < p by omega)
                  go_wp2_with fail
                  refine (l1Mod_any _ p _ (by omega) (by omega) (by omega) (by omega)).mono ?_
                  rintro (e : Ending) w3 ⟨rfl, rfl⟩
                  go_wp2
                  go_meet
                  exact ⟨_, rfl, by omega, by omega, rfl⟩
              case rest =>
              clear d1 d2
              obtain ⟨det, rfl, d1, d2, rfl⟩ := hcut
              clear z0 z1 z2 z3
              go_wp2
              go_loopw [11, 12] (fun v11 v12 wr => ∃ j : Nat, v11 = .int .i64 j ∧ j ≤ nc ∧ St w wr [.own (.slice A6 piv.length c6) (pivI (piv)), .box B5 [.int .i64 p, .int .i64 nr, .int .i64 nc, .slice (some ⟨g, 0, none⟩) D.length c5], .own (.slice (some ⟨g, 0, none⟩) D.length c5) (flat nc (swapTo nc ls k piv.length j)), .box (w.heap.size + 1) [.int .i64 0, .int .i64 0, .int .i64 0, .slice none 0 0], .box w.heap.size [.int .i64 p, .int .i64 nr, .int .i64 nc, .slice A D.length k0], .ro (.slice A D.length k0) D]) (fun v11 _ _ => nc - (intOf v11).toNat)
              case atStart => exact ⟨0, rfl, by omega, by rw [swapTo_zero HWf.out (by rw [HLs.out]; exact hk) (by rw [HLs.out]; exact hpn)]; exact h1⟩
              case round =>
                clear h1
                obtain ⟨j, rfl, a4, h1⟩ := hrel
                by_cases hj : j < nc
                · as_aux_lemma =>
                    obtain ⟨z0, z1, z2, z3⟩ := h1.box4 1 rfl
                    have HST := Lib.hid (swapTo_step (p := p) (by omega) HWf.out (k := k) (r := piv.length) (by rw [HLs.out]; exact hk) (by rw [HLs.out]; exact hpn) hj)
                    obtain ⟨FL, hFL⟩ : ∃ FL, FL = flat nc (swapTo nc ls k piv.length j) := ⟨_, rfl⟩
                    rw [← hFL] at h1 HST
                    have HFL : Hid (FL.length = nr * nc) := by show _ = _; rw [hFL, length_flat, length_swapTo, HLs.out]
                    clear hFL
                    obtain ⟨e1, e2, e3, e4⟩ := spot_int hpn hj hb
                    obtain ⟨e5, e6, e7, e8⟩ := spot_int hk hj hb
                    obtain ⟨qr, hqr⟩ : ∃ q, q = piv.length * nc + j := ⟨_, rfl⟩
                    obtain ⟨qk, hqk⟩ : ∃ q, q = k * nc + j := ⟨_, rfl⟩
                    rw [← hqr] at e1 e4 HST
                    rw [← hqk] at e5 e8 HST
                    have i1 : qr < D.length := by rw [HD.out]; exact e4
                    have i2 : qk < D.length := by rw [HD.out]; exact e8
                    obtain ⟨y0, f0⟩ := h1.ownCell 2 rfl (q := qr) (by rw [HFL.out]; exact e4)
                    obtain ⟨y1, f1⟩ := h1.ownCell 2 rfl (q := qk) (by rw [HFL.out]; exact e8)
                    clear hqr hqk e4 e8
                    have HH := Lib.hid (show _ ∧ _ ∧ _ ∧ _ ∧ _ ∧ _ from ⟨wrap_ok (x := (piv.length : Int) * nc) (by omega) (by omega), wrap_ok (x := (k : Int) * nc) (by omega) (by omega), wrap_ok (x := (qr : Int)) (by omega) (by omega), wrap_ok (x := (qk : Int)) (by omega) (by omega), (show (qr : Int) < (D.length : Nat) by omega), (show (qk : Int) < (D.length : Nat) by omega)⟩)
                    go_wp2
                    refine h1.region_tail 19 (by kernel_rfl) (by kernel_rfl) ?_
                    simp only [List.take_succ_cons, List.take_zero, List.drop_succ_cons, List.drop_zero]
                    clear y0 y1 z0 z1 z2 z3 f0 f1
                    iterate 19
                      apply wpQuiet_op
                      · exact rfl
                      · intro w' hC
                        obtain ⟨z0, z1, z2, z3⟩ := hC.box4 1 rfl
                        have y1 := (hC.ownCell 2 rfl (q := qk) (by rw [HFL.out, ← HD.out]; exact i2)).1
                        obtain ⟨w1, w2, w3, w4, j1, j2⟩ := HH.out
                        unfold Oper.quietAt
                        go_simp
                        first | exact rfl | exact ⟨rfl, rfl⟩
                      go_simp
                    refine wpQuiet_nil (fun wn hC => ?_)
                    obtain ⟨y0, f0⟩ := hC.ownCell 2 rfl (q := qr) (by rw [HFL.out, ← HD.out]; exact i1)
                    have h2 := hC.set 2 rfl qr (vec FL qk)
                    obtain ⟨z0, z1, z2, z3⟩ := h2.box4 1 rfl
                    obtain ⟨y1, f1⟩ := h2.ownCell 2 rfl (q := qk) (by rw [List.length_set, HFL.out, ← HD.out]; exact i2)
                    have h3 := h2.set 2 rfl qk (vec FL qr)
                    clear h1 hC h2
                    go_wp2
                    go_roundw
                    case rel => exact ⟨j + 1, by go_num, by omega, by rw [← HST.out]; exact h3⟩
                    case measure => simp [intOf]; omega
                · obtain rfl : nc = j := by omega
                  rw [swapTo_end HWf.out (by rw [HLs.out]; exact hk) (by rw [HLs.out]; exact hpn), ← Hl1.out] at h1
                  clear a4 HWf HLs Hok HFl Hl1
                  have HFl : Hid ((flat nc l1).length = nr * nc) := by show _ = _; rw [length_flat, HL1.out]
                  obtain ⟨z0, z1, z2, z3⟩ := h1.box4 1 rfl
                  have m1 := mul_range (k := det) (y := x) (p := p) (by omega) (by omega) (by omega) (by omega) (by omega)
                  have q1 := wrap_ok (x := det * x) (by omega) (by omega)
                  have q2 := rem_ok (x := det * x) (p := p) (by omega)
                  have q3 : ¬ p = 0 := by omega
                  have q4 := Int.emod_nonneg (det * x) (b := p) (by omega)
                  have q5 := Int.emod_lt_of_pos (det * x) (show 0 < p by omega)
                  go_wp2
                  go_region_held3 (fun w' => w'.cell? ⟨B5, 0, none⟩ = some (.int .i64 p) ∧ w'.cell? ⟨B5, 1, none⟩ = some (.int .i64 nr) ∧ w'.cell? ⟨B5, 2, none⟩ = some (.int .i64 nc) ∧ w'.cell? ⟨B5, 3, none⟩ = some (.slice (some ⟨g, 0, none⟩) D.length c5)) (first | exact ⟨z0, z1, z2, z3⟩ | exact ⟨x0, x1, x2, x3⟩)
                    (first
                      | (go_at_call 104; refine (l1At_any p nr nc _ (flat nc l1) piv.length c _ ?_ HFl.out hb hpn hc).mono ?_; exact h1.drew.ownInts 2 rfl; rintro (e : Ending) w3 ⟨rfl, hb3⟩; rw [vec_flat (by rw [HL1.out]; exact hpn) hc, HX1.out]; have h2 := h1.drew.on hb3; obtain ⟨x0, x1, x2, x3⟩ := h2.box4 1 rfl))
                  generalize det * x % p = det2 at q4 q5 ⊢
                  clear m1 q1 q2 q3 d1 d2 h1 hb3 z0 z1 z2 z3
                  go_wp2
                  go_region_held3 (fun w' => w'.cell? ⟨B5, 0, none⟩ = some (.int .i64 p) ∧ w'.cell? ⟨B5, 1, none⟩ = some (.int .i64 nr) ∧ w'.cell? ⟨B5, 2, none⟩ = some (.int .i64 nc) ∧ w'.cell? ⟨B5, 3, none⟩ = some (.slice (some ⟨g, 0, none⟩) D.length c5)) (first | exact ⟨x0, x1, x2, x3⟩ | exact ⟨y0, y1, y2, y3⟩ | exact ⟨z0, z1, z2, z3⟩)
                    (first
                      | (go_at_call 104; refine (l1At_any p nr nc _ (flat nc l1) piv.length c _ ?_ HFl.out hb hpn hc).mono ?_; exact h2.drew.ownInts 2 rfl; rintro (e : Ending) w4 ⟨rfl, hb4⟩; rw [vec_flat (by rw [HL1.out]; exact hpn) hc, HX1.out]; have h3 := h2.drew.on hb4; obtain ⟨y0, y1, y2, y3⟩ := h3.box4 1 rfl)
                      | (go_at_call 127; refine (InverseOf_any x p _ HP.out (by omega) (by omega)).mono ?_; rintro (e : Ending) w5 ⟨rfl, hw5⟩; have h4 := hw5 ▸ h3; obtain ⟨z0, z1, z2, z3⟩ := h4.box4 1 rfl))
                  clear h2 h3 hw5 hb4 x0 x1 x2 x3 y0 y1 y2 y3 z0 z1 z2 z3
                  have h1 := h4
                  clear h4
                  obtain ⟨ki, hki⟩ : ∃ ki, ki = invE p x := ⟨_, rfl⟩
                  have hkr := invE_range x b1
                  rw [← hki] at hkr ⊢
                  have Hk := Lib.hid hki
                  clear hki
                  go_wp2
                  go_loopw [14] (fun v14 wr => ∃ j : Nat, v14 = .int .i64 j ∧ j ≤ nc ∧ St w wr [.own (.slice A6 piv.length c6) (pivI (piv)), .box B5 [.int .i64 p, .int .i64 nr, .int .i64 nc, .slice (some ⟨g, 0, none⟩) D.length c5], .own (.slice (some ⟨g, 0, none⟩) D.length c5) (flat nc (l1.set piv.length (scaleTo p ki (rowOf l1 piv.length) j))), .box (w.heap.size + 1) [.int .i64 0, .int .i64 0, .int .i64 0, .slice none 0 0], .box w.heap.size [.int .i64 p, .int .i64 nr, .int .i64 nc, .slice A D.length k0], .ro (.slice A D.length k0) D]) (fun v14 _ => nc - (intOf v14).toNat)
                  case atStart => exact ⟨0, rfl, by omega, by rw [scaleTo_zero, set_rowOf (by rw [HL1.out]; exact hpn)]; exact h1⟩
                  case round =>
                    clear h1
                    obtain ⟨j, rfl, a4, h1⟩ := hrel
                    obtain ⟨z0, z1, z2, z3⟩ := h1.box4 1 rfl
                    by_cases hj : j < nc
                    · as_aux_lemma =>
                        obtain ⟨y, hy⟩ : ∃ y, y = vec (rowOf l1 piv.length) j := ⟨_, rfl⟩
                        obtain ⟨FL, hFL⟩ : ∃ FL, FL = flat nc (l1.set piv.length (scaleTo p ki (rowOf l1 piv.length) j)) := ⟨_, rfl⟩
                        have hRj : (rowOf (l1.set piv.length (scaleTo p ki (rowOf l1 piv.length) j)) piv.length).length = nc := by rw [rowOf_set (by rw [HL1.out]; exact hpn), if_pos rfl, length_scaleTo _ _ _ _ (by rw [Ha1.out]; exact a4)]; exact Ha1.out
                        have hLj : (l1.set piv.length (scaleTo p ki (rowOf l1 piv.length) j)).length = nr := by rw [List.length_set]; exact HL1.out
                        have HST : Hid (FL.set (piv.length * nc + j) (y * ki % p) = flat nc (l1.set piv.length (scaleTo p ki (rowOf l1 piv.length) (j + 1)))) := by
                          show _ = _
                          rw [hFL, flat_set _ (by rw [hLj]; exact hpn) hj hRj, hy, scale_rows_step (by rw [HL1.out]; exact hpn) Ha1.out hj]
                        have HY : Hid (vec FL (piv.length * nc + j) = y) := by
                          show _ = _
                          rw [hFL, vec_flat (by rw [hLj]; exact hpn) hj, rowOf_set (by rw [HL1.out]; exact hpn), if_pos rfl, vec_scaleTo (by rw [Ha1.out]; exact a4) (by rw [Ha1.out]; exact hj), if_neg (by omega), hy]
                        have HFL : Hid (FL.length = nr * nc) := by show _ = _; rw [hFL, length_flat, hLj]
                        rw [← hFL] at h1
                        have hyr := resid_vec Ha2.out (i := j) (by rw [Ha1.out]; exact hj)
                        rw [← hy] at hyr
                        clear hFL hRj hLj hy
                        have m1 := mul_range (k := y) (y := ki) (p := p) (by omega) (by omega) (by omega) (by omega) (by omega)
                        obtain ⟨e1, e2, e3, e4⟩ := spot_int hpn hj hb
                        obtain ⟨qr, hqr⟩ : ∃ q, q = piv.length * nc + j := ⟨_, rfl⟩
                        rw [← hqr] at e1 e4 HST HY
                        have i1 : qr < D.length := by rw [HD.out]; exact e4
                        have HH := Lib.hid (show _ ∧ _ ∧ _ ∧ _ ∧ _ ∧ _ from ⟨wrap_ok (x := (piv.length : Int) * nc) (by omega) (by omega), wrap_ok (x := (qr : Int)) (by omega) (by omega), wrap_ok (x := y * ki) (by omega) (by omega), rem_ok (x := y * ki) (p := p) (by omega), (show ¬ p = 0 by omega), (show (qr : Int) < (D.length : Nat) by omega)⟩)
                        clear hqr e4
                        go_wp2
                        refine h1.region_tail 24 (by kernel_rfl) (by kernel_rfl) ?_
                        simp only [List.take_succ_cons, List.take_zero, List.drop_succ_cons, List.drop_zero]
                        clear z0 z1 z2 z3
                        iterate 24
                          apply wpQuiet_op
                          · exact rfl
                          · intro w' hC
                            obtain ⟨z0, z1, z2, z3⟩ := hC.box4 1 rfl
                            have y1 := (hC.ownCell 2 rfl (q := qr) (by rw [HFL.out, ← HD.out]; exact i1)).1
                            rw [HY.out] at y1
                            obtain ⟨w1, w3, q1, q2, q3, j1⟩ := HH.out
                            unfold Oper.quietAt
                            go_simp
                            first | exact rfl | exact ⟨rfl, rfl⟩
                          go_simp
                        refine wpQuiet_nil (fun wn hC => ?_)
                        obtain ⟨y0, f0⟩ := hC.ownCell 2 rfl (q := qr) (by rw [HFL.out, ← HD.out]; exact i1)
                        have h3 := hC.set 2 rfl qr (y * ki % p)
                        clear h1 hC
                        go_wp2
                        go_roundw
                        case rel => exact ⟨j + 1, by go_num, by omega, by rw [← HST.out]; exact h3⟩
                        case measure => simp [intOf]; omega
                    · obtain rfl : nc = j := by omega
                      have hse := scaleTo_end p ki (rowOf l1 piv.length)
                      rw [Ha1.out] at hse
                      rw [hse, Hk.out, ← hl2.out] at h1
                      clear hse a4 HFl
                      go_wp2
                      clear z0 z1 z2 z3
                      go_loopw [15, 16, 17] (fun v15 v16 v17 wr => ∃ i : Nat, v15 = .int .i64 i ∧ i ≤ nr ∧ St w wr [.own (.slice A6 piv.length c6) (pivI (piv)), .box B5 [.int .i64 p, .int .i64 nr, .int .i64 nc, .slice (some ⟨g, 0, none⟩) D.length c5], .own (.slice (some ⟨g, 0, none⟩) D.length c5) (flat nc (elimTo p c piv.length l2 i)), .box (w.heap.size + 1) [.int .i64 0, .int .i64 0, .int .i64 0, .slice none 0 0], .box w.heap.size [.int .i64 p, .int .i64 nr, .int .i64 nc, .slice A D.length k0], .ro (.slice A D.length k0) D]) (fun v15 _ _ _ => nr - (intOf v15).toNat)
                      case atStart => exact ⟨0, rfl, by omega, by rw [elimTo_zero]; exact h1⟩
                      case round =>
                        clear h1
                        obtain ⟨i, rfl, a4, h1⟩ := hrel
                        obtain ⟨z0, z1, z2, z3⟩ := h1.box4 1 rfl
                        by_cases hi : i < nr
                        · have HFl : Hid ((flat nc (elimTo p c piv.length l2 i)).length = nr * nc) := by show _ = _; rw [length_flat, length_elimTo, HL2.out]
                          go_wp2_with fail
                          refine (l1At_any p nr nc _ (flat nc (elimTo p c piv.length l2 i)) i c _ (h1.ownInts 2 rfl) HFl.out hb hi hc).mono ?_
                          rintro (e : Ending) w6 ⟨rfl, hb6⟩
                          rw [vec_flat (by rw [length_elimTo, HL2.out]; exact hi) hc, elim_here (by rw [HL2.out]; exact hi)]
                          replace h1 := h1.on hb6
                          obtain ⟨f, hf⟩ : ∃ f, f = vec (rowOf l2 i) c := ⟨_, rfl⟩
                          have hfr := resid_vec' (HW2.out i (by rw [HL2.out]; exact hi)).2 (by omega : 0 < p) c
                          rw [← hf] at hfr ⊢
                          clear hb6 z0 z1 z2 z3 HFl
                          obtain ⟨z0, z1, z2, z3⟩ := h1.box4 1 rfl
                          by_cases hgo : i ≠ piv.length ∧ f ≠ 0
                          · obtain ⟨hia, hf0⟩ := hgo
                            have t2 : ((i : Int) != (piv.length : Int)) = true := by simp; omega
                            have t3 : (f != 0) = true := by simp [hf0]
                            have HE0 := Lib.hid (elimAt_zero (p := p) (c := c) (a := piv.length) HW2.out (i := i) (by rw [HL2.out]; exact hi))
                            have HEz := Lib.hid (elimAt_end (p := p) (by omega) (c := c) (a := piv.length) HW2.out (by rw [HL2.out]; exact hpn) (i := i) (by rw [HL2.out]; exact hi))
                            have Hf := Lib.hid hf
                            clear hf
                            go_wp2
                            clear z0 z1 z2 z3
                            go_loopw [17] (fun v17 wr => ∃ j : Nat, v17 = .int .i64 j ∧ j ≤ nc ∧ St w wr [.own (.slice A6 piv.length c6) (pivI (piv)), .box B5 [.int .i64 p, .int .i64 nr, .int .i64 nc, .slice (some ⟨g, 0, none⟩) D.length c5], .own (.slice (some ⟨g, 0, none⟩) D.length c5) (flat nc (elimAt p nc c piv.length l2 i j)), .box (w.heap.size + 1) [.int .i64 0, .int .i64 0, .int .i64 0, .slice none 0 0], .box w.heap.size [.int .i64 p, .int .i64 nr, .int .i64 nc, .slice A D.length k0], .ro (.slice A D.length k0) D]) (fun v17 _ => nc - (intOf v17).toNat)
                            case atStart => exact ⟨0, rfl, by omega, by rw [HE0.out]; exact h1⟩
                            case round =>
                              clear h1
                              obtain ⟨j, rfl, a5, h1⟩ := hrel
                              obtain ⟨z0, z1, z2, z3⟩ := h1.box4 1 rfl
                              by_cases hj : j < nc
                              · as_aux_lemma =>
                                  have hst := elimAt_step (p := p) (by omega) HW2.out (a := piv.length) (c := c) (i := i) (by rw [HL2.out]; exact hpn) (by rw [HL2.out]; exact hi) hj hia (by rw [← Hf.out]; exact hf0)
                                  rw [← Hf.out] at hst
                                  obtain ⟨FL, hFL⟩ : ∃ FL, FL = flat nc (elimAt p nc c piv.length l2 i j) := ⟨_, rfl⟩
                                  rw [← hFL] at h1 hst
                                  have HFL : Hid (FL.length = nr * nc) := by show _ = _; rw [hFL, length_flat, length_elimAt, HL2.out]
                                  have hrF : resid p FL = true := by
                                    rw [hFL]
                                    refine resid_flat (by omega) ?_
                                    rw [elimAt]
                                    exact (HW2.out.elimTo (by omega) (by rw [HL2.out]; exact hpn) i).set (by rw [length_elimTo, HL2.out]; exact hi) (length_mixTo _ _ _ _) (resid_mixTo (by omega) (HW2.out i (by rw [HL2.out]; exact hi)).2 (elimRow_wf (by omega) HW2.out (by rw [HL2.out]; exact hpn) (by rw [HL2.out]; exact hi)).2 j)
                                  clear hFL
                                  obtain ⟨e1, e2, e3, e4⟩ := spot_int hpn hj hb
                                  obtain ⟨e5, e6, e7, e8⟩ := spot_int hi hj hb
                                  obtain ⟨qr, hqr⟩ : ∃ q, q = piv.length * nc + j := ⟨_, rfl⟩
                                  obtain ⟨qi, hqi⟩ : ∃ q, q = i * nc + j := ⟨_, rfl⟩
                                  rw [← hqr] at e1 e4 hst
                                  rw [← hqi] at e5 e8 hst
                                  have i1 : qr < D.length := by rw [HD.out]; exact e4
                                  have i2 : qi < D.length := by rw [HD.out]; exact e8
                                  obtain ⟨y, hy⟩ : ∃ y, y = vec FL qr := ⟨_, rfl⟩
                                  obtain ⟨v, hv⟩ : ∃ v, v = vec FL qi := ⟨_, rfl⟩
                                  rw [← hy, ← hv] at hst
                                  have hyr := resid_vec' hrF (by omega : 0 < p) qr
                                  have hvr := resid_vec' hrF (by omega : 0 < p) qi
                                  rw [← hy] at hyr
                                  rw [← hv] at hvr
                                  have HST := Lib.hid hst
                                  have HY := Lib.hid hy.symm
                                  have HV := Lib.hid hv.symm
                                  clear hst hy hv hrF
                                  have m1 := mul_range (k := f) (y := y) (p := p) (by omega) (by omega) (by omega) (by omega) (by omega)
                                  have HH := Lib.hid (show _ ∧ _ ∧ _ ∧ _ ∧ _ ∧ _ ∧ _ ∧ _ from ⟨wrap_ok (x := f * y) (by omega) (by omega), wrap_ok (x := v - f * y) (by omega) (by omega), wrap_ok (x := (piv.length : Int) * nc) (by omega) (by omega), wrap_ok (x := (i : Int) * nc) (by omega) (by omega), wrap_ok (x := (qr : Int)) (by omega) (by omega), wrap_ok (x := (qi : Int)) (by omega) (by omega), (show (qr : Int) < (D.length : Nat) by omega), (show (qi : Int) < (D.length : Nat) by omega)⟩)
                                  clear hqr hqi e4 e8
                                  have HM := Lib.hid (fun w' => l1Mod_any (v - f * y) p w' (by omega) (by omega) (by omega) (by omega))
                                  go_wp2
                                  refine h1.region_tail 35 (by kernel_rfl) (by kernel_rfl) ?_
                                  simp only [List.take_succ_cons, List.take_zero, List.drop_succ_cons, List.drop_zero]
                                  clear z0 z1 z2 z3
                                  iterate 35
                                    apply wpQuiet_op
                                    · exact rfl
                                    · intro w' hC
                                      obtain ⟨z0, z1, z2, z3⟩ := hC.box4 1 rfl
                                      have y1 := (hC.ownCell 2 rfl (q := qr) (by rw [HFL.out, ← HD.out]; exact i1)).1
                                      have y2 := (hC.ownCell 2 rfl (q := qi) (by rw [HFL.out, ← HD.out]; exact i2)).1
                                      rw [HY.out] at y1
                                      rw [HV.out] at y2
                                      obtain ⟨q1, q2, w1, w2, w3, w4, j1, j2⟩ := HH.out
                                      unfold Oper.quietAt
                                      go_simp
                                      first | exact rfl | exact ⟨rfl, rfl⟩ | exact (HM.out _).mono fun e w'' hh => ⟨hh.1, hh.2 ▸ hC⟩
                                    go_simp
                                  refine wpQuiet_nil (fun wn hC => ?_)
                                  obtain ⟨y0, f0⟩ := hC.ownCell 2 rfl (q := qi) (by rw [HFL.out, ← HD.out]; exact i2)
                                  have h3 := hC.set 2 rfl qi ((v - f * y) % p)
                                  clear h1 hC
                                  go_wp2
                                  go_roundw
                                  case rel => exact ⟨j + 1, by go_num, by omega, by rw [← HST.out]; exact h3⟩
                                  case measure => simp [intOf]; omega
                              · obtain rfl : nc = j := by omega
                                rw [HEz.out] at h1
                                go_wp2
                                go_roundw
                                case rel => exact ⟨i + 1, by go_num, by omega, h1⟩
                                case measure => simp [intOf]; omega
                          · have HE := Lib.hid (elimTo_keep (p := p) (c := c) (a := piv.length) (rows := l2) (k := i) (by rw [HL2.out]; exact hi) (by
                              rw [elimRow, if_pos]
                              by_cases hia : i = piv.length
                              · exact .inl hia
                              · right
                                rw [← hf]
                                by_cases hf0 : f = 0
                                · exact hf0
                                · exact absurd ⟨hia, hf0⟩ hgo))
                            rw [← HE.out] at h1
                            clear HE hf
                            go_wp2
                            go_loopw [17] (fun v17 wr => v17 = .int .i64 0 ∧ wr = w6) (fun _ _ => 0)
                            case atStart => exact ⟨rfl, rfl⟩
                            case round =>
                              obtain ⟨rfl, rfl⟩ := hrel
                              by_cases hia : i = piv.length
                              · have t2 : ((i : Int) != (piv.length : Int)) = false := by simp [hia]
                                clear hia hgo
                                go_wp2
                                go_roundw
                                case rel => exact ⟨i + 1, by go_num, by omega, h1⟩
                                case measure => simp [intOf]; omega
                              · have t2 : ((i : Int) != (piv.length : Int)) = true := by simp; omega
                                have hf0 : f = 0 := Classical.byContradiction fun h => hgo ⟨hia, h⟩
                                have t3 : (f != 0) = false := by simp [hf0]
                                clear hf0 hgo
                                go_wp2
                                go_roundw
                                case rel => exact ⟨i + 1, by go_num, by omega, h1⟩
                                case measure => simp [intOf]; omega
                        · obtain rfl : nr = i := by omega
                          have HS' := Lib.hid (HS.out.trans (by rw [HC.out]))
                          have hpk : (pivI piv).length + 1 ≤ 17592186044416 := by rw [length_pivI]; omega
                          have HOk : Hid (RedOk p nc nr (elimTo p c piv.length l2 nr, piv ++ [c])) := by
                            show RedOk _ _ _ _
                            exact ⟨HW2.out.elimTo (by omega) (by rw [HL2.out]; exact hpn) nr, by rw [length_elimTo]; exact HL2.out, by simp; omega⟩
                          go_wp2_with (at_builtin; refine wp_append_ints rfl (.tmp 216) (.tmp 218) rfl w.heap.size _ _ (pivI piv) [(c : Int)] rfl rfl ((h1.alloc' _).own 0 rfl) Ints.one hpk (h1.alloc' _).size ?_; intro v1 w7 ho1 hg1 hb1; have h3 := (h1.alloc' _).appended 0 rfl ho1 hg1 hb1)
                          go_roundw
                          case rel => exact ⟨c + 1, _, _, det2, by go_num, rfl, q4, q5, by omega, HOk, by rw [pivI_snoc]; exact h3, HS'⟩
                          case measure => simp [intOf]; omega
          · obtain rfl : k = nr := by omega
            have hK2 : K = k := by rw [HK.out, Nat.sub_self, findR]
            have HS' := Lib.hid (HS.out.trans (by rw [redCol_no (s := (ls, piv)) (by show findR ls c (ls.length - piv.length) piv.length = ls.length; rw [HLs.out, ← HK0.out]; exact hK2)]))
            clear HK HK0 hK2
            go_wp2
            go_roundw
            case rel => exact ⟨c + 1, ls, piv, det, by go_num, rfl, d1, d2, by omega, Hok, h1, HS'⟩
            case measure => simp [intOf]; omega
      · have HE : Hid (R = (ls, piv)) := by
          have := HR.out
          rw [redR_full _ _ _ (by show ls.length ≤ piv.length; rw [Hok.out.len]; omega)] at this
          exact this
        have f0 := h1.free 3 rfl 0
        have f1 := h1.free 3 rfl 1
        have f2 := h1.free 3 rfl 2
        have f3 := h1.free 3 rfl 3
        obtain ⟨y0, y1, y2, y3⟩ := h1.box4 3 rfl
        have h2 := (((h1.setBox 3 rfl 0 (.int .i64 p)).setBox 3 rfl 1 (.int .i64 nr)).setBox 3 rfl 2 (.int .i64 nc)).setBox 3 rfl 3 (.slice A5 D.length c5)
        obtain ⟨r0, r1, r2, r3⟩ := h2.box4 3 rfl
        go_wp2
        refine bodyPost_ret (v := .tuple #[.agg #[.int .i64 p, .int .i64 nr, .int .i64 nc, .slice A5 D.length c5], .slice A6 piv.length c6, .int .i64 det]) (by simp [results, Tryz.results102, go_sem, r0, r1, r2, r3]) rfl ⟨_, _, _, rfl, ?_⟩
        rw [HE.out]
        exact h2.re [0, 2] (by decide) (fun j => by match j with | 0 => rfl | 1 => rfl | j + 2 => rfl)
    · obtain rfl : nc = c := by omega
      have HE : Hid (R = (ls, piv)) := by have := HR.out; rw [Nat.sub_self, redR] at this; exact this
      have f0 := h1.free 3 rfl 0
      have f1 := h1.free 3 rfl 1
      have f2 := h1.free 3 rfl 2
      have f3 := h1.free 3 rfl 3
      obtain ⟨y0, y1, y2, y3⟩ := h1.box4 3 rfl
      have h2 := (((h1.setBox 3 rfl 0 (.int .i64 p)).setBox 3 rfl 1 (.int .i64 nr)).setBox 3 rfl 2 (.int .i64 nc)).setBox 3 rfl 3 (.slice A5 D.length c5)
      obtain ⟨r0, r1, r2, r3⟩ := h2.box4 3 rfl
      go_wp2
      refine bodyPost_ret (v := .tuple #[.agg #[.int .i64 p, .int .i64 nr, .int .i64 nc, .slice A5 D.length c5], .slice A6 piv.length c6, .int .i64 det]) (by simp [results, Tryz.results102, go_sem, r0, r1, r2, r3]) rfl ⟨_, _, _, rfl, ?_⟩
      rw [HE.out]
      exact h2.re [0, 2] (by decide) (fun j => by match j with | 0 => rfl | 1 => rfl | j + 2 => rfl)
end Go.Proofs.YtbnefjhljfbecaaGreatDoor
