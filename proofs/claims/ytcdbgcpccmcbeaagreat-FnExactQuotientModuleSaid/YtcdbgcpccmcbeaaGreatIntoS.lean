/- The elements whose brackets lie in a space, in the reference: l2Free, l2Modulo, l2None, l2Into. -/
import Derived.Test.YtcdbgcpccmcbeaaGreatKerS
namespace Go.Proofs.YtcdbgcpccmcbeaaGreat
set_option maxRecDepth 100000
open Go.RowKit

set_option maxHeartbeats 1000000 in
theorem l2Free_any (p : Int) (n : Nat) (S : List (List Int)) (piv : List Nat) (t : Value) (w : World) (ht : Ints w t (flat n S)) (hS : Rf p n S piv) (hr : S.length ≤ 40) (hn : n ≤ 40) (hP : isPrime p = true) :
    Calls Tryz.prog 27 #[.agg #[.int .i64 p, .int .i64 S.length, .int .i64 n, t]] w (RetOwn w (pivI (freeTo piv n))) := by
  obtain ⟨b1, b2⟩ := isPrime_bd hP
  have h1 := ((St.start1 ht).box [.int .i64 p, .int .i64 S.length, .int .i64 n, t] 37)
  obtain ⟨A, k0, rfl, _, _, _⟩ := id ht
  have hb := mul_le hr hn
  have hDl := length_flat n S
  have hRd := fun (W : World) (v : Value) (x1 : Ints W v (flat n S)) => l1Reduce_any p S.length n v (flat n S) W x1 hDl (by omega) (by omega) (by omega) hP (resid_flat (by omega) hS.wf)
  rw [rowsM_flat hS.wf, show (reduceL p n S).2 = piv from (spanL_self hP hS).2] at hRd
  obtain ⟨Rd, hRd'⟩ : ∃ Rd, Rd = (reduceL p n S).1 := ⟨_, rfl⟩
  rw [← hRd'] at hRd
  obtain ⟨r, er⟩ : ∃ r, r = S.length := ⟨_, rfl⟩
  obtain ⟨D, hD⟩ : ∃ D, D = flat n S := ⟨_, rfl⟩
  rw [← hD, ← er] at hRd h1
  rw [← hD, ← er]
  have HRd := Lib.hid hRd
  have hpl : piv.length ≤ 40 := by rw [← hS.len]; exact hr
  clear ht hDl hRd hRd' er hD hS hr hb
  obtain ⟨z0, z1, z2, z3⟩ := h1.box4 0 rfl
  go_enter Tryz.func27, Tryz.ntmps27
  go_wp2_with fail
  refine (HRd.out _ _ (h1.roInts 1 rfl)).mono ?_
  rintro (e : Ending) w2 ⟨u, vp, det, rfl, h2⟩
  replace h1 := h1.pushTwo h2
  clear h2 z0 z1 z2 z3
  obtain ⟨A6, c6, rfl, _, _, _⟩ := id (h1.ownInts 0 rfl)
  obtain ⟨A7, c7, rfl, _, _, _⟩ := id (h1.ownInts 1 rfl)
  rw [length_pivI] at h1 ⊢
  have h3 := (h1.box [.int .i64 p, .int .i64 r, .int .i64 n, .slice A7 (flat n Rd).length c7] 37).empty
  simp only [World.size_alloc] at h3
  clear h1
  go_wp2
  try simp only [World.size_alloc]
  generalize hBr : w2.heap.size = Br at h3 ⊢
  clear hBr
  go_loopw [6, 7] (fun v6 v7 wr => ∃ c : Nat, v7 = .int .i64 c ∧ c ≤ n ∧ St w wr [.own v6 (pivI (freeTo piv c)), .box Br [.int .i64 p, .int .i64 r, .int .i64 n, .slice A7 (flat n Rd).length c7], .own (.slice A6 piv.length c6) (pivI piv), .own (.slice A7 (flat n Rd).length c7) (flat n Rd), .box w.heap.size [.int .i64 p, .int .i64 r, .int .i64 n, .slice A D.length k0], .ro (.slice A D.length k0) D]) (fun _ v7 _ => n - (intOf v7).toNat)
  case atStart => exact ⟨0, rfl, by omega, h3⟩
  case round =>
    clear h3
    obtain ⟨c, rfl, a1, h3⟩ := hrel
    obtain ⟨x0, x1, x2, x3⟩ := h3.box4 4 rfl
    by_cases hc : c < n
    · obtain ⟨Z, hZ⟩ : ∃ Z, Z = idx (fun y => y == (c : Int)) (pivI piv) 0 := ⟨_, rfl⟩
      have hZb := find_piv piv c
      rw [← hZ] at hZb
      have HZ := Lib.hid hZ
      have HZb := Lib.hid hZb
      clear hZ hZb
      go_wp2_with fail
      refine (l1Find_any _ (pivI piv) c _ (h3.ownInts 2 rfl)).mono ?_
      rintro (e : Ending) w3 ⟨rfl, rfl⟩
      rw [← HZ.out]
      by_cases hm : c ∈ piv
      · have hz : ¬ (Z < 0) := by have := HZb.out; rw [decide_eq_true hm] at this; simpa using this
        have HN := Lib.hid (freeTo_no hm)
        clear hm
        go_wp2
        go_roundw
        case rel => exact ⟨c + 1, by go_num, by omega, by rw [HN.out]; exact h3⟩
        case measure => simp [intOf]; omega
      · have hz : Z < 0 := by have := HZb.out; rw [decide_eq_false hm] at this; simpa using this
        have HN := Lib.hid (freeTo_yes hm)
        have Hl1 := Lib.hid (show (pivI (freeTo piv c)).length + 1 ≤ 17592186044416 by have := length_freeTo piv c; rw [length_pivI]; omega)
        clear hm
        go_wp2_with (at_builtin; refine wp_append_ints rfl (.tmp 25) (.tmp 27) rfl w.heap.size _ _ (pivI (freeTo piv c)) [((c : Nat) : Int)] rfl rfl ((h3.alloc' _).own 0 rfl) Ints.one Hl1.out (h3.alloc' _).size ?_; intro v1 w7 ho1 hg1 hb1; have h4 := (h3.alloc' _).appended 0 rfl ho1 hg1 hb1)
        go_roundw
        case rel => exact ⟨c + 1, by go_num, by omega, by rw [HN.out, pivI_snoc]; exact h4⟩
        case measure => simp [intOf]; omega
    · obtain rfl : c = n := by omega
      go_wp2
      go_ret
      exact ⟨_, rfl, h3.own 0 rfl, h3.below⟩

set_option maxHeartbeats 1000000 in
theorem l2Modulo_any (p : Int) (n : Nat) (S : List (List Int)) (piv : List Nat) (t v : Value) (X : List Int) (w : World) (ht : Ints w t (flat n S)) (hv : Ints w v X) (hS : Rf p n S piv) (hX : X.length = n) (rX : resid p X = true) (hn : n ≤ 40) (hP : isPrime p = true) :
    Calls Tryz.prog 29 #[.agg #[.int .i64 p, .int .i64 S.length, .int .i64 n, t], v] w (RetOwn w (redV p S piv X)) := by
  obtain ⟨b1, b2⟩ := isPrime_bd hP
  have h1 := (((St.start w).arg ht).arg hv).box [.int .i64 p, .int .i64 S.length, .int .i64 n, t] 37
  obtain ⟨A, k0, rfl, _, _, _⟩ := id ht
  obtain ⟨A2, k2, rfl, _, _, _⟩ := id hv
  have hrn := rf_le_n b1 hS
  have hb := mul_le (Nat.le_trans hrn hn) hn
  have hDl := length_flat n S
  have hRd := fun (W : World) (v : Value) (x1 : Ints W v (flat n S)) => l1Reduce_any p S.length n v (flat n S) W x1 hDl (by omega) (by omega) (by omega) hP (resid_flat (by omega) hS.wf)
  rw [rowsM_flat hS.wf, show (reduceL p n S).2 = piv from (spanL_self hP hS).2] at hRd
  obtain ⟨Rd, hRd'⟩ : ∃ Rd, Rd = (reduceL p n S).1 := ⟨_, rfl⟩
  rw [← hRd'] at hRd
  have hrp := hS.len
  have hOk := fun k hk => redTo_ok b1 hS hX rX k hk
  have hmv : ∀ i j, i < S.length → j < n → vec (flat n S) (i * n + j) = vec (rowOf S i) j := fun i j hi hj => vec_flat hi hj
  have hsw := hS.wf
  have hslt := hS.lt
  obtain ⟨r, er⟩ : ∃ r, r = S.length := ⟨_, rfl⟩
  obtain ⟨D, hD⟩ : ∃ D, D = flat n S := ⟨_, rfl⟩
  rw [← hD, ← er] at hRd h1 hmv hDl
  rw [← er] at hrp hb
  rw [← hD, ← er]
  have HRd := Lib.hid hRd
  have Hrp := Lib.hid hrp
  have HOk := Lib.hid hOk
  have Hmv := Lib.hid hmv
  have Hsw := Lib.hid hsw
  have Hslt := Lib.hid hslt
  have HDl := Lib.hid hDl
  have Her := Lib.hid er
  have HXl := Lib.hid hX
  have hr40 : r ≤ 40 := by omega
  have hpl : piv.length ≤ 40 := by omega
  clear ht hv hDl hRd hRd' er hD hS hX rX hrp hOk hmv hrn hsw hslt
  obtain ⟨z0, z1, z2, z3⟩ := h1.box4 0 rfl
  go_enter Tryz.func29, Tryz.ntmps29
  go_wp2_with fail
  refine (HRd.out _ _ (h1.roInts 2 rfl)).mono ?_
  rintro (e : Ending) w2 ⟨u, vp, det, rfl, h2⟩
  replace h1 := h1.pushTwo h2
  clear h2 z0 z1 z2 z3
  obtain ⟨A6, c6, rfl, _, _, _⟩ := id (h1.ownInts 0 rfl)
  obtain ⟨A7, c7, rfl, _, _, _⟩ := id (h1.ownInts 1 rfl)
  rw [length_pivI] at h1 ⊢
  have h3 := (h1.box [.int .i64 p, .int .i64 r, .int .i64 n, .slice A7 (flat n Rd).length c7] 37)
  clear h1
  go_wp2_with fail
  refine (l1Ints_any _ X _ (h3.roInts 4 rfl) (by rw [HXl.out]; omega)).mono ?_
  rintro (e : Ending) w3 ⟨u3, rfl, ho3, hb3⟩
  obtain ⟨A5, c5, rfl, _, _, _⟩ := id ho3.ints
  have h4 := h3.pushOwn hb3 ho3
  rw [HXl.out] at h4 ⊢
  clear ho3 hb3 h3
  go_wp2
  generalize hBr : w2.heap.size = Br at h4 ⊢
  clear hBr
  go_loopw [9, 10, 11] (fun v9 _ _ wr => ∃ i : Nat, v9 = .int .i64 i ∧ i ≤ piv.length ∧ St w wr [.own (.slice A5 n c5) (redTo p S piv X i), .box Br [.int .i64 p, .int .i64 r, .int .i64 n, .slice A7 (flat n Rd).length c7], .own (.slice A6 piv.length c6) (pivI piv), .own (.slice A7 (flat n Rd).length c7) (flat n Rd), .box w.heap.size [.int .i64 p, .int .i64 r, .int .i64 n, .slice A D.length k0], .ro (.slice A2 n k2) X, .ro (.slice A D.length k0) D]) (fun v9 _ _ _ => piv.length - (intOf v9).toNat)
  case atStart => exact ⟨0, rfl, by omega, h4⟩
  case round =>
    clear h4
    obtain ⟨i, rfl, a1, h4⟩ := hrel
    by_cases hi : i < piv.length
    · have hir : i < r := by rw [Hrp.out]; exact hi
      have hcn := Hslt.out i hi
      obtain ⟨ol, or⟩ := HOk.out i (by omega)
      obtain ⟨gp, rfl, hq8⟩ := h4.ownSomeA 2 rfl (by rw [length_pivI]; omega)
      obtain ⟨go', rfl, hq9⟩ := h4.ownSomeA 0 rfl (by rw [ol]; omega)
      clear hq8 hq9
      have pc := (h4.ownCellA 2 rfl (q := i) (by rw [length_pivI]; exact hi)).1
      rw [vec_pivI hi] at pc
      have oc := (h4.ownCellA 0 rfl (q := pv piv i) (by rw [ol]; exact hcn)).1
      have hstp : redTo p S piv X (i + 1) = if vec (redTo p S piv X i) (pv piv i) = 0 then redTo p S piv X i else addL (redTo p S piv X i) (p - vec (redTo p S piv X i) (pv piv i)) (rowOf S i) p := rfl
      have hzb := resid_vec or (i := pv piv i) (by rw [ol]; exact hcn)
      obtain ⟨z, hz⟩ : ∃ z, z = vec (redTo p S piv X i) (pv piv i) := ⟨_, rfl⟩
      obtain ⟨ck, hck⟩ : ∃ ck, ck = pv piv i := ⟨_, rfl⟩
      rw [← hz] at hstp hzb oc
      rw [← hck] at hcn pc oc
      have ip : (i : Int) < (piv.length : Int) := by omega
      have ic : (ck : Int) < (n : Int) := by omega
      clear hck
      by_cases hz0 : z = 0
      · rw [if_pos hz0] at hstp
        have HStp := Lib.hid hstp
        subst hz0
        clear hstp hz ol or
        obtain ⟨x0, x1, x2, x3⟩ := h4.box4 4 rfl
        have hn0 : (0 : Int) < (n : Int) := by omega
        go_wp2
        clear pc oc x0 x1 x2 x3
        go_loopw [11] (fun v11 wr => v11 = .int .i64 0 ∧ St w wr [.own (.slice (some ⟨go', 0, none⟩) n c5) (redTo p S piv X i), .box Br [.int .i64 p, .int .i64 r, .int .i64 n, .slice A7 (flat n Rd).length c7], .own (.slice (some ⟨gp, 0, none⟩) piv.length c6) (pivI piv), .own (.slice A7 (flat n Rd).length c7) (flat n Rd), .box w.heap.size [.int .i64 p, .int .i64 r, .int .i64 n, .slice A D.length k0], .ro (.slice A2 n k2) X, .ro (.slice A D.length k0) D]) (fun v11 _ => 0)
        case atStart => exact ⟨rfl, h4⟩
        case round =>
          clear h4
          obtain ⟨rfl, h4⟩ := hrel
          obtain ⟨x0, x1, x2, x3⟩ := h4.box4 4 rfl
          go_wp2
          go_roundw
          case rel => exact ⟨i + 1, by go_num, by omega, by rw [HStp.out]; exact h4⟩
          case measure => simp [intOf]; omega
      · rw [if_neg hz0] at hstp
        have hrw := Hsw.out i (by rw [← Her.out]; exact hir)
        have hmt : ∀ j, j < n → vec (redTo p S piv X (i + 1)) j = (vec (redTo p S piv X i) j - z * vec (rowOf S i) j) % p := fun j hj => by
          rw [hstp, vec_addLq (by rw [hrw.1, ol]) (by rw [ol]; exact hj), elim_num (by omega)]
        have hl1 : (redTo p S piv X (i + 1)).length = n := (HOk.out (i + 1) (by omega)).1
        obtain ⟨R0, hR0⟩ : ∃ R0, R0 = redTo p S piv X i := ⟨_, rfl⟩
        obtain ⟨R1, hR1⟩ : ∃ R1, R1 = redTo p S piv X (i + 1) := ⟨_, rfl⟩
        rw [← hR0] at h4 hmt ol or
        rw [← hR1] at hmt hl1
        have H0 := Lib.hid (mixTo_zero (b := R1) ol)
        have H1 := Lib.hid (mixTo_end (a := R0) hl1)
        have HR1 := Lib.hid hR1
        have Hmt := Lib.hid hmt
        have Hor := Lib.hid or
        have Hol := Lib.hid ol
        have Hrw := Lib.hid hrw
        have t1 : (z != 0) = true := by simp [hz0]
        clear hstp hz ol or hR0 hR1 hmt hl1 hrw
        go_wp2
        clear pc oc
        go_loopw [11] (fun v11 wr => ∃ j : Nat, v11 = .int .i64 j ∧ j ≤ n ∧ St w wr [.own (.slice (some ⟨go', 0, none⟩) n c5) (mixTo n R0 R1 j), .box Br [.int .i64 p, .int .i64 r, .int .i64 n, .slice A7 (flat n Rd).length c7], .own (.slice (some ⟨gp, 0, none⟩) piv.length c6) (pivI piv), .own (.slice A7 (flat n Rd).length c7) (flat n Rd), .box w.heap.size [.int .i64 p, .int .i64 r, .int .i64 n, .slice A D.length k0], .ro (.slice A2 n k2) X, .ro (.slice A D.length k0) D]) (fun v11 _ => n - (intOf v11).toNat)
        case atStart => exact ⟨0, rfl, by omega, by rw [H0.out]; exact h4⟩
        case round =>
          clear h4
          obtain ⟨j, rfl, a2, h4⟩ := hrel
          obtain ⟨x0, x1, x2, x3⟩ := h4.box4 4 rfl
          by_cases hj : j < n
          · have hob := resid_vec Hor.out (i := j) (by rw [Hol.out]; exact hj)
            have hsb := resid_vec Hrw.out.2 (i := j) (by rw [Hrw.out.1]; exact hj)
            have hge := mixTo_ge (a := R0) (b := R1) (Nat.le_refl j) hj
            have hset := mixTo_set (n := n) (a := R0) (b := R1) (j := j)
            rw [Hmt.out j hj] at hset
            obtain ⟨s, hs⟩ : ∃ s, s = vec (rowOf S i) j := ⟨_, rfl⟩
            obtain ⟨o, ho⟩ : ∃ o, o = vec R0 j := ⟨_, rfl⟩
            have HA := Lib.hid (show ∀ W, Ints W (.slice A D.length k0) D → Calls Tryz.prog 54 #[.agg #[.int .i64 p, .int .i64 r, .int .i64 n, .slice A D.length k0], .int .i64 i, .int .i64 j] W (fun e w' => e = .returned (.int .i64 s) ∧ Below W.heap.size W w') from fun W hW => by rw [hs, ← Hmv.out i j hir hj]; exact l1At_any p r n _ D i j W hW HDl.out (by omega) hir hj)
            rw [← hs, ← ho] at hset
            rw [← hs] at hsb
            rw [← ho] at hob hge
            have hzs : 0 ≤ z * s ∧ z * s ≤ 100140049 := ⟨Int.mul_nonneg (by omega) (by omega), Int.le_trans (Int.mul_le_mul (show z ≤ 10007 by omega) (show s ≤ 10007 by omega) (by omega) (by omega)) (by omega)⟩
            have w1 : IntKind.i64.wrap (z * s) = z * s := wrap_ok (by omega) (by omega)
            have w2 : IntKind.i64.wrap (o - z * s) = o - z * s := wrap_ok (by omega) (by omega)
            have HM := Lib.hid (fun W => l1Mod_any (o - z * s) p W (by omega) (by omega) (by omega) b2)
            have HSet := Lib.hid hset
            have HLt := Lib.hid (show j < (mixTo n R0 R1 j).length by rw [length_mixTo]; exact hj)
            have HO := Lib.hid (fun (W : World) (h : W.cell? ⟨go', j, none⟩ = some (.int .i64 (vec (mixTo n R0 R1 j) j))) => (show W.cell? ⟨go', j, none⟩ = some (.int .i64 o) by rw [← hge]; exact h))
            have i5 : (j : Int) < n := by omega
            clear hset hs ho hge
            go_upto_region 18 with fail
            have g0 := h4.drew
            refine wp_region_cut (S := fun w' => (w'.cell? ⟨w.heap.size, 0, none⟩ = some (.int .i64 p) ∧ w'.cell? ⟨w.heap.size, 1, none⟩ = some (.int .i64 r) ∧ w'.cell? ⟨w.heap.size, 2, none⟩ = some (.int .i64 n) ∧ w'.cell? ⟨w.heap.size, 3, none⟩ = some (.slice A D.length k0)) ∧ w'.cell? ⟨go', j, none⟩ = some (.int .i64 o)) 16 (by kernel_rfl) (by kernel_rfl) ⟨g0.box4 4 rfl, HO.out _ (g0.ownCellA 0 rfl HLt.out).1⟩ (fun hHeld => ?_)
            simp only [List.take_succ_cons, List.take_zero]
            refine anyH_take (v := ?_) 0 rfl (by kernel_rfl) (by kernel_rfl) (by kernel_rfl) (fun _ _ _ h => h) rfl ?_ hHeld ?_
            rotate_left
            · intro w' hSw
              go_simp
              try with_reducible rfl
            try simp only [Act.put, List.setIfInBounds_toArray, List.set_cons_zero, List.set_cons_succ]
            refine anyH_take (v := ?_) 1 rfl (by kernel_rfl) (by kernel_rfl) (by kernel_rfl) (fun _ _ _ h => h) rfl ?_ hHeld ?_
            rotate_left
            · intro w' hSw
              go_simp
              try with_reducible rfl
            try simp only [Act.put, List.setIfInBounds_toArray, List.set_cons_zero, List.set_cons_succ]
            refine anyH_take (v := ?_) 2 rfl (by kernel_rfl) (by kernel_rfl) (by kernel_rfl) (fun _ _ _ h => h) rfl ?_ hHeld ?_
            rotate_left
            · intro w' hSw
              go_simp
              try with_reducible rfl
            try simp only [Act.put, List.setIfInBounds_toArray, List.set_cons_zero, List.set_cons_succ]
            refine anyH_take (v := ?_) 3 rfl (by kernel_rfl) (by kernel_rfl) (by kernel_rfl) (fun _ _ _ h => h) rfl ?_ hHeld ?_
            rotate_left
            · intro w' hSw
              go_simp
              try with_reducible rfl
            try simp only [Act.put, List.setIfInBounds_toArray, List.set_cons_zero, List.set_cons_succ]
            refine anyH_take (v := ?_) 4 rfl (by kernel_rfl) (by kernel_rfl) (by kernel_rfl) (fun _ _ _ h => h) rfl ?_ hHeld ?_
            rotate_left
            · intro w' hSw
              go_simp
              try with_reducible rfl
            try simp only [Act.put, List.setIfInBounds_toArray, List.set_cons_zero, List.set_cons_succ]
            refine anyH_take (v := ?_) 5 rfl (by kernel_rfl) (by kernel_rfl) (by kernel_rfl) (fun _ _ _ h => h) rfl ?_ hHeld ?_
            rotate_left
            · intro w' hSw
              go_simp
              try with_reducible rfl
            try simp only [Act.put, List.setIfInBounds_toArray, List.set_cons_zero, List.set_cons_succ]
            refine anyH_take (v := ?_) 6 rfl (by kernel_rfl) (by kernel_rfl) (by kernel_rfl) (fun _ _ _ h => h) rfl ?_ hHeld ?_
            rotate_left
            · intro w' hSw
              go_simp
              try with_reducible rfl
            try simp only [Act.put, List.setIfInBounds_toArray, List.set_cons_zero, List.set_cons_succ]
            refine anyH_take (v := ?_) 7 rfl (by kernel_rfl) (by kernel_rfl) (by kernel_rfl) (fun _ _ _ h => h) rfl ?_ hHeld ?_
            rotate_left
            · intro w' hSw
              go_simp
              try with_reducible rfl
            try simp only [Act.put, List.setIfInBounds_toArray, List.set_cons_zero, List.set_cons_succ]
            refine anyH_take (v := ?_) 8 rfl (by kernel_rfl) (by kernel_rfl) (by kernel_rfl) (fun _ _ _ h => h) rfl ?_ hHeld ?_
            rotate_left
            · intro w' hSw
              go_simp
              try with_reducible rfl
            try simp only [Act.put, List.setIfInBounds_toArray, List.set_cons_zero, List.set_cons_succ]
            refine anyH_take (v := ?_) 9 rfl (by kernel_rfl) (by kernel_rfl) (by kernel_rfl) (fun _ _ _ h => h) rfl ?_ hHeld ?_
            rotate_left
            · intro w' hSw
              go_simp
              try with_reducible rfl
            try simp only [Act.put, List.setIfInBounds_toArray, List.set_cons_zero, List.set_cons_succ]
            refine anyH_take (v := ?_) 13 rfl (by kernel_rfl) (by kernel_rfl) (by kernel_rfl) (fun _ _ _ h => h) rfl ?_ hHeld ?_
            rotate_left
            · intro w' hSw
              go_simp
              try with_reducible rfl
            try simp only [Act.put, List.setIfInBounds_toArray, List.set_cons_zero, List.set_cons_succ]
            refine anyH_take (v := ?_) 14 rfl (by kernel_rfl) (by kernel_rfl) (by kernel_rfl) (fun _ _ _ h => h) rfl ?_ hHeld ?_
            rotate_left
            · intro w' hSw
              go_simp
              try with_reducible rfl
            try simp only [Act.put, List.setIfInBounds_toArray, List.set_cons_zero, List.set_cons_succ]
            refine wpAnyH_ready (rs := [10]) (by kernel_rfl) (by simp) ?_
            refine ready_cons rfl (fun K hK => ?_) AllReadyH.nil
            go_simp
            refine (HA.out _ (g0.roInts 6 rfl)).mono ?_
            rintro (e : Ending) w4 ⟨rfl, hb4⟩
            have g1 := g0.on hb4
            clear hb4
            show K _ _
            refine hK.out _ _ ?_ (fun hHeld => ?_)
            · exact ⟨g1.box4 4 rfl, HO.out _ (g1.ownCellA 0 rfl HLt.out).1⟩
            clear hK K
            try simp only [Act.put, List.setIfInBounds_toArray, List.set_cons_zero, List.set_cons_succ]
            refine anyH_take (v := ?_) 11 rfl (by kernel_rfl) (by kernel_rfl) (by kernel_rfl) (fun _ _ _ h => h) rfl ?_ hHeld ?_
            rotate_left
            · intro w' hSw
              go_simp
              try with_reducible rfl
            try simp only [Act.put, List.setIfInBounds_toArray, List.set_cons_zero, List.set_cons_succ]
            refine anyH_take (v := ?_) 12 rfl (by kernel_rfl) (by kernel_rfl) (by kernel_rfl) (fun _ _ _ h => h) rfl ?_ hHeld ?_
            rotate_left
            · intro w' hSw
              go_simp
              try with_reducible rfl
            try simp only [Act.put, List.setIfInBounds_toArray, List.set_cons_zero, List.set_cons_succ]
            refine wpAnyH_ready (rs := [15]) (by kernel_rfl) (by simp) ?_
            refine ready_cons rfl (fun K hK => ?_) AllReadyH.nil
            go_simp
            refine (HM.out _).mono ?_
            rintro (e : Ending) w5 ⟨rfl, rfl⟩
            show K _ _
            refine hK.out _ _ ?_ (fun hHeld => ?_)
            · exact hHeld
            clear hK K
            try simp only [Act.put, List.setIfInBounds_toArray, List.set_cons_zero, List.set_cons_succ]
            refine wpAnyH_done (by kernel_rfl) ?_ _
            show wpList _ _ _ _ _ _
            simp only [List.drop_succ_cons, List.drop_zero]
            clear hHeld
            obtain ⟨v0, f0⟩ := g1.ownCellA 0 rfl HLt.out
            have h6 := g1.set 0 rfl j ((o - z * s) % p)
            clear h4 g0
            go_wp2
            go_roundw
            case rel => exact ⟨j + 1, by go_num, by omega, by rw [← HSet.out]; exact h6⟩
            case measure => simp [intOf]; omega
          · obtain rfl : j = n := by omega
            rw [H1.out, HR1.out] at h4
            go_wp2
            go_roundw
            case rel => exact ⟨i + 1, by go_num, by omega, h4⟩
            case measure => simp [intOf]; omega
    · obtain rfl : i = piv.length := by omega
      go_wp2
      go_ret
      exact ⟨_, rfl, h4.own 0 rfl, h4.below⟩
end Go.Proofs.YtcdbgcpccmcbeaaGreat
