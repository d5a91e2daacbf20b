/- QuotientModule of the program. -/
import Derived.Test.YtcdbgcpccmcbeaaGreatResP
import Derived.Test.YtcdbgcpccmcbeaaGreatIsmI
import Derived.Test.YtcdbgcpccmcbeaaGreatPick
import Derived.Test.YtcdbgcpccmcbeaaGreatFlt
namespace Go.Proofs.YtcdbgcpccmcbeaaGreat
set_option maxRecDepth 100000
open Go.RowKit

set_option maxHeartbeats 4000000 in
theorem QuotientModuleI_any (p n q r c : Int) (t v u : Value) (T D : List Int) (ms : List Mt) (w : World) (ht : Ints w t T) (hv : MatsR w v ms) (hu : Ints w u D) (hp0 : p ≤ 9223372036854775807) (hq : q ≤ 9223372036854775807) (hw : ∀ i, i < ms.length → (mAt ms i).p ≤ 9223372036854775807) :
    Calls Tryz.prog 12 #[.agg #[.int .i64 p, .int .i64 n, t], v, .agg #[.int .i64 q, .int .i64 r, .int .i64 c, u]] w (RetMsB w (qmMs p n T ms q r c D) (ismOk p n T ms q r c D)) := by
  have h1 := (((((St.start w).arg ht).arg hu).pushFact hv.fact).box [.int .i64 p, .int .i64 n, t] 34).box [.int .i64 q, .int .i64 r, .int .i64 c, u] 37
  simp only [World.size_alloc] at h1
  obtain ⟨A, k, rfl, _, _, _⟩ := id ht
  obtain ⟨A2, k2, rfl, _, _, _⟩ := id hv
  obtain ⟨A3, k3, rfl, _, _, _⟩ := id hu
  have HI := Lib.hid (fun (W : World) (h1 : Ints W (.slice A T.length k) T) (h2 : MatsR W (.slice A2 ms.length k2) ms) (h3 : Ints W (.slice A3 D.length k3) D) => IsSubmoduleI_any p n q r c _ _ _ T D ms W h1 h2 h3 hp0 hq hw)
  have HV := Lib.hid hv
  clear ht hv hu hw
  obtain ⟨Po, hPo⟩ : ∃ Po : Ending → World → Prop, Po = RetMsB w (qmMs p n T ms q r c D) (ismOk p n T ms q r c D) := ⟨_, rfl⟩
  rw [← hPo]
  obtain ⟨x0, x1, x2⟩ := h1.box3 1 rfl
  obtain ⟨y0, y1, y2, y3⟩ := h1.box4 0 rfl
  by_cases b1 : ismOk p n T ms q r c D = true
  case neg =>
    have b1 : ismOk p n T ms q r c D = false := by simpa using b1
    have HF := Lib.hid (show Po = RetMsB w [] false by rw [hPo, qmMs, b1]; rfl)
    have B1 := Lib.hid b1
    clear b1 hPo
    go_enter Tryz.func12, Tryz.ntmps12
    go_wp2_with fail
    refine (HI.out _ (h1.roInts 4 rfl) (h1.fact 2 rfl) (h1.roInts 3 rfl)).mono ?_
    rintro (e : Ending) w3 ⟨rfl, hb3⟩
    have g1 := h1.on hb3
    rw [B1.out]
    clear x0 x1 x2 y0 y1 y2 y3 hb3 h1
    go_wp2
    show Po (.returned (.tuple #[.slice none 0 0, .bool false])) _
    rw [HF.out]
    exact RetMsB.nil g1.below
  case pos =>
    obtain ⟨N, s, R, piv, rfl, rfl, rfl, rfl, hD, hR, hRs, hs30, hN28, hP, hml, hN0, hrm, hpv, hM, hcl⟩ := ism_spec b1
    obtain ⟨b1p, b2p⟩ := isPrime_bd hP
    have HF0 : Po = RetMsB w (mkTo (qmMt q s R piv) ms ms.length) true := by rw [hPo, qmMs, if_pos b1, hrm, Int.toNat_natCast, hpv, b1]
    have hDl : D.length = R.length * s := by rw [hD]; exact length_flat _ _
    have hDr : resid q D = true := by rw [hD]; exact resid_flat (by omega) hR.wf
    have hWp : ∀ (W : World) (x1 : Ints W (.slice A3 D.length k3) D), Calls Tryz.prog 33 #[.agg #[.int .i64 q, .int .i64 R.length, .int .i64 s, .slice A3 D.length k3]] W (RetOwn W (pivI (freeTo piv s))) := fun W x1 => withoutPivots_any q s R piv _ W (by rw [← hD]; exact x1) hR (by omega) (by omega)
    have hRd := fun (W : World) (v1 : Value) (X : List Int) (x1 : Ints W (.slice A3 D.length k3) D) (x2 : Ints W v1 X) (x3 : X.length = s) (x4 : resid q X = true) => (show Calls Tryz.prog 35 #[.agg #[.int .i64 q, .int .i64 R.length, .int .i64 s, .slice A3 D.length k3], v1] W (RetOwn W (redV q R piv X)) from reduceBy_any q s R piv _ v1 X W (by rw [← hD]; exact x1) x2 hR x3 x4 (by omega) b1p b2p)
    have hRv := fun (X : List Int) (x3 : X.length = s) (x4 : resid q X = true) => (redV_ok b1p hR x3 x4).1
    have hRl := fun (i : Nat) => length_qmRows q s R piv (mAt ms i)
    have hRt := fun (i k : Nat) (h : k < (freeTo piv s).length) => qmRows_take (p := q) (n := s) (R := R) (piv := piv) (m := mAt ms i) h
    have hTo := fun (i : Nat) => total_rows (qmRows q s R piv (mAt ms i)) qmRows_len
    have hMt := fun (i : Nat) => (show qmMt q s R piv (mAt ms i) = ⟨q, (freeTo piv s).length, (freeTo piv s).length, (qmRows q s R piv (mAt ms i)).flatten⟩ from rfl)
    have hRw := fun (i k : Nat) => (show qmRow q s R piv (mAt ms i) k = atPiv (freeTo piv s) (redV q R piv (rowM s (mAt ms i).d (pv (freeTo piv s) k))) from rfl)
    have hFl := length_freeTo piv s
    have hFb : ∀ i, i < (freeTo piv s).length → pv (freeTo piv s) i < s := fun i hi => pv_free hi
    obtain ⟨Fr, hFr⟩ : ∃ Fr, Fr = freeTo piv s := ⟨_, rfl⟩
    rw [← hFr] at hWp hRl hRt hTo hMt hRw hFl hFb
    obtain ⟨r, hr⟩ : ∃ r, r = R.length := ⟨_, rfl⟩
    rw [← hr] at hWp hRd hRs h1 HI b1 y1 ⊢
    obtain ⟨nf, hnf⟩ : ∃ nf, nf = Fr.length := ⟨_, rfl⟩
    rw [← hnf] at hRl hRt hTo hMt hFl hFb
    have HF := Lib.hid HF0
    have HWp := Lib.hid hWp
    have HRd := Lib.hid hRd
    have HRv := Lib.hid hRv
    have HRl := Lib.hid hRl
    have HRt := Lib.hid hRt
    have HTo := Lib.hid hTo
    have HMt := Lib.hid hMt
    have HRw := Lib.hid hRw
    have HFb := Lib.hid hFb
    have Hnf := Lib.hid hnf
    have HM := Lib.hid hM
    have B1 := Lib.hid b1
    have ml28 : ms.length ≤ 28 := by omega
    have Hq2 := Lib.hid b1p
    clear b1 hPo hD hR hP hml hN0 hrm hpv hM hcl HF0 hDl hDr hWp hRd hRv hRl hRt hTo hMt hRw hFb hr hnf hFr hN28 b2p
    go_enter Tryz.func12, Tryz.ntmps12
    go_wp2_with fail
    refine (HI.out _ (h1.roInts 4 rfl) (h1.fact 2 rfl) (h1.roInts 3 rfl)).mono ?_
    rintro (e : Ending) w3 ⟨rfl, hb3⟩
    have g1 := h1.on hb3
    rw [B1.out]
    clear x0 x1 x2 y0 y1 y2 y3 hb3 h1 HI
    obtain ⟨y0, y1, y2, y3⟩ := g1.box4 0 rfl
    go_wp2_with fail
    refine (HWp.out _ (g1.roInts 3 rfl)).mono ?_
    rintro (e : Ending) w4 ⟨u4, rfl, ho4, hb4⟩
    obtain ⟨Af, cf, rfl, _, _, _⟩ := id ho4.ints
    rw [length_pivI, ← Hnf.out] at ho4 ⊢
    have g2 := (g1.pushOwn hb4 ho4).emptyMats
    clear y0 y1 y2 y3 g1 hb4 ho4
    go_wp2
    go_loopw [9, 25] (fun v9 v25 wr => ∃ (i : Nat) (us : List Value), v25 = .int .i64 i ∧ i ≤ ms.length ∧ Hid (us.length = i) ∧ St w wr [matsIt v9 us (mkTo (qmMt q s R piv) ms i), .own (.slice Af nf cf) (pivI Fr), .box (w.heap.size + 1) [.int .i64 q, .int .i64 r, .int .i64 s, .slice A3 D.length k3], .box w.heap.size [.int .i64 q, .int .i64 N, .slice A T.length k], .fact (fun w' => MatsR w' (.slice A2 ms.length k2) ms), .ro (.slice A3 D.length k3) D, .ro (.slice A T.length k) T]) (fun _ v25 _ => ms.length - (intOf v25).toNat)
    case atStart => exact ⟨0, [], rfl, by omega, Lib.hid rfl, by rw [mkTo_zero]; exact g2⟩
    case round =>
      clear g2
      obtain ⟨i, us, rfl, a1, Hul, g⟩ := hrel
      by_cases hi : i < ms.length
      · obtain ⟨b, off, A9, c9, hbA, hm⟩ := HV.out.at (i := i) hi
        rw [mAt_get hi] at hm
        obtain ⟨u1, u2, u3, u4, u5⟩ := HM.out i hi
        have hrl := HRl.out i
        have hto := HTo.out i
        have hrt := HRt.out i
        have hrw := HRw.out i
        have hSt : mkTo (qmMt q s R piv) ms (i + 1) = mkTo (qmMt q s R piv) ms i ++ [⟨q, nf, nf, (qmRows q s R piv (mAt ms i)).flatten⟩] := by rw [mkTo_succ hi, HMt.out i]
        have hlk : (mkTo (qmMt q s R piv) ms i).length = i := length_mkTo (by omega)
        obtain ⟨E, hE⟩ : ∃ E, E = (mAt ms i).d := ⟨_, rfl⟩
        have hmf : MtAt w b (off + i * 4) ⟨q, s, s, E⟩ (.slice A9 E.length c9) := by unfold MtAt at hm ⊢; rw [u1, u2, u3, ← hE] at hm; exact hm
        rw [← hE] at u4 u5 hrw
        obtain ⟨Q, hQ⟩ : ∃ Q, Q = qmRows q s R piv (mAt ms i) := ⟨_, rfl⟩
        rw [← hQ] at hrl hto hrt hSt
        obtain ⟨F, hF⟩ : ∃ F, F = Q.flatten := ⟨_, rfl⟩
        rw [← hF] at hSt
        have h4 := g.pushOld hmf.fact
        have HEB := Lib.hid hmf.2.2.2.2.toB
        have HEl := Lib.hid u4
        have HEr := Lib.hid u5
        have Hrw := Lib.hid hrw
        have Hrt := Lib.hid hrt
        have Hrl := Lib.hid hrl
        have Hto := Lib.hid hto
        have HSt := Lib.hid hSt
        have HF2 := Lib.hid hF
        have Hlu := Lib.hid (Hul.out.trans hlk.symm)
        have Hl1 := Lib.hid (show (mkTo (qmMt q s R piv) ms i).length + 1 ≤ 1099511627776 by rw [hlk]; omega)
        have iM : (i : Int) < (ms.length : Int) := by omega
        have hEl2 : E.length ≤ 4194304 := by rw [u4]; have := mul_le hs30 hs30; omega
        subst hbA
        clear hm hmf u1 u2 u3 u4 u5 hrl hto hrt hrw hSt hlk hE hQ hF g
        obtain ⟨q0, q1, q2, q3, _⟩ := h4.fact 0 rfl
        have h6 := (h4.box [.int .i64 q, .int .i64 s, .int .i64 s, .slice A9 E.length c9] 37).emptyRows
        simp only [World.size_alloc] at h6
        go_wp2
        generalize hBx : wr.heap.size = Bx at h6 ⊢
        clear hBx q0 q1 q2 q3 h4
        obtain ⟨OL, hOL, h9⟩ : ∃ OL, OL = _ ∧ St w _ (rowsIt _ [] [] :: OL) := ⟨_, rfl, h6⟩
        clear h6
        go_loopw [12, 32] (fun v12 v32 wr => ∃ (k0 : Nat) (us2 : List Value), v32 = .int .i64 k0 ∧ k0 ≤ nf ∧ Hid (us2.length = k0) ∧ St w wr (rowsIt v12 us2 (Q.take k0) :: OL)) (fun _ v32 _ => nf - (intOf v32).toNat)
        case atStart => exact ⟨0, [], rfl, by omega, Lib.hid rfl, by rw [List.take_zero]; exact h9⟩
        case round =>
          clear h9
          obtain ⟨k0, us2, rfl, a2, Hu2, g⟩ := hrel
          by_cases hk : k0 < nf
          · subst hOL
            have Hk9 := Lib.hid (show k0 < Fr.length by rw [← Hnf.out]; exact hk)
            have hck := HFb.out k0 hk
            have hrow := Hrw.out k0
            obtain ⟨gf, rfl, -⟩ := g.ownSomeA 4 rfl (by rw [length_pivI]; exact Nat.lt_of_le_of_lt (Nat.zero_le _) Hk9.out)
            have pc := g.pivCell 4 rfl Hk9.out
            obtain ⟨ck, hck9⟩ : ∃ ck, ck = pv Fr k0 := ⟨_, rfl⟩
            rw [← hck9] at hck pc hrow
            obtain ⟨A7, c7, hrun, hA7⟩ := cutRow HEB.out HEl.out hck
            have g9 := g.pushOld (R := fun w' => IntsB w' w.heap.size (.slice A7 s c7) (rowM s E ck)) (fun w' hk => hA7.keep fun p hp => World.cell?_of_block (hk p.block hp))
            have hbd := row_bd (c := s) hck
            have hss := mul_le hs30 hs30
            obtain ⟨z1, hz1⟩ : ∃ z1, z1 = ck * s := ⟨_, rfl⟩
            obtain ⟨z2, hz2⟩ : ∃ z2, z2 = ck + 1 := ⟨_, rfl⟩
            obtain ⟨z3, hz3⟩ : ∃ z3, z3 = z2 * s := ⟨_, rfl⟩
            have hz4 : z3 = z1 + s := by rw [hz3, hz2, Nat.add_mul, Nat.one_mul, hz1]
            rw [← hz1] at hbd
            have t1 : (ck : Int) * (s : Int) = (z1 : Int) := by rw [hz1]; simp
            have t2 : (ck : Int) + 1 = (z2 : Int) := by omega
            have t3 : (z2 : Int) * (s : Int) = (z3 : Int) := by rw [hz3]; simp
            have v1 : IntKind.i64.wrap (z1 : Int) = z1 := wrap_ok (by omega) (by omega)
            have v2 : IntKind.i64.wrap (z2 : Int) = z2 := wrap_ok (by omega) (by omega)
            have v3 : IntKind.i64.wrap (z3 : Int) = z3 := wrap_ok (by omega) (by omega)
            rw [t2, t3, t1] at hrun
            clear hz1 hz2 hz3 hz4 hbd hss
            have hXr : resid q (rowM s E ck) = true := resid_rowM (by have := Hq2.out; omega) HEr.out _ _
            have HR2 := Lib.hid (fun (W : World) (v1 : Value) x1 (x2 : Ints W v1 (rowM s E ck)) => HRd.out W v1 _ x1 x2 (length_rowM _ _ _) hXr)
            have hVl := HRv.out (rowM s E ck) (length_rowM _ _ _) hXr
            obtain ⟨V, hV⟩ : ∃ V, V = redV q R piv (rowM s E ck) := ⟨_, rfl⟩
            rw [← hV] at HR2 hVl hrow
            have HP2 := Lib.hid (fun (W : World) (v0 v1 : Value) (x0 : Ints W v0 V) (x1 : Ints W v1 (pivI Fr)) => pick_any v0 v1 V Fr W x0 x1 (by rw [hVl, ← Hnf.out]; exact HFb.out) (by omega) (by rw [← Hnf.out]; omega))
            rw [← hrow] at HP2
            obtain ⟨X, hX⟩ : ∃ X, X = qmRow q s R piv (mAt ms i) k0 := ⟨_, rfl⟩
            have hN := Hrt.out k0 hk
            rw [← hX] at HP2 hN
            have HN := Lib.hid hN
            have Hl2 := Lib.hid (show us2.length = (Q.take k0).length by rw [Hu2.out, List.length_take, Hrl.out]; omega)
            have Hl3 := Lib.hid (show (Q.take k0).length + 1 ≤ 1099511627776 by rw [List.length_take]; omega)
            have ik : (k0 : Int) < (nf : Int) := by omega
            clear hck9 hrow hA7 hXr hVl hV hX hN g
            obtain ⟨x0, x1, x2, x3⟩ := g9.box4 2 rfl
            go_upto_region 12 with fail
            clear x0 x1 x2 x3 pc
            have g0 := g9.drew
            refine wp_region_cut (S := fun w' => (w'.cell? ⟨w.heap.size + 1, 0, none⟩ = some (.int .i64 q) ∧ w'.cell? ⟨w.heap.size + 1, 1, none⟩ = some (.int .i64 r) ∧ w'.cell? ⟨w.heap.size + 1, 2, none⟩ = some (.int .i64 s) ∧ w'.cell? ⟨w.heap.size + 1, 3, none⟩ = some (.slice A3 D.length k3)) ∧ (w'.cell? ⟨Bx, 0, none⟩ = some (.int .i64 q) ∧ w'.cell? ⟨Bx, 1, none⟩ = some (.int .i64 s) ∧ w'.cell? ⟨Bx, 2, none⟩ = some (.int .i64 s) ∧ w'.cell? ⟨Bx, 3, none⟩ = some (.slice A9 E.length c9))) 18 (by kernel_rfl) (by kernel_rfl) ⟨g0.box4 6 rfl, g0.box4 2 rfl⟩ (fun hHeld => ?_)
            simp only [List.take_succ_cons, List.take_zero]
            refine anyH_take (v := ?_) 0 rfl (by kernel_rfl) (by kernel_rfl) (by kernel_rfl) (fun _ _ _ h => h) rfl ?_ hHeld ?_
            rotate_left
            · intro w' hSw
              go_simp
              try with_reducible rfl
            try simp only [Act.put, List.setIfInBounds_toArray, List.set_cons_zero, List.set_cons_succ]
            refine anyH_take (v := ?_) 1 rfl (by kernel_rfl) (by kernel_rfl) (by kernel_rfl) (fun _ _ _ h => h) rfl ?_ hHeld ?_
            rotate_left
            · intro w' hSw
              go_simp
              try with_reducible rfl
            try simp only [Act.put, List.setIfInBounds_toArray, List.set_cons_zero, List.set_cons_succ]
            refine anyH_take (v := ?_) 2 rfl (by kernel_rfl) (by kernel_rfl) (by kernel_rfl) (fun _ _ _ h => h) rfl ?_ hHeld ?_
            rotate_left
            · intro w' hSw
              go_simp
              try with_reducible rfl
            try simp only [Act.put, List.setIfInBounds_toArray, List.set_cons_zero, List.set_cons_succ]
            refine anyH_take (v := ?_) 3 rfl (by kernel_rfl) (by kernel_rfl) (by kernel_rfl) (fun _ _ _ h => h) rfl ?_ hHeld ?_
            rotate_left
            · intro w' hSw
              go_simp
              try with_reducible rfl
            try simp only [Act.put, List.setIfInBounds_toArray, List.set_cons_zero, List.set_cons_succ]
            refine anyH_take (v := ?_) 4 rfl (by kernel_rfl) (by kernel_rfl) (by kernel_rfl) (fun _ _ _ h => h) rfl ?_ hHeld ?_
            rotate_left
            · intro w' hSw
              go_simp
              try with_reducible rfl
            try simp only [Act.put, List.setIfInBounds_toArray, List.set_cons_zero, List.set_cons_succ]
            refine anyH_take (v := ?_) 5 rfl (by kernel_rfl) (by kernel_rfl) (by kernel_rfl) (fun _ _ _ h => h) rfl ?_ hHeld ?_
            rotate_left
            · intro w' hSw
              go_simp
              try with_reducible rfl
            try simp only [Act.put, List.setIfInBounds_toArray, List.set_cons_zero, List.set_cons_succ]
            refine anyH_take (v := ?_) 6 rfl (by kernel_rfl) (by kernel_rfl) (by kernel_rfl) (fun _ _ _ h => h) rfl ?_ hHeld ?_
            rotate_left
            · intro w' hSw
              go_simp
              try with_reducible rfl
            try simp only [Act.put, List.setIfInBounds_toArray, List.set_cons_zero, List.set_cons_succ]
            refine anyH_take (v := ?_) 7 rfl (by kernel_rfl) (by kernel_rfl) (by kernel_rfl) (fun _ _ _ h => h) rfl ?_ hHeld ?_
            rotate_left
            · intro w' hSw
              go_simp
              try with_reducible rfl
            try simp only [Act.put, List.setIfInBounds_toArray, List.set_cons_zero, List.set_cons_succ]
            refine anyH_take (v := ?_) 8 rfl (by kernel_rfl) (by kernel_rfl) (by kernel_rfl) (fun _ _ _ h => h) rfl ?_ hHeld ?_
            rotate_left
            · intro w' hSw
              go_simp
              try with_reducible rfl
            try simp only [Act.put, List.setIfInBounds_toArray, List.set_cons_zero, List.set_cons_succ]
            refine anyH_take (v := ?_) 9 rfl (by kernel_rfl) (by kernel_rfl) (by kernel_rfl) (fun _ _ _ h => h) rfl ?_ hHeld ?_
            rotate_left
            · intro w' hSw
              go_simp
              try with_reducible rfl
            try simp only [Act.put, List.setIfInBounds_toArray, List.set_cons_zero, List.set_cons_succ]
            refine anyH_take (v := ?_) 10 rfl (by kernel_rfl) (by kernel_rfl) (by kernel_rfl) (fun _ _ _ h => h) rfl ?_ hHeld ?_
            rotate_left
            · intro w' hSw
              go_simp
              try with_reducible rfl
            try simp only [Act.put, List.setIfInBounds_toArray, List.set_cons_zero, List.set_cons_succ]
            refine anyH_take (v := ?_) 11 rfl (by kernel_rfl) (by kernel_rfl) (by kernel_rfl) (fun _ _ _ h => h) rfl ?_ hHeld ?_
            rotate_left
            · intro w' hSw
              go_simp
              try with_reducible rfl
            try simp only [Act.put, List.setIfInBounds_toArray, List.set_cons_zero, List.set_cons_succ]
            refine anyH_take (v := ?_) 12 rfl (by kernel_rfl) (by kernel_rfl) (by kernel_rfl) (fun _ _ _ h => h) rfl ?_ hHeld ?_
            rotate_left
            · intro w' hSw
              go_simp
              try with_reducible rfl
            try simp only [Act.put, List.setIfInBounds_toArray, List.set_cons_zero, List.set_cons_succ]
            refine anyH_take (v := ?_) 13 rfl (by kernel_rfl) (by kernel_rfl) (by kernel_rfl) (fun _ _ _ h => h) rfl ?_ hHeld ?_
            rotate_left
            · intro w' hSw
              go_simp
              try with_reducible rfl
            try simp only [Act.put, List.setIfInBounds_toArray, List.set_cons_zero, List.set_cons_succ]
            refine anyH_take (v := ?_) 15 rfl (by kernel_rfl) (by kernel_rfl) (by kernel_rfl) (fun _ _ _ h => h) rfl ?_ hHeld ?_
            rotate_left
            · intro w' hSw
              go_simp
              try with_reducible rfl
            try simp only [Act.put, List.setIfInBounds_toArray, List.set_cons_zero, List.set_cons_succ]
            refine wpAnyH_ready (rs := [14]) (by kernel_rfl) (by simp) ?_
            refine ready_cons rfl (fun K hK => ?_) AllReadyH.nil
            go_simp
            refine (HR2.out _ _ (g0.roInts 9 rfl) (g0.fact 0 rfl).ints).mono ?_
            rintro (e : Ending) w6 ⟨u6, rfl, ho6, hb6⟩
            obtain ⟨A10, n10, c10, rfl⟩ := ho6.slice
            have g1 := g0.pushOwn hb6 ho6
            show K _ _
            refine hK.out _ _ ?_ (fun hHeld => ?_)
            · exact ⟨g1.box4 7 rfl, g1.box4 3 rfl⟩
            clear hK K
            try simp only [Act.put, List.setIfInBounds_toArray, List.set_cons_zero, List.set_cons_succ]
            refine wpAnyH_ready (rs := [16]) (by kernel_rfl) (by simp) ?_
            refine ready_cons rfl (fun K hK => ?_) AllReadyH.nil
            go_simp
            refine (HP2.out _ _ _ (g1.ownInts 0 rfl) (g1.ownInts 6 rfl)).mono ?_
            rintro (e : Ending) w7 ⟨u7, rfl, ho7, hb7⟩
            obtain ⟨A11, n11, c11, rfl⟩ := ho7.slice
            have g2 := g1.pushOwn hb7 ho7
            show K _ _
            refine hK.out _ _ ?_ (fun hHeld => ?_)
            · exact ⟨g2.box4 8 rfl, g2.box4 4 rfl⟩
            clear hK K
            try simp only [Act.put, List.setIfInBounds_toArray, List.set_cons_zero, List.set_cons_succ]
            refine wpAnyH_ready (rs := [17]) (by kernel_rfl) (by simp) ?_
            refine ready_cons rfl (fun K hK => ?_) AllReadyH.nil
            go_simp
            have ga := g2.alloc' (.cells #[.slice A11 n11 c11] 22)
            refine hK.out _ _ ?_ (fun hHeld => ?_)
            · exact ⟨ga.box4 8 rfl, ga.box4 4 rfl⟩
            clear hK K
            try simp only [Act.put, List.setIfInBounds_toArray, List.set_cons_zero, List.set_cons_succ]
            refine wpAnyH_done (by kernel_rfl) ?_ _
            show wpList _ _ _ _ _ _
            simp only [List.drop_succ_cons, List.drop_zero]
            clear hHeld
            clear g0 g1 ga g9 ho6 hb6 ho7 hb7 hrun
            go_wp2_with (at_builtin; refine wp_append_row' rfl (.tmp 36) (.tmp 53) rfl g2 2 rfl Hl2.out rfl rfl Hl3.out ?_; intro v1 w9 h10)
            go_roundw
            case rel => exact ⟨k0 + 1, us2 ++ [_], by go_num, by omega, by show _ = _; rw [List.length_append, Hu2.out]; rfl, by rw [HN.out]; exact h10.drop 2⟩
            case measure => simp [intOf]; omega
          · obtain rfl : k0 = nf := by omega
            have HQ := Lib.hid (show Q.take k0 = Q from List.take_of_length_le (by rw [Hrl.out]; exact Nat.le_refl _))
            rw [HQ.out] at g
            have Hu3 := Lib.hid (show us2.length = Q.length by rw [Hu2.out, Hrl.out])
            have HMo := Lib.hid (fun (W : World) (v1 : Value) (x1 : IntRows W v1 Q) => matrixOf_any q k0 v1 Q W x1 (by rw [Hto.out, Hrl.out]; have := mul_le (show k0 ≤ 40 by omega) (show k0 ≤ 40 by omega); omega))
            rw [← HF2.out, Hrl.out] at HMo
            subst hOL
            obtain ⟨z0, z1, z2⟩ := g.box3 6 rfl
            go_wp2_with fail
            refine (HMo.out _ _ (g.rowsR 0 rfl Hu3.out)).mono ?_
            rintro (e : Ending) w7 ⟨u7, rfl, ho7, hb7⟩
            obtain ⟨A8, n8, c8, rfl⟩ := ho7.slice
            have g1 := g.pushOwn hb7 ho7
            clear z0 z1 z2 g hb7 ho7
            go_wp2_with (at_builtin; refine wp_append_mat rfl (.tmp 56) (.tmp 63) rfl ⟨q, k0, k0, F⟩ g1 3 rfl Hlu.out rfl rfl Hl1.out ?_; intro v1 w9 h10)
            go_roundw
            case rel => exact ⟨i + 1, us ++ [_], by go_num, by omega, by show _ = _; rw [List.length_append, Hul.out]; rfl, by rw [HSt.out]; exact h10.drop 3⟩
            case measure => simp [intOf]; omega
      · obtain rfl : i = ms.length := by omega
        have Hlk := Lib.hid (show (mkTo (qmMt q s R piv) ms ms.length).length = ms.length from length_mkTo (Nat.le_refl _))
        have HU2 := Lib.hid (Hul.out.trans Hlk.out.symm)
        obtain ⟨A4, c4, rfl, _, _, _⟩ := id (g.mats 0 rfl HU2.out)
        go_wp2
        show Po (.returned (.tuple #[.slice A4 (mkTo (qmMt q s R piv) ms ms.length).length c4, .bool true])) _
        rw [HF.out]
        exact ⟨_, us, rfl, HU2.out, g.at 0 rfl, g.vecNodup 0 rfl, g.below⟩
end Go.Proofs.YtcdbgcpccmcbeaaGreat
