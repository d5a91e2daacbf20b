/- RestrictTo of the program. -/
import Derived.Test.YtcdbgcpccmcbeaaResP
import Derived.Test.YtcdbgcpccmcbeaaIsmI
import Derived.Test.YtcdbgcpccmcbeaaPick
import Derived.Test.YtcdbgcpccmcbeaaMul
namespace Go.Proofs.Ytcdbgcpccmcbeaa
set_option maxRecDepth 100000
open Go.RowKit

set_option maxHeartbeats 4000000 in
theorem RestrictToI_any (p n q r c : Int) (t v u : Value) (T D : List Int) (ms : List Mt) (w : World) (ht : Ints w t T) (hv : MatsR w v ms) (hu : Ints w u D) (hp0 : p ≤ 9223372036854775807) (hq : q ≤ 9223372036854775807) (hw : ∀ i, i < ms.length → (mAt ms i).p ≤ 9223372036854775807) :
    Calls Try.prog 50 #[.agg #[.int .i64 p, .int .i64 n, t], v, .agg #[.int .i64 q, .int .i64 r, .int .i64 c, u]] w (RetMsB w (rsMs p n T ms q r c D) (ismOk p n T ms q r c D)) := by
  have h1 := (((((St.start w).arg ht).arg hu).pushFact hv.fact).box [.int .i64 p, .int .i64 n, t] 29).box [.int .i64 q, .int .i64 r, .int .i64 c, u] 33
  simp only [World.size_alloc] at h1
  obtain ⟨A, k, rfl, _, _, _⟩ := id ht
  obtain ⟨A2, k2, rfl, _, _, _⟩ := id hv
  obtain ⟨A3, k3, rfl, _, _, _⟩ := id hu
  have HI := Lib.hid (fun (W : World) (h1 : Ints W (.slice A T.length k) T) (h2 : MatsR W (.slice A2 ms.length k2) ms) (h3 : Ints W (.slice A3 D.length k3) D) => IsSubmoduleI_any p n q r c _ _ _ T D ms W h1 h2 h3 hp0 hq hw)
  have HV := Lib.hid hv
  clear ht hv hu hw
  obtain ⟨Po, hPo⟩ : ∃ Po : Ending → World → Prop, Po = RetMsB w (rsMs p n T ms q r c D) (ismOk p n T ms q r c D) := ⟨_, rfl⟩
  rw [← hPo]
  obtain ⟨x0, x1, x2⟩ := h1.box3 1 rfl
  obtain ⟨y0, y1, y2, y3⟩ := h1.box4 0 rfl
  by_cases b1 : ismOk p n T ms q r c D = true
  case neg =>
    have b1 : ismOk p n T ms q r c D = false := by simpa using b1
    have HF := Lib.hid (show Po = RetMsB w [] false by rw [hPo, rsMs, b1]; rfl)
    have B1 := Lib.hid b1
    clear b1 hPo
    go_enter Try.func50, Try.ntmps50
    go_wp2_with fail
    refine (HI.out _ (h1.roInts 4 rfl) (h1.fact 2 rfl) (h1.roInts 3 rfl)).mono ?_
    rintro (e : Ending) w3 ⟨rfl, hb3⟩
    have g1 := h1.on hb3
    rw [B1.out]
    clear x0 x1 x2 y0 y1 y2 y3 hb3 h1
    go_wp2
    show Po (.returned (.tuple #[.slice none 0 0, .bool false])) _
    rw [HF.out]
    exact RetMsB.nil g1.below
  case pos =>
    obtain ⟨N, s, R, piv, rfl, rfl, rfl, rfl, hD, hR, hRs, hs30, hN28, hP, hml, hN0, hrm, hpv, hM, hcl⟩ := ism_spec b1
    obtain ⟨b1p, b2p⟩ := isPrime_bd hP
    have HF0 : Po = RetMsB w (mkTo (rsMt q s R piv) ms ms.length) true := by rw [hPo, rsMs, if_pos b1, hrm, Int.toNat_natCast, hpv, b1]
    have hDl : D.length = R.length * s := by rw [hD]; exact length_flat _ _
    have hDr : resid q D = true := by rw [hD]; exact resid_flat (by omega) hR.wf
    have hMul := fun (W : World) (v1 : Value) (E : List Int) (x1 : Ints W (.slice A3 D.length k3) D) (x2 : Ints W v1 E) (x3 : E.length = s * s) (x4 : resid q E = true) => times_any q q s R.length s s _ v1 D E W x1 x2 hDl x3 (by omega) (by omega) (by omega) b1p b2p hDr x4
    have hmR := fun (i : Nat) => (show mulR q s R (mAt ms i) = rowsM R.length s (mulD q R.length s s D (mAt ms i).d) by rw [hD]; rfl)
    have hPv : ∀ (W : World) (x1 : Ints W (.slice A3 D.length k3) D), Calls Try.prog 78 #[.agg #[.int .i64 q, .int .i64 R.length, .int .i64 s, .slice A3 D.length k3]] W (RetOwn W (pivI piv)) := fun W x1 => pivotsOf_any q s R piv _ W (by rw [← hD]; exact x1) hR (by omega) (by omega)
    have hpl : piv.length ≤ 30 := by rw [← hR.len]; omega
    have hlt := hR.lt
    have hRl := fun (i : Nat) => length_rsRows q s R piv (mAt ms i)
    have hRt := fun (i k : Nat) (h : k < R.length) => rsRows_take (p := q) (n := s) (piv := piv) (m := mAt ms i) h
    have hTo := fun (i : Nat) => total_rows (rsRows q s R piv (mAt ms i)) (rsRows_len hR.len)
    have hMt := fun (i : Nat) => (show rsMt q s R piv (mAt ms i) = ⟨q, R.length, R.length, (rsRows q s R piv (mAt ms i)).flatten⟩ from rfl)
    obtain ⟨r, hr⟩ : ∃ r, r = R.length := ⟨_, rfl⟩
    rw [← hr] at hMul hmR hPv hRl hRt hTo hMt hDl hRs h1 HI b1 y1 ⊢
    have HF := Lib.hid HF0
    have HMul := Lib.hid hMul
    have HmR := Lib.hid hmR
    have HPv := Lib.hid hPv
    have Hlt := Lib.hid hlt
    have HRl := Lib.hid hRl
    have HRt := Lib.hid hRt
    have HTo := Lib.hid hTo
    have HMt := Lib.hid hMt
    have HM := Lib.hid hM
    have Hml := Lib.hid hml
    have B1 := Lib.hid b1
    have ml28 : ms.length ≤ 28 := by omega
    clear b1 hPo hD hR hP hml hN0 hrm hpv hM hcl HF0 hDl hDr hMul hmR hPv hlt hRl hRt hTo hMt hr hN28
    go_enter Try.func50, Try.ntmps50
    go_wp2_with fail
    refine (HI.out _ (h1.roInts 4 rfl) (h1.fact 2 rfl) (h1.roInts 3 rfl)).mono ?_
    rintro (e : Ending) w3 ⟨rfl, hb3⟩
    have g1 := (h1.on hb3).emptyMats
    rw [B1.out]
    clear x0 x1 x2 y0 y1 y2 y3 hb3 h1 HI
    go_wp2
    go_loopw [8, 22] (fun v8 v22 wr => ∃ (i : Nat) (us : List Value), v22 = .int .i64 i ∧ i ≤ ms.length ∧ Hid (us.length = i) ∧ St w wr [matsIt v8 us (mkTo (rsMt q s R piv) ms i), .box (w.heap.size + 1) [.int .i64 q, .int .i64 r, .int .i64 s, .slice A3 D.length k3], .box w.heap.size [.int .i64 q, .int .i64 N, .slice A T.length k], .fact (fun w' => MatsR w' (.slice A2 ms.length k2) ms), .ro (.slice A3 D.length k3) D, .ro (.slice A T.length k) T]) (fun _ v22 _ => ms.length - (intOf v22).toNat)
    case atStart => exact ⟨0, [], rfl, by omega, Lib.hid rfl, by rw [mkTo_zero]; exact g1⟩
    case round =>
      clear g1
      obtain ⟨i, us, rfl, a1, Hul, g⟩ := hrel
      by_cases hi : i < ms.length
      · obtain ⟨b, off, A9, c9, hbA, hm⟩ := HV.out.at (i := i) hi
        rw [mAt_get hi] at hm
        obtain ⟨u1, u2, u3, u4, u5⟩ := HM.out i hi
        have hmr := HmR.out i
        have hrl := HRl.out i
        have hto := HTo.out i
        have hrt := HRt.out i
        have hSt : mkTo (rsMt q s R piv) ms (i + 1) = mkTo (rsMt q s R piv) ms i ++ [⟨q, r, r, (rsRows q s R piv (mAt ms i)).flatten⟩] := by rw [mkTo_succ hi, HMt.out i]
        have hrr : rsRows q s R piv (mAt ms i) = (mulR q s R (mAt ms i)).map (atPiv piv) := rfl
        have hlk : (mkTo (rsMt q s R piv) ms i).length = i := length_mkTo (by omega)
        obtain ⟨E, hE⟩ : ∃ E, E = (mAt ms i).d := ⟨_, rfl⟩
        have hmf : MtAt w b (off + i * 4) ⟨q, s, s, E⟩ (.slice A9 E.length c9) := by unfold MtAt at hm ⊢; rw [u1, u2, u3, ← hE] at hm; exact hm
        rw [← hE] at u4 u5 hmr
        obtain ⟨Q, hQ⟩ : ∃ Q, Q = rsRows q s R piv (mAt ms i) := ⟨_, rfl⟩
        rw [← hQ] at hrl hto hrt hSt
        obtain ⟨P9, hP9⟩ : ∃ P9, P9 = mulD q r s s D E := ⟨_, rfl⟩
        rw [← hP9] at hmr
        have hPl : P9.length = r * s := by rw [hP9, length_mulD]
        obtain ⟨M, hM⟩ : ∃ M, M = rowsM r s P9 := ⟨_, rfl⟩
        have hMl : M.length = r := by rw [hM]; exact length_rowsM _ _ _
        have hMr : ∀ j, j < r → (rowOf M j).length = s := fun j hj => by rw [hM, rowOf_rowsM hj]; exact length_rowM _ _ _
        have hMu := fun (W : World) (x1 : Ints W (.slice A3 D.length k3) D) (x2 : Ints W (.slice A9 E.length c9) E) => HMul.out W _ E x1 x2 u4 u5
        have hRw := fun (W : World) (v1 : Value) (x1 : Ints W v1 P9) => rowsOf_any q r s v1 P9 W x1 hPl (by have := mul_le (show r ≤ 40 by omega) (show s ≤ 40 by omega); omega) (by omega)
        rw [← hP9] at hMu
        rw [← hM] at hRw hmr
        rw [hmr] at hrt
        obtain ⟨F, hF⟩ : ∃ F, F = Q.flatten := ⟨_, rfl⟩
        rw [← hF] at hSt
        have h4 := g.pushOld hmf.fact
        have HMu := Lib.hid hMu
        have HRw := Lib.hid hRw
        have HMl := Lib.hid hMl
        have HMr := Lib.hid hMr
        have Hrt := Lib.hid hrt
        have Hrl := Lib.hid hrl
        have Hto := Lib.hid hto
        have HSt := Lib.hid hSt
        have HF2 := Lib.hid hF
        have Hlu := Lib.hid (Hul.out.trans hlk.symm)
        have Hl1 := Lib.hid (show (mkTo (rsMt q s R piv) ms i).length + 1 ≤ 1099511627776 by rw [hlk]; omega)
        have iM : (i : Int) < (ms.length : Int) := by omega
        subst hbA
        clear hm hmf u1 u2 u3 u4 u5 hmr hrl hto hrt hSt hrr hlk hE hQ hP9 hPl hM hMl hMr hMu hRw hF g
        obtain ⟨q0, q1, q2, q3, _⟩ := h4.fact 0 rfl
        have h6 := (h4.box [.int .i64 q, .int .i64 s, .int .i64 s, .slice A9 E.length c9] 33).emptyRows
        simp only [World.size_alloc] at h6
        obtain ⟨x0, x1, x2, x3⟩ := h6.box4 1 rfl
        obtain ⟨y0, y1, y2, y3⟩ := h6.box4 4 rfl
        go_wp2_with fail
        refine (HMu.out _ (h6.roInts 7 rfl) (h6.fact 2 rfl).2.2.2.2).mono ?_
        rintro (e : Ending) w5 ⟨u5, rfl, ho5, hb5⟩
        obtain ⟨A5, n5, c5, rfl⟩ := ho5.slice
        have h7 := h6.pushOwn hb5 ho5
        clear q0 q1 q2 q3 x0 x1 x2 x3 y0 y1 y2 y3 h4 h6 hb5 ho5
        go_wp2_with fail
        refine (HRw.out _ _ (h7.ownInts 0 rfl)).mono ?_
        rintro (e : Ending) w6 ⟨u6, us6, rfl, hul6, hok6, hnd6, hb6⟩
        obtain ⟨A6, c6, rfl, _, _, _⟩ := id (It.rows hok6 hul6)
        have h8 := (h7.pushRows hb6 hok6 hnd6).toFront 2 rfl
        have Hu6 := Lib.hid hul6
        rw [HMl.out] at h8 ⊢
        simp only [List.eraseIdx_cons_succ, List.eraseIdx_cons_zero] at h8
        clear h7 hb6 hok6 hnd6 hul6
        generalize hBx : wr.heap.size = Bx at h8 ⊢
        clear hBx
        obtain ⟨OL, hOL, h9⟩ : ∃ OL, OL = _ ∧ St w w6 (rowsIt _ [] [] :: rowsIt (.slice A6 r c6) us6 M :: OL) := ⟨_, rfl, h8⟩
        clear h8
        go_wp2
        go_loopw [11, 32] (fun v11 v32 wr => ∃ (k0 : Nat) (us2 : List Value), v32 = .int .i64 k0 ∧ k0 ≤ r ∧ Hid (us2.length = k0) ∧ St w wr (rowsIt v11 us2 (Q.take k0) :: rowsIt (.slice A6 r c6) us6 M :: OL)) (fun _ v32 _ => r - (intOf v32).toNat)
        case atStart => exact ⟨0, [], rfl, by omega, Lib.hid rfl, by rw [List.take_zero]; exact h9⟩
        case round =>
          clear h9
          obtain ⟨k0, us2, rfl, a2, Hu2, g⟩ := hrel
          by_cases hk : k0 < r
          · obtain ⟨gm, rfl⟩ := g.vecSome 1 rfl (by rw [HMl.out]; omega)
            obtain ⟨A7, c7, hui, e0, _⟩ := g.row 1 rfl Hu6.out HMl.out.symm (k := k0) (by rw [HMl.out]; exact hk)
            rw [HMr.out k0 hk] at hui e0
            have Hui := Lib.hid hui
            have HN := Lib.hid (Hrt.out k0 hk)
            have Hl2 := Lib.hid (show us2.length = (Q.take k0).length by rw [Hu2.out, List.length_take, Hrl.out]; omega)
            have Hl3 := Lib.hid (show (Q.take k0).length + 1 ≤ 1099511627776 by rw [List.length_take]; omega)
            have HPk := Lib.hid (fun (W : World) (v0 v1 : Value) (x0 : Ints W v0 (rowOf M k0)) (x1 : Ints W v1 (pivI piv)) => pick_any v0 v1 _ piv W x0 x1 (by rw [HMr.out k0 hk]; exact Hlt.out) (by rw [HMr.out k0 hk]; omega) (by omega))
            have ik : (k0 : Int) < (r : Int) := by omega
            subst hOL
            obtain ⟨y0, y1, y2, y3⟩ := g.box4 6 rfl
            clear hui
            go_wp2_with fail
            refine (HPv.out _ (g.roInts 9 rfl)).mono ?_
            rintro (e : Ending) w7 ⟨u7, rfl, ho7, hb7⟩
            obtain ⟨A8, n8, c8, rfl⟩ := ho7.slice
            have g1 := g.pushOwn hb7 ho7
            clear y0 y1 y2 y3 e0 g hb7 ho7
            go_wp2_with fail
            refine (HPk.out _ _ _ (g1.rowAt 2 rfl HMl.out.symm Hui.out (by rw [HMl.out]; exact hk)).2 (g1.ownInts 0 rfl)).mono ?_
            rintro (e : Ending) w8 ⟨u8, rfl, ho8, hb8⟩
            obtain ⟨A10, n10, c10, rfl⟩ := ho8.slice
            have g2 := g1.pushOwn hb8 ho8
            clear g1 hb8 ho8
            go_wp2_with (at_builtin; refine wp_append_row' rfl (.tmp 36) (.tmp 41) rfl g2 1 rfl Hl2.out rfl rfl Hl3.out ?_; intro v1 w9 h10)
            go_roundw
            case rel => exact ⟨k0 + 1, us2 ++ [_], by go_num, by omega, by show _ = _; rw [List.length_append, Hu2.out]; rfl, by rw [HN.out]; exact h10.drop 1⟩
            case measure => simp [intOf]; omega
          · obtain rfl : k0 = r := by omega
            have HQ := Lib.hid (show Q.take k0 = Q from List.take_of_length_le (by rw [Hrl.out]; exact Nat.le_refl _))
            rw [HQ.out] at g
            have Hu3 := Lib.hid (show us2.length = Q.length by rw [Hu2.out, Hrl.out])
            have HMo := Lib.hid (fun (W : World) (v1 : Value) (x1 : IntRows W v1 Q) => matrixOf_any q k0 v1 Q W x1 (by rw [Hto.out, Hrl.out]; have := mul_le (show k0 ≤ 40 by omega) (show k0 ≤ 40 by omega); omega))
            rw [← HF2.out, Hrl.out] at HMo
            subst hOL
            obtain ⟨y0, y1, y2, y3⟩ := g.box4 6 rfl
            obtain ⟨z0, z1, z2⟩ := g.box3 7 rfl
            go_wp2_with fail
            refine (HMo.out _ _ (g.rowsR 0 rfl Hu3.out)).mono ?_
            rintro (e : Ending) w7 ⟨u7, rfl, ho7, hb7⟩
            obtain ⟨A8, n8, c8, rfl⟩ := ho7.slice
            have g1 := g.pushOwn hb7 ho7
            clear y0 y1 y2 y3 z0 z1 z2 g hb7 ho7
            go_wp2_with (at_builtin; refine wp_append_mat rfl (.tmp 44) (.tmp 51) rfl ⟨q, k0, k0, F⟩ g1 5 rfl Hlu.out rfl rfl Hl1.out ?_; intro v1 w9 h10)
            go_roundw
            case rel => exact ⟨i + 1, us ++ [_], by go_num, by omega, by show _ = _; rw [List.length_append, Hul.out]; rfl, by rw [HSt.out]; exact h10.drop 5⟩
            case measure => simp [intOf]; omega
      · obtain rfl : i = ms.length := by omega
        have Hlk := Lib.hid (show (mkTo (rsMt q s R piv) ms ms.length).length = ms.length from length_mkTo (Nat.le_refl _))
        have HU2 := Lib.hid (Hul.out.trans Hlk.out.symm)
        obtain ⟨A4, c4, rfl, _, _, _⟩ := id (g.mats 0 rfl HU2.out)
        go_wp2
        show Po (.returned (.tuple #[.slice A4 (mkTo (rsMt q s R piv) ms ms.length).length c4, .bool true])) _
        rw [HF.out]
        exact ⟨_, us, rfl, HU2.out, g.at 0 rfl, g.vecNodup 0 rfl, g.below⟩
end Go.Proofs.Ytcdbgcpccmcbeaa
