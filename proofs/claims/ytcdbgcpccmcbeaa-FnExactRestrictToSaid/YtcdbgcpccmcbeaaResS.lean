/- RestrictTo of the reference. -/
import Derived.Test.YtcdbgcpccmcbeaaResP
import Derived.Test.YtcdbgcpccmcbeaaMul
import Derived.Test.YtcdbgcpccmcbeaaFlt
namespace Go.Proofs.Ytcdbgcpccmcbeaa
set_option maxRecDepth 100000
open Go.RowKit

set_option maxHeartbeats 4000000 in
theorem RestrictToS_any (p n q r c : Int) (t v u : Value) (T D : List Int) (ms : List Mt) (w : World) (ht : Ints w t T) (hv : MatsR w v ms) (hu : Ints w u D) (hp0 : p ≤ 9223372036854775807) (hq : q ≤ 9223372036854775807) (hw : ∀ i, i < ms.length → (mAt ms i).p ≤ 9223372036854775807) :
    Calls Try.prog 49 #[.agg #[.int .i64 p, .int .i64 n, t], v, .agg #[.int .i64 q, .int .i64 r, .int .i64 c, u]] w (RetMsB w (rsMs p n T ms q r c D) (ismOk p n T ms q r c D)) := by
  have h1 := (((((St.start w).arg ht).arg hu).pushFact hv.fact).box [.int .i64 p, .int .i64 n, t] 29).box [.int .i64 q, .int .i64 r, .int .i64 c, u] 33
  simp only [World.size_alloc] at h1
  obtain ⟨A, k, rfl, _, _, _⟩ := id ht
  obtain ⟨A2, k2, rfl, _, _, _⟩ := id hv
  obtain ⟨A3, k3, rfl, _, _, _⟩ := id hu
  have HI := Lib.hid (fun (W : World) (h1 : Ints W (.slice A T.length k) T) (h2 : MatsR W (.slice A2 ms.length k2) ms) (h3 : Ints W (.slice A3 D.length k3) D) => IsSubmoduleS_any p n q r c _ _ _ T D ms W h1 h2 h3 hp0 hq hw)
  have HV := Lib.hid hv
  clear ht hv hu hw
  obtain ⟨Po, hPo⟩ : ∃ Po : Ending → World → Prop, Po = RetMsB w (rsMs p n T ms q r c D) (ismOk p n T ms q r c D) := ⟨_, rfl⟩
  rw [← hPo]
  obtain ⟨x0, x1, x2⟩ := h1.box3 1 rfl
  obtain ⟨y0, y1, y2, y3⟩ := h1.box4 0 rfl
  by_cases b1 : ismOk p n T ms q r c D = true
  case neg =>
    have b1 : ismOk p n T ms q r c D = false := by simpa using b1
    have HF := Lib.hid (show Po = RetMsB w [] false by rw [hPo, rsMs, b1]; rfl)
    have B1 := Lib.hid b1
    clear b1 hPo
    go_enter Try.func49, Try.ntmps49
    go_wp2_with fail
    refine (HI.out _ (h1.roInts 4 rfl) (h1.fact 2 rfl) (h1.roInts 3 rfl)).mono ?_
    rintro (e : Ending) w3 ⟨rfl, hb3⟩
    have g1 := h1.on hb3
    rw [B1.out]
    clear x0 x1 x2 y0 y1 y2 y3 hb3 h1
    go_wp2
    show Po (.returned (.tuple #[.slice none 0 0, .bool false])) _
    rw [HF.out]
    exact RetMsB.nil g1.below
  case pos =>
    obtain ⟨N, s, R, piv, rfl, rfl, rfl, rfl, hD, hR, hRs, hs30, hN28, hP, hml, hN0, hrm, hpv, hM, hcl⟩ := ism_spec b1
    obtain ⟨b1p, b2p⟩ := isPrime_bd hP
    have HF0 : Po = RetMsB w (mkTo (rsMt q s R piv) ms ms.length) true := by rw [hPo, rsMs, if_pos b1, hrm, Int.toNat_natCast, hpv, b1]
    have hDl : D.length = R.length * s := by rw [hD]; exact length_flat _ _
    have hDr : resid q D = true := by rw [hD]; exact resid_flat (by omega) hR.wf
    subst hml
    have hMul := fun (W : World) (v1 : Value) (E : List Int) (x1 : Ints W (.slice A3 D.length k3) D) (x2 : Ints W v1 E) (x3 : E.length = s * s) (x4 : resid q E = true) => l1Mul_any q q s R.length s s _ v1 D E W x1 x2 rfl hDl x3 (by omega) (by omega) (by omega) b1p b2p hDr x4
    have hmR := fun (i : Nat) => (show mulR q s R (mAt ms i) = rowsM R.length s (mulD q R.length s s D (mAt ms i).d) by rw [hD]; rfl)
    have hCo := fun (W : World) (v1 : Value) (i j : Nat) (hi : i < ms.length) (hj : j < R.length) (x1 : Ints W (.slice A3 D.length k3) D) (x2 : Ints W v1 (rowOf (mulR q s R (mAt ms i)) j)) => (show Calls Try.prog 125 #[.agg #[.int .i64 q, .int .i64 R.length, .int .i64 s, .slice A3 D.length k3], v1] W (RetOwnB W (atPiv piv (rowOf (mulR q s R (mAt ms i)) j)) true) by
      have hw := Wf_mulR b1p s R (mAt ms i) j (by rw [length_mulR]; exact hj)
      have h9 := l1Coordinates_any q s _ v1 R _ W (by rw [← hD]; exact x1) x2 hR.wf (by omega) (by omega) hw.1 hP hw.2
      rw [rs_sol hP hR hw.1 hw.2 (hcl i hi j hj), (solB_iff hP hR.wf hw.1 hw.2).2 (hcl i hi j hj)] at h9
      exact h9)
    have hRl := fun (i : Nat) => length_rsRows q s R piv (mAt ms i)
    have hRt := fun (i k : Nat) (h : k < R.length) => rsRows_take (p := q) (n := s) (piv := piv) (m := mAt ms i) h
    have hTo := fun (i : Nat) => total_rows (rsRows q s R piv (mAt ms i)) (rsRows_len hR.len)
    have hMt := fun (i : Nat) => (show rsMt q s R piv (mAt ms i) = ⟨q, R.length, R.length, (rsRows q s R piv (mAt ms i)).flatten⟩ from rfl)
    obtain ⟨r, hr⟩ : ∃ r, r = R.length := ⟨_, rfl⟩
    rw [← hr] at hMul hmR hCo hRl hRt hTo hMt hDl hRs h1 HI b1 y1 ⊢
    have HF := Lib.hid HF0
    have HMul := Lib.hid hMul
    have HmR := Lib.hid hmR
    have HCo := Lib.hid hCo
    have HRl := Lib.hid hRl
    have HRt := Lib.hid hRt
    have HTo := Lib.hid hTo
    have HMt := Lib.hid hMt
    have HM := Lib.hid hM
    have B1 := Lib.hid b1
    clear b1 hPo hD hR hP hN0 hrm hpv hM hcl HF0 hDl hDr hMul hmR hCo hRl hRt hTo hMt hr
    go_enter Try.func49, Try.ntmps49
    go_wp2_with fail
    refine (HI.out _ (h1.roInts 4 rfl) (h1.fact 2 rfl) (h1.roInts 3 rfl)).mono ?_
    rintro (e : Ending) w3 ⟨rfl, hb3⟩
    have g1 := (h1.on hb3).emptyMats
    rw [B1.out]
    clear x0 x1 x2 y0 y1 y2 y3 hb3 h1 HI
    go_wp2
    go_loopw [8, 9] (fun v8 v9 wr => ∃ (i : Nat) (us : List Value), v9 = .int .i64 i ∧ i ≤ ms.length ∧ Hid (us.length = i) ∧ St w wr [matsIt v8 us (mkTo (rsMt q s R piv) ms i), .box (w.heap.size + 1) [.int .i64 q, .int .i64 r, .int .i64 s, .slice A3 D.length k3], .box w.heap.size [.int .i64 q, .int .i64 ms.length, .slice A T.length k], .fact (fun w' => MatsR w' (.slice A2 ms.length k2) ms), .ro (.slice A3 D.length k3) D, .ro (.slice A T.length k) T]) (fun _ v9 _ => ms.length - (intOf v9).toNat)
    case atStart => exact ⟨0, [], rfl, by omega, Lib.hid rfl, by rw [mkTo_zero]; exact g1⟩
    case round =>
      clear g1
      obtain ⟨i, us, rfl, a1, Hul, g⟩ := hrel
      obtain ⟨x0, x1, x2⟩ := g.box3 2 rfl
      by_cases hi : i < ms.length
      · obtain ⟨b, off, A9, c9, hbA, hm⟩ := HV.out.at (i := i) hi
        rw [mAt_get hi] at hm
        obtain ⟨u1, u2, u3, u4, u5⟩ := HM.out i hi
        have hmr := HmR.out i
        have hrl := HRl.out i
        have hto := HTo.out i
        have hrt := HRt.out i
        have hco := fun (W : World) (v1 : Value) (j : Nat) (hj : j < r) x1 x2 => HCo.out W v1 i j hi hj x1 x2
        have hSt : mkTo (rsMt q s R piv) ms (i + 1) = mkTo (rsMt q s R piv) ms i ++ [⟨q, r, r, (rsRows q s R piv (mAt ms i)).flatten⟩] := by rw [mkTo_succ hi, HMt.out i]
        have hlk : (mkTo (rsMt q s R piv) ms i).length = i := length_mkTo (by omega)
        obtain ⟨E, hE⟩ : ∃ E, E = (mAt ms i).d := ⟨_, rfl⟩
        have hmf : MtAt w b (off + i * 4) ⟨q, s, s, E⟩ (.slice A9 E.length c9) := by unfold MtAt at hm ⊢; rw [u1, u2, u3, ← hE] at hm; exact hm
        rw [← hE] at u4 u5 hmr
        obtain ⟨Q, hQ⟩ : ∃ Q, Q = rsRows q s R piv (mAt ms i) := ⟨_, rfl⟩
        rw [← hQ] at hrl hto hrt hSt
        obtain ⟨P9, hP9⟩ : ∃ P9, P9 = mulD q r s s D E := ⟨_, rfl⟩
        rw [← hP9] at hmr
        have hPl : P9.length = r * s := by rw [hP9, length_mulD]
        have hMj : ∀ j, j < r → rowOf (mulR q s R (mAt ms i)) j = rowM s P9 j := fun j hj => by rw [hmr, rowOf_rowsM hj]
        have hMu := fun (W : World) (x1 : Ints W (.slice A3 D.length k3) D) (x2 : Ints W (.slice A9 E.length c9) E) => HMul.out W _ E x1 x2 u4 u5
        have hRo := fun (W : World) (v1 : Value) (j : Nat) (x1 : Ints W v1 P9) (hj : j < r) => l1Row_any q r s v1 P9 j W.heap.size W x1.toB (Nat.le_refl _) hPl (by have := mul_le (show r ≤ 40 by omega) (show s ≤ 40 by omega); omega) (by omega) hj
        rw [← hP9] at hMu
        obtain ⟨F, hF⟩ : ∃ F, F = Q.flatten := ⟨_, rfl⟩
        rw [← hF] at hSt
        have h4 := g.pushOld hmf.fact
        have HMu := Lib.hid hMu
        have HRo := Lib.hid hRo
        have HMj := Lib.hid hMj
        have Hrt := Lib.hid hrt
        have Hrl := Lib.hid hrl
        have Hto := Lib.hid hto
        have HSt := Lib.hid hSt
        have HF2 := Lib.hid hF
        have Hco := Lib.hid hco
        have Hlu := Lib.hid (Hul.out.trans hlk.symm)
        have Hl1 := Lib.hid (show (mkTo (rsMt q s R piv) ms i).length + 1 ≤ 1099511627776 by rw [hlk]; omega)
        have iM : (i : Int) < (ms.length : Int) := by omega
        subst hbA
        clear hm hmf u1 u2 u3 u4 u5 hmr hrl hto hrt hSt hlk hE hQ hP9 hPl hMu hRo hF hMj hco g
        go_upto_region 7 with fail
        clear x0 x1 x2
        go_cut [10] (fun s10 wx => ∃ (Bx : Nat) (A5 : Option Addr) (n5 c5 : Nat), s10 = .pointer (some ⟨Bx, 0, none⟩) ∧ St w wx [.own (.slice A5 n5 c5) P9, .fact (fun w' => MtAt w' b (off + i * 4) ⟨q, s, s, E⟩ (.slice A9 E.length c9)), matsIt u8 us (mkTo (rsMt q s R piv) ms i), .box (w.heap.size + 1) [.int .i64 q, .int .i64 r, .int .i64 s, .slice A3 D.length k3], .box w.heap.size [.int .i64 q, .int .i64 ms.length, .slice A T.length k], .fact (fun w' => MatsR w' (.slice (some ⟨b, off, none⟩) ms.length k2) ms), .ro (.slice A3 D.length k3) D, .ro (.slice A T.length k) T, .box Bx [.int .i64 q, .int .i64 r, .int .i64 s, .slice A5 n5 c5]])
        case first =>
          have g := h4.drew
          clear h4
          refine wp_region_cut (S := fun w' => (w'.cell? ⟨w.heap.size + 1, 0, none⟩ = some (.int .i64 q) ∧ w'.cell? ⟨w.heap.size + 1, 1, none⟩ = some (.int .i64 r) ∧ w'.cell? ⟨w.heap.size + 1, 2, none⟩ = some (.int .i64 s) ∧ w'.cell? ⟨w.heap.size + 1, 3, none⟩ = some (.slice A3 D.length k3)) ∧ w'.cell? ⟨b, off + i * 4, none⟩ = some (.int .i64 q) ∧ w'.cell? ⟨b, off + i * 4 + 1, none⟩ = some (.int .i64 s) ∧ w'.cell? ⟨b, off + i * 4 + 2, none⟩ = some (.int .i64 s) ∧ w'.cell? ⟨b, off + i * 4 + 3, none⟩ = some (.slice A9 E.length c9)) 7 (by kernel_rfl) (by kernel_rfl) ⟨g.box4 2 rfl, (g.fact 0 rfl).1, (g.fact 0 rfl).2.1, (g.fact 0 rfl).2.2.1, (g.fact 0 rfl).2.2.2.1⟩ (fun hHeld => ?_)
          simp only [List.take_succ_cons, List.take_zero]
          generalize wr.drew = v0 at g hHeld ⊢
          refine anyH_take (v := ?_) 0 rfl (by kernel_rfl) (by kernel_rfl) (by kernel_rfl) (fun _ _ _ h => h) rfl ?_ hHeld ?_
          rotate_left
          · intro w' hSw
            go_simp
            try with_reducible rfl
          try simp only [Act.put, List.setIfInBounds_toArray, List.set_cons_zero, List.set_cons_succ]
          refine anyH_take (v := ?_) 1 rfl (by kernel_rfl) (by kernel_rfl) (by kernel_rfl) (fun _ _ _ h => h) rfl ?_ hHeld ?_
          rotate_left
          · intro w' hSw
            go_simp
            try with_reducible rfl
          try simp only [Act.put, List.setIfInBounds_toArray, List.set_cons_zero, List.set_cons_succ]
          refine anyH_take (v := ?_) 2 rfl (by kernel_rfl) (by kernel_rfl) (by kernel_rfl) (fun _ _ _ h => h) rfl ?_ hHeld ?_
          rotate_left
          · intro w' hSw
            go_simp
            try with_reducible rfl
          try simp only [Act.put, List.setIfInBounds_toArray, List.set_cons_zero, List.set_cons_succ]
          refine anyH_take (v := ?_) 3 rfl (by kernel_rfl) (by kernel_rfl) (by kernel_rfl) (fun _ _ _ h => h) rfl ?_ hHeld ?_
          rotate_left
          · intro w' hSw
            go_simp
            try with_reducible rfl
          try simp only [Act.put, List.setIfInBounds_toArray, List.set_cons_zero, List.set_cons_succ]
          refine anyH_take (v := ?_) 4 rfl (by kernel_rfl) (by kernel_rfl) (by kernel_rfl) (fun _ _ _ h => h) rfl ?_ hHeld ?_
          rotate_left
          · intro w' hSw
            go_simp
            try with_reducible rfl
          try simp only [Act.put, List.setIfInBounds_toArray, List.set_cons_zero, List.set_cons_succ]
          refine wpAnyH_ready (rs := [5, 6]) (by kernel_rfl) (by simp) ?_
          refine ready_cons rfl (fun K hK => ?_) (ready_cons rfl (fun K hK => ?_) AllReadyH.nil)
          · go_simp
            refine (HMu.out _ (g.roInts 5 rfl) (g.fact 0 rfl).2.2.2.2).mono ?_
            rintro (e : Ending) w5 ⟨u5, rfl, ho5, hb5⟩
            obtain ⟨A5, n5, c5, rfl⟩ := ho5.slice
            replace g := g.pushOwn hb5 ho5
            show K _ _
            refine hK.out _ _ ?_ (fun hHeld => ?_)
            · exact ⟨g.box4 3 rfl, (g.fact 1 rfl).1, (g.fact 1 rfl).2.1, (g.fact 1 rfl).2.2.1, (g.fact 1 rfl).2.2.2.1⟩
            clear hK K
            try simp only [Act.put, List.setIfInBounds_toArray, List.set_cons_zero, List.set_cons_succ]
            refine wpAnyH_ready (rs := [6]) (by kernel_rfl) (by simp) ?_
            refine ready_cons rfl (fun K hK => ?_) AllReadyH.nil
            · go_simp
              replace g := (g.box [.int .i64 0, .int .i64 0, .int .i64 0, .slice none 0 0] 33).toBack
              simp only [List.cons_append, List.nil_append] at g
              refine hK.out _ _ ?_ (fun hHeld => ?_)
              · exact ⟨g.box4 3 rfl, (g.fact 1 rfl).1, (g.fact 1 rfl).2.1, (g.fact 1 rfl).2.2.1, (g.fact 1 rfl).2.2.2.1⟩
              clear hK K
              generalize w5.alloc (.cells #[.int .i64 0, .int .i64 0, .int .i64 0, .slice none 0 0] 33) = va at g hHeld ⊢
              try simp only [Act.put, List.setIfInBounds_toArray, List.set_cons_zero, List.set_cons_succ]
              refine wpAnyH_done (by kernel_rfl) ?_ _
              show wpList _ _ _ _ _ _
              simp only [List.drop_succ_cons, List.drop_zero]
              clear hHeld
              obtain ⟨p0, p1, p2, p3⟩ := g.box4 8 rfl
              have f0 := g.free 8 rfl 0
              have f1 := g.free 8 rfl 1
              have f2 := g.free 8 rfl 2
              have f3 := g.free 8 rfl 3
              have g4 := (((g.setBox 8 rfl 0 (.int .i64 q)).setBox 8 rfl 1 (.int .i64 r)).setBox 8 rfl 2 (.int .i64 s)).setBox 8 rfl 3 (.slice A5 n5 c5)
              obtain ⟨r0, r1, r2, r3⟩ := g4.box4 8 rfl
              go_wp2
              go_meet
              exact ⟨_, A5, n5, c5, rfl, g4⟩
          · go_simp
            replace g := (g.box [.int .i64 0, .int .i64 0, .int .i64 0, .slice none 0 0] 33).toBack
            simp only [List.cons_append, List.nil_append] at g
            refine hK.out _ _ ?_ (fun hHeld => ?_)
            · exact ⟨g.box4 2 rfl, (g.fact 0 rfl).1, (g.fact 0 rfl).2.1, (g.fact 0 rfl).2.2.1, (g.fact 0 rfl).2.2.2.1⟩
            clear hK K
            generalize v0.alloc (.cells #[.int .i64 0, .int .i64 0, .int .i64 0, .slice none 0 0] 33) = va at g hHeld ⊢
            try simp only [Act.put, List.setIfInBounds_toArray, List.set_cons_zero, List.set_cons_succ]
            refine wpAnyH_ready (rs := [5]) (by kernel_rfl) (by simp) ?_
            refine ready_cons rfl (fun K hK => ?_) AllReadyH.nil
            · go_simp
              refine (HMu.out _ (g.roInts 5 rfl) (g.fact 0 rfl).2.2.2.2).mono ?_
              rintro (e : Ending) w5 ⟨u5, rfl, ho5, hb5⟩
              obtain ⟨A5, n5, c5, rfl⟩ := ho5.slice
              replace g := g.pushOwn hb5 ho5
              show K _ _
              refine hK.out _ _ ?_ (fun hHeld => ?_)
              · exact ⟨g.box4 3 rfl, (g.fact 1 rfl).1, (g.fact 1 rfl).2.1, (g.fact 1 rfl).2.2.1, (g.fact 1 rfl).2.2.2.1⟩
              clear hK K
              try simp only [Act.put, List.setIfInBounds_toArray, List.set_cons_zero, List.set_cons_succ]
              refine wpAnyH_done (by kernel_rfl) ?_ _
              show wpList _ _ _ _ _ _
              simp only [List.drop_succ_cons, List.drop_zero]
              clear hHeld
              obtain ⟨p0, p1, p2, p3⟩ := g.box4 8 rfl
              have f0 := g.free 8 rfl 0
              have f1 := g.free 8 rfl 1
              have f2 := g.free 8 rfl 2
              have f3 := g.free 8 rfl 3
              have g4 := (((g.setBox 8 rfl 0 (.int .i64 q)).setBox 8 rfl 1 (.int .i64 r)).setBox 8 rfl 2 (.int .i64 s)).setBox 8 rfl 3 (.slice A5 n5 c5)
              obtain ⟨r0, r1, r2, r3⟩ := g4.box4 8 rfl
              go_wp2
              go_meet
              exact ⟨_, A5, n5, c5, rfl, g4⟩
        obtain ⟨Bx, A5, n5, c5, rfl, g⟩ := hcut
        have h8 := g.emptyRows
        obtain ⟨y0, y1, y2, y3⟩ := h8.box4 4 rfl
        go_wp2
        clear y0 y1 y2 y3 g
        obtain ⟨OL, hOL, h9⟩ : ∃ OL, OL = _ ∧ St w _ (rowsIt _ [] [] :: OL) := ⟨_, rfl, h8⟩
        clear h8
        go_loopw [11, 12, 13, 14] (fun v11 v12 _ _ wr => ∃ (k0 : Nat) (us2 : List Value), v12 = .int .i64 k0 ∧ k0 ≤ r ∧ Hid (us2.length = k0) ∧ St w wr (rowsIt v11 us2 (Q.take k0) :: OL)) (fun _ v12 _ _ _ => r - (intOf v12).toNat)
        case atStart => exact ⟨0, [], rfl, by omega, Lib.hid rfl, by rw [List.take_zero]; exact h9⟩
        case round =>
          clear h9
          obtain ⟨k0, us2, rfl, a2, Hu2, g⟩ := hrel
          subst hOL
          obtain ⟨y0, y1, y2, y3⟩ := g.box4 4 rfl
          by_cases hk : k0 < r
          · have HN := Lib.hid (Hrt.out k0 hk)
            have Hl2 := Lib.hid (show us2.length = (Q.take k0).length by rw [Hu2.out, List.length_take, Hrl.out]; omega)
            have Hl3 := Lib.hid (show (Q.take k0).length + 1 ≤ 1099511627776 by rw [List.length_take]; omega)
            have HC2 := Lib.hid (fun (W : World) (v1 : Value) x1 x2 => Hco.out W v1 k0 hk x1 x2)
            rw [HMj.out k0 hk] at HC2 HN
            have HR2 := Lib.hid (fun (W : World) (v1 : Value) x1 => HRo.out W v1 k0 x1 hk)
            obtain ⟨X, hX⟩ : ∃ X, X = atPiv piv (rowM s P9 k0) := ⟨_, rfl⟩
            rw [← hX] at HC2 HN
            have ik : (k0 : Int) < (r : Int) := by omega
            clear hX
            go_upto_region 12 with fail
            clear y0 y1 y2 y3
            have g0 := g.drew
            refine wp_region_held_drew (S := fun w' => (w'.cell? ⟨w.heap.size + 1, 0, none⟩ = some (.int .i64 q) ∧ w'.cell? ⟨w.heap.size + 1, 1, none⟩ = some (.int .i64 r) ∧ w'.cell? ⟨w.heap.size + 1, 2, none⟩ = some (.int .i64 s) ∧ w'.cell? ⟨w.heap.size + 1, 3, none⟩ = some (.slice A3 D.length k3)) ∧ (w'.cell? ⟨Bx, 0, none⟩ = some (.int .i64 q) ∧ w'.cell? ⟨Bx, 1, none⟩ = some (.int .i64 r) ∧ w'.cell? ⟨Bx, 2, none⟩ = some (.int .i64 s) ∧ w'.cell? ⟨Bx, 3, none⟩ = some (.slice A5 n5 c5))) (by kernel_rfl) ⟨g0.box4 4 rfl, g0.box4 9 rfl⟩ (fun hHeld => ?_)
            refine anyH_take (v := ?_) 0 rfl (by kernel_rfl) (by kernel_rfl) (by kernel_rfl) (fun _ _ _ h => h) rfl ?_ hHeld ?_
            rotate_left
            · intro w' hSw
              go_simp
              try with_reducible rfl
            try simp only [Act.put, List.setIfInBounds_toArray, List.set_cons_zero, List.set_cons_succ]
            refine anyH_take (v := ?_) 1 rfl (by kernel_rfl) (by kernel_rfl) (by kernel_rfl) (fun _ _ _ h => h) rfl ?_ hHeld ?_
            rotate_left
            · intro w' hSw
              go_simp
              try with_reducible rfl
            try simp only [Act.put, List.setIfInBounds_toArray, List.set_cons_zero, List.set_cons_succ]
            refine anyH_take (v := ?_) 2 rfl (by kernel_rfl) (by kernel_rfl) (by kernel_rfl) (fun _ _ _ h => h) rfl ?_ hHeld ?_
            rotate_left
            · intro w' hSw
              go_simp
              try with_reducible rfl
            try simp only [Act.put, List.setIfInBounds_toArray, List.set_cons_zero, List.set_cons_succ]
            refine wpAnyH_ready (rs := [3]) (by kernel_rfl) (by simp) ?_
            refine ready_cons rfl (fun K hK => ?_) AllReadyH.nil
            go_simp
            refine (HR2.out _ _ (g0.ownInts 1 rfl)).mono ?_
            rintro (e : Ending) w5 ⟨A6, c6, rfl, hr5, hb5⟩
            have g1 := g0.on hb5
            show K _ _
            refine hK.out _ _ ?_ (fun hHeld => ?_)
            · exact ⟨g1.box4 4 rfl, g1.box4 9 rfl⟩
            clear hK K
            try simp only [Act.put, List.setIfInBounds_toArray, List.set_cons_zero, List.set_cons_succ]
            refine wpAnyH_ready (rs := [4]) (by kernel_rfl) (by simp) ?_
            refine ready_cons rfl (fun K hK => ?_) AllReadyH.nil
            go_simp
            refine (HC2.out _ _ (g1.roInts 7 rfl) hr5.ints).mono ?_
            rintro (e : Ending) w6 ⟨u6, rfl, ho6, hb6⟩
            obtain ⟨A7, n7, c7, rfl⟩ := ho6.slice
            have g2 := g1.pushOwn hb6 ho6
            show K _ _
            refine hK.out _ _ ?_ (fun hHeld => ?_)
            · exact ⟨g2.box4 5 rfl, g2.box4 10 rfl⟩
            clear hK K
            try simp only [Act.put, List.setIfInBounds_toArray, List.set_cons_zero, List.set_cons_succ]
            refine anyH_take (v := ?_) 5 rfl (by kernel_rfl) (by kernel_rfl) (by kernel_rfl) (fun _ _ _ h => h) rfl ?_ hHeld ?_
            rotate_left
            · intro w' hSw
              go_simp
              try with_reducible rfl
            try simp only [Act.put, List.setIfInBounds_toArray, List.set_cons_zero, List.set_cons_succ]
            refine anyH_take (v := ?_) 6 rfl (by kernel_rfl) (by kernel_rfl) (by kernel_rfl) (fun _ _ _ h => h) rfl ?_ hHeld ?_
            rotate_left
            · intro w' hSw
              go_simp
              try with_reducible rfl
            try simp only [Act.put, List.setIfInBounds_toArray, List.set_cons_zero, List.set_cons_succ]
            refine anyH_take (v := ?_) 7 rfl (by kernel_rfl) (by kernel_rfl) (by kernel_rfl) (fun _ _ _ h => h) rfl ?_ hHeld ?_
            rotate_left
            · intro w' hSw
              go_simp
              try with_reducible rfl
            try simp only [Act.put, List.setIfInBounds_toArray, List.set_cons_zero, List.set_cons_succ]
            refine anyH_take (v := ?_) 8 rfl (by kernel_rfl) (by kernel_rfl) (by kernel_rfl) (fun _ _ _ h => h) rfl ?_ hHeld ?_
            rotate_left
            · intro w' hSw
              go_simp
              try with_reducible rfl
            try simp only [Act.put, List.setIfInBounds_toArray, List.set_cons_zero, List.set_cons_succ]
            refine anyH_take (v := ?_) 9 rfl (by kernel_rfl) (by kernel_rfl) (by kernel_rfl) (fun _ _ _ h => h) rfl ?_ hHeld ?_
            rotate_left
            · intro w' hSw
              go_simp
              try with_reducible rfl
            try simp only [Act.put, List.setIfInBounds_toArray, List.set_cons_zero, List.set_cons_succ]
            refine wpAnyH_done (by kernel_rfl) ?_ _
            clear hHeld
            clear g g0 g1 hr5 hb5 ho6 hb6
            go_wp2_with (at_builtin; refine wp_append_row' rfl (.tmp 48) (.tmp 50) rfl g2 0 rfl Hl2.out rfl rfl Hl3.out ?_; intro v1 w9 h10)
            go_roundw
            case rel => exact ⟨k0 + 1, us2 ++ [_], by go_num, by omega, by show _ = _; rw [List.length_append, Hu2.out]; rfl, by rw [HN.out]; exact h10⟩
            case measure => simp [intOf]; omega
          · obtain rfl : k0 = r := by omega
            have HQ := Lib.hid (show Q.take k0 = Q from List.take_of_length_le (by rw [Hrl.out]; exact Nat.le_refl _))
            rw [HQ.out] at g
            have Hu3 := Lib.hid (show us2.length = Q.length by rw [Hu2.out, Hrl.out])
            have HMo := Lib.hid (fun (W : World) (v1 : Value) (x1 : IntRows W v1 Q) => l1Rows_any q k0 v1 Q W x1 (by rw [Hto.out, Hrl.out]; have := mul_le (show k0 ≤ 40 by omega) (show k0 ≤ 40 by omega); omega))
            rw [← HF2.out, Hrl.out] at HMo
            obtain ⟨z0, z1, z2⟩ := g.box3 5 rfl
            go_wp2_with fail
            refine (HMo.out _ _ (g.rowsR 0 rfl Hu3.out)).mono ?_
            rintro (e : Ending) w7 ⟨u7, rfl, ho7, hb7⟩
            obtain ⟨A8, n8, c8, rfl⟩ := ho7.slice
            have g1 := g.pushOwn hb7 ho7
            clear y0 y1 y2 y3 z0 z1 z2 g hb7 ho7
            go_wp2_with (at_builtin; refine wp_append_mat rfl (.tmp 52) (.tmp 59) rfl ⟨q, k0, k0, F⟩ g1 3 rfl Hlu.out rfl rfl Hl1.out ?_; intro v1 w9 h10)
            go_roundw
            case rel => exact ⟨i + 1, us ++ [_], by go_num, by omega, by show _ = _; rw [List.length_append, Hul.out]; rfl, by rw [HSt.out]; exact ((h10.drop 3).toFront 6 rfl).drop 1⟩
            case measure => simp [intOf]; omega
      · obtain rfl : i = ms.length := by omega
        have Hlk := Lib.hid (show (mkTo (rsMt q s R piv) ms ms.length).length = ms.length from length_mkTo (Nat.le_refl _))
        have HU2 := Lib.hid (Hul.out.trans Hlk.out.symm)
        obtain ⟨A4, c4, rfl, _, _, _⟩ := id (g.mats 0 rfl HU2.out)
        go_wp2
        show Po (.returned (.tuple #[.slice A4 (mkTo (rsMt q s R piv) ms ms.length).length c4, .bool true])) _
        rw [HF.out]
        exact ⟨_, us, rfl, HU2.out, g.at 0 rfl, g.vecNodup 0 rfl, g.below⟩
end Go.Proofs.Ytcdbgcpccmcbeaa
