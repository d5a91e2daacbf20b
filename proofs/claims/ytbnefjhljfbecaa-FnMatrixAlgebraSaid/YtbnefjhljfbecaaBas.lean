/- The program's bases: newBasis, coords. -/
import Derived.Test.YtbnefjhljfbecaaKerI
import Derived.Test.YtbnefjhljfbecaaTbl
import Derived.Test.YtbnefjhljfbecaaSerS
namespace Go.Proofs.Ytbnefjhljfbecaa
set_option maxRecDepth 100000
open Go.RowKit

theorem St.box6 {w0 w : World} {L : List It} (h : St w0 w L) (i : Nat) {b : Nat} {x y z u v t : Value} (hi : L[i]? = some (.box b [x, y, z, u, v, t])) : w.cell? ⟨b, 0, none⟩ = some x ∧ w.cell? ⟨b, 1, none⟩ = some y ∧ w.cell? ⟨b, 2, none⟩ = some z ∧ w.cell? ⟨b, 3, none⟩ = some u ∧ w.cell? ⟨b, 4, none⟩ = some v ∧ w.cell? ⟨b, 5, none⟩ = some t :=
  ⟨h.cell i hi 0 rfl, h.cell i hi 1 rfl, h.cell i hi 2 rfl, h.cell i hi 3 rfl, h.cell i hi 4 rfl, h.cell i hi 5 rfl⟩
theorem St.nilRows {w0 w : World} {L : List It} (h : St w0 w L) : St w0 w (rowsIt (.slice none 0 0) [] [] :: L) :=
  h.push (x := rowsIt (.slice none 0 0) [] []) (Below.refl _ _) vec_nil (fun b hb => by simp [rowsIt, It.fp, Value.ownBlock] at hb) (by simp [rowsIt, It.fp, Value.ownBlock])
/-- The columns with a pivot below n, of the first i pivots. -/
def pivB (n : Nat) (piv : List Nat) (i : Nat) : List Nat := (piv.take i).filter fun c => decide (c < n)
theorem pivB_yes {n : Nat} {piv : List Nat} {i : Nat} (h : i < piv.length) (hc : pv piv i < n) : pivB n piv (i + 1) = pivB n piv i ++ [pv piv i] := by
  rw [pivB, take_piv h, List.filter_append]; simp [pivB, hc]
theorem pivB_no {n : Nat} {piv : List Nat} {i : Nat} (h : i < piv.length) (hc : ¬ pv piv i < n) : pivB n piv (i + 1) = pivB n piv i := by
  rw [pivB, take_piv h, List.filter_append]; simp [pivB, hc]
theorem length_pivB (n : Nat) (piv : List Nat) (i : Nat) : (pivB n piv i).length ≤ i := Nat.le_trans (List.length_filter_le _ _) (by rw [List.length_take]; omega)
theorem besL_take {S : List (List Int)} {i : Nat} (h : i < S.length) : (besL S).take (i + 1) = (besL S).take i ++ [besR S i] := by
  rw [List.take_succ_eq_append_getElem (by rw [length_besL]; exact h)]; simp [besL]
/-- What newBasis leaves. -/
def RetBas (w : World) (p : Int) (n : Nat) (S : List (List Int)) (e : Ending) (w' : World) : Prop :=
  ∃ vr vp us, e = .returned (.agg #[.bool (decide ((pivL p n S).length = S.length)), .int .i64 p, .int .i64 n, .int .i64 S.length, vr, vp]) ∧ us.length = (reduceL p (n + S.length) (besL S)).1.length ∧
    St w w' [.own vp (pivI (pivL p n S)), rowsIt vr us (reduceL p (n + S.length) (besL S)).1]

set_option maxHeartbeats 1000000 in
theorem newBasis_any (p : Int) (n : Nat) (v : Value) (S : List (List Int)) (w : World) (hv : IntRows w v S) (hW : Wf p n S) (hm : S.length ≤ 4096) (hn : n ≤ 4096) (hP : isPrime p = true) :
    Calls Try.prog 24 #[v, .int .i64 n, .int .i64 p] w (RetBas w p n S) := by
  obtain ⟨b1, b2⟩ := isPrime_bd hP
  obtain ⟨A, c1, rfl, _, hc1, g3⟩ := id hv
  have HV := Lib.hid hv
  have hbw := Wf_besL b1 hW
  have hbl := length_besL S
  have hok := reduceL_ok (p := p) (by omega) hbw
  have hst := reduceL_st hP hbw
  have hbr := (bes_rf hP hW).1
  have hrl := hok.len
  have hpl := hok.piv
  rw [hbl] at hrl hpl
  unfold RetBas
  obtain ⟨b, hb⟩ : ∃ b, b = decide ((pivL p n S).length = S.length) := ⟨_, rfl⟩
  obtain ⟨m, hmm⟩ : ∃ m, m = S.length := ⟨_, rfl⟩
  obtain ⟨Q, hQ⟩ : ∃ Q, Q = pivL p n S := ⟨_, rfl⟩
  obtain ⟨Rd, hRd⟩ : ∃ Rd, Rd = (reduceL p (n + S.length) (besL S)).1 := ⟨_, rfl⟩
  obtain ⟨piv, hpiv⟩ : ∃ piv, piv = (reduceL p (n + S.length) (besL S)).2 := ⟨_, rfl⟩
  have hpiv2 : pivL p (n + S.length) (besL S) = piv := by rw [hpiv]; rfl
  rw [hpiv2, ← hQ] at hbr
  rw [← hb, ← hQ, ← hRd, ← hmm]
  rw [← hQ, ← hmm] at hb
  rw [← hRd] at hrl
  rw [← hpiv] at hpl
  rw [← hmm] at hrl hpl hbl hm
  have hpb : ∀ i, i < piv.length → pv piv i < n + m := fun i hi => by rw [hpiv, hmm]; rw [hpiv] at hi; exact hst.lt i hi
  have HW := Lib.hid hW
  have Hbw := Lib.hid hbw
  have Hbl := Lib.hid hbl
  have HRd := Lib.hid hRd
  have Hpiv := Lib.hid hpiv
  have Hbr := Lib.hid (show pivB n piv piv.length = Q by rw [pivB, List.take_length]; exact hbr)
  have Hrl := Lib.hid hrl
  have HP := Lib.hid hP
  have Hb := Lib.hid hb
  have Hmm := Lib.hid hmm
  have Hpb := Lib.hid hpb
  have h1 := ((((St.start w).pushFact hv.fact).box [.bool false, .int .i64 0, .int .i64 0, .int .i64 0, .slice none 0 0, .slice none 0 0] 52).pushOwn (Below.refl _ _) Own.nil).nilRows
  replace h1 := h1.box [.bool false, .int .i64 p, .int .i64 n, .int .i64 m, .slice none 0 0, .slice none 0 0] 52
  simp only [World.size_alloc] at h1
  rw [← hmm] at h1
  clear g3 hv hW hbw hbl hok hst hbr hrl hb hmm hQ hRd hpiv hpiv2 hP hpb
  go_enter Try.func24, Try.ntmps24
  go_wp2
  go_loopw [8, 9, 19] (fun _ _ v19 wr => ∃ (i : Nat) (us : List Value) (Ar : Option Addr) (cr : Nat), v19 = .int .i64 i ∧ i ≤ m ∧ Hid (us.length = i) ∧ St w wr [.box (w.heap.size + 1) [.bool false, .int .i64 p, .int .i64 n, .int .i64 m, .slice Ar i cr, .slice none 0 0], rowsIt (.slice Ar i cr) us ((besL S).take i), .own (.slice none 0 0) [], .box w.heap.size [.bool false, .int .i64 0, .int .i64 0, .int .i64 0, .slice none 0 0, .slice none 0 0], .fact fun w' => IntRows w' (.slice A m c1) S]) (fun _ _ v19 _ => m - (intOf v19).toNat)
  case atStart => exact ⟨0, [], none, 0, rfl, by omega, rfl, h1⟩
  case round =>
    clear h1
    obtain ⟨i, us, Ar, cr, rfl, a1, Hul, h1⟩ := hrel
    by_cases hi : i < m
    · have hiS : i < S.length := by rw [← Hmm.out]; exact hi
      obtain ⟨bb, off, A9, c9, hAA, hmf⟩ := HV.out.at (i := i) hiS
      rw [rowOf_eq hiS] at hmf
      have hrl9 := (HW.out i hiS).1
      rw [hrl9] at hmf
      subst hAA
      have HT := Lib.hid (besL_take hiS)
      have Hbes := Lib.hid (show rowOf S i ++ unitL m i = besR S i by rw [besR, ← Hmm.out])
      have Hl := Lib.hid (show us.length = ((besL S).take i).length by rw [Hul.out, List.length_take, Hbl.out]; omega)
      have Hl1 := Lib.hid (show ((besL S).take i).length + 1 ≤ 1099511627776 by rw [List.length_take]; omega)
      have HU := Lib.hid (fun W => unit_any m i W (by omega) hi)
      have HCl := Lib.hid (fun (W : World) (v : Value) (h : Ints W v (rowOf S i)) => Clone_any v (rowOf S i) W h (by rw [hrl9]; omega))
      have HLen := Lib.hid (show (rowOf S i).length + (unitL m i).length ≤ 17592186044416 by rw [hrl9, length_unitL]; omega)
      replace h1 := h1.pushOld hmf.fact
      obtain ⟨y0, y1⟩ := h1.fact 0 rfl
      have i1 : (i : Int) < m := by omega
      clear hmf hrl9
      go_upto_region 5 with fail
      clear y0 y1
      have g0 := h1.drew
      refine wp_region_cut (S := fun w' => (w'.cell? ⟨w.heap.size + 1, 0, none⟩ = some (.bool false) ∧ w'.cell? ⟨w.heap.size + 1, 1, none⟩ = some (.int .i64 p) ∧ w'.cell? ⟨w.heap.size + 1, 2, none⟩ = some (.int .i64 n) ∧ w'.cell? ⟨w.heap.size + 1, 3, none⟩ = some (.int .i64 m) ∧ w'.cell? ⟨w.heap.size + 1, 4, none⟩ = some (.slice Ar i cr) ∧ w'.cell? ⟨w.heap.size + 1, 5, none⟩ = some (.slice none 0 0))) 12 (by kernel_rfl) (by kernel_rfl) (g0.box6 1 rfl) (fun hHeld => ?_)
      simp only [List.take_succ_cons, List.take_zero]
      refine anyH_take (v := ?_) 0 rfl (by kernel_rfl) (by kernel_rfl) (by kernel_rfl) (fun _ _ _ h => h) rfl ?_ hHeld ?_
      rotate_left
      · intro w' hSw
        go_simp
        try with_reducible rfl
      try simp only [Act.put, List.setIfInBounds_toArray, List.set_cons_zero, List.set_cons_succ]
      refine anyH_take (v := ?_) 1 rfl (by kernel_rfl) (by kernel_rfl) (by kernel_rfl) (fun _ _ _ h => h) rfl ?_ hHeld ?_
      rotate_left
      · intro w' hSw
        go_simp
        try with_reducible rfl
      try simp only [Act.put, List.setIfInBounds_toArray, List.set_cons_zero, List.set_cons_succ]
      refine anyH_take (v := ?_) 2 rfl (by kernel_rfl) (by kernel_rfl) (by kernel_rfl) (fun _ _ _ h => h) rfl ?_ hHeld ?_
      rotate_left
      · intro w' hSw
        go_simp
        try with_reducible rfl
      try simp only [Act.put, List.setIfInBounds_toArray, List.set_cons_zero, List.set_cons_succ]
      refine anyH_take (v := ?_) 4 rfl (by kernel_rfl) (by kernel_rfl) (by kernel_rfl) (fun _ _ _ h => h) rfl ?_ hHeld ?_
      rotate_left
      · intro w' hSw
        go_simp
        try with_reducible rfl
      try simp only [Act.put, List.setIfInBounds_toArray, List.set_cons_zero, List.set_cons_succ]
      refine anyH_take (v := ?_) 5 rfl (by kernel_rfl) (by kernel_rfl) (by kernel_rfl) (fun _ _ _ h => h) rfl ?_ hHeld ?_
      rotate_left
      · intro w' hSw
        go_simp
        try with_reducible rfl
      try simp only [Act.put, List.setIfInBounds_toArray, List.set_cons_zero, List.set_cons_succ]
      refine anyH_take (v := ?_) 6 rfl (by kernel_rfl) (by kernel_rfl) (by kernel_rfl) (fun _ _ _ h => h) rfl ?_ hHeld ?_
      rotate_left
      · intro w' hSw
        go_simp
        try with_reducible rfl
      try simp only [Act.put, List.setIfInBounds_toArray, List.set_cons_zero, List.set_cons_succ]
      refine wpAnyH_ready (rs := [3]) (by kernel_rfl) (by simp) ?_
      refine ready_cons rfl (fun K hK => ?_) AllReadyH.nil
      go_simp
      refine (HCl.out _ _ (g0.fact 0 rfl).2).mono ?_
      rintro (e : Ending) w4 ⟨u4, rfl, ho4, hb4⟩
      obtain ⟨A4, n4, c4, rfl⟩ := ho4.slice
      have g1 := g0.pushOwn hb4 ho4
      show K _ _
      refine hK.out _ _ ?_ (fun hHeld => ?_)
      · exact (g1.box6 2 rfl)
      clear hK K
      try simp only [Act.put, List.setIfInBounds_toArray, List.set_cons_zero, List.set_cons_succ]
      refine wpAnyH_ready (rs := [7]) (by kernel_rfl) (by simp) ?_
      refine ready_cons rfl (fun K hK => ?_) AllReadyH.nil
      go_simp
      refine (HU.out _).mono ?_
      rintro (e : Ending) w5 ⟨u5, rfl, ho5, hb5⟩
      obtain ⟨A5, n5, c5, rfl⟩ := ho5.slice
      have g2 := g1.pushOwn hb5 ho5
      show K _ _
      refine hK.out _ _ ?_ (fun hHeld => ?_)
      · exact (g2.box6 3 rfl)
      clear hK K
      try simp only [Act.put, List.setIfInBounds_toArray, List.set_cons_zero, List.set_cons_succ]
      refine wpAnyH_ready (rs := [8]) (by kernel_rfl) (by simp) ?_
      refine ready_cons rfl (fun K hK => ?_) AllReadyH.nil
      refine step_append_ints rfl (.tmp 27) (.tmp 31) rfl g2 1 rfl (g2.ownInts 0 rfl) HLen.out rfl rfl fun vA w6 g3 => ?_
      simp only [List.set_cons_zero, List.set_cons_succ] at g3
      obtain ⟨A6, n6, c6, rfl⟩ := (g3.own 1 rfl).slice
      refine hK.out _ _ ?_ (fun hHeld => ?_)
      · exact (g3.box6 3 rfl)
      clear hK K
      try simp only [Act.put, List.setIfInBounds_toArray, List.set_cons_zero, List.set_cons_succ]
      have g4 := g3.drop 1
      simp only [List.drop_succ_cons, List.drop_zero] at g4
      rw [Hbes.out] at g4
      refine wpAnyH_ready (rs := [9]) (by kernel_rfl) (by simp) ?_
      refine ready_cons rfl (fun K hK => ?_) AllReadyH.nil
      go_simp
      have ga := g4.alloc' (.cells #[.slice A6 n6 c6] 26)
      refine hK.out _ _ ?_ (fun hHeld => ?_)
      · exact (ga.box6 2 rfl)
      clear hK K
      try simp only [Act.put, List.setIfInBounds_toArray, List.set_cons_zero, List.set_cons_succ]
      refine wpAnyH_ready (rs := [10]) (by kernel_rfl) (by simp) ?_
      refine ready_cons rfl (fun K hK => ?_) AllReadyH.nil
      refine step_append_row rfl (.tmp 25) (.tmp 33) rfl g4 2 rfl Hl.out rfl rfl Hl1.out fun vB w7 g5 => ?_
      simp only [List.set_cons_zero, List.set_cons_succ] at g5
      rw [← HT.out] at g5
      have Hu5 := Lib.hid (show (us ++ [Value.slice A6 n6 c6]).length = ((besL S).take (i + 1)).length by rw [List.length_append, Hul.out, List.length_take, Hbl.out, List.length_singleton]; omega)
      obtain ⟨Ar2, cr2, hvB, _, _, _⟩ := id (g5.rowsR 2 rfl Hu5.out)
      rw [show ((besL S).take (i + 1)).length = i + 1 by rw [List.length_take, Hbl.out]; omega] at hvB
      subst hvB
      refine hK.out _ _ ?_ (fun hHeld => ?_)
      · exact (g5.box6 1 rfl)
      clear hK K
      try simp only [Act.put, List.setIfInBounds_toArray, List.set_cons_zero, List.set_cons_succ]
      refine anyH_take (v := ?_) 11 rfl (by kernel_rfl) (by kernel_rfl) (by kernel_rfl) (fun _ _ _ h => h) rfl ?_ hHeld ?_
      rotate_left
      · intro w' hSw
        go_simp
        try with_reducible rfl
      try simp only [Act.put, List.setIfInBounds_toArray, List.set_cons_zero, List.set_cons_succ]
      refine wpAnyH_done (by kernel_rfl) ?_ _
      show wpList _ _ _ _ _ _
      simp only [List.drop_succ_cons, List.drop_zero]
      clear hHeld
      have f4 := g5.free 1 rfl 4
      obtain ⟨p0, p1, p2, p3, p4, p5⟩ := g5.box6 1 rfl
      have h6 := g5.setBox 1 rfl 4 (.slice Ar2 (i + 1) cr2)
      simp only [List.set_cons_zero, List.set_cons_succ] at h6
      replace h6 := h6.drop 1
      clear g0 g1 g2 g3 g4 g5 ga h1 ho4 hb4 ho5 hb5
      go_wp2
      go_roundw
      case rel => exact ⟨i + 1, us ++ [Value.slice A6 n6 c6], Ar2, cr2, by go_num, by omega, by show _ = _; rw [List.length_append, Hul.out]; rfl, h6⟩
      case measure => simp [intOf]; omega
    · obtain rfl : i = m := by omega
      rw [List.take_of_length_le (by rw [Hbl.out]; exact Nat.le_refl _)] at h1
      have h2 := h1.front 1 rfl
      simp only [List.eraseIdx_cons_succ, List.eraseIdx_cons_zero] at h2
      obtain ⟨z0, z1, z2, z3, z4, z5⟩ := h2.box6 1 rfl
      have wn : IntKind.i64.wrap ((n : Int) + (i : Int)) = ((n + i : Nat) : Int) := by rw [wrap_ok (by omega) (by omega)]; omega
      have HR := Lib.hid (show ∀ (W : World) (L : List It), St w W (rowsIt (.slice Ar i cr) us (besL S) :: L) → Calls Try.prog 53 #[.slice Ar i cr, .int .i64 ((n + i : Nat) : Int), .int .i64 p] W fun e w' => ∃ u us', e = .returned u ∧ us'.length = (besL S).length ∧ St w w' (.own u (pivI piv) :: rowsIt (.slice Ar i cr) us' Rd :: L) from fun W L hst => by
        have := reduce_st p (n + i) (.slice Ar i cr) us (besL S) hst (Hul.out.trans Hbl.out.symm) (by rw [Hmm.out]; exact Hbw.out) (by rw [Hbl.out]; omega) (by omega) HP.out
        rw [show n + i = n + S.length by rw [Hmm.out], ← HRd.out, ← Hpiv.out] at this
        rw [show n + i = n + S.length by rw [Hmm.out]]
        exact this)
      go_wp2_with fail
      refine (HR.out _ _ h2).mono ?_
      rintro (e : Ending) w4 ⟨u4, us4, rfl, hul4, h3⟩
      obtain ⟨A4, c4, rfl, _, _, _⟩ := id (h3.ownInts 0 rfl)
      rw [length_pivI] at h3 ⊢
      have Hul4 := Lib.hid hul4
      have h4 := (h3.front 2 rfl).front 3 rfl
      simp only [List.eraseIdx_cons_succ, List.eraseIdx_cons_zero] at h4
      clear h1 h2 h3 hul4 z0 z1 z2 z3 z4 z5 wn HR
      go_wp2
      go_loopw [11, 46] (fun _ v46 wr => ∃ (k : Nat) (Ap : Option Addr) (np cp : Nat), v46 = .int .i64 k ∧ k ≤ piv.length ∧ Hid (np = (pivB n piv k).length) ∧ St w wr [.own (.slice Ap np cp) (pivI (pivB n piv k)), .box (w.heap.size + 1) [.bool false, .int .i64 p, .int .i64 n, .int .i64 i, .slice Ar i cr, .slice Ap np cp], .own (.slice A4 piv.length c4) (pivI piv), rowsIt (.slice Ar i cr) us4 Rd, .box w.heap.size [.bool false, .int .i64 0, .int .i64 0, .int .i64 0, .slice none 0 0, .slice none 0 0], .fact fun w' => IntRows w' (.slice A i c1) S]) (fun _ v46 _ => piv.length - (intOf v46).toNat)
      case atStart => exact ⟨0, none, 0, 0, rfl, by omega, rfl, h4⟩
      case round =>
        clear h4
        obtain ⟨k, Ap, np, cp, rfl, a2, Hnp, h4⟩ := hrel
        by_cases hk : k < piv.length
        · obtain ⟨gp, rfl, hq8⟩ := h4.ownSomeA 2 rfl (by rw [length_pivI]; omega)
          clear hq8
          have pc := (h4.ownCellA 2 rfl (q := k) (by rw [length_pivI]; exact hk)).1
          rw [vec_pivI hk] at pc
          have hcb := Hpb.out k hk
          have k1 : (k : Int) < piv.length := by omega
          by_cases hcn : pv piv k < n
          · have HN := Lib.hid (pivB_yes hk hcn)
            obtain ⟨ck, hck⟩ : ∃ ck, ck = pv piv k := ⟨_, rfl⟩
            rw [← hck] at pc hcn HN
            have t1 : (ck : Int) < n := by omega
            have Hl1 := Lib.hid (show (pivI (pivB n piv k)).length + 1 ≤ 17592186044416 by rw [length_pivI]; have := length_pivB n piv k; omega)
            obtain ⟨x0, x1, x2, x3, x4, x5⟩ := h4.box6 1 rfl
            have h4a := h4.alloc' (.cells #[.int .i64 ck] 3)
            obtain ⟨xa0, xa1, xa2, xa3, xa4, xa5⟩ := h4a.box6 1 rfl
            clear hck
            go_wp2_with (at_builtin; refine wp_append_ints rfl (.tmp 54) (.tmp 56) rfl w.heap.size _ _ (pivI (pivB n piv k)) [((ck : Nat) : Int)] rfl rfl (h4a.own 0 rfl) Ints.one Hl1.out h4a.size ?_; intro v1 w7 ho1 hg1 hb1; have h5 := h4a.appended 0 rfl ho1 hg1 hb1; obtain ⟨A7, n7, c7, rfl⟩ := ho1.slice; obtain ⟨_, _, hq7, _⟩ := id ho1.ints; simp only [Value.slice.injEq] at hq7; have Hn7 := Lib.hid hq7.2.1; clear hq7; obtain ⟨p0, p1, p2, p3, p4, p5⟩ := h5.box6 1 rfl; have f5 := h5.free 1 rfl 5)
            have h6 := h5.setBox 1 rfl 5 (.slice A7 n7 c7)
            simp only [List.set_cons_zero, List.set_cons_succ] at h6
            go_roundw
            case rel => exact ⟨k + 1, A7, n7, c7, by go_num, by omega, by show _ = _; rw [Hn7.out, HN.out, List.length_append, List.length_append, length_pivI]; rfl, by rw [HN.out, pivI_snoc]; exact h6⟩
            case measure => simp [intOf]; omega
          · have HN := Lib.hid (pivB_no hk hcn)
            obtain ⟨ck, hck⟩ : ∃ ck, ck = pv piv k := ⟨_, rfl⟩
            rw [← hck] at pc hcn
            have t1 : ¬ ((ck : Int) < n) := by omega
            clear hck
            go_wp2
            go_roundw
            case rel => exact ⟨k + 1, Ap, np, cp, by go_num, by omega, by show _ = _; rw [HN.out]; exact Hnp.out, by rw [HN.out]; exact h4⟩
            case measure => simp [intOf]; omega
        · obtain rfl : k = piv.length := by omega
          rw [Hbr.out] at h4 Hnp
          obtain ⟨x0, x1, x2, x3, x4, x5⟩ := h4.box6 1 rfl
          have f0 := h4.free 1 rfl 0
          have hbb : ((np : Int) == (i : Int)) = b := by
            rw [Hb.out, Hnp.out, Bool.eq_iff_iff, beq_iff_eq, decide_eq_true_eq]; omega
          have h5 := h4.setBox 1 rfl 0 (.bool b)
          simp only [List.set_cons_zero, List.set_cons_succ] at h5
          obtain ⟨y0, y1, y2, y3, y4, y5⟩ := h5.box6 1 rfl
          obtain ⟨p0, p1, p2, p3, p4, p5⟩ := h5.box6 4 rfl
          have f0 := h5.free 4 rfl 0
          have f1 := h5.free 4 rfl 1
          have f2 := h5.free 4 rfl 2
          have f3 := h5.free 4 rfl 3
          have f4 := h5.free 4 rfl 4
          have f5 := h5.free 4 rfl 5
          have h6 := (((((h5.setBox 4 rfl 0 (.bool b)).setBox 4 rfl 1 (.int .i64 p)).setBox 4 rfl 2 (.int .i64 n)).setBox 4 rfl 3 (.int .i64 i)).setBox 4 rfl 4 (.slice Ar i cr)).setBox 4 rfl 5 (.slice Ap np cp)
          obtain ⟨r0, r1, r2, r3, r4, r5⟩ := h6.box6 4 rfl
          have h7 := ((((h6.erase 5).erase 4).erase 2).erase 1)
          simp only [List.set_cons_zero, List.set_cons_succ, List.eraseIdx_cons_succ, List.eraseIdx_cons_zero] at h7
          go_wp2
          refine bodyPost_ret (v := .agg #[.bool b, .int .i64 p, .int .i64 n, .int .i64 i, .slice Ar i cr, .slice Ap np cp]) (by simp [results, Try.results24, go_sem, r0, r1, r2, r3, r4, r5]) rfl ⟨_, _, us4, rfl, by rw [Hul4.out, Hbl.out, Hrl.out], h7⟩
end Go.Proofs.Ytbnefjhljfbecaa
