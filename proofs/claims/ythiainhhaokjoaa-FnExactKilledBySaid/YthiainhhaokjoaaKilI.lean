/- KilledBy of the program. -/
import Derived.Test.YthiainhhaokjoaaKilV
import Derived.Test.YthiainhhaokjoaaKerI
import Derived.Test.YthiainhhaokjoaaRegX
import Derived.Test.YthiainhhaokjoaaAtL
namespace Go.Proofs.Ythiainhhaokjoaa
set_option maxRecDepth 100000
open Go.RowKit

theorem rowOf_colR {s : Nat} {D : List Int} {c : Nat} (hc : c < s) : rowOf (colR s D) c = tab s fun i => vec D (i * s + c) := by
  rw [colR, rowOf_rowsM hc, rowM]
  refine list_ext (by rw [length_tab, length_tab]) fun j hj => ?_
  rw [length_tab] at hj
  have h0 : 0 < s := by omega
  have h1 : (c * s + j) / s = c := by rw [Nat.mul_comm, Nat.mul_add_div h0, Nat.div_eq_of_lt hj, Nat.add_zero]
  have h2 : (c * s + j) % s = j := by rw [Nat.mul_comm, Nat.mul_add_mod, Nat.mod_eq_of_lt hj]
  rw [vec_tab hj, vec_tab hj, trD, vec_tab (spot_lt hc hj), h1, h2]
theorem colR_take {s : Nat} {D : List Int} {c : Nat} (hc : c < s) : (colR s D).take (c + 1) = (colR s D).take c ++ [tab s fun i => vec D (i * s + c)] := by
  have h : c < (colR s D).length := by rw [length_colR]; exact hc
  rw [List.take_succ_eq_append_getElem h, rowOf_eq h, rowOf_colR hc]
theorem rowOf_dsK {ms : List Mt} {i : Nat} (h : i < ms.length) : rowOf (ms.map Mt.d) i = (mAt ms i).d := by simp [rowOf, mAt, List.getD_eq_getElem?_getD, h]
theorem tab_next (n : Nat) (f : Nat → Int) : tab (n + 1) f = tab n f ++ [f n] := by simp [tab, List.range_succ]

set_option maxHeartbeats 4000000 in
theorem killedBy_any (p : Int) (s : Nat) (v u : Value) (ms : List Mt) (els : List Int) (w : World) (hv : MatsR w v ms) (hu : Ints w u els) (h0 : 0 < ms.length) (hM : ∀ i, i < ms.length → (mAt ms i).p = p ∧ (mAt ms i).r = s ∧ (mAt ms i).c = s ∧ (mAt ms i).d.length = s * s ∧ resid p (mAt ms i).d = true) (hE : ∀ j, j < els.length → 0 ≤ Go.Proofs.Ythiainhhaokjoaa.vec els j ∧ Go.Proofs.Ythiainhhaokjoaa.vec els j < ms.length) (hl : els.length ≤ 1048576) (hs : s ≤ 30) (hP : isPrime p = true) :
    Calls Try.prog 87 #[v, u] w (RetMat w p (kerL p s (kilE s (picL (ms.map Mt.d) els) els.length)).length s (flat s (kerL p s (kilE s (picL (ms.map Mt.d) els) els.length)))) := by
  obtain ⟨b1, b2⟩ := isPrime_bd hP
  have h1 := (((St.start w).arg hu).pushFact hv.fact).box [.int .i64 0, .int .i64 0, .int .i64 0, .slice none 0 0] 40
  obtain ⟨A3, k3, rfl, _, _, _⟩ := id hu
  obtain ⟨A2, k2, rfl, _, _, _⟩ := id hv
  obtain ⟨b, off, A9, c9, hbA, hm⟩ := hv.at (i := 0) h0
  subst hbA
  have hX0 : w.cell? ⟨b, off, none⟩ = some (.int .i64 p) := by
    have := hm.1
    rw [mAt_get h0, (hM 0 h0).1] at this
    simpa using this
  have hX : w.cell? ⟨b, off + 1, none⟩ = some (.int .i64 s) := by
    have := hm.2.1
    rw [mAt_get h0, (hM 0 h0).2.1] at this
    simpa using this
  replace h1 := h1.pushOld (R := fun w' => w'.cell? ⟨b, off, none⟩ = some (.int .i64 p)) (fun w' hk => (World.cell?_of_block (hk _ (World.block_lt_of_cell? w _ hX0))).trans hX0)
  replace h1 := h1.pushOld (R := fun w' => w'.cell? ⟨b, off + 1, none⟩ = some (.int .i64 s)) (fun w' hk => (World.cell?_of_block (hk _ (World.block_lt_of_cell? w _ hX))).trans hX)
  obtain ⟨Es, hEs⟩ : ∃ Es, Es = picL (ms.map Mt.d) els := ⟨_, rfl⟩
  have hEr : ∀ j, j < els.length → rowOf Es j = (mAt ms (Go.Proofs.Ythiainhhaokjoaa.vec els j).toNat).d := fun j hj => by
    rw [hEs, rowOf_picL hj, rowOf_dsK]
    have := hE j hj
    omega
  rw [← hEs]
  have hWf : Wf p s (kilE s Es els.length) := Wf_kilE b1 s Es els.length fun i hi => by
    rw [hEr i hi]
    exact (hM _ (by have := hE i hi; omega)).2.2.2.2
  have hKl : ∀ k, (kilE s Es k).length = k * s := length_kilE s Es
  have hK := fun (W : World) (v1 : Value) (x1 : IntRows W v1 (kilE s Es els.length)) => kernel_any p s v1 _ W x1 hWf (by rw [hKl]; have := Nat.mul_le_mul hl hs; omega) (by omega) hP
  have hKw := Wf_kerL hP s (kilE s Es els.length)
  have hKn : (kerL p s (kilE s Es els.length)).length ≤ s := by obtain ⟨a, ha⟩ := kerL_rf hP s (kilE s Es els.length); exact rf_le_n b1 ha
  obtain ⟨K, hKe⟩ : ∃ K, K = kerL p s (kilE s Es els.length) := ⟨_, rfl⟩
  rw [← hKe] at hK hKw hKn ⊢
  have hMo := fun (W : World) (v1 : Value) (x1 : IntRows W v1 K) => (show Calls Try.prog 124 #[.int .i64 p, .int .i64 s, v1] W (RetMat W p K.length s (flat s K)) by
    have := matrixOf_any p s v1 K W x1 (by rw [total_wf hKw]; have := mul_le (show K.length ≤ 40 by omega) (show s ≤ 40 by omega); omega)
    rwa [← flat_flatten hKw] at this)
  have HV := Lib.hid hv
  have HM := Lib.hid hM
  have HE := Lib.hid hE
  have HEr := Lib.hid hEr
  have HK := Lib.hid hK
  have HMo := Lib.hid hMo
  have HKl := Lib.hid hKl
  clear hv hu hM hE hEr hWf hK hMo hKw hKn hKe hEs hm hX hX0 A9 c9 hKl hP
  go_enter Try.func87, Try.ntmps87
  have x0 := h1.fact 0 rfl
  go_wp2
  have g1 := h1.emptyRows
  simp only [World.size_alloc] at g1
  clear h1 x0
  go_loopw [6, 8, 9, 10, 11, 19] (fun v6 v8 v9 v10 v11 v19 wr => ∃ (k : Nat) (us : List Value), v19 = .int .i64 k ∧ k ≤ els.length ∧ Hid (us.length = k * s) ∧ St w wr [rowsIt v6 us (kilE s Es k), .fact (fun w' => w'.cell? ⟨b, off + 1, none⟩ = some (.int .i64 s)), .fact (fun w' => w'.cell? ⟨b, off, none⟩ = some (.int .i64 p)), .box w.heap.size [.int .i64 0, .int .i64 0, .int .i64 0, .slice none 0 0], .fact (fun w' => MatsR w' (.slice (some ⟨b, off, none⟩) ms.length k2) ms), .ro (.slice A3 els.length k3) els]) (fun _ _ _ _ _ v19 _ => els.length - (intOf v19).toNat)
  case atStart => exact ⟨0, [], rfl, by omega, Lib.hid (by simp), g1⟩
  case round =>
    clear g1
    obtain ⟨k, us, rfl, a1, Hul, g⟩ := hrel
    by_cases hk : k < els.length
    · obtain ⟨be, oe, rfl⟩ := g.roSome 5 rfl (by omega)
      have ec := g.roCell 5 rfl hk
      obtain ⟨q, hq⟩ : ∃ q : Nat, Go.Proofs.Ythiainhhaokjoaa.vec els k = q := ⟨(Go.Proofs.Ythiainhhaokjoaa.vec els k).toNat, by have := HE.out k hk; omega⟩
      have hqm : q < ms.length := by have := HE.out k hk; omega
      have hD0 := HEr.out k hk
      rw [hq] at ec hD0
      rw [Int.toNat_natCast] at hD0
      obtain ⟨bm, offm, A9, c9, hbA, hm⟩ := HV.out.at (i := q) hqm
      simp only [Option.some.injEq, Addr.mk.injEq, and_true] at hbA
      obtain ⟨rfl, rfl⟩ := hbA
      rw [mAt_get hqm] at hm
      obtain ⟨u1, u2, u3, u4, u5⟩ := HM.out q hqm
      obtain ⟨D, hD⟩ : ∃ D, D = (mAt ms q).d := ⟨_, rfl⟩
      have hmf : MtAt w b (off + q * 4) ⟨p, s, s, D⟩ (.slice A9 D.length c9) := by unfold MtAt at hm ⊢; rw [u1, u2, u3, ← hD] at hm; exact hm
      rw [← hD] at u4 u5 hD0
      have HN := Lib.hid (show kilE s Es (k + 1) = kilE s Es k ++ colR s D by rw [kilE, hD0])
      obtain ⟨Pr, hPr⟩ : ∃ Pr, Pr = kilE s Es k := ⟨_, rfl⟩
      have hPl : Pr.length = k * s := by rw [hPr, HKl.out]
      rw [← hPr] at HN g
      have HPl := Lib.hid hPl
      have HDl := Lib.hid u4
      have h4 := (g.pushOld hmf.fact).toFront 1 rfl
      simp only [List.eraseIdx_cons_succ, List.eraseIdx_cons_zero] at h4
      have iq : (q : Int) < (ms.length : Int) := by omega
      have ik : (k : Int) < (els.length : Int) := by omega
      clear hm hmf u1 u2 u3 u4 u5 hD hPr hPl g hq hD0
      obtain ⟨OL, hOL, h9⟩ : ∃ OL, OL = _ ∧ St w _ (rowsIt u6 us Pr :: OL) := ⟨_, rfl, h4⟩
      clear h4
      go_wp2
      clear ec
      go_loopw [6, 9, 10, 11, 24] (fun v6 _ _ _ v24 wr => ∃ (c : Nat) (us : List Value), v24 = .int .i64 c ∧ c ≤ s ∧ Hid (us.length = k * s + c) ∧ St w wr (rowsIt v6 us (Pr ++ (colR s D).take c) :: OL)) (fun _ _ _ _ v24 _ => s - (intOf v24).toNat)
      case atStart => exact ⟨0, us, rfl, by omega, Lib.hid (by rw [Hul.out]; rfl), by rw [List.take_zero, List.append_nil]; exact h9⟩
      case round =>
        clear h9 Hul
        obtain ⟨c, us, rfl, a2, Hul, g⟩ := hrel
        by_cases hc : c < s
        · have HCt := Lib.hid (colR_take (D := D) hc)
          have ic : (c : Int) < (s : Int) := by omega
          have h3 := g.empty
          go_wp2
          clear g
          go_loopw [10, 11, 29] (fun v10 _ v29 wr => ∃ i : Nat, v29 = .int .i64 i ∧ i ≤ s ∧ St w wr (.own v10 (tab i fun i => Go.Proofs.Ythiainhhaokjoaa.vec D (i * s + c)) :: rowsIt u6 us (Pr ++ (colR s D).take c) :: OL)) (fun _ _ v29 _ => s - (intOf v29).toNat)
          case atStart => exact ⟨0, rfl, by omega, h3⟩
          case round =>
            clear h3
            obtain ⟨i, rfl, a4, h3⟩ := hrel
            by_cases hi : i < s
            · subst hOL
              have hlt2 : i * s + c < D.length := by rw [HDl.out]; exact spot_lt hi hc
              have hD9 := HDl.out
              obtain ⟨-, -, -, c3, cD⟩ := h3.fact 2 rfl
              obtain ⟨b9, o9, rfl, _, xD⟩ := cD.toB.cell (k := i * s + c) hlt2
              have HTn := Lib.hid (tab_next i fun i => Go.Proofs.Ythiainhhaokjoaa.vec D (i * s + c))
              obtain ⟨x, hx⟩ : ∃ x, x = Go.Proofs.Ythiainhhaokjoaa.vec D (i * s + c) := ⟨_, rfl⟩
              rw [← hx] at xD
              have HX := Lib.hid hx
              obtain ⟨m1, hm1⟩ : ∃ m1, m1 = i * s := ⟨_, rfl⟩
              obtain ⟨m2, hm2⟩ : ∃ m2, m2 = m1 + c := ⟨_, rfl⟩
              rw [← hm1, ← hm2] at hlt2 xD
              have t4 : (i : Int) * (s : Int) = (m1 : Int) := by rw [hm1]; simp
              have t5 : (m1 : Int) + (c : Int) = (m2 : Int) := by omega
              have hb1 := mul_le hs hs
              have w3 : IntKind.i64.wrap (m1 : Int) = m1 := wrap_ok (by omega) (by omega)
              have w4 : IntKind.i64.wrap (m2 : Int) = m2 := wrap_ok (by omega) (by omega)
              have i2 : (m2 : Int) < (D.length : Int) := by omega
              have ii : (i : Int) < (s : Int) := by omega
              have Hl1 := Lib.hid (show (tab i fun i => Go.Proofs.Ythiainhhaokjoaa.vec D (i * s + c)).length + 1 ≤ 17592186044416 by rw [length_tab]; omega)
              clear hm1 hm2 hlt2 hx hD9 cD hb1
              go_wp2_with (at_builtin; refine wp_append_ints rfl (.tmp 32) (.tmp 45) rfl w.heap.size _ _ (tab i fun i => Go.Proofs.Ythiainhhaokjoaa.vec D (i * s + c)) [x] rfl rfl ((h3.alloc' _).own 0 rfl) Ints.one Hl1.out (h3.alloc' _).size ?_; intro v1 w7 ho1 hg1 hb1; have h4 := (h3.alloc' _).appended 0 rfl ho1 hg1 hb1)
              go_roundw
              case rel => exact ⟨i + 1, by go_num, by omega, by rw [HTn.out, ← HX.out]; exact h4⟩
              case measure => simp [intOf]; omega
            · obtain rfl : i = s := by omega
              have Hl2 := Lib.hid (show us.length = (Pr ++ (colR i D).take c).length by rw [Hul.out, List.length_append, HPl.out, List.length_take, length_colR, Nat.min_eq_left a2])
              have Hl3 := Lib.hid (show (Pr ++ (colR i D).take c).length + 1 ≤ 1099511627776 by rw [← Hl2.out, Hul.out]; have := Nat.mul_le_mul (Nat.le_of_lt hk) (Nat.le_refl i); have := Nat.mul_le_mul hl hs; omega)
              obtain ⟨A8, n8, c8, rfl⟩ := (h3.own 0 rfl).slice
              go_wp2_with (at_builtin; refine wp_append_row' rfl (.tmp 48) (.tmp 50) rfl h3 0 rfl Hl2.out rfl rfl Hl3.out ?_; intro v1 w1 h5)
              go_roundw
              case rel => exact ⟨c + 1, us ++ [_], by go_num, by omega, by show _ = _; rw [List.length_append, Hul.out]; rfl, by rw [HCt.out, ← List.append_assoc]; exact h5⟩
              case measure => simp [intOf]; omega
        · obtain rfl : c = s := by omega
          have HTk := Lib.hid (show (colR c D).take c = colR c D from List.take_of_length_le (by rw [length_colR]; exact Nat.le_refl _))
          rw [HTk.out, ← HN.out] at g
          subst hOL
          go_wp2
          go_roundw
          case rel => exact ⟨k + 1, us, by go_num, by omega, by show _ = _; rw [Hul.out, Nat.add_mul, Nat.one_mul], g.re [0, 2, 3, 4, 5, 6] (by decide) (fun j => by rcases j with _ | _ | _ | _ | _ | _ | j <;> rfl)⟩
          case measure => simp [intOf]; omega
    · obtain rfl : k = els.length := by omega
      have Hu9 := Lib.hid (show us.length = (kilE s Es els.length).length by rw [HKl.out]; exact Hul.out)
      have Hn0 := Lib.hid h0
      have im0 : (0 : Int) < (ms.length : Int) := by omega
      go_upto_region 18 with fail
      have g0 := g.drew
      refine wp_region_cut (S := fun w' => w'.cell? ⟨b, off, none⟩ = some (.int .i64 p)) 13 (by kernel_rfl) (by kernel_rfl) (g0.fact 2 rfl) (fun hHeld => ?_)
      simp only [List.take_succ_cons, List.take_zero]
      refine anyH_take (v := ?_) 0 rfl (by kernel_rfl) (by kernel_rfl) (by kernel_rfl) (fun _ _ _ h => h) rfl ?_ hHeld ?_
      rotate_left
      · intro w' hSw
        go_simp
        try with_reducible rfl
      try simp only [Act.put, List.setIfInBounds_toArray, List.set_cons_zero, List.set_cons_succ]
      refine anyH_take (v := ?_) 1 rfl (by kernel_rfl) (by kernel_rfl) (by kernel_rfl) (fun _ _ _ h => h) rfl ?_ hHeld ?_
      rotate_left
      · intro w' hSw
        go_simp
        try with_reducible rfl
      try simp only [Act.put, List.setIfInBounds_toArray, List.set_cons_zero, List.set_cons_succ]
      refine anyH_take (v := ?_) 2 rfl (by kernel_rfl) (by kernel_rfl) (by kernel_rfl) (fun _ _ _ h => h) rfl ?_ hHeld ?_
      rotate_left
      · intro w' hSw
        go_simp
        try with_reducible rfl
      try simp only [Act.put, List.setIfInBounds_toArray, List.set_cons_zero, List.set_cons_succ]
      refine anyH_take (v := ?_) 3 rfl (by kernel_rfl) (by kernel_rfl) (by kernel_rfl) (fun _ _ _ h => h) rfl ?_ hHeld ?_
      rotate_left
      · intro w' hSw
        go_simp
        try with_reducible rfl
      try simp only [Act.put, List.setIfInBounds_toArray, List.set_cons_zero, List.set_cons_succ]
      refine anyH_take (v := ?_) 4 rfl (by kernel_rfl) (by kernel_rfl) (by kernel_rfl) (fun _ _ _ h => h) rfl ?_ hHeld ?_
      rotate_left
      · intro w' hSw
        go_simp
        try with_reducible rfl
      try simp only [Act.put, List.setIfInBounds_toArray, List.set_cons_zero, List.set_cons_succ]
      refine anyH_take (v := ?_) 5 rfl (by kernel_rfl) (by kernel_rfl) (by kernel_rfl) (fun _ _ _ h => h) rfl ?_ hHeld ?_
      rotate_left
      · intro w' hSw
        go_simp
        try with_reducible rfl
      try simp only [Act.put, List.setIfInBounds_toArray, List.set_cons_zero, List.set_cons_succ]
      refine anyH_take (v := ?_) 6 rfl (by kernel_rfl) (by kernel_rfl) (by kernel_rfl) (fun _ _ _ h => h) rfl ?_ hHeld ?_
      rotate_left
      · intro w' hSw
        go_simp
        try with_reducible rfl
      try simp only [Act.put, List.setIfInBounds_toArray, List.set_cons_zero, List.set_cons_succ]
      refine anyH_take (v := ?_) 7 rfl (by kernel_rfl) (by kernel_rfl) (by kernel_rfl) (fun _ _ _ h => h) rfl ?_ hHeld ?_
      rotate_left
      · intro w' hSw
        go_simp
        try with_reducible rfl
      try simp only [Act.put, List.setIfInBounds_toArray, List.set_cons_zero, List.set_cons_succ]
      refine anyH_take (v := ?_) 8 rfl (by kernel_rfl) (by kernel_rfl) (by kernel_rfl) (fun _ _ _ h => h) rfl ?_ hHeld ?_
      rotate_left
      · intro w' hSw
        go_simp
        try with_reducible rfl
      try simp only [Act.put, List.setIfInBounds_toArray, List.set_cons_zero, List.set_cons_succ]
      refine anyH_take (v := ?_) 9 rfl (by kernel_rfl) (by kernel_rfl) (by kernel_rfl) (fun _ _ _ h => h) rfl ?_ hHeld ?_
      rotate_left
      · intro w' hSw
        go_simp
        try with_reducible rfl
      try simp only [Act.put, List.setIfInBounds_toArray, List.set_cons_zero, List.set_cons_succ]
      refine anyH_take (v := ?_) 10 rfl (by kernel_rfl) (by kernel_rfl) (by kernel_rfl) (fun _ _ _ h => h) rfl ?_ hHeld ?_
      rotate_left
      · intro w' hSw
        go_simp
        try with_reducible rfl
      try simp only [Act.put, List.setIfInBounds_toArray, List.set_cons_zero, List.set_cons_succ]
      refine wpAnyH_ready (rs := [11]) (by kernel_rfl) (by simp) ?_
      refine ready_cons rfl (fun K hK => ?_) AllReadyH.nil
      go_simp
      refine (HK.out _ _ (g0.rowsR 0 rfl Hu9.out)).mono ?_
      rintro (e : Ending) w4 ⟨u4, us4, rfl, hul4, hok4, hnd4, hb4⟩
      have g1 := g0.pushRows hb4 hok4 hnd4
      show K _ _
      refine hK.out _ _ ?_ (fun hHeld => ?_)
      · exact (g1.fact 3 rfl)
      clear hK K
      try simp only [Act.put, List.setIfInBounds_toArray, List.set_cons_zero, List.set_cons_succ]
      refine wpAnyH_ready (rs := [12]) (by kernel_rfl) (by simp) ?_
      refine ready_cons rfl (fun K hK => ?_) AllReadyH.nil
      go_simp
      refine (HMo.out _ _ (g1.rowsR 0 rfl hul4)).mono ?_
      rintro (e : Ending) w5 ⟨u5, rfl, ho5, hb5⟩
      obtain ⟨A7, c7, rfl, _, _, _⟩ := id ho5.ints
      have g2 := g1.pushOwn hb5 ho5
      show K _ _
      refine hK.out _ _ ?_ (fun hHeld => ?_)
      · exact (g2.fact 4 rfl)
      clear hK K
      try simp only [Act.put, List.setIfInBounds_toArray, List.set_cons_zero, List.set_cons_succ]
      refine wpAnyH_done (by kernel_rfl) ?_ _
      show wpList _ _ _ _ _ _
      simp only [List.drop_succ_cons, List.drop_zero]
      clear hHeld
      obtain ⟨p0, p1, p2, p3⟩ := g2.box4 5 rfl
      have f0 := g2.free 5 rfl 0
      have f1 := g2.free 5 rfl 1
      have f2 := g2.free 5 rfl 2
      have f3 := g2.free 5 rfl 3
      have g3 := (((g2.setBox 5 rfl 0 (.int .i64 p)).setBox 5 rfl 1 (.int .i64 K.length)).setBox 5 rfl 2 (.int .i64 s)).setBox 5 rfl 3 (.slice A7 (flat s K).length c7)
      obtain ⟨r0, r1, r2, r3⟩ := g3.box4 5 rfl
      clear g0 g1 g
      go_wp2
      refine bodyPost_ret (v := .agg #[.int .i64 p, .int .i64 K.length, .int .i64 s, .slice A7 (flat s K).length c7]) (by simp [results, Try.results87, go_sem, r0, r1, r2, r3]) rfl ⟨_, rfl, g3.own 0 rfl, g3.below⟩

def notEl (n x : Int) : Bool := !inR x 0 (n - 1)
theorem any_notEl (n : Int) (l : List Int) : l.any (notEl n) = !l.all fun e => inR e 0 (n - 1) := by
  induction l with
  | nil => rfl
  | cons x xs ih => simp only [List.any_cons, List.all_cons, ih, notEl, Bool.not_and]
theorem kil1_any (n x : Int) (b : Nat) (w : World) (h0 : 0 ≤ n) (h1 : n ≤ 1000000) (hc : w.cell? ⟨b, 1, none⟩ = some (.int .i64 n)) :
    Calls Try.prog 86 (#[.int .i64 x] ++ #[.pointer (some ⟨b, 0, none⟩)]) w fun e w' => e = .returned (.bool (notEl n x)) ∧ w = w' := by
  show Calls Try.prog 86 #[.int .i64 x, .pointer (some ⟨b, 0, none⟩)] w _
  have hw : IntKind.i64.wrap (n - 1) = n - 1 := wrap_ok (by omega) (by omega)
  go_enter Try.func86, Try.ntmps86
  go_wp2_with (go_at_call 44; refine (inside_any _ _ _ _).mono ?_; rintro e w' ⟨rfl, rfl⟩)
  go_ret
  exact ⟨rfl, rfl⟩

set_option maxHeartbeats 4000000 in
theorem KilledByI_any (p n : Int) (t v u : Value) (T els : List Int) (ms : List Mt) (w : World) (ht : Ints w t T) (hv : MatsR w v ms) (hu : Ints w u els) (hp0 : p ≤ 9223372036854775807) (hw : ∀ i, i < ms.length → (mAt ms i).p ≤ 9223372036854775807) (hel : els.length ≤ 1048576) :
    Calls Try.prog 30 #[.agg #[.int .i64 p, .int .i64 n, t], v, u] w (RetMatB w (kbP p n T ms els) (kbR p n T ms els) (kbC p n T ms els) (kbD p n T ms els) (kbOk p n T ms els)) := by
  have h1 := ((((St.start w).arg ht).arg hu).pushFact hv.fact).box [.int .i64 p, .int .i64 n, t] 33
  replace h1 := h1.box [.int .i64 0, .int .i64 0, .int .i64 0, .slice none 0 0] 40
  simp only [World.size_alloc] at h1
  obtain ⟨A, k, rfl, _, _, _⟩ := id ht
  obtain ⟨A2, k2, rfl, _, _, _⟩ := id hv
  obtain ⟨A3, k3, rfl, _, _, _⟩ := id hu
  have HI := Lib.hid (fun (W : World) (h1 : Ints W (.slice A T.length k) T) (h2 : MatsR W (.slice A2 ms.length k2) ms) => IsModuleI_any p n _ _ T ms W h1 h2 hp0 hw)
  have HV := Lib.hid hv
  have HE := Lib.hid hel
  obtain ⟨Po, hPo⟩ : ∃ Po : Ending → World → Prop, Po = RetMatB w (kbP p n T ms els) (kbR p n T ms els) (kbC p n T ms els) (kbD p n T ms els) (kbOk p n T ms els) := ⟨_, rfl⟩
  rw [← hPo]
  have HNo := Lib.hid (show kbOk p n T ms els = false → Po = RetMatB w 0 0 0 [] false from fun b0 => by
    rw [hPo, show kbP p n T ms els = 0 by simp [kbP, b0], show kbR p n T ms els = 0 by simp [kbR, b0], show kbC p n T ms els = 0 by simp [kbC, b0], show kbD p n T ms els = [] by simp [kbD, b0], b0])
  have HYes := Lib.hid (show kbOk p n T ms els = true → Po = RetMatB w p (kbL p ms els).length (mAt ms 0).r (flat (mAt ms 0).r.toNat (kbL p ms els)) true from fun b0 => by
    rw [hPo, show kbP p n T ms els = p by simp [kbP, b0], show kbR p n T ms els = (kbL p ms els).length by simp [kbR, b0], show kbC p n T ms els = (mAt ms 0).r by simp [kbC, b0], show kbD p n T ms els = flat (mAt ms 0).r.toNat (kbL p ms els) by simp [kbD, b0], b0])
  clear ht hv hu hw hPo hel
  by_cases b1 : isMod p n T ms = true
  case neg =>
    have b1 : isMod p n T ms = false := by simpa using b1
    have HF := Lib.hid (HNo.out (by rw [kbOk, b1, Bool.false_and]))
    have B1 := Lib.hid b1
    clear b1 HNo HYes
    obtain ⟨z0, z1, z2⟩ := h1.box3 1 rfl
    go_enter Try.func30, Try.ntmps30
    go_wp2_with fail
    refine (HI.out _ (h1.roInts 4 rfl) (h1.fact 2 rfl)).mono ?_
    rintro (e : Ending) w1 ⟨rfl, hb1⟩
    have g1 := h1.on hb1
    rw [B1.out]
    clear h1 hb1 z0 z1 z2
    obtain ⟨p0, p1, p2, p3⟩ := g1.box4 0 rfl
    have f0 := g1.free 0 rfl 0
    have f1 := g1.free 0 rfl 1
    have f2 := g1.free 0 rfl 2
    have f3 := g1.free 0 rfl 3
    have g5 := (((g1.setBox 0 rfl 0 (.int .i64 0)).setBox 0 rfl 1 (.int .i64 0)).setBox 0 rfl 2 (.int .i64 0)).setBox 0 rfl 3 (.slice none 0 0)
    obtain ⟨r0, r1, r2, r3⟩ := g5.box4 0 rfl
    go_wp2
    refine bodyPost_ret (v := .tuple #[.agg #[.int .i64 0, .int .i64 0, .int .i64 0, .slice none 0 0], .bool false]) (by simp [results, Try.results30, go_sem, r0, r1, r2, r3]) rfl ?_
    rw [HF.out]
    exact ⟨_, rfl, Own.nil, g5.below⟩
  obtain ⟨N, s, rfl, hN, hN0, hs, hs30, hA, hM⟩ := isMod_all b1
  have hP : isPrime p = true := by obtain ⟨_, _, _, _, _, _, _, hP⟩ := algOk_spec hA; exact hP
  have hNb : N ≤ 28 := by obtain ⟨M, hM1, hM2, _⟩ := algOk_spec hA; omega
  rw [hs, Int.toNat_natCast] at HYes
  have HB := Lib.hid (any_notEl (N : Int) els)
  have HC := Lib.hid (show ∀ (W : World), St w W [.box (w.heap.size + 1) [.int .i64 0, .int .i64 0, .int .i64 0, .slice none 0 0], .box w.heap.size [.int .i64 p, .int .i64 N, .slice A T.length k], .fact (fun w' => MatsR w' (.slice A2 ms.length k2) ms), .ro (.slice A3 els.length k3) els, .ro (.slice A T.length k) T] → Calls Try.prog 85 #[.slice A3 els.length k3, .func (.func 86) #[] #[.pointer (some ⟨w.heap.size, 0, none⟩)]] W fun e w' => e = .returned (.bool (els.any (notEl N))) ∧ W = w' from fun W h =>
    ContainsFunc_any _ _ (notEl N) Try.call86 _ els _ (fun x => kil1_any N x _ _ (by omega) (by omega) (h.box3 1 rfl).2.1) (h.roInts 3 rfl))
  cases b2 : els.all fun e => inR e 0 ((N : Int) - 1) with
  | false =>
    have HF := Lib.hid (HNo.out (by rw [kbOk, b1, b2]; rfl))
    have B1 := Lib.hid b1
    rw [b2] at HB
    rw [HB.out] at HC
    have HC := Lib.hid HC.out
    clear b1 b2 HNo HYes hA hM hs HB hN
    obtain ⟨z0, z1, z2⟩ := h1.box3 1 rfl
    go_enter Try.func30, Try.ntmps30
    go_wp2_with fail
    refine (HI.out _ (h1.roInts 4 rfl) (h1.fact 2 rfl)).mono ?_
    rintro (e : Ending) w1 ⟨rfl, hb1⟩
    have g1 := h1.on hb1
    rw [B1.out]
    clear h1 hb1 z0 z1 z2
    go_wp2_with fail
    refine (HC.out _ g1).mono ?_
    rintro (e : Ending) w2 ⟨rfl, rfl⟩
    obtain ⟨p0, p1, p2, p3⟩ := g1.box4 0 rfl
    have f0 := g1.free 0 rfl 0
    have f1 := g1.free 0 rfl 1
    have f2 := g1.free 0 rfl 2
    have f3 := g1.free 0 rfl 3
    have g5 := (((g1.setBox 0 rfl 0 (.int .i64 0)).setBox 0 rfl 1 (.int .i64 0)).setBox 0 rfl 2 (.int .i64 0)).setBox 0 rfl 3 (.slice none 0 0)
    obtain ⟨r0, r1, r2, r3⟩ := g5.box4 0 rfl
    go_wp2
    refine bodyPost_ret (v := .tuple #[.agg #[.int .i64 0, .int .i64 0, .int .i64 0, .slice none 0 0], .bool false]) (by simp [results, Try.results30, go_sem, r0, r1, r2, r3]) rfl ?_
    rw [HF.out]
    exact ⟨_, rfl, Own.nil, g5.below⟩
  | true =>
    have hAll : ∀ j, j < els.length → 0 ≤ Go.Proofs.Ythiainhhaokjoaa.vec els j ∧ Go.Proofs.Ythiainhhaokjoaa.vec els j < ms.length := fun j hj => by
      have h := List.all_eq_true.1 b2 _ (vec_mem hj)
      simp only [inR, Bool.and_eq_true, decide_eq_true_eq] at h
      omega
    have hKq : kbL p ms els = kerL p s (kilE s (picL (ms.map Mt.d) els) els.length) := by
      rw [kbL, hs, Int.toNat_natCast]
      refine kilS_eq hP s _ _ fun i hi => ?_
      rw [rowOf_picL hi, rowOf_dsK (by have := hAll i hi; omega)]
      exact (hM _ (by have := hAll i hi; omega)).2.2.2.2
    have HF := Lib.hid (HYes.out (by rw [kbOk, b1, b2]; rfl))
    have HK := Lib.hid (show ∀ (W : World), MatsR W (.slice A2 ms.length k2) ms → Ints W (.slice A3 els.length k3) els → Calls Try.prog 87 #[.slice A2 ms.length k2, .slice A3 els.length k3] W (RetMat W p (kbL p ms els).length s (flat s (kbL p ms els))) from fun W x1 x2 => by
      rw [hKq]
      exact killedBy_any p s _ _ ms els W x1 x2 (by omega) hM hAll HE.out hs30 hP)
    have B1 := Lib.hid b1
    rw [b2] at HB
    rw [HB.out] at HC
    have HC := Lib.hid HC.out
    obtain ⟨Kl, hKl⟩ : ∃ Kl, Kl = (kbL p ms els).length := ⟨_, rfl⟩
    obtain ⟨Kd, hKd⟩ : ∃ Kd, Kd = flat s (kbL p ms els) := ⟨_, rfl⟩
    rw [← hKl, ← hKd] at HF HK
    clear b1 b2 HNo HYes hA hM hs HB hN hAll hKq hKl hKd hP
    obtain ⟨z0, z1, z2⟩ := h1.box3 1 rfl
    go_enter Try.func30, Try.ntmps30
    go_wp2_with fail
    refine (HI.out _ (h1.roInts 4 rfl) (h1.fact 2 rfl)).mono ?_
    rintro (e : Ending) w1 ⟨rfl, hb1⟩
    have g1 := h1.on hb1
    rw [B1.out]
    clear h1 hb1 z0 z1 z2
    go_wp2_with fail
    refine (HC.out _ g1).mono ?_
    rintro (e : Ending) w2 ⟨rfl, rfl⟩
    go_wp2_with fail
    refine (HK.out _ (g1.fact 2 rfl) (g1.roInts 3 rfl)).mono ?_
    rintro (e : Ending) w3 ⟨u3, rfl, ho3, hb3⟩
    obtain ⟨A7, n7, c7, rfl⟩ := ho3.slice
    have g2 := g1.pushOwn hb3 ho3
    clear g1 hb3 ho3
    obtain ⟨p0, p1, p2, p3⟩ := g2.box4 1 rfl
    have f0 := g2.free 1 rfl 0
    have f1 := g2.free 1 rfl 1
    have f2 := g2.free 1 rfl 2
    have f3 := g2.free 1 rfl 3
    have g5 := (((g2.setBox 1 rfl 0 (.int .i64 p)).setBox 1 rfl 1 (.int .i64 Kl)).setBox 1 rfl 2 (.int .i64 s)).setBox 1 rfl 3 (.slice A7 n7 c7)
    obtain ⟨r0, r1, r2, r3⟩ := g5.box4 1 rfl
    go_wp2
    refine bodyPost_ret (v := .tuple #[.agg #[.int .i64 p, .int .i64 Kl, .int .i64 s, .slice A7 n7 c7], .bool true]) (by simp [results, Try.results30, go_sem, r0, r1, r2, r3]) rfl ?_
    rw [HF.out]
    exact ⟨_, rfl, g5.own 0 rfl, g5.below⟩
end Go.Proofs.Ythiainhhaokjoaa
