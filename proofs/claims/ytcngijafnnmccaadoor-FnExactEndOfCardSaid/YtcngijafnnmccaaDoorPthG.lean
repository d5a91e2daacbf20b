/- Paths: the last place of the program (endOf), EndOf of the program. -/
import Derived.Test.YtcngijafnnmccaaDoorPthF
namespace Go.Proofs.YtcngijafnnmccaaDoor
set_option maxRecDepth 100000
open Go.RowKit
namespace Stp
open Car


def whlAll (n : Nat) (ps : List Sg) : Bool := (List.range' 0 (n - 0)).all (whl ps)
set_option maxHeartbeats 4000000 in
theorem endOf_any (n : Nat) (t v : Value) (ps : List Sg) (w : World) (hv : StR w v ps) (h4 : n ≤ 4) (h60 : ps.length ≤ 60) (hOk : ∀ j, j < ps.length → stpOk n ps j = true) :
    Calls Tryd.prog 52 #[.agg #[.int .i64 n, t], v] w (RetLB w (if whlAll n ps = true then endE n ps else []) (whlAll n ps)) := by
  have g := (((St.start w).pushFact hv.fact).box [.int .i64 n, t] 33).zeros n (by omega)
  simp only [World.size_alloc] at g
  rw [mapI_zero] at g
  have hmk := makeI n (by omega)
  obtain ⟨A, c, rfl, _, _, _⟩ := id hv
  have HV := Lib.hid hv
  have HOk := Lib.hid hOk
  obtain ⟨XB, hXB⟩ : ∃ XB, XB = whlAll n ps := ⟨_, rfl⟩
  obtain ⟨XD, hXD⟩ : ∃ XD, XD = if XB = true then endE n ps else [] := ⟨_, rfl⟩
  rw [← hXB, ← hXD]
  unfold whlAll at hXB
  have hXb : ∀ i, i < (mapI n fun i => hgt i ps ps.length).length → -4989600000 ≤ vec (mapI n fun i => hgt i ps ps.length) i ∧ vec (mapI n fun i => hgt i ps ps.length) i ≤ 4989600000 := fun i hi => mapIn (P := fun x => -4989600000 ≤ x ∧ x ≤ 4989600000) (fun i hi => by
    have := hgt_bd (i := i) (ps := ps) (k := ps.length) hi (fun j hj => hOk j (by omega))
    omega) i hi
  have hQ : ∀ i, i < n → quoF n ps i = (vec (mapI n fun i => hgt i ps ps.length) i).tdiv 27720 := fun i hi => by rw [vec_mapI _ _ hi]; rfl
  have hW : ∀ i, i < n → whl ps i = ((vec (mapI n fun i => hgt i ps ps.length) i).tmod 27720 == 0) := fun i hi => by rw [vec_mapI _ _ hi]; rfl
  have hF := fillTo_end (quoF n ps) (mapI n fun i => hgt i ps ps.length)
  have h0 := fillTo_zero (quoF n ps) (mapI n fun i => hgt i ps ps.length)
  have hlX := length_mapI n fun i => hgt i ps ps.length
  have hED : endE n ps = mapI n (quoF n ps) := rfl
  rw [hlX] at hF
  rw [hED, ← hF] at hXD
  clear hED hF
  obtain ⟨pl, hpl⟩ : ∃ pl, pl = ps.length := ⟨_, rfl⟩
  have Hpl := Lib.hid hpl
  rw [← hpl] at g HV h60 hXb hQ hW h0 hlX hXD ⊢
  obtain ⟨X, hX⟩ : ∃ X, X = mapI n fun i => hgt i ps pl := ⟨_, rfl⟩
  have HXe := Lib.hid hX.symm
  rw [← hX] at hXb hQ hW h0 hlX hXD
  obtain ⟨xl, hxl⟩ : ∃ xl, xl = n := ⟨_, rfl⟩
  subst hxl
  have Hxl := Lib.hid hlX.symm
  rw [hlX] at hXb
  have HX := Lib.hid hXb
  have HQ := Lib.hid hQ
  have HW := Lib.hid hW
  have H0 := Lib.hid h0.symm
  have HR : Hid (XB = (List.range' 0 (xl - 0)).all (whl ps)) := hXB
  have HXD := Lib.hid hXD
  obtain ⟨z0, z1⟩ := g.box2 1 rfl
  have y0 : (w.alloc (.cells #[.int .i64 xl, t] 33)).cell? ⟨w.heap.size, 0, none⟩ = some (.int .i64 xl) := (((St.start w).pushFact hv.fact).box [.int .i64 xl, t] 33).cell 0 rfl 0 rfl
  clear hv hpl hOk hX hXb hQ hW h0 hlX hXB hXD
  go_enter Tryd.func52, Tryd.ntmps52
  go_wp2
  clear z0 z1 y0
  go_loopw [6, 16] (fun v6 v16 wr => ∃ k : Nat, v16 = .int .i64 k ∧ k ≤ pl ∧ St w wr [.own v6 (mapI xl fun i => hgt i ps k), .box w.heap.size [.int .i64 xl, t], .fact (fun w' => StR w' (.slice A pl c) ps)]) (fun _ v16 _ => pl - (intOf v16).toNat)
  case atStart => exact ⟨0, rfl, by omega, g⟩
  case round =>
    clear g
    obtain ⟨k, rfl, a1, g⟩ := hrel
    obtain ⟨Ax, nx, cx, rfl⟩ := (g.own 0 rfl).slice
    by_cases hk : k < pl
    · obtain ⟨n, hnn⟩ : ∃ n, n = xl := ⟨_, rfl⟩
      rw [← hnn] at g HOk ⊢
      have h4 : n ≤ 4 := by omega
      have Hnn := Lib.hid hnn
      clear hnn
      have hk2 : k < ps.length := by rw [← Hpl.out]; exact hk
      obtain ⟨b, off, A9, c9, rfl, hm⟩ := HV.out.at (i := k) hk2
      rw [pAt_get hk2] at hm
      obtain ⟨b1, b2, b3, b4⟩ := stpOk_n (HOk.out k hk2)
      have b5 := vecAll b4
      have tb : ∀ i, i < n → -4989600000 ≤ hgt i ps k ∧ hgt i ps k ≤ 4989600000 := fun i hi => by
        have := hgt_bd (i := i) (ps := ps) (k := k) hi (fun j hj => HOk.out j (by omega))
        omega
      have HP := Lib.hid (fun (W : World) (x y : Value) (hx : Ints W x (mapI n fun i => hgt i ps k)) (hy : Ints W y (pAt ps k).d) => listPlus_any (pAt ps k).n x y _ _ W hx hy (by rw [b3, length_mapI]) (by rw [length_mapI]; omega) (fun i hi => by rw [length_mapI] at hi; rw [vec_mapI _ _ hi]; exact tb i hi) b5 (by omega))
      rw [end_step] at HP
      have HY := Lib.hid (fun (W : World) (h : SgAt W b (off + k * 2) (pAt ps k) (.slice A9 (pAt ps k).d.length c9)) => show W.cell? ⟨b, off + k * 2 + 1, none⟩ = some (.int .i64 (pAt ps k).n) from h.2.1)
      obtain ⟨m, hmm⟩ : ∃ m, m = pAt ps k := ⟨_, rfl⟩
      rw [← hmm] at hm HY HP b1 b2 b3
      obtain ⟨x, hx⟩ : ∃ x, x = m.n := ⟨_, rfl⟩
      obtain ⟨wl, hwl⟩ : ∃ wl, wl = m.d.length := ⟨_, rfl⟩
      obtain ⟨X1, hX1⟩ : ∃ X1, X1 = mapI n fun i => hgt i ps k := ⟨_, rfl⟩
      obtain ⟨X2, hX2⟩ : ∃ X2, X2 = mapI n fun i => hgt i ps (k + 1) := ⟨_, rfl⟩
      rw [← hx] at HY HP b1 b2
      rw [← hwl] at HY hm
      rw [← hX1] at HP g
      rw [← hX2] at HP
      have ik : (k : Int) < (pl : Int) := by omega
      have Hm := Lib.hid hm
      have HX2 := Lib.hid hX2
      have g0 := g.pushOld Hm.out.fact
      clear g hm hmm hx hwl hX1 hX2 b1 b2 b3 b4 b5 tb hk2
      have y0 := (g0.fact 0 rfl).1
      have y1 := HY.out _ (g0.fact 0 rfl)
      have g1 := g0.box [.slice A9 wl c9, .int .i64 x] 55
      obtain ⟨z0, z1⟩ := g1.box2 0 rfl
      clear g0
      go_wp2_with fail
      refine (HP.out _ _ _ (g1.ownInts 2 rfl) (g1.fact 1 rfl).2.2).mono ?_
      rintro (e : Ending) w4 ⟨u4, rfl, ho4, hb4⟩
      have g2 := (g1.pushOwn hb4 ho4).re [0, 4, 5] (L' := [_, _, _]) (by decide) (fun j => by rcases j with _ | _ | _ | j <;> rfl)
      rw [HX2.out] at g2
      clear g1 ho4 hb4 z0 z1 y0 y1
      go_wp2
      go_roundw
      case rel => exact ⟨k + 1, by go_num, by omega, g2⟩
      case measure => simp [intOf]; omega
    · obtain rfl : pl = k := by omega
      rw [HXe.out] at g
      obtain rfl : xl = nx := by
        obtain ⟨_, _, e, _⟩ := (g.own 0 rfl).ints
        simp only [Value.slice.injEq] at e
        rw [e.2.1]; exact Hxl.out
      rw [H0.out] at g
      go_wp2
      go_loopw [29] (fun v29 wr => ∃ i : Nat, v29 = .int .i64 i ∧ i ≤ xl ∧ St w wr [.own (.slice Ax xl cx) (fillTo (quoF xl ps) X i), .box w.heap.size [.int .i64 xl, t], .fact (fun w' => StR w' (.slice A pl c) ps)] ∧ Hid (XB = (List.range' i (xl - i)).all (whl ps))) (fun v29 _ => xl - (intOf v29).toNat)
      case atStart => exact ⟨0, rfl, by omega, g, HR⟩
      case round =>
        clear g HR
        obtain ⟨i, rfl, a1, g, HR⟩ := hrel
        by_cases hi : i < xl
        · have hXk := HX.out i hi
          have hfs := fillTo_set (quoF xl ps) X i (by rw [← Hxl.out]; exact hi)
          have hvf := vec_fillTo (quoF xl ps) X i (by rw [← Hxl.out]; exact hi)
          have hlf := length_fillTo (quoF xl ps) X i
          obtain ⟨LL, hLL⟩ : ∃ LL, LL = fillTo (quoF xl ps) X i := ⟨_, rfl⟩
          rw [← hLL] at g hfs hvf hlf
          have hQ : quoF xl ps i = (vec X i).tdiv 27720 := HQ.out i hi
          have hW : whl ps i = ((vec X i).tmod 27720 == 0) := HW.out i hi
          have HRs := HR.out.trans (all_cons _ hi)
          rw [hW] at HRs
          rw [hQ] at hfs
          obtain ⟨T, hT⟩ : ∃ T, T = vec X i := ⟨_, rfl⟩
          rw [← hT] at hXk hvf hfs HRs
          obtain ⟨q, hq⟩ : ∃ q, T.tmod 27720 = q := ⟨_, rfl⟩
          rw [hq] at HRs
          have t1 : -4989600000 ≤ T.tdiv 27720 ∧ T.tdiv 27720 ≤ 4989600000 := by
            have h3 : (T.tdiv 27720).natAbs ≤ T.natAbs := by rw [Int.natAbs_tdiv]; exact Nat.div_le_self _ _
            omega
          have t2 : IntKind.i64.wrap (T.tdiv 27720) = T.tdiv 27720 := wrap_ok (by omega) (by omega)
          obtain ⟨T2, hT2⟩ : ∃ T2, T.tdiv 27720 = T2 := ⟨_, rfl⟩
          rw [hT2] at hfs t1 t2
          have hLk : i < LL.length := by rw [hlf, ← Hxl.out]; exact hi
          obtain ⟨gx, rfl, hnx⟩ := g.ownSome 0 rfl (by omega)
          have HC := Lib.hid (fun (W : World) (L : List It) (h : St w W (.own (.slice (some ⟨gx, 0, none⟩) xl cx) LL :: L)) => show W.cell? ⟨gx, i, none⟩ = some (.int .i64 T) ∧ W.frozen? ⟨gx, i, none⟩ = false by
            have := h.ownCell 0 rfl (q := i) hLk
            rwa [hvf] at this)
          have ii : (i : Int) < (xl : Int) := by omega
          have Hfs := Lib.hid hfs
          have HRq := Lib.hid HRs
          obtain ⟨q0, q1⟩ := HC.out _ _ g
          clear hXk hvf hlf hLL hT hLk hnx hfs hQ hW HRs HR
          by_cases hm : q = 0
          · subst hm
            have HRt := Lib.hid (show XB = (List.range' (i + 1) (xl - (i + 1))).all (whl ps) by rw [HRq.out]; rfl)
            have g0 := g
            clear g
            go_wp2
            go_roundw
            case rel => exact ⟨i + 1, by go_num, by omega, by rw [← Hfs.out]; exact g0.set 0 rfl i T2, HRt⟩
            case measure => simp [intOf]; omega
          · have hm2 : (q == 0) = false := by rw [beq_eq_false_iff_ne]; exact hm
            have HB := Lib.hid (show XB = false by rw [HRq.out, hm2]; rfl)
            have HD := Lib.hid (show XD = [] by rw [HXD.out, HB.out]; rfl)
            go_wp2
            refine bodyPost_ret (v := .tuple #[.slice none 0 0, .bool false]) (by simp [results, Tryd.results52, go_sem]) rfl ⟨_, by rw [HB.out], by rw [HD.out]; exact Own.nil, g.below⟩
        · obtain rfl : xl = i := by omega
          have HB := Lib.hid (show XB = true by rw [HR.out, Nat.sub_self]; rfl)
          have HD := Lib.hid (show XD = fillTo (quoF xl ps) X xl by rw [HXD.out, HB.out, if_pos rfl])
          go_wp2
          refine bodyPost_ret (v := .tuple #[.slice Ax xl cx, .bool true]) (by simp [results, Tryd.results52, go_sem]) rfl ⟨_, by rw [HB.out], by rw [HD.out]; exact g.own 0 rfl, g.below⟩
set_option maxHeartbeats 4000000 in
theorem EndOfI_any (r : Int) (t v : Value) (D : List Int) (ps : List Sg) (w : World) (ht : Ints w t D) (hv : StR w v ps) (hM : MaxAt w) (hr : -9223372036854775808 ≤ r ∧ r ≤ 9223372036854775807) :
    Calls Tryd.prog 23 #[.agg #[.int .i64 r, t], v] w (RetLB w (endD r D ps) (endB r D ps)) := by
  have g := (((St.start w).pushFact hv.fact).arg ht).box [.int .i64 r, t] 33
  have HP := Lib.hid (fun (W : World) (x : Ints W t D) (y : StR W v ps) (m : MaxAt W) => PathOkI_any r _ _ D ps W x y m hr)
  have HMx := Lib.hid (show MaxAt (w.alloc (.cells #[.int .i64 r, t] 33)) from MaxAt.below hM ((Below.refl w.heap.size w).alloc (Nat.le_refl _) _))
  obtain ⟨A, c, rfl, _, _, _⟩ := id ht
  obtain ⟨A2, c2, rfl, _, _, _⟩ := id hv
  obtain ⟨t, htt⟩ : ∃ t, t = Value.slice A D.length c := ⟨_, rfl⟩
  obtain ⟨v, hvv⟩ : ∃ v, v = Value.slice A2 ps.length c2 := ⟨_, rfl⟩
  rw [← htt] at g HP HMx ⊢
  rw [← hvv] at g HP ⊢
  obtain ⟨XD, hXD⟩ : ∃ XD, XD = endD r D ps := ⟨_, rfl⟩
  obtain ⟨XB, hXB⟩ : ∃ XB, XB = endB r D ps := ⟨_, rfl⟩
  rw [← hXD, ← hXB]
  obtain ⟨z0, z1⟩ := g.box2 0 rfl
  unfold endD at hXD
  rw [← hXB] at hXD
  unfold endB at hXB
  obtain ⟨pb, hpb⟩ : ∃ pb, pb = pathB r D ps := ⟨_, rfl⟩
  rw [← hpb] at hXB HP
  cases pb with
  | false =>
    obtain rfl : XB = false := hXB
    obtain rfl : XD = [] := hXD
    clear hpb ht hv htt hvv hM hr
    go_enter Tryd.func23, Tryd.ntmps23
    go_wp2_with fail
    refine (HP.out _ (g.roInts 1 rfl) (g.fact 2 rfl) HMx.out).mono ?_
    rintro (e : Ending) w3 ⟨rfl, hb3⟩
    have g3 := g.on hb3
    clear z0 z1
    go_wp2
    refine bodyPost_ret (v := .tuple #[.slice none 0 0, .bool false]) (by simp [results, Tryd.results23, go_sem]) rfl ⟨_, rfl, Own.nil, g3.below⟩
  | true =>
    obtain ⟨n, rfl, n1, n4, h60, hOk⟩ := pathB_spec hpb.symm
    rw [Int.toNat_natCast] at hXD hXB
    replace hXB : XB = whlAll n ps := hXB.trans (Bool.true_and _)
    have HE := Lib.hid (fun (W : World) (y : StR W v ps) => endOf_any n t v ps W y n4 h60 hOk)
    rw [← hXB, ← hXD] at HE
    clear hXD hXB hpb ht hv htt hvv hOk hM hr
    go_enter Tryd.func23, Tryd.ntmps23
    go_wp2_with fail
    refine (HP.out _ (g.roInts 1 rfl) (g.fact 2 rfl) HMx.out).mono ?_
    rintro (e : Ending) w3 ⟨rfl, hb3⟩
    have g3 := g.on hb3
    clear z0 z1
    obtain ⟨z0, z1⟩ := g3.box2 0 rfl
    go_wp2_with fail
    refine (HE.out _ (g3.fact 2 rfl)).mono ?_
    rintro (e : Ending) w4 ⟨u4, rfl, ho4, hb4⟩
    have g4 := g3.pushOwn hb4 ho4
    go_wp2
    refine bodyPost_ret (v := .tuple #[u4, .bool XB]) (by simp [results, Tryd.results23, go_sem]) rfl ⟨_, rfl, g4.own 0 rfl, g4.below⟩

end Stp
end Go.Proofs.YtcngijafnnmccaaDoor
