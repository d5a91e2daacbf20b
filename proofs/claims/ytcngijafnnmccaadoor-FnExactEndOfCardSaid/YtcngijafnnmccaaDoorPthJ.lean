/- Paths: heights of the program; LowestOf, IsDominantPath of both. -/
import Derived.Test.YtcngijafnnmccaaDoorPthH
namespace Go.Proofs.YtcngijafnnmccaaDoor
set_option maxRecDepth 100000
open Go.RowKit
namespace Stp
open Car

set_option maxHeartbeats 4000000 in
theorem heights_any (n i : Nat) (v : Value) (ps : List Sg) (w : World) (hv : StR w v ps) (hin : i < n) (_h4 : n ≤ 4) (h60 : ps.length ≤ 60) (hOk : ∀ j, j < ps.length → stpOk n ps j = true) :
    Calls Tryd.prog 47 #[.int .i64 i, v] w (RetOwn w (hgtL i ps ps.length)) := by
  have g := (((St.start w).pushFact hv.fact).litInt 0)
  obtain ⟨A, c, rfl, _, _, _⟩ := id hv
  have HV := Lib.hid hv
  have HOk := Lib.hid hOk
  obtain ⟨pl, hpl⟩ : ∃ pl, pl = ps.length := ⟨_, rfl⟩
  have Hpl := Lib.hid hpl
  rw [← hpl] at g HV h60 ⊢
  obtain ⟨R, hR⟩ : ∃ R, R = hgtL i ps pl := ⟨_, rfl⟩
  rw [← hR]
  have HR := Lib.hid hR
  clear hv hpl hOk hR
  go_enter Tryd.func47, Tryd.ntmps47
  go_wp2
  go_loopw [5, 11] (fun v5 v11 wr => ∃ k : Nat, v11 = .int .i64 k ∧ k ≤ pl ∧ St w wr [.own v5 (hgtL i ps k), .fact (fun w' => StR w' (.slice A pl c) ps)]) (fun _ v11 _ => pl - (intOf v11).toNat)
  case atStart => exact ⟨0, rfl, by omega, g⟩
  case round =>
    clear g
    obtain ⟨k, rfl, a1, g⟩ := hrel
    obtain ⟨Ax, nx, cx, rfl⟩ := (g.own 0 rfl).slice
    by_cases hk : k < pl
    · obtain ⟨gx, rfl, hnx⟩ := g.ownSome 0 rfl (by rw [length_hgtL]; omega)
      rw [length_hgtL] at hnx
      have hk2 : k < ps.length := by rw [← Hpl.out]; exact hk
      obtain ⟨b, off, A9, c9, rfl, hm⟩ := HV.out.at (i := k) hk2
      rw [pAt_get hk2] at hm
      obtain ⟨b1, b2, b3, b4⟩ := stpOk_n (HOk.out k hk2)
      have b5 := vecIn (i := i) (by omega) b4
      have b6 := mul_bd ⟨b1, b2⟩ b5
      have tb := hgt_bd (i := i) (ps := ps) (k := k) hin (fun j hj => HOk.out j (by omega))
      obtain ⟨bw, ow, rfl, _, _⟩ := hm.2.2.toB.cell (k := i) (by omega)
      have HY := Lib.hid (fun (W : World) (h : SgAt W b (off + k * 2) (pAt ps k) (.slice (some ⟨bw, ow, none⟩) (pAt ps k).d.length c9)) => show W.cell? ⟨b, off + k * 2 + 1, none⟩ = some (.int .i64 (pAt ps k).n) ∧ W.cell? ⟨bw, ow + i, none⟩ = some (.int .i64 (vec (pAt ps k).d i)) by
        obtain ⟨bw', ow', e, _, hc⟩ := h.2.2.toB.cell (k := i) (by omega)
        simp only [Option.some.injEq, Addr.mk.injEq] at e
        obtain ⟨rfl, rfl, -⟩ := e
        exact ⟨h.2.1, hc⟩)
      have HO := Lib.hid (fun (W : World) (L : List It) (j : Nat) (h : St w W L) (hj : L[j]? = some (.own (.slice (some ⟨gx, 0, none⟩) nx cx) (hgtL i ps k))) => show W.cell? ⟨gx, k, none⟩ = some (.int .i64 (hgt i ps k)) by
        have := (h.ownCell j hj (q := k) (by rw [length_hgtL]; omega)).1
        rwa [vec_hgtL _ _ _ _ (Nat.le_refl _)] at this)
      have HL1 := Lib.hid (show hgtL i ps (k + 1) = hgtL i ps k ++ [hgt i ps (k + 1)] from hgtL_succ i ps k)
      have HT2 := Lib.hid (show hgt i ps (k + 1) = hgt i ps k + (pAt ps k).n * vec (pAt ps k).d i from rfl)
      have hLl := length_hgtL i ps k
      obtain ⟨LL, hLL⟩ : ∃ LL, LL = hgtL i ps k := ⟨_, rfl⟩
      obtain ⟨T, hT⟩ : ∃ T, T = hgt i ps k := ⟨_, rfl⟩
      obtain ⟨T2, hT2⟩ : ∃ T2, T2 = hgt i ps (k + 1) := ⟨_, rfl⟩
      rw [← hLL] at g HO HL1 hLl
      rw [← hT] at HO HT2 tb
      rw [← hT2] at HL1 HT2
      obtain ⟨m, hmm⟩ : ∃ m, m = pAt ps k := ⟨_, rfl⟩
      rw [← hmm] at hm HY HT2 b1 b2 b3 b5 b6
      obtain ⟨x, hx⟩ : ∃ x, x = m.n := ⟨_, rfl⟩
      obtain ⟨y, hy⟩ : ∃ y, y = vec m.d i := ⟨_, rfl⟩
      obtain ⟨wl, hwl⟩ : ∃ wl, wl = m.d.length := ⟨_, rfl⟩
      rw [← hx] at HY HT2 b1 b2 b6
      rw [← hy] at HY HT2 b5 b6
      rw [← hwl] at HY hm b3
      obtain ⟨z, hz⟩ : ∃ z, z = x * y := ⟨_, rfl⟩
      rw [← hz] at b6 HT2
      have ik : (k : Int) < (pl : Int) := by omega
      have ikx : (k : Int) < (nx : Int) := by omega
      have iw : (i : Int) < (wl : Int) := by omega
      have w1 : IntKind.i64.wrap (x * y) = z := by rw [← hz]; exact wrap_ok (by omega) (by omega)
      have w2 : IntKind.i64.wrap (T + z) = T2 := by rw [HT2.out]; exact wrap_ok (by omega) (by omega)
      have Hm := Lib.hid hm
      have Hll := Lib.hid (show LL.length + [T2].length ≤ 17592186044416 by rw [hLl]; simp only [List.length_singleton]; omega)
      have HEnd := Lib.hid (show LL ++ [T2] = hgtL i ps (k + 1) by rw [HL1.out])
      clear hm hLl hT hT2 hLL hmm hx hy hwl hz b1 b2 b3 b4 b5 b6 tb hk2 hnx HL1 HT2
      have gq := g.pushOld Hm.out.fact
      have y0 := (gq.fact 0 rfl).1
      have y1 := (HY.out _ (gq.fact 0 rfl)).1
      have g0 := (gq.box [.slice (some ⟨bw, ow, none⟩) wl c9, .int .i64 x] 55).drew
      clear g gq
      go_wp2
      go_upto_region 5 with fail
      clear y0 y1
      refine wp_region_cut (S := fun w' => w'.cell? ⟨gx, k, none⟩ = some (.int .i64 T) ∧ (w'.cell? ⟨wr.heap.size, 0, none⟩ = some (.slice (some ⟨bw, ow, none⟩) wl c9) ∧ w'.cell? ⟨wr.heap.size, 1, none⟩ = some (.int .i64 x)) ∧ w'.cell? ⟨bw, ow + i, none⟩ = some (.int .i64 y)) 15 (by kernel_rfl) (by kernel_rfl) ⟨HO.out _ _ 2 g0 rfl, g0.box2 0 rfl, (HY.out _ (g0.fact 1 rfl)).2⟩ (fun hHeld => ?_)
      simp only [List.take_succ_cons, List.take_zero]
      obtain ⟨v0, hv0, g8⟩ : ∃ v0, v0 = (wr.alloc (.cells #[.slice (some ⟨bw, ow, none⟩) wl c9, .int .i64 x] 55)).drew ∧ St w v0 _ := ⟨_, rfl, g0⟩
      rw [← hv0] at g0 hHeld ⊢
      clear hv0 g8
      refine anyH_take (v := ?_) 0 rfl (by kernel_rfl) (by kernel_rfl) (by kernel_rfl) (fun _ _ _ h => h) rfl ?_ hHeld ?_
      rotate_left
      · intro w' hSw
        go_simp
        try with_reducible rfl
      try simp only [Act.put, List.setIfInBounds_toArray, List.set_cons_zero, List.set_cons_succ]
      refine anyH_take (v := ?_) 1 rfl (by kernel_rfl) (by kernel_rfl) (by kernel_rfl) (fun _ _ _ h => h) rfl ?_ hHeld ?_
      rotate_left
      · intro w' hSw
        go_simp
        try with_reducible rfl
      try simp only [Act.put, List.setIfInBounds_toArray, List.set_cons_zero, List.set_cons_succ]
      refine anyH_take (v := ?_) 2 rfl (by kernel_rfl) (by kernel_rfl) (by kernel_rfl) (fun _ _ _ h => h) rfl ?_ hHeld ?_
      rotate_left
      · intro w' hSw
        go_simp
        try with_reducible rfl
      try simp only [Act.put, List.setIfInBounds_toArray, List.set_cons_zero, List.set_cons_succ]
      refine anyH_take (v := ?_) 3 rfl (by kernel_rfl) (by kernel_rfl) (by kernel_rfl) (fun _ _ _ h => h) rfl ?_ hHeld ?_
      rotate_left
      · intro w' hSw
        go_simp
        try with_reducible rfl
      try simp only [Act.put, List.setIfInBounds_toArray, List.set_cons_zero, List.set_cons_succ]
      refine anyH_take (v := ?_) 4 rfl (by kernel_rfl) (by kernel_rfl) (by kernel_rfl) (fun _ _ _ h => h) rfl ?_ hHeld ?_
      rotate_left
      · intro w' hSw
        go_simp
        try with_reducible rfl
      try simp only [Act.put, List.setIfInBounds_toArray, List.set_cons_zero, List.set_cons_succ]
      refine anyH_take (v := ?_) 5 rfl (by kernel_rfl) (by kernel_rfl) (by kernel_rfl) (fun _ _ _ h => h) rfl ?_ hHeld ?_
      rotate_left
      · intro w' hSw
        go_simp
        try with_reducible rfl
      try simp only [Act.put, List.setIfInBounds_toArray, List.set_cons_zero, List.set_cons_succ]
      refine anyH_take (v := ?_) 6 rfl (by kernel_rfl) (by kernel_rfl) (by kernel_rfl) (fun _ _ _ h => h) rfl ?_ hHeld ?_
      rotate_left
      · intro w' hSw
        go_simp
        try with_reducible rfl
      try simp only [Act.put, List.setIfInBounds_toArray, List.set_cons_zero, List.set_cons_succ]
      refine anyH_take (v := ?_) 7 rfl (by kernel_rfl) (by kernel_rfl) (by kernel_rfl) (fun _ _ _ h => h) rfl ?_ hHeld ?_
      rotate_left
      · intro w' hSw
        go_simp
        try with_reducible rfl
      try simp only [Act.put, List.setIfInBounds_toArray, List.set_cons_zero, List.set_cons_succ]
      refine anyH_take (v := ?_) 8 rfl (by kernel_rfl) (by kernel_rfl) (by kernel_rfl) (fun _ _ _ h => h) rfl ?_ hHeld ?_
      rotate_left
      · intro w' hSw
        go_simp
        try with_reducible rfl
      try simp only [Act.put, List.setIfInBounds_toArray, List.set_cons_zero, List.set_cons_succ]
      refine anyH_take (v := ?_) 9 rfl (by kernel_rfl) (by kernel_rfl) (by kernel_rfl) (fun _ _ _ h => h) rfl ?_ hHeld ?_
      rotate_left
      · intro w' hSw
        go_simp
        try with_reducible rfl
      try simp only [Act.put, List.setIfInBounds_toArray, List.set_cons_zero, List.set_cons_succ]
      refine anyH_take (v := ?_) 10 rfl (by kernel_rfl) (by kernel_rfl) (by kernel_rfl) (fun _ _ _ h => h) rfl ?_ hHeld ?_
      rotate_left
      · intro w' hSw
        go_simp
        try with_reducible rfl
      try simp only [Act.put, List.setIfInBounds_toArray, List.set_cons_zero, List.set_cons_succ]
      refine anyH_take (v := ?_) 11 rfl (by kernel_rfl) (by kernel_rfl) (by kernel_rfl) (fun _ _ _ h => h) rfl ?_ hHeld ?_
      rotate_left
      · intro w' hSw
        go_simp
        try with_reducible rfl
      try simp only [Act.put, List.setIfInBounds_toArray, List.set_cons_zero, List.set_cons_succ]
      refine anyH_take (v := ?_) 12 rfl (by kernel_rfl) (by kernel_rfl) (by kernel_rfl) (fun _ _ _ h => h) rfl ?_ hHeld ?_
      rotate_left
      · intro w' hSw
        go_simp
        try with_reducible rfl
      try simp only [Act.put, List.setIfInBounds_toArray, List.set_cons_zero, List.set_cons_succ]
      refine anyH_take (v := ?_) 13 rfl (by kernel_rfl) (by kernel_rfl) (by kernel_rfl) (fun _ _ _ h => h) rfl ?_ hHeld ?_
      rotate_left
      · intro w' hSw
        go_simp
        try with_reducible rfl
      try simp only [Act.put, List.setIfInBounds_toArray, List.set_cons_zero, List.set_cons_succ]
      refine wpAnyH_ready (rs := [14]) (by kernel_rfl) (by simp) ?_
      refine ready_cons rfl (fun K hK => ?_) AllReadyH.nil
      go_simp
      have g1 := g0.litInt T2
      refine hK.out _ _ ?_ (fun hHeld => ?_)
      · exact ⟨HO.out _ _ 3 g1 rfl, g1.box2 1 rfl, (HY.out _ (g1.fact 2 rfl)).2⟩
      clear hK K
      try simp only [Act.put, List.setIfInBounds_toArray, List.set_cons_zero, List.set_cons_succ]
      refine wpAnyH_done (by kernel_rfl) ?_ _
      show wpList _ _ _ _ _ _
      simp only [List.drop_succ_cons, List.drop_zero]
      clear hHeld
      clear g0
      go_wp2_with (at_builtin; refine wp_append_ints rfl (.tmp 16) (.tmp 30) rfl w.heap.size _ _ LL [T2] rfl (by first | rfl | (simp only [World.size_alloc]; rfl)) (g1.own 3 rfl) (g1.ownInts 0 rfl) Hll.out g1.size ?_; intro v1 w7 ho1 hg1 hb1; have h5 := g1.appended 3 rfl ho1 hg1 hb1)
      simp only [List.set_cons_zero, List.set_cons_succ] at h5
      rw [HEnd.out] at h5
      clear g1 ho1 hg1 hb1
      go_roundw
      case rel => exact ⟨k + 1, by go_num, by omega, h5.drop 3⟩
      case measure => simp [intOf]; omega
    · obtain rfl : pl = k := by omega
      rw [← HR.out] at g
      go_wp2
      go_ret
      exact ⟨_, rfl, g.own 0 rfl, g.below⟩

theorem pathB_spec {r : Int} {D : List Int} {ps : List Sg} (h : pathB r D ps = true) : ∃ n : Nat, r = (n : Int) ∧ 1 ≤ n ∧ n ≤ 4 ∧ ps.length ≤ 60 ∧ ∀ j, j < ps.length → stpOk n ps j = true := by
  unfold pathB carB pOk at h
  simp only [Bool.and_eq_true, decide_eq_true_eq, List.all_eq_true] at h
  obtain ⟨⟨h1, _⟩, h2, h3, _⟩ := h
  have hr : 1 ≤ r ∧ r ≤ 4 := by simpa [inR] using h1
  exact ⟨r.toNat, by omega, by omega, by omega, h2, fun j hj => h3 j (List.mem_range'.2 ⟨j, by omega, by omega⟩)⟩
/-- The least height for row i. -/
def lst (ps : List Sg) (i : Nat) : Int := mn (hgtL i ps ps.length) ps.length
def lowV (r : Int) (D : List Int) (i : Int) (ps : List Sg) : Int := if pathB r D ps = true ∧ inR i 0 (r - 1) = true then lst ps i.toNat else 0
def domL (n : Nat) (ps : List Sg) : Bool := (List.range' 0 (n - 0)).all fun i => decide (0 ≤ lst ps i)
def domB (r : Int) (D : List Int) (ps : List Sg) : Bool := pathB r D ps && domL r.toNat ps
theorem lst_hgtL (ps : List Sg) (i : Nat) : mn (hgtL i ps ps.length) ((hgtL i ps ps.length).length - 1) = lst ps i := by rw [length_hgtL]; rfl

set_option maxHeartbeats 4000000 in
theorem LowestOfS_any (r i : Int) (t v : Value) (D : List Int) (ps : List Sg) (w : World) (ht : Ints w t D) (hv : StR w v ps) :
    Calls Tryd.prog 14 #[.agg #[.int .i64 r, t], .int .i64 i, v] w fun e w' => e = .returned (.int .i64 (lowV r D i ps)) ∧ Below w.heap.size w w' := by
  have g := (((St.start w).pushFact hv.fact).arg ht).box [.int .i64 r, t] 33
  have HP := Lib.hid (fun (W : World) (x : Ints W t D) (y : StR W v ps) => PathOkS_any r _ _ D ps W x y)
  obtain ⟨A, c, rfl, _, _, _⟩ := id ht
  obtain ⟨A2, c2, rfl, _, _, _⟩ := id hv
  obtain ⟨t, htt⟩ : ∃ t, t = Value.slice A D.length c := ⟨_, rfl⟩
  obtain ⟨v, hvv⟩ : ∃ v, v = Value.slice A2 ps.length c2 := ⟨_, rfl⟩
  rw [← htt] at g HP ⊢
  rw [← hvv] at g HP ⊢
  obtain ⟨X, hX⟩ : ∃ X, X = lowV r D i ps := ⟨_, rfl⟩
  rw [← hX]
  obtain ⟨z0, z1⟩ := g.box2 0 rfl
  unfold lowV at hX
  obtain ⟨pb, hpb⟩ : ∃ pb, pb = pathB r D ps := ⟨_, rfl⟩
  rw [← hpb] at hX HP
  cases pb with
  | false =>
    have HX := Lib.hid (show X = 0 by rw [hX, if_neg (fun h => by cases h.1)])
    clear hX hpb ht hv htt hvv
    go_enter Tryd.func14, Tryd.ntmps14
    go_wp2_with fail
    refine (HP.out _ (g.roInts 1 rfl) (g.fact 2 rfl)).mono ?_
    rintro (e : Ending) w3 ⟨rfl, hb3⟩
    have g3 := g.on hb3
    clear z0 z1
    go_wp2
    go_ret
    exact ⟨ret_int HX.out.symm, g3.below⟩
  | true =>
    obtain ⟨n, rfl, n1, n4, h60, hOk⟩ := pathB_spec hpb.symm
    have HIn := Lib.hid (fun W => l1In_any i 0 ((n : Int) - 1) W)
    obtain ⟨ib, hib⟩ : ∃ ib, ib = inR i 0 ((n : Int) - 1) := ⟨_, rfl⟩
    rw [← hib] at HIn hX
    cases ib with
    | false =>
      have HX := Lib.hid (show X = 0 by rw [hX, if_neg (fun h => by cases h.2)])
      clear hX hpb ht hv htt hvv hOk hib
      go_enter Tryd.func14, Tryd.ntmps14
      go_wp2_with fail
      refine (HP.out _ (g.roInts 1 rfl) (g.fact 2 rfl)).mono ?_
      rintro (e : Ending) w3 ⟨rfl, hb3⟩
      have g3 := g.on hb3
      clear z0 z1
      obtain ⟨z0, z1⟩ := g3.box2 0 rfl
      go_wp2_with (go_at_call 40; refine (HIn.out _).mono ?_; rintro e w' ⟨rfl, rfl⟩)
      go_ret
      exact ⟨ret_int HX.out.symm, g3.below⟩
    | true =>
      have hi : 0 ≤ i ∧ i ≤ (n : Int) - 1 := by have h := hib.symm; simpa [inR] using h
      obtain ⟨j, rfl⟩ : ∃ j : Nat, i = (j : Int) := ⟨i.toNat, by omega⟩
      have HX := Lib.hid (show X = lst ps j by rw [hX, if_pos ⟨rfl, rfl⟩, Int.toNat_natCast])
      have hjn : j < n := by omega
      have HH := Lib.hid (fun (W : World) (y : StR W v ps) => l9Heights_any n j v ps W y hjn n4 h60 hOk)
      have HL := Lib.hid (fun (W : World) (u : Value) (x : Ints W u (hgtL j ps ps.length)) => l9Least_any u _ W x (by rw [length_hgtL]; omega))
      rw [lst_hgtL, ← HX.out] at HL
      obtain ⟨LL, hLL⟩ : ∃ LL, LL = hgtL j ps ps.length := ⟨_, rfl⟩
      rw [← hLL] at HH HL
      clear hX hpb ht hv htt hvv hOk hib hi HX hLL
      go_enter Tryd.func14, Tryd.ntmps14
      go_wp2_with fail
      refine (HP.out _ (g.roInts 1 rfl) (g.fact 2 rfl)).mono ?_
      rintro (e : Ending) w3 ⟨rfl, hb3⟩
      have g3 := g.on hb3
      clear z0 z1
      obtain ⟨z0, z1⟩ := g3.box2 0 rfl
      go_wp2_with (go_at_call 40; refine (HIn.out _).mono ?_; rintro e w' ⟨rfl, rfl⟩)
      refine (HH.out _ (g3.fact 2 rfl)).mono ?_
      rintro (e : Ending) w4 ⟨u4, rfl, ho4, hb4⟩
      have g4 := g3.pushOwn hb4 ho4
      go_wp2_with fail
      refine (HL.out _ _ (g4.ownInts 0 rfl)).mono ?_
      rintro (e : Ending) w5 ⟨rfl, rfl⟩
      go_wp2
      go_ret
      exact ⟨rfl, g4.below⟩
set_option maxHeartbeats 4000000 in
theorem LowestOfI_any (r i : Int) (t v : Value) (D : List Int) (ps : List Sg) (w : World) (ht : Ints w t D) (hv : StR w v ps) (hM : MaxAt w) (hr : -9223372036854775808 ≤ r ∧ r ≤ 9223372036854775807) :
    Calls Tryd.prog 17 #[.agg #[.int .i64 r, t], .int .i64 i, v] w fun e w' => e = .returned (.int .i64 (lowV r D i ps)) ∧ Below w.heap.size w w' := by
  have g := (((St.start w).pushFact hv.fact).arg ht).box [.int .i64 r, t] 33
  have HP := Lib.hid (fun (W : World) (x : Ints W t D) (y : StR W v ps) (m : MaxAt W) => PathOkI_any r _ _ D ps W x y m hr)
  have HMx := Lib.hid (show MaxAt (w.alloc (.cells #[.int .i64 r, t] 33)) from MaxAt.below hM ((Below.refl w.heap.size w).alloc (Nat.le_refl _) _))
  obtain ⟨A, c, rfl, _, _, _⟩ := id ht
  obtain ⟨A2, c2, rfl, _, _, _⟩ := id hv
  obtain ⟨t, htt⟩ : ∃ t, t = Value.slice A D.length c := ⟨_, rfl⟩
  obtain ⟨v, hvv⟩ : ∃ v, v = Value.slice A2 ps.length c2 := ⟨_, rfl⟩
  rw [← htt] at g HP HMx ⊢
  rw [← hvv] at g HP ⊢
  obtain ⟨X, hX⟩ : ∃ X, X = lowV r D i ps := ⟨_, rfl⟩
  rw [← hX]
  obtain ⟨z0, z1⟩ := g.box2 0 rfl
  unfold lowV at hX
  obtain ⟨pb, hpb⟩ : ∃ pb, pb = pathB r D ps := ⟨_, rfl⟩
  rw [← hpb] at hX HP
  cases pb with
  | false =>
    have HX := Lib.hid (show X = 0 by rw [hX, if_neg (fun h => by cases h.1)])
    clear hX hpb ht hv htt hvv hM hr
    go_enter Tryd.func17, Tryd.ntmps17
    go_wp2_with fail
    refine (HP.out _ (g.roInts 1 rfl) (g.fact 2 rfl) HMx.out).mono ?_
    rintro (e : Ending) w3 ⟨rfl, hb3⟩
    have g3 := g.on hb3
    clear z0 z1
    go_wp2
    go_ret
    exact ⟨ret_int HX.out.symm, g3.below⟩
  | true =>
    obtain ⟨n, rfl, n1, n4, h60, hOk⟩ := pathB_spec hpb.symm
    have HIn := Lib.hid (fun W => inside_any i 0 ((n : Int) - 1) W)
    obtain ⟨ib, hib⟩ : ∃ ib, ib = inR i 0 ((n : Int) - 1) := ⟨_, rfl⟩
    rw [← hib] at HIn hX
    cases ib with
    | false =>
      have HX := Lib.hid (show X = 0 by rw [hX, if_neg (fun h => by cases h.2)])
      clear hX hpb ht hv htt hvv hOk hib hM hr
      go_enter Tryd.func17, Tryd.ntmps17
      go_wp2_with fail
      refine (HP.out _ (g.roInts 1 rfl) (g.fact 2 rfl) HMx.out).mono ?_
      rintro (e : Ending) w3 ⟨rfl, hb3⟩
      have g3 := g.on hb3
      clear z0 z1
      obtain ⟨z0, z1⟩ := g3.box2 0 rfl
      go_wp2_with (go_at_call 45; refine (HIn.out _).mono ?_; rintro e w' ⟨rfl, rfl⟩)
      go_ret
      exact ⟨ret_int HX.out.symm, g3.below⟩
    | true =>
      have hi : 0 ≤ i ∧ i ≤ (n : Int) - 1 := by have h := hib.symm; simpa [inR] using h
      obtain ⟨j, rfl⟩ : ∃ j : Nat, i = (j : Int) := ⟨i.toNat, by omega⟩
      have HX := Lib.hid (show X = lst ps j by rw [hX, if_pos ⟨rfl, rfl⟩, Int.toNat_natCast])
      have hjn : j < n := by omega
      have HH := Lib.hid (fun (W : World) (y : StR W v ps) => heights_any n j v ps W y hjn n4 h60 hOk)
      have HL := Lib.hid (fun (W : World) (u : Value) (x : Ints W u (hgtL j ps ps.length)) => Min_any u _ W x (by rw [length_hgtL]; omega))
      rw [lst_hgtL, ← HX.out] at HL
      obtain ⟨LL, hLL⟩ : ∃ LL, LL = hgtL j ps ps.length := ⟨_, rfl⟩
      rw [← hLL] at HH HL
      clear hX hpb ht hv htt hvv hOk hib hi HX hLL hM hr
      go_enter Tryd.func17, Tryd.ntmps17
      go_wp2_with fail
      refine (HP.out _ (g.roInts 1 rfl) (g.fact 2 rfl) HMx.out).mono ?_
      rintro (e : Ending) w3 ⟨rfl, hb3⟩
      have g3 := g.on hb3
      clear z0 z1
      obtain ⟨z0, z1⟩ := g3.box2 0 rfl
      go_wp2_with (go_at_call 45; refine (HIn.out _).mono ?_; rintro e w' ⟨rfl, rfl⟩)
      refine (HH.out _ (g3.fact 2 rfl)).mono ?_
      rintro (e : Ending) w4 ⟨u4, rfl, ho4, hb4⟩
      have g4 := g3.pushOwn hb4 ho4
      go_wp2_with fail
      refine (HL.out _ _ (g4.ownInts 0 rfl)).mono ?_
      rintro (e : Ending) w5 ⟨rfl, rfl⟩
      go_wp2
      go_ret
      exact ⟨rfl, g4.below⟩

end Stp
end Go.Proofs.YtcngijafnnmccaaDoor
