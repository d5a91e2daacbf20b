/- CasimirOf of the reference. -/
import Derived.Test.YthiainhhaokjoaaCasP
import Derived.Test.YthiainhhaokjoaaInvS
namespace Go.Proofs.Ythiainhhaokjoaa
set_option maxRecDepth 100000
open Go.RowKit

theorem mt4 {w : World} {b o : Nat} {m : Mt} {u : Value} (h : MtAt w b o m u) : w.cell? ⟨b, o, none⟩ = some (.int .i64 m.p) ∧ w.cell? ⟨b, o + 1, none⟩ = some (.int .i64 m.r) ∧ w.cell? ⟨b, o + 2, none⟩ = some (.int .i64 m.c) ∧ w.cell? ⟨b, o + 3, none⟩ = some u := ⟨h.1, h.2.1, h.2.2.1, h.2.2.2.1⟩
theorem matOk_sqS {p : Int} {n : Nat} {D : List Int} (hP : isPrime p = true) (hn : n ≤ 40) (hD : D.length = n * n) (rD : resid p D = true) : matOk p n n D = true := by
  have e1 : (D.length : Int) = (n : Int) * n := by rw [hD]; simp
  have i1 : inR (n : Int) 0 40 = true := by simp [inR]; omega
  simp only [matOk, hP, i1, rD, decide_eq_true e1, Bool.and_self]
set_option maxHeartbeats 4000000 in
theorem CasimirOfS_any (p n : Int) (t v : Value) (T : List Int) (ms : List Mt) (w : World) (ht : Ints w t T) (hv : MatsR w v ms) (hp0 : p ≤ 9223372036854775807) (hw : ∀ i, i < ms.length → (mAt ms i).p ≤ 9223372036854775807) :
    Calls Try.prog 40 #[.agg #[.int .i64 p, .int .i64 n, t], v] w (RetMatB w (casP p n T ms) (casR p n T ms) (casR p n T ms) (casD p n T ms) (casOk p n T ms)) := by
  have h1 := ((((St.start w).arg ht)).pushFact hv.fact).box [.int .i64 p, .int .i64 n, t] 33
  replace h1 := h1.box [.int .i64 0, .int .i64 0, .int .i64 0, .slice none 0 0] 40
  simp only [World.size_alloc] at h1
  obtain ⟨A, k, rfl, _, _, _⟩ := id ht
  obtain ⟨A2, k2, rfl, _, _, _⟩ := id hv
  have HI := Lib.hid (fun (W : World) (h1 : Ints W (.slice A T.length k) T) (h2 : MatsR W (.slice A2 ms.length k2) ms) => IsModuleS_any p n _ _ T ms W h1 h2 hp0 hw)
  have HV := Lib.hid hv
  obtain ⟨Po, hPo⟩ : ∃ Po : Ending → World → Prop, Po = RetMatB w (casP p n T ms) (casR p n T ms) (casR p n T ms) (casD p n T ms) (casOk p n T ms) := ⟨_, rfl⟩
  rw [← hPo]
  have HNo := Lib.hid (show casOk p n T ms = false → Po = RetMatB w 0 0 0 [] false from fun b0 => by
    rw [hPo, show casP p n T ms = 0 by simp [casP, b0], show casR p n T ms = 0 by simp [casR, b0], show casD p n T ms = [] by simp [casD, b0], b0])
  have HYes := Lib.hid (show casOk p n T ms = true → Po = RetMatB w p (mAt ms 0).r (mAt ms 0).r (casL p n.toNat T ms) true from fun b0 => by
    rw [hPo, show casP p n T ms = p by simp [casP, b0], show casR p n T ms = (mAt ms 0).r by simp [casR, b0], show casD p n T ms = casL p n.toNat T ms by simp [casD, b0], b0])
  clear ht hv hw hPo
  by_cases b1 : isMod p n T ms = true
  case neg =>
    have b1 : isMod p n T ms = false := by simpa using b1
    have HF := Lib.hid (HNo.out (by rw [casOk, b1, Bool.false_and]))
    have B1 := Lib.hid b1
    clear b1 HNo HYes
    obtain ⟨z0, z1, z2⟩ := h1.box3 1 rfl
    go_enter Try.func40, Try.ntmps40
    go_wp2_with fail
    refine (HI.out _ (h1.roInts 3 rfl) (h1.fact 2 rfl)).mono ?_
    rintro (e : Ending) w1 ⟨rfl, hb1⟩
    have g1 := h1.on hb1
    rw [B1.out]
    clear h1 hb1 z0 z1 z2
    obtain ⟨p0, p1, p2, p3⟩ := g1.box4 0 rfl
    have f0 := g1.free 0 rfl 0
    have f1 := g1.free 0 rfl 1
    have f2 := g1.free 0 rfl 2
    have f3 := g1.free 0 rfl 3
    have g5 := (((g1.setBox 0 rfl 0 (.int .i64 0)).setBox 0 rfl 1 (.int .i64 0)).setBox 0 rfl 2 (.int .i64 0)).setBox 0 rfl 3 (.slice none 0 0)
    obtain ⟨r0, r1, r2, r3⟩ := g5.box4 0 rfl
    go_wp2
    refine bodyPost_ret (v := .tuple #[.agg #[.int .i64 0, .int .i64 0, .int .i64 0, .slice none 0 0], .bool false]) (by simp [results, Try.results40, go_sem, r0, r1, r2, r3]) rfl ?_
    rw [HF.out]
    exact ⟨_, rfl, Own.nil, g5.below⟩
  obtain ⟨N, s, rfl, hN, hN0, hs, hs30, hA, hM⟩ := isMod_all b1
  obtain ⟨M, hM1, hM2, kT, rT, hp, hp', hP⟩ := algOk_spec hA
  obtain rfl : N = M := by omega
  rw [Int.toNat_natCast, hs] at HYes
  have HKf := Lib.hid (fun (W : World) (x1 : Ints W (.slice A T.length k) T) => l3Killing_any p N _ T W x1 kT hM2 hP rT)
  have HIv := Lib.hid (fun (W : World) (v1 : Value) (x1 : Ints W v1 (kfD p N T)) => l1Invert_any p N v1 _ W x1 (matOk_sqS hP (by omega) (length_kfD p N T) (kfD_resid hp N T)))
  have B1 := Lib.hid b1
  by_cases b2 : rankL p N (rowsM N N (kfD p N T)) = N
  case neg =>
    have HF := Lib.hid (HNo.out (by rw [casOk, b1, Bool.true_and, Int.toNat_natCast, decide_eq_false b2]))
    simp only [if_neg b2] at HIv
    clear b1 b2 HNo HYes hA hM hs hN kT rT hP hM1
    obtain ⟨z0, z1, z2⟩ := h1.box3 1 rfl
    go_enter Try.func40, Try.ntmps40
    go_wp2_with fail
    refine (HI.out _ (h1.roInts 3 rfl) (h1.fact 2 rfl)).mono ?_
    rintro (e : Ending) w1 ⟨rfl, hb1⟩
    have g1 := h1.on hb1
    rw [B1.out]
    clear h1 hb1 z0 z1 z2
    obtain ⟨z0, z1, z2⟩ := g1.box3 1 rfl
    go_wp2_with fail
    refine (HKf.out _ (g1.roInts 3 rfl)).mono ?_
    rintro (e : Ending) w2 ⟨u2, rfl, ho2, hb2⟩
    have g2 := g1.pushOwn hb2 ho2
    clear g1 hb2 ho2 z0 z1 z2
    go_wp2_with fail
    refine (HIv.out _ _ (g2.ownInts 0 rfl)).mono ?_
    rintro (e : Ending) w3 ⟨u3, rfl, ho3, hb3⟩
    obtain ⟨A3, n3, c3, rfl⟩ := ho3.slice
    have g3 := (g2.pushOwn hb3 ho3).box [.int .i64 0, .int .i64 0, .int .i64 0, .slice A3 n3 c3] 40
    clear g2 hb3 ho3
    generalize hB6 : w3.heap.size = B6 at g3 ⊢
    clear hB6
    obtain ⟨p0, p1, p2, p3⟩ := g3.box4 3 rfl
    have f0 := g3.free 3 rfl 0
    have f1 := g3.free 3 rfl 1
    have f2 := g3.free 3 rfl 2
    have f3 := g3.free 3 rfl 3
    have g5 := (((g3.setBox 3 rfl 0 (.int .i64 0)).setBox 3 rfl 1 (.int .i64 0)).setBox 3 rfl 2 (.int .i64 0)).setBox 3 rfl 3 (.slice none 0 0)
    obtain ⟨r0, r1, r2, r3⟩ := g5.box4 3 rfl
    go_wp2
    refine bodyPost_ret (v := .tuple #[.agg #[.int .i64 0, .int .i64 0, .int .i64 0, .slice none 0 0], .bool false]) (by simp [results, Try.results40, go_sem, r0, r1, r2, r3]) rfl ?_
    rw [HF.out]
    exact ⟨_, rfl, Own.nil, g5.below⟩
  case pos =>
    have HF := Lib.hid (HYes.out (by rw [casOk, b1, Bool.true_and, Int.toNat_natCast, decide_eq_true b2]))
    simp only [if_pos b2] at HIv
    obtain ⟨hKl, hKr⟩ := casK_ok hP b2
    have hKe : flat N (invTo p N (rowsM N N (kfD p N T)) N) = casK p N T := rfl
    rw [hKe] at HIv
    obtain ⟨Kd, hKd⟩ : ∃ Kd, Kd = casK p N T := ⟨_, rfl⟩
    have hL : casL p N T ms = casTo p s N (ms.map Mt.d) Kd (N * N) := by rw [casL, hs, Int.toNat_natCast, hKd]
    rw [← hKd] at HIv hKl hKr
    rw [hL] at HF
    have hss := mul_le hs30 hs30
    have HZ := Lib.hid (fun W => l1Zero_any p s s W (by omega))
    have HSz := Lib.hid (show ∀ (W : World) (v1 : Value), MatsR W v1 ms → Calls Try.prog 82 #[v1] W (fun e w' => e = .returned (.int .i64 s) ∧ Below W.heap.size W w') from fun W v1 x1 => by
      cases ms with
      | nil => simp at hN; omega
      | cons m l =>
        have h9 := l10Size_any v1 m l W x1
        rw [show m.r = (s : Int) from hs] at h9
        exact h9.mono fun e w' h => ⟨h.1, h.2 ▸ Below.refl _ _⟩)
    have HAt := Lib.hid (fun (W : World) (v1 : Value) (i j : Nat) (hi : i < N) (hj : j < N) (x1 : Ints W v1 Kd) => l1At_any p N N v1 Kd i j W x1 hKl (by have := mul_le hM2 hM2; omega) hi hj)
    have HMu := Lib.hid (fun (W : World) (v1 v2 : Value) (i j : Nat) (hi : i < N) (hj : j < N) (x1 : Ints W v1 (mAt ms i).d) (x2 : Ints W v2 (mAt ms j).d) => l1Mul_any p p s s s s v1 v2 _ _ W x1 x2 rfl (hM i (by omega)).2.2.2.1 (hM j (by omega)).2.2.2.1 (by omega) (by omega) (by omega) hp hp' (hM i (by omega)).2.2.2.2 (hM j (by omega)).2.2.2.2)
    have HSc := Lib.hid (fun (W : World) (v1 : Value) (x : Int) (i j : Nat) (hx0 : 0 ≤ x) (hxp : x < p) (x1 : Ints W v1 (mulD p s s s (mAt ms i).d (mAt ms j).d)) => l1Scale_any p s s x v1 _ W x1 (by rw [length_mulD]; omega) hp hp' (by omega) (by omega) (resid_mulD hp _ _ _ _ _))
    have HAd := Lib.hid (fun (W : World) (v1 v2 : Value) (q : Nat) (x : Int) (i j : Nat) (x1 : Ints W v1 (casTo p s N (ms.map Mt.d) Kd q)) (x2 : Ints W v2 (scaleR p (x % p) (mulD p s s s (mAt ms i).d (mAt ms j).d))) => (show Calls Try.prog 91 #[.agg #[.int .i64 p, .int .i64 s, .int .i64 s, v1], .agg #[.int .i64 p, .int .i64 s, .int .i64 s, v2]] W (RetMat W p s s (addL (casTo p s N (ms.map Mt.d) Kd q) x (mulD p s s s (mAt ms i).d (mAt ms j).d) p)) by
      have hlen := (casTo_ok hp s N (ms.map Mt.d) Kd q)
      have h9 := l1Add_any p p s s s s v1 v2 _ _ W x1 x2 (by rw [hlen.1]; omega) (by rw [length_scaleR, length_mulD, hlen.1]) hp hp' hlen.2 (resid_scaleR (by omega) _ _)
      rwa [addL_scale (by omega) (by rw [length_mulD, hlen.1])] at h9))
    have HM := Lib.hid hM
    have HKr := Lib.hid hKr
    have HKl := Lib.hid hKl
    have HNm := Lib.hid hN
    have Hp := Lib.hid hp
    have Hds := Lib.hid (fun i (hi : i < N) => mds_row (ms := ms) (i := i) (by omega))
    clear b1 b2 HNo HYes hA hM hs kT rT hP hM1 hKl hKr hKe hKd hL hss hN
    obtain ⟨z0, z1, z2⟩ := h1.box3 1 rfl
    go_enter Try.func40, Try.ntmps40
    go_wp2_with fail
    refine (HI.out _ (h1.roInts 3 rfl) (h1.fact 2 rfl)).mono ?_
    rintro (e : Ending) w1 ⟨rfl, hb1⟩
    have g1 := h1.on hb1
    rw [B1.out]
    clear h1 hb1 z0 z1 z2
    obtain ⟨z0, z1, z2⟩ := g1.box3 1 rfl
    go_wp2_with fail
    refine (HKf.out _ (g1.roInts 3 rfl)).mono ?_
    rintro (e : Ending) w2 ⟨u2, rfl, ho2, hb2⟩
    have g2 := g1.pushOwn hb2 ho2
    clear g1 hb2 ho2 z0 z1 z2
    go_wp2_with fail
    refine (HIv.out _ _ (g2.ownInts 0 rfl)).mono ?_
    rintro (e : Ending) w3 ⟨u3, rfl, ho3, hb3⟩
    obtain ⟨A3, c3, rfl, _, _, _⟩ := id ho3.ints
    have g3 := ((g2.pushOwn hb3 ho3).box [.int .i64 p, .int .i64 N, .int .i64 N, .slice A3 Kd.length c3] 40)
    clear g2 hb3 ho3
    go_upto_region 6 with fail
    generalize hB6 : w3.heap.size = B6 at g3 ⊢
    clear hB6
    revert g3
    generalize w3.alloc (.cells #[.int .i64 p, .int .i64 N, .int .i64 N, .slice A3 Kd.length c3] 40) = wq
    intro g3
    go_cut [8] (fun s8 wx => ∃ (B : Nat) (A4 : Option Addr) (n4 c4 : Nat), s8 = .pointer (some ⟨B, 0, none⟩) ∧ St w wx [.box B [.int .i64 p, .int .i64 s, .int .i64 s, .slice A4 n4 c4], .own (.slice A4 n4 c4) (List.replicate (s * s) 0), .own (.slice A3 Kd.length c3) Kd, .box B6 [.int .i64 p, .int .i64 N, .int .i64 N, .slice A3 Kd.length c3], .box (w.heap.size + 1) [.int .i64 0, .int .i64 0, .int .i64 0, .slice none 0 0], .box w.heap.size [.int .i64 p, .int .i64 N, .slice A T.length k], .fact (fun w' => MatsR w' (.slice A2 ms.length k2) ms), .ro (.slice A T.length k) T])
    case first =>
      have g := g3.drew
      clear g3
      refine wp_region_cut (S := fun w' => (w'.cell? ⟨w.heap.size, 0, none⟩ = some (.int .i64 p) ∧ w'.cell? ⟨w.heap.size, 1, none⟩ = some (.int .i64 N) ∧ w'.cell? ⟨w.heap.size, 2, none⟩ = some (.slice A T.length k))) 8 (by kernel_rfl) (by kernel_rfl) (g.box3 4 rfl) (fun hHeld => ?_)
      simp only [List.take_succ_cons, List.take_zero]
      generalize wq.drew = v0 at g hHeld ⊢
      refine anyH_take (v := ?_) 0 rfl (by kernel_rfl) (by kernel_rfl) (by kernel_rfl) (fun _ _ _ h => h) rfl ?_ hHeld ?_
      rotate_left
      · intro w' hSw
        go_simp
        try with_reducible rfl
      try simp only [Act.put, List.setIfInBounds_toArray, List.set_cons_zero, List.set_cons_succ]
      refine anyH_take (v := ?_) 1 rfl (by kernel_rfl) (by kernel_rfl) (by kernel_rfl) (fun _ _ _ h => h) rfl ?_ hHeld ?_
      rotate_left
      · intro w' hSw
        go_simp
        try with_reducible rfl
      try simp only [Act.put, List.setIfInBounds_toArray, List.set_cons_zero, List.set_cons_succ]
      refine anyH_take (v := ?_) 2 rfl (by kernel_rfl) (by kernel_rfl) (by kernel_rfl) (fun _ _ _ h => h) rfl ?_ hHeld ?_
      rotate_left
      · intro w' hSw
        go_simp
        try with_reducible rfl
      try simp only [Act.put, List.setIfInBounds_toArray, List.set_cons_zero, List.set_cons_succ]
      refine anyH_take (v := ?_) 4 rfl (by kernel_rfl) (by kernel_rfl) (by kernel_rfl) (fun _ _ _ h => h) rfl ?_ hHeld ?_
      rotate_left
      · intro w' hSw
        go_simp
        try with_reducible rfl
      try simp only [Act.put, List.setIfInBounds_toArray, List.set_cons_zero, List.set_cons_succ]
      refine wpAnyH_ready (rs := [3, 7]) (by kernel_rfl) (by simp) ?_
      refine ready_cons rfl (fun K hK => ?_) (ready_cons rfl (fun K hK => ?_) AllReadyH.nil)
      · go_simp
        refine (HSz.out _ _ (g.fact 5 rfl)).mono ?_
        rintro (e : Ending) w4 ⟨rfl, hb4⟩
        replace g := g.on hb4
        show K _ _
        refine hK.out _ _ ?_ (fun hHeld => ?_)
        · exact (g.box3 4 rfl)
        clear hK K
        try simp only [Act.put, List.setIfInBounds_toArray, List.set_cons_zero, List.set_cons_succ]
        refine wpAnyH_ready (rs := [5, 7]) (by kernel_rfl) (by simp) ?_
        refine ready_cons rfl (fun K hK => ?_) (ready_cons rfl (fun K hK => ?_) AllReadyH.nil)
        · go_simp
          refine (HSz.out _ _ (g.fact 5 rfl)).mono ?_
          rintro (e : Ending) w5 ⟨rfl, hb5⟩
          replace g := g.on hb5
          show K _ _
          refine hK.out _ _ ?_ (fun hHeld => ?_)
          · exact (g.box3 4 rfl)
          clear hK K
          try simp only [Act.put, List.setIfInBounds_toArray, List.set_cons_zero, List.set_cons_succ]
          refine wpAnyH_ready (rs := [6, 7]) (by kernel_rfl) (by simp) ?_
          refine ready_cons rfl (fun K hK => ?_) (ready_cons rfl (fun K hK => ?_) AllReadyH.nil)
          · go_simp
            refine (HZ.out _).mono ?_
            rintro (e : Ending) w6 ⟨u6, rfl, ho6, hb6⟩
            obtain ⟨A4, n4, c4, rfl⟩ := ho6.slice
            replace g := g.pushOwn hb6 ho6
            show K _ _
            refine hK.out _ _ ?_ (fun hHeld => ?_)
            · exact (g.box3 5 rfl)
            clear hK K
            try simp only [Act.put, List.setIfInBounds_toArray, List.set_cons_zero, List.set_cons_succ]
            refine wpAnyH_ready (rs := [7]) (by kernel_rfl) (by simp) ?_
            refine ready_cons rfl (fun K hK => ?_) AllReadyH.nil
            · go_simp
              replace g := (g.box [.int .i64 0, .int .i64 0, .int .i64 0, .slice none 0 0] 40).toBack
              simp only [List.cons_append, List.nil_append] at g
              refine hK.out _ _ ?_ (fun hHeld => ?_)
              · exact (g.box3 5 rfl)
              clear hK K
              generalize w6.alloc (.cells #[.int .i64 0, .int .i64 0, .int .i64 0, .slice none 0 0] 40) = va at g hHeld ⊢
              try simp only [Act.put, List.setIfInBounds_toArray, List.set_cons_zero, List.set_cons_succ]
              refine wpAnyH_done (by kernel_rfl) ?_ _
              show wpList _ _ _ _ _ _
              simp only [List.drop_succ_cons, List.drop_zero]
              clear hHeld
              obtain ⟨p0, p1, p2, p3⟩ := g.box4 8 rfl
              have f0 := g.free 8 rfl 0
              have f1 := g.free 8 rfl 1
              have f2 := g.free 8 rfl 2
              have f3 := g.free 8 rfl 3
              have g4 := (((g.setBox 8 rfl 0 (.int .i64 p)).setBox 8 rfl 1 (.int .i64 s)).setBox 8 rfl 2 (.int .i64 s)).setBox 8 rfl 3 (.slice A4 n4 c4)
              obtain ⟨r0, r1, r2, r3⟩ := g4.box4 8 rfl
              go_wp2
              go_meet
              exact ⟨_, A4, n4, c4, rfl, g4.re [8, 0, 2, 1, 4, 5, 6, 7] (by decide) (fun j => by rcases j with _ | _ | _ | _ | _ | _ | _ | _ | j <;> rfl)⟩
          · go_simp
            replace g := (g.box [.int .i64 0, .int .i64 0, .int .i64 0, .slice none 0 0] 40).toBack
            simp only [List.cons_append, List.nil_append] at g
            refine hK.out _ _ ?_ (fun hHeld => ?_)
            · exact (g.box3 4 rfl)
            clear hK K
            generalize w5.alloc (.cells #[.int .i64 0, .int .i64 0, .int .i64 0, .slice none 0 0] 40) = va at g hHeld ⊢
            try simp only [Act.put, List.setIfInBounds_toArray, List.set_cons_zero, List.set_cons_succ]
            refine wpAnyH_ready (rs := [6]) (by kernel_rfl) (by simp) ?_
            refine ready_cons rfl (fun K hK => ?_) AllReadyH.nil
            · go_simp
              refine (HZ.out _).mono ?_
              rintro (e : Ending) w6 ⟨u6, rfl, ho6, hb6⟩
              obtain ⟨A4, n4, c4, rfl⟩ := ho6.slice
              replace g := g.pushOwn hb6 ho6
              show K _ _
              refine hK.out _ _ ?_ (fun hHeld => ?_)
              · exact (g.box3 5 rfl)
              clear hK K
              try simp only [Act.put, List.setIfInBounds_toArray, List.set_cons_zero, List.set_cons_succ]
              refine wpAnyH_done (by kernel_rfl) ?_ _
              show wpList _ _ _ _ _ _
              simp only [List.drop_succ_cons, List.drop_zero]
              clear hHeld
              obtain ⟨p0, p1, p2, p3⟩ := g.box4 8 rfl
              have f0 := g.free 8 rfl 0
              have f1 := g.free 8 rfl 1
              have f2 := g.free 8 rfl 2
              have f3 := g.free 8 rfl 3
              have g4 := (((g.setBox 8 rfl 0 (.int .i64 p)).setBox 8 rfl 1 (.int .i64 s)).setBox 8 rfl 2 (.int .i64 s)).setBox 8 rfl 3 (.slice A4 n4 c4)
              obtain ⟨r0, r1, r2, r3⟩ := g4.box4 8 rfl
              go_wp2
              go_meet
              exact ⟨_, A4, n4, c4, rfl, g4.re [8, 0, 2, 1, 4, 5, 6, 7] (by decide) (fun j => by rcases j with _ | _ | _ | _ | _ | _ | _ | _ | j <;> rfl)⟩
        · go_simp
          replace g := (g.box [.int .i64 0, .int .i64 0, .int .i64 0, .slice none 0 0] 40).toBack
          simp only [List.cons_append, List.nil_append] at g
          refine hK.out _ _ ?_ (fun hHeld => ?_)
          · exact (g.box3 4 rfl)
          clear hK K
          generalize w4.alloc (.cells #[.int .i64 0, .int .i64 0, .int .i64 0, .slice none 0 0] 40) = va at g hHeld ⊢
          try simp only [Act.put, List.setIfInBounds_toArray, List.set_cons_zero, List.set_cons_succ]
          refine wpAnyH_ready (rs := [5]) (by kernel_rfl) (by simp) ?_
          refine ready_cons rfl (fun K hK => ?_) AllReadyH.nil
          · go_simp
            refine (HSz.out _ _ (g.fact 5 rfl)).mono ?_
            rintro (e : Ending) w5 ⟨rfl, hb5⟩
            replace g := g.on hb5
            show K _ _
            refine hK.out _ _ ?_ (fun hHeld => ?_)
            · exact (g.box3 4 rfl)
            clear hK K
            try simp only [Act.put, List.setIfInBounds_toArray, List.set_cons_zero, List.set_cons_succ]
            refine wpAnyH_ready (rs := [6]) (by kernel_rfl) (by simp) ?_
            refine ready_cons rfl (fun K hK => ?_) AllReadyH.nil
            · go_simp
              refine (HZ.out _).mono ?_
              rintro (e : Ending) w6 ⟨u6, rfl, ho6, hb6⟩
              obtain ⟨A4, n4, c4, rfl⟩ := ho6.slice
              replace g := g.pushOwn hb6 ho6
              show K _ _
              refine hK.out _ _ ?_ (fun hHeld => ?_)
              · exact (g.box3 5 rfl)
              clear hK K
              try simp only [Act.put, List.setIfInBounds_toArray, List.set_cons_zero, List.set_cons_succ]
              refine wpAnyH_done (by kernel_rfl) ?_ _
              show wpList _ _ _ _ _ _
              simp only [List.drop_succ_cons, List.drop_zero]
              clear hHeld
              obtain ⟨p0, p1, p2, p3⟩ := g.box4 8 rfl
              have f0 := g.free 8 rfl 0
              have f1 := g.free 8 rfl 1
              have f2 := g.free 8 rfl 2
              have f3 := g.free 8 rfl 3
              have g4 := (((g.setBox 8 rfl 0 (.int .i64 p)).setBox 8 rfl 1 (.int .i64 s)).setBox 8 rfl 2 (.int .i64 s)).setBox 8 rfl 3 (.slice A4 n4 c4)
              obtain ⟨r0, r1, r2, r3⟩ := g4.box4 8 rfl
              go_wp2
              go_meet
              exact ⟨_, A4, n4, c4, rfl, g4.re [8, 0, 2, 1, 4, 5, 6, 7] (by decide) (fun j => by rcases j with _ | _ | _ | _ | _ | _ | _ | _ | j <;> rfl)⟩
      · go_simp
        replace g := (g.box [.int .i64 0, .int .i64 0, .int .i64 0, .slice none 0 0] 40).toBack
        simp only [List.cons_append, List.nil_append] at g
        refine hK.out _ _ ?_ (fun hHeld => ?_)
        · exact (g.box3 4 rfl)
        clear hK K
        generalize v0.alloc (.cells #[.int .i64 0, .int .i64 0, .int .i64 0, .slice none 0 0] 40) = va at g hHeld ⊢
        try simp only [Act.put, List.setIfInBounds_toArray, List.set_cons_zero, List.set_cons_succ]
        refine wpAnyH_ready (rs := [3]) (by kernel_rfl) (by simp) ?_
        refine ready_cons rfl (fun K hK => ?_) AllReadyH.nil
        · go_simp
          refine (HSz.out _ _ (g.fact 5 rfl)).mono ?_
          rintro (e : Ending) w4 ⟨rfl, hb4⟩
          replace g := g.on hb4
          show K _ _
          refine hK.out _ _ ?_ (fun hHeld => ?_)
          · exact (g.box3 4 rfl)
          clear hK K
          try simp only [Act.put, List.setIfInBounds_toArray, List.set_cons_zero, List.set_cons_succ]
          refine wpAnyH_ready (rs := [5]) (by kernel_rfl) (by simp) ?_
          refine ready_cons rfl (fun K hK => ?_) AllReadyH.nil
          · go_simp
            refine (HSz.out _ _ (g.fact 5 rfl)).mono ?_
            rintro (e : Ending) w5 ⟨rfl, hb5⟩
            replace g := g.on hb5
            show K _ _
            refine hK.out _ _ ?_ (fun hHeld => ?_)
            · exact (g.box3 4 rfl)
            clear hK K
            try simp only [Act.put, List.setIfInBounds_toArray, List.set_cons_zero, List.set_cons_succ]
            refine wpAnyH_ready (rs := [6]) (by kernel_rfl) (by simp) ?_
            refine ready_cons rfl (fun K hK => ?_) AllReadyH.nil
            · go_simp
              refine (HZ.out _).mono ?_
              rintro (e : Ending) w6 ⟨u6, rfl, ho6, hb6⟩
              obtain ⟨A4, n4, c4, rfl⟩ := ho6.slice
              replace g := g.pushOwn hb6 ho6
              show K _ _
              refine hK.out _ _ ?_ (fun hHeld => ?_)
              · exact (g.box3 5 rfl)
              clear hK K
              try simp only [Act.put, List.setIfInBounds_toArray, List.set_cons_zero, List.set_cons_succ]
              refine wpAnyH_done (by kernel_rfl) ?_ _
              show wpList _ _ _ _ _ _
              simp only [List.drop_succ_cons, List.drop_zero]
              clear hHeld
              obtain ⟨p0, p1, p2, p3⟩ := g.box4 8 rfl
              have f0 := g.free 8 rfl 0
              have f1 := g.free 8 rfl 1
              have f2 := g.free 8 rfl 2
              have f3 := g.free 8 rfl 3
              have g4 := (((g.setBox 8 rfl 0 (.int .i64 p)).setBox 8 rfl 1 (.int .i64 s)).setBox 8 rfl 2 (.int .i64 s)).setBox 8 rfl 3 (.slice A4 n4 c4)
              obtain ⟨r0, r1, r2, r3⟩ := g4.box4 8 rfl
              go_wp2
              go_meet
              exact ⟨_, A4, n4, c4, rfl, g4.re [8, 0, 2, 1, 4, 5, 6, 7] (by decide) (fun j => by rcases j with _ | _ | _ | _ | _ | _ | _ | _ | j <;> rfl)⟩
    obtain ⟨B8, A4, n4, c4, rfl, g4⟩ := hcut
    have hc0 : List.replicate (s * s) 0 = casTo p s N (ms.map Mt.d) Kd (0 * N) := by rw [Nat.zero_mul]; rfl
    rw [hc0] at g4
    clear hc0
    go_wp2
    go_loopw [9, 10] (fun v9 _ wr => ∃ (i : Nat) (A4 : Option Addr) (n4 c4 : Nat), v9 = .int .i64 i ∧ i ≤ N ∧ St w wr [.box B8 [.int .i64 p, .int .i64 s, .int .i64 s, .slice A4 n4 c4], .own (.slice A4 n4 c4) (casTo p s N (ms.map Mt.d) Kd (i * N)), .own (.slice A3 Kd.length c3) Kd, .box B6 [.int .i64 p, .int .i64 N, .int .i64 N, .slice A3 Kd.length c3], .box (w.heap.size + 1) [.int .i64 0, .int .i64 0, .int .i64 0, .slice none 0 0], .box w.heap.size [.int .i64 p, .int .i64 N, .slice A T.length k], .fact (fun w' => MatsR w' (.slice A2 ms.length k2) ms), .ro (.slice A T.length k) T]) (fun v9 _ _ => N - (intOf v9).toNat)
    case atStart => exact ⟨0, A4, n4, c4, rfl, by omega, g4⟩
    case round =>
      clear g4
      obtain ⟨i, A4, n4, c4, rfl, a1, g4⟩ := hrel
      obtain ⟨z0, z1, z2⟩ := g4.box3 5 rfl
      by_cases hi : i < N
      · have ii : (i : Int) < (N : Int) := by omega
        go_wp2
        clear z0 z1 z2
        go_loopw [10] (fun v10 wr => ∃ (j : Nat) (A4 : Option Addr) (n4 c4 : Nat), v10 = .int .i64 j ∧ j ≤ N ∧ St w wr [.box B8 [.int .i64 p, .int .i64 s, .int .i64 s, .slice A4 n4 c4], .own (.slice A4 n4 c4) (casTo p s N (ms.map Mt.d) Kd (i * N + j)), .own (.slice A3 Kd.length c3) Kd, .box B6 [.int .i64 p, .int .i64 N, .int .i64 N, .slice A3 Kd.length c3], .box (w.heap.size + 1) [.int .i64 0, .int .i64 0, .int .i64 0, .slice none 0 0], .box w.heap.size [.int .i64 p, .int .i64 N, .slice A T.length k], .fact (fun w' => MatsR w' (.slice A2 ms.length k2) ms), .ro (.slice A T.length k) T]) (fun v10 _ => N - (intOf v10).toNat)
        case atStart => exact ⟨0, A4, n4, c4, rfl, by omega, g4⟩
        case round =>
          clear g4
          obtain ⟨j, A4, n4, c4, rfl, a2, g4⟩ := hrel
          obtain ⟨z0, z1, z2⟩ := g4.box3 5 rfl
          by_cases hj : j < N
          · have ij : (j : Int) < (N : Int) := by omega
            have HAt1 := Lib.hid (fun W v x => HAt.out W v i j hi hj x)
            have hxb := resid_vec' HKr.out (by have := Hp.out; omega : 0 < p) (i * N + j)
            obtain ⟨y0, y1, y2, y3⟩ := g4.box4 3 rfl
            by_cases hx0 : Go.Proofs.Ythiainhhaokjoaa.vec Kd (i * N + j) = 0
            · have HSt := Lib.hid (casTo_no (p := p) (s := s) (n := N) (Ms := ms.map Mt.d) hx0)
              rw [hx0] at HAt1
              clear hx0 hxb
              go_wp2_with fail
              refine (HAt1.out _ _ (g4.ownInts 2 rfl)).mono ?_
              rintro (e : Ending) w5 ⟨rfl, hb5⟩
              replace g4 := g4.on hb5
              clear z0 z1 z2 y0 y1 y2 y3 hb5
              go_wp2
              go_roundw
              case rel => exact ⟨j + 1, A4, n4, c4, by go_num, by omega, by rw [← Nat.add_assoc, HSt.out]; exact g4⟩
              case measure => simp [intOf]; omega
            · have HSt := Lib.hid (casTo_at (p := p) (s := s) (n := N) (Ms := ms.map Mt.d) hj hx0)
              rw [Hds.out i hi, Hds.out j hj] at HSt
              obtain ⟨x, hx⟩ : ∃ x, x = Go.Proofs.Ythiainhhaokjoaa.vec Kd (i * N + j) := ⟨_, rfl⟩
              rw [← hx] at HAt1 HSt hx0 hxb
              have HSc1 := Lib.hid (fun W v1 x1 => HSc.out W v1 x i j hxb.1 hxb.2 x1)
              have HAd1 := Lib.hid (fun W v1 v2 x1 x2 => HAd.out W v1 v2 (i * N + j) x i j x1 x2)
              have HMu1 := Lib.hid (fun W v1 v2 x1 x2 => HMu.out W v1 v2 i j hi hj x1 x2)
              obtain ⟨bm, offm, A7, c7, hbA, hmi⟩ := HV.out.at (i := i) (by have := HNm.out; omega)
              obtain ⟨bm2, offm2, A8, c8, hbA2, hmj⟩ := HV.out.at (i := j) (by have := HNm.out; omega)
              rw [hbA] at hbA2
              simp only [Option.some.injEq, Addr.mk.injEq, and_true] at hbA2
              obtain ⟨rfl, rfl⟩ := hbA2
              subst hbA
              rw [mAt_get (by have := HNm.out; omega)] at hmi hmj
              obtain ⟨u1, u2, u3, -, -⟩ := HM.out i (by have := HNm.out; omega)
              obtain ⟨v1, v2, v3, -, -⟩ := HM.out j (by have := HNm.out; omega)
              obtain ⟨D, hD⟩ : ∃ D, D = (mAt ms i).d := ⟨_, rfl⟩
              obtain ⟨E, hE⟩ : ∃ E, E = (mAt ms j).d := ⟨_, rfl⟩
              have hmf : MtAt w bm (offm + i * 4) ⟨p, s, s, D⟩ (.slice A7 D.length c7) := by unfold MtAt at hmi ⊢; rw [u1, u2, u3, ← hD] at hmi; exact hmi
              have hmg : MtAt w bm (offm + j * 4) ⟨p, s, s, E⟩ (.slice A8 E.length c8) := by unfold MtAt at hmj ⊢; rw [v1, v2, v3, ← hE] at hmj; exact hmj
              rw [← hD, ← hE] at HMu1 HSc1 HAd1 HSt
              have im : (i : Int) < (ms.length : Int) := by have := HNm.out; omega
              have jm : (j : Int) < (ms.length : Int) := by have := HNm.out; omega
              clear hmi hmj u1 u2 u3 v1 v2 v3 hD hE hx hxb
              go_wp2_with fail
              refine (HAt1.out _ _ (g4.ownInts 2 rfl)).mono ?_
              rintro (e : Ending) w5 ⟨rfl, hb5⟩
              have g5 := ((g4.on hb5).pushOld hmf.fact).pushOld hmg.fact
              clear z0 z1 z2 y0 y1 y2 y3 hb5 g4 hmf hmg
              go_upto_region 14 with fail
              have g0 := g5.drew
              refine wp_region_cut (S := fun w' => (w'.cell? ⟨B8, 0, none⟩ = some (.int .i64 p) ∧ w'.cell? ⟨B8, 1, none⟩ = some (.int .i64 s) ∧ w'.cell? ⟨B8, 2, none⟩ = some (.int .i64 s) ∧ w'.cell? ⟨B8, 3, none⟩ = some (.slice A4 n4 c4)) ∧ (w'.cell? ⟨B6, 0, none⟩ = some (.int .i64 p) ∧ w'.cell? ⟨B6, 1, none⟩ = some (.int .i64 N) ∧ w'.cell? ⟨B6, 2, none⟩ = some (.int .i64 N) ∧ w'.cell? ⟨B6, 3, none⟩ = some (.slice A3 Kd.length c3)) ∧ (w'.cell? ⟨bm, offm + i * 4, none⟩ = some (.int .i64 p) ∧ w'.cell? ⟨bm, offm + i * 4 + 1, none⟩ = some (.int .i64 s) ∧ w'.cell? ⟨bm, offm + i * 4 + 2, none⟩ = some (.int .i64 s) ∧ w'.cell? ⟨bm, offm + i * 4 + 3, none⟩ = some (.slice A7 D.length c7)) ∧ (w'.cell? ⟨bm, offm + j * 4, none⟩ = some (.int .i64 p) ∧ w'.cell? ⟨bm, offm + j * 4 + 1, none⟩ = some (.int .i64 s) ∧ w'.cell? ⟨bm, offm + j * 4 + 2, none⟩ = some (.int .i64 s) ∧ w'.cell? ⟨bm, offm + j * 4 + 3, none⟩ = some (.slice A8 E.length c8))) 16 (by kernel_rfl) (by kernel_rfl) ⟨g0.box4 2 rfl, g0.box4 5 rfl, mt4 (g0.fact 1 rfl), mt4 (g0.fact 0 rfl)⟩ (fun hHeld => ?_)
              simp only [List.take_succ_cons, List.take_zero]
              refine anyH_take (v := ?_) 0 rfl (by kernel_rfl) (by kernel_rfl) (by kernel_rfl) (fun _ _ _ h => h) rfl ?_ hHeld ?_
              rotate_left
              · intro w' hSw
                go_simp
                try with_reducible rfl
              try simp only [Act.put, List.setIfInBounds_toArray, List.set_cons_zero, List.set_cons_succ]
              refine anyH_take (v := ?_) 1 rfl (by kernel_rfl) (by kernel_rfl) (by kernel_rfl) (fun _ _ _ h => h) rfl ?_ hHeld ?_
              rotate_left
              · intro w' hSw
                go_simp
                try with_reducible rfl
              try simp only [Act.put, List.setIfInBounds_toArray, List.set_cons_zero, List.set_cons_succ]
              refine anyH_take (v := ?_) 2 rfl (by kernel_rfl) (by kernel_rfl) (by kernel_rfl) (fun _ _ _ h => h) rfl ?_ hHeld ?_
              rotate_left
              · intro w' hSw
                go_simp
                try with_reducible rfl
              try simp only [Act.put, List.setIfInBounds_toArray, List.set_cons_zero, List.set_cons_succ]
              refine anyH_take (v := ?_) 3 rfl (by kernel_rfl) (by kernel_rfl) (by kernel_rfl) (fun _ _ _ h => h) rfl ?_ hHeld ?_
              rotate_left
              · intro w' hSw
                go_simp
                try with_reducible rfl
              try simp only [Act.put, List.setIfInBounds_toArray, List.set_cons_zero, List.set_cons_succ]
              refine anyH_take (v := ?_) 4 rfl (by kernel_rfl) (by kernel_rfl) (by kernel_rfl) (fun _ _ _ h => h) rfl ?_ hHeld ?_
              rotate_left
              · intro w' hSw
                go_simp
                try with_reducible rfl
              try simp only [Act.put, List.setIfInBounds_toArray, List.set_cons_zero, List.set_cons_succ]
              refine anyH_take (v := ?_) 5 rfl (by kernel_rfl) (by kernel_rfl) (by kernel_rfl) (fun _ _ _ h => h) rfl ?_ hHeld ?_
              rotate_left
              · intro w' hSw
                go_simp
                try with_reducible rfl
              try simp only [Act.put, List.setIfInBounds_toArray, List.set_cons_zero, List.set_cons_succ]
              refine anyH_take (v := ?_) 6 rfl (by kernel_rfl) (by kernel_rfl) (by kernel_rfl) (fun _ _ _ h => h) rfl ?_ hHeld ?_
              rotate_left
              · intro w' hSw
                go_simp
                try with_reducible rfl
              try simp only [Act.put, List.setIfInBounds_toArray, List.set_cons_zero, List.set_cons_succ]
              refine anyH_take (v := ?_) 7 rfl (by kernel_rfl) (by kernel_rfl) (by kernel_rfl) (fun _ _ _ h => h) rfl ?_ hHeld ?_
              rotate_left
              · intro w' hSw
                go_simp
                try with_reducible rfl
              try simp only [Act.put, List.setIfInBounds_toArray, List.set_cons_zero, List.set_cons_succ]
              refine anyH_take (v := ?_) 8 rfl (by kernel_rfl) (by kernel_rfl) (by kernel_rfl) (fun _ _ _ h => h) rfl ?_ hHeld ?_
              rotate_left
              · intro w' hSw
                go_simp
                try with_reducible rfl
              try simp only [Act.put, List.setIfInBounds_toArray, List.set_cons_zero, List.set_cons_succ]
              refine anyH_take (v := ?_) 10 rfl (by kernel_rfl) (by kernel_rfl) (by kernel_rfl) (fun _ _ _ h => h) rfl ?_ hHeld ?_
              rotate_left
              · intro w' hSw
                go_simp
                try with_reducible rfl
              try simp only [Act.put, List.setIfInBounds_toArray, List.set_cons_zero, List.set_cons_succ]
              refine anyH_take (v := ?_) 11 rfl (by kernel_rfl) (by kernel_rfl) (by kernel_rfl) (fun _ _ _ h => h) rfl ?_ hHeld ?_
              rotate_left
              · intro w' hSw
                go_simp
                try with_reducible rfl
              try simp only [Act.put, List.setIfInBounds_toArray, List.set_cons_zero, List.set_cons_succ]
              refine anyH_take (v := ?_) 12 rfl (by kernel_rfl) (by kernel_rfl) (by kernel_rfl) (fun _ _ _ h => h) rfl ?_ hHeld ?_
              rotate_left
              · intro w' hSw
                go_simp
                try with_reducible rfl
              try simp only [Act.put, List.setIfInBounds_toArray, List.set_cons_zero, List.set_cons_succ]
              refine wpAnyH_ready (rs := [9]) (by kernel_rfl) (by simp) ?_
              refine ready_cons rfl (fun K hK => ?_) AllReadyH.nil
              go_simp
              refine (HMu1.out _ _ _ (g0.fact 1 rfl).2.2.2.2 (g0.fact 0 rfl).2.2.2.2).mono ?_
              rintro (e : Ending) w6 ⟨u6, rfl, ho6, hb6⟩
              obtain ⟨A6, n6, c6, rfl⟩ := ho6.slice
              have g1 := g0.pushOwn hb6 ho6
              show K _ _
              refine hK.out _ _ ?_ (fun hHeld => ?_)
              · exact ⟨g1.box4 3 rfl, g1.box4 6 rfl, mt4 (g1.fact 2 rfl), mt4 (g1.fact 1 rfl)⟩
              clear hK K
              try simp only [Act.put, List.setIfInBounds_toArray, List.set_cons_zero, List.set_cons_succ]
              refine wpAnyH_ready (rs := [13]) (by kernel_rfl) (by simp) ?_
              refine ready_cons rfl (fun K hK => ?_) AllReadyH.nil
              go_simp
              refine (HAt1.out _ _ (g1.ownInts 5 rfl)).mono ?_
              rintro (e : Ending) w7 ⟨rfl, hb7⟩
              have g2 := g1.on hb7
              show K _ _
              refine hK.out _ _ ?_ (fun hHeld => ?_)
              · exact ⟨g2.box4 3 rfl, g2.box4 6 rfl, mt4 (g2.fact 2 rfl), mt4 (g2.fact 1 rfl)⟩
              clear hK K
              try simp only [Act.put, List.setIfInBounds_toArray, List.set_cons_zero, List.set_cons_succ]
              refine wpAnyH_ready (rs := [14]) (by kernel_rfl) (by simp) ?_
              refine ready_cons rfl (fun K hK => ?_) AllReadyH.nil
              go_simp
              refine (HSc1.out _ _ (g2.ownInts 0 rfl)).mono ?_
              rintro (e : Ending) w8 ⟨u8, rfl, ho8, hb8⟩
              obtain ⟨A9, n9, c9, rfl⟩ := ho8.slice
              have g3 := g2.pushOwn hb8 ho8
              show K _ _
              refine hK.out _ _ ?_ (fun hHeld => ?_)
              · exact ⟨g3.box4 4 rfl, g3.box4 7 rfl, mt4 (g3.fact 3 rfl), mt4 (g3.fact 2 rfl)⟩
              clear hK K
              try simp only [Act.put, List.setIfInBounds_toArray, List.set_cons_zero, List.set_cons_succ]
              refine wpAnyH_ready (rs := [15]) (by kernel_rfl) (by simp) ?_
              refine ready_cons rfl (fun K hK => ?_) AllReadyH.nil
              go_simp
              refine (HAd1.out _ _ _ (g3.ownInts 5 rfl) (g3.ownInts 0 rfl)).mono ?_
              rintro (e : Ending) w9 ⟨u9, rfl, ho9, hb9⟩
              obtain ⟨A10, n10, c10, rfl⟩ := ho9.slice
              have g6 := g3.pushOwn hb9 ho9
              show K _ _
              refine hK.out _ _ ?_ (fun hHeld => ?_)
              · exact ⟨g6.box4 5 rfl, g6.box4 8 rfl, mt4 (g6.fact 4 rfl), mt4 (g6.fact 3 rfl)⟩
              clear hK K
              try simp only [Act.put, List.setIfInBounds_toArray, List.set_cons_zero, List.set_cons_succ]
              refine wpAnyH_done (by kernel_rfl) ?_ _
              show wpList _ _ _ _ _ _
              simp only [List.drop_succ_cons, List.drop_zero]
              clear hHeld
              clear g0 g1 g2 g3 g5 ho6 hb6 hb7 ho8 hb8 ho9 hb9
              obtain ⟨p0, p1, p2, p3⟩ := g6.box4 5 rfl
              have f0 := g6.free 5 rfl 0
              have f1 := g6.free 5 rfl 1
              have f2 := g6.free 5 rfl 2
              have f3 := g6.free 5 rfl 3
              have g7 := (((g6.setBox 5 rfl 0 (.int .i64 p)).setBox 5 rfl 1 (.int .i64 s)).setBox 5 rfl 2 (.int .i64 s)).setBox 5 rfl 3 (.slice A10 n10 c10)
              obtain ⟨r0, r1, r2, r3⟩ := g7.box4 5 rfl
              clear g6
              go_wp2
              go_roundw
              case rel => exact ⟨j + 1, A10, n10, c10, by go_num, by omega, by rw [← Nat.add_assoc, HSt.out]; exact g7.re [5, 0, 7, 8, 9, 10, 11, 12] (by decide) (fun j => by rcases j with _ | _ | _ | _ | _ | _ | _ | _ | j <;> rfl)⟩
              case measure => simp [intOf]; omega
          · obtain rfl : j = N := by omega
            have e9 : i * j + j = (i + 1) * j := by rw [Nat.add_mul, Nat.one_mul]
            rw [e9] at g4
            clear e9
            go_wp2
            go_roundw
            case rel => exact ⟨i + 1, A4, n4, c4, by go_num, by omega, g4⟩
            case measure => simp [intOf]; omega
      · obtain rfl : i = N := by omega
        obtain ⟨y0, y1, y2, y3⟩ := g4.box4 0 rfl
        clear z0 z1 z2
        obtain ⟨z0, z1, z2⟩ := g4.box3 5 rfl
        obtain ⟨p0, p1, p2, p3⟩ := g4.box4 4 rfl
        have f0 := g4.free 4 rfl 0
        have f1 := g4.free 4 rfl 1
        have f2 := g4.free 4 rfl 2
        have f3 := g4.free 4 rfl 3
        have g5 := (((g4.setBox 4 rfl 0 (.int .i64 p)).setBox 4 rfl 1 (.int .i64 s)).setBox 4 rfl 2 (.int .i64 s)).setBox 4 rfl 3 (.slice A4 n4 c4)
        obtain ⟨r0, r1, r2, r3⟩ := g5.box4 4 rfl
        go_wp2
        refine bodyPost_ret (v := .tuple #[.agg #[.int .i64 p, .int .i64 s, .int .i64 s, .slice A4 n4 c4], .bool true]) (by simp [results, Try.results40, go_sem, r0, r1, r2, r3]) rfl ?_
        rw [HF.out]
        exact ⟨_, rfl, g5.own 1 rfl, g5.below⟩
end Go.Proofs.Ythiainhhaokjoaa
