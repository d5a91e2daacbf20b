/- KilledBy of the reference. -/
import Derived.Test.YthiainhhaokjoaaKilV
import Derived.Test.YthiainhhaokjoaaKilK
import Derived.Test.YthiainhhaokjoaaRegX
namespace Go.Proofs.Ythiainhhaokjoaa
set_option maxRecDepth 100000
open Go.RowKit

set_option maxHeartbeats 8000000 in
theorem KilledByS_any (p n : Int) (t v u : Value) (T els : List Int) (ms : List Mt) (w : World) (ht : Ints w t T) (hv : MatsR w v ms) (hu : Ints w u els) (hp0 : p ≤ 9223372036854775807) (hw : ∀ i, i < ms.length → (mAt ms i).p ≤ 9223372036854775807) (hel : els.length ≤ 1048576) :
    Calls Try.prog 26 #[.agg #[.int .i64 p, .int .i64 n, t], v, u] w (RetMatB w (kbP p n T ms els) (kbR p n T ms els) (kbC p n T ms els) (kbD p n T ms els) (kbOk p n T ms els)) := by
  have h1 := ((((St.start w).arg ht).arg hu).pushFact hv.fact).box [.int .i64 p, .int .i64 n, t] 33
  replace h1 := h1.box [.int .i64 0, .int .i64 0, .int .i64 0, .slice none 0 0] 40
  simp only [World.size_alloc] at h1
  obtain ⟨A, k, rfl, _, _, _⟩ := id ht
  obtain ⟨A2, k2, rfl, _, _, _⟩ := id hv
  obtain ⟨A3, k3, rfl, _, _, _⟩ := id hu
  have HI := Lib.hid (fun (W : World) (h1 : Ints W (.slice A T.length k) T) (h2 : MatsR W (.slice A2 ms.length k2) ms) => IsModuleS_any p n _ _ T ms W h1 h2 hp0 hw)
  have HV := Lib.hid hv
  have HE := Lib.hid hel
  obtain ⟨Po, hPo⟩ : ∃ Po : Ending → World → Prop, Po = RetMatB w (kbP p n T ms els) (kbR p n T ms els) (kbC p n T ms els) (kbD p n T ms els) (kbOk p n T ms els) := ⟨_, rfl⟩
  rw [← hPo]
  have HNo := Lib.hid (show kbOk p n T ms els = false → Po = RetMatB w 0 0 0 [] false from fun b0 => by
    rw [hPo, show kbP p n T ms els = 0 by simp [kbP, b0], show kbR p n T ms els = 0 by simp [kbR, b0], show kbC p n T ms els = 0 by simp [kbC, b0], show kbD p n T ms els = [] by simp [kbD, b0], b0])
  have HYes := Lib.hid (show kbOk p n T ms els = true → Po = RetMatB w p (kbL p ms els).length (mAt ms 0).r (flat (mAt ms 0).r.toNat (kbL p ms els)) true from fun b0 => by
    rw [hPo, show kbP p n T ms els = p by simp [kbP, b0], show kbR p n T ms els = (kbL p ms els).length by simp [kbR, b0], show kbC p n T ms els = (mAt ms 0).r by simp [kbC, b0], show kbD p n T ms els = flat (mAt ms 0).r.toNat (kbL p ms els) by simp [kbD, b0], b0])
  clear ht hv hu hw hPo hel
  by_cases b1 : isMod p n T ms = true
  case neg =>
    have b1 : isMod p n T ms = false := by simpa using b1
    have HF := Lib.hid (HNo.out (by rw [kbOk, b1, Bool.false_and]))
    have B1 := Lib.hid b1
    clear b1 HNo HYes
    obtain ⟨z0, z1, z2⟩ := h1.box3 1 rfl
    go_enter Try.func26, Try.ntmps26
    go_wp2_with fail
    refine (HI.out _ (h1.roInts 4 rfl) (h1.fact 2 rfl)).mono ?_
    rintro (e : Ending) w1 ⟨rfl, hb1⟩
    have g1 := h1.on hb1
    rw [B1.out]
    clear h1 hb1 z0 z1 z2
    obtain ⟨p0, p1, p2, p3⟩ := g1.box4 0 rfl
    have f0 := g1.free 0 rfl 0
    have f1 := g1.free 0 rfl 1
    have f2 := g1.free 0 rfl 2
    have f3 := g1.free 0 rfl 3
    have g5 := (((g1.setBox 0 rfl 0 (.int .i64 0)).setBox 0 rfl 1 (.int .i64 0)).setBox 0 rfl 2 (.int .i64 0)).setBox 0 rfl 3 (.slice none 0 0)
    obtain ⟨r0, r1, r2, r3⟩ := g5.box4 0 rfl
    go_wp2
    refine bodyPost_ret (v := .tuple #[.agg #[.int .i64 0, .int .i64 0, .int .i64 0, .slice none 0 0], .bool false]) (by simp [results, Try.results26, go_sem, r0, r1, r2, r3]) rfl ?_
    rw [HF.out]
    exact ⟨_, rfl, Own.nil, g5.below⟩
  obtain ⟨N, s, rfl, hN, hN0, hs, hs30, hA, hM⟩ := isMod_all b1
  have hP : isPrime p = true := by obtain ⟨_, _, _, _, _, _, _, hP⟩ := algOk_spec hA; exact hP
  have hNb : N ≤ 28 := by obtain ⟨M, hM1, hM2, _⟩ := algOk_spec hA; omega
  rw [hs, Int.toNat_natCast] at HYes
  have HSz := Lib.hid (show ∀ (W : World) (v1 : Value), MatsR W v1 ms → Calls Try.prog 82 #[v1] W (fun e w' => e = .returned (.int .i64 s) ∧ W = w') from fun W v1 x1 => by
    cases ms with
    | nil => simp at hN; omega
    | cons m l =>
      have h9 := l10Size_any v1 m l W x1
      rwa [show m.r = (s : Int) from hs] at h9)
  have HK := Lib.hid (show ∀ (W : World) (v1 : Value), (∀ j, j < els.length → inR (Go.Proofs.Ythiainhhaokjoaa.vec els j) 0 ((N : Int) - 1) = true) → MatsR W v1 (kbM ms els) → Calls Try.prog 81 #[.int .i64 p, .int .i64 s, v1] W (RetMat W p (kbL p ms els).length s (flat s (kbL p ms els))) from fun W v1 ha x1 => by
    have h9 := l10Killed_any p s v1 (kbM ms els) W x1 (fun i hi => by
      rw [length_kbM] at hi
      rw [mAt_kbM hi]
      have := ha i hi
      simp only [inR, Bool.and_eq_true, decide_eq_true_eq] at this
      exact hM _ (by omega)) (by rw [length_kbM]; have := HE.out; omega) hs30 hP
    rw [kbM_d, length_kbM] at h9
    rw [kbL, hs, Int.toNat_natCast]
    exact h9)
  have HAll := Lib.hid (show (∀ j, j < els.length → inR (Go.Proofs.Ythiainhhaokjoaa.vec els j) 0 ((N : Int) - 1) = true) → kbOk p N T ms els = true from fun ha => by
    rw [kbOk, b1, Bool.true_and, List.all_eq_true]
    intro x hx
    obtain ⟨j, hj, rfl⟩ := List.getElem_of_mem hx
    have := ha j hj
    rwa [show Go.Proofs.Ythiainhhaokjoaa.vec els j = els[j] by simp [Go.Proofs.Ythiainhhaokjoaa.vec, List.getD_eq_getElem?_getD, hj]] at this)
  have HBad := Lib.hid (show ∀ j, j < els.length → inR (Go.Proofs.Ythiainhhaokjoaa.vec els j) 0 ((N : Int) - 1) = false → kbOk p N T ms els = false from fun j hj ha => by
    rw [kbOk, Bool.and_eq_false_iff]
    refine .inr ?_
    rw [List.all_eq_false]
    exact ⟨_, vec_mem hj, by rw [ha]; simp⟩)
  have HWr := Lib.hid (show IntKind.i64.wrap ((N : Int) - 1) = (N : Int) - 1 from wrap_ok (by omega) (by omega))
  have HM := Lib.hid hM
  have HN := Lib.hid hN
  have B1 := Lib.hid b1
  clear b1 hN hN0 hs hs30 hA hM hP hNb
  obtain ⟨z0, z1, z2⟩ := h1.box3 1 rfl
  go_enter Try.func26, Try.ntmps26
  go_wp2_with fail
  refine (HI.out _ (h1.roInts 4 rfl) (h1.fact 2 rfl)).mono ?_
  rintro (e : Ending) w1 ⟨rfl, hb1⟩
  have g1 := (h1.on hb1).emptyBor
  rw [B1.out]
  clear h1 hb1 z0 z1 z2
  go_wp2
  generalize hB9 : w1.heap.size = B9 at g1 ⊢
  clear hB9
  go_loopw [8, 9] (fun v8 v9 wr => ∃ (i : Nat) (us : List Value) (A8 : Option Addr) (n8 c8 : Nat), v8 = .slice A8 n8 c8 ∧ v9 = .int .i64 i ∧ i ≤ els.length ∧ Hid (Bor w us ((kbM ms els).take i)) ∧ Hid (∀ j, j < i → inR (Go.Proofs.Ythiainhhaokjoaa.vec els j) 0 ((N : Int) - 1) = true) ∧ St w wr [borIt (.slice A8 n8 c8) us ((kbM ms els).take i), .box (w.heap.size + 1) [.int .i64 0, .int .i64 0, .int .i64 0, .slice none 0 0], .box w.heap.size [.int .i64 p, .int .i64 N, .slice A T.length k], .fact (fun w' => MatsR w' (.slice A2 ms.length k2) ms), .ro (.slice A3 els.length k3) els, .ro (.slice A T.length k) T]) (fun _ v9 _ => els.length - (intOf v9).toNat)
  case atStart => exact ⟨0, [], _, _, _, rfl, rfl, by omega, Lib.hid (Bor.nil w), Lib.hid (fun j hj => absurd hj (Nat.not_lt_zero j)), by rw [List.take_zero]; exact g1⟩
  case round =>
    clear g1
    obtain ⟨i, us, A8, n8, c8, rfl, rfl, hi, HB, HA, g⟩ := hrel
    by_cases hlt : i < els.length
    · have ii : (i : Int) < (els.length : Int) := by omega
      obtain ⟨be, oe, rfl⟩ := g.roSome 4 rfl (by omega)
      have HC := Lib.hid (show ∀ W : World, St w W [borIt (.slice A8 n8 c8) us ((kbM ms els).take i), .box (w.heap.size + 1) [.int .i64 0, .int .i64 0, .int .i64 0, .slice none 0 0], .box w.heap.size [.int .i64 p, .int .i64 N, .slice A T.length k], .fact (fun w' => MatsR w' (.slice A2 ms.length k2) ms), .ro (.slice (some ⟨be, oe, none⟩) els.length k3) els, .ro (.slice A T.length k) T] → W.cell? ⟨be, oe + i, none⟩ = some (.int .i64 (Go.Proofs.Ythiainhhaokjoaa.vec els i)) from fun W h => h.roCell 4 rfl hlt)
      have HBad := HBad.out i hlt
      obtain ⟨x, hx⟩ : ∃ x, x = Go.Proofs.Ythiainhhaokjoaa.vec els i := ⟨_, rfl⟩
      rw [← hx] at HC HBad
      have HX := Lib.hid hx
      obtain ⟨b, hb⟩ : ∃ b, b = inR x 0 ((N : Int) - 1) := ⟨_, rfl⟩
      have HIn := Lib.hid (fun W => (show Calls Try.prog 42 #[.int .i64 x, .int .i64 0, .int .i64 ((N : Int) - 1)] W (fun e w' => e = .returned (.bool b) ∧ W = w') by rw [hb]; exact l1In_any _ _ _ W))
      rw [← hb] at HBad
      have HBd := Lib.hid HBad
      have Hb := Lib.hid hb
      clear hx hb HBad
      go_upto_region 7 with fail
      have g0 := g.drew
      refine wp_region_held_drew (S := fun w' => (w'.cell? ⟨w.heap.size, 0, none⟩ = some (.int .i64 p) ∧ w'.cell? ⟨w.heap.size, 1, none⟩ = some (.int .i64 N) ∧ w'.cell? ⟨w.heap.size, 2, none⟩ = some (.slice A T.length k)) ∧ w'.cell? ⟨be, oe + i, none⟩ = some (.int .i64 x)) (by kernel_rfl) ⟨g0.box3 2 rfl, HC.out _ g0⟩ (fun hHeld => ?_)
      have hwr := HWr.out
      refine anyH_take (v := ?_) 0 rfl (by kernel_rfl) (by kernel_rfl) (by kernel_rfl) (fun _ _ _ h => h) rfl ?_ hHeld ?_
      rotate_left
      · intro w' hSw
        go_simp
        try with_reducible rfl
      try simp only [Act.put, List.setIfInBounds_toArray, List.set_cons_zero, List.set_cons_succ]
      refine anyH_take (v := ?_) 1 rfl (by kernel_rfl) (by kernel_rfl) (by kernel_rfl) (fun _ _ _ h => h) rfl ?_ hHeld ?_
      rotate_left
      · intro w' hSw
        go_simp
        try with_reducible rfl
      try simp only [Act.put, List.setIfInBounds_toArray, List.set_cons_zero, List.set_cons_succ]
      refine anyH_take (v := ?_) 2 rfl (by kernel_rfl) (by kernel_rfl) (by kernel_rfl) (fun _ _ _ h => h) rfl ?_ hHeld ?_
      rotate_left
      · intro w' hSw
        go_simp
        try with_reducible rfl
      try simp only [Act.put, List.setIfInBounds_toArray, List.set_cons_zero, List.set_cons_succ]
      refine anyH_take (v := ?_) 3 rfl (by kernel_rfl) (by kernel_rfl) (by kernel_rfl) (fun _ _ _ h => h) rfl ?_ hHeld ?_
      rotate_left
      · intro w' hSw
        go_simp
        try with_reducible rfl
      try simp only [Act.put, List.setIfInBounds_toArray, List.set_cons_zero, List.set_cons_succ]
      refine anyH_take (v := ?_) 4 rfl (by kernel_rfl) (by kernel_rfl) (by kernel_rfl) (fun _ _ _ h => h) rfl ?_ hHeld ?_
      rotate_left
      · intro w' hSw
        go_simp
        try with_reducible rfl
      try simp only [Act.put, List.setIfInBounds_toArray, List.set_cons_zero, List.set_cons_succ]
      refine anyH_take (v := ?_) 5 rfl (by kernel_rfl) (by kernel_rfl) (by kernel_rfl) (fun _ _ _ h => h) rfl ?_ hHeld ?_
      rotate_left
      · intro w' hSw
        go_simp
        try with_reducible rfl
      try simp only [Act.put, List.setIfInBounds_toArray, List.set_cons_zero, List.set_cons_succ]
      refine anyH_take (v := ?_) 6 rfl (by kernel_rfl) (by kernel_rfl) (by kernel_rfl) (fun _ _ _ h => h) rfl ?_ hHeld ?_
      rotate_left
      · intro w' hSw
        go_simp
        try with_reducible rfl
      try simp only [Act.put, List.setIfInBounds_toArray, List.set_cons_zero, List.set_cons_succ]
      clear hwr
      refine wpAnyH_ready (rs := [7]) (by kernel_rfl) (by simp) ?_
      refine ready_cons rfl (fun K hK => ?_) AllReadyH.nil
      go_simp
      refine (HIn.out _).mono ?_
      rintro (e : Ending) w5 ⟨rfl, rfl⟩
      skip
      show K _ _
      refine hK.out _ _ ?_ (fun hHeld => ?_)
      · exact ⟨g0.box3 2 rfl, HC.out _ g0⟩
      clear hK K
      try simp only [Act.put, List.setIfInBounds_toArray, List.set_cons_zero, List.set_cons_succ]
      refine anyH_take (v := ?_) 8 rfl (by kernel_rfl) (by kernel_rfl) (by kernel_rfl) (fun _ _ _ h => h) rfl ?_ hHeld ?_
      rotate_left
      · intro w' hSw
        go_simp
        try with_reducible rfl
      try simp only [Act.put, List.setIfInBounds_toArray, List.set_cons_zero, List.set_cons_succ]
      refine wpAnyH_done (by kernel_rfl) ?_ _
      clear hHeld
      clear g
      generalize hwd : wr.drew = wd at g0 ⊢
      clear hwd
      cases b with
      | false =>
        have HF := Lib.hid (HNo.out (HBd.out rfl))
        obtain ⟨p0, p1, p2, p3⟩ := g0.box4 1 rfl
        have f0 := g0.free 1 rfl 0
        have f1 := g0.free 1 rfl 1
        have f2 := g0.free 1 rfl 2
        have f3 := g0.free 1 rfl 3
        have g5 := (((g0.setBox 1 rfl 0 (.int .i64 0)).setBox 1 rfl 1 (.int .i64 0)).setBox 1 rfl 2 (.int .i64 0)).setBox 1 rfl 3 (.slice none 0 0)
        obtain ⟨r0, r1, r2, r3⟩ := g5.box4 1 rfl
        go_wp2
        refine bodyPost_ret (v := .tuple #[.agg #[.int .i64 0, .int .i64 0, .int .i64 0, .slice none 0 0], .bool false]) (by simp [results, Try.results26, go_sem, r0, r1, r2, r3]) rfl ?_
        rw [HF.out]
        exact ⟨_, rfl, Own.nil, g5.below⟩
      | true =>
        have hin := Hb.out.symm
        obtain ⟨q, rfl, hqm⟩ : ∃ q : Nat, x = q ∧ q < ms.length := by
          simp only [inR, Bool.and_eq_true, decide_eq_true_eq] at hin
          have := HN.out
          exact ⟨x.toNat, by omega, by omega⟩
        have HA2 := Lib.hid (show ∀ j, j < i + 1 → inR (Go.Proofs.Ythiainhhaokjoaa.vec els j) 0 ((N : Int) - 1) = true from fun j hj => by
          rcases Nat.lt_succ_iff_lt_or_eq.1 hj with h | rfl
          · exact HA.out j h
          · rw [← HX.out]; exact hin)
        obtain ⟨bm, offm, A9, c9, rfl, hm⟩ := HV.out.at (i := q) hqm
        rw [mAt_get hqm] at hm
        obtain ⟨u1, u2, u3, u4, u5⟩ := HM.out q hqm
        obtain ⟨D, hD⟩ : ∃ D, D = (mAt ms q).d := ⟨_, rfl⟩
        have hmq : mAt ms q = ⟨p, s, s, D⟩ := by
          have h : mAt ms q = ⟨(mAt ms q).p, (mAt ms q).r, (mAt ms q).c, (mAt ms q).d⟩ := rfl
          rw [u1, u2, u3, ← hD] at h; exact h
        rw [hmq] at hm
        have HTk := Lib.hid (show (kbM ms els).take (i + 1) = (kbM ms els).take i ++ [⟨p, s, s, D⟩] by rw [kbM_take hlt, ← HX.out, Int.toNat_natCast, hmq])
        have HB2 := Lib.hid (HB.out.snoc (u := .slice A9 D.length c9) (m := ⟨p, s, s, D⟩) hm.2.2.2.2)
        have HLu := Lib.hid HB.out.1
        have HLl := Lib.hid (show ((kbM ms els).take i).length + 1 ≤ 1099511627776 by rw [List.length_take]; have := HE.out; omega)
        have g1 := g0.pushOld hm.fact
        obtain ⟨c0, c1, c2, c3, -⟩ := g1.fact 0 rfl
        have ec := HC.out _ g0
        have iq : (q : Int) < (ms.length : Int) := by omega
        clear hm hmq hD u1 u2 u3 u4 u5 g0 hin
        go_wp2_with (at_builtin; refine wp_append_bor rfl (.tmp 32) (.tmp 40) rfl ⟨p, s, s, D⟩ g1 1 rfl HLu.out rfl rfl rfl HLl.out ?_; intro v1 w9 h10)
        obtain ⟨A7, c7, rfl, -, -, -⟩ := id (HB2.out.mats h10 1 rfl)
        go_roundw
        case rel => exact ⟨i + 1, us ++ [_], A7, _, c7, rfl, by go_num, by omega, by rw [HTk.out]; exact HB2, HA2, by rw [HTk.out]; exact h10.drop 1⟩
        case measure => simp [intOf]; omega
    · obtain rfl : i = els.length := by omega
      have HF := Lib.hid (HYes.out (HAll.out HA.out))
      have HTk := Lib.hid (show (kbM ms els).take els.length = kbM ms els from List.take_of_length_le (by rw [length_kbM]; exact Nat.le_refl _))
      rw [HTk.out] at g HB
      have HK1 := Lib.hid (fun (W : World) (v1 : Value) (x1 : MatsR W v1 (kbM ms els)) => HK.out W v1 HA.out x1)
      obtain ⟨Kl, hKl⟩ : ∃ Kl, Kl = (kbL p ms els).length := ⟨_, rfl⟩
      rw [← hKl] at HK1 HF
      clear hKl
      go_upto_region 10 with fail
      have g0 := g.drew
      refine wp_region_cut (S := fun w' => (w'.cell? ⟨w.heap.size, 0, none⟩ = some (.int .i64 p) ∧ w'.cell? ⟨w.heap.size, 1, none⟩ = some (.int .i64 N) ∧ w'.cell? ⟨w.heap.size, 2, none⟩ = some (.slice A T.length k))) 6 (by kernel_rfl) (by kernel_rfl) (g0.box3 2 rfl) (fun hHeld => ?_)
      simp only [List.take_succ_cons, List.take_zero]
      refine anyH_take (v := ?_) 0 rfl (by kernel_rfl) (by kernel_rfl) (by kernel_rfl) (fun _ _ _ h => h) rfl ?_ hHeld ?_
      rotate_left
      · intro w' hSw
        go_simp
        try with_reducible rfl
      try simp only [Act.put, List.setIfInBounds_toArray, List.set_cons_zero, List.set_cons_succ]
      refine anyH_take (v := ?_) 1 rfl (by kernel_rfl) (by kernel_rfl) (by kernel_rfl) (fun _ _ _ h => h) rfl ?_ hHeld ?_
      rotate_left
      · intro w' hSw
        go_simp
        try with_reducible rfl
      try simp only [Act.put, List.setIfInBounds_toArray, List.set_cons_zero, List.set_cons_succ]
      refine anyH_take (v := ?_) 2 rfl (by kernel_rfl) (by kernel_rfl) (by kernel_rfl) (fun _ _ _ h => h) rfl ?_ hHeld ?_
      rotate_left
      · intro w' hSw
        go_simp
        try with_reducible rfl
      try simp only [Act.put, List.setIfInBounds_toArray, List.set_cons_zero, List.set_cons_succ]
      refine anyH_take (v := ?_) 4 rfl (by kernel_rfl) (by kernel_rfl) (by kernel_rfl) (fun _ _ _ h => h) rfl ?_ hHeld ?_
      rotate_left
      · intro w' hSw
        go_simp
        try with_reducible rfl
      try simp only [Act.put, List.setIfInBounds_toArray, List.set_cons_zero, List.set_cons_succ]
      refine wpAnyH_ready (rs := [3]) (by kernel_rfl) (by simp) ?_
      refine ready_cons rfl (fun K hK => ?_) AllReadyH.nil
      go_simp
      refine (HSz.out _ _ (g0.fact 3 rfl)).mono ?_
      rintro (e : Ending) w5 ⟨rfl, rfl⟩
      skip
      show K _ _
      refine hK.out _ _ ?_ (fun hHeld => ?_)
      · exact g0.box3 2 rfl
      clear hK K
      try simp only [Act.put, List.setIfInBounds_toArray, List.set_cons_zero, List.set_cons_succ]
      refine wpAnyH_ready (rs := [5]) (by kernel_rfl) (by simp) ?_
      refine ready_cons rfl (fun K hK => ?_) AllReadyH.nil
      go_simp
      refine (HK1.out _ _ (HB.out.mats g0 0 rfl)).mono ?_
      rintro (e : Ending) w6 ⟨u6, rfl, ho6, hb6⟩
      obtain ⟨A6, n6, c6, rfl⟩ := ho6.slice
      have g1 := g0.pushOwn hb6 ho6
      show K _ _
      refine hK.out _ _ ?_ (fun hHeld => ?_)
      · exact g1.box3 3 rfl
      clear hK K
      try simp only [Act.put, List.setIfInBounds_toArray, List.set_cons_zero, List.set_cons_succ]
      refine wpAnyH_done (by kernel_rfl) ?_ _
      show wpList _ _ _ _ _ _
      simp only [List.drop_succ_cons, List.drop_zero]
      clear hHeld
      clear g g0 hb6 ho6
      obtain ⟨p0, p1, p2, p3⟩ := g1.box4 2 rfl
      have f0 := g1.free 2 rfl 0
      have f1 := g1.free 2 rfl 1
      have f2 := g1.free 2 rfl 2
      have f3 := g1.free 2 rfl 3
      have g5 := (((g1.setBox 2 rfl 0 (.int .i64 p)).setBox 2 rfl 1 (.int .i64 Kl)).setBox 2 rfl 2 (.int .i64 s)).setBox 2 rfl 3 (.slice A6 n6 c6)
      obtain ⟨r0, r1, r2, r3⟩ := g5.box4 2 rfl
      go_wp2
      refine bodyPost_ret (v := .tuple #[.agg #[.int .i64 p, .int .i64 Kl, .int .i64 s, .slice A6 n6 c6], .bool true]) (by simp [results, Try.results26, go_sem, r0, r1, r2, r3]) rfl ?_
      rw [HF.out]
      exact ⟨_, rfl, g5.own 0 rfl, g5.below⟩
end Go.Proofs.Ythiainhhaokjoaa
