/- l10Sum of the reference: the beginning. -/
import Derived.Test.YtechjmckfedblaaMods
import Derived.Deep.RegionWith
import Derived.Test.YtechjmckfedblaaRegH
namespace Go.Proofs.Ytechjmckfedblaa
set_option maxRecDepth 100000
open Go.RowKit

set_option maxHeartbeats 8000000 in
theorem l10Sum_any (p : Int) (n s : Nat) (t v x : Value) (T K : List Int) (m0 : Mt) (ms : List Mt) (w : World) (ht : Ints w t T) (hv : MatsR w v (m0 :: ms)) (hx : Ints w x K) (hn : (m0 :: ms).length = n) (hK : K.length = n) (hn' : n ≤ 28) (hs : s ≤ 40)
    (hM : ∀ i (h : i < (m0 :: ms).length), ((m0 :: ms)[i]).p = p ∧ ((m0 :: ms)[i]).r = s ∧ ((m0 :: ms)[i]).c = s ∧ ((m0 :: ms)[i]).d.length = s * s ∧ resid p ((m0 :: ms)[i]).d = true) (hp : 2 ≤ p) (hp' : p ≤ 10007) (rK : resid p K = true) :
    Calls Try.prog 114 #[.agg #[.int .i64 p, .int .i64 n, t], v, x] w (RetMat w p s s (sumMTo p (s * s) K ((m0 :: ms).map Mt.d) n)) := by
  have h1 := (((((St.start w).arg ht).arg hx).pushFact hv.fact).box [.int .i64 p, .int .i64 n, t] 30).box [.int .i64 0, .int .i64 0, .int .i64 0, .slice none 0 0] 32
  simp only [World.size_alloc] at h1
  obtain ⟨A, k, rfl, _, _, _⟩ := id ht
  obtain ⟨A1, k1, rfl, _, _, _⟩ := id hx
  obtain ⟨A2, k2, rfl, _, _, _⟩ := id hv
  have hss := mul_le hs hs
  obtain ⟨_, hr0, _⟩ := hM 0 (by simp)
  simp only [List.getElem_cons_zero] at hr0
  have HS := Lib.hid (show ∀ W, MatsR W (.slice A2 (m0 :: ms).length k2) (m0 :: ms) → Calls Try.prog 62 #[.slice A2 (m0 :: ms).length k2] W (fun e w' => e = .returned (.int .i64 (s : Int)) ∧ W = w') from fun W hi => by have := l10Size_any _ m0 ms W hi; rwa [hr0] at this)
  have HZ := Lib.hid (fun W => l1Zero_any p s s W (by omega))
  have HN := Lib.hid hn
  have HV := Lib.hid hv
  have HKl := Lib.hid hK
  have HM := Lib.hid hM
  clear ht hx hv hM hn hK
  have tk1 : True := trivial
  go_enter Try.func114, Try.ntmps114
  go_upto_region 1 with fail
  generalize hW0 : ((w.alloc (.cells #[.int .i64 p, .int .i64 n, .slice A T.length k] 30)).alloc (.cells #[.int .i64 0, .int .i64 0, .int .i64 0, .slice none 0 0] 32)) = W0 at h1 ⊢
  clear hW0
  obtain ⟨z0, z1, z2⟩ := h1.box3 1 rfl
  have l0 := (h1.boxLt 1 rfl).2
  have n1 : W0.heap.size ≠ w.heap.size := by omega
  go_cut [7] (fun s7 wx => ∃ (bx : Nat) (A7 : Option Addr) (c7 : Nat), s7 = .pointer (some ⟨bx, 0, none⟩) ∧ St w wx [.box bx [.int .i64 p, .int .i64 s, .int .i64 s, .slice A7 (s * s) c7], .own (.slice A7 (s * s) c7) (List.replicate (s * s) 0), .box (w.heap.size + 1) [.int .i64 0, .int .i64 0, .int .i64 0, .slice none 0 0], .box w.heap.size [.int .i64 p, .int .i64 n, .slice A T.length k], .fact (fun w' => MatsR w' (.slice A2 (m0 :: ms).length k2) (m0 :: ms)), .ro (.slice A1 K.length k1) K, .ro (.slice A T.length k) T])
  case first =>
    go_region_held3 (fun w' => w'.cell? ⟨w.heap.size, 0, none⟩ = some (.int .i64 p))
      (first | with_reducible exact z0 | with_reducible exact y0 | go_keep)
      (first
        | (go_at_call 62; have _t := tk1; refine (HS.out _ ?_).mono ?_; (first | with_reducible exact h1.drew.fact 2 rfl | exact (h1.box [.int .i64 0, .int .i64 0, .int .i64 0, .slice none 0 0] 32).drew.fact 3 rfl); rintro (e : Ending) wa ⟨rfl, rfl⟩; clear tk1 _t)
        | (go_at_call 62; refine (HS.out _ ?_).mono ?_; (first | with_reducible exact h1.drew.fact 2 rfl | exact (h1.box [.int .i64 0, .int .i64 0, .int .i64 0, .slice none 0 0] 32).drew.fact 3 rfl); rintro (e : Ending) wa ⟨rfl, rfl⟩)
        | (go_at_call 116; refine (HZ.out _).mono ?_; rintro (e : Ending) w1 ⟨u, rfl, ho, hb1⟩; obtain ⟨A7, c7, rfl, _, _, _⟩ := id ho.ints; rw [List.length_replicate] at ho ⊢; (first | (with_reducible have h2 := h1.drew.pushOwn hb1 ho) | (have h2 := (h1.box [.int .i64 0, .int .i64 0, .int .i64 0, .slice none 0 0] 32).drew.pushOwn hb1 ho)); (first | (obtain ⟨y0, _, _⟩ := h2.box3 3 rfl; obtain ⟨e0, e1, e2, e3⟩ := h2.box4 1 rfl; have f0 := h2.free 1 rfl 0; have f1 := h2.free 1 rfl 1; have f2 := h2.free 1 rfl 2; have f3 := h2.free 1 rfl 3) | (obtain ⟨y0, _, _⟩ := h2.box3 2 rfl)))
        )
    all_goals
      go_wp2_with fail
      go_meet
      first
      | exact ⟨_, _, _, rfl, h2.box [.int .i64 p, .int .i64 s, .int .i64 s, .slice A7 (s * s) c7] 32⟩
      | exact ⟨_, _, _, rfl, St.swap2 ((((h2.setBox 1 rfl 0 (.int .i64 p)).setBox 1 rfl 1 (.int .i64 s)).setBox 1 rfl 2 (.int .i64 s)).setBox 1 rfl 3 (.slice A7 (s * s) c7))⟩
  case rest =>
  clear h1 z0 z1 z2 n1 l0
  obtain ⟨bx, A7, c7, rfl, h1⟩ := hcut
  obtain ⟨Ms, hMs⟩ : ∃ Ms, Ms = (m0 :: ms).map Mt.d := ⟨_, rfl⟩
  obtain ⟨R, hR⟩ : ∃ R, R = sumMTo p (s * s) K ((m0 :: ms).map Mt.d) n := ⟨_, rfl⟩
  have hMr : ∀ i (hi : i < (m0 :: ms).length), rowOf Ms i = ((m0 :: ms)[i]).d := fun i hi => by
    rw [hMs, ← rowOf_eq (by simpa using hi), List.getElem_map]
  have hMl : Ms.length = n := by rw [hMs, List.length_map]; exact HN.out
  have HMr := Lib.hid hMr
  have HMl := Lib.hid hMl
  have HOk := Lib.hid (sumMTo_ok (p := p) hp (n := s * s) (K := K) (Ms := Ms) (fun i hi => by rw [hMr i (by rw [HN.out, ← hMl]; exact hi)]; exact (HM.out i (by rw [HN.out, ← hMl]; exact hi)).2.2.2.1))
  have HRf := Lib.hid (show sumMTo p (s * s) K ((m0 :: ms).map Mt.d) n = sumMTo p (s * s) K Ms n by rw [hMs])
  clear hMs hMr hMl hR
  go_wp2
  go_loopw [8] (fun v8 wr => ∃ (i : Nat) (A7 : Option Addr) (c7 : Nat), v8 = .int .i64 i ∧ i ≤ n ∧ St w wr [.box bx [.int .i64 p, .int .i64 s, .int .i64 s, .slice A7 (s * s) c7], .own (.slice A7 (s * s) c7) (sumMTo p (s * s) K Ms i), .box (w.heap.size + 1) [.int .i64 0, .int .i64 0, .int .i64 0, .slice none 0 0], .box w.heap.size [.int .i64 p, .int .i64 n, .slice A T.length k], .fact (fun w' => MatsR w' (.slice A2 (m0 :: ms).length k2) (m0 :: ms)), .ro (.slice A1 K.length k1) K, .ro (.slice A T.length k) T]) (fun v8 _ => n - (intOf v8).toNat)
  case atStart => exact ⟨0, A7, c7, rfl, by omega, h1⟩
  case round =>
    clear h1 A7 c7
    obtain ⟨i, A7, c7, rfl, a1, h1⟩ := hrel
    obtain ⟨z0, z1, z2⟩ := h1.box3 3 rfl
    by_cases hi : i < n
    · obtain ⟨kb, koff, rfl⟩ := h1.roSome 5 rfl (by rw [HKl.out]; omega)
      have y0 := h1.roCell 5 rfl (q := i) (by rw [HKl.out]; exact hi)
      have hkr := resid_vec rK (i := i) (by rw [HKl.out]; exact hi)
      obtain ⟨x, hx⟩ : ∃ x, x = vec K i := ⟨_, rfl⟩
      have hS : sumMTo p (s * s) K Ms (i + 1) = if x = 0 then sumMTo p (s * s) K Ms i else addL (sumMTo p (s * s) K Ms i) x (rowOf Ms i) p := by rw [hx]; rfl
      rw [← hx] at y0 hkr
      have Hx := Lib.hid hx.symm
      have iK : (i : Int) < K.length := by rw [HKl.out]; omega
      clear hx
      by_cases hx0 : x = 0
      · rw [if_pos hx0] at hS
        have HS2 := Lib.hid hS
        have t1 : (x != 0) = false := by simp [hx0]
        clear hx0 hS
        go_wp2
        go_roundw
        case rel => exact ⟨i + 1, A7, c7, by go_num, by omega, by rw [HS2.out]; exact h1⟩
        case measure => simp [intOf]; omega
      · rw [if_neg hx0] at hS
        have t1 : (x != 0) = true := by simp [hx0]
        have him : i < (m0 :: ms).length := by rw [HN.out]; exact hi
        obtain ⟨g1, g2, g3, g4, g5⟩ := HM.out i him
        rw [HMr.out i him] at hS
        obtain ⟨b, off, A9, c9, rfl, hm⟩ := HV.out.at (i := i) him
        obtain ⟨Di, hDi⟩ : ∃ Di, Di = ((m0 :: ms)[i]).d := ⟨_, rfl⟩
        unfold MtAt at hm
        rw [g1, g2, g3] at hm
        rw [← hDi] at hm g4 g5 hS
        have h2 := h1.pushOld (R := fun w' => w'.cell? ⟨b, off + i * 4, none⟩ = some (.int .i64 p) ∧ w'.cell? ⟨b, off + i * 4 + 1, none⟩ = some (.int .i64 s) ∧ w'.cell? ⟨b, off + i * 4 + 2, none⟩ = some (.int .i64 s) ∧ w'.cell? ⟨b, off + i * 4 + 3, none⟩ = some (.slice A9 Di.length c9) ∧ Ints w' (.slice A9 Di.length c9) Di) (fun w' hk => by
          obtain ⟨k0, k1, k2, k3, k4⟩ := hm
          have kk : ∀ {o : Nat} {x : Value}, w.cell? ⟨b, o, none⟩ = some x → w'.cell? ⟨b, o, none⟩ = some x := fun h => (World.cell?_of_block (hk _ (World.block_lt_of_cell? w _ h))).trans h
          exact ⟨kk k0, kk k1, kk k2, kk k3, k4.keep fun q hq => World.cell?_of_block (hk _ hq)⟩)
        have HDl := Lib.hid g4
        have HDr := Lib.hid g5
        obtain ⟨o1, o2⟩ := HOk.out i (by rw [HMl.out]; omega)
        have HO1 := Lib.hid o1
        have HO2 := Lib.hid o2
        have HS2 := Lib.hid hS
        have iM : (i : Int) < ((m0 :: ms).length : Nat) := by omega
        have HSc := Lib.hid (fun W (hi : Ints W (.slice A9 Di.length c9) Di) => l1Scale_any p s s x _ Di W hi (by rw [g4]; omega) hp hp' (by omega) (by omega) g5)
        clear g1 g2 g3 g4 g5 hm hDi o1 o2 hS h1 z0 z1 z2 y0 hx0
        obtain ⟨q0, q1, q2, q3, q4⟩ := h2.fact 0 rfl
        obtain ⟨b0, b1, b2, b3⟩ := h2.box4 1 rfl
        have y0 := h2.roCell 6 rfl (q := i) (by rw [HKl.out]; exact hi)
        rw [Hx.out] at y0
        obtain ⟨z0, z1, z2⟩ := h2.box3 4 rfl
        have HO3 := Lib.hid (HOk.out (i + 1) (by rw [HMl.out]; omega)).1
        have HAs := Lib.hid (addL_scale (p := p) (k := x) (by omega) (D := sumMTo p (s * s) K Ms i) (E := Di) (by rw [HDl.out, HO1.out]))
        go_wp2
        have g0 := h2.drew
        have HAd := Lib.hid (show ∀ (W : World) (v1 v2 : Value), Ints W v1 (sumMTo p (s * s) K Ms i) → Ints W v2 (scaleR p (x % p) Di) → Calls Try.prog 154 #[.agg #[.int .i64 p, .int .i64 s, .int .i64 s, v1], .agg #[.int .i64 p, .int .i64 s, .int .i64 s, v2]] W (RetMat W p s s (sumMTo p (s * s) K Ms (i + 1))) from fun W v1 v2 hv1 hv2 => by
          have := l1Add_any p p s s s s v1 v2 (sumMTo p (s * s) K Ms i) (scaleR p (x % p) Di) W hv1 hv2 (by rw [HO1.out]; omega) (by rw [length_scaleR, HDl.out, HO1.out]) hp hp' HO2.out (resid_scaleR (by omega) _ _)
          rwa [HAs.out, ← HS2.out] at this)
        have iM2 : (i : Int) < (ms.length : Int) + 1 := by have := iM; rw [List.length_cons] at this; omega
        have hik : i < K.length := by rw [HKl.out]; exact hi
        have HF := Lib.hid (fun (W : World) (b1 : Nat) (h : W.cell? ⟨kb, koff + i, none⟩ = some (.int .i64 (vec K i))) => (show W.cell? ⟨kb, koff + i, none⟩ = some (.int .i64 x) by rw [← Hx.out]; exact h))
        refine wp_region_cut (S := fun w' => (w'.cell? ⟨bx, 0, none⟩ = some (.int .i64 p) ∧ w'.cell? ⟨bx, 1, none⟩ = some (.int .i64 s) ∧ w'.cell? ⟨bx, 2, none⟩ = some (.int .i64 s) ∧ w'.cell? ⟨bx, 3, none⟩ = some (.slice A7 (s * s) c7)) ∧ (w'.cell? ⟨b, off + i * 4, none⟩ = some (.int .i64 p) ∧ w'.cell? ⟨b, off + i * 4 + 1, none⟩ = some (.int .i64 s) ∧ w'.cell? ⟨b, off + i * 4 + 2, none⟩ = some (.int .i64 s) ∧ w'.cell? ⟨b, off + i * 4 + 3, none⟩ = some (.slice A9 Di.length c9)) ∧ w'.cell? ⟨kb, koff + i, none⟩ = some (.int .i64 x)) 11 (by kernel_rfl) (by kernel_rfl) ⟨g0.box4 1 rfl, ⟨(g0.fact 0 rfl).1, (g0.fact 0 rfl).2.1, (g0.fact 0 rfl).2.2.1, (g0.fact 0 rfl).2.2.2.1⟩, HF.out _ 0 (g0.roCell 6 rfl hik)⟩ (fun hHeld => ?_)
        simp only [List.take_succ_cons, List.take_zero]
        clear q0 q1 q2 q3 q4 b0 b1 b2 b3 y0 z0 z1 z2
        refine anyH_take (v := ?_) 0 rfl (by kernel_rfl) (by kernel_rfl) (by kernel_rfl) (fun _ _ _ h => h) rfl ?_ hHeld ?_
        rotate_left
        · intro w' hSw
          go_simp
          try with_reducible rfl
        try simp only [Act.put, List.setIfInBounds_toArray, List.set_cons_zero, List.set_cons_succ]
        refine anyH_take (v := ?_) 1 rfl (by kernel_rfl) (by kernel_rfl) (by kernel_rfl) (fun _ _ _ h => h) rfl ?_ hHeld ?_
        rotate_left
        · intro w' hSw
          go_simp
          try with_reducible rfl
        try simp only [Act.put, List.setIfInBounds_toArray, List.set_cons_zero, List.set_cons_succ]
        refine anyH_take (v := ?_) 2 rfl (by kernel_rfl) (by kernel_rfl) (by kernel_rfl) (fun _ _ _ h => h) rfl ?_ hHeld ?_
        rotate_left
        · intro w' hSw
          go_simp
          try with_reducible rfl
        try simp only [Act.put, List.setIfInBounds_toArray, List.set_cons_zero, List.set_cons_succ]
        refine anyH_take (v := ?_) 3 rfl (by kernel_rfl) (by kernel_rfl) (by kernel_rfl) (fun _ _ _ h => h) rfl ?_ hHeld ?_
        rotate_left
        · intro w' hSw
          go_simp
          try with_reducible rfl
        try simp only [Act.put, List.setIfInBounds_toArray, List.set_cons_zero, List.set_cons_succ]
        refine anyH_take (v := ?_) 4 rfl (by kernel_rfl) (by kernel_rfl) (by kernel_rfl) (fun _ _ _ h => h) rfl ?_ hHeld ?_
        rotate_left
        · intro w' hSw
          go_simp
          try with_reducible rfl
        try simp only [Act.put, List.setIfInBounds_toArray, List.set_cons_zero, List.set_cons_succ]
        refine anyH_take (v := ?_) 5 rfl (by kernel_rfl) (by kernel_rfl) (by kernel_rfl) (fun _ _ _ h => h) rfl ?_ hHeld ?_
        rotate_left
        · intro w' hSw
          go_simp
          try with_reducible rfl
        try simp only [Act.put, List.setIfInBounds_toArray, List.set_cons_zero, List.set_cons_succ]
        refine anyH_take (v := ?_) 6 rfl (by kernel_rfl) (by kernel_rfl) (by kernel_rfl) (fun _ _ _ h => h) rfl ?_ hHeld ?_
        rotate_left
        · intro w' hSw
          go_simp
          try with_reducible rfl
        try simp only [Act.put, List.setIfInBounds_toArray, List.set_cons_zero, List.set_cons_succ]
        refine anyH_take (v := ?_) 7 rfl (by kernel_rfl) (by kernel_rfl) (by kernel_rfl) (fun _ _ _ h => h) rfl ?_ hHeld ?_
        rotate_left
        · intro w' hSw
          go_simp
          try with_reducible rfl
        try simp only [Act.put, List.setIfInBounds_toArray, List.set_cons_zero, List.set_cons_succ]
        refine anyH_take (v := ?_) 8 rfl (by kernel_rfl) (by kernel_rfl) (by kernel_rfl) (fun _ _ _ h => h) rfl ?_ hHeld ?_
        rotate_left
        · intro w' hSw
          go_simp
          try with_reducible rfl
        try simp only [Act.put, List.setIfInBounds_toArray, List.set_cons_zero, List.set_cons_succ]
        refine wpAnyH_ready (rs := [9]) (by kernel_rfl) (by simp) ?_
        refine ready_cons rfl (fun K hK => ?_) AllReadyH.nil
        go_simp
        refine (HSc.out _ (g0.fact 0 rfl).2.2.2.2).mono ?_
        rintro (e : Ending) w2 ⟨u, rfl, ho2, hb2⟩
        obtain ⟨A3, n3, c3, rfl⟩ := ho2.slice
        have h3 := g0.pushOwn hb2 ho2
        show K _ _
        refine hK.out _ _ ?_ (fun hHeld => ?_)
        · exact ⟨h3.box4 2 rfl, ⟨(h3.fact 1 rfl).1, (h3.fact 1 rfl).2.1, (h3.fact 1 rfl).2.2.1, (h3.fact 1 rfl).2.2.2.1⟩, HF.out _ 0 (h3.roCell 7 rfl hik)⟩
        clear hK K
        try simp only [Act.put, List.setIfInBounds_toArray, List.set_cons_zero, List.set_cons_succ]
        refine wpAnyH_ready (rs := [10]) (by kernel_rfl) (by simp) ?_
        refine ready_cons rfl (fun K hK => ?_) AllReadyH.nil
        go_simp
        refine (HAd.out _ _ _ (h3.ownInts 3 rfl) (h3.ownInts 0 rfl)).mono ?_
        rintro (e : Ending) w3 ⟨u3, rfl, ho3, hb3⟩
        obtain ⟨A4, c4, rfl, _, _, _⟩ := id ho3.ints
        rw [HO3.out] at ho3 ⊢
        have h4 := h3.pushOwn hb3 ho3
        show K _ _
        refine hK.out _ _ ?_ (fun hHeld => ?_)
        · exact ⟨h4.box4 3 rfl, ⟨(h4.fact 2 rfl).1, (h4.fact 2 rfl).2.1, (h4.fact 2 rfl).2.2.1, (h4.fact 2 rfl).2.2.2.1⟩, HF.out _ 0 (h4.roCell 8 rfl hik)⟩
        clear hK K
        try simp only [Act.put, List.setIfInBounds_toArray, List.set_cons_zero, List.set_cons_succ]
        refine wpAnyH_done (by kernel_rfl) ?_ _
        show wpList _ _ _ _ _ _
        simp only [List.drop_succ_cons, List.drop_zero]
        clear hHeld
        obtain ⟨bb0, bb1, bb2, bb3⟩ := h4.box4 3 rfl
        have f0 := h4.free 3 rfl 0
        have f1 := h4.free 3 rfl 1
        have f2 := h4.free 3 rfl 2
        have f3 := h4.free 3 rfl 3
        have h5 := (((h4.setBox 3 rfl 0 (.int .i64 p)).setBox 3 rfl 1 (.int .i64 s)).setBox 3 rfl 2 (.int .i64 s)).setBox 3 rfl 3 (.slice A4 (s * s) c4)
        go_wp2
        go_roundw
        case rel => exact ⟨i + 1, A4, c4, by go_num, by omega, h5.re [3, 0, 5, 6, 7, 8, 9] (by decide) (fun j => by match j with | 0 => rfl | 1 => rfl | 2 => rfl | 3 => rfl | 4 => rfl | 5 => rfl | 6 => rfl | j + 7 => rfl)⟩
        case measure => simp [intOf]; omega
    · obtain rfl : i = n := by omega
      rw [← HRf.out] at h1
      have f0 := h1.free 2 rfl 0
      have f1 := h1.free 2 rfl 1
      have f2 := h1.free 2 rfl 2
      have f3 := h1.free 2 rfl 3
      obtain ⟨b0, b1, b2, b3⟩ := h1.box4 0 rfl
      obtain ⟨x0, x1, x2, x3⟩ := h1.box4 2 rfl
      have h2 := (((h1.setBox 2 rfl 0 (.int .i64 p)).setBox 2 rfl 1 (.int .i64 s)).setBox 2 rfl 2 (.int .i64 s)).setBox 2 rfl 3 (.slice A7 (s * s) c7)
      obtain ⟨r0, r1, r2, r3⟩ := h2.box4 2 rfl
      go_wp2
      refine bodyPost_ret (v := .agg #[.int .i64 p, .int .i64 s, .int .i64 s, .slice A7 (s * s) c7]) (by simp [results, Try.results114, go_sem, r0, r1, r2, r3]) rfl ⟨_, rfl, h2.own 1 rfl, h2.below⟩
end Go.Proofs.Ytechjmckfedblaa
