/- The killing form of the program. -/
import Derived.Test.YthiainhhaokjoaaKfS
namespace Go.Proofs.Ythiainhhaokjoaa
set_option maxRecDepth 100000
open Go.RowKit

theorem matOk_sq {p : Int} {n : Nat} {D : List Int} (hP : isPrime p = true) (hn : n ≤ 40) (hD : D.length = n * n) (rD : resid p D = true) : matOk p n n D = true := by
  have e1 : (D.length : Int) = (n : Int) * n := by rw [hD]; simp
  have i1 : inR (n : Int) 0 40 = true := by simp [inR]; omega
  simp only [matOk, hP, i1, rD, decide_eq_true e1, Bool.and_self]

set_option maxHeartbeats 4000000 in
theorem killing_any (p : Int) (n : Nat) (t : Value) (T : List Int) (w : World) (ht : Ints w t T) (hT : T.length = n * n * n) (hn : n ≤ 28) (hP : isPrime p = true) (rT : resid p T = true) :
    Calls Try.prog 94 #[.agg #[.int .i64 p, .int .i64 n, t]] w (RetMat w p n n (kfD p n T)) := by
  obtain ⟨hp, hp'⟩ := isPrime_bd hP
  have h1 := ((St.start1 ht).box [.int .i64 p, .int .i64 n, t] 33).box [.int .i64 0, .int .i64 0, .int .i64 0, .slice none 0 0] 40
  simp only [World.size_alloc] at h1
  obtain ⟨A, k, rfl, _, _, _⟩ := id ht
  have hnn := mul_le hn hn
  have HAd := Lib.hid (fun (W : World) (v : Value) (i : Nat) (x1 : Ints W (.slice A T.length k) T) (x2 : Ints W v (unitL n i)) => adjoint_any p n _ v T (unitL n i) W x1 x2 hT (length_unitL _ _) hn hp hp' rT (resid_unitL hp n i))
  have HMu := Lib.hid (fun (W : World) (u v : Value) (i j : Nat) (x1 : Ints W u (adM T (unitL n i) n p)) (x2 : Ints W v (adM T (unitL n j) n p)) => times_any p p n n n n u v _ _ W x1 x2 (length_adM _ _ _ _) (length_adM _ _ _ _) (by omega) (by omega) (by omega) hp hp' (resid_adMk hp _ _ _) (resid_adMk hp _ _ _))
  have HTr := Lib.hid (fun (W : World) (v : Value) (i j : Nat) (x1 : Ints W v (mulD p n n n (adM T (unitL n i) n p) (adM T (unitL n j) n p))) => TraceOf_any p n v _ W x1 (matOk_sq hP (by omega) (length_mulD _ _ _ _ _ _) (resid_mulD hp _ _ _ _ _)))
  have HZ := Lib.hid (fun W => ZeroMatrixI_any p n n W hP (by omega) (by omega))
  have HLen := Lib.hid (length_adMs p n T)
  have Hp := Lib.hid hp
  clear ht hT rT hP
  obtain ⟨z0, z1, z2⟩ := h1.box3 1 rfl
  go_enter Try.func94, Try.ntmps94
  go_wp2_with fail
  refine (newLie_any p n _ _ _ _ _ rfl).mono ?_
  rintro (e : Ending) w9 ⟨rfl, hb1⟩
  replace h1 := ((h1.on hb1).box [.int .i64 p, .int .i64 n, .slice A T.length k] 86).emptyMats
  simp only [World.size_alloc] at h1
  clear z0 z1 z2 hb1
  obtain ⟨z0, z1, z2⟩ := h1.box3 3 rfl
  go_wp2
  generalize hB3 : w9.heap.size = B3 at h1 ⊢
  clear z0 z1 z2 hB3
  go_loopw [4, 5, 16] (fun v4 _ v16 wr => ∃ (i : Nat) (us : List Value), v16 = .int .i64 i ∧ i ≤ n ∧ Hid (us.length = i) ∧ St w wr [matsIt v4 us ((adMs p n T).take i), .box B3 [.int .i64 p, .int .i64 n, .slice A T.length k], .box (w.heap.size + 1) [.int .i64 0, .int .i64 0, .int .i64 0, .slice none 0 0], .box w.heap.size [.int .i64 p, .int .i64 n, .slice A T.length k], .ro (.slice A T.length k) T]) (fun _ _ v16 _ => n - (intOf v16).toNat)
  case atStart => exact ⟨0, [], rfl, by omega, rfl, h1⟩
  case round =>
    clear h1
    obtain ⟨i, us, rfl, a1, Hul, h1⟩ := hrel
    by_cases hi : i < n
    · have HB := Lib.hid (fun W => unit_any n i W (by omega) hi)
      have HS := Lib.hid (adMs_take p n T i hi)
      have Hl := Lib.hid (show us.length = ((adMs p n T).take i).length by rw [Hul.out, List.length_take, HLen.out]; omega)
      have Ht1 := Lib.hid (show ((adMs p n T).take i).length + 1 ≤ 1099511627776 by rw [List.length_take, HLen.out]; omega)
      have ii : (i : Int) < (n : Int) := by omega
      go_upto_region 6 with fail
      have g0 := h1.drew
      refine wp_region_cut (S := fun w' => (w'.cell? ⟨B3, 0, none⟩ = some (.int .i64 p) ∧ w'.cell? ⟨B3, 1, none⟩ = some (.int .i64 n) ∧ w'.cell? ⟨B3, 2, none⟩ = some (.slice A T.length k)) ∧ (w'.cell? ⟨w.heap.size, 0, none⟩ = some (.int .i64 p) ∧ w'.cell? ⟨w.heap.size, 1, none⟩ = some (.int .i64 n) ∧ w'.cell? ⟨w.heap.size, 2, none⟩ = some (.slice A T.length k))) 8 (by kernel_rfl) (by kernel_rfl) ⟨g0.box3 1 rfl, g0.box3 3 rfl⟩ (fun hHeld => ?_)
      simp only [List.take_succ_cons, List.take_zero]
      refine anyH_take (v := ?_) 0 rfl (by kernel_rfl) (by kernel_rfl) (by kernel_rfl) (fun _ _ _ h => h) rfl ?_ hHeld ?_
      rotate_left
      · intro w' hSw
        go_simp
        try with_reducible rfl
      try simp only [Act.put, List.setIfInBounds_toArray, List.set_cons_zero, List.set_cons_succ]
      refine anyH_take (v := ?_) 1 rfl (by kernel_rfl) (by kernel_rfl) (by kernel_rfl) (fun _ _ _ h => h) rfl ?_ hHeld ?_
      rotate_left
      · intro w' hSw
        go_simp
        try with_reducible rfl
      try simp only [Act.put, List.setIfInBounds_toArray, List.set_cons_zero, List.set_cons_succ]
      refine anyH_take (v := ?_) 2 rfl (by kernel_rfl) (by kernel_rfl) (by kernel_rfl) (fun _ _ _ h => h) rfl ?_ hHeld ?_
      rotate_left
      · intro w' hSw
        go_simp
        try with_reducible rfl
      try simp only [Act.put, List.setIfInBounds_toArray, List.set_cons_zero, List.set_cons_succ]
      refine anyH_take (v := ?_) 3 rfl (by kernel_rfl) (by kernel_rfl) (by kernel_rfl) (fun _ _ _ h => h) rfl ?_ hHeld ?_
      rotate_left
      · intro w' hSw
        go_simp
        try with_reducible rfl
      try simp only [Act.put, List.setIfInBounds_toArray, List.set_cons_zero, List.set_cons_succ]
      refine anyH_take (v := ?_) 4 rfl (by kernel_rfl) (by kernel_rfl) (by kernel_rfl) (fun _ _ _ h => h) rfl ?_ hHeld ?_
      rotate_left
      · intro w' hSw
        go_simp
        try with_reducible rfl
      try simp only [Act.put, List.setIfInBounds_toArray, List.set_cons_zero, List.set_cons_succ]
      refine wpAnyH_ready (rs := [5]) (by kernel_rfl) (by simp) ?_
      refine ready_cons rfl (fun K hK => ?_) AllReadyH.nil
      go_simp
      refine (HB.out _).mono ?_
      rintro (e : Ending) w4 ⟨u4, rfl, ho4, hb4⟩
      obtain ⟨A4, n4, c4, rfl⟩ := ho4.slice
      have g1 := g0.pushOwn hb4 ho4
      show K _ _
      refine hK.out _ _ ?_ (fun hHeld => ?_)
      · exact ⟨g1.box3 2 rfl, g1.box3 4 rfl⟩
      clear hK K
      try simp only [Act.put, List.setIfInBounds_toArray, List.set_cons_zero, List.set_cons_succ]
      refine wpAnyH_ready (rs := [6]) (by kernel_rfl) (by simp) ?_
      refine ready_cons rfl (fun K hK => ?_) AllReadyH.nil
      go_simp
      refine (HAd.out _ _ i (g1.roInts 5 rfl) (g1.ownInts 0 rfl)).mono ?_
      rintro (e : Ending) w5 ⟨u5, rfl, ho5, hb5⟩
      obtain ⟨A5, n5, c5, rfl⟩ := ho5.slice
      have g2 := g1.pushOwn hb5 ho5
      show K _ _
      refine hK.out _ _ ?_ (fun hHeld => ?_)
      · exact ⟨g2.box3 3 rfl, g2.box3 5 rfl⟩
      clear hK K
      try simp only [Act.put, List.setIfInBounds_toArray, List.set_cons_zero, List.set_cons_succ]
      refine wpAnyH_ready (rs := [7]) (by kernel_rfl) (by simp) ?_
      refine ready_cons rfl (fun K hK => ?_) AllReadyH.nil
      go_simp
      have ga := g2.alloc' (.cells #[.int .i64 p, .int .i64 n, .int .i64 n, .slice A5 n5 c5] 40)
      refine hK.out _ _ ?_ (fun hHeld => ?_)
      · exact ⟨ga.box3 3 rfl, ga.box3 5 rfl⟩
      clear hK K
      try simp only [Act.put, List.setIfInBounds_toArray, List.set_cons_zero, List.set_cons_succ]
      refine wpAnyH_done (by kernel_rfl) ?_ _
      show wpList _ _ _ _ _ _
      simp only [List.drop_succ_cons, List.drop_zero]
      clear hHeld
      clear g0 g1 ga ho4 hb4 ho5 hb5 h1
      go_wp2_with (at_builtin; refine wp_append_mat rfl (.tmp 19) (.tmp 26) rfl ⟨p, n, n, adM T (unitL n i) n p⟩ g2 1 rfl Hl.out rfl rfl Ht1.out ?_; intro v1 w6 h6)
      go_roundw
      case rel => exact ⟨i + 1, us ++ [_], by go_num, by omega, by show _ = _; rw [List.length_append, Hul.out]; rfl, by rw [HS.out]; exact h6.drop 1⟩
      case measure => simp [intOf]; omega
    · obtain rfl : i = n := by omega
      rw [List.take_of_length_le (by rw [HLen.out]; exact Nat.le_refl _)] at h1
      have Hul2 := Lib.hid (show us.length = (adMs p i T).length by rw [Hul.out, HLen.out])
      obtain ⟨A3, c3, rfl, _, _, _⟩ := id (h1.mats 0 rfl Hul2.out)
      rw [HLen.out] at h1 ⊢
      obtain ⟨z0, z1, z2⟩ := h1.box3 3 rfl
      go_wp2_with fail
      refine (HZ.out _).mono ?_
      rintro (e : Ending) w2 ⟨u2, rfl, ho2, hb2⟩
      rw [← kfA_zero p i T] at ho2
      obtain ⟨A6, c6, rfl, _, _, _⟩ := id ho2.ints
      have g1 := (h1.pushOwn hb2 ho2).box [.int .i64 p, .int .i64 i, .int .i64 i, .slice A6 (kfA p i T 0 0).length c6] 40
      rw [length_kfA] at g1 ⊢
      clear z0 z1 z2 h1 ho2 hb2
      go_wp2
      generalize hB5 : w2.heap.size = B5 at g1 ⊢
      clear hB5
      go_loopw [7, 8, 9, 10, 38] (fun _ _ _ _ v38 wr => ∃ (a : Nat), v38 = .int .i64 a ∧ a ≤ i ∧ St w wr [.box B5 [.int .i64 p, .int .i64 i, .int .i64 i, .slice A6 (i * i) c6], .own (.slice A6 (i * i) c6) (kfA p i T a 0), matsIt (.slice A3 i c3) us (adMs p i T), .box (w.heap.size + 1) [.int .i64 0, .int .i64 0, .int .i64 0, .slice none 0 0], .box w.heap.size [.int .i64 p, .int .i64 i, .slice A T.length k], .ro (.slice A T.length k) T]) (fun _ _ _ _ v38 _ => i - (intOf v38).toNat)
      case atStart => exact ⟨0, rfl, by omega, g1.re [0, 1, 2, 4, 5, 6] (by decide) (fun j => by rcases j with _ | _ | _ | _ | _ | _ | j <;> rfl)⟩
      case round =>
        clear g1
        obtain ⟨a, rfl, a2, g1⟩ := hrel
        by_cases ha : a < i
        · have ia : (a : Int) < (i : Int) := by omega
          obtain ⟨gm, rfl⟩ := g1.vecSome 2 rfl (by rw [HLen.out]; omega)
          obtain ⟨Aa, ca, hua⟩ := g1.matV 2 rfl Hul2.out (adMs_get (p := p) (T := T) ha)
          simp only [length_adM] at hua
          have Hua := Lib.hid (fun (W : World) (L : List It) (q : Nat) (h : St w W L) (hq : L[q]? = some (matsIt (.slice (some ⟨gm, 0, none⟩) i c3) us (adMs p i T))) => h.matG q hq HLen.out a hua (adMs_get (p := p) (T := T) ha))
          obtain ⟨⟨z0, z1, z2, z3⟩, -⟩ := Hua.out _ _ 2 g1 rfl
          have g2 := g1.box [.int .i64 p, .int .i64 i, .int .i64 i, .slice Aa (i * i) ca] 40
          clear hua g1
          go_wp2
          generalize hB8 : wr.heap.size = B8 at g2 ⊢
          clear hB8 z0 z1 z2 z3
          go_loopw [9, 10, 45] (fun _ _ v45 wr => ∃ (b : Nat), v45 = .int .i64 b ∧ b ≤ i ∧ St w wr [.box B8 [.int .i64 p, .int .i64 i, .int .i64 i, .slice Aa (i * i) ca], .box B5 [.int .i64 p, .int .i64 i, .int .i64 i, .slice A6 (i * i) c6], .own (.slice A6 (i * i) c6) (kfA p i T a b), matsIt (.slice (some ⟨gm, 0, none⟩) i c3) us (adMs p i T), .box (w.heap.size + 1) [.int .i64 0, .int .i64 0, .int .i64 0, .slice none 0 0], .box w.heap.size [.int .i64 p, .int .i64 i, .slice A T.length k], .ro (.slice A T.length k) T]) (fun _ _ v45 _ => i - (intOf v45).toNat)
          case atStart => exact ⟨0, rfl, by omega, g2⟩
          case round =>
            clear g2
            obtain ⟨b, rfl, a3, g1⟩ := hrel
            by_cases hb : b < i
            · have ib : (b : Int) < (i : Int) := by omega
              obtain ⟨Ab, cb, hub⟩ := g1.matV 3 rfl Hul2.out (adMs_get (p := p) (T := T) hb)
              simp only [length_adM] at hub
              have Hub := Lib.hid (fun (W : World) (L : List It) (q : Nat) (h : St w W L) (hq : L[q]? = some (matsIt (.slice (some ⟨gm, 0, none⟩) i c3) us (adMs p i T))) => h.matG q hq HLen.out b hub (adMs_get (p := p) (T := T) hb))
              obtain ⟨⟨z0, z1, z2, z3⟩, -⟩ := Hub.out _ _ 3 g1 rfl
              have g2 := g1.box [.int .i64 p, .int .i64 i, .int .i64 i, .slice Ab (i * i) cb] 40
              have HTr1 := Lib.hid (fun W v x => HTr.out W v a b x)
              have HSet := Lib.hid (kfA_set (p := p) (T := T) ha hb)
              have HG : kfG p i T a b = traD p i (mulD p i i i (adM T (unitL i a) i p) (adM T (unitL i b) i p)) := rfl
              rw [HG] at HSet
              obtain ⟨x, hx⟩ : ∃ x, x = traD p i (mulD p i i i (adM T (unitL i a) i p) (adM T (unitL i b) i p)) := ⟨_, rfl⟩
              rw [← hx] at HSet HTr1
              have hlt1 : a * i + b < i * i := spot_lt ha hb
              obtain ⟨m1, hm1⟩ : ∃ m1, m1 = a * i := ⟨_, rfl⟩
              obtain ⟨q1, hq1⟩ : ∃ q1, q1 = m1 + b := ⟨_, rfl⟩
              rw [← hm1, ← hq1] at hlt1 HSet
              have t1 : (a : Int) * (i : Int) = (m1 : Int) := by rw [hm1]; simp
              have t3 : (m1 : Int) + (b : Int) = (q1 : Int) := by omega
              have hnn := mul_le hn hn
              have w1 : IntKind.i64.wrap (m1 : Int) = m1 := wrap_ok (by omega) (by omega)
              have w3 : IntKind.i64.wrap (q1 : Int) = q1 := wrap_ok (by omega) (by omega)
              have j1 : (q1 : Int) < ((i * i : Nat) : Int) := by omega
              have j1b : (q1 : Int) < (i : Int) * (i : Int) := by rw [← Int.natCast_mul]; exact j1
              have HLt := Lib.hid (show q1 < (kfA p i T a b).length by rw [length_kfA]; exact hlt1)
              obtain ⟨gd, rfl, -⟩ := g1.ownSomeA 2 rfl (by have := HLt.out; omega)
              clear hx HG hub g1 hm1 hq1 hlt1 hnn
              go_upto_region 15 with fail
              generalize hB10 : wr.heap.size = B10 at g2 ⊢
              clear hB10 z0 z1 z2 z3
              have g0 := g2.drew
              refine wp_region_held_drew (S := fun w' => (w'.cell? ⟨B10, 0, none⟩ = some (.int .i64 p) ∧ w'.cell? ⟨B10, 1, none⟩ = some (.int .i64 i) ∧ w'.cell? ⟨B10, 2, none⟩ = some (.int .i64 i) ∧ w'.cell? ⟨B10, 3, none⟩ = some (.slice Ab (i * i) cb)) ∧ (w'.cell? ⟨B8, 0, none⟩ = some (.int .i64 p) ∧ w'.cell? ⟨B8, 1, none⟩ = some (.int .i64 i) ∧ w'.cell? ⟨B8, 2, none⟩ = some (.int .i64 i) ∧ w'.cell? ⟨B8, 3, none⟩ = some (.slice Aa (i * i) ca)) ∧ (w'.cell? ⟨B5, 0, none⟩ = some (.int .i64 p) ∧ w'.cell? ⟨B5, 1, none⟩ = some (.int .i64 i) ∧ w'.cell? ⟨B5, 2, none⟩ = some (.int .i64 i) ∧ w'.cell? ⟨B5, 3, none⟩ = some (.slice (some ⟨gd, 0, none⟩) (i * i) c6)) ∧ (w'.cell? ⟨w.heap.size, 0, none⟩ = some (.int .i64 p) ∧ w'.cell? ⟨w.heap.size, 1, none⟩ = some (.int .i64 i) ∧ w'.cell? ⟨w.heap.size, 2, none⟩ = some (.slice A T.length k))) (by kernel_rfl) ⟨g0.box4 0 rfl, g0.box4 1 rfl, g0.box4 2 rfl, g0.box3 6 rfl⟩ (fun hHeld => ?_)
              refine anyH_take (v := ?_) 0 rfl (by kernel_rfl) (by kernel_rfl) (by kernel_rfl) (fun _ _ _ h => h) rfl ?_ hHeld ?_
              rotate_left
              · intro w' hSw
                go_simp
                try with_reducible rfl
              try simp only [Act.put, List.setIfInBounds_toArray, List.set_cons_zero, List.set_cons_succ]
              refine anyH_take (v := ?_) 1 rfl (by kernel_rfl) (by kernel_rfl) (by kernel_rfl) (fun _ _ _ h => h) rfl ?_ hHeld ?_
              rotate_left
              · intro w' hSw
                go_simp
                try with_reducible rfl
              try simp only [Act.put, List.setIfInBounds_toArray, List.set_cons_zero, List.set_cons_succ]
              refine anyH_take (v := ?_) 2 rfl (by kernel_rfl) (by kernel_rfl) (by kernel_rfl) (fun _ _ _ h => h) rfl ?_ hHeld ?_
              rotate_left
              · intro w' hSw
                go_simp
                try with_reducible rfl
              try simp only [Act.put, List.setIfInBounds_toArray, List.set_cons_zero, List.set_cons_succ]
              refine anyH_take (v := ?_) 3 rfl (by kernel_rfl) (by kernel_rfl) (by kernel_rfl) (fun _ _ _ h => h) rfl ?_ hHeld ?_
              rotate_left
              · intro w' hSw
                go_simp
                try with_reducible rfl
              try simp only [Act.put, List.setIfInBounds_toArray, List.set_cons_zero, List.set_cons_succ]
              refine anyH_take (v := ?_) 4 rfl (by kernel_rfl) (by kernel_rfl) (by kernel_rfl) (fun _ _ _ h => h) rfl ?_ hHeld ?_
              rotate_left
              · intro w' hSw
                go_simp
                try with_reducible rfl
              try simp only [Act.put, List.setIfInBounds_toArray, List.set_cons_zero, List.set_cons_succ]
              refine anyH_take (v := ?_) 5 rfl (by kernel_rfl) (by kernel_rfl) (by kernel_rfl) (fun _ _ _ h => h) rfl ?_ hHeld ?_
              rotate_left
              · intro w' hSw
                go_simp
                try with_reducible rfl
              try simp only [Act.put, List.setIfInBounds_toArray, List.set_cons_zero, List.set_cons_succ]
              refine anyH_take (v := ?_) 6 rfl (by kernel_rfl) (by kernel_rfl) (by kernel_rfl) (fun _ _ _ h => h) rfl ?_ hHeld ?_
              rotate_left
              · intro w' hSw
                go_simp
                try with_reducible rfl
              try simp only [Act.put, List.setIfInBounds_toArray, List.set_cons_zero, List.set_cons_succ]
              refine anyH_take (v := ?_) 7 rfl (by kernel_rfl) (by kernel_rfl) (by kernel_rfl) (fun _ _ _ h => h) rfl ?_ hHeld ?_
              rotate_left
              · intro w' hSw
                go_simp
                try with_reducible rfl
              try simp only [Act.put, List.setIfInBounds_toArray, List.set_cons_zero, List.set_cons_succ]
              refine anyH_take (v := ?_) 8 rfl (by kernel_rfl) (by kernel_rfl) (by kernel_rfl) (fun _ _ _ h => h) rfl ?_ hHeld ?_
              rotate_left
              · intro w' hSw
                go_simp
                try with_reducible rfl
              try simp only [Act.put, List.setIfInBounds_toArray, List.set_cons_zero, List.set_cons_succ]
              refine anyH_take (v := ?_) 9 rfl (by kernel_rfl) (by kernel_rfl) (by kernel_rfl) (fun _ _ _ h => h) rfl ?_ hHeld ?_
              rotate_left
              · intro w' hSw
                go_simp
                try with_reducible rfl
              try simp only [Act.put, List.setIfInBounds_toArray, List.set_cons_zero, List.set_cons_succ]
              refine wpAnyH_ready (rs := [10]) (by kernel_rfl) (by simp) ?_
              refine ready_cons rfl (fun K hK => ?_) AllReadyH.nil
              go_simp
              refine (HMu.out _ _ _ a b (Hua.out _ _ 4 g0 rfl).2 (Hub.out _ _ 4 g0 rfl).2).mono ?_
              rintro (e : Ending) w4 ⟨u4, rfl, ho4, hb4⟩
              obtain ⟨A4, n4, c4, rfl⟩ := ho4.slice
              have g3 := g0.pushOwn hb4 ho4
              show K _ _
              refine hK.out _ _ ?_ (fun hHeld => ?_)
              · exact ⟨g3.box4 1 rfl, g3.box4 2 rfl, g3.box4 3 rfl, g3.box3 7 rfl⟩
              clear hK K
              try simp only [Act.put, List.setIfInBounds_toArray, List.set_cons_zero, List.set_cons_succ]
              refine wpAnyH_ready (rs := [11]) (by kernel_rfl) (by simp) ?_
              refine ready_cons rfl (fun K hK => ?_) AllReadyH.nil
              go_simp
              refine (HTr1.out _ _ (g3.ownInts 0 rfl)).mono ?_
              rintro (e : Ending) w5 ⟨rfl, hb5⟩
              have g4 := g3.on hb5
              show K _ _
              refine hK.out _ _ ?_ (fun hHeld => ?_)
              · exact ⟨g4.box4 1 rfl, g4.box4 2 rfl, g4.box4 3 rfl, g4.box3 7 rfl⟩
              clear hK K
              try simp only [Act.put, List.setIfInBounds_toArray, List.set_cons_zero, List.set_cons_succ]
              refine anyH_take (v := ?_) 12 rfl (by kernel_rfl) (by kernel_rfl) (by kernel_rfl) (fun _ _ _ h => h) rfl ?_ hHeld ?_
              rotate_left
              · intro w' hSw
                go_simp
                try with_reducible rfl
              try simp only [Act.put, List.setIfInBounds_toArray, List.set_cons_zero, List.set_cons_succ]
              refine anyH_take (v := ?_) 13 rfl (by kernel_rfl) (by kernel_rfl) (by kernel_rfl) (fun _ _ _ h => h) rfl ?_ hHeld ?_
              rotate_left
              · intro w' hSw
                go_simp
                try with_reducible rfl
              try simp only [Act.put, List.setIfInBounds_toArray, List.set_cons_zero, List.set_cons_succ]
              refine anyH_take (v := ?_) 14 rfl (by kernel_rfl) (by kernel_rfl) (by kernel_rfl) (fun _ _ _ h => h) rfl ?_ hHeld ?_
              rotate_left
              · intro w' hSw
                go_simp
                try with_reducible rfl
              try simp only [Act.put, List.setIfInBounds_toArray, List.set_cons_zero, List.set_cons_succ]
              refine anyH_take (v := ?_) 15 rfl (by kernel_rfl) (by kernel_rfl) (by kernel_rfl) (fun _ _ _ h => h) rfl ?_ hHeld ?_
              rotate_left
              · intro w' hSw
                go_simp
                try with_reducible rfl
              try simp only [Act.put, List.setIfInBounds_toArray, List.set_cons_zero, List.set_cons_succ]
              obtain ⟨f1, f2⟩ := g4.ownCellA 4 rfl HLt.out
              refine wpAnyH_ready (rs := [16]) (by kernel_rfl) (by simp) ?_
              refine ready_cons rfl (fun K hK => ?_) AllReadyH.nil
              go_simp
              have g5 := g4.set 4 rfl q1 x
              refine hK.out _ _ ?_ (fun hHeld => ?_)
              · exact ⟨g5.box4 1 rfl, g5.box4 2 rfl, g5.box4 3 rfl, g5.box3 7 rfl⟩
              clear hK K
              try simp only [Act.put, List.setIfInBounds_toArray, List.set_cons_zero, List.set_cons_succ]
              refine wpAnyH_done (by kernel_rfl) ?_ _
              clear hHeld
              clear g0 g2 g3 g4 hb4 ho4 hb5
              go_wp2
              go_roundw
              case rel => exact ⟨b + 1, by go_num, by omega, by rw [← HSet.out]; exact g5.drop 2⟩
              case measure => simp [intOf]; omega
            · obtain rfl : b = i := by omega
              rw [kfA_row] at g1
              go_wp2
              go_roundw
              case rel => exact ⟨a + 1, by go_num, by omega, g1.drop 1⟩
              case measure => simp [intOf]; omega
        · obtain rfl : a = i := by omega
          rw [kfA_end] at g1
          obtain ⟨y0, y1, y2, y3⟩ := g1.box4 0 rfl
          obtain ⟨p0, p1, p2, p3⟩ := g1.box4 3 rfl
          have f0 := g1.free 3 rfl 0
          have f1 := g1.free 3 rfl 1
          have f2 := g1.free 3 rfl 2
          have f3 := g1.free 3 rfl 3
          have g5 := (((g1.setBox 3 rfl 0 (.int .i64 p)).setBox 3 rfl 1 (.int .i64 a)).setBox 3 rfl 2 (.int .i64 a)).setBox 3 rfl 3 (.slice A6 (a * a) c6)
          obtain ⟨r0, r1, r2, r3⟩ := g5.box4 3 rfl
          go_wp2
          refine bodyPost_ret (v := .agg #[.int .i64 p, .int .i64 a, .int .i64 a, .slice A6 (a * a) c6]) (by simp [results, Try.results94, go_sem, r0, r1, r2, r3]) rfl ⟨_, rfl, g5.own 1 rfl, g5.below⟩
end Go.Proofs.Ythiainhhaokjoaa
