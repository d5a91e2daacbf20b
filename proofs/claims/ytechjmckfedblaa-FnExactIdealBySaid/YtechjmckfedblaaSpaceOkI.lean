/- SpaceOk of the program. -/
import Derived.Test.YtechjmckfedblaaSpaceOk
import Derived.Test.YtechjmckfedblaaRegH
namespace Go.Proofs.Ytechjmckfedblaa
set_option maxRecDepth 100000
open Go.RowKit

set_option maxHeartbeats 4000000 in
theorem SpaceOkI_any (p r c : Int) (t : Value) (D : List Int) (w : World) (ht : Ints w t D) (hp : p ≤ 9223372036854775807) : Calls Try.prog 98 #[.agg #[.int .i64 p, .int .i64 r, .int .i64 c, t]] w (RetBool w (spaceOk p r c D)) := by
  have h1 := ((St.start w).arg ht).box [.int .i64 p, .int .i64 r, .int .i64 c, t] 32
  obtain ⟨A, k, rfl, _, _, _⟩ := id ht
  clear ht
  by_cases b0 : matOk p r c D = true
  · obtain ⟨a, b, rfl, rfl, k1, k2, kD, kR, k4, k5, k6⟩ := matOk_spec b0
    have hab := mul_le k1 k2
    obtain ⟨R, hR⟩ : ∃ R, R = spaceOk p a b D := ⟨_, rfl⟩
    rw [← hR]
    have hWr := Wf_rowsM (p := p) (by omega) (r := a) (c := b) kR
    have hSW := hWr.spanL k6
    have hle := spanL_le k6 hWr
    rw [length_rowsM] at hle
    have hle2 := Nat.mul_le_mul_right b hle
    have hM := fun (W : World) (v : Value) (hi : IntRows W v (spanL p b (rowsM a b D))) => matrixOf_any p b v (spanL p b (rowsM a b D)) W hi (by rw [total_wf hSW]; omega)
    rw [show (spanL p b (rowsM a b D)).flatten = spanM p b (rowsM a b D) from (flat_flatten hSW).symm] at hM
    have hS := fun (W : World) (v : Value) (hi : IntRows W v (rowsM a b D)) => span_any p b v (rowsM a b D) W hi hWr (by rw [length_rowsM]; omega) (by omega) k6
    have hQ := fun (W : World) (hi : Ints W (.slice A D.length k) D) => rowsOf_any p a b _ D W hi kD (by omega) (by omega)
    obtain ⟨Q, hQe⟩ : ∃ Q, Q = spanL p b (rowsM a b D) := ⟨_, rfl⟩
    obtain ⟨E, hE⟩ : ∃ E, E = spanM p b (rowsM a b D) := ⟨_, rfl⟩
    have HR : Hid (R = decide (E = D ∧ Q.length = a)) := by
      show _ = _
      rw [hR, spaceOk, b0, Bool.true_and, Int.toNat_natCast, Int.toNat_natCast, ← hQe, ← hE]
    rw [← hQe] at hM hS
    rw [← hE] at hM
    have HM := Lib.hid hM
    have HS := Lib.hid hS
    have HQ := Lib.hid hQ
    have HA := Lib.hid (fun W (hi : Ints W (.slice A D.length k) D) => b0 ▸ MatrixOkI_any p a b _ D W hi hp)
    clear hM hS hQ hR b0 kD kR k4 k5 k6 hQe hE hab k1 k2 hWr hSW hle hle2
    obtain ⟨z0, z1, z2, z3⟩ := h1.box4 0 rfl
    have tk1 : True := trivial
    have tk2 : True := trivial
    by_cases he : E = D
    · have HEq := Lib.hid (fun W (v u : Value) (hv : Ints W v E) (hu : Ints W u D) => (decide_eq_true he) ▸ Equal_any v u E D W hv hu)
      go_enter Try.func98, Try.ntmps98
      go_wp2
      go_region_held3 (fun w' => w'.cell? ⟨w.heap.size, 0, none⟩ = some (.int .i64 p) ∧ w'.cell? ⟨w.heap.size, 1, none⟩ = some (.int .i64 a) ∧ w'.cell? ⟨w.heap.size, 2, none⟩ = some (.int .i64 b) ∧ w'.cell? ⟨w.heap.size, 3, none⟩ = some (.slice A D.length k))
        (first | exact ⟨z0, z1, z2, z3⟩ | exact ⟨za0, za1, za2, za3⟩ | exact ⟨zb0, zb1, zb2, zb3⟩ | exact ⟨zc0, zc1, zc2, zc3⟩ | exact ⟨zd0, zd1, zd2, zd3⟩ | exact ⟨ze0, ze1, ze2, ze3⟩ | exact ⟨zf0, zf1, zf2, zf3⟩ | exact ⟨zg0, zg1, zg2, zg3⟩)
        (first
          | (go_at_call 72; refine (HA.out _ ?_).mono ?_; exact h1.drew.roInts 1 rfl; rintro (e : Ending) w1 ⟨rfl, hb1⟩; have h2 := h1.drew.on hb1; obtain ⟨za0, za1, za2, za3⟩ := h2.box4 0 rfl)
          | (go_at_call 73; have _t := tk1; refine (HQ.out _ (h2.roInts 1 rfl)).mono ?_; rintro (e : Ending) w2 ⟨u, us2, rfl, hul2, hok2, hnd2, hb2⟩; have h3 := h2.pushRows hb2 hok2 hnd2; obtain ⟨zb0, zb1, zb2, zb3⟩ := h3.box4 1 rfl; clear tk1 _t)
          | (go_at_call 138; have _t := tk2; refine (HS.out _ _ (h3.rowsR 0 rfl hul2)).mono ?_; rintro (e : Ending) w3 ⟨u, us3, rfl, hul3, hok3, hnd3, hb3⟩; have h4 := h3.pushRows hb3 hok3 hnd3; obtain ⟨zc0, zc1, zc2, zc3⟩ := h4.box4 2 rfl; clear tk2 _t)
          | (go_at_call 112; refine (HM.out _ _ (h4.rowsR 0 rfl hul3)).mono ?_; rintro (e : Ending) w4 ⟨u, rfl, ho4, hb4⟩; obtain ⟨A5, n5, c5, rfl⟩ := ho4.slice; have hfd := fieldM3 p Q.length b A5 n5 c5; have h5 := h4.pushOwn hb4 ho4; obtain ⟨zd0, zd1, zd2, zd3⟩ := h5.box4 3 rfl)
          | (go_at_call 108; refine (HEq.out _ _ _ (h5.ownInts 0 rfl) (h5.roInts 4 rfl)).mono ?_; rintro (e : Ending) w5 ⟨rfl, nd, rfl⟩; have h6 := h5.drewN nd; obtain ⟨ze0, ze1, ze2, ze3⟩ := h6.box4 3 rfl)
          | (go_at_call 73; refine (HQ.out _ (h6.roInts 4 rfl)).mono ?_; rintro (e : Ending) w6 ⟨u, us6, rfl, hul6, hok6, hnd6, hb6⟩; have h7 := h6.pushRows hb6 hok6 hnd6; obtain ⟨zf0, zf1, zf2, zf3⟩ := h7.box4 4 rfl)
          | (go_at_call 138; refine (HS.out _ _ (h7.rowsR 0 rfl hul6)).mono ?_; rintro (e : Ending) w7 ⟨u, us7, rfl, hul7, hok7, hnd7, hb7⟩; obtain ⟨A7, c7, rfl, _, _, _⟩ := id (It.rows hok7 hul7); have h8 := h7.pushRows hb7 hok7 hnd7; obtain ⟨zg0, zg1, zg2, zg3⟩ := h8.box4 5 rfl))
      go_wp2
      go_ret
      exact ⟨ret_bool (by rw [HR.out]; by_cases e : Q.length = a <;> simp [e, he]; try omega), h8.below⟩
    · have HEq := Lib.hid (fun W (v u : Value) (hv : Ints W v E) (hu : Ints W u D) => show Calls Try.prog 108 #[v, u] W (fun e w' => e = .returned (.bool false) ∧ ∃ n, w' = W.drewN n) by have := Equal_any v u E D W hv hu; rwa [decide_eq_false he] at this)
      have HF := Lib.hid (show R = false by rw [HR.out]; simp [he])
      go_enter Try.func98, Try.ntmps98
      go_wp2
      refine wp_region_held_drew (S := fun w' => w'.cell? ⟨w.heap.size, 0, none⟩ = some (.int .i64 p) ∧ w'.cell? ⟨w.heap.size, 1, none⟩ = some (.int .i64 a) ∧ w'.cell? ⟨w.heap.size, 2, none⟩ = some (.int .i64 b) ∧ w'.cell? ⟨w.heap.size, 3, none⟩ = some (.slice A D.length k)) (by kernel_rfl) (h1.drew.box4 0 rfl) (fun hHeld => ?_)
      have g1 := h1.drew
      refine anyH_take (v := ?_) 0 rfl (by kernel_rfl) (by kernel_rfl) (by kernel_rfl) (fun _ _ _ h => h) rfl ?_ hHeld ?_
      rotate_left
      · intro w' hSw
        go_simp
        try with_reducible rfl
      try simp only [Act.put, List.setIfInBounds_toArray, List.set_cons_zero, List.set_cons_succ]
      refine wpAnyH_ready (rs := [1]) (by kernel_rfl) (by simp) ?_
      refine ready_cons rfl (fun K hK => ?_) AllReadyH.nil
      go_simp
      refine (HA.out _ (g1.roInts 1 rfl)).mono ?_
      rintro (e : Ending) w1 ⟨rfl, hb1⟩
      have h2 := g1.on hb1
      show K _ _
      refine hK.out _ _ ?_ (fun hHeld => ?_)
      · exact h2.box4 0 rfl
      clear hK K
      try simp only [Act.put, List.setIfInBounds_toArray, List.set_cons_zero, List.set_cons_succ]
      refine anyH_take (v := ?_) 2 rfl (by kernel_rfl) (by kernel_rfl) (by kernel_rfl) (fun _ _ _ h => h) rfl ?_ hHeld ?_
      rotate_left
      · intro w' hSw
        go_simp
        try with_reducible rfl
      try simp only [Act.put, List.setIfInBounds_toArray, List.set_cons_zero, List.set_cons_succ]
      refine anyH_take (v := ?_) 3 rfl (by kernel_rfl) (by kernel_rfl) (by kernel_rfl) (fun _ _ _ h => h) rfl ?_ hHeld ?_
      rotate_left
      · intro w' hSw
        go_simp
        try with_reducible rfl
      try simp only [Act.put, List.setIfInBounds_toArray, List.set_cons_zero, List.set_cons_succ]
      refine anyH_take (v := ?_) 4 rfl (by kernel_rfl) (by kernel_rfl) (by kernel_rfl) (fun _ _ _ h => h) rfl ?_ hHeld ?_
      rotate_left
      · intro w' hSw
        go_simp
        try with_reducible rfl
      try simp only [Act.put, List.setIfInBounds_toArray, List.set_cons_zero, List.set_cons_succ]
      refine anyH_take (v := ?_) 5 rfl (by kernel_rfl) (by kernel_rfl) (by kernel_rfl) (fun _ _ _ h => h) rfl ?_ hHeld ?_
      rotate_left
      · intro w' hSw
        go_simp
        try with_reducible rfl
      try simp only [Act.put, List.setIfInBounds_toArray, List.set_cons_zero, List.set_cons_succ]
      refine anyH_take (v := ?_) 6 rfl (by kernel_rfl) (by kernel_rfl) (by kernel_rfl) (fun _ _ _ h => h) rfl ?_ hHeld ?_
      rotate_left
      · intro w' hSw
        go_simp
        try with_reducible rfl
      try simp only [Act.put, List.setIfInBounds_toArray, List.set_cons_zero, List.set_cons_succ]
      refine anyH_take (v := ?_) 7 rfl (by kernel_rfl) (by kernel_rfl) (by kernel_rfl) (fun _ _ _ h => h) rfl ?_ hHeld ?_
      rotate_left
      · intro w' hSw
        go_simp
        try with_reducible rfl
      try simp only [Act.put, List.setIfInBounds_toArray, List.set_cons_zero, List.set_cons_succ]
      refine anyH_take (v := ?_) 9 rfl (by kernel_rfl) (by kernel_rfl) (by kernel_rfl) (fun _ _ _ h => h) rfl ?_ hHeld ?_
      rotate_left
      · intro w' hSw
        go_simp
        try with_reducible rfl
      try simp only [Act.put, List.setIfInBounds_toArray, List.set_cons_zero, List.set_cons_succ]
      refine anyH_take (v := ?_) 10 rfl (by kernel_rfl) (by kernel_rfl) (by kernel_rfl) (fun _ _ _ h => h) rfl ?_ hHeld ?_
      rotate_left
      · intro w' hSw
        go_simp
        try with_reducible rfl
      try simp only [Act.put, List.setIfInBounds_toArray, List.set_cons_zero, List.set_cons_succ]
      refine anyH_take (v := ?_) 11 rfl (by kernel_rfl) (by kernel_rfl) (by kernel_rfl) (fun _ _ _ h => h) rfl ?_ hHeld ?_
      rotate_left
      · intro w' hSw
        go_simp
        try with_reducible rfl
      try simp only [Act.put, List.setIfInBounds_toArray, List.set_cons_zero, List.set_cons_succ]
      refine anyH_take (v := ?_) 12 rfl (by kernel_rfl) (by kernel_rfl) (by kernel_rfl) (fun _ _ _ h => h) rfl ?_ hHeld ?_
      rotate_left
      · intro w' hSw
        go_simp
        try with_reducible rfl
      try simp only [Act.put, List.setIfInBounds_toArray, List.set_cons_zero, List.set_cons_succ]
      refine anyH_take (v := ?_) 16 rfl (by kernel_rfl) (by kernel_rfl) (by kernel_rfl) (fun _ _ _ h => h) rfl ?_ hHeld ?_
      rotate_left
      · intro w' hSw
        go_simp
        try with_reducible rfl
      try simp only [Act.put, List.setIfInBounds_toArray, List.set_cons_zero, List.set_cons_succ]
      refine anyH_take (v := ?_) 17 rfl (by kernel_rfl) (by kernel_rfl) (by kernel_rfl) (fun _ _ _ h => h) rfl ?_ hHeld ?_
      rotate_left
      · intro w' hSw
        go_simp
        try with_reducible rfl
      try simp only [Act.put, List.setIfInBounds_toArray, List.set_cons_zero, List.set_cons_succ]
      refine wpAnyH_ready (rs := [8]) (by kernel_rfl) (by simp) ?_
      refine ready_cons rfl (fun K hK => ?_) AllReadyH.nil
      go_simp
      refine (HQ.out _ (h2.roInts 1 rfl)).mono ?_
      rintro (e : Ending) w2 ⟨u, us2, rfl, hul2, hok2, hnd2, hb2⟩
      have h3 := h2.pushRows hb2 hok2 hnd2
      show K _ _
      refine hK.out _ _ ?_ (fun hHeld => ?_)
      · exact h3.box4 1 rfl
      clear hK K
      try simp only [Act.put, List.setIfInBounds_toArray, List.set_cons_zero, List.set_cons_succ]
      refine wpAnyH_ready (rs := [13]) (by kernel_rfl) (by simp) ?_
      refine ready_cons rfl (fun K hK => ?_) AllReadyH.nil
      go_simp
      refine (HS.out _ _ (h3.rowsR 0 rfl hul2)).mono ?_
      rintro (e : Ending) w3 ⟨u3, us3, rfl, hul3, hok3, hnd3, hb3⟩
      have h4 := h3.pushRows hb3 hok3 hnd3
      show K _ _
      refine hK.out _ _ ?_ (fun hHeld => ?_)
      · exact h4.box4 2 rfl
      clear hK K
      try simp only [Act.put, List.setIfInBounds_toArray, List.set_cons_zero, List.set_cons_succ]
      refine wpAnyH_ready (rs := [14]) (by kernel_rfl) (by simp) ?_
      refine ready_cons rfl (fun K hK => ?_) AllReadyH.nil
      go_simp
      refine (HM.out _ _ (h4.rowsR 0 rfl hul3)).mono ?_
      rintro (e : Ending) w4 ⟨u4, rfl, ho4, hb4⟩
      obtain ⟨A5, n5, c5, rfl⟩ := ho4.slice
      have hfd := fieldM3 p Q.length b A5 n5 c5
      have h5 := h4.pushOwn hb4 ho4
      show K _ _
      refine hK.out _ _ ?_ (fun hHeld => ?_)
      · exact h5.box4 3 rfl
      clear hK K
      try simp only [Act.put, List.setIfInBounds_toArray, List.set_cons_zero, List.set_cons_succ]
      refine anyH_take (v := ?_) 15 rfl (by kernel_rfl) (by kernel_rfl) (by kernel_rfl) (fun _ _ _ h => h) rfl ?_ hHeld ?_
      rotate_left
      · intro w' hSw
        go_simp
        try with_reducible rfl
      try simp only [Act.put, List.setIfInBounds_toArray, List.set_cons_zero, List.set_cons_succ]
      refine wpAnyH_ready (rs := [18]) (by kernel_rfl) (by simp) ?_
      refine ready_cons rfl (fun K hK => ?_) AllReadyH.nil
      go_simp
      refine (HEq.out _ _ _ (h5.ownInts 0 rfl) (h5.roInts 4 rfl)).mono ?_
      rintro (e : Ending) w5 ⟨rfl, nd, rfl⟩
      have h6 := h5.drewN nd
      show K _ _
      refine hK.out _ _ ?_ (fun hHeld => ?_)
      · exact h6.box4 3 rfl
      clear hK K
      try simp only [Act.put, List.setIfInBounds_toArray, List.set_cons_zero, List.set_cons_succ]
      refine anyH_take (v := ?_) 19 rfl (by kernel_rfl) (by kernel_rfl) (by kernel_rfl) (fun _ _ _ h => h) rfl ?_ hHeld ?_
      rotate_left
      · intro w' hSw
        go_simp
        try with_reducible rfl
      try simp only [Act.put, List.setIfInBounds_toArray, List.set_cons_zero, List.set_cons_succ]
      refine anyH_take (v := ?_) 20 rfl (by kernel_rfl) (by kernel_rfl) (by kernel_rfl) (fun _ _ _ h => h) rfl ?_ hHeld ?_
      rotate_left
      · intro w' hSw
        go_simp
        try with_reducible rfl
      try simp only [Act.put, List.setIfInBounds_toArray, List.set_cons_zero, List.set_cons_succ]
      refine anyH_skip 21 rfl (by kernel_rfl) (by kernel_rfl) (by kernel_rfl) (fun _ _ _ h => h) rfl hHeld ?_
      try simp only [Act.put, List.setIfInBounds_toArray, List.set_cons_zero, List.set_cons_succ]
      refine anyH_skip 22 rfl (by kernel_rfl) (by kernel_rfl) (by kernel_rfl) (fun _ _ _ h => h) rfl hHeld ?_
      try simp only [Act.put, List.setIfInBounds_toArray, List.set_cons_zero, List.set_cons_succ]
      refine anyH_skip 23 rfl (by kernel_rfl) (by kernel_rfl) (by kernel_rfl) (fun _ _ _ h => h) rfl hHeld ?_
      try simp only [Act.put, List.setIfInBounds_toArray, List.set_cons_zero, List.set_cons_succ]
      refine anyH_skip 24 rfl (by kernel_rfl) (by kernel_rfl) (by kernel_rfl) (fun _ _ _ h => h) rfl hHeld ?_
      try simp only [Act.put, List.setIfInBounds_toArray, List.set_cons_zero, List.set_cons_succ]
      refine anyH_skip 25 rfl (by kernel_rfl) (by kernel_rfl) (by kernel_rfl) (fun _ _ _ h => h) rfl hHeld ?_
      try simp only [Act.put, List.setIfInBounds_toArray, List.set_cons_zero, List.set_cons_succ]
      refine anyH_skip 26 rfl (by kernel_rfl) (by kernel_rfl) (by kernel_rfl) (fun _ _ _ h => h) rfl hHeld ?_
      try simp only [Act.put, List.setIfInBounds_toArray, List.set_cons_zero, List.set_cons_succ]
      refine anyH_skip 27 rfl (by kernel_rfl) (by kernel_rfl) (by kernel_rfl) (fun _ _ _ h => h) rfl hHeld ?_
      try simp only [Act.put, List.setIfInBounds_toArray, List.set_cons_zero, List.set_cons_succ]
      refine anyH_skip 28 rfl (by kernel_rfl) (by kernel_rfl) (by kernel_rfl) (fun _ _ _ h => h) rfl hHeld ?_
      try simp only [Act.put, List.setIfInBounds_toArray, List.set_cons_zero, List.set_cons_succ]
      refine anyH_skip 29 rfl (by kernel_rfl) (by kernel_rfl) (by kernel_rfl) (fun _ _ _ h => h) rfl hHeld ?_
      try simp only [Act.put, List.setIfInBounds_toArray, List.set_cons_zero, List.set_cons_succ]
      refine anyH_skip 30 rfl (by kernel_rfl) (by kernel_rfl) (by kernel_rfl) (fun _ _ _ h => h) rfl hHeld ?_
      try simp only [Act.put, List.setIfInBounds_toArray, List.set_cons_zero, List.set_cons_succ]
      refine anyH_skip 31 rfl (by kernel_rfl) (by kernel_rfl) (by kernel_rfl) (fun _ _ _ h => h) rfl hHeld ?_
      try simp only [Act.put, List.setIfInBounds_toArray, List.set_cons_zero, List.set_cons_succ]
      refine anyH_take (v := ?_) 32 rfl (by kernel_rfl) (by kernel_rfl) (by kernel_rfl) (fun _ _ _ h => h) rfl ?_ hHeld ?_
      rotate_left
      · intro w' hSw
        go_simp
        try with_reducible rfl
      try simp only [Act.put, List.setIfInBounds_toArray, List.set_cons_zero, List.set_cons_succ]
      refine anyH_take (v := ?_) 33 rfl (by kernel_rfl) (by kernel_rfl) (by kernel_rfl) (fun _ _ _ h => h) rfl ?_ hHeld ?_
      rotate_left
      · intro w' hSw
        go_simp
        try with_reducible rfl
      try simp only [Act.put, List.setIfInBounds_toArray, List.set_cons_zero, List.set_cons_succ]
      refine wpAnyH_done (by kernel_rfl) ?_ _
      go_wp2
      go_ret
      exact ⟨ret_bool HF.out.symm, h6.below⟩
  · have b0 : matOk p r c D = false := by simpa using b0
    have HA := Lib.hid (show ∀ W, Ints W (.slice A D.length k) D → Calls Try.prog 72 #[.agg #[.int .i64 p, .int .i64 r, .int .i64 c, .slice A D.length k]] W (RetBool W false) from fun W hi => by have := MatrixOkI_any p r c _ D W hi hp; rwa [b0] at this)
    rw [show spaceOk p r c D = false by rw [spaceOk, b0, Bool.false_and]]
    clear b0
    obtain ⟨z0, z1, z2, z3⟩ := h1.box4 0 rfl
    go_enter Try.func98, Try.ntmps98
    go_wp2
    refine wp_region_held_drew (S := fun w' => w'.cell? ⟨w.heap.size, 0, none⟩ = some (.int .i64 p) ∧ w'.cell? ⟨w.heap.size, 1, none⟩ = some (.int .i64 r) ∧ w'.cell? ⟨w.heap.size, 2, none⟩ = some (.int .i64 c) ∧ w'.cell? ⟨w.heap.size, 3, none⟩ = some (.slice A D.length k)) (by kernel_rfl) (h1.drew.box4 0 rfl) (fun hHeld => ?_)
    have g1 := h1.drew
    refine anyH_take (v := ?_) 0 rfl (by kernel_rfl) (by kernel_rfl) (by kernel_rfl) (fun _ _ _ h => h) rfl ?_ hHeld ?_
    rotate_left
    · intro w' hSw
      go_simp
      try with_reducible rfl
    try simp only [Act.put, List.setIfInBounds_toArray, List.set_cons_zero, List.set_cons_succ]
    refine wpAnyH_ready (rs := [1]) (by kernel_rfl) (by simp) ?_
    refine ready_cons rfl (fun K hK => ?_) AllReadyH.nil
    go_simp
    refine (HA.out _ (g1.roInts 1 rfl)).mono ?_
    rintro (e : Ending) w1 ⟨rfl, hb1⟩
    have h2 := g1.on hb1
    show K _ _
    refine hK.out _ _ ?_ (fun hHeld => ?_)
    · exact h2.box4 0 rfl
    clear hK K
    try simp only [Act.put, List.setIfInBounds_toArray, List.set_cons_zero, List.set_cons_succ]
    refine anyH_take (v := ?_) 2 rfl (by kernel_rfl) (by kernel_rfl) (by kernel_rfl) (fun _ _ _ h => h) rfl ?_ hHeld ?_
    rotate_left
    · intro w' hSw
      go_simp
      try with_reducible rfl
    try simp only [Act.put, List.setIfInBounds_toArray, List.set_cons_zero, List.set_cons_succ]
    refine anyH_skip 3 rfl (by kernel_rfl) (by kernel_rfl) (by kernel_rfl) (fun _ _ _ h => h) rfl hHeld ?_
    try simp only [Act.put, List.setIfInBounds_toArray, List.set_cons_zero, List.set_cons_succ]
    refine anyH_skip 4 rfl (by kernel_rfl) (by kernel_rfl) (by kernel_rfl) (fun _ _ _ h => h) rfl hHeld ?_
    try simp only [Act.put, List.setIfInBounds_toArray, List.set_cons_zero, List.set_cons_succ]
    refine anyH_skip 5 rfl (by kernel_rfl) (by kernel_rfl) (by kernel_rfl) (fun _ _ _ h => h) rfl hHeld ?_
    try simp only [Act.put, List.setIfInBounds_toArray, List.set_cons_zero, List.set_cons_succ]
    refine anyH_skip 6 rfl (by kernel_rfl) (by kernel_rfl) (by kernel_rfl) (fun _ _ _ h => h) rfl hHeld ?_
    try simp only [Act.put, List.setIfInBounds_toArray, List.set_cons_zero, List.set_cons_succ]
    refine anyH_skip 7 rfl (by kernel_rfl) (by kernel_rfl) (by kernel_rfl) (fun _ _ _ h => h) rfl hHeld ?_
    try simp only [Act.put, List.setIfInBounds_toArray, List.set_cons_zero, List.set_cons_succ]
    refine anyH_skip 8 rfl (by kernel_rfl) (by kernel_rfl) (by kernel_rfl) (fun _ _ _ h => h) rfl hHeld ?_
    try simp only [Act.put, List.setIfInBounds_toArray, List.set_cons_zero, List.set_cons_succ]
    refine anyH_skip 9 rfl (by kernel_rfl) (by kernel_rfl) (by kernel_rfl) (fun _ _ _ h => h) rfl hHeld ?_
    try simp only [Act.put, List.setIfInBounds_toArray, List.set_cons_zero, List.set_cons_succ]
    refine anyH_skip 10 rfl (by kernel_rfl) (by kernel_rfl) (by kernel_rfl) (fun _ _ _ h => h) rfl hHeld ?_
    try simp only [Act.put, List.setIfInBounds_toArray, List.set_cons_zero, List.set_cons_succ]
    refine anyH_skip 11 rfl (by kernel_rfl) (by kernel_rfl) (by kernel_rfl) (fun _ _ _ h => h) rfl hHeld ?_
    try simp only [Act.put, List.setIfInBounds_toArray, List.set_cons_zero, List.set_cons_succ]
    refine anyH_skip 12 rfl (by kernel_rfl) (by kernel_rfl) (by kernel_rfl) (fun _ _ _ h => h) rfl hHeld ?_
    try simp only [Act.put, List.setIfInBounds_toArray, List.set_cons_zero, List.set_cons_succ]
    refine anyH_skip 13 rfl (by kernel_rfl) (by kernel_rfl) (by kernel_rfl) (fun _ _ _ h => h) rfl hHeld ?_
    try simp only [Act.put, List.setIfInBounds_toArray, List.set_cons_zero, List.set_cons_succ]
    refine anyH_skip 14 rfl (by kernel_rfl) (by kernel_rfl) (by kernel_rfl) (fun _ _ _ h => h) rfl hHeld ?_
    try simp only [Act.put, List.setIfInBounds_toArray, List.set_cons_zero, List.set_cons_succ]
    refine anyH_skip 15 rfl (by kernel_rfl) (by kernel_rfl) (by kernel_rfl) (fun _ _ _ h => h) rfl hHeld ?_
    try simp only [Act.put, List.setIfInBounds_toArray, List.set_cons_zero, List.set_cons_succ]
    refine anyH_skip 16 rfl (by kernel_rfl) (by kernel_rfl) (by kernel_rfl) (fun _ _ _ h => h) rfl hHeld ?_
    try simp only [Act.put, List.setIfInBounds_toArray, List.set_cons_zero, List.set_cons_succ]
    refine anyH_skip 17 rfl (by kernel_rfl) (by kernel_rfl) (by kernel_rfl) (fun _ _ _ h => h) rfl hHeld ?_
    try simp only [Act.put, List.setIfInBounds_toArray, List.set_cons_zero, List.set_cons_succ]
    refine anyH_skip 18 rfl (by kernel_rfl) (by kernel_rfl) (by kernel_rfl) (fun _ _ _ h => h) rfl hHeld ?_
    try simp only [Act.put, List.setIfInBounds_toArray, List.set_cons_zero, List.set_cons_succ]
    refine anyH_take (v := ?_) 19 rfl (by kernel_rfl) (by kernel_rfl) (by kernel_rfl) (fun _ _ _ h => h) rfl ?_ hHeld ?_
    rotate_left
    · intro w' hSw
      go_simp
      try with_reducible rfl
    try simp only [Act.put, List.setIfInBounds_toArray, List.set_cons_zero, List.set_cons_succ]
    refine anyH_take (v := ?_) 20 rfl (by kernel_rfl) (by kernel_rfl) (by kernel_rfl) (fun _ _ _ h => h) rfl ?_ hHeld ?_
    rotate_left
    · intro w' hSw
      go_simp
      try with_reducible rfl
    try simp only [Act.put, List.setIfInBounds_toArray, List.set_cons_zero, List.set_cons_succ]
    refine anyH_skip 21 rfl (by kernel_rfl) (by kernel_rfl) (by kernel_rfl) (fun _ _ _ h => h) rfl hHeld ?_
    try simp only [Act.put, List.setIfInBounds_toArray, List.set_cons_zero, List.set_cons_succ]
    refine anyH_skip 22 rfl (by kernel_rfl) (by kernel_rfl) (by kernel_rfl) (fun _ _ _ h => h) rfl hHeld ?_
    try simp only [Act.put, List.setIfInBounds_toArray, List.set_cons_zero, List.set_cons_succ]
    refine anyH_skip 23 rfl (by kernel_rfl) (by kernel_rfl) (by kernel_rfl) (fun _ _ _ h => h) rfl hHeld ?_
    try simp only [Act.put, List.setIfInBounds_toArray, List.set_cons_zero, List.set_cons_succ]
    refine anyH_skip 24 rfl (by kernel_rfl) (by kernel_rfl) (by kernel_rfl) (fun _ _ _ h => h) rfl hHeld ?_
    try simp only [Act.put, List.setIfInBounds_toArray, List.set_cons_zero, List.set_cons_succ]
    refine anyH_skip 25 rfl (by kernel_rfl) (by kernel_rfl) (by kernel_rfl) (fun _ _ _ h => h) rfl hHeld ?_
    try simp only [Act.put, List.setIfInBounds_toArray, List.set_cons_zero, List.set_cons_succ]
    refine anyH_skip 26 rfl (by kernel_rfl) (by kernel_rfl) (by kernel_rfl) (fun _ _ _ h => h) rfl hHeld ?_
    try simp only [Act.put, List.setIfInBounds_toArray, List.set_cons_zero, List.set_cons_succ]
    refine anyH_skip 27 rfl (by kernel_rfl) (by kernel_rfl) (by kernel_rfl) (fun _ _ _ h => h) rfl hHeld ?_
    try simp only [Act.put, List.setIfInBounds_toArray, List.set_cons_zero, List.set_cons_succ]
    refine anyH_skip 28 rfl (by kernel_rfl) (by kernel_rfl) (by kernel_rfl) (fun _ _ _ h => h) rfl hHeld ?_
    try simp only [Act.put, List.setIfInBounds_toArray, List.set_cons_zero, List.set_cons_succ]
    refine anyH_skip 29 rfl (by kernel_rfl) (by kernel_rfl) (by kernel_rfl) (fun _ _ _ h => h) rfl hHeld ?_
    try simp only [Act.put, List.setIfInBounds_toArray, List.set_cons_zero, List.set_cons_succ]
    refine anyH_skip 30 rfl (by kernel_rfl) (by kernel_rfl) (by kernel_rfl) (fun _ _ _ h => h) rfl hHeld ?_
    try simp only [Act.put, List.setIfInBounds_toArray, List.set_cons_zero, List.set_cons_succ]
    refine anyH_skip 31 rfl (by kernel_rfl) (by kernel_rfl) (by kernel_rfl) (fun _ _ _ h => h) rfl hHeld ?_
    try simp only [Act.put, List.setIfInBounds_toArray, List.set_cons_zero, List.set_cons_succ]
    refine anyH_take (v := ?_) 32 rfl (by kernel_rfl) (by kernel_rfl) (by kernel_rfl) (fun _ _ _ h => h) rfl ?_ hHeld ?_
    rotate_left
    · intro w' hSw
      go_simp
      try with_reducible rfl
    try simp only [Act.put, List.setIfInBounds_toArray, List.set_cons_zero, List.set_cons_succ]
    refine anyH_take (v := ?_) 33 rfl (by kernel_rfl) (by kernel_rfl) (by kernel_rfl) (fun _ _ _ h => h) rfl ?_ hHeld ?_
    rotate_left
    · intro w' hSw
      go_simp
      try with_reducible rfl
    try simp only [Act.put, List.setIfInBounds_toArray, List.set_cons_zero, List.set_cons_succ]
    refine wpAnyH_done (by kernel_rfl) ?_ _
    go_wp2
    go_ret
    exact ⟨rfl, h2.below⟩
end Go.Proofs.Ytechjmckfedblaa
