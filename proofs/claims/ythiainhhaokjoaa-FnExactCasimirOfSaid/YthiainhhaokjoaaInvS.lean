/- The inverse of a square matrix, in the reference: l1Invert. -/
import Derived.Test.YthiainhhaokjoaaInvP
import Derived.Test.YthiainhhaokjoaaTraP
import Derived.Test.YthiainhhaokjoaaAut
namespace Go.Proofs.Ythiainhhaokjoaa
set_option maxRecDepth 100000
open Go.RowKit

/-- The matrix with the unit matrix beside it. -/
def augG (n : Nat) (D : List Int) (a b : Nat) : Int := if b < n then Go.Proofs.Ythiainhhaokjoaa.vec D (a * n + b) else if b = n + a then 1 else 0
theorem augG_flat {n : Nat} {D : List Int} : filD n (n + n) (augG n D) = flat (n + n) (besL (rowsM n n D)) := by
  refine list_ext (by rw [length_filD, length_flat, length_besL, length_rowsM]) fun q hq => ?_
  rw [length_filD] at hq
  have hc := col_pos hq
  have h1 : q / (n + n) < n := (Nat.div_lt_iff_lt_mul hc).2 hq
  have h2 := Nat.mod_lt q hc
  have e : q = q / (n + n) * (n + n) + q % (n + n) := by rw [Nat.mul_comm]; exact (Nat.div_add_mod q (n + n)).symm
  obtain ⟨a, ha⟩ : ∃ a, a = q / (n + n) := ⟨_, rfl⟩
  obtain ⟨b, hb⟩ : ∃ b, b = q % (n + n) := ⟨_, rfl⟩
  rw [← ha, ← hb] at e
  rw [← ha] at h1
  rw [← hb] at h2
  rw [e, vec_filD h1 h2, vec_flat (by rw [length_besL, length_rowsM]; exact h1) h2, rowOf_besL (by rw [length_rowsM]; exact h1), besR, rowOf_rowsM h1, length_rowsM, augG]
  by_cases h : b < n
  · rw [if_pos h, vec_app_left (by rw [length_rowM]; exact h), rowM, vec_tab h]
  · rw [if_neg h, show b = (rowM n D a).length + (b - n) by rw [length_rowM]; omega, vec_app_right, unitL, vec_tab (by omega), length_rowM]
    by_cases h3 : n + (b - n) = n + a
    · rw [if_pos h3, if_pos (by omega)]
    · rw [if_neg h3, if_neg (by omega)]
theorem resid_augG {p : Int} (hp : 2 ≤ p) {n : Nat} {D : List Int} (rD : resid p D = true) : resid p (filD n (n + n) (augG n D)) = true := resid_tab fun q _ => by
  unfold augG
  split
  · exact resid_vec' rD (by omega) _
  · split <;> omega
theorem rowsM_aug {p : Int} (hp : 2 ≤ p) {n : Nat} {D : List Int} (rD : resid p D = true) : rowsM n (n + n) (filD n (n + n) (augG n D)) = besL (rowsM n n D) := by
  have hW := Wf_besL (n := n) hp (Wf_rowsM (r := n) (c := n) (by omega : 0 < p) rD)
  have := rowsM_flat hW
  rw [length_besL, length_rowsM] at this
  rw [augG_flat]; exact this
/-- What stands beside the reduced matrix. -/
theorem inv_fil {p : Int} (hP : isPrime p = true) {n : Nat} {D : List Int} (rD : resid p D = true) (hr : rankL p n (rowsM n n D) = n) : filD n n (fun i j => Go.Proofs.Ythiainhhaokjoaa.vec (flat (n + n) (reduceL p (n + n) (besL (rowsM n n D))).1) (i * (n + n) + (n + j))) = flat n (invTo p n (rowsM n n D) n) := by
  have hp := (isPrime_bd hP).1
  have hS : Wf p n (rowsM n n D) := Wf_rowsM (r := n) (by omega : 0 < p) rD
  have hl := length_rowsM n n D
  have hR := (reduceL_ok (by omega : 0 < p) (Wf_besL hp hS)).len
  rw [length_besL, hl] at hR
  refine list_ext (by rw [length_filD, length_flat, length_invTo]) fun q hq => ?_
  rw [length_filD] at hq
  have hc := col_pos hq
  have h1 : q / n < n := (Nat.div_lt_iff_lt_mul hc).2 hq
  have h2 := Nat.mod_lt q hc
  have e : q = q / n * n + q % n := by rw [Nat.mul_comm]; exact (Nat.div_add_mod q n).symm
  obtain ⟨a, ha⟩ : ∃ a, a = q / n := ⟨_, rfl⟩
  obtain ⟨b, hb⟩ : ∃ b, b = q % n := ⟨_, rfl⟩
  rw [← ha, ← hb] at e
  rw [← ha] at h1
  rw [← hb] at h2
  rw [e, vec_filD h1 h2, vec_flat (by rw [length_invTo]; exact h1) h2, vec_flat (by rw [hR]; exact h1) (by omega)]
  rw [show rowOf (invTo p n (rowsM n n D) n) a = cooL p n (rowsM n n D) (unitL n a) by simp [rowOf, invTo, List.getD_eq_getElem?_getD, h1]]
  rw [invTo_bess hP hS hl hr h1, bessE, vec_drop, hl]

set_option maxHeartbeats 4000000 in
theorem l1Invert_any (p : Int) (n : Nat) (t : Value) (D : List Int) (w : World) (ht : Ints w t D) (hM : matOk p n n D = true) :
    Calls Try.prog 88 #[.agg #[.int .i64 p, .int .i64 n, .int .i64 n, t]] w
      (if rankL p n (rowsM n n D) = n then RetMatB w p n n (flat n (invTo p n (rowsM n n D) n)) true else RetMatB w 0 0 0 [] false) := by
  obtain ⟨a, b, ea, eb, k1, k2, kD, rD, hp, hp', hP⟩ := matOk_spec hM
  obtain rfl : n = a := by omega
  obtain rfl : n = b := by omega
  clear ea eb k2
  have h1 := ((St.start1 ht).box [.int .i64 p, .int .i64 n, .int .i64 n, t] 40).box [.int .i64 0, .int .i64 0, .int .i64 0, .slice none 0 0] 40
  simp only [World.size_alloc] at h1
  obtain ⟨A, k0, rfl, _, _, _⟩ := id ht
  have hnn := mul_le k1 (show n + n ≤ 80 by omega)
  have hn2 := mul_le k1 k1
  have HZ := Lib.hid (fun W => l1Zero_any p n (n + n) W (by omega))
  have HZ2 := Lib.hid (fun W => l1Zero_any p n n W (by omega))
  have HA := Lib.hid (fun (W : World) (i j : Nat) (hi : i < n) (hj : j < n) (x1 : Ints W (.slice A D.length k0) D) => l1At_any p n n _ D i j W x1 kD (by omega) hi hj)
  have hRd := fun (W : World) (v : Value) (x1 : Ints W v (filD n (n + n) (augG n D))) => l1Reduce_any p n (n + n) v _ W x1 (length_filD _ _ _) (by omega) (by omega) (by omega) hP (resid_augG hp rD)
  rw [rowsM_aug hp rD] at hRd
  have hS : Wf p n (rowsM n n D) := Wf_rowsM (r := n) (by omega : 0 < p) rD
  have hl := length_rowsM n n D
  have hpl : (pivL p (n + n) (besL (rowsM n n D))).length = n := by have := bes_piv hP hS; rwa [hl] at this
  have hlast := fun h0 => bes_last hP hS hl h0
  have hInv := inv_fil (n := n) hP rD
  have hRok := reduceL_ok (by omega : 0 < p) (Wf_besL hp hS)
  have hRl := hRok.len
  have hpv : ∀ i, i < n → pv (pivL p (n + n) (besL (rowsM n n D))) i < n + n := fun i hi => by
    have := (spanL_rf hP (Wf_besL hp hS)).lt i
    rw [hl] at this
    exact this (by rw [hpl]; exact hi)
  rw [length_besL, hl] at hRl
  obtain ⟨Rd, hRde⟩ : ∃ Rd, Rd = (reduceL p (n + n) (besL (rowsM n n D))).1 := ⟨_, rfl⟩
  obtain ⟨piv, hpe⟩ : ∃ piv, piv = pivL p (n + n) (besL (rowsM n n D)) := ⟨_, rfl⟩
  have hpe2 : (reduceL p (n + n) (besL (rowsM n n D))).2 = piv := hpe.symm
  rw [hpe2, ← hRde] at hRd
  rw [← hpe] at hpl hlast hpv
  rw [← hRde] at hInv
  rw [← hRde] at hRl
  have hAt2 := fun (W : World) (v : Value) (i j : Nat) (hi : i < n) (hj : j < n) (x1 : Ints W v (flat (n + n) Rd)) => l1At_any p n (n + n) v (flat (n + n) Rd) i (n + j) W x1 (by rw [length_flat, hRl]) (by omega) hi (by omega)
  obtain ⟨G2, hG2⟩ : ∃ G2 : Nat → Nat → Int, G2 = fun i j => Go.Proofs.Ythiainhhaokjoaa.vec (flat (n + n) Rd) (i * (n + n) + (n + j)) := ⟨_, rfl⟩
  have hG3 : ∀ i j, Go.Proofs.Ythiainhhaokjoaa.vec (flat (n + n) Rd) (i * (n + n) + (n + j)) = G2 i j := fun i j => by rw [hG2]
  simp only [hG3] at hAt2 hInv
  have hG1 : ∀ i j, j < n → augG n D i j = Go.Proofs.Ythiainhhaokjoaa.vec D (i * n + j) := fun i j hj => by rw [augG, if_pos hj]
  have hG0 : ∀ i b, n ≤ b → b ≠ n + i → augG n D i b = 0 := fun i b h1 h2 => by rw [augG, if_neg (by omega), if_neg h2]
  have hGo : ∀ i, augG n D i (n + i) = 1 := fun i => by rw [augG, if_neg (by omega), if_pos rfl]
  obtain ⟨Gn, hGn⟩ : ∃ Gn, Gn = augG n D := ⟨_, rfl⟩
  rw [← hGn] at hRd hG1 hG0 hGo
  obtain ⟨r, hr⟩ : ∃ r, r = rankL p n (rowsM n n D) := ⟨_, rfl⟩
  obtain ⟨X, hX⟩ : ∃ X, X = flat n (invTo p n (rowsM n n D) n) := ⟨_, rfl⟩
  rw [← hr, ← hX]
  rw [← hr] at hlast hInv
  rw [← hX] at hInv
  obtain ⟨c2, hc2⟩ : ∃ c2, c2 = n + n := ⟨_, rfl⟩
  rw [← hc2] at hRd hAt2 hpv
  have HRd := Lib.hid hRd
  have HAt2 := Lib.hid hAt2
  have HPl := Lib.hid hpl
  have HLast := Lib.hid hlast
  have HInv := Lib.hid hInv
  have HG1 := Lib.hid hG1
  have HG0 := Lib.hid hG0
  have HGo := Lib.hid hGo
  have HPv := Lib.hid hpv
  have Hc2 := Lib.hid hc2
  rw [← hc2] at HZ
  have e2 : (2 : Int) * (n : Int) = (c2 : Int) := by omega
  have wc : IntKind.i64.wrap (c2 : Int) = c2 := wrap_ok (by omega) (by omega)
  have c80 : c2 ≤ 80 := by omega
  obtain ⟨Po, hPo⟩ : ∃ Po : Ending → World → Prop, Po = (if r = n then RetMatB w p n n X true else RetMatB w 0 0 0 [] false) := ⟨_, rfl⟩
  rw [← hPo]
  have HPo := Lib.hid hPo
  have hr0 : n = 0 → r = n := fun h => by rw [hr]; have := rankL_le hP hS; omega
  have Hr0 := Lib.hid hr0
  clear ht hM kD rD hP hnn hn2 hRd hS hl hpl hlast hInv hRok hRl hpv hRde hpe hpe2 hAt2 hG2 hG3 hG1 hG0 hGo hGn hr hX hPo hr0 hc2
  obtain ⟨z0, z1, z2, z3⟩ := h1.box4 1 rfl
  go_enter Try.func88, Try.ntmps88
  go_wp2_with fail
  refine (HZ.out _).mono ?_
  rintro (e : Ending) w2 ⟨u2, rfl, ho2, hb2⟩
  rw [← filR_zero n c2 Gn] at ho2
  obtain ⟨A6, c6, rfl, _, _, _⟩ := id ho2.ints
  have g1 := (h1.pushOwn hb2 ho2).box [.int .i64 p, .int .i64 n, .int .i64 c2, .slice A6 (filR n c2 Gn 0 0).length c6] 40
  rw [length_filR] at g1 ⊢
  clear z0 z1 z2 z3 h1 ho2 hb2
  go_wp2
  generalize hB5 : w2.heap.size = B5 at g1 ⊢
  clear hB5
  go_loopw [6, 7] (fun v6 _ wr => ∃ (i : Nat), v6 = .int .i64 i ∧ i ≤ n ∧ St w wr [.box B5 [.int .i64 p, .int .i64 n, .int .i64 c2, .slice A6 (n * c2) c6], .own (.slice A6 (n * c2) c6) (filR n c2 Gn i 0), .box (w.heap.size + 1) [.int .i64 0, .int .i64 0, .int .i64 0, .slice none 0 0], .box w.heap.size [.int .i64 p, .int .i64 n, .int .i64 n, .slice A D.length k0], .ro (.slice A D.length k0) D]) (fun v6 _ _ => n - (intOf v6).toNat)
  case atStart => exact ⟨0, rfl, by omega, g1⟩
  case round =>
    clear g1
    obtain ⟨i, rfl, a1, g1⟩ := hrel
    by_cases hi : i < n
    · have ii : (i : Int) < (n : Int) := by omega
      obtain ⟨gd, rfl, -⟩ := g1.ownSomeA 1 rfl (by rw [length_filR]; exact Nat.mul_pos (by omega) (by rw [Hc2.out]; omega))
      obtain ⟨i2, hi2⟩ : ∃ i2, i2 = i * 2 := ⟨_, rfl⟩
      obtain ⟨m1, hm1⟩ : ∃ m1, m1 = i * c2 := ⟨_, rfl⟩
      have hm0 : m1 + c2 ≤ 3200 := by
        have h1 : (i + 1) * c2 ≤ 40 * 80 := Nat.mul_le_mul (by omega) c80
        rw [Nat.succ_mul] at h1
        omega
      have t1 : (i : Int) * 2 = (i2 : Int) := by omega
      have t2 : (i2 : Int) * (n : Int) = (m1 : Int) := by
        rw [hm1, hi2, Hc2.out]
        simp
        grind
      have w1 : IntKind.i64.wrap (i2 : Int) = i2 := wrap_ok (by omega) (by omega)
      have w2 : IntKind.i64.wrap (m1 : Int) = m1 := wrap_ok (by omega) (by omega)
      have Hm1 := Lib.hid hm1
      clear hi2 hm1
      go_wp2
      go_loopw [7] (fun v7 wr => ∃ (j : Nat), v7 = .int .i64 j ∧ j ≤ n ∧ St w wr [.box B5 [.int .i64 p, .int .i64 n, .int .i64 c2, .slice (some ⟨gd, 0, none⟩) (n * c2) c6], .own (.slice (some ⟨gd, 0, none⟩) (n * c2) c6) (filR n c2 Gn i j), .box (w.heap.size + 1) [.int .i64 0, .int .i64 0, .int .i64 0, .slice none 0 0], .box w.heap.size [.int .i64 p, .int .i64 n, .int .i64 n, .slice A D.length k0], .ro (.slice A D.length k0) D]) (fun v7 _ => n - (intOf v7).toNat)
      case atStart => exact ⟨0, rfl, by omega, g1⟩
      case round =>
        clear g1
        obtain ⟨j, rfl, a2, g1⟩ := hrel
        by_cases hj : j < n
        · have ij : (j : Int) < (n : Int) := by omega
          have HSet := Lib.hid (filR_set (G := Gn) hi (show j < c2 by have := Hc2.out; omega))
          have hlt := spot_lt hi (show j < c2 by have := Hc2.out; omega)
          have HAt := Lib.hid (fun W x => HA.out W i j hi hj x)
          rw [← HG1.out i j hj] at HAt
          obtain ⟨x, hx⟩ : ∃ x, x = Gn i j := ⟨_, rfl⟩
          rw [← hx] at HAt HSet
          obtain ⟨q1, hq1⟩ : ∃ q1, q1 = m1 + j := ⟨_, rfl⟩
          rw [← Hm1.out, ← hq1] at HSet hlt
          have t3 : (m1 : Int) + (j : Int) = (q1 : Int) := by omega
          have w3 : IntKind.i64.wrap (q1 : Int) = q1 := wrap_ok (by omega) (by have := Hc2.out; omega)
          have j1 : (q1 : Int) < ((n * c2 : Nat) : Int) := by omega
          have j1b : (q1 : Int) < (n : Int) * (c2 : Int) := by rw [← Int.natCast_mul]; exact j1
          have HLt := Lib.hid (show q1 < (filR n c2 Gn i j).length by rw [length_filR]; exact hlt)
          clear hx hq1 hlt
          go_upto_region 9 with fail
          have g0 := g1.drew
          refine wp_region_cut (S := fun w' => (w'.cell? ⟨B5, 0, none⟩ = some (.int .i64 p) ∧ w'.cell? ⟨B5, 1, none⟩ = some (.int .i64 n) ∧ w'.cell? ⟨B5, 2, none⟩ = some (.int .i64 c2) ∧ w'.cell? ⟨B5, 3, none⟩ = some (.slice (some ⟨gd, 0, none⟩) (n * c2) c6)) ∧ (w'.cell? ⟨w.heap.size, 0, none⟩ = some (.int .i64 p) ∧ w'.cell? ⟨w.heap.size, 1, none⟩ = some (.int .i64 n) ∧ w'.cell? ⟨w.heap.size, 2, none⟩ = some (.int .i64 n) ∧ w'.cell? ⟨w.heap.size, 3, none⟩ = some (.slice A D.length k0))) 13 (by kernel_rfl) (by kernel_rfl) ⟨g0.box4 0 rfl, g0.box4 3 rfl⟩ (fun hHeld => ?_)
          simp only [List.take_succ_cons, List.take_zero]
          refine anyH_take (v := ?_) 0 rfl (by kernel_rfl) (by kernel_rfl) (by kernel_rfl) (fun _ _ _ h => h) rfl ?_ hHeld ?_
          rotate_left
          · intro w' hSw
            go_simp
            try with_reducible rfl
          try simp only [Act.put, List.setIfInBounds_toArray, List.set_cons_zero, List.set_cons_succ]
          refine anyH_take (v := ?_) 1 rfl (by kernel_rfl) (by kernel_rfl) (by kernel_rfl) (fun _ _ _ h => h) rfl ?_ hHeld ?_
          rotate_left
          · intro w' hSw
            go_simp
            try with_reducible rfl
          try simp only [Act.put, List.setIfInBounds_toArray, List.set_cons_zero, List.set_cons_succ]
          refine anyH_take (v := ?_) 2 rfl (by kernel_rfl) (by kernel_rfl) (by kernel_rfl) (fun _ _ _ h => h) rfl ?_ hHeld ?_
          rotate_left
          · intro w' hSw
            go_simp
            try with_reducible rfl
          try simp only [Act.put, List.setIfInBounds_toArray, List.set_cons_zero, List.set_cons_succ]
          refine anyH_take (v := ?_) 3 rfl (by kernel_rfl) (by kernel_rfl) (by kernel_rfl) (fun _ _ _ h => h) rfl ?_ hHeld ?_
          rotate_left
          · intro w' hSw
            go_simp
            try with_reducible rfl
          try simp only [Act.put, List.setIfInBounds_toArray, List.set_cons_zero, List.set_cons_succ]
          refine anyH_take (v := ?_) 4 rfl (by kernel_rfl) (by kernel_rfl) (by kernel_rfl) (fun _ _ _ h => h) rfl ?_ hHeld ?_
          rotate_left
          · intro w' hSw
            go_simp
            try with_reducible rfl
          try simp only [Act.put, List.setIfInBounds_toArray, List.set_cons_zero, List.set_cons_succ]
          refine anyH_take (v := ?_) 5 rfl (by kernel_rfl) (by kernel_rfl) (by kernel_rfl) (fun _ _ _ h => h) rfl ?_ hHeld ?_
          rotate_left
          · intro w' hSw
            go_simp
            try with_reducible rfl
          try simp only [Act.put, List.setIfInBounds_toArray, List.set_cons_zero, List.set_cons_succ]
          refine anyH_take (v := ?_) 6 rfl (by kernel_rfl) (by kernel_rfl) (by kernel_rfl) (fun _ _ _ h => h) rfl ?_ hHeld ?_
          rotate_left
          · intro w' hSw
            go_simp
            try with_reducible rfl
          try simp only [Act.put, List.setIfInBounds_toArray, List.set_cons_zero, List.set_cons_succ]
          refine anyH_take (v := ?_) 7 rfl (by kernel_rfl) (by kernel_rfl) (by kernel_rfl) (fun _ _ _ h => h) rfl ?_ hHeld ?_
          rotate_left
          · intro w' hSw
            go_simp
            try with_reducible rfl
          try simp only [Act.put, List.setIfInBounds_toArray, List.set_cons_zero, List.set_cons_succ]
          refine anyH_take (v := ?_) 8 rfl (by kernel_rfl) (by kernel_rfl) (by kernel_rfl) (fun _ _ _ h => h) rfl ?_ hHeld ?_
          rotate_left
          · intro w' hSw
            go_simp
            try with_reducible rfl
          try simp only [Act.put, List.setIfInBounds_toArray, List.set_cons_zero, List.set_cons_succ]
          refine anyH_take (v := ?_) 9 rfl (by kernel_rfl) (by kernel_rfl) (by kernel_rfl) (fun _ _ _ h => h) rfl ?_ hHeld ?_
          rotate_left
          · intro w' hSw
            go_simp
            try with_reducible rfl
          try simp only [Act.put, List.setIfInBounds_toArray, List.set_cons_zero, List.set_cons_succ]
          refine anyH_take (v := ?_) 10 rfl (by kernel_rfl) (by kernel_rfl) (by kernel_rfl) (fun _ _ _ h => h) rfl ?_ hHeld ?_
          rotate_left
          · intro w' hSw
            go_simp
            try with_reducible rfl
          try simp only [Act.put, List.setIfInBounds_toArray, List.set_cons_zero, List.set_cons_succ]
          refine wpAnyH_ready (rs := [11]) (by kernel_rfl) (by simp) ?_
          refine ready_cons rfl (fun K hK => ?_) AllReadyH.nil
          go_simp
          refine (HAt.out _ (g0.roInts 4 rfl)).mono ?_
          rintro (e : Ending) w5 ⟨rfl, hb5⟩
          have g2 := g0.on hb5
          show K _ _
          refine hK.out _ _ ?_ (fun hHeld => ?_)
          · exact ⟨g2.box4 0 rfl, g2.box4 3 rfl⟩
          clear hK K
          try simp only [Act.put, List.setIfInBounds_toArray, List.set_cons_zero, List.set_cons_succ]
          refine anyH_take (v := ?_) 12 rfl (by kernel_rfl) (by kernel_rfl) (by kernel_rfl) (fun _ _ _ h => h) rfl ?_ hHeld ?_
          rotate_left
          · intro w' hSw
            go_simp
            try with_reducible rfl
          try simp only [Act.put, List.setIfInBounds_toArray, List.set_cons_zero, List.set_cons_succ]
          refine wpAnyH_done (by kernel_rfl) ?_ _
          show wpList _ _ _ _ _ _
          simp only [List.drop_succ_cons, List.drop_zero]
          clear hHeld
          obtain ⟨f1, f2⟩ := g2.ownCellA 1 rfl HLt.out
          have g5 := g2.set 1 rfl q1 x
          clear g0 g1 g2 hb5
          go_wp2
          go_roundw
          case rel => exact ⟨j + 1, by go_num, by omega, by rw [← HSet.out]; exact g5⟩
          case measure => simp [intOf]; omega
        · obtain rfl : j = n := by omega
          have HSk := Lib.hid (filR_skip (r := j) (c := c2) (G := Gn) (i := i) (j := j) (k := j + i) (by omega) fun b h1 h2 => HG0.out i b h1 (by omega))
          rw [HSk.out] at g1
          have hji : j + i < c2 := by rw [Hc2.out]; omega
          have HSet := Lib.hid (filR_set (G := Gn) hi hji)
          rw [HGo.out] at HSet
          have HSk2 := Lib.hid (filR_skip (r := j) (c := c2) (G := Gn) (i := i) (j := j + i + 1) (k := c2) (by omega) fun b h1 h2 => HG0.out i b (by omega) (by omega))
          rw [HSk2.out, filR_row] at HSet
          have hlt := spot_lt hi hji
          obtain ⟨q0, hq0⟩ : ∃ q0, q0 = m1 + j := ⟨_, rfl⟩
          obtain ⟨q1, hq1⟩ : ∃ q1, q1 = q0 + i := ⟨_, rfl⟩
          have hqq : i * c2 + (j + i) = q1 := by rw [← Hm1.out]; omega
          rw [hqq] at HSet hlt
          have t3 : (m1 : Int) + (j : Int) = (q0 : Int) := by omega
          have t4 : (q0 : Int) + (i : Int) = (q1 : Int) := by omega
          have w3 : IntKind.i64.wrap (q0 : Int) = q0 := wrap_ok (by omega) (by omega)
          have w4 : IntKind.i64.wrap (q1 : Int) = q1 := wrap_ok (by omega) (by omega)
          have j1 : (q1 : Int) < ((j * c2 : Nat) : Int) := by omega
          have j1b : (q1 : Int) < (j : Int) * (c2 : Int) := by rw [← Int.natCast_mul]; exact j1
          obtain ⟨f1, f2⟩ := g1.ownCellA 1 rfl (q := q1) (by rw [length_filR]; exact hlt)
          have g5 := g1.set 1 rfl q1 1
          obtain ⟨z0, z1, z2, z3⟩ := g1.box4 0 rfl
          clear g1 hq0 hq1 hqq hlt HSk HSk2
          go_wp2
          go_roundw
          case rel => exact ⟨i + 1, by go_num, by omega, by rw [← HSet.out]; exact g5⟩
          case measure => simp [intOf]; omega
    · obtain rfl : i = n := by omega
      rw [filR_end] at g1
      obtain ⟨z0, z1, z2, z3⟩ := g1.box4 0 rfl
      go_wp2_with fail
      refine (HRd.out _ _ (g1.ownInts 1 rfl)).mono ?_
      rintro (e : Ending) w3 ⟨u3, vp3, det, rfl, h3⟩
      replace g1 := g1.pushTwo h3
      obtain ⟨A8, c8, rfl, _, _, _⟩ := id (g1.ownInts 0 rfl)
      obtain ⟨A7, c7, rfl, _, _, _⟩ := id (g1.ownInts 1 rfl)
      rw [length_pivI, HPl.out] at g1 ⊢
      have g2 := g1.box [.int .i64 p, .int .i64 i, .int .i64 c2, .slice A7 (flat c2 Rd).length c7] 40
      obtain ⟨L7, hL7⟩ : ∃ L7, L7 = (flat c2 Rd).length := ⟨_, rfl⟩
      rw [← hL7] at g2 ⊢
      have HL7 := Lib.hid hL7
      clear g1 h3 z0 z1 z2 z3 hL7
      by_cases h0 : 0 < i
      case neg =>
        have h0' : ¬ ((0 : Int) < (i : Int)) := by omega
        have HF := Lib.hid (show Po = RetMatB w p i i X true by rw [HPo.out, if_pos (Hr0.out (by omega))])
        have HIv := Lib.hid (HInv.out (Hr0.out (by omega)))
        obtain ⟨z0, z1, z2, z3⟩ := g2.box4 6 rfl
        go_wp2_with fail
        refine (HZ2.out _).mono ?_
        rintro (e : Ending) w4 ⟨u4, rfl, ho4, hb4⟩
        generalize hB9 : w3.heap.size = B9 at g2 ⊢
        clear hB9
        rw [← filR_zero i i G2] at ho4
        obtain ⟨A9, c9, rfl, _, _, _⟩ := id ho4.ints
        have g3 := (g2.pushOwn hb4 ho4).box [.int .i64 p, .int .i64 i, .int .i64 i, .slice A9 (filR i i G2 0 0).length c9] 40
        rw [length_filR] at g3 ⊢
        clear z0 z1 z2 z3 g2 ho4 hb4 h0' h0
        go_wp2
        generalize hB11 : w4.heap.size = B11 at g3 ⊢
        clear hB11
        obtain ⟨OL, hOL, g4⟩ : ∃ OL, OL = _ ∧ St w _ (.box B11 [.int .i64 p, .int .i64 i, .int .i64 i, .slice A9 (i * i) c9] :: .own (.slice A9 (i * i) c9) (filR i i G2 0 0) :: .box B9 [.int .i64 p, .int .i64 i, .int .i64 c2, .slice A7 L7 c7] :: OL) := ⟨_, rfl, g3⟩
        clear g3
        go_loopw [12, 13] (fun v12 _ wr => ∃ (a : Nat), v12 = .int .i64 a ∧ a ≤ i ∧ St w wr (.box B11 [.int .i64 p, .int .i64 i, .int .i64 i, .slice A9 (i * i) c9] :: .own (.slice A9 (i * i) c9) (filR i i G2 a 0) :: .box B9 [.int .i64 p, .int .i64 i, .int .i64 c2, .slice A7 L7 c7] :: OL)) (fun v12 _ _ => i - (intOf v12).toNat)
        case atStart => exact ⟨0, rfl, by omega, g4⟩
        case round =>
          clear g4
          obtain ⟨a, rfl, a2, g1⟩ := hrel
          by_cases ha : a < i
          · have ia : (a : Int) < (i : Int) := by omega
            go_wp2
            go_loopw [13] (fun v13 wr => ∃ (b : Nat), v13 = .int .i64 b ∧ b ≤ i ∧ St w wr (.box B11 [.int .i64 p, .int .i64 i, .int .i64 i, .slice A9 (i * i) c9] :: .own (.slice A9 (i * i) c9) (filR i i G2 a b) :: .box B9 [.int .i64 p, .int .i64 i, .int .i64 c2, .slice A7 L7 c7] :: OL)) (fun v13 _ => i - (intOf v13).toNat)
            case atStart => exact ⟨0, rfl, by omega, g1⟩
            case round =>
              clear g1
              obtain ⟨b, rfl, a3, g1⟩ := hrel
              by_cases hb : b < i
              · subst hOL
                have ib : (b : Int) < (i : Int) := by omega
                have HSet := Lib.hid (filR_set (G := G2) ha hb)
                have hlt := spot_lt ha hb
                have HAt := Lib.hid (fun W v x => HAt2.out W v a b ha hb x)
                obtain ⟨x, hx⟩ : ∃ x, x = G2 a b := ⟨_, rfl⟩
                rw [← hx] at HAt HSet
                obtain ⟨m1, hm1⟩ : ∃ m1, m1 = a * i := ⟨_, rfl⟩
                obtain ⟨q1, hq1⟩ : ∃ q1, q1 = m1 + b := ⟨_, rfl⟩
                obtain ⟨q2, hq2⟩ : ∃ q2, q2 = i + b := ⟨_, rfl⟩
                rw [← hq2] at HAt
                rw [← hm1, ← hq1] at HSet hlt
                have t1 : (a : Int) * (i : Int) = (m1 : Int) := by rw [hm1]; simp
                have t3 : (m1 : Int) + (b : Int) = (q1 : Int) := by omega
                have t4 : (i : Int) + (b : Int) = (q2 : Int) := by omega
                have hn2 := mul_le k1 k1
                have w1 : IntKind.i64.wrap (m1 : Int) = m1 := wrap_ok (by omega) (by omega)
                have w3 : IntKind.i64.wrap (q1 : Int) = q1 := wrap_ok (by omega) (by omega)
                have w5 : IntKind.i64.wrap (q2 : Int) = q2 := wrap_ok (by omega) (by omega)
                have j1 : (q1 : Int) < ((i * i : Nat) : Int) := by omega
                have j1b : (q1 : Int) < (i : Int) * (i : Int) := by rw [← Int.natCast_mul]; exact j1
                have HLt := Lib.hid (show q1 < (filR i i G2 a b).length by rw [length_filR]; exact hlt)
                obtain ⟨gd2, rfl, -⟩ := g1.ownSomeA 1 rfl (by have := HLt.out; omega)
                clear hx hm1 hq1 hq2 hlt hn2
                go_upto_region 21 with fail
                have g0 := g1.drew
                refine wp_region_cut (S := fun w' => (w'.cell? ⟨B11, 0, none⟩ = some (.int .i64 p) ∧ w'.cell? ⟨B11, 1, none⟩ = some (.int .i64 i) ∧ w'.cell? ⟨B11, 2, none⟩ = some (.int .i64 i) ∧ w'.cell? ⟨B11, 3, none⟩ = some (.slice (some ⟨gd2, 0, none⟩) (i * i) c9)) ∧ (w'.cell? ⟨B9, 0, none⟩ = some (.int .i64 p) ∧ w'.cell? ⟨B9, 1, none⟩ = some (.int .i64 i) ∧ w'.cell? ⟨B9, 2, none⟩ = some (.int .i64 c2) ∧ w'.cell? ⟨B9, 3, none⟩ = some (.slice A7 L7 c7))) 14 (by kernel_rfl) (by kernel_rfl) ⟨g0.box4 0 rfl, g0.box4 2 rfl⟩ (fun hHeld => ?_)
                simp only [List.take_succ_cons, List.take_zero]
                refine anyH_take (v := ?_) 0 rfl (by kernel_rfl) (by kernel_rfl) (by kernel_rfl) (fun _ _ _ h => h) rfl ?_ hHeld ?_
                rotate_left
                · intro w' hSw
                  go_simp
                  try with_reducible rfl
                try simp only [Act.put, List.setIfInBounds_toArray, List.set_cons_zero, List.set_cons_succ]
                refine anyH_take (v := ?_) 1 rfl (by kernel_rfl) (by kernel_rfl) (by kernel_rfl) (fun _ _ _ h => h) rfl ?_ hHeld ?_
                rotate_left
                · intro w' hSw
                  go_simp
                  try with_reducible rfl
                try simp only [Act.put, List.setIfInBounds_toArray, List.set_cons_zero, List.set_cons_succ]
                refine anyH_take (v := ?_) 2 rfl (by kernel_rfl) (by kernel_rfl) (by kernel_rfl) (fun _ _ _ h => h) rfl ?_ hHeld ?_
                rotate_left
                · intro w' hSw
                  go_simp
                  try with_reducible rfl
                try simp only [Act.put, List.setIfInBounds_toArray, List.set_cons_zero, List.set_cons_succ]
                refine anyH_take (v := ?_) 3 rfl (by kernel_rfl) (by kernel_rfl) (by kernel_rfl) (fun _ _ _ h => h) rfl ?_ hHeld ?_
                rotate_left
                · intro w' hSw
                  go_simp
                  try with_reducible rfl
                try simp only [Act.put, List.setIfInBounds_toArray, List.set_cons_zero, List.set_cons_succ]
                refine anyH_take (v := ?_) 4 rfl (by kernel_rfl) (by kernel_rfl) (by kernel_rfl) (fun _ _ _ h => h) rfl ?_ hHeld ?_
                rotate_left
                · intro w' hSw
                  go_simp
                  try with_reducible rfl
                try simp only [Act.put, List.setIfInBounds_toArray, List.set_cons_zero, List.set_cons_succ]
                refine anyH_take (v := ?_) 5 rfl (by kernel_rfl) (by kernel_rfl) (by kernel_rfl) (fun _ _ _ h => h) rfl ?_ hHeld ?_
                rotate_left
                · intro w' hSw
                  go_simp
                  try with_reducible rfl
                try simp only [Act.put, List.setIfInBounds_toArray, List.set_cons_zero, List.set_cons_succ]
                refine anyH_take (v := ?_) 6 rfl (by kernel_rfl) (by kernel_rfl) (by kernel_rfl) (fun _ _ _ h => h) rfl ?_ hHeld ?_
                rotate_left
                · intro w' hSw
                  go_simp
                  try with_reducible rfl
                try simp only [Act.put, List.setIfInBounds_toArray, List.set_cons_zero, List.set_cons_succ]
                refine anyH_take (v := ?_) 7 rfl (by kernel_rfl) (by kernel_rfl) (by kernel_rfl) (fun _ _ _ h => h) rfl ?_ hHeld ?_
                rotate_left
                · intro w' hSw
                  go_simp
                  try with_reducible rfl
                try simp only [Act.put, List.setIfInBounds_toArray, List.set_cons_zero, List.set_cons_succ]
                refine anyH_take (v := ?_) 8 rfl (by kernel_rfl) (by kernel_rfl) (by kernel_rfl) (fun _ _ _ h => h) rfl ?_ hHeld ?_
                rotate_left
                · intro w' hSw
                  go_simp
                  try with_reducible rfl
                try simp only [Act.put, List.setIfInBounds_toArray, List.set_cons_zero, List.set_cons_succ]
                refine anyH_take (v := ?_) 9 rfl (by kernel_rfl) (by kernel_rfl) (by kernel_rfl) (fun _ _ _ h => h) rfl ?_ hHeld ?_
                rotate_left
                · intro w' hSw
                  go_simp
                  try with_reducible rfl
                try simp only [Act.put, List.setIfInBounds_toArray, List.set_cons_zero, List.set_cons_succ]
                refine anyH_take (v := ?_) 10 rfl (by kernel_rfl) (by kernel_rfl) (by kernel_rfl) (fun _ _ _ h => h) rfl ?_ hHeld ?_
                rotate_left
                · intro w' hSw
                  go_simp
                  try with_reducible rfl
                try simp only [Act.put, List.setIfInBounds_toArray, List.set_cons_zero, List.set_cons_succ]
                refine anyH_take (v := ?_) 11 rfl (by kernel_rfl) (by kernel_rfl) (by kernel_rfl) (fun _ _ _ h => h) rfl ?_ hHeld ?_
                rotate_left
                · intro w' hSw
                  go_simp
                  try with_reducible rfl
                try simp only [Act.put, List.setIfInBounds_toArray, List.set_cons_zero, List.set_cons_succ]
                refine wpAnyH_ready (rs := [12]) (by kernel_rfl) (by simp) ?_
                refine ready_cons rfl (fun K hK => ?_) AllReadyH.nil
                go_simp
                refine (HAt.out _ _ (by have := g0.ownInts 4 rfl; exact this)).mono ?_
                rintro (e : Ending) w8 ⟨rfl, hb8⟩
                have g2 := g0.on hb8
                show K _ _
                refine hK.out _ _ ?_ (fun hHeld => ?_)
                · exact ⟨g2.box4 0 rfl, g2.box4 2 rfl⟩
                clear hK K
                try simp only [Act.put, List.setIfInBounds_toArray, List.set_cons_zero, List.set_cons_succ]
                refine anyH_take (v := ?_) 13 rfl (by kernel_rfl) (by kernel_rfl) (by kernel_rfl) (fun _ _ _ h => h) rfl ?_ hHeld ?_
                rotate_left
                · intro w' hSw
                  go_simp
                  try with_reducible rfl
                try simp only [Act.put, List.setIfInBounds_toArray, List.set_cons_zero, List.set_cons_succ]
                refine wpAnyH_done (by kernel_rfl) ?_ _
                show wpList _ _ _ _ _ _
                simp only [List.drop_succ_cons, List.drop_zero]
                clear hHeld
                obtain ⟨f1, f2⟩ := g2.ownCellA 1 rfl HLt.out
                have g5 := g2.set 1 rfl q1 x
                clear g0 g1 g2 hb8
                go_wp2
                go_roundw
                case rel => exact ⟨b + 1, by go_num, by omega, by rw [← HSet.out]; exact g5⟩
                case measure => simp [intOf]; omega
              · obtain rfl : b = i := by omega
                rw [filR_row] at g1
                go_wp2
                go_roundw
                case rel => exact ⟨a + 1, by go_num, by omega, g1⟩
                case measure => simp [intOf]; omega
          · obtain rfl : a = i := by omega
            rw [filR_end, HIv.out] at g1
            subst hOL
            obtain ⟨y0, y1, y2, y3⟩ := g1.box4 0 rfl
            obtain ⟨p0, p1, p2, p3⟩ := g1.box4 7 rfl
            have f0 := g1.free 7 rfl 0
            have f1 := g1.free 7 rfl 1
            have f2 := g1.free 7 rfl 2
            have f3 := g1.free 7 rfl 3
            have g5 := (((g1.setBox 7 rfl 0 (.int .i64 p)).setBox 7 rfl 1 (.int .i64 a)).setBox 7 rfl 2 (.int .i64 a)).setBox 7 rfl 3 (.slice A9 (a * a) c9)
            obtain ⟨r0, r1, r2, r3⟩ := g5.box4 7 rfl
            go_wp2
            refine bodyPost_ret (v := .tuple #[.agg #[.int .i64 p, .int .i64 a, .int .i64 a, .slice A9 (a * a) c9], .bool true]) (by simp [results, Try.results88, go_sem, r0, r1, r2, r3]) rfl ?_
            rw [HF.out]
            exact ⟨_, rfl, g5.own 1 rfl, g5.below⟩
      case pos =>
        obtain ⟨kk, hkk⟩ : ∃ kk, i = kk + 1 := ⟨i - 1, by omega⟩
        obtain ⟨gp, rfl, -⟩ := g2.ownSomeA 1 rfl (by rw [length_pivI, HPl.out]; omega)
        have pc := (g2.ownCellA 1 rfl (q := kk) (by rw [length_pivI, HPl.out]; omega)).1
        rw [vec_pivI (by rw [HPl.out]; omega)] at pc
        have hL := HLast.out h0
        rw [show i - 1 = kk by omega] at hL
        have hpb := HPv.out kk (by omega)
        obtain ⟨y, hy⟩ : ∃ y, y = pv piv kk := ⟨_, rfl⟩
        rw [← hy] at pc hL hpb
        have h0' : (0 : Int) < (i : Int) := by omega
        have e3 : (i : Int) - 1 = (kk : Int) := by omega
        have wk : IntKind.i64.wrap (kk : Int) = kk := wrap_ok (by omega) (by omega)
        have jk : (kk : Int) < (i : Int) := by omega
        clear hy
        by_cases hyi : y < i
        case pos =>
          have hyi' : ¬ ((i : Int) ≤ (y : Int)) := by omega
          have HF := Lib.hid (show Po = RetMatB w p i i X true by rw [HPo.out, if_pos (hL.1 hyi)])
          have HIv := Lib.hid (HInv.out (hL.1 hyi))
          clear hL hkk hyi
          obtain ⟨z0, z1, z2, z3⟩ := g2.box4 6 rfl
          go_wp2_with fail
          refine (HZ2.out _).mono ?_
          rintro (e : Ending) w4 ⟨u4, rfl, ho4, hb4⟩
          generalize hB9 : w3.heap.size = B9 at g2 ⊢
          clear hB9
          rw [← filR_zero i i G2] at ho4
          obtain ⟨A9, c9, rfl, _, _, _⟩ := id ho4.ints
          have g3 := (g2.pushOwn hb4 ho4).box [.int .i64 p, .int .i64 i, .int .i64 i, .slice A9 (filR i i G2 0 0).length c9] 40
          rw [length_filR] at g3 ⊢
          clear z0 z1 z2 z3 g2 ho4 hb4 h0' h0
          go_wp2
          generalize hB11 : w4.heap.size = B11 at g3 ⊢
          clear hB11
          obtain ⟨OL, hOL, g4⟩ : ∃ OL, OL = _ ∧ St w _ (.box B11 [.int .i64 p, .int .i64 i, .int .i64 i, .slice A9 (i * i) c9] :: .own (.slice A9 (i * i) c9) (filR i i G2 0 0) :: .box B9 [.int .i64 p, .int .i64 i, .int .i64 c2, .slice A7 L7 c7] :: OL) := ⟨_, rfl, g3⟩
          clear g3
          go_loopw [12, 13] (fun v12 _ wr => ∃ (a : Nat), v12 = .int .i64 a ∧ a ≤ i ∧ St w wr (.box B11 [.int .i64 p, .int .i64 i, .int .i64 i, .slice A9 (i * i) c9] :: .own (.slice A9 (i * i) c9) (filR i i G2 a 0) :: .box B9 [.int .i64 p, .int .i64 i, .int .i64 c2, .slice A7 L7 c7] :: OL)) (fun v12 _ _ => i - (intOf v12).toNat)
          case atStart => exact ⟨0, rfl, by omega, g4⟩
          case round =>
            clear g4
            obtain ⟨a, rfl, a2, g1⟩ := hrel
            by_cases ha : a < i
            · have ia : (a : Int) < (i : Int) := by omega
              go_wp2
              go_loopw [13] (fun v13 wr => ∃ (b : Nat), v13 = .int .i64 b ∧ b ≤ i ∧ St w wr (.box B11 [.int .i64 p, .int .i64 i, .int .i64 i, .slice A9 (i * i) c9] :: .own (.slice A9 (i * i) c9) (filR i i G2 a b) :: .box B9 [.int .i64 p, .int .i64 i, .int .i64 c2, .slice A7 L7 c7] :: OL)) (fun v13 _ => i - (intOf v13).toNat)
              case atStart => exact ⟨0, rfl, by omega, g1⟩
              case round =>
                clear g1
                obtain ⟨b, rfl, a3, g1⟩ := hrel
                by_cases hb : b < i
                · subst hOL
                  have ib : (b : Int) < (i : Int) := by omega
                  have HSet := Lib.hid (filR_set (G := G2) ha hb)
                  have hlt := spot_lt ha hb
                  have HAt := Lib.hid (fun W v x => HAt2.out W v a b ha hb x)
                  obtain ⟨x, hx⟩ : ∃ x, x = G2 a b := ⟨_, rfl⟩
                  rw [← hx] at HAt HSet
                  obtain ⟨m1, hm1⟩ : ∃ m1, m1 = a * i := ⟨_, rfl⟩
                  obtain ⟨q1, hq1⟩ : ∃ q1, q1 = m1 + b := ⟨_, rfl⟩
                  obtain ⟨q2, hq2⟩ : ∃ q2, q2 = i + b := ⟨_, rfl⟩
                  rw [← hq2] at HAt
                  rw [← hm1, ← hq1] at HSet hlt
                  have t1 : (a : Int) * (i : Int) = (m1 : Int) := by rw [hm1]; simp
                  have t3 : (m1 : Int) + (b : Int) = (q1 : Int) := by omega
                  have t4 : (i : Int) + (b : Int) = (q2 : Int) := by omega
                  have hn2 := mul_le k1 k1
                  have w1 : IntKind.i64.wrap (m1 : Int) = m1 := wrap_ok (by omega) (by omega)
                  have w3 : IntKind.i64.wrap (q1 : Int) = q1 := wrap_ok (by omega) (by omega)
                  have w5 : IntKind.i64.wrap (q2 : Int) = q2 := wrap_ok (by omega) (by omega)
                  have j1 : (q1 : Int) < ((i * i : Nat) : Int) := by omega
                  have j1b : (q1 : Int) < (i : Int) * (i : Int) := by rw [← Int.natCast_mul]; exact j1
                  have HLt := Lib.hid (show q1 < (filR i i G2 a b).length by rw [length_filR]; exact hlt)
                  obtain ⟨gd2, rfl, -⟩ := g1.ownSomeA 1 rfl (by have := HLt.out; omega)
                  clear hx hm1 hq1 hq2 hlt hn2
                  go_upto_region 21 with fail
                  have g0 := g1.drew
                  refine wp_region_cut (S := fun w' => (w'.cell? ⟨B11, 0, none⟩ = some (.int .i64 p) ∧ w'.cell? ⟨B11, 1, none⟩ = some (.int .i64 i) ∧ w'.cell? ⟨B11, 2, none⟩ = some (.int .i64 i) ∧ w'.cell? ⟨B11, 3, none⟩ = some (.slice (some ⟨gd2, 0, none⟩) (i * i) c9)) ∧ (w'.cell? ⟨B9, 0, none⟩ = some (.int .i64 p) ∧ w'.cell? ⟨B9, 1, none⟩ = some (.int .i64 i) ∧ w'.cell? ⟨B9, 2, none⟩ = some (.int .i64 c2) ∧ w'.cell? ⟨B9, 3, none⟩ = some (.slice A7 L7 c7))) 14 (by kernel_rfl) (by kernel_rfl) ⟨g0.box4 0 rfl, g0.box4 2 rfl⟩ (fun hHeld => ?_)
                  simp only [List.take_succ_cons, List.take_zero]
                  refine anyH_take (v := ?_) 0 rfl (by kernel_rfl) (by kernel_rfl) (by kernel_rfl) (fun _ _ _ h => h) rfl ?_ hHeld ?_
                  rotate_left
                  · intro w' hSw
                    go_simp
                    try with_reducible rfl
                  try simp only [Act.put, List.setIfInBounds_toArray, List.set_cons_zero, List.set_cons_succ]
                  refine anyH_take (v := ?_) 1 rfl (by kernel_rfl) (by kernel_rfl) (by kernel_rfl) (fun _ _ _ h => h) rfl ?_ hHeld ?_
                  rotate_left
                  · intro w' hSw
                    go_simp
                    try with_reducible rfl
                  try simp only [Act.put, List.setIfInBounds_toArray, List.set_cons_zero, List.set_cons_succ]
                  refine anyH_take (v := ?_) 2 rfl (by kernel_rfl) (by kernel_rfl) (by kernel_rfl) (fun _ _ _ h => h) rfl ?_ hHeld ?_
                  rotate_left
                  · intro w' hSw
                    go_simp
                    try with_reducible rfl
                  try simp only [Act.put, List.setIfInBounds_toArray, List.set_cons_zero, List.set_cons_succ]
                  refine anyH_take (v := ?_) 3 rfl (by kernel_rfl) (by kernel_rfl) (by kernel_rfl) (fun _ _ _ h => h) rfl ?_ hHeld ?_
                  rotate_left
                  · intro w' hSw
                    go_simp
                    try with_reducible rfl
                  try simp only [Act.put, List.setIfInBounds_toArray, List.set_cons_zero, List.set_cons_succ]
                  refine anyH_take (v := ?_) 4 rfl (by kernel_rfl) (by kernel_rfl) (by kernel_rfl) (fun _ _ _ h => h) rfl ?_ hHeld ?_
                  rotate_left
                  · intro w' hSw
                    go_simp
                    try with_reducible rfl
                  try simp only [Act.put, List.setIfInBounds_toArray, List.set_cons_zero, List.set_cons_succ]
                  refine anyH_take (v := ?_) 5 rfl (by kernel_rfl) (by kernel_rfl) (by kernel_rfl) (fun _ _ _ h => h) rfl ?_ hHeld ?_
                  rotate_left
                  · intro w' hSw
                    go_simp
                    try with_reducible rfl
                  try simp only [Act.put, List.setIfInBounds_toArray, List.set_cons_zero, List.set_cons_succ]
                  refine anyH_take (v := ?_) 6 rfl (by kernel_rfl) (by kernel_rfl) (by kernel_rfl) (fun _ _ _ h => h) rfl ?_ hHeld ?_
                  rotate_left
                  · intro w' hSw
                    go_simp
                    try with_reducible rfl
                  try simp only [Act.put, List.setIfInBounds_toArray, List.set_cons_zero, List.set_cons_succ]
                  refine anyH_take (v := ?_) 7 rfl (by kernel_rfl) (by kernel_rfl) (by kernel_rfl) (fun _ _ _ h => h) rfl ?_ hHeld ?_
                  rotate_left
                  · intro w' hSw
                    go_simp
                    try with_reducible rfl
                  try simp only [Act.put, List.setIfInBounds_toArray, List.set_cons_zero, List.set_cons_succ]
                  refine anyH_take (v := ?_) 8 rfl (by kernel_rfl) (by kernel_rfl) (by kernel_rfl) (fun _ _ _ h => h) rfl ?_ hHeld ?_
                  rotate_left
                  · intro w' hSw
                    go_simp
                    try with_reducible rfl
                  try simp only [Act.put, List.setIfInBounds_toArray, List.set_cons_zero, List.set_cons_succ]
                  refine anyH_take (v := ?_) 9 rfl (by kernel_rfl) (by kernel_rfl) (by kernel_rfl) (fun _ _ _ h => h) rfl ?_ hHeld ?_
                  rotate_left
                  · intro w' hSw
                    go_simp
                    try with_reducible rfl
                  try simp only [Act.put, List.setIfInBounds_toArray, List.set_cons_zero, List.set_cons_succ]
                  refine anyH_take (v := ?_) 10 rfl (by kernel_rfl) (by kernel_rfl) (by kernel_rfl) (fun _ _ _ h => h) rfl ?_ hHeld ?_
                  rotate_left
                  · intro w' hSw
                    go_simp
                    try with_reducible rfl
                  try simp only [Act.put, List.setIfInBounds_toArray, List.set_cons_zero, List.set_cons_succ]
                  refine anyH_take (v := ?_) 11 rfl (by kernel_rfl) (by kernel_rfl) (by kernel_rfl) (fun _ _ _ h => h) rfl ?_ hHeld ?_
                  rotate_left
                  · intro w' hSw
                    go_simp
                    try with_reducible rfl
                  try simp only [Act.put, List.setIfInBounds_toArray, List.set_cons_zero, List.set_cons_succ]
                  refine wpAnyH_ready (rs := [12]) (by kernel_rfl) (by simp) ?_
                  refine ready_cons rfl (fun K hK => ?_) AllReadyH.nil
                  go_simp
                  refine (HAt.out _ _ (by have := g0.ownInts 4 rfl; exact this)).mono ?_
                  rintro (e : Ending) w8 ⟨rfl, hb8⟩
                  have g2 := g0.on hb8
                  show K _ _
                  refine hK.out _ _ ?_ (fun hHeld => ?_)
                  · exact ⟨g2.box4 0 rfl, g2.box4 2 rfl⟩
                  clear hK K
                  try simp only [Act.put, List.setIfInBounds_toArray, List.set_cons_zero, List.set_cons_succ]
                  refine anyH_take (v := ?_) 13 rfl (by kernel_rfl) (by kernel_rfl) (by kernel_rfl) (fun _ _ _ h => h) rfl ?_ hHeld ?_
                  rotate_left
                  · intro w' hSw
                    go_simp
                    try with_reducible rfl
                  try simp only [Act.put, List.setIfInBounds_toArray, List.set_cons_zero, List.set_cons_succ]
                  refine wpAnyH_done (by kernel_rfl) ?_ _
                  show wpList _ _ _ _ _ _
                  simp only [List.drop_succ_cons, List.drop_zero]
                  clear hHeld
                  obtain ⟨f1, f2⟩ := g2.ownCellA 1 rfl HLt.out
                  have g5 := g2.set 1 rfl q1 x
                  clear g0 g1 g2 hb8
                  go_wp2
                  go_roundw
                  case rel => exact ⟨b + 1, by go_num, by omega, by rw [← HSet.out]; exact g5⟩
                  case measure => simp [intOf]; omega
                · obtain rfl : b = i := by omega
                  rw [filR_row] at g1
                  go_wp2
                  go_roundw
                  case rel => exact ⟨a + 1, by go_num, by omega, g1⟩
                  case measure => simp [intOf]; omega
            · obtain rfl : a = i := by omega
              rw [filR_end, HIv.out] at g1
              subst hOL
              obtain ⟨y0, y1, y2, y3⟩ := g1.box4 0 rfl
              obtain ⟨p0, p1, p2, p3⟩ := g1.box4 7 rfl
              have f0 := g1.free 7 rfl 0
              have f1 := g1.free 7 rfl 1
              have f2 := g1.free 7 rfl 2
              have f3 := g1.free 7 rfl 3
              have g5 := (((g1.setBox 7 rfl 0 (.int .i64 p)).setBox 7 rfl 1 (.int .i64 a)).setBox 7 rfl 2 (.int .i64 a)).setBox 7 rfl 3 (.slice A9 (a * a) c9)
              obtain ⟨r0, r1, r2, r3⟩ := g5.box4 7 rfl
              go_wp2
              refine bodyPost_ret (v := .tuple #[.agg #[.int .i64 p, .int .i64 a, .int .i64 a, .slice A9 (a * a) c9], .bool true]) (by simp [results, Try.results88, go_sem, r0, r1, r2, r3]) rfl ?_
              rw [HF.out]
              exact ⟨_, rfl, g5.own 1 rfl, g5.below⟩
        case neg =>
          have hyi' : (i : Int) ≤ (y : Int) := by omega
          have HF := Lib.hid (show Po = RetMatB w 0 0 0 [] false by rw [HPo.out, if_neg (fun h => hyi (hL.2 h))])
          clear hL hkk hyi
          generalize hB9 : w3.heap.size = B9 at g2 ⊢
          clear hB9
          obtain ⟨p0, p1, p2, p3⟩ := g2.box4 5 rfl
          have f0 := g2.free 5 rfl 0
          have f1 := g2.free 5 rfl 1
          have f2 := g2.free 5 rfl 2
          have f3 := g2.free 5 rfl 3
          have g5 := (((g2.setBox 5 rfl 0 (.int .i64 0)).setBox 5 rfl 1 (.int .i64 0)).setBox 5 rfl 2 (.int .i64 0)).setBox 5 rfl 3 (.slice none 0 0)
          obtain ⟨r0, r1, r2, r3⟩ := g5.box4 5 rfl
          go_wp2
          refine bodyPost_ret (v := .tuple #[.agg #[.int .i64 0, .int .i64 0, .int .i64 0, .slice none 0 0], .bool false]) (by simp [results, Try.results88, go_sem, r0, r1, r2, r3]) rfl ?_
          rw [HF.out]
          exact ⟨_, rfl, Own.nil, g5.below⟩
end Go.Proofs.Ythiainhhaokjoaa
