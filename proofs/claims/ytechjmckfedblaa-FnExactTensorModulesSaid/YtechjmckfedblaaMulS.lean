/- The reference's product of two matrices. -/
import Derived.Test.YtechjmckfedblaaMulI
import Derived.Test.YtechjmckfedblaaMatArith
namespace Go.Proofs.Ytechjmckfedblaa
set_option maxRecDepth 100000
open Go.RowKit

theorem mul_rng {x y p : Int} (hx : 0 ≤ x ∧ x < p) (hy : 0 ≤ y ∧ y < p) (hp : p ≤ 10007) : 0 ≤ x * y ∧ x * y ≤ 100140049 := by
  refine ⟨Int.mul_nonneg hx.1 hy.1, ?_⟩
  have h1 : x * y ≤ 10007 * y := Int.mul_le_mul_of_nonneg_right (by omega) hy.1
  omega

set_option maxHeartbeats 4000000 in
theorem l1Mul_any (p q r2 : Int) (r m c : Nat) (t s : Value) (D E : List Int) (w : World) (ht : Ints w t D) (hs : Ints w s E) (hr2 : r2 = m) (hD : D.length = r * m) (hE : E.length = m * c) (hr : r ≤ 40) (hm : m ≤ 40) (hc : c ≤ 40) (hp : 2 ≤ p) (hp' : p ≤ 10007) (rD : resid p D = true) (rE : resid p E = true) :
    Calls Try.prog 149 #[.agg #[.int .i64 p, .int .i64 r, .int .i64 m, t], .agg #[.int .i64 q, .int .i64 r2, .int .i64 c, s]] w (RetMat w p r c (mulD p r m c D E)) := by
  subst hr2
  have h1 := (((((St.start w).arg ht).arg hs).box [.int .i64 p, .int .i64 r, .int .i64 m, t] 32).box [.int .i64 q, .int .i64 m, .int .i64 c, s] 32).box [.int .i64 0, .int .i64 0, .int .i64 0, .slice none 0 0] 32
  simp only [World.size_alloc] at h1
  obtain ⟨A, k0, rfl, _, _, _⟩ := id ht
  obtain ⟨A2, k2, rfl, _, _, _⟩ := id hs
  have hrc := mul_le hr hc
  have hrm := mul_le hr hm
  have hmc := mul_le hm hc
  have HDl := Lib.hid hD
  have HEl := Lib.hid hE
  have HZ := Lib.hid (flat_mulRows_zero p r m c D E)
  clear ht hs hD hE
  obtain ⟨x0, x1, x2, x3⟩ := h1.box4 2 rfl
  obtain ⟨y0, y1, y2, y3⟩ := h1.box4 1 rfl
  go_enter Try.func149, Try.ntmps149
  go_wp2_with fail
  refine (l1Zero_any p r c _ (by omega)).mono ?_
  rintro (e : Ending) w1 ⟨u, rfl, ho, hb1⟩
  obtain ⟨A5, c5, rfl, _, _, _⟩ := id ho.ints
  rw [List.length_replicate] at ho ⊢
  replace h1 := (h1.pushOwn hb1 ho).box [.int .i64 p, .int .i64 r, .int .i64 c, .slice A5 (r * c) c5] 32
  clear ho hb1 x0 x1 x2 x3 y0 y1 y2 y3
  rw [← HZ.out] at h1
  go_wp2
  generalize w1.heap.size = B5 at h1 ⊢
  go_loopw [6] (fun v6 wr => ∃ i : Nat, v6 = .int .i64 i ∧ i ≤ r ∧ St w wr [.box B5 [.int .i64 p, .int .i64 r, .int .i64 c, .slice A5 (r * c) c5], .own (.slice A5 (r * c) c5) (flat c (mulRows p r m c D E i 0)), .box (w.heap.size + 1 + 1) [.int .i64 0, .int .i64 0, .int .i64 0, .slice none 0 0], .box (w.heap.size + 1) [.int .i64 q, .int .i64 m, .int .i64 c, .slice A2 E.length k2], .box w.heap.size [.int .i64 p, .int .i64 r, .int .i64 m, .slice A D.length k0], .ro (.slice A2 E.length k2) E, .ro (.slice A D.length k0) D]) (fun v6 _ => r - (intOf v6).toNat)
  case atStart => exact ⟨0, rfl, by omega, h1⟩
  case round =>
    clear h1
    obtain ⟨i, rfl, a1, h1⟩ := hrel
    obtain ⟨x0, x1, x2, x3⟩ := h1.box4 4 rfl
    by_cases hi : i < r
    · go_wp2
      clear x0 x1 x2 x3
      go_loopw [7] (fun v7 wr => ∃ k : Nat, v7 = .int .i64 k ∧ k ≤ m ∧ St w wr [.box B5 [.int .i64 p, .int .i64 r, .int .i64 c, .slice A5 (r * c) c5], .own (.slice A5 (r * c) c5) (flat c (mulRows p r m c D E i k)), .box (w.heap.size + 1 + 1) [.int .i64 0, .int .i64 0, .int .i64 0, .slice none 0 0], .box (w.heap.size + 1) [.int .i64 q, .int .i64 m, .int .i64 c, .slice A2 E.length k2], .box w.heap.size [.int .i64 p, .int .i64 r, .int .i64 m, .slice A D.length k0], .ro (.slice A2 E.length k2) E, .ro (.slice A D.length k0) D]) (fun v7 _ => m - (intOf v7).toNat)
      case atStart => exact ⟨0, rfl, by omega, h1⟩
      case round =>
        clear h1
        obtain ⟨k, rfl, a2, h1⟩ := hrel
        obtain ⟨x0, x1, x2, x3⟩ := h1.box4 4 rfl
        by_cases hk : k < m
        · go_wp2_with fail
          refine (l1At_any p r m _ D i k _ (h1.roInts 6 rfl) HDl.out (by omega) hi hk).mono ?_
          rintro (e : Ending) w2 ⟨rfl, hb1⟩
          replace h1 := h1.on hb1
          clear hb1 x0 x1 x2 x3
          have hlt : i * m + k < D.length := by rw [HDl.out]; have := row_bd (c := m) hi; omega
          obtain ⟨x, hx⟩ : ∃ x, x = vec D (i * m + k) := ⟨_, rfl⟩
          have hxr : x = vec (rowM m D i) k := by rw [hx, rowM, vec_tab hk]
          have hxb := resid_vec rD hlt
          rw [← hx] at hxb ⊢
          have HX := Lib.hid hxr
          clear hx hxr hlt
          by_cases hx0 : x = 0
          · have HM := Lib.hid (mulRows_same (p := p) (r := r) (c := c) (E := E) (show vec (rowM m D i) k = 0 by rw [← HX.out]; exact hx0))
            subst hx0
            go_wp2
            go_loopw [9] (fun v9 wr => v9 = .int .i64 0 ∧ St w wr [.box B5 [.int .i64 p, .int .i64 r, .int .i64 c, .slice A5 (r * c) c5], .own (.slice A5 (r * c) c5) (flat c (mulRows p r m c D E i k)), .box (w.heap.size + 1 + 1) [.int .i64 0, .int .i64 0, .int .i64 0, .slice none 0 0], .box (w.heap.size + 1) [.int .i64 q, .int .i64 m, .int .i64 c, .slice A2 E.length k2], .box w.heap.size [.int .i64 p, .int .i64 r, .int .i64 m, .slice A D.length k0], .ro (.slice A2 E.length k2) E, .ro (.slice A D.length k0) D]) (fun _ _ => 0)
            case atStart => exact ⟨rfl, h1⟩
            case round =>
              clear h1
              obtain ⟨rfl, h1⟩ := hrel
              obtain ⟨y0, y1, y2, y3⟩ := h1.box4 3 rfl
              by_cases hc0 : (0 : Int) < c
              · go_wp2
                go_roundw
                case rel => exact ⟨k + 1, by go_num, by omega, by rw [HM.out]; exact h1⟩
                case measure => simp [intOf]; omega
              · go_wp2
                go_roundw
                case rel => exact ⟨k + 1, by go_num, by omega, by rw [HM.out]; exact h1⟩
                case measure => simp [intOf]; omega
          · have t1 : (x != 0) = true := by simp [hx0]
            obtain ⟨old, hold⟩ : ∃ old, old = mulRow p m c D E i k := ⟨_, rfl⟩
            obtain ⟨new, hnew⟩ : ∃ new, new = mulRow p m c D E i (k + 1) := ⟨_, rfl⟩
            have hM := mulRow_next (p := p) (c := c) (E := E) hk (show vec (rowM m D i) k ≠ 0 by rw [← HX.out]; exact hx0)
            obtain ⟨o1, o2⟩ := mulRow_ok hp m c D E i (show k ≤ m by omega)
            obtain ⟨o3, o4⟩ := mulRow_ok hp m c D E i (show k + 1 ≤ m by omega)
            rw [← hold] at o1 o2 hM
            rw [← hnew] at o3 o4 hM
            rw [← HX.out] at hM
            have HM := Lib.hid hM
            have O1 := Lib.hid o1
            have O2 := Lib.hid o2
            have O3 := Lib.hid o3
            have HRow : Hid (rowOf (mulRows p r m c D E i k) i = old) := by
              show _ = _
              rw [rowOf_mulRows hi, if_neg (by omega), if_pos rfl, hold]
            have h1s : (mulRows p r m c D E i k).set i (mixTo c old new 0) = mulRows p r m c D E i k := by
              rw [mixTo_zero o1]
              refine rows_ext (by simp) fun a ha => ?_
              rw [rowOf_set (by rw [length_mulRows]; exact hi)]
              split
              · rename_i e; rw [← e, HRow.out]
              · rfl
            have h1e : (mulRows p r m c D E i k).set i (mixTo c old new c) = mulRows p r m c D E i (k + 1) := by
              rw [mixTo_end o3, hnew, mulRows_step hi]
            have HS := Lib.hid h1s
            have HEnd := Lib.hid h1e
            clear h1s h1e hM o1 o2 o3 o4 hold hnew hx0
            go_wp2
            rw [← HS.out] at h1
            go_loopw [9] (fun v9 wr => ∃ j : Nat, v9 = .int .i64 j ∧ j ≤ c ∧ St w wr [.box B5 [.int .i64 p, .int .i64 r, .int .i64 c, .slice A5 (r * c) c5], .own (.slice A5 (r * c) c5) (flat c ((mulRows p r m c D E i k).set i (mixTo c old new j))), .box (w.heap.size + 1 + 1) [.int .i64 0, .int .i64 0, .int .i64 0, .slice none 0 0], .box (w.heap.size + 1) [.int .i64 q, .int .i64 m, .int .i64 c, .slice A2 E.length k2], .box w.heap.size [.int .i64 p, .int .i64 r, .int .i64 m, .slice A D.length k0], .ro (.slice A2 E.length k2) E, .ro (.slice A D.length k0) D]) (fun v9 _ => c - (intOf v9).toNat)
            case atStart => exact ⟨0, rfl, by omega, h1⟩
            case round =>
              clear h1
              obtain ⟨j, rfl, a3, h1⟩ := hrel
              obtain ⟨y0, y1, y2, y3⟩ := h1.box4 3 rfl
              by_cases hj : j < c
              · have hbd := row_bd (c := c) hi
                have hrl : i < (mulRows p r m c D E i k).length := by rw [length_mulRows]; exact hi
                have hml := length_mixTo c old new j
                have hLl : (flat c ((mulRows p r m c D E i k).set i (mixTo c old new j))).length = r * c := by rw [length_flat, List.length_set, length_mulRows]
                have hlt : i * c + j < (flat c ((mulRows p r m c D E i k).set i (mixTo c old new j))).length := by rw [hLl]; omega
                obtain ⟨s1, s2, s3, s4⟩ := row_int (c := c) hi (show r * c ≤ 1600 by omega)
                obtain ⟨g, rfl, hn9⟩ := h1.ownSomeA 1 rfl (by rw [hLl]; omega)
                have hrow : rowOf ((mulRows p r m c D E i k).set i (mixTo c old new j)) i = mixTo c old new j := by rw [rowOf_set hrl, if_pos rfl]
                have hv : vec (flat c ((mulRows p r m c D E i k).set i (mixTo c old new j))) (i * c + j) = vec old j := by
                  rw [vec_flat (by rw [List.length_set]; exact hrl) hj, hrow]
                  exact mixTo_ge (Nat.le_refl j) hj
                have hset := flat_set (C := c) (rows := (mulRows p r m c D E i k).set i (mixTo c old new j)) (vec new j) (by rw [List.length_set]; exact hrl) hj (by rw [hrow]; exact hml)
                rw [hrow, mixTo_set, List.set_set] at hset
                have hnj : vec new j = (vec old j + x * vec (rowM c E k) j) % p := by rw [HM.out]; exact vec_addL x p (by rw [length_rowM, O1.out]) (by rw [O1.out]; exact hj)
                have hy : vec (rowM c E k) j = vec E (k * c + j) := by rw [rowM, vec_tab hj]
                have hor := resid_vec O2.out (i := j) (by rw [O1.out]; exact hj)
                have hel : k * c + j < E.length := by rw [HEl.out]; have := row_bd (c := c) hk; omega
                have hyr := resid_vec rE hel
                rw [hnj, hy] at hset
                obtain ⟨xo, hxo⟩ : ∃ xo, xo = vec old j := ⟨_, rfl⟩
                obtain ⟨y, hyy⟩ : ∃ y, y = vec E (k * c + j) := ⟨_, rfl⟩
                rw [← hxo] at hor hv hset
                rw [← hyy] at hyr hset
                have hat : (i : Int) * c + j = ((i * c + j : Nat) : Int) := by simp
                have hxy := mul_rng hxb hyr hp'
                have HA := Lib.hid (show (∀ W, Ints W (.slice A2 E.length k2) E → Calls Try.prog 117 #[.agg #[.int .i64 q, .int .i64 m, .int .i64 c, .slice A2 E.length k2], .int .i64 k, .int .i64 j] W (fun e w' => e = .returned (.int .i64 y) ∧ Below W.heap.size W w')) from fun W hW => by rw [hyy]; exact l1At_any q m c _ E k j W hW HEl.out (by omega) hk hj)
                obtain ⟨qq, hqq⟩ : ∃ qq, qq = i * c + j := ⟨_, rfl⟩
                rw [← hqq] at hat hlt hset hv
                have iq : (qq : Int) < ((r * c : Nat) : Int) := by rw [← hLl]; omega
                have iq2 : (qq : Int) < (r : Int) * c := by rw [← Int.natCast_mul]; exact iq
                have HSet := Lib.hid hset
                have HV := Lib.hid hv
                have HLt := Lib.hid hlt
                have hw1 : IntKind.i64.wrap ((i : Int) * c) = (i : Int) * c := wrap_ok (by omega) (by omega)
                have hw2 : IntKind.i64.wrap ((qq : Nat) : Int) = qq := wrap_ok (by omega) (by omega)
                have hw3 : IntKind.i64.wrap (x * y) = x * y := wrap_ok (by omega) (by omega)
                have hw4 : IntKind.i64.wrap (xo + x * y) = xo + x * y := wrap_ok (by omega) (by omega)
                have hw5 : (xo + x * y).tmod p = (xo + x * y) % p := rem_ok (by omega)
                have hp0 : ¬ p = 0 := by omega
                have HWs := Lib.hid (show _ ∧ _ ∧ _ from ⟨hw3, hw4, hw5⟩)
                clear hbd hrl hml hLl hn9 hrow hnj hy hor hel hyr hxo hyy hqq hset hv hlt hw3 hw4 hw5
                go_wp2_with fail
                clear y0 y1 y2 y3
                have g0 := h1.drew
                have HC := Lib.hid (fun (W : World) (h : W.cell? ⟨g, qq, none⟩ = some (.int .i64 (vec (flat c ((mulRows p r m c D E i k).set i (mixTo c old new j))) qq))) => (show W.cell? ⟨g, qq, none⟩ = some (.int .i64 xo) by rw [← HV.out]; exact h))
                refine wp_region_cut (S := fun w' => (w'.cell? ⟨B5, 0, none⟩ = some (.int .i64 p) ∧ w'.cell? ⟨B5, 1, none⟩ = some (.int .i64 r) ∧ w'.cell? ⟨B5, 2, none⟩ = some (.int .i64 c) ∧ w'.cell? ⟨B5, 3, none⟩ = some (.slice (some ⟨g, 0, none⟩) (r * c) c5)) ∧ (w'.cell? ⟨w.heap.size + 1, 0, none⟩ = some (.int .i64 q) ∧ w'.cell? ⟨w.heap.size + 1, 1, none⟩ = some (.int .i64 m) ∧ w'.cell? ⟨w.heap.size + 1, 2, none⟩ = some (.int .i64 c) ∧ w'.cell? ⟨w.heap.size + 1, 3, none⟩ = some (.slice A2 E.length k2)) ∧ (w'.cell? ⟨w.heap.size, 0, none⟩ = some (.int .i64 p) ∧ w'.cell? ⟨w.heap.size, 1, none⟩ = some (.int .i64 r) ∧ w'.cell? ⟨w.heap.size, 2, none⟩ = some (.int .i64 m) ∧ w'.cell? ⟨w.heap.size, 3, none⟩ = some (.slice A D.length k0)) ∧ w'.cell? ⟨g, qq, none⟩ = some (.int .i64 xo)) 29 (by kernel_rfl) (by kernel_rfl) ⟨g0.box4 0 rfl, g0.box4 3 rfl, g0.box4 4 rfl, HC.out _ (g0.ownCellA 1 rfl HLt.out).1⟩ (fun hHeld => ?_)
                simp only [List.take_succ_cons, List.take_zero]
                refine anyH_take (v := ?_) 0 rfl (by kernel_rfl) (by kernel_rfl) (by kernel_rfl) (fun _ _ _ h => h) rfl ?_ hHeld ?_
                rotate_left
                · intro w' hSw
                  go_simp
                  try with_reducible rfl
                try simp only [Act.put, List.setIfInBounds_toArray, List.set_cons_zero, List.set_cons_succ]
                refine anyH_take (v := ?_) 1 rfl (by kernel_rfl) (by kernel_rfl) (by kernel_rfl) (fun _ _ _ h => h) rfl ?_ hHeld ?_
                rotate_left
                · intro w' hSw
                  go_simp
                  try with_reducible rfl
                try simp only [Act.put, List.setIfInBounds_toArray, List.set_cons_zero, List.set_cons_succ]
                refine anyH_take (v := ?_) 2 rfl (by kernel_rfl) (by kernel_rfl) (by kernel_rfl) (fun _ _ _ h => h) rfl ?_ hHeld ?_
                rotate_left
                · intro w' hSw
                  go_simp
                  try with_reducible rfl
                try simp only [Act.put, List.setIfInBounds_toArray, List.set_cons_zero, List.set_cons_succ]
                refine anyH_take (v := ?_) 3 rfl (by kernel_rfl) (by kernel_rfl) (by kernel_rfl) (fun _ _ _ h => h) rfl ?_ hHeld ?_
                rotate_left
                · intro w' hSw
                  go_simp
                  try with_reducible rfl
                try simp only [Act.put, List.setIfInBounds_toArray, List.set_cons_zero, List.set_cons_succ]
                refine anyH_take (v := ?_) 4 rfl (by kernel_rfl) (by kernel_rfl) (by kernel_rfl) (fun _ _ _ h => h) rfl ?_ hHeld ?_
                rotate_left
                · intro w' hSw
                  go_simp
                  try with_reducible rfl
                try simp only [Act.put, List.setIfInBounds_toArray, List.set_cons_zero, List.set_cons_succ]
                refine anyH_take (v := ?_) 5 rfl (by kernel_rfl) (by kernel_rfl) (by kernel_rfl) (fun _ _ _ h => h) rfl ?_ hHeld ?_
                rotate_left
                · intro w' hSw
                  go_simp
                  try with_reducible rfl
                try simp only [Act.put, List.setIfInBounds_toArray, List.set_cons_zero, List.set_cons_succ]
                refine anyH_take (v := ?_) 6 rfl (by kernel_rfl) (by kernel_rfl) (by kernel_rfl) (fun _ _ _ h => h) rfl ?_ hHeld ?_
                rotate_left
                · intro w' hSw
                  go_simp
                  try with_reducible rfl
                try simp only [Act.put, List.setIfInBounds_toArray, List.set_cons_zero, List.set_cons_succ]
                refine anyH_take (v := ?_) 7 rfl (by kernel_rfl) (by kernel_rfl) (by kernel_rfl) (fun _ _ _ h => h) rfl ?_ hHeld ?_
                rotate_left
                · intro w' hSw
                  go_simp
                  try with_reducible rfl
                try simp only [Act.put, List.setIfInBounds_toArray, List.set_cons_zero, List.set_cons_succ]
                refine anyH_take (v := ?_) 8 rfl (by kernel_rfl) (by kernel_rfl) (by kernel_rfl) (fun _ _ _ h => h) rfl ?_ hHeld ?_
                rotate_left
                · intro w' hSw
                  go_simp
                  try with_reducible rfl
                try simp only [Act.put, List.setIfInBounds_toArray, List.set_cons_zero, List.set_cons_succ]
                refine anyH_take (v := ?_) 9 rfl (by kernel_rfl) (by kernel_rfl) (by kernel_rfl) (fun _ _ _ h => h) rfl ?_ hHeld ?_
                rotate_left
                · intro w' hSw
                  go_simp
                  try with_reducible rfl
                try simp only [Act.put, List.setIfInBounds_toArray, List.set_cons_zero, List.set_cons_succ]
                refine anyH_take (v := ?_) 10 rfl (by kernel_rfl) (by kernel_rfl) (by kernel_rfl) (fun _ _ _ h => h) rfl ?_ hHeld ?_
                rotate_left
                · intro w' hSw
                  go_simp
                  try with_reducible rfl
                try simp only [Act.put, List.setIfInBounds_toArray, List.set_cons_zero, List.set_cons_succ]
                refine anyH_take (v := ?_) 11 rfl (by kernel_rfl) (by kernel_rfl) (by kernel_rfl) (fun _ _ _ h => h) rfl ?_ hHeld ?_
                rotate_left
                · intro w' hSw
                  go_simp
                  try with_reducible rfl
                try simp only [Act.put, List.setIfInBounds_toArray, List.set_cons_zero, List.set_cons_succ]
                refine anyH_take (v := ?_) 12 rfl (by kernel_rfl) (by kernel_rfl) (by kernel_rfl) (fun _ _ _ h => h) rfl ?_ hHeld ?_
                rotate_left
                · intro w' hSw
                  go_simp
                  try with_reducible rfl
                try simp only [Act.put, List.setIfInBounds_toArray, List.set_cons_zero, List.set_cons_succ]
                refine anyH_take (v := ?_) 13 rfl (by kernel_rfl) (by kernel_rfl) (by kernel_rfl) (fun _ _ _ h => h) rfl ?_ hHeld ?_
                rotate_left
                · intro w' hSw
                  go_simp
                  try with_reducible rfl
                try simp only [Act.put, List.setIfInBounds_toArray, List.set_cons_zero, List.set_cons_succ]
                refine anyH_take (v := ?_) 14 rfl (by kernel_rfl) (by kernel_rfl) (by kernel_rfl) (fun _ _ _ h => h) rfl ?_ hHeld ?_
                rotate_left
                · intro w' hSw
                  go_simp
                  try with_reducible rfl
                try simp only [Act.put, List.setIfInBounds_toArray, List.set_cons_zero, List.set_cons_succ]
                refine anyH_take (v := ?_) 15 rfl (by kernel_rfl) (by kernel_rfl) (by kernel_rfl) (fun _ _ _ h => h) rfl ?_ hHeld ?_
                rotate_left
                · intro w' hSw
                  go_simp
                  try with_reducible rfl
                try simp only [Act.put, List.setIfInBounds_toArray, List.set_cons_zero, List.set_cons_succ]
                refine anyH_take (v := ?_) 16 rfl (by kernel_rfl) (by kernel_rfl) (by kernel_rfl) (fun _ _ _ h => h) rfl ?_ hHeld ?_
                rotate_left
                · intro w' hSw
                  go_simp
                  try with_reducible rfl
                try simp only [Act.put, List.setIfInBounds_toArray, List.set_cons_zero, List.set_cons_succ]
                refine anyH_take (v := ?_) 17 rfl (by kernel_rfl) (by kernel_rfl) (by kernel_rfl) (fun _ _ _ h => h) rfl ?_ hHeld ?_
                rotate_left
                · intro w' hSw
                  go_simp
                  try with_reducible rfl
                try simp only [Act.put, List.setIfInBounds_toArray, List.set_cons_zero, List.set_cons_succ]
                refine anyH_take (v := ?_) 18 rfl (by kernel_rfl) (by kernel_rfl) (by kernel_rfl) (fun _ _ _ h => h) rfl ?_ hHeld ?_
                rotate_left
                · intro w' hSw
                  go_simp
                  try with_reducible rfl
                try simp only [Act.put, List.setIfInBounds_toArray, List.set_cons_zero, List.set_cons_succ]
                refine anyH_take (v := ?_) 19 rfl (by kernel_rfl) (by kernel_rfl) (by kernel_rfl) (fun _ _ _ h => h) rfl ?_ hHeld ?_
                rotate_left
                · intro w' hSw
                  go_simp
                  try with_reducible rfl
                try simp only [Act.put, List.setIfInBounds_toArray, List.set_cons_zero, List.set_cons_succ]
                refine anyH_take (v := ?_) 20 rfl (by kernel_rfl) (by kernel_rfl) (by kernel_rfl) (fun _ _ _ h => h) rfl ?_ hHeld ?_
                rotate_left
                · intro w' hSw
                  go_simp
                  try with_reducible rfl
                try simp only [Act.put, List.setIfInBounds_toArray, List.set_cons_zero, List.set_cons_succ]
                refine anyH_take (v := ?_) 21 rfl (by kernel_rfl) (by kernel_rfl) (by kernel_rfl) (fun _ _ _ h => h) rfl ?_ hHeld ?_
                rotate_left
                · intro w' hSw
                  go_simp
                  try with_reducible rfl
                try simp only [Act.put, List.setIfInBounds_toArray, List.set_cons_zero, List.set_cons_succ]
                refine anyH_take (v := ?_) 25 rfl (by kernel_rfl) (by kernel_rfl) (by kernel_rfl) (fun _ _ _ h => h) rfl ?_ hHeld ?_
                rotate_left
                · intro w' hSw
                  go_simp
                  try with_reducible rfl
                try simp only [Act.put, List.setIfInBounds_toArray, List.set_cons_zero, List.set_cons_succ]
                refine anyH_take (v := ?_) 26 rfl (by kernel_rfl) (by kernel_rfl) (by kernel_rfl) (fun _ _ _ h => h) rfl ?_ hHeld ?_
                rotate_left
                · intro w' hSw
                  go_simp
                  try with_reducible rfl
                try simp only [Act.put, List.setIfInBounds_toArray, List.set_cons_zero, List.set_cons_succ]
                refine wpAnyH_ready (rs := [22]) (by kernel_rfl) (by simp) ?_
                refine ready_cons rfl (fun K hK => ?_) AllReadyH.nil
                go_simp
                refine (HA.out _ (g0.roInts 5 rfl)).mono ?_
                rintro (e : Ending) w4 ⟨rfl, hb4⟩
                have g1 := g0.on hb4
                clear hb4
                show K _ _
                refine hK.out _ _ ?_ (fun hHeld => ?_)
                · exact ⟨g1.box4 0 rfl, g1.box4 3 rfl, g1.box4 4 rfl, HC.out _ (g1.ownCellA 1 rfl HLt.out).1⟩
                clear hK K
                try simp only [Act.put, List.setIfInBounds_toArray, List.set_cons_zero, List.set_cons_succ]
                obtain ⟨hw3, hw4, hw5⟩ := HWs.out
                refine anyH_take (v := ?_) 23 rfl (by kernel_rfl) (by kernel_rfl) (by kernel_rfl) (fun _ _ _ h => h) rfl ?_ hHeld ?_
                rotate_left
                · intro w' hSw
                  go_simp
                  try with_reducible rfl
                try simp only [Act.put, List.setIfInBounds_toArray, List.set_cons_zero, List.set_cons_succ]
                refine anyH_take (v := ?_) 24 rfl (by kernel_rfl) (by kernel_rfl) (by kernel_rfl) (fun _ _ _ h => h) rfl ?_ hHeld ?_
                rotate_left
                · intro w' hSw
                  go_simp
                  try with_reducible rfl
                try simp only [Act.put, List.setIfInBounds_toArray, List.set_cons_zero, List.set_cons_succ]
                refine anyH_take (v := ?_) 27 rfl (by kernel_rfl) (by kernel_rfl) (by kernel_rfl) (fun _ _ _ h => h) rfl ?_ hHeld ?_
                rotate_left
                · intro w' hSw
                  go_simp
                  try with_reducible rfl
                try simp only [Act.put, List.setIfInBounds_toArray, List.set_cons_zero, List.set_cons_succ]
                refine anyH_take (v := ?_) 28 rfl (by kernel_rfl) (by kernel_rfl) (by kernel_rfl) (fun _ _ _ h => h) rfl ?_ hHeld ?_
                rotate_left
                · intro w' hSw
                  go_simp
                  try with_reducible rfl
                try simp only [Act.put, List.setIfInBounds_toArray, List.set_cons_zero, List.set_cons_succ]
                refine wpAnyH_done (by kernel_rfl) ?_ _
                show wpList _ _ _ _ _ _
                simp only [List.drop_succ_cons, List.drop_zero]
                clear hw3 hw4 hw5
                obtain ⟨v0, f0⟩ := g1.ownCellA 1 rfl HLt.out
                have h3 := g1.set 1 rfl qq ((xo + x * y) % p)
                clear h1 g0
                go_wp2
                go_roundw
                case rel => exact ⟨j + 1, by go_num, by omega, by rw [← HSet.out]; exact h3⟩
                case measure => simp [intOf]; omega
              · obtain rfl : j = c := by omega
                rw [HEnd.out] at h1
                go_wp2
                go_roundw
                case rel => exact ⟨k + 1, by go_num, by omega, h1⟩
                case measure => simp [intOf]; omega
        · obtain rfl : k = m := by omega
          rw [mulRows_row] at h1
          go_wp2
          go_roundw
          case rel => exact ⟨i + 1, by go_num, by omega, h1⟩
          case measure => simp [intOf]; omega
    · obtain rfl : i = r := by omega
      have f0 := h1.free 2 rfl 0
      have f1 := h1.free 2 rfl 1
      have f2 := h1.free 2 rfl 2
      have f3 := h1.free 2 rfl 3
      obtain ⟨v0, v1, v2, v3⟩ := h1.box4 2 rfl
      obtain ⟨z0, z1, z2, z3⟩ := h1.box4 0 rfl
      have h2 := (((h1.setBox 2 rfl 0 (.int .i64 p)).setBox 2 rfl 1 (.int .i64 i)).setBox 2 rfl 2 (.int .i64 c)).setBox 2 rfl 3 (.slice A5 (i * c) c5)
      obtain ⟨r0, r1, r2', r3⟩ := h2.box4 2 rfl
      go_wp2
      refine bodyPost_ret (v := .agg #[.int .i64 p, .int .i64 i, .int .i64 c, .slice A5 (i * c) c5]) (by simp [results, Try.results149, go_sem, r0, r1, r2', r3]) rfl ⟨_, rfl, ?_, h2.below⟩
      have := h2.own 1 rfl
      exact this
end Go.Proofs.Ytechjmckfedblaa
