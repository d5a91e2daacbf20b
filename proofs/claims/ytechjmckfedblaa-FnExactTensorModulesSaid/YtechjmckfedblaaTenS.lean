/- TensorModules of the reference. -/
import Derived.Test.YtechjmckfedblaaTenB
import Derived.Test.YtechjmckfedblaaZeroMod
import Derived.Test.YtechjmckfedblaaRegH
namespace Go.Proofs.Ytechjmckfedblaa
set_option maxRecDepth 100000
open Go.RowKit

theorem tn_idx2 {s t m i k j l : Nat} (hm : m = s * t) (hi : i < s) (hk : k < t) (hj : j < s) (hl : l < t) : (i * t + k) * s * t + j * t + l = (i * t + k) * (s * t) + (j * t + l) ∧ i * t ≤ m ∧ i * t + k < m ∧ (i * t + k) * s ≤ m * m ∧ (i * t + k) * s * t + j * t + l < m * m := by
  subst hm
  have h1 := tn_idx hi hk
  have h2 := tn_idx hj hl
  have h3 := row_bd (c := s * t) h1
  have e : (i * t + k) * s * t = (i * t + k) * (s * t) := Nat.mul_assoc _ _ _
  have h4 : (i * t + k) * s ≤ (i * t + k) * s * t := Nat.le_mul_of_pos_right _ (by omega)
  have h5 : i * t + k ≤ s * t := by omega
  refine ⟨by omega, by omega, h1, by omega, by omega⟩

set_option maxHeartbeats 4000000 in
theorem l10Tensor_any (p q : Int) (s t m : Nat) (va vb : Value) (D E : List Int) (w : World) (ha : Ints w va D) (hb : Ints w vb E) (hm : m = s * t) (hD : D.length = s * s) (hE : E.length = t * t) (hm30 : m ≤ 30) (hs : s ≤ 30) (ht : t ≤ 30) (hp : 2 ≤ p) (hp' : p ≤ 10007) (rD : resid p D = true) (rE : resid p E = true) :
    Calls Try.prog 63 #[.agg #[.int .i64 p, .int .i64 s, .int .i64 s, va], .agg #[.int .i64 q, .int .i64 t, .int .i64 t, vb]] w (RetMat w p m m (tnD p s t D E)) := by
  have h1 := (((((St.start w).arg ha).arg hb).box [.int .i64 p, .int .i64 s, .int .i64 s, va] 32).box [.int .i64 q, .int .i64 t, .int .i64 t, vb] 32).box [.int .i64 0, .int .i64 0, .int .i64 0, .slice none 0 0] 32
  simp only [World.size_alloc] at h1
  obtain ⟨A, k0, rfl, _, _, _⟩ := id ha
  obtain ⟨A2, k2, rfl, _, _, _⟩ := id hb
  have hmm := mul_le hm30 hm30
  have hss := mul_le hs hs
  have htt := mul_le ht ht
  have HDl := Lib.hid hD
  have HEl := Lib.hid hE
  have HM := Lib.hid hm
  have HLb := Lib.hid (fun (i k j l : Nat) => (show (tnTo p s t D E i k j l).length = m * m by rw [length_tnTo, HM.out]))
  have HZ := Lib.hid (show List.replicate (m * m) 0 = tnTo p s t D E 0 0 0 0 by rw [tn_zero, HM.out])
  have HEnd := Lib.hid (show tnTo p s t D E s 0 0 0 = tnD p s t D E from tn_end p s t D E)
  have y0 : (s : Int) * (t : Int) = (m : Int) := by rw [hm]; simp
  have y1 : IntKind.i64.wrap (m : Int) = m := wrap_ok (by omega) (by omega)
  clear ha hb hD hE hm
  obtain ⟨x0, x1, x2, x3⟩ := h1.box4 2 rfl
  obtain ⟨z0, z1, z2, z3⟩ := h1.box4 1 rfl
  have HL1 := Lib.hid (fun W => l1Zero_any p m m W (by omega))
  go_enter Try.func63, Try.ntmps63
  go_wp2_with fail
  refine (HL1.out _).mono ?_
  rintro (e : Ending) w1 ⟨u, rfl, ho, hb1⟩
  obtain ⟨A5, c5, rfl, _, _, _⟩ := id ho.ints
  rw [List.length_replicate] at ho ⊢
  replace h1 := (h1.pushOwn hb1 ho).box [.int .i64 p, .int .i64 m, .int .i64 m, .slice A5 (m * m) c5] 32
  clear ho hb1 x0 x1 x2 x3 z0 z1 z2 z3
  rw [HZ.out] at h1
  clear HZ
  go_wp2
  generalize w1.heap.size = B5 at h1 ⊢
  go_loopw [8] (fun v6 wr => ∃ i : Nat, v6 = .int .i64 i ∧ i ≤ s ∧ St w wr [.box B5 [.int .i64 p, .int .i64 m, .int .i64 m, .slice A5 (m * m) c5], .own (.slice A5 (m * m) c5) (tnTo p s t D E i 0 0 0), .box (w.heap.size + 1 + 1) [.int .i64 0, .int .i64 0, .int .i64 0, .slice none 0 0], .box (w.heap.size + 1) [.int .i64 q, .int .i64 t, .int .i64 t, .slice A2 E.length k2], .box w.heap.size [.int .i64 p, .int .i64 s, .int .i64 s, .slice A D.length k0], .ro (.slice A2 E.length k2) E, .ro (.slice A D.length k0) D]) (fun v6 _ => s - (intOf v6).toNat)
  case atStart => exact ⟨0, rfl, by omega, h1⟩
  case round =>
    clear h1
    obtain ⟨i, rfl, a1, h1⟩ := hrel
    by_cases hi : i < s
    · go_wp2
      go_loopw [9] (fun v7 wr => ∃ k : Nat, v7 = .int .i64 k ∧ k ≤ t ∧ St w wr [.box B5 [.int .i64 p, .int .i64 m, .int .i64 m, .slice A5 (m * m) c5], .own (.slice A5 (m * m) c5) (tnTo p s t D E i k 0 0), .box (w.heap.size + 1 + 1) [.int .i64 0, .int .i64 0, .int .i64 0, .slice none 0 0], .box (w.heap.size + 1) [.int .i64 q, .int .i64 t, .int .i64 t, .slice A2 E.length k2], .box w.heap.size [.int .i64 p, .int .i64 s, .int .i64 s, .slice A D.length k0], .ro (.slice A2 E.length k2) E, .ro (.slice A D.length k0) D]) (fun v7 _ => t - (intOf v7).toNat)
      case atStart => exact ⟨0, rfl, by omega, h1⟩
      case round =>
        clear h1
        obtain ⟨k, rfl, a2, h1⟩ := hrel
        by_cases hk : k < t
        · go_wp2
          go_loopw [10] (fun v10 wr => ∃ c : Nat, v10 = .int .i64 c ∧ c ≤ s ∧ St w wr [.box B5 [.int .i64 p, .int .i64 m, .int .i64 m, .slice A5 (m * m) c5], .own (.slice A5 (m * m) c5) (tnTo p s t D E i k c 0), .box (w.heap.size + 1 + 1) [.int .i64 0, .int .i64 0, .int .i64 0, .slice none 0 0], .box (w.heap.size + 1) [.int .i64 q, .int .i64 t, .int .i64 t, .slice A2 E.length k2], .box w.heap.size [.int .i64 p, .int .i64 s, .int .i64 s, .slice A D.length k0], .ro (.slice A2 E.length k2) E, .ro (.slice A D.length k0) D]) (fun v10 _ => s - (intOf v10).toNat)
          case atStart => exact ⟨0, rfl, by omega, h1⟩
          case round =>
            clear h1
            obtain ⟨c, rfl, a3, h1⟩ := hrel
            by_cases hc : c < s
            · obtain ⟨b1, b2, b3, b4, b5⟩ := tn_idx2 HM.out hi hk (show c < s by omega) (show k < t by omega)
              obtain ⟨g, rfl, hn9⟩ := h1.ownSomeA 1 rfl (by rw [HLb.out]; omega)
              have HLt := Lib.hid (show (i * t + k) * s * t + c * t + k < (tnTo p s t D E i k c 0).length by rw [HLb.out]; omega)
              obtain ⟨c0, hc0⟩ : ∃ c0, c0 = vec (tnTo p s t D E i k c 0) ((i * t + k) * s * t + c * t + k) := ⟨_, rfl⟩
              obtain ⟨x, hx⟩ : ∃ x, x = vec D (i * s + c) := ⟨_, rfl⟩
              have hset : (tnTo p s t D E i k c 0).set ((i * t + k) * s * t + c * t + k) ((c0 + x) % p) = tnTo p s t D E i k (c + 1) 0 := by rw [hc0, hx, b1, tn_cur1 hi hk hc]; exact tn_set1 hi hk hc
              have hc0b : 0 ≤ c0 ∧ c0 < p := by rw [hc0, b1, tn_cur1 hi hk hc]; omega
              have hxb : 0 ≤ x ∧ x < p := by rw [hx]; exact resid_vec rD (by rw [HDl.out]; have := row_bd (c := s) hi; omega)
              have HA := Lib.hid (show ∀ W, Ints W (.slice A D.length k0) D → Calls Try.prog 117 #[.agg #[.int .i64 p, .int .i64 s, .int .i64 s, .slice A D.length k0], .int .i64 i, .int .i64 c] W (fun e w' => e = .returned (.int .i64 x) ∧ Below W.heap.size W w') from fun W hW => by rw [hx]; exact l1At_any p s s _ D i c W hW HDl.out (by omega) hi hc)
              obtain ⟨qi, hqi⟩ : ∃ qi, qi = (i * t + k) * s * t + c * t + k := ⟨_, rfl⟩
              rw [← hqi] at HLt hset hc0 b5
              have iq : (qi : Int) < ((m * m : Nat) : Int) := by omega
              have iq2 : (qi : Int) < (m : Int) * m := by rw [← Int.natCast_mul]; exact iq
              clear b1
              obtain ⟨m1, hm1⟩ : ∃ m1, m1 = i * t := ⟨_, rfl⟩
              rw [← hm1] at b2 b3 b4 hqi
              have e1 : (i : Int) * (t : Int) = (m1 : Int) := by rw [hm1]; simp
              obtain ⟨m2, hm2⟩ : ∃ m2, m2 = m1 + k := ⟨_, rfl⟩
              rw [← hm2] at b3 b4 hqi
              have e2 : (m1 : Int) + (k : Int) = (m2 : Int) := by omega
              obtain ⟨m3, hm3⟩ : ∃ m3, m3 = m2 * s := ⟨_, rfl⟩
              rw [← hm3] at b4 hqi
              have e3 : (m2 : Int) * (s : Int) = (m3 : Int) := by rw [hm3]; simp
              obtain ⟨m4, hm4⟩ : ∃ m4, m4 = m3 * t := ⟨_, rfl⟩
              rw [← hm4] at hqi
              have e4 : (m3 : Int) * (t : Int) = (m4 : Int) := by rw [hm4]; simp
              obtain ⟨m5, hm5⟩ : ∃ m5, m5 = c * t := ⟨_, rfl⟩
              rw [← hm5] at hqi
              have e5 : (c : Int) * (t : Int) = (m5 : Int) := by rw [hm5]; simp
              obtain ⟨m6, hm6⟩ : ∃ m6, m6 = m4 + m5 := ⟨_, rfl⟩
              rw [← hm6] at hqi
              have e6 : (m4 : Int) + (m5 : Int) = (m6 : Int) := by omega
              have e7 : (m6 : Int) + (k : Int) = (qi : Int) := by omega
              have w_m1 : IntKind.i64.wrap (m1 : Int) = m1 := wrap_ok (by omega) (by omega)
              have w_m2 : IntKind.i64.wrap (m2 : Int) = m2 := wrap_ok (by omega) (by omega)
              have w_m3 : IntKind.i64.wrap (m3 : Int) = m3 := wrap_ok (by omega) (by omega)
              have w_m4 : IntKind.i64.wrap (m4 : Int) = m4 := wrap_ok (by omega) (by omega)
              have w_m5 : IntKind.i64.wrap (m5 : Int) = m5 := wrap_ok (by omega) (by omega)
              have w_m6 : IntKind.i64.wrap (m6 : Int) = m6 := wrap_ok (by omega) (by omega)
              have w_qi : IntKind.i64.wrap (qi : Int) = qi := wrap_ok (by omega) (by omega)
              have hw4 : IntKind.i64.wrap (c0 + x) = c0 + x := wrap_ok (by omega) (by omega)
              have hw5 : (c0 + x).tmod p = (c0 + x) % p := rem_ok (by omega)
              have hp0 : ¬ p = 0 := by omega
              have HWs := Lib.hid (show _ ∧ _ from ⟨hw4, hw5⟩)
              have HSet := Lib.hid hset
              have HC := Lib.hid (fun (W : World) (h : W.cell? ⟨g, qi, none⟩ = some (.int .i64 (vec (tnTo p s t D E i k c 0) qi))) => (show W.cell? ⟨g, qi, none⟩ = some (.int .i64 c0) by rw [hc0]; exact h))
              clear hn9 hc0 hx hset hc0b hxb hw4 hw5 hqi hm1 hm2 hm3 hm4 hm6 hm5 b2 b3 b4 b5
              go_upto_region 14 with fail
              have g0 := h1.drew
              refine wp_region_cut (S := fun w' => (w'.cell? ⟨B5, 0, none⟩ = some (.int .i64 p) ∧ w'.cell? ⟨B5, 1, none⟩ = some (.int .i64 m) ∧ w'.cell? ⟨B5, 2, none⟩ = some (.int .i64 m) ∧ w'.cell? ⟨B5, 3, none⟩ = some (.slice (some ⟨g, 0, none⟩) (m * m) c5)) ∧ (w'.cell? ⟨w.heap.size, 0, none⟩ = some (.int .i64 p) ∧ w'.cell? ⟨w.heap.size, 1, none⟩ = some (.int .i64 s) ∧ w'.cell? ⟨w.heap.size, 2, none⟩ = some (.int .i64 s) ∧ w'.cell? ⟨w.heap.size, 3, none⟩ = some (.slice A D.length k0)) ∧ w'.cell? ⟨g, qi, none⟩ = some (.int .i64 c0)) 17 (by kernel_rfl) (by kernel_rfl) ⟨g0.box4 0 rfl, g0.box4 4 rfl, HC.out _ (g0.ownCellA 1 rfl HLt.out).1⟩ (fun hHeld => ?_)
              simp only [List.take_succ_cons, List.take_zero]
              refine anyH_take (v := ?_) 0 rfl (by kernel_rfl) (by kernel_rfl) (by kernel_rfl) (fun _ _ _ h => h) rfl ?_ hHeld ?_
              rotate_left
              · intro w' hSw
                go_simp
                try with_reducible rfl
              try simp only [Act.put, List.setIfInBounds_toArray, List.set_cons_zero, List.set_cons_succ]
              refine anyH_take (v := ?_) 1 rfl (by kernel_rfl) (by kernel_rfl) (by kernel_rfl) (fun _ _ _ h => h) rfl ?_ hHeld ?_
              rotate_left
              · intro w' hSw
                go_simp
                try with_reducible rfl
              try simp only [Act.put, List.setIfInBounds_toArray, List.set_cons_zero, List.set_cons_succ]
              refine anyH_take (v := ?_) 2 rfl (by kernel_rfl) (by kernel_rfl) (by kernel_rfl) (fun _ _ _ h => h) rfl ?_ hHeld ?_
              rotate_left
              · intro w' hSw
                go_simp
                try with_reducible rfl
              try simp only [Act.put, List.setIfInBounds_toArray, List.set_cons_zero, List.set_cons_succ]
              refine anyH_take (v := ?_) 3 rfl (by kernel_rfl) (by kernel_rfl) (by kernel_rfl) (fun _ _ _ h => h) rfl ?_ hHeld ?_
              rotate_left
              · intro w' hSw
                go_simp
                try with_reducible rfl
              try simp only [Act.put, List.setIfInBounds_toArray, List.set_cons_zero, List.set_cons_succ]
              refine anyH_take (v := ?_) 4 rfl (by kernel_rfl) (by kernel_rfl) (by kernel_rfl) (fun _ _ _ h => h) rfl ?_ hHeld ?_
              rotate_left
              · intro w' hSw
                go_simp
                try with_reducible rfl
              try simp only [Act.put, List.setIfInBounds_toArray, List.set_cons_zero, List.set_cons_succ]
              refine anyH_take (v := ?_) 5 rfl (by kernel_rfl) (by kernel_rfl) (by kernel_rfl) (fun _ _ _ h => h) rfl ?_ hHeld ?_
              rotate_left
              · intro w' hSw
                go_simp
                try with_reducible rfl
              try simp only [Act.put, List.setIfInBounds_toArray, List.set_cons_zero, List.set_cons_succ]
              refine anyH_take (v := ?_) 6 rfl (by kernel_rfl) (by kernel_rfl) (by kernel_rfl) (fun _ _ _ h => h) rfl ?_ hHeld ?_
              rotate_left
              · intro w' hSw
                go_simp
                try with_reducible rfl
              try simp only [Act.put, List.setIfInBounds_toArray, List.set_cons_zero, List.set_cons_succ]
              refine anyH_take (v := ?_) 7 rfl (by kernel_rfl) (by kernel_rfl) (by kernel_rfl) (fun _ _ _ h => h) rfl ?_ hHeld ?_
              rotate_left
              · intro w' hSw
                go_simp
                try with_reducible rfl
              try simp only [Act.put, List.setIfInBounds_toArray, List.set_cons_zero, List.set_cons_succ]
              refine anyH_take (v := ?_) 8 rfl (by kernel_rfl) (by kernel_rfl) (by kernel_rfl) (fun _ _ _ h => h) rfl ?_ hHeld ?_
              rotate_left
              · intro w' hSw
                go_simp
                try with_reducible rfl
              try simp only [Act.put, List.setIfInBounds_toArray, List.set_cons_zero, List.set_cons_succ]
              refine anyH_take (v := ?_) 9 rfl (by kernel_rfl) (by kernel_rfl) (by kernel_rfl) (fun _ _ _ h => h) rfl ?_ hHeld ?_
              rotate_left
              · intro w' hSw
                go_simp
                try with_reducible rfl
              try simp only [Act.put, List.setIfInBounds_toArray, List.set_cons_zero, List.set_cons_succ]
              refine anyH_take (v := ?_) 10 rfl (by kernel_rfl) (by kernel_rfl) (by kernel_rfl) (fun _ _ _ h => h) rfl ?_ hHeld ?_
              rotate_left
              · intro w' hSw
                go_simp
                try with_reducible rfl
              try simp only [Act.put, List.setIfInBounds_toArray, List.set_cons_zero, List.set_cons_succ]
              refine anyH_take (v := ?_) 13 rfl (by kernel_rfl) (by kernel_rfl) (by kernel_rfl) (fun _ _ _ h => h) rfl ?_ hHeld ?_
              rotate_left
              · intro w' hSw
                go_simp
                try with_reducible rfl
              try simp only [Act.put, List.setIfInBounds_toArray, List.set_cons_zero, List.set_cons_succ]
              refine anyH_take (v := ?_) 14 rfl (by kernel_rfl) (by kernel_rfl) (by kernel_rfl) (fun _ _ _ h => h) rfl ?_ hHeld ?_
              rotate_left
              · intro w' hSw
                go_simp
                try with_reducible rfl
              try simp only [Act.put, List.setIfInBounds_toArray, List.set_cons_zero, List.set_cons_succ]
              refine wpAnyH_ready (rs := [11]) (by kernel_rfl) (by simp) ?_
              refine ready_cons rfl (fun K hK => ?_) AllReadyH.nil
              go_simp
              refine (HA.out _ (g0.roInts 6 rfl)).mono ?_
              rintro (e : Ending) w4 ⟨rfl, hb4⟩
              have g1 := g0.on hb4
              clear hb4
              show K _ _
              refine hK.out _ _ ?_ (fun hHeld => ?_)
              · exact ⟨g1.box4 0 rfl, g1.box4 4 rfl, HC.out _ (g1.ownCellA 1 rfl HLt.out).1⟩
              clear hK K
              try simp only [Act.put, List.setIfInBounds_toArray, List.set_cons_zero, List.set_cons_succ]
              obtain ⟨hw4, hw5⟩ := HWs.out
              refine anyH_take (v := ?_) 12 rfl (by kernel_rfl) (by kernel_rfl) (by kernel_rfl) (fun _ _ _ h => h) rfl ?_ hHeld ?_
              rotate_left
              · intro w' hSw
                go_simp
                try with_reducible rfl
              try simp only [Act.put, List.setIfInBounds_toArray, List.set_cons_zero, List.set_cons_succ]
              refine anyH_take (v := ?_) 15 rfl (by kernel_rfl) (by kernel_rfl) (by kernel_rfl) (fun _ _ _ h => h) rfl ?_ hHeld ?_
              rotate_left
              · intro w' hSw
                go_simp
                try with_reducible rfl
              try simp only [Act.put, List.setIfInBounds_toArray, List.set_cons_zero, List.set_cons_succ]
              refine anyH_take (v := ?_) 16 rfl (by kernel_rfl) (by kernel_rfl) (by kernel_rfl) (fun _ _ _ h => h) rfl ?_ hHeld ?_
              rotate_left
              · intro w' hSw
                go_simp
                try with_reducible rfl
              try simp only [Act.put, List.setIfInBounds_toArray, List.set_cons_zero, List.set_cons_succ]
              refine wpAnyH_done (by kernel_rfl) ?_ _
              show wpList _ _ _ _ _ _
              simp only [List.drop_succ_cons, List.drop_zero]
              clear hw4 hw5
              obtain ⟨v0, f0⟩ := g1.ownCellA 1 rfl HLt.out
              have h3 := g1.set 1 rfl qi ((c0 + x) % p)
              clear h1 g0
              go_wp2
              go_roundw
              case rel => exact ⟨c + 1, by go_num, by omega, by rw [← HSet.out]; exact h3⟩
              case measure => simp [intOf]; omega
            · obtain rfl : s = c := by omega
              go_wp2
              go_loopw [12] (fun v10 wr => ∃ c : Nat, v10 = .int .i64 c ∧ c ≤ t ∧ St w wr [.box B5 [.int .i64 p, .int .i64 m, .int .i64 m, .slice A5 (m * m) c5], .own (.slice A5 (m * m) c5) (tnTo p s t D E i k s c), .box (w.heap.size + 1 + 1) [.int .i64 0, .int .i64 0, .int .i64 0, .slice none 0 0], .box (w.heap.size + 1) [.int .i64 q, .int .i64 t, .int .i64 t, .slice A2 E.length k2], .box w.heap.size [.int .i64 p, .int .i64 s, .int .i64 s, .slice A D.length k0], .ro (.slice A2 E.length k2) E, .ro (.slice A D.length k0) D]) (fun v10 _ => t - (intOf v10).toNat)
              case atStart => exact ⟨0, rfl, by omega, h1⟩
              case round =>
                clear h1
                obtain ⟨c, rfl, a3, h1⟩ := hrel
                by_cases hc : c < t
                · obtain ⟨b1, b2, b3, b4, b5⟩ := tn_idx2 HM.out hi hk (show i < s by omega) (show c < t by omega)
                  obtain ⟨g, rfl, hn9⟩ := h1.ownSomeA 1 rfl (by rw [HLb.out]; omega)
                  have HLt := Lib.hid (show (i * t + k) * s * t + i * t + c < (tnTo p s t D E i k s c).length by rw [HLb.out]; omega)
                  obtain ⟨c0, hc0⟩ : ∃ c0, c0 = vec (tnTo p s t D E i k s c) ((i * t + k) * s * t + i * t + c) := ⟨_, rfl⟩
                  obtain ⟨x, hx⟩ : ∃ x, x = vec E (k * t + c) := ⟨_, rfl⟩
                  have hset : (tnTo p s t D E i k s c).set ((i * t + k) * s * t + i * t + c) ((c0 + x) % p) = tnTo p s t D E i k s (c + 1) := by rw [hc0, hx, b1, tn_cur2 hi hk hc]; exact tn_set2 hi hk hc
                  have hc0b : 0 ≤ c0 ∧ c0 < p := by rw [hc0, b1, tn_cur2 hi hk hc]; exact ⟨Int.emod_nonneg _ (by omega), Int.emod_lt_of_pos _ (by omega)⟩
                  have hxb : 0 ≤ x ∧ x < p := by rw [hx]; exact resid_vec rE (by rw [HEl.out]; have := row_bd (c := t) hk; omega)
                  have HA := Lib.hid (show ∀ W, Ints W (.slice A2 E.length k2) E → Calls Try.prog 117 #[.agg #[.int .i64 q, .int .i64 t, .int .i64 t, .slice A2 E.length k2], .int .i64 k, .int .i64 c] W (fun e w' => e = .returned (.int .i64 x) ∧ Below W.heap.size W w') from fun W hW => by rw [hx]; exact l1At_any q t t _ E k c W hW HEl.out (by omega) hk hc)
                  obtain ⟨qi, hqi⟩ : ∃ qi, qi = (i * t + k) * s * t + i * t + c := ⟨_, rfl⟩
                  rw [← hqi] at HLt hset hc0 b5
                  have iq : (qi : Int) < ((m * m : Nat) : Int) := by omega
                  have iq2 : (qi : Int) < (m : Int) * m := by rw [← Int.natCast_mul]; exact iq
                  clear b1
                  obtain ⟨m1, hm1⟩ : ∃ m1, m1 = i * t := ⟨_, rfl⟩
                  rw [← hm1] at b2 b3 b4 hqi
                  have e1 : (i : Int) * (t : Int) = (m1 : Int) := by rw [hm1]; simp
                  obtain ⟨m2, hm2⟩ : ∃ m2, m2 = m1 + k := ⟨_, rfl⟩
                  rw [← hm2] at b3 b4 hqi
                  have e2 : (m1 : Int) + (k : Int) = (m2 : Int) := by omega
                  obtain ⟨m3, hm3⟩ : ∃ m3, m3 = m2 * s := ⟨_, rfl⟩
                  rw [← hm3] at b4 hqi
                  have e3 : (m2 : Int) * (s : Int) = (m3 : Int) := by rw [hm3]; simp
                  obtain ⟨m4, hm4⟩ : ∃ m4, m4 = m3 * t := ⟨_, rfl⟩
                  rw [← hm4] at hqi
                  have e4 : (m3 : Int) * (t : Int) = (m4 : Int) := by rw [hm4]; simp
                  obtain ⟨m6, hm6⟩ : ∃ m6, m6 = m4 + m1 := ⟨_, rfl⟩
                  rw [← hm6] at hqi
                  have e6 : (m4 : Int) + (m1 : Int) = (m6 : Int) := by omega
                  have e7 : (m6 : Int) + (c : Int) = (qi : Int) := by omega
                  have w_m1 : IntKind.i64.wrap (m1 : Int) = m1 := wrap_ok (by omega) (by omega)
                  have w_m2 : IntKind.i64.wrap (m2 : Int) = m2 := wrap_ok (by omega) (by omega)
                  have w_m3 : IntKind.i64.wrap (m3 : Int) = m3 := wrap_ok (by omega) (by omega)
                  have w_m4 : IntKind.i64.wrap (m4 : Int) = m4 := wrap_ok (by omega) (by omega)
                  have w_m6 : IntKind.i64.wrap (m6 : Int) = m6 := wrap_ok (by omega) (by omega)
                  have w_qi : IntKind.i64.wrap (qi : Int) = qi := wrap_ok (by omega) (by omega)
                  have hw4 : IntKind.i64.wrap (c0 + x) = c0 + x := wrap_ok (by omega) (by omega)
                  have hw5 : (c0 + x).tmod p = (c0 + x) % p := rem_ok (by omega)
                  have hp0 : ¬ p = 0 := by omega
                  have HWs := Lib.hid (show _ ∧ _ from ⟨hw4, hw5⟩)
                  have HSet := Lib.hid hset
                  have HC := Lib.hid (fun (W : World) (h : W.cell? ⟨g, qi, none⟩ = some (.int .i64 (vec (tnTo p s t D E i k s c) qi))) => (show W.cell? ⟨g, qi, none⟩ = some (.int .i64 c0) by rw [hc0]; exact h))
                  clear hn9 hc0 hx hset hc0b hxb hw4 hw5 hqi hm1 hm2 hm3 hm4 hm6 b2 b3 b4 b5
                  go_upto_region 19 with fail
                  have g0 := h1.drew
                  refine wp_region_cut (S := fun w' => (w'.cell? ⟨B5, 0, none⟩ = some (.int .i64 p) ∧ w'.cell? ⟨B5, 1, none⟩ = some (.int .i64 m) ∧ w'.cell? ⟨B5, 2, none⟩ = some (.int .i64 m) ∧ w'.cell? ⟨B5, 3, none⟩ = some (.slice (some ⟨g, 0, none⟩) (m * m) c5)) ∧ (w'.cell? ⟨w.heap.size, 0, none⟩ = some (.int .i64 p) ∧ w'.cell? ⟨w.heap.size, 1, none⟩ = some (.int .i64 s) ∧ w'.cell? ⟨w.heap.size, 2, none⟩ = some (.int .i64 s) ∧ w'.cell? ⟨w.heap.size, 3, none⟩ = some (.slice A D.length k0)) ∧ (w'.cell? ⟨w.heap.size + 1, 0, none⟩ = some (.int .i64 q) ∧ w'.cell? ⟨w.heap.size + 1, 1, none⟩ = some (.int .i64 t) ∧ w'.cell? ⟨w.heap.size + 1, 2, none⟩ = some (.int .i64 t) ∧ w'.cell? ⟨w.heap.size + 1, 3, none⟩ = some (.slice A2 E.length k2)) ∧ w'.cell? ⟨g, qi, none⟩ = some (.int .i64 c0)) 17 (by kernel_rfl) (by kernel_rfl) ⟨g0.box4 0 rfl, g0.box4 4 rfl, g0.box4 3 rfl, HC.out _ (g0.ownCellA 1 rfl HLt.out).1⟩ (fun hHeld => ?_)
                  simp only [List.take_succ_cons, List.take_zero]
                  refine anyH_take (v := ?_) 0 rfl (by kernel_rfl) (by kernel_rfl) (by kernel_rfl) (fun _ _ _ h => h) rfl ?_ hHeld ?_
                  rotate_left
                  · intro w' hSw
                    go_simp
                    try with_reducible rfl
                  try simp only [Act.put, List.setIfInBounds_toArray, List.set_cons_zero, List.set_cons_succ]
                  refine anyH_take (v := ?_) 1 rfl (by kernel_rfl) (by kernel_rfl) (by kernel_rfl) (fun _ _ _ h => h) rfl ?_ hHeld ?_
                  rotate_left
                  · intro w' hSw
                    go_simp
                    try with_reducible rfl
                  try simp only [Act.put, List.setIfInBounds_toArray, List.set_cons_zero, List.set_cons_succ]
                  refine anyH_take (v := ?_) 2 rfl (by kernel_rfl) (by kernel_rfl) (by kernel_rfl) (fun _ _ _ h => h) rfl ?_ hHeld ?_
                  rotate_left
                  · intro w' hSw
                    go_simp
                    try with_reducible rfl
                  try simp only [Act.put, List.setIfInBounds_toArray, List.set_cons_zero, List.set_cons_succ]
                  refine anyH_take (v := ?_) 3 rfl (by kernel_rfl) (by kernel_rfl) (by kernel_rfl) (fun _ _ _ h => h) rfl ?_ hHeld ?_
                  rotate_left
                  · intro w' hSw
                    go_simp
                    try with_reducible rfl
                  try simp only [Act.put, List.setIfInBounds_toArray, List.set_cons_zero, List.set_cons_succ]
                  refine anyH_take (v := ?_) 4 rfl (by kernel_rfl) (by kernel_rfl) (by kernel_rfl) (fun _ _ _ h => h) rfl ?_ hHeld ?_
                  rotate_left
                  · intro w' hSw
                    go_simp
                    try with_reducible rfl
                  try simp only [Act.put, List.setIfInBounds_toArray, List.set_cons_zero, List.set_cons_succ]
                  refine anyH_take (v := ?_) 5 rfl (by kernel_rfl) (by kernel_rfl) (by kernel_rfl) (fun _ _ _ h => h) rfl ?_ hHeld ?_
                  rotate_left
                  · intro w' hSw
                    go_simp
                    try with_reducible rfl
                  try simp only [Act.put, List.setIfInBounds_toArray, List.set_cons_zero, List.set_cons_succ]
                  refine anyH_take (v := ?_) 6 rfl (by kernel_rfl) (by kernel_rfl) (by kernel_rfl) (fun _ _ _ h => h) rfl ?_ hHeld ?_
                  rotate_left
                  · intro w' hSw
                    go_simp
                    try with_reducible rfl
                  try simp only [Act.put, List.setIfInBounds_toArray, List.set_cons_zero, List.set_cons_succ]
                  refine anyH_take (v := ?_) 7 rfl (by kernel_rfl) (by kernel_rfl) (by kernel_rfl) (fun _ _ _ h => h) rfl ?_ hHeld ?_
                  rotate_left
                  · intro w' hSw
                    go_simp
                    try with_reducible rfl
                  try simp only [Act.put, List.setIfInBounds_toArray, List.set_cons_zero, List.set_cons_succ]
                  refine anyH_take (v := ?_) 8 rfl (by kernel_rfl) (by kernel_rfl) (by kernel_rfl) (fun _ _ _ h => h) rfl ?_ hHeld ?_
                  rotate_left
                  · intro w' hSw
                    go_simp
                    try with_reducible rfl
                  try simp only [Act.put, List.setIfInBounds_toArray, List.set_cons_zero, List.set_cons_succ]
                  refine anyH_take (v := ?_) 9 rfl (by kernel_rfl) (by kernel_rfl) (by kernel_rfl) (fun _ _ _ h => h) rfl ?_ hHeld ?_
                  rotate_left
                  · intro w' hSw
                    go_simp
                    try with_reducible rfl
                  try simp only [Act.put, List.setIfInBounds_toArray, List.set_cons_zero, List.set_cons_succ]
                  refine anyH_take (v := ?_) 10 rfl (by kernel_rfl) (by kernel_rfl) (by kernel_rfl) (fun _ _ _ h => h) rfl ?_ hHeld ?_
                  rotate_left
                  · intro w' hSw
                    go_simp
                    try with_reducible rfl
                  try simp only [Act.put, List.setIfInBounds_toArray, List.set_cons_zero, List.set_cons_succ]
                  refine anyH_take (v := ?_) 13 rfl (by kernel_rfl) (by kernel_rfl) (by kernel_rfl) (fun _ _ _ h => h) rfl ?_ hHeld ?_
                  rotate_left
                  · intro w' hSw
                    go_simp
                    try with_reducible rfl
                  try simp only [Act.put, List.setIfInBounds_toArray, List.set_cons_zero, List.set_cons_succ]
                  refine anyH_take (v := ?_) 14 rfl (by kernel_rfl) (by kernel_rfl) (by kernel_rfl) (fun _ _ _ h => h) rfl ?_ hHeld ?_
                  rotate_left
                  · intro w' hSw
                    go_simp
                    try with_reducible rfl
                  try simp only [Act.put, List.setIfInBounds_toArray, List.set_cons_zero, List.set_cons_succ]
                  refine wpAnyH_ready (rs := [11]) (by kernel_rfl) (by simp) ?_
                  refine ready_cons rfl (fun K hK => ?_) AllReadyH.nil
                  go_simp
                  refine (HA.out _ (g0.roInts 5 rfl)).mono ?_
                  rintro (e : Ending) w4 ⟨rfl, hb4⟩
                  have g1 := g0.on hb4
                  clear hb4
                  show K _ _
                  refine hK.out _ _ ?_ (fun hHeld => ?_)
                  · exact ⟨g1.box4 0 rfl, g1.box4 4 rfl, g1.box4 3 rfl, HC.out _ (g1.ownCellA 1 rfl HLt.out).1⟩
                  clear hK K
                  try simp only [Act.put, List.setIfInBounds_toArray, List.set_cons_zero, List.set_cons_succ]
                  obtain ⟨hw4, hw5⟩ := HWs.out
                  refine anyH_take (v := ?_) 12 rfl (by kernel_rfl) (by kernel_rfl) (by kernel_rfl) (fun _ _ _ h => h) rfl ?_ hHeld ?_
                  rotate_left
                  · intro w' hSw
                    go_simp
                    try with_reducible rfl
                  try simp only [Act.put, List.setIfInBounds_toArray, List.set_cons_zero, List.set_cons_succ]
                  refine anyH_take (v := ?_) 15 rfl (by kernel_rfl) (by kernel_rfl) (by kernel_rfl) (fun _ _ _ h => h) rfl ?_ hHeld ?_
                  rotate_left
                  · intro w' hSw
                    go_simp
                    try with_reducible rfl
                  try simp only [Act.put, List.setIfInBounds_toArray, List.set_cons_zero, List.set_cons_succ]
                  refine anyH_take (v := ?_) 16 rfl (by kernel_rfl) (by kernel_rfl) (by kernel_rfl) (fun _ _ _ h => h) rfl ?_ hHeld ?_
                  rotate_left
                  · intro w' hSw
                    go_simp
                    try with_reducible rfl
                  try simp only [Act.put, List.setIfInBounds_toArray, List.set_cons_zero, List.set_cons_succ]
                  refine wpAnyH_done (by kernel_rfl) ?_ _
                  show wpList _ _ _ _ _ _
                  simp only [List.drop_succ_cons, List.drop_zero]
                  clear hw4 hw5
                  obtain ⟨v0, f0⟩ := g1.ownCellA 1 rfl HLt.out
                  have h3 := g1.set 1 rfl qi ((c0 + x) % p)
                  clear h1 g0
                  go_wp2
                  go_roundw
                  case rel => exact ⟨c + 1, by go_num, by omega, by rw [← HSet.out]; exact h3⟩
                  case measure => simp [intOf]; omega
                · obtain rfl : t = c := by omega
                  rw [tn_row hk] at h1
                  go_wp2
                  go_roundw
                  case rel => exact ⟨k + 1, by go_num, by omega, h1⟩
                  case measure => simp [intOf]; omega
        · obtain rfl : t = k := by omega
          rw [tn_next] at h1
          go_wp2
          go_roundw
          case rel => exact ⟨i + 1, by go_num, by omega, h1⟩
          case measure => simp [intOf]; omega
    · obtain rfl : s = i := by omega
      rw [HEnd.out] at h1
      have f0 := h1.free 2 rfl 0
      have f1 := h1.free 2 rfl 1
      have f2 := h1.free 2 rfl 2
      have f3 := h1.free 2 rfl 3
      obtain ⟨v0, v1, v2, v3⟩ := h1.box4 2 rfl
      obtain ⟨z0, z1, z2, z3⟩ := h1.box4 0 rfl
      have h2 := (((h1.setBox 2 rfl 0 (.int .i64 p)).setBox 2 rfl 1 (.int .i64 m)).setBox 2 rfl 2 (.int .i64 m)).setBox 2 rfl 3 (.slice A5 (m * m) c5)
      obtain ⟨r0, r1, r2', r3⟩ := h2.box4 2 rfl
      go_wp2
      refine bodyPost_ret (v := .agg #[.int .i64 p, .int .i64 m, .int .i64 m, .slice A5 (m * m) c5]) (by simp [results, Try.results63, go_sem, r0, r1, r2', r3]) rfl ⟨_, rfl, ?_, h2.below⟩
      have := h2.own 1 rfl
      exact this

set_option maxHeartbeats 8000000 in
theorem TensorModulesS_any (p n : Int) (t v u : Value) (T : List Int) (ms ns : List Mt) (w : World) (ht : Ints w t T) (hv : MatsR w v ms) (hu : MatsR w u ns) (hp0 : p ≤ 9223372036854775807) (hw : ∀ i, i < ms.length → (mAt ms i).p ≤ 9223372036854775807) (hw2 : ∀ i, i < ns.length → (mAt ns i).p ≤ 9223372036854775807) :
    Calls Try.prog 24 #[.agg #[.int .i64 p, .int .i64 n, t], v, u] w (RetMsB w (tmMs p n T ms ns) (tmOk p n T ms ns)) := by
  have h1 := ((((St.start w).arg ht).pushFact hv.fact).pushFact hu.fact).box [.int .i64 p, .int .i64 n, t] 30
  obtain ⟨A, k, rfl, _, _, _⟩ := id ht
  obtain ⟨A2, k2, rfl, _, _, _⟩ := id hv
  obtain ⟨A3, k3, rfl, _, _, _⟩ := id hu
  have HI := Lib.hid (fun (W : World) (h1 : Ints W (.slice A T.length k) T) (h2 : MatsR W (.slice A2 ms.length k2) ms) => IsModuleS_any p n _ _ T ms W h1 h2 hp0 hw)
  have HI2 := Lib.hid (fun (W : World) (h1 : Ints W (.slice A T.length k) T) (h2 : MatsR W (.slice A3 ns.length k3) ns) => IsModuleS_any p n _ _ T ns W h1 h2 hp0 hw2)
  have HV := Lib.hid hv
  have HU := Lib.hid hu
  clear ht hv hu hw hw2
  obtain ⟨y0, y1, y2⟩ := h1.box3 0 rfl
  by_cases b1 : isMod p n T ms = true
  case neg =>
    have b1 : isMod p n T ms = false := by simpa using b1
    have b0 : tmOk p n T ms ns = false := by rw [tmOk, b1, Bool.false_and]
    rw [show tmMs p n T ms ns = [] by simp [tmMs, b0], b0]
    have B1 := Lib.hid b1
    clear b1 b0
    go_enter Try.func24, Try.ntmps24
    go_wp2_with fail
    refine (HI.out _ (h1.roInts 3 rfl) (h1.fact 2 rfl)).mono ?_
    rintro (e : Ending) w1 ⟨rfl, hb1⟩
    replace h1 := h1.on hb1
    rw [B1.out]
    clear hb1 y0 y1 y2
    go_wp2
    refine bodyPost_ret (v := .tuple #[.slice none 0 0, .bool false]) (by simp [results, Try.results24, go_sem]) rfl (RetMsB.nil h1.below)
  by_cases b2 : isMod p n T ns = true
  case neg =>
    have b2 : isMod p n T ns = false := by simpa using b2
    have b0 : tmOk p n T ms ns = false := by rw [tmOk, b2, Bool.false_and, Bool.and_false]
    rw [show tmMs p n T ms ns = [] by simp [tmMs, b0], b0]
    have B1 := Lib.hid b1
    have B2 := Lib.hid b2
    clear b1 b2 b0
    go_enter Try.func24, Try.ntmps24
    go_wp2_with fail
    refine (HI.out _ (h1.roInts 3 rfl) (h1.fact 2 rfl)).mono ?_
    rintro (e : Ending) w1 ⟨rfl, hb1⟩
    replace h1 := h1.on hb1
    rw [B1.out]
    clear hb1 y0 y1 y2
    obtain ⟨y0, y1, y2⟩ := h1.box3 0 rfl
    go_wp2_with fail
    refine (HI2.out _ (h1.roInts 3 rfl) (h1.fact 1 rfl)).mono ?_
    rintro (e : Ending) w2 ⟨rfl, hb1⟩
    replace h1 := h1.on hb1
    rw [B2.out]
    clear hb1 y0 y1 y2
    go_wp2
    refine bodyPost_ret (v := .tuple #[.slice none 0 0, .bool false]) (by simp [results, Try.results24, go_sem]) rfl (RetMsB.nil h1.below)
  obtain ⟨N, s, hn, hln, hN0, hs, hs30, hA, hM⟩ := isMod_all b1
  obtain ⟨N2, t2, hn2, hln2, _, ht2, ht30, _, hM2⟩ := isMod_all b2
  have e2 : N = N2 := by omega
  subst e2
  clear hn2
  obtain ⟨N', eN, g1, kT, g3, g4, g5, g6⟩ := algOk_spec hA
  have hN28 : N ≤ 28 := by omega
  clear eN kT g1 g3
  have S1 := Lib.hid (show ∀ W, MatsR W (.slice A2 ms.length k2) ms → Calls Try.prog 62 #[.slice A2 ms.length k2] W (fun e w' => e = .returned (.int .i64 (s : Int)) ∧ W = w') from fun W h => by rw [← hs]; exact size_mods (by omega) h)
  have S2 := Lib.hid (show ∀ W, MatsR W (.slice A3 ns.length k3) ns → Calls Try.prog 62 #[.slice A3 ns.length k3] W (fun e w' => e = .returned (.int .i64 (t2 : Int)) ∧ W = w') from fun W h => by rw [← ht2]; exact size_mods (by omega) h)
  have B1 := Lib.hid b1
  have B2 := Lib.hid b2
  obtain ⟨q, hq⟩ : ∃ q, q = s * t2 := ⟨_, rfl⟩
  have hst : (s : Int) * (t2 : Int) = (q : Int) := by rw [hq]; simp
  have hwq : IntKind.i64.wrap ((q : Nat) : Int) = q := wrap_ok (by omega) (by have := mul_le hs30 ht30; omega)
  have HQ := Lib.hid hq
  by_cases b3 : q ≤ 30
  case neg =>
    have b0 : tmOk p n T ms ns = false := by rw [tmOk, b1, b2, hs, ht2, decide_eq_false (by omega)]; rfl
    rw [show tmMs p n T ms ns = [] by simp [tmMs, b0], b0]
    have i3 : (30 : Int) < q := by omega
    clear b1 b2 b0 hn hln hln2 hs ht2 hA hM hM2 hq b3
    go_enter Try.func24, Try.ntmps24
    go_wp2_with fail
    refine (HI.out _ (h1.roInts 3 rfl) (h1.fact 2 rfl)).mono ?_
    rintro (e : Ending) w1 ⟨rfl, hb1⟩
    replace h1 := h1.on hb1
    rw [B1.out]
    clear hb1 y0 y1 y2
    obtain ⟨y0, y1, y2⟩ := h1.box3 0 rfl
    go_wp2_with fail
    refine (HI2.out _ (h1.roInts 3 rfl) (h1.fact 1 rfl)).mono ?_
    rintro (e : Ending) w2 ⟨rfl, hb1⟩
    replace h1 := h1.on hb1
    rw [B2.out]
    clear hb1 y0 y1 y2
    go_wp2_with fail
    refine (S1.out _ (h1.fact 2 rfl)).mono ?_
    rintro (e : Ending) w3 ⟨rfl, rfl⟩
    go_wp2_with fail
    refine (S2.out _ (h1.fact 1 rfl)).mono ?_
    rintro (e : Ending) w4 ⟨rfl, rfl⟩
    go_wp2
    refine bodyPost_ret (v := .tuple #[.slice none 0 0, .bool false]) (by simp [results, Try.results24, go_sem]) rfl (RetMsB.nil h1.below)
  have b0 : tmOk p n T ms ns = true := by rw [tmOk, b1, b2, hs, ht2, decide_eq_true (by omega)]; rfl
  have HR : Hid (tmL p s t2 N ms ns = tmMs p n T ms ns) := by show _ = _; rw [tmMs, if_pos b0, hs, ht2, hn, Int.toNat_natCast, Int.toNat_natCast, Int.toNat_natCast]
  rw [b0]
  have i3 : ¬ ((30 : Int) < q) := by omega
  have hqq := mul_le b3 b3
  have HM := Lib.hid hM
  have HM2 := Lib.hid hM2
  have HLn := Lib.hid hln
  have HLn2 := Lib.hid hln2
  have Hn := Lib.hid hn
  clear b1 b2 b0 hn hln hln2 hs ht2 hA hM hM2 hq
  go_enter Try.func24, Try.ntmps24
  go_wp2_with fail
  refine (HI.out _ (h1.roInts 3 rfl) (h1.fact 2 rfl)).mono ?_
  rintro (e : Ending) w1 ⟨rfl, hb1⟩
  replace h1 := h1.on hb1
  rw [B1.out]
  clear hb1 y0 y1 y2
  obtain ⟨y0, y1, y2⟩ := h1.box3 0 rfl
  go_wp2_with fail
  refine (HI2.out _ (h1.roInts 3 rfl) (h1.fact 1 rfl)).mono ?_
  rintro (e : Ending) w2 ⟨rfl, hb1⟩
  replace h1 := h1.on hb1
  rw [B2.out]
  clear hb1 y0 y1 y2
  go_wp2_with fail
  refine (S1.out _ (h1.fact 2 rfl)).mono ?_
  rintro (e : Ending) w3 ⟨rfl, rfl⟩
  go_wp2_with fail
  refine (S2.out _ (h1.fact 1 rfl)).mono ?_
  rintro (e : Ending) w4 ⟨rfl, rfl⟩
  replace h1 := h1.emptyMats
  go_wp2
  go_loopw [8, 9] (fun v10 v11 wr => ∃ (i : Nat) (us : List Value), v11 = .int .i64 i ∧ i ≤ N ∧ Hid (us.length = i) ∧ St w wr [matsIt v10 us ((tmL p s t2 N ms ns).take i), .box w.heap.size [.int .i64 p, .int .i64 n, .slice A T.length k], .fact (fun w' => MatsR w' (.slice A3 ns.length k3) ns), .fact (fun w' => MatsR w' (.slice A2 ms.length k2) ms), .ro (.slice A T.length k) T]) (fun _ v11 _ => N - (intOf v11).toNat)
  case atStart => exact ⟨0, [], rfl, by omega, rfl, h1⟩
  case round =>
    clear h1
    obtain ⟨i, us, rfl, a1, Hul, h1⟩ := hrel
    obtain ⟨z0, z1, z2⟩ := h1.box3 1 rfl
    by_cases hi : i < N
    · have him : i < ms.length := by rw [HLn.out]; exact hi
      have hin : i < ns.length := by rw [HLn2.out]; exact hi
      obtain ⟨b, off, A9, c9, hbA, hm⟩ := HV.out.at (i := i) him
      obtain ⟨b8, off8, A8, c8, hbB, hm8⟩ := HU.out.at (i := i) hin
      rw [mAt_get him] at hm
      rw [mAt_get hin] at hm8
      obtain ⟨u1, u2, u3, u4, u5⟩ := HM.out i him
      obtain ⟨v1, v2, v3, v4, v5⟩ := HM2.out i hin
      have hstk := tmL_take p s t2 N ms ns i hi
      have hmt : tmMt p s t2 ms ns i = ⟨p, q, q, tnD p s t2 (mAt ms i).d (mAt ns i).d⟩ := by rw [tmMt, HQ.out]
      rw [hmt] at hstk
      obtain ⟨D, hD⟩ : ∃ D, D = (mAt ms i).d := ⟨_, rfl⟩
      obtain ⟨E, hE⟩ : ∃ E, E = (mAt ns i).d := ⟨_, rfl⟩
      have hmf : MtAt w b (off + i * 4) ⟨p, s, s, D⟩ (.slice A9 D.length c9) := by unfold MtAt at hm ⊢; rw [u1, u2, u3, ← hD] at hm; exact hm
      have hmg : MtAt w b8 (off8 + i * 4) ⟨p, t2, t2, E⟩ (.slice A8 E.length c8) := by unfold MtAt at hm8 ⊢; rw [v1, v2, v3, ← hE] at hm8; exact hm8
      rw [← hD] at u4 u5 hstk
      rw [← hE] at v4 v5 hstk
      have h2 := (h1.pushOld hmg.fact).pushOld hmf.fact
      have hlu : us.length = ((tmL p s t2 N ms ns).take i).length := by rw [Hul.out, List.length_take, length_tmL]; omega
      have hl1 : ((tmL p s t2 N ms ns).take i).length + 1 ≤ 1099511627776 := by rw [List.length_take, length_tmL]; omega
      have Hlu := Lib.hid hlu
      have Hl1 := Lib.hid hl1
      have HDl := Lib.hid u4
      have HDr := Lib.hid u5
      have HEl := Lib.hid v4
      have HEr := Lib.hid v5
      have HSt := Lib.hid hstk
      have iN : (i : Int) < n := by rw [Hn.out]; omega
      have iM : (i : Int) < (ms.length : Int) := by omega
      have iM2 : (i : Int) < (ns.length : Int) := by omega
      clear hm hm8 hmf hmg u1 u2 u3 u4 u5 v1 v2 v3 v4 v5 hD hE hstk hmt hlu hl1 h1 him hin
      subst hbA
      subst hbB
      have HT := Lib.hid (fun (W : World) (h1 : Ints W (.slice A9 D.length c9) D) (h2 : Ints W (.slice A8 E.length c8) E) => l10Tensor_any p p s t2 q _ _ D E W h1 h2 HQ.out HDl.out HEl.out b3 hs30 ht30 g4 g5 HDr.out HEr.out)
      go_upto_region 7 with fail
      clear z0 z1 z2
      have g0 := h2.drew

      refine wp_region_cut (S := fun w' => (w'.cell? ⟨b, off + i * 4, none⟩ = some (.int .i64 p) ∧ w'.cell? ⟨b, off + i * 4 + 1, none⟩ = some (.int .i64 s) ∧ w'.cell? ⟨b, off + i * 4 + 2, none⟩ = some (.int .i64 s) ∧ w'.cell? ⟨b, off + i * 4 + 3, none⟩ = some (.slice A9 D.length c9)) ∧ w'.cell? ⟨b8, off8 + i * 4, none⟩ = some (.int .i64 p) ∧ w'.cell? ⟨b8, off8 + i * 4 + 1, none⟩ = some (.int .i64 t2) ∧ w'.cell? ⟨b8, off8 + i * 4 + 2, none⟩ = some (.int .i64 t2) ∧ w'.cell? ⟨b8, off8 + i * 4 + 3, none⟩ = some (.slice A8 E.length c8)) 11 (by kernel_rfl) (by kernel_rfl) ⟨⟨(g0.fact 0 rfl).1, (g0.fact 0 rfl).2.1, (g0.fact 0 rfl).2.2.1, (g0.fact 0 rfl).2.2.2.1⟩, (g0.fact 1 rfl).1, (g0.fact 1 rfl).2.1, (g0.fact 1 rfl).2.2.1, (g0.fact 1 rfl).2.2.2.1⟩ (fun hHeld => ?_)
      simp only [List.take_succ_cons, List.take_zero]
      refine anyH_take (v := ?_) 0 rfl (by kernel_rfl) (by kernel_rfl) (by kernel_rfl) (fun _ _ _ h => h) rfl ?_ hHeld ?_
      rotate_left
      · intro w' hSw
        go_simp
        try with_reducible rfl
      try simp only [Act.put, List.setIfInBounds_toArray, List.set_cons_zero, List.set_cons_succ]
      refine anyH_take (v := ?_) 1 rfl (by kernel_rfl) (by kernel_rfl) (by kernel_rfl) (fun _ _ _ h => h) rfl ?_ hHeld ?_
      rotate_left
      · intro w' hSw
        go_simp
        try with_reducible rfl
      try simp only [Act.put, List.setIfInBounds_toArray, List.set_cons_zero, List.set_cons_succ]
      refine anyH_take (v := ?_) 2 rfl (by kernel_rfl) (by kernel_rfl) (by kernel_rfl) (fun _ _ _ h => h) rfl ?_ hHeld ?_
      rotate_left
      · intro w' hSw
        go_simp
        try with_reducible rfl
      try simp only [Act.put, List.setIfInBounds_toArray, List.set_cons_zero, List.set_cons_succ]
      refine anyH_take (v := ?_) 3 rfl (by kernel_rfl) (by kernel_rfl) (by kernel_rfl) (fun _ _ _ h => h) rfl ?_ hHeld ?_
      rotate_left
      · intro w' hSw
        go_simp
        try with_reducible rfl
      try simp only [Act.put, List.setIfInBounds_toArray, List.set_cons_zero, List.set_cons_succ]
      refine anyH_take (v := ?_) 4 rfl (by kernel_rfl) (by kernel_rfl) (by kernel_rfl) (fun _ _ _ h => h) rfl ?_ hHeld ?_
      rotate_left
      · intro w' hSw
        go_simp
        try with_reducible rfl
      try simp only [Act.put, List.setIfInBounds_toArray, List.set_cons_zero, List.set_cons_succ]
      refine anyH_take (v := ?_) 5 rfl (by kernel_rfl) (by kernel_rfl) (by kernel_rfl) (fun _ _ _ h => h) rfl ?_ hHeld ?_
      rotate_left
      · intro w' hSw
        go_simp
        try with_reducible rfl
      try simp only [Act.put, List.setIfInBounds_toArray, List.set_cons_zero, List.set_cons_succ]
      refine anyH_take (v := ?_) 6 rfl (by kernel_rfl) (by kernel_rfl) (by kernel_rfl) (fun _ _ _ h => h) rfl ?_ hHeld ?_
      rotate_left
      · intro w' hSw
        go_simp
        try with_reducible rfl
      try simp only [Act.put, List.setIfInBounds_toArray, List.set_cons_zero, List.set_cons_succ]
      refine anyH_take (v := ?_) 7 rfl (by kernel_rfl) (by kernel_rfl) (by kernel_rfl) (fun _ _ _ h => h) rfl ?_ hHeld ?_
      rotate_left
      · intro w' hSw
        go_simp
        try with_reducible rfl
      try simp only [Act.put, List.setIfInBounds_toArray, List.set_cons_zero, List.set_cons_succ]
      refine anyH_take (v := ?_) 8 rfl (by kernel_rfl) (by kernel_rfl) (by kernel_rfl) (fun _ _ _ h => h) rfl ?_ hHeld ?_
      rotate_left
      · intro w' hSw
        go_simp
        try with_reducible rfl
      try simp only [Act.put, List.setIfInBounds_toArray, List.set_cons_zero, List.set_cons_succ]
      refine wpAnyH_ready (rs := [9]) (by kernel_rfl) (by simp) ?_
      refine ready_cons rfl (fun K hK => ?_) AllReadyH.nil
      go_simp
      refine (HT.out _ (g0.fact 0 rfl).2.2.2.2 (g0.fact 1 rfl).2.2.2.2).mono ?_
      rintro (e : Ending) w1 ⟨u, rfl, ho, hb1⟩
      obtain ⟨A5, n5, c5, rfl⟩ := ho.slice
      have h3 := g0.pushOwn hb1 ho
      show K _ _
      refine hK.out _ _ ?_ (fun hHeld => ?_)
      · exact ⟨⟨(h3.fact 1 rfl).1, (h3.fact 1 rfl).2.1, (h3.fact 1 rfl).2.2.1, (h3.fact 1 rfl).2.2.2.1⟩, (h3.fact 2 rfl).1, (h3.fact 2 rfl).2.1, (h3.fact 2 rfl).2.2.1, (h3.fact 2 rfl).2.2.2.1⟩
      clear hK K
      try simp only [Act.put, List.setIfInBounds_toArray, List.set_cons_zero, List.set_cons_succ]
      refine wpAnyH_ready (rs := [10]) (by kernel_rfl) (by simp) ?_
      refine ready_cons rfl (fun K hK => ?_) AllReadyH.nil
      go_simp
      have g4 := h3.alloc' (.cells #[.int .i64 p, .int .i64 q, .int .i64 q, .slice A5 n5 c5] 32)
      refine hK.out _ _ ?_ (fun hHeld => ?_)
      · exact ⟨⟨(g4.fact 1 rfl).1, (g4.fact 1 rfl).2.1, (g4.fact 1 rfl).2.2.1, (g4.fact 1 rfl).2.2.2.1⟩, (g4.fact 2 rfl).1, (g4.fact 2 rfl).2.1, (g4.fact 2 rfl).2.2.1, (g4.fact 2 rfl).2.2.2.1⟩
      clear hK K
      try simp only [Act.put, List.setIfInBounds_toArray, List.set_cons_zero, List.set_cons_succ]
      refine wpAnyH_done (by kernel_rfl) ?_ _
      show wpList _ _ _ _ _ _
      simp only [List.drop_succ_cons, List.drop_zero]
      clear hHeld g4 ho hb1 h2 g0
      go_wp2_with (at_builtin; refine wp_append_mat rfl (.tmp 35) (.tmp 45) rfl ⟨p, q, q, tnD p s t2 D E⟩ h3 2 rfl Hlu.out rfl rfl Hl1.out ?_; intro v1 w6 h6)
      go_roundw
      case rel => exact ⟨i + 1, us ++ [_], by go_num, by omega, by show _ = _; rw [List.length_append, Hul.out]; rfl, by rw [HSt.out]; exact h6.drop 2⟩
      case measure => simp [intOf]; omega
    · obtain rfl : i = N := by omega
      rw [List.take_of_length_le (by rw [length_tmL]; exact Nat.le_refl _), HR.out] at h1
      have iN : ¬ ((i : Int) < n) := by rw [Hn.out]; omega
      have hul2 : us.length = (tmMs p n T ms ns).length := by rw [← HR.out, length_tmL, Hul.out]
      have HU2 := Lib.hid hul2
      clear hul2
      obtain ⟨A4, c4, rfl, _, _, _⟩ := id (h1.mats 0 rfl HU2.out)
      go_wp2
      refine bodyPost_ret (v := .tuple #[.slice A4 (tmMs p n T ms ns).length c4, .bool true]) (by simp [results, Try.results24, go_sem]) rfl ⟨_, us, rfl, HU2.out, h1.at 0 rfl, h1.vecNodup 0 rfl, h1.below⟩
end Go.Proofs.Ytechjmckfedblaa
