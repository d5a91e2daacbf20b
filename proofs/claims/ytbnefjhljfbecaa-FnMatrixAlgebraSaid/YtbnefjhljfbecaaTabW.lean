/- The program's tableBy where the function writes a variable of the caller's. -/
import Derived.Test.YtbnefjhljfbecaaTabI
namespace Go.Proofs.Ytbnefjhljfbecaa
set_option maxRecDepth 100000
open Go.RowKit

theorem Ints.factT {w : World} {v : Value} {l : List Int} (h : Ints w v l) : It.ok w.heap.size w (.fact fun w' => Ints w' v l) := fun _ hk => (h.toB.keep fun p hp => World.cell?_of_block (hk p.block hp)).1
theorem St.readF {w0 w : World} {L : List It} (h : St w0 w L) (i : Nat) {x : It} {v : Value} {l : List Int} (hx : x = .fact (fun w' => Ints w' v l) ∨ x = .own v l) (hi : L[i]? = some x) : Ints w v l := by
  rcases hx with rfl | rfl
  · exact h.fact i hi
  · exact h.ownInts i hi

set_option maxHeartbeats 1000000 in
theorem tableBy_st (p : Int) (n : Nat) (F : Nat → Nat → List Int) (g : Nat) (caps : Array Value) (hg : ∀ (args : Array Value) (W : World), (callFunc g args).run Try.prog W = .ok (.enter g args) W) {w0 w : World} (K : Nat → Nat → List It) (h0 : St w0 w (K 0 0)) (hK : ∀ i, K i i = K (i + 1) 0)
    (hF : ∀ (W : World) (L : List It) (i j : Nat), j < i → i < n → St w0 W (L ++ K i j) → Calls Try.prog g (#[.int .i64 i, .int .i64 j] ++ caps) W fun e W' => ∃ v x, e = .returned v ∧ (x = .fact (fun w' => Ints w' v (F i j)) ∨ x = .own v (F i j)) ∧ St w0 W' (x :: (L ++ K i (j + 1))))
    (hl : ∀ i j, j < i → i < n → (F i j).length ≤ n ∧ resid p (F i j) = true) (hn : n ≤ 28) (hp : 2 ≤ p) (hp' : p ≤ 10007) :
    Calls Try.prog 25 #[.int .i64 p, .int .i64 n, .func (.func g) #[] caps] w fun e w' => ∃ u, e = .returned (.agg #[.int .i64 p, .int .i64 n, u]) ∧ St w0 w' (.own u (tbL p n F) :: K n 0) := by
  obtain ⟨m2, hm2⟩ : ∃ m2, m2 = n * n := ⟨_, rfl⟩
  obtain ⟨N, hN⟩ : ∃ N, N = n * n * n := ⟨_, rfl⟩
  have hNb : N ≤ 21952 := by rw [hN]; exact cube_le hn
  have hm2b : m2 ≤ 784 := by rw [hm2]; exact Nat.mul_le_mul hn hn
  have h1 := ((h0.box [.int .i64 0, .int .i64 0, .slice none 0 0] 28).zeros N (by omega)).box [.int .i64 p, .int .i64 n, .slice (some ⟨w.heap.size + 1, 0, none⟩) N N] 28
  simp only [World.size_alloc] at h1
  rw [show List.replicate N 0 = tbTo p n F 0 0 0 by rw [tbTo_zero, hN]] at h1
  have hmk := makeI N (by omega)
  have e1 : (n : Int) * (n : Int) = (m2 : Int) := by rw [hm2]; simp
  have e2 : (m2 : Int) * (n : Int) = (N : Int) := by rw [hN, hm2]; simp
  have w1 : IntKind.i64.wrap (m2 : Int) = m2 := wrap_ok (by omega) (by omega)
  have w2 : IntKind.i64.wrap (N : Int) = N := wrap_ok (by omega) (by omega)
  have HN := Lib.hid hN
  have HF := Lib.hid hF
  have HK := Lib.hid hK
  have Hl := Lib.hid hl
  have HEn := Lib.hid (tbTo_end p n F)
  clear hm2 hN hF hl hK h0
  go_enter Try.func25, Try.ntmps25
  go_wp2
  try simp only [World.size_alloc]
  clear e1 e2 w1 w2 hmk
  generalize hB : w.heap.size + 1 = gT at h1 ⊢
  generalize hB2 : gT + 1 = Ba at h1 ⊢
  clear hB hB2
  go_loopw [8, 9, 10, 11, 22] (fun _ _ _ _ v22 wr => ∃ i : Nat, v22 = .int .i64 i ∧ i ≤ n ∧ St w0 wr (.box Ba [.int .i64 p, .int .i64 n, .slice (some ⟨gT, 0, none⟩) N N] :: .own (.slice (some ⟨gT, 0, none⟩) N N) (tbTo p n F i 0 0) :: .box w.heap.size [.int .i64 0, .int .i64 0, .slice none 0 0] :: K i 0)) (fun _ _ _ _ v22 _ => n - (intOf v22).toNat)
  case atStart => exact ⟨0, rfl, by omega, h1⟩
  case round =>
    clear h1
    obtain ⟨i, rfl, a1, h1⟩ := hrel
    by_cases hi : i < n
    · have i1 : (i : Int) < n := by omega
      go_wp2
      go_loopw [9, 10, 11, 26] (fun _ _ _ v26 wr => ∃ j : Nat, v26 = .int .i64 j ∧ j ≤ i ∧ St w0 wr (.box Ba [.int .i64 p, .int .i64 n, .slice (some ⟨gT, 0, none⟩) N N] :: .own (.slice (some ⟨gT, 0, none⟩) N N) (tbTo p n F i j 0) :: .box w.heap.size [.int .i64 0, .int .i64 0, .slice none 0 0] :: K i j)) (fun _ _ _ v26 _ => i - (intOf v26).toNat)
      case atStart => exact ⟨0, rfl, by omega, h1⟩
      case round =>
        clear h1
        obtain ⟨j, rfl, a2, h1⟩ := hrel
        by_cases hj : j < i
        · have HC := Lib.hid (HF.out wr [_, _, _] i j hj hi h1)
          obtain ⟨l, hl⟩ : ∃ l, l = F i j := ⟨_, rfl⟩
          obtain ⟨hll, hlr⟩ := Hl.out i j hj hi
          have HRw := Lib.hid (show tbTo p n F i j l.length = tbTo p n F i (j + 1) 0 by rw [hl]; exact tbTo_row (by omega) hll)
          rw [← hl] at HC hll hlr
          have HL := Lib.hid hl
          have Hlr := Lib.hid hlr
          have j1 : (j : Int) < i := by omega
          clear hl hlr
          go_wp2_with fail
          refine HC.out.mono ?_
          rintro (e : Ending) w2 ⟨v, x, rfl, hx, h2⟩
          simp only [List.cons_append, List.nil_append] at h2
          obtain ⟨A, c, rfl, _, _, _⟩ := id (h2.readF 0 hx rfl)
          clear h1 HC
          go_wp2
          go_loopw [10, 11, 34] (fun _ _ v34 wr => ∃ k : Nat, v34 = .int .i64 k ∧ k ≤ l.length ∧ St w0 wr (x :: .box Ba [.int .i64 p, .int .i64 n, .slice (some ⟨gT, 0, none⟩) N N] :: .own (.slice (some ⟨gT, 0, none⟩) N N) (tbTo p n F i j k) :: .box w.heap.size [.int .i64 0, .int .i64 0, .slice none 0 0] :: K i (j + 1))) (fun _ _ v34 _ => l.length - (intOf v34).toNat)
          case atStart => exact ⟨0, rfl, by omega, h2⟩
          case round =>
            clear h2
            obtain ⟨k, rfl, a3, h2⟩ := hrel
            by_cases hk : k < l.length
            · have hkn : k < n := by omega
              have hjn : j < n := by omega
              have l1 := idx3_bd hi hjn hkn
              have l2 := idx3_bd hjn hi hkn
              obtain ⟨b, off, rfl, _, e1⟩ := (h2.readF 0 hx rfl).toB.cell hk
              have hvb := resid_vec Hlr.out hk
              have HSet := tbTo_set (p := p) (F := F) hi hj hkn
              rw [← HL.out] at HSet
              obtain ⟨m, hm⟩ : ∃ m, m = vec l k := ⟨_, rfl⟩
              rw [← hm] at HSet hvb e1
              obtain ⟨z1, hz1⟩ : ∃ z1, z1 = i * n := ⟨_, rfl⟩
              obtain ⟨z2, hz2⟩ : ∃ z2, z2 = z1 + j := ⟨_, rfl⟩
              obtain ⟨z3, hz3⟩ : ∃ z3, z3 = z2 * n := ⟨_, rfl⟩
              obtain ⟨q1, hq1⟩ : ∃ q1, q1 = z3 + k := ⟨_, rfl⟩
              obtain ⟨y1, hy1⟩ : ∃ y1, y1 = j * n := ⟨_, rfl⟩
              obtain ⟨y2, hy2⟩ : ∃ y2, y2 = y1 + i := ⟨_, rfl⟩
              obtain ⟨y3, hy3⟩ : ∃ y3, y3 = y2 * n := ⟨_, rfl⟩
              obtain ⟨q2, hq2⟩ : ∃ q2, q2 = y3 + k := ⟨_, rfl⟩
              rw [← hz1, ← hz2, ← hz3, ← hq1, ← hy1, ← hy2, ← hy3, ← hq2] at HSet
              rw [← hz1, ← hz2, ← hz3, ← hq1, ← HN.out] at l1
              rw [← hy1, ← hy2, ← hy3, ← hq2, ← HN.out] at l2
              have t1 : (i : Int) * (n : Int) = (z1 : Int) := by rw [hz1]; simp
              have t2 : (z1 : Int) + (j : Int) = (z2 : Int) := by omega
              have t3 : (z2 : Int) * (n : Int) = (z3 : Int) := by rw [hz3]; simp
              have t4 : (z3 : Int) + (k : Int) = (q1 : Int) := by omega
              have t5 : (j : Int) * (n : Int) = (y1 : Int) := by rw [hy1]; simp
              have t6 : (y1 : Int) + (i : Int) = (y2 : Int) := by omega
              have t7 : (y2 : Int) * (n : Int) = (y3 : Int) := by rw [hy3]; simp
              have t8 : (y3 : Int) + (k : Int) = (q2 : Int) := by omega
              have hzb : z1 ≤ 784 := by rw [hz1]; exact Nat.mul_le_mul (show i ≤ 28 by omega) hn
              have hyb : y1 ≤ 784 := by rw [hy1]; exact Nat.mul_le_mul (show j ≤ 28 by omega) hn
              have v1 : IntKind.i64.wrap (z1 : Int) = z1 := wrap_ok (by omega) (by omega)
              have v2 : IntKind.i64.wrap (z2 : Int) = z2 := wrap_ok (by omega) (by omega)
              have v3 : IntKind.i64.wrap (z3 : Int) = z3 := wrap_ok (by omega) (by omega)
              have v4 : IntKind.i64.wrap (q1 : Int) = q1 := wrap_ok (by omega) (by omega)
              have v5 : IntKind.i64.wrap (y1 : Int) = y1 := wrap_ok (by omega) (by omega)
              have v6 : IntKind.i64.wrap (y2 : Int) = y2 := wrap_ok (by omega) (by omega)
              have v7 : IntKind.i64.wrap (y3 : Int) = y3 := wrap_ok (by omega) (by omega)
              have v8 : IntKind.i64.wrap (q2 : Int) = q2 := wrap_ok (by omega) (by omega)
              have v9 := neg_wrap (x := m) (by omega) (by omega)
              have i5 : (q1 : Int) < N := by omega
              have i6 : (q2 : Int) < N := by omega
              have i7 : (k : Int) < l.length := by omega
              have HM := Lib.hid (fun W => mod_any (-m) p W (by omega) (by omega) (by omega) hp')
              have HS2 := Lib.hid HSet
              obtain ⟨x0, x1, x2⟩ := h2.box3 1 rfl
              obtain ⟨s0, f0⟩ := h2.ownCellA 2 rfl (q := q1) (by rw [length_tbTo, ← HN.out]; exact l1)
              have h3 := h2.set 2 rfl q1 m
              have HLt := Lib.hid (show q2 < ((tbTo p n F i j k).set q1 m).length by rw [List.length_set, length_tbTo, ← HN.out]; exact l2)
              clear hz1 hz2 hz3 hq1 hy1 hy2 hy3 hq2 hm HSet hzb hyb hvb l1 l2
              go_upto_region 12 with fail
              clear x0 x1 x2 s0 f0 e1
              have g0 := h3.drew
              simp only [List.set_cons_succ, List.set_cons_zero] at g0
              refine wp_region_cut (S := fun w' => (w'.cell? ⟨Ba, 0, none⟩ = some (.int .i64 p) ∧ w'.cell? ⟨Ba, 1, none⟩ = some (.int .i64 n) ∧ w'.cell? ⟨Ba, 2, none⟩ = some (.slice (some ⟨gT, 0, none⟩) N N))) 16 (by kernel_rfl) (by kernel_rfl) (g0.box3 1 rfl) (fun hHeld => ?_)
              simp only [List.take_succ_cons, List.take_zero]
              refine anyH_take (v := ?_) 0 rfl (by kernel_rfl) (by kernel_rfl) (by kernel_rfl) (fun _ _ _ h => h) rfl ?_ hHeld ?_
              rotate_left
              · intro w' hSw
                go_simp
                try with_reducible rfl
              try simp only [Act.put, List.setIfInBounds_toArray, List.set_cons_zero, List.set_cons_succ]
              refine anyH_take (v := ?_) 1 rfl (by kernel_rfl) (by kernel_rfl) (by kernel_rfl) (fun _ _ _ h => h) rfl ?_ hHeld ?_
              rotate_left
              · intro w' hSw
                go_simp
                try with_reducible rfl
              try simp only [Act.put, List.setIfInBounds_toArray, List.set_cons_zero, List.set_cons_succ]
              refine anyH_take (v := ?_) 2 rfl (by kernel_rfl) (by kernel_rfl) (by kernel_rfl) (fun _ _ _ h => h) rfl ?_ hHeld ?_
              rotate_left
              · intro w' hSw
                go_simp
                try with_reducible rfl
              try simp only [Act.put, List.setIfInBounds_toArray, List.set_cons_zero, List.set_cons_succ]
              refine anyH_take (v := ?_) 3 rfl (by kernel_rfl) (by kernel_rfl) (by kernel_rfl) (fun _ _ _ h => h) rfl ?_ hHeld ?_
              rotate_left
              · intro w' hSw
                go_simp
                try with_reducible rfl
              try simp only [Act.put, List.setIfInBounds_toArray, List.set_cons_zero, List.set_cons_succ]
              refine anyH_take (v := ?_) 4 rfl (by kernel_rfl) (by kernel_rfl) (by kernel_rfl) (fun _ _ _ h => h) rfl ?_ hHeld ?_
              rotate_left
              · intro w' hSw
                go_simp
                try with_reducible rfl
              try simp only [Act.put, List.setIfInBounds_toArray, List.set_cons_zero, List.set_cons_succ]
              refine anyH_take (v := ?_) 5 rfl (by kernel_rfl) (by kernel_rfl) (by kernel_rfl) (fun _ _ _ h => h) rfl ?_ hHeld ?_
              rotate_left
              · intro w' hSw
                go_simp
                try with_reducible rfl
              try simp only [Act.put, List.setIfInBounds_toArray, List.set_cons_zero, List.set_cons_succ]
              refine anyH_take (v := ?_) 6 rfl (by kernel_rfl) (by kernel_rfl) (by kernel_rfl) (fun _ _ _ h => h) rfl ?_ hHeld ?_
              rotate_left
              · intro w' hSw
                go_simp
                try with_reducible rfl
              try simp only [Act.put, List.setIfInBounds_toArray, List.set_cons_zero, List.set_cons_succ]
              refine anyH_take (v := ?_) 7 rfl (by kernel_rfl) (by kernel_rfl) (by kernel_rfl) (fun _ _ _ h => h) rfl ?_ hHeld ?_
              rotate_left
              · intro w' hSw
                go_simp
                try with_reducible rfl
              try simp only [Act.put, List.setIfInBounds_toArray, List.set_cons_zero, List.set_cons_succ]
              refine anyH_take (v := ?_) 8 rfl (by kernel_rfl) (by kernel_rfl) (by kernel_rfl) (fun _ _ _ h => h) rfl ?_ hHeld ?_
              rotate_left
              · intro w' hSw
                go_simp
                try with_reducible rfl
              try simp only [Act.put, List.setIfInBounds_toArray, List.set_cons_zero, List.set_cons_succ]
              refine anyH_take (v := ?_) 9 rfl (by kernel_rfl) (by kernel_rfl) (by kernel_rfl) (fun _ _ _ h => h) rfl ?_ hHeld ?_
              rotate_left
              · intro w' hSw
                go_simp
                try with_reducible rfl
              try simp only [Act.put, List.setIfInBounds_toArray, List.set_cons_zero, List.set_cons_succ]
              refine anyH_take (v := ?_) 10 rfl (by kernel_rfl) (by kernel_rfl) (by kernel_rfl) (fun _ _ _ h => h) rfl ?_ hHeld ?_
              rotate_left
              · intro w' hSw
                go_simp
                try with_reducible rfl
              try simp only [Act.put, List.setIfInBounds_toArray, List.set_cons_zero, List.set_cons_succ]
              refine anyH_take (v := ?_) 11 rfl (by kernel_rfl) (by kernel_rfl) (by kernel_rfl) (fun _ _ _ h => h) rfl ?_ hHeld ?_
              rotate_left
              · intro w' hSw
                go_simp
                try with_reducible rfl
              try simp only [Act.put, List.setIfInBounds_toArray, List.set_cons_zero, List.set_cons_succ]
              refine anyH_take (v := ?_) 12 rfl (by kernel_rfl) (by kernel_rfl) (by kernel_rfl) (fun _ _ _ h => h) rfl ?_ hHeld ?_
              rotate_left
              · intro w' hSw
                go_simp
                try with_reducible rfl
              try simp only [Act.put, List.setIfInBounds_toArray, List.set_cons_zero, List.set_cons_succ]
              refine anyH_take (v := ?_) 13 rfl (by kernel_rfl) (by kernel_rfl) (by kernel_rfl) (fun _ _ _ h => h) rfl ?_ hHeld ?_
              rotate_left
              · intro w' hSw
                go_simp
                try with_reducible rfl
              try simp only [Act.put, List.setIfInBounds_toArray, List.set_cons_zero, List.set_cons_succ]
              refine wpAnyH_ready (rs := [14]) (by kernel_rfl) (by simp) ?_
              refine ready_cons rfl (fun K hK => ?_) AllReadyH.nil
              go_simp
              refine (HM.out _).mono ?_
              rintro (e : Ending) w5 ⟨rfl, rfl⟩
              show K _ _
              refine hK.out _ _ ?_ (fun hHeld => ?_)
              · exact hHeld
              clear hK K
              try simp only [Act.put, List.setIfInBounds_toArray, List.set_cons_zero, List.set_cons_succ]
              refine anyH_take (v := ?_) 15 rfl (by kernel_rfl) (by kernel_rfl) (by kernel_rfl) (fun _ _ _ h => h) rfl ?_ hHeld ?_
              rotate_left
              · intro w' hSw
                go_simp
                try with_reducible rfl
              try simp only [Act.put, List.setIfInBounds_toArray, List.set_cons_zero, List.set_cons_succ]
              refine wpAnyH_done (by kernel_rfl) ?_ _
              show wpList _ _ _ _ _ _
              simp only [List.drop_succ_cons, List.drop_zero]
              clear hHeld
              obtain ⟨s0, f0⟩ := g0.ownCellA 2 rfl HLt.out
              have h4 := g0.set 2 rfl q2 ((-m) % p)
              simp only [List.set_cons_succ, List.set_cons_zero] at h4
              rw [HS2.out] at h4
              clear g0 h2 h3
              go_wp2
              go_roundw
              case rel => exact ⟨k + 1, by go_num, by omega, h4⟩
              case measure => simp [intOf]; omega
            · obtain rfl : k = l.length := by omega
              rw [HRw.out] at h2
              replace h2 := h2.drop 1
              go_wp2
              go_roundw
              case rel => exact ⟨j + 1, by go_num, by omega, h2⟩
              case measure => simp [intOf]; omega
        · obtain rfl : j = i := by omega
          rw [tbTo_next, HK.out] at h1
          go_wp2
          go_roundw
          case rel => exact ⟨j + 1, by go_num, by omega, h1⟩
          case measure => simp [intOf]; omega
    · obtain rfl : i = n := by omega
      rw [HEn.out] at h1
      obtain ⟨x0, x1, x2⟩ := h1.box3 0 rfl
      obtain ⟨p0, p1, p2⟩ := h1.box3 2 rfl
      have f0 := h1.free 2 rfl 0
      have f1 := h1.free 2 rfl 1
      have f2 := h1.free 2 rfl 2
      have h5 := ((h1.setBox 2 rfl 0 (.int .i64 p)).setBox 2 rfl 1 (.int .i64 i)).setBox 2 rfl 2 (.slice (some ⟨gT, 0, none⟩) N N)
      obtain ⟨r0, r1, r2⟩ := h5.box3 2 rfl
      go_wp2
      refine bodyPost_ret (v := .agg #[.int .i64 p, .int .i64 i, .slice (some ⟨gT, 0, none⟩) N N]) (by simp [results, Try.results25, go_sem, r0, r1, r2]) rfl ⟨_, rfl, (h5.drop 1).swap2.drop 1⟩
end Go.Proofs.Ytbnefjhljfbecaa
