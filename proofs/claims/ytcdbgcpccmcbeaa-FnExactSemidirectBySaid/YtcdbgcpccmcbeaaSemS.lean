/- SemidirectBy of the reference: AbelianAlgebra, l2Sum (of an algebra and one of dimension one), l3Grow, the walk. -/
import Derived.Test.YtcdbgcpccmcbeaaSemP
import Derived.Test.YtcdbgcpccmcbeaaChgS
import Derived.Test.YtcdbgcpccmcbeaaFlt
namespace Go.Proofs.Ytcdbgcpccmcbeaa
set_option maxRecDepth 100000
open Go.RowKit

set_option maxHeartbeats 400000 in
theorem AbelianAlgebraS_any (p : Int) (n : Nat) (w : World) (hp : isPrime p = true) (hn : n ≤ 28) :
    Calls Try.prog 131 #[.int .i64 p, .int .i64 n] w (RetAlg w p n (List.replicate (n * n * n) 0)) := by
  obtain ⟨m2, hm2⟩ : ∃ m2, m2 = n * n := ⟨_, rfl⟩
  obtain ⟨N, hN⟩ : ∃ N, N = n * n * n := ⟨_, rfl⟩
  have hNb : N ≤ 21952 := by rw [hN]; exact cube_le hn
  have hm2b : m2 ≤ 784 := by rw [hm2]; exact Nat.mul_le_mul hn hn
  rw [← hN]
  have hmk := makeI N (by omega)
  have e1 : (n : Int) * (n : Int) = (m2 : Int) := by rw [hm2]; simp
  have e2 : (m2 : Int) * (n : Int) = (N : Int) := by rw [hN, hm2]; simp
  have w1 : IntKind.i64.wrap (m2 : Int) = m2 := wrap_ok (by omega) (by omega)
  have w2 : IntKind.i64.wrap (N : Int) = N := wrap_ok (by omega) (by omega)
  have i1 : inR n 0 28 = true := inR_true (by omega) (by omega)
  clear hm2 hN
  go_enter Try.func131, Try.ntmps131
  go_wp2_with (first
    | (go_at_call 152; refine (IsPrimeS_any _ _).mono ?_; rintro e w' ⟨rfl, rfl⟩)
    | (go_at_call 108; refine (l1In_any _ _ _ _).mono ?_; rintro e w' ⟨rfl, rfl⟩))
  have h1 := ((St.start w).box [.int .i64 p, .int .i64 n, .slice (some ⟨w.heap.size + 1, 0, none⟩) N N] 29).zeros N (by omega)
  simp only [World.size_alloc] at h1
  refine bodyPost_ret (v := .agg #[.int .i64 p, .int .i64 n, .slice (some ⟨w.heap.size + 1, 0, none⟩) N N]) (by simp [results, Try.results131, go_sem]) rfl ⟨_, rfl, h1.own 0 rfl, h1.below⟩

set_option maxHeartbeats 4000000 in
theorem l2Sum1_any (p q : Int) (n o : Nat) (t u : Value) (T : List Int) (w : World) (ht : Ints w t T) (hu : Ints w u [0]) (hT : T.length = n * n * n) (hn : n ≤ 27) (ho : o = 1) :
    Calls Try.prog 130 #[.agg #[.int .i64 p, .int .i64 n, t], .agg #[.int .i64 q, .int .i64 o, u]] w (RetAlg w p (n + 1 : Nat) (grTo n T n 0 0)) := by
  have h1 := (((((St.start w).arg ht).arg hu).box [.int .i64 p, .int .i64 n, t] 29).box [.int .i64 q, .int .i64 o, u] 29).box [.int .i64 0, .int .i64 0, .slice none 0 0] 29
  simp only [World.size_alloc] at h1
  obtain ⟨A, k, rfl, _, _, _⟩ := id ht
  obtain ⟨A1, k1, rfl, _, _, _⟩ := id hu
  rw [show ([0] : List Int).length = 1 from rfl] at h1 ⊢
  obtain ⟨m1, hm1⟩ : ∃ m1, m1 = n + 1 := ⟨_, rfl⟩
  obtain ⟨m2, hm2⟩ : ∃ m2, m2 = m1 * m1 := ⟨_, rfl⟩
  obtain ⟨N, hN⟩ : ∃ N, N = m2 * m1 := ⟨_, rfl⟩
  have m128 : m1 ≤ 28 := by omega
  have hm2b : m2 ≤ 784 := by rw [hm2]; exact Nat.mul_le_mul m128 m128
  have hNb : N ≤ 21952 := by rw [hN]; exact Nat.mul_le_mul hm2b m128
  have Ho := Lib.hid ho
  have e0 : (n : Int) + (o : Int) = (m1 : Int) := by omega
  have e1 : (m1 : Int) * (m1 : Int) = (m2 : Int) := by rw [hm2]; simp
  have e2 : (m2 : Int) * (m1 : Int) = (N : Int) := by rw [hN]; simp
  have w0 : IntKind.i64.wrap (m1 : Int) = m1 := wrap_ok (by omega) (by omega)
  have w1 : IntKind.i64.wrap (m2 : Int) = m2 := wrap_ok (by omega) (by omega)
  have w2 : IntKind.i64.wrap (N : Int) = N := wrap_ok (by omega) (by omega)
  have hmk := makeI N (by omega)
  have HGl := Lib.hid (show ∀ i j k, (grTo n T i j k).length = N from fun i j k => by rw [length_grTo, hN, hm2, hm1])
  have HG0 := Lib.hid (show List.replicate N 0 = grTo n T 0 0 0 by rw [grTo_zero, hN, hm2, hm1])
  have HSet := Lib.hid (show ∀ i j k, i < n → j < n → k < n → (grTo n T i j k).set ((i * m1 + j) * m1 + k) (t3 T n i j k) = grTo n T i j (k + 1) from fun i j k hi hj hk => by rw [hm1]; exact grTo_set hi hj hk)
  have HLast := Lib.hid (show ∀ i j k, i < o → j < o → k < o → (grTo n T n 0 0).set (((n + i) * m1 + n + j) * m1 + n + k) 0 = grTo n T n 0 0 from fun i j k hi hj hk => by
    obtain rfl : i = 0 := by omega
    obtain rfl : j = 0 := by omega
    obtain rfl : k = 0 := by omega
    have := grTo_last n T
    rw [hm1]; exact this)
  have HBd := Lib.hid (show ∀ a b c, a < m1 → b < m1 → c < m1 → (a * m1 + b) * m1 + c < N from fun a b c ha hb hc => by rw [hN, hm2]; exact idx3_bd ha hb hc)
  have HGa := Lib.hid (fun (W : World) (i j k0 : Nat) (x0 : IntsB W w.heap.size (.slice A T.length k) T) (x1 : w.heap.size ≤ W.heap.size) (x2 : i < n) (x3 : j < n) (x4 : k0 < n) => l2Get_any p n _ T i j k0 w.heap.size W x0 x1 hT x2 x3 x4 (by omega))
  have HGb := Lib.hid (show ∀ (W : World) (i j k0 : Nat) (x0 : IntsB W w.heap.size (.slice A1 1 k1) [0]) (x1 : w.heap.size ≤ W.heap.size) (x2 : i < o) (x3 : j < o) (x4 : k0 < o), Calls Try.prog 154 #[.agg #[.int .i64 q, .int .i64 o, .slice A1 1 k1], .int .i64 i, .int .i64 j, .int .i64 k0] W fun e w' => e = .returned (.int .i64 0) ∧ Below W.heap.size W w' from fun W i j k0 x0 x1 x2 x3 x4 => by
    subst ho
    have h9 := l2Get_any q 1 _ [0] i j k0 w.heap.size W x0 x1 rfl x2 x3 x4 (by omega)
    obtain rfl : i = 0 := by omega
    obtain rfl : j = 0 := by omega
    obtain rfl : k0 = 0 := by omega
    exact h9)
  have HRow := Lib.hid (grTo_row n T)
  have HNext := Lib.hid (grTo_next n T)
  rw [← hm1]
  have Hm1 := Lib.hid hm1
  clear ht hu hT hm1 hm2 hN ho
  obtain ⟨x0, x1, x2⟩ := h1.box3 2 rfl
  obtain ⟨y0, y1, y2⟩ := h1.box3 1 rfl
  go_enter Try.func130, Try.ntmps130
  go_upto_region 2 with fail
  clear x0 x1 x2 y0 y1 y2
  go_cut [6] (fun s6 wx => ∃ (B6 g : Nat), s6 = .pointer (some ⟨B6, 0, none⟩) ∧ St w wx [.own (.slice (some ⟨g, 0, none⟩) N N) (List.replicate N 0), .box B6 [.int .i64 p, .int .i64 m1, .slice (some ⟨g, 0, none⟩) N N], .box (w.heap.size + 1 + 1) [.int .i64 0, .int .i64 0, .slice none 0 0], .box (w.heap.size + 1) [.int .i64 q, .int .i64 o, .slice A1 1 k1], .box w.heap.size [.int .i64 p, .int .i64 n, .slice A T.length k], .ro (.slice A1 1 k1) [0], .ro (.slice A T.length k) T])
  case first =>
    have g0 := h1.drew
    clear h1
    refine wp_region_held_drew (S := fun w' => (w'.cell? ⟨w.heap.size, 0, none⟩ = some (.int .i64 p) ∧ w'.cell? ⟨w.heap.size, 1, none⟩ = some (.int .i64 n) ∧ w'.cell? ⟨w.heap.size, 2, none⟩ = some (.slice A T.length k))) (by kernel_rfl) (g0.box3 2 rfl) (fun hHeld => ?_)
    generalize (((w.alloc (.cells #[.int .i64 p, .int .i64 n, .slice A T.length k] 29)).alloc (.cells #[.int .i64 q, .int .i64 o, .slice A1 1 k1] 29)).alloc (.cells #[.int .i64 0, .int .i64 0, .slice none 0 0] 29)).drew = v0 at g0 hHeld ⊢
    refine anyH_take (v := ?_) 0 rfl (by kernel_rfl) (by kernel_rfl) (by kernel_rfl) (fun _ _ _ h => h) rfl ?_ hHeld ?_
    rotate_left
    · intro w' hSw
      go_simp
      try with_reducible rfl
    try simp only [Act.put, List.setIfInBounds_toArray, List.set_cons_zero, List.set_cons_succ]
    refine anyH_take (v := ?_) 1 rfl (by kernel_rfl) (by kernel_rfl) (by kernel_rfl) (fun _ _ _ h => h) rfl ?_ hHeld ?_
    rotate_left
    · intro w' hSw
      go_simp
      try with_reducible rfl
    try simp only [Act.put, List.setIfInBounds_toArray, List.set_cons_zero, List.set_cons_succ]
    refine anyH_take (v := ?_) 2 rfl (by kernel_rfl) (by kernel_rfl) (by kernel_rfl) (fun _ _ _ h => h) rfl ?_ hHeld ?_
    rotate_left
    · intro w' hSw
      go_simp
      try with_reducible rfl
    try simp only [Act.put, List.setIfInBounds_toArray, List.set_cons_zero, List.set_cons_succ]
    refine anyH_take (v := ?_) 3 rfl (by kernel_rfl) (by kernel_rfl) (by kernel_rfl) (fun _ _ _ h => h) rfl ?_ hHeld ?_
    rotate_left
    · intro w' hSw
      go_simp
      try with_reducible rfl
    try simp only [Act.put, List.setIfInBounds_toArray, List.set_cons_zero, List.set_cons_succ]
    refine anyH_take (v := ?_) 4 rfl (by kernel_rfl) (by kernel_rfl) (by kernel_rfl) (fun _ _ _ h => h) rfl ?_ hHeld ?_
    rotate_left
    · intro w' hSw
      go_simp
      try with_reducible rfl
    try simp only [Act.put, List.setIfInBounds_toArray, List.set_cons_zero, List.set_cons_succ]
    refine anyH_take (v := ?_) 5 rfl (by kernel_rfl) (by kernel_rfl) (by kernel_rfl) (fun _ _ _ h => h) rfl ?_ hHeld ?_
    rotate_left
    · intro w' hSw
      go_simp
      try with_reducible rfl
    try simp only [Act.put, List.setIfInBounds_toArray, List.set_cons_zero, List.set_cons_succ]
    refine anyH_take (v := ?_) 6 rfl (by kernel_rfl) (by kernel_rfl) (by kernel_rfl) (fun _ _ _ h => h) rfl ?_ hHeld ?_
    rotate_left
    · intro w' hSw
      go_simp
      try with_reducible rfl
    try simp only [Act.put, List.setIfInBounds_toArray, List.set_cons_zero, List.set_cons_succ]
    refine anyH_take (v := ?_) 7 rfl (by kernel_rfl) (by kernel_rfl) (by kernel_rfl) (fun _ _ _ h => h) rfl ?_ hHeld ?_
    rotate_left
    · intro w' hSw
      go_simp
      try with_reducible rfl
    try simp only [Act.put, List.setIfInBounds_toArray, List.set_cons_zero, List.set_cons_succ]
    refine wpAnyH_ready (rs := [8, 10]) (by kernel_rfl) (by simp) ?_
    refine ready_cons rfl (fun K hK => ?_) (ready_cons rfl (fun K hK => ?_) AllReadyH.nil)
    · go_simp
      have ga := g0.zeros N (by omega)
      refine hK.out _ _ ?_ (fun hHeld => ?_)
      · exact (ga.box3 3 rfl)
      clear hK K
      try simp only [Act.put, List.setIfInBounds_toArray, List.set_cons_zero, List.set_cons_succ]
      generalize v0.alloc (.cells (zeros N) 3) = v1 at ga hHeld ⊢
      refine anyH_take (v := ?_) 9 rfl (by kernel_rfl) (by kernel_rfl) (by kernel_rfl) (fun _ _ _ h => h) rfl ?_ hHeld ?_
      rotate_left
      · intro w' hSw
        go_simp
        try with_reducible rfl
      try simp only [Act.put, List.setIfInBounds_toArray, List.set_cons_zero, List.set_cons_succ]
      refine wpAnyH_ready (rs := [10]) (by kernel_rfl) (by simp) ?_
      refine ready_cons rfl (fun K hK => ?_) AllReadyH.nil
      go_simp
      have gb := ga.box [.int .i64 0, .int .i64 0, .slice none 0 0] 29
      refine hK.out _ _ ?_ (fun hHeld => ?_)
      · exact (gb.box3 4 rfl)
      clear hK K
      try simp only [Act.put, List.setIfInBounds_toArray, List.set_cons_zero, List.set_cons_succ]
      generalize v1.alloc (.cells #[.int .i64 0, .int .i64 0, .slice none 0 0] 29) = v2 at gb hHeld ⊢
      generalize v1.heap.size = B6 at gb ⊢
      generalize v0.heap.size = g at gb ⊢
      obtain ⟨p0, p1, p2⟩ := gb.box3 0 rfl
      have f0 := gb.free 0 rfl 0
      have f1 := gb.free 0 rfl 1
      have f2 := gb.free 0 rfl 2
      have gc := ((gb.setBox 0 rfl 0 (.int .i64 p)).setBox 0 rfl 1 (.int .i64 m1)).setBox 0 rfl 2 (.slice (some ⟨g, 0, none⟩) N N)
      obtain ⟨r0, r1, r2⟩ := gc.box3 0 rfl
      refine wpAnyH_ready (rs := [11]) (by kernel_rfl) (by simp) ?_
      refine ready_cons rfl (fun K hK => ?_) AllReadyH.nil
      go_simp
      refine hK.out _ _ ?_ (fun hHeld => ?_)
      · exact (gc.box3 4 rfl)
      clear hK K
      try simp only [Act.put, List.setIfInBounds_toArray, List.set_cons_zero, List.set_cons_succ]
      refine wpAnyH_done (by kernel_rfl) ?_ _
      clear hHeld
      go_wp2
      go_meet
      exact ⟨_, _, rfl, gc.toFront 1 rfl⟩
    · go_simp
      have ga := g0.box [.int .i64 0, .int .i64 0, .slice none 0 0] 29
      refine hK.out _ _ ?_ (fun hHeld => ?_)
      · exact (ga.box3 3 rfl)
      clear hK K
      try simp only [Act.put, List.setIfInBounds_toArray, List.set_cons_zero, List.set_cons_succ]
      generalize v0.alloc (.cells #[.int .i64 0, .int .i64 0, .slice none 0 0] 29) = v1 at ga hHeld ⊢
      refine wpAnyH_ready (rs := [8]) (by kernel_rfl) (by simp) ?_
      refine ready_cons rfl (fun K hK => ?_) AllReadyH.nil
      go_simp
      have gb := ga.zeros N (by omega)
      refine hK.out _ _ ?_ (fun hHeld => ?_)
      · exact (gb.box3 4 rfl)
      clear hK K
      try simp only [Act.put, List.setIfInBounds_toArray, List.set_cons_zero, List.set_cons_succ]
      generalize v1.alloc (.cells (zeros N) 3) = v2 at gb hHeld ⊢
      generalize v0.heap.size = B6 at gb ⊢
      generalize v1.heap.size = g at gb ⊢
      refine anyH_take (v := ?_) 9 rfl (by kernel_rfl) (by kernel_rfl) (by kernel_rfl) (fun _ _ _ h => h) rfl ?_ hHeld ?_
      rotate_left
      · intro w' hSw
        go_simp
        try with_reducible rfl
      try simp only [Act.put, List.setIfInBounds_toArray, List.set_cons_zero, List.set_cons_succ]
      obtain ⟨p0, p1, p2⟩ := gb.box3 1 rfl
      have f0 := gb.free 1 rfl 0
      have f1 := gb.free 1 rfl 1
      have f2 := gb.free 1 rfl 2
      have gc := ((gb.setBox 1 rfl 0 (.int .i64 p)).setBox 1 rfl 1 (.int .i64 m1)).setBox 1 rfl 2 (.slice (some ⟨g, 0, none⟩) N N)
      obtain ⟨r0, r1, r2⟩ := gc.box3 1 rfl
      refine wpAnyH_ready (rs := [11]) (by kernel_rfl) (by simp) ?_
      refine ready_cons rfl (fun K hK => ?_) AllReadyH.nil
      go_simp
      refine hK.out _ _ ?_ (fun hHeld => ?_)
      · exact (gc.box3 4 rfl)
      clear hK K
      try simp only [Act.put, List.setIfInBounds_toArray, List.set_cons_zero, List.set_cons_succ]
      refine wpAnyH_done (by kernel_rfl) ?_ _
      clear hHeld
      go_wp2
      go_meet
      exact ⟨_, _, rfl, gc⟩
  obtain ⟨B6, g, rfl, h3⟩ := hcut
  rw [HG0.out] at h3
  obtain ⟨x0, x1, x2⟩ := h3.box3 4 rfl
  obtain ⟨y0, y1, y2⟩ := h3.box3 3 rfl
  go_wp2
  clear x0 x1 x2 y0 y1 y2
  go_loopw [7, 8, 9] (fun v7 _ _ wr => ∃ i : Nat, v7 = .int .i64 i ∧ i ≤ n ∧ St w wr [.own (.slice (some ⟨g, 0, none⟩) N N) (grTo n T i 0 0), .box B6 [.int .i64 p, .int .i64 m1, .slice (some ⟨g, 0, none⟩) N N], .box (w.heap.size + 1 + 1) [.int .i64 0, .int .i64 0, .slice none 0 0], .box (w.heap.size + 1) [.int .i64 q, .int .i64 o, .slice A1 1 k1], .box w.heap.size [.int .i64 p, .int .i64 n, .slice A T.length k], .ro (.slice A1 1 k1) [0], .ro (.slice A T.length k) T]) (fun v7 _ _ _ => n - (intOf v7).toNat)
  case atStart => exact ⟨0, rfl, by omega, h3⟩
  case round =>
    clear h3
    obtain ⟨i, rfl, a1, h3⟩ := hrel
    obtain ⟨x0, x1, x2⟩ := h3.box3 4 rfl
    obtain ⟨y0, y1, y2⟩ := h3.box3 3 rfl
    by_cases hi : i < n
    · go_wp2
      clear x0 x1 x2 y0 y1 y2
      go_loopw [8, 9] (fun v8 _ wr => ∃ j : Nat, v8 = .int .i64 j ∧ j ≤ n ∧ St w wr [.own (.slice (some ⟨g, 0, none⟩) N N) (grTo n T i j 0), .box B6 [.int .i64 p, .int .i64 m1, .slice (some ⟨g, 0, none⟩) N N], .box (w.heap.size + 1 + 1) [.int .i64 0, .int .i64 0, .slice none 0 0], .box (w.heap.size + 1) [.int .i64 q, .int .i64 o, .slice A1 1 k1], .box w.heap.size [.int .i64 p, .int .i64 n, .slice A T.length k], .ro (.slice A1 1 k1) [0], .ro (.slice A T.length k) T]) (fun v8 _ _ => n - (intOf v8).toNat)
      case atStart => exact ⟨0, rfl, by omega, h3⟩
      case round =>
        clear h3
        obtain ⟨j, rfl, a2, h3⟩ := hrel
        obtain ⟨x0, x1, x2⟩ := h3.box3 4 rfl
        by_cases hj : j < n
        · go_wp2
          clear x0 x1 x2
          go_loopw [9] (fun v9 wr => ∃ c : Nat, v9 = .int .i64 c ∧ c ≤ n ∧ St w wr [.own (.slice (some ⟨g, 0, none⟩) N N) (grTo n T i j c), .box B6 [.int .i64 p, .int .i64 m1, .slice (some ⟨g, 0, none⟩) N N], .box (w.heap.size + 1 + 1) [.int .i64 0, .int .i64 0, .slice none 0 0], .box (w.heap.size + 1) [.int .i64 q, .int .i64 o, .slice A1 1 k1], .box w.heap.size [.int .i64 p, .int .i64 n, .slice A T.length k], .ro (.slice A1 1 k1) [0], .ro (.slice A T.length k) T]) (fun v9 _ => n - (intOf v9).toNat)
          case atStart => exact ⟨0, rfl, by omega, h3⟩
          case round =>
            clear h3
            obtain ⟨c, rfl, a3, h3⟩ := hrel
            obtain ⟨x0, x1, x2⟩ := h3.box3 4 rfl
            by_cases hc : c < n
            · have hm9 := Hm1.out
              have l1 := HBd.out i j c (by omega) (by omega) (by omega)
              have hSet := HSet.out i j c hi hj hc
              obtain ⟨x, hx⟩ : ∃ x, x = t3 T n i j c := ⟨_, rfl⟩
              have hga := fun (W : World) x0 x1 => HGa.out W i j c x0 x1 hi hj hc
              rw [← hx] at hSet hga
              obtain ⟨z1, hz1⟩ : ∃ z1, z1 = i * m1 := ⟨_, rfl⟩
              obtain ⟨z2, hz2⟩ : ∃ z2, z2 = z1 + j := ⟨_, rfl⟩
              obtain ⟨z3, hz3⟩ : ∃ z3, z3 = z2 * m1 := ⟨_, rfl⟩
              obtain ⟨q1, hq1⟩ : ∃ q1, q1 = z3 + c := ⟨_, rfl⟩
              rw [← hz1, ← hz2, ← hz3, ← hq1] at hSet l1
              have t1 : (i : Int) * (m1 : Int) = (z1 : Int) := by rw [hz1]; simp
              have t2 : (z1 : Int) + (j : Int) = (z2 : Int) := by omega
              have t3 : (z2 : Int) * (m1 : Int) = (z3 : Int) := by rw [hz3]; simp
              have t4 : (z3 : Int) + (c : Int) = (q1 : Int) := by omega
              have hzb : z1 ≤ 784 := by rw [hz1]; exact Nat.mul_le_mul (show i ≤ 28 by omega) m128
              have v1 : IntKind.i64.wrap (z1 : Int) = z1 := wrap_ok (by omega) (by omega)
              have v2 : IntKind.i64.wrap (z2 : Int) = z2 := wrap_ok (by omega) (by omega)
              have v3 : IntKind.i64.wrap (z3 : Int) = z3 := wrap_ok (by omega) (by omega)
              have v4 : IntKind.i64.wrap (q1 : Int) = q1 := wrap_ok (by omega) (by omega)
              have i1 : (q1 : Int) < (N : Int) := by omega
              have HSet2 := Lib.hid hSet
              have HGa2 := Lib.hid hga
              have HLt := Lib.hid (show q1 < (grTo n T i j c).length by rw [HGl.out]; exact l1)
              clear hz1 hz2 hz3 hq1 hx hSet hga l1 hm9
              go_upto_region 12 with fail
              clear x0 x1 x2
              have g0 := h3.drew
              refine wp_region_cut (S := fun w' => (w'.cell? ⟨B6, 0, none⟩ = some (.int .i64 p) ∧ w'.cell? ⟨B6, 1, none⟩ = some (.int .i64 m1) ∧ w'.cell? ⟨B6, 2, none⟩ = some (.slice (some ⟨g, 0, none⟩) N N)) ∧ (w'.cell? ⟨w.heap.size, 0, none⟩ = some (.int .i64 p) ∧ w'.cell? ⟨w.heap.size, 1, none⟩ = some (.int .i64 n) ∧ w'.cell? ⟨w.heap.size, 2, none⟩ = some (.slice A T.length k))) 17 (by kernel_rfl) (by kernel_rfl) ⟨g0.box3 1 rfl, g0.box3 4 rfl⟩ (fun hHeld => ?_)
              simp only [List.take_succ_cons, List.take_zero]
              refine anyH_take (v := ?_) 0 rfl (by kernel_rfl) (by kernel_rfl) (by kernel_rfl) (fun _ _ _ h => h) rfl ?_ hHeld ?_
              rotate_left
              · intro w' hSw
                go_simp
                try with_reducible rfl
              try simp only [Act.put, List.setIfInBounds_toArray, List.set_cons_zero, List.set_cons_succ]
              refine anyH_take (v := ?_) 1 rfl (by kernel_rfl) (by kernel_rfl) (by kernel_rfl) (fun _ _ _ h => h) rfl ?_ hHeld ?_
              rotate_left
              · intro w' hSw
                go_simp
                try with_reducible rfl
              try simp only [Act.put, List.setIfInBounds_toArray, List.set_cons_zero, List.set_cons_succ]
              refine anyH_take (v := ?_) 2 rfl (by kernel_rfl) (by kernel_rfl) (by kernel_rfl) (fun _ _ _ h => h) rfl ?_ hHeld ?_
              rotate_left
              · intro w' hSw
                go_simp
                try with_reducible rfl
              try simp only [Act.put, List.setIfInBounds_toArray, List.set_cons_zero, List.set_cons_succ]
              refine anyH_take (v := ?_) 3 rfl (by kernel_rfl) (by kernel_rfl) (by kernel_rfl) (fun _ _ _ h => h) rfl ?_ hHeld ?_
              rotate_left
              · intro w' hSw
                go_simp
                try with_reducible rfl
              try simp only [Act.put, List.setIfInBounds_toArray, List.set_cons_zero, List.set_cons_succ]
              refine anyH_take (v := ?_) 4 rfl (by kernel_rfl) (by kernel_rfl) (by kernel_rfl) (fun _ _ _ h => h) rfl ?_ hHeld ?_
              rotate_left
              · intro w' hSw
                go_simp
                try with_reducible rfl
              try simp only [Act.put, List.setIfInBounds_toArray, List.set_cons_zero, List.set_cons_succ]
              refine anyH_take (v := ?_) 5 rfl (by kernel_rfl) (by kernel_rfl) (by kernel_rfl) (fun _ _ _ h => h) rfl ?_ hHeld ?_
              rotate_left
              · intro w' hSw
                go_simp
                try with_reducible rfl
              try simp only [Act.put, List.setIfInBounds_toArray, List.set_cons_zero, List.set_cons_succ]
              refine anyH_take (v := ?_) 6 rfl (by kernel_rfl) (by kernel_rfl) (by kernel_rfl) (fun _ _ _ h => h) rfl ?_ hHeld ?_
              rotate_left
              · intro w' hSw
                go_simp
                try with_reducible rfl
              try simp only [Act.put, List.setIfInBounds_toArray, List.set_cons_zero, List.set_cons_succ]
              refine anyH_take (v := ?_) 7 rfl (by kernel_rfl) (by kernel_rfl) (by kernel_rfl) (fun _ _ _ h => h) rfl ?_ hHeld ?_
              rotate_left
              · intro w' hSw
                go_simp
                try with_reducible rfl
              try simp only [Act.put, List.setIfInBounds_toArray, List.set_cons_zero, List.set_cons_succ]
              refine anyH_take (v := ?_) 8 rfl (by kernel_rfl) (by kernel_rfl) (by kernel_rfl) (fun _ _ _ h => h) rfl ?_ hHeld ?_
              rotate_left
              · intro w' hSw
                go_simp
                try with_reducible rfl
              try simp only [Act.put, List.setIfInBounds_toArray, List.set_cons_zero, List.set_cons_succ]
              refine anyH_take (v := ?_) 9 rfl (by kernel_rfl) (by kernel_rfl) (by kernel_rfl) (fun _ _ _ h => h) rfl ?_ hHeld ?_
              rotate_left
              · intro w' hSw
                go_simp
                try with_reducible rfl
              try simp only [Act.put, List.setIfInBounds_toArray, List.set_cons_zero, List.set_cons_succ]
              refine anyH_take (v := ?_) 10 rfl (by kernel_rfl) (by kernel_rfl) (by kernel_rfl) (fun _ _ _ h => h) rfl ?_ hHeld ?_
              rotate_left
              · intro w' hSw
                go_simp
                try with_reducible rfl
              try simp only [Act.put, List.setIfInBounds_toArray, List.set_cons_zero, List.set_cons_succ]
              refine anyH_take (v := ?_) 11 rfl (by kernel_rfl) (by kernel_rfl) (by kernel_rfl) (fun _ _ _ h => h) rfl ?_ hHeld ?_
              rotate_left
              · intro w' hSw
                go_simp
                try with_reducible rfl
              try simp only [Act.put, List.setIfInBounds_toArray, List.set_cons_zero, List.set_cons_succ]
              refine anyH_take (v := ?_) 12 rfl (by kernel_rfl) (by kernel_rfl) (by kernel_rfl) (fun _ _ _ h => h) rfl ?_ hHeld ?_
              rotate_left
              · intro w' hSw
                go_simp
                try with_reducible rfl
              try simp only [Act.put, List.setIfInBounds_toArray, List.set_cons_zero, List.set_cons_succ]
              refine anyH_take (v := ?_) 13 rfl (by kernel_rfl) (by kernel_rfl) (by kernel_rfl) (fun _ _ _ h => h) rfl ?_ hHeld ?_
              rotate_left
              · intro w' hSw
                go_simp
                try with_reducible rfl
              try simp only [Act.put, List.setIfInBounds_toArray, List.set_cons_zero, List.set_cons_succ]
              refine anyH_take (v := ?_) 14 rfl (by kernel_rfl) (by kernel_rfl) (by kernel_rfl) (fun _ _ _ h => h) rfl ?_ hHeld ?_
              rotate_left
              · intro w' hSw
                go_simp
                try with_reducible rfl
              try simp only [Act.put, List.setIfInBounds_toArray, List.set_cons_zero, List.set_cons_succ]
              refine wpAnyH_ready (rs := [15]) (by kernel_rfl) (by simp) ?_
              refine ready_cons rfl (fun K hK => ?_) AllReadyH.nil
              go_simp
              refine (HGa2.out _ (g0.ro 6 rfl) g0.size).mono ?_
              rintro (e : Ending) w3 ⟨rfl, hb3⟩
              have g1 := g0.on hb3
              show K _ _
              refine hK.out _ _ ?_ (fun hHeld => ?_)
              · exact ⟨g1.box3 1 rfl, g1.box3 4 rfl⟩
              clear hK K
              try simp only [Act.put, List.setIfInBounds_toArray, List.set_cons_zero, List.set_cons_succ]
              refine anyH_take (v := ?_) 16 rfl (by kernel_rfl) (by kernel_rfl) (by kernel_rfl) (fun _ _ _ h => h) rfl ?_ hHeld ?_
              rotate_left
              · intro w' hSw
                go_simp
                try with_reducible rfl
              try simp only [Act.put, List.setIfInBounds_toArray, List.set_cons_zero, List.set_cons_succ]
              refine wpAnyH_done (by kernel_rfl) ?_ _
              show wpList _ _ _ _ _ _
              simp only [List.drop_succ_cons, List.drop_zero]
              clear hHeld
              obtain ⟨v0, f0⟩ := g1.ownCellA 0 rfl HLt.out
              have h4 := g1.set 0 rfl q1 x
              clear h3 g0
              go_wp2
              go_roundw
              case rel => exact ⟨c + 1, by go_num, by omega, by rw [← HSet2.out]; exact h4⟩
              case measure => simp [intOf]; omega
            · obtain rfl : c = n := by omega
              rw [HRow.out] at h3
              go_wp2
              go_roundw
              case rel => exact ⟨j + 1, by go_num, by omega, h3⟩
              case measure => simp [intOf]; omega
        · obtain rfl : j = n := by omega
          rw [HNext.out] at h3
          go_wp2
          go_roundw
          case rel => exact ⟨i + 1, by go_num, by omega, h3⟩
          case measure => simp [intOf]; omega
    · obtain rfl : i = n := by omega
      go_wp2
      clear x0 x1 x2 y0 y1 y2
      have HG9 := Lib.hid HGl.out
      obtain ⟨G, hG⟩ : ∃ G, G = grTo i T i 0 0 := ⟨_, rfl⟩
      have hLast := HLast.out
      have hGl := HGl.out i 0 0
      rw [← hG] at h3 hLast hGl ⊢
      have HLast2 := Lib.hid hLast
      have HGl2 := Lib.hid hGl
      have HG := Lib.hid hG
      clear hG hLast hGl HG9
      go_loopw [10, 11, 12] (fun v10 _ _ wr => ∃ a : Nat, v10 = .int .i64 a ∧ a ≤ o ∧ St w wr [.own (.slice (some ⟨g, 0, none⟩) N N) G, .box B6 [.int .i64 p, .int .i64 m1, .slice (some ⟨g, 0, none⟩) N N], .box (w.heap.size + 1 + 1) [.int .i64 0, .int .i64 0, .slice none 0 0], .box (w.heap.size + 1) [.int .i64 q, .int .i64 o, .slice A1 1 k1], .box w.heap.size [.int .i64 p, .int .i64 i, .slice A T.length k], .ro (.slice A1 1 k1) [0], .ro (.slice A T.length k) T]) (fun v10 _ _ _ => o - (intOf v10).toNat)
      case atStart => exact ⟨0, rfl, by omega, h3⟩
      case round =>
        clear h3
        obtain ⟨a, rfl, a2, h3⟩ := hrel
        obtain ⟨y0, y1, y2⟩ := h3.box3 3 rfl
        by_cases ha : a < o
        · go_wp2
          clear y0 y1 y2
          go_loopw [11, 12] (fun v11 _ wr => ∃ b : Nat, v11 = .int .i64 b ∧ b ≤ o ∧ St w wr [.own (.slice (some ⟨g, 0, none⟩) N N) G, .box B6 [.int .i64 p, .int .i64 m1, .slice (some ⟨g, 0, none⟩) N N], .box (w.heap.size + 1 + 1) [.int .i64 0, .int .i64 0, .slice none 0 0], .box (w.heap.size + 1) [.int .i64 q, .int .i64 o, .slice A1 1 k1], .box w.heap.size [.int .i64 p, .int .i64 i, .slice A T.length k], .ro (.slice A1 1 k1) [0], .ro (.slice A T.length k) T]) (fun v11 _ _ => o - (intOf v11).toNat)
          case atStart => exact ⟨0, rfl, by omega, h3⟩
          case round =>
            clear h3
            obtain ⟨b, rfl, a3, h3⟩ := hrel
            obtain ⟨y0, y1, y2⟩ := h3.box3 3 rfl
            by_cases hb : b < o
            · go_wp2
              clear y0 y1 y2
              go_loopw [12] (fun v12 wr => ∃ c : Nat, v12 = .int .i64 c ∧ c ≤ o ∧ St w wr [.own (.slice (some ⟨g, 0, none⟩) N N) G, .box B6 [.int .i64 p, .int .i64 m1, .slice (some ⟨g, 0, none⟩) N N], .box (w.heap.size + 1 + 1) [.int .i64 0, .int .i64 0, .slice none 0 0], .box (w.heap.size + 1) [.int .i64 q, .int .i64 o, .slice A1 1 k1], .box w.heap.size [.int .i64 p, .int .i64 i, .slice A T.length k], .ro (.slice A1 1 k1) [0], .ro (.slice A T.length k) T]) (fun v12 _ => o - (intOf v12).toNat)
              case atStart => exact ⟨0, rfl, by omega, h3⟩
              case round =>
                clear h3
                obtain ⟨c, rfl, a4, h3⟩ := hrel
                obtain ⟨y0, y1, y2⟩ := h3.box3 3 rfl
                by_cases hc : c < o
                · have hm9 := Hm1.out
                  have ho9 := Ho.out
                  have l1 := HBd.out (i + a) (i + b) (i + c) (by omega) (by omega) (by omega)
                  have hSet := HLast2.out a b c ha hb hc
                  rw [← Nat.add_assoc, ← Nat.add_assoc] at l1
                  have hgb := fun (W : World) x0 x1 => HGb.out W a b c x0 x1 ha hb hc
                  obtain ⟨z0, hz0⟩ : ∃ z0, z0 = i + a := ⟨_, rfl⟩
                  obtain ⟨z1, hz1⟩ : ∃ z1, z1 = z0 * m1 := ⟨_, rfl⟩
                  obtain ⟨z2, hz2⟩ : ∃ z2, z2 = z1 + i := ⟨_, rfl⟩
                  obtain ⟨z3, hz3⟩ : ∃ z3, z3 = z2 + b := ⟨_, rfl⟩
                  obtain ⟨z4, hz4⟩ : ∃ z4, z4 = z3 * m1 := ⟨_, rfl⟩
                  obtain ⟨z5, hz5⟩ : ∃ z5, z5 = z4 + i := ⟨_, rfl⟩
                  obtain ⟨q1, hq1⟩ : ∃ q1, q1 = z5 + c := ⟨_, rfl⟩
                  rw [← hz0, ← hz1, ← hz2, ← hz3, ← hz4, ← hz5, ← hq1] at hSet l1
                  have t0 : (i : Int) + (a : Int) = (z0 : Int) := by omega
                  have t1 : (z0 : Int) * (m1 : Int) = (z1 : Int) := by rw [hz1]; simp
                  have t2 : (z1 : Int) + (i : Int) = (z2 : Int) := by omega
                  have t3 : (z2 : Int) + (b : Int) = (z3 : Int) := by omega
                  have t4 : (z3 : Int) * (m1 : Int) = (z4 : Int) := by rw [hz4]; simp
                  have t5 : (z4 : Int) + (i : Int) = (z5 : Int) := by omega
                  have t6 : (z5 : Int) + (c : Int) = (q1 : Int) := by omega
                  have hzb : z1 ≤ 784 := by rw [hz1]; exact Nat.mul_le_mul (show z0 ≤ 28 by omega) m128
                  have v0 : IntKind.i64.wrap (z0 : Int) = z0 := wrap_ok (by omega) (by omega)
                  have v1 : IntKind.i64.wrap (z1 : Int) = z1 := wrap_ok (by omega) (by omega)
                  have v2 : IntKind.i64.wrap (z2 : Int) = z2 := wrap_ok (by omega) (by omega)
                  have v3 : IntKind.i64.wrap (z3 : Int) = z3 := wrap_ok (by omega) (by omega)
                  have v4 : IntKind.i64.wrap (z4 : Int) = z4 := wrap_ok (by omega) (by omega)
                  have v5 : IntKind.i64.wrap (z5 : Int) = z5 := wrap_ok (by omega) (by omega)
                  have v6 : IntKind.i64.wrap (q1 : Int) = q1 := wrap_ok (by omega) (by omega)
                  have i1 : (q1 : Int) < (N : Int) := by omega
                  have HSet2 := Lib.hid hSet
                  have HGb2 := Lib.hid hgb
                  have HLt := Lib.hid (show q1 < G.length by rw [HGl2.out]; exact l1)
                  clear hz0 hz1 hz2 hz3 hz4 hz5 hq1 hSet hgb l1 hm9 ho9
                  go_upto_region 22 with fail
                  clear y0 y1 y2
                  have g0 := h3.drew
                  refine wp_region_cut (S := fun w' => (w'.cell? ⟨B6, 0, none⟩ = some (.int .i64 p) ∧ w'.cell? ⟨B6, 1, none⟩ = some (.int .i64 m1) ∧ w'.cell? ⟨B6, 2, none⟩ = some (.slice (some ⟨g, 0, none⟩) N N)) ∧ (w'.cell? ⟨w.heap.size, 0, none⟩ = some (.int .i64 p) ∧ w'.cell? ⟨w.heap.size, 1, none⟩ = some (.int .i64 i) ∧ w'.cell? ⟨w.heap.size, 2, none⟩ = some (.slice A T.length k)) ∧ (w'.cell? ⟨w.heap.size + 1, 0, none⟩ = some (.int .i64 q) ∧ w'.cell? ⟨w.heap.size + 1, 1, none⟩ = some (.int .i64 o) ∧ w'.cell? ⟨w.heap.size + 1, 2, none⟩ = some (.slice A1 1 k1))) 26 (by kernel_rfl) (by kernel_rfl) ⟨g0.box3 1 rfl, g0.box3 4 rfl, g0.box3 3 rfl⟩ (fun hHeld => ?_)
                  simp only [List.take_succ_cons, List.take_zero]
                  refine anyH_take (v := ?_) 0 rfl (by kernel_rfl) (by kernel_rfl) (by kernel_rfl) (fun _ _ _ h => h) rfl ?_ hHeld ?_
                  rotate_left
                  · intro w' hSw
                    go_simp
                    try with_reducible rfl
                  try simp only [Act.put, List.setIfInBounds_toArray, List.set_cons_zero, List.set_cons_succ]
                  refine anyH_take (v := ?_) 1 rfl (by kernel_rfl) (by kernel_rfl) (by kernel_rfl) (fun _ _ _ h => h) rfl ?_ hHeld ?_
                  rotate_left
                  · intro w' hSw
                    go_simp
                    try with_reducible rfl
                  try simp only [Act.put, List.setIfInBounds_toArray, List.set_cons_zero, List.set_cons_succ]
                  refine anyH_take (v := ?_) 2 rfl (by kernel_rfl) (by kernel_rfl) (by kernel_rfl) (fun _ _ _ h => h) rfl ?_ hHeld ?_
                  rotate_left
                  · intro w' hSw
                    go_simp
                    try with_reducible rfl
                  try simp only [Act.put, List.setIfInBounds_toArray, List.set_cons_zero, List.set_cons_succ]
                  refine anyH_take (v := ?_) 3 rfl (by kernel_rfl) (by kernel_rfl) (by kernel_rfl) (fun _ _ _ h => h) rfl ?_ hHeld ?_
                  rotate_left
                  · intro w' hSw
                    go_simp
                    try with_reducible rfl
                  try simp only [Act.put, List.setIfInBounds_toArray, List.set_cons_zero, List.set_cons_succ]
                  refine anyH_take (v := ?_) 4 rfl (by kernel_rfl) (by kernel_rfl) (by kernel_rfl) (fun _ _ _ h => h) rfl ?_ hHeld ?_
                  rotate_left
                  · intro w' hSw
                    go_simp
                    try with_reducible rfl
                  try simp only [Act.put, List.setIfInBounds_toArray, List.set_cons_zero, List.set_cons_succ]
                  refine anyH_take (v := ?_) 5 rfl (by kernel_rfl) (by kernel_rfl) (by kernel_rfl) (fun _ _ _ h => h) rfl ?_ hHeld ?_
                  rotate_left
                  · intro w' hSw
                    go_simp
                    try with_reducible rfl
                  try simp only [Act.put, List.setIfInBounds_toArray, List.set_cons_zero, List.set_cons_succ]
                  refine anyH_take (v := ?_) 6 rfl (by kernel_rfl) (by kernel_rfl) (by kernel_rfl) (fun _ _ _ h => h) rfl ?_ hHeld ?_
                  rotate_left
                  · intro w' hSw
                    go_simp
                    try with_reducible rfl
                  try simp only [Act.put, List.setIfInBounds_toArray, List.set_cons_zero, List.set_cons_succ]
                  refine anyH_take (v := ?_) 7 rfl (by kernel_rfl) (by kernel_rfl) (by kernel_rfl) (fun _ _ _ h => h) rfl ?_ hHeld ?_
                  rotate_left
                  · intro w' hSw
                    go_simp
                    try with_reducible rfl
                  try simp only [Act.put, List.setIfInBounds_toArray, List.set_cons_zero, List.set_cons_succ]
                  refine anyH_take (v := ?_) 8 rfl (by kernel_rfl) (by kernel_rfl) (by kernel_rfl) (fun _ _ _ h => h) rfl ?_ hHeld ?_
                  rotate_left
                  · intro w' hSw
                    go_simp
                    try with_reducible rfl
                  try simp only [Act.put, List.setIfInBounds_toArray, List.set_cons_zero, List.set_cons_succ]
                  refine anyH_take (v := ?_) 9 rfl (by kernel_rfl) (by kernel_rfl) (by kernel_rfl) (fun _ _ _ h => h) rfl ?_ hHeld ?_
                  rotate_left
                  · intro w' hSw
                    go_simp
                    try with_reducible rfl
                  try simp only [Act.put, List.setIfInBounds_toArray, List.set_cons_zero, List.set_cons_succ]
                  refine anyH_take (v := ?_) 10 rfl (by kernel_rfl) (by kernel_rfl) (by kernel_rfl) (fun _ _ _ h => h) rfl ?_ hHeld ?_
                  rotate_left
                  · intro w' hSw
                    go_simp
                    try with_reducible rfl
                  try simp only [Act.put, List.setIfInBounds_toArray, List.set_cons_zero, List.set_cons_succ]
                  refine anyH_take (v := ?_) 11 rfl (by kernel_rfl) (by kernel_rfl) (by kernel_rfl) (fun _ _ _ h => h) rfl ?_ hHeld ?_
                  rotate_left
                  · intro w' hSw
                    go_simp
                    try with_reducible rfl
                  try simp only [Act.put, List.setIfInBounds_toArray, List.set_cons_zero, List.set_cons_succ]
                  refine anyH_take (v := ?_) 12 rfl (by kernel_rfl) (by kernel_rfl) (by kernel_rfl) (fun _ _ _ h => h) rfl ?_ hHeld ?_
                  rotate_left
                  · intro w' hSw
                    go_simp
                    try with_reducible rfl
                  try simp only [Act.put, List.setIfInBounds_toArray, List.set_cons_zero, List.set_cons_succ]
                  refine anyH_take (v := ?_) 13 rfl (by kernel_rfl) (by kernel_rfl) (by kernel_rfl) (fun _ _ _ h => h) rfl ?_ hHeld ?_
                  rotate_left
                  · intro w' hSw
                    go_simp
                    try with_reducible rfl
                  try simp only [Act.put, List.setIfInBounds_toArray, List.set_cons_zero, List.set_cons_succ]
                  refine anyH_take (v := ?_) 14 rfl (by kernel_rfl) (by kernel_rfl) (by kernel_rfl) (fun _ _ _ h => h) rfl ?_ hHeld ?_
                  rotate_left
                  · intro w' hSw
                    go_simp
                    try with_reducible rfl
                  try simp only [Act.put, List.setIfInBounds_toArray, List.set_cons_zero, List.set_cons_succ]
                  refine anyH_take (v := ?_) 15 rfl (by kernel_rfl) (by kernel_rfl) (by kernel_rfl) (fun _ _ _ h => h) rfl ?_ hHeld ?_
                  rotate_left
                  · intro w' hSw
                    go_simp
                    try with_reducible rfl
                  try simp only [Act.put, List.setIfInBounds_toArray, List.set_cons_zero, List.set_cons_succ]
                  refine anyH_take (v := ?_) 16 rfl (by kernel_rfl) (by kernel_rfl) (by kernel_rfl) (fun _ _ _ h => h) rfl ?_ hHeld ?_
                  rotate_left
                  · intro w' hSw
                    go_simp
                    try with_reducible rfl
                  try simp only [Act.put, List.setIfInBounds_toArray, List.set_cons_zero, List.set_cons_succ]
                  refine anyH_take (v := ?_) 17 rfl (by kernel_rfl) (by kernel_rfl) (by kernel_rfl) (fun _ _ _ h => h) rfl ?_ hHeld ?_
                  rotate_left
                  · intro w' hSw
                    go_simp
                    try with_reducible rfl
                  try simp only [Act.put, List.setIfInBounds_toArray, List.set_cons_zero, List.set_cons_succ]
                  refine anyH_take (v := ?_) 18 rfl (by kernel_rfl) (by kernel_rfl) (by kernel_rfl) (fun _ _ _ h => h) rfl ?_ hHeld ?_
                  rotate_left
                  · intro w' hSw
                    go_simp
                    try with_reducible rfl
                  try simp only [Act.put, List.setIfInBounds_toArray, List.set_cons_zero, List.set_cons_succ]
                  refine anyH_take (v := ?_) 19 rfl (by kernel_rfl) (by kernel_rfl) (by kernel_rfl) (fun _ _ _ h => h) rfl ?_ hHeld ?_
                  rotate_left
                  · intro w' hSw
                    go_simp
                    try with_reducible rfl
                  try simp only [Act.put, List.setIfInBounds_toArray, List.set_cons_zero, List.set_cons_succ]
                  refine anyH_take (v := ?_) 20 rfl (by kernel_rfl) (by kernel_rfl) (by kernel_rfl) (fun _ _ _ h => h) rfl ?_ hHeld ?_
                  rotate_left
                  · intro w' hSw
                    go_simp
                    try with_reducible rfl
                  try simp only [Act.put, List.setIfInBounds_toArray, List.set_cons_zero, List.set_cons_succ]
                  refine anyH_take (v := ?_) 21 rfl (by kernel_rfl) (by kernel_rfl) (by kernel_rfl) (fun _ _ _ h => h) rfl ?_ hHeld ?_
                  rotate_left
                  · intro w' hSw
                    go_simp
                    try with_reducible rfl
                  try simp only [Act.put, List.setIfInBounds_toArray, List.set_cons_zero, List.set_cons_succ]
                  refine anyH_take (v := ?_) 22 rfl (by kernel_rfl) (by kernel_rfl) (by kernel_rfl) (fun _ _ _ h => h) rfl ?_ hHeld ?_
                  rotate_left
                  · intro w' hSw
                    go_simp
                    try with_reducible rfl
                  try simp only [Act.put, List.setIfInBounds_toArray, List.set_cons_zero, List.set_cons_succ]
                  refine anyH_take (v := ?_) 23 rfl (by kernel_rfl) (by kernel_rfl) (by kernel_rfl) (fun _ _ _ h => h) rfl ?_ hHeld ?_
                  rotate_left
                  · intro w' hSw
                    go_simp
                    try with_reducible rfl
                  try simp only [Act.put, List.setIfInBounds_toArray, List.set_cons_zero, List.set_cons_succ]
                  refine wpAnyH_ready (rs := [24]) (by kernel_rfl) (by simp) ?_
                  refine ready_cons rfl (fun K hK => ?_) AllReadyH.nil
                  go_simp
                  refine (HGb2.out _ (g0.ro 5 rfl) g0.size).mono ?_
                  rintro (e : Ending) w3 ⟨rfl, hb3⟩
                  have g1 := g0.on hb3
                  show K _ _
                  refine hK.out _ _ ?_ (fun hHeld => ?_)
                  · exact ⟨g1.box3 1 rfl, g1.box3 4 rfl, g1.box3 3 rfl⟩
                  clear hK K
                  try simp only [Act.put, List.setIfInBounds_toArray, List.set_cons_zero, List.set_cons_succ]
                  refine anyH_take (v := ?_) 25 rfl (by kernel_rfl) (by kernel_rfl) (by kernel_rfl) (fun _ _ _ h => h) rfl ?_ hHeld ?_
                  rotate_left
                  · intro w' hSw
                    go_simp
                    try with_reducible rfl
                  try simp only [Act.put, List.setIfInBounds_toArray, List.set_cons_zero, List.set_cons_succ]
                  refine wpAnyH_done (by kernel_rfl) ?_ _
                  show wpList _ _ _ _ _ _
                  simp only [List.drop_succ_cons, List.drop_zero]
                  clear hHeld
                  obtain ⟨u0, f0⟩ := g1.ownCellA 0 rfl HLt.out
                  have h4 := g1.set 0 rfl q1 0
                  clear h3 g0
                  go_wp2
                  go_roundw
                  case rel => exact ⟨c + 1, by go_num, by omega, by rw [← HSet2.out]; exact h4⟩
                  case measure => simp [intOf]; omega
                · obtain rfl : c = o := by omega
                  go_wp2
                  go_roundw
                  case rel => exact ⟨b + 1, by go_num, by omega, h3⟩
                  case measure => simp [intOf]; omega
            · obtain rfl : b = o := by omega
              go_wp2
              go_roundw
              case rel => exact ⟨a + 1, by go_num, by omega, h3⟩
              case measure => simp [intOf]; omega
        · obtain rfl : a = o := by omega
          obtain ⟨x0, x1, x2⟩ := h3.box3 1 rfl
          obtain ⟨p0, p1, p2⟩ := h3.box3 2 rfl
          have f0 := h3.free 2 rfl 0
          have f1 := h3.free 2 rfl 1
          have f2 := h3.free 2 rfl 2
          have g9 := ((h3.setBox 2 rfl 0 (.int .i64 p)).setBox 2 rfl 1 (.int .i64 m1)).setBox 2 rfl 2 (.slice (some ⟨g, 0, none⟩) N N)
          obtain ⟨r0, r1, r2⟩ := g9.box3 2 rfl
          go_wp2
          refine bodyPost_ret (v := .agg #[.int .i64 p, .int .i64 m1, .slice (some ⟨g, 0, none⟩) N N]) (by simp [results, Try.results130, go_sem, r0, r1, r2]) rfl ⟨_, rfl, by rw [← HG.out]; exact g9.own 0 rfl, g9.below⟩
set_option maxHeartbeats 1000000 in
theorem l3Grow_any (p : Int) (n : Nat) (t : Value) (T : List Int) (w : World) (ht : Ints w t T) (hT : T.length = n * n * n) (hn : n ≤ 27) (hP : isPrime p = true) :
    Calls Try.prog 53 #[.agg #[.int .i64 p, .int .i64 n, t]] w (RetAlg w p (n + 1 : Nat) (grTo n T n 0 0)) := by
  have h1 := (((St.start w).arg ht).box [.int .i64 p, .int .i64 n, t] 29).box [.int .i64 0, .int .i64 0, .slice none 0 0] 29
  simp only [World.size_alloc] at h1
  obtain ⟨A, k, rfl, _, _, _⟩ := id ht
  have HAb := Lib.hid (show ∀ W, Calls Try.prog 131 #[.int .i64 p, .int .i64 1] W (RetAlg W p 1 [0]) from fun W => AbelianAlgebraS_any p 1 W hP (by omega))
  have HSu := Lib.hid (show ∀ (W : World) (v1 v2 : Value) (x1 : Ints W v1 T) (x2 : Ints W v2 [0]), Calls Try.prog 130 #[.agg #[.int .i64 p, .int .i64 n, v1], .agg #[.int .i64 p, .int .i64 1, v2]] W (RetAlg W p (n + 1 : Nat) (grTo n T n 0 0)) from fun W v1 v2 x1 x2 => l2Sum1_any p p n 1 v1 v2 T W x1 x2 hT hn rfl)
  obtain ⟨m1, hm1⟩ : ∃ m1, m1 = n + 1 := ⟨_, rfl⟩
  rw [← hm1] at HSu ⊢
  obtain ⟨G, hG⟩ : ∃ G, G = grTo n T n 0 0 := ⟨_, rfl⟩
  rw [← hG] at HSu ⊢
  clear ht hT hm1 hG
  go_enter Try.func53, Try.ntmps53
  go_upto_region 1 with fail
  have g0 := h1.drew
  refine wp_region_held_drew (S := fun w' => (w'.cell? ⟨w.heap.size, 0, none⟩ = some (.int .i64 p) ∧ w'.cell? ⟨w.heap.size, 1, none⟩ = some (.int .i64 n) ∧ w'.cell? ⟨w.heap.size, 2, none⟩ = some (.slice A T.length k))) (by kernel_rfl) (g0.box3 1 rfl) (fun hHeld => ?_)
  refine anyH_take (v := ?_) 0 rfl (by kernel_rfl) (by kernel_rfl) (by kernel_rfl) (fun _ _ _ h => h) rfl ?_ hHeld ?_
  rotate_left
  · intro w' hSw
    go_simp
    try with_reducible rfl
  try simp only [Act.put, List.setIfInBounds_toArray, List.set_cons_zero, List.set_cons_succ]
  refine anyH_take (v := ?_) 1 rfl (by kernel_rfl) (by kernel_rfl) (by kernel_rfl) (fun _ _ _ h => h) rfl ?_ hHeld ?_
  rotate_left
  · intro w' hSw
    go_simp
    try with_reducible rfl
  try simp only [Act.put, List.setIfInBounds_toArray, List.set_cons_zero, List.set_cons_succ]
  refine anyH_take (v := ?_) 2 rfl (by kernel_rfl) (by kernel_rfl) (by kernel_rfl) (fun _ _ _ h => h) rfl ?_ hHeld ?_
  rotate_left
  · intro w' hSw
    go_simp
    try with_reducible rfl
  try simp only [Act.put, List.setIfInBounds_toArray, List.set_cons_zero, List.set_cons_succ]
  refine wpAnyH_ready (rs := [3]) (by kernel_rfl) (by simp) ?_
  refine ready_cons rfl (fun K hK => ?_) AllReadyH.nil
  go_simp
  refine (HAb.out _).mono ?_
  rintro (e : Ending) w3 ⟨u3, rfl, ho3, hb3⟩
  obtain ⟨A3, c3, rfl, _, _, _⟩ := id ho3.ints
  rw [show ([0] : List Int).length = 1 from rfl] at ho3 ⊢
  have g1 := g0.pushOwn hb3 ho3
  show K _ _
  refine hK.out _ _ ?_ (fun hHeld => ?_)
  · exact (g1.box3 2 rfl)
  clear hK K
  try simp only [Act.put, List.setIfInBounds_toArray, List.set_cons_zero, List.set_cons_succ]
  refine wpAnyH_ready (rs := [4]) (by kernel_rfl) (by simp) ?_
  refine ready_cons rfl (fun K hK => ?_) AllReadyH.nil
  go_simp
  refine (HSu.out _ _ _ (g1.roInts 3 rfl) (g1.ownInts 0 rfl)).mono ?_
  rintro (e : Ending) w4 ⟨u4, rfl, ho4, hb4⟩
  obtain ⟨A4, n4, c4, rfl⟩ := ho4.slice
  have g2 := g1.pushOwn hb4 ho4
  show K _ _
  refine hK.out _ _ ?_ (fun hHeld => ?_)
  · exact (g2.box3 3 rfl)
  clear hK K
  try simp only [Act.put, List.setIfInBounds_toArray, List.set_cons_zero, List.set_cons_succ]
  obtain ⟨p0, p1, p2⟩ := g2.box3 2 rfl
  have f0 := g2.free 2 rfl 0
  have f1 := g2.free 2 rfl 1
  have f2 := g2.free 2 rfl 2
  have g3 := ((g2.setBox 2 rfl 0 (.int .i64 p)).setBox 2 rfl 1 (.int .i64 m1)).setBox 2 rfl 2 (.slice A4 n4 c4)
  obtain ⟨r0, r1, r2⟩ := g3.box3 2 rfl
  refine wpAnyH_ready (rs := [5]) (by kernel_rfl) (by simp) ?_
  refine ready_cons rfl (fun K hK => ?_) AllReadyH.nil
  go_simp
  refine hK.out _ _ ?_ (fun hHeld => ?_)
  · exact (g3.box3 3 rfl)
  clear hK K
  try simp only [Act.put, List.setIfInBounds_toArray, List.set_cons_zero, List.set_cons_succ]
  refine wpAnyH_done (by kernel_rfl) ?_ _
  clear hHeld
  go_wp2
  refine bodyPost_ret (v := .agg #[.int .i64 p, .int .i64 m1, .slice A4 n4 c4]) (by simp [results, Try.results53, go_sem, r0, r1, r2]) rfl ⟨_, rfl, g3.own 0 rfl, g3.below⟩

set_option maxHeartbeats 4000000 in
theorem SemidirectByS_any (p n q r c : Int) (t u : Value) (T D : List Int) (w : World) (ht : Ints w t T) (hu : Ints w u D) (hq : q ≤ 9223372036854775807) :
    Calls Try.prog 14 #[.agg #[.int .i64 p, .int .i64 n, t], .agg #[.int .i64 q, .int .i64 r, .int .i64 c, u]] w (RetAlgB w (sdP p n T q r c D) (sdN p n T q r c D) (sdT p n T q r c D) (sdOk p n T q r c D)) := by
  have h1 := (((((St.start w).arg ht).arg hu).box [.int .i64 p, .int .i64 n, t] 29).box [.int .i64 q, .int .i64 r, .int .i64 c, u] 33).box [.int .i64 0, .int .i64 0, .slice none 0 0] 29
  simp only [World.size_alloc] at h1
  obtain ⟨A, k, rfl, _, _, _⟩ := id ht
  obtain ⟨A1, k1, rfl, _, _, _⟩ := id hu
  have HI := Lib.hid (fun (W : World) (x1 : Ints W (.slice A T.length k) T) (x2 : Ints W (.slice A1 D.length k1) D) => IsDerivationS_any p n q r c _ _ T D W x1 x2 hq)
  clear ht hu
  obtain ⟨Po, hPo⟩ : ∃ Po : Ending → World → Prop, Po = RetAlgB w (sdP p n T q r c D) (sdN p n T q r c D) (sdT p n T q r c D) (sdOk p n T q r c D) := ⟨_, rfl⟩
  rw [← hPo]
  obtain ⟨x0, x1, x2⟩ := h1.box3 2 rfl
  obtain ⟨y0, y1, y2, y3⟩ := h1.box4 1 rfl
  by_cases b1 : isDer p n T q r c D = true
  case neg =>
    have b1 : isDer p n T q r c D = false := by simpa using b1
    have HF := Lib.hid (show Po = RetAlgB w 0 0 [] false by rw [hPo, sdP, sdN, sdT, show sdOk p n T q r c D = false by rw [sdOk, b1, Bool.false_and]]; rfl)
    have B1 := Lib.hid b1
    clear b1 hPo
    go_enter Try.func14, Try.ntmps14
    go_wp2_with fail
    refine (HI.out _ (h1.roInts 4 rfl) (h1.roInts 3 rfl)).mono ?_
    rintro (e : Ending) w3 ⟨rfl, hb3⟩
    have g1 := h1.on hb3
    rw [B1.out]
    clear x0 x1 x2 y0 y1 y2 y3 hb3 h1
    obtain ⟨p0, p1, p2⟩ := g1.box3 0 rfl
    have f0 := g1.free 0 rfl 0
    have f1 := g1.free 0 rfl 1
    have f2 := g1.free 0 rfl 2
    have g9 := ((g1.setBox 0 rfl 0 (.int .i64 0)).setBox 0 rfl 1 (.int .i64 0)).setBox 0 rfl 2 (.slice none 0 0)
    obtain ⟨r0, r1, r2⟩ := g9.box3 0 rfl
    go_wp2
    refine bodyPost_ret (v := .tuple #[.agg #[.int .i64 0, .int .i64 0, .slice none 0 0], .bool false]) (by simp [results, Try.results14, go_sem, r0, r1, r2]) rfl ?_
    rw [HF.out]
    exact ⟨_, rfl, Own.nil, g9.below⟩
  case pos =>
    obtain ⟨m, rfl, h2, rfl, rfl, rfl, h3, h4, h5, h6, h7, h8, h9, hP⟩ := sd_spec b1
    obtain ⟨m1, hm1⟩ : ∃ m1, m1 = m + 1 := ⟨_, rfl⟩
    have e0 : (m : Int) + 1 = (m1 : Int) := by omega
    have w0 : IntKind.i64.wrap (m1 : Int) = m1 := wrap_ok (by omega) (by omega)
    by_cases b2 : m1 ≤ 28
    case neg =>
      have HF := Lib.hid (show Po = RetAlgB w 0 0 [] false by rw [hPo, sdP, sdN, sdT, show sdOk q m T q m m D = false by rw [sdOk, b1, Bool.true_and, decide_eq_false (by omega)]]; rfl)
      have B1 := Lib.hid b1
      have b3 : (28 : Int) < (m1 : Int) := by omega
      clear b1 b2 hPo h2 h3 h4 h5 h6 h7 h8 h9 hP hm1
      go_enter Try.func14, Try.ntmps14
      go_wp2_with fail
      refine (HI.out _ (h1.roInts 4 rfl) (h1.roInts 3 rfl)).mono ?_
      rintro (e : Ending) w3 ⟨rfl, hb3⟩
      have g1 := h1.on hb3
      rw [B1.out]
      clear x0 x1 x2 y0 y1 y2 y3 hb3 h1
      obtain ⟨x0, x1, x2⟩ := g1.box3 2 rfl
      obtain ⟨p0, p1, p2⟩ := g1.box3 0 rfl
      have f0 := g1.free 0 rfl 0
      have f1 := g1.free 0 rfl 1
      have f2 := g1.free 0 rfl 2
      have g9 := ((g1.setBox 0 rfl 0 (.int .i64 0)).setBox 0 rfl 1 (.int .i64 0)).setBox 0 rfl 2 (.slice none 0 0)
      obtain ⟨r0, r1, r2⟩ := g9.box3 0 rfl
      go_wp2
      refine bodyPost_ret (v := .tuple #[.agg #[.int .i64 0, .int .i64 0, .slice none 0 0], .bool false]) (by simp [results, Try.results14, go_sem, r0, r1, r2]) rfl ?_
      rw [HF.out]
      exact ⟨_, rfl, Own.nil, g9.below⟩
    case pos =>
      have HF := Lib.hid (show Po = RetAlgB w q m1 (sdTo q m T D m 0) true by rw [hPo, sdP, sdN, sdT, show sdOk q m T q m m D = true by rw [sdOk, b1, Bool.true_and, decide_eq_true (by omega)], if_pos rfl, if_pos rfl, if_pos rfl, Int.toNat_natCast, e0, sd_both D h3 h8 h5])
      obtain ⟨m2, hm2⟩ : ∃ m2, m2 = m1 * m1 := ⟨_, rfl⟩
      obtain ⟨N, hN⟩ : ∃ N, N = m2 * m1 := ⟨_, rfl⟩
      have hm2b : m2 ≤ 784 := by rw [hm2]; exact Nat.mul_le_mul b2 b2
      have hNb : N ≤ 21952 := by rw [hN]; exact Nat.mul_le_mul hm2b b2
      have HGr := Lib.hid (fun (W : World) (x1 : Ints W (.slice A T.length k) T) => l3Grow_any q m _ T W x1 h4 (by omega) hP)
      rw [← sdTo_zero q m T D, ← hm1] at HGr
      have HSl := Lib.hid (show ∀ j k, (sdTo q m T D j k).length = N from fun j k => by rw [length_sdTo, hN, hm2, hm1])
      have HSet := Lib.hid (show ∀ j k, j < m → k < m → ((sdTo q m T D j k).set ((m * m1 + j) * m1 + k) (vec D (j * m + k))).set ((j * m1 + m) * m1 + k) ((-(vec D (j * m + k))) % q) = sdTo q m T D j (k + 1) from fun j k hj hk => by rw [hm1]; exact sdTo_set hj hk)
      have HRow := Lib.hid (sdTo_row q m T D)
      have HAt := Lib.hid (fun (W : World) (i j : Nat) (x1 : Ints W (.slice A1 D.length k1) D) (hi : i < m) (hj : j < m) => l1At_any q m m _ D i j W x1 h6 (by have := mul_le h2 h2; omega) hi hj)
      have HDr := Lib.hid (show ∀ i, 0 ≤ vec D i ∧ vec D i < q from fun i => resid_vec' h7 (by omega) i)
      have HBd := Lib.hid (show ∀ a b c, a < m1 → b < m1 → c < m1 → (a * m1 + b) * m1 + c < N from fun a b c ha hb hc => by rw [hN, hm2]; exact idx3_bd ha hb hc)
      have B1 := Lib.hid b1
      have b3 : (m1 : Int) ≤ 28 := by omega
      have hmm : m < m1 := by omega
      clear b1 hPo h3 h4 h5 h6 h7 hP hm1 hm2 hN
      go_enter Try.func14, Try.ntmps14
      go_wp2_with fail
      refine (HI.out _ (h1.roInts 4 rfl) (h1.roInts 3 rfl)).mono ?_
      rintro (e : Ending) w3 ⟨rfl, hb3⟩
      have g1 := h1.on hb3
      rw [B1.out]
      clear x0 x1 x2 y0 y1 y2 y3 hb3 h1
      obtain ⟨x0, x1, x2⟩ := g1.box3 2 rfl
      go_wp2_with fail
      refine (HGr.out _ (g1.roInts 4 rfl)).mono ?_
      rintro (e : Ending) w4 ⟨u4, rfl, ho4, hb4⟩
      obtain ⟨A4, c4, rfl, _, _, _⟩ := id ho4.ints
      rw [HSl.out] at ho4 ⊢
      have g2 := (g1.pushOwn hb4 ho4).box [.int .i64 q, .int .i64 m1, .slice A4 N c4] 29
      clear x0 x1 x2 g1 hb4 ho4
      obtain ⟨x0, x1, x2⟩ := g2.box3 4 rfl
      go_wp2
      clear x0 x1 x2
      generalize hB6 : w4.heap.size = B6 at g2 ⊢
      clear hB6
      go_loopw [8, 9, 10] (fun v8 _ _ wr => ∃ j : Nat, v8 = .int .i64 j ∧ j ≤ m ∧ St w wr [.box B6 [.int .i64 q, .int .i64 m1, .slice A4 N c4], .own (.slice A4 N c4) (sdTo q m T D j 0), .box (w.heap.size + 1 + 1) [.int .i64 0, .int .i64 0, .slice none 0 0], .box (w.heap.size + 1) [.int .i64 q, .int .i64 m, .int .i64 m, .slice A1 D.length k1], .box w.heap.size [.int .i64 q, .int .i64 m, .slice A T.length k], .ro (.slice A1 D.length k1) D, .ro (.slice A T.length k) T]) (fun v8 _ _ _ => m - (intOf v8).toNat)
      case atStart => exact ⟨0, rfl, by omega, g2⟩
      case round =>
        clear g2
        obtain ⟨j, rfl, a1, g⟩ := hrel
        by_cases hj : j < m
        · go_wp2
          go_loopw [9, 10] (fun v9 _ wr => ∃ c : Nat, v9 = .int .i64 c ∧ c ≤ m ∧ St w wr [.box B6 [.int .i64 q, .int .i64 m1, .slice A4 N c4], .own (.slice A4 N c4) (sdTo q m T D j c), .box (w.heap.size + 1 + 1) [.int .i64 0, .int .i64 0, .slice none 0 0], .box (w.heap.size + 1) [.int .i64 q, .int .i64 m, .int .i64 m, .slice A1 D.length k1], .box w.heap.size [.int .i64 q, .int .i64 m, .slice A T.length k], .ro (.slice A1 D.length k1) D, .ro (.slice A T.length k) T]) (fun v9 _ _ => m - (intOf v9).toNat)
          case atStart => exact ⟨0, rfl, by omega, g⟩
          case round =>
            clear g
            obtain ⟨c, rfl, a2, g⟩ := hrel
            by_cases hc : c < m
            · have l1 := HBd.out m j c hmm (by omega) (by omega)
              have l2 := HBd.out j m c (by omega) hmm (by omega)
              have hSet := HSet.out j c hj hc
              have hAt := fun (W : World) x1 => HAt.out W j c x1 hj hc
              have hDr := HDr.out (j * m + c)
              obtain ⟨gA, rfl, -⟩ := g.ownSomeA 1 rfl (by rw [HSl.out]; omega)
              obtain ⟨x, hx⟩ : ∃ x, x = vec D (j * m + c) := ⟨_, rfl⟩
              rw [← hx] at hSet hAt hDr
              obtain ⟨y1, hy1⟩ : ∃ y1, y1 = m * m1 := ⟨_, rfl⟩
              obtain ⟨y2, hy2⟩ : ∃ y2, y2 = y1 + j := ⟨_, rfl⟩
              obtain ⟨y3, hy3⟩ : ∃ y3, y3 = y2 * m1 := ⟨_, rfl⟩
              obtain ⟨q1, hq1⟩ : ∃ q1, q1 = y3 + c := ⟨_, rfl⟩
              obtain ⟨z1, hz1⟩ : ∃ z1, z1 = j * m1 := ⟨_, rfl⟩
              obtain ⟨z2, hz2⟩ : ∃ z2, z2 = z1 + m := ⟨_, rfl⟩
              obtain ⟨z3, hz3⟩ : ∃ z3, z3 = z2 * m1 := ⟨_, rfl⟩
              obtain ⟨q2, hq2⟩ : ∃ q2, q2 = z3 + c := ⟨_, rfl⟩
              rw [← hy1, ← hy2, ← hy3, ← hq1, ← hz1, ← hz2, ← hz3, ← hq2] at hSet
              rw [← hy1, ← hy2, ← hy3, ← hq1] at l1
              rw [← hz1, ← hz2, ← hz3, ← hq2] at l2
              have t1 : (m : Int) * (m1 : Int) = (y1 : Int) := by rw [hy1]; simp
              have t2 : (y1 : Int) + (j : Int) = (y2 : Int) := by omega
              have t3 : (y2 : Int) * (m1 : Int) = (y3 : Int) := by rw [hy3]; simp
              have t4 : (y3 : Int) + (c : Int) = (q1 : Int) := by omega
              have t5 : (j : Int) * (m1 : Int) = (z1 : Int) := by rw [hz1]; simp
              have t6 : (z1 : Int) + (m : Int) = (z2 : Int) := by omega
              have t7 : (z2 : Int) * (m1 : Int) = (z3 : Int) := by rw [hz3]; simp
              have t8 : (z3 : Int) + (c : Int) = (q2 : Int) := by omega
              have hyb : y1 ≤ 784 := by rw [hy1]; exact Nat.mul_le_mul (show m ≤ 28 by omega) b2
              have hzb : z1 ≤ 784 := by rw [hz1]; exact Nat.mul_le_mul (show j ≤ 28 by omega) b2
              have v1 : IntKind.i64.wrap (y1 : Int) = y1 := wrap_ok (by omega) (by omega)
              have v2 : IntKind.i64.wrap (y2 : Int) = y2 := wrap_ok (by omega) (by omega)
              have v3 : IntKind.i64.wrap (y3 : Int) = y3 := wrap_ok (by omega) (by omega)
              have v4 : IntKind.i64.wrap (q1 : Int) = q1 := wrap_ok (by omega) (by omega)
              have v5 : IntKind.i64.wrap (z1 : Int) = z1 := wrap_ok (by omega) (by omega)
              have v6 : IntKind.i64.wrap (z2 : Int) = z2 := wrap_ok (by omega) (by omega)
              have v7 : IntKind.i64.wrap (z3 : Int) = z3 := wrap_ok (by omega) (by omega)
              have v8 : IntKind.i64.wrap (q2 : Int) = q2 := wrap_ok (by omega) (by omega)
              have v9 : IntKind.i64.wrap (-x) = -x := wrap_ok (by omega) (by omega)
              have i1 : (q1 : Int) < (N : Int) := by omega
              have i2 : (q2 : Int) < (N : Int) := by omega
              have HSet2 := Lib.hid hSet
              have HAt2 := Lib.hid hAt
              have HMo := Lib.hid (fun (W : World) => l1Mod_any (-x) q W (by omega) (by omega) (by omega) (by omega))
              have HLt := Lib.hid (show q1 < (sdTo q m T D j c).length by rw [HSl.out]; exact l1)
              have HLt2 := Lib.hid (show q2 < ((sdTo q m T D j c).set q1 x).length by rw [List.length_set, HSl.out]; exact l2)
              clear hy1 hy2 hy3 hq1 hz1 hz2 hz3 hq2 hx hSet hAt l1 l2 hDr
              obtain ⟨u0, u1, u2, u3⟩ := g.box4 3 rfl
              go_wp2_with fail
              refine (HAt2.out _ (g.roInts 5 rfl)).mono ?_
              rintro (e : Ending) w5 ⟨rfl, hb5⟩
              have g1 := g.on hb5
              clear u0 u1 u2 u3 hb5 g
              obtain ⟨x0, x1, x2⟩ := g1.box3 0 rfl
              obtain ⟨v0, f0⟩ := g1.ownCellA 1 rfl HLt.out
              go_upto_region 13 with fail
              have g2 := (g1.set 1 rfl q1 x).drew
              clear x0 x1 x2 v0 f0 g1
              refine wp_region_cut (S := fun w' => (w'.cell? ⟨B6, 0, none⟩ = some (.int .i64 q) ∧ w'.cell? ⟨B6, 1, none⟩ = some (.int .i64 m1) ∧ w'.cell? ⟨B6, 2, none⟩ = some (.slice (some ⟨gA, 0, none⟩) N c4)) ∧ (w'.cell? ⟨w.heap.size, 0, none⟩ = some (.int .i64 q) ∧ w'.cell? ⟨w.heap.size, 1, none⟩ = some (.int .i64 m) ∧ w'.cell? ⟨w.heap.size, 2, none⟩ = some (.slice A T.length k))) 19 (by kernel_rfl) (by kernel_rfl) ⟨g2.box3 0 rfl, g2.box3 4 rfl⟩ (fun hHeld => ?_)
              simp only [List.take_succ_cons, List.take_zero]
              refine anyH_take (v := ?_) 0 rfl (by kernel_rfl) (by kernel_rfl) (by kernel_rfl) (fun _ _ _ h => h) rfl ?_ hHeld ?_
              rotate_left
              · intro w' hSw
                go_simp
                try with_reducible rfl
              try simp only [Act.put, List.setIfInBounds_toArray, List.set_cons_zero, List.set_cons_succ]
              refine anyH_take (v := ?_) 1 rfl (by kernel_rfl) (by kernel_rfl) (by kernel_rfl) (fun _ _ _ h => h) rfl ?_ hHeld ?_
              rotate_left
              · intro w' hSw
                go_simp
                try with_reducible rfl
              try simp only [Act.put, List.setIfInBounds_toArray, List.set_cons_zero, List.set_cons_succ]
              refine anyH_take (v := ?_) 2 rfl (by kernel_rfl) (by kernel_rfl) (by kernel_rfl) (fun _ _ _ h => h) rfl ?_ hHeld ?_
              rotate_left
              · intro w' hSw
                go_simp
                try with_reducible rfl
              try simp only [Act.put, List.setIfInBounds_toArray, List.set_cons_zero, List.set_cons_succ]
              refine anyH_take (v := ?_) 3 rfl (by kernel_rfl) (by kernel_rfl) (by kernel_rfl) (fun _ _ _ h => h) rfl ?_ hHeld ?_
              rotate_left
              · intro w' hSw
                go_simp
                try with_reducible rfl
              try simp only [Act.put, List.setIfInBounds_toArray, List.set_cons_zero, List.set_cons_succ]
              refine anyH_take (v := ?_) 4 rfl (by kernel_rfl) (by kernel_rfl) (by kernel_rfl) (fun _ _ _ h => h) rfl ?_ hHeld ?_
              rotate_left
              · intro w' hSw
                go_simp
                try with_reducible rfl
              try simp only [Act.put, List.setIfInBounds_toArray, List.set_cons_zero, List.set_cons_succ]
              refine anyH_take (v := ?_) 5 rfl (by kernel_rfl) (by kernel_rfl) (by kernel_rfl) (fun _ _ _ h => h) rfl ?_ hHeld ?_
              rotate_left
              · intro w' hSw
                go_simp
                try with_reducible rfl
              try simp only [Act.put, List.setIfInBounds_toArray, List.set_cons_zero, List.set_cons_succ]
              refine anyH_take (v := ?_) 6 rfl (by kernel_rfl) (by kernel_rfl) (by kernel_rfl) (fun _ _ _ h => h) rfl ?_ hHeld ?_
              rotate_left
              · intro w' hSw
                go_simp
                try with_reducible rfl
              try simp only [Act.put, List.setIfInBounds_toArray, List.set_cons_zero, List.set_cons_succ]
              refine anyH_take (v := ?_) 7 rfl (by kernel_rfl) (by kernel_rfl) (by kernel_rfl) (fun _ _ _ h => h) rfl ?_ hHeld ?_
              rotate_left
              · intro w' hSw
                go_simp
                try with_reducible rfl
              try simp only [Act.put, List.setIfInBounds_toArray, List.set_cons_zero, List.set_cons_succ]
              refine anyH_take (v := ?_) 8 rfl (by kernel_rfl) (by kernel_rfl) (by kernel_rfl) (fun _ _ _ h => h) rfl ?_ hHeld ?_
              rotate_left
              · intro w' hSw
                go_simp
                try with_reducible rfl
              try simp only [Act.put, List.setIfInBounds_toArray, List.set_cons_zero, List.set_cons_succ]
              refine anyH_take (v := ?_) 9 rfl (by kernel_rfl) (by kernel_rfl) (by kernel_rfl) (fun _ _ _ h => h) rfl ?_ hHeld ?_
              rotate_left
              · intro w' hSw
                go_simp
                try with_reducible rfl
              try simp only [Act.put, List.setIfInBounds_toArray, List.set_cons_zero, List.set_cons_succ]
              refine anyH_take (v := ?_) 10 rfl (by kernel_rfl) (by kernel_rfl) (by kernel_rfl) (fun _ _ _ h => h) rfl ?_ hHeld ?_
              rotate_left
              · intro w' hSw
                go_simp
                try with_reducible rfl
              try simp only [Act.put, List.setIfInBounds_toArray, List.set_cons_zero, List.set_cons_succ]
              refine anyH_take (v := ?_) 11 rfl (by kernel_rfl) (by kernel_rfl) (by kernel_rfl) (fun _ _ _ h => h) rfl ?_ hHeld ?_
              rotate_left
              · intro w' hSw
                go_simp
                try with_reducible rfl
              try simp only [Act.put, List.setIfInBounds_toArray, List.set_cons_zero, List.set_cons_succ]
              refine anyH_take (v := ?_) 12 rfl (by kernel_rfl) (by kernel_rfl) (by kernel_rfl) (fun _ _ _ h => h) rfl ?_ hHeld ?_
              rotate_left
              · intro w' hSw
                go_simp
                try with_reducible rfl
              try simp only [Act.put, List.setIfInBounds_toArray, List.set_cons_zero, List.set_cons_succ]
              refine anyH_take (v := ?_) 13 rfl (by kernel_rfl) (by kernel_rfl) (by kernel_rfl) (fun _ _ _ h => h) rfl ?_ hHeld ?_
              rotate_left
              · intro w' hSw
                go_simp
                try with_reducible rfl
              try simp only [Act.put, List.setIfInBounds_toArray, List.set_cons_zero, List.set_cons_succ]
              refine anyH_take (v := ?_) 14 rfl (by kernel_rfl) (by kernel_rfl) (by kernel_rfl) (fun _ _ _ h => h) rfl ?_ hHeld ?_
              rotate_left
              · intro w' hSw
                go_simp
                try with_reducible rfl
              try simp only [Act.put, List.setIfInBounds_toArray, List.set_cons_zero, List.set_cons_succ]
              refine anyH_take (v := ?_) 15 rfl (by kernel_rfl) (by kernel_rfl) (by kernel_rfl) (fun _ _ _ h => h) rfl ?_ hHeld ?_
              rotate_left
              · intro w' hSw
                go_simp
                try with_reducible rfl
              try simp only [Act.put, List.setIfInBounds_toArray, List.set_cons_zero, List.set_cons_succ]
              refine anyH_take (v := ?_) 16 rfl (by kernel_rfl) (by kernel_rfl) (by kernel_rfl) (fun _ _ _ h => h) rfl ?_ hHeld ?_
              rotate_left
              · intro w' hSw
                go_simp
                try with_reducible rfl
              try simp only [Act.put, List.setIfInBounds_toArray, List.set_cons_zero, List.set_cons_succ]
              refine wpAnyH_ready (rs := [17]) (by kernel_rfl) (by simp) ?_
              refine ready_cons rfl (fun K hK => ?_) AllReadyH.nil
              go_simp
              refine (HMo.out _).mono ?_
              rintro (e : Ending) w6 ⟨rfl, rfl⟩
              show K _ _
              refine hK.out _ _ ?_ (fun hHeld => ?_)
              · exact ⟨g2.box3 0 rfl, g2.box3 4 rfl⟩
              clear hK K
              try simp only [Act.put, List.setIfInBounds_toArray, List.set_cons_zero, List.set_cons_succ]
              refine anyH_take (v := ?_) 18 rfl (by kernel_rfl) (by kernel_rfl) (by kernel_rfl) (fun _ _ _ h => h) rfl ?_ hHeld ?_
              rotate_left
              · intro w' hSw
                go_simp
                try with_reducible rfl
              try simp only [Act.put, List.setIfInBounds_toArray, List.set_cons_zero, List.set_cons_succ]
              refine wpAnyH_done (by kernel_rfl) ?_ _
              show wpList _ _ _ _ _ _
              simp only [List.drop_succ_cons, List.drop_zero]
              clear hHeld
              obtain ⟨v0, f0⟩ := g2.ownCellA 1 rfl HLt2.out
              have g4 := g2.set 1 rfl q2 ((-x) % q)
              clear g2
              go_wp2
              go_roundw
              case rel => exact ⟨c + 1, by go_num, by omega, by rw [← HSet2.out]; exact g4⟩
              case measure => simp [intOf]; omega
            · obtain rfl : c = m := by omega
              rw [HRow.out] at g
              go_wp2
              go_roundw
              case rel => exact ⟨j + 1, by go_num, by omega, g⟩
              case measure => simp [intOf]; omega
        · obtain rfl : j = m := by omega
          obtain ⟨x0, x1, x2⟩ := g.box3 0 rfl
          obtain ⟨p0, p1, p2⟩ := g.box3 2 rfl
          have f0 := g.free 2 rfl 0
          have f1 := g.free 2 rfl 1
          have f2 := g.free 2 rfl 2
          have g9 := ((g.setBox 2 rfl 0 (.int .i64 q)).setBox 2 rfl 1 (.int .i64 m1)).setBox 2 rfl 2 (.slice A4 N c4)
          obtain ⟨r0, r1, r2⟩ := g9.box3 2 rfl
          go_wp2
          refine bodyPost_ret (v := .tuple #[.agg #[.int .i64 q, .int .i64 m1, .slice A4 N c4], .bool true]) (by simp [results, Try.results14, go_sem, r0, r1, r2]) rfl ?_
          rw [HF.out]
          exact ⟨_, rfl, g9.own 1 rfl, g9.below⟩
end Go.Proofs.Ytcdbgcpccmcbeaa
