/- MapsBetween of the program. -/
import Derived.Test.YtcdbgcpccmcbeaaMapsQ
import Derived.Test.YtcdbgcpccmcbeaaKerI
import Derived.Test.YtcdbgcpccmcbeaaRegX
namespace Go.Proofs.Ytcdbgcpccmcbeaa
set_option maxRecDepth 100000
open Go.RowKit

set_option maxHeartbeats 4000000 in
theorem MapsBetweenI_any (p n : Int) (t v u : Value) (T : List Int) (ms ns : List Mt) (w : World) (ht : Ints w t T) (hv : MatsR w v ms) (hu : MatsR w u ns) (hp0 : p ≤ 9223372036854775807) (hw : ∀ i, i < ms.length → (mAt ms i).p ≤ 9223372036854775807) (hw2 : ∀ i, i < ns.length → (mAt ns i).p ≤ 9223372036854775807) :
    Calls Try.prog 37 #[.agg #[.int .i64 p, .int .i64 n, t], v, u] w (RetLL w (mbL p n T ms ns)) := by
  have h1 := ((((St.start w).arg ht).pushFact hv.fact).pushFact hu.fact).box [.int .i64 p, .int .i64 n, t] 29
  obtain ⟨A, k, rfl, _, _, _⟩ := id ht
  obtain ⟨A2, k2, rfl, _, _, _⟩ := id hv
  obtain ⟨A3, k3, rfl, _, _, _⟩ := id hu
  have HI := Lib.hid (fun (W : World) (h1 : Ints W (.slice A T.length k) T) (h2 : MatsR W (.slice A2 ms.length k2) ms) => IsModuleI_any p n _ _ T ms W h1 h2 hp0 hw)
  have HI2 := Lib.hid (fun (W : World) (h1 : Ints W (.slice A T.length k) T) (h2 : MatsR W (.slice A3 ns.length k3) ns) => IsModuleI_any p n _ _ T ns W h1 h2 hp0 hw2)
  have HV := Lib.hid hv
  have HU := Lib.hid hu
  clear ht hv hu hw hw2
  obtain ⟨X0, hX0⟩ : ∃ X0, X0 = mbL p n T ms ns := ⟨_, rfl⟩
  rw [← hX0]
  by_cases b1 : isMod p n T ms = true
  case neg =>
    have b1 : isMod p n T ms = false := by simpa using b1
    have HF := Lib.hid (show X0 = [] by rw [hX0, mbL, show mbOk p n T ms ns = false by rw [mbOk, b1, Bool.false_and]]; rfl)
    have B1 := Lib.hid b1
    clear b1 hX0
    go_enter Try.func37, Try.ntmps37
    go_upto_region 1 with fail
    have g1 := h1.drew
    refine wp_region_held_drew (S := fun w' => (w'.cell? ⟨w.heap.size, 0, none⟩ = some (.int .i64 p) ∧ w'.cell? ⟨w.heap.size, 1, none⟩ = some (.int .i64 n) ∧ w'.cell? ⟨w.heap.size, 2, none⟩ = some (.slice A T.length k))) (by kernel_rfl) (g1.box3 0 rfl) (fun hHeld => ?_)
    refine anyH_take (v := ?_) 0 rfl (by kernel_rfl) (by kernel_rfl) (by kernel_rfl) (fun _ _ _ h => h) rfl ?_ hHeld ?_
    rotate_left
    · intro w' hSw
      go_simp
      try with_reducible rfl
    try simp only [Act.put, List.setIfInBounds_toArray, List.set_cons_zero, List.set_cons_succ]
    refine anyH_take (v := ?_) 1 rfl (by kernel_rfl) (by kernel_rfl) (by kernel_rfl) (fun _ _ _ h => h) rfl ?_ hHeld ?_
    rotate_left
    · intro w' hSw
      go_simp
      try with_reducible rfl
    try simp only [Act.put, List.setIfInBounds_toArray, List.set_cons_zero, List.set_cons_succ]
    refine wpAnyH_ready (rs := [2]) (by kernel_rfl) (by simp) ?_
    refine ready_cons rfl (fun K hK => ?_) AllReadyH.nil
    go_simp
    refine (HI.out _ (g1.roInts 3 rfl) (g1.fact 2 rfl)).mono ?_
    rintro (e : Ending) w1 ⟨rfl, hb1⟩
    rw [B1.out]
    have g2 := g1.on hb1
    show K _ _
    refine hK.out _ _ ?_ (fun hHeld => ?_)
    · exact (g2.box3 0 rfl)
    clear hK K
    try simp only [Act.put, List.setIfInBounds_toArray, List.set_cons_zero, List.set_cons_succ]
    refine anyH_take (v := ?_) 3 rfl (by kernel_rfl) (by kernel_rfl) (by kernel_rfl) (fun _ _ _ h => h) rfl ?_ hHeld ?_
    rotate_left
    · intro w' hSw
      go_simp
      try with_reducible rfl
    try simp only [Act.put, List.setIfInBounds_toArray, List.set_cons_zero, List.set_cons_succ]
    refine anyH_take (v := ?_) 4 rfl (by kernel_rfl) (by kernel_rfl) (by kernel_rfl) (fun _ _ _ h => h) rfl ?_ hHeld ?_
    rotate_left
    · intro w' hSw
      go_simp
      try with_reducible rfl
    try simp only [Act.put, List.setIfInBounds_toArray, List.set_cons_zero, List.set_cons_succ]
    refine anyH_skip 5 rfl (by kernel_rfl) (by kernel_rfl) (by kernel_rfl) (fun _ _ _ h => h) rfl hHeld ?_
    try simp only [Act.put, List.setIfInBounds_toArray, List.set_cons_zero, List.set_cons_succ]
    refine anyH_skip 6 rfl (by kernel_rfl) (by kernel_rfl) (by kernel_rfl) (fun _ _ _ h => h) rfl hHeld ?_
    try simp only [Act.put, List.setIfInBounds_toArray, List.set_cons_zero, List.set_cons_succ]
    refine anyH_skip 7 rfl (by kernel_rfl) (by kernel_rfl) (by kernel_rfl) (fun _ _ _ h => h) rfl hHeld ?_
    try simp only [Act.put, List.setIfInBounds_toArray, List.set_cons_zero, List.set_cons_succ]
    refine anyH_skip 8 rfl (by kernel_rfl) (by kernel_rfl) (by kernel_rfl) (fun _ _ _ h => h) rfl hHeld ?_
    try simp only [Act.put, List.setIfInBounds_toArray, List.set_cons_zero, List.set_cons_succ]
    refine anyH_take (v := ?_) 9 rfl (by kernel_rfl) (by kernel_rfl) (by kernel_rfl) (fun _ _ _ h => h) rfl ?_ hHeld ?_
    rotate_left
    · intro w' hSw
      go_simp
      try with_reducible rfl
    try simp only [Act.put, List.setIfInBounds_toArray, List.set_cons_zero, List.set_cons_succ]
    refine anyH_take (v := ?_) 10 rfl (by kernel_rfl) (by kernel_rfl) (by kernel_rfl) (fun _ _ _ h => h) rfl ?_ hHeld ?_
    rotate_left
    · intro w' hSw
      go_simp
      try with_reducible rfl
    try simp only [Act.put, List.setIfInBounds_toArray, List.set_cons_zero, List.set_cons_succ]
    refine anyH_skip 11 rfl (by kernel_rfl) (by kernel_rfl) (by kernel_rfl) (fun _ _ _ h => h) rfl hHeld ?_
    try simp only [Act.put, List.setIfInBounds_toArray, List.set_cons_zero, List.set_cons_succ]
    refine anyH_skip 12 rfl (by kernel_rfl) (by kernel_rfl) (by kernel_rfl) (fun _ _ _ h => h) rfl hHeld ?_
    try simp only [Act.put, List.setIfInBounds_toArray, List.set_cons_zero, List.set_cons_succ]
    refine anyH_skip 13 rfl (by kernel_rfl) (by kernel_rfl) (by kernel_rfl) (fun _ _ _ h => h) rfl hHeld ?_
    try simp only [Act.put, List.setIfInBounds_toArray, List.set_cons_zero, List.set_cons_succ]
    refine anyH_skip 14 rfl (by kernel_rfl) (by kernel_rfl) (by kernel_rfl) (fun _ _ _ h => h) rfl hHeld ?_
    try simp only [Act.put, List.setIfInBounds_toArray, List.set_cons_zero, List.set_cons_succ]
    refine anyH_skip 15 rfl (by kernel_rfl) (by kernel_rfl) (by kernel_rfl) (fun _ _ _ h => h) rfl hHeld ?_
    try simp only [Act.put, List.setIfInBounds_toArray, List.set_cons_zero, List.set_cons_succ]
    refine anyH_skip 16 rfl (by kernel_rfl) (by kernel_rfl) (by kernel_rfl) (fun _ _ _ h => h) rfl hHeld ?_
    try simp only [Act.put, List.setIfInBounds_toArray, List.set_cons_zero, List.set_cons_succ]
    refine anyH_skip 17 rfl (by kernel_rfl) (by kernel_rfl) (by kernel_rfl) (fun _ _ _ h => h) rfl hHeld ?_
    try simp only [Act.put, List.setIfInBounds_toArray, List.set_cons_zero, List.set_cons_succ]
    refine anyH_skip 18 rfl (by kernel_rfl) (by kernel_rfl) (by kernel_rfl) (fun _ _ _ h => h) rfl hHeld ?_
    try simp only [Act.put, List.setIfInBounds_toArray, List.set_cons_zero, List.set_cons_succ]
    refine anyH_skip 19 rfl (by kernel_rfl) (by kernel_rfl) (by kernel_rfl) (fun _ _ _ h => h) rfl hHeld ?_
    try simp only [Act.put, List.setIfInBounds_toArray, List.set_cons_zero, List.set_cons_succ]
    refine anyH_skip 20 rfl (by kernel_rfl) (by kernel_rfl) (by kernel_rfl) (fun _ _ _ h => h) rfl hHeld ?_
    try simp only [Act.put, List.setIfInBounds_toArray, List.set_cons_zero, List.set_cons_succ]
    refine anyH_take (v := ?_) 21 rfl (by kernel_rfl) (by kernel_rfl) (by kernel_rfl) (fun _ _ _ h => h) rfl ?_ hHeld ?_
    rotate_left
    · intro w' hSw
      go_simp
      try with_reducible rfl
    try simp only [Act.put, List.setIfInBounds_toArray, List.set_cons_zero, List.set_cons_succ]
    refine wpAnyH_done (by kernel_rfl) ?_ _
    clear hHeld
    go_wp2
    go_ret
    rw [HF.out]
    exact RetLL.nil g2.below
  by_cases b2 : isMod p n T ns = true
  case neg =>
    have b2 : isMod p n T ns = false := by simpa using b2
    have HF := Lib.hid (show X0 = [] by rw [hX0, mbL, show mbOk p n T ms ns = false by rw [mbOk, b2, Bool.false_and, Bool.and_false]]; rfl)
    have B1 := Lib.hid b1
    have B2 := Lib.hid b2
    clear b1 b2 hX0
    go_enter Try.func37, Try.ntmps37
    go_upto_region 1 with fail
    have g1 := h1.drew
    refine wp_region_held_drew (S := fun w' => (w'.cell? ⟨w.heap.size, 0, none⟩ = some (.int .i64 p) ∧ w'.cell? ⟨w.heap.size, 1, none⟩ = some (.int .i64 n) ∧ w'.cell? ⟨w.heap.size, 2, none⟩ = some (.slice A T.length k))) (by kernel_rfl) (g1.box3 0 rfl) (fun hHeld => ?_)
    refine anyH_take (v := ?_) 0 rfl (by kernel_rfl) (by kernel_rfl) (by kernel_rfl) (fun _ _ _ h => h) rfl ?_ hHeld ?_
    rotate_left
    · intro w' hSw
      go_simp
      try with_reducible rfl
    try simp only [Act.put, List.setIfInBounds_toArray, List.set_cons_zero, List.set_cons_succ]
    refine anyH_take (v := ?_) 1 rfl (by kernel_rfl) (by kernel_rfl) (by kernel_rfl) (fun _ _ _ h => h) rfl ?_ hHeld ?_
    rotate_left
    · intro w' hSw
      go_simp
      try with_reducible rfl
    try simp only [Act.put, List.setIfInBounds_toArray, List.set_cons_zero, List.set_cons_succ]
    refine wpAnyH_ready (rs := [2]) (by kernel_rfl) (by simp) ?_
    refine ready_cons rfl (fun K hK => ?_) AllReadyH.nil
    go_simp
    refine (HI.out _ (g1.roInts 3 rfl) (g1.fact 2 rfl)).mono ?_
    rintro (e : Ending) w1 ⟨rfl, hb1⟩
    rw [B1.out]
    have g2 := g1.on hb1
    show K _ _
    refine hK.out _ _ ?_ (fun hHeld => ?_)
    · exact (g2.box3 0 rfl)
    clear hK K
    try simp only [Act.put, List.setIfInBounds_toArray, List.set_cons_zero, List.set_cons_succ]
    refine anyH_take (v := ?_) 3 rfl (by kernel_rfl) (by kernel_rfl) (by kernel_rfl) (fun _ _ _ h => h) rfl ?_ hHeld ?_
    rotate_left
    · intro w' hSw
      go_simp
      try with_reducible rfl
    try simp only [Act.put, List.setIfInBounds_toArray, List.set_cons_zero, List.set_cons_succ]
    refine anyH_take (v := ?_) 4 rfl (by kernel_rfl) (by kernel_rfl) (by kernel_rfl) (fun _ _ _ h => h) rfl ?_ hHeld ?_
    rotate_left
    · intro w' hSw
      go_simp
      try with_reducible rfl
    try simp only [Act.put, List.setIfInBounds_toArray, List.set_cons_zero, List.set_cons_succ]
    refine anyH_take (v := ?_) 5 rfl (by kernel_rfl) (by kernel_rfl) (by kernel_rfl) (fun _ _ _ h => h) rfl ?_ hHeld ?_
    rotate_left
    · intro w' hSw
      go_simp
      try with_reducible rfl
    try simp only [Act.put, List.setIfInBounds_toArray, List.set_cons_zero, List.set_cons_succ]
    refine anyH_take (v := ?_) 6 rfl (by kernel_rfl) (by kernel_rfl) (by kernel_rfl) (fun _ _ _ h => h) rfl ?_ hHeld ?_
    rotate_left
    · intro w' hSw
      go_simp
      try with_reducible rfl
    try simp only [Act.put, List.setIfInBounds_toArray, List.set_cons_zero, List.set_cons_succ]
    refine wpAnyH_ready (rs := [7]) (by kernel_rfl) (by simp) ?_
    refine ready_cons rfl (fun K hK => ?_) AllReadyH.nil
    go_simp
    refine (HI2.out _ (g2.roInts 3 rfl) (g2.fact 1 rfl)).mono ?_
    rintro (e : Ending) w2 ⟨rfl, hb2⟩
    rw [B2.out]
    have g3 := g2.on hb2
    show K _ _
    refine hK.out _ _ ?_ (fun hHeld => ?_)
    · exact (g3.box3 0 rfl)
    clear hK K
    try simp only [Act.put, List.setIfInBounds_toArray, List.set_cons_zero, List.set_cons_succ]
    refine anyH_take (v := ?_) 8 rfl (by kernel_rfl) (by kernel_rfl) (by kernel_rfl) (fun _ _ _ h => h) rfl ?_ hHeld ?_
    rotate_left
    · intro w' hSw
      go_simp
      try with_reducible rfl
    try simp only [Act.put, List.setIfInBounds_toArray, List.set_cons_zero, List.set_cons_succ]
    refine anyH_take (v := ?_) 9 rfl (by kernel_rfl) (by kernel_rfl) (by kernel_rfl) (fun _ _ _ h => h) rfl ?_ hHeld ?_
    rotate_left
    · intro w' hSw
      go_simp
      try with_reducible rfl
    try simp only [Act.put, List.setIfInBounds_toArray, List.set_cons_zero, List.set_cons_succ]
    refine anyH_take (v := ?_) 10 rfl (by kernel_rfl) (by kernel_rfl) (by kernel_rfl) (fun _ _ _ h => h) rfl ?_ hHeld ?_
    rotate_left
    · intro w' hSw
      go_simp
      try with_reducible rfl
    try simp only [Act.put, List.setIfInBounds_toArray, List.set_cons_zero, List.set_cons_succ]
    refine anyH_skip 11 rfl (by kernel_rfl) (by kernel_rfl) (by kernel_rfl) (fun _ _ _ h => h) rfl hHeld ?_
    try simp only [Act.put, List.setIfInBounds_toArray, List.set_cons_zero, List.set_cons_succ]
    refine anyH_skip 12 rfl (by kernel_rfl) (by kernel_rfl) (by kernel_rfl) (fun _ _ _ h => h) rfl hHeld ?_
    try simp only [Act.put, List.setIfInBounds_toArray, List.set_cons_zero, List.set_cons_succ]
    refine anyH_skip 13 rfl (by kernel_rfl) (by kernel_rfl) (by kernel_rfl) (fun _ _ _ h => h) rfl hHeld ?_
    try simp only [Act.put, List.setIfInBounds_toArray, List.set_cons_zero, List.set_cons_succ]
    refine anyH_skip 14 rfl (by kernel_rfl) (by kernel_rfl) (by kernel_rfl) (fun _ _ _ h => h) rfl hHeld ?_
    try simp only [Act.put, List.setIfInBounds_toArray, List.set_cons_zero, List.set_cons_succ]
    refine anyH_skip 15 rfl (by kernel_rfl) (by kernel_rfl) (by kernel_rfl) (fun _ _ _ h => h) rfl hHeld ?_
    try simp only [Act.put, List.setIfInBounds_toArray, List.set_cons_zero, List.set_cons_succ]
    refine anyH_skip 16 rfl (by kernel_rfl) (by kernel_rfl) (by kernel_rfl) (fun _ _ _ h => h) rfl hHeld ?_
    try simp only [Act.put, List.setIfInBounds_toArray, List.set_cons_zero, List.set_cons_succ]
    refine anyH_skip 17 rfl (by kernel_rfl) (by kernel_rfl) (by kernel_rfl) (fun _ _ _ h => h) rfl hHeld ?_
    try simp only [Act.put, List.setIfInBounds_toArray, List.set_cons_zero, List.set_cons_succ]
    refine anyH_skip 18 rfl (by kernel_rfl) (by kernel_rfl) (by kernel_rfl) (fun _ _ _ h => h) rfl hHeld ?_
    try simp only [Act.put, List.setIfInBounds_toArray, List.set_cons_zero, List.set_cons_succ]
    refine anyH_skip 19 rfl (by kernel_rfl) (by kernel_rfl) (by kernel_rfl) (fun _ _ _ h => h) rfl hHeld ?_
    try simp only [Act.put, List.setIfInBounds_toArray, List.set_cons_zero, List.set_cons_succ]
    refine anyH_skip 20 rfl (by kernel_rfl) (by kernel_rfl) (by kernel_rfl) (fun _ _ _ h => h) rfl hHeld ?_
    try simp only [Act.put, List.setIfInBounds_toArray, List.set_cons_zero, List.set_cons_succ]
    refine anyH_take (v := ?_) 21 rfl (by kernel_rfl) (by kernel_rfl) (by kernel_rfl) (fun _ _ _ h => h) rfl ?_ hHeld ?_
    rotate_left
    · intro w' hSw
      go_simp
      try with_reducible rfl
    try simp only [Act.put, List.setIfInBounds_toArray, List.set_cons_zero, List.set_cons_succ]
    refine wpAnyH_done (by kernel_rfl) ?_ _
    clear hHeld
    go_wp2
    go_ret
    rw [HF.out]
    exact RetLL.nil g3.below
  obtain ⟨N, s, rfl, hln, hN0, hs, hs30, hA, hM⟩ := isMod_all b1
  obtain ⟨N2, t2, hn2, hln2, _, ht2, ht30, _, hM2⟩ := isMod_all b2
  have e2 : N = N2 := by omega
  subst e2
  clear hn2
  obtain ⟨N', eN, g1, kT, g3, g4, g5, hP⟩ := algOk_spec hA
  have hN28 : N ≤ 28 := by omega
  clear eN kT g1 g3
  have h0m : 0 < ms.length := by omega
  have h0n : 0 < ns.length := by omega
  obtain ⟨b, off, A9, c9, hbA, hm⟩ := HV.out.at (i := 0) h0m
  obtain ⟨b8, off8, A8, c8, hbB, hm8⟩ := HU.out.at (i := 0) h0n
  have hX : w.cell? ⟨b, off + 1, none⟩ = some (.int .i64 s) := by
    have := hm.2.1
    rw [mAt_get h0m, hs] at this
    simpa using this
  have hX8 : w.cell? ⟨b8, off8 + 1, none⟩ = some (.int .i64 t2) := by
    have := hm8.2.1
    rw [mAt_get h0n, ht2] at this
    simpa using this
  subst hbA
  subst hbB
  replace h1 := h1.pushOld (R := fun w' => w'.cell? ⟨b, off + 1, none⟩ = some (.int .i64 s)) (fun w' hk => (World.cell?_of_block (hk _ (World.block_lt_of_cell? w _ hX))).trans hX)
  replace h1 := h1.pushOld (R := fun w' => w'.cell? ⟨b8, off8 + 1, none⟩ = some (.int .i64 t2)) (fun w' hk => (World.cell?_of_block (hk _ (World.block_lt_of_cell? w _ hX8))).trans hX8)
  have B1 := Lib.hid b1
  have B2 := Lib.hid b2
  obtain ⟨q, hq⟩ : ∃ q, q = s * t2 := ⟨_, rfl⟩
  have hst : (s : Int) * (t2 : Int) = (q : Int) := by rw [hq]; simp
  have hwq : IntKind.i64.wrap ((q : Nat) : Int) = q := wrap_ok (by omega) (by have := mul_le hs30 ht30; omega)
  have HQ := Lib.hid hq
  clear hm hm8 hX hX8 A9 c9 A8 c8 h0m h0n
  by_cases b3 : q ≤ 64
  case neg =>
    have HF := Lib.hid (show X0 = [] by rw [hX0, mbL, show mbOk p N T ms ns = false by rw [mbOk, b1, b2, hs, ht2, decide_eq_false (by omega)]; rfl]; rfl)
    have i3 : (64 : Int) < q := by omega
    have im0 : 0 < ms.length := by omega
    have in0 : 0 < ns.length := by omega
    clear b1 b2 hln hln2 hs ht2 hA hM hM2 hq b3 hX0 hN0
    go_enter Try.func37, Try.ntmps37
    go_upto_region 1 with fail
    have g1 := h1.drew
    refine wp_region_held_drew (S := fun w' => (w'.cell? ⟨w.heap.size, 0, none⟩ = some (.int .i64 p) ∧ w'.cell? ⟨w.heap.size, 1, none⟩ = some (.int .i64 N) ∧ w'.cell? ⟨w.heap.size, 2, none⟩ = some (.slice A T.length k)) ∧ w'.cell? ⟨b, off + 1, none⟩ = some (.int .i64 s) ∧ w'.cell? ⟨b8, off8 + 1, none⟩ = some (.int .i64 t2)) (by kernel_rfl) ⟨g1.box3 2 rfl, g1.fact 1 rfl, g1.fact 0 rfl⟩ (fun hHeld => ?_)
    refine anyH_take (v := ?_) 0 rfl (by kernel_rfl) (by kernel_rfl) (by kernel_rfl) (fun _ _ _ h => h) rfl ?_ hHeld ?_
    rotate_left
    · intro w' hSw
      go_simp
      try with_reducible rfl
    try simp only [Act.put, List.setIfInBounds_toArray, List.set_cons_zero, List.set_cons_succ]
    refine anyH_take (v := ?_) 1 rfl (by kernel_rfl) (by kernel_rfl) (by kernel_rfl) (fun _ _ _ h => h) rfl ?_ hHeld ?_
    rotate_left
    · intro w' hSw
      go_simp
      try with_reducible rfl
    try simp only [Act.put, List.setIfInBounds_toArray, List.set_cons_zero, List.set_cons_succ]
    refine wpAnyH_ready (rs := [2]) (by kernel_rfl) (by simp) ?_
    refine ready_cons rfl (fun K hK => ?_) AllReadyH.nil
    go_simp
    refine (HI.out _ (g1.roInts 5 rfl) (g1.fact 4 rfl)).mono ?_
    rintro (e : Ending) w1 ⟨rfl, hb1⟩
    rw [B1.out]
    have g2 := g1.on hb1
    show K _ _
    refine hK.out _ _ ?_ (fun hHeld => ?_)
    · exact ⟨g2.box3 2 rfl, g2.fact 1 rfl, g2.fact 0 rfl⟩
    clear hK K
    try simp only [Act.put, List.setIfInBounds_toArray, List.set_cons_zero, List.set_cons_succ]
    refine anyH_take (v := ?_) 3 rfl (by kernel_rfl) (by kernel_rfl) (by kernel_rfl) (fun _ _ _ h => h) rfl ?_ hHeld ?_
    rotate_left
    · intro w' hSw
      go_simp
      try with_reducible rfl
    try simp only [Act.put, List.setIfInBounds_toArray, List.set_cons_zero, List.set_cons_succ]
    refine anyH_take (v := ?_) 4 rfl (by kernel_rfl) (by kernel_rfl) (by kernel_rfl) (fun _ _ _ h => h) rfl ?_ hHeld ?_
    rotate_left
    · intro w' hSw
      go_simp
      try with_reducible rfl
    try simp only [Act.put, List.setIfInBounds_toArray, List.set_cons_zero, List.set_cons_succ]
    refine anyH_take (v := ?_) 5 rfl (by kernel_rfl) (by kernel_rfl) (by kernel_rfl) (fun _ _ _ h => h) rfl ?_ hHeld ?_
    rotate_left
    · intro w' hSw
      go_simp
      try with_reducible rfl
    try simp only [Act.put, List.setIfInBounds_toArray, List.set_cons_zero, List.set_cons_succ]
    refine anyH_take (v := ?_) 6 rfl (by kernel_rfl) (by kernel_rfl) (by kernel_rfl) (fun _ _ _ h => h) rfl ?_ hHeld ?_
    rotate_left
    · intro w' hSw
      go_simp
      try with_reducible rfl
    try simp only [Act.put, List.setIfInBounds_toArray, List.set_cons_zero, List.set_cons_succ]
    refine wpAnyH_ready (rs := [7]) (by kernel_rfl) (by simp) ?_
    refine ready_cons rfl (fun K hK => ?_) AllReadyH.nil
    go_simp
    refine (HI2.out _ (g2.roInts 5 rfl) (g2.fact 3 rfl)).mono ?_
    rintro (e : Ending) w2 ⟨rfl, hb2⟩
    rw [B2.out]
    have g3 := g2.on hb2
    show K _ _
    refine hK.out _ _ ?_ (fun hHeld => ?_)
    · exact ⟨g3.box3 2 rfl, g3.fact 1 rfl, g3.fact 0 rfl⟩
    clear hK K
    try simp only [Act.put, List.setIfInBounds_toArray, List.set_cons_zero, List.set_cons_succ]
    refine anyH_take (v := ?_) 8 rfl (by kernel_rfl) (by kernel_rfl) (by kernel_rfl) (fun _ _ _ h => h) rfl ?_ hHeld ?_
    rotate_left
    · intro w' hSw
      go_simp
      try with_reducible rfl
    try simp only [Act.put, List.setIfInBounds_toArray, List.set_cons_zero, List.set_cons_succ]
    refine anyH_take (v := ?_) 9 rfl (by kernel_rfl) (by kernel_rfl) (by kernel_rfl) (fun _ _ _ h => h) rfl ?_ hHeld ?_
    rotate_left
    · intro w' hSw
      go_simp
      try with_reducible rfl
    try simp only [Act.put, List.setIfInBounds_toArray, List.set_cons_zero, List.set_cons_succ]
    refine anyH_take (v := ?_) 10 rfl (by kernel_rfl) (by kernel_rfl) (by kernel_rfl) (fun _ _ _ h => h) rfl ?_ hHeld ?_
    rotate_left
    · intro w' hSw
      go_simp
      try with_reducible rfl
    try simp only [Act.put, List.setIfInBounds_toArray, List.set_cons_zero, List.set_cons_succ]
    refine anyH_take (v := ?_) 11 rfl (by kernel_rfl) (by kernel_rfl) (by kernel_rfl) (fun _ _ _ h => h) rfl ?_ hHeld ?_
    rotate_left
    · intro w' hSw
      go_simp
      try with_reducible rfl
    try simp only [Act.put, List.setIfInBounds_toArray, List.set_cons_zero, List.set_cons_succ]
    refine anyH_take (v := ?_) 12 rfl (by kernel_rfl) (by kernel_rfl) (by kernel_rfl) (fun _ _ _ h => h) rfl ?_ hHeld ?_
    rotate_left
    · intro w' hSw
      go_simp
      try with_reducible rfl
    try simp only [Act.put, List.setIfInBounds_toArray, List.set_cons_zero, List.set_cons_succ]
    refine anyH_take (v := ?_) 13 rfl (by kernel_rfl) (by kernel_rfl) (by kernel_rfl) (fun _ _ _ h => h) rfl ?_ hHeld ?_
    rotate_left
    · intro w' hSw
      go_simp
      try with_reducible rfl
    try simp only [Act.put, List.setIfInBounds_toArray, List.set_cons_zero, List.set_cons_succ]
    refine anyH_take (v := ?_) 14 rfl (by kernel_rfl) (by kernel_rfl) (by kernel_rfl) (fun _ _ _ h => h) rfl ?_ hHeld ?_
    rotate_left
    · intro w' hSw
      go_simp
      try with_reducible rfl
    try simp only [Act.put, List.setIfInBounds_toArray, List.set_cons_zero, List.set_cons_succ]
    refine anyH_take (v := ?_) 15 rfl (by kernel_rfl) (by kernel_rfl) (by kernel_rfl) (fun _ _ _ h => h) rfl ?_ hHeld ?_
    rotate_left
    · intro w' hSw
      go_simp
      try with_reducible rfl
    try simp only [Act.put, List.setIfInBounds_toArray, List.set_cons_zero, List.set_cons_succ]
    refine anyH_take (v := ?_) 16 rfl (by kernel_rfl) (by kernel_rfl) (by kernel_rfl) (fun _ _ _ h => h) rfl ?_ hHeld ?_
    rotate_left
    · intro w' hSw
      go_simp
      try with_reducible rfl
    try simp only [Act.put, List.setIfInBounds_toArray, List.set_cons_zero, List.set_cons_succ]
    refine anyH_take (v := ?_) 17 rfl (by kernel_rfl) (by kernel_rfl) (by kernel_rfl) (fun _ _ _ h => h) rfl ?_ hHeld ?_
    rotate_left
    · intro w' hSw
      go_simp
      try with_reducible rfl
    try simp only [Act.put, List.setIfInBounds_toArray, List.set_cons_zero, List.set_cons_succ]
    refine anyH_take (v := ?_) 18 rfl (by kernel_rfl) (by kernel_rfl) (by kernel_rfl) (fun _ _ _ h => h) rfl ?_ hHeld ?_
    rotate_left
    · intro w' hSw
      go_simp
      try with_reducible rfl
    try simp only [Act.put, List.setIfInBounds_toArray, List.set_cons_zero, List.set_cons_succ]
    refine anyH_take (v := ?_) 19 rfl (by kernel_rfl) (by kernel_rfl) (by kernel_rfl) (fun _ _ _ h => h) rfl ?_ hHeld ?_
    rotate_left
    · intro w' hSw
      go_simp
      try with_reducible rfl
    try simp only [Act.put, List.setIfInBounds_toArray, List.set_cons_zero, List.set_cons_succ]
    refine anyH_take (v := ?_) 20 rfl (by kernel_rfl) (by kernel_rfl) (by kernel_rfl) (fun _ _ _ h => h) rfl ?_ hHeld ?_
    rotate_left
    · intro w' hSw
      go_simp
      try with_reducible rfl
    try simp only [Act.put, List.setIfInBounds_toArray, List.set_cons_zero, List.set_cons_succ]
    refine anyH_take (v := ?_) 21 rfl (by kernel_rfl) (by kernel_rfl) (by kernel_rfl) (fun _ _ _ h => h) rfl ?_ hHeld ?_
    rotate_left
    · intro w' hSw
      go_simp
      try with_reducible rfl
    try simp only [Act.put, List.setIfInBounds_toArray, List.set_cons_zero, List.set_cons_succ]
    refine wpAnyH_done (by kernel_rfl) ?_ _
    clear hHeld
    go_wp2
    go_ret
    rw [HF.out]
    exact RetLL.nil g3.below
  have HF : Hid (X0 = mbK p s t2 (ms.map Mt.d) (ns.map Mt.d) ms.length) := by
    show _ = _
    rw [hX0, mbL, show mbOk p N T ms ns = true by rw [mbOk, b1, b2, hs, ht2, decide_eq_true (by omega)]; rfl, if_pos rfl, hs, ht2, Int.toNat_natCast, Int.toNat_natCast]
  have i3 : ¬ ((64 : Int) < q) := by omega
  have hRd1 := fun (i : Nat) (hi : i < ms.length) => (show resid p (rowOf (ms.map Mt.d) i) = true by rw [rowOf_ds hi]; exact (hM i hi).2.2.2.2)
  have hWE := fun (i : Nat) (hi : i ≤ ms.length) => Wf_mbE g4 s t2 (Ms := ms.map Mt.d) (ns.map Mt.d) i (fun j hj => hRd1 j (by omega))
  have hLE := fun (i : Nat) => length_mbE p s t2 (ms.map Mt.d) (ns.map Mt.d) i
  have hE0 := fun (i : Nat) (hi : i < ms.length) => (show mbE p s t2 (ms.map Mt.d) (ns.map Mt.d) (i + 1) = mbE p s t2 (ms.map Mt.d) (ns.map Mt.d) i ++ mbR p s t2 (mAt ms i).d (mAt ns i).d q by rw [mbE, rowOf_ds hi, rowOf_ds (by omega), hq])
  have hnl : ns.length = ms.length := by omega
  subst hln
  have im0 : 0 < ms.length := hN0
  have in0 : 0 < ns.length := by omega
  have HM := Lib.hid hM
  have HM2 := Lib.hid hM2
  have HWE := Lib.hid hWE
  have HLE := Lib.hid hLE
  have HE0 := Lib.hid hE0
  have Hnl := Lib.hid hnl
  have HP := Lib.hid hP
  have hmk := makeI q (by omega)
  clear b1 b2 hs ht2 hA hM hM2 hq hX0 hRd1 hWE hLE hE0 hnl hP hln2
  go_enter Try.func37, Try.ntmps37
  go_upto_region 1 with fail
  have g1 := h1.drew
  refine wp_region_held_drew (S := fun w' => (w'.cell? ⟨w.heap.size, 0, none⟩ = some (.int .i64 p) ∧ w'.cell? ⟨w.heap.size, 1, none⟩ = some (.int .i64 ms.length) ∧ w'.cell? ⟨w.heap.size, 2, none⟩ = some (.slice A T.length k)) ∧ w'.cell? ⟨b, off + 1, none⟩ = some (.int .i64 s) ∧ w'.cell? ⟨b8, off8 + 1, none⟩ = some (.int .i64 t2)) (by kernel_rfl) ⟨g1.box3 2 rfl, g1.fact 1 rfl, g1.fact 0 rfl⟩ (fun hHeld => ?_)
  refine anyH_take (v := ?_) 0 rfl (by kernel_rfl) (by kernel_rfl) (by kernel_rfl) (fun _ _ _ h => h) rfl ?_ hHeld ?_
  rotate_left
  · intro w' hSw
    go_simp
    try with_reducible rfl
  try simp only [Act.put, List.setIfInBounds_toArray, List.set_cons_zero, List.set_cons_succ]
  refine anyH_take (v := ?_) 1 rfl (by kernel_rfl) (by kernel_rfl) (by kernel_rfl) (fun _ _ _ h => h) rfl ?_ hHeld ?_
  rotate_left
  · intro w' hSw
    go_simp
    try with_reducible rfl
  try simp only [Act.put, List.setIfInBounds_toArray, List.set_cons_zero, List.set_cons_succ]
  refine wpAnyH_ready (rs := [2]) (by kernel_rfl) (by simp) ?_
  refine ready_cons rfl (fun K hK => ?_) AllReadyH.nil
  go_simp
  refine (HI.out _ (g1.roInts 5 rfl) (g1.fact 4 rfl)).mono ?_
  rintro (e : Ending) w1 ⟨rfl, hb1⟩
  rw [B1.out]
  have g2 := g1.on hb1
  show K _ _
  refine hK.out _ _ ?_ (fun hHeld => ?_)
  · exact ⟨g2.box3 2 rfl, g2.fact 1 rfl, g2.fact 0 rfl⟩
  clear hK K
  try simp only [Act.put, List.setIfInBounds_toArray, List.set_cons_zero, List.set_cons_succ]
  refine anyH_take (v := ?_) 3 rfl (by kernel_rfl) (by kernel_rfl) (by kernel_rfl) (fun _ _ _ h => h) rfl ?_ hHeld ?_
  rotate_left
  · intro w' hSw
    go_simp
    try with_reducible rfl
  try simp only [Act.put, List.setIfInBounds_toArray, List.set_cons_zero, List.set_cons_succ]
  refine anyH_take (v := ?_) 4 rfl (by kernel_rfl) (by kernel_rfl) (by kernel_rfl) (fun _ _ _ h => h) rfl ?_ hHeld ?_
  rotate_left
  · intro w' hSw
    go_simp
    try with_reducible rfl
  try simp only [Act.put, List.setIfInBounds_toArray, List.set_cons_zero, List.set_cons_succ]
  refine anyH_take (v := ?_) 5 rfl (by kernel_rfl) (by kernel_rfl) (by kernel_rfl) (fun _ _ _ h => h) rfl ?_ hHeld ?_
  rotate_left
  · intro w' hSw
    go_simp
    try with_reducible rfl
  try simp only [Act.put, List.setIfInBounds_toArray, List.set_cons_zero, List.set_cons_succ]
  refine anyH_take (v := ?_) 6 rfl (by kernel_rfl) (by kernel_rfl) (by kernel_rfl) (fun _ _ _ h => h) rfl ?_ hHeld ?_
  rotate_left
  · intro w' hSw
    go_simp
    try with_reducible rfl
  try simp only [Act.put, List.setIfInBounds_toArray, List.set_cons_zero, List.set_cons_succ]
  refine wpAnyH_ready (rs := [7]) (by kernel_rfl) (by simp) ?_
  refine ready_cons rfl (fun K hK => ?_) AllReadyH.nil
  go_simp
  refine (HI2.out _ (g2.roInts 5 rfl) (g2.fact 3 rfl)).mono ?_
  rintro (e : Ending) w2 ⟨rfl, hb2⟩
  rw [B2.out]
  have g3 := g2.on hb2
  show K _ _
  refine hK.out _ _ ?_ (fun hHeld => ?_)
  · exact ⟨g3.box3 2 rfl, g3.fact 1 rfl, g3.fact 0 rfl⟩
  clear hK K
  try simp only [Act.put, List.setIfInBounds_toArray, List.set_cons_zero, List.set_cons_succ]
  refine anyH_take (v := ?_) 8 rfl (by kernel_rfl) (by kernel_rfl) (by kernel_rfl) (fun _ _ _ h => h) rfl ?_ hHeld ?_
  rotate_left
  · intro w' hSw
    go_simp
    try with_reducible rfl
  try simp only [Act.put, List.setIfInBounds_toArray, List.set_cons_zero, List.set_cons_succ]
  refine anyH_take (v := ?_) 9 rfl (by kernel_rfl) (by kernel_rfl) (by kernel_rfl) (fun _ _ _ h => h) rfl ?_ hHeld ?_
  rotate_left
  · intro w' hSw
    go_simp
    try with_reducible rfl
  try simp only [Act.put, List.setIfInBounds_toArray, List.set_cons_zero, List.set_cons_succ]
  refine anyH_take (v := ?_) 10 rfl (by kernel_rfl) (by kernel_rfl) (by kernel_rfl) (fun _ _ _ h => h) rfl ?_ hHeld ?_
  rotate_left
  · intro w' hSw
    go_simp
    try with_reducible rfl
  try simp only [Act.put, List.setIfInBounds_toArray, List.set_cons_zero, List.set_cons_succ]
  refine anyH_take (v := ?_) 11 rfl (by kernel_rfl) (by kernel_rfl) (by kernel_rfl) (fun _ _ _ h => h) rfl ?_ hHeld ?_
  rotate_left
  · intro w' hSw
    go_simp
    try with_reducible rfl
  try simp only [Act.put, List.setIfInBounds_toArray, List.set_cons_zero, List.set_cons_succ]
  refine anyH_take (v := ?_) 12 rfl (by kernel_rfl) (by kernel_rfl) (by kernel_rfl) (fun _ _ _ h => h) rfl ?_ hHeld ?_
  rotate_left
  · intro w' hSw
    go_simp
    try with_reducible rfl
  try simp only [Act.put, List.setIfInBounds_toArray, List.set_cons_zero, List.set_cons_succ]
  refine anyH_take (v := ?_) 13 rfl (by kernel_rfl) (by kernel_rfl) (by kernel_rfl) (fun _ _ _ h => h) rfl ?_ hHeld ?_
  rotate_left
  · intro w' hSw
    go_simp
    try with_reducible rfl
  try simp only [Act.put, List.setIfInBounds_toArray, List.set_cons_zero, List.set_cons_succ]
  refine anyH_take (v := ?_) 14 rfl (by kernel_rfl) (by kernel_rfl) (by kernel_rfl) (fun _ _ _ h => h) rfl ?_ hHeld ?_
  rotate_left
  · intro w' hSw
    go_simp
    try with_reducible rfl
  try simp only [Act.put, List.setIfInBounds_toArray, List.set_cons_zero, List.set_cons_succ]
  refine anyH_take (v := ?_) 15 rfl (by kernel_rfl) (by kernel_rfl) (by kernel_rfl) (fun _ _ _ h => h) rfl ?_ hHeld ?_
  rotate_left
  · intro w' hSw
    go_simp
    try with_reducible rfl
  try simp only [Act.put, List.setIfInBounds_toArray, List.set_cons_zero, List.set_cons_succ]
  refine anyH_take (v := ?_) 16 rfl (by kernel_rfl) (by kernel_rfl) (by kernel_rfl) (fun _ _ _ h => h) rfl ?_ hHeld ?_
  rotate_left
  · intro w' hSw
    go_simp
    try with_reducible rfl
  try simp only [Act.put, List.setIfInBounds_toArray, List.set_cons_zero, List.set_cons_succ]
  refine anyH_take (v := ?_) 17 rfl (by kernel_rfl) (by kernel_rfl) (by kernel_rfl) (fun _ _ _ h => h) rfl ?_ hHeld ?_
  rotate_left
  · intro w' hSw
    go_simp
    try with_reducible rfl
  try simp only [Act.put, List.setIfInBounds_toArray, List.set_cons_zero, List.set_cons_succ]
  refine anyH_take (v := ?_) 18 rfl (by kernel_rfl) (by kernel_rfl) (by kernel_rfl) (fun _ _ _ h => h) rfl ?_ hHeld ?_
  rotate_left
  · intro w' hSw
    go_simp
    try with_reducible rfl
  try simp only [Act.put, List.setIfInBounds_toArray, List.set_cons_zero, List.set_cons_succ]
  refine anyH_take (v := ?_) 19 rfl (by kernel_rfl) (by kernel_rfl) (by kernel_rfl) (fun _ _ _ h => h) rfl ?_ hHeld ?_
  rotate_left
  · intro w' hSw
    go_simp
    try with_reducible rfl
  try simp only [Act.put, List.setIfInBounds_toArray, List.set_cons_zero, List.set_cons_succ]
  refine anyH_take (v := ?_) 20 rfl (by kernel_rfl) (by kernel_rfl) (by kernel_rfl) (fun _ _ _ h => h) rfl ?_ hHeld ?_
  rotate_left
  · intro w' hSw
    go_simp
    try with_reducible rfl
  try simp only [Act.put, List.setIfInBounds_toArray, List.set_cons_zero, List.set_cons_succ]
  refine anyH_take (v := ?_) 21 rfl (by kernel_rfl) (by kernel_rfl) (by kernel_rfl) (fun _ _ _ h => h) rfl ?_ hHeld ?_
  rotate_left
  · intro w' hSw
    go_simp
    try with_reducible rfl
  try simp only [Act.put, List.setIfInBounds_toArray, List.set_cons_zero, List.set_cons_succ]
  refine wpAnyH_done (by kernel_rfl) ?_ _
  clear hHeld
  have hh := g3
  clear g1 g2 g3 h1 hb1 hb2
  go_upto_region 3 with fail
  have g1 := hh.drew
  refine wp_region_held_drew (S := fun w' => w'.cell? ⟨b, off + 1, none⟩ = some (.int .i64 s) ∧ w'.cell? ⟨b8, off8 + 1, none⟩ = some (.int .i64 t2)) (by kernel_rfl) ⟨g1.fact 1 rfl, g1.fact 0 rfl⟩ (fun hHeld => ?_)
  refine anyH_take (v := ?_) 0 rfl (by kernel_rfl) (by kernel_rfl) (by kernel_rfl) (fun _ _ _ h => h) rfl ?_ hHeld ?_
  rotate_left
  · intro w' hSw
    go_simp
    try with_reducible rfl
  try simp only [Act.put, List.setIfInBounds_toArray, List.set_cons_zero, List.set_cons_succ]
  refine anyH_take (v := ?_) 1 rfl (by kernel_rfl) (by kernel_rfl) (by kernel_rfl) (fun _ _ _ h => h) rfl ?_ hHeld ?_
  rotate_left
  · intro w' hSw
    go_simp
    try with_reducible rfl
  try simp only [Act.put, List.setIfInBounds_toArray, List.set_cons_zero, List.set_cons_succ]
  refine anyH_take (v := ?_) 2 rfl (by kernel_rfl) (by kernel_rfl) (by kernel_rfl) (fun _ _ _ h => h) rfl ?_ hHeld ?_
  rotate_left
  · intro w' hSw
    go_simp
    try with_reducible rfl
  try simp only [Act.put, List.setIfInBounds_toArray, List.set_cons_zero, List.set_cons_succ]
  refine anyH_take (v := ?_) 3 rfl (by kernel_rfl) (by kernel_rfl) (by kernel_rfl) (fun _ _ _ h => h) rfl ?_ hHeld ?_
  rotate_left
  · intro w' hSw
    go_simp
    try with_reducible rfl
  try simp only [Act.put, List.setIfInBounds_toArray, List.set_cons_zero, List.set_cons_succ]
  refine anyH_take (v := ?_) 4 rfl (by kernel_rfl) (by kernel_rfl) (by kernel_rfl) (fun _ _ _ h => h) rfl ?_ hHeld ?_
  rotate_left
  · intro w' hSw
    go_simp
    try with_reducible rfl
  try simp only [Act.put, List.setIfInBounds_toArray, List.set_cons_zero, List.set_cons_succ]
  refine anyH_take (v := ?_) 5 rfl (by kernel_rfl) (by kernel_rfl) (by kernel_rfl) (fun _ _ _ h => h) rfl ?_ hHeld ?_
  rotate_left
  · intro w' hSw
    go_simp
    try with_reducible rfl
  try simp only [Act.put, List.setIfInBounds_toArray, List.set_cons_zero, List.set_cons_succ]
  refine anyH_take (v := ?_) 6 rfl (by kernel_rfl) (by kernel_rfl) (by kernel_rfl) (fun _ _ _ h => h) rfl ?_ hHeld ?_
  rotate_left
  · intro w' hSw
    go_simp
    try with_reducible rfl
  try simp only [Act.put, List.setIfInBounds_toArray, List.set_cons_zero, List.set_cons_succ]
  refine anyH_take (v := ?_) 7 rfl (by kernel_rfl) (by kernel_rfl) (by kernel_rfl) (fun _ _ _ h => h) rfl ?_ hHeld ?_
  rotate_left
  · intro w' hSw
    go_simp
    try with_reducible rfl
  try simp only [Act.put, List.setIfInBounds_toArray, List.set_cons_zero, List.set_cons_succ]
  refine anyH_take (v := ?_) 8 rfl (by kernel_rfl) (by kernel_rfl) (by kernel_rfl) (fun _ _ _ h => h) rfl ?_ hHeld ?_
  rotate_left
  · intro w' hSw
    go_simp
    try with_reducible rfl
  try simp only [Act.put, List.setIfInBounds_toArray, List.set_cons_zero, List.set_cons_succ]
  refine anyH_take (v := ?_) 9 rfl (by kernel_rfl) (by kernel_rfl) (by kernel_rfl) (fun _ _ _ h => h) rfl ?_ hHeld ?_
  rotate_left
  · intro w' hSw
    go_simp
    try with_reducible rfl
  try simp only [Act.put, List.setIfInBounds_toArray, List.set_cons_zero, List.set_cons_succ]
  refine wpAnyH_done (by kernel_rfl) ?_ _
  clear hHeld
  have g2 := g1.emptyRows
  clear hh g1
  go_wp2
  go_loopw [9, 49] (fun v9 v49 wr => ∃ (e : Nat) (us : List Value), v49 = .int .i64 e ∧ e ≤ ms.length ∧ Hid (us.length = e * q) ∧ St w wr [rowsIt v9 us (mbE p s t2 (ms.map Mt.d) (ns.map Mt.d) e), .fact (fun w' => w'.cell? ⟨b8, off8 + 1, none⟩ = some (.int .i64 t2)), .fact (fun w' => w'.cell? ⟨b, off + 1, none⟩ = some (.int .i64 s)), .box w.heap.size [.int .i64 p, .int .i64 ms.length, .slice A T.length k], .fact (fun w' => MatsR w' (.slice (some ⟨b8, off8, none⟩) ns.length k3) ns), .fact (fun w' => MatsR w' (.slice (some ⟨b, off, none⟩) ms.length k2) ms), .ro (.slice A T.length k) T]) (fun _ v49 _ => ms.length - (intOf v49).toNat)
  case atStart => exact ⟨0, [], rfl, by omega, Lib.hid (by simp), g2⟩
  case round =>
    clear g2
    obtain ⟨e, us, rfl, a1, Hul, g⟩ := hrel
    by_cases he : e < ms.length
    · obtain ⟨b', off', A9, c9, hbA, hm⟩ := HV.out.at (i := e) he
      simp only [Option.some.injEq, Addr.mk.injEq, and_true] at hbA
      obtain ⟨rfl, rfl⟩ := hbA
      have he2 : e < ns.length := by rw [Hnl.out]; exact he
      obtain ⟨b', off', A8, c8, hbA, hm8⟩ := HU.out.at (i := e) he2
      simp only [Option.some.injEq, Addr.mk.injEq, and_true] at hbA
      obtain ⟨rfl, rfl⟩ := hbA
      rw [mAt_get he] at hm
      rw [mAt_get he2] at hm8
      obtain ⟨u1, u2, u3, u4, u5⟩ := HM.out e he
      obtain ⟨v1, v2, v3, v4, v5⟩ := HM2.out e he2
      have hE0 := HE0.out e he
      obtain ⟨D, hD⟩ : ∃ D, D = (mAt ms e).d := ⟨_, rfl⟩
      obtain ⟨E, hE⟩ : ∃ E, E = (mAt ns e).d := ⟨_, rfl⟩
      have hmf : MtAt w b (off + e * 4) ⟨p, s, s, D⟩ (.slice A9 D.length c9) := by unfold MtAt at hm ⊢; rw [u1, u2, u3, ← hD] at hm; exact hm
      have hmg : MtAt w b8 (off8 + e * 4) ⟨p, t2, t2, E⟩ (.slice A8 E.length c8) := by unfold MtAt at hm8 ⊢; rw [v1, v2, v3, ← hE] at hm8; exact hm8
      rw [← hD] at u4 u5 hE0
      rw [← hE] at v4 v5 hE0
      obtain ⟨Pr, hPr⟩ : ∃ Pr, Pr = mbE p s t2 (ms.map Mt.d) (ns.map Mt.d) e := ⟨_, rfl⟩
      have hPl : Pr.length = e * q := by rw [hPr, HLE.out, ← HQ.out]
      rw [← hPr] at hE0 g
      have h4 := (((g.pushOld hmf.fact).pushOld hmg.fact).toFront 2 rfl)
      simp only [List.eraseIdx_cons_succ, List.eraseIdx_cons_zero] at h4
      have HE1 := Lib.hid hE0
      have HPl := Lib.hid hPl
      have HDl := Lib.hid u4
      have HDr := Lib.hid u5
      have HEl := Lib.hid v4
      have HEr := Lib.hid v5
      have ie : (e : Int) < (ms.length : Int) := by omega
      have ie2 : (e : Int) < (ns.length : Int) := by omega
      have heq : e * q ≤ 1792 := by have := Nat.mul_le_mul (show e ≤ 28 by omega) b3; omega
      clear hm hm8 hmf hmg u1 u2 u3 u4 u5 v1 v2 v3 v4 v5 hD hE hE0 hPr hPl g
      obtain ⟨OL, hOL, h9⟩ : ∃ OL, OL = _ ∧ St w _ (rowsIt u9 us Pr :: OL) := ⟨_, rfl, h4⟩
      clear h4
      go_wp2
      go_loopw [9, 53] (fun v9 v53 wr => ∃ (i : Nat) (us : List Value), v53 = .int .i64 i ∧ i ≤ s ∧ Hid (us.length = e * q + i * t2) ∧ St w wr (rowsIt v9 us (Pr ++ mbR p s t2 D E (i * t2)) :: OL)) (fun _ v53 _ => s - (intOf v53).toNat)
      case atStart => exact ⟨0, us, rfl, by omega, Lib.hid (by rw [Hul.out]; simp), by rw [Nat.zero_mul, mbR_zero, List.append_nil]; exact h9⟩
      case round =>
        clear h9 Hul
        obtain ⟨i, us, rfl, a2, Hul, g⟩ := hrel
        by_cases hi : i < s
        · go_wp2
          go_loopw [9, 57] (fun v9 v57 wr => ∃ (j : Nat) (us : List Value), v57 = .int .i64 j ∧ j ≤ t2 ∧ Hid (us.length = e * q + (i * t2 + j)) ∧ St w wr (rowsIt v9 us (Pr ++ mbR p s t2 D E (i * t2 + j)) :: OL)) (fun _ v57 _ => t2 - (intOf v57).toNat)
          case atStart => exact ⟨0, us, rfl, by omega, Hul, g⟩
          case round =>
            clear g Hul
            obtain ⟨j, us, rfl, a3, Hul, g⟩ := hrel
            by_cases hj : j < t2
            · have HR1 := Lib.hid (mbR_succ (p := p) (s := s) (M := D) (N := E) (r := i) hj)
              have HA0 := Lib.hid (show List.replicate q 0 = mbA s t2 D i j 0 by rw [mbA_zero, HQ.out])
              have HAl := Lib.hid (show ∀ k, (mbA s t2 D i j k).length = q from fun k => by rw [length_mbA, HQ.out])
              have HBl := Lib.hid (show ∀ k, (mbB p s t2 D E i j k).length = q from fun k => by rw [length_mbB, HQ.out])
              have HAs := Lib.hid (fun (k : Nat) (hk : k < s) => mbA_set (p := p) (r := i) g4 HDr.out hk hj)
              have HBs := Lib.hid (fun (k : Nat) (hk : k < t2) => mbB_set (p := p) (M := D) (N := E) (c := j) hk hi)
              have HAr := Lib.hid (fun (k q1 : Nat) => resid_vec' (resid_mbA g4 s t2 HDr.out i j k) (by omega : 0 < p) q1)
              have HBr := Lib.hid (fun (k q1 : Nat) => resid_vec' (resid_mbB g4 s t2 HDr.out E i j k) (by omega : 0 < p) q1)
              have HB0 := Lib.hid (mbB_zero p s t2 D E i j)
              have HlR := Lib.hid (show (Pr ++ mbR p s t2 D E (i * t2 + j)).length = e * q + (i * t2 + j) by rw [List.length_append, HPl.out, length_mbR])
              have hij : i * t2 + j < q := by rw [HQ.out]; exact spot_lt hi hj
              have hb1 := mul_le hs30 hs30
              have hb2 := mul_le ht30 ht30
              have h3 := g.zeros q (by omega)
              rw [HA0.out] at h3
              go_wp2
              generalize hgq : wr.heap.size = gq at h3 ⊢
              clear hgq g
              go_loopw [65] (fun v65 wr => ∃ k0 : Nat, v65 = .int .i64 k0 ∧ k0 ≤ s ∧ St w wr (.own (.slice (some ⟨gq, 0, none⟩) q q) (mbA s t2 D i j k0) :: rowsIt u9 us (Pr ++ mbR p s t2 D E (i * t2 + j)) :: OL)) (fun v65 _ => s - (intOf v65).toNat)
              case atStart => exact ⟨0, rfl, by omega, h3⟩
              case round =>
                clear h3
                obtain ⟨k0, rfl, a4, g⟩ := hrel
                by_cases hk : k0 < s
                · subst hOL
                  have hlt : k0 * t2 + j < q := by rw [HQ.out]; exact spot_lt hk hj
                  have hlt2 : i * s + k0 < D.length := by rw [HDl.out]; exact spot_lt hi hk
                  have hset := HAs.out k0 hk
                  have hob := HAr.out k0 (k0 * t2 + j)
                  have hxb := resid_vec' HDr.out (by omega : 0 < p) (i * s + k0)
                  have hD9 := HDl.out
                  have g0 := g.drew
                  obtain ⟨b9, o9, rfl, _, xD⟩ := (g0.fact 3 rfl).2.2.2.2.toB.cell (k := i * s + k0) hlt2
                  have oc := (g0.ownCellA 0 rfl (q := k0 * t2 + j) (by rw [HAl.out]; exact hlt)).1
                  obtain ⟨x, hx⟩ : ∃ x, x = vec D (i * s + k0) := ⟨_, rfl⟩
                  obtain ⟨o1, ho1⟩ : ∃ o1, o1 = vec (mbA s t2 D i j k0) (k0 * t2 + j) := ⟨_, rfl⟩
                  rw [← hx] at hset hxb xD
                  rw [← ho1] at hset hob oc
                  obtain ⟨z1, hz1⟩ : ∃ z1, z1 = k0 * t2 := ⟨_, rfl⟩
                  obtain ⟨q1, hq1⟩ : ∃ q1, q1 = z1 + j := ⟨_, rfl⟩
                  obtain ⟨m1, hm1⟩ : ∃ m1, m1 = i * s := ⟨_, rfl⟩
                  obtain ⟨m2, hm2⟩ : ∃ m2, m2 = m1 + k0 := ⟨_, rfl⟩
                  rw [← hz1, ← hq1] at hset hlt oc
                  rw [← hm1, ← hm2] at hlt2 xD
                  have t1 : (k0 : Int) * (t2 : Int) = (z1 : Int) := by rw [hz1]; simp
                  have t3 : (z1 : Int) + (j : Int) = (q1 : Int) := by omega
                  have t4 : (i : Int) * (s : Int) = (m1 : Int) := by rw [hm1]; simp
                  have t5 : (m1 : Int) + (k0 : Int) = (m2 : Int) := by omega
                  have w1 : IntKind.i64.wrap (z1 : Int) = z1 := wrap_ok (by omega) (by omega)
                  have w2 : IntKind.i64.wrap (q1 : Int) = q1 := wrap_ok (by omega) (by omega)
                  have w3 : IntKind.i64.wrap (m1 : Int) = m1 := wrap_ok (by omega) (by omega)
                  have w4 : IntKind.i64.wrap (m2 : Int) = m2 := wrap_ok (by omega) (by omega)
                  have w5 : IntKind.i64.wrap (o1 + x) = o1 + x := wrap_ok (by omega) (by omega)
                  have r1 : (o1 + x).tmod p = (o1 + x) % p := rem_ok (by omega)
                  have hp0' : ¬ p = 0 := by omega
                  have i1 : (q1 : Int) < (q : Int) := by omega
                  have i2 : (m2 : Int) < (D.length : Int) := by omega
                  have ik : (k0 : Int) < (s : Int) := by omega
                  have HSet2 := Lib.hid hset
                  have HLt := Lib.hid (show q1 < (mbA s t2 D i j k0).length by rw [HAl.out]; exact hlt)
                  clear hz1 hq1 hm1 hm2 hset hlt hlt2 hx ho1 hob hxb hD9
                  go_upto_region 18 with fail
                  refine wp_region_cut (S := fun w' => w'.cell? ⟨gq, q1, none⟩ = some (.int .i64 o1) ∧ w'.cell? ⟨b, off + e * 4 + 3, none⟩ = some (.slice (some ⟨b9, o9, none⟩) D.length c9) ∧ w'.cell? ⟨b9, o9 + m2, none⟩ = some (.int .i64 x) ∧ (w'.cell? ⟨w.heap.size, 0, none⟩ = some (.int .i64 p) ∧ w'.cell? ⟨w.heap.size, 1, none⟩ = some (.int .i64 ms.length) ∧ w'.cell? ⟨w.heap.size, 2, none⟩ = some (.slice A T.length k))) 31 (by kernel_rfl) (by kernel_rfl) ⟨oc, (g0.fact 3 rfl).2.2.2.1, xD, g0.box3 6 rfl⟩ (fun hHeld => ?_)
                  simp only [List.take_succ_cons, List.take_zero]
                  refine anyH_take (v := ?_) 0 rfl (by kernel_rfl) (by kernel_rfl) (by kernel_rfl) (fun _ _ _ h => h) rfl ?_ hHeld ?_
                  rotate_left
                  · intro w' hSw
                    go_simp
                    try with_reducible rfl
                  try simp only [Act.put, List.setIfInBounds_toArray, List.set_cons_zero, List.set_cons_succ]
                  refine anyH_take (v := ?_) 1 rfl (by kernel_rfl) (by kernel_rfl) (by kernel_rfl) (fun _ _ _ h => h) rfl ?_ hHeld ?_
                  rotate_left
                  · intro w' hSw
                    go_simp
                    try with_reducible rfl
                  try simp only [Act.put, List.setIfInBounds_toArray, List.set_cons_zero, List.set_cons_succ]
                  refine anyH_take (v := ?_) 2 rfl (by kernel_rfl) (by kernel_rfl) (by kernel_rfl) (fun _ _ _ h => h) rfl ?_ hHeld ?_
                  rotate_left
                  · intro w' hSw
                    go_simp
                    try with_reducible rfl
                  try simp only [Act.put, List.setIfInBounds_toArray, List.set_cons_zero, List.set_cons_succ]
                  refine anyH_take (v := ?_) 3 rfl (by kernel_rfl) (by kernel_rfl) (by kernel_rfl) (fun _ _ _ h => h) rfl ?_ hHeld ?_
                  rotate_left
                  · intro w' hSw
                    go_simp
                    try with_reducible rfl
                  try simp only [Act.put, List.setIfInBounds_toArray, List.set_cons_zero, List.set_cons_succ]
                  refine anyH_take (v := ?_) 4 rfl (by kernel_rfl) (by kernel_rfl) (by kernel_rfl) (fun _ _ _ h => h) rfl ?_ hHeld ?_
                  rotate_left
                  · intro w' hSw
                    go_simp
                    try with_reducible rfl
                  try simp only [Act.put, List.setIfInBounds_toArray, List.set_cons_zero, List.set_cons_succ]
                  refine anyH_take (v := ?_) 5 rfl (by kernel_rfl) (by kernel_rfl) (by kernel_rfl) (fun _ _ _ h => h) rfl ?_ hHeld ?_
                  rotate_left
                  · intro w' hSw
                    go_simp
                    try with_reducible rfl
                  try simp only [Act.put, List.setIfInBounds_toArray, List.set_cons_zero, List.set_cons_succ]
                  refine anyH_take (v := ?_) 6 rfl (by kernel_rfl) (by kernel_rfl) (by kernel_rfl) (fun _ _ _ h => h) rfl ?_ hHeld ?_
                  rotate_left
                  · intro w' hSw
                    go_simp
                    try with_reducible rfl
                  try simp only [Act.put, List.setIfInBounds_toArray, List.set_cons_zero, List.set_cons_succ]
                  refine anyH_take (v := ?_) 7 rfl (by kernel_rfl) (by kernel_rfl) (by kernel_rfl) (fun _ _ _ h => h) rfl ?_ hHeld ?_
                  rotate_left
                  · intro w' hSw
                    go_simp
                    try with_reducible rfl
                  try simp only [Act.put, List.setIfInBounds_toArray, List.set_cons_zero, List.set_cons_succ]
                  refine anyH_take (v := ?_) 8 rfl (by kernel_rfl) (by kernel_rfl) (by kernel_rfl) (fun _ _ _ h => h) rfl ?_ hHeld ?_
                  rotate_left
                  · intro w' hSw
                    go_simp
                    try with_reducible rfl
                  try simp only [Act.put, List.setIfInBounds_toArray, List.set_cons_zero, List.set_cons_succ]
                  refine anyH_take (v := ?_) 9 rfl (by kernel_rfl) (by kernel_rfl) (by kernel_rfl) (fun _ _ _ h => h) rfl ?_ hHeld ?_
                  rotate_left
                  · intro w' hSw
                    go_simp
                    try with_reducible rfl
                  try simp only [Act.put, List.setIfInBounds_toArray, List.set_cons_zero, List.set_cons_succ]
                  refine anyH_take (v := ?_) 10 rfl (by kernel_rfl) (by kernel_rfl) (by kernel_rfl) (fun _ _ _ h => h) rfl ?_ hHeld ?_
                  rotate_left
                  · intro w' hSw
                    go_simp
                    try with_reducible rfl
                  try simp only [Act.put, List.setIfInBounds_toArray, List.set_cons_zero, List.set_cons_succ]
                  refine anyH_take (v := ?_) 11 rfl (by kernel_rfl) (by kernel_rfl) (by kernel_rfl) (fun _ _ _ h => h) rfl ?_ hHeld ?_
                  rotate_left
                  · intro w' hSw
                    go_simp
                    try with_reducible rfl
                  try simp only [Act.put, List.setIfInBounds_toArray, List.set_cons_zero, List.set_cons_succ]
                  refine anyH_take (v := ?_) 12 rfl (by kernel_rfl) (by kernel_rfl) (by kernel_rfl) (fun _ _ _ h => h) rfl ?_ hHeld ?_
                  rotate_left
                  · intro w' hSw
                    go_simp
                    try with_reducible rfl
                  try simp only [Act.put, List.setIfInBounds_toArray, List.set_cons_zero, List.set_cons_succ]
                  refine anyH_take (v := ?_) 13 rfl (by kernel_rfl) (by kernel_rfl) (by kernel_rfl) (fun _ _ _ h => h) rfl ?_ hHeld ?_
                  rotate_left
                  · intro w' hSw
                    go_simp
                    try with_reducible rfl
                  try simp only [Act.put, List.setIfInBounds_toArray, List.set_cons_zero, List.set_cons_succ]
                  refine anyH_take (v := ?_) 14 rfl (by kernel_rfl) (by kernel_rfl) (by kernel_rfl) (fun _ _ _ h => h) rfl ?_ hHeld ?_
                  rotate_left
                  · intro w' hSw
                    go_simp
                    try with_reducible rfl
                  try simp only [Act.put, List.setIfInBounds_toArray, List.set_cons_zero, List.set_cons_succ]
                  refine anyH_take (v := ?_) 15 rfl (by kernel_rfl) (by kernel_rfl) (by kernel_rfl) (fun _ _ _ h => h) rfl ?_ hHeld ?_
                  rotate_left
                  · intro w' hSw
                    go_simp
                    try with_reducible rfl
                  try simp only [Act.put, List.setIfInBounds_toArray, List.set_cons_zero, List.set_cons_succ]
                  refine anyH_take (v := ?_) 16 rfl (by kernel_rfl) (by kernel_rfl) (by kernel_rfl) (fun _ _ _ h => h) rfl ?_ hHeld ?_
                  rotate_left
                  · intro w' hSw
                    go_simp
                    try with_reducible rfl
                  try simp only [Act.put, List.setIfInBounds_toArray, List.set_cons_zero, List.set_cons_succ]
                  refine anyH_take (v := ?_) 17 rfl (by kernel_rfl) (by kernel_rfl) (by kernel_rfl) (fun _ _ _ h => h) rfl ?_ hHeld ?_
                  rotate_left
                  · intro w' hSw
                    go_simp
                    try with_reducible rfl
                  try simp only [Act.put, List.setIfInBounds_toArray, List.set_cons_zero, List.set_cons_succ]
                  refine anyH_take (v := ?_) 18 rfl (by kernel_rfl) (by kernel_rfl) (by kernel_rfl) (fun _ _ _ h => h) rfl ?_ hHeld ?_
                  rotate_left
                  · intro w' hSw
                    go_simp
                    try with_reducible rfl
                  try simp only [Act.put, List.setIfInBounds_toArray, List.set_cons_zero, List.set_cons_succ]
                  refine anyH_take (v := ?_) 19 rfl (by kernel_rfl) (by kernel_rfl) (by kernel_rfl) (fun _ _ _ h => h) rfl ?_ hHeld ?_
                  rotate_left
                  · intro w' hSw
                    go_simp
                    try with_reducible rfl
                  try simp only [Act.put, List.setIfInBounds_toArray, List.set_cons_zero, List.set_cons_succ]
                  refine anyH_take (v := ?_) 20 rfl (by kernel_rfl) (by kernel_rfl) (by kernel_rfl) (fun _ _ _ h => h) rfl ?_ hHeld ?_
                  rotate_left
                  · intro w' hSw
                    go_simp
                    try with_reducible rfl
                  try simp only [Act.put, List.setIfInBounds_toArray, List.set_cons_zero, List.set_cons_succ]
                  refine anyH_take (v := ?_) 21 rfl (by kernel_rfl) (by kernel_rfl) (by kernel_rfl) (fun _ _ _ h => h) rfl ?_ hHeld ?_
                  rotate_left
                  · intro w' hSw
                    go_simp
                    try with_reducible rfl
                  try simp only [Act.put, List.setIfInBounds_toArray, List.set_cons_zero, List.set_cons_succ]
                  refine anyH_take (v := ?_) 22 rfl (by kernel_rfl) (by kernel_rfl) (by kernel_rfl) (fun _ _ _ h => h) rfl ?_ hHeld ?_
                  rotate_left
                  · intro w' hSw
                    go_simp
                    try with_reducible rfl
                  try simp only [Act.put, List.setIfInBounds_toArray, List.set_cons_zero, List.set_cons_succ]
                  refine anyH_take (v := ?_) 23 rfl (by kernel_rfl) (by kernel_rfl) (by kernel_rfl) (fun _ _ _ h => h) rfl ?_ hHeld ?_
                  rotate_left
                  · intro w' hSw
                    go_simp
                    try with_reducible rfl
                  try simp only [Act.put, List.setIfInBounds_toArray, List.set_cons_zero, List.set_cons_succ]
                  refine anyH_take (v := ?_) 24 rfl (by kernel_rfl) (by kernel_rfl) (by kernel_rfl) (fun _ _ _ h => h) rfl ?_ hHeld ?_
                  rotate_left
                  · intro w' hSw
                    go_simp
                    try with_reducible rfl
                  try simp only [Act.put, List.setIfInBounds_toArray, List.set_cons_zero, List.set_cons_succ]
                  refine anyH_take (v := ?_) 25 rfl (by kernel_rfl) (by kernel_rfl) (by kernel_rfl) (fun _ _ _ h => h) rfl ?_ hHeld ?_
                  rotate_left
                  · intro w' hSw
                    go_simp
                    try with_reducible rfl
                  try simp only [Act.put, List.setIfInBounds_toArray, List.set_cons_zero, List.set_cons_succ]
                  refine anyH_take (v := ?_) 26 rfl (by kernel_rfl) (by kernel_rfl) (by kernel_rfl) (fun _ _ _ h => h) rfl ?_ hHeld ?_
                  rotate_left
                  · intro w' hSw
                    go_simp
                    try with_reducible rfl
                  try simp only [Act.put, List.setIfInBounds_toArray, List.set_cons_zero, List.set_cons_succ]
                  refine anyH_take (v := ?_) 27 rfl (by kernel_rfl) (by kernel_rfl) (by kernel_rfl) (fun _ _ _ h => h) rfl ?_ hHeld ?_
                  rotate_left
                  · intro w' hSw
                    go_simp
                    try with_reducible rfl
                  try simp only [Act.put, List.setIfInBounds_toArray, List.set_cons_zero, List.set_cons_succ]
                  refine anyH_take (v := ?_) 28 rfl (by kernel_rfl) (by kernel_rfl) (by kernel_rfl) (fun _ _ _ h => h) rfl ?_ hHeld ?_
                  rotate_left
                  · intro w' hSw
                    go_simp
                    try with_reducible rfl
                  try simp only [Act.put, List.setIfInBounds_toArray, List.set_cons_zero, List.set_cons_succ]
                  refine anyH_take (v := ?_) 29 rfl (by kernel_rfl) (by kernel_rfl) (by kernel_rfl) (fun _ _ _ h => h) rfl ?_ hHeld ?_
                  rotate_left
                  · intro w' hSw
                    go_simp
                    try with_reducible rfl
                  try simp only [Act.put, List.setIfInBounds_toArray, List.set_cons_zero, List.set_cons_succ]
                  refine anyH_take (v := ?_) 30 rfl (by kernel_rfl) (by kernel_rfl) (by kernel_rfl) (fun _ _ _ h => h) rfl ?_ hHeld ?_
                  rotate_left
                  · intro w' hSw
                    go_simp
                    try with_reducible rfl
                  try simp only [Act.put, List.setIfInBounds_toArray, List.set_cons_zero, List.set_cons_succ]
                  refine wpAnyH_done (by kernel_rfl) ?_ _
                  show wpList _ _ _ _ _ _
                  simp only [List.drop_succ_cons, List.drop_zero]
                  clear hHeld
                  obtain ⟨v0, f0⟩ := g0.ownCellA 0 rfl HLt.out
                  have g5 := g0.set 0 rfl q1 ((o1 + x) % p)
                  clear g g0 oc xD
                  go_wp2
                  go_roundw
                  case rel => exact ⟨k0 + 1, by go_num, by omega, by rw [← HSet2.out]; exact g5⟩
                  case measure => simp [intOf]; omega
                · obtain rfl : k0 = s := by omega
                  rw [← HB0.out] at g
                  go_wp2
                  go_loopw [101] (fun v101 wr => ∃ k1 : Nat, v101 = .int .i64 k1 ∧ k1 ≤ t2 ∧ St w wr (.own (.slice (some ⟨gq, 0, none⟩) q q) (mbB p k0 t2 D E i j k1) :: rowsIt u9 us (Pr ++ mbR p k0 t2 D E (i * t2 + j)) :: OL)) (fun v101 _ => t2 - (intOf v101).toNat)
                  case atStart => exact ⟨0, rfl, by omega, g⟩
                  case round =>
                    clear g
                    obtain ⟨k1, rfl, a5, g⟩ := hrel
                    by_cases hk : k1 < t2
                    · subst hOL
                      have hlt : i * t2 + k1 < q := by rw [HQ.out]; exact spot_lt hi hk
                      have hlt2 : k1 * t2 + j < E.length := by rw [HEl.out]; exact spot_lt hk hj
                      have hset := HBs.out k1 hk
                      have hob := HBr.out k1 (i * t2 + k1)
                      have hxb := resid_vec' HEr.out (by omega : 0 < p) (k1 * t2 + j)
                      have hD9 := HEl.out
                      have g0 := g.drew
                      obtain ⟨b9, o9, rfl, _, xD⟩ := (g0.fact 2 rfl).2.2.2.2.toB.cell (k := k1 * t2 + j) hlt2
                      have oc := (g0.ownCellA 0 rfl (q := i * t2 + k1) (by rw [HBl.out]; exact hlt)).1
                      obtain ⟨x, hx⟩ : ∃ x, x = vec E (k1 * t2 + j) := ⟨_, rfl⟩
                      obtain ⟨o1, ho1⟩ : ∃ o1, o1 = vec (mbB p k0 t2 D E i j k1) (i * t2 + k1) := ⟨_, rfl⟩
                      rw [← hx] at hset hxb xD
                      rw [← ho1] at hset hob oc
                      obtain ⟨z1, hz1⟩ : ∃ z1, z1 = i * t2 := ⟨_, rfl⟩
                      obtain ⟨q1, hq1⟩ : ∃ q1, q1 = z1 + k1 := ⟨_, rfl⟩
                      obtain ⟨m1, hm1⟩ : ∃ m1, m1 = k1 * t2 := ⟨_, rfl⟩
                      obtain ⟨m2, hm2⟩ : ∃ m2, m2 = m1 + j := ⟨_, rfl⟩
                      rw [← hz1, ← hq1] at hset hlt oc
                      rw [← hm1, ← hm2] at hlt2 xD
                      have t1 : (i : Int) * (t2 : Int) = (z1 : Int) := by rw [hz1]; simp
                      have t3 : (z1 : Int) + (k1 : Int) = (q1 : Int) := by omega
                      have t4 : (k1 : Int) * (t2 : Int) = (m1 : Int) := by rw [hm1]; simp
                      have t5 : (m1 : Int) + (j : Int) = (m2 : Int) := by omega
                      have w1 : IntKind.i64.wrap (z1 : Int) = z1 := wrap_ok (by omega) (by omega)
                      have w2 : IntKind.i64.wrap (q1 : Int) = q1 := wrap_ok (by omega) (by omega)
                      have w3 : IntKind.i64.wrap (m1 : Int) = m1 := wrap_ok (by omega) (by omega)
                      have w4 : IntKind.i64.wrap (m2 : Int) = m2 := wrap_ok (by omega) (by omega)
                      have w5 : IntKind.i64.wrap (o1 - x) = o1 - x := wrap_ok (by omega) (by omega)
                      have i1 : (q1 : Int) < (q : Int) := by omega
                      have i2 : (m2 : Int) < (E.length : Int) := by omega
                      have ik : (k1 : Int) < (t2 : Int) := by omega
                      have HSet2 := Lib.hid hset
                      have HMo := Lib.hid (fun (W : World) => mod_any (o1 - x) p W (by omega) (by omega) (by omega) (by omega))
                      have HLt := Lib.hid (show q1 < (mbB p k0 t2 D E i j k1).length by rw [HBl.out]; exact hlt)
                      clear hz1 hq1 hm1 hm2 hset hlt hlt2 hx ho1 hob hxb hD9
                      go_upto_region 23 with fail
                      refine wp_region_cut (S := fun w' => w'.cell? ⟨gq, q1, none⟩ = some (.int .i64 o1) ∧ w'.cell? ⟨b8, off8 + e * 4 + 3, none⟩ = some (.slice (some ⟨b9, o9, none⟩) E.length c8) ∧ w'.cell? ⟨b9, o9 + m2, none⟩ = some (.int .i64 x) ∧ (w'.cell? ⟨w.heap.size, 0, none⟩ = some (.int .i64 p) ∧ w'.cell? ⟨w.heap.size, 1, none⟩ = some (.int .i64 ms.length) ∧ w'.cell? ⟨w.heap.size, 2, none⟩ = some (.slice A T.length k))) 31 (by kernel_rfl) (by kernel_rfl) ⟨oc, (g0.fact 2 rfl).2.2.2.1, xD, g0.box3 6 rfl⟩ (fun hHeld => ?_)
                      simp only [List.take_succ_cons, List.take_zero]
                      refine anyH_take (v := ?_) 0 rfl (by kernel_rfl) (by kernel_rfl) (by kernel_rfl) (fun _ _ _ h => h) rfl ?_ hHeld ?_
                      rotate_left
                      · intro w' hSw
                        go_simp
                        try with_reducible rfl
                      try simp only [Act.put, List.setIfInBounds_toArray, List.set_cons_zero, List.set_cons_succ]
                      refine anyH_take (v := ?_) 1 rfl (by kernel_rfl) (by kernel_rfl) (by kernel_rfl) (fun _ _ _ h => h) rfl ?_ hHeld ?_
                      rotate_left
                      · intro w' hSw
                        go_simp
                        try with_reducible rfl
                      try simp only [Act.put, List.setIfInBounds_toArray, List.set_cons_zero, List.set_cons_succ]
                      refine anyH_take (v := ?_) 2 rfl (by kernel_rfl) (by kernel_rfl) (by kernel_rfl) (fun _ _ _ h => h) rfl ?_ hHeld ?_
                      rotate_left
                      · intro w' hSw
                        go_simp
                        try with_reducible rfl
                      try simp only [Act.put, List.setIfInBounds_toArray, List.set_cons_zero, List.set_cons_succ]
                      refine anyH_take (v := ?_) 3 rfl (by kernel_rfl) (by kernel_rfl) (by kernel_rfl) (fun _ _ _ h => h) rfl ?_ hHeld ?_
                      rotate_left
                      · intro w' hSw
                        go_simp
                        try with_reducible rfl
                      try simp only [Act.put, List.setIfInBounds_toArray, List.set_cons_zero, List.set_cons_succ]
                      refine anyH_take (v := ?_) 4 rfl (by kernel_rfl) (by kernel_rfl) (by kernel_rfl) (fun _ _ _ h => h) rfl ?_ hHeld ?_
                      rotate_left
                      · intro w' hSw
                        go_simp
                        try with_reducible rfl
                      try simp only [Act.put, List.setIfInBounds_toArray, List.set_cons_zero, List.set_cons_succ]
                      refine anyH_take (v := ?_) 5 rfl (by kernel_rfl) (by kernel_rfl) (by kernel_rfl) (fun _ _ _ h => h) rfl ?_ hHeld ?_
                      rotate_left
                      · intro w' hSw
                        go_simp
                        try with_reducible rfl
                      try simp only [Act.put, List.setIfInBounds_toArray, List.set_cons_zero, List.set_cons_succ]
                      refine anyH_take (v := ?_) 6 rfl (by kernel_rfl) (by kernel_rfl) (by kernel_rfl) (fun _ _ _ h => h) rfl ?_ hHeld ?_
                      rotate_left
                      · intro w' hSw
                        go_simp
                        try with_reducible rfl
                      try simp only [Act.put, List.setIfInBounds_toArray, List.set_cons_zero, List.set_cons_succ]
                      refine anyH_take (v := ?_) 7 rfl (by kernel_rfl) (by kernel_rfl) (by kernel_rfl) (fun _ _ _ h => h) rfl ?_ hHeld ?_
                      rotate_left
                      · intro w' hSw
                        go_simp
                        try with_reducible rfl
                      try simp only [Act.put, List.setIfInBounds_toArray, List.set_cons_zero, List.set_cons_succ]
                      refine anyH_take (v := ?_) 8 rfl (by kernel_rfl) (by kernel_rfl) (by kernel_rfl) (fun _ _ _ h => h) rfl ?_ hHeld ?_
                      rotate_left
                      · intro w' hSw
                        go_simp
                        try with_reducible rfl
                      try simp only [Act.put, List.setIfInBounds_toArray, List.set_cons_zero, List.set_cons_succ]
                      refine anyH_take (v := ?_) 9 rfl (by kernel_rfl) (by kernel_rfl) (by kernel_rfl) (fun _ _ _ h => h) rfl ?_ hHeld ?_
                      rotate_left
                      · intro w' hSw
                        go_simp
                        try with_reducible rfl
                      try simp only [Act.put, List.setIfInBounds_toArray, List.set_cons_zero, List.set_cons_succ]
                      refine anyH_take (v := ?_) 10 rfl (by kernel_rfl) (by kernel_rfl) (by kernel_rfl) (fun _ _ _ h => h) rfl ?_ hHeld ?_
                      rotate_left
                      · intro w' hSw
                        go_simp
                        try with_reducible rfl
                      try simp only [Act.put, List.setIfInBounds_toArray, List.set_cons_zero, List.set_cons_succ]
                      refine anyH_take (v := ?_) 11 rfl (by kernel_rfl) (by kernel_rfl) (by kernel_rfl) (fun _ _ _ h => h) rfl ?_ hHeld ?_
                      rotate_left
                      · intro w' hSw
                        go_simp
                        try with_reducible rfl
                      try simp only [Act.put, List.setIfInBounds_toArray, List.set_cons_zero, List.set_cons_succ]
                      refine anyH_take (v := ?_) 12 rfl (by kernel_rfl) (by kernel_rfl) (by kernel_rfl) (fun _ _ _ h => h) rfl ?_ hHeld ?_
                      rotate_left
                      · intro w' hSw
                        go_simp
                        try with_reducible rfl
                      try simp only [Act.put, List.setIfInBounds_toArray, List.set_cons_zero, List.set_cons_succ]
                      refine anyH_take (v := ?_) 13 rfl (by kernel_rfl) (by kernel_rfl) (by kernel_rfl) (fun _ _ _ h => h) rfl ?_ hHeld ?_
                      rotate_left
                      · intro w' hSw
                        go_simp
                        try with_reducible rfl
                      try simp only [Act.put, List.setIfInBounds_toArray, List.set_cons_zero, List.set_cons_succ]
                      refine anyH_take (v := ?_) 14 rfl (by kernel_rfl) (by kernel_rfl) (by kernel_rfl) (fun _ _ _ h => h) rfl ?_ hHeld ?_
                      rotate_left
                      · intro w' hSw
                        go_simp
                        try with_reducible rfl
                      try simp only [Act.put, List.setIfInBounds_toArray, List.set_cons_zero, List.set_cons_succ]
                      refine anyH_take (v := ?_) 15 rfl (by kernel_rfl) (by kernel_rfl) (by kernel_rfl) (fun _ _ _ h => h) rfl ?_ hHeld ?_
                      rotate_left
                      · intro w' hSw
                        go_simp
                        try with_reducible rfl
                      try simp only [Act.put, List.setIfInBounds_toArray, List.set_cons_zero, List.set_cons_succ]
                      refine anyH_take (v := ?_) 16 rfl (by kernel_rfl) (by kernel_rfl) (by kernel_rfl) (fun _ _ _ h => h) rfl ?_ hHeld ?_
                      rotate_left
                      · intro w' hSw
                        go_simp
                        try with_reducible rfl
                      try simp only [Act.put, List.setIfInBounds_toArray, List.set_cons_zero, List.set_cons_succ]
                      refine anyH_take (v := ?_) 17 rfl (by kernel_rfl) (by kernel_rfl) (by kernel_rfl) (fun _ _ _ h => h) rfl ?_ hHeld ?_
                      rotate_left
                      · intro w' hSw
                        go_simp
                        try with_reducible rfl
                      try simp only [Act.put, List.setIfInBounds_toArray, List.set_cons_zero, List.set_cons_succ]
                      refine anyH_take (v := ?_) 18 rfl (by kernel_rfl) (by kernel_rfl) (by kernel_rfl) (fun _ _ _ h => h) rfl ?_ hHeld ?_
                      rotate_left
                      · intro w' hSw
                        go_simp
                        try with_reducible rfl
                      try simp only [Act.put, List.setIfInBounds_toArray, List.set_cons_zero, List.set_cons_succ]
                      refine anyH_take (v := ?_) 19 rfl (by kernel_rfl) (by kernel_rfl) (by kernel_rfl) (fun _ _ _ h => h) rfl ?_ hHeld ?_
                      rotate_left
                      · intro w' hSw
                        go_simp
                        try with_reducible rfl
                      try simp only [Act.put, List.setIfInBounds_toArray, List.set_cons_zero, List.set_cons_succ]
                      refine anyH_take (v := ?_) 20 rfl (by kernel_rfl) (by kernel_rfl) (by kernel_rfl) (fun _ _ _ h => h) rfl ?_ hHeld ?_
                      rotate_left
                      · intro w' hSw
                        go_simp
                        try with_reducible rfl
                      try simp only [Act.put, List.setIfInBounds_toArray, List.set_cons_zero, List.set_cons_succ]
                      refine anyH_take (v := ?_) 21 rfl (by kernel_rfl) (by kernel_rfl) (by kernel_rfl) (fun _ _ _ h => h) rfl ?_ hHeld ?_
                      rotate_left
                      · intro w' hSw
                        go_simp
                        try with_reducible rfl
                      try simp only [Act.put, List.setIfInBounds_toArray, List.set_cons_zero, List.set_cons_succ]
                      refine anyH_take (v := ?_) 22 rfl (by kernel_rfl) (by kernel_rfl) (by kernel_rfl) (fun _ _ _ h => h) rfl ?_ hHeld ?_
                      rotate_left
                      · intro w' hSw
                        go_simp
                        try with_reducible rfl
                      try simp only [Act.put, List.setIfInBounds_toArray, List.set_cons_zero, List.set_cons_succ]
                      refine anyH_take (v := ?_) 23 rfl (by kernel_rfl) (by kernel_rfl) (by kernel_rfl) (fun _ _ _ h => h) rfl ?_ hHeld ?_
                      rotate_left
                      · intro w' hSw
                        go_simp
                        try with_reducible rfl
                      try simp only [Act.put, List.setIfInBounds_toArray, List.set_cons_zero, List.set_cons_succ]
                      refine anyH_take (v := ?_) 24 rfl (by kernel_rfl) (by kernel_rfl) (by kernel_rfl) (fun _ _ _ h => h) rfl ?_ hHeld ?_
                      rotate_left
                      · intro w' hSw
                        go_simp
                        try with_reducible rfl
                      try simp only [Act.put, List.setIfInBounds_toArray, List.set_cons_zero, List.set_cons_succ]
                      refine anyH_take (v := ?_) 25 rfl (by kernel_rfl) (by kernel_rfl) (by kernel_rfl) (fun _ _ _ h => h) rfl ?_ hHeld ?_
                      rotate_left
                      · intro w' hSw
                        go_simp
                        try with_reducible rfl
                      try simp only [Act.put, List.setIfInBounds_toArray, List.set_cons_zero, List.set_cons_succ]
                      refine anyH_take (v := ?_) 26 rfl (by kernel_rfl) (by kernel_rfl) (by kernel_rfl) (fun _ _ _ h => h) rfl ?_ hHeld ?_
                      rotate_left
                      · intro w' hSw
                        go_simp
                        try with_reducible rfl
                      try simp only [Act.put, List.setIfInBounds_toArray, List.set_cons_zero, List.set_cons_succ]
                      refine anyH_take (v := ?_) 27 rfl (by kernel_rfl) (by kernel_rfl) (by kernel_rfl) (fun _ _ _ h => h) rfl ?_ hHeld ?_
                      rotate_left
                      · intro w' hSw
                        go_simp
                        try with_reducible rfl
                      try simp only [Act.put, List.setIfInBounds_toArray, List.set_cons_zero, List.set_cons_succ]
                      refine anyH_take (v := ?_) 28 rfl (by kernel_rfl) (by kernel_rfl) (by kernel_rfl) (fun _ _ _ h => h) rfl ?_ hHeld ?_
                      rotate_left
                      · intro w' hSw
                        go_simp
                        try with_reducible rfl
                      try simp only [Act.put, List.setIfInBounds_toArray, List.set_cons_zero, List.set_cons_succ]
                      refine wpAnyH_ready (rs := [29]) (by kernel_rfl) (by simp) ?_
                      refine ready_cons rfl (fun K hK => ?_) AllReadyH.nil
                      go_simp
                      refine (HMo.out _).mono ?_
                      rintro (e : Ending) w6 ⟨rfl, rfl⟩
                      show K _ _
                      refine hK.out _ _ ?_ (fun hHeld => ?_)
                      · exact ⟨oc, (g0.fact 2 rfl).2.2.2.1, xD, g0.box3 6 rfl⟩
                      clear hK K
                      try simp only [Act.put, List.setIfInBounds_toArray, List.set_cons_zero, List.set_cons_succ]
                      refine anyH_take (v := ?_) 30 rfl (by kernel_rfl) (by kernel_rfl) (by kernel_rfl) (fun _ _ _ h => h) rfl ?_ hHeld ?_
                      rotate_left
                      · intro w' hSw
                        go_simp
                        try with_reducible rfl
                      try simp only [Act.put, List.setIfInBounds_toArray, List.set_cons_zero, List.set_cons_succ]
                      refine wpAnyH_done (by kernel_rfl) ?_ _
                      show wpList _ _ _ _ _ _
                      simp only [List.drop_succ_cons, List.drop_zero]
                      clear hHeld
                      obtain ⟨v0, f0⟩ := g0.ownCellA 0 rfl HLt.out
                      have g5 := g0.set 0 rfl q1 ((o1 - x) % p)
                      clear g g0 oc xD
                      go_wp2
                      go_roundw
                      case rel => exact ⟨k1 + 1, by go_num, by omega, by rw [← HSet2.out]; exact g5⟩
                      case measure => simp [intOf]; omega
                    · obtain rfl : k1 = t2 := by omega
                      have Hl2 := Lib.hid (Hul.out.trans HlR.out.symm)
                      have Hl3 := Lib.hid (show (Pr ++ mbR p k0 k1 D E (i * k1 + j)).length + 1 ≤ 1099511627776 by rw [HlR.out]; omega)
                      go_wp2_with (at_builtin; refine wp_append_row' rfl (.tmp 136) (.tmp 138) rfl g 0 rfl Hl2.out rfl rfl Hl3.out ?_; intro v1 w9 h10)
                      go_roundw
                      case rel => exact ⟨j + 1, us ++ [_], by go_num, by omega, by show _ = _; rw [List.length_append, Hul.out]; rfl, by rw [← Nat.add_assoc, HR1.out, ← List.append_assoc]; exact h10⟩
                      case measure => simp [intOf]; omega
            · obtain rfl : j = t2 := by omega
              go_wp2
              go_roundw
              case rel => exact ⟨i + 1, us, by go_num, by omega, by show _ = _; rw [Hul.out, Nat.add_mul, Nat.one_mul], by rw [Nat.add_mul, Nat.one_mul]; exact g⟩
              case measure => simp [intOf]; omega
        · obtain rfl : i = s := by omega
          have HQ9 := Lib.hid (show i * t2 = q from HQ.out.symm)
          rw [HQ9.out, ← HE1.out] at g
          subst hOL
          go_wp2
          go_roundw
          case rel => exact ⟨e + 1, us, by go_num, by omega, by show _ = _; rw [Hul.out, HQ9.out, Nat.add_mul, Nat.one_mul], g.re [0, 3, 4, 5, 6, 7, 8] (by decide) (fun j => by rcases j with _ | _ | _ | _ | _ | _ | _ | j <;> rfl)⟩
          case measure => simp [intOf]; omega
    · obtain rfl : e = ms.length := by omega
      have hl9 := HLE.out ms.length
      have Hu3 := Lib.hid (show us.length = (mbE p s t2 (ms.map Mt.d) (ns.map Mt.d) ms.length).length by rw [Hul.out, hl9, HQ.out])
      have HK := Lib.hid (fun (W : World) (v1 : Value) (x1 : IntRows W v1 (mbE p s t2 (ms.map Mt.d) (ns.map Mt.d) ms.length)) => kernel_any p (s * t2) v1 _ W x1 (HWE.out ms.length (Nat.le_refl _)) (by rw [hl9, ← HQ.out]; have := Nat.mul_le_mul hN28 b3; omega) (by rw [← HQ.out]; omega) HP.out)
      have hKx : kerL p (s * t2) (mbE p s t2 (ms.map Mt.d) (ns.map Mt.d) ms.length) = X0 := by rw [HF.out]; rfl
      rw [hKx, ← HQ.out] at HK
      clear hl9 hKx
      obtain ⟨x0, x1, x2⟩ := g.box3 3 rfl
      go_wp2_with fail
      refine (HK.out _ _ (g.rowsR 0 rfl Hu3.out)).mono ?_
      rintro (e : Ending) w7 ⟨u7, us7, rfl, hul7, hok7, hnd7, hb7⟩
      have g8 := g.pushRows hb7 hok7 hnd7
      go_wp2
      go_ret
      exact ⟨_, us7, rfl, hul7, g8.at 0 rfl, g8.vecNodup 0 rfl, g8.below⟩
end Go.Proofs.Ytcdbgcpccmcbeaa
