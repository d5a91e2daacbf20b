/- The law FnExactQuotientTable, walked. (Written by lgen2.py.) -/
import Derived.Test.YtcdbgcpccmcbeaaQuoS
import Derived.Test.YtcdbgcpccmcbeaaQuoJ
import Derived.Test.YtcdbgcpccmcbeaaRegX
import Derived.Test.YtcdbgcpccmcbeaaLawB
namespace Go.Proofs.Ytcdbgcpccmcbeaa
set_option maxRecDepth 100000
open Go.RowKit
namespace Qt

set_option maxHeartbeats 4000000 in
theorem lawQuotientTable {w : World} (a0_0 a0_1 : Int) (v0 : Value) (l0 : List Int) (g0 : Ints w v0 l0) (wf0_0 : (Lit.int .i64 a0_0).wf = true) (_wf0_1 : (Lit.int .i64 a0_1).wf = true) (_ : ∀ x ∈ l0, (Lit.int .i64 x).wf = true) (a1_0 a1_1 a1_2 : Int) (v1 : Value) (l1 : List Int) (g1 : Ints w v1 l1) (wf1_0 : (Lit.int .i64 a1_0).wf = true) (_wf1_1 : (Lit.int .i64 a1_1).wf = true) (_wf1_2 : (Lit.int .i64 a1_2).wf = true) (_ : ∀ x ∈ l1, (Lit.int .i64 x).wf = true) :
    Calls Try.prog 7 #[.agg #[.int .i64 a0_0, .int .i64 a0_1, v0], .agg #[.int .i64 a1_0, .int .i64 a1_1, .int .i64 a1_2, v1]] w fun e w' => e = .returned (.bool true) ∧ Below w.heap.size w w' := by
  by_cases L0 : ((l0.length : Nat) : Int) ≤ 1048576
  case neg =>
    have h1 := ((((St.start w).arg g0).arg g1).box [.int .i64 a0_0, .int .i64 a0_1, v0] 24).box [.int .i64 a1_0, .int .i64 a1_1, .int .i64 a1_2, v1] 26
    simp only [World.size_alloc] at h1
    obtain ⟨A0, c0, rfl, _, _, _⟩ := id g0
    obtain ⟨A1, c1, rfl, _, _, _⟩ := id g1
    clear g0 g1
    go_enter Try.func7, Try.ntmps7
    obtain ⟨zb1_0, zb1_1, zb1_2⟩ := h1.box3 1 rfl
    go_wp2_with fail
    refine (szAlgebra_no a0_0 a0_1 (1048576) _ l0 _ (h1.roInts 3 rfl) (by omega) (by omega) (by omega)).mono ?_
    rintro (e : Ending) w1 ⟨rfl, hb1⟩
    replace h1 := h1.on hb1
    clear hb1
    clear zb1_0 zb1_1 zb1_2
    go_wp2_with fail
    go_ret
    exact ⟨rfl, h1.below⟩
  case pos =>
    by_cases L1 : ((l1.length : Nat) : Int) ≤ 1048576 - (l0.length : Nat)
    case neg =>
      have h1 := ((((St.start w).arg g0).arg g1).box [.int .i64 a0_0, .int .i64 a0_1, v0] 24).box [.int .i64 a1_0, .int .i64 a1_1, .int .i64 a1_2, v1] 26
      simp only [World.size_alloc] at h1
      obtain ⟨A0, c0, rfl, _, _, _⟩ := id g0
      obtain ⟨A1, c1, rfl, _, _, _⟩ := id g1
      clear g0 g1
      go_enter Try.func7, Try.ntmps7
      obtain ⟨zb1_0, zb1_1, zb1_2⟩ := h1.box3 1 rfl
      go_wp2_with fail
      refine (szAlgebra_yes a0_0 a0_1 (1048576) _ l0 _ (h1.roInts 3 rfl) (by omega) (by omega)).mono ?_
      rintro (e : Ending) w1 ⟨rfl, hb1⟩
      replace h1 := h1.on hb1
      clear hb1
      clear zb1_0 zb1_1 zb1_2
      obtain ⟨zb0_0, zb0_1, zb0_2, zb0_3⟩ := h1.box4 0 rfl
      go_wp2_with fail
      refine (szMatrix_no a1_0 a1_1 a1_2 (1048576 - (l0.length : Nat)) _ l1 _ (h1.roInts 2 rfl) (by omega) (by omega) (by omega)).mono ?_
      rintro (e : Ending) w2 ⟨rfl, hb1⟩
      replace h1 := h1.on hb1
      clear hb1
      clear zb0_0 zb0_1 zb0_2 zb0_3
      go_wp2_with fail
      go_ret
      exact ⟨rfl, h1.below⟩
    case pos =>
      have hp := wf_le wf0_0
      have hq := wf_le wf1_0
      have bd := qtT_bd a0_0 a0_1 l0 a1_0 a1_1 a1_2 l1
      have h1 := ((((St.start w).arg g0).arg g1).box [.int .i64 a0_0, .int .i64 a0_1, v0] 24).box [.int .i64 a1_0, .int .i64 a1_1, .int .i64 a1_2, v1] 26
      simp only [World.size_alloc] at h1
      obtain ⟨A0, c0, rfl, _, _, _⟩ := id g0
      obtain ⟨A1, c1, rfl, _, _, _⟩ := id g1
      clear g0 g1
      go_enter Try.func7, Try.ntmps7
      obtain ⟨zb1_0, zb1_1, zb1_2⟩ := h1.box3 1 rfl
      go_wp2_with fail
      refine (szAlgebra_yes a0_0 a0_1 (1048576) _ l0 _ (h1.roInts 3 rfl) (by omega) (by omega)).mono ?_
      rintro (e : Ending) w1 ⟨rfl, hb1⟩
      replace h1 := h1.on hb1
      clear hb1
      clear zb1_0 zb1_1 zb1_2
      obtain ⟨zb0_0, zb0_1, zb0_2, zb0_3⟩ := h1.box4 0 rfl
      go_wp2_with fail
      refine (szMatrix_yes a1_0 a1_1 a1_2 (1048576 - (l0.length : Nat)) _ l1 _ (h1.roInts 2 rfl) (by omega) (by omega)).mono ?_
      rintro (e : Ending) w2 ⟨rfl, hb1⟩
      replace h1 := h1.on hb1
      clear hb1
      clear zb0_0 zb0_1 zb0_2 zb0_3
      have ct1_0 := Lib.hid (fun (W : World) (v : Value) (hv : Ints W v l0) => toAlgebra_any a0_0 a0_1 v l0 W hv (by omega))
      have ct1_1 := Lib.hid (fun (W : World) (v : Value) (hv : Ints W v l1) => toMatrix_any a1_0 a1_1 a1_2 v l1 W hv (by omega))
      go_upto_region 8 with fail
      obtain ⟨OL1, hOL1, h1⟩ := h1.letter
      go_cut [6, 7] (fun s0 s1 wx => ∃ (bx : Nat) (AR : Option Addr) (cR : Nat) (X1 : Value) (X0 : Value), s0 = .pointer (some ⟨bx, 0, none⟩) ∧ s1 = .bool (isaOk true a0_0 a0_1 l0 a1_0 a1_1 a1_2 l1) ∧ St w wx (.box bx [.int .i64 (qtP a0_0 a0_1 l0 a1_0 a1_1 a1_2 l1), .int .i64 (qtN a0_0 a0_1 l0 a1_0 a1_1 a1_2 l1), .slice AR (qtT a0_0 a0_1 l0 a1_0 a1_1 a1_2 l1).length cR] :: .own (.slice AR (qtT a0_0 a0_1 l0 a1_0 a1_1 a1_2 l1).length cR) (qtT a0_0 a0_1 l0 a1_0 a1_1 a1_2 l1) :: .own X1 l1 :: .own X0 l0 :: OL1))
      case first =>
        subst hOL1
        have g0 := h1.drew
        refine wp_region_held_drew (S := fun w' => (w'.cell? ⟨w.heap.size, 0, none⟩ = some (.int .i64 a0_0) ∧ w'.cell? ⟨w.heap.size, 1, none⟩ = some (.int .i64 a0_1) ∧ w'.cell? ⟨w.heap.size, 2, none⟩ = some (.slice A0 l0.length c0)) ∧ (w'.cell? ⟨w.heap.size + 1, 0, none⟩ = some (.int .i64 a1_0) ∧ w'.cell? ⟨w.heap.size + 1, 1, none⟩ = some (.int .i64 a1_1) ∧ w'.cell? ⟨w.heap.size + 1, 2, none⟩ = some (.int .i64 a1_2) ∧ w'.cell? ⟨w.heap.size + 1, 3, none⟩ = some (.slice A1 l1.length c1))) (by kernel_rfl) ⟨g0.box3 1 rfl, g0.box4 0 rfl⟩ (fun hHeld => ?_)
        clear h1
        generalize w2.drew = y0 at g0 hHeld ⊢
        refine anyH_take (v := ?_) 0 rfl (by kernel_rfl) (by kernel_rfl) (by kernel_rfl) (fun _ _ _ h => h) rfl ?_ hHeld ?_
        rotate_left
        · intro w' hSw
          go_simp
          try with_reducible rfl
        try simp only [Act.put, List.setIfInBounds_toArray, List.set_cons_zero, List.set_cons_succ]
        refine anyH_take (v := ?_) 2 rfl (by kernel_rfl) (by kernel_rfl) (by kernel_rfl) (fun _ _ _ h => h) rfl ?_ hHeld ?_
        rotate_left
        · intro w' hSw
          go_simp
          try with_reducible rfl
        try simp only [Act.put, List.setIfInBounds_toArray, List.set_cons_zero, List.set_cons_succ]
        refine wpAnyH_ready (rs := [1, 8]) (by kernel_rfl) (by simp) ?_
        refine ready_cons rfl (fun K hK => ?_) (ready_cons rfl (fun K hK => ?_) AllReadyH.nil)
        · go_simp
          refine (ct1_0.out _ _ (g0.roInts 3 rfl)).mono ?_
          rintro (e : Ending) y1 ⟨u, rfl, ho, hb⟩
          obtain ⟨B2, d2, rfl, _, _, _⟩ := id ho.ints
          have g1 := g0.pushOwn hb ho
          clear hb ho
          show K _ _
          refine hK.out _ _ ?_ (fun hHeld => ?_)
          · exact ⟨g1.box3 2 rfl, g1.box4 1 rfl⟩
          clear hK K
          try simp only [Act.put, List.setIfInBounds_toArray, List.set_cons_zero, List.set_cons_succ]
          refine wpAnyH_ready (rs := [3, 8]) (by kernel_rfl) (by simp) ?_
          refine ready_cons rfl (fun K hK => ?_) (ready_cons rfl (fun K hK => ?_) AllReadyH.nil)
          · go_simp
            refine (ct1_1.out _ _ (g1.roInts 3 rfl)).mono ?_
            rintro (e : Ending) y2 ⟨u, rfl, ho, hb⟩
            obtain ⟨B3, d3, rfl, _, _, _⟩ := id ho.ints
            have g2 := g1.pushOwn hb ho
            clear hb ho
            show K _ _
            refine hK.out _ _ ?_ (fun hHeld => ?_)
            · exact ⟨g2.box3 3 rfl, g2.box4 2 rfl⟩
            clear hK K
            try simp only [Act.put, List.setIfInBounds_toArray, List.set_cons_zero, List.set_cons_succ]
            refine wpAnyH_ready (rs := [4, 8]) (by kernel_rfl) (by simp) ?_
            refine ready_cons rfl (fun K hK => ?_) (ready_cons rfl (fun K hK => ?_) AllReadyH.nil)
            · go_simp
              refine (QuotientTableS_any a0_0 a0_1 a1_0 a1_1 a1_2 _ _ l0 l1 _ (g2.ownInts 1 rfl) (g2.ownInts 0 rfl) hp hq).mono ?_
              rintro (e : Ending) y3 ⟨u, rfl, ho, hb⟩
              obtain ⟨B4, d4, rfl, _, _, _⟩ := id ho.ints
              have g3 := g2.pushOwn hb ho
              clear hb ho
              show K _ _
              refine hK.out _ _ ?_ (fun hHeld => ?_)
              · exact ⟨g3.box3 4 rfl, g3.box4 3 rfl⟩
              clear hK K
              try simp only [Act.put, List.setIfInBounds_toArray, List.set_cons_zero, List.set_cons_succ]
              refine anyH_take (v := ?_) 5 rfl (by kernel_rfl) (by kernel_rfl) (by kernel_rfl) (fun _ _ _ h => h) rfl ?_ hHeld ?_
              rotate_left
              · intro w' hSw
                go_simp
                try with_reducible rfl
              try simp only [Act.put, List.setIfInBounds_toArray, List.set_cons_zero, List.set_cons_succ]
              refine anyH_take (v := ?_) 6 rfl (by kernel_rfl) (by kernel_rfl) (by kernel_rfl) (fun _ _ _ h => h) rfl ?_ hHeld ?_
              rotate_left
              · intro w' hSw
                go_simp
                try with_reducible rfl
              try simp only [Act.put, List.setIfInBounds_toArray, List.set_cons_zero, List.set_cons_succ]
              refine anyH_take (v := ?_) 7 rfl (by kernel_rfl) (by kernel_rfl) (by kernel_rfl) (fun _ _ _ h => h) rfl ?_ hHeld ?_
              rotate_left
              · intro w' hSw
                go_simp
                try with_reducible rfl
              try simp only [Act.put, List.setIfInBounds_toArray, List.set_cons_zero, List.set_cons_succ]
              refine wpAnyH_ready (rs := [8]) (by kernel_rfl) (by simp) ?_
              refine ready_cons rfl (fun K hK => ?_) AllReadyH.nil
              · go_simp
                have g4 := g3.box [.int .i64 0, .int .i64 0, .slice none 0 0] 29
                refine hK.out _ _ ?_ (fun hHeld => ?_)
                · exact ⟨g4.box3 5 rfl, g4.box4 4 rfl⟩
                clear hK K
                generalize World.alloc y3 (.cells #[.int .i64 0, .int .i64 0, .slice none 0 0] 29) = y4 at g4 hHeld ⊢
                try simp only [Act.put, List.setIfInBounds_toArray, List.set_cons_zero, List.set_cons_succ]
                obtain ⟨p0, p1, p2⟩ := g4.box3 0 rfl
                have f0 := g4.free 0 rfl 0
                have f1 := g4.free 0 rfl 1
                have f2 := g4.free 0 rfl 2
                have q1 := (((g4.setBox 0 rfl 0 (.int .i64 (qtP a0_0 a0_1 l0 a1_0 a1_1 a1_2 l1))).setBox 0 rfl 1 (.int .i64 (qtN a0_0 a0_1 l0 a1_0 a1_1 a1_2 l1))).setBox 0 rfl 2 (.slice B4 (qtT a0_0 a0_1 l0 a1_0 a1_1 a1_2 l1).length d4))
                refine wpAnyH_ready (rs := [9]) (by kernel_rfl) (by simp) ?_
                refine ready_cons rfl (fun K hK => ?_) AllReadyH.nil
                go_simp
                refine hK.out _ _ ?_ (fun hHeld => ?_)
                · exact ⟨q1.box3 5 rfl, q1.box4 4 rfl⟩
                clear hK K
                try simp only [Act.put, List.setIfInBounds_toArray, List.set_cons_zero, List.set_cons_succ]
                refine anyH_take (v := ?_) 10 rfl (by kernel_rfl) (by kernel_rfl) (by kernel_rfl) (fun _ _ _ h => h) rfl ?_ hHeld ?_
                rotate_left
                · intro w' hSw
                  go_simp
                  try with_reducible rfl
                try simp only [Act.put, List.setIfInBounds_toArray, List.set_cons_zero, List.set_cons_succ]
                refine wpAnyH_done (by kernel_rfl) ?_ _
                go_wp2_with fail
                go_meet
                exact ⟨_, _, _, _, _, rfl, rfl, q1⟩
            · go_simp
              have g3 := g2.box [.int .i64 0, .int .i64 0, .slice none 0 0] 29
              refine hK.out _ _ ?_ (fun hHeld => ?_)
              · exact ⟨g3.box3 4 rfl, g3.box4 3 rfl⟩
              clear hK K
              generalize World.alloc y2 (.cells #[.int .i64 0, .int .i64 0, .slice none 0 0] 29) = y3 at g3 hHeld ⊢
              try simp only [Act.put, List.setIfInBounds_toArray, List.set_cons_zero, List.set_cons_succ]
              refine wpAnyH_ready (rs := [4]) (by kernel_rfl) (by simp) ?_
              refine ready_cons rfl (fun K hK => ?_) AllReadyH.nil
              · go_simp
                refine (QuotientTableS_any a0_0 a0_1 a1_0 a1_1 a1_2 _ _ l0 l1 _ (g3.ownInts 2 rfl) (g3.ownInts 1 rfl) hp hq).mono ?_
                rintro (e : Ending) y4 ⟨u, rfl, ho, hb⟩
                obtain ⟨B4, d4, rfl, _, _, _⟩ := id ho.ints
                have g4 := g3.pushOwn hb ho
                clear hb ho
                show K _ _
                refine hK.out _ _ ?_ (fun hHeld => ?_)
                · exact ⟨g4.box3 5 rfl, g4.box4 4 rfl⟩
                clear hK K
                try simp only [Act.put, List.setIfInBounds_toArray, List.set_cons_zero, List.set_cons_succ]
                refine anyH_take (v := ?_) 5 rfl (by kernel_rfl) (by kernel_rfl) (by kernel_rfl) (fun _ _ _ h => h) rfl ?_ hHeld ?_
                rotate_left
                · intro w' hSw
                  go_simp
                  try with_reducible rfl
                try simp only [Act.put, List.setIfInBounds_toArray, List.set_cons_zero, List.set_cons_succ]
                refine anyH_take (v := ?_) 6 rfl (by kernel_rfl) (by kernel_rfl) (by kernel_rfl) (fun _ _ _ h => h) rfl ?_ hHeld ?_
                rotate_left
                · intro w' hSw
                  go_simp
                  try with_reducible rfl
                try simp only [Act.put, List.setIfInBounds_toArray, List.set_cons_zero, List.set_cons_succ]
                refine anyH_take (v := ?_) 7 rfl (by kernel_rfl) (by kernel_rfl) (by kernel_rfl) (fun _ _ _ h => h) rfl ?_ hHeld ?_
                rotate_left
                · intro w' hSw
                  go_simp
                  try with_reducible rfl
                try simp only [Act.put, List.setIfInBounds_toArray, List.set_cons_zero, List.set_cons_succ]
                obtain ⟨p0, p1, p2⟩ := g4.box3 1 rfl
                have f0 := g4.free 1 rfl 0
                have f1 := g4.free 1 rfl 1
                have f2 := g4.free 1 rfl 2
                have q1 := (((g4.setBox 1 rfl 0 (.int .i64 (qtP a0_0 a0_1 l0 a1_0 a1_1 a1_2 l1))).setBox 1 rfl 1 (.int .i64 (qtN a0_0 a0_1 l0 a1_0 a1_1 a1_2 l1))).setBox 1 rfl 2 (.slice B4 (qtT a0_0 a0_1 l0 a1_0 a1_1 a1_2 l1).length d4))
                refine wpAnyH_ready (rs := [9]) (by kernel_rfl) (by simp) ?_
                refine ready_cons rfl (fun K hK => ?_) AllReadyH.nil
                go_simp
                refine hK.out _ _ ?_ (fun hHeld => ?_)
                · exact ⟨q1.box3 5 rfl, q1.box4 4 rfl⟩
                clear hK K
                try simp only [Act.put, List.setIfInBounds_toArray, List.set_cons_zero, List.set_cons_succ]
                refine anyH_take (v := ?_) 10 rfl (by kernel_rfl) (by kernel_rfl) (by kernel_rfl) (fun _ _ _ h => h) rfl ?_ hHeld ?_
                rotate_left
                · intro w' hSw
                  go_simp
                  try with_reducible rfl
                try simp only [Act.put, List.setIfInBounds_toArray, List.set_cons_zero, List.set_cons_succ]
                refine wpAnyH_done (by kernel_rfl) ?_ _
                go_wp2_with fail
                go_meet
                exact ⟨_, _, _, _, _, rfl, rfl, q1.toFront 1 rfl⟩
          · go_simp
            have g2 := g1.box [.int .i64 0, .int .i64 0, .slice none 0 0] 29
            refine hK.out _ _ ?_ (fun hHeld => ?_)
            · exact ⟨g2.box3 3 rfl, g2.box4 2 rfl⟩
            clear hK K
            generalize World.alloc y1 (.cells #[.int .i64 0, .int .i64 0, .slice none 0 0] 29) = y2 at g2 hHeld ⊢
            try simp only [Act.put, List.setIfInBounds_toArray, List.set_cons_zero, List.set_cons_succ]
            refine wpAnyH_ready (rs := [3]) (by kernel_rfl) (by simp) ?_
            refine ready_cons rfl (fun K hK => ?_) AllReadyH.nil
            · go_simp
              refine (ct1_1.out _ _ (g2.roInts 4 rfl)).mono ?_
              rintro (e : Ending) y3 ⟨u, rfl, ho, hb⟩
              obtain ⟨B3, d3, rfl, _, _, _⟩ := id ho.ints
              have g3 := g2.pushOwn hb ho
              clear hb ho
              show K _ _
              refine hK.out _ _ ?_ (fun hHeld => ?_)
              · exact ⟨g3.box3 4 rfl, g3.box4 3 rfl⟩
              clear hK K
              try simp only [Act.put, List.setIfInBounds_toArray, List.set_cons_zero, List.set_cons_succ]
              refine wpAnyH_ready (rs := [4]) (by kernel_rfl) (by simp) ?_
              refine ready_cons rfl (fun K hK => ?_) AllReadyH.nil
              · go_simp
                refine (QuotientTableS_any a0_0 a0_1 a1_0 a1_1 a1_2 _ _ l0 l1 _ (g3.ownInts 2 rfl) (g3.ownInts 0 rfl) hp hq).mono ?_
                rintro (e : Ending) y4 ⟨u, rfl, ho, hb⟩
                obtain ⟨B4, d4, rfl, _, _, _⟩ := id ho.ints
                have g4 := g3.pushOwn hb ho
                clear hb ho
                show K _ _
                refine hK.out _ _ ?_ (fun hHeld => ?_)
                · exact ⟨g4.box3 5 rfl, g4.box4 4 rfl⟩
                clear hK K
                try simp only [Act.put, List.setIfInBounds_toArray, List.set_cons_zero, List.set_cons_succ]
                refine anyH_take (v := ?_) 5 rfl (by kernel_rfl) (by kernel_rfl) (by kernel_rfl) (fun _ _ _ h => h) rfl ?_ hHeld ?_
                rotate_left
                · intro w' hSw
                  go_simp
                  try with_reducible rfl
                try simp only [Act.put, List.setIfInBounds_toArray, List.set_cons_zero, List.set_cons_succ]
                refine anyH_take (v := ?_) 6 rfl (by kernel_rfl) (by kernel_rfl) (by kernel_rfl) (fun _ _ _ h => h) rfl ?_ hHeld ?_
                rotate_left
                · intro w' hSw
                  go_simp
                  try with_reducible rfl
                try simp only [Act.put, List.setIfInBounds_toArray, List.set_cons_zero, List.set_cons_succ]
                refine anyH_take (v := ?_) 7 rfl (by kernel_rfl) (by kernel_rfl) (by kernel_rfl) (fun _ _ _ h => h) rfl ?_ hHeld ?_
                rotate_left
                · intro w' hSw
                  go_simp
                  try with_reducible rfl
                try simp only [Act.put, List.setIfInBounds_toArray, List.set_cons_zero, List.set_cons_succ]
                obtain ⟨p0, p1, p2⟩ := g4.box3 2 rfl
                have f0 := g4.free 2 rfl 0
                have f1 := g4.free 2 rfl 1
                have f2 := g4.free 2 rfl 2
                have q1 := (((g4.setBox 2 rfl 0 (.int .i64 (qtP a0_0 a0_1 l0 a1_0 a1_1 a1_2 l1))).setBox 2 rfl 1 (.int .i64 (qtN a0_0 a0_1 l0 a1_0 a1_1 a1_2 l1))).setBox 2 rfl 2 (.slice B4 (qtT a0_0 a0_1 l0 a1_0 a1_1 a1_2 l1).length d4))
                refine wpAnyH_ready (rs := [9]) (by kernel_rfl) (by simp) ?_
                refine ready_cons rfl (fun K hK => ?_) AllReadyH.nil
                go_simp
                refine hK.out _ _ ?_ (fun hHeld => ?_)
                · exact ⟨q1.box3 5 rfl, q1.box4 4 rfl⟩
                clear hK K
                try simp only [Act.put, List.setIfInBounds_toArray, List.set_cons_zero, List.set_cons_succ]
                refine anyH_take (v := ?_) 10 rfl (by kernel_rfl) (by kernel_rfl) (by kernel_rfl) (fun _ _ _ h => h) rfl ?_ hHeld ?_
                rotate_left
                · intro w' hSw
                  go_simp
                  try with_reducible rfl
                try simp only [Act.put, List.setIfInBounds_toArray, List.set_cons_zero, List.set_cons_succ]
                refine wpAnyH_done (by kernel_rfl) ?_ _
                go_wp2_with fail
                go_meet
                exact ⟨_, _, _, _, _, rfl, rfl, q1.toFront 2 rfl⟩
        · go_simp
          have g1 := g0.box [.int .i64 0, .int .i64 0, .slice none 0 0] 29
          refine hK.out _ _ ?_ (fun hHeld => ?_)
          · exact ⟨g1.box3 2 rfl, g1.box4 1 rfl⟩
          clear hK K
          generalize World.alloc y0 (.cells #[.int .i64 0, .int .i64 0, .slice none 0 0] 29) = y1 at g1 hHeld ⊢
          try simp only [Act.put, List.setIfInBounds_toArray, List.set_cons_zero, List.set_cons_succ]
          refine wpAnyH_ready (rs := [1]) (by kernel_rfl) (by simp) ?_
          refine ready_cons rfl (fun K hK => ?_) AllReadyH.nil
          · go_simp
            refine (ct1_0.out _ _ (g1.roInts 4 rfl)).mono ?_
            rintro (e : Ending) y2 ⟨u, rfl, ho, hb⟩
            obtain ⟨B2, d2, rfl, _, _, _⟩ := id ho.ints
            have g2 := g1.pushOwn hb ho
            clear hb ho
            show K _ _
            refine hK.out _ _ ?_ (fun hHeld => ?_)
            · exact ⟨g2.box3 3 rfl, g2.box4 2 rfl⟩
            clear hK K
            try simp only [Act.put, List.setIfInBounds_toArray, List.set_cons_zero, List.set_cons_succ]
            refine wpAnyH_ready (rs := [3]) (by kernel_rfl) (by simp) ?_
            refine ready_cons rfl (fun K hK => ?_) AllReadyH.nil
            · go_simp
              refine (ct1_1.out _ _ (g2.roInts 4 rfl)).mono ?_
              rintro (e : Ending) y3 ⟨u, rfl, ho, hb⟩
              obtain ⟨B3, d3, rfl, _, _, _⟩ := id ho.ints
              have g3 := g2.pushOwn hb ho
              clear hb ho
              show K _ _
              refine hK.out _ _ ?_ (fun hHeld => ?_)
              · exact ⟨g3.box3 4 rfl, g3.box4 3 rfl⟩
              clear hK K
              try simp only [Act.put, List.setIfInBounds_toArray, List.set_cons_zero, List.set_cons_succ]
              refine wpAnyH_ready (rs := [4]) (by kernel_rfl) (by simp) ?_
              refine ready_cons rfl (fun K hK => ?_) AllReadyH.nil
              · go_simp
                refine (QuotientTableS_any a0_0 a0_1 a1_0 a1_1 a1_2 _ _ l0 l1 _ (g3.ownInts 1 rfl) (g3.ownInts 0 rfl) hp hq).mono ?_
                rintro (e : Ending) y4 ⟨u, rfl, ho, hb⟩
                obtain ⟨B4, d4, rfl, _, _, _⟩ := id ho.ints
                have g4 := g3.pushOwn hb ho
                clear hb ho
                show K _ _
                refine hK.out _ _ ?_ (fun hHeld => ?_)
                · exact ⟨g4.box3 5 rfl, g4.box4 4 rfl⟩
                clear hK K
                try simp only [Act.put, List.setIfInBounds_toArray, List.set_cons_zero, List.set_cons_succ]
                refine anyH_take (v := ?_) 5 rfl (by kernel_rfl) (by kernel_rfl) (by kernel_rfl) (fun _ _ _ h => h) rfl ?_ hHeld ?_
                rotate_left
                · intro w' hSw
                  go_simp
                  try with_reducible rfl
                try simp only [Act.put, List.setIfInBounds_toArray, List.set_cons_zero, List.set_cons_succ]
                refine anyH_take (v := ?_) 6 rfl (by kernel_rfl) (by kernel_rfl) (by kernel_rfl) (fun _ _ _ h => h) rfl ?_ hHeld ?_
                rotate_left
                · intro w' hSw
                  go_simp
                  try with_reducible rfl
                try simp only [Act.put, List.setIfInBounds_toArray, List.set_cons_zero, List.set_cons_succ]
                refine anyH_take (v := ?_) 7 rfl (by kernel_rfl) (by kernel_rfl) (by kernel_rfl) (fun _ _ _ h => h) rfl ?_ hHeld ?_
                rotate_left
                · intro w' hSw
                  go_simp
                  try with_reducible rfl
                try simp only [Act.put, List.setIfInBounds_toArray, List.set_cons_zero, List.set_cons_succ]
                obtain ⟨p0, p1, p2⟩ := g4.box3 3 rfl
                have f0 := g4.free 3 rfl 0
                have f1 := g4.free 3 rfl 1
                have f2 := g4.free 3 rfl 2
                have q1 := (((g4.setBox 3 rfl 0 (.int .i64 (qtP a0_0 a0_1 l0 a1_0 a1_1 a1_2 l1))).setBox 3 rfl 1 (.int .i64 (qtN a0_0 a0_1 l0 a1_0 a1_1 a1_2 l1))).setBox 3 rfl 2 (.slice B4 (qtT a0_0 a0_1 l0 a1_0 a1_1 a1_2 l1).length d4))
                refine wpAnyH_ready (rs := [9]) (by kernel_rfl) (by simp) ?_
                refine ready_cons rfl (fun K hK => ?_) AllReadyH.nil
                go_simp
                refine hK.out _ _ ?_ (fun hHeld => ?_)
                · exact ⟨q1.box3 5 rfl, q1.box4 4 rfl⟩
                clear hK K
                try simp only [Act.put, List.setIfInBounds_toArray, List.set_cons_zero, List.set_cons_succ]
                refine anyH_take (v := ?_) 10 rfl (by kernel_rfl) (by kernel_rfl) (by kernel_rfl) (fun _ _ _ h => h) rfl ?_ hHeld ?_
                rotate_left
                · intro w' hSw
                  go_simp
                  try with_reducible rfl
                try simp only [Act.put, List.setIfInBounds_toArray, List.set_cons_zero, List.set_cons_succ]
                refine wpAnyH_done (by kernel_rfl) ?_ _
                go_wp2_with fail
                go_meet
                exact ⟨_, _, _, _, _, rfl, rfl, q1.toFront 3 rfl⟩
      case rest =>
      clear h1 ct1_0 ct1_1
      obtain ⟨bx1, B4, d4, X3, X2, rfl, rfl, h1⟩ := hcut
      subst hOL1
      obtain ⟨zb5_0, zb5_1, zb5_2⟩ := h1.box3 5 rfl
      go_wp2_with fail
      refine (toAlgebra_any a0_0 a0_1 _ l0 _ (h1.roInts 7 rfl) (by omega)).mono ?_
      rintro (e : Ending) w4 ⟨u, rfl, ho, hb1⟩
      obtain ⟨B5, d5, rfl, _, _, _⟩ := id ho.ints
      replace h1 := h1.pushOwn hb1 ho
      clear ho hb1
      clear zb5_0 zb5_1 zb5_2
      replace h1 := h1.box [.int .i64 a0_0, .int .i64 a0_1, .slice B5 l0.length d5] 29
      obtain ⟨zb6_0, zb6_1, zb6_2, zb6_3⟩ := h1.box4 6 rfl
      go_wp2_with fail
      refine (toMatrix_any a1_0 a1_1 a1_2 _ l1 _ (h1.roInts 8 rfl) (by omega)).mono ?_
      rintro (e : Ending) w5 ⟨u, rfl, ho, hb1⟩
      obtain ⟨B6, d6, rfl, _, _, _⟩ := id ho.ints
      replace h1 := h1.pushOwn hb1 ho
      clear ho hb1
      clear zb6_0 zb6_1 zb6_2 zb6_3
      replace h1 := h1.box [.int .i64 a1_0, .int .i64 a1_1, .int .i64 a1_2, .slice B6 l1.length d6] 33
      obtain ⟨zb2_0, zb2_1, zb2_2⟩ := h1.box3 2 rfl
      obtain ⟨zb0_0, zb0_1, zb0_2, zb0_3⟩ := h1.box4 0 rfl
      go_wp2_with fail
      refine (QuotientTableI_any a0_0 a0_1 a1_0 a1_1 a1_2 _ _ l0 l1 _ (h1.ownInts 3 rfl) (h1.ownInts 1 rfl) hp hq).mono ?_
      rintro (e : Ending) w6 ⟨u, rfl, ho, hb1⟩
      obtain ⟨B7, d7, rfl, _, _, _⟩ := id ho.ints
      replace h1 := h1.pushOwn hb1 ho
      clear ho hb1
      clear zb2_0 zb2_1 zb2_2 zb0_0 zb0_1 zb0_2 zb0_3
      replace h1 := h1.box [.int .i64 (qtP a0_0 a0_1 l0 a1_0 a1_1 a1_2 l1), .int .i64 (qtN a0_0 a0_1 l0 a1_0 a1_1 a1_2 l1), .slice B7 (qtT a0_0 a0_1 l0 a1_0 a1_1 a1_2 l1).length d7] 29
      obtain ⟨zb0_0, zb0_1, zb0_2⟩ := h1.box3 0 rfl
      obtain ⟨zb6_0, zb6_1, zb6_2⟩ := h1.box3 6 rfl
      go_wp2_with fail
      refine (eqAlgebra_same (qtP a0_0 a0_1 l0 a1_0 a1_1 a1_2 l1) (qtN a0_0 a0_1 l0 a1_0 a1_1 a1_2 l1) _ _ (qtT a0_0 a0_1 l0 a1_0 a1_1 a1_2 l1) _ (h1.ownInts 1 rfl) (h1.ownInts 7 rfl)).mono ?_
      rintro (e : Ending) w7 ⟨rfl, hb1⟩
      replace h1 := h1.on hb1
      clear hb1
      clear zb0_0 zb0_1 zb0_2 zb6_0 zb6_1 zb6_2
      go_wp2_with fail
      obtain ⟨y0, y1, y2⟩ := h1.box3 4 rfl
      obtain ⟨x0, x1, x2⟩ := h1.box3 11 rfl
      go_region_held3 (fun w' => w'.cell? ⟨w4.heap.size, 0, none⟩ = some (.int .i64 a0_0) ∧ w'.cell? ⟨w4.heap.size, 1, none⟩ = some (.int .i64 a0_1) ∧ w'.cell? ⟨w4.heap.size, 2, none⟩ = some (.slice B5 l0.length d5) ∧ w'.cell? ⟨w.heap.size, 0, none⟩ = some (.int .i64 a0_0) ∧ w'.cell? ⟨w.heap.size, 1, none⟩ = some (.int .i64 a0_1) ∧ w'.cell? ⟨w.heap.size, 2, none⟩ = some (.slice A0 l0.length c0))
        (first | exact ⟨y0, y1, y2, x0, x1, x2⟩ | exact ⟨y0', y1', y2', x0', x1', x2'⟩ | exact ⟨y0'', y1'', y2'', x0'', x1'', x2''⟩)
        (first
          | (go_at_call 15; refine (toAlgebra_any a0_0 a0_1 _ l0 _ ?_ (by omega)).mono ?_; exact h1.drew.roInts 13 rfl; rintro (e : Ending) w8 ⟨u, rfl, ho, hb1⟩; obtain ⟨B8, d8, rfl, _, _, _⟩ := id ho.ints; have h2 := h1.drew.pushOwn hb1 ho; obtain ⟨y0', y1', y2'⟩ := h2.box3 5 rfl; obtain ⟨x0', x1', x2'⟩ := h2.box3 12 rfl)
          | (go_at_call 18; refine (eqAlgebra_same a0_0 a0_1 _ _ l0 _ (h2.ownInts 6 rfl) (h2.ownInts 0 rfl)).mono ?_; rintro (e : Ending) w9 ⟨rfl, hb2⟩; have h3 := h2.on hb2; obtain ⟨y0'', y1'', y2''⟩ := h3.box3 5 rfl; obtain ⟨x0'', x1'', x2''⟩ := h3.box3 12 rfl))
      clear y0 y1 y2 x0 x1 x2 y0' y1' y2' x0' x1' x2' y0'' y1'' y2'' x0'' x1'' x2'' h2 h1 hb1 hb2 ho
      have h1 := h3.drop 1
      clear h3
      go_wp2_with fail
      obtain ⟨y0, y1, y2, y3⟩ := h1.box4 2 rfl
      obtain ⟨x0, x1, x2, x3⟩ := h1.box4 10 rfl
      go_region_held3 (fun w' => w'.cell? ⟨w5.heap.size, 0, none⟩ = some (.int .i64 a1_0) ∧ w'.cell? ⟨w5.heap.size, 1, none⟩ = some (.int .i64 a1_1) ∧ w'.cell? ⟨w5.heap.size, 2, none⟩ = some (.int .i64 a1_2) ∧ w'.cell? ⟨w5.heap.size, 3, none⟩ = some (.slice B6 l1.length d6) ∧ w'.cell? ⟨w.heap.size + 1, 0, none⟩ = some (.int .i64 a1_0) ∧ w'.cell? ⟨w.heap.size + 1, 1, none⟩ = some (.int .i64 a1_1) ∧ w'.cell? ⟨w.heap.size + 1, 2, none⟩ = some (.int .i64 a1_2) ∧ w'.cell? ⟨w.heap.size + 1, 3, none⟩ = some (.slice A1 l1.length c1))
        (first | exact ⟨y0, y1, y2, y3, x0, x1, x2, x3⟩ | exact ⟨y0', y1', y2', y3', x0', x1', x2', x3'⟩ | exact ⟨y0'', y1'', y2'', y3'', x0'', x1'', x2'', x3''⟩)
        (first
          | (go_at_call 16; refine (toMatrix_any a1_0 a1_1 a1_2 _ l1 _ ?_ (by omega)).mono ?_; exact h1.drew.roInts 12 rfl; rintro (e : Ending) w10 ⟨u, rfl, ho, hb1⟩; obtain ⟨B9, d9, rfl, _, _, _⟩ := id ho.ints; have h2 := h1.drew.pushOwn hb1 ho; obtain ⟨y0', y1', y2', y3'⟩ := h2.box4 3 rfl; obtain ⟨x0', x1', x2', x3'⟩ := h2.box4 11 rfl)
          | (go_at_call 19; refine (eqMatrix_same a1_0 a1_1 a1_2 _ _ l1 _ (h2.ownInts 4 rfl) (h2.ownInts 0 rfl)).mono ?_; rintro (e : Ending) w11 ⟨rfl, hb2⟩; have h3 := h2.on hb2; obtain ⟨y0'', y1'', y2'', y3''⟩ := h3.box4 3 rfl; obtain ⟨x0'', x1'', x2'', x3''⟩ := h3.box4 11 rfl))
      clear y0 y1 y2 y3 x0 x1 x2 x3 y0' y1' y2' y3' x0' x1' x2' x3' y0'' y1'' y2'' y3'' x0'' x1'' x2'' x3'' h2 h1 hb1 hb2 ho
      have h1 := h3.drop 1
      clear h3
      obtain ⟨zb4_0, zb4_1, zb4_2⟩ := h1.box3 4 rfl
      go_wp2_with fail
      refine (markAlgebra_any h1 5 rfl a0_0 a0_1 (1) (by omega) (by omega) (by omega)).mono ?_
      rintro (e : Ending) w12 ⟨rfl, h2⟩
      replace h1 := h2
      clear h2
      clear zb4_0 zb4_1 zb4_2
      obtain ⟨zb2_0, zb2_1, zb2_2, zb2_3⟩ := h1.box4 2 rfl
      go_wp2_with fail
      refine (markMatrix_any h1 3 rfl a1_0 a1_1 a1_2 (1 + (((l0).length : Nat) : Int)) (by omega) (by omega) (by omega)).mono ?_
      rintro (e : Ending) w13 ⟨rfl, h2⟩
      replace h1 := h2
      clear h2
      clear zb2_0 zb2_1 zb2_2 zb2_3
      obtain ⟨zb0_0, zb0_1, zb0_2⟩ := h1.box3 0 rfl
      obtain ⟨zb6_0, zb6_1, zb6_2⟩ := h1.box3 6 rfl
      go_wp2_with fail
      refine (eqAlgebra_same (qtP a0_0 a0_1 l0 a1_0 a1_1 a1_2 l1) (qtN a0_0 a0_1 l0 a1_0 a1_1 a1_2 l1) _ _ (qtT a0_0 a0_1 l0 a1_0 a1_1 a1_2 l1) _ (h1.ownInts 1 rfl) (h1.ownInts 7 rfl)).mono ?_
      rintro (e : Ending) w14 ⟨rfl, hb1⟩
      replace h1 := h1.on hb1
      clear hb1
      clear zb0_0 zb0_1 zb0_2 zb6_0 zb6_1 zb6_2
      obtain ⟨zb0_0, zb0_1, zb0_2⟩ := h1.box3 0 rfl
      go_wp2_with fail
      refine (markAlgebra_any h1 1 rfl (qtP a0_0 a0_1 l0 a1_0 a1_1 a1_2 l1) (qtN a0_0 a0_1 l0 a1_0 a1_1 a1_2 l1) (1) (by omega) (by omega) (by omega)).mono ?_
      rintro (e : Ending) w15 ⟨rfl, h2⟩
      replace h1 := h2
      clear h2
      clear zb0_0 zb0_1 zb0_2
      obtain ⟨zb0_0, zb0_1, zb0_2⟩ := h1.box3 0 rfl
      go_wp2_with fail
      refine (heldAlgebra_any (qtP a0_0 a0_1 l0 a1_0 a1_1 a1_2 l1) (qtN a0_0 a0_1 l0 a1_0 a1_1 a1_2 l1) (1) _ _ _ (h1.ownInts 1 rfl) (by omega) (by omega) (by omega)).mono ?_
      rintro (e : Ending) w16 ⟨rfl, hb1⟩
      replace h1 := h1.on hb1
      clear hb1
      clear zb0_0 zb0_1 zb0_2
      have ct10_0 := Lib.hid (fun (W : World) (v : Value) (hv : Ints W v l0) => toAlgebra_any a0_0 a0_1 v l0 W hv (by omega))
      have ct10_1 := Lib.hid (fun (W : World) (v : Value) (hv : Ints W v l1) => toMatrix_any a1_0 a1_1 a1_2 v l1 W hv (by omega))
      go_upto_region 31 with fail
      obtain ⟨OL10, hOL10, h1⟩ := h1.letter
      go_cut [15, 16] (fun s0 s1 wx => ∃ (bx : Nat) (AR : Option Addr) (cR : Nat) (X1 : Value) (X0 : Value), s0 = .pointer (some ⟨bx, 0, none⟩) ∧ s1 = .bool (isaOk true a0_0 a0_1 l0 a1_0 a1_1 a1_2 l1) ∧ St w wx (.box bx [.int .i64 (qtP a0_0 a0_1 l0 a1_0 a1_1 a1_2 l1), .int .i64 (qtN a0_0 a0_1 l0 a1_0 a1_1 a1_2 l1), .slice AR (qtT a0_0 a0_1 l0 a1_0 a1_1 a1_2 l1).length cR] :: .own (.slice AR (qtT a0_0 a0_1 l0 a1_0 a1_1 a1_2 l1).length cR) (qtT a0_0 a0_1 l0 a1_0 a1_1 a1_2 l1) :: .own X1 l1 :: .own X0 l0 :: OL10))
      case first =>
        subst hOL10
        have g0 := h1.drew
        refine wp_region_held_drew (S := fun w' => (w'.cell? ⟨w.heap.size, 0, none⟩ = some (.int .i64 a0_0) ∧ w'.cell? ⟨w.heap.size, 1, none⟩ = some (.int .i64 a0_1) ∧ w'.cell? ⟨w.heap.size, 2, none⟩ = some (.slice A0 l0.length c0)) ∧ (w'.cell? ⟨w.heap.size + 1, 0, none⟩ = some (.int .i64 a1_0) ∧ w'.cell? ⟨w.heap.size + 1, 1, none⟩ = some (.int .i64 a1_1) ∧ w'.cell? ⟨w.heap.size + 1, 2, none⟩ = some (.int .i64 a1_2) ∧ w'.cell? ⟨w.heap.size + 1, 3, none⟩ = some (.slice A1 l1.length c1))) (by kernel_rfl) ⟨g0.box3 11 rfl, g0.box4 10 rfl⟩ (fun hHeld => ?_)
        clear h1
        generalize w16.drew = y0 at g0 hHeld ⊢
        refine anyH_take (v := ?_) 0 rfl (by kernel_rfl) (by kernel_rfl) (by kernel_rfl) (fun _ _ _ h => h) rfl ?_ hHeld ?_
        rotate_left
        · intro w' hSw
          go_simp
          try with_reducible rfl
        try simp only [Act.put, List.setIfInBounds_toArray, List.set_cons_zero, List.set_cons_succ]
        refine anyH_take (v := ?_) 2 rfl (by kernel_rfl) (by kernel_rfl) (by kernel_rfl) (fun _ _ _ h => h) rfl ?_ hHeld ?_
        rotate_left
        · intro w' hSw
          go_simp
          try with_reducible rfl
        try simp only [Act.put, List.setIfInBounds_toArray, List.set_cons_zero, List.set_cons_succ]
        refine wpAnyH_ready (rs := [1, 8]) (by kernel_rfl) (by simp) ?_
        refine ready_cons rfl (fun K hK => ?_) (ready_cons rfl (fun K hK => ?_) AllReadyH.nil)
        · go_simp
          refine (ct10_0.out _ _ (g0.roInts 13 rfl)).mono ?_
          rintro (e : Ending) y1 ⟨u, rfl, ho, hb⟩
          obtain ⟨B11, d11, rfl, _, _, _⟩ := id ho.ints
          have g1 := g0.pushOwn hb ho
          clear hb ho
          show K _ _
          refine hK.out _ _ ?_ (fun hHeld => ?_)
          · exact ⟨g1.box3 12 rfl, g1.box4 11 rfl⟩
          clear hK K
          try simp only [Act.put, List.setIfInBounds_toArray, List.set_cons_zero, List.set_cons_succ]
          refine wpAnyH_ready (rs := [3, 8]) (by kernel_rfl) (by simp) ?_
          refine ready_cons rfl (fun K hK => ?_) (ready_cons rfl (fun K hK => ?_) AllReadyH.nil)
          · go_simp
            refine (ct10_1.out _ _ (g1.roInts 13 rfl)).mono ?_
            rintro (e : Ending) y2 ⟨u, rfl, ho, hb⟩
            obtain ⟨B12, d12, rfl, _, _, _⟩ := id ho.ints
            have g2 := g1.pushOwn hb ho
            clear hb ho
            show K _ _
            refine hK.out _ _ ?_ (fun hHeld => ?_)
            · exact ⟨g2.box3 13 rfl, g2.box4 12 rfl⟩
            clear hK K
            try simp only [Act.put, List.setIfInBounds_toArray, List.set_cons_zero, List.set_cons_succ]
            refine wpAnyH_ready (rs := [4, 8]) (by kernel_rfl) (by simp) ?_
            refine ready_cons rfl (fun K hK => ?_) (ready_cons rfl (fun K hK => ?_) AllReadyH.nil)
            · go_simp
              refine (QuotientTableI_any a0_0 a0_1 a1_0 a1_1 a1_2 _ _ l0 l1 _ (g2.ownInts 1 rfl) (g2.ownInts 0 rfl) hp hq).mono ?_
              rintro (e : Ending) y3 ⟨u, rfl, ho, hb⟩
              obtain ⟨B13, d13, rfl, _, _, _⟩ := id ho.ints
              have g3 := g2.pushOwn hb ho
              clear hb ho
              show K _ _
              refine hK.out _ _ ?_ (fun hHeld => ?_)
              · exact ⟨g3.box3 14 rfl, g3.box4 13 rfl⟩
              clear hK K
              try simp only [Act.put, List.setIfInBounds_toArray, List.set_cons_zero, List.set_cons_succ]
              refine anyH_take (v := ?_) 5 rfl (by kernel_rfl) (by kernel_rfl) (by kernel_rfl) (fun _ _ _ h => h) rfl ?_ hHeld ?_
              rotate_left
              · intro w' hSw
                go_simp
                try with_reducible rfl
              try simp only [Act.put, List.setIfInBounds_toArray, List.set_cons_zero, List.set_cons_succ]
              refine anyH_take (v := ?_) 6 rfl (by kernel_rfl) (by kernel_rfl) (by kernel_rfl) (fun _ _ _ h => h) rfl ?_ hHeld ?_
              rotate_left
              · intro w' hSw
                go_simp
                try with_reducible rfl
              try simp only [Act.put, List.setIfInBounds_toArray, List.set_cons_zero, List.set_cons_succ]
              refine anyH_take (v := ?_) 7 rfl (by kernel_rfl) (by kernel_rfl) (by kernel_rfl) (fun _ _ _ h => h) rfl ?_ hHeld ?_
              rotate_left
              · intro w' hSw
                go_simp
                try with_reducible rfl
              try simp only [Act.put, List.setIfInBounds_toArray, List.set_cons_zero, List.set_cons_succ]
              refine wpAnyH_ready (rs := [8]) (by kernel_rfl) (by simp) ?_
              refine ready_cons rfl (fun K hK => ?_) AllReadyH.nil
              · go_simp
                have g4 := g3.box [.int .i64 0, .int .i64 0, .slice none 0 0] 29
                refine hK.out _ _ ?_ (fun hHeld => ?_)
                · exact ⟨g4.box3 15 rfl, g4.box4 14 rfl⟩
                clear hK K
                generalize World.alloc y3 (.cells #[.int .i64 0, .int .i64 0, .slice none 0 0] 29) = y4 at g4 hHeld ⊢
                try simp only [Act.put, List.setIfInBounds_toArray, List.set_cons_zero, List.set_cons_succ]
                obtain ⟨p0, p1, p2⟩ := g4.box3 0 rfl
                have f0 := g4.free 0 rfl 0
                have f1 := g4.free 0 rfl 1
                have f2 := g4.free 0 rfl 2
                have q1 := (((g4.setBox 0 rfl 0 (.int .i64 (qtP a0_0 a0_1 l0 a1_0 a1_1 a1_2 l1))).setBox 0 rfl 1 (.int .i64 (qtN a0_0 a0_1 l0 a1_0 a1_1 a1_2 l1))).setBox 0 rfl 2 (.slice B13 (qtT a0_0 a0_1 l0 a1_0 a1_1 a1_2 l1).length d13))
                refine wpAnyH_ready (rs := [9]) (by kernel_rfl) (by simp) ?_
                refine ready_cons rfl (fun K hK => ?_) AllReadyH.nil
                go_simp
                refine hK.out _ _ ?_ (fun hHeld => ?_)
                · exact ⟨q1.box3 15 rfl, q1.box4 14 rfl⟩
                clear hK K
                try simp only [Act.put, List.setIfInBounds_toArray, List.set_cons_zero, List.set_cons_succ]
                refine anyH_take (v := ?_) 10 rfl (by kernel_rfl) (by kernel_rfl) (by kernel_rfl) (fun _ _ _ h => h) rfl ?_ hHeld ?_
                rotate_left
                · intro w' hSw
                  go_simp
                  try with_reducible rfl
                try simp only [Act.put, List.setIfInBounds_toArray, List.set_cons_zero, List.set_cons_succ]
                refine wpAnyH_done (by kernel_rfl) ?_ _
                go_wp2_with fail
                go_meet
                exact ⟨_, _, _, _, _, rfl, rfl, q1⟩
            · go_simp
              have g3 := g2.box [.int .i64 0, .int .i64 0, .slice none 0 0] 29
              refine hK.out _ _ ?_ (fun hHeld => ?_)
              · exact ⟨g3.box3 14 rfl, g3.box4 13 rfl⟩
              clear hK K
              generalize World.alloc y2 (.cells #[.int .i64 0, .int .i64 0, .slice none 0 0] 29) = y3 at g3 hHeld ⊢
              try simp only [Act.put, List.setIfInBounds_toArray, List.set_cons_zero, List.set_cons_succ]
              refine wpAnyH_ready (rs := [4]) (by kernel_rfl) (by simp) ?_
              refine ready_cons rfl (fun K hK => ?_) AllReadyH.nil
              · go_simp
                refine (QuotientTableI_any a0_0 a0_1 a1_0 a1_1 a1_2 _ _ l0 l1 _ (g3.ownInts 2 rfl) (g3.ownInts 1 rfl) hp hq).mono ?_
                rintro (e : Ending) y4 ⟨u, rfl, ho, hb⟩
                obtain ⟨B13, d13, rfl, _, _, _⟩ := id ho.ints
                have g4 := g3.pushOwn hb ho
                clear hb ho
                show K _ _
                refine hK.out _ _ ?_ (fun hHeld => ?_)
                · exact ⟨g4.box3 15 rfl, g4.box4 14 rfl⟩
                clear hK K
                try simp only [Act.put, List.setIfInBounds_toArray, List.set_cons_zero, List.set_cons_succ]
                refine anyH_take (v := ?_) 5 rfl (by kernel_rfl) (by kernel_rfl) (by kernel_rfl) (fun _ _ _ h => h) rfl ?_ hHeld ?_
                rotate_left
                · intro w' hSw
                  go_simp
                  try with_reducible rfl
                try simp only [Act.put, List.setIfInBounds_toArray, List.set_cons_zero, List.set_cons_succ]
                refine anyH_take (v := ?_) 6 rfl (by kernel_rfl) (by kernel_rfl) (by kernel_rfl) (fun _ _ _ h => h) rfl ?_ hHeld ?_
                rotate_left
                · intro w' hSw
                  go_simp
                  try with_reducible rfl
                try simp only [Act.put, List.setIfInBounds_toArray, List.set_cons_zero, List.set_cons_succ]
                refine anyH_take (v := ?_) 7 rfl (by kernel_rfl) (by kernel_rfl) (by kernel_rfl) (fun _ _ _ h => h) rfl ?_ hHeld ?_
                rotate_left
                · intro w' hSw
                  go_simp
                  try with_reducible rfl
                try simp only [Act.put, List.setIfInBounds_toArray, List.set_cons_zero, List.set_cons_succ]
                obtain ⟨p0, p1, p2⟩ := g4.box3 1 rfl
                have f0 := g4.free 1 rfl 0
                have f1 := g4.free 1 rfl 1
                have f2 := g4.free 1 rfl 2
                have q1 := (((g4.setBox 1 rfl 0 (.int .i64 (qtP a0_0 a0_1 l0 a1_0 a1_1 a1_2 l1))).setBox 1 rfl 1 (.int .i64 (qtN a0_0 a0_1 l0 a1_0 a1_1 a1_2 l1))).setBox 1 rfl 2 (.slice B13 (qtT a0_0 a0_1 l0 a1_0 a1_1 a1_2 l1).length d13))
                refine wpAnyH_ready (rs := [9]) (by kernel_rfl) (by simp) ?_
                refine ready_cons rfl (fun K hK => ?_) AllReadyH.nil
                go_simp
                refine hK.out _ _ ?_ (fun hHeld => ?_)
                · exact ⟨q1.box3 15 rfl, q1.box4 14 rfl⟩
                clear hK K
                try simp only [Act.put, List.setIfInBounds_toArray, List.set_cons_zero, List.set_cons_succ]
                refine anyH_take (v := ?_) 10 rfl (by kernel_rfl) (by kernel_rfl) (by kernel_rfl) (fun _ _ _ h => h) rfl ?_ hHeld ?_
                rotate_left
                · intro w' hSw
                  go_simp
                  try with_reducible rfl
                try simp only [Act.put, List.setIfInBounds_toArray, List.set_cons_zero, List.set_cons_succ]
                refine wpAnyH_done (by kernel_rfl) ?_ _
                go_wp2_with fail
                go_meet
                exact ⟨_, _, _, _, _, rfl, rfl, q1.toFront 1 rfl⟩
          · go_simp
            have g2 := g1.box [.int .i64 0, .int .i64 0, .slice none 0 0] 29
            refine hK.out _ _ ?_ (fun hHeld => ?_)
            · exact ⟨g2.box3 13 rfl, g2.box4 12 rfl⟩
            clear hK K
            generalize World.alloc y1 (.cells #[.int .i64 0, .int .i64 0, .slice none 0 0] 29) = y2 at g2 hHeld ⊢
            try simp only [Act.put, List.setIfInBounds_toArray, List.set_cons_zero, List.set_cons_succ]
            refine wpAnyH_ready (rs := [3]) (by kernel_rfl) (by simp) ?_
            refine ready_cons rfl (fun K hK => ?_) AllReadyH.nil
            · go_simp
              refine (ct10_1.out _ _ (g2.roInts 14 rfl)).mono ?_
              rintro (e : Ending) y3 ⟨u, rfl, ho, hb⟩
              obtain ⟨B12, d12, rfl, _, _, _⟩ := id ho.ints
              have g3 := g2.pushOwn hb ho
              clear hb ho
              show K _ _
              refine hK.out _ _ ?_ (fun hHeld => ?_)
              · exact ⟨g3.box3 14 rfl, g3.box4 13 rfl⟩
              clear hK K
              try simp only [Act.put, List.setIfInBounds_toArray, List.set_cons_zero, List.set_cons_succ]
              refine wpAnyH_ready (rs := [4]) (by kernel_rfl) (by simp) ?_
              refine ready_cons rfl (fun K hK => ?_) AllReadyH.nil
              · go_simp
                refine (QuotientTableI_any a0_0 a0_1 a1_0 a1_1 a1_2 _ _ l0 l1 _ (g3.ownInts 2 rfl) (g3.ownInts 0 rfl) hp hq).mono ?_
                rintro (e : Ending) y4 ⟨u, rfl, ho, hb⟩
                obtain ⟨B13, d13, rfl, _, _, _⟩ := id ho.ints
                have g4 := g3.pushOwn hb ho
                clear hb ho
                show K _ _
                refine hK.out _ _ ?_ (fun hHeld => ?_)
                · exact ⟨g4.box3 15 rfl, g4.box4 14 rfl⟩
                clear hK K
                try simp only [Act.put, List.setIfInBounds_toArray, List.set_cons_zero, List.set_cons_succ]
                refine anyH_take (v := ?_) 5 rfl (by kernel_rfl) (by kernel_rfl) (by kernel_rfl) (fun _ _ _ h => h) rfl ?_ hHeld ?_
                rotate_left
                · intro w' hSw
                  go_simp
                  try with_reducible rfl
                try simp only [Act.put, List.setIfInBounds_toArray, List.set_cons_zero, List.set_cons_succ]
                refine anyH_take (v := ?_) 6 rfl (by kernel_rfl) (by kernel_rfl) (by kernel_rfl) (fun _ _ _ h => h) rfl ?_ hHeld ?_
                rotate_left
                · intro w' hSw
                  go_simp
                  try with_reducible rfl
                try simp only [Act.put, List.setIfInBounds_toArray, List.set_cons_zero, List.set_cons_succ]
                refine anyH_take (v := ?_) 7 rfl (by kernel_rfl) (by kernel_rfl) (by kernel_rfl) (fun _ _ _ h => h) rfl ?_ hHeld ?_
                rotate_left
                · intro w' hSw
                  go_simp
                  try with_reducible rfl
                try simp only [Act.put, List.setIfInBounds_toArray, List.set_cons_zero, List.set_cons_succ]
                obtain ⟨p0, p1, p2⟩ := g4.box3 2 rfl
                have f0 := g4.free 2 rfl 0
                have f1 := g4.free 2 rfl 1
                have f2 := g4.free 2 rfl 2
                have q1 := (((g4.setBox 2 rfl 0 (.int .i64 (qtP a0_0 a0_1 l0 a1_0 a1_1 a1_2 l1))).setBox 2 rfl 1 (.int .i64 (qtN a0_0 a0_1 l0 a1_0 a1_1 a1_2 l1))).setBox 2 rfl 2 (.slice B13 (qtT a0_0 a0_1 l0 a1_0 a1_1 a1_2 l1).length d13))
                refine wpAnyH_ready (rs := [9]) (by kernel_rfl) (by simp) ?_
                refine ready_cons rfl (fun K hK => ?_) AllReadyH.nil
                go_simp
                refine hK.out _ _ ?_ (fun hHeld => ?_)
                · exact ⟨q1.box3 15 rfl, q1.box4 14 rfl⟩
                clear hK K
                try simp only [Act.put, List.setIfInBounds_toArray, List.set_cons_zero, List.set_cons_succ]
                refine anyH_take (v := ?_) 10 rfl (by kernel_rfl) (by kernel_rfl) (by kernel_rfl) (fun _ _ _ h => h) rfl ?_ hHeld ?_
                rotate_left
                · intro w' hSw
                  go_simp
                  try with_reducible rfl
                try simp only [Act.put, List.setIfInBounds_toArray, List.set_cons_zero, List.set_cons_succ]
                refine wpAnyH_done (by kernel_rfl) ?_ _
                go_wp2_with fail
                go_meet
                exact ⟨_, _, _, _, _, rfl, rfl, q1.toFront 2 rfl⟩
        · go_simp
          have g1 := g0.box [.int .i64 0, .int .i64 0, .slice none 0 0] 29
          refine hK.out _ _ ?_ (fun hHeld => ?_)
          · exact ⟨g1.box3 12 rfl, g1.box4 11 rfl⟩
          clear hK K
          generalize World.alloc y0 (.cells #[.int .i64 0, .int .i64 0, .slice none 0 0] 29) = y1 at g1 hHeld ⊢
          try simp only [Act.put, List.setIfInBounds_toArray, List.set_cons_zero, List.set_cons_succ]
          refine wpAnyH_ready (rs := [1]) (by kernel_rfl) (by simp) ?_
          refine ready_cons rfl (fun K hK => ?_) AllReadyH.nil
          · go_simp
            refine (ct10_0.out _ _ (g1.roInts 14 rfl)).mono ?_
            rintro (e : Ending) y2 ⟨u, rfl, ho, hb⟩
            obtain ⟨B11, d11, rfl, _, _, _⟩ := id ho.ints
            have g2 := g1.pushOwn hb ho
            clear hb ho
            show K _ _
            refine hK.out _ _ ?_ (fun hHeld => ?_)
            · exact ⟨g2.box3 13 rfl, g2.box4 12 rfl⟩
            clear hK K
            try simp only [Act.put, List.setIfInBounds_toArray, List.set_cons_zero, List.set_cons_succ]
            refine wpAnyH_ready (rs := [3]) (by kernel_rfl) (by simp) ?_
            refine ready_cons rfl (fun K hK => ?_) AllReadyH.nil
            · go_simp
              refine (ct10_1.out _ _ (g2.roInts 14 rfl)).mono ?_
              rintro (e : Ending) y3 ⟨u, rfl, ho, hb⟩
              obtain ⟨B12, d12, rfl, _, _, _⟩ := id ho.ints
              have g3 := g2.pushOwn hb ho
              clear hb ho
              show K _ _
              refine hK.out _ _ ?_ (fun hHeld => ?_)
              · exact ⟨g3.box3 14 rfl, g3.box4 13 rfl⟩
              clear hK K
              try simp only [Act.put, List.setIfInBounds_toArray, List.set_cons_zero, List.set_cons_succ]
              refine wpAnyH_ready (rs := [4]) (by kernel_rfl) (by simp) ?_
              refine ready_cons rfl (fun K hK => ?_) AllReadyH.nil
              · go_simp
                refine (QuotientTableI_any a0_0 a0_1 a1_0 a1_1 a1_2 _ _ l0 l1 _ (g3.ownInts 1 rfl) (g3.ownInts 0 rfl) hp hq).mono ?_
                rintro (e : Ending) y4 ⟨u, rfl, ho, hb⟩
                obtain ⟨B13, d13, rfl, _, _, _⟩ := id ho.ints
                have g4 := g3.pushOwn hb ho
                clear hb ho
                show K _ _
                refine hK.out _ _ ?_ (fun hHeld => ?_)
                · exact ⟨g4.box3 15 rfl, g4.box4 14 rfl⟩
                clear hK K
                try simp only [Act.put, List.setIfInBounds_toArray, List.set_cons_zero, List.set_cons_succ]
                refine anyH_take (v := ?_) 5 rfl (by kernel_rfl) (by kernel_rfl) (by kernel_rfl) (fun _ _ _ h => h) rfl ?_ hHeld ?_
                rotate_left
                · intro w' hSw
                  go_simp
                  try with_reducible rfl
                try simp only [Act.put, List.setIfInBounds_toArray, List.set_cons_zero, List.set_cons_succ]
                refine anyH_take (v := ?_) 6 rfl (by kernel_rfl) (by kernel_rfl) (by kernel_rfl) (fun _ _ _ h => h) rfl ?_ hHeld ?_
                rotate_left
                · intro w' hSw
                  go_simp
                  try with_reducible rfl
                try simp only [Act.put, List.setIfInBounds_toArray, List.set_cons_zero, List.set_cons_succ]
                refine anyH_take (v := ?_) 7 rfl (by kernel_rfl) (by kernel_rfl) (by kernel_rfl) (fun _ _ _ h => h) rfl ?_ hHeld ?_
                rotate_left
                · intro w' hSw
                  go_simp
                  try with_reducible rfl
                try simp only [Act.put, List.setIfInBounds_toArray, List.set_cons_zero, List.set_cons_succ]
                obtain ⟨p0, p1, p2⟩ := g4.box3 3 rfl
                have f0 := g4.free 3 rfl 0
                have f1 := g4.free 3 rfl 1
                have f2 := g4.free 3 rfl 2
                have q1 := (((g4.setBox 3 rfl 0 (.int .i64 (qtP a0_0 a0_1 l0 a1_0 a1_1 a1_2 l1))).setBox 3 rfl 1 (.int .i64 (qtN a0_0 a0_1 l0 a1_0 a1_1 a1_2 l1))).setBox 3 rfl 2 (.slice B13 (qtT a0_0 a0_1 l0 a1_0 a1_1 a1_2 l1).length d13))
                refine wpAnyH_ready (rs := [9]) (by kernel_rfl) (by simp) ?_
                refine ready_cons rfl (fun K hK => ?_) AllReadyH.nil
                go_simp
                refine hK.out _ _ ?_ (fun hHeld => ?_)
                · exact ⟨q1.box3 15 rfl, q1.box4 14 rfl⟩
                clear hK K
                try simp only [Act.put, List.setIfInBounds_toArray, List.set_cons_zero, List.set_cons_succ]
                refine anyH_take (v := ?_) 10 rfl (by kernel_rfl) (by kernel_rfl) (by kernel_rfl) (fun _ _ _ h => h) rfl ?_ hHeld ?_
                rotate_left
                · intro w' hSw
                  go_simp
                  try with_reducible rfl
                try simp only [Act.put, List.setIfInBounds_toArray, List.set_cons_zero, List.set_cons_succ]
                refine wpAnyH_done (by kernel_rfl) ?_ _
                go_wp2_with fail
                go_meet
                exact ⟨_, _, _, _, _, rfl, rfl, q1.toFront 3 rfl⟩
      case rest =>
      clear h1 ct10_0 ct10_1
      obtain ⟨bx10, B13, d13, X12, X11, rfl, rfl, h1⟩ := hcut
      subst hOL10
      obtain ⟨zb0_0, zb0_1, zb0_2⟩ := h1.box3 0 rfl
      obtain ⟨zb10_0, zb10_1, zb10_2⟩ := h1.box3 10 rfl
      go_wp2_with fail
      refine (eqAlgebra_same (qtP a0_0 a0_1 l0 a1_0 a1_1 a1_2 l1) (qtN a0_0 a0_1 l0 a1_0 a1_1 a1_2 l1) _ _ (qtT a0_0 a0_1 l0 a1_0 a1_1 a1_2 l1) _ (h1.ownInts 1 rfl) (h1.ownInts 11 rfl)).mono ?_
      rintro (e : Ending) w18 ⟨rfl, hb1⟩
      replace h1 := h1.on hb1
      clear hb1
      clear zb0_0 zb0_1 zb0_2 zb10_0 zb10_1 zb10_2
      obtain ⟨zb4_0, zb4_1, zb4_2⟩ := h1.box3 4 rfl
      go_wp2_with fail
      refine (heldAlgebra_any (qtP a0_0 a0_1 l0 a1_0 a1_1 a1_2 l1) (qtN a0_0 a0_1 l0 a1_0 a1_1 a1_2 l1) (1) _ _ _ (h1.ownInts 5 rfl) (by omega) (by omega) (by omega)).mono ?_
      rintro (e : Ending) w19 ⟨rfl, hb1⟩
      replace h1 := h1.on hb1
      clear hb1
      clear zb4_0 zb4_1 zb4_2
      go_wp2_with fail
      go_ret
      exact ⟨rfl, h1.below⟩
end Qt
end Go.Proofs.Ytcdbgcpccmcbeaa
