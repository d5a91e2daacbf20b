/- The law FnExactSubmoduleBy, walked. (Written by lgen2.py.) -/
import Derived.Test.YtechjmckfedblaaSbI
import Derived.Test.YtechjmckfedblaaRegX
import Derived.Test.YtechjmckfedblaaLawM
import Derived.Test.YtechjmckfedblaaLawB
import Derived.Test.YtechjmckfedblaaShellC
namespace Go.Proofs.Ytechjmckfedblaa
set_option maxRecDepth 100000
open Go.RowKit
namespace Sb

set_option maxHeartbeats 4000000 in
theorem lawSubmoduleBy {w : World} (a0_0 a0_1 : Int) (v0 : Value) (l0 : List Int) (g0 : Ints w v0 l0) (wf0_0 : (Lit.int .i64 a0_0).wf = true) (_wf0_1 : (Lit.int .i64 a0_1).wf = true) (_ : ∀ x ∈ l0, (Lit.int .i64 x).wf = true) (v1 : Value) (l1 : List Mt) (g1 : MatsR w v1 l1) (wf1 : MsWf l1) (a2_0 a2_1 a2_2 : Int) (v2 : Value) (l2 : List Int) (g2 : Ints w v2 l2) (wf2_0 : (Lit.int .i64 a2_0).wf = true) (_wf2_1 : (Lit.int .i64 a2_1).wf = true) (_wf2_2 : (Lit.int .i64 a2_2).wf = true) (_ : ∀ x ∈ l2, (Lit.int .i64 x).wf = true) :
    Calls Try.prog 14 #[.agg #[.int .i64 a0_0, .int .i64 a0_1, v0], v1, .agg #[.int .i64 a2_0, .int .i64 a2_1, .int .i64 a2_2, v2]] w fun e w' => e = .returned (.bool true) ∧ Below w.heap.size w w' := by
  by_cases L0 : ((l0.length : Nat) : Int) ≤ 1048576
  case neg =>
    have h1 := (((((St.start w).arg g0).pushFact g1.fact).arg g2).box [.int .i64 a0_0, .int .i64 a0_1, v0] 24).box [.int .i64 a2_0, .int .i64 a2_1, .int .i64 a2_2, v2] 26
    simp only [World.size_alloc] at h1
    obtain ⟨A0, c0, rfl, _, _, _⟩ := id g0
    obtain ⟨A1, c1, rfl, _, _, _⟩ := id g1
    obtain ⟨A2, c2, rfl, _, _, _⟩ := id g2
    clear g0 g1 g2
    go_enter Try.func14, Try.ntmps14
    obtain ⟨zb1_0, zb1_1, zb1_2⟩ := h1.box3 1 rfl
    go_wp2_with fail
    refine (szAlgebra_no a0_0 a0_1 (1048576) _ l0 _ (h1.roInts 4 rfl) (by omega) (by omega) (by omega)).mono ?_
    rintro (e : Ending) w1 ⟨rfl, hb1⟩
    replace h1 := h1.on hb1
    clear hb1
    clear zb1_0 zb1_1 zb1_2
    go_wp2_with fail
    go_ret
    exact ⟨rfl, h1.below⟩
  case pos =>
    by_cases L1 : ((szMs l1 : Nat) : Int) ≤ 1048576 - (l0.length : Nat)
    case neg =>
      have h1 := (((((St.start w).arg g0).pushFact g1.fact).arg g2).box [.int .i64 a0_0, .int .i64 a0_1, v0] 24).box [.int .i64 a2_0, .int .i64 a2_1, .int .i64 a2_2, v2] 26
      simp only [World.size_alloc] at h1
      obtain ⟨A0, c0, rfl, _, _, _⟩ := id g0
      obtain ⟨A1, c1, rfl, _, _, _⟩ := id g1
      obtain ⟨A2, c2, rfl, _, _, _⟩ := id g2
      clear g0 g1 g2
      go_enter Try.func14, Try.ntmps14
      obtain ⟨zb1_0, zb1_1, zb1_2⟩ := h1.box3 1 rfl
      go_wp2_with fail
      refine (szAlgebra_yes a0_0 a0_1 (1048576) _ l0 _ (h1.roInts 4 rfl) (by omega) (by omega)).mono ?_
      rintro (e : Ending) w1 ⟨rfl, hb1⟩
      replace h1 := h1.on hb1
      clear hb1
      clear zb1_0 zb1_1 zb1_2
      go_wp2_with fail
      refine (szMatrixS_no (1048576 - (l0.length : Nat)) _ l1 _ (h1.fact 3 rfl) (by omega) (by omega) (by omega)).mono ?_
      rintro (e : Ending) w2 ⟨rfl, hb1⟩
      replace h1 := h1.on hb1
      clear hb1
      go_wp2_with fail
      go_ret
      exact ⟨rfl, h1.below⟩
    case pos =>
      by_cases L2 : ((l2.length : Nat) : Int) ≤ 1048576 - (l0.length : Nat) - (szMs l1 : Nat)
      case neg =>
        have h1 := (((((St.start w).arg g0).pushFact g1.fact).arg g2).box [.int .i64 a0_0, .int .i64 a0_1, v0] 24).box [.int .i64 a2_0, .int .i64 a2_1, .int .i64 a2_2, v2] 26
        simp only [World.size_alloc] at h1
        obtain ⟨A0, c0, rfl, _, _, _⟩ := id g0
        obtain ⟨A1, c1, rfl, _, _, _⟩ := id g1
        obtain ⟨A2, c2, rfl, _, _, _⟩ := id g2
        clear g0 g1 g2
        go_enter Try.func14, Try.ntmps14
        obtain ⟨zb1_0, zb1_1, zb1_2⟩ := h1.box3 1 rfl
        go_wp2_with fail
        refine (szAlgebra_yes a0_0 a0_1 (1048576) _ l0 _ (h1.roInts 4 rfl) (by omega) (by omega)).mono ?_
        rintro (e : Ending) w1 ⟨rfl, hb1⟩
        replace h1 := h1.on hb1
        clear hb1
        clear zb1_0 zb1_1 zb1_2
        go_wp2_with fail
        refine (szMatrixS_yes (1048576 - (l0.length : Nat)) _ l1 _ (h1.fact 3 rfl) (by omega) (by omega)).mono ?_
        rintro (e : Ending) w2 ⟨rfl, hb1⟩
        replace h1 := h1.on hb1
        clear hb1
        obtain ⟨zb0_0, zb0_1, zb0_2, zb0_3⟩ := h1.box4 0 rfl
        go_wp2_with fail
        refine (szMatrix_no a2_0 a2_1 a2_2 (1048576 - (l0.length : Nat) - (szMs l1 : Nat)) _ l2 _ (h1.roInts 2 rfl) (by omega) (by omega) (by omega)).mono ?_
        rintro (e : Ending) w3 ⟨rfl, hb1⟩
        replace h1 := h1.on hb1
        clear hb1
        clear zb0_0 zb0_1 zb0_2 zb0_3
        go_wp2_with fail
        go_ret
        exact ⟨rfl, h1.below⟩
      case pos =>
        have hp := wf_le wf0_0
        have hq := wf_le wf2_0
        have hw : ∀ i, i < l1.length → (mAt l1 i).p ≤ 9223372036854775807 := fun i hi => wf_le (wf1 _ (by rw [← mAt_get hi]; exact List.getElem_mem hi)).1
        have bd := sbD_bd a0_0 a0_1 l0 l1 a2_0 a2_1 a2_2 l2
        have bm : markMsLen l1 ≤ 3 * szMs l1 := by unfold markMsLen szMs; omega
        have h1 := (((((St.start w).arg g0).pushFact g1.fact).arg g2).box [.int .i64 a0_0, .int .i64 a0_1, v0] 24).box [.int .i64 a2_0, .int .i64 a2_1, .int .i64 a2_2, v2] 26
        simp only [World.size_alloc] at h1
        obtain ⟨A0, c0, rfl, _, _, _⟩ := id g0
        obtain ⟨A1, c1, rfl, _, _, _⟩ := id g1
        obtain ⟨A2, c2, rfl, _, _, _⟩ := id g2
        clear g0 g1 g2
        go_enter Try.func14, Try.ntmps14
        obtain ⟨zb1_0, zb1_1, zb1_2⟩ := h1.box3 1 rfl
        go_wp2_with fail
        refine (szAlgebra_yes a0_0 a0_1 (1048576) _ l0 _ (h1.roInts 4 rfl) (by omega) (by omega)).mono ?_
        rintro (e : Ending) w1 ⟨rfl, hb1⟩
        replace h1 := h1.on hb1
        clear hb1
        clear zb1_0 zb1_1 zb1_2
        go_wp2_with fail
        refine (szMatrixS_yes (1048576 - (l0.length : Nat)) _ l1 _ (h1.fact 3 rfl) (by omega) (by omega)).mono ?_
        rintro (e : Ending) w2 ⟨rfl, hb1⟩
        replace h1 := h1.on hb1
        clear hb1
        obtain ⟨zb0_0, zb0_1, zb0_2, zb0_3⟩ := h1.box4 0 rfl
        go_wp2_with fail
        refine (szMatrix_yes a2_0 a2_1 a2_2 (1048576 - (l0.length : Nat) - (szMs l1 : Nat)) _ l2 _ (h1.roInts 2 rfl) (by omega) (by omega)).mono ?_
        rintro (e : Ending) w3 ⟨rfl, hb1⟩
        replace h1 := h1.on hb1
        clear hb1
        clear zb0_0 zb0_1 zb0_2 zb0_3
        have ct1_0 := Lib.hid (fun (W : World) (v : Value) (hv : Ints W v l0) => toAlgebra_any a0_0 a0_1 v l0 W hv (by omega))
        have ct1_1 := Lib.hid (fun (W : World) (v : Value) (hv : MatsR W v l1) => toMatrixS_any v l1 W hv (by omega))
        have ct1_2 := Lib.hid (fun (W : World) (v : Value) (hv : Ints W v l2) => toMatrix_any a2_0 a2_1 a2_2 v l2 W hv (by omega))
        go_upto_region 11 with fail
        obtain ⟨OL1, hOL1, h1⟩ := h1.letter
        go_cut [8, 9] (fun s0 s1 wx => ∃ (bx : Nat) (AR : Option Addr) (cR : Nat) (X2 : Value) (X1 : Value) (us1 : List Value) (X0 : Value), s0 = .pointer (some ⟨bx, 0, none⟩) ∧ s1 = .bool (sbOk a0_0 a0_1 l0 l1 a2_0 a2_1 a2_2 l2) ∧ us1.length = l1.length ∧ St w wx (.box bx [.int .i64 (sbP a0_0 a0_1 l0 l1 a2_0 a2_1 a2_2 l2), .int .i64 (sbR a0_0 a0_1 l0 l1 a2_0 a2_1 a2_2 l2), .int .i64 (sbC a0_0 a0_1 l0 l1 a2_0 a2_1 a2_2 l2), .slice AR (sbD a0_0 a0_1 l0 l1 a2_0 a2_1 a2_2 l2).length cR] :: .own (.slice AR (sbD a0_0 a0_1 l0 l1 a2_0 a2_1 a2_2 l2).length cR) (sbD a0_0 a0_1 l0 l1 a2_0 a2_1 a2_2 l2) :: .own X2 l2 :: matsIt X1 us1 l1 :: .own X0 l0 :: OL1))
        case first =>
          subst hOL1
          have g0 := h1.drew
          refine wp_region_held_drew (S := fun w' => (w'.cell? ⟨w.heap.size, 0, none⟩ = some (.int .i64 a0_0) ∧ w'.cell? ⟨w.heap.size, 1, none⟩ = some (.int .i64 a0_1) ∧ w'.cell? ⟨w.heap.size, 2, none⟩ = some (.slice A0 l0.length c0)) ∧ (w'.cell? ⟨w.heap.size + 1, 0, none⟩ = some (.int .i64 a2_0) ∧ w'.cell? ⟨w.heap.size + 1, 1, none⟩ = some (.int .i64 a2_1) ∧ w'.cell? ⟨w.heap.size + 1, 2, none⟩ = some (.int .i64 a2_2) ∧ w'.cell? ⟨w.heap.size + 1, 3, none⟩ = some (.slice A2 l2.length c2))) (by kernel_rfl) ⟨g0.box3 1 rfl, g0.box4 0 rfl⟩ (fun hHeld => ?_)
          clear h1
          generalize w3.drew = y0 at g0 hHeld ⊢
          refine anyH_take (v := ?_) 0 rfl (by kernel_rfl) (by kernel_rfl) (by kernel_rfl) (fun _ _ _ h => h) rfl ?_ hHeld ?_
          rotate_left
          · intro w' hSw
            go_simp
            try with_reducible rfl
          try simp only [Act.put, List.setIfInBounds_toArray, List.set_cons_zero, List.set_cons_succ]
          refine anyH_take (v := ?_) 2 rfl (by kernel_rfl) (by kernel_rfl) (by kernel_rfl) (fun _ _ _ h => h) rfl ?_ hHeld ?_
          rotate_left
          · intro w' hSw
            go_simp
            try with_reducible rfl
          try simp only [Act.put, List.setIfInBounds_toArray, List.set_cons_zero, List.set_cons_succ]
          refine anyH_take (v := ?_) 4 rfl (by kernel_rfl) (by kernel_rfl) (by kernel_rfl) (fun _ _ _ h => h) rfl ?_ hHeld ?_
          rotate_left
          · intro w' hSw
            go_simp
            try with_reducible rfl
          try simp only [Act.put, List.setIfInBounds_toArray, List.set_cons_zero, List.set_cons_succ]
          refine wpAnyH_ready (rs := [1, 10]) (by kernel_rfl) (by simp) ?_
          refine ready_cons rfl (fun K hK => ?_) (ready_cons rfl (fun K hK => ?_) AllReadyH.nil)
          · go_simp
            refine (ct1_0.out _ _ (g0.roInts 4 rfl)).mono ?_
            rintro (e : Ending) y1 ⟨u, rfl, ho, hb⟩
            obtain ⟨B2, d2, rfl, _, _, _⟩ := id ho.ints
            have g1 := g0.pushOwn hb ho
            clear hb ho
            show K _ _
            refine hK.out _ _ ?_ (fun hHeld => ?_)
            · exact ⟨g1.box3 2 rfl, g1.box4 1 rfl⟩
            clear hK K
            try simp only [Act.put, List.setIfInBounds_toArray, List.set_cons_zero, List.set_cons_succ]
            refine wpAnyH_ready (rs := [3, 10]) (by kernel_rfl) (by simp) ?_
            refine ready_cons rfl (fun K hK => ?_) (ready_cons rfl (fun K hK => ?_) AllReadyH.nil)
            · go_simp
              refine (ct1_1.out _ _ (g1.fact 4 rfl)).mono ?_
              rintro (e : Ending) y2 ⟨u, us3, rfl, hu3, hok, hnd, hb⟩
              obtain ⟨B3, d3, rfl, _, _, _⟩ := id (It.mats hok hu3)
              have g2 := g1.pushMats hb hok hnd
              clear hb hok hnd
              show K _ _
              refine hK.out _ _ ?_ (fun hHeld => ?_)
              · exact ⟨g2.box3 3 rfl, g2.box4 2 rfl⟩
              clear hK K
              try simp only [Act.put, List.setIfInBounds_toArray, List.set_cons_zero, List.set_cons_succ]
              refine wpAnyH_ready (rs := [5, 10]) (by kernel_rfl) (by simp) ?_
              refine ready_cons rfl (fun K hK => ?_) (ready_cons rfl (fun K hK => ?_) AllReadyH.nil)
              · go_simp
                refine (ct1_2.out _ _ (g2.roInts 4 rfl)).mono ?_
                rintro (e : Ending) y3 ⟨u, rfl, ho, hb⟩
                obtain ⟨B4, d4, rfl, _, _, _⟩ := id ho.ints
                have g3 := g2.pushOwn hb ho
                clear hb ho
                show K _ _
                refine hK.out _ _ ?_ (fun hHeld => ?_)
                · exact ⟨g3.box3 4 rfl, g3.box4 3 rfl⟩
                clear hK K
                try simp only [Act.put, List.setIfInBounds_toArray, List.set_cons_zero, List.set_cons_succ]
                refine wpAnyH_ready (rs := [6, 10]) (by kernel_rfl) (by simp) ?_
                refine ready_cons rfl (fun K hK => ?_) (ready_cons rfl (fun K hK => ?_) AllReadyH.nil)
                · go_simp
                  refine (SubmoduleByS_any a0_0 a0_1 a2_0 a2_1 a2_2 _ _ _ l0 l2 l1 _ (g3.ownInts 2 rfl) (g3.mats 1 rfl hu3) (g3.ownInts 0 rfl) hp hq hw).mono ?_
                  rintro (e : Ending) y4 ⟨u, rfl, ho, hb⟩
                  obtain ⟨B5, d5, rfl, _, _, _⟩ := id ho.ints
                  have g4 := g3.pushOwn hb ho
                  clear hb ho
                  show K _ _
                  refine hK.out _ _ ?_ (fun hHeld => ?_)
                  · exact ⟨g4.box3 5 rfl, g4.box4 4 rfl⟩
                  clear hK K
                  try simp only [Act.put, List.setIfInBounds_toArray, List.set_cons_zero, List.set_cons_succ]
                  refine anyH_take (v := ?_) 7 rfl (by kernel_rfl) (by kernel_rfl) (by kernel_rfl) (fun _ _ _ h => h) rfl ?_ hHeld ?_
                  rotate_left
                  · intro w' hSw
                    go_simp
                    try with_reducible rfl
                  try simp only [Act.put, List.setIfInBounds_toArray, List.set_cons_zero, List.set_cons_succ]
                  refine anyH_take (v := ?_) 8 rfl (by kernel_rfl) (by kernel_rfl) (by kernel_rfl) (fun _ _ _ h => h) rfl ?_ hHeld ?_
                  rotate_left
                  · intro w' hSw
                    go_simp
                    try with_reducible rfl
                  try simp only [Act.put, List.setIfInBounds_toArray, List.set_cons_zero, List.set_cons_succ]
                  refine anyH_take (v := ?_) 9 rfl (by kernel_rfl) (by kernel_rfl) (by kernel_rfl) (fun _ _ _ h => h) rfl ?_ hHeld ?_
                  rotate_left
                  · intro w' hSw
                    go_simp
                    try with_reducible rfl
                  try simp only [Act.put, List.setIfInBounds_toArray, List.set_cons_zero, List.set_cons_succ]
                  refine wpAnyH_ready (rs := [10]) (by kernel_rfl) (by simp) ?_
                  refine ready_cons rfl (fun K hK => ?_) AllReadyH.nil
                  · go_simp
                    have g5 := g4.box [.int .i64 0, .int .i64 0, .int .i64 0, .slice none 0 0] 32
                    refine hK.out _ _ ?_ (fun hHeld => ?_)
                    · exact ⟨g5.box3 6 rfl, g5.box4 5 rfl⟩
                    clear hK K
                    generalize World.alloc y4 (.cells #[.int .i64 0, .int .i64 0, .int .i64 0, .slice none 0 0] 32) = y5 at g5 hHeld ⊢
                    try simp only [Act.put, List.setIfInBounds_toArray, List.set_cons_zero, List.set_cons_succ]
                    obtain ⟨p0, p1, p2, p3⟩ := g5.box4 0 rfl
                    have f0 := g5.free 0 rfl 0
                    have f1 := g5.free 0 rfl 1
                    have f2 := g5.free 0 rfl 2
                    have f3 := g5.free 0 rfl 3
                    have q1 := ((((g5.setBox 0 rfl 0 (.int .i64 (sbP a0_0 a0_1 l0 l1 a2_0 a2_1 a2_2 l2))).setBox 0 rfl 1 (.int .i64 (sbR a0_0 a0_1 l0 l1 a2_0 a2_1 a2_2 l2))).setBox 0 rfl 2 (.int .i64 (sbC a0_0 a0_1 l0 l1 a2_0 a2_1 a2_2 l2))).setBox 0 rfl 3 (.slice B5 (sbD a0_0 a0_1 l0 l1 a2_0 a2_1 a2_2 l2).length d5))
                    refine wpAnyH_ready (rs := [11]) (by kernel_rfl) (by simp) ?_
                    refine ready_cons rfl (fun K hK => ?_) AllReadyH.nil
                    go_simp
                    refine hK.out _ _ ?_ (fun hHeld => ?_)
                    · exact ⟨q1.box3 6 rfl, q1.box4 5 rfl⟩
                    clear hK K
                    try simp only [Act.put, List.setIfInBounds_toArray, List.set_cons_zero, List.set_cons_succ]
                    refine anyH_take (v := ?_) 12 rfl (by kernel_rfl) (by kernel_rfl) (by kernel_rfl) (fun _ _ _ h => h) rfl ?_ hHeld ?_
                    rotate_left
                    · intro w' hSw
                      go_simp
                      try with_reducible rfl
                    try simp only [Act.put, List.setIfInBounds_toArray, List.set_cons_zero, List.set_cons_succ]
                    refine wpAnyH_done (by kernel_rfl) ?_ _
                    go_wp2_with fail
                    go_meet
                    exact ⟨_, _, _, _, _, _, _, rfl, rfl, hu3, q1⟩
                · go_simp
                  have g4 := g3.box [.int .i64 0, .int .i64 0, .int .i64 0, .slice none 0 0] 32
                  refine hK.out _ _ ?_ (fun hHeld => ?_)
                  · exact ⟨g4.box3 5 rfl, g4.box4 4 rfl⟩
                  clear hK K
                  generalize World.alloc y3 (.cells #[.int .i64 0, .int .i64 0, .int .i64 0, .slice none 0 0] 32) = y4 at g4 hHeld ⊢
                  try simp only [Act.put, List.setIfInBounds_toArray, List.set_cons_zero, List.set_cons_succ]
                  refine wpAnyH_ready (rs := [6]) (by kernel_rfl) (by simp) ?_
                  refine ready_cons rfl (fun K hK => ?_) AllReadyH.nil
                  · go_simp
                    refine (SubmoduleByS_any a0_0 a0_1 a2_0 a2_1 a2_2 _ _ _ l0 l2 l1 _ (g4.ownInts 3 rfl) (g4.mats 2 rfl hu3) (g4.ownInts 1 rfl) hp hq hw).mono ?_
                    rintro (e : Ending) y5 ⟨u, rfl, ho, hb⟩
                    obtain ⟨B5, d5, rfl, _, _, _⟩ := id ho.ints
                    have g5 := g4.pushOwn hb ho
                    clear hb ho
                    show K _ _
                    refine hK.out _ _ ?_ (fun hHeld => ?_)
                    · exact ⟨g5.box3 6 rfl, g5.box4 5 rfl⟩
                    clear hK K
                    try simp only [Act.put, List.setIfInBounds_toArray, List.set_cons_zero, List.set_cons_succ]
                    refine anyH_take (v := ?_) 7 rfl (by kernel_rfl) (by kernel_rfl) (by kernel_rfl) (fun _ _ _ h => h) rfl ?_ hHeld ?_
                    rotate_left
                    · intro w' hSw
                      go_simp
                      try with_reducible rfl
                    try simp only [Act.put, List.setIfInBounds_toArray, List.set_cons_zero, List.set_cons_succ]
                    refine anyH_take (v := ?_) 8 rfl (by kernel_rfl) (by kernel_rfl) (by kernel_rfl) (fun _ _ _ h => h) rfl ?_ hHeld ?_
                    rotate_left
                    · intro w' hSw
                      go_simp
                      try with_reducible rfl
                    try simp only [Act.put, List.setIfInBounds_toArray, List.set_cons_zero, List.set_cons_succ]
                    refine anyH_take (v := ?_) 9 rfl (by kernel_rfl) (by kernel_rfl) (by kernel_rfl) (fun _ _ _ h => h) rfl ?_ hHeld ?_
                    rotate_left
                    · intro w' hSw
                      go_simp
                      try with_reducible rfl
                    try simp only [Act.put, List.setIfInBounds_toArray, List.set_cons_zero, List.set_cons_succ]
                    obtain ⟨p0, p1, p2, p3⟩ := g5.box4 1 rfl
                    have f0 := g5.free 1 rfl 0
                    have f1 := g5.free 1 rfl 1
                    have f2 := g5.free 1 rfl 2
                    have f3 := g5.free 1 rfl 3
                    have q1 := ((((g5.setBox 1 rfl 0 (.int .i64 (sbP a0_0 a0_1 l0 l1 a2_0 a2_1 a2_2 l2))).setBox 1 rfl 1 (.int .i64 (sbR a0_0 a0_1 l0 l1 a2_0 a2_1 a2_2 l2))).setBox 1 rfl 2 (.int .i64 (sbC a0_0 a0_1 l0 l1 a2_0 a2_1 a2_2 l2))).setBox 1 rfl 3 (.slice B5 (sbD a0_0 a0_1 l0 l1 a2_0 a2_1 a2_2 l2).length d5))
                    refine wpAnyH_ready (rs := [11]) (by kernel_rfl) (by simp) ?_
                    refine ready_cons rfl (fun K hK => ?_) AllReadyH.nil
                    go_simp
                    refine hK.out _ _ ?_ (fun hHeld => ?_)
                    · exact ⟨q1.box3 6 rfl, q1.box4 5 rfl⟩
                    clear hK K
                    try simp only [Act.put, List.setIfInBounds_toArray, List.set_cons_zero, List.set_cons_succ]
                    refine anyH_take (v := ?_) 12 rfl (by kernel_rfl) (by kernel_rfl) (by kernel_rfl) (fun _ _ _ h => h) rfl ?_ hHeld ?_
                    rotate_left
                    · intro w' hSw
                      go_simp
                      try with_reducible rfl
                    try simp only [Act.put, List.setIfInBounds_toArray, List.set_cons_zero, List.set_cons_succ]
                    refine wpAnyH_done (by kernel_rfl) ?_ _
                    go_wp2_with fail
                    go_meet
                    exact ⟨_, _, _, _, _, _, _, rfl, rfl, hu3, q1.toFront 1 rfl⟩
              · go_simp
                have g3 := g2.box [.int .i64 0, .int .i64 0, .int .i64 0, .slice none 0 0] 32
                refine hK.out _ _ ?_ (fun hHeld => ?_)
                · exact ⟨g3.box3 4 rfl, g3.box4 3 rfl⟩
                clear hK K
                generalize World.alloc y2 (.cells #[.int .i64 0, .int .i64 0, .int .i64 0, .slice none 0 0] 32) = y3 at g3 hHeld ⊢
                try simp only [Act.put, List.setIfInBounds_toArray, List.set_cons_zero, List.set_cons_succ]
                refine wpAnyH_ready (rs := [5]) (by kernel_rfl) (by simp) ?_
                refine ready_cons rfl (fun K hK => ?_) AllReadyH.nil
                · go_simp
                  refine (ct1_2.out _ _ (g3.roInts 5 rfl)).mono ?_
                  rintro (e : Ending) y4 ⟨u, rfl, ho, hb⟩
                  obtain ⟨B4, d4, rfl, _, _, _⟩ := id ho.ints
                  have g4 := g3.pushOwn hb ho
                  clear hb ho
                  show K _ _
                  refine hK.out _ _ ?_ (fun hHeld => ?_)
                  · exact ⟨g4.box3 5 rfl, g4.box4 4 rfl⟩
                  clear hK K
                  try simp only [Act.put, List.setIfInBounds_toArray, List.set_cons_zero, List.set_cons_succ]
                  refine wpAnyH_ready (rs := [6]) (by kernel_rfl) (by simp) ?_
                  refine ready_cons rfl (fun K hK => ?_) AllReadyH.nil
                  · go_simp
                    refine (SubmoduleByS_any a0_0 a0_1 a2_0 a2_1 a2_2 _ _ _ l0 l2 l1 _ (g4.ownInts 3 rfl) (g4.mats 2 rfl hu3) (g4.ownInts 0 rfl) hp hq hw).mono ?_
                    rintro (e : Ending) y5 ⟨u, rfl, ho, hb⟩
                    obtain ⟨B5, d5, rfl, _, _, _⟩ := id ho.ints
                    have g5 := g4.pushOwn hb ho
                    clear hb ho
                    show K _ _
                    refine hK.out _ _ ?_ (fun hHeld => ?_)
                    · exact ⟨g5.box3 6 rfl, g5.box4 5 rfl⟩
                    clear hK K
                    try simp only [Act.put, List.setIfInBounds_toArray, List.set_cons_zero, List.set_cons_succ]
                    refine anyH_take (v := ?_) 7 rfl (by kernel_rfl) (by kernel_rfl) (by kernel_rfl) (fun _ _ _ h => h) rfl ?_ hHeld ?_
                    rotate_left
                    · intro w' hSw
                      go_simp
                      try with_reducible rfl
                    try simp only [Act.put, List.setIfInBounds_toArray, List.set_cons_zero, List.set_cons_succ]
                    refine anyH_take (v := ?_) 8 rfl (by kernel_rfl) (by kernel_rfl) (by kernel_rfl) (fun _ _ _ h => h) rfl ?_ hHeld ?_
                    rotate_left
                    · intro w' hSw
                      go_simp
                      try with_reducible rfl
                    try simp only [Act.put, List.setIfInBounds_toArray, List.set_cons_zero, List.set_cons_succ]
                    refine anyH_take (v := ?_) 9 rfl (by kernel_rfl) (by kernel_rfl) (by kernel_rfl) (fun _ _ _ h => h) rfl ?_ hHeld ?_
                    rotate_left
                    · intro w' hSw
                      go_simp
                      try with_reducible rfl
                    try simp only [Act.put, List.setIfInBounds_toArray, List.set_cons_zero, List.set_cons_succ]
                    obtain ⟨p0, p1, p2, p3⟩ := g5.box4 2 rfl
                    have f0 := g5.free 2 rfl 0
                    have f1 := g5.free 2 rfl 1
                    have f2 := g5.free 2 rfl 2
                    have f3 := g5.free 2 rfl 3
                    have q1 := ((((g5.setBox 2 rfl 0 (.int .i64 (sbP a0_0 a0_1 l0 l1 a2_0 a2_1 a2_2 l2))).setBox 2 rfl 1 (.int .i64 (sbR a0_0 a0_1 l0 l1 a2_0 a2_1 a2_2 l2))).setBox 2 rfl 2 (.int .i64 (sbC a0_0 a0_1 l0 l1 a2_0 a2_1 a2_2 l2))).setBox 2 rfl 3 (.slice B5 (sbD a0_0 a0_1 l0 l1 a2_0 a2_1 a2_2 l2).length d5))
                    refine wpAnyH_ready (rs := [11]) (by kernel_rfl) (by simp) ?_
                    refine ready_cons rfl (fun K hK => ?_) AllReadyH.nil
                    go_simp
                    refine hK.out _ _ ?_ (fun hHeld => ?_)
                    · exact ⟨q1.box3 6 rfl, q1.box4 5 rfl⟩
                    clear hK K
                    try simp only [Act.put, List.setIfInBounds_toArray, List.set_cons_zero, List.set_cons_succ]
                    refine anyH_take (v := ?_) 12 rfl (by kernel_rfl) (by kernel_rfl) (by kernel_rfl) (fun _ _ _ h => h) rfl ?_ hHeld ?_
                    rotate_left
                    · intro w' hSw
                      go_simp
                      try with_reducible rfl
                    try simp only [Act.put, List.setIfInBounds_toArray, List.set_cons_zero, List.set_cons_succ]
                    refine wpAnyH_done (by kernel_rfl) ?_ _
                    go_wp2_with fail
                    go_meet
                    exact ⟨_, _, _, _, _, _, _, rfl, rfl, hu3, q1.toFront 2 rfl⟩
            · go_simp
              have g2 := g1.box [.int .i64 0, .int .i64 0, .int .i64 0, .slice none 0 0] 32
              refine hK.out _ _ ?_ (fun hHeld => ?_)
              · exact ⟨g2.box3 3 rfl, g2.box4 2 rfl⟩
              clear hK K
              generalize World.alloc y1 (.cells #[.int .i64 0, .int .i64 0, .int .i64 0, .slice none 0 0] 32) = y2 at g2 hHeld ⊢
              try simp only [Act.put, List.setIfInBounds_toArray, List.set_cons_zero, List.set_cons_succ]
              refine wpAnyH_ready (rs := [3]) (by kernel_rfl) (by simp) ?_
              refine ready_cons rfl (fun K hK => ?_) AllReadyH.nil
              · go_simp
                refine (ct1_1.out _ _ (g2.fact 5 rfl)).mono ?_
                rintro (e : Ending) y3 ⟨u, us3, rfl, hu3, hok, hnd, hb⟩
                obtain ⟨B3, d3, rfl, _, _, _⟩ := id (It.mats hok hu3)
                have g3 := g2.pushMats hb hok hnd
                clear hb hok hnd
                show K _ _
                refine hK.out _ _ ?_ (fun hHeld => ?_)
                · exact ⟨g3.box3 4 rfl, g3.box4 3 rfl⟩
                clear hK K
                try simp only [Act.put, List.setIfInBounds_toArray, List.set_cons_zero, List.set_cons_succ]
                refine wpAnyH_ready (rs := [5]) (by kernel_rfl) (by simp) ?_
                refine ready_cons rfl (fun K hK => ?_) AllReadyH.nil
                · go_simp
                  refine (ct1_2.out _ _ (g3.roInts 5 rfl)).mono ?_
                  rintro (e : Ending) y4 ⟨u, rfl, ho, hb⟩
                  obtain ⟨B4, d4, rfl, _, _, _⟩ := id ho.ints
                  have g4 := g3.pushOwn hb ho
                  clear hb ho
                  show K _ _
                  refine hK.out _ _ ?_ (fun hHeld => ?_)
                  · exact ⟨g4.box3 5 rfl, g4.box4 4 rfl⟩
                  clear hK K
                  try simp only [Act.put, List.setIfInBounds_toArray, List.set_cons_zero, List.set_cons_succ]
                  refine wpAnyH_ready (rs := [6]) (by kernel_rfl) (by simp) ?_
                  refine ready_cons rfl (fun K hK => ?_) AllReadyH.nil
                  · go_simp
                    refine (SubmoduleByS_any a0_0 a0_1 a2_0 a2_1 a2_2 _ _ _ l0 l2 l1 _ (g4.ownInts 3 rfl) (g4.mats 1 rfl hu3) (g4.ownInts 0 rfl) hp hq hw).mono ?_
                    rintro (e : Ending) y5 ⟨u, rfl, ho, hb⟩
                    obtain ⟨B5, d5, rfl, _, _, _⟩ := id ho.ints
                    have g5 := g4.pushOwn hb ho
                    clear hb ho
                    show K _ _
                    refine hK.out _ _ ?_ (fun hHeld => ?_)
                    · exact ⟨g5.box3 6 rfl, g5.box4 5 rfl⟩
                    clear hK K
                    try simp only [Act.put, List.setIfInBounds_toArray, List.set_cons_zero, List.set_cons_succ]
                    refine anyH_take (v := ?_) 7 rfl (by kernel_rfl) (by kernel_rfl) (by kernel_rfl) (fun _ _ _ h => h) rfl ?_ hHeld ?_
                    rotate_left
                    · intro w' hSw
                      go_simp
                      try with_reducible rfl
                    try simp only [Act.put, List.setIfInBounds_toArray, List.set_cons_zero, List.set_cons_succ]
                    refine anyH_take (v := ?_) 8 rfl (by kernel_rfl) (by kernel_rfl) (by kernel_rfl) (fun _ _ _ h => h) rfl ?_ hHeld ?_
                    rotate_left
                    · intro w' hSw
                      go_simp
                      try with_reducible rfl
                    try simp only [Act.put, List.setIfInBounds_toArray, List.set_cons_zero, List.set_cons_succ]
                    refine anyH_take (v := ?_) 9 rfl (by kernel_rfl) (by kernel_rfl) (by kernel_rfl) (fun _ _ _ h => h) rfl ?_ hHeld ?_
                    rotate_left
                    · intro w' hSw
                      go_simp
                      try with_reducible rfl
                    try simp only [Act.put, List.setIfInBounds_toArray, List.set_cons_zero, List.set_cons_succ]
                    obtain ⟨p0, p1, p2, p3⟩ := g5.box4 3 rfl
                    have f0 := g5.free 3 rfl 0
                    have f1 := g5.free 3 rfl 1
                    have f2 := g5.free 3 rfl 2
                    have f3 := g5.free 3 rfl 3
                    have q1 := ((((g5.setBox 3 rfl 0 (.int .i64 (sbP a0_0 a0_1 l0 l1 a2_0 a2_1 a2_2 l2))).setBox 3 rfl 1 (.int .i64 (sbR a0_0 a0_1 l0 l1 a2_0 a2_1 a2_2 l2))).setBox 3 rfl 2 (.int .i64 (sbC a0_0 a0_1 l0 l1 a2_0 a2_1 a2_2 l2))).setBox 3 rfl 3 (.slice B5 (sbD a0_0 a0_1 l0 l1 a2_0 a2_1 a2_2 l2).length d5))
                    refine wpAnyH_ready (rs := [11]) (by kernel_rfl) (by simp) ?_
                    refine ready_cons rfl (fun K hK => ?_) AllReadyH.nil
                    go_simp
                    refine hK.out _ _ ?_ (fun hHeld => ?_)
                    · exact ⟨q1.box3 6 rfl, q1.box4 5 rfl⟩
                    clear hK K
                    try simp only [Act.put, List.setIfInBounds_toArray, List.set_cons_zero, List.set_cons_succ]
                    refine anyH_take (v := ?_) 12 rfl (by kernel_rfl) (by kernel_rfl) (by kernel_rfl) (fun _ _ _ h => h) rfl ?_ hHeld ?_
                    rotate_left
                    · intro w' hSw
                      go_simp
                      try with_reducible rfl
                    try simp only [Act.put, List.setIfInBounds_toArray, List.set_cons_zero, List.set_cons_succ]
                    refine wpAnyH_done (by kernel_rfl) ?_ _
                    go_wp2_with fail
                    go_meet
                    exact ⟨_, _, _, _, _, _, _, rfl, rfl, hu3, q1.toFront 3 rfl⟩
          · go_simp
            have g1 := g0.box [.int .i64 0, .int .i64 0, .int .i64 0, .slice none 0 0] 32
            refine hK.out _ _ ?_ (fun hHeld => ?_)
            · exact ⟨g1.box3 2 rfl, g1.box4 1 rfl⟩
            clear hK K
            generalize World.alloc y0 (.cells #[.int .i64 0, .int .i64 0, .int .i64 0, .slice none 0 0] 32) = y1 at g1 hHeld ⊢
            try simp only [Act.put, List.setIfInBounds_toArray, List.set_cons_zero, List.set_cons_succ]
            refine wpAnyH_ready (rs := [1]) (by kernel_rfl) (by simp) ?_
            refine ready_cons rfl (fun K hK => ?_) AllReadyH.nil
            · go_simp
              refine (ct1_0.out _ _ (g1.roInts 5 rfl)).mono ?_
              rintro (e : Ending) y2 ⟨u, rfl, ho, hb⟩
              obtain ⟨B2, d2, rfl, _, _, _⟩ := id ho.ints
              have g2 := g1.pushOwn hb ho
              clear hb ho
              show K _ _
              refine hK.out _ _ ?_ (fun hHeld => ?_)
              · exact ⟨g2.box3 3 rfl, g2.box4 2 rfl⟩
              clear hK K
              try simp only [Act.put, List.setIfInBounds_toArray, List.set_cons_zero, List.set_cons_succ]
              refine wpAnyH_ready (rs := [3]) (by kernel_rfl) (by simp) ?_
              refine ready_cons rfl (fun K hK => ?_) AllReadyH.nil
              · go_simp
                refine (ct1_1.out _ _ (g2.fact 5 rfl)).mono ?_
                rintro (e : Ending) y3 ⟨u, us3, rfl, hu3, hok, hnd, hb⟩
                obtain ⟨B3, d3, rfl, _, _, _⟩ := id (It.mats hok hu3)
                have g3 := g2.pushMats hb hok hnd
                clear hb hok hnd
                show K _ _
                refine hK.out _ _ ?_ (fun hHeld => ?_)
                · exact ⟨g3.box3 4 rfl, g3.box4 3 rfl⟩
                clear hK K
                try simp only [Act.put, List.setIfInBounds_toArray, List.set_cons_zero, List.set_cons_succ]
                refine wpAnyH_ready (rs := [5]) (by kernel_rfl) (by simp) ?_
                refine ready_cons rfl (fun K hK => ?_) AllReadyH.nil
                · go_simp
                  refine (ct1_2.out _ _ (g3.roInts 5 rfl)).mono ?_
                  rintro (e : Ending) y4 ⟨u, rfl, ho, hb⟩
                  obtain ⟨B4, d4, rfl, _, _, _⟩ := id ho.ints
                  have g4 := g3.pushOwn hb ho
                  clear hb ho
                  show K _ _
                  refine hK.out _ _ ?_ (fun hHeld => ?_)
                  · exact ⟨g4.box3 5 rfl, g4.box4 4 rfl⟩
                  clear hK K
                  try simp only [Act.put, List.setIfInBounds_toArray, List.set_cons_zero, List.set_cons_succ]
                  refine wpAnyH_ready (rs := [6]) (by kernel_rfl) (by simp) ?_
                  refine ready_cons rfl (fun K hK => ?_) AllReadyH.nil
                  · go_simp
                    refine (SubmoduleByS_any a0_0 a0_1 a2_0 a2_1 a2_2 _ _ _ l0 l2 l1 _ (g4.ownInts 2 rfl) (g4.mats 1 rfl hu3) (g4.ownInts 0 rfl) hp hq hw).mono ?_
                    rintro (e : Ending) y5 ⟨u, rfl, ho, hb⟩
                    obtain ⟨B5, d5, rfl, _, _, _⟩ := id ho.ints
                    have g5 := g4.pushOwn hb ho
                    clear hb ho
                    show K _ _
                    refine hK.out _ _ ?_ (fun hHeld => ?_)
                    · exact ⟨g5.box3 6 rfl, g5.box4 5 rfl⟩
                    clear hK K
                    try simp only [Act.put, List.setIfInBounds_toArray, List.set_cons_zero, List.set_cons_succ]
                    refine anyH_take (v := ?_) 7 rfl (by kernel_rfl) (by kernel_rfl) (by kernel_rfl) (fun _ _ _ h => h) rfl ?_ hHeld ?_
                    rotate_left
                    · intro w' hSw
                      go_simp
                      try with_reducible rfl
                    try simp only [Act.put, List.setIfInBounds_toArray, List.set_cons_zero, List.set_cons_succ]
                    refine anyH_take (v := ?_) 8 rfl (by kernel_rfl) (by kernel_rfl) (by kernel_rfl) (fun _ _ _ h => h) rfl ?_ hHeld ?_
                    rotate_left
                    · intro w' hSw
                      go_simp
                      try with_reducible rfl
                    try simp only [Act.put, List.setIfInBounds_toArray, List.set_cons_zero, List.set_cons_succ]
                    refine anyH_take (v := ?_) 9 rfl (by kernel_rfl) (by kernel_rfl) (by kernel_rfl) (fun _ _ _ h => h) rfl ?_ hHeld ?_
                    rotate_left
                    · intro w' hSw
                      go_simp
                      try with_reducible rfl
                    try simp only [Act.put, List.setIfInBounds_toArray, List.set_cons_zero, List.set_cons_succ]
                    obtain ⟨p0, p1, p2, p3⟩ := g5.box4 4 rfl
                    have f0 := g5.free 4 rfl 0
                    have f1 := g5.free 4 rfl 1
                    have f2 := g5.free 4 rfl 2
                    have f3 := g5.free 4 rfl 3
                    have q1 := ((((g5.setBox 4 rfl 0 (.int .i64 (sbP a0_0 a0_1 l0 l1 a2_0 a2_1 a2_2 l2))).setBox 4 rfl 1 (.int .i64 (sbR a0_0 a0_1 l0 l1 a2_0 a2_1 a2_2 l2))).setBox 4 rfl 2 (.int .i64 (sbC a0_0 a0_1 l0 l1 a2_0 a2_1 a2_2 l2))).setBox 4 rfl 3 (.slice B5 (sbD a0_0 a0_1 l0 l1 a2_0 a2_1 a2_2 l2).length d5))
                    refine wpAnyH_ready (rs := [11]) (by kernel_rfl) (by simp) ?_
                    refine ready_cons rfl (fun K hK => ?_) AllReadyH.nil
                    go_simp
                    refine hK.out _ _ ?_ (fun hHeld => ?_)
                    · exact ⟨q1.box3 6 rfl, q1.box4 5 rfl⟩
                    clear hK K
                    try simp only [Act.put, List.setIfInBounds_toArray, List.set_cons_zero, List.set_cons_succ]
                    refine anyH_take (v := ?_) 12 rfl (by kernel_rfl) (by kernel_rfl) (by kernel_rfl) (fun _ _ _ h => h) rfl ?_ hHeld ?_
                    rotate_left
                    · intro w' hSw
                      go_simp
                      try with_reducible rfl
                    try simp only [Act.put, List.setIfInBounds_toArray, List.set_cons_zero, List.set_cons_succ]
                    refine wpAnyH_done (by kernel_rfl) ?_ _
                    go_wp2_with fail
                    go_meet
                    exact ⟨_, _, _, _, _, _, _, rfl, rfl, hu3, q1.toFront 4 rfl⟩
        case rest =>
        clear h1 ct1_0 ct1_1 ct1_2
        obtain ⟨bx1, B5, d5, X4, X3, us3, X2, rfl, rfl, hu3, h1⟩ := hcut
        subst hOL1
        obtain ⟨zb6_0, zb6_1, zb6_2⟩ := h1.box3 6 rfl
        go_wp2_with fail
        refine (toAlgebra_any a0_0 a0_1 _ l0 _ (h1.roInts 9 rfl) (by omega)).mono ?_
        rintro (e : Ending) w5 ⟨u, rfl, ho, hb1⟩
        obtain ⟨B6, d6, rfl, _, _, _⟩ := id ho.ints
        replace h1 := h1.pushOwn hb1 ho
        clear ho hb1
        clear zb6_0 zb6_1 zb6_2
        replace h1 := h1.box [.int .i64 a0_0, .int .i64 a0_1, .slice B6 l0.length d6] 30
        go_wp2_with fail
        refine (toMatrixS_any _ l1 _ (h1.fact 10 rfl) (by omega)).mono ?_
        rintro (e : Ending) w6 ⟨u, us7, rfl, hu7, hok, hnd, hb1⟩
        obtain ⟨B7, d7, rfl, _, _, _⟩ := id (It.mats hok hu7)
        replace h1 := h1.pushMats hb1 hok hnd
        clear hok hnd hb1
        obtain ⟨zb8_0, zb8_1, zb8_2, zb8_3⟩ := h1.box4 8 rfl
        go_wp2_with fail
        refine (toMatrix_any a2_0 a2_1 a2_2 _ l2 _ (h1.roInts 10 rfl) (by omega)).mono ?_
        rintro (e : Ending) w7 ⟨u, rfl, ho, hb1⟩
        obtain ⟨B8, d8, rfl, _, _, _⟩ := id ho.ints
        replace h1 := h1.pushOwn hb1 ho
        clear ho hb1
        clear zb8_0 zb8_1 zb8_2 zb8_3
        replace h1 := h1.box [.int .i64 a2_0, .int .i64 a2_1, .int .i64 a2_2, .slice B8 l2.length d8] 32
        obtain ⟨zb3_0, zb3_1, zb3_2⟩ := h1.box3 3 rfl
        obtain ⟨zb0_0, zb0_1, zb0_2, zb0_3⟩ := h1.box4 0 rfl
        go_wp2_with fail
        refine (SubmoduleByI_any a0_0 a0_1 a2_0 a2_1 a2_2 _ _ _ l0 l2 l1 _ (h1.ownInts 4 rfl) (h1.mats 2 rfl hu7) (h1.ownInts 1 rfl) hp hq hw).mono ?_
        rintro (e : Ending) w8 ⟨u, rfl, ho, hb1⟩
        obtain ⟨B9, d9, rfl, _, _, _⟩ := id ho.ints
        replace h1 := h1.pushOwn hb1 ho
        clear ho hb1
        clear zb3_0 zb3_1 zb3_2 zb0_0 zb0_1 zb0_2 zb0_3
        replace h1 := h1.box [.int .i64 (sbP a0_0 a0_1 l0 l1 a2_0 a2_1 a2_2 l2), .int .i64 (sbR a0_0 a0_1 l0 l1 a2_0 a2_1 a2_2 l2), .int .i64 (sbC a0_0 a0_1 l0 l1 a2_0 a2_1 a2_2 l2), .slice B9 (sbD a0_0 a0_1 l0 l1 a2_0 a2_1 a2_2 l2).length d9] 32
        obtain ⟨zb0_0, zb0_1, zb0_2, zb0_3⟩ := h1.box4 0 rfl
        obtain ⟨zb7_0, zb7_1, zb7_2, zb7_3⟩ := h1.box4 7 rfl
        go_wp2_with fail
        refine (eqMatrix_same (sbP a0_0 a0_1 l0 l1 a2_0 a2_1 a2_2 l2) (sbR a0_0 a0_1 l0 l1 a2_0 a2_1 a2_2 l2) (sbC a0_0 a0_1 l0 l1 a2_0 a2_1 a2_2 l2) _ _ (sbD a0_0 a0_1 l0 l1 a2_0 a2_1 a2_2 l2) _ (h1.ownInts 1 rfl) (h1.ownInts 8 rfl)).mono ?_
        rintro (e : Ending) w9 ⟨rfl, hb1⟩
        replace h1 := h1.on hb1
        clear hb1
        clear zb0_0 zb0_1 zb0_2 zb0_3 zb7_0 zb7_1 zb7_2 zb7_3
        go_wp2_with fail
        obtain ⟨y0, y1, y2⟩ := h1.box3 5 rfl
        obtain ⟨x0, x1, x2⟩ := h1.box3 13 rfl
        go_region_held3 (fun w' => w'.cell? ⟨w5.heap.size, 0, none⟩ = some (.int .i64 a0_0) ∧ w'.cell? ⟨w5.heap.size, 1, none⟩ = some (.int .i64 a0_1) ∧ w'.cell? ⟨w5.heap.size, 2, none⟩ = some (.slice B6 l0.length d6) ∧ w'.cell? ⟨w.heap.size, 0, none⟩ = some (.int .i64 a0_0) ∧ w'.cell? ⟨w.heap.size, 1, none⟩ = some (.int .i64 a0_1) ∧ w'.cell? ⟨w.heap.size, 2, none⟩ = some (.slice A0 l0.length c0))
          (first | exact ⟨y0, y1, y2, x0, x1, x2⟩ | exact ⟨y0', y1', y2', x0', x1', x2'⟩ | exact ⟨y0'', y1'', y2'', x0'', x1'', x2''⟩)
          (first
            | (go_at_call 18; refine (toAlgebra_any a0_0 a0_1 _ l0 _ ?_ (by omega)).mono ?_; exact h1.drew.roInts 16 rfl; rintro (e : Ending) w10 ⟨u, rfl, ho, hb1⟩; obtain ⟨B10, d10, rfl, _, _, _⟩ := id ho.ints; have h2 := h1.drew.pushOwn hb1 ho; obtain ⟨y0', y1', y2'⟩ := h2.box3 6 rfl; obtain ⟨x0', x1', x2'⟩ := h2.box3 14 rfl)
            | (go_at_call 21; refine (eqAlgebra_same a0_0 a0_1 _ _ l0 _ (h2.ownInts 7 rfl) (h2.ownInts 0 rfl)).mono ?_; rintro (e : Ending) w11 ⟨rfl, hb2⟩; have h3 := h2.on hb2; obtain ⟨y0'', y1'', y2''⟩ := h3.box3 6 rfl; obtain ⟨x0'', x1'', x2''⟩ := h3.box3 14 rfl))
        clear y0 y1 y2 x0 x1 x2 y0' y1' y2' x0' x1' x2' y0'' y1'' y2'' x0'' x1'' x2'' h2 h1 hb1 hb2 ho
        have h1 := h3.drop 1
        clear h3
        go_wp2_with fail
        refine (toMatrixS_any _ l1 _ (h1.fact 15 rfl) (by omega)).mono ?_
        rintro (e : Ending) w12 ⟨u, us11, rfl, hu11, hok, hnd, hb1⟩
        obtain ⟨B11, d11, rfl, _, _, _⟩ := id (It.mats hok hu11)
        replace h1 := h1.pushMats hb1 hok hnd
        clear hok hnd hb1
        go_wp2_with fail
        refine (eqMatrixS_same _ _ l1 _ (h1.mats 5 rfl hu7) (h1.mats 0 rfl hu11)).mono ?_
        rintro (e : Ending) w13 ⟨rfl, hb1⟩
        replace h1 := h1.on hb1
        clear hb1
        replace h1 := h1.drop 1
        go_wp2_with fail
        obtain ⟨y0, y1, y2, y3⟩ := h1.box4 2 rfl
        obtain ⟨x0, x1, x2, x3⟩ := h1.box4 12 rfl
        go_region_held3 (fun w' => w'.cell? ⟨w7.heap.size, 0, none⟩ = some (.int .i64 a2_0) ∧ w'.cell? ⟨w7.heap.size, 1, none⟩ = some (.int .i64 a2_1) ∧ w'.cell? ⟨w7.heap.size, 2, none⟩ = some (.int .i64 a2_2) ∧ w'.cell? ⟨w7.heap.size, 3, none⟩ = some (.slice B8 l2.length d8) ∧ w'.cell? ⟨w.heap.size + 1, 0, none⟩ = some (.int .i64 a2_0) ∧ w'.cell? ⟨w.heap.size + 1, 1, none⟩ = some (.int .i64 a2_1) ∧ w'.cell? ⟨w.heap.size + 1, 2, none⟩ = some (.int .i64 a2_2) ∧ w'.cell? ⟨w.heap.size + 1, 3, none⟩ = some (.slice A2 l2.length c2))
          (first | exact ⟨y0, y1, y2, y3, x0, x1, x2, x3⟩ | exact ⟨y0', y1', y2', y3', x0', x1', x2', x3'⟩ | exact ⟨y0'', y1'', y2'', y3'', x0'', x1'', x2'', x3''⟩)
          (first
            | (go_at_call 19; refine (toMatrix_any a2_0 a2_1 a2_2 _ l2 _ ?_ (by omega)).mono ?_; exact h1.drew.roInts 14 rfl; rintro (e : Ending) w14 ⟨u, rfl, ho, hb1⟩; obtain ⟨B12, d12, rfl, _, _, _⟩ := id ho.ints; have h2 := h1.drew.pushOwn hb1 ho; obtain ⟨y0', y1', y2', y3'⟩ := h2.box4 3 rfl; obtain ⟨x0', x1', x2', x3'⟩ := h2.box4 13 rfl)
            | (go_at_call 22; refine (eqMatrix_same a2_0 a2_1 a2_2 _ _ l2 _ (h2.ownInts 4 rfl) (h2.ownInts 0 rfl)).mono ?_; rintro (e : Ending) w15 ⟨rfl, hb2⟩; have h3 := h2.on hb2; obtain ⟨y0'', y1'', y2'', y3''⟩ := h3.box4 3 rfl; obtain ⟨x0'', x1'', x2'', x3''⟩ := h3.box4 13 rfl))
        clear y0 y1 y2 y3 x0 x1 x2 x3 y0' y1' y2' y3' x0' x1' x2' x3' y0'' y1'' y2'' y3'' x0'' x1'' x2'' x3'' h2 h1 hb1 hb2 ho
        have h1 := h3.drop 1
        clear h3
        obtain ⟨zb5_0, zb5_1, zb5_2⟩ := h1.box3 5 rfl
        go_wp2_with fail
        refine (markAlgebra_any h1 6 rfl a0_0 a0_1 (1) (by omega) (by omega) (by omega)).mono ?_
        rintro (e : Ending) w16 ⟨rfl, h2⟩
        replace h1 := h2
        clear h2
        clear zb5_0 zb5_1 zb5_2
        go_wp2_with fail
        refine (markMatrixS_any h1 4 rfl hu7 (1 + (((l0).length : Nat) : Int)) (by omega) (by omega) (by omega)).mono ?_
        rintro (e : Ending) w17 ⟨rfl, h2⟩
        replace h1 := h2
        clear h2
        obtain ⟨zb2_0, zb2_1, zb2_2, zb2_3⟩ := h1.box4 2 rfl
        go_wp2_with fail
        refine (markMatrix_any h1 3 rfl a2_0 a2_1 a2_2 (1 + (((l0).length : Nat) : Int) + ((markMsLen l1 : Nat) : Int)) (by omega) (by omega) (by omega)).mono ?_
        rintro (e : Ending) w18 ⟨rfl, h2⟩
        replace h1 := h2
        clear h2
        clear zb2_0 zb2_1 zb2_2 zb2_3
        obtain ⟨zb0_0, zb0_1, zb0_2, zb0_3⟩ := h1.box4 0 rfl
        obtain ⟨zb7_0, zb7_1, zb7_2, zb7_3⟩ := h1.box4 7 rfl
        go_wp2_with fail
        refine (eqMatrix_same (sbP a0_0 a0_1 l0 l1 a2_0 a2_1 a2_2 l2) (sbR a0_0 a0_1 l0 l1 a2_0 a2_1 a2_2 l2) (sbC a0_0 a0_1 l0 l1 a2_0 a2_1 a2_2 l2) _ _ (sbD a0_0 a0_1 l0 l1 a2_0 a2_1 a2_2 l2) _ (h1.ownInts 1 rfl) (h1.ownInts 8 rfl)).mono ?_
        rintro (e : Ending) w19 ⟨rfl, hb1⟩
        replace h1 := h1.on hb1
        clear hb1
        clear zb0_0 zb0_1 zb0_2 zb0_3 zb7_0 zb7_1 zb7_2 zb7_3
        obtain ⟨zb0_0, zb0_1, zb0_2, zb0_3⟩ := h1.box4 0 rfl
        go_wp2_with fail
        refine (markMatrix_any h1 1 rfl (sbP a0_0 a0_1 l0 l1 a2_0 a2_1 a2_2 l2) (sbR a0_0 a0_1 l0 l1 a2_0 a2_1 a2_2 l2) (sbC a0_0 a0_1 l0 l1 a2_0 a2_1 a2_2 l2) (1) (by omega) (by omega) (by omega)).mono ?_
        rintro (e : Ending) w20 ⟨rfl, h2⟩
        replace h1 := h2
        clear h2
        clear zb0_0 zb0_1 zb0_2 zb0_3
        obtain ⟨zb0_0, zb0_1, zb0_2, zb0_3⟩ := h1.box4 0 rfl
        go_wp2_with fail
        refine (heldMatrix_any (sbP a0_0 a0_1 l0 l1 a2_0 a2_1 a2_2 l2) (sbR a0_0 a0_1 l0 l1 a2_0 a2_1 a2_2 l2) (sbC a0_0 a0_1 l0 l1 a2_0 a2_1 a2_2 l2) (1) _ _ _ (h1.ownInts 1 rfl) (by omega) (by omega) (by omega)).mono ?_
        rintro (e : Ending) w21 ⟨rfl, hb1⟩
        replace h1 := h1.on hb1
        clear hb1
        clear zb0_0 zb0_1 zb0_2 zb0_3
        have ct13_0 := Lib.hid (fun (W : World) (v : Value) (hv : Ints W v l0) => toAlgebra_any a0_0 a0_1 v l0 W hv (by omega))
        have ct13_1 := Lib.hid (fun (W : World) (v : Value) (hv : MatsR W v l1) => toMatrixS_any v l1 W hv (by omega))
        have ct13_2 := Lib.hid (fun (W : World) (v : Value) (hv : Ints W v l2) => toMatrix_any a2_0 a2_1 a2_2 v l2 W hv (by omega))
        go_upto_region 38 with fail
        obtain ⟨OL13, hOL13, h1⟩ := h1.letter
        go_cut [18, 19] (fun s0 s1 wx => ∃ (bx : Nat) (AR : Option Addr) (cR : Nat) (X2 : Value) (X1 : Value) (us1 : List Value) (X0 : Value), s0 = .pointer (some ⟨bx, 0, none⟩) ∧ s1 = .bool (sbOk a0_0 a0_1 l0 l1 a2_0 a2_1 a2_2 l2) ∧ us1.length = l1.length ∧ St w wx (.box bx [.int .i64 (sbP a0_0 a0_1 l0 l1 a2_0 a2_1 a2_2 l2), .int .i64 (sbR a0_0 a0_1 l0 l1 a2_0 a2_1 a2_2 l2), .int .i64 (sbC a0_0 a0_1 l0 l1 a2_0 a2_1 a2_2 l2), .slice AR (sbD a0_0 a0_1 l0 l1 a2_0 a2_1 a2_2 l2).length cR] :: .own (.slice AR (sbD a0_0 a0_1 l0 l1 a2_0 a2_1 a2_2 l2).length cR) (sbD a0_0 a0_1 l0 l1 a2_0 a2_1 a2_2 l2) :: .own X2 l2 :: matsIt X1 us1 l1 :: .own X0 l0 :: OL13))
        case first =>
          subst hOL13
          have g0 := h1.drew
          refine wp_region_held_drew (S := fun w' => (w'.cell? ⟨w.heap.size, 0, none⟩ = some (.int .i64 a0_0) ∧ w'.cell? ⟨w.heap.size, 1, none⟩ = some (.int .i64 a0_1) ∧ w'.cell? ⟨w.heap.size, 2, none⟩ = some (.slice A0 l0.length c0)) ∧ (w'.cell? ⟨w.heap.size + 1, 0, none⟩ = some (.int .i64 a2_0) ∧ w'.cell? ⟨w.heap.size + 1, 1, none⟩ = some (.int .i64 a2_1) ∧ w'.cell? ⟨w.heap.size + 1, 2, none⟩ = some (.int .i64 a2_2) ∧ w'.cell? ⟨w.heap.size + 1, 3, none⟩ = some (.slice A2 l2.length c2))) (by kernel_rfl) ⟨g0.box3 13 rfl, g0.box4 12 rfl⟩ (fun hHeld => ?_)
          clear h1
          generalize w21.drew = y0 at g0 hHeld ⊢
          refine anyH_take (v := ?_) 0 rfl (by kernel_rfl) (by kernel_rfl) (by kernel_rfl) (fun _ _ _ h => h) rfl ?_ hHeld ?_
          rotate_left
          · intro w' hSw
            go_simp
            try with_reducible rfl
          try simp only [Act.put, List.setIfInBounds_toArray, List.set_cons_zero, List.set_cons_succ]
          refine anyH_take (v := ?_) 2 rfl (by kernel_rfl) (by kernel_rfl) (by kernel_rfl) (fun _ _ _ h => h) rfl ?_ hHeld ?_
          rotate_left
          · intro w' hSw
            go_simp
            try with_reducible rfl
          try simp only [Act.put, List.setIfInBounds_toArray, List.set_cons_zero, List.set_cons_succ]
          refine anyH_take (v := ?_) 4 rfl (by kernel_rfl) (by kernel_rfl) (by kernel_rfl) (fun _ _ _ h => h) rfl ?_ hHeld ?_
          rotate_left
          · intro w' hSw
            go_simp
            try with_reducible rfl
          try simp only [Act.put, List.setIfInBounds_toArray, List.set_cons_zero, List.set_cons_succ]
          refine wpAnyH_ready (rs := [1, 10]) (by kernel_rfl) (by simp) ?_
          refine ready_cons rfl (fun K hK => ?_) (ready_cons rfl (fun K hK => ?_) AllReadyH.nil)
          · go_simp
            refine (ct13_0.out _ _ (g0.roInts 16 rfl)).mono ?_
            rintro (e : Ending) y1 ⟨u, rfl, ho, hb⟩
            obtain ⟨B14, d14, rfl, _, _, _⟩ := id ho.ints
            have g1 := g0.pushOwn hb ho
            clear hb ho
            show K _ _
            refine hK.out _ _ ?_ (fun hHeld => ?_)
            · exact ⟨g1.box3 14 rfl, g1.box4 13 rfl⟩
            clear hK K
            try simp only [Act.put, List.setIfInBounds_toArray, List.set_cons_zero, List.set_cons_succ]
            refine wpAnyH_ready (rs := [3, 10]) (by kernel_rfl) (by simp) ?_
            refine ready_cons rfl (fun K hK => ?_) (ready_cons rfl (fun K hK => ?_) AllReadyH.nil)
            · go_simp
              refine (ct13_1.out _ _ (g1.fact 16 rfl)).mono ?_
              rintro (e : Ending) y2 ⟨u, us15, rfl, hu15, hok, hnd, hb⟩
              obtain ⟨B15, d15, rfl, _, _, _⟩ := id (It.mats hok hu15)
              have g2 := g1.pushMats hb hok hnd
              clear hb hok hnd
              show K _ _
              refine hK.out _ _ ?_ (fun hHeld => ?_)
              · exact ⟨g2.box3 15 rfl, g2.box4 14 rfl⟩
              clear hK K
              try simp only [Act.put, List.setIfInBounds_toArray, List.set_cons_zero, List.set_cons_succ]
              refine wpAnyH_ready (rs := [5, 10]) (by kernel_rfl) (by simp) ?_
              refine ready_cons rfl (fun K hK => ?_) (ready_cons rfl (fun K hK => ?_) AllReadyH.nil)
              · go_simp
                refine (ct13_2.out _ _ (g2.roInts 16 rfl)).mono ?_
                rintro (e : Ending) y3 ⟨u, rfl, ho, hb⟩
                obtain ⟨B16, d16, rfl, _, _, _⟩ := id ho.ints
                have g3 := g2.pushOwn hb ho
                clear hb ho
                show K _ _
                refine hK.out _ _ ?_ (fun hHeld => ?_)
                · exact ⟨g3.box3 16 rfl, g3.box4 15 rfl⟩
                clear hK K
                try simp only [Act.put, List.setIfInBounds_toArray, List.set_cons_zero, List.set_cons_succ]
                refine wpAnyH_ready (rs := [6, 10]) (by kernel_rfl) (by simp) ?_
                refine ready_cons rfl (fun K hK => ?_) (ready_cons rfl (fun K hK => ?_) AllReadyH.nil)
                · go_simp
                  refine (SubmoduleByI_any a0_0 a0_1 a2_0 a2_1 a2_2 _ _ _ l0 l2 l1 _ (g3.ownInts 2 rfl) (g3.mats 1 rfl hu15) (g3.ownInts 0 rfl) hp hq hw).mono ?_
                  rintro (e : Ending) y4 ⟨u, rfl, ho, hb⟩
                  obtain ⟨B17, d17, rfl, _, _, _⟩ := id ho.ints
                  have g4 := g3.pushOwn hb ho
                  clear hb ho
                  show K _ _
                  refine hK.out _ _ ?_ (fun hHeld => ?_)
                  · exact ⟨g4.box3 17 rfl, g4.box4 16 rfl⟩
                  clear hK K
                  try simp only [Act.put, List.setIfInBounds_toArray, List.set_cons_zero, List.set_cons_succ]
                  refine anyH_take (v := ?_) 7 rfl (by kernel_rfl) (by kernel_rfl) (by kernel_rfl) (fun _ _ _ h => h) rfl ?_ hHeld ?_
                  rotate_left
                  · intro w' hSw
                    go_simp
                    try with_reducible rfl
                  try simp only [Act.put, List.setIfInBounds_toArray, List.set_cons_zero, List.set_cons_succ]
                  refine anyH_take (v := ?_) 8 rfl (by kernel_rfl) (by kernel_rfl) (by kernel_rfl) (fun _ _ _ h => h) rfl ?_ hHeld ?_
                  rotate_left
                  · intro w' hSw
                    go_simp
                    try with_reducible rfl
                  try simp only [Act.put, List.setIfInBounds_toArray, List.set_cons_zero, List.set_cons_succ]
                  refine anyH_take (v := ?_) 9 rfl (by kernel_rfl) (by kernel_rfl) (by kernel_rfl) (fun _ _ _ h => h) rfl ?_ hHeld ?_
                  rotate_left
                  · intro w' hSw
                    go_simp
                    try with_reducible rfl
                  try simp only [Act.put, List.setIfInBounds_toArray, List.set_cons_zero, List.set_cons_succ]
                  refine wpAnyH_ready (rs := [10]) (by kernel_rfl) (by simp) ?_
                  refine ready_cons rfl (fun K hK => ?_) AllReadyH.nil
                  · go_simp
                    have g5 := g4.box [.int .i64 0, .int .i64 0, .int .i64 0, .slice none 0 0] 32
                    refine hK.out _ _ ?_ (fun hHeld => ?_)
                    · exact ⟨g5.box3 18 rfl, g5.box4 17 rfl⟩
                    clear hK K
                    generalize World.alloc y4 (.cells #[.int .i64 0, .int .i64 0, .int .i64 0, .slice none 0 0] 32) = y5 at g5 hHeld ⊢
                    try simp only [Act.put, List.setIfInBounds_toArray, List.set_cons_zero, List.set_cons_succ]
                    obtain ⟨p0, p1, p2, p3⟩ := g5.box4 0 rfl
                    have f0 := g5.free 0 rfl 0
                    have f1 := g5.free 0 rfl 1
                    have f2 := g5.free 0 rfl 2
                    have f3 := g5.free 0 rfl 3
                    have q1 := ((((g5.setBox 0 rfl 0 (.int .i64 (sbP a0_0 a0_1 l0 l1 a2_0 a2_1 a2_2 l2))).setBox 0 rfl 1 (.int .i64 (sbR a0_0 a0_1 l0 l1 a2_0 a2_1 a2_2 l2))).setBox 0 rfl 2 (.int .i64 (sbC a0_0 a0_1 l0 l1 a2_0 a2_1 a2_2 l2))).setBox 0 rfl 3 (.slice B17 (sbD a0_0 a0_1 l0 l1 a2_0 a2_1 a2_2 l2).length d17))
                    refine wpAnyH_ready (rs := [11]) (by kernel_rfl) (by simp) ?_
                    refine ready_cons rfl (fun K hK => ?_) AllReadyH.nil
                    go_simp
                    refine hK.out _ _ ?_ (fun hHeld => ?_)
                    · exact ⟨q1.box3 18 rfl, q1.box4 17 rfl⟩
                    clear hK K
                    try simp only [Act.put, List.setIfInBounds_toArray, List.set_cons_zero, List.set_cons_succ]
                    refine anyH_take (v := ?_) 12 rfl (by kernel_rfl) (by kernel_rfl) (by kernel_rfl) (fun _ _ _ h => h) rfl ?_ hHeld ?_
                    rotate_left
                    · intro w' hSw
                      go_simp
                      try with_reducible rfl
                    try simp only [Act.put, List.setIfInBounds_toArray, List.set_cons_zero, List.set_cons_succ]
                    refine wpAnyH_done (by kernel_rfl) ?_ _
                    go_wp2_with fail
                    go_meet
                    exact ⟨_, _, _, _, _, _, _, rfl, rfl, hu15, q1⟩
                · go_simp
                  have g4 := g3.box [.int .i64 0, .int .i64 0, .int .i64 0, .slice none 0 0] 32
                  refine hK.out _ _ ?_ (fun hHeld => ?_)
                  · exact ⟨g4.box3 17 rfl, g4.box4 16 rfl⟩
                  clear hK K
                  generalize World.alloc y3 (.cells #[.int .i64 0, .int .i64 0, .int .i64 0, .slice none 0 0] 32) = y4 at g4 hHeld ⊢
                  try simp only [Act.put, List.setIfInBounds_toArray, List.set_cons_zero, List.set_cons_succ]
                  refine wpAnyH_ready (rs := [6]) (by kernel_rfl) (by simp) ?_
                  refine ready_cons rfl (fun K hK => ?_) AllReadyH.nil
                  · go_simp
                    refine (SubmoduleByI_any a0_0 a0_1 a2_0 a2_1 a2_2 _ _ _ l0 l2 l1 _ (g4.ownInts 3 rfl) (g4.mats 2 rfl hu15) (g4.ownInts 1 rfl) hp hq hw).mono ?_
                    rintro (e : Ending) y5 ⟨u, rfl, ho, hb⟩
                    obtain ⟨B17, d17, rfl, _, _, _⟩ := id ho.ints
                    have g5 := g4.pushOwn hb ho
                    clear hb ho
                    show K _ _
                    refine hK.out _ _ ?_ (fun hHeld => ?_)
                    · exact ⟨g5.box3 18 rfl, g5.box4 17 rfl⟩
                    clear hK K
                    try simp only [Act.put, List.setIfInBounds_toArray, List.set_cons_zero, List.set_cons_succ]
                    refine anyH_take (v := ?_) 7 rfl (by kernel_rfl) (by kernel_rfl) (by kernel_rfl) (fun _ _ _ h => h) rfl ?_ hHeld ?_
                    rotate_left
                    · intro w' hSw
                      go_simp
                      try with_reducible rfl
                    try simp only [Act.put, List.setIfInBounds_toArray, List.set_cons_zero, List.set_cons_succ]
                    refine anyH_take (v := ?_) 8 rfl (by kernel_rfl) (by kernel_rfl) (by kernel_rfl) (fun _ _ _ h => h) rfl ?_ hHeld ?_
                    rotate_left
                    · intro w' hSw
                      go_simp
                      try with_reducible rfl
                    try simp only [Act.put, List.setIfInBounds_toArray, List.set_cons_zero, List.set_cons_succ]
                    refine anyH_take (v := ?_) 9 rfl (by kernel_rfl) (by kernel_rfl) (by kernel_rfl) (fun _ _ _ h => h) rfl ?_ hHeld ?_
                    rotate_left
                    · intro w' hSw
                      go_simp
                      try with_reducible rfl
                    try simp only [Act.put, List.setIfInBounds_toArray, List.set_cons_zero, List.set_cons_succ]
                    obtain ⟨p0, p1, p2, p3⟩ := g5.box4 1 rfl
                    have f0 := g5.free 1 rfl 0
                    have f1 := g5.free 1 rfl 1
                    have f2 := g5.free 1 rfl 2
                    have f3 := g5.free 1 rfl 3
                    have q1 := ((((g5.setBox 1 rfl 0 (.int .i64 (sbP a0_0 a0_1 l0 l1 a2_0 a2_1 a2_2 l2))).setBox 1 rfl 1 (.int .i64 (sbR a0_0 a0_1 l0 l1 a2_0 a2_1 a2_2 l2))).setBox 1 rfl 2 (.int .i64 (sbC a0_0 a0_1 l0 l1 a2_0 a2_1 a2_2 l2))).setBox 1 rfl 3 (.slice B17 (sbD a0_0 a0_1 l0 l1 a2_0 a2_1 a2_2 l2).length d17))
                    refine wpAnyH_ready (rs := [11]) (by kernel_rfl) (by simp) ?_
                    refine ready_cons rfl (fun K hK => ?_) AllReadyH.nil
                    go_simp
                    refine hK.out _ _ ?_ (fun hHeld => ?_)
                    · exact ⟨q1.box3 18 rfl, q1.box4 17 rfl⟩
                    clear hK K
                    try simp only [Act.put, List.setIfInBounds_toArray, List.set_cons_zero, List.set_cons_succ]
                    refine anyH_take (v := ?_) 12 rfl (by kernel_rfl) (by kernel_rfl) (by kernel_rfl) (fun _ _ _ h => h) rfl ?_ hHeld ?_
                    rotate_left
                    · intro w' hSw
                      go_simp
                      try with_reducible rfl
                    try simp only [Act.put, List.setIfInBounds_toArray, List.set_cons_zero, List.set_cons_succ]
                    refine wpAnyH_done (by kernel_rfl) ?_ _
                    go_wp2_with fail
                    go_meet
                    exact ⟨_, _, _, _, _, _, _, rfl, rfl, hu15, q1.toFront 1 rfl⟩
              · go_simp
                have g3 := g2.box [.int .i64 0, .int .i64 0, .int .i64 0, .slice none 0 0] 32
                refine hK.out _ _ ?_ (fun hHeld => ?_)
                · exact ⟨g3.box3 16 rfl, g3.box4 15 rfl⟩
                clear hK K
                generalize World.alloc y2 (.cells #[.int .i64 0, .int .i64 0, .int .i64 0, .slice none 0 0] 32) = y3 at g3 hHeld ⊢
                try simp only [Act.put, List.setIfInBounds_toArray, List.set_cons_zero, List.set_cons_succ]
                refine wpAnyH_ready (rs := [5]) (by kernel_rfl) (by simp) ?_
                refine ready_cons rfl (fun K hK => ?_) AllReadyH.nil
                · go_simp
                  refine (ct13_2.out _ _ (g3.roInts 17 rfl)).mono ?_
                  rintro (e : Ending) y4 ⟨u, rfl, ho, hb⟩
                  obtain ⟨B16, d16, rfl, _, _, _⟩ := id ho.ints
                  have g4 := g3.pushOwn hb ho
                  clear hb ho
                  show K _ _
                  refine hK.out _ _ ?_ (fun hHeld => ?_)
                  · exact ⟨g4.box3 17 rfl, g4.box4 16 rfl⟩
                  clear hK K
                  try simp only [Act.put, List.setIfInBounds_toArray, List.set_cons_zero, List.set_cons_succ]
                  refine wpAnyH_ready (rs := [6]) (by kernel_rfl) (by simp) ?_
                  refine ready_cons rfl (fun K hK => ?_) AllReadyH.nil
                  · go_simp
                    refine (SubmoduleByI_any a0_0 a0_1 a2_0 a2_1 a2_2 _ _ _ l0 l2 l1 _ (g4.ownInts 3 rfl) (g4.mats 2 rfl hu15) (g4.ownInts 0 rfl) hp hq hw).mono ?_
                    rintro (e : Ending) y5 ⟨u, rfl, ho, hb⟩
                    obtain ⟨B17, d17, rfl, _, _, _⟩ := id ho.ints
                    have g5 := g4.pushOwn hb ho
                    clear hb ho
                    show K _ _
                    refine hK.out _ _ ?_ (fun hHeld => ?_)
                    · exact ⟨g5.box3 18 rfl, g5.box4 17 rfl⟩
                    clear hK K
                    try simp only [Act.put, List.setIfInBounds_toArray, List.set_cons_zero, List.set_cons_succ]
                    refine anyH_take (v := ?_) 7 rfl (by kernel_rfl) (by kernel_rfl) (by kernel_rfl) (fun _ _ _ h => h) rfl ?_ hHeld ?_
                    rotate_left
                    · intro w' hSw
                      go_simp
                      try with_reducible rfl
                    try simp only [Act.put, List.setIfInBounds_toArray, List.set_cons_zero, List.set_cons_succ]
                    refine anyH_take (v := ?_) 8 rfl (by kernel_rfl) (by kernel_rfl) (by kernel_rfl) (fun _ _ _ h => h) rfl ?_ hHeld ?_
                    rotate_left
                    · intro w' hSw
                      go_simp
                      try with_reducible rfl
                    try simp only [Act.put, List.setIfInBounds_toArray, List.set_cons_zero, List.set_cons_succ]
                    refine anyH_take (v := ?_) 9 rfl (by kernel_rfl) (by kernel_rfl) (by kernel_rfl) (fun _ _ _ h => h) rfl ?_ hHeld ?_
                    rotate_left
                    · intro w' hSw
                      go_simp
                      try with_reducible rfl
                    try simp only [Act.put, List.setIfInBounds_toArray, List.set_cons_zero, List.set_cons_succ]
                    obtain ⟨p0, p1, p2, p3⟩ := g5.box4 2 rfl
                    have f0 := g5.free 2 rfl 0
                    have f1 := g5.free 2 rfl 1
                    have f2 := g5.free 2 rfl 2
                    have f3 := g5.free 2 rfl 3
                    have q1 := ((((g5.setBox 2 rfl 0 (.int .i64 (sbP a0_0 a0_1 l0 l1 a2_0 a2_1 a2_2 l2))).setBox 2 rfl 1 (.int .i64 (sbR a0_0 a0_1 l0 l1 a2_0 a2_1 a2_2 l2))).setBox 2 rfl 2 (.int .i64 (sbC a0_0 a0_1 l0 l1 a2_0 a2_1 a2_2 l2))).setBox 2 rfl 3 (.slice B17 (sbD a0_0 a0_1 l0 l1 a2_0 a2_1 a2_2 l2).length d17))
                    refine wpAnyH_ready (rs := [11]) (by kernel_rfl) (by simp) ?_
                    refine ready_cons rfl (fun K hK => ?_) AllReadyH.nil
                    go_simp
                    refine hK.out _ _ ?_ (fun hHeld => ?_)
                    · exact ⟨q1.box3 18 rfl, q1.box4 17 rfl⟩
                    clear hK K
                    try simp only [Act.put, List.setIfInBounds_toArray, List.set_cons_zero, List.set_cons_succ]
                    refine anyH_take (v := ?_) 12 rfl (by kernel_rfl) (by kernel_rfl) (by kernel_rfl) (fun _ _ _ h => h) rfl ?_ hHeld ?_
                    rotate_left
                    · intro w' hSw
                      go_simp
                      try with_reducible rfl
                    try simp only [Act.put, List.setIfInBounds_toArray, List.set_cons_zero, List.set_cons_succ]
                    refine wpAnyH_done (by kernel_rfl) ?_ _
                    go_wp2_with fail
                    go_meet
                    exact ⟨_, _, _, _, _, _, _, rfl, rfl, hu15, q1.toFront 2 rfl⟩
            · go_simp
              have g2 := g1.box [.int .i64 0, .int .i64 0, .int .i64 0, .slice none 0 0] 32
              refine hK.out _ _ ?_ (fun hHeld => ?_)
              · exact ⟨g2.box3 15 rfl, g2.box4 14 rfl⟩
              clear hK K
              generalize World.alloc y1 (.cells #[.int .i64 0, .int .i64 0, .int .i64 0, .slice none 0 0] 32) = y2 at g2 hHeld ⊢
              try simp only [Act.put, List.setIfInBounds_toArray, List.set_cons_zero, List.set_cons_succ]
              refine wpAnyH_ready (rs := [3]) (by kernel_rfl) (by simp) ?_
              refine ready_cons rfl (fun K hK => ?_) AllReadyH.nil
              · go_simp
                refine (ct13_1.out _ _ (g2.fact 17 rfl)).mono ?_
                rintro (e : Ending) y3 ⟨u, us15, rfl, hu15, hok, hnd, hb⟩
                obtain ⟨B15, d15, rfl, _, _, _⟩ := id (It.mats hok hu15)
                have g3 := g2.pushMats hb hok hnd
                clear hb hok hnd
                show K _ _
                refine hK.out _ _ ?_ (fun hHeld => ?_)
                · exact ⟨g3.box3 16 rfl, g3.box4 15 rfl⟩
                clear hK K
                try simp only [Act.put, List.setIfInBounds_toArray, List.set_cons_zero, List.set_cons_succ]
                refine wpAnyH_ready (rs := [5]) (by kernel_rfl) (by simp) ?_
                refine ready_cons rfl (fun K hK => ?_) AllReadyH.nil
                · go_simp
                  refine (ct13_2.out _ _ (g3.roInts 17 rfl)).mono ?_
                  rintro (e : Ending) y4 ⟨u, rfl, ho, hb⟩
                  obtain ⟨B16, d16, rfl, _, _, _⟩ := id ho.ints
                  have g4 := g3.pushOwn hb ho
                  clear hb ho
                  show K _ _
                  refine hK.out _ _ ?_ (fun hHeld => ?_)
                  · exact ⟨g4.box3 17 rfl, g4.box4 16 rfl⟩
                  clear hK K
                  try simp only [Act.put, List.setIfInBounds_toArray, List.set_cons_zero, List.set_cons_succ]
                  refine wpAnyH_ready (rs := [6]) (by kernel_rfl) (by simp) ?_
                  refine ready_cons rfl (fun K hK => ?_) AllReadyH.nil
                  · go_simp
                    refine (SubmoduleByI_any a0_0 a0_1 a2_0 a2_1 a2_2 _ _ _ l0 l2 l1 _ (g4.ownInts 3 rfl) (g4.mats 1 rfl hu15) (g4.ownInts 0 rfl) hp hq hw).mono ?_
                    rintro (e : Ending) y5 ⟨u, rfl, ho, hb⟩
                    obtain ⟨B17, d17, rfl, _, _, _⟩ := id ho.ints
                    have g5 := g4.pushOwn hb ho
                    clear hb ho
                    show K _ _
                    refine hK.out _ _ ?_ (fun hHeld => ?_)
                    · exact ⟨g5.box3 18 rfl, g5.box4 17 rfl⟩
                    clear hK K
                    try simp only [Act.put, List.setIfInBounds_toArray, List.set_cons_zero, List.set_cons_succ]
                    refine anyH_take (v := ?_) 7 rfl (by kernel_rfl) (by kernel_rfl) (by kernel_rfl) (fun _ _ _ h => h) rfl ?_ hHeld ?_
                    rotate_left
                    · intro w' hSw
                      go_simp
                      try with_reducible rfl
                    try simp only [Act.put, List.setIfInBounds_toArray, List.set_cons_zero, List.set_cons_succ]
                    refine anyH_take (v := ?_) 8 rfl (by kernel_rfl) (by kernel_rfl) (by kernel_rfl) (fun _ _ _ h => h) rfl ?_ hHeld ?_
                    rotate_left
                    · intro w' hSw
                      go_simp
                      try with_reducible rfl
                    try simp only [Act.put, List.setIfInBounds_toArray, List.set_cons_zero, List.set_cons_succ]
                    refine anyH_take (v := ?_) 9 rfl (by kernel_rfl) (by kernel_rfl) (by kernel_rfl) (fun _ _ _ h => h) rfl ?_ hHeld ?_
                    rotate_left
                    · intro w' hSw
                      go_simp
                      try with_reducible rfl
                    try simp only [Act.put, List.setIfInBounds_toArray, List.set_cons_zero, List.set_cons_succ]
                    obtain ⟨p0, p1, p2, p3⟩ := g5.box4 3 rfl
                    have f0 := g5.free 3 rfl 0
                    have f1 := g5.free 3 rfl 1
                    have f2 := g5.free 3 rfl 2
                    have f3 := g5.free 3 rfl 3
                    have q1 := ((((g5.setBox 3 rfl 0 (.int .i64 (sbP a0_0 a0_1 l0 l1 a2_0 a2_1 a2_2 l2))).setBox 3 rfl 1 (.int .i64 (sbR a0_0 a0_1 l0 l1 a2_0 a2_1 a2_2 l2))).setBox 3 rfl 2 (.int .i64 (sbC a0_0 a0_1 l0 l1 a2_0 a2_1 a2_2 l2))).setBox 3 rfl 3 (.slice B17 (sbD a0_0 a0_1 l0 l1 a2_0 a2_1 a2_2 l2).length d17))
                    refine wpAnyH_ready (rs := [11]) (by kernel_rfl) (by simp) ?_
                    refine ready_cons rfl (fun K hK => ?_) AllReadyH.nil
                    go_simp
                    refine hK.out _ _ ?_ (fun hHeld => ?_)
                    · exact ⟨q1.box3 18 rfl, q1.box4 17 rfl⟩
                    clear hK K
                    try simp only [Act.put, List.setIfInBounds_toArray, List.set_cons_zero, List.set_cons_succ]
                    refine anyH_take (v := ?_) 12 rfl (by kernel_rfl) (by kernel_rfl) (by kernel_rfl) (fun _ _ _ h => h) rfl ?_ hHeld ?_
                    rotate_left
                    · intro w' hSw
                      go_simp
                      try with_reducible rfl
                    try simp only [Act.put, List.setIfInBounds_toArray, List.set_cons_zero, List.set_cons_succ]
                    refine wpAnyH_done (by kernel_rfl) ?_ _
                    go_wp2_with fail
                    go_meet
                    exact ⟨_, _, _, _, _, _, _, rfl, rfl, hu15, q1.toFront 3 rfl⟩
          · go_simp
            have g1 := g0.box [.int .i64 0, .int .i64 0, .int .i64 0, .slice none 0 0] 32
            refine hK.out _ _ ?_ (fun hHeld => ?_)
            · exact ⟨g1.box3 14 rfl, g1.box4 13 rfl⟩
            clear hK K
            generalize World.alloc y0 (.cells #[.int .i64 0, .int .i64 0, .int .i64 0, .slice none 0 0] 32) = y1 at g1 hHeld ⊢
            try simp only [Act.put, List.setIfInBounds_toArray, List.set_cons_zero, List.set_cons_succ]
            refine wpAnyH_ready (rs := [1]) (by kernel_rfl) (by simp) ?_
            refine ready_cons rfl (fun K hK => ?_) AllReadyH.nil
            · go_simp
              refine (ct13_0.out _ _ (g1.roInts 17 rfl)).mono ?_
              rintro (e : Ending) y2 ⟨u, rfl, ho, hb⟩
              obtain ⟨B14, d14, rfl, _, _, _⟩ := id ho.ints
              have g2 := g1.pushOwn hb ho
              clear hb ho
              show K _ _
              refine hK.out _ _ ?_ (fun hHeld => ?_)
              · exact ⟨g2.box3 15 rfl, g2.box4 14 rfl⟩
              clear hK K
              try simp only [Act.put, List.setIfInBounds_toArray, List.set_cons_zero, List.set_cons_succ]
              refine wpAnyH_ready (rs := [3]) (by kernel_rfl) (by simp) ?_
              refine ready_cons rfl (fun K hK => ?_) AllReadyH.nil
              · go_simp
                refine (ct13_1.out _ _ (g2.fact 17 rfl)).mono ?_
                rintro (e : Ending) y3 ⟨u, us15, rfl, hu15, hok, hnd, hb⟩
                obtain ⟨B15, d15, rfl, _, _, _⟩ := id (It.mats hok hu15)
                have g3 := g2.pushMats hb hok hnd
                clear hb hok hnd
                show K _ _
                refine hK.out _ _ ?_ (fun hHeld => ?_)
                · exact ⟨g3.box3 16 rfl, g3.box4 15 rfl⟩
                clear hK K
                try simp only [Act.put, List.setIfInBounds_toArray, List.set_cons_zero, List.set_cons_succ]
                refine wpAnyH_ready (rs := [5]) (by kernel_rfl) (by simp) ?_
                refine ready_cons rfl (fun K hK => ?_) AllReadyH.nil
                · go_simp
                  refine (ct13_2.out _ _ (g3.roInts 17 rfl)).mono ?_
                  rintro (e : Ending) y4 ⟨u, rfl, ho, hb⟩
                  obtain ⟨B16, d16, rfl, _, _, _⟩ := id ho.ints
                  have g4 := g3.pushOwn hb ho
                  clear hb ho
                  show K _ _
                  refine hK.out _ _ ?_ (fun hHeld => ?_)
                  · exact ⟨g4.box3 17 rfl, g4.box4 16 rfl⟩
                  clear hK K
                  try simp only [Act.put, List.setIfInBounds_toArray, List.set_cons_zero, List.set_cons_succ]
                  refine wpAnyH_ready (rs := [6]) (by kernel_rfl) (by simp) ?_
                  refine ready_cons rfl (fun K hK => ?_) AllReadyH.nil
                  · go_simp
                    refine (SubmoduleByI_any a0_0 a0_1 a2_0 a2_1 a2_2 _ _ _ l0 l2 l1 _ (g4.ownInts 2 rfl) (g4.mats 1 rfl hu15) (g4.ownInts 0 rfl) hp hq hw).mono ?_
                    rintro (e : Ending) y5 ⟨u, rfl, ho, hb⟩
                    obtain ⟨B17, d17, rfl, _, _, _⟩ := id ho.ints
                    have g5 := g4.pushOwn hb ho
                    clear hb ho
                    show K _ _
                    refine hK.out _ _ ?_ (fun hHeld => ?_)
                    · exact ⟨g5.box3 18 rfl, g5.box4 17 rfl⟩
                    clear hK K
                    try simp only [Act.put, List.setIfInBounds_toArray, List.set_cons_zero, List.set_cons_succ]
                    refine anyH_take (v := ?_) 7 rfl (by kernel_rfl) (by kernel_rfl) (by kernel_rfl) (fun _ _ _ h => h) rfl ?_ hHeld ?_
                    rotate_left
                    · intro w' hSw
                      go_simp
                      try with_reducible rfl
                    try simp only [Act.put, List.setIfInBounds_toArray, List.set_cons_zero, List.set_cons_succ]
                    refine anyH_take (v := ?_) 8 rfl (by kernel_rfl) (by kernel_rfl) (by kernel_rfl) (fun _ _ _ h => h) rfl ?_ hHeld ?_
                    rotate_left
                    · intro w' hSw
                      go_simp
                      try with_reducible rfl
                    try simp only [Act.put, List.setIfInBounds_toArray, List.set_cons_zero, List.set_cons_succ]
                    refine anyH_take (v := ?_) 9 rfl (by kernel_rfl) (by kernel_rfl) (by kernel_rfl) (fun _ _ _ h => h) rfl ?_ hHeld ?_
                    rotate_left
                    · intro w' hSw
                      go_simp
                      try with_reducible rfl
                    try simp only [Act.put, List.setIfInBounds_toArray, List.set_cons_zero, List.set_cons_succ]
                    obtain ⟨p0, p1, p2, p3⟩ := g5.box4 4 rfl
                    have f0 := g5.free 4 rfl 0
                    have f1 := g5.free 4 rfl 1
                    have f2 := g5.free 4 rfl 2
                    have f3 := g5.free 4 rfl 3
                    have q1 := ((((g5.setBox 4 rfl 0 (.int .i64 (sbP a0_0 a0_1 l0 l1 a2_0 a2_1 a2_2 l2))).setBox 4 rfl 1 (.int .i64 (sbR a0_0 a0_1 l0 l1 a2_0 a2_1 a2_2 l2))).setBox 4 rfl 2 (.int .i64 (sbC a0_0 a0_1 l0 l1 a2_0 a2_1 a2_2 l2))).setBox 4 rfl 3 (.slice B17 (sbD a0_0 a0_1 l0 l1 a2_0 a2_1 a2_2 l2).length d17))
                    refine wpAnyH_ready (rs := [11]) (by kernel_rfl) (by simp) ?_
                    refine ready_cons rfl (fun K hK => ?_) AllReadyH.nil
                    go_simp
                    refine hK.out _ _ ?_ (fun hHeld => ?_)
                    · exact ⟨q1.box3 18 rfl, q1.box4 17 rfl⟩
                    clear hK K
                    try simp only [Act.put, List.setIfInBounds_toArray, List.set_cons_zero, List.set_cons_succ]
                    refine anyH_take (v := ?_) 12 rfl (by kernel_rfl) (by kernel_rfl) (by kernel_rfl) (fun _ _ _ h => h) rfl ?_ hHeld ?_
                    rotate_left
                    · intro w' hSw
                      go_simp
                      try with_reducible rfl
                    try simp only [Act.put, List.setIfInBounds_toArray, List.set_cons_zero, List.set_cons_succ]
                    refine wpAnyH_done (by kernel_rfl) ?_ _
                    go_wp2_with fail
                    go_meet
                    exact ⟨_, _, _, _, _, _, _, rfl, rfl, hu15, q1.toFront 4 rfl⟩
        case rest =>
        clear h1 ct13_0 ct13_1 ct13_2
        obtain ⟨bx13, B17, d17, X16, X15, us15, X14, rfl, rfl, hu15, h1⟩ := hcut
        subst hOL13
        obtain ⟨zb0_0, zb0_1, zb0_2, zb0_3⟩ := h1.box4 0 rfl
        obtain ⟨zb12_0, zb12_1, zb12_2, zb12_3⟩ := h1.box4 12 rfl
        go_wp2_with fail
        refine (eqMatrix_same (sbP a0_0 a0_1 l0 l1 a2_0 a2_1 a2_2 l2) (sbR a0_0 a0_1 l0 l1 a2_0 a2_1 a2_2 l2) (sbC a0_0 a0_1 l0 l1 a2_0 a2_1 a2_2 l2) _ _ (sbD a0_0 a0_1 l0 l1 a2_0 a2_1 a2_2 l2) _ (h1.ownInts 1 rfl) (h1.ownInts 13 rfl)).mono ?_
        rintro (e : Ending) w23 ⟨rfl, hb1⟩
        replace h1 := h1.on hb1
        clear hb1
        clear zb0_0 zb0_1 zb0_2 zb0_3 zb12_0 zb12_1 zb12_2 zb12_3
        obtain ⟨zb5_0, zb5_1, zb5_2, zb5_3⟩ := h1.box4 5 rfl
        go_wp2_with fail
        refine (heldMatrix_any (sbP a0_0 a0_1 l0 l1 a2_0 a2_1 a2_2 l2) (sbR a0_0 a0_1 l0 l1 a2_0 a2_1 a2_2 l2) (sbC a0_0 a0_1 l0 l1 a2_0 a2_1 a2_2 l2) (1) _ _ _ (h1.ownInts 6 rfl) (by omega) (by omega) (by omega)).mono ?_
        rintro (e : Ending) w24 ⟨rfl, hb1⟩
        replace h1 := h1.on hb1
        clear hb1
        clear zb5_0 zb5_1 zb5_2 zb5_3
        go_wp2_with fail
        go_ret
        exact ⟨rfl, h1.below⟩
end Sb
end Go.Proofs.Ytechjmckfedblaa
