/- The law FnExactQuotientModule, walked. (Written by lgen2.py.) -/
import Derived.Test.YtcdbgcpccmcbeaaGreatQmS
import Derived.Test.YtcdbgcpccmcbeaaGreatQmI
import Derived.Test.YtcdbgcpccmcbeaaGreatRegX
import Derived.Test.YtcdbgcpccmcbeaaGreatLawM
import Derived.Test.YtcdbgcpccmcbeaaGreatLawB
import Derived.Test.YtcdbgcpccmcbeaaGreatShellC
namespace Go.Proofs.YtcdbgcpccmcbeaaGreat
set_option maxRecDepth 100000
open Go.RowKit
namespace Qm

set_option maxHeartbeats 4000000 in
theorem lawQuotientModule {w : World} (a0_0 a0_1 : Int) (v0 : Value) (l0 : List Int) (g0 : Ints w v0 l0) (wf0_0 : (Lit.int .i64 a0_0).wf = true) (_wf0_1 : (Lit.int .i64 a0_1).wf = true) (_ : ∀ x ∈ l0, (Lit.int .i64 x).wf = true) (v1 : Value) (l1 : List Mt) (g1 : MatsR w v1 l1) (wf1 : MsWf l1) (a2_0 a2_1 a2_2 : Int) (v2 : Value) (l2 : List Int) (g2 : Ints w v2 l2) (wf2_0 : (Lit.int .i64 a2_0).wf = true) (_wf2_1 : (Lit.int .i64 a2_1).wf = true) (_wf2_2 : (Lit.int .i64 a2_2).wf = true) (_ : ∀ x ∈ l2, (Lit.int .i64 x).wf = true) :
    Calls Tryz.prog 3 #[.agg #[.int .i64 a0_0, .int .i64 a0_1, v0], v1, .agg #[.int .i64 a2_0, .int .i64 a2_1, .int .i64 a2_2, v2]] w fun e w' => e = .returned (.bool true) ∧ Below w.heap.size w w' := by
  by_cases L0 : ((l0.length : Nat) : Int) ≤ 1048576
  case neg =>
    have h1 := (((((St.start w).arg g0).pushFact g1.fact).arg g2).box [.int .i64 a0_0, .int .i64 a0_1, v0] 24).box [.int .i64 a2_0, .int .i64 a2_1, .int .i64 a2_2, v2] 27
    simp only [World.size_alloc] at h1
    obtain ⟨A0, c0, rfl, _, _, _⟩ := id g0
    obtain ⟨A1, c1, rfl, _, _, _⟩ := id g1
    obtain ⟨A2, c2, rfl, _, _, _⟩ := id g2
    clear g0 g1 g2
    go_enter Tryz.func3, Tryz.ntmps3
    obtain ⟨zb1_0, zb1_1, zb1_2⟩ := h1.box3 1 rfl
    go_wp2_with fail
    refine (szAlgebra_no a0_0 a0_1 (1048576) _ l0 _ (h1.roInts 4 rfl) (by omega) (by omega) (by omega)).mono ?_
    rintro (e : Ending) w1 ⟨rfl, hb1⟩
    replace h1 := h1.on hb1
    clear hb1
    clear zb1_0 zb1_1 zb1_2
    go_wp2_with fail
    go_ret
    exact ⟨rfl, h1.below⟩
  case pos =>
    by_cases L1 : ((szMs l1 : Nat) : Int) ≤ 1048576 - (l0.length : Nat)
    case neg =>
      have h1 := (((((St.start w).arg g0).pushFact g1.fact).arg g2).box [.int .i64 a0_0, .int .i64 a0_1, v0] 24).box [.int .i64 a2_0, .int .i64 a2_1, .int .i64 a2_2, v2] 27
      simp only [World.size_alloc] at h1
      obtain ⟨A0, c0, rfl, _, _, _⟩ := id g0
      obtain ⟨A1, c1, rfl, _, _, _⟩ := id g1
      obtain ⟨A2, c2, rfl, _, _, _⟩ := id g2
      clear g0 g1 g2
      go_enter Tryz.func3, Tryz.ntmps3
      obtain ⟨zb1_0, zb1_1, zb1_2⟩ := h1.box3 1 rfl
      go_wp2_with fail
      refine (szAlgebra_yes a0_0 a0_1 (1048576) _ l0 _ (h1.roInts 4 rfl) (by omega) (by omega)).mono ?_
      rintro (e : Ending) w1 ⟨rfl, hb1⟩
      replace h1 := h1.on hb1
      clear hb1
      clear zb1_0 zb1_1 zb1_2
      go_wp2_with fail
      refine (szMatrixS_no (1048576 - (l0.length : Nat)) _ l1 _ (h1.fact 3 rfl) (by omega) (by omega) (by omega)).mono ?_
      rintro (e : Ending) w2 ⟨rfl, hb1⟩
      replace h1 := h1.on hb1
      clear hb1
      go_wp2_with fail
      go_ret
      exact ⟨rfl, h1.below⟩
    case pos =>
      by_cases L2 : ((l2.length : Nat) : Int) ≤ 1048576 - (l0.length : Nat) - (szMs l1 : Nat)
      case neg =>
        have h1 := (((((St.start w).arg g0).pushFact g1.fact).arg g2).box [.int .i64 a0_0, .int .i64 a0_1, v0] 24).box [.int .i64 a2_0, .int .i64 a2_1, .int .i64 a2_2, v2] 27
        simp only [World.size_alloc] at h1
        obtain ⟨A0, c0, rfl, _, _, _⟩ := id g0
        obtain ⟨A1, c1, rfl, _, _, _⟩ := id g1
        obtain ⟨A2, c2, rfl, _, _, _⟩ := id g2
        clear g0 g1 g2
        go_enter Tryz.func3, Tryz.ntmps3
        obtain ⟨zb1_0, zb1_1, zb1_2⟩ := h1.box3 1 rfl
        go_wp2_with fail
        refine (szAlgebra_yes a0_0 a0_1 (1048576) _ l0 _ (h1.roInts 4 rfl) (by omega) (by omega)).mono ?_
        rintro (e : Ending) w1 ⟨rfl, hb1⟩
        replace h1 := h1.on hb1
        clear hb1
        clear zb1_0 zb1_1 zb1_2
        go_wp2_with fail
        refine (szMatrixS_yes (1048576 - (l0.length : Nat)) _ l1 _ (h1.fact 3 rfl) (by omega) (by omega)).mono ?_
        rintro (e : Ending) w2 ⟨rfl, hb1⟩
        replace h1 := h1.on hb1
        clear hb1
        obtain ⟨zb0_0, zb0_1, zb0_2, zb0_3⟩ := h1.box4 0 rfl
        go_wp2_with fail
        refine (szMatrix_no a2_0 a2_1 a2_2 (1048576 - (l0.length : Nat) - (szMs l1 : Nat)) _ l2 _ (h1.roInts 2 rfl) (by omega) (by omega) (by omega)).mono ?_
        rintro (e : Ending) w3 ⟨rfl, hb1⟩
        replace h1 := h1.on hb1
        clear hb1
        clear zb0_0 zb0_1 zb0_2 zb0_3
        go_wp2_with fail
        go_ret
        exact ⟨rfl, h1.below⟩
      case pos =>
        have hp := wf_le wf0_0
        have hq := wf_le wf2_0
        have hw : ∀ i, i < l1.length → (mAt l1 i).p ≤ 9223372036854775807 := fun i hi => wf_le (wf1 _ (by rw [← mAt_get hi]; exact List.getElem_mem hi)).1
        have bd := qmMs_bd a0_0 a0_1 l0 l1 a2_0 a2_1 a2_2 l2
        have bm : markMsLen l1 ≤ 3 * szMs l1 := by unfold markMsLen szMs; omega
        have h1 := (((((St.start w).arg g0).pushFact g1.fact).arg g2).box [.int .i64 a0_0, .int .i64 a0_1, v0] 24).box [.int .i64 a2_0, .int .i64 a2_1, .int .i64 a2_2, v2] 27
        simp only [World.size_alloc] at h1
        obtain ⟨A0, c0, rfl, _, _, _⟩ := id g0
        obtain ⟨A1, c1, rfl, _, _, _⟩ := id g1
        obtain ⟨A2, c2, rfl, _, _, _⟩ := id g2
        clear g0 g1 g2
        go_enter Tryz.func3, Tryz.ntmps3
        obtain ⟨zb1_0, zb1_1, zb1_2⟩ := h1.box3 1 rfl
        go_wp2_with fail
        refine (szAlgebra_yes a0_0 a0_1 (1048576) _ l0 _ (h1.roInts 4 rfl) (by omega) (by omega)).mono ?_
        rintro (e : Ending) w1 ⟨rfl, hb1⟩
        replace h1 := h1.on hb1
        clear hb1
        clear zb1_0 zb1_1 zb1_2
        go_wp2_with fail
        refine (szMatrixS_yes (1048576 - (l0.length : Nat)) _ l1 _ (h1.fact 3 rfl) (by omega) (by omega)).mono ?_
        rintro (e : Ending) w2 ⟨rfl, hb1⟩
        replace h1 := h1.on hb1
        clear hb1
        obtain ⟨zb0_0, zb0_1, zb0_2, zb0_3⟩ := h1.box4 0 rfl
        go_wp2_with fail
        refine (szMatrix_yes a2_0 a2_1 a2_2 (1048576 - (l0.length : Nat) - (szMs l1 : Nat)) _ l2 _ (h1.roInts 2 rfl) (by omega) (by omega)).mono ?_
        rintro (e : Ending) w3 ⟨rfl, hb1⟩
        replace h1 := h1.on hb1
        clear hb1
        clear zb0_0 zb0_1 zb0_2 zb0_3
        go_wp2_with fail
        obtain ⟨q1_0_0_0, q1_0_0_1, q1_0_0_2⟩ := h1.box3 1 rfl
        obtain ⟨q1_0_2_0, q1_0_2_1, q1_0_2_2, q1_0_2_3⟩ := h1.box4 0 rfl
        go_region_held3 (fun w' => w'.cell? ⟨w.heap.size, 0, none⟩ = some (.int .i64 a0_0) ∧ w'.cell? ⟨w.heap.size, 1, none⟩ = some (.int .i64 a0_1) ∧ w'.cell? ⟨w.heap.size, 2, none⟩ = some (.slice A0 l0.length c0) ∧ w'.cell? ⟨w.heap.size + 1, 0, none⟩ = some (.int .i64 a2_0) ∧ w'.cell? ⟨w.heap.size + 1, 1, none⟩ = some (.int .i64 a2_1) ∧ w'.cell? ⟨w.heap.size + 1, 2, none⟩ = some (.int .i64 a2_2) ∧ w'.cell? ⟨w.heap.size + 1, 3, none⟩ = some (.slice A2 l2.length c2))
          (first | exact ⟨q1_0_0_0, q1_0_0_1, q1_0_0_2, q1_0_2_0, q1_0_2_1, q1_0_2_2, q1_0_2_3⟩ | exact ⟨q1_1_0_0, q1_1_0_1, q1_1_0_2, q1_1_2_0, q1_1_2_1, q1_1_2_2, q1_1_2_3⟩ | exact ⟨q1_2_0_0, q1_2_0_1, q1_2_0_2, q1_2_2_0, q1_2_2_1, q1_2_2_2, q1_2_2_3⟩ | exact ⟨q1_3_0_0, q1_3_0_1, q1_3_0_2, q1_3_2_0, q1_3_2_1, q1_3_2_2, q1_3_2_3⟩ | exact ⟨q1_4_0_0, q1_4_0_1, q1_4_0_2, q1_4_2_0, q1_4_2_1, q1_4_2_2, q1_4_2_3⟩)
          (first
            | (go_at_call 9; refine (toAlgebra_any a0_0 a0_1 _ l0 _ ?_ (by omega)).mono ?_; exact h1.drew.roInts 4 rfl; rintro (e : Ending) w4 ⟨u, rfl, ho1_0, hb1_0⟩; obtain ⟨B2, d2, rfl, _, _, _⟩ := id ho1_0.ints; have hr1_1 := h1.drew.pushOwn hb1_0 ho1_0; obtain ⟨q1_1_0_0, q1_1_0_1, q1_1_0_2⟩ := hr1_1.box3 2 rfl; obtain ⟨q1_1_2_0, q1_1_2_1, q1_1_2_2, q1_1_2_3⟩ := hr1_1.box4 1 rfl)
            | (go_at_call 10; refine (toMatrixS_any _ l1 _ ?_ (by omega)).mono ?_; exact hr1_1.fact 4 rfl; rintro (e : Ending) w5 ⟨u, us3, rfl, hu3, hok3, hnd3, hb1_1⟩; obtain ⟨B3, d3, rfl, _, _, _⟩ := id (It.mats hok3 hu3); have hr1_2 := hr1_1.pushMats hb1_1 hok3 hnd3; obtain ⟨q1_2_0_0, q1_2_0_1, q1_2_0_2⟩ := hr1_2.box3 3 rfl; obtain ⟨q1_2_2_0, q1_2_2_1, q1_2_2_2, q1_2_2_3⟩ := hr1_2.box4 2 rfl)
            | (go_at_call 11; refine (toMatrix_any a2_0 a2_1 a2_2 _ l2 _ ?_ (by omega)).mono ?_; exact hr1_2.roInts 4 rfl; rintro (e : Ending) w6 ⟨u, rfl, ho1_2, hb1_2⟩; obtain ⟨B4, d4, rfl, _, _, _⟩ := id ho1_2.ints; have hr1_3 := hr1_2.pushOwn hb1_2 ho1_2; obtain ⟨q1_3_0_0, q1_3_0_1, q1_3_0_2⟩ := hr1_3.box3 4 rfl; obtain ⟨q1_3_2_0, q1_3_2_1, q1_3_2_2, q1_3_2_3⟩ := hr1_3.box4 3 rfl)
            | (go_at_call 8; refine (QuotientModuleS_any a0_0 a0_1 a2_0 a2_1 a2_2 _ _ _ l0 l2 l1 _ (hr1_3.ownInts 2 rfl) (hr1_3.mats 1 rfl hu3) (hr1_3.ownInts 0 rfl) hp hq hw).mono ?_; rintro (e : Ending) w7 ⟨u, us5, rfl, hu5, hok, hnd, hbz⟩; obtain ⟨B5, d5, rfl, _, _, _⟩ := id (It.mats hok hu5); have hr1_4 := hr1_3.pushMats hbz hok hnd; obtain ⟨q1_4_0_0, q1_4_0_1, q1_4_0_2⟩ := hr1_4.box3 5 rfl; obtain ⟨q1_4_2_0, q1_4_2_1, q1_4_2_2, q1_4_2_3⟩ := hr1_4.box4 4 rfl))
        clear h1 hb1_0 ho1_0 hr1_1 hb1_1 hok3 hnd3 hr1_2 hb1_2 ho1_2 hr1_3 hok hnd hbz q1_0_0_0 q1_0_0_1 q1_0_0_2 q1_0_2_0 q1_0_2_1 q1_0_2_2 q1_0_2_3 q1_1_0_0 q1_1_0_1 q1_1_0_2 q1_1_2_0 q1_1_2_1 q1_1_2_2 q1_1_2_3 q1_2_0_0 q1_2_0_1 q1_2_0_2 q1_2_2_0 q1_2_2_1 q1_2_2_2 q1_2_2_3 q1_3_0_0 q1_3_0_1 q1_3_0_2 q1_3_2_0 q1_3_2_1 q1_3_2_2 q1_3_2_3 q1_4_0_0 q1_4_0_1 q1_4_0_2 q1_4_2_0 q1_4_2_1 q1_4_2_2 q1_4_2_3
        have h1 := hr1_4
        clear hr1_4
        obtain ⟨zb5_0, zb5_1, zb5_2⟩ := h1.box3 5 rfl
        go_wp2_with fail
        refine (toAlgebra_any a0_0 a0_1 _ l0 _ (h1.roInts 8 rfl) (by omega)).mono ?_
        rintro (e : Ending) w8 ⟨u, rfl, ho, hb1⟩
        obtain ⟨B6, d6, rfl, _, _, _⟩ := id ho.ints
        replace h1 := h1.pushOwn hb1 ho
        clear ho hb1
        clear zb5_0 zb5_1 zb5_2
        replace h1 := h1.box [.int .i64 a0_0, .int .i64 a0_1, .slice B6 l0.length d6] 34
        go_wp2_with fail
        refine (toMatrixS_any _ l1 _ (h1.fact 9 rfl) (by omega)).mono ?_
        rintro (e : Ending) w9 ⟨u, us7, rfl, hu7, hok, hnd, hb1⟩
        obtain ⟨B7, d7, rfl, _, _, _⟩ := id (It.mats hok hu7)
        replace h1 := h1.pushMats hb1 hok hnd
        clear hok hnd hb1
        obtain ⟨zb7_0, zb7_1, zb7_2, zb7_3⟩ := h1.box4 7 rfl
        go_wp2_with fail
        refine (toMatrix_any a2_0 a2_1 a2_2 _ l2 _ (h1.roInts 9 rfl) (by omega)).mono ?_
        rintro (e : Ending) w10 ⟨u, rfl, ho, hb1⟩
        obtain ⟨B8, d8, rfl, _, _, _⟩ := id ho.ints
        replace h1 := h1.pushOwn hb1 ho
        clear ho hb1
        clear zb7_0 zb7_1 zb7_2 zb7_3
        replace h1 := h1.box [.int .i64 a2_0, .int .i64 a2_1, .int .i64 a2_2, .slice B8 l2.length d8] 37
        obtain ⟨zb3_0, zb3_1, zb3_2⟩ := h1.box3 3 rfl
        obtain ⟨zb0_0, zb0_1, zb0_2, zb0_3⟩ := h1.box4 0 rfl
        go_wp2_with fail
        refine (QuotientModuleI_any a0_0 a0_1 a2_0 a2_1 a2_2 _ _ _ l0 l2 l1 _ (h1.ownInts 4 rfl) (h1.mats 2 rfl hu7) (h1.ownInts 1 rfl) hp hq hw).mono ?_
        rintro (e : Ending) w11 ⟨u, us9, rfl, hu9, hok, hnd, hb1⟩
        obtain ⟨B9, d9, rfl, _, _, _⟩ := id (It.mats hok hu9)
        replace h1 := h1.pushMats hb1 hok hnd
        clear hok hnd hb1
        clear zb3_0 zb3_1 zb3_2 zb0_0 zb0_1 zb0_2 zb0_3
        go_wp2_with fail
        refine (eqMatrixS_same _ _ (qmMs a0_0 a0_1 l0 l1 a2_0 a2_1 a2_2 l2) _ (h1.mats 0 rfl hu9) (h1.mats 6 rfl hu5)).mono ?_
        rintro (e : Ending) w12 ⟨rfl, hb1⟩
        replace h1 := h1.on hb1
        clear hb1
        go_wp2_with fail
        obtain ⟨y0, y1, y2⟩ := h1.box3 4 rfl
        obtain ⟨x0, x1, x2⟩ := h1.box3 11 rfl
        go_region_held3 (fun w' => w'.cell? ⟨w8.heap.size, 0, none⟩ = some (.int .i64 a0_0) ∧ w'.cell? ⟨w8.heap.size, 1, none⟩ = some (.int .i64 a0_1) ∧ w'.cell? ⟨w8.heap.size, 2, none⟩ = some (.slice B6 l0.length d6) ∧ w'.cell? ⟨w.heap.size, 0, none⟩ = some (.int .i64 a0_0) ∧ w'.cell? ⟨w.heap.size, 1, none⟩ = some (.int .i64 a0_1) ∧ w'.cell? ⟨w.heap.size, 2, none⟩ = some (.slice A0 l0.length c0))
          (first | exact ⟨y0, y1, y2, x0, x1, x2⟩ | exact ⟨y0', y1', y2', x0', x1', x2'⟩ | exact ⟨y0'', y1'', y2'', x0'', x1'', x2''⟩)
          (first
            | (go_at_call 9; refine (toAlgebra_any a0_0 a0_1 _ l0 _ ?_ (by omega)).mono ?_; exact h1.drew.roInts 14 rfl; rintro (e : Ending) w13 ⟨u, rfl, ho, hb1⟩; obtain ⟨B10, d10, rfl, _, _, _⟩ := id ho.ints; have h2 := h1.drew.pushOwn hb1 ho; obtain ⟨y0', y1', y2'⟩ := h2.box3 5 rfl; obtain ⟨x0', x1', x2'⟩ := h2.box3 12 rfl)
            | (go_at_call 14; refine (eqAlgebra_same a0_0 a0_1 _ _ l0 _ (h2.ownInts 6 rfl) (h2.ownInts 0 rfl)).mono ?_; rintro (e : Ending) w14 ⟨rfl, hb2⟩; have h3 := h2.on hb2; obtain ⟨y0'', y1'', y2''⟩ := h3.box3 5 rfl; obtain ⟨x0'', x1'', x2''⟩ := h3.box3 12 rfl))
        clear y0 y1 y2 x0 x1 x2 y0' y1' y2' x0' x1' x2' y0'' y1'' y2'' x0'' x1'' x2'' h2 h1 hb1 hb2 ho
        have h1 := h3.drop 1
        clear h3
        go_wp2_with fail
        refine (toMatrixS_any _ l1 _ (h1.fact 13 rfl) (by omega)).mono ?_
        rintro (e : Ending) w15 ⟨u, us11, rfl, hu11, hok, hnd, hb1⟩
        obtain ⟨B11, d11, rfl, _, _, _⟩ := id (It.mats hok hu11)
        replace h1 := h1.pushMats hb1 hok hnd
        clear hok hnd hb1
        go_wp2_with fail
        refine (eqMatrixS_same _ _ l1 _ (h1.mats 4 rfl hu7) (h1.mats 0 rfl hu11)).mono ?_
        rintro (e : Ending) w16 ⟨rfl, hb1⟩
        replace h1 := h1.on hb1
        clear hb1
        replace h1 := h1.drop 1
        go_wp2_with fail
        obtain ⟨y0, y1, y2, y3⟩ := h1.box4 1 rfl
        obtain ⟨x0, x1, x2, x3⟩ := h1.box4 10 rfl
        go_region_held3 (fun w' => w'.cell? ⟨w10.heap.size, 0, none⟩ = some (.int .i64 a2_0) ∧ w'.cell? ⟨w10.heap.size, 1, none⟩ = some (.int .i64 a2_1) ∧ w'.cell? ⟨w10.heap.size, 2, none⟩ = some (.int .i64 a2_2) ∧ w'.cell? ⟨w10.heap.size, 3, none⟩ = some (.slice B8 l2.length d8) ∧ w'.cell? ⟨w.heap.size + 1, 0, none⟩ = some (.int .i64 a2_0) ∧ w'.cell? ⟨w.heap.size + 1, 1, none⟩ = some (.int .i64 a2_1) ∧ w'.cell? ⟨w.heap.size + 1, 2, none⟩ = some (.int .i64 a2_2) ∧ w'.cell? ⟨w.heap.size + 1, 3, none⟩ = some (.slice A2 l2.length c2))
          (first | exact ⟨y0, y1, y2, y3, x0, x1, x2, x3⟩ | exact ⟨y0', y1', y2', y3', x0', x1', x2', x3'⟩ | exact ⟨y0'', y1'', y2'', y3'', x0'', x1'', x2'', x3''⟩)
          (first
            | (go_at_call 11; refine (toMatrix_any a2_0 a2_1 a2_2 _ l2 _ ?_ (by omega)).mono ?_; exact h1.drew.roInts 12 rfl; rintro (e : Ending) w17 ⟨u, rfl, ho, hb1⟩; obtain ⟨B12, d12, rfl, _, _, _⟩ := id ho.ints; have h2 := h1.drew.pushOwn hb1 ho; obtain ⟨y0', y1', y2', y3'⟩ := h2.box4 2 rfl; obtain ⟨x0', x1', x2', x3'⟩ := h2.box4 11 rfl)
            | (go_at_call 15; refine (eqMatrix_same a2_0 a2_1 a2_2 _ _ l2 _ (h2.ownInts 3 rfl) (h2.ownInts 0 rfl)).mono ?_; rintro (e : Ending) w18 ⟨rfl, hb2⟩; have h3 := h2.on hb2; obtain ⟨y0'', y1'', y2'', y3''⟩ := h3.box4 2 rfl; obtain ⟨x0'', x1'', x2'', x3''⟩ := h3.box4 11 rfl))
        clear y0 y1 y2 y3 x0 x1 x2 x3 y0' y1' y2' y3' x0' x1' x2' x3' y0'' y1'' y2'' y3'' x0'' x1'' x2'' x3'' h2 h1 hb1 hb2 ho
        have h1 := h3.drop 1
        clear h3
        obtain ⟨zb4_0, zb4_1, zb4_2⟩ := h1.box3 4 rfl
        go_wp2_with fail
        refine (markAlgebra_any h1 5 rfl a0_0 a0_1 (1) (by omega) (by omega) (by omega)).mono ?_
        rintro (e : Ending) w19 ⟨rfl, h2⟩
        replace h1 := h2
        clear h2
        clear zb4_0 zb4_1 zb4_2
        go_wp2_with fail
        refine (markMatrixS_any h1 3 rfl hu7 (1 + (((l0).length : Nat) : Int)) (by omega) (by omega) (by omega)).mono ?_
        rintro (e : Ending) w20 ⟨rfl, h2⟩
        replace h1 := h2
        clear h2
        obtain ⟨zb1_0, zb1_1, zb1_2, zb1_3⟩ := h1.box4 1 rfl
        go_wp2_with fail
        refine (markMatrix_any h1 2 rfl a2_0 a2_1 a2_2 (1 + (((l0).length : Nat) : Int) + ((markMsLen l1 : Nat) : Int)) (by omega) (by omega) (by omega)).mono ?_
        rintro (e : Ending) w21 ⟨rfl, h2⟩
        replace h1 := h2
        clear h2
        clear zb1_0 zb1_1 zb1_2 zb1_3
        go_wp2_with fail
        refine (eqMatrixS_same _ _ (qmMs a0_0 a0_1 l0 l1 a2_0 a2_1 a2_2 l2) _ (h1.mats 0 rfl hu9) (h1.mats 6 rfl hu5)).mono ?_
        rintro (e : Ending) w22 ⟨rfl, hb1⟩
        replace h1 := h1.on hb1
        clear hb1
        go_wp2_with fail
        refine (markMatrixS_any h1 0 rfl hu9 (1) (by omega) (by omega) (by omega)).mono ?_
        rintro (e : Ending) w23 ⟨rfl, h2⟩
        replace h1 := h2
        clear h2
        go_wp2_with fail
        refine (heldMatrixS_any _ (qmMs a0_0 a0_1 l0 l1 a2_0 a2_1 a2_2 l2) (1) _ (h1.mats 0 rfl (by rw [length_markMs]; exact hu9)) (by omega) (by omega) (by omega)).mono ?_
        rintro (e : Ending) w24 ⟨rfl, hb1⟩
        replace h1 := h1.on hb1
        clear hb1
        go_wp2_with fail
        obtain ⟨q13_0_0_0, q13_0_0_1, q13_0_0_2⟩ := h1.box3 11 rfl
        obtain ⟨q13_0_2_0, q13_0_2_1, q13_0_2_2, q13_0_2_3⟩ := h1.box4 10 rfl
        go_region_held3 (fun w' => w'.cell? ⟨w.heap.size, 0, none⟩ = some (.int .i64 a0_0) ∧ w'.cell? ⟨w.heap.size, 1, none⟩ = some (.int .i64 a0_1) ∧ w'.cell? ⟨w.heap.size, 2, none⟩ = some (.slice A0 l0.length c0) ∧ w'.cell? ⟨w.heap.size + 1, 0, none⟩ = some (.int .i64 a2_0) ∧ w'.cell? ⟨w.heap.size + 1, 1, none⟩ = some (.int .i64 a2_1) ∧ w'.cell? ⟨w.heap.size + 1, 2, none⟩ = some (.int .i64 a2_2) ∧ w'.cell? ⟨w.heap.size + 1, 3, none⟩ = some (.slice A2 l2.length c2))
          (first | exact ⟨q13_0_0_0, q13_0_0_1, q13_0_0_2, q13_0_2_0, q13_0_2_1, q13_0_2_2, q13_0_2_3⟩ | exact ⟨q13_1_0_0, q13_1_0_1, q13_1_0_2, q13_1_2_0, q13_1_2_1, q13_1_2_2, q13_1_2_3⟩ | exact ⟨q13_2_0_0, q13_2_0_1, q13_2_0_2, q13_2_2_0, q13_2_2_1, q13_2_2_2, q13_2_2_3⟩ | exact ⟨q13_3_0_0, q13_3_0_1, q13_3_0_2, q13_3_2_0, q13_3_2_1, q13_3_2_2, q13_3_2_3⟩ | exact ⟨q13_4_0_0, q13_4_0_1, q13_4_0_2, q13_4_2_0, q13_4_2_1, q13_4_2_2, q13_4_2_3⟩)
          (first
            | (go_at_call 9; refine (toAlgebra_any a0_0 a0_1 _ l0 _ ?_ (by omega)).mono ?_; exact h1.drew.roInts 14 rfl; rintro (e : Ending) w25 ⟨u, rfl, ho13_0, hb13_0⟩; obtain ⟨B14, d14, rfl, _, _, _⟩ := id ho13_0.ints; have hr13_1 := h1.drew.pushOwn hb13_0 ho13_0; obtain ⟨q13_1_0_0, q13_1_0_1, q13_1_0_2⟩ := hr13_1.box3 12 rfl; obtain ⟨q13_1_2_0, q13_1_2_1, q13_1_2_2, q13_1_2_3⟩ := hr13_1.box4 11 rfl)
            | (go_at_call 10; refine (toMatrixS_any _ l1 _ ?_ (by omega)).mono ?_; exact hr13_1.fact 14 rfl; rintro (e : Ending) w26 ⟨u, us15, rfl, hu15, hok15, hnd15, hb13_1⟩; obtain ⟨B15, d15, rfl, _, _, _⟩ := id (It.mats hok15 hu15); have hr13_2 := hr13_1.pushMats hb13_1 hok15 hnd15; obtain ⟨q13_2_0_0, q13_2_0_1, q13_2_0_2⟩ := hr13_2.box3 13 rfl; obtain ⟨q13_2_2_0, q13_2_2_1, q13_2_2_2, q13_2_2_3⟩ := hr13_2.box4 12 rfl)
            | (go_at_call 11; refine (toMatrix_any a2_0 a2_1 a2_2 _ l2 _ ?_ (by omega)).mono ?_; exact hr13_2.roInts 14 rfl; rintro (e : Ending) w27 ⟨u, rfl, ho13_2, hb13_2⟩; obtain ⟨B16, d16, rfl, _, _, _⟩ := id ho13_2.ints; have hr13_3 := hr13_2.pushOwn hb13_2 ho13_2; obtain ⟨q13_3_0_0, q13_3_0_1, q13_3_0_2⟩ := hr13_3.box3 14 rfl; obtain ⟨q13_3_2_0, q13_3_2_1, q13_3_2_2, q13_3_2_3⟩ := hr13_3.box4 13 rfl)
            | (go_at_call 12; refine (QuotientModuleI_any a0_0 a0_1 a2_0 a2_1 a2_2 _ _ _ l0 l2 l1 _ (hr13_3.ownInts 2 rfl) (hr13_3.mats 1 rfl hu15) (hr13_3.ownInts 0 rfl) hp hq hw).mono ?_; rintro (e : Ending) w28 ⟨u, us17, rfl, hu17, hok, hnd, hbz⟩; obtain ⟨B17, d17, rfl, _, _, _⟩ := id (It.mats hok hu17); have hr13_4 := hr13_3.pushMats hbz hok hnd; obtain ⟨q13_4_0_0, q13_4_0_1, q13_4_0_2⟩ := hr13_4.box3 15 rfl; obtain ⟨q13_4_2_0, q13_4_2_1, q13_4_2_2, q13_4_2_3⟩ := hr13_4.box4 14 rfl))
        clear h1 hb13_0 ho13_0 hr13_1 hb13_1 hok15 hnd15 hr13_2 hb13_2 ho13_2 hr13_3 hok hnd hbz q13_0_0_0 q13_0_0_1 q13_0_0_2 q13_0_2_0 q13_0_2_1 q13_0_2_2 q13_0_2_3 q13_1_0_0 q13_1_0_1 q13_1_0_2 q13_1_2_0 q13_1_2_1 q13_1_2_2 q13_1_2_3 q13_2_0_0 q13_2_0_1 q13_2_0_2 q13_2_2_0 q13_2_2_1 q13_2_2_2 q13_2_2_3 q13_3_0_0 q13_3_0_1 q13_3_0_2 q13_3_2_0 q13_3_2_1 q13_3_2_2 q13_3_2_3 q13_4_0_0 q13_4_0_1 q13_4_0_2 q13_4_2_0 q13_4_2_1 q13_4_2_2 q13_4_2_3
        have h1 := hr13_4
        clear hr13_4
        go_wp2_with fail
        refine (eqMatrixS_same _ _ (qmMs a0_0 a0_1 l0 l1 a2_0 a2_1 a2_2 l2) _ (h1.mats 0 rfl hu17) (h1.mats 10 rfl hu5)).mono ?_
        rintro (e : Ending) w29 ⟨rfl, hb1⟩
        replace h1 := h1.on hb1
        clear hb1
        go_wp2_with fail
        refine (heldMatrixS_any _ (qmMs a0_0 a0_1 l0 l1 a2_0 a2_1 a2_2 l2) (1) _ (h1.mats 4 rfl (by rw [length_markMs]; exact hu9)) (by omega) (by omega) (by omega)).mono ?_
        rintro (e : Ending) w30 ⟨rfl, hb1⟩
        replace h1 := h1.on hb1
        clear hb1
        go_wp2_with fail
        go_ret
        exact ⟨rfl, h1.below⟩
end Qm
end Go.Proofs.YtcdbgcpccmcbeaaGreat
