/- The law FnExactSerreOk, walked. (Written by lgen2.py.) -/
import Derived.Test.YtcngijafnnmccaaGreatDoorSrrE
import Derived.Test.YtcngijafnnmccaaGreatDoorSrrG
import Derived.Test.YtcngijafnnmccaaGreatDoorRegX
import Derived.Test.YtcngijafnnmccaaGreatDoorLawB
import Derived.Test.YtcngijafnnmccaaGreatDoorLawC
import Derived.Test.YtcngijafnnmccaaGreatDoorLawL
import Derived.Test.YtcngijafnnmccaaGreatDoorShellP
import Derived.Test.YtcngijafnnmccaaGreatDoorShellL
namespace Go.Proofs.YtcngijafnnmccaaGreatDoor
set_option maxRecDepth 100000
open Go.RowKit
namespace Srr

set_option maxHeartbeats 4000000 in
theorem lawSerreOk {w : World} (a0_0 a0_1 : Int) (v0 : Value) (l0 : List Int) (g0 : Ints w v0 l0) (wf0_0 : (Lit.int .i64 a0_0).wf = true) (_wf0_1 : (Lit.int .i64 a0_1).wf = true) (_ : ∀ x ∈ l0, (Lit.int .i64 x).wf = true) (a1_0 : Int) (v1 : Value) (l1 : List Int) (g1 : Ints w v1 l1) (wf1_0 : (Lit.int .i64 a1_0).wf = true) (_ : ∀ x ∈ l1, (Lit.int .i64 x).wf = true) (v2 : Value) (l2 : List (List Int)) (g2 : IntRows w v2 l2) (v3 : Value) (l3 : List (List Int)) (g3 : IntRows w v3 l3) (hM : Car.MaxAt w) :
    Calls Tryz.prog 3 #[.agg #[.int .i64 a0_0, .int .i64 a0_1, v0], .agg #[.int .i64 a1_0, v1], v2, v3] w fun e w' => e = .returned (.bool true) ∧ Below w.heap.size w w' := by
  by_cases L0 : ((l0.length : Nat) : Int) ≤ 1048576
  case neg =>
    have h1 := ((((((St.start w).arg g0).arg g1).pushFact g2.fact).pushFact g3.fact).box [.int .i64 a0_0, .int .i64 a0_1, v0] 24).box [.int .i64 a1_0, v1] 26
    simp only [World.size_alloc] at h1
    obtain ⟨A0, c0, rfl, _, _, _⟩ := id g0
    obtain ⟨A1, c1, rfl, _, _, _⟩ := id g1
    obtain ⟨A2, c2, rfl, _, _, _⟩ := id g2
    obtain ⟨A3, c3, rfl, _, _, _⟩ := id g3
    clear g0 g1 g2 g3
    go_enter Tryz.func3, Tryz.ntmps3
    obtain ⟨zb1_0, zb1_1, zb1_2⟩ := h1.box3 1 rfl
    go_wp2_with fail
    refine (szAlgebra_no a0_0 a0_1 (1048576) _ l0 _ (h1.roInts 5 rfl) (by omega) (by omega) (by omega)).mono ?_
    rintro (e : Ending) w1 ⟨rfl, hb1⟩
    replace h1 := h1.on hb1
    clear hb1
    clear zb1_0 zb1_1 zb1_2
    go_wp2_with fail
    go_ret
    exact ⟨rfl, h1.below⟩
  case pos =>
    by_cases L1 : ((l1.length : Nat) : Int) ≤ 1048576 - (l0.length : Nat)
    case neg =>
      have h1 := ((((((St.start w).arg g0).arg g1).pushFact g2.fact).pushFact g3.fact).box [.int .i64 a0_0, .int .i64 a0_1, v0] 24).box [.int .i64 a1_0, v1] 26
      simp only [World.size_alloc] at h1
      obtain ⟨A0, c0, rfl, _, _, _⟩ := id g0
      obtain ⟨A1, c1, rfl, _, _, _⟩ := id g1
      obtain ⟨A2, c2, rfl, _, _, _⟩ := id g2
      obtain ⟨A3, c3, rfl, _, _, _⟩ := id g3
      clear g0 g1 g2 g3
      go_enter Tryz.func3, Tryz.ntmps3
      obtain ⟨zb1_0, zb1_1, zb1_2⟩ := h1.box3 1 rfl
      go_wp2_with fail
      refine (szAlgebra_yes a0_0 a0_1 (1048576) _ l0 _ (h1.roInts 5 rfl) (by omega) (by omega)).mono ?_
      rintro (e : Ending) w1 ⟨rfl, hb1⟩
      replace h1 := h1.on hb1
      clear hb1
      clear zb1_0 zb1_1 zb1_2
      obtain ⟨zb0_0, zb0_1⟩ := h1.box2 0 rfl
      go_wp2_with fail
      refine (szCartan_no a1_0 (1048576 - (l0.length : Nat)) _ l1 _ (h1.roInts 4 rfl) (by omega) (by omega) (by omega)).mono ?_
      rintro (e : Ending) w2 ⟨rfl, hb1⟩
      replace h1 := h1.on hb1
      clear hb1
      clear zb0_0 zb0_1
      go_wp2_with fail
      go_ret
      exact ⟨rfl, h1.below⟩
    case pos =>
      by_cases L2 : ((szLL l2 : Nat) : Int) ≤ 1048576 - (l0.length : Nat) - (l1.length : Nat)
      case neg =>
        have h1 := ((((((St.start w).arg g0).arg g1).pushFact g2.fact).pushFact g3.fact).box [.int .i64 a0_0, .int .i64 a0_1, v0] 24).box [.int .i64 a1_0, v1] 26
        simp only [World.size_alloc] at h1
        obtain ⟨A0, c0, rfl, _, _, _⟩ := id g0
        obtain ⟨A1, c1, rfl, _, _, _⟩ := id g1
        obtain ⟨A2, c2, rfl, _, _, _⟩ := id g2
        obtain ⟨A3, c3, rfl, _, _, _⟩ := id g3
        clear g0 g1 g2 g3
        go_enter Tryz.func3, Tryz.ntmps3
        obtain ⟨zb1_0, zb1_1, zb1_2⟩ := h1.box3 1 rfl
        go_wp2_with fail
        refine (szAlgebra_yes a0_0 a0_1 (1048576) _ l0 _ (h1.roInts 5 rfl) (by omega) (by omega)).mono ?_
        rintro (e : Ending) w1 ⟨rfl, hb1⟩
        replace h1 := h1.on hb1
        clear hb1
        clear zb1_0 zb1_1 zb1_2
        obtain ⟨zb0_0, zb0_1⟩ := h1.box2 0 rfl
        go_wp2_with fail
        refine (szCartan_yes a1_0 (1048576 - (l0.length : Nat)) _ l1 _ (h1.roInts 4 rfl) (by omega) (by omega)).mono ?_
        rintro (e : Ending) w2 ⟨rfl, hb1⟩
        replace h1 := h1.on hb1
        clear hb1
        clear zb0_0 zb0_1
        go_wp2_with fail
        refine (szIntSS_no (1048576 - (l0.length : Nat) - (l1.length : Nat)) _ l2 _ (h1.fact 3 rfl) (by omega) (by omega) (by omega)).mono ?_
        rintro (e : Ending) w3 ⟨rfl, hb1⟩
        replace h1 := h1.on hb1
        clear hb1
        go_wp2_with fail
        go_ret
        exact ⟨rfl, h1.below⟩
      case pos =>
        by_cases L3 : ((szLL l3 : Nat) : Int) ≤ 1048576 - (l0.length : Nat) - (l1.length : Nat) - (szLL l2 : Nat)
        case neg =>
          have h1 := ((((((St.start w).arg g0).arg g1).pushFact g2.fact).pushFact g3.fact).box [.int .i64 a0_0, .int .i64 a0_1, v0] 24).box [.int .i64 a1_0, v1] 26
          simp only [World.size_alloc] at h1
          obtain ⟨A0, c0, rfl, _, _, _⟩ := id g0
          obtain ⟨A1, c1, rfl, _, _, _⟩ := id g1
          obtain ⟨A2, c2, rfl, _, _, _⟩ := id g2
          obtain ⟨A3, c3, rfl, _, _, _⟩ := id g3
          clear g0 g1 g2 g3
          go_enter Tryz.func3, Tryz.ntmps3
          obtain ⟨zb1_0, zb1_1, zb1_2⟩ := h1.box3 1 rfl
          go_wp2_with fail
          refine (szAlgebra_yes a0_0 a0_1 (1048576) _ l0 _ (h1.roInts 5 rfl) (by omega) (by omega)).mono ?_
          rintro (e : Ending) w1 ⟨rfl, hb1⟩
          replace h1 := h1.on hb1
          clear hb1
          clear zb1_0 zb1_1 zb1_2
          obtain ⟨zb0_0, zb0_1⟩ := h1.box2 0 rfl
          go_wp2_with fail
          refine (szCartan_yes a1_0 (1048576 - (l0.length : Nat)) _ l1 _ (h1.roInts 4 rfl) (by omega) (by omega)).mono ?_
          rintro (e : Ending) w2 ⟨rfl, hb1⟩
          replace h1 := h1.on hb1
          clear hb1
          clear zb0_0 zb0_1
          go_wp2_with fail
          refine (szIntSS_yes (1048576 - (l0.length : Nat) - (l1.length : Nat)) _ l2 _ (h1.fact 3 rfl) (by omega) (by omega)).mono ?_
          rintro (e : Ending) w3 ⟨rfl, hb1⟩
          replace h1 := h1.on hb1
          clear hb1
          go_wp2_with fail
          refine (szIntSS_no (1048576 - (l0.length : Nat) - (l1.length : Nat) - (szLL l2 : Nat)) _ l3 _ (h1.fact 2 rfl) (by omega) (by omega) (by omega)).mono ?_
          rintro (e : Ending) w4 ⟨rfl, hb1⟩
          replace h1 := h1.on hb1
          clear hb1
          go_wp2_with fail
          go_ret
          exact ⟨rfl, h1.below⟩
        case pos =>
          have hp := wf_le wf0_0
          have hr := Car.wf_both wf1_0
          have h1 := ((((((St.start w).arg g0).arg g1).pushFact g2.fact).pushFact g3.fact).box [.int .i64 a0_0, .int .i64 a0_1, v0] 24).box [.int .i64 a1_0, v1] 26
          simp only [World.size_alloc] at h1
          obtain ⟨A0, c0, rfl, _, _, _⟩ := id g0
          obtain ⟨A1, c1, rfl, _, _, _⟩ := id g1
          obtain ⟨A2, c2, rfl, _, _, _⟩ := id g2
          obtain ⟨A3, c3, rfl, _, _, _⟩ := id g3
          clear g0 g1 g2 g3
          go_enter Tryz.func3, Tryz.ntmps3
          obtain ⟨zb1_0, zb1_1, zb1_2⟩ := h1.box3 1 rfl
          go_wp2_with fail
          refine (szAlgebra_yes a0_0 a0_1 (1048576) _ l0 _ (h1.roInts 5 rfl) (by omega) (by omega)).mono ?_
          rintro (e : Ending) w1 ⟨rfl, hb1⟩
          replace h1 := h1.on hb1
          clear hb1
          clear zb1_0 zb1_1 zb1_2
          obtain ⟨zb0_0, zb0_1⟩ := h1.box2 0 rfl
          go_wp2_with fail
          refine (szCartan_yes a1_0 (1048576 - (l0.length : Nat)) _ l1 _ (h1.roInts 4 rfl) (by omega) (by omega)).mono ?_
          rintro (e : Ending) w2 ⟨rfl, hb1⟩
          replace h1 := h1.on hb1
          clear hb1
          clear zb0_0 zb0_1
          go_wp2_with fail
          refine (szIntSS_yes (1048576 - (l0.length : Nat) - (l1.length : Nat)) _ l2 _ (h1.fact 3 rfl) (by omega) (by omega)).mono ?_
          rintro (e : Ending) w3 ⟨rfl, hb1⟩
          replace h1 := h1.on hb1
          clear hb1
          go_wp2_with fail
          refine (szIntSS_yes (1048576 - (l0.length : Nat) - (l1.length : Nat) - (szLL l2 : Nat)) _ l3 _ (h1.fact 2 rfl) (by omega) (by omega)).mono ?_
          rintro (e : Ending) w4 ⟨rfl, hb1⟩
          replace h1 := h1.on hb1
          clear hb1
          go_wp2_with fail
          obtain ⟨q1_0_0_0, q1_0_0_1, q1_0_0_2⟩ := h1.box3 1 rfl
          obtain ⟨q1_0_1_0, q1_0_1_1⟩ := h1.box2 0 rfl
          have tk1_2 : True := trivial
          go_region_held3 (fun w' => w'.cell? ⟨w.heap.size, 0, none⟩ = some (.int .i64 a0_0) ∧ w'.cell? ⟨w.heap.size, 1, none⟩ = some (.int .i64 a0_1) ∧ w'.cell? ⟨w.heap.size, 2, none⟩ = some (.slice A0 l0.length c0) ∧ w'.cell? ⟨w.heap.size + 1, 0, none⟩ = some (.int .i64 a1_0) ∧ w'.cell? ⟨w.heap.size + 1, 1, none⟩ = some (.slice A1 l1.length c1))
            (first | exact ⟨q1_0_0_0, q1_0_0_1, q1_0_0_2, q1_0_1_0, q1_0_1_1⟩ | exact ⟨q1_1_0_0, q1_1_0_1, q1_1_0_2, q1_1_1_0, q1_1_1_1⟩ | exact ⟨q1_2_0_0, q1_2_0_1, q1_2_0_2, q1_2_1_0, q1_2_1_1⟩ | exact ⟨q1_3_0_0, q1_3_0_1, q1_3_0_2, q1_3_1_0, q1_3_1_1⟩ | exact ⟨q1_4_0_0, q1_4_0_1, q1_4_0_2, q1_4_1_0, q1_4_1_1⟩ | exact ⟨q1_5_0_0, q1_5_0_1, q1_5_0_2, q1_5_1_0, q1_5_1_1⟩)
            (first
              | (go_at_call 8; refine (toAlgebra_any a0_0 a0_1 _ l0 _ ?_ (by omega)).mono ?_; exact h1.drew.roInts 5 rfl; rintro (e : Ending) w5 ⟨u, rfl, ho1_0, hb1_0⟩; obtain ⟨B2, d2, rfl, _, _, _⟩ := id ho1_0.ints; have hr1_1 := h1.drew.pushOwn hb1_0 ho1_0; obtain ⟨q1_1_0_0, q1_1_0_1, q1_1_0_2⟩ := hr1_1.box3 2 rfl; obtain ⟨q1_1_1_0, q1_1_1_1⟩ := hr1_1.box2 1 rfl)
              | (go_at_call 9; refine (toCartan_any a1_0 _ l1 _ ?_ (by omega)).mono ?_; exact hr1_1.roInts 5 rfl; rintro (e : Ending) w6 ⟨u, rfl, ho1_1, hb1_1⟩; obtain ⟨B3, d3, rfl, _, _, _⟩ := id ho1_1.ints; have hr1_2 := hr1_1.pushOwn hb1_1 ho1_1; obtain ⟨q1_2_0_0, q1_2_0_1, q1_2_0_2⟩ := hr1_2.box3 3 rfl; obtain ⟨q1_2_1_0, q1_2_1_1⟩ := hr1_2.box2 2 rfl)
              | (go_at_call 10; have _t := tk1_2; refine (toIntSS_any _ l2 _ ?_ (by omega)).mono ?_; exact hr1_2.fact 5 rfl; rintro (e : Ending) w7 ⟨u, us4, rfl, hu4, hok4, hnd4, hb1_2⟩; obtain ⟨B4, d4, rfl, _, _, _⟩ := id (It.rows hok4 hu4); have hr1_3 := hr1_2.pushRows hb1_2 hok4 hnd4; obtain ⟨q1_3_0_0, q1_3_0_1, q1_3_0_2⟩ := hr1_3.box3 4 rfl; obtain ⟨q1_3_1_0, q1_3_1_1⟩ := hr1_3.box2 3 rfl; clear tk1_2 _t)
              | (go_at_call 10; refine (toIntSS_any _ l3 _ ?_ (by omega)).mono ?_; exact hr1_3.fact 5 rfl; rintro (e : Ending) w8 ⟨u, us5, rfl, hu5, hok5, hnd5, hb1_3⟩; obtain ⟨B5, d5, rfl, _, _, _⟩ := id (It.rows hok5 hu5); have hr1_4 := hr1_3.pushRows hb1_3 hok5 hnd5; obtain ⟨q1_4_0_0, q1_4_0_1, q1_4_0_2⟩ := hr1_4.box3 5 rfl; obtain ⟨q1_4_1_0, q1_4_1_1⟩ := hr1_4.box2 4 rfl)
              | (go_at_call 7; refine (SerreOkS_any a0_0 a0_1 a1_0 _ _ _ _ l0 l1 l2 l3 _ (hr1_4.ownInts 3 rfl) (hr1_4.ownInts 2 rfl) (hr1_4.rowsR 1 rfl hu4) (hr1_4.rowsR 0 rfl hu5)).mono ?_; rintro (e : Ending) w9 ⟨rfl, hbz⟩; have hr1_5 := hr1_4.on hbz; obtain ⟨q1_5_0_0, q1_5_0_1, q1_5_0_2⟩ := hr1_5.box3 5 rfl; obtain ⟨q1_5_1_0, q1_5_1_1⟩ := hr1_5.box2 4 rfl))
          clear h1 hb1_0 ho1_0 hr1_1 hb1_1 ho1_1 hr1_2 hb1_2 hok4 hnd4 hr1_3 hb1_3 hok5 hnd5 hr1_4 hbz q1_0_0_0 q1_0_0_1 q1_0_0_2 q1_0_1_0 q1_0_1_1 q1_1_0_0 q1_1_0_1 q1_1_0_2 q1_1_1_0 q1_1_1_1 q1_2_0_0 q1_2_0_1 q1_2_0_2 q1_2_1_0 q1_2_1_1 q1_3_0_0 q1_3_0_1 q1_3_0_2 q1_3_1_0 q1_3_1_1 q1_4_0_0 q1_4_0_1 q1_4_0_2 q1_4_1_0 q1_4_1_1 q1_5_0_0 q1_5_0_1 q1_5_0_2 q1_5_1_0 q1_5_1_1
          have h1 := hr1_5
          clear hr1_5
          obtain ⟨zb5_0, zb5_1, zb5_2⟩ := h1.box3 5 rfl
          go_wp2_with fail
          refine (toAlgebra_any a0_0 a0_1 _ l0 _ (h1.roInts 9 rfl) (by omega)).mono ?_
          rintro (e : Ending) w10 ⟨u, rfl, ho, hb1⟩
          obtain ⟨B7, d7, rfl, _, _, _⟩ := id ho.ints
          replace h1 := h1.pushOwn hb1 ho
          clear ho hb1
          clear zb5_0 zb5_1 zb5_2
          replace h1 := h1.box [.int .i64 a0_0, .int .i64 a0_1, .slice B7 l0.length d7] 32
          obtain ⟨zb6_0, zb6_1⟩ := h1.box2 6 rfl
          go_wp2_with fail
          refine (toCartan_any a1_0 _ l1 _ (h1.roInts 10 rfl) (by omega)).mono ?_
          rintro (e : Ending) w11 ⟨u, rfl, ho, hb1⟩
          obtain ⟨B8, d8, rfl, _, _, _⟩ := id ho.ints
          replace h1 := h1.pushOwn hb1 ho
          clear ho hb1
          clear zb6_0 zb6_1
          replace h1 := h1.box [.int .i64 a1_0, .slice B8 l1.length d8] 34
          go_wp2_with fail
          refine (toIntSS_any _ l2 _ (h1.fact 11 rfl) (by omega)).mono ?_
          rintro (e : Ending) w12 ⟨u, us9, rfl, hu9, hok, hnd, hb1⟩
          obtain ⟨B9, d9, rfl, _, _, _⟩ := id (It.rows hok hu9)
          replace h1 := h1.pushRows hb1 hok hnd
          clear hok hnd hb1
          go_wp2_with fail
          refine (toIntSS_any _ l3 _ (h1.fact 11 rfl) (by omega)).mono ?_
          rintro (e : Ending) w13 ⟨u, us10, rfl, hu10, hok, hnd, hb1⟩
          obtain ⟨B10, d10, rfl, _, _, _⟩ := id (It.rows hok hu10)
          replace h1 := h1.pushRows hb1 hok hnd
          clear hok hnd hb1
          obtain ⟨zb4_0, zb4_1, zb4_2⟩ := h1.box3 4 rfl
          obtain ⟨zb2_0, zb2_1⟩ := h1.box2 2 rfl
          go_wp2_with fail
          refine (SerreOkI_any a0_0 a0_1 a1_0 _ _ _ _ l0 l1 l2 l3 _ (h1.ownInts 5 rfl) (h1.ownInts 3 rfl) (h1.rowsR 1 rfl hu9) (h1.rowsR 0 rfl hu10) hp (Car.MaxAt.below hM h1.below) hr).mono ?_
          rintro (e : Ending) w14 ⟨rfl, hb1⟩
          replace h1 := h1.on hb1
          clear hb1
          clear zb4_0 zb4_1 zb4_2 zb2_0 zb2_1
          go_wp2_with fail
          obtain ⟨y0, y1, y2⟩ := h1.box3 4 rfl
          obtain ⟨x0, x1, x2⟩ := h1.box3 11 rfl
          go_region_held3 (fun w' => w'.cell? ⟨w10.heap.size, 0, none⟩ = some (.int .i64 a0_0) ∧ w'.cell? ⟨w10.heap.size, 1, none⟩ = some (.int .i64 a0_1) ∧ w'.cell? ⟨w10.heap.size, 2, none⟩ = some (.slice B7 l0.length d7) ∧ w'.cell? ⟨w.heap.size, 0, none⟩ = some (.int .i64 a0_0) ∧ w'.cell? ⟨w.heap.size, 1, none⟩ = some (.int .i64 a0_1) ∧ w'.cell? ⟨w.heap.size, 2, none⟩ = some (.slice A0 l0.length c0))
            (first | exact ⟨y0, y1, y2, x0, x1, x2⟩ | exact ⟨y0', y1', y2', x0', x1', x2'⟩ | exact ⟨y0'', y1'', y2'', x0'', x1'', x2''⟩)
            (first
              | (go_at_call 8; refine (toAlgebra_any a0_0 a0_1 _ l0 _ ?_ (by omega)).mono ?_; exact h1.drew.roInts 15 rfl; rintro (e : Ending) w15 ⟨u, rfl, ho, hb1⟩; obtain ⟨B12, d12, rfl, _, _, _⟩ := id ho.ints; have h2 := h1.drew.pushOwn hb1 ho; obtain ⟨y0', y1', y2'⟩ := h2.box3 5 rfl; obtain ⟨x0', x1', x2'⟩ := h2.box3 12 rfl)
              | (go_at_call 12; refine (eqAlgebra_same a0_0 a0_1 _ _ l0 _ (h2.ownInts 6 rfl) (h2.ownInts 0 rfl)).mono ?_; rintro (e : Ending) w16 ⟨rfl, hb2⟩; have h3 := h2.on hb2; obtain ⟨y0'', y1'', y2''⟩ := h3.box3 5 rfl; obtain ⟨x0'', x1'', x2''⟩ := h3.box3 12 rfl))
          clear y0 y1 y2 x0 x1 x2 y0' y1' y2' x0' x1' x2' y0'' y1'' y2'' x0'' x1'' x2'' h2 h1 hb1 hb2 ho
          have h1 := h3.drop 1
          clear h3
          go_wp2_with fail
          obtain ⟨y0, y1⟩ := h1.box2 2 rfl
          obtain ⟨x0, x1⟩ := h1.box2 10 rfl
          go_region_held3 (fun w' => w'.cell? ⟨w11.heap.size, 0, none⟩ = some (.int .i64 a1_0) ∧ w'.cell? ⟨w11.heap.size, 1, none⟩ = some (.slice B8 l1.length d8) ∧ w'.cell? ⟨w.heap.size + 1, 0, none⟩ = some (.int .i64 a1_0) ∧ w'.cell? ⟨w.heap.size + 1, 1, none⟩ = some (.slice A1 l1.length c1))
            (first | exact ⟨y0, y1, x0, x1⟩ | exact ⟨y0', y1', x0', x1'⟩ | exact ⟨y0'', y1'', x0'', x1''⟩)
            (first
              | (go_at_call 9; refine (toCartan_any a1_0 _ l1 _ ?_ (by omega)).mono ?_; exact h1.drew.roInts 14 rfl; rintro (e : Ending) w17 ⟨u, rfl, ho, hb1⟩; obtain ⟨B13, d13, rfl, _, _, _⟩ := id ho.ints; have h2 := h1.drew.pushOwn hb1 ho; obtain ⟨y0', y1'⟩ := h2.box2 3 rfl; obtain ⟨x0', x1'⟩ := h2.box2 11 rfl)
              | (go_at_call 13; refine (eqCartan_same a1_0 _ _ l1 _ (h2.ownInts 4 rfl) (h2.ownInts 0 rfl)).mono ?_; rintro (e : Ending) w18 ⟨rfl, hb2⟩; have h3 := h2.on hb2; obtain ⟨y0'', y1''⟩ := h3.box2 3 rfl; obtain ⟨x0'', x1''⟩ := h3.box2 11 rfl))
          clear y0 y1 x0 x1 y0' y1' x0' x1' y0'' y1'' x0'' x1'' h2 h1 hb1 hb2 ho
          have h1 := h3.drop 1
          clear h3
          go_wp2_with fail
          refine (toIntSS_any _ l2 _ (h1.fact 13 rfl) (by omega)).mono ?_
          rintro (e : Ending) w19 ⟨u, us14, rfl, hu14, hok, hnd, hb1⟩
          obtain ⟨B14, d14, rfl, _, _, _⟩ := id (It.rows hok hu14)
          replace h1 := h1.pushRows hb1 hok hnd
          clear hok hnd hb1
          go_wp2_with fail
          refine (eqIntSS_any _ _ l2 l2 _ (h1.rowsR 2 rfl hu9) (h1.rowsR 0 rfl hu14)).mono ?_
          rintro (e : Ending) w20 ⟨rfl, nd, rfl⟩
          replace h1 := h1.drewN nd
          replace h1 := h1.drop 1
          go_wp2_with fail
          refine (toIntSS_any _ l3 _ (h1.fact 12 rfl) (by omega)).mono ?_
          rintro (e : Ending) w21 ⟨u, us15, rfl, hu15, hok, hnd, hb1⟩
          obtain ⟨B15, d15, rfl, _, _, _⟩ := id (It.rows hok hu15)
          replace h1 := h1.pushRows hb1 hok hnd
          clear hok hnd hb1
          go_wp2_with fail
          refine (eqIntSS_any _ _ l3 l3 _ (h1.rowsR 1 rfl hu10) (h1.rowsR 0 rfl hu15)).mono ?_
          rintro (e : Ending) w22 ⟨rfl, nd, rfl⟩
          replace h1 := h1.drewN nd
          replace h1 := h1.drop 1
          go_wp2_with fail
          go_ret
          exact ⟨rfl, h1.below⟩
end Srr
end Go.Proofs.YtcngijafnnmccaaGreatDoor
