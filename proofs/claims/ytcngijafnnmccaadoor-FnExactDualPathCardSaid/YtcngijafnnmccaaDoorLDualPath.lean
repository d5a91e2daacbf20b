/- The law FnExactDualPath, walked. (Written by lgen2.py.) -/
import Derived.Test.YtcngijafnnmccaaDoorPthM
import Derived.Test.YtcngijafnnmccaaDoorRegX
import Derived.Test.YtcngijafnnmccaaDoorLawC
import Derived.Test.YtcngijafnnmccaaDoorShellP
namespace Go.Proofs.YtcngijafnnmccaaDoor
set_option maxRecDepth 100000
open Go.RowKit
namespace Stp

set_option maxHeartbeats 4000000 in
theorem lawDualPath {w : World} (a0_0 : Int) (v0 : Value) (l0 : List Int) (g0 : Ints w v0 l0) (wf0_0 : (Lit.int .i64 a0_0).wf = true) (_ : ∀ x ∈ l0, (Lit.int .i64 x).wf = true) (v1 : Value) (l1 : List Sg) (g1 : StR w v1 l1) (hM : Car.MaxAt w) :
    Calls Tryd.prog 7 #[.agg #[.int .i64 a0_0, v0], v1] w fun e w' => e = .returned (.bool true) ∧ Below w.heap.size w w' := by
  by_cases L0 : ((l0.length : Nat) : Int) ≤ 1048576
  case neg =>
    have h1 := (((St.start w).arg g0).pushFact g1.fact).box [.int .i64 a0_0, v0] 28
    obtain ⟨A0, c0, rfl, _, _, _⟩ := id g0
    obtain ⟨A1, c1, rfl, _, _, _⟩ := id g1
    clear g0 g1
    go_enter Tryd.func7, Tryd.ntmps7
    obtain ⟨zb0_0, zb0_1⟩ := h1.box2 0 rfl
    go_wp2_with fail
    refine (szCartan_no a0_0 (1048576) _ l0 _ (h1.roInts 2 rfl) (by omega) (by omega) (by omega)).mono ?_
    rintro (e : Ending) w1 ⟨rfl, hb1⟩
    replace h1 := h1.on hb1
    clear hb1
    clear zb0_0 zb0_1
    go_wp2_with fail
    go_ret
    exact ⟨rfl, h1.below⟩
  case pos =>
    by_cases L1 : ((szSs l1 : Nat) : Int) ≤ 1048576 - (l0.length : Nat)
    case neg =>
      have h1 := (((St.start w).arg g0).pushFact g1.fact).box [.int .i64 a0_0, v0] 28
      obtain ⟨A0, c0, rfl, _, _, _⟩ := id g0
      obtain ⟨A1, c1, rfl, _, _, _⟩ := id g1
      clear g0 g1
      go_enter Tryd.func7, Tryd.ntmps7
      obtain ⟨zb0_0, zb0_1⟩ := h1.box2 0 rfl
      go_wp2_with fail
      refine (szCartan_yes a0_0 (1048576) _ l0 _ (h1.roInts 2 rfl) (by omega) (by omega)).mono ?_
      rintro (e : Ending) w1 ⟨rfl, hb1⟩
      replace h1 := h1.on hb1
      clear hb1
      clear zb0_0 zb0_1
      go_wp2_with fail
      refine (szStepS_no (1048576 - (l0.length : Nat)) _ l1 _ (h1.fact 1 rfl) (by omega) (by omega) (by omega)).mono ?_
      rintro (e : Ending) w2 ⟨rfl, hb1⟩
      replace h1 := h1.on hb1
      clear hb1
      go_wp2_with fail
      go_ret
      exact ⟨rfl, h1.below⟩
    case pos =>
      have hr := Car.wf_both wf0_0
      have bd := dualV_bd a0_0 l0 l1
      have bs : markSsLen l1 ≤ 3 * szSs l1 := by unfold markSsLen szSs; omega
      have h1 := (((St.start w).arg g0).pushFact g1.fact).box [.int .i64 a0_0, v0] 28
      obtain ⟨A0, c0, rfl, _, _, _⟩ := id g0
      obtain ⟨A1, c1, rfl, _, _, _⟩ := id g1
      clear g0 g1
      go_enter Tryd.func7, Tryd.ntmps7
      obtain ⟨zb0_0, zb0_1⟩ := h1.box2 0 rfl
      go_wp2_with fail
      refine (szCartan_yes a0_0 (1048576) _ l0 _ (h1.roInts 2 rfl) (by omega) (by omega)).mono ?_
      rintro (e : Ending) w1 ⟨rfl, hb1⟩
      replace h1 := h1.on hb1
      clear hb1
      clear zb0_0 zb0_1
      go_wp2_with fail
      refine (szStepS_yes (1048576 - (l0.length : Nat)) _ l1 _ (h1.fact 1 rfl) (by omega) (by omega)).mono ?_
      rintro (e : Ending) w2 ⟨rfl, hb1⟩
      replace h1 := h1.on hb1
      clear hb1
      obtain ⟨zb0_0, zb0_1⟩ := h1.box2 0 rfl
      go_wp2_with fail
      refine (toCartan_any a0_0 _ l0 _ (h1.roInts 2 rfl) (by omega)).mono ?_
      rintro (e : Ending) w3 ⟨u, rfl, ho, hb1⟩
      obtain ⟨B1, d1, rfl, _, _, _⟩ := id ho.ints
      replace h1 := h1.pushOwn hb1 ho
      clear ho hb1
      clear zb0_0 zb0_1
      go_wp2_with fail
      refine (toStepS_any _ l1 _ (h1.fact 2 rfl) (by omega)).mono ?_
      rintro (e : Ending) w4 ⟨u, us2, rfl, hu2, hok, hnd, hb1⟩
      obtain ⟨B2, d2, rfl, _, _, _⟩ := id (It.steps hok hu2)
      replace h1 := h1.pushSteps hb1 hok hnd
      clear hok hnd hb1
      go_wp2_with fail
      refine (DualPathS_any a0_0 _ _ l0 l1 _ (h1.ownInts 1 rfl) (h1.steps 0 rfl hu2)).mono ?_
      rintro (e : Ending) w5 ⟨u, us3, rfl, hu3, hok, hnd, hb1⟩
      obtain ⟨B3, d3, rfl, _, _, _⟩ := id (It.steps hok hu3)
      replace h1 := h1.pushSteps hb1 hok hnd
      clear hok hnd hb1
      obtain ⟨zb3_0, zb3_1⟩ := h1.box2 3 rfl
      go_wp2_with fail
      refine (toCartan_any a0_0 _ l0 _ (h1.roInts 5 rfl) (by omega)).mono ?_
      rintro (e : Ending) w6 ⟨u, rfl, ho, hb1⟩
      obtain ⟨B4, d4, rfl, _, _, _⟩ := id ho.ints
      replace h1 := h1.pushOwn hb1 ho
      clear ho hb1
      clear zb3_0 zb3_1
      replace h1 := h1.box [.int .i64 a0_0, .slice B4 l0.length d4] 33
      go_wp2_with fail
      refine (toStepS_any _ l1 _ (h1.fact 6 rfl) (by omega)).mono ?_
      rintro (e : Ending) w7 ⟨u, us5, rfl, hu5, hok, hnd, hb1⟩
      obtain ⟨B5, d5, rfl, _, _, _⟩ := id (It.steps hok hu5)
      replace h1 := h1.pushSteps hb1 hok hnd
      clear hok hnd hb1
      obtain ⟨zb1_0, zb1_1⟩ := h1.box2 1 rfl
      go_wp2_with fail
      refine (DualPathI_any a0_0 _ _ l0 l1 _ (h1.ownInts 2 rfl) (h1.steps 0 rfl hu5) (Car.MaxAt.below hM h1.below) hr).mono ?_
      rintro (e : Ending) w8 ⟨u, us6, rfl, hu6, hok, hnd, hb1⟩
      obtain ⟨B6, d6, rfl, _, _, _⟩ := id (It.steps hok hu6)
      replace h1 := h1.pushSteps hb1 hok hnd
      clear hok hnd hb1
      clear zb1_0 zb1_1
      go_wp2_with fail
      refine (eqStepS_same _ _ (dualV a0_0 l0 l1) _ (h1.steps 0 rfl hu6) (h1.steps 4 rfl hu3)).mono ?_
      rintro (e : Ending) w9 ⟨rfl, hb1⟩
      replace h1 := h1.on hb1
      clear hb1
      go_wp2_with fail
      obtain ⟨y0, y1⟩ := h1.box2 2 rfl
      obtain ⟨x0, x1⟩ := h1.box2 7 rfl
      go_region_held3 (fun w' => w'.cell? ⟨w6.heap.size, 0, none⟩ = some (.int .i64 a0_0) ∧ w'.cell? ⟨w6.heap.size, 1, none⟩ = some (.slice B4 l0.length d4) ∧ w'.cell? ⟨w.heap.size, 0, none⟩ = some (.int .i64 a0_0) ∧ w'.cell? ⟨w.heap.size, 1, none⟩ = some (.slice A0 l0.length c0))
        (first | exact ⟨y0, y1, x0, x1⟩ | exact ⟨y0', y1', x0', x1'⟩ | exact ⟨y0'', y1'', x0'', x1''⟩)
        (first
          | (go_at_call 15; refine (toCartan_any a0_0 _ l0 _ ?_ (by omega)).mono ?_; exact h1.drew.roInts 9 rfl; rintro (e : Ending) w10 ⟨u, rfl, ho, hb1⟩; obtain ⟨B7, d7, rfl, _, _, _⟩ := id ho.ints; have h2 := h1.drew.pushOwn hb1 ho; obtain ⟨y0', y1'⟩ := h2.box2 3 rfl; obtain ⟨x0', x1'⟩ := h2.box2 8 rfl)
          | (go_at_call 18; refine (eqCartan_same a0_0 _ _ l0 _ (h2.ownInts 4 rfl) (h2.ownInts 0 rfl)).mono ?_; rintro (e : Ending) w11 ⟨rfl, hb2⟩; have h3 := h2.on hb2; obtain ⟨y0'', y1''⟩ := h3.box2 3 rfl; obtain ⟨x0'', x1''⟩ := h3.box2 8 rfl))
      clear y0 y1 x0 x1 y0' y1' x0' x1' y0'' y1'' x0'' x1'' h2 h1 hb1 hb2 ho
      have h1 := h3.drop 1
      clear h3
      go_wp2_with fail
      refine (toStepS_any _ l1 _ (h1.fact 8 rfl) (by omega)).mono ?_
      rintro (e : Ending) w12 ⟨u, us8, rfl, hu8, hok, hnd, hb1⟩
      obtain ⟨B8, d8, rfl, _, _, _⟩ := id (It.steps hok hu8)
      replace h1 := h1.pushSteps hb1 hok hnd
      clear hok hnd hb1
      go_wp2_with fail
      refine (eqStepS_same _ _ l1 _ (h1.steps 2 rfl hu5) (h1.steps 0 rfl hu8)).mono ?_
      rintro (e : Ending) w13 ⟨rfl, hb1⟩
      replace h1 := h1.on hb1
      clear hb1
      replace h1 := h1.drop 1
      obtain ⟨zb2_0, zb2_1⟩ := h1.box2 2 rfl
      go_wp2_with fail
      refine (markCartan_any h1 3 rfl a0_0 (1) (by omega) (by omega) (by omega)).mono ?_
      rintro (e : Ending) w14 ⟨rfl, h2⟩
      replace h1 := h2
      clear h2
      clear zb2_0 zb2_1
      go_wp2_with fail
      refine (markStepS_any h1 1 rfl hu5 (1 + (((l0).length : Nat) : Int)) (by omega) (by omega) (by omega)).mono ?_
      rintro (e : Ending) w15 ⟨rfl, h2⟩
      replace h1 := h2
      clear h2
      go_wp2_with fail
      refine (eqStepS_same _ _ (dualV a0_0 l0 l1) _ (h1.steps 0 rfl hu6) (h1.steps 4 rfl hu3)).mono ?_
      rintro (e : Ending) w16 ⟨rfl, hb1⟩
      replace h1 := h1.on hb1
      clear hb1
      go_wp2_with fail
      refine (markStepS_any h1 0 rfl hu6 (1) (by omega) (by omega) (by omega)).mono ?_
      rintro (e : Ending) w17 ⟨rfl, h2⟩
      replace h1 := h2
      clear h2
      go_wp2_with fail
      refine (heldStepS_any _ (dualV a0_0 l0 l1) (1) _ (h1.steps 0 rfl (by rw [length_markSs]; exact hu6)) (by omega) (by omega) (by omega)).mono ?_
      rintro (e : Ending) w18 ⟨rfl, hb1⟩
      replace h1 := h1.on hb1
      clear hb1
      obtain ⟨zb7_0, zb7_1⟩ := h1.box2 7 rfl
      go_wp2_with fail
      refine (toCartan_any a0_0 _ l0 _ (h1.roInts 9 rfl) (by omega)).mono ?_
      rintro (e : Ending) w19 ⟨u, rfl, ho, hb1⟩
      obtain ⟨B9, d9, rfl, _, _, _⟩ := id ho.ints
      replace h1 := h1.pushOwn hb1 ho
      clear ho hb1
      clear zb7_0 zb7_1
      go_wp2_with fail
      refine (toStepS_any _ l1 _ (h1.fact 9 rfl) (by omega)).mono ?_
      rintro (e : Ending) w20 ⟨u, us10, rfl, hu10, hok, hnd, hb1⟩
      obtain ⟨B10, d10, rfl, _, _, _⟩ := id (It.steps hok hu10)
      replace h1 := h1.pushSteps hb1 hok hnd
      clear hok hnd hb1
      go_wp2_with fail
      refine (DualPathI_any a0_0 _ _ l0 l1 _ (h1.ownInts 1 rfl) (h1.steps 0 rfl hu10) (Car.MaxAt.below hM h1.below) hr).mono ?_
      rintro (e : Ending) w21 ⟨u, us11, rfl, hu11, hok, hnd, hb1⟩
      obtain ⟨B11, d11, rfl, _, _, _⟩ := id (It.steps hok hu11)
      replace h1 := h1.pushSteps hb1 hok hnd
      clear hok hnd hb1
      go_wp2_with fail
      refine (eqStepS_same _ _ (dualV a0_0 l0 l1) _ (h1.steps 0 rfl hu11) (h1.steps 7 rfl hu3)).mono ?_
      rintro (e : Ending) w22 ⟨rfl, hb1⟩
      replace h1 := h1.on hb1
      clear hb1
      go_wp2_with fail
      refine (heldStepS_any _ (dualV a0_0 l0 l1) (1) _ (h1.steps 3 rfl (by rw [length_markSs]; exact hu6)) (by omega) (by omega) (by omega)).mono ?_
      rintro (e : Ending) w23 ⟨rfl, hb1⟩
      replace h1 := h1.on hb1
      clear hb1
      go_wp2_with fail
      go_ret
      exact ⟨rfl, h1.below⟩
end Stp
end Go.Proofs.YtcngijafnnmccaaDoor
