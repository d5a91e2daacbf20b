/- The law FnExactMapsBetween, walked. (Written by lgen2.py.) -/
import Derived.Test.YtcdbgcpccmcbeaaMapsS
import Derived.Test.YtcdbgcpccmcbeaaMapsI
import Derived.Test.YtcdbgcpccmcbeaaLawR
import Derived.Test.YtcdbgcpccmcbeaaRegX
import Derived.Test.YtcdbgcpccmcbeaaLawM
import Derived.Test.YtcdbgcpccmcbeaaLawB
import Derived.Test.YtcdbgcpccmcbeaaShellC
namespace Go.Proofs.Ytcdbgcpccmcbeaa
set_option maxRecDepth 100000
open Go.RowKit
namespace Mb

set_option maxHeartbeats 4000000 in
theorem lawMapsBetween {w : World} (a0_0 a0_1 : Int) (v0 : Value) (l0 : List Int) (g0 : Ints w v0 l0) (wf0_0 : (Lit.int .i64 a0_0).wf = true) (_wf0_1 : (Lit.int .i64 a0_1).wf = true) (_ : ∀ x ∈ l0, (Lit.int .i64 x).wf = true) (v1 : Value) (l1 : List Mt) (g1 : MatsR w v1 l1) (wf1 : MsWf l1) (v2 : Value) (l2 : List Mt) (g2 : MatsR w v2 l2) (wf2 : MsWf l2) :
    Calls Try.prog 8 #[.agg #[.int .i64 a0_0, .int .i64 a0_1, v0], v1, v2] w fun e w' => e = .returned (.bool true) ∧ Below w.heap.size w w' := by
  by_cases L0 : ((l0.length : Nat) : Int) ≤ 1048576
  case neg =>
    have h1 := ((((St.start w).arg g0).pushFact g1.fact).pushFact g2.fact).box [.int .i64 a0_0, .int .i64 a0_1, v0] 24
    obtain ⟨A0, c0, rfl, _, _, _⟩ := id g0
    obtain ⟨A1, c1, rfl, _, _, _⟩ := id g1
    obtain ⟨A2, c2, rfl, _, _, _⟩ := id g2
    clear g0 g1 g2
    go_enter Try.func8, Try.ntmps8
    obtain ⟨zb0_0, zb0_1, zb0_2⟩ := h1.box3 0 rfl
    go_wp2_with fail
    refine (szAlgebra_no a0_0 a0_1 (1048576) _ l0 _ (h1.roInts 3 rfl) (by omega) (by omega) (by omega)).mono ?_
    rintro (e : Ending) w1 ⟨rfl, hb1⟩
    replace h1 := h1.on hb1
    clear hb1
    clear zb0_0 zb0_1 zb0_2
    go_wp2_with fail
    go_ret
    exact ⟨rfl, h1.below⟩
  case pos =>
    by_cases L1 : ((szMs l1 : Nat) : Int) ≤ 1048576 - (l0.length : Nat)
    case neg =>
      have h1 := ((((St.start w).arg g0).pushFact g1.fact).pushFact g2.fact).box [.int .i64 a0_0, .int .i64 a0_1, v0] 24
      obtain ⟨A0, c0, rfl, _, _, _⟩ := id g0
      obtain ⟨A1, c1, rfl, _, _, _⟩ := id g1
      obtain ⟨A2, c2, rfl, _, _, _⟩ := id g2
      clear g0 g1 g2
      go_enter Try.func8, Try.ntmps8
      obtain ⟨zb0_0, zb0_1, zb0_2⟩ := h1.box3 0 rfl
      go_wp2_with fail
      refine (szAlgebra_yes a0_0 a0_1 (1048576) _ l0 _ (h1.roInts 3 rfl) (by omega) (by omega)).mono ?_
      rintro (e : Ending) w1 ⟨rfl, hb1⟩
      replace h1 := h1.on hb1
      clear hb1
      clear zb0_0 zb0_1 zb0_2
      go_wp2_with fail
      refine (szMatrixS_no (1048576 - (l0.length : Nat)) _ l1 _ (h1.fact 2 rfl) (by omega) (by omega) (by omega)).mono ?_
      rintro (e : Ending) w2 ⟨rfl, hb1⟩
      replace h1 := h1.on hb1
      clear hb1
      go_wp2_with fail
      go_ret
      exact ⟨rfl, h1.below⟩
    case pos =>
      by_cases L2 : ((szMs l2 : Nat) : Int) ≤ 1048576 - (l0.length : Nat) - (szMs l1 : Nat)
      case neg =>
        have h1 := ((((St.start w).arg g0).pushFact g1.fact).pushFact g2.fact).box [.int .i64 a0_0, .int .i64 a0_1, v0] 24
        obtain ⟨A0, c0, rfl, _, _, _⟩ := id g0
        obtain ⟨A1, c1, rfl, _, _, _⟩ := id g1
        obtain ⟨A2, c2, rfl, _, _, _⟩ := id g2
        clear g0 g1 g2
        go_enter Try.func8, Try.ntmps8
        obtain ⟨zb0_0, zb0_1, zb0_2⟩ := h1.box3 0 rfl
        go_wp2_with fail
        refine (szAlgebra_yes a0_0 a0_1 (1048576) _ l0 _ (h1.roInts 3 rfl) (by omega) (by omega)).mono ?_
        rintro (e : Ending) w1 ⟨rfl, hb1⟩
        replace h1 := h1.on hb1
        clear hb1
        clear zb0_0 zb0_1 zb0_2
        go_wp2_with fail
        refine (szMatrixS_yes (1048576 - (l0.length : Nat)) _ l1 _ (h1.fact 2 rfl) (by omega) (by omega)).mono ?_
        rintro (e : Ending) w2 ⟨rfl, hb1⟩
        replace h1 := h1.on hb1
        clear hb1
        go_wp2_with fail
        refine (szMatrixS_no (1048576 - (l0.length : Nat) - (szMs l1 : Nat)) _ l2 _ (h1.fact 1 rfl) (by omega) (by omega) (by omega)).mono ?_
        rintro (e : Ending) w3 ⟨rfl, hb1⟩
        replace h1 := h1.on hb1
        clear hb1
        go_wp2_with fail
        go_ret
        exact ⟨rfl, h1.below⟩
      case pos =>
        have hp := wf_le wf0_0
        have hw : ∀ i, i < l1.length → (mAt l1 i).p ≤ 9223372036854775807 := fun i hi => wf_le (wf1 _ (by rw [← mAt_get hi]; exact List.getElem_mem hi)).1
        have hw2 : ∀ i, i < l2.length → (mAt l2 i).p ≤ 9223372036854775807 := fun i hi => wf_le (wf2 _ (by rw [← mAt_get hi]; exact List.getElem_mem hi)).1
        have bd := (mbL_bd a0_0 a0_1 l0 l1 l2).1
        have bdl := (mbL_bd a0_0 a0_1 l0 l1 l2).2
        have bm : markMsLen l1 ≤ 3 * szMs l1 := by unfold markMsLen szMs; omega
        have bm2 : markMsLen l2 ≤ 3 * szMs l2 := by unfold markMsLen szMs; omega
        have h1 := ((((St.start w).arg g0).pushFact g1.fact).pushFact g2.fact).box [.int .i64 a0_0, .int .i64 a0_1, v0] 24
        obtain ⟨A0, c0, rfl, _, _, _⟩ := id g0
        obtain ⟨A1, c1, rfl, _, _, _⟩ := id g1
        obtain ⟨A2, c2, rfl, _, _, _⟩ := id g2
        clear g0 g1 g2
        go_enter Try.func8, Try.ntmps8
        obtain ⟨zb0_0, zb0_1, zb0_2⟩ := h1.box3 0 rfl
        go_wp2_with fail
        refine (szAlgebra_yes a0_0 a0_1 (1048576) _ l0 _ (h1.roInts 3 rfl) (by omega) (by omega)).mono ?_
        rintro (e : Ending) w1 ⟨rfl, hb1⟩
        replace h1 := h1.on hb1
        clear hb1
        clear zb0_0 zb0_1 zb0_2
        go_wp2_with fail
        refine (szMatrixS_yes (1048576 - (l0.length : Nat)) _ l1 _ (h1.fact 2 rfl) (by omega) (by omega)).mono ?_
        rintro (e : Ending) w2 ⟨rfl, hb1⟩
        replace h1 := h1.on hb1
        clear hb1
        go_wp2_with fail
        refine (szMatrixS_yes (1048576 - (l0.length : Nat) - (szMs l1 : Nat)) _ l2 _ (h1.fact 1 rfl) (by omega) (by omega)).mono ?_
        rintro (e : Ending) w3 ⟨rfl, hb1⟩
        replace h1 := h1.on hb1
        clear hb1
        obtain ⟨zb0_0, zb0_1, zb0_2⟩ := h1.box3 0 rfl
        go_wp2_with fail
        refine (toAlgebra_any a0_0 a0_1 _ l0 _ (h1.roInts 3 rfl) (by omega)).mono ?_
        rintro (e : Ending) w4 ⟨u, rfl, ho, hb1⟩
        obtain ⟨B1, d1, rfl, _, _, _⟩ := id ho.ints
        replace h1 := h1.pushOwn hb1 ho
        clear ho hb1
        clear zb0_0 zb0_1 zb0_2
        go_wp2_with fail
        refine (toMatrixS_any _ l1 _ (h1.fact 3 rfl) (by omega)).mono ?_
        rintro (e : Ending) w5 ⟨u, us2, rfl, hu2, hok, hnd, hb1⟩
        obtain ⟨B2, d2, rfl, _, _, _⟩ := id (It.mats hok hu2)
        replace h1 := h1.pushMats hb1 hok hnd
        clear hok hnd hb1
        go_wp2_with fail
        refine (toMatrixS_any _ l2 _ (h1.fact 3 rfl) (by omega)).mono ?_
        rintro (e : Ending) w6 ⟨u, us3, rfl, hu3, hok, hnd, hb1⟩
        obtain ⟨B3, d3, rfl, _, _, _⟩ := id (It.mats hok hu3)
        replace h1 := h1.pushMats hb1 hok hnd
        clear hok hnd hb1
        go_wp2_with fail
        refine (MapsBetweenS_any a0_0 a0_1 _ _ _ l0 l1 l2 _ (h1.ownInts 2 rfl) (h1.mats 1 rfl hu2) (h1.mats 0 rfl hu3) hp hw hw2).mono ?_
        rintro (e : Ending) w7 ⟨u, us4, rfl, hu4, hok, hnd, hb1⟩
        obtain ⟨B4, d4, rfl, _, _, _⟩ := id (It.rows hok hu4)
        replace h1 := h1.pushRows hb1 hok hnd
        clear hok hnd hb1
        obtain ⟨zb4_0, zb4_1, zb4_2⟩ := h1.box3 4 rfl
        go_wp2_with fail
        refine (toAlgebra_any a0_0 a0_1 _ l0 _ (h1.roInts 7 rfl) (by omega)).mono ?_
        rintro (e : Ending) w8 ⟨u, rfl, ho, hb1⟩
        obtain ⟨B5, d5, rfl, _, _, _⟩ := id ho.ints
        replace h1 := h1.pushOwn hb1 ho
        clear ho hb1
        clear zb4_0 zb4_1 zb4_2
        replace h1 := h1.box [.int .i64 a0_0, .int .i64 a0_1, .slice B5 l0.length d5] 29
        go_wp2_with fail
        refine (toMatrixS_any _ l1 _ (h1.fact 8 rfl) (by omega)).mono ?_
        rintro (e : Ending) w9 ⟨u, us6, rfl, hu6, hok, hnd, hb1⟩
        obtain ⟨B6, d6, rfl, _, _, _⟩ := id (It.mats hok hu6)
        replace h1 := h1.pushMats hb1 hok hnd
        clear hok hnd hb1
        go_wp2_with fail
        refine (toMatrixS_any _ l2 _ (h1.fact 8 rfl) (by omega)).mono ?_
        rintro (e : Ending) w10 ⟨u, us7, rfl, hu7, hok, hnd, hb1⟩
        obtain ⟨B7, d7, rfl, _, _, _⟩ := id (It.mats hok hu7)
        replace h1 := h1.pushMats hb1 hok hnd
        clear hok hnd hb1
        obtain ⟨zb2_0, zb2_1, zb2_2⟩ := h1.box3 2 rfl
        go_wp2_with fail
        refine (MapsBetweenI_any a0_0 a0_1 _ _ _ l0 l1 l2 _ (h1.ownInts 3 rfl) (h1.mats 1 rfl hu6) (h1.mats 0 rfl hu7) hp hw hw2).mono ?_
        rintro (e : Ending) w11 ⟨u, us8, rfl, hu8, hok, hnd, hb1⟩
        obtain ⟨B8, d8, rfl, _, _, _⟩ := id (It.rows hok hu8)
        replace h1 := h1.pushRows hb1 hok hnd
        clear hok hnd hb1
        clear zb2_0 zb2_1 zb2_2
        go_wp2_with fail
        refine (eqIntSS_any _ _ (mbL a0_0 a0_1 l0 l1 l2) (mbL a0_0 a0_1 l0 l1 l2) _ (h1.rowsR 0 rfl hu8) (h1.rowsR 5 rfl hu4)).mono ?_
        rintro (e : Ending) w12 ⟨rfl, nd, rfl⟩
        replace h1 := h1.drewN nd
        go_wp2_with fail
        obtain ⟨y0, y1, y2⟩ := h1.box3 3 rfl
        obtain ⟨x0, x1, x2⟩ := h1.box3 9 rfl
        go_region_held3 (fun w' => w'.cell? ⟨w8.heap.size, 0, none⟩ = some (.int .i64 a0_0) ∧ w'.cell? ⟨w8.heap.size, 1, none⟩ = some (.int .i64 a0_1) ∧ w'.cell? ⟨w8.heap.size, 2, none⟩ = some (.slice B5 l0.length d5) ∧ w'.cell? ⟨w.heap.size, 0, none⟩ = some (.int .i64 a0_0) ∧ w'.cell? ⟨w.heap.size, 1, none⟩ = some (.int .i64 a0_1) ∧ w'.cell? ⟨w.heap.size, 2, none⟩ = some (.slice A0 l0.length c0))
          (first | exact ⟨y0, y1, y2, x0, x1, x2⟩ | exact ⟨y0', y1', y2', x0', x1', x2'⟩ | exact ⟨y0'', y1'', y2'', x0'', x1'', x2''⟩)
          (first
            | (go_at_call 15; refine (toAlgebra_any a0_0 a0_1 _ l0 _ ?_ (by omega)).mono ?_; exact h1.drew.roInts 12 rfl; rintro (e : Ending) w13 ⟨u, rfl, ho, hb1⟩; obtain ⟨B9, d9, rfl, _, _, _⟩ := id ho.ints; have h2 := h1.drew.pushOwn hb1 ho; obtain ⟨y0', y1', y2'⟩ := h2.box3 4 rfl; obtain ⟨x0', x1', x2'⟩ := h2.box3 10 rfl)
            | (go_at_call 18; refine (eqAlgebra_same a0_0 a0_1 _ _ l0 _ (h2.ownInts 5 rfl) (h2.ownInts 0 rfl)).mono ?_; rintro (e : Ending) w14 ⟨rfl, hb2⟩; have h3 := h2.on hb2; obtain ⟨y0'', y1'', y2''⟩ := h3.box3 4 rfl; obtain ⟨x0'', x1'', x2''⟩ := h3.box3 10 rfl))
        clear y0 y1 y2 x0 x1 x2 y0' y1' y2' x0' x1' x2' y0'' y1'' y2'' x0'' x1'' x2'' h2 h1 hb1 hb2 ho
        have h1 := h3.drop 1
        clear h3
        go_wp2_with fail
        refine (toMatrixS_any _ l1 _ (h1.fact 11 rfl) (by omega)).mono ?_
        rintro (e : Ending) w15 ⟨u, us10, rfl, hu10, hok, hnd, hb1⟩
        obtain ⟨B10, d10, rfl, _, _, _⟩ := id (It.mats hok hu10)
        replace h1 := h1.pushMats hb1 hok hnd
        clear hok hnd hb1
        go_wp2_with fail
        refine (eqMatrixS_same _ _ l1 _ (h1.mats 3 rfl hu6) (h1.mats 0 rfl hu10)).mono ?_
        rintro (e : Ending) w16 ⟨rfl, hb1⟩
        replace h1 := h1.on hb1
        clear hb1
        replace h1 := h1.drop 1
        go_wp2_with fail
        refine (toMatrixS_any _ l2 _ (h1.fact 10 rfl) (by omega)).mono ?_
        rintro (e : Ending) w17 ⟨u, us11, rfl, hu11, hok, hnd, hb1⟩
        obtain ⟨B11, d11, rfl, _, _, _⟩ := id (It.mats hok hu11)
        replace h1 := h1.pushMats hb1 hok hnd
        clear hok hnd hb1
        go_wp2_with fail
        refine (eqMatrixS_same _ _ l2 _ (h1.mats 2 rfl hu7) (h1.mats 0 rfl hu11)).mono ?_
        rintro (e : Ending) w18 ⟨rfl, hb1⟩
        replace h1 := h1.on hb1
        clear hb1
        replace h1 := h1.drop 1
        obtain ⟨zb3_0, zb3_1, zb3_2⟩ := h1.box3 3 rfl
        go_wp2_with fail
        refine (markAlgebra_any h1 4 rfl a0_0 a0_1 (1) (by omega) (by omega) (by omega)).mono ?_
        rintro (e : Ending) w19 ⟨rfl, h2⟩
        replace h1 := h2
        clear h2
        clear zb3_0 zb3_1 zb3_2
        go_wp2_with fail
        refine (markMatrixS_any h1 2 rfl hu6 (1 + (((l0).length : Nat) : Int)) (by omega) (by omega) (by omega)).mono ?_
        rintro (e : Ending) w20 ⟨rfl, h2⟩
        replace h1 := h2
        clear h2
        go_wp2_with fail
        refine (markMatrixS_any h1 1 rfl hu7 (1 + (((l0).length : Nat) : Int) + ((markMsLen l1 : Nat) : Int)) (by omega) (by omega) (by omega)).mono ?_
        rintro (e : Ending) w21 ⟨rfl, h2⟩
        replace h1 := h2
        clear h2
        go_wp2_with fail
        refine (eqIntSS_any _ _ (mbL a0_0 a0_1 l0 l1 l2) (mbL a0_0 a0_1 l0 l1 l2) _ (h1.rowsR 0 rfl hu8) (h1.rowsR 5 rfl hu4)).mono ?_
        rintro (e : Ending) w22 ⟨rfl, nd, rfl⟩
        replace h1 := h1.drewN nd
        go_wp2_with fail
        refine (markIntSS_st h1 0 rfl hu8 (1) (by omega) (by omega) (by omega) (by omega)).mono ?_
        rintro (e : Ending) w23 ⟨rfl, h2⟩
        replace h1 := h2
        clear h2
        go_wp2_with fail
        refine (heldIntSS_any _ (mbL a0_0 a0_1 l0 l1 l2) (1) _ (h1.rowsR 0 rfl (by rw [length_markRows]; exact hu8)) (by omega) (by omega) (by omega)).mono ?_
        rintro (e : Ending) w24 ⟨rfl, rfl⟩
        obtain ⟨zb9_0, zb9_1, zb9_2⟩ := h1.box3 9 rfl
        go_wp2_with fail
        refine (toAlgebra_any a0_0 a0_1 _ l0 _ (h1.roInts 12 rfl) (by omega)).mono ?_
        rintro (e : Ending) w25 ⟨u, rfl, ho, hb1⟩
        obtain ⟨B12, d12, rfl, _, _, _⟩ := id ho.ints
        replace h1 := h1.pushOwn hb1 ho
        clear ho hb1
        clear zb9_0 zb9_1 zb9_2
        go_wp2_with fail
        refine (toMatrixS_any _ l1 _ (h1.fact 12 rfl) (by omega)).mono ?_
        rintro (e : Ending) w26 ⟨u, us13, rfl, hu13, hok, hnd, hb1⟩
        obtain ⟨B13, d13, rfl, _, _, _⟩ := id (It.mats hok hu13)
        replace h1 := h1.pushMats hb1 hok hnd
        clear hok hnd hb1
        go_wp2_with fail
        refine (toMatrixS_any _ l2 _ (h1.fact 12 rfl) (by omega)).mono ?_
        rintro (e : Ending) w27 ⟨u, us14, rfl, hu14, hok, hnd, hb1⟩
        obtain ⟨B14, d14, rfl, _, _, _⟩ := id (It.mats hok hu14)
        replace h1 := h1.pushMats hb1 hok hnd
        clear hok hnd hb1
        go_wp2_with fail
        refine (MapsBetweenI_any a0_0 a0_1 _ _ _ l0 l1 l2 _ (h1.ownInts 2 rfl) (h1.mats 1 rfl hu13) (h1.mats 0 rfl hu14) hp hw hw2).mono ?_
        rintro (e : Ending) w28 ⟨u, us15, rfl, hu15, hok, hnd, hb1⟩
        obtain ⟨B15, d15, rfl, _, _, _⟩ := id (It.rows hok hu15)
        replace h1 := h1.pushRows hb1 hok hnd
        clear hok hnd hb1
        go_wp2_with fail
        refine (eqIntSS_any _ _ (mbL a0_0 a0_1 l0 l1 l2) (mbL a0_0 a0_1 l0 l1 l2) _ (h1.rowsR 0 rfl hu15) (h1.rowsR 9 rfl hu4)).mono ?_
        rintro (e : Ending) w29 ⟨rfl, nd, rfl⟩
        replace h1 := h1.drewN nd
        go_wp2_with fail
        refine (heldIntSS_any _ (mbL a0_0 a0_1 l0 l1 l2) (1) _ (h1.rowsR 4 rfl (by rw [length_markRows]; exact hu8)) (by omega) (by omega) (by omega)).mono ?_
        rintro (e : Ending) w30 ⟨rfl, rfl⟩
        go_wp2_with fail
        go_ret
        exact ⟨rfl, h1.below⟩
end Mb
end Go.Proofs.Ytcdbgcpccmcbeaa
