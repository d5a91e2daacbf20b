/- The law FnExactKilledBy, walked. (Written by lgen2.py.) -/
import Derived.Test.YthiainhhaokjoaaKilS
import Derived.Test.YthiainhhaokjoaaKilI
import Derived.Test.YthiainhhaokjoaaRegX
import Derived.Test.YthiainhhaokjoaaLawM
import Derived.Test.YthiainhhaokjoaaLawB
import Derived.Test.YthiainhhaokjoaaShellC
namespace Go.Proofs.Ythiainhhaokjoaa
set_option maxRecDepth 100000
open Go.RowKit
namespace Kb

set_option maxHeartbeats 4000000 in
theorem lawKilledBy {w : World} (a0_0 a0_1 : Int) (v0 : Value) (l0 : List Int) (g0 : Ints w v0 l0) (wf0_0 : (Lit.int .i64 a0_0).wf = true) (_wf0_1 : (Lit.int .i64 a0_1).wf = true) (_ : ∀ x ∈ l0, (Lit.int .i64 x).wf = true) (v1 : Value) (l1 : List Mt) (g1 : MatsR w v1 l1) (wf1 : MsWf l1) (v2 : Value) (l2 : List Int) (g2 : Ints w v2 l2) (_ : ∀ x ∈ l2, (Lit.int .i64 x).wf = true) :
    Calls Try.prog 5 #[.agg #[.int .i64 a0_0, .int .i64 a0_1, v0], v1, v2] w fun e w' => e = .returned (.bool true) ∧ Below w.heap.size w w' := by
  by_cases L0 : l2.length ≤ 1048576
  case neg =>
    have h1 := ((((St.start w).arg g0).pushFact g1.fact).arg g2).box [.int .i64 a0_0, .int .i64 a0_1, v0] 47
    obtain ⟨A0, c0, rfl, _, _, _⟩ := id g0
    obtain ⟨A1, c1, rfl, _, _, _⟩ := id g1
    obtain ⟨A2, c2, rfl, _, _, _⟩ := id g2
    clear g0 g1 g2
    go_enter Try.func5, Try.ntmps5
    go_wp2_with fail
    go_ret
    exact ⟨rfl, h1.below⟩
  case pos =>
    by_cases L1 : ((l0.length : Nat) : Int) ≤ 1048576
    case neg =>
      have h1 := ((((St.start w).arg g0).pushFact g1.fact).arg g2).box [.int .i64 a0_0, .int .i64 a0_1, v0] 47
      obtain ⟨A0, c0, rfl, _, _, _⟩ := id g0
      obtain ⟨A1, c1, rfl, _, _, _⟩ := id g1
      obtain ⟨A2, c2, rfl, _, _, _⟩ := id g2
      clear g0 g1 g2
      go_enter Try.func5, Try.ntmps5
      obtain ⟨zb0_0, zb0_1, zb0_2⟩ := h1.box3 0 rfl
      go_wp2_with fail
      refine (szAlgebra_no a0_0 a0_1 (1048576) _ l0 _ (h1.roInts 3 rfl) (by omega) (by omega) (by omega)).mono ?_
      rintro (e : Ending) w1 ⟨rfl, hb1⟩
      replace h1 := h1.on hb1
      clear hb1
      clear zb0_0 zb0_1 zb0_2
      go_wp2_with fail
      go_ret
      exact ⟨rfl, h1.below⟩
    case pos =>
      by_cases L2 : ((szMs l1 : Nat) : Int) ≤ 1048576 - (l0.length : Nat)
      case neg =>
        have h1 := ((((St.start w).arg g0).pushFact g1.fact).arg g2).box [.int .i64 a0_0, .int .i64 a0_1, v0] 47
        obtain ⟨A0, c0, rfl, _, _, _⟩ := id g0
        obtain ⟨A1, c1, rfl, _, _, _⟩ := id g1
        obtain ⟨A2, c2, rfl, _, _, _⟩ := id g2
        clear g0 g1 g2
        go_enter Try.func5, Try.ntmps5
        obtain ⟨zb0_0, zb0_1, zb0_2⟩ := h1.box3 0 rfl
        go_wp2_with fail
        refine (szAlgebra_yes a0_0 a0_1 (1048576) _ l0 _ (h1.roInts 3 rfl) (by omega) (by omega)).mono ?_
        rintro (e : Ending) w1 ⟨rfl, hb1⟩
        replace h1 := h1.on hb1
        clear hb1
        clear zb0_0 zb0_1 zb0_2
        go_wp2_with fail
        refine (szMatrixS_no (1048576 - (l0.length : Nat)) _ l1 _ (h1.fact 2 rfl) (by omega) (by omega) (by omega)).mono ?_
        rintro (e : Ending) w2 ⟨rfl, hb1⟩
        replace h1 := h1.on hb1
        clear hb1
        go_wp2_with fail
        go_ret
        exact ⟨rfl, h1.below⟩
      case pos =>
        have hp := wf_le wf0_0
        have hw : ∀ i, i < l1.length → (mAt l1 i).p ≤ 9223372036854775807 := fun i hi => wf_le (wf1 _ (by rw [← mAt_get hi]; exact List.getElem_mem hi)).1
        have bd := kbD_bd a0_0 a0_1 l0 l1 l2
        have bm : markMsLen l1 ≤ 3 * szMs l1 := by unfold markMsLen szMs; omega
        have hel : l2.length ≤ 1048576 := by omega
        have h1 := ((((St.start w).arg g0).pushFact g1.fact).arg g2).box [.int .i64 a0_0, .int .i64 a0_1, v0] 47
        obtain ⟨A0, c0, rfl, _, _, _⟩ := id g0
        obtain ⟨A1, c1, rfl, _, _, _⟩ := id g1
        obtain ⟨A2, c2, rfl, _, _, _⟩ := id g2
        clear g0 g1 g2
        go_enter Try.func5, Try.ntmps5
        obtain ⟨zb0_0, zb0_1, zb0_2⟩ := h1.box3 0 rfl
        go_wp2_with fail
        refine (szAlgebra_yes a0_0 a0_1 (1048576) _ l0 _ (h1.roInts 3 rfl) (by omega) (by omega)).mono ?_
        rintro (e : Ending) w1 ⟨rfl, hb1⟩
        replace h1 := h1.on hb1
        clear hb1
        clear zb0_0 zb0_1 zb0_2
        go_wp2_with fail
        refine (szMatrixS_yes (1048576 - (l0.length : Nat)) _ l1 _ (h1.fact 2 rfl) (by omega) (by omega)).mono ?_
        rintro (e : Ending) w2 ⟨rfl, hb1⟩
        replace h1 := h1.on hb1
        clear hb1
        obtain ⟨zb0_0, zb0_1, zb0_2⟩ := h1.box3 0 rfl
        go_wp2_with fail
        refine (toAlgebra_any a0_0 a0_1 _ l0 _ (h1.roInts 3 rfl) (by omega)).mono ?_
        rintro (e : Ending) w3 ⟨u, rfl, ho, hb1⟩
        obtain ⟨B1, d1, rfl, _, _, _⟩ := id ho.ints
        replace h1 := h1.pushOwn hb1 ho
        clear ho hb1
        clear zb0_0 zb0_1 zb0_2
        go_wp2_with fail
        refine (toMatrixS_any _ l1 _ (h1.fact 3 rfl) (by omega)).mono ?_
        rintro (e : Ending) w4 ⟨u, us2, rfl, hu2, hok, hnd, hb1⟩
        obtain ⟨B2, d2, rfl, _, _, _⟩ := id (It.mats hok hu2)
        replace h1 := h1.pushMats hb1 hok hnd
        clear hok hnd hb1
        go_wp2_with fail
        refine (toIntS_any _ l2 _ (h1.roInts 3 rfl) (by omega)).mono ?_
        rintro (e : Ending) w5 ⟨u, rfl, ho, hb1⟩
        obtain ⟨B3, d3, rfl, _, _, _⟩ := id ho.ints
        replace h1 := h1.pushOwn hb1 ho
        clear ho hb1
        go_wp2_with fail
        refine (KilledByS_any a0_0 a0_1 _ _ _ l0 l2 l1 _ (h1.ownInts 2 rfl) (h1.mats 1 rfl hu2) (h1.ownInts 0 rfl) hp hw hel).mono ?_
        rintro (e : Ending) w6 ⟨u, rfl, ho, hb1⟩
        obtain ⟨B4, d4, rfl, _, _, _⟩ := id ho.ints
        replace h1 := h1.pushOwn hb1 ho
        clear ho hb1
        replace h1 := h1.box [.int .i64 (kbP a0_0 a0_1 l0 l1 l2), .int .i64 (kbR a0_0 a0_1 l0 l1 l2), .int .i64 (kbC a0_0 a0_1 l0 l1 l2), .slice B4 (kbD a0_0 a0_1 l0 l1 l2).length d4] 40
        obtain ⟨zb5_0, zb5_1, zb5_2⟩ := h1.box3 5 rfl
        go_wp2_with fail
        refine (toAlgebra_any a0_0 a0_1 _ l0 _ (h1.roInts 8 rfl) (by omega)).mono ?_
        rintro (e : Ending) w7 ⟨u, rfl, ho, hb1⟩
        obtain ⟨B5, d5, rfl, _, _, _⟩ := id ho.ints
        replace h1 := h1.pushOwn hb1 ho
        clear ho hb1
        clear zb5_0 zb5_1 zb5_2
        replace h1 := h1.box [.int .i64 a0_0, .int .i64 a0_1, .slice B5 l0.length d5] 33
        go_wp2_with fail
        refine (toMatrixS_any _ l1 _ (h1.fact 9 rfl) (by omega)).mono ?_
        rintro (e : Ending) w8 ⟨u, us6, rfl, hu6, hok, hnd, hb1⟩
        obtain ⟨B6, d6, rfl, _, _, _⟩ := id (It.mats hok hu6)
        replace h1 := h1.pushMats hb1 hok hnd
        clear hok hnd hb1
        go_wp2_with fail
        refine (toIntS_any _ l2 _ (h1.roInts 9 rfl) (by omega)).mono ?_
        rintro (e : Ending) w9 ⟨u, rfl, ho, hb1⟩
        obtain ⟨B7, d7, rfl, _, _, _⟩ := id ho.ints
        replace h1 := h1.pushOwn hb1 ho
        clear ho hb1
        obtain ⟨zb2_0, zb2_1, zb2_2⟩ := h1.box3 2 rfl
        go_wp2_with fail
        refine (KilledByI_any a0_0 a0_1 _ _ _ l0 l2 l1 _ (h1.ownInts 3 rfl) (h1.mats 1 rfl hu6) (h1.ownInts 0 rfl) hp hw hel).mono ?_
        rintro (e : Ending) w10 ⟨u, rfl, ho, hb1⟩
        obtain ⟨B8, d8, rfl, _, _, _⟩ := id ho.ints
        replace h1 := h1.pushOwn hb1 ho
        clear ho hb1
        clear zb2_0 zb2_1 zb2_2
        replace h1 := h1.box [.int .i64 (kbP a0_0 a0_1 l0 l1 l2), .int .i64 (kbR a0_0 a0_1 l0 l1 l2), .int .i64 (kbC a0_0 a0_1 l0 l1 l2), .slice B8 (kbD a0_0 a0_1 l0 l1 l2).length d8] 40
        obtain ⟨zb0_0, zb0_1, zb0_2, zb0_3⟩ := h1.box4 0 rfl
        obtain ⟨zb6_0, zb6_1, zb6_2, zb6_3⟩ := h1.box4 6 rfl
        go_wp2_with fail
        refine (eqMatrix_same (kbP a0_0 a0_1 l0 l1 l2) (kbR a0_0 a0_1 l0 l1 l2) (kbC a0_0 a0_1 l0 l1 l2) _ _ (kbD a0_0 a0_1 l0 l1 l2) _ (h1.ownInts 1 rfl) (h1.ownInts 7 rfl)).mono ?_
        rintro (e : Ending) w11 ⟨rfl, hb1⟩
        replace h1 := h1.on hb1
        clear hb1
        clear zb0_0 zb0_1 zb0_2 zb0_3 zb6_0 zb6_1 zb6_2 zb6_3
        go_wp2_with fail
        obtain ⟨y0, y1, y2⟩ := h1.box3 4 rfl
        obtain ⟨x0, x1, x2⟩ := h1.box3 11 rfl
        go_region_held3 (fun w' => w'.cell? ⟨w7.heap.size, 0, none⟩ = some (.int .i64 a0_0) ∧ w'.cell? ⟨w7.heap.size, 1, none⟩ = some (.int .i64 a0_1) ∧ w'.cell? ⟨w7.heap.size, 2, none⟩ = some (.slice B5 l0.length d5) ∧ w'.cell? ⟨w.heap.size, 0, none⟩ = some (.int .i64 a0_0) ∧ w'.cell? ⟨w.heap.size, 1, none⟩ = some (.int .i64 a0_1) ∧ w'.cell? ⟨w.heap.size, 2, none⟩ = some (.slice A0 l0.length c0))
          (first | exact ⟨y0, y1, y2, x0, x1, x2⟩ | exact ⟨y0', y1', y2', x0', x1', x2'⟩ | exact ⟨y0'', y1'', y2'', x0'', x1'', x2''⟩)
          (first
            | (go_at_call 27; refine (toAlgebra_any a0_0 a0_1 _ l0 _ ?_ (by omega)).mono ?_; exact h1.drew.roInts 14 rfl; rintro (e : Ending) w12 ⟨u, rfl, ho, hb1⟩; obtain ⟨B9, d9, rfl, _, _, _⟩ := id ho.ints; have h2 := h1.drew.pushOwn hb1 ho; obtain ⟨y0', y1', y2'⟩ := h2.box3 5 rfl; obtain ⟨x0', x1', x2'⟩ := h2.box3 12 rfl)
            | (go_at_call 32; refine (eqAlgebra_same a0_0 a0_1 _ _ l0 _ (h2.ownInts 6 rfl) (h2.ownInts 0 rfl)).mono ?_; rintro (e : Ending) w13 ⟨rfl, hb2⟩; have h3 := h2.on hb2; obtain ⟨y0'', y1'', y2''⟩ := h3.box3 5 rfl; obtain ⟨x0'', x1'', x2''⟩ := h3.box3 12 rfl))
        clear y0 y1 y2 x0 x1 x2 y0' y1' y2' x0' x1' x2' y0'' y1'' y2'' x0'' x1'' x2'' h2 h1 hb1 hb2 ho
        have h1 := h3.drop 1
        clear h3
        go_wp2_with fail
        refine (toMatrixS_any _ l1 _ (h1.fact 13 rfl) (by omega)).mono ?_
        rintro (e : Ending) w14 ⟨u, us10, rfl, hu10, hok, hnd, hb1⟩
        obtain ⟨B10, d10, rfl, _, _, _⟩ := id (It.mats hok hu10)
        replace h1 := h1.pushMats hb1 hok hnd
        clear hok hnd hb1
        go_wp2_with fail
        refine (eqMatrixS_same _ _ l1 _ (h1.mats 4 rfl hu6) (h1.mats 0 rfl hu10)).mono ?_
        rintro (e : Ending) w15 ⟨rfl, hb1⟩
        replace h1 := h1.on hb1
        clear hb1
        replace h1 := h1.drop 1
        go_wp2_with fail
        refine (toIntS_any _ l2 _ (h1.roInts 12 rfl) (by omega)).mono ?_
        rintro (e : Ending) w16 ⟨u, rfl, ho, hb1⟩
        obtain ⟨B11, d11, rfl, _, _, _⟩ := id ho.ints
        replace h1 := h1.pushOwn hb1 ho
        clear ho hb1
        go_wp2_with fail
        refine (eqIntS_any _ _ l2 l2 _ (h1.ownInts 3 rfl) (h1.ownInts 0 rfl)).mono ?_
        rintro (e : Ending) w17 ⟨rfl, nd, rfl⟩
        replace h1 := h1.drewN nd
        replace h1 := h1.drop 1
        obtain ⟨zb4_0, zb4_1, zb4_2⟩ := h1.box3 4 rfl
        go_wp2_with fail
        refine (markAlgebra_any h1 5 rfl a0_0 a0_1 (1) (by omega) (by omega) (by omega)).mono ?_
        rintro (e : Ending) w18 ⟨rfl, h2⟩
        replace h1 := h2
        clear h2
        clear zb4_0 zb4_1 zb4_2
        go_wp2_with fail
        refine (markMatrixS_any h1 3 rfl hu6 (1 + (((l0).length : Nat) : Int)) (by omega) (by omega) (by omega)).mono ?_
        rintro (e : Ending) w19 ⟨rfl, h2⟩
        replace h1 := h2
        clear h2
        go_wp2_with fail
        refine (markIntS_any _ l2 (1 + (((l0).length : Nat) : Int) + ((markMsLen l1 : Nat) : Int)) _ _ (h1.own 2 rfl) (by omega) (by omega) (by omega)).mono ?_
        rintro (e : Ending) w20 ⟨rfl, ho, hg⟩
        replace h1 := h1.wrote 2 rfl ho hg
        clear ho hg
        obtain ⟨zb0_0, zb0_1, zb0_2, zb0_3⟩ := h1.box4 0 rfl
        obtain ⟨zb6_0, zb6_1, zb6_2, zb6_3⟩ := h1.box4 6 rfl
        go_wp2_with fail
        refine (eqMatrix_same (kbP a0_0 a0_1 l0 l1 l2) (kbR a0_0 a0_1 l0 l1 l2) (kbC a0_0 a0_1 l0 l1 l2) _ _ (kbD a0_0 a0_1 l0 l1 l2) _ (h1.ownInts 1 rfl) (h1.ownInts 7 rfl)).mono ?_
        rintro (e : Ending) w21 ⟨rfl, hb1⟩
        replace h1 := h1.on hb1
        clear hb1
        clear zb0_0 zb0_1 zb0_2 zb0_3 zb6_0 zb6_1 zb6_2 zb6_3
        obtain ⟨zb0_0, zb0_1, zb0_2, zb0_3⟩ := h1.box4 0 rfl
        go_wp2_with fail
        refine (markMatrix_any h1 1 rfl (kbP a0_0 a0_1 l0 l1 l2) (kbR a0_0 a0_1 l0 l1 l2) (kbC a0_0 a0_1 l0 l1 l2) (1) (by omega) (by omega) (by omega)).mono ?_
        rintro (e : Ending) w22 ⟨rfl, h2⟩
        replace h1 := h2
        clear h2
        clear zb0_0 zb0_1 zb0_2 zb0_3
        obtain ⟨zb0_0, zb0_1, zb0_2, zb0_3⟩ := h1.box4 0 rfl
        go_wp2_with fail
        refine (heldMatrix_any (kbP a0_0 a0_1 l0 l1 l2) (kbR a0_0 a0_1 l0 l1 l2) (kbC a0_0 a0_1 l0 l1 l2) (1) _ _ _ (h1.ownInts 1 rfl) (by omega) (by omega) (by omega)).mono ?_
        rintro (e : Ending) w23 ⟨rfl, hb1⟩
        replace h1 := h1.on hb1
        clear hb1
        clear zb0_0 zb0_1 zb0_2 zb0_3
        obtain ⟨zb11_0, zb11_1, zb11_2⟩ := h1.box3 11 rfl
        go_wp2_with fail
        refine (toAlgebra_any a0_0 a0_1 _ l0 _ (h1.roInts 14 rfl) (by omega)).mono ?_
        rintro (e : Ending) w24 ⟨u, rfl, ho, hb1⟩
        obtain ⟨B12, d12, rfl, _, _, _⟩ := id ho.ints
        replace h1 := h1.pushOwn hb1 ho
        clear ho hb1
        clear zb11_0 zb11_1 zb11_2
        go_wp2_with fail
        refine (toMatrixS_any _ l1 _ (h1.fact 14 rfl) (by omega)).mono ?_
        rintro (e : Ending) w25 ⟨u, us13, rfl, hu13, hok, hnd, hb1⟩
        obtain ⟨B13, d13, rfl, _, _, _⟩ := id (It.mats hok hu13)
        replace h1 := h1.pushMats hb1 hok hnd
        clear hok hnd hb1
        go_wp2_with fail
        refine (toIntS_any _ l2 _ (h1.roInts 14 rfl) (by omega)).mono ?_
        rintro (e : Ending) w26 ⟨u, rfl, ho, hb1⟩
        obtain ⟨B14, d14, rfl, _, _, _⟩ := id ho.ints
        replace h1 := h1.pushOwn hb1 ho
        clear ho hb1
        go_wp2_with fail
        refine (KilledByI_any a0_0 a0_1 _ _ _ l0 l2 l1 _ (h1.ownInts 2 rfl) (h1.mats 1 rfl hu13) (h1.ownInts 0 rfl) hp hw hel).mono ?_
        rintro (e : Ending) w27 ⟨u, rfl, ho, hb1⟩
        obtain ⟨B15, d15, rfl, _, _, _⟩ := id ho.ints
        replace h1 := h1.pushOwn hb1 ho
        clear ho hb1
        replace h1 := h1.box [.int .i64 (kbP a0_0 a0_1 l0 l1 l2), .int .i64 (kbR a0_0 a0_1 l0 l1 l2), .int .i64 (kbC a0_0 a0_1 l0 l1 l2), .slice B15 (kbD a0_0 a0_1 l0 l1 l2).length d15] 40
        obtain ⟨zb0_0, zb0_1, zb0_2, zb0_3⟩ := h1.box4 0 rfl
        obtain ⟨zb11_0, zb11_1, zb11_2, zb11_3⟩ := h1.box4 11 rfl
        go_wp2_with fail
        refine (eqMatrix_same (kbP a0_0 a0_1 l0 l1 l2) (kbR a0_0 a0_1 l0 l1 l2) (kbC a0_0 a0_1 l0 l1 l2) _ _ (kbD a0_0 a0_1 l0 l1 l2) _ (h1.ownInts 1 rfl) (h1.ownInts 12 rfl)).mono ?_
        rintro (e : Ending) w28 ⟨rfl, hb1⟩
        replace h1 := h1.on hb1
        clear hb1
        clear zb0_0 zb0_1 zb0_2 zb0_3 zb11_0 zb11_1 zb11_2 zb11_3
        obtain ⟨zb5_0, zb5_1, zb5_2, zb5_3⟩ := h1.box4 5 rfl
        go_wp2_with fail
        refine (heldMatrix_any (kbP a0_0 a0_1 l0 l1 l2) (kbR a0_0 a0_1 l0 l1 l2) (kbC a0_0 a0_1 l0 l1 l2) (1) _ _ _ (h1.ownInts 6 rfl) (by omega) (by omega) (by omega)).mono ?_
        rintro (e : Ending) w29 ⟨rfl, hb1⟩
        replace h1 := h1.on hb1
        clear hb1
        clear zb5_0 zb5_1 zb5_2 zb5_3
        go_wp2_with fail
        go_ret
        exact ⟨rfl, h1.below⟩
end Kb
end Go.Proofs.Ythiainhhaokjoaa
