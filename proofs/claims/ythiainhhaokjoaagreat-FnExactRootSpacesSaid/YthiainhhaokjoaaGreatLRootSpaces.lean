/- The law FnExactRootSpaces, walked. (Written by lgen2.py.) -/
import Derived.Test.YthiainhhaokjoaaGreatRotK
import Derived.Test.YthiainhhaokjoaaGreatLawR
import Derived.Test.YthiainhhaokjoaaGreatRegX
import Derived.Test.YthiainhhaokjoaaGreatLawB
import Derived.Test.YthiainhhaokjoaaGreatLawM
namespace Go.Proofs.YthiainhhaokjoaaGreat
set_option maxRecDepth 100000
open Go.RowKit
namespace Rt

set_option maxHeartbeats 4000000 in
theorem lawRootSpaces {w : World} (a0_0 a0_1 : Int) (v0 : Value) (l0 : List Int) (g0 : Ints w v0 l0) (wf0_0 : (Lit.int .i64 a0_0).wf = true) (_wf0_1 : (Lit.int .i64 a0_1).wf = true) (_ : ∀ x ∈ l0, (Lit.int .i64 x).wf = true) (a1_0 a1_1 a1_2 : Int) (v1 : Value) (l1 : List Int) (g1 : Ints w v1 l1) (wf1_0 : (Lit.int .i64 a1_0).wf = true) (_wf1_1 : (Lit.int .i64 a1_1).wf = true) (_wf1_2 : (Lit.int .i64 a1_2).wf = true) (_ : ∀ x ∈ l1, (Lit.int .i64 x).wf = true) :
    Calls Tryz.prog 3 #[.agg #[.int .i64 a0_0, .int .i64 a0_1, v0], .agg #[.int .i64 a1_0, .int .i64 a1_1, .int .i64 a1_2, v1]] w fun e w' => e = .returned (.bool true) ∧ Below w.heap.size w w' := by
  by_cases L0 : ((l0.length : Nat) : Int) ≤ 1048576
  case neg =>
    have h1 := ((((St.start w).arg g0).arg g1).box [.int .i64 a0_0, .int .i64 a0_1, v0] 24).box [.int .i64 a1_0, .int .i64 a1_1, .int .i64 a1_2, v1] 26
    simp only [World.size_alloc] at h1
    obtain ⟨A0, c0, rfl, _, _, _⟩ := id g0
    obtain ⟨A1, c1, rfl, _, _, _⟩ := id g1
    clear g0 g1
    go_enter Tryz.func3, Tryz.ntmps3
    obtain ⟨zb1_0, zb1_1, zb1_2⟩ := h1.box3 1 rfl
    go_wp2_with fail
    refine (szAlgebra_no a0_0 a0_1 (1048576) _ l0 _ (h1.roInts 3 rfl) (by omega) (by omega) (by omega)).mono ?_
    rintro (e : Ending) w1 ⟨rfl, hb1⟩
    replace h1 := h1.on hb1
    clear hb1
    clear zb1_0 zb1_1 zb1_2
    go_wp2_with fail
    go_ret
    exact ⟨rfl, h1.below⟩
  case pos =>
    by_cases L1 : ((l1.length : Nat) : Int) ≤ 1048576 - (l0.length : Nat)
    case neg =>
      have h1 := ((((St.start w).arg g0).arg g1).box [.int .i64 a0_0, .int .i64 a0_1, v0] 24).box [.int .i64 a1_0, .int .i64 a1_1, .int .i64 a1_2, v1] 26
      simp only [World.size_alloc] at h1
      obtain ⟨A0, c0, rfl, _, _, _⟩ := id g0
      obtain ⟨A1, c1, rfl, _, _, _⟩ := id g1
      clear g0 g1
      go_enter Tryz.func3, Tryz.ntmps3
      obtain ⟨zb1_0, zb1_1, zb1_2⟩ := h1.box3 1 rfl
      go_wp2_with fail
      refine (szAlgebra_yes a0_0 a0_1 (1048576) _ l0 _ (h1.roInts 3 rfl) (by omega) (by omega)).mono ?_
      rintro (e : Ending) w1 ⟨rfl, hb1⟩
      replace h1 := h1.on hb1
      clear hb1
      clear zb1_0 zb1_1 zb1_2
      obtain ⟨zb0_0, zb0_1, zb0_2, zb0_3⟩ := h1.box4 0 rfl
      go_wp2_with fail
      refine (szMatrix_no a1_0 a1_1 a1_2 (1048576 - (l0.length : Nat)) _ l1 _ (h1.roInts 2 rfl) (by omega) (by omega) (by omega)).mono ?_
      rintro (e : Ending) w2 ⟨rfl, hb1⟩
      replace h1 := h1.on hb1
      clear hb1
      clear zb0_0 zb0_1 zb0_2 zb0_3
      go_wp2_with fail
      go_ret
      exact ⟨rfl, h1.below⟩
    case pos =>
      have hp := wf_le wf0_0
      have hq := wf_le wf1_0
      have bd := (rotL_bd a0_0 a0_1 l0 a1_0 a1_1 a1_2 l1).1
      have bdl := (rotL_bd a0_0 a0_1 l0 a1_0 a1_1 a1_2 l1).2.1
      have bdm := (rotL_bd a0_0 a0_1 l0 a1_0 a1_1 a1_2 l1).2.2
      have h1 := ((((St.start w).arg g0).arg g1).box [.int .i64 a0_0, .int .i64 a0_1, v0] 24).box [.int .i64 a1_0, .int .i64 a1_1, .int .i64 a1_2, v1] 26
      simp only [World.size_alloc] at h1
      obtain ⟨A0, c0, rfl, _, _, _⟩ := id g0
      obtain ⟨A1, c1, rfl, _, _, _⟩ := id g1
      clear g0 g1
      go_enter Tryz.func3, Tryz.ntmps3
      obtain ⟨zb1_0, zb1_1, zb1_2⟩ := h1.box3 1 rfl
      go_wp2_with fail
      refine (szAlgebra_yes a0_0 a0_1 (1048576) _ l0 _ (h1.roInts 3 rfl) (by omega) (by omega)).mono ?_
      rintro (e : Ending) w1 ⟨rfl, hb1⟩
      replace h1 := h1.on hb1
      clear hb1
      clear zb1_0 zb1_1 zb1_2
      obtain ⟨zb0_0, zb0_1, zb0_2, zb0_3⟩ := h1.box4 0 rfl
      go_wp2_with fail
      refine (szMatrix_yes a1_0 a1_1 a1_2 (1048576 - (l0.length : Nat)) _ l1 _ (h1.roInts 2 rfl) (by omega) (by omega)).mono ?_
      rintro (e : Ending) w2 ⟨rfl, hb1⟩
      replace h1 := h1.on hb1
      clear hb1
      clear zb0_0 zb0_1 zb0_2 zb0_3
      go_wp2_with fail
      obtain ⟨q1_0_0_0, q1_0_0_1, q1_0_0_2⟩ := h1.box3 1 rfl
      obtain ⟨q1_0_1_0, q1_0_1_1, q1_0_1_2, q1_0_1_3⟩ := h1.box4 0 rfl
      go_region_held3 (fun w' => w'.cell? ⟨w.heap.size, 0, none⟩ = some (.int .i64 a0_0) ∧ w'.cell? ⟨w.heap.size, 1, none⟩ = some (.int .i64 a0_1) ∧ w'.cell? ⟨w.heap.size, 2, none⟩ = some (.slice A0 l0.length c0) ∧ w'.cell? ⟨w.heap.size + 1, 0, none⟩ = some (.int .i64 a1_0) ∧ w'.cell? ⟨w.heap.size + 1, 1, none⟩ = some (.int .i64 a1_1) ∧ w'.cell? ⟨w.heap.size + 1, 2, none⟩ = some (.int .i64 a1_2) ∧ w'.cell? ⟨w.heap.size + 1, 3, none⟩ = some (.slice A1 l1.length c1))
        (first | exact ⟨q1_0_0_0, q1_0_0_1, q1_0_0_2, q1_0_1_0, q1_0_1_1, q1_0_1_2, q1_0_1_3⟩ | exact ⟨q1_1_0_0, q1_1_0_1, q1_1_0_2, q1_1_1_0, q1_1_1_1, q1_1_1_2, q1_1_1_3⟩ | exact ⟨q1_2_0_0, q1_2_0_1, q1_2_0_2, q1_2_1_0, q1_2_1_1, q1_2_1_2, q1_2_1_3⟩ | exact ⟨q1_3_0_0, q1_3_0_1, q1_3_0_2, q1_3_1_0, q1_3_1_1, q1_3_1_2, q1_3_1_3⟩)
        (first
          | (go_at_call 8; refine (toAlgebra_any a0_0 a0_1 _ l0 _ ?_ (by omega)).mono ?_; exact h1.drew.roInts 3 rfl; rintro (e : Ending) w3 ⟨u, rfl, ho1_0, hb1_0⟩; obtain ⟨B2, d2, rfl, _, _, _⟩ := id ho1_0.ints; have hr1_1 := h1.drew.pushOwn hb1_0 ho1_0; obtain ⟨q1_1_0_0, q1_1_0_1, q1_1_0_2⟩ := hr1_1.box3 2 rfl; obtain ⟨q1_1_1_0, q1_1_1_1, q1_1_1_2, q1_1_1_3⟩ := hr1_1.box4 1 rfl)
          | (go_at_call 9; refine (toMatrix_any a1_0 a1_1 a1_2 _ l1 _ ?_ (by omega)).mono ?_; exact hr1_1.roInts 3 rfl; rintro (e : Ending) w4 ⟨u, rfl, ho1_1, hb1_1⟩; obtain ⟨B3, d3, rfl, _, _, _⟩ := id ho1_1.ints; have hr1_2 := hr1_1.pushOwn hb1_1 ho1_1; obtain ⟨q1_2_0_0, q1_2_0_1, q1_2_0_2⟩ := hr1_2.box3 3 rfl; obtain ⟨q1_2_1_0, q1_2_1_1, q1_2_1_2, q1_2_1_3⟩ := hr1_2.box4 2 rfl)
          | (go_at_call 7; refine (RootSpacesS_any a0_0 a0_1 a1_0 a1_1 a1_2 _ _ l0 l1 _ (hr1_2.ownInts 1 rfl) (hr1_2.ownInts 0 rfl) hp hq).mono ?_; rintro (e : Ending) w5 ⟨vz1, us4, vz2, us5, rfl, hu04, hu05, hst⟩; have hu4 := hu04.trans (length_lmL (rotL a0_0 a0_1 l0 a1_0 a1_1 a1_2 l1)).symm; have hu5 := hu05.trans (length_lmM a0_0 a0_1.toNat (rotL a0_0 a0_1 l0 a1_0 a1_1 a1_2 l1)).symm; have hr1_3 := hr1_2.pushLM hst; obtain ⟨B4, d4, rfl, _, _, _⟩ := id (hr1_3.rowsR 0 rfl hu4); obtain ⟨B5, d5, rfl, _, _, _⟩ := id (hr1_3.mats 1 rfl hu5); obtain ⟨q1_3_0_0, q1_3_0_1, q1_3_0_2⟩ := hr1_3.box3 5 rfl; obtain ⟨q1_3_1_0, q1_3_1_1, q1_3_1_2, q1_3_1_3⟩ := hr1_3.box4 4 rfl))
      clear h1 hb1_0 ho1_0 hr1_1 hb1_1 ho1_1 hr1_2 hst q1_0_0_0 q1_0_0_1 q1_0_0_2 q1_0_1_0 q1_0_1_1 q1_0_1_2 q1_0_1_3 q1_1_0_0 q1_1_0_1 q1_1_0_2 q1_1_1_0 q1_1_1_1 q1_1_1_2 q1_1_1_3 q1_2_0_0 q1_2_0_1 q1_2_0_2 q1_2_1_0 q1_2_1_1 q1_2_1_2 q1_2_1_3 q1_3_0_0 q1_3_0_1 q1_3_0_2 q1_3_1_0 q1_3_1_1 q1_3_1_2 q1_3_1_3
      have h1 := hr1_3
      clear hr1_3
      obtain ⟨zb5_0, zb5_1, zb5_2⟩ := h1.box3 5 rfl
      go_wp2_with fail
      refine (toAlgebra_any a0_0 a0_1 _ l0 _ (h1.roInts 7 rfl) (by omega)).mono ?_
      rintro (e : Ending) w6 ⟨u, rfl, ho, hb1⟩
      obtain ⟨B6, d6, rfl, _, _, _⟩ := id ho.ints
      replace h1 := h1.pushOwn hb1 ho
      clear ho hb1
      clear zb5_0 zb5_1 zb5_2
      replace h1 := h1.box [.int .i64 a0_0, .int .i64 a0_1, .slice B6 l0.length d6] 33
      obtain ⟨zb6_0, zb6_1, zb6_2, zb6_3⟩ := h1.box4 6 rfl
      go_wp2_with fail
      refine (toMatrix_any a1_0 a1_1 a1_2 _ l1 _ (h1.roInts 8 rfl) (by omega)).mono ?_
      rintro (e : Ending) w7 ⟨u, rfl, ho, hb1⟩
      obtain ⟨B7, d7, rfl, _, _, _⟩ := id ho.ints
      replace h1 := h1.pushOwn hb1 ho
      clear ho hb1
      clear zb6_0 zb6_1 zb6_2 zb6_3
      replace h1 := h1.box [.int .i64 a1_0, .int .i64 a1_1, .int .i64 a1_2, .slice B7 l1.length d7] 35
      obtain ⟨zb2_0, zb2_1, zb2_2⟩ := h1.box3 2 rfl
      obtain ⟨zb0_0, zb0_1, zb0_2, zb0_3⟩ := h1.box4 0 rfl
      go_wp2_with fail
      refine (RootSpacesI_any a0_0 a0_1 a1_0 a1_1 a1_2 _ _ l0 l1 _ (h1.ownInts 3 rfl) (h1.ownInts 1 rfl) hp hq).mono ?_
      rintro (e : Ending) w8 ⟨vz1, us8, vz2, us9, rfl, hu08, hu09, hst⟩
      have hu8 := hu08.trans (length_lmL (rotL a0_0 a0_1 l0 a1_0 a1_1 a1_2 l1)).symm
      have hu9 := hu09.trans (length_lmM a0_0 a0_1.toNat (rotL a0_0 a0_1 l0 a1_0 a1_1 a1_2 l1)).symm
      replace h1 := h1.pushLM hst
      obtain ⟨B8, d8, rfl, _, _, _⟩ := id (h1.rowsR 0 rfl hu8)
      obtain ⟨B9, d9, rfl, _, _, _⟩ := id (h1.mats 1 rfl hu9)
      clear hst
      clear zb2_0 zb2_1 zb2_2 zb0_0 zb0_1 zb0_2 zb0_3
      go_wp2_with fail
      refine (eqIntSS_any _ _ (lmL (rotL a0_0 a0_1 l0 a1_0 a1_1 a1_2 l1)) (lmL (rotL a0_0 a0_1 l0 a1_0 a1_1 a1_2 l1)) _ (h1.rowsR 0 rfl hu8) (h1.rowsR 6 rfl hu4)).mono ?_
      rintro (e : Ending) w9 ⟨rfl, nd, rfl⟩
      replace h1 := h1.drewN nd
      go_wp2_with fail
      refine (eqMatrixS_same _ _ (lmM a0_0 a0_1.toNat (rotL a0_0 a0_1 l0 a1_0 a1_1 a1_2 l1)) _ (h1.mats 1 rfl hu9) (h1.mats 7 rfl hu5)).mono ?_
      rintro (e : Ending) w10 ⟨rfl, hb1⟩
      replace h1 := h1.on hb1
      clear hb1
      go_wp2_with fail
      obtain ⟨y0, y1, y2⟩ := h1.box3 4 rfl
      obtain ⟨x0, x1, x2⟩ := h1.box3 11 rfl
      go_region_held3 (fun w' => w'.cell? ⟨w6.heap.size, 0, none⟩ = some (.int .i64 a0_0) ∧ w'.cell? ⟨w6.heap.size, 1, none⟩ = some (.int .i64 a0_1) ∧ w'.cell? ⟨w6.heap.size, 2, none⟩ = some (.slice B6 l0.length d6) ∧ w'.cell? ⟨w.heap.size, 0, none⟩ = some (.int .i64 a0_0) ∧ w'.cell? ⟨w.heap.size, 1, none⟩ = some (.int .i64 a0_1) ∧ w'.cell? ⟨w.heap.size, 2, none⟩ = some (.slice A0 l0.length c0))
        (first | exact ⟨y0, y1, y2, x0, x1, x2⟩ | exact ⟨y0', y1', y2', x0', x1', x2'⟩ | exact ⟨y0'', y1'', y2'', x0'', x1'', x2''⟩)
        (first
          | (go_at_call 8; refine (toAlgebra_any a0_0 a0_1 _ l0 _ ?_ (by omega)).mono ?_; exact h1.drew.roInts 13 rfl; rintro (e : Ending) w11 ⟨u, rfl, ho, hb1⟩; obtain ⟨B10, d10, rfl, _, _, _⟩ := id ho.ints; have h2 := h1.drew.pushOwn hb1 ho; obtain ⟨y0', y1', y2'⟩ := h2.box3 5 rfl; obtain ⟨x0', x1', x2'⟩ := h2.box3 12 rfl)
          | (go_at_call 13; refine (eqAlgebra_same a0_0 a0_1 _ _ l0 _ (h2.ownInts 6 rfl) (h2.ownInts 0 rfl)).mono ?_; rintro (e : Ending) w12 ⟨rfl, hb2⟩; have h3 := h2.on hb2; obtain ⟨y0'', y1'', y2''⟩ := h3.box3 5 rfl; obtain ⟨x0'', x1'', x2''⟩ := h3.box3 12 rfl))
      clear y0 y1 y2 x0 x1 x2 y0' y1' y2' x0' x1' x2' y0'' y1'' y2'' x0'' x1'' x2'' h2 h1 hb1 hb2 ho
      have h1 := h3.drop 1
      clear h3
      go_wp2_with fail
      obtain ⟨y0, y1, y2, y3⟩ := h1.box4 2 rfl
      obtain ⟨x0, x1, x2, x3⟩ := h1.box4 10 rfl
      go_region_held3 (fun w' => w'.cell? ⟨w7.heap.size, 0, none⟩ = some (.int .i64 a1_0) ∧ w'.cell? ⟨w7.heap.size, 1, none⟩ = some (.int .i64 a1_1) ∧ w'.cell? ⟨w7.heap.size, 2, none⟩ = some (.int .i64 a1_2) ∧ w'.cell? ⟨w7.heap.size, 3, none⟩ = some (.slice B7 l1.length d7) ∧ w'.cell? ⟨w.heap.size + 1, 0, none⟩ = some (.int .i64 a1_0) ∧ w'.cell? ⟨w.heap.size + 1, 1, none⟩ = some (.int .i64 a1_1) ∧ w'.cell? ⟨w.heap.size + 1, 2, none⟩ = some (.int .i64 a1_2) ∧ w'.cell? ⟨w.heap.size + 1, 3, none⟩ = some (.slice A1 l1.length c1))
        (first | exact ⟨y0, y1, y2, y3, x0, x1, x2, x3⟩ | exact ⟨y0', y1', y2', y3', x0', x1', x2', x3'⟩ | exact ⟨y0'', y1'', y2'', y3'', x0'', x1'', x2'', x3''⟩)
        (first
          | (go_at_call 9; refine (toMatrix_any a1_0 a1_1 a1_2 _ l1 _ ?_ (by omega)).mono ?_; exact h1.drew.roInts 12 rfl; rintro (e : Ending) w13 ⟨u, rfl, ho, hb1⟩; obtain ⟨B11, d11, rfl, _, _, _⟩ := id ho.ints; have h2 := h1.drew.pushOwn hb1 ho; obtain ⟨y0', y1', y2', y3'⟩ := h2.box4 3 rfl; obtain ⟨x0', x1', x2', x3'⟩ := h2.box4 11 rfl)
          | (go_at_call 14; refine (eqMatrix_same a1_0 a1_1 a1_2 _ _ l1 _ (h2.ownInts 4 rfl) (h2.ownInts 0 rfl)).mono ?_; rintro (e : Ending) w14 ⟨rfl, hb2⟩; have h3 := h2.on hb2; obtain ⟨y0'', y1'', y2'', y3''⟩ := h3.box4 3 rfl; obtain ⟨x0'', x1'', x2'', x3''⟩ := h3.box4 11 rfl))
      clear y0 y1 y2 y3 x0 x1 x2 x3 y0' y1' y2' y3' x0' x1' x2' x3' y0'' y1'' y2'' y3'' x0'' x1'' x2'' x3'' h2 h1 hb1 hb2 ho
      have h1 := h3.drop 1
      clear h3
      obtain ⟨zb4_0, zb4_1, zb4_2⟩ := h1.box3 4 rfl
      go_wp2_with fail
      refine (markAlgebra_any h1 5 rfl a0_0 a0_1 (1) (by omega) (by omega) (by omega)).mono ?_
      rintro (e : Ending) w15 ⟨rfl, h2⟩
      replace h1 := h2
      clear h2
      clear zb4_0 zb4_1 zb4_2
      obtain ⟨zb2_0, zb2_1, zb2_2, zb2_3⟩ := h1.box4 2 rfl
      go_wp2_with fail
      refine (markMatrix_any h1 3 rfl a1_0 a1_1 a1_2 (1 + (((l0).length : Nat) : Int)) (by omega) (by omega) (by omega)).mono ?_
      rintro (e : Ending) w16 ⟨rfl, h2⟩
      replace h1 := h2
      clear h2
      clear zb2_0 zb2_1 zb2_2 zb2_3
      go_wp2_with fail
      refine (eqIntSS_any _ _ (lmL (rotL a0_0 a0_1 l0 a1_0 a1_1 a1_2 l1)) (lmL (rotL a0_0 a0_1 l0 a1_0 a1_1 a1_2 l1)) _ (h1.rowsR 0 rfl hu8) (h1.rowsR 6 rfl hu4)).mono ?_
      rintro (e : Ending) w17 ⟨rfl, nd, rfl⟩
      replace h1 := h1.drewN nd
      go_wp2_with fail
      refine (eqMatrixS_same _ _ (lmM a0_0 a0_1.toNat (rotL a0_0 a0_1 l0 a1_0 a1_1 a1_2 l1)) _ (h1.mats 1 rfl hu9) (h1.mats 7 rfl hu5)).mono ?_
      rintro (e : Ending) w18 ⟨rfl, hb1⟩
      replace h1 := h1.on hb1
      clear hb1
      go_wp2_with fail
      refine (markIntSS_st h1 0 rfl hu8 (1) (by omega) (by omega) (by omega) (by omega)).mono ?_
      rintro (e : Ending) w19 ⟨rfl, h2⟩
      replace h1 := h2
      clear h2
      go_wp2_with fail
      refine (markMatrixS_any h1 1 rfl hu9 (1 + ((total (lmL (rotL a0_0 a0_1 l0 a1_0 a1_1 a1_2 l1)) : Nat) : Int)) (by omega) (by omega) (by omega)).mono ?_
      rintro (e : Ending) w20 ⟨rfl, h2⟩
      replace h1 := h2
      clear h2
      go_wp2_with fail
      refine (heldIntSS_any _ (lmL (rotL a0_0 a0_1 l0 a1_0 a1_1 a1_2 l1)) (1) _ (h1.rowsR 0 rfl (by rw [length_markRows]; exact hu8)) (by omega) (by omega) (by omega)).mono ?_
      rintro (e : Ending) w21 ⟨rfl, rfl⟩
      go_wp2_with fail
      refine (heldMatrixS_any _ (lmM a0_0 a0_1.toNat (rotL a0_0 a0_1 l0 a1_0 a1_1 a1_2 l1)) (1 + ((total (lmL (rotL a0_0 a0_1 l0 a1_0 a1_1 a1_2 l1)) : Nat) : Int)) _ (h1.mats 1 rfl (by rw [length_markMs]; exact hu9)) (by omega) (by omega) (by omega)).mono ?_
      rintro (e : Ending) w22 ⟨rfl, hb1⟩
      replace h1 := h1.on hb1
      clear hb1
      go_wp2_with fail
      obtain ⟨q12_0_0_0, q12_0_0_1, q12_0_0_2⟩ := h1.box3 11 rfl
      obtain ⟨q12_0_1_0, q12_0_1_1, q12_0_1_2, q12_0_1_3⟩ := h1.box4 10 rfl
      go_region_held3 (fun w' => w'.cell? ⟨w.heap.size, 0, none⟩ = some (.int .i64 a0_0) ∧ w'.cell? ⟨w.heap.size, 1, none⟩ = some (.int .i64 a0_1) ∧ w'.cell? ⟨w.heap.size, 2, none⟩ = some (.slice A0 l0.length c0) ∧ w'.cell? ⟨w.heap.size + 1, 0, none⟩ = some (.int .i64 a1_0) ∧ w'.cell? ⟨w.heap.size + 1, 1, none⟩ = some (.int .i64 a1_1) ∧ w'.cell? ⟨w.heap.size + 1, 2, none⟩ = some (.int .i64 a1_2) ∧ w'.cell? ⟨w.heap.size + 1, 3, none⟩ = some (.slice A1 l1.length c1))
        (first | exact ⟨q12_0_0_0, q12_0_0_1, q12_0_0_2, q12_0_1_0, q12_0_1_1, q12_0_1_2, q12_0_1_3⟩ | exact ⟨q12_1_0_0, q12_1_0_1, q12_1_0_2, q12_1_1_0, q12_1_1_1, q12_1_1_2, q12_1_1_3⟩ | exact ⟨q12_2_0_0, q12_2_0_1, q12_2_0_2, q12_2_1_0, q12_2_1_1, q12_2_1_2, q12_2_1_3⟩ | exact ⟨q12_3_0_0, q12_3_0_1, q12_3_0_2, q12_3_1_0, q12_3_1_1, q12_3_1_2, q12_3_1_3⟩)
        (first
          | (go_at_call 8; refine (toAlgebra_any a0_0 a0_1 _ l0 _ ?_ (by omega)).mono ?_; exact h1.drew.roInts 13 rfl; rintro (e : Ending) w23 ⟨u, rfl, ho12_0, hb12_0⟩; obtain ⟨B13, d13, rfl, _, _, _⟩ := id ho12_0.ints; have hr12_1 := h1.drew.pushOwn hb12_0 ho12_0; obtain ⟨q12_1_0_0, q12_1_0_1, q12_1_0_2⟩ := hr12_1.box3 12 rfl; obtain ⟨q12_1_1_0, q12_1_1_1, q12_1_1_2, q12_1_1_3⟩ := hr12_1.box4 11 rfl)
          | (go_at_call 9; refine (toMatrix_any a1_0 a1_1 a1_2 _ l1 _ ?_ (by omega)).mono ?_; exact hr12_1.roInts 13 rfl; rintro (e : Ending) w24 ⟨u, rfl, ho12_1, hb12_1⟩; obtain ⟨B14, d14, rfl, _, _, _⟩ := id ho12_1.ints; have hr12_2 := hr12_1.pushOwn hb12_1 ho12_1; obtain ⟨q12_2_0_0, q12_2_0_1, q12_2_0_2⟩ := hr12_2.box3 13 rfl; obtain ⟨q12_2_1_0, q12_2_1_1, q12_2_1_2, q12_2_1_3⟩ := hr12_2.box4 12 rfl)
          | (go_at_call 10; refine (RootSpacesI_any a0_0 a0_1 a1_0 a1_1 a1_2 _ _ l0 l1 _ (hr12_2.ownInts 1 rfl) (hr12_2.ownInts 0 rfl) hp hq).mono ?_; rintro (e : Ending) w25 ⟨vz1, us15, vz2, us16, rfl, hu015, hu016, hst⟩; have hu15 := hu015.trans (length_lmL (rotL a0_0 a0_1 l0 a1_0 a1_1 a1_2 l1)).symm; have hu16 := hu016.trans (length_lmM a0_0 a0_1.toNat (rotL a0_0 a0_1 l0 a1_0 a1_1 a1_2 l1)).symm; have hr12_3 := hr12_2.pushLM hst; obtain ⟨B15, d15, rfl, _, _, _⟩ := id (hr12_3.rowsR 0 rfl hu15); obtain ⟨B16, d16, rfl, _, _, _⟩ := id (hr12_3.mats 1 rfl hu16); obtain ⟨q12_3_0_0, q12_3_0_1, q12_3_0_2⟩ := hr12_3.box3 15 rfl; obtain ⟨q12_3_1_0, q12_3_1_1, q12_3_1_2, q12_3_1_3⟩ := hr12_3.box4 14 rfl))
      clear h1 hb12_0 ho12_0 hr12_1 hb12_1 ho12_1 hr12_2 hst q12_0_0_0 q12_0_0_1 q12_0_0_2 q12_0_1_0 q12_0_1_1 q12_0_1_2 q12_0_1_3 q12_1_0_0 q12_1_0_1 q12_1_0_2 q12_1_1_0 q12_1_1_1 q12_1_1_2 q12_1_1_3 q12_2_0_0 q12_2_0_1 q12_2_0_2 q12_2_1_0 q12_2_1_1 q12_2_1_2 q12_2_1_3 q12_3_0_0 q12_3_0_1 q12_3_0_2 q12_3_1_0 q12_3_1_1 q12_3_1_2 q12_3_1_3
      have h1 := hr12_3
      clear hr12_3
      go_wp2_with fail
      refine (eqIntSS_any _ _ (lmL (rotL a0_0 a0_1 l0 a1_0 a1_1 a1_2 l1)) (lmL (rotL a0_0 a0_1 l0 a1_0 a1_1 a1_2 l1)) _ (h1.rowsR 0 rfl hu15) (h1.rowsR 10 rfl hu4)).mono ?_
      rintro (e : Ending) w26 ⟨rfl, nd, rfl⟩
      replace h1 := h1.drewN nd
      go_wp2_with fail
      refine (eqMatrixS_same _ _ (lmM a0_0 a0_1.toNat (rotL a0_0 a0_1 l0 a1_0 a1_1 a1_2 l1)) _ (h1.mats 1 rfl hu16) (h1.mats 11 rfl hu5)).mono ?_
      rintro (e : Ending) w27 ⟨rfl, hb1⟩
      replace h1 := h1.on hb1
      clear hb1
      go_wp2_with fail
      refine (heldIntSS_any _ (lmL (rotL a0_0 a0_1 l0 a1_0 a1_1 a1_2 l1)) (1) _ (h1.rowsR 4 rfl (by rw [length_markRows]; exact hu8)) (by omega) (by omega) (by omega)).mono ?_
      rintro (e : Ending) w28 ⟨rfl, rfl⟩
      go_wp2_with fail
      refine (heldMatrixS_any _ (lmM a0_0 a0_1.toNat (rotL a0_0 a0_1 l0 a1_0 a1_1 a1_2 l1)) (1 + ((total (lmL (rotL a0_0 a0_1 l0 a1_0 a1_1 a1_2 l1)) : Nat) : Int)) _ (h1.mats 5 rfl (by rw [length_markMs]; exact hu9)) (by omega) (by omega) (by omega)).mono ?_
      rintro (e : Ending) w29 ⟨rfl, hb1⟩
      replace h1 := h1.on hb1
      clear hb1
      go_wp2_with fail
      go_ret
      exact ⟨rfl, h1.below⟩
end Rt
end Go.Proofs.YthiainhhaokjoaaGreat
