/- The law FnExactBracketOf, walked. (Written by lgen2.py.) -/
import Derived.Test.YtngmepodgbhbpaaBrOf
import Derived.Test.YtngmepodgbhbpaaLawAlg
namespace Go.Proofs.Ytngmepodgbhbpaa
set_option maxRecDepth 100000
open Go.RowKit
namespace Br

set_option maxHeartbeats 4000000 in
theorem lawBracketOf {w : World} (a0_0 a0_1 : Int) (v0 : Value) (l0 : List Int) (g0 : Ints w v0 l0) (wf0_0 : (Lit.int .i64 a0_0).wf = true) (wf0_1 : (Lit.int .i64 a0_1).wf = true) (_ : ∀ x ∈ l0, (Lit.int .i64 x).wf = true) (v1 : Value) (l1 : List Int) (g1 : Ints w v1 l1) (_ : ∀ x ∈ l1, (Lit.int .i64 x).wf = true) (v2 : Value) (l2 : List Int) (g2 : Ints w v2 l2) (_ : ∀ x ∈ l2, (Lit.int .i64 x).wf = true) :
    Calls Try.prog 3 #[.agg #[.int .i64 a0_0, .int .i64 a0_1, v0], v1, v2] w fun e w' => e = .returned (.bool true) ∧ Below w.heap.size w w' := by
  by_cases L0 : l1.length ≤ 1048576
  case neg =>
    have h1 := ((((St.start w).arg g0).arg g1).arg g2).box [.int .i64 a0_0, .int .i64 a0_1, v0] 24
    obtain ⟨A0, c0, rfl, _, _, _⟩ := id g0
    obtain ⟨A1, c1, rfl, _, _, _⟩ := id g1
    obtain ⟨A2, c2, rfl, _, _, _⟩ := id g2
    clear g0 g1 g2
    go_enter Try.func3, Try.ntmps3
    go_wp2_with fail
    go_ret
    exact ⟨rfl, h1.below⟩
  case pos =>
    by_cases L1 : l2.length ≤ 1048576
    case neg =>
      have h1 := ((((St.start w).arg g0).arg g1).arg g2).box [.int .i64 a0_0, .int .i64 a0_1, v0] 24
      obtain ⟨A0, c0, rfl, _, _, _⟩ := id g0
      obtain ⟨A1, c1, rfl, _, _, _⟩ := id g1
      obtain ⟨A2, c2, rfl, _, _, _⟩ := id g2
      clear g0 g1 g2
      go_enter Try.func3, Try.ntmps3
      go_wp2_with fail
      go_ret
      exact ⟨rfl, h1.below⟩
    case pos =>
      by_cases L2 : ((l0.length : Nat) : Int) ≤ 1048576
      case neg =>
        have h1 := ((((St.start w).arg g0).arg g1).arg g2).box [.int .i64 a0_0, .int .i64 a0_1, v0] 24
        obtain ⟨A0, c0, rfl, _, _, _⟩ := id g0
        obtain ⟨A1, c1, rfl, _, _, _⟩ := id g1
        obtain ⟨A2, c2, rfl, _, _, _⟩ := id g2
        clear g0 g1 g2
        go_enter Try.func3, Try.ntmps3
        obtain ⟨zb0_0, zb0_1, zb0_2⟩ := h1.box3 0 rfl
        go_wp2_with fail
        refine (szAlgebra_no a0_0 a0_1 (1048576) _ l0 _ (h1.roInts 3 rfl) (by omega) (by omega) (by omega)).mono ?_
        rintro (e : Ending) w1 ⟨rfl, hb1⟩
        replace h1 := h1.on hb1
        clear hb1
        clear zb0_0 zb0_1 zb0_2
        go_wp2_with fail
        go_ret
        exact ⟨rfl, h1.below⟩
      case pos =>
        have hp := wf_le wf0_0
        have bd := length_brOf a0_0 a0_1 l0 l1 l2
        have h1 := ((((St.start w).arg g0).arg g1).arg g2).box [.int .i64 a0_0, .int .i64 a0_1, v0] 24
        obtain ⟨A0, c0, rfl, _, _, _⟩ := id g0
        obtain ⟨A1, c1, rfl, _, _, _⟩ := id g1
        obtain ⟨A2, c2, rfl, _, _, _⟩ := id g2
        clear g0 g1 g2
        go_enter Try.func3, Try.ntmps3
        obtain ⟨zb0_0, zb0_1, zb0_2⟩ := h1.box3 0 rfl
        go_wp2_with fail
        refine (szAlgebra_yes a0_0 a0_1 (1048576) _ l0 _ (h1.roInts 3 rfl) (by omega) (by omega)).mono ?_
        rintro (e : Ending) w1 ⟨rfl, hb1⟩
        replace h1 := h1.on hb1
        clear hb1
        clear zb0_0 zb0_1 zb0_2
        obtain ⟨zb0_0, zb0_1, zb0_2⟩ := h1.box3 0 rfl
        go_wp2_with fail
        refine (toAlgebra_any a0_0 a0_1 _ l0 _ (h1.roInts 3 rfl) (by omega)).mono ?_
        rintro (e : Ending) w2 ⟨u, rfl, ho, hb1⟩
        obtain ⟨B1, d1, rfl, _, _, _⟩ := id ho.ints
        replace h1 := h1.pushOwn hb1 ho
        clear ho hb1
        clear zb0_0 zb0_1 zb0_2
        go_wp2_with fail
        refine (toIntS_any _ l1 _ (h1.roInts 3 rfl) (by omega)).mono ?_
        rintro (e : Ending) w3 ⟨u, rfl, ho, hb1⟩
        obtain ⟨B2, d2, rfl, _, _, _⟩ := id ho.ints
        replace h1 := h1.pushOwn hb1 ho
        clear ho hb1
        go_wp2_with fail
        refine (toIntS_any _ l2 _ (h1.roInts 3 rfl) (by omega)).mono ?_
        rintro (e : Ending) w4 ⟨u, rfl, ho, hb1⟩
        obtain ⟨B3, d3, rfl, _, _, _⟩ := id ho.ints
        replace h1 := h1.pushOwn hb1 ho
        clear ho hb1
        go_wp2_with fail
        refine (BracketOfS_any a0_0 a0_1 _ _ _ l0 l1 l2 _ (h1.ownInts 2 rfl) (h1.ownInts 1 rfl) (h1.ownInts 0 rfl)).mono ?_
        rintro (e : Ending) w5 ⟨u, rfl, ho, hb1⟩
        obtain ⟨B4, d4, rfl, _, _, _⟩ := id ho.ints
        replace h1 := h1.pushOwn hb1 ho
        clear ho hb1
        obtain ⟨zb4_0, zb4_1, zb4_2⟩ := h1.box3 4 rfl
        go_wp2_with fail
        refine (toAlgebra_any a0_0 a0_1 _ l0 _ (h1.roInts 7 rfl) (by omega)).mono ?_
        rintro (e : Ending) w6 ⟨u, rfl, ho, hb1⟩
        obtain ⟨B5, d5, rfl, _, _, _⟩ := id ho.ints
        replace h1 := h1.pushOwn hb1 ho
        clear ho hb1
        clear zb4_0 zb4_1 zb4_2
        replace h1 := h1.box [.int .i64 a0_0, .int .i64 a0_1, .slice B5 l0.length d5] 27
        go_wp2_with fail
        refine (toIntS_any _ l1 _ (h1.roInts 8 rfl) (by omega)).mono ?_
        rintro (e : Ending) w7 ⟨u, rfl, ho, hb1⟩
        obtain ⟨B6, d6, rfl, _, _, _⟩ := id ho.ints
        replace h1 := h1.pushOwn hb1 ho
        clear ho hb1
        go_wp2_with fail
        refine (toIntS_any _ l2 _ (h1.roInts 8 rfl) (by omega)).mono ?_
        rintro (e : Ending) w8 ⟨u, rfl, ho, hb1⟩
        obtain ⟨B7, d7, rfl, _, _, _⟩ := id ho.ints
        replace h1 := h1.pushOwn hb1 ho
        clear ho hb1
        obtain ⟨zb2_0, zb2_1, zb2_2⟩ := h1.box3 2 rfl
        go_wp2_with fail
        refine (BracketOfI_any a0_0 a0_1 _ _ _ l0 l1 l2 _ (h1.ownInts 3 rfl) (h1.ownInts 1 rfl) (h1.ownInts 0 rfl) hp).mono ?_
        rintro (e : Ending) w9 ⟨u, rfl, ho, hb1⟩
        obtain ⟨B8, d8, rfl, _, _, _⟩ := id ho.ints
        replace h1 := h1.pushOwn hb1 ho
        clear ho hb1
        clear zb2_0 zb2_1 zb2_2
        go_wp2_with fail
        refine (eqIntS_any _ _ (brOf a0_0 a0_1 l0 l1 l2) (brOf a0_0 a0_1 l0 l1 l2) _ (h1.ownInts 0 rfl) (h1.ownInts 5 rfl)).mono ?_
        rintro (e : Ending) w10 ⟨rfl, nd, rfl⟩
        replace h1 := h1.drewN nd
        go_wp2_with fail
        obtain ⟨y0, y1, y2⟩ := h1.box3 3 rfl
        obtain ⟨x0, x1, x2⟩ := h1.box3 9 rfl
        go_region_held3 (fun w' => w'.cell? ⟨w6.heap.size, 0, none⟩ = some (.int .i64 a0_0) ∧ w'.cell? ⟨w6.heap.size, 1, none⟩ = some (.int .i64 a0_1) ∧ w'.cell? ⟨w6.heap.size, 2, none⟩ = some (.slice B5 l0.length d5) ∧ w'.cell? ⟨w.heap.size, 0, none⟩ = some (.int .i64 a0_0) ∧ w'.cell? ⟨w.heap.size, 1, none⟩ = some (.int .i64 a0_1) ∧ w'.cell? ⟨w.heap.size, 2, none⟩ = some (.slice A0 l0.length c0))
          (first | exact ⟨y0, y1, y2, x0, x1, x2⟩ | exact ⟨y0', y1', y2', x0', x1', x2'⟩ | exact ⟨y0'', y1'', y2'', x0'', x1'', x2''⟩)
          (first
            | (go_at_call 17; refine (toAlgebra_any a0_0 a0_1 _ l0 _ ?_ (by omega)).mono ?_; exact h1.drew.roInts 12 rfl; rintro (e : Ending) w11 ⟨u, rfl, ho, hb1⟩; obtain ⟨B9, d9, rfl, _, _, _⟩ := id ho.ints; have h2 := h1.drew.pushOwn hb1 ho; obtain ⟨y0', y1', y2'⟩ := h2.box3 4 rfl; obtain ⟨x0', x1', x2'⟩ := h2.box3 10 rfl)
            | (go_at_call 21; refine (eqAlgebra_same a0_0 a0_1 _ _ l0 _ (h2.ownInts 5 rfl) (h2.ownInts 0 rfl)).mono ?_; rintro (e : Ending) w12 ⟨rfl, hb2⟩; have h3 := h2.on hb2; obtain ⟨y0'', y1'', y2''⟩ := h3.box3 4 rfl; obtain ⟨x0'', x1'', x2''⟩ := h3.box3 10 rfl))
        clear y0 y1 y2 x0 x1 x2 y0' y1' y2' x0' x1' x2' y0'' y1'' y2'' x0'' x1'' x2'' h2 h1 hb1 hb2 ho
        have h1 := h3.drop 1
        clear h3
        go_wp2_with fail
        refine (toIntS_any _ l1 _ (h1.roInts 11 rfl) (by omega)).mono ?_
        rintro (e : Ending) w13 ⟨u, rfl, ho, hb1⟩
        obtain ⟨B10, d10, rfl, _, _, _⟩ := id ho.ints
        replace h1 := h1.pushOwn hb1 ho
        clear ho hb1
        go_wp2_with fail
        refine (eqIntS_any _ _ l1 l1 _ (h1.ownInts 3 rfl) (h1.ownInts 0 rfl)).mono ?_
        rintro (e : Ending) w14 ⟨rfl, nd, rfl⟩
        replace h1 := h1.drewN nd
        replace h1 := h1.drop 1
        go_wp2_with fail
        refine (toIntS_any _ l2 _ (h1.roInts 10 rfl) (by omega)).mono ?_
        rintro (e : Ending) w15 ⟨u, rfl, ho, hb1⟩
        obtain ⟨B11, d11, rfl, _, _, _⟩ := id ho.ints
        replace h1 := h1.pushOwn hb1 ho
        clear ho hb1
        go_wp2_with fail
        refine (eqIntS_any _ _ l2 l2 _ (h1.ownInts 2 rfl) (h1.ownInts 0 rfl)).mono ?_
        rintro (e : Ending) w16 ⟨rfl, nd, rfl⟩
        replace h1 := h1.drewN nd
        replace h1 := h1.drop 1
        obtain ⟨zb3_0, zb3_1, zb3_2⟩ := h1.box3 3 rfl
        go_wp2_with fail
        refine (markAlgebra_any h1 4 rfl a0_0 a0_1 (1) (by omega) (by omega) (by omega)).mono ?_
        rintro (e : Ending) w17 ⟨rfl, h2⟩
        replace h1 := h2
        clear h2
        clear zb3_0 zb3_1 zb3_2
        go_wp2_with fail
        refine (markIntS_any _ l1 (1 + (((l0).length : Nat) : Int)) _ _ (h1.own 2 rfl) (by omega) (by omega) (by omega)).mono ?_
        rintro (e : Ending) w18 ⟨rfl, ho, hg⟩
        replace h1 := h1.wrote 2 rfl ho hg
        clear ho hg
        go_wp2_with fail
        refine (markIntS_any _ l2 (1 + (((l0).length : Nat) : Int) + (((l1).length : Nat) : Int)) _ _ (h1.own 1 rfl) (by omega) (by omega) (by omega)).mono ?_
        rintro (e : Ending) w19 ⟨rfl, ho, hg⟩
        replace h1 := h1.wrote 1 rfl ho hg
        clear ho hg
        go_wp2_with fail
        refine (eqIntS_any _ _ (brOf a0_0 a0_1 l0 l1 l2) (brOf a0_0 a0_1 l0 l1 l2) _ (h1.ownInts 0 rfl) (h1.ownInts 5 rfl)).mono ?_
        rintro (e : Ending) w20 ⟨rfl, nd, rfl⟩
        replace h1 := h1.drewN nd
        go_wp2_with fail
        refine (markIntS_any _ (brOf a0_0 a0_1 l0 l1 l2) (1) _ _ (h1.own 0 rfl) (by omega) (by omega) (by omega)).mono ?_
        rintro (e : Ending) w21 ⟨rfl, ho, hg⟩
        replace h1 := h1.wrote 0 rfl ho hg
        clear ho hg
        go_wp2_with fail
        refine (heldIntS_any _ _ (1) _ (h1.ownInts 0 rfl) (by omega) (by omega) (by omega)).mono ?_
        rintro (e : Ending) w22 ⟨rfl, rfl⟩
        obtain ⟨zb9_0, zb9_1, zb9_2⟩ := h1.box3 9 rfl
        go_wp2_with fail
        refine (toAlgebra_any a0_0 a0_1 _ l0 _ (h1.roInts 12 rfl) (by omega)).mono ?_
        rintro (e : Ending) w23 ⟨u, rfl, ho, hb1⟩
        obtain ⟨B12, d12, rfl, _, _, _⟩ := id ho.ints
        replace h1 := h1.pushOwn hb1 ho
        clear ho hb1
        clear zb9_0 zb9_1 zb9_2
        go_wp2_with fail
        refine (toIntS_any _ l1 _ (h1.roInts 12 rfl) (by omega)).mono ?_
        rintro (e : Ending) w24 ⟨u, rfl, ho, hb1⟩
        obtain ⟨B13, d13, rfl, _, _, _⟩ := id ho.ints
        replace h1 := h1.pushOwn hb1 ho
        clear ho hb1
        go_wp2_with fail
        refine (toIntS_any _ l2 _ (h1.roInts 12 rfl) (by omega)).mono ?_
        rintro (e : Ending) w25 ⟨u, rfl, ho, hb1⟩
        obtain ⟨B14, d14, rfl, _, _, _⟩ := id ho.ints
        replace h1 := h1.pushOwn hb1 ho
        clear ho hb1
        go_wp2_with fail
        refine (BracketOfI_any a0_0 a0_1 _ _ _ l0 l1 l2 _ (h1.ownInts 2 rfl) (h1.ownInts 1 rfl) (h1.ownInts 0 rfl) hp).mono ?_
        rintro (e : Ending) w26 ⟨u, rfl, ho, hb1⟩
        obtain ⟨B15, d15, rfl, _, _, _⟩ := id ho.ints
        replace h1 := h1.pushOwn hb1 ho
        clear ho hb1
        go_wp2_with fail
        refine (eqIntS_any _ _ (brOf a0_0 a0_1 l0 l1 l2) (brOf a0_0 a0_1 l0 l1 l2) _ (h1.ownInts 0 rfl) (h1.ownInts 9 rfl)).mono ?_
        rintro (e : Ending) w27 ⟨rfl, nd, rfl⟩
        replace h1 := h1.drewN nd
        go_wp2_with fail
        refine (heldIntS_any _ _ (1) _ (h1.ownInts 4 rfl) (by omega) (by omega) (by omega)).mono ?_
        rintro (e : Ending) w28 ⟨rfl, rfl⟩
        go_wp2_with fail
        go_ret
        exact ⟨rfl, h1.below⟩
end Br
end Go.Proofs.Ytngmepodgbhbpaa
