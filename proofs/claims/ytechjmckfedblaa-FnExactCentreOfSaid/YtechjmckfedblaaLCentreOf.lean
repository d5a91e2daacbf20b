/- The law FnExactCentreOf, walked. (Written by lgen2.py.) -/
import Derived.Test.YtechjmckfedblaaCen
import Derived.Test.YtechjmckfedblaaRegX
import Derived.Test.YtechjmckfedblaaLawB
namespace Go.Proofs.Ytechjmckfedblaa
set_option maxRecDepth 100000
open Go.RowKit
namespace Ce

set_option maxHeartbeats 4000000 in
theorem lawCentreOf {w : World} (a0_0 a0_1 : Int) (v0 : Value) (l0 : List Int) (g0 : Ints w v0 l0) (wf0_0 : (Lit.int .i64 a0_0).wf = true) (_wf0_1 : (Lit.int .i64 a0_1).wf = true) (_ : ∀ x ∈ l0, (Lit.int .i64 x).wf = true) :
    Calls Try.prog 10 #[.agg #[.int .i64 a0_0, .int .i64 a0_1, v0]] w fun e w' => e = .returned (.bool true) ∧ Below w.heap.size w w' := by
  by_cases L0 : ((l0.length : Nat) : Int) ≤ 1048576
  case neg =>
    have h1 := ((St.start w).arg g0).box [.int .i64 a0_0, .int .i64 a0_1, v0] 24
    obtain ⟨A0, c0, rfl, _, _, _⟩ := id g0
    clear g0
    go_enter Try.func10, Try.ntmps10
    obtain ⟨zb0_0, zb0_1, zb0_2⟩ := h1.box3 0 rfl
    go_wp2_with fail
    refine (szAlgebra_no a0_0 a0_1 (1048576) _ l0 _ (h1.roInts 1 rfl) (by omega) (by omega) (by omega)).mono ?_
    rintro (e : Ending) w1 ⟨rfl, hb1⟩
    replace h1 := h1.on hb1
    clear hb1
    clear zb0_0 zb0_1 zb0_2
    go_wp2_with fail
    go_ret
    exact ⟨rfl, h1.below⟩
  case pos =>
    have hp := wf_le wf0_0
    have bd := cenD_bd a0_0 a0_1 l0
    have h1 := ((St.start w).arg g0).box [.int .i64 a0_0, .int .i64 a0_1, v0] 24
    obtain ⟨A0, c0, rfl, _, _, _⟩ := id g0
    clear g0
    go_enter Try.func10, Try.ntmps10
    obtain ⟨zb0_0, zb0_1, zb0_2⟩ := h1.box3 0 rfl
    go_wp2_with fail
    refine (szAlgebra_yes a0_0 a0_1 (1048576) _ l0 _ (h1.roInts 1 rfl) (by omega) (by omega)).mono ?_
    rintro (e : Ending) w1 ⟨rfl, hb1⟩
    replace h1 := h1.on hb1
    clear hb1
    clear zb0_0 zb0_1 zb0_2
    obtain ⟨zb0_0, zb0_1, zb0_2⟩ := h1.box3 0 rfl
    go_wp2_with fail
    refine (toAlgebra_any a0_0 a0_1 _ l0 _ (h1.roInts 1 rfl) (by omega)).mono ?_
    rintro (e : Ending) w2 ⟨u, rfl, ho, hb1⟩
    obtain ⟨B1, d1, rfl, _, _, _⟩ := id ho.ints
    replace h1 := h1.pushOwn hb1 ho
    clear ho hb1
    clear zb0_0 zb0_1 zb0_2
    go_wp2_with fail
    refine (CentreOfS_any a0_0 a0_1 _ l0 _ (h1.ownInts 0 rfl)).mono ?_
    rintro (e : Ending) w3 ⟨u, rfl, ho, hb1⟩
    obtain ⟨B2, d2, rfl, _, _, _⟩ := id ho.ints
    replace h1 := h1.pushOwn hb1 ho
    clear ho hb1
    replace h1 := h1.box [.int .i64 (cenP a0_0 a0_1 l0), .int .i64 (cenR a0_0 a0_1 l0), .int .i64 (cenC a0_0 a0_1 l0), .slice B2 (cenD a0_0 a0_1 l0).length d2] 32
    obtain ⟨zb3_0, zb3_1, zb3_2⟩ := h1.box3 3 rfl
    go_wp2_with fail
    refine (toAlgebra_any a0_0 a0_1 _ l0 _ (h1.roInts 4 rfl) (by omega)).mono ?_
    rintro (e : Ending) w4 ⟨u, rfl, ho, hb1⟩
    obtain ⟨B3, d3, rfl, _, _, _⟩ := id ho.ints
    replace h1 := h1.pushOwn hb1 ho
    clear ho hb1
    clear zb3_0 zb3_1 zb3_2
    replace h1 := h1.box [.int .i64 a0_0, .int .i64 a0_1, .slice B3 l0.length d3] 30
    obtain ⟨zb0_0, zb0_1, zb0_2⟩ := h1.box3 0 rfl
    go_wp2_with fail
    refine (CentreOfI_any a0_0 a0_1 _ l0 _ (h1.ownInts 1 rfl) hp).mono ?_
    rintro (e : Ending) w5 ⟨u, rfl, ho, hb1⟩
    obtain ⟨B4, d4, rfl, _, _, _⟩ := id ho.ints
    replace h1 := h1.pushOwn hb1 ho
    clear ho hb1
    clear zb0_0 zb0_1 zb0_2
    replace h1 := h1.box [.int .i64 (cenP a0_0 a0_1 l0), .int .i64 (cenR a0_0 a0_1 l0), .int .i64 (cenC a0_0 a0_1 l0), .slice B4 (cenD a0_0 a0_1 l0).length d4] 32
    obtain ⟨zb0_0, zb0_1, zb0_2, zb0_3⟩ := h1.box4 0 rfl
    obtain ⟨zb4_0, zb4_1, zb4_2, zb4_3⟩ := h1.box4 4 rfl
    go_wp2_with fail
    refine (eqMatrix_same (cenP a0_0 a0_1 l0) (cenR a0_0 a0_1 l0) (cenC a0_0 a0_1 l0) _ _ (cenD a0_0 a0_1 l0) _ (h1.ownInts 1 rfl) (h1.ownInts 5 rfl)).mono ?_
    rintro (e : Ending) w6 ⟨rfl, hb1⟩
    replace h1 := h1.on hb1
    clear hb1
    clear zb0_0 zb0_1 zb0_2 zb0_3 zb4_0 zb4_1 zb4_2 zb4_3
    go_wp2_with fail
    obtain ⟨y0, y1, y2⟩ := h1.box3 2 rfl
    obtain ⟨x0, x1, x2⟩ := h1.box3 7 rfl
    go_region_held3 (fun w' => w'.cell? ⟨w4.heap.size, 0, none⟩ = some (.int .i64 a0_0) ∧ w'.cell? ⟨w4.heap.size, 1, none⟩ = some (.int .i64 a0_1) ∧ w'.cell? ⟨w4.heap.size, 2, none⟩ = some (.slice B3 l0.length d3) ∧ w'.cell? ⟨w.heap.size, 0, none⟩ = some (.int .i64 a0_0) ∧ w'.cell? ⟨w.heap.size, 1, none⟩ = some (.int .i64 a0_1) ∧ w'.cell? ⟨w.heap.size, 2, none⟩ = some (.slice A0 l0.length c0))
      (first | exact ⟨y0, y1, y2, x0, x1, x2⟩ | exact ⟨y0', y1', y2', x0', x1', x2'⟩ | exact ⟨y0'', y1'', y2'', x0'', x1'', x2''⟩)
      (first
        | (go_at_call 18; refine (toAlgebra_any a0_0 a0_1 _ l0 _ ?_ (by omega)).mono ?_; exact h1.drew.roInts 8 rfl; rintro (e : Ending) w7 ⟨u, rfl, ho, hb1⟩; obtain ⟨B5, d5, rfl, _, _, _⟩ := id ho.ints; have h2 := h1.drew.pushOwn hb1 ho; obtain ⟨y0', y1', y2'⟩ := h2.box3 3 rfl; obtain ⟨x0', x1', x2'⟩ := h2.box3 8 rfl)
        | (go_at_call 21; refine (eqAlgebra_same a0_0 a0_1 _ _ l0 _ (h2.ownInts 4 rfl) (h2.ownInts 0 rfl)).mono ?_; rintro (e : Ending) w8 ⟨rfl, hb2⟩; have h3 := h2.on hb2; obtain ⟨y0'', y1'', y2''⟩ := h3.box3 3 rfl; obtain ⟨x0'', x1'', x2''⟩ := h3.box3 8 rfl))
    clear y0 y1 y2 x0 x1 x2 y0' y1' y2' x0' x1' x2' y0'' y1'' y2'' x0'' x1'' x2'' h2 h1 hb1 hb2 ho
    have h1 := h3.drop 1
    clear h3
    obtain ⟨zb2_0, zb2_1, zb2_2⟩ := h1.box3 2 rfl
    go_wp2_with fail
    refine (markAlgebra_any h1 3 rfl a0_0 a0_1 (1) (by omega) (by omega) (by omega)).mono ?_
    rintro (e : Ending) w9 ⟨rfl, h2⟩
    replace h1 := h2
    clear h2
    clear zb2_0 zb2_1 zb2_2
    obtain ⟨zb0_0, zb0_1, zb0_2, zb0_3⟩ := h1.box4 0 rfl
    obtain ⟨zb4_0, zb4_1, zb4_2, zb4_3⟩ := h1.box4 4 rfl
    go_wp2_with fail
    refine (eqMatrix_same (cenP a0_0 a0_1 l0) (cenR a0_0 a0_1 l0) (cenC a0_0 a0_1 l0) _ _ (cenD a0_0 a0_1 l0) _ (h1.ownInts 1 rfl) (h1.ownInts 5 rfl)).mono ?_
    rintro (e : Ending) w10 ⟨rfl, hb1⟩
    replace h1 := h1.on hb1
    clear hb1
    clear zb0_0 zb0_1 zb0_2 zb0_3 zb4_0 zb4_1 zb4_2 zb4_3
    obtain ⟨zb0_0, zb0_1, zb0_2, zb0_3⟩ := h1.box4 0 rfl
    go_wp2_with fail
    refine (markMatrix_any h1 1 rfl (cenP a0_0 a0_1 l0) (cenR a0_0 a0_1 l0) (cenC a0_0 a0_1 l0) (1) (by omega) (by omega) (by omega)).mono ?_
    rintro (e : Ending) w11 ⟨rfl, h2⟩
    replace h1 := h2
    clear h2
    clear zb0_0 zb0_1 zb0_2 zb0_3
    obtain ⟨zb0_0, zb0_1, zb0_2, zb0_3⟩ := h1.box4 0 rfl
    go_wp2_with fail
    refine (heldMatrix_any (cenP a0_0 a0_1 l0) (cenR a0_0 a0_1 l0) (cenC a0_0 a0_1 l0) (1) _ _ _ (h1.ownInts 1 rfl) (by omega) (by omega) (by omega)).mono ?_
    rintro (e : Ending) w12 ⟨rfl, hb1⟩
    replace h1 := h1.on hb1
    clear hb1
    clear zb0_0 zb0_1 zb0_2 zb0_3
    obtain ⟨zb7_0, zb7_1, zb7_2⟩ := h1.box3 7 rfl
    go_wp2_with fail
    refine (toAlgebra_any a0_0 a0_1 _ l0 _ (h1.roInts 8 rfl) (by omega)).mono ?_
    rintro (e : Ending) w13 ⟨u, rfl, ho, hb1⟩
    obtain ⟨B6, d6, rfl, _, _, _⟩ := id ho.ints
    replace h1 := h1.pushOwn hb1 ho
    clear ho hb1
    clear zb7_0 zb7_1 zb7_2
    go_wp2_with fail
    refine (CentreOfI_any a0_0 a0_1 _ l0 _ (h1.ownInts 0 rfl) hp).mono ?_
    rintro (e : Ending) w14 ⟨u, rfl, ho, hb1⟩
    obtain ⟨B7, d7, rfl, _, _, _⟩ := id ho.ints
    replace h1 := h1.pushOwn hb1 ho
    clear ho hb1
    replace h1 := h1.box [.int .i64 (cenP a0_0 a0_1 l0), .int .i64 (cenR a0_0 a0_1 l0), .int .i64 (cenC a0_0 a0_1 l0), .slice B7 (cenD a0_0 a0_1 l0).length d7] 32
    obtain ⟨zb0_0, zb0_1, zb0_2, zb0_3⟩ := h1.box4 0 rfl
    obtain ⟨zb7_0, zb7_1, zb7_2, zb7_3⟩ := h1.box4 7 rfl
    go_wp2_with fail
    refine (eqMatrix_same (cenP a0_0 a0_1 l0) (cenR a0_0 a0_1 l0) (cenC a0_0 a0_1 l0) _ _ (cenD a0_0 a0_1 l0) _ (h1.ownInts 1 rfl) (h1.ownInts 8 rfl)).mono ?_
    rintro (e : Ending) w15 ⟨rfl, hb1⟩
    replace h1 := h1.on hb1
    clear hb1
    clear zb0_0 zb0_1 zb0_2 zb0_3 zb7_0 zb7_1 zb7_2 zb7_3
    obtain ⟨zb3_0, zb3_1, zb3_2, zb3_3⟩ := h1.box4 3 rfl
    go_wp2_with fail
    refine (heldMatrix_any (cenP a0_0 a0_1 l0) (cenR a0_0 a0_1 l0) (cenC a0_0 a0_1 l0) (1) _ _ _ (h1.ownInts 4 rfl) (by omega) (by omega) (by omega)).mono ?_
    rintro (e : Ending) w16 ⟨rfl, hb1⟩
    replace h1 := h1.on hb1
    clear hb1
    clear zb3_0 zb3_1 zb3_2 zb3_3
    go_wp2_with fail
    go_ret
    exact ⟨rfl, h1.below⟩
end Ce
end Go.Proofs.Ytechjmckfedblaa
