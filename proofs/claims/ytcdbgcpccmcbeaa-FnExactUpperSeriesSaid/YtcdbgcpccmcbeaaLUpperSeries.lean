/- The law FnExactUpperSeries, walked. (Written by lgen2.py.) -/
import Derived.Test.YtcdbgcpccmcbeaaUpI
import Derived.Test.YtcdbgcpccmcbeaaLawB
import Derived.Test.YtcdbgcpccmcbeaaLawM
namespace Go.Proofs.Ytcdbgcpccmcbeaa
set_option maxRecDepth 100000
open Go.RowKit
namespace Us

set_option maxHeartbeats 4000000 in
theorem lawUpperSeries {w : World} (a0_0 a0_1 : Int) (v0 : Value) (l0 : List Int) (g0 : Ints w v0 l0) (wf0_0 : (Lit.int .i64 a0_0).wf = true) (_wf0_1 : (Lit.int .i64 a0_1).wf = true) (_ : ∀ x ∈ l0, (Lit.int .i64 x).wf = true) :
    Calls Try.prog 6 #[.agg #[.int .i64 a0_0, .int .i64 a0_1, v0]] w fun e w' => e = .returned (.bool true) ∧ Below w.heap.size w w' := by
  by_cases L0 : ((l0.length : Nat) : Int) ≤ 1048576
  case neg =>
    have h1 := ((St.start w).arg g0).box [.int .i64 a0_0, .int .i64 a0_1, v0] 24
    obtain ⟨A0, c0, rfl, _, _, _⟩ := id g0
    clear g0
    go_enter Try.func6, Try.ntmps6
    obtain ⟨zb0_0, zb0_1, zb0_2⟩ := h1.box3 0 rfl
    go_wp2_with fail
    refine (szAlgebra_no a0_0 a0_1 (1048576) _ l0 _ (h1.roInts 1 rfl) (by omega) (by omega) (by omega)).mono ?_
    rintro (e : Ending) w1 ⟨rfl, hb1⟩
    replace h1 := h1.on hb1
    clear hb1
    clear zb0_0 zb0_1 zb0_2
    go_wp2_with fail
    go_ret
    exact ⟨rfl, h1.below⟩
  case pos =>
    have hp := wf_le wf0_0
    have bd := upMod_bd a0_0 a0_1 l0
    have h1 := ((St.start w).arg g0).box [.int .i64 a0_0, .int .i64 a0_1, v0] 24
    obtain ⟨A0, c0, rfl, _, _, _⟩ := id g0
    clear g0
    go_enter Try.func6, Try.ntmps6
    obtain ⟨zb0_0, zb0_1, zb0_2⟩ := h1.box3 0 rfl
    go_wp2_with fail
    refine (szAlgebra_yes a0_0 a0_1 (1048576) _ l0 _ (h1.roInts 1 rfl) (by omega) (by omega)).mono ?_
    rintro (e : Ending) w1 ⟨rfl, hb1⟩
    replace h1 := h1.on hb1
    clear hb1
    clear zb0_0 zb0_1 zb0_2
    obtain ⟨zb0_0, zb0_1, zb0_2⟩ := h1.box3 0 rfl
    go_wp2_with fail
    refine (toAlgebra_any a0_0 a0_1 _ l0 _ (h1.roInts 1 rfl) (by omega)).mono ?_
    rintro (e : Ending) w2 ⟨u, rfl, ho, hb1⟩
    obtain ⟨B1, d1, rfl, _, _, _⟩ := id ho.ints
    replace h1 := h1.pushOwn hb1 ho
    clear ho hb1
    clear zb0_0 zb0_1 zb0_2
    go_wp2_with fail
    refine (UpperSeriesS_any a0_0 a0_1 _ l0 _ (h1.ownInts 0 rfl)).mono ?_
    rintro (e : Ending) w3 ⟨u, us2, rfl, hu2, hok, hnd, hb1⟩
    obtain ⟨B2, d2, rfl, _, _, _⟩ := id (It.mats hok hu2)
    replace h1 := h1.pushMats hb1 hok hnd
    clear hok hnd hb1
    obtain ⟨zb2_0, zb2_1, zb2_2⟩ := h1.box3 2 rfl
    go_wp2_with fail
    refine (toAlgebra_any a0_0 a0_1 _ l0 _ (h1.roInts 3 rfl) (by omega)).mono ?_
    rintro (e : Ending) w4 ⟨u, rfl, ho, hb1⟩
    obtain ⟨B3, d3, rfl, _, _, _⟩ := id ho.ints
    replace h1 := h1.pushOwn hb1 ho
    clear ho hb1
    clear zb2_0 zb2_1 zb2_2
    replace h1 := h1.box [.int .i64 a0_0, .int .i64 a0_1, .slice B3 l0.length d3] 29
    obtain ⟨zb0_0, zb0_1, zb0_2⟩ := h1.box3 0 rfl
    go_wp2_with fail
    refine (UpperSeriesI_any a0_0 a0_1 _ l0 _ (h1.ownInts 1 rfl) hp).mono ?_
    rintro (e : Ending) w5 ⟨u, us4, rfl, hu4, hok, hnd, hb1⟩
    obtain ⟨B4, d4, rfl, _, _, _⟩ := id (It.mats hok hu4)
    replace h1 := h1.pushMats hb1 hok hnd
    clear hok hnd hb1
    clear zb0_0 zb0_1 zb0_2
    go_wp2_with fail
    refine (eqMatrixS_same _ _ (upMod a0_0 a0_1 l0) _ (h1.mats 0 rfl hu4) (h1.mats 3 rfl hu2)).mono ?_
    rintro (e : Ending) w6 ⟨rfl, hb1⟩
    replace h1 := h1.on hb1
    clear hb1
    go_wp2_with fail
    obtain ⟨y0, y1, y2⟩ := h1.box3 1 rfl
    obtain ⟨x0, x1, x2⟩ := h1.box3 5 rfl
    go_region_held3 (fun w' => w'.cell? ⟨w4.heap.size, 0, none⟩ = some (.int .i64 a0_0) ∧ w'.cell? ⟨w4.heap.size, 1, none⟩ = some (.int .i64 a0_1) ∧ w'.cell? ⟨w4.heap.size, 2, none⟩ = some (.slice B3 l0.length d3) ∧ w'.cell? ⟨w.heap.size, 0, none⟩ = some (.int .i64 a0_0) ∧ w'.cell? ⟨w.heap.size, 1, none⟩ = some (.int .i64 a0_1) ∧ w'.cell? ⟨w.heap.size, 2, none⟩ = some (.slice A0 l0.length c0))
      (first | exact ⟨y0, y1, y2, x0, x1, x2⟩ | exact ⟨y0', y1', y2', x0', x1', x2'⟩ | exact ⟨y0'', y1'', y2'', x0'', x1'', x2''⟩)
      (first
        | (go_at_call 15; refine (toAlgebra_any a0_0 a0_1 _ l0 _ ?_ (by omega)).mono ?_; exact h1.drew.roInts 6 rfl; rintro (e : Ending) w7 ⟨u, rfl, ho, hb1⟩; obtain ⟨B5, d5, rfl, _, _, _⟩ := id ho.ints; have h2 := h1.drew.pushOwn hb1 ho; obtain ⟨y0', y1', y2'⟩ := h2.box3 2 rfl; obtain ⟨x0', x1', x2'⟩ := h2.box3 6 rfl)
        | (go_at_call 18; refine (eqAlgebra_same a0_0 a0_1 _ _ l0 _ (h2.ownInts 3 rfl) (h2.ownInts 0 rfl)).mono ?_; rintro (e : Ending) w8 ⟨rfl, hb2⟩; have h3 := h2.on hb2; obtain ⟨y0'', y1'', y2''⟩ := h3.box3 2 rfl; obtain ⟨x0'', x1'', x2''⟩ := h3.box3 6 rfl))
    clear y0 y1 y2 x0 x1 x2 y0' y1' y2' x0' x1' x2' y0'' y1'' y2'' x0'' x1'' x2'' h2 h1 hb1 hb2 ho
    have h1 := h3.drop 1
    clear h3
    obtain ⟨zb1_0, zb1_1, zb1_2⟩ := h1.box3 1 rfl
    go_wp2_with fail
    refine (markAlgebra_any h1 2 rfl a0_0 a0_1 (1) (by omega) (by omega) (by omega)).mono ?_
    rintro (e : Ending) w9 ⟨rfl, h2⟩
    replace h1 := h2
    clear h2
    clear zb1_0 zb1_1 zb1_2
    go_wp2_with fail
    refine (eqMatrixS_same _ _ (upMod a0_0 a0_1 l0) _ (h1.mats 0 rfl hu4) (h1.mats 3 rfl hu2)).mono ?_
    rintro (e : Ending) w10 ⟨rfl, hb1⟩
    replace h1 := h1.on hb1
    clear hb1
    go_wp2_with fail
    refine (markMatrixS_any h1 0 rfl hu4 (1) (by omega) (by omega) (by omega)).mono ?_
    rintro (e : Ending) w11 ⟨rfl, h2⟩
    replace h1 := h2
    clear h2
    go_wp2_with fail
    refine (heldMatrixS_any _ (upMod a0_0 a0_1 l0) (1) _ (h1.mats 0 rfl (by rw [length_markMs]; exact hu4)) (by omega) (by omega) (by omega)).mono ?_
    rintro (e : Ending) w12 ⟨rfl, hb1⟩
    replace h1 := h1.on hb1
    clear hb1
    obtain ⟨zb5_0, zb5_1, zb5_2⟩ := h1.box3 5 rfl
    go_wp2_with fail
    refine (toAlgebra_any a0_0 a0_1 _ l0 _ (h1.roInts 6 rfl) (by omega)).mono ?_
    rintro (e : Ending) w13 ⟨u, rfl, ho, hb1⟩
    obtain ⟨B6, d6, rfl, _, _, _⟩ := id ho.ints
    replace h1 := h1.pushOwn hb1 ho
    clear ho hb1
    clear zb5_0 zb5_1 zb5_2
    go_wp2_with fail
    refine (UpperSeriesI_any a0_0 a0_1 _ l0 _ (h1.ownInts 0 rfl) hp).mono ?_
    rintro (e : Ending) w14 ⟨u, us7, rfl, hu7, hok, hnd, hb1⟩
    obtain ⟨B7, d7, rfl, _, _, _⟩ := id (It.mats hok hu7)
    replace h1 := h1.pushMats hb1 hok hnd
    clear hok hnd hb1
    go_wp2_with fail
    refine (eqMatrixS_same _ _ (upMod a0_0 a0_1 l0) _ (h1.mats 0 rfl hu7) (h1.mats 5 rfl hu2)).mono ?_
    rintro (e : Ending) w15 ⟨rfl, hb1⟩
    replace h1 := h1.on hb1
    clear hb1
    go_wp2_with fail
    refine (heldMatrixS_any _ (upMod a0_0 a0_1 l0) (1) _ (h1.mats 2 rfl (by rw [length_markMs]; exact hu4)) (by omega) (by omega) (by omega)).mono ?_
    rintro (e : Ending) w16 ⟨rfl, hb1⟩
    replace h1 := h1.on hb1
    clear hb1
    go_wp2_with fail
    go_ret
    exact ⟨rfl, h1.below⟩
end Us
end Go.Proofs.Ytcdbgcpccmcbeaa
