/- The law FnExactBracketText, walked. -/
import Derived.Test.YtcngijafnnmccaaDoorBrkI
import Derived.Test.YtcngijafnnmccaaDoorLawB
namespace Go.Proofs.YtcngijafnnmccaaDoor
set_option maxRecDepth 100000
open Go.RowKit
namespace Words

set_option maxHeartbeats 400000 in
theorem lawBracketText (v : Value) (l : List Int) {w : World} (hv : Ints w v l) (_ : ∀ x ∈ l, (Lit.int .i64 x).wf = true) :
    Calls Tryd.prog 3 #[v] w fun e w' => e = .returned (.bool true) ∧ Below w.heap.size w w' := by
  have hv0 := hv
  obtain ⟨A, c, rfl, h1, h2, h3⟩ := hv
  clear h3
  by_cases hl : l.length ≤ 1048576
  · clear h1 h2
    have ha := hv0.toB
    clear hv0
    have hB := Below.refl w.heap.size w
    have HS := Lib.hid (fun (W : World) (u : Value) (h : Ints W u l) => BracketTextS_any u l W h)
    have HI := Lib.hid (fun (W : World) (u : Value) (h : Ints W u l) => BracketTextI_any u l W h)
    obtain ⟨T, hT⟩ : ∃ T, T = txtO l := ⟨_, rfl⟩
    rw [← hT] at HS HI
    clear hT
    go_enter Tryd.func3, Tryd.ntmps3
    go_wp2_with fail
    refine (toIntS_any _ l _ ha.ints (by omega)).mono ?_
    rintro e w1 ⟨u1, rfl, ho1, hb⟩
    replace ho1 := ho1.toIn; replace ha := ha.below hb hB.size; replace hB := hB.trans (hb.mono hB.size); clear hb
    go_wp2_with fail
    refine (HS.out _ _ ho1.ints).mono ?_
    rintro e w2 ⟨rfl, hb⟩
    replace ho1 := ho1.below hb (Nat.le_refl _); replace ha := ha.below hb hB.size; replace hB := hB.trans (hb.mono hB.size); clear hb
    go_wp2_with fail
    refine (toIntS_any _ l _ ha.ints (by omega)).mono ?_
    rintro e w3 ⟨u3, rfl, ho3, hb⟩
    replace ho3 := ho3.toIn; replace ha := ha.below hb hB.size; replace hB := hB.trans (hb.mono hB.size); clear hb
    go_wp2_with fail
    refine (HI.out _ _ ho3.ints).mono ?_
    rintro e w4 ⟨rfl, hb⟩
    have s4 := hb.size
    replace ho3 := ho3.below hb (Nat.le_refl _); replace ha := ha.below hb hB.size; replace hB := hB.trans (hb.mono hB.size); clear hb
    go_wp2_with fail
    refine (toIntS_any _ l _ ha.ints (by omega)).mono ?_
    rintro e w5 ⟨u5, rfl, ho5, hb⟩
    replace ho5 := ho5.toIn; replace ho3 := ho3.below hb (by omega); replace ha := ha.below hb hB.size; replace hB := hB.trans (hb.mono hB.size); clear hb
    go_wp2_with fail
    refine (eqIntS_any _ _ l l _ ho3.ints ho5.ints).mono ?_
    rintro e w6 ⟨rfl, n6, hw⟩
    have hb := below_of_drewN hw; clear hw
    replace hB := hB.trans (hb.mono hB.size); clear hb
    go_wp2_with fail
    go_ret
    exact ⟨rfl, hB⟩
  · go_enter Tryd.func3, Tryd.ntmps3
    go_wp2_with fail
    go_ret
    exact ⟨rfl, Below.refl _ _⟩
end Words
end Go.Proofs.YtcngijafnnmccaaDoor
