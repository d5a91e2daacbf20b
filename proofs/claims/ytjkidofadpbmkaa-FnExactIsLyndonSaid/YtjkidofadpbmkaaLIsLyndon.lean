/- The law FnExactIsLyndon, walked. -/
import Derived.Test.YtjkidofadpbmkaaLyndon
import Derived.Test.YtjkidofadpbmkaaLawInts
namespace Go.Proofs.Ytjkidofadpbmkaa
open Go.RowKit
namespace Words

set_option maxHeartbeats 400000 in
theorem lawIsLyndon (v : Value) (l : List Int) {w : World} (hv : Ints w v l) (_ : ∀ x ∈ l, (Lit.int .i64 x).wf = true) :
    Calls Try.prog 4 #[v] w fun e w' => e = .returned (.bool true) ∧ Below w.heap.size w w' := by
  have hv0 := hv
  obtain ⟨A, c, rfl, h1, h2, h3⟩ := hv
  clear h3
  by_cases hl : l.length ≤ 1048576
  · clear h1 h2
    have ha := hv0.toB
    clear hv0
    have hB := Below.refl w.heap.size w
    go_enter Try.func4, Try.ntmps4
    go_wp2_with fail
    refine (toIntS_any _ l _ ha.ints (by omega)).mono ?_
    rintro e w1 ⟨u1, rfl, ho1, hb⟩
    replace ho1 := ho1.toIn; replace ha := ha.below hb hB.size; replace hB := hB.trans (hb.mono hB.size); clear hb
    go_wp2_with fail
    refine (IsLyndonS_any _ l _ ho1.ints).mono ?_
    rintro e w2 ⟨rfl, n2, hw⟩
    have hb := below_of_drewN hw; clear hw
    replace ho1 := ho1.below hb (Nat.le_refl _); replace ha := ha.below hb hB.size; replace hB := hB.trans (hb.mono hB.size); clear hb
    go_wp2_with fail
    refine (toIntS_any _ l _ ha.ints (by omega)).mono ?_
    rintro e w3 ⟨u3, rfl, ho3, hb⟩
    replace ho3 := ho3.toIn; replace ha := ha.below hb hB.size; replace hB := hB.trans (hb.mono hB.size); clear hb
    go_wp2_with fail
    refine (IsLyndonI_any _ l _ ho3.ints).mono ?_
    rintro e w4 ⟨rfl, rfl⟩
    go_wp2_with fail
    refine (toIntS_any _ l _ ha.ints (by omega)).mono ?_
    rintro e w5 ⟨u5, rfl, ho5, hb⟩
    replace ho5 := ho5.toIn; replace ho3 := ho3.below hb (Nat.le_refl _); replace ha := ha.below hb hB.size; replace hB := hB.trans (hb.mono hB.size); clear hb
    go_wp2_with fail
    refine (eqIntS_any _ _ l l _ ho3.ints ho5.ints).mono ?_
    rintro e w6 ⟨rfl, n6, hw⟩
    have hb := below_of_drewN hw; clear hw
    replace hB := hB.trans (hb.mono hB.size); clear hb
    go_wp2_with fail
    go_ret
    exact ⟨rfl, hB⟩
  · go_enter Try.func4, Try.ntmps4
    go_wp2_with fail
    go_ret
    exact ⟨rfl, Below.refl _ _⟩
end Words
end Go.Proofs.Ytjkidofadpbmkaa
