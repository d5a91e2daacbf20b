/- The law FnExactLyndonWords, walked. (Written by lgen.py.) -/
import Derived.Test.YtmohkpgojkipkaaLynI
namespace Go.Proofs.Ytmohkpgojkipkaa
set_option maxRecDepth 100000
open Go.RowKit
namespace Words

set_option maxRecDepth 100000 in
set_option maxHeartbeats 1000000 in
theorem lawLyndonWords {w : World} (x0 : Int) (_z0 : (Lit.int .i64 x0).wf = true) (x1 : Int) (_z1 : (Lit.int .i64 x1).wf = true) :
    Calls Try.prog 3 #[.int .i64 x0, .int .i64 x1] w fun e w' => e = .returned (.bool true) ∧ Below w.heap.size w w' := by
  have hB := Below.refl w.heap.size w
  have s0 := Nat.le_refl w.heap.size
  have b0 : (lynO x0 x1).length ≤ 65536 ∧ total (lynO x0 x1) ≤ 524288 := lynO_bd x0 x1
  go_enter Try.func3, Try.ntmps3
  go_wp2_with fail
  refine (LyndonWordsS_any _ _ _).mono ?_
  rintro e w1 ⟨u1, rfl, o1, hb⟩
  have s1 := hb.size
  replace hB := hB.trans (hb.mono (by omega))
  clear hb
  go_wp2_with fail
  refine (LyndonWordsI_any _ _ _).mono ?_
  rintro e w2 ⟨u2, rfl, o2, hb⟩
  have s2 := hb.size
  replace o1 := o1.below hb (by omega)
  replace hB := hB.trans (hb.mono (by omega))
  clear hb
  go_wp2_with fail
  refine (eqIntSS_any _ _ (lynO x0 x1) (lynO x0 x1) _ o2.rows o1.rows).mono ?_
  rintro e w3 ⟨rfl, n3, hw⟩
  have hb := below_of_drewN hw; clear hw
  have s3 := hb.size
  replace o1 := o1.below hb (by omega)
  replace o2 := o2.below hb (by omega)
  replace hB := hB.trans (hb.mono (by omega))
  clear hb
  go_wp2_with fail
  refine (markIntSS_any _ (lynO x0 x1) (1) _ _ _ o2 (by omega) (by omega) (by omega) (by omega)).mono ?_
  rintro e w4 ⟨rfl, ho, hg⟩
  have s4 := hg.size
  replace o1 := o1.keepOnly hg (by omega)
  replace hB := Only.below hB hg (by omega) (by omega)
  replace o2 := ho
  clear ho hg
  go_wp2_with fail
  refine (heldIntSS_any _ ((lynO x0 x1)) (1) _ o2.rows (by omega) (by omega) (by omega)).mono ?_
  rintro e w5 ⟨rfl, hw⟩
  have hb := below_of_eq hw; clear hw
  have s5 := hb.size
  replace o1 := o1.below hb (by omega)
  replace o2 := o2.below hb (by omega)
  replace hB := hB.trans (hb.mono (by omega))
  clear hb
  go_wp2_with fail
  refine (LyndonWordsI_any _ _ _).mono ?_
  rintro e w6 ⟨u6, rfl, o6, hb⟩
  have s6 := hb.size
  replace o1 := o1.below hb (by omega)
  replace o2 := o2.below hb (by omega)
  replace hB := hB.trans (hb.mono (by omega))
  clear hb
  go_wp2_with fail
  refine (eqIntSS_any _ _ (lynO x0 x1) (lynO x0 x1) _ o6.rows o1.rows).mono ?_
  rintro e w7 ⟨rfl, n7, hw⟩
  have hb := below_of_drewN hw; clear hw
  have s7 := hb.size
  replace o1 := o1.below hb (by omega)
  replace o2 := o2.below hb (by omega)
  replace o6 := o6.below hb (by omega)
  replace hB := hB.trans (hb.mono (by omega))
  clear hb
  go_wp2_with fail
  refine (heldIntSS_any _ ((lynO x0 x1)) (1) _ o2.rows (by omega) (by omega) (by omega)).mono ?_
  rintro e w8 ⟨rfl, hw⟩
  have hb := below_of_eq hw; clear hw
  have s8 := hb.size
  replace o1 := o1.below hb (by omega)
  replace o2 := o2.below hb (by omega)
  replace o6 := o6.below hb (by omega)
  replace hB := hB.trans (hb.mono (by omega))
  clear hb
  go_wp2_with fail
  go_ret
  exact ⟨rfl, hB⟩
end Words
end Go.Proofs.Ytmohkpgojkipkaa
