/- The law FnExactFactorWord, walked. (Written by lgen.py.) -/
import Derived.Test.YtjkidofadpbmkaaFactor
namespace Go.Proofs.Ytjkidofadpbmkaa
open Go.RowKit
namespace Words

set_option maxRecDepth 100000 in
set_option maxHeartbeats 1000000 in
theorem lawFactorWord {w : World} (v0 : Value) (l0 : List Int) (h0 : Ints w v0 l0) (_ : ∀ x ∈ l0, (Lit.int .i64 x).wf = true) :
    Calls Try.prog 7 #[v0] w fun e w' => e = .returned (.bool true) ∧ Below w.heap.size w w' := by
  have h00 := h0
  obtain ⟨A0, c0, rfl, _, _, _⟩ := h0
  by_cases L0 : l0.length ≤ 1048576
  case neg =>
    go_enter Try.func7, Try.ntmps7
    go_wp2_with fail
    go_ret
    exact ⟨rfl, Below.refl _ _⟩
  case pos =>
    have a0 := h00.toB
    clear h00
    have hB := Below.refl w.heap.size w
    have s0 := Nat.le_refl w.heap.size
    have b0 : (factorOf l0).length ≤ 8 ∧ total (factorOf l0) ≤ 8 := factorOf_bd l0
    go_enter Try.func7, Try.ntmps7
    go_wp2_with fail
    refine (toIntS_any _ l0 _ a0.ints (by omega)).mono ?_
    rintro e w1 ⟨u1, rfl, o1, hb⟩
    have s1 := hb.size
    replace a0 := a0.below hb (by omega)
    replace hB := hB.trans (hb.mono (by omega))
    replace o1 := o1.toIn
    clear hb
    go_wp2_with fail
    refine (FactorWordS_any _ l0 _ o1.ints).mono ?_
    rintro e w2 ⟨u2, rfl, o2, hb⟩
    have s2 := hb.size
    replace a0 := a0.below hb (by omega)
    replace o1 := o1.below hb (by omega)
    replace hB := hB.trans (hb.mono (by omega))
    clear hb
    go_wp2_with fail
    refine (toIntS_any _ l0 _ a0.ints (by omega)).mono ?_
    rintro e w3 ⟨u3, rfl, o3, hb⟩
    have s3 := hb.size
    replace a0 := a0.below hb (by omega)
    replace o1 := o1.below hb (by omega)
    replace o2 := o2.below hb (by omega)
    replace hB := hB.trans (hb.mono (by omega))
    replace o3 := o3.toIn
    clear hb
    go_wp2_with fail
    refine (FactorWordI_any _ l0 _ o3.ints).mono ?_
    rintro e w4 ⟨u4, rfl, o4, hb⟩
    have s4 := hb.size
    replace a0 := a0.below hb (by omega)
    replace o1 := o1.below hb (by omega)
    replace o2 := o2.below hb (by omega)
    replace o3 := o3.below hb (by omega)
    replace hB := hB.trans (hb.mono (by omega))
    clear hb
    go_wp2_with fail
    refine (eqIntSS_any _ _ (factorOf l0) (factorOf l0) _ o4.rows o2.rows).mono ?_
    rintro e w5 ⟨rfl, n5, hw⟩
    have hb := below_of_drewN hw; clear hw
    have s5 := hb.size
    replace a0 := a0.below hb (by omega)
    replace o1 := o1.below hb (by omega)
    replace o2 := o2.below hb (by omega)
    replace o3 := o3.below hb (by omega)
    replace o4 := o4.below hb (by omega)
    replace hB := hB.trans (hb.mono (by omega))
    clear hb
    go_wp2_with fail
    refine (toIntS_any _ l0 _ a0.ints (by omega)).mono ?_
    rintro e w6 ⟨u6, rfl, o6, hb⟩
    have s6 := hb.size
    replace a0 := a0.below hb (by omega)
    replace o1 := o1.below hb (by omega)
    replace o2 := o2.below hb (by omega)
    replace o3 := o3.below hb (by omega)
    replace o4 := o4.below hb (by omega)
    replace hB := hB.trans (hb.mono (by omega))
    replace o6 := o6.toIn
    clear hb
    go_wp2_with fail
    refine (eqIntS_any _ _ l0 l0 _ o3.ints o6.ints).mono ?_
    rintro e w7 ⟨rfl, n7, hw⟩
    have hb := below_of_drewN hw; clear hw
    have s7 := hb.size
    replace a0 := a0.below hb (by omega)
    replace o1 := o1.below hb (by omega)
    replace o2 := o2.below hb (by omega)
    replace o3 := o3.below hb (by omega)
    replace o4 := o4.below hb (by omega)
    replace o6 := o6.below hb (by omega)
    replace hB := hB.trans (hb.mono (by omega))
    clear hb
    go_wp2_with fail
    clear o6
    refine (markIntS_any _ l0 (1) _ _ o3.own (by omega) (by omega) (by omega)).mono ?_
    rintro e w8 ⟨rfl, ho, hg⟩
    replace hg := o3.only hg
    have s8 := hg.size
    replace a0 := a0.only hg (by omega) (by omega)
    replace o1 := o1.keepOnly hg (by omega)
    replace o2 := o2.keepOnly hg (by omega)
    replace o4 := o4.keepOnly hg (by omega)
    replace hB := Only.below hB hg (by omega) (by omega)
    replace o3 : OwnIn w8 _ _ _ _ := ⟨ho, o3.top⟩
    clear ho hg
    go_wp2_with fail
    refine (eqIntSS_any _ _ (factorOf l0) (factorOf l0) _ o4.rows o2.rows).mono ?_
    rintro e w9 ⟨rfl, n9, hw⟩
    have hb := below_of_drewN hw; clear hw
    have s9 := hb.size
    replace a0 := a0.below hb (by omega)
    replace o1 := o1.below hb (by omega)
    replace o2 := o2.below hb (by omega)
    replace o3 := o3.below hb (by omega)
    replace o4 := o4.below hb (by omega)
    replace hB := hB.trans (hb.mono (by omega))
    clear hb
    go_wp2_with fail
    refine (markIntSS_any _ (factorOf l0) (1) _ _ _ o4 (by omega) (by omega) (by omega) (by omega)).mono ?_
    rintro e w10 ⟨rfl, ho, hg⟩
    have s10 := hg.size
    replace a0 := a0.only hg (by omega) (by omega)
    replace o1 := o1.keepOnly hg (by omega)
    replace o2 := o2.keepOnly hg (by omega)
    replace o3 := o3.keepOnly hg (by omega)
    replace hB := Only.below hB hg (by omega) (by omega)
    replace o4 := ho
    clear ho hg
    go_wp2_with fail
    refine (heldIntSS_any _ ((factorOf l0)) (1) _ o4.rows (by omega) (by omega) (by omega)).mono ?_
    rintro e w11 ⟨rfl, hw⟩
    have hb := below_of_eq hw; clear hw
    have s11 := hb.size
    replace a0 := a0.below hb (by omega)
    replace o1 := o1.below hb (by omega)
    replace o2 := o2.below hb (by omega)
    replace o3 := o3.below hb (by omega)
    replace o4 := o4.below hb (by omega)
    replace hB := hB.trans (hb.mono (by omega))
    clear hb
    go_wp2_with fail
    refine (toIntS_any _ l0 _ a0.ints (by omega)).mono ?_
    rintro e w12 ⟨u12, rfl, o12, hb⟩
    have s12 := hb.size
    replace a0 := a0.below hb (by omega)
    replace o1 := o1.below hb (by omega)
    replace o2 := o2.below hb (by omega)
    replace o3 := o3.below hb (by omega)
    replace o4 := o4.below hb (by omega)
    replace hB := hB.trans (hb.mono (by omega))
    replace o12 := o12.toIn
    clear hb
    go_wp2_with fail
    refine (FactorWordI_any _ l0 _ o12.ints).mono ?_
    rintro e w13 ⟨u13, rfl, o13, hb⟩
    have s13 := hb.size
    replace a0 := a0.below hb (by omega)
    replace o1 := o1.below hb (by omega)
    replace o2 := o2.below hb (by omega)
    replace o3 := o3.below hb (by omega)
    replace o4 := o4.below hb (by omega)
    replace o12 := o12.below hb (by omega)
    replace hB := hB.trans (hb.mono (by omega))
    clear hb
    go_wp2_with fail
    refine (eqIntSS_any _ _ (factorOf l0) (factorOf l0) _ o13.rows o2.rows).mono ?_
    rintro e w14 ⟨rfl, n14, hw⟩
    have hb := below_of_drewN hw; clear hw
    have s14 := hb.size
    replace a0 := a0.below hb (by omega)
    replace o1 := o1.below hb (by omega)
    replace o2 := o2.below hb (by omega)
    replace o3 := o3.below hb (by omega)
    replace o4 := o4.below hb (by omega)
    replace o12 := o12.below hb (by omega)
    replace o13 := o13.below hb (by omega)
    replace hB := hB.trans (hb.mono (by omega))
    clear hb
    go_wp2_with fail
    refine (heldIntSS_any _ ((factorOf l0)) (1) _ o4.rows (by omega) (by omega) (by omega)).mono ?_
    rintro e w15 ⟨rfl, hw⟩
    have hb := below_of_eq hw; clear hw
    have s15 := hb.size
    replace a0 := a0.below hb (by omega)
    replace o1 := o1.below hb (by omega)
    replace o2 := o2.below hb (by omega)
    replace o3 := o3.below hb (by omega)
    replace o4 := o4.below hb (by omega)
    replace o12 := o12.below hb (by omega)
    replace o13 := o13.below hb (by omega)
    replace hB := hB.trans (hb.mono (by omega))
    clear hb
    go_wp2_with fail
    go_ret
    exact ⟨rfl, hB⟩
end Words
end Go.Proofs.Ytjkidofadpbmkaa
