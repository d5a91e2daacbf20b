/- The law FnExactCutWord, walked. (Written by lgen.py.) -/
import Derived.Test.YtjkidofadpbmkaaCut
namespace Go.Proofs.Ytjkidofadpbmkaa
open Go.RowKit
namespace Words

set_option maxRecDepth 100000 in
set_option maxHeartbeats 1000000 in
theorem lawCutWord {w : World} (v0 : Value) (l0 : List Int) (h0 : Ints w v0 l0) (_ : ∀ x ∈ l0, (Lit.int .i64 x).wf = true) :
    Calls Try.prog 5 #[v0] w fun e w' => e = .returned (.bool true) ∧ Below w.heap.size w w' := by
  have h00 := h0
  obtain ⟨A0, c0, rfl, _, _, _⟩ := h0
  by_cases L0 : l0.length ≤ 1048576
  case neg =>
    go_enter Try.func5, Try.ntmps5
    go_wp2_with fail
    go_ret
    exact ⟨rfl, Below.refl _ _⟩
  case pos =>
    have a0 := h00.toB
    clear h00
    have hB := Below.refl w.heap.size w
    have s0 := Nat.le_refl w.heap.size
    have b0 : (cutL l0).length ≤ 8 := cutL_len l0
    have b1 : (cutR l0).length ≤ 8 := cutR_len l0
    go_enter Try.func5, Try.ntmps5
    go_wp2_with fail
    refine (toIntS_any _ l0 _ a0.ints (by omega)).mono ?_
    rintro e w1 ⟨u1, rfl, o1, hb⟩
    have s1 := hb.size
    replace a0 := a0.below hb (by omega)
    replace hB := hB.trans (hb.mono (by omega))
    replace o1 := o1.toIn
    clear hb
    go_wp2_with fail
    refine (CutWordS_any _ l0 _ o1.ints).mono ?_
    rintro e w2 ⟨u2, v2, rfl, m2, o2, p2, hb, sm2, sn2⟩
    have s2 := hb.size
    replace a0 := a0.below hb (by omega)
    replace o1 := o1.below hb (by omega)
    replace hB := hB.trans (hb.mono (by omega))
    clear hb
    go_wp2_with fail
    refine (toIntS_any _ l0 _ a0.ints (by omega)).mono ?_
    rintro e w3 ⟨u3, rfl, o3, hb⟩
    have s3 := hb.size
    replace a0 := a0.below hb (by omega)
    replace o1 := o1.below hb (by omega)
    replace o2 := o2.below hb (by omega)
    replace p2 := p2.below hb (by omega)
    replace hB := hB.trans (hb.mono (by omega))
    replace o3 := o3.toIn
    clear hb
    go_wp2_with fail
    refine (CutWordI_any _ l0 _ o3.ints).mono ?_
    rintro e w4 ⟨u4, v4, rfl, m4, o4, p4, hb, sm4, sn4⟩
    have s4 := hb.size
    replace a0 := a0.below hb (by omega)
    replace o1 := o1.below hb (by omega)
    replace o2 := o2.below hb (by omega)
    replace p2 := p2.below hb (by omega)
    replace o3 := o3.below hb (by omega)
    replace hB := hB.trans (hb.mono (by omega))
    clear hb
    go_wp2_with fail
    refine (eqIntS_any _ _ (cutL l0) (cutL l0) _ o4.ints o2.ints).mono ?_
    rintro e w5 ⟨rfl, n5, hw⟩
    have hb := below_of_drewN hw; clear hw
    have s5 := hb.size
    replace a0 := a0.below hb (by omega)
    replace o1 := o1.below hb (by omega)
    replace o2 := o2.below hb (by omega)
    replace p2 := p2.below hb (by omega)
    replace o3 := o3.below hb (by omega)
    replace o4 := o4.below hb (by omega)
    replace p4 := p4.below hb (by omega)
    replace hB := hB.trans (hb.mono (by omega))
    clear hb
    go_wp2_with fail
    refine (eqIntS_any _ _ (cutR l0) (cutR l0) _ p4.ints p2.ints).mono ?_
    rintro e w6 ⟨rfl, n6, hw⟩
    have hb := below_of_drewN hw; clear hw
    have s6 := hb.size
    replace a0 := a0.below hb (by omega)
    replace o1 := o1.below hb (by omega)
    replace o2 := o2.below hb (by omega)
    replace p2 := p2.below hb (by omega)
    replace o3 := o3.below hb (by omega)
    replace o4 := o4.below hb (by omega)
    replace p4 := p4.below hb (by omega)
    replace hB := hB.trans (hb.mono (by omega))
    clear hb
    go_wp2_with fail
    refine (toIntS_any _ l0 _ a0.ints (by omega)).mono ?_
    rintro e w7 ⟨u7, rfl, o7, hb⟩
    have s7 := hb.size
    replace a0 := a0.below hb (by omega)
    replace o1 := o1.below hb (by omega)
    replace o2 := o2.below hb (by omega)
    replace p2 := p2.below hb (by omega)
    replace o3 := o3.below hb (by omega)
    replace o4 := o4.below hb (by omega)
    replace p4 := p4.below hb (by omega)
    replace hB := hB.trans (hb.mono (by omega))
    replace o7 := o7.toIn
    clear hb
    go_wp2_with fail
    refine (eqIntS_any _ _ l0 l0 _ o3.ints o7.ints).mono ?_
    rintro e w8 ⟨rfl, n8, hw⟩
    have hb := below_of_drewN hw; clear hw
    have s8 := hb.size
    replace a0 := a0.below hb (by omega)
    replace o1 := o1.below hb (by omega)
    replace o2 := o2.below hb (by omega)
    replace p2 := p2.below hb (by omega)
    replace o3 := o3.below hb (by omega)
    replace o4 := o4.below hb (by omega)
    replace p4 := p4.below hb (by omega)
    replace o7 := o7.below hb (by omega)
    replace hB := hB.trans (hb.mono (by omega))
    clear hb
    go_wp2_with fail
    clear o7
    refine (markIntS_any _ l0 (1) _ _ o3.own (by omega) (by omega) (by omega)).mono ?_
    rintro e w9 ⟨rfl, ho, hg⟩
    have s9 := hg.size
    replace a0 := a0.grown hg o3.own (by omega) (by omega)
    replace o1 := o1.grown hg o3 (by omega)
    replace o2 := o2.grown hg o3 (by omega)
    replace p2 := p2.grown hg o3 (by omega)
    replace o4 := o4.grown hg o3 (by omega)
    replace p4 := p4.grown hg o3 (by omega)
    replace hB := o3.below_marked hB hg (by omega) (by omega)
    replace o3 : OwnIn w9 _ _ _ _ := ⟨ho, o3.top⟩
    clear ho hg
    go_wp2_with fail
    refine (eqIntS_any _ _ (cutL l0) (cutL l0) _ o4.ints o2.ints).mono ?_
    rintro e w10 ⟨rfl, n10, hw⟩
    have hb := below_of_drewN hw; clear hw
    have s10 := hb.size
    replace a0 := a0.below hb (by omega)
    replace o1 := o1.below hb (by omega)
    replace o2 := o2.below hb (by omega)
    replace p2 := p2.below hb (by omega)
    replace o3 := o3.below hb (by omega)
    replace o4 := o4.below hb (by omega)
    replace p4 := p4.below hb (by omega)
    replace hB := hB.trans (hb.mono (by omega))
    clear hb
    go_wp2_with fail
    refine (eqIntS_any _ _ (cutR l0) (cutR l0) _ p4.ints p2.ints).mono ?_
    rintro e w11 ⟨rfl, n11, hw⟩
    have hb := below_of_drewN hw; clear hw
    have s11 := hb.size
    replace a0 := a0.below hb (by omega)
    replace o1 := o1.below hb (by omega)
    replace o2 := o2.below hb (by omega)
    replace p2 := p2.below hb (by omega)
    replace o3 := o3.below hb (by omega)
    replace o4 := o4.below hb (by omega)
    replace p4 := p4.below hb (by omega)
    replace hB := hB.trans (hb.mono (by omega))
    clear hb
    go_wp2_with fail
    refine (markIntS_any _ (cutL l0) (1) _ _ o4.own (by omega) (by omega) (by omega)).mono ?_
    rintro e w12 ⟨rfl, ho, hg⟩
    have s12 := hg.size
    replace a0 := a0.grown hg o4.own (by omega) (by omega)
    replace o1 := o1.grown hg o4 (by omega)
    replace o2 := o2.grown hg o4 (by omega)
    replace p2 := p2.grown hg o4 (by omega)
    replace o3 := o3.grown hg o4 (by omega)
    replace p4 := p4.grown hg o4 (by omega)
    replace hB := o4.below_marked hB hg (by omega) (by omega)
    replace o4 : OwnIn w12 _ _ _ _ := ⟨ho, o4.top⟩
    clear ho hg
    go_wp2_with fail
    refine (markIntS_any _ (cutR l0) (1 + ((((cutL l0)).length : Nat) : Int)) _ _ p4.own (by omega) (by omega) (by omega)).mono ?_
    rintro e w13 ⟨rfl, ho, hg⟩
    have s13 := hg.size
    replace a0 := a0.grown hg p4.own (by omega) (by omega)
    replace o1 := o1.grown hg p4 (by omega)
    replace o2 := o2.grown hg p4 (by omega)
    replace p2 := p2.grown hg p4 (by omega)
    replace o3 := o3.grown hg p4 (by omega)
    replace o4 := o4.grown hg p4 (by omega)
    replace hB := p4.below_marked hB hg (by omega) (by omega)
    replace p4 : OwnIn w13 _ _ _ _ := ⟨ho, p4.top⟩
    clear ho hg
    go_wp2_with fail
    refine (heldIntS_any _ _ (1) _ o4.ints (by omega) (by omega) (by omega)).mono ?_
    rintro e w14 ⟨rfl, hw⟩
    have hb := below_of_eq hw; clear hw
    have s14 := hb.size
    replace a0 := a0.below hb (by omega)
    replace o1 := o1.below hb (by omega)
    replace o2 := o2.below hb (by omega)
    replace p2 := p2.below hb (by omega)
    replace o3 := o3.below hb (by omega)
    replace o4 := o4.below hb (by omega)
    replace p4 := p4.below hb (by omega)
    replace hB := hB.trans (hb.mono (by omega))
    clear hb
    go_wp2_with fail
    refine (heldIntS_any _ _ (1 + ((((cutL l0)).length : Nat) : Int)) _ p4.ints (by omega) (by omega) (by omega)).mono ?_
    rintro e w15 ⟨rfl, hw⟩
    have hb := below_of_eq hw; clear hw
    have s15 := hb.size
    replace a0 := a0.below hb (by omega)
    replace o1 := o1.below hb (by omega)
    replace o2 := o2.below hb (by omega)
    replace p2 := p2.below hb (by omega)
    replace o3 := o3.below hb (by omega)
    replace o4 := o4.below hb (by omega)
    replace p4 := p4.below hb (by omega)
    replace hB := hB.trans (hb.mono (by omega))
    clear hb
    go_wp2_with fail
    refine (toIntS_any _ l0 _ a0.ints (by omega)).mono ?_
    rintro e w16 ⟨u16, rfl, o16, hb⟩
    have s16 := hb.size
    replace a0 := a0.below hb (by omega)
    replace o1 := o1.below hb (by omega)
    replace o2 := o2.below hb (by omega)
    replace p2 := p2.below hb (by omega)
    replace o3 := o3.below hb (by omega)
    replace o4 := o4.below hb (by omega)
    replace p4 := p4.below hb (by omega)
    replace hB := hB.trans (hb.mono (by omega))
    replace o16 := o16.toIn
    clear hb
    go_wp2_with fail
    refine (CutWordI_any _ l0 _ o16.ints).mono ?_
    rintro e w17 ⟨u17, v17, rfl, m17, o17, p17, hb, sm17, sn17⟩
    have s17 := hb.size
    replace a0 := a0.below hb (by omega)
    replace o1 := o1.below hb (by omega)
    replace o2 := o2.below hb (by omega)
    replace p2 := p2.below hb (by omega)
    replace o3 := o3.below hb (by omega)
    replace o4 := o4.below hb (by omega)
    replace p4 := p4.below hb (by omega)
    replace o16 := o16.below hb (by omega)
    replace hB := hB.trans (hb.mono (by omega))
    clear hb
    go_wp2_with fail
    refine (eqIntS_any _ _ (cutL l0) (cutL l0) _ o17.ints o2.ints).mono ?_
    rintro e w18 ⟨rfl, n18, hw⟩
    have hb := below_of_drewN hw; clear hw
    have s18 := hb.size
    replace a0 := a0.below hb (by omega)
    replace o1 := o1.below hb (by omega)
    replace o2 := o2.below hb (by omega)
    replace p2 := p2.below hb (by omega)
    replace o3 := o3.below hb (by omega)
    replace o4 := o4.below hb (by omega)
    replace p4 := p4.below hb (by omega)
    replace o16 := o16.below hb (by omega)
    replace o17 := o17.below hb (by omega)
    replace p17 := p17.below hb (by omega)
    replace hB := hB.trans (hb.mono (by omega))
    clear hb
    go_wp2_with fail
    refine (eqIntS_any _ _ (cutR l0) (cutR l0) _ p17.ints p2.ints).mono ?_
    rintro e w19 ⟨rfl, n19, hw⟩
    have hb := below_of_drewN hw; clear hw
    have s19 := hb.size
    replace a0 := a0.below hb (by omega)
    replace o1 := o1.below hb (by omega)
    replace o2 := o2.below hb (by omega)
    replace p2 := p2.below hb (by omega)
    replace o3 := o3.below hb (by omega)
    replace o4 := o4.below hb (by omega)
    replace p4 := p4.below hb (by omega)
    replace o16 := o16.below hb (by omega)
    replace o17 := o17.below hb (by omega)
    replace p17 := p17.below hb (by omega)
    replace hB := hB.trans (hb.mono (by omega))
    clear hb
    go_wp2_with fail
    refine (heldIntS_any _ _ (1) _ o4.ints (by omega) (by omega) (by omega)).mono ?_
    rintro e w20 ⟨rfl, hw⟩
    have hb := below_of_eq hw; clear hw
    have s20 := hb.size
    replace a0 := a0.below hb (by omega)
    replace o1 := o1.below hb (by omega)
    replace o2 := o2.below hb (by omega)
    replace p2 := p2.below hb (by omega)
    replace o3 := o3.below hb (by omega)
    replace o4 := o4.below hb (by omega)
    replace p4 := p4.below hb (by omega)
    replace o16 := o16.below hb (by omega)
    replace o17 := o17.below hb (by omega)
    replace p17 := p17.below hb (by omega)
    replace hB := hB.trans (hb.mono (by omega))
    clear hb
    go_wp2_with fail
    refine (heldIntS_any _ _ (1 + ((((cutL l0)).length : Nat) : Int)) _ p4.ints (by omega) (by omega) (by omega)).mono ?_
    rintro e w21 ⟨rfl, hw⟩
    have hb := below_of_eq hw; clear hw
    have s21 := hb.size
    replace a0 := a0.below hb (by omega)
    replace o1 := o1.below hb (by omega)
    replace o2 := o2.below hb (by omega)
    replace p2 := p2.below hb (by omega)
    replace o3 := o3.below hb (by omega)
    replace o4 := o4.below hb (by omega)
    replace p4 := p4.below hb (by omega)
    replace o16 := o16.below hb (by omega)
    replace o17 := o17.below hb (by omega)
    replace p17 := p17.below hb (by omega)
    replace hB := hB.trans (hb.mono (by omega))
    clear hb
    go_wp2_with fail
    go_ret
    exact ⟨rfl, hB⟩
end Words
end Go.Proofs.Ytjkidofadpbmkaa
