/- Paths: IsDominantPath of both. -/
import Derived.Test.YtcngijafnnmccaaDoorPthJ
namespace Go.Proofs.YtcngijafnnmccaaDoor
set_option maxRecDepth 100000
open Go.RowKit
namespace Stp
open Car

set_option maxHeartbeats 4000000 in
theorem l9Dominant_any (n : Nat) (t v : Value) (ps : List Sg) (w : World) (hv : StR w v ps) (h4 : n ≤ 4) (h60 : ps.length ≤ 60) (hOk : ∀ j, j < ps.length → stpOk n ps j = true) :
    Calls Tryd.prog 49 #[.agg #[.int .i64 n, t], v] w fun e w' => e = .returned (.bool (domL n ps)) ∧ Below w.heap.size w w' := by
  have g := ((St.start w).pushFact hv.fact).box [.int .i64 n, t] 33
  obtain ⟨A2, c2, rfl, _, _, _⟩ := id hv
  obtain ⟨v, hvv⟩ : ∃ v, v = Value.slice A2 ps.length c2 := ⟨_, rfl⟩
  rw [← hvv] at g ⊢
  obtain ⟨R, hR⟩ : ∃ R, R = domL n ps := ⟨_, rfl⟩
  rw [← hR]
  have HR := Lib.hid (show R = (List.range' 0 (n - 0)).all fun i => decide (0 ≤ lst ps i) from hR)
  have HH := Lib.hid (fun (i : Nat) (hi : i < n) (W : World) (y : StR W v ps) => l9Heights_any n i v ps W y hi h4 h60 hOk)
  have HL := Lib.hid (fun (i : Nat) (W : World) (u : Value) (x : Ints W u (hgtL i ps ps.length)) => l9Least_any u _ W x (by rw [length_hgtL]; omega))
  have HLs := Lib.hid (fun (i : Nat) => lst_hgtL ps i)
  obtain ⟨z0, z1⟩ := g.box2 0 rfl
  clear hR hv hvv hOk
  go_enter Tryd.func49, Tryd.ntmps49
  go_wp2
  clear z0 z1
  go_loopw [5] (fun vi wr => ∃ i : Nat, vi = .int .i64 i ∧ i ≤ n ∧ St w wr [.box w.heap.size [.int .i64 n, t], .fact (fun w' => StR w' v ps)] ∧ Hid (R = (List.range' i (n - i)).all fun i => decide (0 ≤ lst ps i))) (fun vi _ => n - (intOf vi).toNat)
  case atStart => exact ⟨0, rfl, by omega, g, HR⟩
  case round =>
    clear g HR
    obtain ⟨i, rfl, a1, g, HR⟩ := hrel
    obtain ⟨z0, z1⟩ := g.box2 0 rfl
    by_cases hi : i < n
    · have ii : (i : Int) < (n : Int) := by omega
      have HRs := Lib.hid (HR.out.trans (all_cons _ hi))
      have HH1 := Lib.hid (fun W y => HH.out i hi W y)
      have HL1 := Lib.hid (fun W u x => HL.out i W u x)
      rw [HLs.out] at HL1
      obtain ⟨LL, hLL⟩ : ∃ LL, LL = hgtL i ps ps.length := ⟨_, rfl⟩
      rw [← hLL] at HH1 HL1
      obtain ⟨q, hq⟩ : ∃ q, q = lst ps i := ⟨_, rfl⟩
      rw [← hq] at HL1
      have HRs2 := Lib.hid (show R = (decide (0 ≤ q) && (List.range' (i + 1) (n - (i + 1))).all fun i => decide (0 ≤ lst ps i)) by rw [HRs.out, hq])
      clear hLL hq HRs HR
      by_cases h0 : q < 0
      · have HRf := Lib.hid (show R = false by rw [HRs2.out, decide_eq_false (by omega)]; rfl)
        go_wp2_with fail
        refine (HH1.out _ (g.fact 1 rfl)).mono ?_
        rintro (e : Ending) w4 ⟨u4, rfl, ho4, hb4⟩
        have g4 := g.pushOwn hb4 ho4
        go_wp2_with fail
        refine (HL1.out _ _ (g4.ownInts 0 rfl)).mono ?_
        rintro (e : Ending) w5 ⟨rfl, rfl⟩
        go_wp2
        go_ret
        exact ⟨ret_bool HRf.out.symm, g4.below⟩
      · have HRt := Lib.hid (show R = (List.range' (i + 1) (n - (i + 1))).all fun i => decide (0 ≤ lst ps i) by rw [HRs2.out, decide_eq_true (by omega)]; rfl)
        go_wp2_with fail
        refine (HH1.out _ (g.fact 1 rfl)).mono ?_
        rintro (e : Ending) w4 ⟨u4, rfl, ho4, hb4⟩
        have g4 := g.pushOwn hb4 ho4
        go_wp2_with fail
        refine (HL1.out _ _ (g4.ownInts 0 rfl)).mono ?_
        rintro (e : Ending) w5 ⟨rfl, rfl⟩
        have g5 := g4.drop 1
        simp only [List.drop_succ_cons, List.drop_zero] at g5
        clear g4 g ho4 hb4
        obtain ⟨z0, z1⟩ := g5.box2 0 rfl
        go_wp2
        go_roundw
        case rel => exact ⟨i + 1, by go_num, by omega, g5, HRt⟩
        case measure => simp [intOf]; omega
    · obtain rfl : n = i := by omega
      have HRt := Lib.hid (show R = true by rw [HR.out, Nat.sub_self]; rfl)
      go_wp2
      go_ret
      exact ⟨ret_bool HRt.out.symm, g.below⟩
set_option maxHeartbeats 4000000 in
theorem isDominantPath_any (n : Nat) (t v : Value) (ps : List Sg) (w : World) (hv : StR w v ps) (h4 : n ≤ 4) (h60 : ps.length ≤ 60) (hOk : ∀ j, j < ps.length → stpOk n ps j = true) :
    Calls Tryd.prog 50 #[.agg #[.int .i64 n, t], v] w fun e w' => e = .returned (.bool (domL n ps)) ∧ Below w.heap.size w w' := by
  have g := ((St.start w).pushFact hv.fact).box [.int .i64 n, t] 33
  obtain ⟨A2, c2, rfl, _, _, _⟩ := id hv
  obtain ⟨v, hvv⟩ : ∃ v, v = Value.slice A2 ps.length c2 := ⟨_, rfl⟩
  rw [← hvv] at g ⊢
  obtain ⟨R, hR⟩ : ∃ R, R = domL n ps := ⟨_, rfl⟩
  rw [← hR]
  have HR := Lib.hid (show R = (List.range' 0 (n - 0)).all fun i => decide (0 ≤ lst ps i) from hR)
  have HH := Lib.hid (fun (i : Nat) (hi : i < n) (W : World) (y : StR W v ps) => heights_any n i v ps W y hi h4 h60 hOk)
  have HL := Lib.hid (fun (i : Nat) (W : World) (u : Value) (x : Ints W u (hgtL i ps ps.length)) => Min_any u _ W x (by rw [length_hgtL]; omega))
  have HLs := Lib.hid (fun (i : Nat) => lst_hgtL ps i)
  obtain ⟨z0, z1⟩ := g.box2 0 rfl
  clear hR hv hvv hOk
  go_enter Tryd.func50, Tryd.ntmps50
  go_wp2
  clear z0 z1
  go_loopw [8] (fun vi wr => ∃ i : Nat, vi = .int .i64 i ∧ i ≤ n ∧ St w wr [.box w.heap.size [.int .i64 n, t], .fact (fun w' => StR w' v ps)] ∧ Hid (R = (List.range' i (n - i)).all fun i => decide (0 ≤ lst ps i))) (fun vi _ => n - (intOf vi).toNat)
  case atStart => exact ⟨0, rfl, by omega, g, HR⟩
  case round =>
    clear g HR
    obtain ⟨i, rfl, a1, g, HR⟩ := hrel
    obtain ⟨z0, z1⟩ := g.box2 0 rfl
    by_cases hi : i < n
    · have ii : (i : Int) < (n : Int) := by omega
      have HRs := Lib.hid (HR.out.trans (all_cons _ hi))
      have HH1 := Lib.hid (fun W y => HH.out i hi W y)
      have HL1 := Lib.hid (fun W u x => HL.out i W u x)
      rw [HLs.out] at HL1
      obtain ⟨LL, hLL⟩ : ∃ LL, LL = hgtL i ps ps.length := ⟨_, rfl⟩
      rw [← hLL] at HH1 HL1
      obtain ⟨q, hq⟩ : ∃ q, q = lst ps i := ⟨_, rfl⟩
      rw [← hq] at HL1
      have HRs2 := Lib.hid (show R = (decide (0 ≤ q) && (List.range' (i + 1) (n - (i + 1))).all fun i => decide (0 ≤ lst ps i)) by rw [HRs.out, hq])
      clear hLL hq HRs HR
      by_cases h0 : q < 0
      · have HRf := Lib.hid (show R = false by rw [HRs2.out, decide_eq_false (by omega)]; rfl)
        go_wp2_with fail
        refine (HH1.out _ (g.fact 1 rfl)).mono ?_
        rintro (e : Ending) w4 ⟨u4, rfl, ho4, hb4⟩
        have g4 := g.pushOwn hb4 ho4
        go_wp2_with fail
        refine (HL1.out _ _ (g4.ownInts 0 rfl)).mono ?_
        rintro (e : Ending) w5 ⟨rfl, rfl⟩
        go_wp2
        go_ret
        exact ⟨ret_bool HRf.out.symm, g4.below⟩
      · have HRt := Lib.hid (show R = (List.range' (i + 1) (n - (i + 1))).all fun i => decide (0 ≤ lst ps i) by rw [HRs2.out, decide_eq_true (by omega)]; rfl)
        go_wp2_with fail
        refine (HH1.out _ (g.fact 1 rfl)).mono ?_
        rintro (e : Ending) w4 ⟨u4, rfl, ho4, hb4⟩
        have g4 := g.pushOwn hb4 ho4
        go_wp2_with fail
        refine (HL1.out _ _ (g4.ownInts 0 rfl)).mono ?_
        rintro (e : Ending) w5 ⟨rfl, rfl⟩
        have g5 := g4.drop 1
        simp only [List.drop_succ_cons, List.drop_zero] at g5
        clear g4 g ho4 hb4
        obtain ⟨z0, z1⟩ := g5.box2 0 rfl
        go_wp2
        go_roundw
        case rel => exact ⟨i + 1, by go_num, by omega, g5, HRt⟩
        case measure => simp [intOf]; omega
    · obtain rfl : n = i := by omega
      have HRt := Lib.hid (show R = true by rw [HR.out, Nat.sub_self]; rfl)
      go_wp2
      go_ret
      exact ⟨ret_bool HRt.out.symm, g.below⟩
set_option maxHeartbeats 4000000 in
theorem IsDominantPathS_any (r : Int) (t v : Value) (D : List Int) (ps : List Sg) (w : World) (ht : Ints w t D) (hv : StR w v ps) :
    Calls Tryd.prog 20 #[.agg #[.int .i64 r, t], v] w fun e w' => e = .returned (.bool (domB r D ps)) ∧ Below w.heap.size w w' := by
  have g := (((St.start w).pushFact hv.fact).arg ht).box [.int .i64 r, t] 33
  have HP := Lib.hid (fun (W : World) (x : Ints W t D) (y : StR W v ps) => PathOkS_any r _ _ D ps W x y)
  obtain ⟨A, c, rfl, _, _, _⟩ := id ht
  obtain ⟨A2, c2, rfl, _, _, _⟩ := id hv
  obtain ⟨t, htt⟩ : ∃ t, t = Value.slice A D.length c := ⟨_, rfl⟩
  obtain ⟨v, hvv⟩ : ∃ v, v = Value.slice A2 ps.length c2 := ⟨_, rfl⟩
  rw [← htt] at g HP ⊢
  rw [← hvv] at g HP ⊢
  obtain ⟨X, hX⟩ : ∃ X, X = domB r D ps := ⟨_, rfl⟩
  rw [← hX]
  obtain ⟨z0, z1⟩ := g.box2 0 rfl
  unfold domB at hX
  obtain ⟨pb, hpb⟩ : ∃ pb, pb = pathB r D ps := ⟨_, rfl⟩
  rw [← hpb] at hX HP
  cases pb with
  | false =>
    have HX := Lib.hid (show X = false from hX)
    clear hX hpb ht hv htt hvv
    go_enter Tryd.func20, Tryd.ntmps20
    go_wp2_with fail
    refine (HP.out _ (g.roInts 1 rfl) (g.fact 2 rfl)).mono ?_
    rintro (e : Ending) w3 ⟨rfl, hb3⟩
    have g3 := g.on hb3
    clear z0 z1
    go_wp2
    go_ret
    exact ⟨ret_bool HX.out.symm, g3.below⟩
  | true =>
    obtain ⟨n, rfl, n1, n4, h60, hOk⟩ := pathB_spec hpb.symm
    rw [Int.toNat_natCast, Bool.true_and] at hX
    have HD := Lib.hid (fun (W : World) (y : StR W v ps) => l9Dominant_any n t v ps W y n4 h60 hOk)
    rw [← hX] at HD
    clear hX hpb ht hv htt hvv hOk
    go_enter Tryd.func20, Tryd.ntmps20
    go_wp2_with fail
    refine (HP.out _ (g.roInts 1 rfl) (g.fact 2 rfl)).mono ?_
    rintro (e : Ending) w3 ⟨rfl, hb3⟩
    have g3 := g.on hb3
    clear z0 z1
    obtain ⟨z0, z1⟩ := g3.box2 0 rfl
    go_wp2_with fail
    refine (HD.out _ (g3.fact 2 rfl)).mono ?_
    rintro (e : Ending) w4 ⟨rfl, hb4⟩
    have g4 := (g3.on hb4).below
    go_wp2
    go_ret
    exact ⟨rfl, g4⟩
set_option maxHeartbeats 4000000 in
theorem IsDominantPathI_any (r : Int) (t v : Value) (D : List Int) (ps : List Sg) (w : World) (ht : Ints w t D) (hv : StR w v ps) (hM : MaxAt w) (hr : -9223372036854775808 ≤ r ∧ r ≤ 9223372036854775807) :
    Calls Tryd.prog 21 #[.agg #[.int .i64 r, t], v] w fun e w' => e = .returned (.bool (domB r D ps)) ∧ Below w.heap.size w w' := by
  have g := (((St.start w).pushFact hv.fact).arg ht).box [.int .i64 r, t] 33
  have HP := Lib.hid (fun (W : World) (x : Ints W t D) (y : StR W v ps) (m : MaxAt W) => PathOkI_any r _ _ D ps W x y m hr)
  have HMx := Lib.hid (show MaxAt (w.alloc (.cells #[.int .i64 r, t] 33)) from MaxAt.below hM ((Below.refl w.heap.size w).alloc (Nat.le_refl _) _))
  obtain ⟨A, c, rfl, _, _, _⟩ := id ht
  obtain ⟨A2, c2, rfl, _, _, _⟩ := id hv
  obtain ⟨t, htt⟩ : ∃ t, t = Value.slice A D.length c := ⟨_, rfl⟩
  obtain ⟨v, hvv⟩ : ∃ v, v = Value.slice A2 ps.length c2 := ⟨_, rfl⟩
  rw [← htt] at g HP HMx ⊢
  rw [← hvv] at g HP ⊢
  obtain ⟨X, hX⟩ : ∃ X, X = domB r D ps := ⟨_, rfl⟩
  rw [← hX]
  obtain ⟨z0, z1⟩ := g.box2 0 rfl
  unfold domB at hX
  obtain ⟨pb, hpb⟩ : ∃ pb, pb = pathB r D ps := ⟨_, rfl⟩
  rw [← hpb] at hX HP
  cases pb with
  | false =>
    have HX := Lib.hid (show X = false from hX)
    clear hX hpb ht hv htt hvv hM hr
    go_enter Tryd.func21, Tryd.ntmps21
    go_wp2_with fail
    refine (HP.out _ (g.roInts 1 rfl) (g.fact 2 rfl) HMx.out).mono ?_
    rintro (e : Ending) w3 ⟨rfl, hb3⟩
    have g3 := g.on hb3
    clear z0 z1
    go_wp2
    go_ret
    exact ⟨ret_bool HX.out.symm, g3.below⟩
  | true =>
    obtain ⟨n, rfl, n1, n4, h60, hOk⟩ := pathB_spec hpb.symm
    rw [Int.toNat_natCast, Bool.true_and] at hX
    have HD := Lib.hid (fun (W : World) (y : StR W v ps) => isDominantPath_any n t v ps W y n4 h60 hOk)
    rw [← hX] at HD
    clear hX hpb ht hv htt hvv hOk hM hr
    go_enter Tryd.func21, Tryd.ntmps21
    go_wp2_with fail
    refine (HP.out _ (g.roInts 1 rfl) (g.fact 2 rfl) HMx.out).mono ?_
    rintro (e : Ending) w3 ⟨rfl, hb3⟩
    have g3 := g.on hb3
    clear z0 z1
    obtain ⟨z0, z1⟩ := g3.box2 0 rfl
    go_wp2_with fail
    refine (HD.out _ (g3.fact 2 rfl)).mono ?_
    rintro (e : Ending) w4 ⟨rfl, hb4⟩
    have g4 := (g3.on hb4).below
    go_wp2
    go_ret
    exact ⟨rfl, g4⟩

end Stp
end Go.Proofs.YtcngijafnnmccaaDoor
