/- For all arguments, FnExactSerreOk returns true, and each argument reads behind the call as it read before. No condition. -/
import Derived.Test.YtcngijafnnmccaaGreatDoorLSerreOk
import Derived.Test.YtcngijafnnmccaaGreatDoorShellC
import Derived.Test.YtcngijafnnmccaaGreatDoorTie
import Derived.Test.YtcngijafnnmccaaGreatDoorCards
import Derived.LaidMore
import Derived.Lay
import Derived.Test.YtcngijafnnmccaaGreatDoorShellP
import Derived.Stop.Joined
import Derived.SevenTiedAt
namespace Go.Proofs.YtcngijafnnmccaaGreatDoor
set_option maxRecDepth 100000
open Go.ChangeShapes Go.WideShapes Go.ChangeAt Go.RowKit
namespace Srr

set_option maxRecDepth 100000 in
theorem FnExactSerreOk_lifted (os : Os) (started : os.Started) (H : Type) (enc : TypeId × Value → H) :
    ReturnsInHanded {} Tryz.checked os 3 .any (fun w args => (Rows.fnExactSerreOkSpec.pre enc Tryz.prog Tryz.f3 [] false w args ∧ laidMetH Tryz.prog Rows.fnExactSerreOkRow.laid w) ∧ sizedMet enc Tryz.prog Tryz.f3 (OpenSpec.ofChange Rows.fnExactSerreOkSpec) false w args) (Rows.fnExactSerreOkSpec.post enc Tryz.prog Tryz.f3 false true false false) := by
  refine handedAndShaped (C := Tryz.checked) (X := fun w _ => laidMetH Tryz.prog Rows.fnExactSerreOkRow.laid w) (fun _ _ _ hh h => h.of_heap hh) own started (by kernel_rfl) Tryz.func3
    (ChangeSpec.witness_shaped (enc := enc) (C := Tryz.checked) (os := os) (X := fun w _ => laidMetH Tryz.prog Rows.fnExactSerreOkRow.laid w) false (World.laidAll Tryz.prog os Rows.fnExactSerreOkRow.laid) #[.agg #[.int .i64 0, .int .i64 0, .slice none 0 0], .agg #[.int .i64 0, .slice none 0 0], .slice none 0 0, .slice none 0 0] 8 (World.laidAll_os _ _ _)
      (World.shaped_of_ZipB (by kernel_rfl) (by kernel_rfl)) (by kernel_rfl) (by kernel_rfl) (by kernel_rfl)
      (by rw [MakeChecks.laidMetH_plain _ _ _ (by kernel_rfl)]; exact laidMet_laidAll _ (by kernel_rfl) (by kernel_rfl))) ?_
  intro W base args ds gs before hval0 hW hL hSh
  have hval : ∀ (j : Nat) t v, Tryz.f3.params[j]? = some t → args[j]? = some v → Value.okWide Tryz.prog W .any base t v := hval0
  have hW' := hW
  obtain ⟨p, q, hA0, hV, rfl, hfz, hnd⟩ := hW
  have hA : DataW.TrodAll enc Tryz.prog W 0 (fun _ => true) true Tryz.f3.params.toList args.toList ds p := hA0
  rw [Tryz.params3] at hA hval
  obtain ⟨v0, vs0, d0, ds0, p0, q0, hargs, rfl, rfl, h0, r0⟩ := trodAll_cons hA
  obtain ⟨v1, vs1, d1, ds1, p1, q1, rfl, rfl, rfl, h1, r1⟩ := trodAll_cons r0
  obtain ⟨v2, vs2, d2, ds2, p2, q2, rfl, rfl, rfl, h2, r2⟩ := trodAll_cons r1
  obtain ⟨v3, vs3, d3, ds3, p3, q3, rfl, rfl, rfl, h3, r3⟩ := trodAll_cons r2
  obtain ⟨rfl, rfl, rfl⟩ := trodAll_nil r3
  obtain rfl : args = #[v0, v1, v2, v3] := by cases args; simp_all
  obtain ⟨rfl, rfl⟩ := trodVars_none hV
  obtain ⟨a0, b0, u0, l0, e0, k0, wa0, wb0, w0⟩ := openAlgebra (hval 0 24 v0 rfl rfl) h0
  obtain ⟨a1, u1, l1, e1, k1, wa1, w1⟩ := openCartan (hval 1 26 v1 rfl rfl) h1
  obtain ⟨l2, k2⟩ := openRows (hval 2 27 v2 rfl rfl) h2
  obtain ⟨l3, k3⟩ := openRows (hval 3 27 v3 rfl rfl) h3
  have hlt : ∀ x ∈ p0 ++ p1 ++ p2 ++ p3, x.block < W.heap.size := fun x hx => hW'.lt x (by simpa using hx)
  have s0 : ∀ W' : World, Below W.heap.size W W' → ∀ sp : Nat → Bool, (∀ p ∈ p0, sp p.block = true) → DataW.Trod enc Tryz.prog W' 0 sp true 24 v0 d0 p0 := fun W' hb sp hs =>
    trod_again laidOut (by kernel_rfl) (of_decide_eq_true (by kernel_rfl)) h0 hb (fun x hx => hlt x (by simp [hx])) hs
  have s1 : ∀ W' : World, Below W.heap.size W W' → ∀ sp : Nat → Bool, (∀ p ∈ p1, sp p.block = true) → DataW.Trod enc Tryz.prog W' 0 sp true 26 v1 d1 p1 := fun W' hb sp hs =>
    trod_again laidOut (by kernel_rfl) (of_decide_eq_true (by kernel_rfl)) h1 hb (fun x hx => hlt x (by simp [hx])) hs
  have s2 : ∀ W' : World, Below W.heap.size W W' → ∀ sp : Nat → Bool, (∀ p ∈ p2, sp p.block = true) → DataW.Trod enc Tryz.prog W' 0 sp true 27 v2 d2 p2 := fun W' hb sp hs =>
    trod_again laidOut (by kernel_rfl) (of_decide_eq_true (by kernel_rfl)) h2 hb (fun x hx => hlt x (by simp [hx])) hs
  have s3 : ∀ W' : World, Below W.heap.size W W' → ∀ sp : Nat → Bool, (∀ p ∈ p3, sp p.block = true) → DataW.Trod enc Tryz.prog W' 0 sp true 27 v3 d3 p3 := fun W' hb sp hs =>
    trod_again laidOut (by kernel_rfl) (of_decide_eq_true (by kernel_rfl)) h3 hb (fun x hx => hlt x (by simp [hx])) hs
  subst e0 e1
  clear hA0 hval0
  simp only [List.append_nil] at hW'
  refine (lawSerreOk a0 b0 u0 l0 k0 wa0 wb0 w0 a1 u1 l1 k1 wa1 w1 v2 l2 k2 v3 l3 k3 (maxAt_of_shaped hSh) (w := W)).mono fun e W' ⟨he, hg⟩ => ?_
  subst he
  exact ⟨_, rfl, post_of_below (pv := []) hW' (fun _ _ _ => (trodAll_cons_mk (shut_bool Tryz.underlying4 _) trodAll_mk0)) (fun sp hs => (trodAll_cons_mk (s0 W' hg sp (fun p hp => hs p (by simp [hp]))) (trodAll_cons_mk (s1 W' hg sp (fun p hp => hs p (by simp [hp]))) (trodAll_cons_mk (s2 W' hg sp (fun p hp => hs p (by simp [hp]))) (trodAll_cons_mk (s3 W' hg sp (fun p hp => hs p (by simp [hp]))) trodAll_mk0))))) (fun _ _ => rfl) (by simp)
    hg (ok_one (by kernel_rfl) rfl (okWide_bool_mk Tryz.underlying4 _))⟩

theorem FnExactSerreOk_row : Rows.FnExactSerreOkSaid :=
  OpenClaim.holds_of_wide 3 Tryz.f3 rfl rfl rfl rfl rfl rfl rfl ⟨rfl, rfl, rfl, rfl, rfl⟩ rfl rfl rfl rfl rfl (by kernel_rfl) Tryz.func3 (by kernel_rfl)
    (of_decide_eq_true (by kernel_rfl)) (by unfold Func.isWrapper; first | (rw [if_pos (by decide +kernel)]; kernel_rfl) | (rw [if_neg (by decide +kernel)]; exact ⟨rfl, rfl⟩))
    (fun os started H enc _ => FnExactSerreOk_lifted os started H enc)
set_option maxRecDepth 100000 in
theorem FnExactSerreOk_proved : Rows.FnExactSerreOkCardSaid :=
  Claim7.holds_tied_plain_at .later [] [.data, .pinned] true Rows.fnExactSerreOkCard.stood.harness false
    FnExactSerreOk_row (fun _ h => by cases h) (by kernel_rfl) (fun _ h => by cases h) fnExactSerreOk_row_tie rfl ⟨rfl, rfl⟩ (by kernel_rfl) rfl
    (fun f fn hf hfn => by
      obtain rfl : f = 3 := Option.some.inj ((show Tryz.prog.funcNamed "loop.example/g03109/laws.FnExactSerreOk" = some 3 by kernel_rfl).symm.trans hf) |>.symm
      obtain rfl : fn = Tryz.f3 := (Option.some.inj (Tryz.func3.symm.trans hfn)).symm
      exact ⟨by kernel_rfl, fun j t ht => by
        rw [Tryz.params3] at ht
        have hm : t ∈ [24, 26, 27, 27] := by simpa using Array.mem_of_getElem? ht
        have hall : ([24, 26, 27, 27].all fun u => !Tryz.prog.wantsStandIn u) = true := by kernel_rfl
        exact (show Tryz.prog.wantsStandIn t = false by simpa using List.all_eq_true.1 hall t hm)⟩)
    (by kernel_rfl)
#print axioms FnExactSerreOk_proved
end Srr
end Go.Proofs.YtcngijafnnmccaaGreatDoor
