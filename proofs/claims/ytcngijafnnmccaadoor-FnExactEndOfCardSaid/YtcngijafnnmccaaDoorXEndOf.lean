/- For all arguments, FnExactEndOf returns true, and each argument reads behind the call as it read before. No condition. -/
import Derived.Test.YtcngijafnnmccaaDoorLEndOf
import Derived.Test.YtcngijafnnmccaaDoorShellC
import Derived.Test.YtcngijafnnmccaaDoorTie
import Derived.Test.YtcngijafnnmccaaDoorCards
import Derived.LaidMore
import Derived.Lay
import Derived.Test.YtcngijafnnmccaaDoorShellP
import Derived.Stop.Joined
import Derived.SevenTiedAt
namespace Go.Proofs.YtcngijafnnmccaaDoor
set_option maxRecDepth 100000
open Go.ChangeShapes Go.WideShapes Go.ChangeAt Go.RowKit
namespace Stp

set_option maxRecDepth 100000 in
theorem FnExactEndOf_lifted (os : Os) (started : os.Started) (H : Type) (enc : TypeId × Value → H) :
    ReturnsInHanded {} Tryd.checked os 6 .any (fun w args => (Rows.fnExactEndOfSpec.pre enc Tryd.prog Tryd.f6 [] false w args ∧ laidMetH Tryd.prog Rows.fnExactEndOfRow.laid w) ∧ sizedMet enc Tryd.prog Tryd.f6 (OpenSpec.ofChange Rows.fnExactEndOfSpec) false w args) (Rows.fnExactEndOfSpec.post enc Tryd.prog Tryd.f6 false true false false) := by
  refine handedAndShaped (C := Tryd.checked) (X := fun w _ => laidMetH Tryd.prog Rows.fnExactEndOfRow.laid w) (fun _ _ _ hh h => h.of_heap hh) own started (by kernel_rfl) Tryd.func6
    (ChangeSpec.witness_shaped (enc := enc) (C := Tryd.checked) (os := os) (X := fun w _ => laidMetH Tryd.prog Rows.fnExactEndOfRow.laid w) false (World.laidAll Tryd.prog os Rows.fnExactEndOfRow.laid) #[.agg #[.int .i64 0, .slice none 0 0], .slice none 0 0] 8 (World.laidAll_os _ _ _)
      (World.shaped_of_ZipB (by kernel_rfl) (by kernel_rfl)) (by kernel_rfl) (by kernel_rfl) (by kernel_rfl)
      (by rw [MakeChecks.laidMetH_plain _ _ _ (by kernel_rfl)]; exact laidMet_laidAll _ (by kernel_rfl) (by kernel_rfl))) ?_
  intro W base args ds gs before hval0 hW hL hSh
  have hval : ∀ (j : Nat) t v, Tryd.f6.params[j]? = some t → args[j]? = some v → Value.okWide Tryd.prog W .any base t v := hval0
  have hW' := hW
  obtain ⟨p, q, hA0, hV, rfl, hfz, hnd⟩ := hW
  have hA : DataW.TrodAll enc Tryd.prog W 0 (fun _ => true) true Tryd.f6.params.toList args.toList ds p := hA0
  rw [Tryd.params6] at hA hval
  obtain ⟨v0, vs0, d0, ds0, p0, q0, hargs, rfl, rfl, h0, r0⟩ := trodAll_cons hA
  obtain ⟨v1, vs1, d1, ds1, p1, q1, rfl, rfl, rfl, h1, r1⟩ := trodAll_cons r0
  obtain ⟨rfl, rfl, rfl⟩ := trodAll_nil r1
  obtain rfl : args = #[v0, v1] := by cases args; simp_all
  obtain ⟨rfl, rfl⟩ := trodVars_none hV
  obtain ⟨a0, u0, l0, e0, k0, wa0, w0⟩ := openCartan (hval 0 28 v0 rfl rfl) h0
  obtain ⟨l1, k1⟩ := openSteps (hval 1 29 v1 rfl rfl) h1
  have hlt : ∀ x ∈ p0 ++ p1, x.block < W.heap.size := fun x hx => hW'.lt x (by simpa using hx)
  have s0 : ∀ W' : World, Below W.heap.size W W' → ∀ sp : Nat → Bool, (∀ p ∈ p0, sp p.block = true) → DataW.Trod enc Tryd.prog W' 0 sp true 28 v0 d0 p0 := fun W' hb sp hs =>
    trod_again laidOut (by kernel_rfl) (of_decide_eq_true (by kernel_rfl)) h0 hb (fun x hx => hlt x (by simp [hx])) hs
  have s1 : ∀ W' : World, Below W.heap.size W W' → ∀ sp : Nat → Bool, (∀ p ∈ p1, sp p.block = true) → DataW.Trod enc Tryd.prog W' 0 sp true 29 v1 d1 p1 := fun W' hb sp hs =>
    trod_again laidOut (by kernel_rfl) (of_decide_eq_true (by kernel_rfl)) h1 hb (fun x hx => hlt x (by simp [hx])) hs
  subst e0
  clear hA0 hval0
  simp only [List.append_nil] at hW'
  refine (lawEndOf a0 u0 l0 k0 wa0 w0 v1 l1 k1 (maxAt_of_shaped hSh) (w := W)).mono fun e W' ⟨he, hg⟩ => ?_
  subst he
  exact ⟨_, rfl, post_of_below (pv := []) hW' (fun _ _ _ => (trodAll_cons_mk (shut_bool Tryd.underlying4 _) trodAll_mk0)) (fun sp hs => (trodAll_cons_mk (s0 W' hg sp (fun p hp => hs p (by simp [hp]))) (trodAll_cons_mk (s1 W' hg sp (fun p hp => hs p (by simp [hp]))) trodAll_mk0))) (fun _ _ => rfl) (by simp)
    hg (ok_one (by kernel_rfl) rfl (okWide_bool_mk Tryd.underlying4 _))⟩

theorem FnExactEndOf_row : Rows.FnExactEndOfSaid :=
  OpenClaim.holds_of_wide 6 Tryd.f6 rfl rfl rfl rfl rfl rfl rfl ⟨rfl, rfl, rfl, rfl, rfl⟩ rfl rfl rfl rfl rfl (by kernel_rfl) Tryd.func6 (by kernel_rfl)
    (of_decide_eq_true (by kernel_rfl)) (by unfold Func.isWrapper; first | (rw [if_pos (by decide +kernel)]; kernel_rfl) | (rw [if_neg (by decide +kernel)]; exact ⟨rfl, rfl⟩))
    (fun os started H enc _ => FnExactEndOf_lifted os started H enc)
set_option maxRecDepth 100000 in
theorem FnExactEndOf_proved : Rows.FnExactEndOfCardSaid :=
  Claim7.holds_tied_plain_at .later [] [.data, .pinned] true Rows.fnExactEndOfCard.stood.harness false
    FnExactEndOf_row (fun _ h => by cases h) (by kernel_rfl) (fun _ h => by cases h) fnExactEndOf_row_tie rfl ⟨rfl, rfl⟩ (by kernel_rfl) rfl
    (fun f fn hf hfn => by
      obtain rfl : f = 6 := Option.some.inj ((show Tryd.prog.funcNamed "loop.example/g03109/laws.FnExactEndOf" = some 6 by kernel_rfl).symm.trans hf) |>.symm
      obtain rfl : fn = Tryd.f6 := (Option.some.inj (Tryd.func6.symm.trans hfn)).symm
      exact ⟨by kernel_rfl, fun j t ht => by
        rw [Tryd.params6] at ht
        have hm : t ∈ [28, 29] := by simpa using Array.mem_of_getElem? ht
        have hall : ([28, 29].all fun u => !Tryd.prog.wantsStandIn u) = true := by kernel_rfl
        exact (show Tryd.prog.wantsStandIn t = false by simpa using List.all_eq_true.1 hall t hm)⟩)
    (by kernel_rfl)
#print axioms FnExactEndOf_proved
end Stp
end Go.Proofs.YtcngijafnnmccaaDoor
