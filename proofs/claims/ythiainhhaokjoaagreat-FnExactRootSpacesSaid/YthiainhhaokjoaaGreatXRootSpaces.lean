/- For all arguments, FnExactRootSpaces returns true, and each argument reads behind the call as it read before. No condition. -/
import Derived.Test.YthiainhhaokjoaaGreatLRootSpaces
import Derived.Test.YthiainhhaokjoaaGreatShellC
namespace Go.Proofs.YthiainhhaokjoaaGreat
set_option maxRecDepth 100000
open Go.ChangeShapes Go.WideShapes Go.ChangeAt Go.RowKit
namespace Rt

set_option maxRecDepth 100000 in
theorem FnExactRootSpaces_lifted (os : Os) (started : os.Started) (H : Type) (enc : TypeId × Value → H) :
    ReturnsInHanded {} Tryz.checked os 3 .any (Rows.fnExactRootSpacesSpec.pre6 enc Tryz.prog Tryz.f3 Rows.fnExactRootSpacesRow.domain false) (Rows.fnExactRootSpacesSpec.post enc Tryz.prog Tryz.f3 false true false false) := by
  refine returnsInHanded_of_change (C := Tryz.checked) own started (by kernel_rfl) Tryz.func3
    (ChangeSpec.witness6 (enc := enc) (C := Tryz.checked) false ⟨#[], #[.agg #[.int .i64 0, .int .i64 0, .slice none 0 0], .agg #[.int .i64 0, .int .i64 0, .int .i64 0, .slice none 0 0]], []⟩ 8 (by kernel_rfl) (by kernel_rfl) (by kernel_rfl) (by kernel_rfl)) ?_
  intro W base args ds gs before hval0 hW hcnd _
  have hval : ∀ (j : Nat) t v, Tryz.f3.params[j]? = some t → args[j]? = some v → Value.okWide Tryz.prog W .any base t v := hval0
  have hW' := hW
  obtain ⟨p, q, hA0, hV, rfl, hfz, hnd⟩ := hW
  have hA : DataW.TrodAll enc Tryz.prog W 0 (fun _ => true) true Tryz.f3.params.toList args.toList ds p := hA0
  rw [Tryz.params3] at hA hval
  obtain ⟨v0, vs0, d0, ds0, p0, q0, hargs, rfl, rfl, h0, r0⟩ := trodAll_cons hA
  obtain ⟨v1, vs1, d1, ds1, p1, q1, rfl, rfl, rfl, h1, r1⟩ := trodAll_cons r0
  obtain ⟨rfl, rfl, rfl⟩ := trodAll_nil r1
  obtain rfl : args = #[v0, v1] := by cases args; simp_all
  obtain ⟨rfl, rfl⟩ := trodVars_none hV
  obtain ⟨a0, b0, u0, l0, e0, k0, wa0, wb0, w0⟩ := openAlgebra (hval 0 24 v0 rfl rfl) h0
  obtain ⟨a1, b1, c1, u1, l1, e1, k1, wa1, wb1, wc1, w1⟩ := openMatrix (hval 1 26 v1 rfl rfl) h1
  have hlt : ∀ x ∈ p0 ++ p1, x.block < W.heap.size := fun x hx => hW'.lt x (by simpa using hx)
  have s0 : ∀ W' : World, Below W.heap.size W W' → ∀ sp : Nat → Bool, (∀ p ∈ p0, sp p.block = true) → DataW.Trod enc Tryz.prog W' 0 sp true 24 v0 d0 p0 := fun W' hb sp hs =>
    trod_again laidOut (by kernel_rfl) (of_decide_eq_true (by kernel_rfl)) h0 hb (fun x hx => hlt x (by simp [hx])) hs
  have s1 : ∀ W' : World, Below W.heap.size W W' → ∀ sp : Nat → Bool, (∀ p ∈ p1, sp p.block = true) → DataW.Trod enc Tryz.prog W' 0 sp true 26 v1 d1 p1 := fun W' hb sp hs =>
    trod_again laidOut (by kernel_rfl) (of_decide_eq_true (by kernel_rfl)) h1 hb (fun x hx => hlt x (by simp [hx])) hs
  subst e0 e1
  clear hA0 hval0
  simp only [List.append_nil] at hW'
  refine (lawRootSpaces a0 b0 u0 l0 k0 wa0 wb0 w0 a1 b1 c1 u1 l1 k1 wa1 wb1 wc1 w1 (w := W)).mono fun e W' ⟨he, hg⟩ => ?_
  subst he
  exact ⟨_, rfl, post_of_below (pv := []) hW' (fun _ _ _ => (trodAll_cons_mk (shut_bool Tryz.underlying4 _) trodAll_mk0)) (fun sp hs => (trodAll_cons_mk (s0 W' hg sp (fun p hp => hs p (by simp [hp]))) (trodAll_cons_mk (s1 W' hg sp (fun p hp => hs p (by simp [hp]))) trodAll_mk0))) (fun _ _ => rfl) (by simp)
    hg (ok_one (by kernel_rfl) rfl (okWide_bool_mk Tryz.underlying4 _))⟩

theorem FnExactRootSpaces_proved : Rows.FnExactRootSpacesSaid :=
  OpenClaim.holds_of_wide 3 Tryz.f3 rfl rfl rfl rfl rfl rfl rfl ⟨rfl, rfl, rfl, rfl, rfl⟩ rfl rfl rfl rfl rfl (by kernel_rfl) Tryz.func3 (by kernel_rfl)
    (of_decide_eq_true (by kernel_rfl)) (by unfold Func.isWrapper; first | (rw [if_pos (by decide +kernel)]; kernel_rfl) | (rw [if_neg (by decide +kernel)]; exact ⟨rfl, rfl⟩))
    (fun os started H enc _ => FnExactRootSpaces_lifted os started H enc)
#print axioms FnExactRootSpaces_proved
end Rt
end Go.Proofs.YthiainhhaokjoaaGreat
