/- Copies of slices of integers: slices.Clone and the reference's l1Ints. -/
import Derived.Test.YtechjmckfedblaaLawB
namespace Go.Proofs.Ytechjmckfedblaa
set_option maxRecDepth 100000
open Go.RowKit

set_option maxHeartbeats 400000 in
theorem l1Ints_any (v : Value) (l : List Int) (w : World) (hv : Ints w v l) (hl : l.length ≤ 8796093022208) :
    Calls Try.prog 164 #[v] w (RetOwn w l) := by
  obtain ⟨A, c, rfl, h1, h2, h3⟩ := id hv
  clear h1 h2 h3
  have hv1 : Ints (w.alloc (.cells #[] 3)) (.slice A l.length c) l := hv.below ((Below.refl _ _).alloc (Nat.le_refl _) _)
  go_enter Try.func164, Try.ntmps164
  go_wp2_with (at_builtin; refine wp_append_ints rfl (.tmp 3) (.tmp 4) rfl w.heap.size _ _ [] l rfl rfl (Own.empty (Nat.le_refl _)) hv1 (by simp; omega) (by simp) ?_; intro v1 w1 ho1 hg1 _)
  go_ret
  exact ⟨_, rfl, by simpa using ho1, grown_below (Own.empty (Nat.le_refl _)) hg1 ((Below.refl _ _).alloc (Nat.le_refl _) _) (Nat.le_refl _) (by simp)⟩

set_option maxHeartbeats 400000 in
theorem Clone_any (v : Value) (l : List Int) (w : World) (hv : Ints w v l) (hl : l.length ≤ 8796093022208) :
    Calls Try.prog 130 #[v] w (RetOwn w l) := by
  obtain ⟨A, c, rfl, h1, h2, h3⟩ := id hv
  cases A with
  | none =>
    obtain rfl : l = [] := by
      cases l with
      | nil => rfl
      | cons x xs => obtain ⟨b, off, h, _⟩ := h3 (by simp); cases h
    clear h1 h2 h3
    have hnil := fun W : World => Lib.run_eql_slice_nil (P := Try.prog) W 22 3 none 0 c 0 0 Try.underlying22
    go_enter Try.func130, Try.ntmps130
    go_wp2
    go_ret
    exact ⟨_, rfl, ⟨by simp, .inl ⟨rfl, rfl⟩⟩, Below.refl _ _⟩
  | some a =>
    clear h1 h2 h3
    have hv1 : Ints (w.alloc (.cells #[] 3)) (.slice (some a) l.length c) l := hv.below ((Below.refl _ _).alloc (Nat.le_refl _) _)
    have hnil := fun W : World => Lib.run_eql_slice_nil (P := Try.prog) W 22 3 (some a) l.length c 0 0 Try.underlying22
    go_enter Try.func130, Try.ntmps130
    go_wp2_with (at_builtin; refine wp_append_ints rfl (.tmp 5) (.tmp 6) rfl w.heap.size _ _ [] l rfl rfl (Own.empty (Nat.le_refl _)) hv1 (by simp; omega) (by simp) ?_; intro v1 w1 ho1 hg1 _)
    go_ret
    exact ⟨_, rfl, by simpa using ho1, grown_below (Own.empty (Nat.le_refl _)) hg1 ((Below.refl _ _).alloc (Nat.le_refl _) _) (Nat.le_refl _) (by simp)⟩
end Go.Proofs.Ytechjmckfedblaa
