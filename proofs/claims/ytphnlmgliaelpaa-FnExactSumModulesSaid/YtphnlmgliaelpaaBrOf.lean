/- BracketOf of the program and of the reference. -/
import Derived.Test.YtphnlmgliaelpaaAlgP
import Derived.Test.YtphnlmgliaelpaaStB
namespace Go.Proofs.Ytphnlmgliaelpaa
set_option maxRecDepth 100000
open Go.RowKit

theorem isElement_any (p n : Int) (t v : Value) (A : Option Addr) (l c : Nat) (X : List Int) (w : World) (ht : t = .slice A l c) (hv : Ints w v X) (hp : 0 ≤ p) (hp' : p ≤ 9223372036854775807) :
    Calls Try.prog 80 #[.agg #[.int .i64 p, .int .i64 n, t], v] w (RetBool w (vecOk p n X)) := by
  subst ht
  have hb : Below w.heap.size w (w.alloc (.cells #[.int .i64 p, .int .i64 n, .slice A l c] 30)) := (Below.refl _ _).alloc (Nat.le_refl _) _
  have hv1 := hv.below hb
  obtain ⟨x0, x1, x2⟩ := Box3.new w 30 (.int .i64 p) (.int .i64 n) (.slice A l c)
  obtain ⟨A2, c2, rfl, _, _, _⟩ := id hv
  by_cases h : (X.length : Int) = n
  · have t1 : ((X.length : Int) == n) = true := by simp [h]
    have hR : vecOk p n X = resid p X := by simp [vecOk, h]
    have HR := Lib.hid hR
    clear h hR
    go_enter Try.func80, Try.ntmps80
    go_wp2_with (go_at_call 106; refine (residues_any _ X p _ hp hp' hv1).mono ?_; rintro e w' ⟨rfl, hb2⟩)
    go_ret
    exact ⟨ret_bool HR.out.symm, hb.trans (hb2.mono (by simp))⟩
  · have t1 : ((X.length : Int) == n) = false := by simp [h]
    have hR : vecOk p n X = false := by simp [vecOk, h]
    have HR := Lib.hid hR
    clear h hR
    go_enter Try.func80, Try.ntmps80
    go_wp2_with (fail)
    go_ret
    exact ⟨ret_bool HR.out.symm, hb⟩

theorem vecOk_spec {p n : Int} {X : List Int} (h : vecOk p n X = true) : (X.length : Int) = n ∧ resid p X = true := by
  simpa [vecOk] using h

/-- The bracket of two elements; nothing if one of them is none. -/
def brOf (p n : Int) (T X Y : List Int) : List Int := if algOk p n T && (vecOk p n X && vecOk p n Y) then braL T X Y n.toNat p else []
theorem brOf_no {p n : Int} {T X Y : List Int} (h : (algOk p n T && (vecOk p n X && vecOk p n Y)) = false) : brOf p n T X Y = [] := by simp [brOf, h]

theorem wf_le {x : Int} (h : (Lit.int .i64 x).wf = true) : x ≤ 9223372036854775807 := by
  simp [Lit.wf, IntKind.min, IntKind.max, IntKind.signed, IntKind.bits] at h; omega
theorem length_brOf (p n : Int) (T X Y : List Int) : (brOf p n T X Y).length ≤ 28 := by
  unfold brOf
  split
  · rename_i h
    simp only [Bool.and_eq_true] at h
    obtain ⟨m, rfl, hm, _⟩ := algOk_spec h.1
    rw [length_braL]; simpa using hm
  · simp

end Go.Proofs.Ytphnlmgliaelpaa
