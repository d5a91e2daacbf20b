/- Spaces of modules: what is made of them, and how they grow; elements of spaces. SumSpaces of the program. -/
import Derived.Test.YtcdbgcpccmcbeaaGreatSpaceA
import Derived.Test.YtcdbgcpccmcbeaaGreatSubSp
import Derived.Test.YtcdbgcpccmcbeaaGreatMul
import Derived.Test.YtcdbgcpccmcbeaaGreatModA
import Derived.Test.YtcdbgcpccmcbeaaGreatCloA
import Derived.Test.YtcdbgcpccmcbeaaGreatRedV
namespace Go.Proofs.YtcdbgcpccmcbeaaGreat
set_option maxRecDepth 100000
section
open Go.RowKit

/-- What a matrix makes of a space. -/
def mulR (p : Int) (n : Nat) (R : List (List Int)) (m : Mt) : List (List Int) := rowsM R.length n (mulD p R.length n n (flat n R) m.d)
theorem length_mulR (p : Int) (n : Nat) (R : List (List Int)) (m : Mt) : (mulR p n R m).length = R.length := length_rowsM _ _ _
theorem Wf_mulR {p : Int} (hp : 2 ≤ p) (n : Nat) (R : List (List Int)) (m : Mt) : Wf p n (mulR p n R m) := Wf_rowsM (by omega) (resid_mulD hp _ _ _ _ _)
theorem flat_mulR (p : Int) (n : Nat) (R : List (List Int)) (m : Mt) : flat n (mulR p n R m) = mulD p R.length n n (flat n R) m.d := flat_rowsM (length_mulD _ _ _ _ _ _)
def mvTo (p : Int) (n : Nat) (ms : List Mt) (R : List (List Int)) : Nat → List (List Int)
  | 0 => R
  | i + 1 => spanL p n (mvTo p n ms R i ++ mulR p n R (mAt ms i))
def mvNext (p : Int) (n : Nat) (ms : List Mt) (R : List (List Int)) : List (List Int) := mvTo p n ms R ms.length
theorem mvTo_rf {p : Int} (hP : isPrime p = true) {n : Nat} (ms : List Mt) {R : List (List Int)} {a : List Nat} (h : Rf p n R a) : ∀ i, ∃ b, Rf p n (mvTo p n ms R i) b
  | 0 => ⟨a, h⟩
  | i + 1 => by
    obtain ⟨b, hb⟩ := mvTo_rf hP ms h i
    exact ⟨_, spanL_rf hP (hb.wf.app (Wf_mulR (isPrime_bd hP).1 n R (mAt ms i)))⟩
theorem mvTo_up {p : Int} (hP : isPrime p = true) {n : Nat} (ms : List Mt) {R : List (List Int)} {a : List Nat} (h : Rf p n R a) (i : Nat) : (∀ j, j < (mvTo p n ms R i).length → Sp p n (mvTo p n ms R (i + 1)) (vec (rowOf (mvTo p n ms R i) j))) ∧ ∀ j, j < (mulR p n R (mAt ms i)).length → Sp p n (mvTo p n ms R (i + 1)) (vec (rowOf (mulR p n R (mAt ms i)) j)) := by
  obtain ⟨b, hb⟩ := mvTo_rf hP ms h i
  have hw := hb.wf.app (Wf_mulR (isPrime_bd hP).1 n R (mAt ms i))
  exact ⟨fun j hj => (sp_app_left (.row j hj)).trans (spanL_out hP hw), fun j hj => (sp_app_right (.row j hj)).trans (spanL_out hP hw)⟩
theorem mvTo_sup {p : Int} (hP : isPrime p = true) {n : Nat} (ms : List Mt) {R : List (List Int)} {a : List Nat} (h : Rf p n R a) (i k : Nat) : ∀ j, j < (mvTo p n ms R i).length → Sp p n (mvTo p n ms R (i + k)) (vec (rowOf (mvTo p n ms R i) j)) := by
  induction k with
  | zero => exact fun j hj => .row j hj
  | succ k ih => exact fun j hj => (ih j hj).trans (mvTo_up hP ms h (i + k)).1
theorem mv_grow {p : Int} (hP : isPrime p = true) {n : Nat} (ms : List Mt) : Grow p n (mvNext p n ms) :=
  ⟨fun _ _ h => mvTo_rf hP ms h _, fun _ _ h i hi => by have := mvTo_sup hP ms h 0 ms.length i hi; rw [Nat.zero_add] at this; exact this⟩
/-- A space is a submodule if it does not grow. -/
theorem mv_same {p : Int} (hP : isPrime p = true) {n : Nat} (ms : List Mt) {R : List (List Int)} {a : List Nat} (h : Rf p n R a) : (mvNext p n ms R).length = R.length ↔ ∀ i, i < ms.length → ∀ j, j < (mulR p n R (mAt ms i)).length → Sp p n R (vec (rowOf (mulR p n R (mAt ms i)) j)) := by
  have hp := (isPrime_bd hP).1
  constructor
  · intro e i hi j hj
    have hs := (mv_grow hP ms).same hp h e
    have h1 := (mvTo_up hP ms h i).2 j hj
    have h2 := h1.trans (mvTo_sup hP ms h (i + 1) (ms.length - (i + 1)))
    rw [show i + 1 + (ms.length - (i + 1)) = ms.length by omega] at h2
    change Sp p n (mvNext p n ms R) _ at h2
    rwa [hs] at h2
  · intro hall
    have key : ∀ i, i ≤ ms.length → mvTo p n ms R i = R := by
      intro i
      induction i with
      | zero => intro _; rfl
      | succ i ih =>
        intro hi
        rw [mvTo, ih (by omega)]
        rw [(spanL_eq hP (h.wf.app (Wf_mulR hp n R (mAt ms i))) h.wf (sub_app (fun j hj => .row j hj) (hall i (by omega))) (fun j hj => sp_app_left (.row j hj))).1, (spanL_self hP h).1]
    rw [mvNext, key _ (Nat.le_refl _)]

end
section
open Go.RowKit

end
end Go.Proofs.YtcdbgcpccmcbeaaGreat
