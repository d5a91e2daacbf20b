/- IsHomomorphism of the program and of the reference. -/
import Derived.Test.YthiainhhaokjoaaGreatDerA
import Derived.Deep.RegionWith
import Derived.Deep.CutRange
namespace Go.Proofs.YthiainhhaokjoaaGreat
set_option maxRecDepth 100000
open Go.RowKit

def mapsOk (p1 n1 : Int) (T1 : List Int) (p2 n2 : Int) (T2 : List Int) (q r c : Int) (D : List Int) : Bool := algOk p1 n1 T1 && (algOk p2 n2 T2 && (matOk q r c D && (decide (q = p1) && (decide (p2 = p1) && (decide (r = n1) && decide (c = n2))))))
def homAt (T1 T2 : List Int) (n m : Nat) (p : Int) (D : List Int) (i j : Nat) : Bool := decide (combL (rowT T1 n i j) (rowsM n m D) m p = braL T2 (rowM m D i) (rowM m D j) m p)
def homOk (T1 T2 : List Int) (n m : Nat) (p : Int) (D : List Int) : Bool := allF (fun i => allF (homAt T1 T2 n m p D i) i 0) n 0
def isHom (p1 n1 : Int) (T1 : List Int) (p2 n2 : Int) (T2 : List Int) (q r c : Int) (D : List Int) : Bool := mapsOk p1 n1 T1 p2 n2 T2 q r c D && homOk T1 T2 n1.toNat n2.toNat p1 D
theorem mapsOk_spec {p1 n1 p2 n2 q r c : Int} {T1 T2 D : List Int} (h : mapsOk p1 n1 T1 p2 n2 T2 q r c D = true) : algOk p1 n1 T1 = true ∧ algOk p2 n2 T2 = true ∧ matOk q r c D = true ∧ q = p1 ∧ p2 = p1 ∧ r = n1 ∧ c = n2 := by
  simp only [mapsOk, Bool.and_eq_true, decide_eq_true_eq] at h
  exact ⟨h.1, h.2.1, h.2.2.1, h.2.2.2.1, h.2.2.2.2.1, h.2.2.2.2.2.1, h.2.2.2.2.2.2⟩

end Go.Proofs.YthiainhhaokjoaaGreat
