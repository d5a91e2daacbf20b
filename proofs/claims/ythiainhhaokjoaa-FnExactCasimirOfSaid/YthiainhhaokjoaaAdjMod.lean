/- AdjointModule of the program and of the reference. -/
import Derived.Test.YthiainhhaokjoaaAdjA
namespace Go.Proofs.Ythiainhhaokjoaa
set_option maxRecDepth 100000
open Go.RowKit

def adMt (p : Int) (n : Nat) (T : List Int) (i : Nat) : Mt := ⟨p, n, n, adM T (unitL n i) n p⟩
def adMs (p : Int) (n : Nat) (T : List Int) : List Mt := (List.range n).map (adMt p n T)
def adMod (p n : Int) (T : List Int) : List Mt := if algOk p n T then adMs p n.toNat T else []
theorem length_adMs (p : Int) (n : Nat) (T : List Int) : (adMs p n T).length = n := by simp [adMs]
theorem adMs_take (p : Int) (n : Nat) (T : List Int) (i : Nat) (h : i < n) : (adMs p n T).take (i + 1) = (adMs p n T).take i ++ [adMt p n T i] := by
  rw [List.take_succ_eq_append_getElem (by rw [length_adMs]; exact h)]
  simp [adMs]
theorem dLen_const (ms : List Mt) (k : Nat) (h : ∀ m ∈ ms, m.d.length = k) : dLen ms = ms.length * k := by
  induction ms with
  | nil => simp [dLen]
  | cons m ms ih => rw [dLen, ih (fun x hx => h x (by simp [hx])), h m (by simp), List.length_cons, Nat.add_mul]; omega
theorem adMod_bd (p n : Int) (T : List Int) : markMsLen (adMod p n T) ≤ 25284 := by
  unfold adMod
  by_cases h : algOk p n T = true
  · rw [if_pos h]
    obtain ⟨m, rfl, hm, _⟩ := algOk_spec h
    unfold markMsLen
    rw [dLen_const _ (m * m) (fun x hx => by
      obtain ⟨j, _, rfl⟩ := List.mem_map.1 hx
      exact length_adM _ _ _ _), length_adMs, Int.toNat_natCast]
    have := mul_le hm (mul_le hm hm)
    omega
  · rw [if_neg h]; simp [markMsLen, dLen]


end Go.Proofs.Ythiainhhaokjoaa
