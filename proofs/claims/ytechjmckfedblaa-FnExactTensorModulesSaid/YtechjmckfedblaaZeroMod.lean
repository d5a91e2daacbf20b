/- ZeroModule of the program and of the reference. -/
import Derived.Test.YtechjmckfedblaaZeroM
import Derived.Test.YtechjmckfedblaaBrOf
import Derived.Test.YtechjmckfedblaaLawMats
namespace Go.Proofs.Ytechjmckfedblaa
set_option maxRecDepth 100000
open Go.RowKit

def zeroMod (p n : Int) (T : List Int) (k : Int) : List Mt := if algOk p n T && inR k 0 30 then List.replicate n.toNat ⟨p, k, k, List.replicate (k.toNat * k.toNat) 0⟩ else []
theorem RetMs.nil {w w' : World} (h : Below w.heap.size w w') : RetMs w [] (.returned (.slice none 0 0)) w' :=
  ⟨_, [], rfl, rfl, vec_nil, by simp [matsIt, It.fp, Value.ownBlock], h⟩

theorem dLen_replicate (n : Nat) (m : Mt) : dLen (List.replicate n m) = n * m.d.length := by
  induction n with
  | zero => simp [dLen]
  | succ n ih => rw [List.replicate_succ, dLen, ih, Nat.add_mul]; omega
theorem zeroMod_bd (p n : Int) (T : List Int) (k : Int) : markMsLen (zeroMod p n T k) ≤ 25284 := by
  unfold zeroMod
  by_cases h : (algOk p n T && inR k 0 30) = true
  · rw [if_pos h]
    simp only [Bool.and_eq_true] at h
    obtain ⟨m, rfl, hm, _⟩ := algOk_spec h.1
    have hk : k.toNat ≤ 30 := by have := h.2; simp [inR] at this; omega
    have h2 := mul_le hk hk
    unfold markMsLen
    rw [dLen_replicate, List.length_replicate, List.length_replicate, Int.toNat_natCast]
    have := mul_le hm h2
    omega
  · rw [if_neg h]; simp [markMsLen, dLen]
end Go.Proofs.Ytechjmckfedblaa
