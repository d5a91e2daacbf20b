/- The derived and the lower series of both programs. -/
import Derived.Test.YtcdbgcpccmcbeaaSerI
import Derived.Test.YtcdbgcpccmcbeaaAdjMod
namespace Go.Proofs.Ytcdbgcpccmcbeaa
set_option maxRecDepth 100000
open Go.RowKit

/-- A series as matrices. -/
def serMod (k : Bool) (p n : Int) (T : List Int) : List Mt := if algOk p n T then serMs p n.toNat (serL k T n.toNat p) else []
theorem serMod_yes {k : Bool} {p : Int} {m : Nat} {T : List Int} (h : algOk p m T = true) : serMod k p m T = serMs p m (serL k T m p) := by rw [serMod, if_pos h, Int.toNat_natCast]
theorem serMod_no {k : Bool} {p n : Int} {T : List Int} (h : algOk p n T = false) : serMod k p n T = [] := by rw [serMod, if_neg (by rw [h]; decide)]
theorem dLen_bound (ms : List Mt) (k : Nat) (h : ∀ m ∈ ms, m.d.length ≤ k) : dLen ms ≤ ms.length * k := by
  induction ms with
  | nil => simp [dLen]
  | cons m ms ih =>
    have h1 := ih fun x hx => h x (by simp [hx])
    have h2 := h m (by simp)
    rw [dLen, List.length_cons, Nat.add_mul]; omega
theorem serMod_bd (k : Bool) (p n : Int) (T : List Int) : markMsLen (serMod k p n T) ≤ 25284 := by
  by_cases h : algOk p n T = true
  · obtain ⟨m, rfl, hm, _, _, _, _, hP⟩ := algOk_spec h
    rw [serMod_yes h]
    unfold markMsLen
    have hl := length_serL k T m p
    have hd := dLen_bound (serMs p m (serL k T m p)) (m * m) fun x hx => by
      obtain ⟨R, hR, rfl⟩ := List.mem_map.1 hx
      have := (serTo_ok hP m (SerOk.start k T m (isPrime_bd hP).1) R hR).le_n (isPrime_bd hP).1
      show (flat m R).length ≤ _
      rw [length_flat]
      exact Nat.mul_le_mul_right m this
    rw [length_serMs] at hd ⊢
    have h2 : (serL k T m p).length * (m * m) ≤ 29 * 784 := Nat.mul_le_mul (by omega) (mul_le hm hm)
    omega
  · rw [serMod_no (by simpa using h)]; simp [markMsLen, dLen]

end Go.Proofs.Ytcdbgcpccmcbeaa
