/- Lyndon words, the reference's side: LyndonWords. -/
import Derived.Test.YtmohkpgojkipkaaLynT
namespace Go.Proofs.Ytmohkpgojkipkaa
set_option maxRecDepth 100000
open Go.RowKit
namespace Words

theorem gen_len (q : Nat) : ∀ (m : Nat) (p : List Nat), (gen q m p).length ≤ q ^ m := by
  intro m
  induction m with
  | zero => intro p; rw [gen_zero]; cases lynN p <;> simp
  | succ m ih =>
    intro p
    have h : ∀ l : List Nat, (l.flatMap fun b => gen q m (p ++ [b])).length ≤ l.length * q ^ m := by
      intro l
      induction l with
      | nil => simp
      | cons b l ihl =>
        rw [List.flatMap_cons, List.length_append, List.length_cons, Nat.add_mul, Nat.one_mul]
        have := ih (p ++ [b])
        omega
    rw [gen_succ, Nat.pow_succ, Nat.mul_comm]
    have := h (lets q 0)
    rw [show (lets q 0).length = q by simp [lets]] at this
    exact this
theorem lynW_len {q n : Nat} (hq1 : 1 ≤ q) (hq2 : q ≤ 4) (hn : n ≤ 8) : (lynW q n).length ≤ 65536 := by
  unfold lynW
  rw [List.length_map, frm_zeros q hq1]
  have h1 := gen_len q n []
  have h2 : q ^ n ≤ 4 ^ n := Nat.pow_le_pow_left hq2 n
  have h3 : 4 ^ n ≤ 4 ^ 8 := Nat.pow_le_pow_right (by decide) hn
  have h4 : 4 ^ 8 = 65536 := by decide
  omega
/-- The answer for all numbers: nothing outside of the bounds. -/
noncomputable def lynO (q n : Int) : List (List Int) := if inR q 1 4 = true ∧ inR n 1 8 = true then lynW q.toNat n.toNat else []
set_option maxHeartbeats 1000000 in
theorem LyndonWordsS_any (q n : Int) (w : World) :
    Calls Try.prog 5 #[.int .i64 q, .int .i64 n] w (RetRows w (lynO q n)) := by
  by_cases hq : inR q 1 4 = true
  · by_cases hn : inR n 1 8 = true
    · have hq' := hq
      have hn' := hn
      simp [inR] at hq' hn'
      obtain ⟨a, rfl⟩ : ∃ a : Nat, q = a := ⟨q.toNat, by omega⟩
      obtain ⟨b, rfl⟩ : ∃ b : Nat, n = b := ⟨n.toNat, by omega⟩
      have HA := Lib.hid (fun (W : World) => l11LyndonWords_any a b W (by omega) (by omega) (by omega) (by omega) (lynW_len (by omega) (by omega) (by omega)))
      obtain ⟨Y, hY⟩ : ∃ Y, Y = lynW a b := ⟨_, rfl⟩
      have hO : lynO (a : Int) (b : Int) = Y := by unfold lynO; rw [if_pos ⟨hq, hn⟩, hY]; rfl
      rw [hO]
      rw [← hY] at HA
      clear hY hO hq' hn'
      go_enter Try.func5, Try.ntmps5
      go_wp2_with (go_at_call 22; refine (l1In_any _ _ _ _).mono ?_; rintro e w' ⟨rfl, rfl⟩)
      refine (HA.out _).mono ?_
      rintro (e : Ending) w3 ⟨u3, rfl, ho3, hb3⟩
      go_wp2
      go_ret
      exact ⟨_, rfl, ho3, hb3⟩
    · have hO : lynO q n = [] := by unfold lynO; rw [if_neg (fun h => hn h.2)]
      rw [hO]
      go_enter Try.func5, Try.ntmps5
      go_wp2_with (go_at_call 22; refine (l1In_any _ _ _ _).mono ?_; rintro e w' ⟨rfl, rfl⟩)
      go_ret
      exact ⟨_, rfl, OwnRows.nil, Below.refl _ _⟩
  · have hO : lynO q n = [] := by unfold lynO; rw [if_neg (fun h => hq h.1)]
    rw [hO]
    go_enter Try.func5, Try.ntmps5
    go_wp2_with (go_at_call 22; refine (l1In_any _ _ _ _).mono ?_; rintro e w' ⟨rfl, rfl⟩)
    go_ret
    exact ⟨_, rfl, OwnRows.nil, Below.refl _ _⟩

end Words
end Go.Proofs.Ytmohkpgojkipkaa
