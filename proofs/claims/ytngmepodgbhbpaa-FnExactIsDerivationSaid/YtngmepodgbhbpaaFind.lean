/- slices.IndexFunc and slices.ContainsFunc at []int, the test a function value whose contract is known. -/
import Derived.Test.YtngmepodgbhbpaaSmall
namespace Go.Proofs.Ytngmepodgbhbpaa
set_option maxRecDepth 100000
open Go.RowKit

/-- Where the first element lies that a test takes, -1 if there is none. -/
def idx (p : Int → Bool) : List Int → Int → Int
  | [], _ => -1
  | x :: xs, k => if p x then k else idx p xs (k + 1)
theorem idx_drop (p : Int → Bool) (l : List Int) (k : Nat) (hk : k < l.length) : idx p (l.drop k) k = if p l[k] then (k : Int) else idx p (l.drop (k + 1)) ((k + 1 : Nat) : Int) := by
  rw [List.drop_eq_getElem_cons hk]; rfl
theorem idx_end (p : Int → Bool) (l : List Int) (k : Nat) (hk : l.length ≤ k) : idx p (l.drop k) k = -1 := by
  rw [List.drop_eq_nil_of_le hk]; rfl
theorem idx_any (p : Int → Bool) (l : List Int) : ∀ i : Int, 0 ≤ i → decide (0 ≤ idx p l i) = l.any p := by
  induction l with
  | nil => intro i _; simp [idx]
  | cons x xs ih =>
    intro i hi
    cases hx : p x
    · simp [idx, hx, ← ih (i + 1) (by omega)]
    · simp [idx, hx, hi]

set_option maxHeartbeats 400000 in
theorem IndexFunc_any (g : Nat) (caps : Array Value) (p : Int → Bool) (hg : ∀ (args : Array Value) (W : World), (callFunc g args).run Try.prog W = .ok (.enter g args) W)
    (v : Value) (l : List Int) (w : World) (hf : ∀ (x : Int), Calls Try.prog g (#[.int .i64 x] ++ caps) w fun e w' => e = .returned (.bool (p x)) ∧ w = w') (hv : Ints w v l) :
    Calls Try.prog 142 #[v, .func (.func g) #[] caps] w fun e w' => e = .returned (.int .i64 (idx p l 0)) ∧ w = w' := by
  obtain ⟨A, c, rfl, h1, h2, h3⟩ := hv
  obtain ⟨R, hR⟩ : ∃ R, R = idx p l 0 := ⟨_, rfl⟩
  rw [← hR]
  have HR := Lib.hid hR
  have HF := Lib.hid hf
  clear hR hf
  go_enter Try.func142, Try.ntmps142
  go_wp2
  go_loop [8] (fun vi => ∃ k : Nat, vi = .int .i64 k ∧ Hid (R = idx p (l.drop k) k)) (fun vi => l.length - (intOf vi).toNat)
  case atStart => exact ⟨0, rfl, HR⟩
  case round =>
    obtain ⟨k, rfl, HM⟩ := hrel
    by_cases hk : k < l.length
    · obtain ⟨b, off, rfl, hc⟩ := h3 (by omega)
      have e1 := hc k l[k] (List.getElem?_eq_getElem hk)
      have HD := Lib.hid (idx_drop p l k hk)
      clear hc h3
      by_cases hx : p l[k] = true
      · go_wp2_with fail
        refine (HF.out _).mono ?_
        rintro e w' ⟨rfl, rfl⟩
        go_wp2
        go_ret
        exact ⟨ret_int (by rw [HM.out, HD.out, if_pos hx]), rfl⟩
      · have hx : p l[k] = false := by simpa using hx
        go_wp2_with fail
        refine (HF.out _).mono ?_
        rintro e w' ⟨rfl, rfl⟩
        go_wp2
        go_round
        case rel => exact ⟨k + 1, by go_num, by rw [HM.out, HD.out, if_neg (by simp [hx])]; exact rfl⟩
        case measure => simp [intOf]; omega
    · have HE := Lib.hid (idx_end p l k (by omega))
      clear h3
      go_wp2
      go_ret
      exact ⟨ret_int (by rw [HM.out, HE.out]), rfl⟩

theorem ContainsFunc_any (g : Nat) (caps : Array Value) (p : Int → Bool) (hg : ∀ (args : Array Value) (W : World), (callFunc g args).run Try.prog W = .ok (.enter g args) W)
    (v : Value) (l : List Int) (w : World) (hf : ∀ (x : Int), Calls Try.prog g (#[.int .i64 x] ++ caps) w fun e w' => e = .returned (.bool (p x)) ∧ w = w') (hv : Ints w v l) :
    Calls Try.prog 135 #[v, .func (.func g) #[] caps] w fun e w' => e = .returned (.bool (l.any p)) ∧ w = w' := by
  have hq := idx_any p l 0 (by omega)
  have HQ := Lib.hid hq
  have HF := Lib.hid hf
  have HG := Lib.hid hg
  clear hq hf hg
  obtain ⟨A, c, rfl, h1, h2, h3⟩ := id hv
  clear h1 h2 h3
  go_enter Try.func135, Try.ntmps135
  go_wp2_with (go_at_call 142; refine (IndexFunc_any g caps p HG.out _ l _ HF.out hv).mono ?_; rintro e w' ⟨rfl, rfl⟩)
  go_ret
  exact ⟨ret_bool HQ.out, rfl⟩

end Go.Proofs.Ytngmepodgbhbpaa
