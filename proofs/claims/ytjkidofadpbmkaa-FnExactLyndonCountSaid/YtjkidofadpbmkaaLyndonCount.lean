/- The functions that FnExactLyndonCount reaches: what each call returns, for all arguments inside the bounds. -/
import Derived.Test.YtjkidofadpbmkaaRows
import Derived.WalkKit
import Derived.WalkSpells
import Derived.WalkLawsBesides
import Derived.Lib.Hide
namespace Go.Proofs.Ytjkidofadpbmkaa
open Go.RowKit
namespace LyndonCount

def moebS : Nat → Int → Int → Int → Int
  | 0, _, _, out => out
  | f + 1, n, d, out => if d ≤ n then (if n % d = 0 then (if (n / d) % d = 0 then 0 else moebS f (n / d) (d + 1) (-out)) else moebS f n (d + 1) out) else out
def moebI : Nat → Int → Int → Int → Int
  | 0, _, _, out => out
  | f + 1, n, d, out => if 1 < n then (if n % d = 0 then (if (n / d) % d = 0 then 0 else moebI f (n / d) (d + 1) (-out)) else moebI f n (d + 1) out) else out
def powS : Nat → Int → Int → Int
  | 0, x, _ => x
  | f + 1, x, l => powS f x l * l
def cntS : Nat → Int → Int → Int → Int → Int
  | 0, _, _, _, s => s
  | f + 1, l, n, d, s => if d ≤ n then (if n % d = 0 then cntS f l n (d + 1) (s + powS (n / d).toNat (moebS 101 d 2 1) l) else cntS f l n (d + 1) s) else s
def cntI : Nat → Int → Int → Int → Int → Int
  | 0, _, _, _, s => s
  | f + 1, l, n, d, s => if d ≤ n then (if n % d = 0 then cntI f l n (d + 1) (s + moebI 101 d 2 1 * powS (n / d).toNat 1 l) else cntI f l n (d + 1) s) else s

theorem moebS_bd (f : Nat) : ∀ n d o : Int, -1 ≤ o → o ≤ 1 → -1 ≤ moebS f n d o ∧ moebS f n d o ≤ 1 := by
  induction f with
  | zero => intro n d o h1 h2; exact ⟨h1, h2⟩
  | succ f ih =>
    intro n d o h1 h2
    unfold moebS
    repeat' split
    all_goals first | omega | (exact ih _ _ _ (by omega) (by omega))
theorem moebI_bd (f : Nat) : ∀ n d o : Int, -1 ≤ o → o ≤ 1 → -1 ≤ moebI f n d o ∧ moebI f n d o ≤ 1 := by
  induction f with
  | zero => intro n d o h1 h2; exact ⟨h1, h2⟩
  | succ f ih =>
    intro n d o h1 h2
    unfold moebI
    repeat' split
    all_goals first | omega | (exact ih _ _ _ (by omega) (by omega))
theorem mul_bd (x l B : Int) (h1 : -B ≤ x) (h2 : x ≤ B) (h3 : 1 ≤ l) (h4 : l ≤ 4) : -(4 * B) ≤ x * l ∧ x * l ≤ 4 * B := by
  have : l = 1 ∨ l = 2 ∨ l = 3 ∨ l = 4 := by omega
  rcases this with rfl | rfl | rfl | rfl <;> omega
theorem powS_bd (f : Nat) : ∀ x l B : Int, -B ≤ x → x ≤ B → 1 ≤ l → l ≤ 4 → -(4 ^ f * B) ≤ powS f x l ∧ powS f x l ≤ 4 ^ f * B := by
  induction f with
  | zero => intro x l B h1 h2 _ _; unfold powS; simp; omega
  | succ f ih =>
    intro x l B h1 h2 h3 h4
    unfold powS
    have ⟨a, b⟩ := ih x l B h1 h2 h3 h4
    have := mul_bd _ l _ a b h3 h4
    rw [Int.pow_succ, Int.mul_assoc, Int.mul_comm 4 B, ← Int.mul_assoc, Int.mul_comm _ 4]
    exact this
theorem pow4_le (k : Nat) (h : k ≤ 8) : (4 : Int) ^ k ≤ 65536 := by
  have : k = 0 ∨ k = 1 ∨ k = 2 ∨ k = 3 ∨ k = 4 ∨ k = 5 ∨ k = 6 ∨ k = 7 ∨ k = 8 := by omega
  rcases this with rfl | rfl | rfl | rfl | rfl | rfl | rfl | rfl | rfl <;> decide
theorem pow_le (k : Nat) (x l : Int) (h : k ≤ 8) (h1 : -1 ≤ x) (h2 : x ≤ 1) (h3 : 1 ≤ l) (h4 : l ≤ 4) : -65536 ≤ powS k x l ∧ powS k x l ≤ 65536 := by
  have := powS_bd k x l 1 h1 h2 h3 h4
  have := pow4_le k h
  omega

def inR (n lo hi : Int) : Bool := decide (lo ≤ n) && decide (n ≤ hi)
theorem inR_true {n lo hi : Int} (h1 : lo ≤ n) (h2 : n ≤ hi) : inR n lo hi = true := by simp [inR, h1, h2]
theorem inR_false {n lo hi : Int} (h : ¬ (lo ≤ n ∧ n ≤ hi)) : inR n lo hi = false := by simp [inR]; omega
theorem l1In_any (n lo hi : Int) (w : World) :
    Calls Try.prog 32 #[.int .i64 n, .int .i64 lo, .int .i64 hi] w fun e w' => e = .returned (.bool (inR n lo hi)) ∧ w = w' := by
  by_cases h1 : lo ≤ n <;> by_cases h2 : n ≤ hi
  all_goals
    go_enter Try.func32, Try.ntmps32
    go_wp2
    go_ret
    exact ⟨by simp [inR, h1, h2], rfl⟩
theorem inside_any (n lo hi : Int) (w : World) :
    Calls Try.prog 34 #[.int .i64 n, .int .i64 lo, .int .i64 hi] w fun e w' => e = .returned (.bool (inR n lo hi)) ∧ w = w' := by
  by_cases h1 : lo ≤ n <;> by_cases h2 : n ≤ hi
  all_goals
    go_enter Try.func34, Try.ntmps34
    go_wp2
    go_ret
    exact ⟨by simp [inR, h1, h2], rfl⟩

theorem ret_int {k : IntKind} {a b : Int} (h : a = b) : Ending.returned (.int k a) = .returned (.int k b) := by rw [h]
theorem div_bd (n d : Int) (h1 : 1 ≤ n) (h2 : n ≤ 100) (h3 : 2 ≤ d) (h4 : n % d = 0) : 1 ≤ n / d ∧ n / d < n ∧ n / d ≤ 100 := by
  have h5 := Int.mul_ediv_add_emod n d
  rw [h4] at h5
  have h6 : 0 ≤ n / d := Int.ediv_nonneg (by omega) (by omega)
  have h7 : n / d ≠ 0 := by intro h; rw [h] at h5; omega
  have h8 : n / d < n := Int.ediv_lt_self_of_pos_of_ne_one (by omega) (by omega)
  omega

set_option maxHeartbeats 400000 in
theorem moebS_any (n : Int) (w : World) (h0 : 1 ≤ n) (h1 : n ≤ 100) :
    Calls Try.prog 33 #[.int .i64 n] w fun e w' => e = .returned (.int .i64 (moebS 101 n 2 1)) ∧ w = w' := by
  obtain ⟨R, hR⟩ : ∃ R, R = moebS 101 n 2 1 := ⟨_, rfl⟩
  rw [← hR]
  have HR := Lib.hid hR
  clear hR
  go_enter Try.func33, Try.ntmps33
  go_wp2
  go_loop [0, 3, 4] (fun vn vo vd => ∃ (m d o : Int) (f : Nat), vn = .int .i64 m ∧ vo = .int .i64 o ∧ vd = .int .i64 d ∧ Hid (R = moebS f m d o) ∧ 1 ≤ m ∧ m ≤ 100 ∧ 2 ≤ d ∧ d ≤ 101 ∧ m < f + d ∧ -1 ≤ o ∧ o ≤ 1) (fun _ _ vd => (101 - intOf vd).toNat)
  case atStart => exact ⟨n, 2, 1, 101, rfl, rfl, rfl, HR, by omega, by omega, by omega, by omega, by omega, by omega, by omega⟩
  case round =>
    obtain ⟨m, d, o, f, rfl, rfl, rfl, HM, a1, a2, a3, a4, a5, a6, a7⟩ := hrel
    by_cases hd : d ≤ m
    · obtain ⟨f, rfl⟩ : ∃ k, f = k + 1 := ⟨f - 1, by omega⟩
      by_cases hm : m % d = 0
      · have ⟨b1, b2, b3⟩ := div_bd m d a1 a2 a3 hm
        have hm1 : (m % d != 0) = false := by simp [hm]
        have Hm := Lib.hid hm
        clear hm
        by_cases hz : (m / d) % d = 0
        · have hz1 : ((m / d) % d == 0) = true := by simp [hz]
          have Hz := Lib.hid hz
          clear hz
          go_wp2
          go_ret
          exact ⟨ret_int (by rw [HM.out]; unfold moebS; rw [if_pos hd, if_pos Hm.out, if_pos Hz.out]), rfl⟩
        · have hz1 : ((m / d) % d == 0) = false := by simp [hz]
          have Hz := Lib.hid hz
          clear hz
          go_wp2
          go_round
          case rel => exact ⟨m / d, d + 1, -o, f, rfl, rfl, rfl, by
            have := HM.out; unfold moebS at this; rw [if_pos hd, if_pos Hm.out, if_neg Hz.out] at this; exact this, by omega, by omega, by omega, by omega, by omega, by omega, by omega⟩
          case measure => simp [intOf]; omega
      · have hm1 : (m % d != 0) = true := by simp [hm]
        have Hm := Lib.hid hm
        clear hm
        go_wp2
        go_round
        case rel => exact ⟨m, d + 1, o, f, rfl, rfl, rfl, by
            have := HM.out; unfold moebS at this; rw [if_pos hd, if_neg Hm.out] at this; exact this, by omega, by omega, by omega, by omega, by omega, by omega, by omega⟩
        case measure => simp [intOf]; omega
    · go_wp2
      go_ret
      exact ⟨ret_int (by rw [HM.out]; cases f with | zero => rfl | succ f => (unfold moebS; rw [if_neg (by omega)])), rfl⟩
theorem free_le {m d : Int} (h : ∀ k : Int, 2 ≤ k → k < d → m % k ≠ 0) (h1 : 1 < m) : d ≤ m := by
  rcases Int.lt_or_le m d with hlt | hge
  · exact absurd (Int.emod_self) (h m (by omega) hlt)
  · exact hge
theorem free_step {m d : Int} (h : ∀ k : Int, 2 ≤ k → k < d → m % k ≠ 0) (h1 : ¬ m % d = 0) : ∀ k : Int, 2 ≤ k → k < d + 1 → m % k ≠ 0 := by
  intro k h2 h3
  by_cases e : k = d
  · rw [e]; exact h1
  · exact h k h2 (by omega)
theorem free_div {m d : Int} (h : ∀ k : Int, 2 ≤ k → k < d → m % k ≠ 0) (h1 : m % d = 0) (h2 : ¬ (m / d) % d = 0) : ∀ k : Int, 2 ≤ k → k < d + 1 → (m / d) % k ≠ 0 := by
  refine free_step (fun k h3 h4 h5 => h k h3 h4 ?_) h2
  have h6 := Int.mul_ediv_add_emod m d
  rw [h1, Int.add_zero] at h6
  rw [← h6]
  exact Int.emod_eq_zero_of_dvd (Int.dvd_trans (Int.dvd_of_emod_eq_zero h5) (Int.dvd_mul_left d (m / d)))

set_option maxHeartbeats 400000 in
theorem moebI_any (n : Int) (w : World) (h0 : 1 ≤ n) (h1 : n ≤ 100) :
    Calls Try.prog 35 #[.int .i64 n] w fun e w' => e = .returned (.int .i64 (moebI 101 n 2 1)) ∧ w = w' := by
  obtain ⟨R, hR⟩ : ∃ R, R = moebI 101 n 2 1 := ⟨_, rfl⟩
  rw [← hR]
  have HR := Lib.hid hR
  clear hR
  go_enter Try.func35, Try.ntmps35
  go_wp2
  go_loop [0, 3, 4] (fun vn vo vd => ∃ (m d o : Int) (f : Nat), vn = .int .i64 m ∧ vo = .int .i64 o ∧ vd = .int .i64 d ∧ Hid (R = moebI f m d o) ∧ 1 ≤ m ∧ m ≤ 100 ∧ 2 ≤ d ∧ d ≤ 101 ∧ Hid (∀ k : Int, 2 ≤ k → k < d → m % k ≠ 0) ∧ m < f + d ∧ -1 ≤ o ∧ o ≤ 1) (fun _ _ vd => (101 - intOf vd).toNat)
  case atStart => exact ⟨n, 2, 1, 101, rfl, rfl, rfl, HR, by omega, by omega, by omega, by omega, fun k _ _ => by omega, by omega, by omega, by omega⟩
  case round =>
    obtain ⟨m, d, o, f, rfl, rfl, rfl, HM, a1, a2, a3, a4, a4', a5, a6, a7⟩ := hrel
    by_cases hd : 1 < m
    · have a8 : d ≤ m := free_le a4'.out hd
      obtain ⟨f, rfl⟩ : ∃ k, f = k + 1 := ⟨f - 1, by omega⟩
      by_cases hm : m % d = 0
      · have ⟨b1, b2, b3⟩ := div_bd m d a1 a2 a3 hm
        have hm1 : (m % d != 0) = false := by simp [hm]
        have Hm := Lib.hid hm
        clear hm
        by_cases hz : (m / d) % d = 0
        · have hz1 : ((m / d) % d == 0) = true := by simp [hz]
          have Hz := Lib.hid hz
          clear hz
          go_wp2
          go_ret
          exact ⟨ret_int (by rw [HM.out]; unfold moebI; rw [if_pos hd, if_pos Hm.out, if_pos Hz.out]), rfl⟩
        · have hz1 : ((m / d) % d == 0) = false := by simp [hz]
          have Hz := Lib.hid hz
          clear hz
          go_wp2
          go_round
          case rel => exact ⟨m / d, d + 1, -o, f, rfl, rfl, rfl, by
            have := HM.out; unfold moebI at this; rw [if_pos hd, if_pos Hm.out, if_neg Hz.out] at this; exact this, by omega, by omega, by omega, by omega, free_div a4'.out Hm.out Hz.out, by omega, by omega, by omega⟩
          case measure => simp [intOf]; omega
      · have hm1 : (m % d != 0) = true := by simp [hm]
        have Hm := Lib.hid hm
        clear hm
        go_wp2
        go_round
        case rel => exact ⟨m, d + 1, o, f, rfl, rfl, rfl, by
            have := HM.out; unfold moebI at this; rw [if_pos hd, if_neg Hm.out] at this; exact this, by omega, by omega, by omega, by omega, free_step a4'.out Hm.out, by omega, by omega, by omega⟩
        case measure => simp [intOf]; omega
    · go_wp2
      go_ret
      exact ⟨ret_int (by rw [HM.out]; cases f with | zero => rfl | succ f => (unfold moebI; rw [if_neg (by omega)])), rfl⟩

theorem divd_bd (n d : Int) (h1 : 1 ≤ n) (h2 : n ≤ 8) (h3 : 1 ≤ d) : 0 ≤ n / d ∧ n / d ≤ 8 := by
  have h6 : 0 ≤ n / d := Int.ediv_nonneg (by omega) (by omega)
  have h7 : n / d ≤ n := Int.ediv_le_self d (by omega)
  omega

set_option maxHeartbeats 400000 in
theorem countS_any (l n : Int) (w : World) (h1 : 1 ≤ l) (h2 : l ≤ 4) (h3 : 1 ≤ n) (h4 : n ≤ 8) :
    Calls Try.prog 9 #[.int .i64 l, .int .i64 n] w fun e w' => e = .returned (.int .i64 ((cntS 9 l n 1 0).tdiv n)) ∧ w = w' := by
  obtain ⟨R, hR⟩ : ∃ R, R = cntS 9 l n 1 0 := ⟨_, rfl⟩
  rw [← hR]
  have HR := Lib.hid hR
  clear hR
  have g1 := inR_true h1 h2
  have g2 := inR_true h3 h4
  go_enter Try.func9, Try.ntmps9
  go_wp2_with (go_at_call 32; refine (l1In_any _ _ _ _).mono ?_; rintro e w' ⟨rfl, rfl⟩)
  go_loop [5, 6] (fun vs vd => ∃ (s d : Int) (f : Nat), vs = .int .i64 s ∧ vd = .int .i64 d ∧ Hid (R = cntS f l n d s) ∧ 1 ≤ d ∧ d ≤ n + 1 ∧ n < f + d ∧ -(65536 * (d - 1)) ≤ s ∧ s ≤ 65536 * (d - 1)) (fun _ vd => (9 - intOf vd).toNat)
  case atStart => exact ⟨0, 1, 9, rfl, rfl, HR, by omega, by omega, by omega, by omega, by omega⟩
  case round =>
    obtain ⟨s, d, f, rfl, rfl, HM, a1, a2, a3, a4, a5⟩ := hrel
    by_cases hd : d ≤ n
    · obtain ⟨f, rfl⟩ : ∃ k, f = k + 1 := ⟨f - 1, by omega⟩
      have ⟨b1, b2⟩ := divd_bd n d h3 h4 a1
      by_cases hm : n % d = 0
      · have hm1 : (n % d != 0) = false := by simp [hm]
        have Hm := Lib.hid hm
        clear hm
        go_wp2_with (go_at_call 33; refine (moebS_any _ _ (by omega) (by omega)).mono ?_; rintro e w' ⟨rfl, rfl⟩)
        have ⟨c1, c2⟩ := moebS_bd 101 d 2 1 (by omega) (by omega)
        obtain ⟨q, hq⟩ : ∃ q, q = moebS 101 d 2 1 := ⟨_, rfl⟩
        rw [← hq] at c1 c2 ⊢
        have Hq := Lib.hid hq
        clear hq
        obtain ⟨e, he⟩ := Int.eq_ofNat_of_zero_le b1
        rw [he] at b2
        have He := Lib.hid he
        clear he b1
        go_loop [7, 8] (fun vx vk => ∃ k : Nat, vk = .int .i64 k ∧ vx = .int .i64 (powS k q l) ∧ k ≤ e) (fun _ vk => e - (intOf vk).toNat)
        case atStart => exact ⟨0, rfl, rfl, by omega⟩
        case round =>
          obtain ⟨k, rfl, rfl, hk⟩ := hrel
          have p1 := pow_le k q l (by omega) c1 c2 h1 h2
          by_cases hlt : k < e
          · have p2 := pow_le (k + 1) q l (by omega) c1 c2 h1 h2
            have p3 : -65536 ≤ powS k q l * l ∧ powS k q l * l ≤ 65536 := p2
            have hte : (k : Int) < n / d := by rw [He.out]; omega
            clear p2
            go_wp2
            go_round
            case rel => exact ⟨k + 1, by go_num, rfl, by omega⟩
            case measure => simp [intOf]; omega
          · have hte : n / d ≤ (k : Int) := by rw [He.out]; omega
            obtain rfl : k = e := by omega
            go_wp2
            go_round
            case rel => exact ⟨s + powS k q l, d + 1, f, rfl, rfl, by
              have := HM.out; unfold cntS at this; rw [if_pos hd, if_pos Hm.out, He.out, ← Hq.out] at this; exact this, by omega, by omega, by omega, by omega, by omega⟩
            case measure => simp [intOf]; omega
      · have hm1 : (n % d != 0) = true := by simp [hm]
        have Hm := Lib.hid hm
        clear hm
        go_wp2
        go_round
        case rel => exact ⟨s, d + 1, f, rfl, rfl, by
            have := HM.out; unfold cntS at this; rw [if_pos hd, if_neg Hm.out] at this; exact this, by omega, by omega, by omega, by omega, by omega⟩
        case measure => simp [intOf]; omega
    · go_wp2
      go_ret
      exact ⟨ret_int (by rw [HM.out]; cases f with | zero => rfl | succ f => (unfold cntS; rw [if_neg (by omega)])), rfl⟩

set_option maxHeartbeats 400000 in
theorem countI_any (l n : Int) (w : World) (h1 : 1 ≤ l) (h2 : l ≤ 4) (h3 : 1 ≤ n) (h4 : n ≤ 8) :
    Calls Try.prog 10 #[.int .i64 l, .int .i64 n] w fun e w' => e = .returned (.int .i64 ((cntI 9 l n 1 0).tdiv n)) ∧ w = w' := by
  obtain ⟨R, hR⟩ : ∃ R, R = cntI 9 l n 1 0 := ⟨_, rfl⟩
  rw [← hR]
  have HR := Lib.hid hR
  clear hR
  have g1 := inR_true h1 h2
  have g2 := inR_true h3 h4
  go_enter Try.func10, Try.ntmps10
  go_wp2_with (go_at_call 34; refine (inside_any _ _ _ _).mono ?_; rintro e w' ⟨rfl, rfl⟩)
  go_loop [5, 6] (fun vs vd => ∃ (s d : Int) (f : Nat), vs = .int .i64 s ∧ vd = .int .i64 d ∧ Hid (R = cntI f l n d s) ∧ 1 ≤ d ∧ d ≤ n + 1 ∧ n < f + d ∧ -(65536 * (d - 1)) ≤ s ∧ s ≤ 65536 * (d - 1)) (fun _ vd => (9 - intOf vd).toNat)
  case atStart => exact ⟨0, 1, 9, rfl, rfl, HR, by omega, by omega, by omega, by omega, by omega⟩
  case round =>
    obtain ⟨s, d, f, rfl, rfl, HM, a1, a2, a3, a4, a5⟩ := hrel
    by_cases hd : d ≤ n
    · obtain ⟨f, rfl⟩ : ∃ k, f = k + 1 := ⟨f - 1, by omega⟩
      have ⟨b1, b2⟩ := divd_bd n d h3 h4 a1
      by_cases hm : n % d = 0
      · have hm1 : (n % d == 0) = true := by simp [hm]
        have Hm := Lib.hid hm
        clear hm
        go_wp2
        have ⟨c1, c2⟩ := moebI_bd 101 d 2 1 (by omega) (by omega)
        obtain ⟨q, hq⟩ : ∃ q, q = moebI 101 d 2 1 := ⟨_, rfl⟩
        rw [← hq] at c1 c2
        have Hq := Lib.hid hq
        clear hq
        obtain ⟨e, he⟩ := Int.eq_ofNat_of_zero_le b1
        rw [he] at b2
        have He := Lib.hid he
        clear he b1
        go_loop [7, 28] (fun vx vk => ∃ k : Nat, vk = .int .i64 k ∧ vx = .int .i64 (powS k 1 l) ∧ k ≤ e) (fun _ vk => e - (intOf vk).toNat)
        case atStart => exact ⟨0, rfl, rfl, by omega⟩
        case round =>
          obtain ⟨k, rfl, rfl, hk⟩ := hrel
          have p1 := pow_le k 1 l (by omega) (by omega) (by omega) h1 h2
          by_cases hlt : k < e
          · have p2 := pow_le (k + 1) 1 l (by omega) (by omega) (by omega) h1 h2
            have p3 : -65536 ≤ powS k 1 l * l ∧ powS k 1 l * l ≤ 65536 := p2
            have hte : (k : Int) < n / d := by rw [He.out]; omega
            clear p2
            go_wp2
            go_round
            case rel => exact ⟨k + 1, by go_num, rfl, by omega⟩
            case measure => simp [intOf]; omega
          · have hte : n / d ≤ (k : Int) := by rw [He.out]; omega
            obtain rfl : k = e := by omega
            have p4 : -65536 ≤ q * powS k 1 l ∧ q * powS k 1 l ≤ 65536 := by
              have : q = -1 ∨ q = 0 ∨ q = 1 := by omega
              rcases this with rfl | rfl | rfl <;> omega
            go_wp2_with (go_at_call 35; refine (moebI_any _ _ (by omega) (by omega)).mono ?_; rintro e w' ⟨rfl, rfl⟩; rw [← Hq.out])
            go_round
            case rel => exact ⟨s + q * powS k 1 l, d + 1, f, rfl, rfl, by
              have := HM.out; unfold cntI at this; rw [if_pos hd, if_pos Hm.out, He.out, ← Hq.out] at this; exact this, by omega, by omega, by omega, by omega, by omega⟩
            case measure => simp [intOf]; omega
      · have hm1 : (n % d == 0) = false := by simp [hm]
        have Hm := Lib.hid hm
        clear hm
        go_wp2
        go_round
        case rel => exact ⟨s, d + 1, f, rfl, rfl, by
            have := HM.out; unfold cntI at this; rw [if_pos hd, if_neg Hm.out] at this; exact this, by omega, by omega, by omega, by omega, by omega⟩
        case measure => simp [intOf]; omega
    · go_wp2
      go_ret
      exact ⟨ret_int (by rw [HM.out]; cases f with | zero => rfl | succ f => (unfold cntI; rw [if_neg (by omega)])), rfl⟩

theorem countS_out (l n : Int) (w : World) (h : ¬ (1 ≤ l ∧ l ≤ 4 ∧ 1 ≤ n ∧ n ≤ 8)) :
    Calls Try.prog 9 #[.int .i64 l, .int .i64 n] w fun e w' => e = .returned (.int .i64 0) ∧ w = w' := by
  by_cases h1 : 1 ≤ l ∧ l ≤ 4
  · have g1 := inR_true h1.1 h1.2
    have g2 : inR n 1 8 = false := inR_false (by omega)
    clear h h1
    go_enter Try.func9, Try.ntmps9
    go_wp2_with (go_at_call 32; refine (l1In_any _ _ _ _).mono ?_; rintro e w' ⟨rfl, rfl⟩)
    go_ret
    exact ⟨rfl, rfl⟩
  · have g1 := inR_false h1
    clear h h1
    go_enter Try.func9, Try.ntmps9
    go_wp2_with (go_at_call 32; refine (l1In_any _ _ _ _).mono ?_; rintro e w' ⟨rfl, rfl⟩)
    go_ret
    exact ⟨rfl, rfl⟩
theorem countI_out (l n : Int) (w : World) (h : ¬ (1 ≤ l ∧ l ≤ 4 ∧ 1 ≤ n ∧ n ≤ 8)) :
    Calls Try.prog 10 #[.int .i64 l, .int .i64 n] w fun e w' => e = .returned (.int .i64 0) ∧ w = w' := by
  by_cases h1 : 1 ≤ l ∧ l ≤ 4
  · have g1 := inR_true h1.1 h1.2
    have g2 : inR n 1 8 = false := inR_false (by omega)
    clear h h1
    go_enter Try.func10, Try.ntmps10
    go_wp2_with (go_at_call 34; refine (inside_any _ _ _ _).mono ?_; rintro e w' ⟨rfl, rfl⟩)
    go_ret
    exact ⟨rfl, rfl⟩
  · have g1 := inR_false h1
    clear h h1
    go_enter Try.func10, Try.ntmps10
    go_wp2_with (go_at_call 34; refine (inside_any _ _ _ _).mono ?_; rintro e w' ⟨rfl, rfl⟩)
    go_ret
    exact ⟨rfl, rfl⟩
/-- Both ways of counting give one number. -/
theorem same_count (l n : Int) (h : 1 ≤ l ∧ l ≤ 4 ∧ 1 ≤ n ∧ n ≤ 8) : cntI 9 l n 1 0 = cntS 9 l n 1 0 := by
  obtain ⟨h1, h2, h3, h4⟩ := h
  have a : l = 1 ∨ l = 2 ∨ l = 3 ∨ l = 4 := by omega
  have b : n = 1 ∨ n = 2 ∨ n = 3 ∨ n = 4 ∨ n = 5 ∨ n = 6 ∨ n = 7 ∨ n = 8 := by omega
  clear h1 h2 h3 h4
  rcases a with rfl | rfl | rfl | rfl <;> rcases b with rfl | rfl | rfl | rfl | rfl | rfl | rfl | rfl <;> decide +kernel

/-- What both functions return, whatever the arguments. -/
def count (l n : Int) : Int := if 1 ≤ l ∧ l ≤ 4 ∧ 1 ≤ n ∧ n ≤ 8 then (cntS 9 l n 1 0).tdiv n else 0
theorem countS_calls (l n : Int) (w : World) : Calls Try.prog 9 #[.int .i64 l, .int .i64 n] w fun e w' => e = .returned (.int .i64 (count l n)) ∧ w = w' := by
  unfold count
  by_cases h : 1 ≤ l ∧ l ≤ 4 ∧ 1 ≤ n ∧ n ≤ 8
  · rw [if_pos h]; exact countS_any l n w h.1 h.2.1 h.2.2.1 h.2.2.2
  · rw [if_neg h]; exact countS_out l n w h
theorem countI_calls (l n : Int) (w : World) : Calls Try.prog 10 #[.int .i64 l, .int .i64 n] w fun e w' => e = .returned (.int .i64 (count l n)) ∧ w = w' := by
  unfold count
  by_cases h : 1 ≤ l ∧ l ≤ 4 ∧ 1 ≤ n ∧ n ≤ 8
  · rw [if_pos h, ← same_count l n h]; exact countI_any l n w h.1 h.2.1 h.2.2.1 h.2.2.2
  · rw [if_neg h]; exact countI_out l n w h
end LyndonCount
end Go.Proofs.Ytjkidofadpbmkaa
