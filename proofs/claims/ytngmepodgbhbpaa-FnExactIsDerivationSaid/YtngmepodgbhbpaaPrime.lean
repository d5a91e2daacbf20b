/- IsPrime of the reference and of the program: one test. -/
import Derived.Test.YtngmepodgbhbpaaSmall
import Derived.Deep.LoopGhost
namespace Go.Proofs.Ytngmepodgbhbpaa
set_option maxRecDepth 100000
open Go.RowKit

/-- Has n no divisor from d on whose square is at most n? -/
def primeFrom : Nat → Int → Int → Bool
  | 0, _, _ => true
  | f + 1, n, d => if d * d ≤ n then (if n % d = 0 then false else primeFrom f n (d + 1)) else true
def isPrime (n : Int) : Bool := inR n 2 10007 && primeFrom 101 n 2
theorem isPrime_bd {n : Int} (h : isPrime n = true) : 2 ≤ n ∧ n ≤ 10007 := by
  simp [isPrime, inR] at h; omega
theorem sq_bd {d n : Int} (_h1 : 2 ≤ d) (h2 : d * d ≤ n) (h3 : n ≤ 10007) : d ≤ 100 := by
  rcases Int.lt_or_le 100 d with h | h
  · have : 101 * 101 ≤ d * d := Int.mul_le_mul (by omega) (by omega) (by omega) (by omega)
    omega
  · exact h
theorem sq_le {d : Int} (h1 : 2 ≤ d) (h2 : d ≤ 101) : 0 ≤ d * d ∧ d * d ≤ 10201 := by
  have a : d * d ≤ 101 * 101 := Int.mul_le_mul h2 h2 (by omega) (by omega)
  have b : 0 ≤ d * d := Int.mul_nonneg (by omega) (by omega)
  omega

set_option maxHeartbeats 400000 in
theorem IsPrimeS_any (n : Int) (w : World) : Calls Try.prog 112 #[.int .i64 n] w fun e w' => e = .returned (.bool (isPrime n)) ∧ w = w' := by
  by_cases hn : 2 ≤ n ∧ n ≤ 10007
  · obtain ⟨R, hR⟩ : ∃ R, R = primeFrom 101 n 2 := ⟨_, rfl⟩
    have hp : isPrime n = R := by rw [hR]; simp [isPrime, inR_true hn.1 hn.2]
    rw [hp]
    have HR := Lib.hid hR
    have g1 := inR_true hn.1 hn.2
    obtain ⟨n1, n2⟩ := hn
    clear hR hp
    go_enter Try.func112, Try.ntmps112
    go_wp2
    go_loopg [3] 101 (fun gk vd wr => ∃ (d : Int), vd = .int .i64 d ∧ 2 ≤ d ∧ d + gk = 103 ∧ wr = w ∧ Hid (R = primeFrom gk n d))
    case atStart => exact ⟨2, rfl, by omega, by omega, rfl, HR⟩
    case round =>
      obtain ⟨d, rfl, a1, a2, rfl, HM⟩ := hrel
      have hb : d ≤ 103 := by omega
      have hsq : 0 ≤ d * d ∧ d * d ≤ 10609 := by
        have a : d * d ≤ 103 * 103 := Int.mul_le_mul hb hb (by omega) (by omega)
        have b : 0 ≤ d * d := Int.mul_nonneg (by omega) (by omega)
        omega
      by_cases hd : d * d ≤ n
      · have hd1 := sq_bd a1 hd n2
        obtain ⟨f, rfl⟩ : ∃ k, gk = k + 1 := ⟨gk - 1, by omega⟩
        by_cases hm : n % d = 0
        · have hm1 : (n % d == 0) = true := by simp [hm]
          have Hm := Lib.hid hm
          clear hm
          go_wp2
          go_ret
          exact ⟨ret_bool (by rw [HM.out]; unfold primeFrom; rw [if_pos hd, if_pos Hm.out]), rfl⟩
        · have hm1 : (n % d == 0) = false := by simp [hm]
          have Hm := Lib.hid hm
          clear hm
          go_wp2
          go_roundg f
          case measure => omega
          case rel => exact ⟨d + 1, rfl, by omega, by omega, rfl, by have := HM.out; unfold primeFrom at this; rw [if_pos hd, if_neg Hm.out] at this; exact this⟩
      · go_wp2
        go_ret
        exact ⟨ret_bool (by rw [HM.out]; cases gk with | zero => rfl | succ f => (unfold primeFrom; rw [if_neg (by omega)])), rfl⟩
  · have hp : isPrime n = false := by simp [isPrime, inR_false hn]
    rw [hp]
    have g1 := inR_false hn
    by_cases h1 : n < 2
    · clear hn
      go_enter Try.func112, Try.ntmps112
      go_wp2
      go_ret
      exact ⟨rfl, rfl⟩
    · have h2 : 10007 < n := by omega
      clear hn
      go_enter Try.func112, Try.ntmps112
      go_wp2
      go_ret
      exact ⟨rfl, rfl⟩

set_option maxHeartbeats 400000 in
theorem IsPrimeI_any (n : Int) (w : World) : Calls Try.prog 116 #[.int .i64 n] w fun e w' => e = .returned (.bool (isPrime n)) ∧ w = w' := by
  by_cases hn : 2 ≤ n ∧ n ≤ 10007
  · obtain ⟨R, hR⟩ : ∃ R, R = primeFrom 101 n 2 := ⟨_, rfl⟩
    have hp : isPrime n = R := by rw [hR]; simp [isPrime, inR_true hn.1 hn.2]
    rw [hp]
    have HR := Lib.hid hR
    have g1 := inR_true hn.1 hn.2
    obtain ⟨n1, n2⟩ := hn
    clear hR hp
    go_enter Try.func116, Try.ntmps116
    go_wp2_with (go_at_call 68; refine (inside_any _ _ _ _).mono ?_; rintro e w' ⟨rfl, rfl⟩)
    go_loopg [3] 101 (fun gk vd wr => ∃ (d : Int), vd = .int .i64 d ∧ 2 ≤ d ∧ d + gk = 103 ∧ wr = w ∧ Hid (R = primeFrom gk n d))
    case atStart => exact ⟨2, rfl, by omega, by omega, rfl, HR⟩
    case round =>
      obtain ⟨d, rfl, a1, a2, rfl, HM⟩ := hrel
      have hb : d ≤ 103 := by omega
      have hsq : 0 ≤ d * d ∧ d * d ≤ 10609 := by
        have a : d * d ≤ 103 * 103 := Int.mul_le_mul hb hb (by omega) (by omega)
        have b : 0 ≤ d * d := Int.mul_nonneg (by omega) (by omega)
        omega
      by_cases hd : d * d ≤ n
      · have hd1 := sq_bd a1 hd n2
        obtain ⟨f, rfl⟩ : ∃ k, gk = k + 1 := ⟨gk - 1, by omega⟩
        by_cases hm : n % d = 0
        · have hm1 : (n % d == 0) = true := by simp [hm]
          have Hm := Lib.hid hm
          clear hm
          go_wp2
          go_ret
          exact ⟨ret_bool (by rw [HM.out]; unfold primeFrom; rw [if_pos hd, if_pos Hm.out]), rfl⟩
        · have hm1 : (n % d == 0) = false := by simp [hm]
          have Hm := Lib.hid hm
          clear hm
          go_wp2
          go_roundg f
          case measure => omega
          case rel => exact ⟨d + 1, rfl, by omega, by omega, rfl, by have := HM.out; unfold primeFrom at this; rw [if_pos hd, if_neg Hm.out] at this; exact this⟩
      · go_wp2
        go_ret
        exact ⟨ret_bool (by rw [HM.out]; cases gk with | zero => rfl | succ f => (unfold primeFrom; rw [if_neg (by omega)])), rfl⟩
  · have hp : isPrime n = false := by simp [isPrime, inR_false hn]
    rw [hp]
    have g1 := inR_false hn
    clear hn
    go_enter Try.func116, Try.ntmps116
    go_wp2_with (go_at_call 68; refine (inside_any _ _ _ _).mono ?_; rintro e w' ⟨rfl, rfl⟩)
    go_ret
    exact ⟨rfl, rfl⟩
end Go.Proofs.Ytngmepodgbhbpaa
