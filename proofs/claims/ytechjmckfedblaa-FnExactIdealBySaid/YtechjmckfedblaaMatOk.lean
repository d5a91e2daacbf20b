/- MatrixOk of the program and of the reference. -/
import Derived.Test.YtechjmckfedblaaZeroM
import Derived.Test.YtechjmckfedblaaAlgP
namespace Go.Proofs.Ytechjmckfedblaa
set_option maxRecDepth 100000
open Go.RowKit

def matOk (p r c : Int) (D : List Int) : Bool := isPrime p && (inR r 0 40 && (inR c 0 40 && (decide ((D.length : Int) = r * c) && resid p D)))
theorem matOk_spec {p r c : Int} {D : List Int} (h : matOk p r c D = true) : ∃ a b : Nat, r = a ∧ c = b ∧ a ≤ 40 ∧ b ≤ 40 ∧ D.length = a * b ∧ resid p D = true ∧ 2 ≤ p ∧ p ≤ 10007 ∧ isPrime p = true := by
  simp only [matOk, Bool.and_eq_true, decide_eq_true_eq] at h
  obtain ⟨h1, h2, h3, h4, h5⟩ := h
  obtain ⟨a, rfl⟩ : ∃ a : Nat, r = a := ⟨r.toNat, by simp [inR] at h2; omega⟩
  obtain ⟨b, rfl⟩ : ∃ b : Nat, c = b := ⟨c.toNat, by simp [inR] at h3; omega⟩
  exact ⟨a, b, rfl, rfl, by simp [inR] at h2; omega, by simp [inR] at h3; omega, by exact_mod_cast h4, h5, (isPrime_bd h1).1, (isPrime_bd h1).2, h1⟩

set_option maxHeartbeats 1000000 in
theorem MatrixOkI_any (p r c : Int) (t : Value) (D : List Int) (w : World) (ht : Ints w t D) (hp : p ≤ 9223372036854775807) :
    Calls Try.prog 72 #[.agg #[.int .i64 p, .int .i64 r, .int .i64 c, t]] w (RetBool w (matOk p r c D)) := by
  have h1 := (St.start1 ht).box [.int .i64 p, .int .i64 r, .int .i64 c, t] 32
  obtain ⟨A, k, rfl, hk1, hk2, _⟩ := id ht
  clear ht
  have hi := h1.roInts 1 rfl
  obtain ⟨z0, z1, z2, z3⟩ := h1.box4 0 rfl
  by_cases b1 : isPrime p = true
  · have hb := isPrime_bd b1
    have hp0 : 0 ≤ p := by omega
    by_cases b2 : inR r 0 40 = true
    · by_cases b3 : inR c 0 40 = true
      · obtain ⟨x, rfl⟩ : ∃ x : Nat, r = x := ⟨r.toNat, by simp [inR] at b2; omega⟩
        obtain ⟨y, rfl⟩ : ∃ y : Nat, c = y := ⟨c.toNat, by simp [inR] at b3; omega⟩
        have hx : x ≤ 40 := by simp [inR] at b2; omega
        have hy : y ≤ 40 := by simp [inR] at b3; omega
        have hxy := mul_le hx hy
        have r1 : 0 ≤ (x : Int) * y ∧ (x : Int) * y ≤ 1600 := by
          have : ((x * y : Nat) : Int) = (x : Int) * y := Int.natCast_mul _ _
          omega
        by_cases b4 : (D.length : Int) = (x : Int) * y
        · have t4 : ((D.length : Int) != (x : Int) * y) = false := by simp [b4]
          have t5 : ((D.length : Int) == (x : Int) * y) = true := by simp [b4]
          rw [show matOk p x y D = resid p D by simp only [matOk, b1, b2, b3, decide_eq_true b4, Bool.true_and]]
          have B4 := Lib.hid b4
          clear b4
          go_enter Try.func72, Try.ntmps72
          go_wp2_with (first | (go_at_call 120; refine (IsPrimeI_any _ _).mono ?_; rintro (e : Ending) w' ⟨rfl, rfl⟩) | (go_at_call 121; refine (inside_any _ _ _ _).mono ?_; rintro (e : Ending) w' ⟨rfl, rfl⟩) | (go_at_call 129; refine (residues_any _ D p _ hp0 hp hi).mono ?_; rintro (e : Ending) w2 ⟨rfl, hb2⟩))
          go_ret
          exact ⟨rfl, (h1.on hb2).below⟩
        · have t4 : ((D.length : Int) != (x : Int) * y) = true := by simp [b4]
          have t5 : ((D.length : Int) == (x : Int) * y) = false := by simp [b4]
          rw [show matOk p x y D = false by simp only [matOk, b1, b2, b3, decide_eq_false b4, Bool.true_and, Bool.false_and]]
          have B4 := Lib.hid b4
          clear b4
          go_enter Try.func72, Try.ntmps72
          go_wp2_with (first | (go_at_call 120; refine (IsPrimeI_any _ _).mono ?_; rintro (e : Ending) w' ⟨rfl, rfl⟩) | (go_at_call 121; refine (inside_any _ _ _ _).mono ?_; rintro (e : Ending) w' ⟨rfl, rfl⟩))
          go_ret
          exact ⟨rfl, h1.below⟩
      · have b3 : inR c 0 40 = false := by simpa using b3
        rw [show matOk p r c D = false by simp only [matOk, b1, b2, b3, Bool.true_and, Bool.false_and]]
        go_enter Try.func72, Try.ntmps72
        go_wp2_with (first | (go_at_call 120; refine (IsPrimeI_any _ _).mono ?_; rintro (e : Ending) w' ⟨rfl, rfl⟩) | (go_at_call 121; refine (inside_any _ _ _ _).mono ?_; rintro (e : Ending) w' ⟨rfl, rfl⟩))
        go_ret
        exact ⟨rfl, h1.below⟩
    · have b2 : inR r 0 40 = false := by simpa using b2
      rw [show matOk p r c D = false by simp only [matOk, b1, b2, Bool.true_and, Bool.false_and]]
      go_enter Try.func72, Try.ntmps72
      go_wp2_with (first | (go_at_call 120; refine (IsPrimeI_any _ _).mono ?_; rintro (e : Ending) w' ⟨rfl, rfl⟩) | (go_at_call 121; refine (inside_any _ _ _ _).mono ?_; rintro (e : Ending) w' ⟨rfl, rfl⟩))
      go_ret
      exact ⟨rfl, h1.below⟩
  · have b1 : isPrime p = false := by simpa using b1
    rw [show matOk p r c D = false by simp only [matOk, b1, Bool.false_and]]
    go_enter Try.func72, Try.ntmps72
    go_wp2_with (go_at_call 120; refine (IsPrimeI_any _ _).mono ?_; rintro (e : Ending) w' ⟨rfl, rfl⟩)
    go_ret
    exact ⟨rfl, h1.below⟩
theorem l1Residues_below (v : Value) (l : List Int) (p : Int) (w : World) (hv : Ints w v l) : Calls Try.prog 124 #[v, .int .i64 p] w fun e w' => e = .returned (.bool (resid p l)) ∧ Below w.heap.size w w' :=
  (l1Residues_any v l p w hv).mono fun _ _ ⟨he, hw⟩ => ⟨he, below_of_eq hw⟩
set_option maxHeartbeats 1000000 in
theorem MatrixOkS_any (p r c : Int) (t : Value) (D : List Int) (w : World) (ht : Ints w t D) (hp : p ≤ 9223372036854775807) :
    Calls Try.prog 69 #[.agg #[.int .i64 p, .int .i64 r, .int .i64 c, t]] w (RetBool w (matOk p r c D)) := by
  have h1 := (St.start1 ht).box [.int .i64 p, .int .i64 r, .int .i64 c, t] 32
  obtain ⟨A, k, rfl, hk1, hk2, _⟩ := id ht
  clear ht
  have hi := h1.roInts 1 rfl
  obtain ⟨z0, z1, z2, z3⟩ := h1.box4 0 rfl
  by_cases b1 : isPrime p = true
  · have hb := isPrime_bd b1
    have hp0 : 0 ≤ p := by omega
    by_cases b2 : inR r 0 40 = true
    · by_cases b3 : inR c 0 40 = true
      · obtain ⟨x, rfl⟩ : ∃ x : Nat, r = x := ⟨r.toNat, by simp [inR] at b2; omega⟩
        obtain ⟨y, rfl⟩ : ∃ y : Nat, c = y := ⟨c.toNat, by simp [inR] at b3; omega⟩
        have hx : x ≤ 40 := by simp [inR] at b2; omega
        have hy : y ≤ 40 := by simp [inR] at b3; omega
        have hxy := mul_le hx hy
        have r1 : 0 ≤ (x : Int) * y ∧ (x : Int) * y ≤ 1600 := by
          have : ((x * y : Nat) : Int) = (x : Int) * y := Int.natCast_mul _ _
          omega
        by_cases b4 : (D.length : Int) = (x : Int) * y
        · have t4 : ((D.length : Int) != (x : Int) * y) = false := by simp [b4]
          have t5 : ((D.length : Int) == (x : Int) * y) = true := by simp [b4]
          rw [show matOk p x y D = resid p D by simp only [matOk, b1, b2, b3, decide_eq_true b4, Bool.true_and]]
          have B4 := Lib.hid b4
          clear b4
          go_enter Try.func69, Try.ntmps69
          go_wp2_with (first | (go_at_call 122; refine (IsPrimeS_any _ _).mono ?_; rintro (e : Ending) w' ⟨rfl, rfl⟩) | (go_at_call 123; refine (l1In_any _ _ _ _).mono ?_; rintro (e : Ending) w' ⟨rfl, rfl⟩) | (go_at_call 124; refine (l1Residues_below _ D p _ hi).mono ?_; rintro (e : Ending) w2 ⟨rfl, hb2⟩))
          go_ret
          exact ⟨rfl, (h1.on hb2).below⟩
        · have t4 : ((D.length : Int) != (x : Int) * y) = true := by simp [b4]
          have t5 : ((D.length : Int) == (x : Int) * y) = false := by simp [b4]
          rw [show matOk p x y D = false by simp only [matOk, b1, b2, b3, decide_eq_false b4, Bool.true_and, Bool.false_and]]
          have B4 := Lib.hid b4
          clear b4
          go_enter Try.func69, Try.ntmps69
          go_wp2_with (first | (go_at_call 122; refine (IsPrimeS_any _ _).mono ?_; rintro (e : Ending) w' ⟨rfl, rfl⟩) | (go_at_call 123; refine (l1In_any _ _ _ _).mono ?_; rintro (e : Ending) w' ⟨rfl, rfl⟩))
          go_ret
          exact ⟨rfl, h1.below⟩
      · have b3 : inR c 0 40 = false := by simpa using b3
        rw [show matOk p r c D = false by simp only [matOk, b1, b2, b3, Bool.true_and, Bool.false_and]]
        go_enter Try.func69, Try.ntmps69
        go_wp2_with (first | (go_at_call 122; refine (IsPrimeS_any _ _).mono ?_; rintro (e : Ending) w' ⟨rfl, rfl⟩) | (go_at_call 123; refine (l1In_any _ _ _ _).mono ?_; rintro (e : Ending) w' ⟨rfl, rfl⟩))
        go_ret
        exact ⟨rfl, h1.below⟩
    · have b2 : inR r 0 40 = false := by simpa using b2
      rw [show matOk p r c D = false by simp only [matOk, b1, b2, Bool.true_and, Bool.false_and]]
      go_enter Try.func69, Try.ntmps69
      go_wp2_with (first | (go_at_call 122; refine (IsPrimeS_any _ _).mono ?_; rintro (e : Ending) w' ⟨rfl, rfl⟩) | (go_at_call 123; refine (l1In_any _ _ _ _).mono ?_; rintro (e : Ending) w' ⟨rfl, rfl⟩))
      go_ret
      exact ⟨rfl, h1.below⟩
  · have b1 : isPrime p = false := by simpa using b1
    rw [show matOk p r c D = false by simp only [matOk, b1, Bool.false_and]]
    go_enter Try.func69, Try.ntmps69
    go_wp2_with (go_at_call 122; refine (IsPrimeS_any _ _).mono ?_; rintro (e : Ending) w' ⟨rfl, rfl⟩)
    go_ret
    exact ⟨rfl, h1.below⟩

/-- A form of an algebra: a square matrix of its size, of its prime. -/
def formOk (p n q r c : Int) (D : List Int) : Bool := matOk q r c D && (decide (q = p) && (decide (r = n) && decide (c = n)))
end Go.Proofs.Ytechjmckfedblaa
