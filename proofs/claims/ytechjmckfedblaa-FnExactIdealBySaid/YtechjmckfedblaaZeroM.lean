/- Matrices of zeros: ZeroMatrix of the program, l1Zero of the reference. -/
import Derived.Test.YtechjmckfedblaaStB
import Derived.Test.YtechjmckfedblaaLawB
import Derived.Test.YtechjmckfedblaaNum
namespace Go.Proofs.Ytechjmckfedblaa
set_option maxRecDepth 100000
open Go.RowKit

theorem mul_le {a b m n : Nat} (h1 : a ≤ m) (h2 : b ≤ n) : a * b ≤ m * n := Nat.mul_le_mul h1 h2
theorem makeI2 (a b : Nat) (h : a * b ≤ 35184372088832) (W : World) :
    (Instr.makeSlice 22 (.int .i64 ((a : Int) * (b : Int))) (.int .i64 ((a : Int) * (b : Int)))).run Try.prog W = .ok (.slice (some ⟨W.heap.size, 0, none⟩) (a * b) (a * b)) (W.alloc (.cells (zeros (a * b)) 3)) := by
  have := makeI (a * b) h W
  rw [Int.natCast_mul] at this
  exact this

set_option maxHeartbeats 400000 in
theorem ZeroMatrixI_any (p : Int) (r c : Nat) (w : World) (hp : isPrime p = true) (hr : r ≤ 40) (hc : c ≤ 40) :
    Calls Try.prog 65 #[.int .i64 p, .int .i64 r, .int .i64 c] w (RetMat w p r c (List.replicate (r * c) 0)) := by
  have hb := isPrime_bd hp
  have h := mul_le hr hc
  have hmk := makeI2 r c (by omega)
  have i1 : inR r 0 40 = true := inR_true (by omega) (by omega)
  have i2 : inR c 0 40 = true := inR_true (by omega) (by omega)
  have n1 : 0 ≤ (r : Int) * c ∧ (r : Int) * c ≤ 1600 := by
    have : ((r * c : Nat) : Int) = (r : Int) * c := Int.natCast_mul _ _
    omega
  go_enter Try.func65, Try.ntmps65
  go_wp2_with (first
    | (go_at_call 120; refine (IsPrimeI_any _ _).mono ?_; rintro e w' ⟨rfl, rfl⟩)
    | (go_at_call 121; refine (inside_any _ _ _ _).mono ?_; rintro e w' ⟨rfl, rfl⟩))
  have h1 := ((St.start w).box [.int .i64 p, .int .i64 r, .int .i64 c, .slice (some ⟨w.heap.size + 1, 0, none⟩) (r * c) (r * c)] 32).zeros (r * c) (by omega)
  simp only [World.size_alloc] at h1
  refine bodyPost_ret (v := .agg #[.int .i64 p, .int .i64 r, .int .i64 c, .slice (some ⟨w.heap.size + 1, 0, none⟩) (r * c) (r * c)]) (by simp [results, Try.results65, go_sem]) rfl ⟨_, rfl, h1.own 0 rfl, h1.below⟩
set_option maxHeartbeats 400000 in
theorem l1Zero_any (p : Int) (r c : Nat) (w : World) (h : r * c ≤ 4194304) :
    Calls Try.prog 116 #[.int .i64 p, .int .i64 r, .int .i64 c] w (RetMat w p r c (List.replicate (r * c) 0)) := by
  have hmk := makeI2 r c (by omega)
  have n1 : 0 ≤ (r : Int) * c ∧ (r : Int) * c ≤ 4194304 := by
    have : ((r * c : Nat) : Int) = (r : Int) * c := Int.natCast_mul _ _
    omega
  go_enter Try.func116, Try.ntmps116
  go_wp2
  have h1 := ((St.start w).box [.int .i64 p, .int .i64 r, .int .i64 c, .slice (some ⟨w.heap.size + 1, 0, none⟩) (r * c) (r * c)] 32).zeros (r * c) (by omega)
  simp only [World.size_alloc] at h1
  refine bodyPost_ret (v := .agg #[.int .i64 p, .int .i64 r, .int .i64 c, .slice (some ⟨w.heap.size + 1, 0, none⟩) (r * c) (r * c)]) (by simp [results, Try.results116, go_sem]) rfl ⟨_, rfl, h1.own 0 rfl, h1.below⟩
end Go.Proofs.Ytechjmckfedblaa
