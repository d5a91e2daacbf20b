/- Unit matrices of both programs. -/
import Derived.Test.YtechjmckfedblaaZeroM
import Derived.Test.YtechjmckfedblaaReduce
import Derived.Test.YtechjmckfedblaaRowsW2
namespace Go.Proofs.Ytechjmckfedblaa
set_option maxRecDepth 100000
open Go.RowKit

/-- Zeros, with ones at the first i places of the diagonal. -/
def unitTo (n : Nat) : Nat → List Int
  | 0 => List.replicate (n * n) 0
  | i + 1 => (unitTo n i).set (i * n + i) 1
theorem length_unitTo (n : Nat) : ∀ i, (unitTo n i).length = n * n
  | 0 => by simp [unitTo]
  | i + 1 => by rw [unitTo, List.length_set, length_unitTo n i]
def unitD (n : Nat) : List Int := unitTo n n
theorem length_unitD (n : Nat) : (unitD n).length = n * n := length_unitTo n n
theorem resid_set {p x : Int} {l : List Int} {k : Nat} (h : resid p l = true) (h0 : 0 ≤ x) (h1 : x < p) : resid p (l.set k x) = true :=
  resid_iff.2 fun i hi => by
    rw [List.length_set] at hi
    by_cases hk : k < l.length
    · rw [vec_set hk]
      split
      · exact ⟨h0, h1⟩
      · exact resid_vec h hi
    · rw [List.set_eq_of_length_le (by omega)]
      exact resid_vec h hi
theorem resid_unitTo {p : Int} (hp : 2 ≤ p) (n : Nat) : ∀ i, resid p (unitTo n i) = true
  | 0 => resid_iff.2 fun i hi => by
    rw [unitTo] at *
    have : vec (List.replicate (n * n) 0) i = 0 := by simp [vec, List.getD_eq_getElem?_getD, List.getElem?_replicate]; split <;> rfl
    rw [this]; omega
  | i + 1 => resid_set (resid_unitTo hp n i) (by omega) (by omega)
theorem resid_unitD {p : Int} (hp : 2 ≤ p) (n : Nat) : resid p (unitD n) = true := resid_unitTo hp n n

set_option maxHeartbeats 2000000 in
theorem l1Unit_any (p : Int) (n : Nat) (w : World) (_hP : isPrime p = true) (hn : n ≤ 40) : Calls Try.prog 143 #[.int .i64 p, .int .i64 n] w (RetMat w p n n (unitD n)) := by
  have hnn := mul_le hn hn
  have h1 := (St.start w).box [.int .i64 0, .int .i64 0, .int .i64 0, .slice none 0 0] 32
  have HZ := Lib.hid (fun W => l1Zero_any p n n W (by omega))
  go_enter Try.func143, Try.ntmps143
  go_wp2_with fail
  refine (HZ.out _).mono ?_
  rintro (e : Ending) w1 ⟨u, rfl, ho, hb1⟩
  obtain ⟨A5, c5, rfl, _, _, _⟩ := id ho.ints
  have hle : (List.replicate (n * n) (0 : Int)).length = (unitD n).length := by rw [length_unitD]; simp
  replace h1 := (h1.pushOwn hb1 ho).box [.int .i64 p, .int .i64 n, .int .i64 n, .slice A5 (List.replicate (n * n) (0 : Int)).length c5] 32
  rw [hle] at h1 ⊢
  clear ho hb1 hle
  obtain ⟨z0, z1, z2, z3⟩ := h1.box4 0 rfl
  go_wp2
  clear z0 z1 z2 z3
  generalize w1.heap.size = B5 at h1 ⊢
  go_loopw [6] (fun v6 wr => ∃ i : Nat, v6 = .int .i64 i ∧ i ≤ n ∧ St w wr [.box B5 [.int .i64 p, .int .i64 n, .int .i64 n, .slice A5 (unitD n).length c5], .own (.slice A5 (unitD n).length c5) (unitTo n i), .box w.heap.size [.int .i64 0, .int .i64 0, .int .i64 0, .slice none 0 0]]) (fun v6 _ => n - (intOf v6).toNat)
  case atStart => exact ⟨0, rfl, by omega, h1⟩
  case round =>
    clear h1
    obtain ⟨i, rfl, a1, h1⟩ := hrel
    obtain ⟨z0, z1, z2, z3⟩ := h1.box4 0 rfl
    by_cases hi : i < n
    · have HL := Lib.hid (length_unitTo n i)
      have HD := Lib.hid (length_unitD n)
      obtain ⟨e1, e2, e3, e4⟩ := spotI hi hi hnn
      obtain ⟨g, rfl, hn9⟩ := h1.ownSomeA 1 rfl (by rw [HL.out]; exact Nat.mul_pos (by omega) (by omega))
      clear hn9
      have HST := Lib.hid (show (unitTo n i).set (i * n + i) 1 = unitTo n (i + 1) from rfl)
      obtain ⟨q, hq⟩ : ∃ q, q = i * n + i := ⟨_, rfl⟩
      rw [← hq] at e1 e4 HST
      have i1 : q < (unitD n).length := by rw [HD.out]; exact e4
      have i2 : (unitD n).length ≤ 1600 := by rw [HD.out]; exact hnn
      obtain ⟨y0, f0⟩ := h1.ownCell2 1 rfl (q := q) (by rw [HL.out]; exact e4)
      have h2 := h1.set 1 rfl q 1
      clear hq e4 h1
      go_wp2
      go_roundw
      case rel => exact ⟨i + 1, by go_num, by omega, by rw [← HST.out]; exact h2⟩
      case measure => simp [intOf]; omega
    · obtain rfl : i = n := by omega
      have f0 := h1.free 2 rfl 0
      have f1 := h1.free 2 rfl 1
      have f2 := h1.free 2 rfl 2
      have f3 := h1.free 2 rfl 3
      obtain ⟨x0, x1, x2, x3⟩ := h1.box4 2 rfl
      have h2 := (((h1.setBox 2 rfl 0 (.int .i64 p)).setBox 2 rfl 1 (.int .i64 i)).setBox 2 rfl 2 (.int .i64 i)).setBox 2 rfl 3 (.slice A5 (unitD i).length c5)
      obtain ⟨r0, r1, r2, r3⟩ := h2.box4 2 rfl
      go_wp2
      refine bodyPost_ret (v := .agg #[.int .i64 p, .int .i64 i, .int .i64 i, .slice A5 (unitD i).length c5]) (by simp [results, Try.results143, go_sem, r0, r1, r2, r3]) rfl ⟨_, rfl, h2.own 1 rfl, h2.below⟩
set_option maxHeartbeats 2000000 in
theorem UnitMatrixI_any (p : Int) (n : Nat) (w : World) (hP : isPrime p = true) (hn : n ≤ 40) : Calls Try.prog 92 #[.int .i64 p, .int .i64 n] w (RetMat w p n n (unitD n)) := by
  have hnn := mul_le hn hn
  have h1 := (St.start w).box [.int .i64 0, .int .i64 0, .int .i64 0, .slice none 0 0] 32
  have HZ := Lib.hid (fun W => ZeroMatrixI_any p n n W hP hn hn)
  go_enter Try.func92, Try.ntmps92
  go_wp2_with fail
  refine (HZ.out _).mono ?_
  rintro (e : Ending) w1 ⟨u, rfl, ho, hb1⟩
  obtain ⟨A5, c5, rfl, _, _, _⟩ := id ho.ints
  have hle : (List.replicate (n * n) (0 : Int)).length = (unitD n).length := by rw [length_unitD]; simp
  replace h1 := (h1.pushOwn hb1 ho).box [.int .i64 p, .int .i64 n, .int .i64 n, .slice A5 (List.replicate (n * n) (0 : Int)).length c5] 32
  rw [hle] at h1 ⊢
  clear ho hb1 hle
  obtain ⟨z0, z1, z2, z3⟩ := h1.box4 0 rfl
  go_wp2
  clear z0 z1 z2 z3
  generalize w1.heap.size = B5 at h1 ⊢
  go_loopw [6, 13] (fun v6 v13 wr => ∃ i : Nat, v13 = .int .i64 i ∧ i ≤ n ∧ St w wr [.box B5 [.int .i64 p, .int .i64 n, .int .i64 n, .slice A5 (unitD n).length c5], .own (.slice A5 (unitD n).length c5) (unitTo n i), .box w.heap.size [.int .i64 0, .int .i64 0, .int .i64 0, .slice none 0 0]]) (fun _ v13 _ => n - (intOf v13).toNat)
  case atStart => exact ⟨0, rfl, by omega, h1⟩
  case round =>
    clear h1
    obtain ⟨i, rfl, a1, h1⟩ := hrel
    obtain ⟨z0, z1, z2, z3⟩ := h1.box4 0 rfl
    by_cases hi : i < n
    · have HL := Lib.hid (length_unitTo n i)
      have HD := Lib.hid (length_unitD n)
      obtain ⟨e1, e2, e3, e4⟩ := spotI hi hi hnn
      obtain ⟨g, rfl, hn9⟩ := h1.ownSomeA 1 rfl (by rw [HL.out]; exact Nat.mul_pos (by omega) (by omega))
      clear hn9
      have HST := Lib.hid (show (unitTo n i).set (i * n + i) 1 = unitTo n (i + 1) from rfl)
      obtain ⟨q, hq⟩ : ∃ q, q = i * n + i := ⟨_, rfl⟩
      rw [← hq] at e1 e4 HST
      have i1 : q < (unitD n).length := by rw [HD.out]; exact e4
      have i2 : (unitD n).length ≤ 1600 := by rw [HD.out]; exact hnn
      obtain ⟨y0, f0⟩ := h1.ownCell2 1 rfl (q := q) (by rw [HL.out]; exact e4)
      have h2 := h1.set 1 rfl q 1
      clear hq e4 h1
      go_wp2
      go_roundw
      case rel => exact ⟨i + 1, by go_num, by omega, by rw [← HST.out]; exact h2⟩
      case measure => simp [intOf]; omega
    · obtain rfl : i = n := by omega
      have f0 := h1.free 2 rfl 0
      have f1 := h1.free 2 rfl 1
      have f2 := h1.free 2 rfl 2
      have f3 := h1.free 2 rfl 3
      obtain ⟨x0, x1, x2, x3⟩ := h1.box4 2 rfl
      have h2 := (((h1.setBox 2 rfl 0 (.int .i64 p)).setBox 2 rfl 1 (.int .i64 i)).setBox 2 rfl 2 (.int .i64 i)).setBox 2 rfl 3 (.slice A5 (unitD i).length c5)
      obtain ⟨r0, r1, r2, r3⟩ := h2.box4 2 rfl
      go_wp2
      refine bodyPost_ret (v := .agg #[.int .i64 p, .int .i64 i, .int .i64 i, .slice A5 (unitD i).length c5]) (by simp [results, Try.results92, go_sem, r0, r1, r2, r3]) rfl ⟨_, rfl, h2.own 1 rfl, h2.below⟩

set_option maxHeartbeats 400000 in
theorem l2All_any (p : Int) (n : Nat) (A : Option Addr) (l c : Nat) (w : World) (hP : isPrime p = true) (hn : n ≤ 40) : Calls Try.prog 91 #[.agg #[.int .i64 p, .int .i64 n, .slice A l c]] w (RetMat w p n n (unitD n)) := by
  have h1 := ((St.start w).box [.int .i64 p, .int .i64 n, .slice A l c] 30).box [.int .i64 0, .int .i64 0, .int .i64 0, .slice none 0 0] 32
  simp only [World.size_alloc] at h1
  have HU := Lib.hid (fun W => l1Unit_any p n W hP hn)
  clear hP
  obtain ⟨R, hR⟩ : ∃ R, R = unitD n := ⟨_, rfl⟩
  rw [← hR] at HU ⊢
  clear hR
  obtain ⟨z0, z1, z2⟩ := h1.box3 1 rfl
  go_enter Try.func91, Try.ntmps91
  go_wp2_with fail
  refine (HU.out _).mono ?_
  rintro (e : Ending) w1 ⟨u, rfl, ho, hb1⟩
  obtain ⟨A7, c7, rfl, _, _, _⟩ := id ho.ints
  replace h1 := h1.pushOwn hb1 ho
  clear ho hb1 z0 z1 z2
  obtain ⟨z0, z1, z2, z3⟩ := h1.box4 1 rfl
  have f0 := h1.free 1 rfl 0
  have f1 := h1.free 1 rfl 1
  have f2 := h1.free 1 rfl 2
  have f3 := h1.free 1 rfl 3
  have h2 := (((h1.setBox 1 rfl 0 (.int .i64 p)).setBox 1 rfl 1 (.int .i64 n)).setBox 1 rfl 2 (.int .i64 n)).setBox 1 rfl 3 (.slice A7 R.length c7)
  obtain ⟨r0, r1, r2, r3⟩ := h2.box4 1 rfl
  go_wp2
  refine bodyPost_ret (v := .agg #[.int .i64 p, .int .i64 n, .int .i64 n, .slice A7 R.length c7]) (by simp [results, Try.results91, go_sem, r0, r1, r2, r3]) rfl ⟨_, rfl, h2.own 0 rfl, h2.below⟩
end Go.Proofs.Ytechjmckfedblaa
