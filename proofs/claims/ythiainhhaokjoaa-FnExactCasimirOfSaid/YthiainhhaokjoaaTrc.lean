/- The trace, in both programs. -/
import Derived.Test.YthiainhhaokjoaaTraP
import Derived.Test.YthiainhhaokjoaaRegX
namespace Go.Proofs.Ythiainhhaokjoaa
set_option maxRecDepth 100000
open Go.RowKit

theorem trS_bd {p : Int} (hp : 2 ≤ p) {n : Nat} {D : List Int} (h : resid p D = true) : ∀ i : Nat, 0 ≤ sumTo i (fun i => Go.Proofs.Ythiainhhaokjoaa.vec D (i * n + i)) ∧ sumTo i (fun i => Go.Proofs.Ythiainhhaokjoaa.vec D (i * n + i)) ≤ i * p
  | 0 => by simp [sumTo]
  | i + 1 => by
    have h1 := trS_bd hp (n := n) h i
    have h2 := resid_vec' h (by omega : 0 < p) (i * n + i)
    simp only [sumTo]
    have : ((i + 1 : Nat) : Int) * p = (i : Int) * p + p := by rw [show ((i + 1 : Nat) : Int) = (i : Int) + 1 by omega, Int.add_mul, Int.one_mul]
    omega
theorem trS_le {p : Int} (hp : 2 ≤ p) (hp' : p ≤ 10007) {n : Nat} {D : List Int} (h : resid p D = true) {i : Nat} (hi : i ≤ 40) : 0 ≤ sumTo i (fun i => Go.Proofs.Ythiainhhaokjoaa.vec D (i * n + i)) ∧ sumTo i (fun i => Go.Proofs.Ythiainhhaokjoaa.vec D (i * n + i)) ≤ 400280 := by
  have h1 := trS_bd hp (n := n) h i
  have h2 : (i : Int) * p ≤ 40 * 10007 := Int.mul_le_mul (by omega) hp' (by omega) (by omega)
  omega

set_option maxHeartbeats 1000000 in
theorem l1Trace_any (p : Int) (n : Nat) (t : Value) (D : List Int) (w : World) (ht : Ints w t D) (hD : D.length = n * n) (hn : n ≤ 40) (hp : 2 ≤ p) (hp' : p ≤ 10007) (rD : resid p D = true) :
    Calls Try.prog 128 #[.agg #[.int .i64 p, .int .i64 n, .int .i64 n, t]] w fun e w' => e = .returned (.int .i64 (traD p n D)) ∧ Below w.heap.size w w' := by
  have h1 := (St.start1 ht).box [.int .i64 p, .int .i64 n, .int .i64 n, t] 40
  obtain ⟨A, k0, rfl, _, _, _⟩ := id ht
  have hnn := mul_le hn hn
  have HA := Lib.hid (fun (W : World) (i : Nat) (hi : i < n) (x1 : Ints W (.slice A D.length k0) D) => l1At_any p n n _ D i i W x1 hD (by omega) hi hi)
  have HS0 := Lib.hid (fun (i : Nat) (hi : i ≤ n) => trS_le (n := n) hp hp' rD (show i ≤ 40 by omega))
  have HR := Lib.hid rD
  have HF := Lib.hid (show traD p n D = sumTo n (fun i => Go.Proofs.Ythiainhhaokjoaa.vec D (i * n + i)) % p from rfl)
  obtain ⟨X, hX⟩ : ∃ X, X = traD p n D := ⟨_, rfl⟩
  rw [← hX] at HF ⊢
  clear ht hD rD hX hnn
  obtain ⟨z0, z1, z2, z3⟩ := h1.box4 0 rfl
  go_enter Try.func128, Try.ntmps128
  go_wp2
  clear z0 z1 z2 z3
  go_loopw [3, 4] (fun v3 v4 wr => ∃ (i : Nat) (S : Int), v3 = .int .i64 S ∧ v4 = .int .i64 i ∧ i ≤ n ∧ Hid (S = sumTo i (fun i => Go.Proofs.Ythiainhhaokjoaa.vec D (i * n + i))) ∧ St w wr [.box w.heap.size [.int .i64 p, .int .i64 n, .int .i64 n, .slice A D.length k0], .ro (.slice A D.length k0) D]) (fun _ v4 _ => n - (intOf v4).toNat)
  case atStart => exact ⟨0, 0, rfl, rfl, by omega, rfl, h1⟩
  case round =>
    clear h1
    obtain ⟨i, S, rfl, rfl, a1, HS, h1⟩ := hrel
    have hSb := HS0.out i a1
    rw [← HS.out] at hSb
    obtain ⟨z0, z1, z2, z3⟩ := h1.box4 0 rfl
    by_cases hi : i < n
    · have HAt := Lib.hid (fun W x => HA.out W i hi x)
      have hxb := resid_vec' HR.out (by omega : 0 < p) (i * n + i)
      obtain ⟨x, hx⟩ : ∃ x, x = Go.Proofs.Ythiainhhaokjoaa.vec D (i * n + i) := ⟨_, rfl⟩
      rw [← hx] at HAt hxb
      have HX := Lib.hid (show S + x = sumTo (i + 1) (fun i => Go.Proofs.Ythiainhhaokjoaa.vec D (i * n + i)) by rw [HS.out, hx]; rfl)
      have w1 : IntKind.i64.wrap (S + x) = S + x := wrap_ok (by omega) (by omega)
      have ii : (i : Int) < (n : Int) := by omega
      clear hx
      go_wp2_with fail
      refine (HAt.out _ (h1.roInts 1 rfl)).mono ?_
      rintro (e : Ending) w2 ⟨rfl, hb2⟩
      have g1 := h1.on hb2
      clear h1 hb2 z0 z1 z2 z3
      go_wp2
      go_roundw
      case rel => exact ⟨i + 1, S + x, rfl, by go_num, by omega, HX, g1⟩
      case measure => simp [intOf]; omega
    · obtain rfl : i = n := by omega
      have r1 : S.tmod p = S % p := rem_ok (by omega)
      have hp0 : ¬ p = 0 := by omega
      have HG := Lib.hid (show S % p = X by rw [HF.out, HS.out])
      go_wp2
      go_ret
      exact ⟨ret_int HG.out, h1.below⟩

set_option maxHeartbeats 1000000 in
theorem TraceOf_any (p : Int) (n : Nat) (t : Value) (D : List Int) (w : World) (ht : Ints w t D) (hM : matOk p n n D = true) :
    Calls Try.prog 131 #[.agg #[.int .i64 p, .int .i64 n, .int .i64 n, t]] w fun e w' => e = .returned (.tuple #[.int .i64 (traD p n D), .bool true]) ∧ Below w.heap.size w w' := by
  have h1 := (St.start1 ht).box [.int .i64 p, .int .i64 n, .int .i64 n, t] 40
  obtain ⟨A, k0, rfl, _, _, _⟩ := id ht
  obtain ⟨a, b, ea, eb, k1, k2, kD, rD, hp, hp', hP⟩ := matOk_spec hM
  obtain rfl : n = a := by omega
  obtain rfl : n = b := by omega
  have HS0 := Lib.hid (fun (i : Nat) (hi : i ≤ n) => trS_le (n := n) hp hp' rD (show i ≤ 40 by omega))
  have HM := Lib.hid hM
  have HR := Lib.hid rD
  have HD := Lib.hid kD
  have HF := Lib.hid (show traD p n D = sumTo n (fun i => Go.Proofs.Ythiainhhaokjoaa.vec D (i * n + i)) % p from rfl)
  obtain ⟨X, hX⟩ : ∃ X, X = traD p n D := ⟨_, rfl⟩
  rw [← hX] at HF ⊢
  clear ht hM rD hX kD hP ea eb k2
  obtain ⟨z0, z1, z2, z3⟩ := h1.box4 0 rfl
  go_enter Try.func131, Try.ntmps131
  go_wp2_with fail
  refine (MatrixOkI_any p n n _ D _ (h1.roInts 1 rfl) (by omega)).mono ?_
  rintro (e : Ending) w1 ⟨rfl, hb1⟩
  replace h1 := h1.on hb1
  rw [HM.out]
  clear hb1 z0 z1 z2 z3
  obtain ⟨z0, z1, z2, z3⟩ := h1.box4 0 rfl
  go_wp2
  clear z0 z1 z2 z3
  go_loopw [4, 5, 18] (fun v4 _ v18 wr => ∃ (i : Nat) (S : Int), v4 = .int .i64 S ∧ v18 = .int .i64 i ∧ i ≤ n ∧ Hid (S = sumTo i (fun i => Go.Proofs.Ythiainhhaokjoaa.vec D (i * n + i))) ∧ St w wr [.box w.heap.size [.int .i64 p, .int .i64 n, .int .i64 n, .slice A D.length k0], .ro (.slice A D.length k0) D]) (fun _ _ v18 _ => n - (intOf v18).toNat)
  case atStart => exact ⟨0, 0, rfl, rfl, by omega, rfl, h1⟩
  case round =>
    clear h1
    obtain ⟨i, S, rfl, rfl, a1, HS, h1⟩ := hrel
    have hSb := HS0.out i a1
    rw [← HS.out] at hSb
    obtain ⟨z0, z1, z2, z3⟩ := h1.box4 0 rfl
    by_cases hi : i < n
    · have hlt : i * n + i < D.length := by rw [HD.out]; exact spot_lt hi hi
      have hD9 := HD.out
      have hnn := mul_le k1 k1
      obtain ⟨b9, o9, rfl, _, xD⟩ := (h1.ro 1 rfl).cell (k := i * n + i) hlt
      have hxb := resid_vec' HR.out (by omega : 0 < p) (i * n + i)
      obtain ⟨x, hx⟩ : ∃ x, x = Go.Proofs.Ythiainhhaokjoaa.vec D (i * n + i) := ⟨_, rfl⟩
      rw [← hx] at xD hxb
      have HX := Lib.hid (show S + x = sumTo (i + 1) (fun i => Go.Proofs.Ythiainhhaokjoaa.vec D (i * n + i)) by rw [HS.out, hx]; rfl)
      obtain ⟨m1, hm1⟩ : ∃ m1, m1 = i * n := ⟨_, rfl⟩
      obtain ⟨m2, hm2⟩ : ∃ m2, m2 = m1 + i := ⟨_, rfl⟩
      rw [← hm1, ← hm2] at hlt xD
      have t4 : (i : Int) * (n : Int) = (m1 : Int) := by rw [hm1]; simp
      have t5 : (m1 : Int) + (i : Int) = (m2 : Int) := by omega
      have w3 : IntKind.i64.wrap (m1 : Int) = m1 := wrap_ok (by omega) (by omega)
      have w4 : IntKind.i64.wrap (m2 : Int) = m2 := wrap_ok (by omega) (by omega)
      have w1 : IntKind.i64.wrap (S + x) = S + x := wrap_ok (by omega) (by omega)
      have i2 : (m2 : Int) < (D.length : Int) := by omega
      have ii : (i : Int) < (n : Int) := by omega
      clear hx hm1 hm2 hlt hD9 hnn
      go_wp2
      go_roundw
      case rel => exact ⟨i + 1, S + x, rfl, by go_num, by omega, HX, h1⟩
      case measure => simp [intOf]; omega
    · obtain rfl : i = n := by omega
      have r1 : S.tmod p = S % p := rem_ok (by omega)
      have hp0 : ¬ p = 0 := by omega
      have HG := Lib.hid (show S % p = X by rw [HF.out, HS.out])
      go_wp2
      refine bodyPost_ret (v := .tuple #[.int .i64 X, .bool true]) (by simp [results, Try.results131, go_sem, HG.out]) rfl ⟨rfl, h1.below⟩
end Go.Proofs.Ythiainhhaokjoaa
