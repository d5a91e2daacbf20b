/- ZeroModule of the program and of the reference. -/
import Derived.Test.YtngmepodgbhbpaaZeroM
import Derived.Test.YtngmepodgbhbpaaBrOf
import Derived.Test.YtngmepodgbhbpaaLawMats
namespace Go.Proofs.Ytngmepodgbhbpaa
set_option maxRecDepth 100000
open Go.RowKit

def zeroMod (p n : Int) (T : List Int) (k : Int) : List Mt := if algOk p n T && inR k 0 30 then List.replicate n.toNat ⟨p, k, k, List.replicate (k.toNat * k.toNat) 0⟩ else []
theorem RetMs.nil {w w' : World} (h : Below w.heap.size w w') : RetMs w [] (.returned (.slice none 0 0)) w' :=
  ⟨_, [], rfl, rfl, vec_nil, by simp [matsIt, It.fp, Value.ownBlock], h⟩

set_option maxHeartbeats 1000000 in
theorem ZeroModuleI_any (p n k : Int) (t : Value) (T : List Int) (w : World) (ht : Ints w t T) (hp : p ≤ 9223372036854775807) :
    Calls Try.prog 26 #[.agg #[.int .i64 p, .int .i64 n, t], .int .i64 k] w (RetMs w (zeroMod p n T k)) := by
  have h1 := (St.start1 ht).box [.int .i64 p, .int .i64 n, t] 27
  obtain ⟨A, c, rfl, _, _, _⟩ := id ht
  clear ht
  by_cases b1 : algOk p n T = true
  · obtain ⟨m, rfl, k1, k2, k3, k4, k5, k6⟩ := algOk_spec b1
    by_cases b2 : inR k 0 30 = true
    · obtain ⟨q, rfl⟩ : ∃ q : Nat, k = q := ⟨k.toNat, by simp [inR] at b2; omega⟩
      have hq : q ≤ 30 := by simp [inR] at b2; omega
      have hR := Lib.hid (show zeroMod p m T q = List.replicate m ⟨p, q, q, List.replicate (q * q) 0⟩ by simp [zeroMod, b1, b2])
      clear k2
      have hq2 := mul_le hq hq
      go_enter Try.func26, Try.ntmps26
      go_wp2_with fail
      refine (AlgebraOkI_any p m _ T _ (h1.roInts 1 rfl) hp).mono ?_
      rintro e wn ⟨rfl, hb1⟩
      replace h1 := h1.on hb1
      clear hb1
      replace h1 := h1.emptyMats
      obtain ⟨z0, z1, z2⟩ := h1.box3 1 rfl
      go_wp2_with (go_at_call 68; refine (inside_any _ _ _ _).mono ?_; rintro e w' ⟨rfl, rfl⟩)
      clear z0 z1 z2
      go_loopw [5, 17] (fun vo vi wr => ∃ (i : Nat) (us : List Value), vi = .int .i64 i ∧ i ≤ m ∧ us.length = i ∧ St w wr [matsIt vo us (List.replicate i ⟨p, q, q, List.replicate (q * q) 0⟩), .box w.heap.size [.int .i64 p, .int .i64 m, .slice A T.length c], .ro (.slice A T.length c) T]) (fun _ vi _ => m - (intOf vi).toNat)
      case atStart => exact ⟨0, [], rfl, by omega, rfl, h1⟩
      case round =>
        obtain ⟨i, us, rfl, a1, hul, h1⟩ := hrel
        by_cases hi : i < m
        · have Hul := Lib.hid hul
          clear hul
          obtain ⟨z0, z1, z2⟩ := h1.box3 1 rfl
          go_wp2_with fail
          refine (ZeroMatrixI_any p q q _ k6 (by omega) (by omega)).mono ?_
          rintro e wn ⟨u, rfl, ho, hb1⟩
          replace h1 := h1.pushOwn hb1 ho
          clear ho hb1
          go_wp2_with (at_builtin; refine wp_append_mat rfl (.tmp 19) (.tmp 25) rfl ⟨p, q, q, List.replicate (q * q) 0⟩ h1 0 rfl (by rw [List.length_replicate]; exact Hul.out) rfl rfl (by rw [List.length_replicate]; omega) ?_; intro v1 w1 h2)
          go_roundw
          case rel => exact ⟨i + 1, us ++ [u], by go_num, by omega, by rw [List.length_append, Hul.out]; rfl, by rw [List.replicate_succ']; exact h2⟩
          case measure => simp [intOf]; omega
        · obtain rfl : i = m := by omega
          have Hul := Lib.hid hul
          clear hul
          obtain ⟨z0, z1, z2⟩ := h1.box3 1 rfl
          go_wp2
          go_ret
          rw [hR.out]
          exact ⟨_, us, rfl, by rw [List.length_replicate]; exact Hul.out, h1.at 0 rfl, h1.vecNodup 0 rfl, h1.below⟩
    · have b2 : inR k 0 30 = false := by simpa using b2
      rw [show zeroMod p m T k = [] by simp [zeroMod, b2]]
      clear k2
      go_enter Try.func26, Try.ntmps26
      go_wp2_with fail
      refine (AlgebraOkI_any p m _ T _ (h1.roInts 1 rfl) hp).mono ?_
      rintro e wn ⟨rfl, hb1⟩
      replace h1 := h1.on hb1
      clear hb1
      go_wp2_with (go_at_call 68; refine (inside_any _ _ _ _).mono ?_; rintro e w' ⟨rfl, rfl⟩)
      go_ret
      exact RetMs.nil h1.below
  · have b1 : algOk p n T = false := by simpa using b1
    rw [show zeroMod p n T k = [] by simp [zeroMod, b1]]
    go_enter Try.func26, Try.ntmps26
    go_wp2_with fail
    refine (AlgebraOkI_any p n _ T _ (h1.roInts 1 rfl) hp).mono ?_
    rintro e wn ⟨rfl, hb1⟩
    replace h1 := h1.on hb1
    clear hb1
    go_wp2
    go_ret
    exact RetMs.nil h1.below
set_option maxHeartbeats 1000000 in
theorem ZeroModuleS_any (p n k : Int) (t : Value) (T : List Int) (w : World) (ht : Ints w t T) (_hp : p ≤ 9223372036854775807) :
    Calls Try.prog 25 #[.agg #[.int .i64 p, .int .i64 n, t], .int .i64 k] w (RetMs w (zeroMod p n T k)) := by
  have h1 := (St.start1 ht).box [.int .i64 p, .int .i64 n, t] 27
  obtain ⟨A, c, rfl, _, _, _⟩ := id ht
  clear ht
  by_cases b1 : algOk p n T = true
  · obtain ⟨m, rfl, k1, k2, k3, k4, k5, k6⟩ := algOk_spec b1
    by_cases b2 : inR k 0 30 = true
    · obtain ⟨q, rfl⟩ : ∃ q : Nat, k = q := ⟨k.toNat, by simp [inR] at b2; omega⟩
      have hq : q ≤ 30 := by simp [inR] at b2; omega
      have hR := Lib.hid (show zeroMod p m T q = List.replicate m ⟨p, q, q, List.replicate (q * q) 0⟩ by simp [zeroMod, b1, b2])
      clear k2
      have hq2 := mul_le hq hq
      go_enter Try.func25, Try.ntmps25
      go_wp2_with fail
      refine (AlgebraOkS_any p m _ T _ (h1.roInts 1 rfl)).mono ?_
      rintro e wn ⟨rfl, hb1⟩
      replace h1 := h1.on hb1
      clear hb1
      replace h1 := h1.emptyMats
      obtain ⟨z0, z1, z2⟩ := h1.box3 1 rfl
      go_wp2_with (go_at_call 66; refine (l1In_any _ _ _ _).mono ?_; rintro e w' ⟨rfl, rfl⟩)
      clear z0 z1 z2
      go_loopw [5, 6] (fun vo vi wr => ∃ (i : Nat) (us : List Value), vi = .int .i64 i ∧ i ≤ m ∧ us.length = i ∧ St w wr [matsIt vo us (List.replicate i ⟨p, q, q, List.replicate (q * q) 0⟩), .box w.heap.size [.int .i64 p, .int .i64 m, .slice A T.length c], .ro (.slice A T.length c) T]) (fun _ vi _ => m - (intOf vi).toNat)
      case atStart => exact ⟨0, [], rfl, by omega, rfl, h1⟩
      case round =>
        obtain ⟨i, us, rfl, a1, hul, h1⟩ := hrel
        by_cases hi : i < m
        · have Hul := Lib.hid hul
          clear hul
          obtain ⟨z0, z1, z2⟩ := h1.box3 1 rfl
          go_wp2_with fail
          refine (l1Zero_any p q q _ (by omega)).mono ?_
          rintro e wn ⟨u, rfl, ho, hb1⟩
          replace h1 := h1.pushOwn hb1 ho
          clear ho hb1
          go_wp2_with (at_builtin; refine wp_append_mat rfl (.tmp 22) (.tmp 28) rfl ⟨p, q, q, List.replicate (q * q) 0⟩ h1 0 rfl (by rw [List.length_replicate]; exact Hul.out) rfl rfl (by rw [List.length_replicate]; omega) ?_; intro v1 w1 h2)
          go_roundw
          case rel => exact ⟨i + 1, us ++ [u], by go_num, by omega, by rw [List.length_append, Hul.out]; rfl, by rw [List.replicate_succ']; exact h2⟩
          case measure => simp [intOf]; omega
        · obtain rfl : i = m := by omega
          have Hul := Lib.hid hul
          clear hul
          obtain ⟨z0, z1, z2⟩ := h1.box3 1 rfl
          go_wp2
          go_ret
          rw [hR.out]
          exact ⟨_, us, rfl, by rw [List.length_replicate]; exact Hul.out, h1.at 0 rfl, h1.vecNodup 0 rfl, h1.below⟩
    · have b2 : inR k 0 30 = false := by simpa using b2
      rw [show zeroMod p m T k = [] by simp [zeroMod, b2]]
      clear k2
      go_enter Try.func25, Try.ntmps25
      go_wp2_with fail
      refine (AlgebraOkS_any p m _ T _ (h1.roInts 1 rfl)).mono ?_
      rintro e wn ⟨rfl, hb1⟩
      replace h1 := h1.on hb1
      clear hb1
      go_wp2_with (go_at_call 66; refine (l1In_any _ _ _ _).mono ?_; rintro e w' ⟨rfl, rfl⟩)
      go_ret
      exact RetMs.nil h1.below
  · have b1 : algOk p n T = false := by simpa using b1
    rw [show zeroMod p n T k = [] by simp [zeroMod, b1]]
    go_enter Try.func25, Try.ntmps25
    go_wp2_with fail
    refine (AlgebraOkS_any p n _ T _ (h1.roInts 1 rfl)).mono ?_
    rintro e wn ⟨rfl, hb1⟩
    replace h1 := h1.on hb1
    clear hb1
    go_wp2
    go_ret
    exact RetMs.nil h1.below
theorem dLen_replicate (n : Nat) (m : Mt) : dLen (List.replicate n m) = n * m.d.length := by
  induction n with
  | zero => simp [dLen]
  | succ n ih => rw [List.replicate_succ, dLen, ih, Nat.add_mul]; omega
theorem zeroMod_bd (p n : Int) (T : List Int) (k : Int) : markMsLen (zeroMod p n T k) ≤ 25284 := by
  unfold zeroMod
  by_cases h : (algOk p n T && inR k 0 30) = true
  · rw [if_pos h]
    simp only [Bool.and_eq_true] at h
    obtain ⟨m, rfl, hm, _⟩ := algOk_spec h.1
    have hk : k.toNat ≤ 30 := by have := h.2; simp [inR] at this; omega
    have h2 := mul_le hk hk
    unfold markMsLen
    rw [dLen_replicate, List.length_replicate, List.length_replicate, Int.toNat_natCast]
    have := mul_le hm h2
    omega
  · rw [if_neg h]; simp [markMsLen, dLen]
end Go.Proofs.Ytngmepodgbhbpaa
