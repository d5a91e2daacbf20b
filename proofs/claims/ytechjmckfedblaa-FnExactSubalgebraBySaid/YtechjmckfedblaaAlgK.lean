/- The reference's AlgebraOk. -/
import Derived.Test.YtechjmckfedblaaAlgJ
namespace Go.Proofs.Ytechjmckfedblaa
set_option maxRecDepth 100000
open Go.RowKit

def pairS (T : List Int) (n : Nat) (p : Int) (i j k : Nat) : Bool := (if i = j then t3 T n i j k == 0 else true) && ((t3 T n i j k + t3 T n j i k) % p == 0)
def tableS (T : List Int) (n : Nat) (p : Int) : Bool := allF (fun i => allF (fun j => allF (pairS T n p i j) n 0) (i + 1) 0) n 0 && allF (jacS T n p) n 0

set_option maxRecDepth 100000 in
set_option maxHeartbeats 1000000 in
theorem AlgebraOkS_out (p n : Int) (t : Value) (T : List Int) (w : World) (ht : Ints w t T) (h : (isPrime p && (inR n 0 28 && (decide ((T.length : Int) = n * n * n) && resid p T))) = false) :
    Calls Try.prog 68 #[.agg #[.int .i64 p, .int .i64 n, t]] w (RetBool w false) := by
  obtain ⟨A, c, rfl, h1, h2, h3⟩ := id ht
  clear h3
  have hb : Below w.heap.size w (w.alloc (.cells #[.int .i64 p, .int .i64 n, .slice A T.length c] 30)) := (Below.refl _ _).alloc (Nat.le_refl _) _
  by_cases b1 : isPrime p = true
  · have hp2 := isPrime_bd b1
    by_cases b2 : inR n 0 28 = true
    · obtain ⟨m, rfl⟩ : ∃ m : Nat, n = m := ⟨n.toNat, by simp [inR] at b2; omega⟩
      have hm : m ≤ 28 := by simp [inR] at b2; omega
      have hc := cube_le hm
      have hm2 : m * m ≤ 784 := Nat.mul_le_mul hm hm
      have r1 : 0 ≤ (m : Int) * m ∧ (m : Int) * m ≤ 784 := by have : ((m * m : Nat) : Int) = (m : Int) * m := by simp
                                                              omega
      have r2 : 0 ≤ (m : Int) * m * m ∧ (m : Int) * m * m ≤ 21952 := by have : ((m * m * m : Nat) : Int) = (m : Int) * m * m := by simp
                                                                        omega
      by_cases b3 : (T.length : Int) = m * m * m
      · have b4 : resid p T = false := by simpa [b1, b2, b3] using h
        have t3 : ((T.length : Int) != (m : Int) * m * m) = false := by simp [b3]
        have ht1 := ht.below hb
        clear h b3
        go_enter Try.func68, Try.ntmps68
        go_wp2_with (first
          | (go_at_call 122; refine (IsPrimeS_any _ _).mono ?_; rintro e w' ⟨rfl, rfl⟩)
          | (go_at_call 123; refine (l1In_any _ _ _ _).mono ?_; rintro e w' ⟨rfl, rfl⟩)
          | (go_at_call 124; refine (l1Residues_any _ T p _ ht1).mono ?_; rintro e w2 ⟨rfl, rfl⟩))
        go_ret
        exact ⟨rfl, hb⟩
      · have t3 : ((T.length : Int) != (m : Int) * m * m) = true := by simp [b3]
        clear h b3
        go_enter Try.func68, Try.ntmps68
        go_wp2_with (first
          | (go_at_call 122; refine (IsPrimeS_any _ _).mono ?_; rintro e w' ⟨rfl, rfl⟩)
          | (go_at_call 123; refine (l1In_any _ _ _ _).mono ?_; rintro e w' ⟨rfl, rfl⟩))
        go_ret
        exact ⟨rfl, hb⟩
    · have b2 : inR n 0 28 = false := by simpa using b2
      clear h
      go_enter Try.func68, Try.ntmps68
      go_wp2_with (first
        | (go_at_call 122; refine (IsPrimeS_any _ _).mono ?_; rintro e w' ⟨rfl, rfl⟩)
        | (go_at_call 123; refine (l1In_any _ _ _ _).mono ?_; rintro e w' ⟨rfl, rfl⟩))
      go_ret
      exact ⟨rfl, hb⟩
  · have b1 : isPrime p = false := by simpa using b1
    clear h
    go_enter Try.func68, Try.ntmps68
    go_wp2_with (go_at_call 122; refine (IsPrimeS_any _ _).mono ?_; rintro e w' ⟨rfl, rfl⟩)
    go_ret
    exact ⟨rfl, hb⟩


set_option maxRecDepth 100000 in
set_option maxHeartbeats 4000000 in
theorem AlgebraOkS_in (p : Int) (n : Nat) (t : Value) (T : List Int) (w : World) (ht : Ints w t T) (b1 : isPrime p = true) (hn : n ≤ 28) (b3 : T.length = n * n * n) (b4 : resid p T = true) :
    Calls Try.prog 68 #[.agg #[.int .i64 p, .int .i64 n, t]] w (RetBool w (tableS T n p)) := by
  obtain ⟨A, c, rfl, h1, h2, h3⟩ := id ht
  clear h3
  have hp2 := isPrime_bd b1
  have b2 : inR n 0 28 = true := inR_true (by omega) (by omega)
  have hc := cube_le hn
  have hm2 : n * n ≤ 784 := Nat.mul_le_mul hn hn
  have r1 : 0 ≤ (n : Int) * n ∧ (n : Int) * n ≤ 784 := by have : ((n * n : Nat) : Int) = (n : Int) * n := by simp
                                                          omega
  have r2 : 0 ≤ (n : Int) * n * n ∧ (n : Int) * n * n ≤ 21952 := by have : ((n * n * n : Nat) : Int) = (n : Int) * n * n := by simp
                                                                    omega
  have t4 : ((T.length : Int) != (n : Int) * n * n) = false := by simp [b3]
  have hb : Below w.heap.size w (w.alloc (.cells #[.int .i64 p, .int .i64 n, .slice A T.length c] 30)) := (Below.refl _ _).alloc (Nat.le_refl _) _
  have hst : AlgSt w (w.alloc (.cells #[.int .i64 p, .int .i64 n, .slice A T.length c] 30)) w.heap.size w.heap.size (.int .i64 p) (.int .i64 n) (.slice A T.length c) T :=
    ⟨Box3.new _ _ _ _ _, Box3.new _ _ _ _ _, ht.toB.below hb (Nat.le_refl _), hb⟩
  obtain ⟨R, hR⟩ : ∃ R, R = tableS T n p := ⟨_, rfl⟩
  rw [← hR]
  obtain ⟨J, hJ⟩ : ∃ J, J = allF (jacS T n p) n 0 := ⟨_, rfl⟩
  have HR1 : Hid (R = (allF (fun i => allF (fun j => allF (pairS T n p i j) n 0) (i + 1) 0) n 0 && J)) := by rw [hJ]; exact Lib.hid hR
  have HJ := Lib.hid hJ
  have H3 := Lib.hid b3
  have htl : T.length ≤ 21952 := by omega
  have ht1 := ht.below hb
  clear hR hJ b3 ht hb
  obtain ⟨⟨x0, x1, x2⟩, _, _, _⟩ := id hst
  go_enter Try.func68, Try.ntmps68
  go_wp2_with (first
    | (go_at_call 122; refine (IsPrimeS_any _ _).mono ?_; rintro e w' ⟨rfl, rfl⟩)
    | (go_at_call 123; refine (l1In_any _ _ _ _).mono ?_; rintro e w' ⟨rfl, rfl⟩)
    | (go_at_call 124; refine (l1Residues_any _ T p _ ht1).mono ?_; rintro e w2 ⟨rfl, rfl⟩))
  clear x0 x1 x2 ht1
  obtain ⟨W0, hW0⟩ : ∃ W, W = w.alloc (.cells #[.int .i64 p, .int .i64 n, .slice A T.length c] 30) := ⟨_, rfl⟩
  rw [← hW0] at hst
  rw [← hW0]
  clear hW0
  go_loopw [4] (fun vi wr => ∃ i : Nat, vi = .int .i64 i ∧ i ≤ n ∧ AlgSt w wr w.heap.size w.heap.size (.int .i64 p) (.int .i64 n) (.slice A T.length c) T ∧ Hid (R = (allF (fun i => allF (fun j => allF (pairS T n p i j) n 0) (i + 1) 0) (n - i) i && J))) (fun vi _ => n - (intOf vi).toNat)
  case atStart => exact ⟨0, rfl, by omega, hst, HR1⟩
  case round =>
    obtain ⟨i, rfl, a1, hst, HM⟩ := hrel
    by_cases hi : i < n
    · obtain ⟨W1, rfl⟩ : ∃ W1 : World, W1 = wr := ⟨_, rfl⟩
      obtain ⟨K1, hK1⟩ : ∃ K1, K1 = (allF (fun i => allF (fun j => allF (pairS T n p i j) n 0) (i + 1) 0) (n - (i + 1)) (i + 1) && J) := ⟨_, rfl⟩
      have HM1 : Hid (R = (allF (fun j => allF (pairS T n p i j) n 0) (i + 1) 0 && K1)) := by
        have := HM.out
        rw [show n - i = (n - (i + 1)) + 1 from by omega, allF, Bool.and_assoc, ← hK1] at this
        exact this
      have HK1 := Lib.hid hK1
      clear hK1 HM
      go_wp2
      go_loopw [5] (fun vj wr => ∃ j : Nat, vj = .int .i64 j ∧ j ≤ i + 1 ∧ AlgSt w wr w.heap.size w.heap.size (.int .i64 p) (.int .i64 n) (.slice A T.length c) T ∧ Hid (R = (allF (fun j => allF (pairS T n p i j) n 0) (i + 1 - j) j && K1))) (fun vj _ => i + 1 - (intOf vj).toNat)
      case atStart => exact ⟨0, rfl, by omega, hst, HM1⟩
      case round =>
        obtain ⟨j, rfl, a2, hst1, HM2⟩ := hrel
        clear hst HM1
        by_cases hj : j < i + 1
        · obtain ⟨W2, rfl⟩ : ∃ W2 : World, W2 = wr := ⟨_, rfl⟩
          obtain ⟨K2, hK2⟩ : ∃ K2, K2 = (allF (fun j => allF (pairS T n p i j) n 0) (i + 1 - (j + 1)) (j + 1) && K1) := ⟨_, rfl⟩
          have HM3 : Hid (R = (allF (pairS T n p i j) n 0 && K2)) := by
            have := HM2.out
            rw [show i + 1 - j = (i + 1 - (j + 1)) + 1 from by omega, allF, Bool.and_assoc, ← hK2] at this
            exact this
          have HK2 := Lib.hid hK2
          clear hK2 HM2
          have h44 : decide ((j : Int) ≤ (i : Int)) = true := by simp; omega
          go_wp2
          go_simp
          go_loopw [6] (fun vk wr => ∃ k : Nat, vk = .int .i64 k ∧ k ≤ n ∧ AlgSt w wr w.heap.size w.heap.size (.int .i64 p) (.int .i64 n) (.slice A T.length c) T ∧ Hid (R = (allF (pairS T n p i j) (n - k) k && K2))) (fun vk _ => n - (intOf vk).toNat)
          case atStart => exact ⟨0, rfl, by omega, hst1, HM3⟩
          case round =>
            obtain ⟨k, rfl, a3, hst2, HM4⟩ := hrel
            clear hst1 HM3
            by_cases hk : k < n
            · have HS := Lib.hid (show allF (pairS T n p i j) (n - k) k = (pairS T n p i j k && allF (pairS T n p i j) (n - (k + 1)) (k + 1)) by
                rw [show n - k = (n - (k + 1)) + 1 from by omega, allF])
              obtain ⟨W3, rfl⟩ : ∃ W3 : World, W3 = wr := ⟨_, rfl⟩
              obtain ⟨q1, q2⟩ := resid_vec' b4 (by omega) ((i * n + j) * n + k)
              obtain ⟨q3, q4⟩ := resid_vec' b4 (by omega) ((j * n + i) * n + k)
              change 0 ≤ t3 T n i j k at q1
              change t3 T n i j k < p at q2
              change 0 ≤ t3 T n j i k at q3
              change t3 T n j i k < p at q4
              have m1 : IntKind.i64.wrap (t3 T n i j k + t3 T n j i k) = t3 T n i j k + t3 T n j i k := IntWalk.i64_in _ (by omega)
              obtain ⟨z, hz⟩ : ∃ z, z = (t3 T n i j k + t3 T n j i k) % p := ⟨_, rfl⟩
              have m2 : (t3 T n i j k + t3 T n j i k).tmod p = z := by rw [hz]; exact Int.tmod_eq_emod_of_nonneg (by omega)
              have m3 : IntKind.i64.wrap z = z := by
                have := Int.emod_lt_of_pos (t3 T n i j k + t3 T n j i k) (b := p) (by omega)
                have := Int.emod_nonneg (t3 T n i j k + t3 T n j i k) (b := p) (by omega)
                rw [hz]; exact IntWalk.i64_in _ (by omega)
              have m4 : ¬ p = 0 := by omega
              have HZ := Lib.hid hz
              clear hz
              by_cases e : i = j
              · have e1 : ((i : Int) == (j : Int)) = true := by simp [e]
                by_cases e0 : t3 T n i j k = 0
                · have e2 : (t3 T n i j k != 0) = false := by simp [e0]
                  by_cases ez : z = 0
                  · have e3 : (z != 0) = false := by simp [ez]
                    have HP := Lib.hid (show pairS T n p i j k = true by rw [HZ.out] at ez; simp only [pairS, if_pos e, e0]; rw [e0] at ez; rw [ez]; rfl)
                    have He := Lib.hid (And.intro e (And.intro e0 ez))
                    clear e e0 ez
                    go_wp2
                    refine wp_region_all (fun w' => AlgSt w w' w.heap.size w.heap.size (.int .i64 p) (.int .i64 n) (.slice A T.length c) T) (by kernel_rfl) (by kernel_rfl) hst2.drew ?_
                    iterate 21
                      first
                        | go_big_quiet_skip
                        | (go_big_quiet_want
                           apply Exists.intro
                           refine ⟨fun w' hC => ?_, ?_⟩
                           · obtain ⟨⟨z0, z1, z2⟩, _, zt, zb⟩ := id hC
                             unfold Oper.quietAt
                             go_simp
                             first
                               | exact rfl
                               | exact ⟨rfl, rfl⟩
                               | exact (l2Get_any p n _ T i j k w.heap.size _ zt zb.size H3.out (by omega) (by omega) hk hn).mono fun e w'' h => ⟨h.1, hC.on h.2⟩
                           go_simp
                           go_big_quiet_on)
                    iterate 7
                      first
                        | go_big_quiet_skip
                        | (go_big_quiet_want
                           apply Exists.intro
                           refine ⟨fun w' hC => ?_, ?_⟩
                           · obtain ⟨⟨z0, z1, z2⟩, _, zt, zb⟩ := id hC
                             unfold Oper.quietAt
                             go_simp
                             first
                               | exact rfl
                               | exact ⟨rfl, rfl⟩
                               | exact (l2Get_any p n _ T j i k w.heap.size _ zt zb.size H3.out (by omega) (by omega) hk hn).mono fun e w'' h => ⟨h.1, hC.on h.2⟩
                           go_simp
                           go_big_quiet_on)
                    refine wpQuiet_nil (fun w' hC => ?_)
                    clear hst2
                    go_wp2
                    go_roundw
                    case rel => exact ⟨k + 1, by go_num, by omega, hC, by have := HM4.out; rw [HS.out, HP.out] at this; exact this⟩
                    case measure => simp [intOf]; omega
                  · have e3 : (z != 0) = true := by simp [ez]
                    have HP := Lib.hid (show pairS T n p i j k = false by rw [HZ.out] at ez; simp only [pairS, beq_eq_false_iff_ne.2 ez, Bool.and_false])
                    have He := Lib.hid (And.intro e (And.intro e0 ez))
                    clear e e0 ez
                    go_wp2
                    refine wp_region_all (fun w' => AlgSt w w' w.heap.size w.heap.size (.int .i64 p) (.int .i64 n) (.slice A T.length c) T) (by kernel_rfl) (by kernel_rfl) hst2.drew ?_
                    iterate 21
                      first
                        | go_big_quiet_skip
                        | (go_big_quiet_want
                           apply Exists.intro
                           refine ⟨fun w' hC => ?_, ?_⟩
                           · obtain ⟨⟨z0, z1, z2⟩, _, zt, zb⟩ := id hC
                             unfold Oper.quietAt
                             go_simp
                             first
                               | exact rfl
                               | exact ⟨rfl, rfl⟩
                               | exact (l2Get_any p n _ T i j k w.heap.size _ zt zb.size H3.out (by omega) (by omega) hk hn).mono fun e w'' h => ⟨h.1, hC.on h.2⟩
                           go_simp
                           go_big_quiet_on)
                    iterate 7
                      first
                        | go_big_quiet_skip
                        | (go_big_quiet_want
                           apply Exists.intro
                           refine ⟨fun w' hC => ?_, ?_⟩
                           · obtain ⟨⟨z0, z1, z2⟩, _, zt, zb⟩ := id hC
                             unfold Oper.quietAt
                             go_simp
                             first
                               | exact rfl
                               | exact ⟨rfl, rfl⟩
                               | exact (l2Get_any p n _ T j i k w.heap.size _ zt zb.size H3.out (by omega) (by omega) hk hn).mono fun e w'' h => ⟨h.1, hC.on h.2⟩
                           go_simp
                           go_big_quiet_on)
                    refine wpQuiet_nil (fun w' hC => ?_)
                    clear hst2
                    go_wp2
                    go_ret
                    exact ⟨ret_bool (by rw [HM4.out, HS.out, HP.out]; rfl), hC.below⟩
                · have e2 : (t3 T n i j k != 0) = true := by simp [e0]
                  have HP := Lib.hid (show pairS T n p i j k = false by simp only [pairS, if_pos e, beq_eq_false_iff_ne.2 e0, Bool.false_and])
                  have He := Lib.hid (And.intro e e0)
                  clear e e0
                  go_wp2
                  refine wp_region_all (fun w' => AlgSt w w' w.heap.size w.heap.size (.int .i64 p) (.int .i64 n) (.slice A T.length c) T) (by kernel_rfl) (by kernel_rfl) hst2.drew ?_
                  iterate 21
                    first
                      | go_big_quiet_skip
                      | (go_big_quiet_want
                         apply Exists.intro
                         refine ⟨fun w' hC => ?_, ?_⟩
                         · obtain ⟨⟨z0, z1, z2⟩, _, zt, zb⟩ := id hC
                           unfold Oper.quietAt
                           go_simp
                           first
                             | exact rfl
                             | exact ⟨rfl, rfl⟩
                             | exact (l2Get_any p n _ T i j k w.heap.size _ zt zb.size H3.out (by omega) (by omega) hk hn).mono fun e w'' h => ⟨h.1, hC.on h.2⟩
                         go_simp
                         go_big_quiet_on)
                  iterate 7
                    first
                      | go_big_quiet_skip
                      | (go_big_quiet_want
                         apply Exists.intro
                         refine ⟨fun w' hC => ?_, ?_⟩
                         · obtain ⟨⟨z0, z1, z2⟩, _, zt, zb⟩ := id hC
                           unfold Oper.quietAt
                           go_simp
                           first
                             | exact rfl
                             | exact ⟨rfl, rfl⟩
                             | exact (l2Get_any p n _ T j i k w.heap.size _ zt zb.size H3.out (by omega) (by omega) hk hn).mono fun e w'' h => ⟨h.1, hC.on h.2⟩
                         go_simp
                         go_big_quiet_on)
                  refine wpQuiet_nil (fun w' hC => ?_)
                  clear hst2
                  go_wp2
                  go_ret
                  exact ⟨ret_bool (by rw [HM4.out, HS.out, HP.out]; rfl), hC.below⟩
              · have e1 : ((i : Int) == (j : Int)) = false := by simp; omega
                by_cases ez : z = 0
                · have e3 : (z != 0) = false := by simp [ez]
                  have HP := Lib.hid (show pairS T n p i j k = true by rw [HZ.out] at ez; simp only [pairS, if_neg e, ez]; rfl)
                  have He := Lib.hid (And.intro e ez)
                  clear e ez
                  go_wp2
                  refine wp_region_all (fun w' => AlgSt w w' w.heap.size w.heap.size (.int .i64 p) (.int .i64 n) (.slice A T.length c) T) (by kernel_rfl) (by kernel_rfl) hst2.drew ?_
                  iterate 21
                    first
                      | go_big_quiet_skip
                      | (go_big_quiet_want
                         apply Exists.intro
                         refine ⟨fun w' hC => ?_, ?_⟩
                         · obtain ⟨⟨z0, z1, z2⟩, _, zt, zb⟩ := id hC
                           unfold Oper.quietAt
                           go_simp
                           first
                             | exact rfl
                             | exact ⟨rfl, rfl⟩
                             | exact (l2Get_any p n _ T i j k w.heap.size _ zt zb.size H3.out (by omega) (by omega) hk hn).mono fun e w'' h => ⟨h.1, hC.on h.2⟩
                         go_simp
                         go_big_quiet_on)
                  iterate 7
                    first
                      | go_big_quiet_skip
                      | (go_big_quiet_want
                         apply Exists.intro
                         refine ⟨fun w' hC => ?_, ?_⟩
                         · obtain ⟨⟨z0, z1, z2⟩, _, zt, zb⟩ := id hC
                           unfold Oper.quietAt
                           go_simp
                           first
                             | exact rfl
                             | exact ⟨rfl, rfl⟩
                             | exact (l2Get_any p n _ T j i k w.heap.size _ zt zb.size H3.out (by omega) (by omega) hk hn).mono fun e w'' h => ⟨h.1, hC.on h.2⟩
                         go_simp
                         go_big_quiet_on)
                  refine wpQuiet_nil (fun w' hC => ?_)
                  clear hst2
                  go_wp2
                  go_roundw
                  case rel => exact ⟨k + 1, by go_num, by omega, hC, by have := HM4.out; rw [HS.out, HP.out] at this; exact this⟩
                  case measure => simp [intOf]; omega
                · have e3 : (z != 0) = true := by simp [ez]
                  have HP := Lib.hid (show pairS T n p i j k = false by rw [HZ.out] at ez; simp only [pairS, beq_eq_false_iff_ne.2 ez, Bool.and_false])
                  have He := Lib.hid (And.intro e ez)
                  clear e ez
                  go_wp2
                  refine wp_region_all (fun w' => AlgSt w w' w.heap.size w.heap.size (.int .i64 p) (.int .i64 n) (.slice A T.length c) T) (by kernel_rfl) (by kernel_rfl) hst2.drew ?_
                  iterate 21
                    first
                      | go_big_quiet_skip
                      | (go_big_quiet_want
                         apply Exists.intro
                         refine ⟨fun w' hC => ?_, ?_⟩
                         · obtain ⟨⟨z0, z1, z2⟩, _, zt, zb⟩ := id hC
                           unfold Oper.quietAt
                           go_simp
                           first
                             | exact rfl
                             | exact ⟨rfl, rfl⟩
                             | exact (l2Get_any p n _ T i j k w.heap.size _ zt zb.size H3.out (by omega) (by omega) hk hn).mono fun e w'' h => ⟨h.1, hC.on h.2⟩
                         go_simp
                         go_big_quiet_on)
                  iterate 7
                    first
                      | go_big_quiet_skip
                      | (go_big_quiet_want
                         apply Exists.intro
                         refine ⟨fun w' hC => ?_, ?_⟩
                         · obtain ⟨⟨z0, z1, z2⟩, _, zt, zb⟩ := id hC
                           unfold Oper.quietAt
                           go_simp
                           first
                             | exact rfl
                             | exact ⟨rfl, rfl⟩
                             | exact (l2Get_any p n _ T j i k w.heap.size _ zt zb.size H3.out (by omega) (by omega) hk hn).mono fun e w'' h => ⟨h.1, hC.on h.2⟩
                         go_simp
                         go_big_quiet_on)
                  refine wpQuiet_nil (fun w' hC => ?_)
                  clear hst2
                  go_wp2
                  go_ret
                  exact ⟨ret_bool (by rw [HM4.out, HS.out, HP.out]; rfl), hC.below⟩
            · obtain rfl : n = k := by omega
              have HR5 : Hid (R = K2) := by have := HM4.out; rw [Nat.sub_self, allF, Bool.true_and] at this; exact this
              go_wp2
              go_roundw
              case rel => exact ⟨j + 1, by go_num, by omega, hst2, by show R = _; rw [HR5.out, HK2.out]⟩
              case measure => simp [intOf]; omega
        · obtain rfl : j = i + 1 := by omega
          have HR5 : Hid (R = K1) := by have := HM2.out; rw [Nat.sub_self, allF, Bool.true_and] at this; exact this
          go_wp2
          go_roundw
          case rel => exact ⟨i + 1, by go_num, by omega, hst1, by show R = _; rw [HR5.out, HK1.out]⟩
          case measure => simp [intOf]; omega
    · obtain rfl : n = i := by omega
      have HR5 : Hid (R = allF (jacS T n p) n 0) := by have := HM.out; rw [Nat.sub_self, allF, Bool.true_and, HJ.out] at this; exact this
      obtain ⟨⟨x0, x1, x2⟩, _, ht1, _⟩ := id hst
      go_wp2_with (go_at_call 126; refine (l2Jacobi_any p n _ T _ ht1.ints hp2 hn H3.out b4).mono ?_; rintro e w5 ⟨rfl, hb5⟩)
      go_ret
      exact ⟨ret_bool HR5.out.symm, (hst.on hb5).below⟩
end Go.Proofs.Ytechjmckfedblaa
