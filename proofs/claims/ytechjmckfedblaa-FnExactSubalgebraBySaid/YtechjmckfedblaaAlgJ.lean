/- The reference's l2Vector and l2Jacobi. -/
import Derived.Test.YtechjmckfedblaaAlgB
namespace Go.Proofs.Ytechjmckfedblaa
set_option maxRecDepth 100000
open Go.RowKit

theorem length_braL (T X Y : List Int) (n : Nat) (p : Int) : (braL T X Y n p).length = n := length_tab _ _
theorem resid_braL (T X Y : List Int) (n : Nat) {p : Int} (hp : 2 ≤ p) : resid p (braL T X Y n p) = true := resid_mod (by omega)
theorem length_plusL (p : Int) (xs ys : List Int) : (plusL p xs ys).length = xs.length := length_tab _ _
theorem resid_plusL {p : Int} (hp : 2 ≤ p) (xs ys : List Int) : resid p (plusL p xs ys) = true := resid_mod (by omega)
theorem length_unitL (n k : Nat) : (unitL n k).length = n := length_tab _ _
theorem resid_unitL {p : Int} (hp : 2 ≤ p) (n k : Nat) : resid p (unitL n k) = true := resid_tab fun i _ => by
  by_cases h : i = k <;> simp [h] <;> omega

def vecOk (p n : Int) (X : List Int) : Bool := decide ((X.length : Int) = n) && resid p X
/-- The three parts of a Jacobi sum, as the reference makes them. -/
def jac1 (T : List Int) (n : Nat) (p : Int) (i j k : Nat) : List Int := braL T (rowT T n i j) (unitL n k) n p
def jacSL (T : List Int) (n : Nat) (p : Int) (i j k : Nat) : List Int := plusL p (plusL p (jac1 T n p i j k) (jac1 T n p j k i)) (jac1 T n p k i j)
def jacS (T : List Int) (n : Nat) (p : Int) (i : Nat) : Bool := allF (fun j => allF (fun k => zeroL (jacSL T n p i j k)) (n - (j + 1)) (j + 1)) (n - (i + 1)) (i + 1)
/-- What is hidden behind a fact that is asked for in one place. -/
theorem jac1_any (p : Int) (n : Nat) (t x y : Value) (T : List Int) (i j k B : Nat) (w : World) (ht : IntsB w B t T) (hx : IntsB w B x (rowT T n i j)) (hy : IntsB w B y (unitL n k)) (hB : B ≤ w.heap.size) (hT : T.length = n * n * n) (hn : n ≤ 28)
    (hp : 2 ≤ p) (hp' : p ≤ 10007) (rT : resid p T = true) : Calls Try.prog 105 #[.agg #[.int .i64 p, .int .i64 n, t], x, y] w (RetOwn w (jac1 T n p i j k)) :=
  l2Bracket_any p n t x y T _ _ B w ht hx hy hB hT (by rw [rowT, length_tab]) (length_unitL _ _) hn hp hp' rT (resid_rowT rT (by omega) n i j) (resid_unitL hp n k)

set_option maxRecDepth 100000 in
set_option maxHeartbeats 4000000 in
theorem l2Jacobi_any (p : Int) (n : Nat) (t : Value) (T : List Int) (w : World) (ht : Ints w t T) (hp2 : 2 ≤ p ∧ p ≤ 10007) (hn : n ≤ 28) (b3 : T.length = n * n * n) (b4 : resid p T = true) :
    Calls Try.prog 126 #[.agg #[.int .i64 p, .int .i64 n, t]] w (RetBool w (allF (jacS T n p) n 0)) := by
  obtain ⟨A, c, rfl, h1, h2, h3⟩ := id ht
  clear h3
  have hb : Below w.heap.size w (w.alloc (.cells #[.int .i64 p, .int .i64 n, .slice A T.length c] 30)) := (Below.refl _ _).alloc (Nat.le_refl _) _
  have hst : AlgSt w (w.alloc (.cells #[.int .i64 p, .int .i64 n, .slice A T.length c] 30)) w.heap.size w.heap.size (.int .i64 p) (.int .i64 n) (.slice A T.length c) T :=
    ⟨Box3.new _ _ _ _ _, Box3.new _ _ _ _ _, ht.toB.below hb (Nat.le_refl _), hb⟩
  obtain ⟨R, hR⟩ : ∃ R, R = allF (jacS T n p) n 0 := ⟨_, rfl⟩
  rw [← hR]
  have HR := Lib.hid hR
  have H3 := Lib.hid b3
  clear hR b3 ht hb
  obtain ⟨⟨x0, x1, x2⟩, _, _, _⟩ := id hst
  go_enter Try.func126, Try.ntmps126
  go_wp2
  clear x0 x1 x2
  go_loopw [4] (fun vi wr => ∃ i : Nat, vi = .int .i64 i ∧ i ≤ n ∧ AlgSt w wr w.heap.size w.heap.size (.int .i64 p) (.int .i64 n) (.slice A T.length c) T ∧ Hid (R = allF (jacS T n p) (n - i) i)) (fun vi _ => n - (intOf vi).toNat)
  case atStart => exact ⟨0, rfl, by omega, hst, HR⟩
  case round =>
    obtain ⟨i, rfl, a1, hst, HM⟩ := hrel
    by_cases hi : i < n
    · obtain ⟨W2, rfl⟩ : ∃ W2 : World, W2 = wr := ⟨_, rfl⟩
      obtain ⟨K2, hK2⟩ : ∃ K2, K2 = allF (jacS T n p) (n - (i + 1)) (i + 1) := ⟨_, rfl⟩
      have HM1 : Hid (R = (jacS T n p i && K2)) := by
        have := HM.out
        rw [show n - i = (n - (i + 1)) + 1 from by omega, allF, ← hK2] at this
        exact this
      have HK2 := Lib.hid hK2
      clear hK2 HM
      go_wp2
      go_loopw [5] (fun vj wr => ∃ j : Nat, vj = .int .i64 j ∧ i + 1 ≤ j ∧ j ≤ n ∧ AlgSt w wr w.heap.size w.heap.size (.int .i64 p) (.int .i64 n) (.slice A T.length c) T ∧ Hid (R = (allF (fun j => allF (fun k => zeroL (jacSL T n p i j k)) (n - (j + 1)) (j + 1)) (n - j) j && K2))) (fun vj _ => n - (intOf vj).toNat)
      case atStart => exact ⟨i + 1, by go_num, by omega, by omega, hst, HM1⟩
      case round =>
        obtain ⟨j, rfl, a2, a3, hst2, HM2⟩ := hrel
        clear hst HM1
        by_cases hj : j < n
        · obtain ⟨W3, rfl⟩ : ∃ W3 : World, W3 = wr := ⟨_, rfl⟩
          obtain ⟨K3, hK3⟩ : ∃ K3, K3 = (allF (fun j => allF (fun k => zeroL (jacSL T n p i j k)) (n - (j + 1)) (j + 1)) (n - (j + 1)) (j + 1) && K2) := ⟨_, rfl⟩
          have HM3 : Hid (R = (allF (fun k => zeroL (jacSL T n p i j k)) (n - (j + 1)) (j + 1) && K3)) := by
            have := HM2.out
            rw [show n - j = (n - (j + 1)) + 1 from by omega, allF, Bool.and_assoc, ← hK3] at this
            exact this
          have HK3 := Lib.hid hK3
          clear hK3 HM2
          go_wp2
          go_loopw [6] (fun vk wr => ∃ k : Nat, vk = .int .i64 k ∧ j + 1 ≤ k ∧ k ≤ n ∧ AlgSt w wr w.heap.size w.heap.size (.int .i64 p) (.int .i64 n) (.slice A T.length c) T ∧ Hid (R = (allF (fun k => zeroL (jacSL T n p i j k)) (n - k) k && K3))) (fun vk _ => n - (intOf vk).toNat)
          case atStart => exact ⟨j + 1, by go_num, by omega, by omega, hst2, HM3⟩
          case round =>
            obtain ⟨k, rfl, a4, a5, hst3, HM4⟩ := hrel
            clear hst2 HM3
            obtain ⟨⟨x0, x1, x2⟩, _, ht3, hb3⟩ := id hst3
            by_cases hk : k < n
            · have HS := Lib.hid (show allF (fun k => zeroL (jacSL T n p i j k)) (n - k) k = (zeroL (jacSL T n p i j k) && allF (fun k => zeroL (jacSL T n p i j k)) (n - (k + 1)) (k + 1)) by
                rw [show n - k = (n - (k + 1)) + 1 from by omega, allF])
              go_wp2
              go_region_held3 (fun w' => w'.cell? ⟨w.heap.size, 0, none⟩ = some (.int .i64 p) ∧ w'.cell? ⟨w.heap.size, 1, none⟩ = some (.int .i64 n) ∧ w'.cell? ⟨w.heap.size, 2, none⟩ = some (.slice A T.length c))
                (first | exact ⟨x0, x1, x2⟩ | exact hst4.box1 | exact hst5.box1 | exact hst6.box1)
                (first
                  | (go_at_call 104; refine (l2Row_any p n _ T i j w.heap.size _ ?_ ?_ H3.out (by omega) hj hn).mono ?_; exact ht3; exact hb3.size; rintro e w4 ⟨A4, c4, rfl, hr4, hb4⟩; have hst4 := hst3.drew.on hb4)
                  | (go_at_call 146; refine (l2Basis_any n k w4 (by omega) hk).mono ?_; rintro e w5 ⟨x5, rfl, ho5, hb5⟩; have hst5 := hst4.on hb5)
                  | (go_at_call 105; (have cc := jac1_any p n _ _ _ T i j k w5.heap.size w5 hst5.tab.ints.toB (hr4.below hb5 hst4.below.size).ints.toB ho5.ints.toB (Nat.le_refl _) H3.out hn hp2.1 hp2.2 b4); refine cc.mono ?_; rintro e w6 ⟨x6, rfl, ho6, hb6⟩; have hst6 := hst5.on hb6))
              have ho6' : Own w6.drew w5.heap.size x6 (jac1 T n p i j k) := ho6
              clear hst4 hst5 hr4 hb4 ho5 hb5 hb6 cc hst3 x0 x1 x2 ht3 hb3 ho6
              obtain ⟨⟨x0, x1, x2⟩, _, ht3, hb3⟩ := id hst6
              go_wp2
              go_region_held3 (fun w' => w'.cell? ⟨w.heap.size, 0, none⟩ = some (.int .i64 p) ∧ w'.cell? ⟨w.heap.size, 1, none⟩ = some (.int .i64 n) ∧ w'.cell? ⟨w.heap.size, 2, none⟩ = some (.slice A T.length c))
                (first | exact ⟨x0, x1, x2⟩ | exact hst7.box1 | exact hst8.box1 | exact hst9.box1 | exact hst10.box1)
                (first
                  | (go_at_call 104; refine (l2Row_any p n _ T j k w.heap.size _ ?_ ?_ H3.out hj hk hn).mono ?_; exact ht3; exact hb3.size; rintro e w7 ⟨A7, c7, rfl, hr7, hb7⟩; have hst7 := hst6.drew.on hb7)
                  | (go_at_call 146; refine (l2Basis_any n i w7 (by omega) hi).mono ?_; rintro e w8 ⟨x8, rfl, ho8, hb8⟩; have hst8 := hst7.on hb8)
                  | (go_at_call 105; (have cc := jac1_any p n _ _ _ T j k i w8.heap.size w8 hst8.tab.ints.toB (hr7.below hb8 hst7.below.size).ints.toB ho8.ints.toB (Nat.le_refl _) H3.out hn hp2.1 hp2.2 b4); refine cc.mono ?_; rintro e w9 ⟨x9, rfl, ho9, hb9⟩; have hst9 := hst8.on hb9)
                  | (go_at_call 156; (have cd := l2Plus_any p _ _ _ _ w9.heap.size w9 (((ho6'.below hb7).below hb8).below hb9).ints.toB ho9.ints.toB (Nat.le_refl _) (by simp [jac1, length_braL]) (by simp only [jac1, length_braL]; omega) hp2.1 hp2.2 (resid_braL _ _ _ _ hp2.1) (resid_braL _ _ _ _ hp2.1)); refine cd.mono ?_; rintro e w10 ⟨x10, rfl, ho10, hb10⟩; have hst10 := hst9.on hb10))
              have ho10' : Own w10.drew w9.heap.size x10 (plusL p (jac1 T n p i j k) (jac1 T n p j k i)) := ho10
              clear hst7 hst8 hst9 hr7 hb7 ho8 hb8 ho9 hb9 hb10 cc cd hst6 x0 x1 x2 ht3 hb3 ho10 ho6'
              obtain ⟨⟨x0, x1, x2⟩, _, ht3, hb3⟩ := id hst10
              go_wp2
              go_region_held3 (fun w' => w'.cell? ⟨w.heap.size, 0, none⟩ = some (.int .i64 p) ∧ w'.cell? ⟨w.heap.size, 1, none⟩ = some (.int .i64 n) ∧ w'.cell? ⟨w.heap.size, 2, none⟩ = some (.slice A T.length c))
                (first | exact ⟨x0, x1, x2⟩ | exact hst11.box1 | exact hst12.box1 | exact hst13.box1 | exact hst14.box1)
                (first
                  | (go_at_call 104; refine (l2Row_any p n _ T k i w.heap.size _ ?_ ?_ H3.out hk hi hn).mono ?_; exact ht3; exact hb3.size; rintro e w11 ⟨A11, c11, rfl, hr11, hb11⟩; have hst11 := hst10.drew.on hb11)
                  | (go_at_call 146; refine (l2Basis_any n j w11 (by omega) hj).mono ?_; rintro e w12 ⟨x12, rfl, ho12, hb12⟩; have hst12 := hst11.on hb12)
                  | (go_at_call 105; (have cc := jac1_any p n _ _ _ T k i j w12.heap.size w12 hst12.tab.ints.toB (hr11.below hb12 hst11.below.size).ints.toB ho12.ints.toB (Nat.le_refl _) H3.out hn hp2.1 hp2.2 b4); refine cc.mono ?_; rintro e w13 ⟨x13, rfl, ho13, hb13⟩; have hst13 := hst12.on hb13)
                  | (go_at_call 156; (have cd := l2Plus_any p _ _ _ _ w13.heap.size w13 (((ho10'.below hb11).below hb12).below hb13).ints.toB ho13.ints.toB (Nat.le_refl _) (by simp [jac1, length_braL, length_plusL]) (by simp only [jac1, length_braL, length_plusL]; omega) hp2.1 hp2.2 (resid_plusL hp2.1 _ _) (resid_braL _ _ _ _ hp2.1)); refine cd.mono ?_; rintro e w14 ⟨x14, rfl, ho14, hb14⟩; have hst14 := hst13.on hb14))
              have hz14 : Ints w14 x14 (jacSL T n p i j k) := ho14.ints
              clear hst11 hst12 hst13 hr11 hb11 ho12 hb12 ho13 hb13 hb14 cc cd hst10 x0 x1 x2 ht3 hb3 ho14 ho10'
              by_cases z : zeroL (jacSL T n p i j k) = true
              · go_wp2_with (go_at_call 157; refine (l1IsZero_any _ _ _ hz14).mono ?_; rintro e w' ⟨rfl, rfl⟩)
                go_roundw
                case rel => exact ⟨k + 1, by go_num, by omega, by omega, hst14, by have := HM4.out; rw [HS.out, z] at this; exact this⟩
                case measure => simp [intOf]; omega
              · have z : zeroL (jacSL T n p i j k) = false := by simpa using z
                go_wp2_with (go_at_call 157; refine (l1IsZero_any _ _ _ hz14).mono ?_; rintro e w' ⟨rfl, rfl⟩)
                go_ret
                exact ⟨ret_bool (by rw [HM4.out, HS.out, z]; rfl), hst14.below⟩
            · obtain rfl : n = k := by omega
              have HR5 : Hid (R = K3) := by have := HM4.out; rw [Nat.sub_self, allF, Bool.true_and] at this; exact this
              go_wp2
              go_roundw
              case rel => exact ⟨j + 1, by go_num, by omega, by omega, hst3, by show R = _; rw [HR5.out, HK3.out]⟩
              case measure => simp [intOf]; omega
        · obtain rfl : n = j := by omega
          have HR5 : Hid (R = K2) := by have := HM2.out; rw [Nat.sub_self, allF, Bool.true_and] at this; exact this
          go_wp2
          go_roundw
          case rel => exact ⟨i + 1, by go_num, by omega, hst2, by show R = _; rw [HR5.out, HK2.out]⟩
          case measure => simp [intOf]; omega
    · obtain rfl : n = i := by omega
      have HR5 : Hid (R = true) := by have := HM.out; rw [Nat.sub_self, allF] at this; exact this
      go_wp2
      go_ret
      exact ⟨ret_bool HR5.out.symm, hst.below⟩
end Go.Proofs.Ytechjmckfedblaa
