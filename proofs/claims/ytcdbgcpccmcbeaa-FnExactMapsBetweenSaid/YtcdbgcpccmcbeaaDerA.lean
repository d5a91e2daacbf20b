/- l3Derives of the reference. IsDerivation of the program and of the reference. -/
import Derived.Test.YtcdbgcpccmcbeaaRowsJ
import Derived.Test.YtcdbgcpccmcbeaaMatO
import Derived.Test.YtcdbgcpccmcbeaaAdjA
namespace Go.Proofs.Ytcdbgcpccmcbeaa
set_option maxRecDepth 100000
section
open Go.RowKit

def derAt (T : List Int) (n : Nat) (p : Int) (D : List Int) (i j : Nat) : Bool :=
  decide (combL (rowT T n i j) (rowsM n n D) n p = plusL p (braL T (rowM n D i) (unitL n j) n p) (braL T (unitL n i) (rowM n D j) n p))
def derOk (T : List Int) (n : Nat) (p : Int) (D : List Int) : Bool := allF (fun i => allF (derAt T n p D i) i 0) n 0
theorem allF_step {f : Nat → Bool} {m i : Nat} (h : i < m) : allF f (m - i) i = (f i && allF f (m - (i + 1)) (i + 1)) := by
  rw [show m - i = (m - (i + 1)) + 1 from by omega, allF]

set_option maxHeartbeats 8000000 in
theorem l3Derives_any (p : Int) (n : Nat) (t u : Value) (T D : List Int) (w : World) (ht : Ints w t T) (hu : Ints w u D) (hT : T.length = n * n * n) (hD : D.length = n * n) (hn : n ≤ 28)
    (hp : 2 ≤ p) (hp' : p ≤ 10007) (rT : resid p T = true) (rD : resid p D = true) :
    Calls Try.prog 129 #[.agg #[.int .i64 p, .int .i64 n, t], .agg #[.int .i64 p, .int .i64 n, .int .i64 n, u]] w (RetBool w (derOk T n p D)) := by
  have h1 := ((((St.start w).arg ht).arg hu).box [.int .i64 p, .int .i64 n, t] 29).box [.int .i64 p, .int .i64 n, .int .i64 n, u] 33
  simp only [World.size_alloc] at h1
  obtain ⟨A, k, rfl, _, _, _⟩ := id ht
  obtain ⟨A2, k2, rfl, _, _, _⟩ := id hu
  have HT := Lib.hid hT
  have HD := Lib.hid hD
  have hnn := mul_le hn hn
  obtain ⟨R, hR⟩ : ∃ R, R = derOk T n p D := ⟨_, rfl⟩
  rw [← hR]
  have HR : Hid (R = allF (fun i => allF (derAt T n p D i) i 0) (n - 0) 0) := hR
  clear ht hu hT hD hR
  obtain ⟨y0, y1, y2⟩ := h1.box3 1 rfl
  go_enter Try.func129, Try.ntmps129
  go_wp2
  clear y0 y1 y2
  go_loopw [5, 6] (fun vi vj wr => ∃ i : Nat, vi = .int .i64 i ∧ i ≤ n ∧ St w wr [.box (w.heap.size + 1) [.int .i64 p, .int .i64 n, .int .i64 n, .slice A2 D.length k2], .box w.heap.size [.int .i64 p, .int .i64 n, .slice A T.length k], .ro (.slice A2 D.length k2) D, .ro (.slice A T.length k) T] ∧ Hid (R = allF (fun i => allF (derAt T n p D i) i 0) (n - i) i)) (fun vi _ _ => n - (intOf vi).toNat)
  case atStart => exact ⟨0, rfl, by omega, h1, HR⟩
  case round =>
    clear h1 HR
    obtain ⟨i, rfl, a1, h1, HR⟩ := hrel
    obtain ⟨y0, y1, y2⟩ := h1.box3 1 rfl
    by_cases hi : i < n
    · obtain ⟨K1, hK1⟩ : ∃ K1, K1 = allF (fun i => allF (derAt T n p D i) i 0) (n - (i + 1)) (i + 1) := ⟨_, rfl⟩
      have HM1 : Hid (R = (allF (derAt T n p D i) (i - 0) 0 && K1)) := by
        have := HR.out
        rw [allF_step hi, ← hK1] at this
        exact this
      have HK1 := Lib.hid hK1
      obtain ⟨W1, rfl⟩ : ∃ W1 : World, W1 = wr := ⟨_, rfl⟩
      clear hK1 HR
      go_wp2
      clear y0 y1 y2
      go_loopw [6] (fun vj wr => ∃ j : Nat, vj = .int .i64 j ∧ j ≤ i ∧ St w wr [.box (w.heap.size + 1) [.int .i64 p, .int .i64 n, .int .i64 n, .slice A2 D.length k2], .box w.heap.size [.int .i64 p, .int .i64 n, .slice A T.length k], .ro (.slice A2 D.length k2) D, .ro (.slice A T.length k) T] ∧ Hid (R = (allF (derAt T n p D i) (i - j) j && K1))) (fun vj _ => i - (intOf vj).toNat)
      case atStart => exact ⟨0, rfl, by omega, h1, HM1⟩
      case round =>
        clear h1 HM1
        obtain ⟨j, rfl, a2, h1, HM2⟩ := hrel
        by_cases hj : j < i
        · have HM3 : Hid (R = (derAt T n p D i j && (allF (derAt T n p D i) (i - (j + 1)) (j + 1) && K1))) := by
            have := HM2.out
            rw [allF_step hj, Bool.and_assoc] at this
            exact this
          clear HM2
          obtain ⟨z0, z1, z2, z3⟩ := h1.box4 0 rfl
          obtain ⟨y0, y1, y2⟩ := h1.box3 1 rfl
          go_wp2
          go_region_held3 (fun w' => w'.cell? ⟨w.heap.size + 1, 0, none⟩ = some (.int .i64 p) ∧ w'.cell? ⟨w.heap.size + 1, 1, none⟩ = some (.int .i64 n) ∧ w'.cell? ⟨w.heap.size + 1, 2, none⟩ = some (.int .i64 n) ∧ w'.cell? ⟨w.heap.size + 1, 3, none⟩ = some (.slice A2 D.length k2) ∧ w'.cell? ⟨w.heap.size, 0, none⟩ = some (.int .i64 p) ∧ w'.cell? ⟨w.heap.size, 1, none⟩ = some (.int .i64 n) ∧ w'.cell? ⟨w.heap.size, 2, none⟩ = some (.slice A T.length k))
            (first | exact ⟨z0, z1, z2, z3, y0, y1, y2⟩ | exact ⟨za0, za1, za2, za3, ya0, ya1, ya2⟩ | exact ⟨zb0, zb1, zb2, zb3, yb0, yb1, yb2⟩)
            (first
              | (go_at_call 92; refine (l2Row_any p n _ T i j w.heap.size _ ?_ ?_ HT.out (by omega) (by omega) hn).mono ?_; exact h1.drew.ro 3 rfl; exact h1.drew.size; rintro (e : Ending) w1 ⟨A3, c3, rfl, hr, hb⟩; have h2 := (h1.drew.on hb).pushRo hr; obtain ⟨za0, za1, za2, za3⟩ := h2.box4 1 rfl; obtain ⟨ya0, ya1, ya2⟩ := h2.box3 2 rfl)
              | (go_at_call 182; refine (l2Image_any p n n _ _ D (rowT T n i j) _ (h2.roInts 3 rfl) (h2.roInts 0 rfl) HD.out (length_tab _ _) (by omega) (by omega) hp hp' rD (resid_rowT rT (by omega) n i j)).mono ?_; rintro (e : Ending) w2 ⟨x, rfl, ho, hb2⟩; obtain ⟨A4, n4, c4, rfl⟩ := ho.slice; have h3 := h2.pushOwn hb2 ho; obtain ⟨zb0, zb1, zb2, zb3⟩ := h3.box4 2 rfl; obtain ⟨yb0, yb1, yb2⟩ := h3.box3 3 rfl))
          clear h1 h2 hr hb ho hb2 z0 z1 z2 z3 y0 y1 y2 za0 za1 za2 za3 ya0 ya1 ya2
          have tk1 : True := trivial
          have tk2 : True := trivial
          have tk3 : True := trivial
          go_wp2
          go_region_held3 (fun w' => w'.cell? ⟨w.heap.size + 1, 0, none⟩ = some (.int .i64 p) ∧ w'.cell? ⟨w.heap.size + 1, 1, none⟩ = some (.int .i64 n) ∧ w'.cell? ⟨w.heap.size + 1, 2, none⟩ = some (.int .i64 n) ∧ w'.cell? ⟨w.heap.size + 1, 3, none⟩ = some (.slice A2 D.length k2) ∧ w'.cell? ⟨w.heap.size, 0, none⟩ = some (.int .i64 p) ∧ w'.cell? ⟨w.heap.size, 1, none⟩ = some (.int .i64 n) ∧ w'.cell? ⟨w.heap.size, 2, none⟩ = some (.slice A T.length k))
            (first | exact ⟨zb0, zb1, zb2, zb3, yb0, yb1, yb2⟩ | exact ⟨zc0, zc1, zc2, zc3, yc0, yc1, yc2⟩ | exact ⟨zd0, zd1, zd2, zd3, yd0, yd1, yd2⟩ | exact ⟨ze0, ze1, ze2, ze3, ye0, ye1, ye2⟩ | exact ⟨zf0, zf1, zf2, zf3, yf0, yf1, yf2⟩ | exact ⟨zg0, zg1, zg2, zg3, yg0, yg1, yg2⟩ | exact ⟨zh0, zh1, zh2, zh3, yh0, yh1, yh2⟩ | exact ⟨zi0, zi1, zi2, zi3, yi0, yi1, yi2⟩)
            (first
              | (go_at_call 66; have _t := tk1; refine (l1Row_any p n n _ D i w.heap.size _ ?_ ?_ HD.out (by omega) (by omega) (by omega)).mono ?_; exact h3.drew.ro 4 rfl; exact h3.drew.size; rintro (e : Ending) w3 ⟨A5, c5, rfl, hr3, hb3⟩; have h4 := (h3.drew.on hb3).pushRo hr3; obtain ⟨zc0, zc1, zc2, zc3⟩ := h4.box4 3 rfl; obtain ⟨yc0, yc1, yc2⟩ := h4.box3 4 rfl; clear tk1 _t)
              | (go_at_call 141; have _t := tk2; refine (l2Basis_any n j _ (by omega) (by omega)).mono ?_; rintro (e : Ending) w4 ⟨x, rfl, ho4, hb4⟩; obtain ⟨A6, c6, rfl, _, _, _⟩ := id ho4.ints; have h5 := h4.pushOwn hb4 ho4; obtain ⟨zd0, zd1, zd2, zd3⟩ := h5.box4 4 rfl; obtain ⟨yd0, yd1, yd2⟩ := h5.box3 5 rfl; clear tk2 _t)
              | (go_at_call 139; have _t := tk3; refine (l2Bracket_any p n _ _ _ T (rowM n D i) (unitL n j) _ _ (h5.roUp 7 rfl) (h5.roUp 1 rfl) (h5.ownInts 0 rfl).toB (Nat.le_refl _) HT.out (length_rowM _ _ _) (length_unitL _ _) hn hp hp' rT (resid_rowM (by omega) rD n i) (resid_unitL hp n j)).mono ?_; rintro (e : Ending) w5 ⟨x, rfl, ho5, hb5⟩; obtain ⟨A7, c7, rfl, _, _, _⟩ := id ho5.ints; have h6 := h5.pushOwn hb5 ho5; obtain ⟨ze0, ze1, ze2, ze3⟩ := h6.box4 5 rfl; obtain ⟨ye0, ye1, ye2⟩ := h6.box3 6 rfl; clear tk3 _t)
              | (go_at_call 141; refine (l2Basis_any n i _ (by omega) hi).mono ?_; rintro (e : Ending) w6 ⟨x, rfl, ho6, hb6⟩; obtain ⟨A8, c8, rfl, _, _, _⟩ := id ho6.ints; have h7 := h6.pushOwn hb6 ho6; obtain ⟨zf0, zf1, zf2, zf3⟩ := h7.box4 6 rfl; obtain ⟨yf0, yf1, yf2⟩ := h7.box3 7 rfl)
              | (go_at_call 66; refine (l1Row_any p n n _ D j w.heap.size _ ?_ ?_ HD.out (by omega) (by omega) (by omega)).mono ?_; exact h7.ro 8 rfl; exact h7.size; rintro (e : Ending) w7 ⟨A9, c9, rfl, hr7, hb7⟩; have h8 := (h7.on hb7).pushRo hr7; obtain ⟨zg0, zg1, zg2, zg3⟩ := h8.box4 7 rfl; obtain ⟨yg0, yg1, yg2⟩ := h8.box3 8 rfl)
              | (go_at_call 139; refine (l2Bracket_any p n _ _ _ T (unitL n i) (rowM n D j) _ _ (h8.roUp 10 rfl) (h8.ownInts 1 rfl).toB (h8.roUp 0 rfl) (Nat.le_refl _) HT.out (length_unitL _ _) (length_rowM _ _ _) hn hp hp' rT (resid_unitL hp n i) (resid_rowM (by omega) rD n j)).mono ?_; rintro (e : Ending) w8 ⟨x, rfl, ho8, hb8⟩; obtain ⟨A10, c10, rfl, _, _, _⟩ := id ho8.ints; have h9 := h8.pushOwn hb8 ho8; obtain ⟨zh0, zh1, zh2, zh3⟩ := h9.box4 8 rfl; obtain ⟨yh0, yh1, yh2⟩ := h9.box3 9 rfl)
              | (go_at_call 183; refine (l2Plus_any p _ _ (braL T (rowM n D i) (unitL n j) n p) (braL T (unitL n i) (rowM n D j) n p) _ _ (h9.ownInts 3 rfl).toB (h9.ownInts 0 rfl).toB (Nat.le_refl _) (by rw [length_braL, length_braL]) (by rw [length_braL]; omega) hp hp' (resid_braL _ _ _ _ hp) (resid_braL _ _ _ _ hp)).mono ?_; rintro (e : Ending) w9 ⟨x, rfl, ho9, hb9⟩; obtain ⟨A11, n11, c11, rfl⟩ := ho9.slice; have h10 := h9.pushOwn hb9 ho9; obtain ⟨zi0, zi1, zi2, zi3⟩ := h10.box4 9 rfl; obtain ⟨yi0, yi1, yi2⟩ := h10.box3 10 rfl))
          clear hb3 hb4 hb5 hb6 hb7 hb8 hb9 ho4 ho5 ho6 ho8 ho9 hr3 hr7 h3 h4 h5 h6 h7 h8 h9 zb0 zb1 zb2 zb3 yb0 yb1 yb2 zc0 zc1 zc2 zc3 yc0 yc1 yc2 zd0 zd1 zd2 zd3 yd0 yd1 yd2 ze0 ze1 ze2 ze3 ye0 ye1 ye2 zf0 zf1 zf2 zf3 yf0 yf1 yf2 zg0 zg1 zg2 zg3 yg0 yg1 yg2 zh0 zh1 zh2 zh3 yh0 yh1 yh2 zi0 zi1 zi2 zi3 yi0 yi1 yi2
          go_wp2_with fail
          refine (l1Same_any _ _ (combL (rowT T n i j) (rowsM n n D) n p) (plusL p (braL T (rowM n D i) (unitL n j) n p) (braL T (unitL n i) (rowM n D j) n p)) _ (h10.ownInts 7 rfl) (h10.ownInts 0 rfl)).mono ?_
          rintro (e : Ending) w10 ⟨rfl, nd, rfl⟩
          have h12 := (h10.drewN nd).drop 9
          clear h10
          by_cases hd : derAt T n p D i j = true
          · have hd' : decide (combL (rowT T n i j) (rowsM n n D) n p = plusL p (braL T (rowM n D i) (unitL n j) n p) (braL T (unitL n i) (rowM n D j) n p)) = true := hd
            have HM4 : Hid (R = (allF (derAt T n p D i) (i - (j + 1)) (j + 1) && K1)) := by have := HM3.out; rw [hd, Bool.true_and] at this; exact this
            clear hd HM3
            go_wp2
            go_roundw
            case rel => exact ⟨j + 1, by go_num, by omega, h12, HM4⟩
            case measure => simp [intOf]; omega
          · have hd : derAt T n p D i j = false := by simpa using hd
            have hd' : decide (combL (rowT T n i j) (rowsM n n D) n p = plusL p (braL T (rowM n D i) (unitL n j) n p) (braL T (unitL n i) (rowM n D j) n p)) = false := hd
            have HM4 : Hid (R = false) := by have := HM3.out; rw [hd, Bool.false_and] at this; exact this
            clear hd HM3
            go_wp2
            go_ret
            exact ⟨ret_bool HM4.out.symm, h12.below⟩
        · obtain rfl : j = i := by omega
          have HM3 : Hid (R = K1) := by have := HM2.out; rw [Nat.sub_self, allF, Bool.true_and] at this; exact this
          go_wp2
          go_roundw
          case rel => exact ⟨j + 1, by go_num, by omega, h1, by show R = _; rw [HM3.out, HK1.out]⟩
          case measure => simp [intOf]; omega
    · obtain rfl : n = i := by omega
      have HR5 : Hid (R = true) := by have := HR.out; rw [Nat.sub_self, allF] at this; exact this
      go_wp2
      go_ret
      exact ⟨ret_bool HR5.out.symm, h1.below⟩
end
section
open Go.RowKit

theorem formOk_spec {p n q r c : Int} {D : List Int} (h : formOk p n q r c D = true) : q = p ∧ r = n ∧ c = n ∧ matOk q r c D = true := by
  simp only [formOk, Bool.and_eq_true, decide_eq_true_eq] at h
  exact ⟨h.2.1, h.2.2.1, h.2.2.2, h.1⟩
set_option maxHeartbeats 2000000 in
theorem l3Form_any (p n q r c : Int) (t u : Value) (T D : List Int) (w : World) (ht : Ints w t T) (hu : Ints w u D) (hq : q ≤ 9223372036854775807) :
    Calls Try.prog 128 #[.agg #[.int .i64 p, .int .i64 n, t], .agg #[.int .i64 q, .int .i64 r, .int .i64 c, u]] w (RetBool w (algOk p n T && formOk p n q r c D)) := by
  have h1 := ((((St.start w).arg ht).arg hu).box [.int .i64 p, .int .i64 n, t] 29).box [.int .i64 q, .int .i64 r, .int .i64 c, u] 33
  simp only [World.size_alloc] at h1
  obtain ⟨A, k, rfl, _, _, _⟩ := id ht
  obtain ⟨A2, k2, rfl, _, _, _⟩ := id hu
  clear ht hu
  obtain ⟨y0, y1, y2⟩ := h1.box3 1 rfl
  by_cases b0 : algOk p n T = true
  · rw [b0, Bool.true_and]
    go_enter Try.func128, Try.ntmps128
    go_wp2_with fail
    refine (AlgebraOkS_any p n _ T _ (h1.roInts 3 rfl)).mono ?_
    rintro e wn ⟨rfl, hb1⟩
    replace h1 := h1.on hb1
    clear hb1
    clear y0 y1 y2
    obtain ⟨z0, z1, z2, z3⟩ := h1.box4 0 rfl
    by_cases b1 : matOk q r c D = true
    · go_wp2_with fail
      refine (MatrixOkS_any q r c _ D _ (h1.roInts 2 rfl) hq).mono ?_
      rintro (e : Ending) w1 ⟨rfl, hb1⟩
      replace h1 := h1.on hb1
      clear hb1 z0 z1 z2 z3
      obtain ⟨z0, z1, z2, z3⟩ := h1.box4 0 rfl
      obtain ⟨y0, y1, y2⟩ := h1.box3 1 rfl
      go_wp2
      all_goals
        go_ret
        exact ⟨ret_bool (by simp_all [formOk] <;> rfl), h1.below⟩
    · have b1 : matOk q r c D = false := by simpa using b1
      have hF := Lib.hid (show formOk p n q r c D = false by simp [formOk, b1])
      go_wp2_with fail
      refine (MatrixOkS_any q r c _ D _ (h1.roInts 2 rfl) hq).mono ?_
      rintro e wn ⟨rfl, hb1⟩
      replace h1 := h1.on hb1
      clear hb1
      go_wp2
      go_ret
      exact ⟨ret_bool hF.out.symm, h1.below⟩
  · have b0 : algOk p n T = false := by simpa using b0
    rw [b0, Bool.false_and]
    go_enter Try.func128, Try.ntmps128
    go_wp2_with fail
    refine (AlgebraOkS_any p n _ T _ (h1.roInts 3 rfl)).mono ?_
    rintro e wn ⟨rfl, hb1⟩
    replace h1 := h1.on hb1
    clear hb1
    go_wp2
    go_ret
    exact ⟨rfl, h1.below⟩

def isDer (p n : Int) (T : List Int) (q r c : Int) (D : List Int) : Bool := algOk p n T && (formOk p n q r c D && derOk T n.toNat p D)

set_option maxHeartbeats 2000000 in
theorem IsDerivationS_any (p n q r c : Int) (t u : Value) (T D : List Int) (w : World) (ht : Ints w t T) (hu : Ints w u D) (hq : q ≤ 9223372036854775807) :
    Calls Try.prog 52 #[.agg #[.int .i64 p, .int .i64 n, t], .agg #[.int .i64 q, .int .i64 r, .int .i64 c, u]] w (RetBool w (isDer p n T q r c D)) := by
  have h1 := ((((St.start w).arg ht).arg hu).box [.int .i64 p, .int .i64 n, t] 29).box [.int .i64 q, .int .i64 r, .int .i64 c, u] 33
  simp only [World.size_alloc] at h1
  obtain ⟨A, k, rfl, _, _, _⟩ := id ht
  obtain ⟨A2, k2, rfl, _, _, _⟩ := id hu
  clear ht hu
  by_cases b0 : (algOk p n T && formOk p n q r c D) = true
  · have b0' := b0
    simp only [Bool.and_eq_true] at b0'
    obtain ⟨b1, b2⟩ := b0'
    obtain ⟨rfl, rfl, rfl, b3⟩ := formOk_spec b2
    obtain ⟨m, rfl, k1, kT, k3, k4, k5, k6⟩ := algOk_spec b1
    obtain ⟨a, b, e1, e2, _, _, kD, kR, _, _, _⟩ := matOk_spec b3
    obtain rfl : m = a := by omega
    obtain rfl : m = b := by omega
    have hR := Lib.hid (show isDer q m T q m m D = derOk T m q D by simp [isDer, b1, b2])
    have HT := Lib.hid kT
    have HD := Lib.hid kD
    clear kT kD e1 e2 b1 b2 b3
    obtain ⟨z0, z1, z2, z3⟩ := h1.box4 0 rfl
    obtain ⟨y0, y1, y2⟩ := h1.box3 1 rfl
    go_enter Try.func52, Try.ntmps52
    go_wp2_with fail
    refine (l3Form_any q m q m m _ _ T D _ (h1.roInts 3 rfl) (h1.roInts 2 rfl) hq).mono ?_
    rintro e wn ⟨rfl, hb1⟩
    replace h1 := h1.on hb1
    clear hb1
    clear z0 z1 z2 z3 y0 y1 y2
    obtain ⟨z0, z1, z2, z3⟩ := h1.box4 0 rfl
    obtain ⟨y0, y1, y2⟩ := h1.box3 1 rfl
    go_wp2_with fail
    refine (l3Derives_any q m _ _ T D _ (h1.roInts 3 rfl) (h1.roInts 2 rfl) HT.out HD.out k1 k4 k5 k3 kR).mono ?_
    rintro e wn ⟨rfl, hb1⟩
    replace h1 := h1.on hb1
    clear hb1
    go_wp2
    go_ret
    exact ⟨ret_bool hR.out.symm, h1.below⟩
  · have b0 : (algOk p n T && formOk p n q r c D) = false := by simpa using b0
    rw [show isDer p n T q r c D = false by rw [isDer, ← Bool.and_assoc, b0, Bool.false_and]]
    obtain ⟨z0, z1, z2, z3⟩ := h1.box4 0 rfl
    obtain ⟨y0, y1, y2⟩ := h1.box3 1 rfl
    go_enter Try.func52, Try.ntmps52
    go_wp2_with fail
    refine (l3Form_any p n q r c _ _ T D _ (h1.roInts 3 rfl) (h1.roInts 2 rfl) hq).mono ?_
    rintro e wn ⟨rfl, hb1⟩
    replace h1 := h1.on hb1
    clear hb1
    go_wp2
    go_ret
    exact ⟨rfl, h1.below⟩

/-- addTo between two slices of the call's own. -/
theorem addTo_st {w0 w : World} {L : List It} (h : St w0 w L) (i j : Nat) {v u : Value} {l ys : List Int} (hi : L[i]? = some (.own v l)) (hj : L[j]? = some (.own u ys)) (hij : i ≠ j) (k p : Int) (hlen : ys.length = l.length) (hln : l.length ≤ 1099511627776)
    (hp : 2 ≤ p) (hp' : p ≤ 10007) (hk : 0 ≤ k) (hk' : k ≤ p) (hl : resid p l = true) (hy : resid p ys = true) :
    Calls Try.prog 134 #[v, .int .i64 k, u, .int .i64 p] w fun e w' => e = .returned (.tuple #[]) ∧ St w0 w' (L.set i (.own v (addL l k ys p))) :=
  (addTo_any v u l ys k p w0.heap.size w (h.own i hi) (h.ownInts j hj) (fun _ g hg e => h.ne i j hi hj hij (b := g) (by simp [It.fp, hg]) (by simp [It.fp, e])) hlen hln hp hp' hk hk' hl hy).mono fun _ _ ⟨he, ho, hg⟩ => ⟨he, h.wrote i hi ho hg⟩
theorem St.vecSome {w0 w : World} {L : List It} (h : St w0 w L) (i : Nat) {A : Option Addr} {n c e sz n' : Nat} {cs : List Value} {subs : List (Value × List Int)} (hi : L[i]? = some (.vec (.slice A n c) e sz n' cs subs)) (hn : 0 < n') : ∃ g, A = some ⟨g, 0, none⟩ := by
  rcases (h.vec i hi).1.2 with ⟨_, h0⟩ | ⟨g, cap, cur, hv, _⟩
  · omega
  · simp only [Value.slice.injEq] at hv
    exact ⟨g, hv.1⟩
theorem due_eq (T X Y X' Y' : List Int) (n : Nat) (p : Int) : addL (braL T X Y n p) 1 (braL T X' Y' n p) p = plusL p (braL T X Y n p) (braL T X' Y' n p) := by
  unfold braL; rw [plusL_tab]
/-- A row of rows of the call's own. -/
theorem St.row {w0 w : World} {L : List It} (h : St w0 w L) (i : Nat) {g n c : Nat} {us : List Value} {ll : List (List Int)} (hi : L[i]? = some (rowsIt (.slice (some ⟨g, 0, none⟩) n c) us ll)) (hul : us.length = ll.length) (hn : n = ll.length) {k : Nat} (hk : k < ll.length) :
    ∃ A' c', us[k]? = some (.slice A' (rowOf ll k).length c') ∧ w.cell? ⟨g, k, none⟩ = some (.slice A' (rowOf ll k).length c') ∧ Ints w (.slice A' (rowOf ll k).length c') (rowOf ll k) := by
  subst hn
  have hu : us[k]? = some (us[k]'(by omega)) := List.getElem?_eq_getElem _
  have ho := h.sub i hi k (zip_get hu (rowOf_get hk))
  obtain ⟨A', c', he, _⟩ := ho.ints
  rw [he] at hu
  exact ⟨A', c', hu, h.vecCell i hi k hu, by rw [← he]; exact ho.ints⟩
theorem St.rowAt {w0 w : World} {L : List It} (h : St w0 w L) (i : Nat) {g n c : Nat} {us : List Value} {ll : List (List Int)} (hi : L[i]? = some (rowsIt (.slice (some ⟨g, 0, none⟩) n c) us ll)) (hn : n = ll.length) {k : Nat} {u : Value} (hu : us[k]? = some u) (hk : k < ll.length) :
    w.cell? ⟨g, k, none⟩ = some u ∧ Ints w u (rowOf ll k) := by
  subst hn
  exact ⟨h.vecCell i hi k hu, (h.sub i hi k (zip_get hu (rowOf_get hk))).ints⟩

set_option maxHeartbeats 16000000 in
theorem IsDerivationI_in (p : Int) (n : Nat) (t u : Value) (T D : List Int) (w : World) (ht : Ints w t T) (hu : Ints w u D) (b1 : algOk p n T = true) (b2 : formOk p n p n n D = true) (hT : T.length = n * n * n) (hD : D.length = n * n) (hn : n ≤ 28)
    (hp : 2 ≤ p) (hp' : p ≤ 10007) (rT : resid p T = true) (rD : resid p D = true) :
    Calls Try.prog 56 #[.agg #[.int .i64 p, .int .i64 n, t], .agg #[.int .i64 p, .int .i64 n, .int .i64 n, u]] w (RetBool w (derOk T n p D)) := by
  have h1 := ((((St.start w).arg ht).arg hu).box [.int .i64 p, .int .i64 n, t] 29).box [.int .i64 p, .int .i64 n, .int .i64 n, u] 33
  simp only [World.size_alloc] at h1
  obtain ⟨A, k, rfl, _, _, _⟩ := id ht
  obtain ⟨A2, k2, rfl, _, _, _⟩ := id hu
  have HT := Lib.hid hT
  have HD := Lib.hid hD
  have hnn := mul_le hn hn
  obtain ⟨R, hR⟩ : ∃ R, R = derOk T n p D := ⟨_, rfl⟩
  rw [← hR]
  have HR : Hid (R = allF (fun i => allF (derAt T n p D i) i 0) (n - 0) 0) := hR
  have HLen := Lib.hid (length_rowsM n n D)
  have HWf := Lib.hid (Wf_rowsM (p := p) (by omega) (r := n) (c := n) rD)
  have HRow := Lib.hid (fun (i : Nat) (hi : i < n) => rowOf_rowsM (r := n) (c := n) (D := D) hi)
  clear ht hu hT hD hR
  obtain ⟨z0, z1, z2, z3⟩ := h1.box4 0 rfl
  obtain ⟨y0, y1, y2⟩ := h1.box3 1 rfl
  go_enter Try.func56, Try.ntmps56
  go_wp2_with fail
  refine (AlgebraOkI_any p n _ T _ (h1.roInts 3 rfl) (by omega)).mono ?_
  rintro e wn ⟨rfl, hb1⟩
  replace h1 := h1.on hb1
  clear hb1
  clear z0 z1 z2 z3 y0 y1 y2
  obtain ⟨z0, z1, z2, z3⟩ := h1.box4 0 rfl
  obtain ⟨y0, y1, y2⟩ := h1.box3 1 rfl
  go_wp2_with fail
  refine (isForm_any p n p n n _ _ T D _ (h1.roInts 3 rfl) (h1.roInts 2 rfl) (by omega)).mono ?_
  rintro e wn ⟨rfl, hb1⟩
  replace h1 := h1.on hb1
  clear hb1
  clear z0 z1 z2 z3 y0 y1 y2
  obtain ⟨y0, y1, y2⟩ := h1.box3 1 rfl
  go_wp2_with fail
  refine (newLie_any p n _ _ _ _ _ rfl).mono ?_
  rintro (e : Ending) w9 ⟨rfl, hb1⟩
  replace h1 := (h1.on hb1).box [.int .i64 p, .int .i64 n, .slice A T.length k] 69
  clear y0 y1 y2 hb1
  obtain ⟨z0, z1, z2, z3⟩ := h1.box4 1 rfl
  go_wp2_with fail
  refine (rowsOf_any p n n _ D _ (h1.roInts 3 rfl) HD.out (by omega) (by omega)).mono ?_
  rintro (e : Ending) w8 ⟨vr, us, rfl, hul, hok, hnd, hb1⟩
  obtain ⟨Ar, cr, rfl, _, _, _⟩ := id (It.rows hok hul)
  replace h1 := h1.pushRows hb1 hok hnd
  have Hul := Lib.hid hul
  clear hok hnd hb1 z0 z1 z2 z3 hul
  obtain ⟨y0, y1, y2⟩ := h1.box3 3 rfl
  rw [HLen.out] at h1 ⊢
  go_wp2
  clear y0 y1 y2
  go_loopw [7, 8, 25, 29] (fun va vb vi vj wr => ∃ i : Nat, vi = .int .i64 i ∧ i ≤ n ∧ St w wr [rowsIt (.slice Ar n cr) us (rowsM n n D), .box w9.heap.size [.int .i64 p, .int .i64 n, .slice A T.length k], .box (w.heap.size + 1) [.int .i64 p, .int .i64 n, .int .i64 n, .slice A2 D.length k2], .box w.heap.size [.int .i64 p, .int .i64 n, .slice A T.length k], .ro (.slice A2 D.length k2) D, .ro (.slice A T.length k) T] ∧ Hid (R = allF (fun i => allF (derAt T n p D i) i 0) (n - i) i)) (fun _ _ vi _ _ => n - (intOf vi).toNat)
  case atStart => exact ⟨0, rfl, by omega, h1, HR⟩
  case round =>
    clear h1 HR
    obtain ⟨i, rfl, a1, h1, HR⟩ := hrel
    by_cases hi : i < n
    · obtain ⟨K1, hK1⟩ : ∃ K1, K1 = allF (fun i => allF (derAt T n p D i) i 0) (n - (i + 1)) (i + 1) := ⟨_, rfl⟩
      have HM1 : Hid (R = (allF (derAt T n p D i) (i - 0) 0 && K1)) := by
        have := HR.out
        rw [allF_step hi, ← hK1] at this
        exact this
      have HK1 := Lib.hid hK1
      clear hK1 HR
      obtain ⟨gr, rfl⟩ := h1.vecSome 0 rfl (by rw [HLen.out]; omega)
      obtain ⟨Ai, ci, hui, _, _⟩ := h1.row 0 rfl (by rw [HLen.out]; exact Hul.out.trans HLen.out) HLen.out.symm (k := i) (by rw [HLen.out]; exact hi)
      obtain ⟨W1, rfl⟩ : ∃ W1 : World, W1 = wr := ⟨_, rfl⟩
      go_wp2
      go_loopw [8, 29] (fun vb vj wr => ∃ j : Nat, vj = .int .i64 j ∧ j ≤ i ∧ St w wr [rowsIt (.slice (some ⟨gr, 0, none⟩) n cr) us (rowsM n n D), .box w9.heap.size [.int .i64 p, .int .i64 n, .slice A T.length k], .box (w.heap.size + 1) [.int .i64 p, .int .i64 n, .int .i64 n, .slice A2 D.length k2], .box w.heap.size [.int .i64 p, .int .i64 n, .slice A T.length k], .ro (.slice A2 D.length k2) D, .ro (.slice A T.length k) T] ∧ Hid (R = (allF (derAt T n p D i) (i - j) j && K1))) (fun _ vj _ => i - (intOf vj).toNat)
      case atStart => exact ⟨0, rfl, by omega, h1, HM1⟩
      case round =>
        clear h1 HM1
        obtain ⟨j, rfl, a2, h1, HM2⟩ := hrel
        by_cases hj : j < i
        · have HM3 : Hid (R = (derAt T n p D i j && (allF (derAt T n p D i) (i - (j + 1)) (j + 1) && K1))) := by
            have := HM2.out
            rw [allF_step hj, Bool.and_assoc] at this
            exact this
          clear HM2
          obtain ⟨Aj, cj, huj, _, _⟩ := h1.row 0 rfl (by rw [HLen.out]; exact Hul.out.trans HLen.out) HLen.out.symm (k := j) (by rw [HLen.out]; omega)
          have i1 : (i : Int) < n := by omega
          have i2 : (j : Int) < n := by omega
          obtain ⟨qi1, qi2⟩ := HWf.out i (by rw [HLen.out]; exact hi)
          obtain ⟨qj1, qj2⟩ := HWf.out j (by rw [HLen.out]; omega)
          have Qi := Lib.hid qi1
          have Qj := Lib.hid qj1
          clear qi1 qj1
          go_wp2
          refine h1.region_tail 6 (by kernel_rfl) (by kernel_rfl) ?_
          simp only [List.take_succ_cons, List.take_zero, List.drop_succ_cons, List.drop_zero]
          iterate 6
            apply wpQuiet_op
            · exact rfl
            · intro w' hC
              obtain ⟨z0, z1, z2⟩ := hC.box3 1 rfl
              have z3 := (hC.rowAt 0 rfl HLen.out.symm hui (by rw [HLen.out]; exact hi)).1
              unfold Oper.quietAt
              go_simp
              first | exact rfl | exact ⟨rfl, rfl⟩
            go_simp
          refine wpQuiet_nil (fun wn hC => ?_)
          replace h1 := hC
          clear hC
          go_wp2_with fail
          refine (right_any p n _ _ T (rowOf (rowsM n n D) i) j _ _ (h1.roUp 5 rfl) (h1.rowAt 0 rfl HLen.out.symm hui (by rw [HLen.out]; exact hi)).2.toB (Nat.le_refl _) HT.out Qi.out (by omega) hn hp hp' rT qi2).mono ?_
          rintro (e : Ending) w1 ⟨x, rfl, ho, hb1⟩
          obtain ⟨A5, n5, c5, rfl⟩ := ho.slice
          have h2 := h1.pushOwn hb1 ho
          clear h1 ho hb1
          obtain ⟨z0, z1, z2⟩ := h2.box3 2 rfl
          obtain ⟨z3, z4, _⟩ := h2.box3 4 rfl
          have z5 := (h2.rowAt 1 rfl HLen.out.symm huj (by rw [HLen.out]; omega)).1
          go_wp2
          go_region_held3 (fun w' => w'.cell? ⟨w9.heap.size, 0, none⟩ = some (.int .i64 p) ∧ w'.cell? ⟨w9.heap.size, 1, none⟩ = some (.int .i64 n) ∧ w'.cell? ⟨w9.heap.size, 2, none⟩ = some (.slice A T.length k) ∧ w'.cell? ⟨w.heap.size, 0, none⟩ = some (.int .i64 p) ∧ w'.cell? ⟨w.heap.size, 1, none⟩ = some (.int .i64 n) ∧ w'.cell? ⟨gr, j, none⟩ = some (.slice Aj (rowOf (rowsM n n D) j).length cj))
            (first | exact ⟨z0, z1, z2, z3, z4, z5⟩ | exact ⟨x0, x1, x2, x3, x4, x5⟩ | exact ⟨y0, y1, y2, y3, y4, y5⟩ | exact ⟨v0, v1, v2, v3, v4, v5⟩)
            (first
              | (go_at_call 135; refine (unit_any n i _ (by omega) hi).mono ?_; rintro (e : Ending) w2 ⟨q, rfl, ho2, hb2⟩; obtain ⟨A6, c6, rfl, _, _, _⟩ := id ho2.ints; have h3 := h2.drew.pushOwn hb2 ho2; obtain ⟨x0, x1, x2⟩ := h3.box3 3 rfl; obtain ⟨x3, x4, _⟩ := h3.box3 5 rfl; have x5 := (h3.rowAt 2 rfl HLen.out.symm huj (by rw [HLen.out]; omega)).1)
              | (go_at_call 80; refine (bracket_any p n _ _ _ T (unitL n i) (rowOf (rowsM n n D) j) _ _ (h3.roUp 7 rfl) (h3.ownInts 0 rfl).toB (h3.rowAt 2 rfl HLen.out.symm huj (by rw [HLen.out]; omega)).2.toB (Nat.le_refl _) HT.out (length_unitL _ _) Qj.out hn hp hp' rT (resid_unitL hp n i) qj2).mono ?_; rintro (e : Ending) w3 ⟨q, rfl, ho3, hb3⟩; obtain ⟨A7, n7, c7, rfl⟩ := ho3.slice; have h4 := h3.pushOwn hb3 ho3; obtain ⟨y0, y1, y2⟩ := h4.box3 4 rfl; obtain ⟨y3, y4, _⟩ := h4.box3 6 rfl; have y5 := (h4.rowAt 3 rfl HLen.out.symm huj (by rw [HLen.out]; omega)).1)
              | (go_at_call 134; refine (addTo_st h4 2 0 rfl rfl (by decide) 1 p (by rw [bracketL, rightL, length_tab, length_tab]) (by rw [rightL, length_tab]; omega) hp hp' (by omega) (by omega) (resid_mod (by omega)) (resid_mod (by omega))).mono ?_; rintro (e : Ending) w4 ⟨rfl, h5⟩; obtain ⟨v0, v1, v2⟩ := h5.box3 4 rfl; obtain ⟨v3, v4, _⟩ := h5.box3 6 rfl; have v5 := (h5.rowAt 3 rfl HLen.out.symm huj (by rw [HLen.out]; omega)).1))
          have hdue : addL (rightL T (rowOf (rowsM n n D) i) n p j) 1 (bracketL T (unitL n i) (rowOf (rowsM n n D) j) n p) p = plusL p (braL T (rowM n D i) (unitL n j) n p) (braL T (unitL n i) (rowM n D j) n p) := by
            rw [rightL_eq T _ n p (by omega), bracketL_eq, due_eq, HRow.out i hi, HRow.out j (by omega)]
          have h6 := h5.drop 2
          change St w w4 (.own (.slice A5 n5 c5) (addL (rightL T (rowOf (rowsM n n D) i) n p j) 1 (bracketL T (unitL n i) (rowOf (rowsM n n D) j) n p) p) :: _) at h6
          rw [hdue] at h6
          clear hdue h2 h3 h4 h5 ho2 ho3 hb2 hb3 z0 z1 z2 z3 z4 z5 x0 x1 x2 x3 x4 x5 y0 y1 y2 y3 y4 y5 v0 v1 v2 v3 v4 v5
          by_cases hd : derAt T n p D i j = true
          · have hd' : decide (combL (rowT T n i j) (rowsM n n D) n p = plusL p (braL T (rowM n D i) (unitL n j) n p) (braL T (unitL n i) (rowM n D j) n p)) = true := hd
            have HM4 : Hid (R = (allF (derAt T n p D i) (i - (j + 1)) (j + 1) && K1)) := by have := HM3.out; rw [hd, Bool.true_and] at this; exact this
            clear hd HM3
            obtain ⟨z0, z1, z2⟩ := h6.box3 2 rfl
            obtain ⟨z3, z4, _⟩ := h6.box3 4 rfl
            go_wp2
            go_region_held3 (fun w' => w'.cell? ⟨w9.heap.size, 0, none⟩ = some (.int .i64 p) ∧ w'.cell? ⟨w9.heap.size, 1, none⟩ = some (.int .i64 n) ∧ w'.cell? ⟨w9.heap.size, 2, none⟩ = some (.slice A T.length k) ∧ w'.cell? ⟨w.heap.size, 0, none⟩ = some (.int .i64 p) ∧ w'.cell? ⟨w.heap.size, 1, none⟩ = some (.int .i64 n))
              (first | exact ⟨z0, z1, z2, z3, z4⟩ | exact ⟨x0, x1, x2, x3, x4⟩ | exact ⟨y0, y1, y2, y3, y4⟩ | exact ⟨v0, v1, v2, v3, v4⟩)
              (first
                | (go_at_call 61; refine (pair_any p n _ T i j w.heap.size _ ?_ ?_ HT.out hi (by omega) hn).mono ?_; exact h6.drew.ro 6 rfl; exact h6.drew.size; rintro (e : Ending) w5 ⟨A6, c6, rfl, hr, hb5⟩; have h7 := (h6.drew.on hb5).pushRo hr; obtain ⟨x0, x1, x2⟩ := h7.box3 3 rfl; obtain ⟨x3, x4, _⟩ := h7.box3 5 rfl)
                | (go_at_call 136; refine (combine_any p n _ _ (rowT T n i j) (rowsM n n D) _ (h7.roInts 0 rfl) (h7.rowsR 2 rfl Hul.out) (by rw [HLen.out, rowT, length_tab]) (by rw [HLen.out]; omega) (by omega) HWf.out hp hp' (resid_rowT rT (by omega) n i j)).mono ?_; rintro (e : Ending) w6 ⟨q, rfl, ho6, hb6⟩; obtain ⟨A7, n7, c7, rfl⟩ := ho6.slice; have h8 := h7.pushOwn hb6 ho6; obtain ⟨y0, y1, y2⟩ := h8.box3 4 rfl; obtain ⟨y3, y4, _⟩ := h8.box3 6 rfl)
                | (go_at_call 72; refine (Equal_any _ _ (combL (rowT T n i j) (rowsM n n D) n p) (plusL p (braL T (rowM n D i) (unitL n j) n p) (braL T (unitL n i) (rowM n D j) n p)) _ (h8.ownInts 0 rfl) (h8.ownInts 2 rfl)).mono ?_; rintro (e : Ending) w7 ⟨rfl, nd, rfl⟩; have h9 := h8.drewN nd; obtain ⟨v0, v1, v2⟩ := h9.box3 4 rfl; obtain ⟨v3, v4, _⟩ := h9.box3 6 rfl))
            have h12 := h9.drop 3
            clear h6 h7 h8 h9 hr hb5 hb6 ho6 z0 z1 z2 z3 z4 x0 x1 x2 x3 x4 y0 y1 y2 y3 y4 v0 v1 v2 v3 v4
            go_wp2
            go_roundw
            case rel => exact ⟨j + 1, by go_num, by omega, h12, HM4⟩
            case measure => simp [intOf]; omega
          · have hd : derAt T n p D i j = false := by simpa using hd
            have hd' : decide (combL (rowT T n i j) (rowsM n n D) n p = plusL p (braL T (rowM n D i) (unitL n j) n p) (braL T (unitL n i) (rowM n D j) n p)) = false := hd
            have HM4 : Hid (R = false) := by have := HM3.out; rw [hd, Bool.false_and] at this; exact this
            clear hd HM3
            obtain ⟨z0, z1, z2⟩ := h6.box3 2 rfl
            obtain ⟨z3, z4, _⟩ := h6.box3 4 rfl
            go_wp2
            go_region_held3 (fun w' => w'.cell? ⟨w9.heap.size, 0, none⟩ = some (.int .i64 p) ∧ w'.cell? ⟨w9.heap.size, 1, none⟩ = some (.int .i64 n) ∧ w'.cell? ⟨w9.heap.size, 2, none⟩ = some (.slice A T.length k) ∧ w'.cell? ⟨w.heap.size, 0, none⟩ = some (.int .i64 p) ∧ w'.cell? ⟨w.heap.size, 1, none⟩ = some (.int .i64 n))
              (first | exact ⟨z0, z1, z2, z3, z4⟩ | exact ⟨x0, x1, x2, x3, x4⟩ | exact ⟨y0, y1, y2, y3, y4⟩ | exact ⟨v0, v1, v2, v3, v4⟩)
              (first
                | (go_at_call 61; refine (pair_any p n _ T i j w.heap.size _ ?_ ?_ HT.out hi (by omega) hn).mono ?_; exact h6.drew.ro 6 rfl; exact h6.drew.size; rintro (e : Ending) w5 ⟨A6, c6, rfl, hr, hb5⟩; have h7 := (h6.drew.on hb5).pushRo hr; obtain ⟨x0, x1, x2⟩ := h7.box3 3 rfl; obtain ⟨x3, x4, _⟩ := h7.box3 5 rfl)
                | (go_at_call 136; refine (combine_any p n _ _ (rowT T n i j) (rowsM n n D) _ (h7.roInts 0 rfl) (h7.rowsR 2 rfl Hul.out) (by rw [HLen.out, rowT, length_tab]) (by rw [HLen.out]; omega) (by omega) HWf.out hp hp' (resid_rowT rT (by omega) n i j)).mono ?_; rintro (e : Ending) w6 ⟨q, rfl, ho6, hb6⟩; obtain ⟨A7, n7, c7, rfl⟩ := ho6.slice; have h8 := h7.pushOwn hb6 ho6; obtain ⟨y0, y1, y2⟩ := h8.box3 4 rfl; obtain ⟨y3, y4, _⟩ := h8.box3 6 rfl)
                | (go_at_call 72; refine (Equal_any _ _ (combL (rowT T n i j) (rowsM n n D) n p) (plusL p (braL T (rowM n D i) (unitL n j) n p) (braL T (unitL n i) (rowM n D j) n p)) _ (h8.ownInts 0 rfl) (h8.ownInts 2 rfl)).mono ?_; rintro (e : Ending) w7 ⟨rfl, nd, rfl⟩; have h9 := h8.drewN nd; obtain ⟨v0, v1, v2⟩ := h9.box3 4 rfl; obtain ⟨v3, v4, _⟩ := h9.box3 6 rfl))
            have h12 := h9.drop 3
            clear h6 h7 h8 h9 hr hb5 hb6 ho6 z0 z1 z2 z3 z4 x0 x1 x2 x3 x4 y0 y1 y2 y3 y4 v0 v1 v2 v3 v4
            go_wp2
            go_ret
            exact ⟨ret_bool HM4.out.symm, h12.below⟩
        · obtain rfl : j = i := by omega
          have HM3 : Hid (R = K1) := by have := HM2.out; rw [Nat.sub_self, allF, Bool.true_and] at this; exact this
          go_wp2
          go_roundw
          case rel => exact ⟨j + 1, by go_num, by omega, h1, by show R = _; rw [HM3.out, HK1.out]⟩
          case measure => simp [intOf]; omega
    · obtain rfl : n = i := by omega
      have HR5 : Hid (R = true) := by have := HR.out; rw [Nat.sub_self, allF] at this; exact this
      go_wp2
      go_ret
      exact ⟨ret_bool HR5.out.symm, h1.below⟩
set_option maxHeartbeats 2000000 in
theorem IsDerivationI_any (p n q r c : Int) (t u : Value) (T D : List Int) (w : World) (ht : Ints w t T) (hu : Ints w u D) (hp : p ≤ 9223372036854775807) (hq : q ≤ 9223372036854775807) :
    Calls Try.prog 56 #[.agg #[.int .i64 p, .int .i64 n, t], .agg #[.int .i64 q, .int .i64 r, .int .i64 c, u]] w (RetBool w (isDer p n T q r c D)) := by
  by_cases b0 : (algOk p n T && formOk p n q r c D) = true
  · have b0' := b0
    simp only [Bool.and_eq_true] at b0'
    obtain ⟨b1, b2⟩ := b0'
    have b2' := b2
    obtain ⟨rfl, rfl, rfl, b3⟩ := formOk_spec b2
    have b1' := b1
    obtain ⟨m, rfl, k1, kT, k3, k4, k5, k6⟩ := algOk_spec b1
    obtain ⟨a, b, e1, e2, _, _, kD, kR, _, _, _⟩ := matOk_spec b3
    obtain rfl : m = a := by omega
    obtain rfl : m = b := by omega
    rw [show isDer q m T q m m D = derOk T m q D by simp [isDer, b1, b2]]
    exact IsDerivationI_in q m t u T D w ht hu b1 b2 kT kD k1 k4 k5 k3 kR
  · have b0 : (algOk p n T && formOk p n q r c D) = false := by simpa using b0
    rw [show isDer p n T q r c D = false by rw [isDer, ← Bool.and_assoc, b0, Bool.false_and]]
    have h1 := ((((St.start w).arg ht).arg hu).box [.int .i64 p, .int .i64 n, t] 29).box [.int .i64 q, .int .i64 r, .int .i64 c, u] 33
    simp only [World.size_alloc] at h1
    obtain ⟨A, k, rfl, _, _, _⟩ := id ht
    obtain ⟨A2, k2, rfl, _, _, _⟩ := id hu
    clear ht hu
    obtain ⟨z0, z1, z2, z3⟩ := h1.box4 0 rfl
    obtain ⟨y0, y1, y2⟩ := h1.box3 1 rfl
    by_cases b1 : algOk p n T = true
    · have b2 : formOk p n q r c D = false := by rw [b1, Bool.true_and] at b0; exact b0
      go_enter Try.func56, Try.ntmps56
      go_wp2_with fail
      refine (AlgebraOkI_any p n _ T _ (h1.roInts 3 rfl) hp).mono ?_
      rintro e wn ⟨rfl, hb1⟩
      replace h1 := h1.on hb1
      clear hb1
      clear z0 z1 z2 z3 y0 y1 y2
      obtain ⟨z0, z1, z2, z3⟩ := h1.box4 0 rfl
      obtain ⟨y0, y1, y2⟩ := h1.box3 1 rfl
      go_wp2_with fail
      refine (isForm_any p n q r c _ _ T D _ (h1.roInts 3 rfl) (h1.roInts 2 rfl) hq).mono ?_
      rintro e wn ⟨rfl, hb1⟩
      replace h1 := h1.on hb1
      clear hb1
      go_wp2
      go_ret
      exact ⟨rfl, h1.below⟩
    · have b1 : algOk p n T = false := by simpa using b1
      go_enter Try.func56, Try.ntmps56
      go_wp2_with fail
      refine (AlgebraOkI_any p n _ T _ (h1.roInts 3 rfl) hp).mono ?_
      rintro e wn ⟨rfl, hb1⟩
      replace h1 := h1.on hb1
      clear hb1
      go_wp2
      go_ret
      exact ⟨rfl, h1.below⟩
end
end Go.Proofs.Ytcdbgcpccmcbeaa
