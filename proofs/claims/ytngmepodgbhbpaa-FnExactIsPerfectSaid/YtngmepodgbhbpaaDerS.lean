/- l3Derives of the reference. -/
import Derived.Test.YtngmepodgbhbpaaImage
import Derived.Test.YtngmepodgbhbpaaForm
import Derived.Test.YtngmepodgbhbpaaAdjS
namespace Go.Proofs.Ytngmepodgbhbpaa
set_option maxRecDepth 100000
open Go.RowKit

def derAt (T : List Int) (n : Nat) (p : Int) (D : List Int) (i j : Nat) : Bool :=
  decide (combL (rowT T n i j) (rowsM n n D) n p = plusL p (braL T (rowM n D i) (unitL n j) n p) (braL T (unitL n i) (rowM n D j) n p))
def derOk (T : List Int) (n : Nat) (p : Int) (D : List Int) : Bool := allF (fun i => allF (derAt T n p D i) i 0) n 0
theorem allF_step {f : Nat → Bool} {m i : Nat} (h : i < m) : allF f (m - i) i = (f i && allF f (m - (i + 1)) (i + 1)) := by
  rw [show m - i = (m - (i + 1)) + 1 from by omega, allF]

set_option maxHeartbeats 8000000 in
theorem l3Derives_any (p : Int) (n : Nat) (t u : Value) (T D : List Int) (w : World) (ht : Ints w t T) (hu : Ints w u D) (hT : T.length = n * n * n) (hD : D.length = n * n) (hn : n ≤ 28)
    (hp : 2 ≤ p) (hp' : p ≤ 10007) (rT : resid p T = true) (rD : resid p D = true) :
    Calls Try.prog 81 #[.agg #[.int .i64 p, .int .i64 n, t], .agg #[.int .i64 p, .int .i64 n, .int .i64 n, u]] w (RetBool w (derOk T n p D)) := by
  have h1 := ((((St.start w).arg ht).arg hu).box [.int .i64 p, .int .i64 n, t] 27).box [.int .i64 p, .int .i64 n, .int .i64 n, u] 44
  simp only [World.size_alloc] at h1
  obtain ⟨A, k, rfl, _, _, _⟩ := id ht
  obtain ⟨A2, k2, rfl, _, _, _⟩ := id hu
  have HT := Lib.hid hT
  have HD := Lib.hid hD
  have hnn := mul_le hn hn
  obtain ⟨R, hR⟩ : ∃ R, R = derOk T n p D := ⟨_, rfl⟩
  rw [← hR]
  have HR : Hid (R = allF (fun i => allF (derAt T n p D i) i 0) (n - 0) 0) := hR
  clear ht hu hT hD hR
  obtain ⟨y0, y1, y2⟩ := h1.box3 1 rfl
  go_enter Try.func81, Try.ntmps81
  go_wp2
  clear y0 y1 y2
  go_loopw [5, 6] (fun vi vj wr => ∃ i : Nat, vi = .int .i64 i ∧ i ≤ n ∧ St w wr [.box (w.heap.size + 1) [.int .i64 p, .int .i64 n, .int .i64 n, .slice A2 D.length k2], .box w.heap.size [.int .i64 p, .int .i64 n, .slice A T.length k], .ro (.slice A2 D.length k2) D, .ro (.slice A T.length k) T] ∧ Hid (R = allF (fun i => allF (derAt T n p D i) i 0) (n - i) i)) (fun vi _ _ => n - (intOf vi).toNat)
  case atStart => exact ⟨0, rfl, by omega, h1, HR⟩
  case round =>
    clear h1 HR
    obtain ⟨i, rfl, a1, h1, HR⟩ := hrel
    obtain ⟨y0, y1, y2⟩ := h1.box3 1 rfl
    by_cases hi : i < n
    · obtain ⟨K1, hK1⟩ : ∃ K1, K1 = allF (fun i => allF (derAt T n p D i) i 0) (n - (i + 1)) (i + 1) := ⟨_, rfl⟩
      have HM1 : Hid (R = (allF (derAt T n p D i) (i - 0) 0 && K1)) := by
        have := HR.out
        rw [allF_step hi, ← hK1] at this
        exact this
      have HK1 := Lib.hid hK1
      obtain ⟨W1, rfl⟩ : ∃ W1 : World, W1 = wr := ⟨_, rfl⟩
      clear hK1 HR
      go_wp2
      clear y0 y1 y2
      go_loopw [6] (fun vj wr => ∃ j : Nat, vj = .int .i64 j ∧ j ≤ i ∧ St w wr [.box (w.heap.size + 1) [.int .i64 p, .int .i64 n, .int .i64 n, .slice A2 D.length k2], .box w.heap.size [.int .i64 p, .int .i64 n, .slice A T.length k], .ro (.slice A2 D.length k2) D, .ro (.slice A T.length k) T] ∧ Hid (R = (allF (derAt T n p D i) (i - j) j && K1))) (fun vj _ => i - (intOf vj).toNat)
      case atStart => exact ⟨0, rfl, by omega, h1, HM1⟩
      case round =>
        clear h1 HM1
        obtain ⟨j, rfl, a2, h1, HM2⟩ := hrel
        by_cases hj : j < i
        · have HM3 : Hid (R = (derAt T n p D i j && (allF (derAt T n p D i) (i - (j + 1)) (j + 1) && K1))) := by
            have := HM2.out
            rw [allF_step hj, Bool.and_assoc] at this
            exact this
          clear HM2
          obtain ⟨z0, z1, z2, z3⟩ := h1.box4 0 rfl
          obtain ⟨y0, y1, y2⟩ := h1.box3 1 rfl
          go_wp2
          go_region_held3 (fun w' => w'.cell? ⟨w.heap.size + 1, 0, none⟩ = some (.int .i64 p) ∧ w'.cell? ⟨w.heap.size + 1, 1, none⟩ = some (.int .i64 n) ∧ w'.cell? ⟨w.heap.size + 1, 2, none⟩ = some (.int .i64 n) ∧ w'.cell? ⟨w.heap.size + 1, 3, none⟩ = some (.slice A2 D.length k2) ∧ w'.cell? ⟨w.heap.size, 0, none⟩ = some (.int .i64 p) ∧ w'.cell? ⟨w.heap.size, 1, none⟩ = some (.int .i64 n) ∧ w'.cell? ⟨w.heap.size, 2, none⟩ = some (.slice A T.length k))
            (first | exact ⟨z0, z1, z2, z3, y0, y1, y2⟩ | exact ⟨za0, za1, za2, za3, ya0, ya1, ya2⟩ | exact ⟨zb0, zb1, zb2, zb3, yb0, yb1, yb2⟩)
            (first
              | (go_at_call 73; refine (l2Row_any p n _ T i j w.heap.size _ ?_ ?_ HT.out (by omega) (by omega) hn).mono ?_; exact h1.drew.ro 3 rfl; exact h1.drew.size; rintro (e : Ending) w1 ⟨A3, c3, rfl, hr, hb⟩; have h2 := (h1.drew.on hb).pushRo hr; obtain ⟨za0, za1, za2, za3⟩ := h2.box4 1 rfl; obtain ⟨ya0, ya1, ya2⟩ := h2.box3 2 rfl)
              | (go_at_call 72; refine (l2Image_any p n n _ _ D (rowT T n i j) _ (h2.roInts 3 rfl) (h2.roInts 0 rfl) HD.out (length_tab _ _) (by omega) (by omega) hp hp' rD (resid_rowT rT (by omega) n i j)).mono ?_; rintro (e : Ending) w2 ⟨x, rfl, ho, hb2⟩; obtain ⟨A4, n4, c4, rfl⟩ := ho.slice; have h3 := h2.pushOwn hb2 ho; obtain ⟨zb0, zb1, zb2, zb3⟩ := h3.box4 2 rfl; obtain ⟨yb0, yb1, yb2⟩ := h3.box3 3 rfl))
          clear h1 h2 hr hb ho hb2 z0 z1 z2 z3 y0 y1 y2 za0 za1 za2 za3 ya0 ya1 ya2
          have tk1 : True := trivial
          have tk2 : True := trivial
          have tk3 : True := trivial
          go_wp2
          go_region_held3 (fun w' => w'.cell? ⟨w.heap.size + 1, 0, none⟩ = some (.int .i64 p) ∧ w'.cell? ⟨w.heap.size + 1, 1, none⟩ = some (.int .i64 n) ∧ w'.cell? ⟨w.heap.size + 1, 2, none⟩ = some (.int .i64 n) ∧ w'.cell? ⟨w.heap.size + 1, 3, none⟩ = some (.slice A2 D.length k2) ∧ w'.cell? ⟨w.heap.size, 0, none⟩ = some (.int .i64 p) ∧ w'.cell? ⟨w.heap.size, 1, none⟩ = some (.int .i64 n) ∧ w'.cell? ⟨w.heap.size, 2, none⟩ = some (.slice A T.length k))
            (first | exact ⟨zb0, zb1, zb2, zb3, yb0, yb1, yb2⟩ | exact ⟨zc0, zc1, zc2, zc3, yc0, yc1, yc2⟩ | exact ⟨zd0, zd1, zd2, zd3, yd0, yd1, yd2⟩ | exact ⟨ze0, ze1, ze2, ze3, ye0, ye1, ye2⟩ | exact ⟨zf0, zf1, zf2, zf3, yf0, yf1, yf2⟩ | exact ⟨zg0, zg1, zg2, zg3, yg0, yg1, yg2⟩ | exact ⟨zh0, zh1, zh2, zh3, yh0, yh1, yh2⟩ | exact ⟨zi0, zi1, zi2, zi3, yi0, yi1, yi2⟩)
            (first
              | (go_at_call 74; have _t := tk1; refine (l1Row_any p n n _ D i w.heap.size _ ?_ ?_ HD.out (by omega) (by omega) (by omega)).mono ?_; exact h3.drew.ro 4 rfl; exact h3.drew.size; rintro (e : Ending) w3 ⟨A5, c5, rfl, hr3, hb3⟩; have h4 := (h3.drew.on hb3).pushRo hr3; obtain ⟨zc0, zc1, zc2, zc3⟩ := h4.box4 3 rfl; obtain ⟨yc0, yc1, yc2⟩ := h4.box3 4 rfl; clear tk1 _t)
              | (go_at_call 87; have _t := tk2; refine (l2Basis_any n j _ (by omega) (by omega)).mono ?_; rintro (e : Ending) w4 ⟨x, rfl, ho4, hb4⟩; obtain ⟨A6, c6, rfl, _, _, _⟩ := id ho4.ints; have h5 := h4.pushOwn hb4 ho4; obtain ⟨zd0, zd1, zd2, zd3⟩ := h5.box4 4 rfl; obtain ⟨yd0, yd1, yd2⟩ := h5.box3 5 rfl; clear tk2 _t)
              | (go_at_call 61; have _t := tk3; refine (l2Bracket_any p n _ _ _ T (rowM n D i) (unitL n j) _ _ (h5.roUp 7 rfl) (h5.roUp 1 rfl) (h5.ownInts 0 rfl).toB (Nat.le_refl _) HT.out (length_rowM _ _ _) (length_unitL _ _) hn hp hp' rT (resid_rowM (by omega) rD n i) (resid_unitL hp n j)).mono ?_; rintro (e : Ending) w5 ⟨x, rfl, ho5, hb5⟩; obtain ⟨A7, c7, rfl, _, _, _⟩ := id ho5.ints; have h6 := h5.pushOwn hb5 ho5; obtain ⟨ze0, ze1, ze2, ze3⟩ := h6.box4 5 rfl; obtain ⟨ye0, ye1, ye2⟩ := h6.box3 6 rfl; clear tk3 _t)
              | (go_at_call 87; refine (l2Basis_any n i _ (by omega) hi).mono ?_; rintro (e : Ending) w6 ⟨x, rfl, ho6, hb6⟩; obtain ⟨A8, c8, rfl, _, _, _⟩ := id ho6.ints; have h7 := h6.pushOwn hb6 ho6; obtain ⟨zf0, zf1, zf2, zf3⟩ := h7.box4 6 rfl; obtain ⟨yf0, yf1, yf2⟩ := h7.box3 7 rfl)
              | (go_at_call 74; refine (l1Row_any p n n _ D j w.heap.size _ ?_ ?_ HD.out (by omega) (by omega) (by omega)).mono ?_; exact h7.ro 8 rfl; exact h7.size; rintro (e : Ending) w7 ⟨A9, c9, rfl, hr7, hb7⟩; have h8 := (h7.on hb7).pushRo hr7; obtain ⟨zg0, zg1, zg2, zg3⟩ := h8.box4 7 rfl; obtain ⟨yg0, yg1, yg2⟩ := h8.box3 8 rfl)
              | (go_at_call 61; refine (l2Bracket_any p n _ _ _ T (unitL n i) (rowM n D j) _ _ (h8.roUp 10 rfl) (h8.ownInts 1 rfl).toB (h8.roUp 0 rfl) (Nat.le_refl _) HT.out (length_unitL _ _) (length_rowM _ _ _) hn hp hp' rT (resid_unitL hp n i) (resid_rowM (by omega) rD n j)).mono ?_; rintro (e : Ending) w8 ⟨x, rfl, ho8, hb8⟩; obtain ⟨A10, c10, rfl, _, _, _⟩ := id ho8.ints; have h9 := h8.pushOwn hb8 ho8; obtain ⟨zh0, zh1, zh2, zh3⟩ := h9.box4 8 rfl; obtain ⟨yh0, yh1, yh2⟩ := h9.box3 9 rfl)
              | (go_at_call 120; refine (l2Plus_any p _ _ (braL T (rowM n D i) (unitL n j) n p) (braL T (unitL n i) (rowM n D j) n p) _ _ (h9.ownInts 3 rfl).toB (h9.ownInts 0 rfl).toB (Nat.le_refl _) (by rw [length_braL, length_braL]) (by rw [length_braL]; omega) hp hp' (resid_braL _ _ _ _ hp) (resid_braL _ _ _ _ hp)).mono ?_; rintro (e : Ending) w9 ⟨x, rfl, ho9, hb9⟩; obtain ⟨A11, n11, c11, rfl⟩ := ho9.slice; have h10 := h9.pushOwn hb9 ho9; obtain ⟨zi0, zi1, zi2, zi3⟩ := h10.box4 9 rfl; obtain ⟨yi0, yi1, yi2⟩ := h10.box3 10 rfl))
          clear hb3 hb4 hb5 hb6 hb7 hb8 hb9 ho4 ho5 ho6 ho8 ho9 hr3 hr7 h3 h4 h5 h6 h7 h8 h9 zb0 zb1 zb2 zb3 yb0 yb1 yb2 zc0 zc1 zc2 zc3 yc0 yc1 yc2 zd0 zd1 zd2 zd3 yd0 yd1 yd2 ze0 ze1 ze2 ze3 ye0 ye1 ye2 zf0 zf1 zf2 zf3 yf0 yf1 yf2 zg0 zg1 zg2 zg3 yg0 yg1 yg2 zh0 zh1 zh2 zh3 yh0 yh1 yh2 zi0 zi1 zi2 zi3 yi0 yi1 yi2
          go_wp2_with fail
          refine (l1Same_any _ _ (combL (rowT T n i j) (rowsM n n D) n p) (plusL p (braL T (rowM n D i) (unitL n j) n p) (braL T (unitL n i) (rowM n D j) n p)) _ (h10.ownInts 7 rfl) (h10.ownInts 0 rfl)).mono ?_
          rintro (e : Ending) w10 ⟨rfl, nd, rfl⟩
          have h12 := (h10.drewN nd).drop 9
          clear h10
          by_cases hd : derAt T n p D i j = true
          · have hd' : decide (combL (rowT T n i j) (rowsM n n D) n p = plusL p (braL T (rowM n D i) (unitL n j) n p) (braL T (unitL n i) (rowM n D j) n p)) = true := hd
            have HM4 : Hid (R = (allF (derAt T n p D i) (i - (j + 1)) (j + 1) && K1)) := by have := HM3.out; rw [hd, Bool.true_and] at this; exact this
            clear hd HM3
            go_wp2
            go_roundw
            case rel => exact ⟨j + 1, by go_num, by omega, h12, HM4⟩
            case measure => simp [intOf]; omega
          · have hd : derAt T n p D i j = false := by simpa using hd
            have hd' : decide (combL (rowT T n i j) (rowsM n n D) n p = plusL p (braL T (rowM n D i) (unitL n j) n p) (braL T (unitL n i) (rowM n D j) n p)) = false := hd
            have HM4 : Hid (R = false) := by have := HM3.out; rw [hd, Bool.false_and] at this; exact this
            clear hd HM3
            go_wp2
            go_ret
            exact ⟨ret_bool HM4.out.symm, h12.below⟩
        · obtain rfl : j = i := by omega
          have HM3 : Hid (R = K1) := by have := HM2.out; rw [Nat.sub_self, allF, Bool.true_and] at this; exact this
          go_wp2
          go_roundw
          case rel => exact ⟨j + 1, by go_num, by omega, h1, by show R = _; rw [HM3.out, HK1.out]⟩
          case measure => simp [intOf]; omega
    · obtain rfl : n = i := by omega
      have HR5 : Hid (R = true) := by have := HR.out; rw [Nat.sub_self, allF] at this; exact this
      go_wp2
      go_ret
      exact ⟨ret_bool HR5.out.symm, h1.below⟩
end Go.Proofs.Ytngmepodgbhbpaa
