/- IsHomomorphism of the program and of the reference. -/
import Derived.Test.YtechjmckfedblaaDerA
import Derived.Deep.RegionWith
import Derived.Deep.CutRange
namespace Go.Proofs.Ytechjmckfedblaa
set_option maxRecDepth 100000
open Go.RowKit

def mapsOk (p1 n1 : Int) (T1 : List Int) (p2 n2 : Int) (T2 : List Int) (q r c : Int) (D : List Int) : Bool := algOk p1 n1 T1 && (algOk p2 n2 T2 && (matOk q r c D && (decide (q = p1) && (decide (p2 = p1) && (decide (r = n1) && decide (c = n2))))))
def homAt (T1 T2 : List Int) (n m : Nat) (p : Int) (D : List Int) (i j : Nat) : Bool := decide (combL (rowT T1 n i j) (rowsM n m D) m p = braL T2 (rowM m D i) (rowM m D j) m p)
def homOk (T1 T2 : List Int) (n m : Nat) (p : Int) (D : List Int) : Bool := allF (fun i => allF (homAt T1 T2 n m p D i) i 0) n 0
def isHom (p1 n1 : Int) (T1 : List Int) (p2 n2 : Int) (T2 : List Int) (q r c : Int) (D : List Int) : Bool := mapsOk p1 n1 T1 p2 n2 T2 q r c D && homOk T1 T2 n1.toNat n2.toNat p1 D
theorem mapsOk_spec {p1 n1 p2 n2 q r c : Int} {T1 T2 D : List Int} (h : mapsOk p1 n1 T1 p2 n2 T2 q r c D = true) : algOk p1 n1 T1 = true ∧ algOk p2 n2 T2 = true ∧ matOk q r c D = true ∧ q = p1 ∧ p2 = p1 ∧ r = n1 ∧ c = n2 := by
  simp only [mapsOk, Bool.and_eq_true, decide_eq_true_eq] at h
  exact ⟨h.1, h.2.1, h.2.2.1, h.2.2.2.1, h.2.2.2.2.1, h.2.2.2.2.2.1, h.2.2.2.2.2.2⟩

set_option maxHeartbeats 2000000 in
theorem l2Maps_any (p1 n1 p2 n2 q r c : Int) (t1 t2 u : Value) (T1 T2 D : List Int) (w : World) (g1 : Ints w t1 T1) (g2 : Ints w t2 T2) (g3 : Ints w u D) (hq : q ≤ 9223372036854775807) : Calls Try.prog 101 #[.agg #[.int .i64 p1, .int .i64 n1, t1], .agg #[.int .i64 p2, .int .i64 n2, t2], .agg #[.int .i64 q, .int .i64 r, .int .i64 c, u]] w (RetBool w (mapsOk p1 n1 T1 p2 n2 T2 q r c D)) := by
  have h1 := ((((((St.start w).arg g1).arg g2).arg g3).box [.int .i64 p1, .int .i64 n1, t1] 30).box [.int .i64 p2, .int .i64 n2, t2] 30).box [.int .i64 q, .int .i64 r, .int .i64 c, u] 32
  simp only [World.size_alloc] at h1
  obtain ⟨A1, k1, rfl, _, _, _⟩ := id g1
  obtain ⟨A2, k2, rfl, _, _, _⟩ := id g2
  obtain ⟨A3, k3, rfl, _, _, _⟩ := id g3
  clear g1 g2 g3
  obtain ⟨xb0, xb1, xb2⟩ := h1.box3 1 rfl
  obtain ⟨xa0, xa1, xa2⟩ := h1.box3 2 rfl
  obtain ⟨xm0, xm1, xm2, xm3⟩ := h1.box4 0 rfl
  by_cases c1 : algOk p1 n1 T1 = true
  · by_cases c2 : algOk p2 n2 T2 = true
    · by_cases c3 : matOk q r c D = true
      · go_enter Try.func101, Try.ntmps101
        go_wp2_with fail
        refine (AlgebraOkS_any p1 n1 _ T1 _ (h1.roInts 5 rfl)).mono ?_
        rintro e wn ⟨rfl, hb1⟩
        replace h1 := h1.on hb1
        clear hb1
        clear xa0 xa1 xa2 xb0 xb1 xb2 xm0 xm1 xm2 xm3
        obtain ⟨xb0, xb1, xb2⟩ := h1.box3 1 rfl
        rw [c1]
        go_wp2_with fail
        refine (AlgebraOkS_any p2 n2 _ T2 _ (h1.roInts 4 rfl)).mono ?_
        rintro e wn ⟨rfl, hb1⟩
        replace h1 := h1.on hb1
        clear hb1
        clear xb0 xb1 xb2
        obtain ⟨xm0, xm1, xm2, xm3⟩ := h1.box4 0 rfl
        rw [c2]
        go_wp2_with fail
        refine (MatrixOkS_any q r c _ D _ (h1.roInts 3 rfl) hq).mono ?_
        rintro e wn ⟨rfl, hb1⟩
        replace h1 := h1.on hb1
        clear hb1
        clear xm0 xm1 xm2 xm3
        rw [c3]
        obtain ⟨xb0, xb1, xb2⟩ := h1.box3 1 rfl
        obtain ⟨xa0, xa1, xa2⟩ := h1.box3 2 rfl
        obtain ⟨xm0, xm1, xm2, xm3⟩ := h1.box4 0 rfl
        go_wp2
        all_goals
          go_ret
          exact ⟨ret_bool (by simp_all [mapsOk] <;> rfl), h1.below⟩
      · have c3 : matOk q r c D = false := by simpa using c3
        rw [show mapsOk p1 n1 T1 p2 n2 T2 q r c D = false by simp [mapsOk, c3]]
        go_enter Try.func101, Try.ntmps101
        go_wp2_with fail
        refine (AlgebraOkS_any p1 n1 _ T1 _ (h1.roInts 5 rfl)).mono ?_
        rintro e wn ⟨rfl, hb1⟩
        replace h1 := h1.on hb1
        clear hb1
        clear xa0 xa1 xa2 xb0 xb1 xb2 xm0 xm1 xm2 xm3
        obtain ⟨xb0, xb1, xb2⟩ := h1.box3 1 rfl
        rw [c1]
        go_wp2_with fail
        refine (AlgebraOkS_any p2 n2 _ T2 _ (h1.roInts 4 rfl)).mono ?_
        rintro e wn ⟨rfl, hb1⟩
        replace h1 := h1.on hb1
        clear hb1
        clear xb0 xb1 xb2
        obtain ⟨xm0, xm1, xm2, xm3⟩ := h1.box4 0 rfl
        rw [c2]
        go_wp2_with fail
        refine (MatrixOkS_any q r c _ D _ (h1.roInts 3 rfl) hq).mono ?_
        rintro e wn ⟨rfl, hb1⟩
        replace h1 := h1.on hb1
        clear hb1
        rw [c3]
        go_wp2
        go_ret
        exact ⟨rfl, h1.below⟩
    · have c2 : algOk p2 n2 T2 = false := by simpa using c2
      rw [show mapsOk p1 n1 T1 p2 n2 T2 q r c D = false by simp [mapsOk, c2]]
      go_enter Try.func101, Try.ntmps101
      go_wp2_with fail
      refine (AlgebraOkS_any p1 n1 _ T1 _ (h1.roInts 5 rfl)).mono ?_
      rintro e wn ⟨rfl, hb1⟩
      replace h1 := h1.on hb1
      clear hb1
      clear xa0 xa1 xa2 xb0 xb1 xb2 xm0 xm1 xm2 xm3
      obtain ⟨xb0, xb1, xb2⟩ := h1.box3 1 rfl
      rw [c1]
      go_wp2_with fail
      refine (AlgebraOkS_any p2 n2 _ T2 _ (h1.roInts 4 rfl)).mono ?_
      rintro e wn ⟨rfl, hb1⟩
      replace h1 := h1.on hb1
      clear hb1
      rw [c2]
      go_wp2
      go_ret
      exact ⟨rfl, h1.below⟩
  · have c1 : algOk p1 n1 T1 = false := by simpa using c1
    rw [show mapsOk p1 n1 T1 p2 n2 T2 q r c D = false by simp [mapsOk, c1]]
    go_enter Try.func101, Try.ntmps101
    go_wp2_with fail
    refine (AlgebraOkS_any p1 n1 _ T1 _ (h1.roInts 5 rfl)).mono ?_
    rintro e wn ⟨rfl, hb1⟩
    replace h1 := h1.on hb1
    clear hb1
    rw [c1]
    go_wp2
    go_ret
    exact ⟨rfl, h1.below⟩

set_option maxHeartbeats 8000000 in
theorem IsHomomorphismS_in (p : Int) (n m : Nat) (t1 t2 u : Value) (T1 T2 D : List Int) (w : World) (g1 : Ints w t1 T1) (g2 : Ints w t2 T2) (g3 : Ints w u D) (b1 : algOk p n T1 = true) (b2 : algOk p m T2 = true) (b3 : matOk p n m D = true) (hT1 : T1.length = n * n * n) (hT2 : T2.length = m * m * m) (hD : D.length = n * m) (hn : n ≤ 28) (hm : m ≤ 28) (hp : 2 ≤ p) (hp2 : p ≤ 10007) (rT1 : resid p T1 = true) (rT2 : resid p T2 = true) (rD : resid p D = true) : Calls Try.prog 55 #[.agg #[.int .i64 p, .int .i64 n, t1], .agg #[.int .i64 p, .int .i64 m, t2], .agg #[.int .i64 p, .int .i64 n, .int .i64 m, u]] w (RetBool w (homOk T1 T2 n m p D)) := by
  have h1 := ((((((St.start w).arg g1).arg g2).arg g3).box [.int .i64 p, .int .i64 n, t1] 30).box [.int .i64 p, .int .i64 m, t2] 30).box [.int .i64 p, .int .i64 n, .int .i64 m, u] 32
  simp only [World.size_alloc] at h1
  obtain ⟨A1, k1, rfl, _, _, _⟩ := id g1
  obtain ⟨A2, k2, rfl, _, _, _⟩ := id g2
  obtain ⟨A3, k3, rfl, _, _, _⟩ := id g3
  clear g1 g2 g3
  have HT1 := Lib.hid hT1
  have HT2 := Lib.hid hT2
  have HD := Lib.hid hD
  have hnm := mul_le hn hm
  obtain ⟨R, hR⟩ : ∃ R, R = homOk T1 T2 n m p D := ⟨_, rfl⟩
  rw [← hR]
  have HR : Hid (R = allF (fun i => allF (homAt T1 T2 n m p D i) i 0) (n - 0) 0) := hR
  have HMp := Lib.hid (show mapsOk p n T1 p m T2 p n m D = true by simp [mapsOk, b1, b2, b3])
  clear hT1 hT2 hD hR b1 b2 b3
  obtain ⟨xm0, xm1, xm2, xm3⟩ := h1.box4 0 rfl
  obtain ⟨xb0, xb1, xb2⟩ := h1.box3 1 rfl
  obtain ⟨xa0, xa1, xa2⟩ := h1.box3 2 rfl
  go_enter Try.func55, Try.ntmps55
  go_wp2_with fail
  refine (l2Maps_any p n p m p n m _ _ _ T1 T2 D _ (h1.roInts 5 rfl) (h1.roInts 4 rfl) (h1.roInts 3 rfl) (by omega)).mono ?_
  rintro e wn ⟨rfl, hb1⟩
  replace h1 := h1.on hb1
  clear hb1
  rw [HMp.out]
  clear xm0 xm1 xm2 xm3 xb0 xb1 xb2 xa0 xa1 xa2
  go_wp2
  go_loopw [7, 8] (fun vi vj wr => ∃ i : Nat, vi = .int .i64 i ∧ i ≤ n ∧ St w wr [.box (w.heap.size + 1 + 1) [.int .i64 p, .int .i64 n, .int .i64 m, .slice A3 D.length k3], .box (w.heap.size + 1) [.int .i64 p, .int .i64 m, .slice A2 T2.length k2], .box w.heap.size [.int .i64 p, .int .i64 n, .slice A1 T1.length k1], .ro (.slice A3 D.length k3) D, .ro (.slice A2 T2.length k2) T2, .ro (.slice A1 T1.length k1) T1] ∧ Hid (R = allF (fun i => allF (homAt T1 T2 n m p D i) i 0) (n - i) i)) (fun vi _ _ => n - (intOf vi).toNat)
  case atStart => exact ⟨0, rfl, by omega, h1, HR⟩
  case round =>
    clear h1 HR
    obtain ⟨i, rfl, a1, h1, HR⟩ := hrel
    obtain ⟨xa0, xa1, xa2⟩ := h1.box3 2 rfl
    by_cases hi : i < n
    · skip
      obtain ⟨K1, hK1⟩ : ∃ K1, K1 = allF (fun i => allF (homAt T1 T2 n m p D i) i 0) (n - (i + 1)) (i + 1) := ⟨_, rfl⟩
      have HM1 : Hid (R = (allF (homAt T1 T2 n m p D i) (i - 0) 0 && K1)) := by
        have := HR.out
        rw [allF_step hi, ← hK1] at this
        exact this
      have HK1 := Lib.hid hK1
      clear hK1 HR
      go_wp2
      clear xa0 xa1 xa2
      go_loopw [8] (fun vj wr => ∃ j : Nat, vj = .int .i64 j ∧ j ≤ i ∧ St w wr [.box (w.heap.size + 1 + 1) [.int .i64 p, .int .i64 n, .int .i64 m, .slice A3 D.length k3], .box (w.heap.size + 1) [.int .i64 p, .int .i64 m, .slice A2 T2.length k2], .box w.heap.size [.int .i64 p, .int .i64 n, .slice A1 T1.length k1], .ro (.slice A3 D.length k3) D, .ro (.slice A2 T2.length k2) T2, .ro (.slice A1 T1.length k1) T1] ∧ Hid (R = (allF (homAt T1 T2 n m p D i) (i - j) j && K1))) (fun vj _ => i - (intOf vj).toNat)
      case atStart => exact ⟨0, rfl, by omega, h1, HM1⟩
      case round =>
        clear h1 HM1
        obtain ⟨j, rfl, a2, h1, HM2⟩ := hrel
        by_cases hj : j < i
        · have HM3 : Hid (R = (homAt T1 T2 n m p D i j && (allF (homAt T1 T2 n m p D i) (i - (j + 1)) (j + 1) && K1))) := by
            have := HM2.out
            rw [allF_step hj, Bool.and_assoc] at this
            exact this
          obtain ⟨bb, hbb⟩ : ∃ bb, bb = homAt T1 T2 n m p D i j := ⟨_, rfl⟩
          rw [← hbb] at HM3
          have HB : Hid (bb = decide (combL (rowT T1 n i j) (rowsM n m D) m p = braL T2 (rowM m D i) (rowM m D j) m p)) := hbb
          clear HM2 hbb
          obtain ⟨x0m0, x0m1, x0m2, x0m3⟩ := h1.box4 0 rfl
          obtain ⟨x0b0, x0b1, x0b2⟩ := h1.box3 1 rfl
          obtain ⟨x0a0, x0a1, x0a2⟩ := h1.box3 2 rfl
          have tk1 : True := trivial
          go_wp2
          go_region_held3 (fun w' => w'.cell? ⟨w.heap.size + 1 + 1, 0, none⟩ = some (.int .i64 p) ∧ w'.cell? ⟨w.heap.size + 1 + 1, 1, none⟩ = some (.int .i64 n) ∧ w'.cell? ⟨w.heap.size + 1 + 1, 2, none⟩ = some (.int .i64 m) ∧ w'.cell? ⟨w.heap.size + 1 + 1, 3, none⟩ = some (.slice A3 D.length k3) ∧ w'.cell? ⟨w.heap.size + 1, 0, none⟩ = some (.int .i64 p) ∧ w'.cell? ⟨w.heap.size + 1, 1, none⟩ = some (.int .i64 m) ∧ w'.cell? ⟨w.heap.size + 1, 2, none⟩ = some (.slice A2 T2.length k2) ∧ w'.cell? ⟨w.heap.size, 0, none⟩ = some (.int .i64 p) ∧ w'.cell? ⟨w.heap.size, 1, none⟩ = some (.int .i64 n) ∧ w'.cell? ⟨w.heap.size, 2, none⟩ = some (.slice A1 T1.length k1))
            (first | exact ⟨x0m0, x0m1, x0m2, x0m3, x0b0, x0b1, x0b2, x0a0, x0a1, x0a2⟩ | exact ⟨x1m0, x1m1, x1m2, x1m3, x1b0, x1b1, x1b2, x1a0, x1a1, x1a2⟩ | exact ⟨x2m0, x2m1, x2m2, x2m3, x2b0, x2b1, x2b2, x2a0, x2a1, x2a2⟩ | exact ⟨x3m0, x3m1, x3m2, x3m3, x3b0, x3b1, x3b2, x3a0, x3a1, x3a2⟩ | exact ⟨x4m0, x4m1, x4m2, x4m3, x4b0, x4b1, x4b2, x4a0, x4a1, x4a2⟩ | exact ⟨x5m0, x5m1, x5m2, x5m3, x5b0, x5b1, x5b2, x5a0, x5a1, x5a2⟩ | exact ⟨x6m0, x6m1, x6m2, x6m3, x6b0, x6b1, x6b2, x6a0, x6a1, x6a2⟩)
            (first
              | (go_at_call 104; refine (l2Row_any p n _ T1 i j w.heap.size _ ?_ ?_ HT1.out (by omega) (by omega) hn).mono ?_; exact h1.drew.ro 5 rfl; exact h1.drew.size; rintro (e : Ending) w1 ⟨A4, c4, rfl, hr1, hb1⟩; have h2 := (h1.drew.on hb1).pushRo hr1; obtain ⟨x1m0, x1m1, x1m2, x1m3⟩ := h2.box4 1 rfl; obtain ⟨x1b0, x1b1, x1b2⟩ := h2.box3 2 rfl; obtain ⟨x1a0, x1a1, x1a2⟩ := h2.box3 3 rfl)
              | (go_at_call 103; refine (l2Image_any p n m _ _ D (rowT T1 n i j) _ (h2.roInts 4 rfl) (h2.roInts 0 rfl) HD.out (length_tab _ _) (by omega) (by omega) hp hp2 rD (resid_rowT rT1 (by omega) n i j)).mono ?_; rintro (e : Ending) w2 ⟨x, rfl, ho2, hb2⟩; obtain ⟨A5, n5, c5, rfl⟩ := ho2.slice; have h3 := h2.pushOwn hb2 ho2; obtain ⟨x2m0, x2m1, x2m2, x2m3⟩ := h3.box4 2 rfl; obtain ⟨x2b0, x2b1, x2b2⟩ := h3.box3 3 rfl; obtain ⟨x2a0, x2a1, x2a2⟩ := h3.box3 4 rfl)
              | (go_at_call 106; have _t := tk1; refine (l1Row_any p n m _ D i w.heap.size _ ?_ ?_ HD.out (by omega) (by omega) (by omega)).mono ?_; exact h3.ro 5 rfl; exact h3.size; rintro (e : Ending) w3 ⟨A6, c6, rfl, hr3, hb3⟩; have h4 := (h3.on hb3).pushRo hr3; obtain ⟨x3m0, x3m1, x3m2, x3m3⟩ := h4.box4 3 rfl; obtain ⟨x3b0, x3b1, x3b2⟩ := h4.box3 4 rfl; obtain ⟨x3a0, x3a1, x3a2⟩ := h4.box3 5 rfl; clear tk1 _t)
              | (go_at_call 106; refine (l1Row_any p n m _ D j w.heap.size _ ?_ ?_ HD.out (by omega) (by omega) (by omega)).mono ?_; exact h4.ro 6 rfl; exact h4.size; rintro (e : Ending) w4 ⟨A7, c7, rfl, hr4, hb4⟩; have h5 := (h4.on hb4).pushRo hr4; obtain ⟨x4m0, x4m1, x4m2, x4m3⟩ := h5.box4 4 rfl; obtain ⟨x4b0, x4b1, x4b2⟩ := h5.box3 5 rfl; obtain ⟨x4a0, x4a1, x4a2⟩ := h5.box3 6 rfl)
              | (go_at_call 105; refine (l2Bracket_any p m _ _ _ T2 (rowM m D i) (rowM m D j) _ _ (h5.roUp 8 rfl) (h5.roUp 1 rfl) (h5.roUp 0 rfl) (Nat.le_refl _) HT2.out (length_rowM _ _ _) (length_rowM _ _ _) hm hp hp2 rT2 (resid_rowM (by omega) rD m i) (resid_rowM (by omega) rD m j)).mono ?_; rintro (e : Ending) w5 ⟨x, rfl, ho5, hb5⟩; obtain ⟨A8, n8, c8, rfl⟩ := ho5.slice; have h6 := h5.pushOwn hb5 ho5; obtain ⟨x5m0, x5m1, x5m2, x5m3⟩ := h6.box4 5 rfl; obtain ⟨x5b0, x5b1, x5b2⟩ := h6.box3 6 rfl; obtain ⟨x5a0, x5a1, x5a2⟩ := h6.box3 7 rfl)
              | (go_at_call 102; refine (l1Same_any _ _ (combL (rowT T1 n i j) (rowsM n m D) m p) (braL T2 (rowM m D i) (rowM m D j) m p) _ (h6.ownInts 3 rfl) (h6.ownInts 0 rfl)).mono ?_; rintro (e : Ending) w6 ⟨rfl, nd, rfl⟩; rw [← HB.out]; have h7 := h6.drewN nd; obtain ⟨x6m0, x6m1, x6m2, x6m3⟩ := h7.box4 5 rfl; obtain ⟨x6b0, x6b1, x6b2⟩ := h7.box3 6 rfl; obtain ⟨x6a0, x6a1, x6a2⟩ := h7.box3 7 rfl))
          have h12 := h7.drop 5
          clear h1 h2 h3 h4 h5 h6 h7 hr1 hr3 hr4 hb1 hb2 hb3 hb4 hb5 ho2 ho5 x0m0 x0m1 x0m2 x0m3 x0b0 x0b1 x0b2 x0a0 x0a1 x0a2 x1m0 x1m1 x1m2 x1m3 x1b0 x1b1 x1b2 x1a0 x1a1 x1a2 x2m0 x2m1 x2m2 x2m3 x2b0 x2b1 x2b2 x2a0 x2a1 x2a2 x3m0 x3m1 x3m2 x3m3 x3b0 x3b1 x3b2 x3a0 x3a1 x3a2 x4m0 x4m1 x4m2 x4m3 x4b0 x4b1 x4b2 x4a0 x4a1 x4a2 x5m0 x5m1 x5m2 x5m3 x5b0 x5b1 x5b2 x5a0 x5a1 x5a2 x6m0 x6m1 x6m2 x6m3 x6b0 x6b1 x6b2 x6a0 x6a1 x6a2
          by_cases hd : bb = true
          · have HM4 : Hid (R = (allF (homAt T1 T2 n m p D i) (i - (j + 1)) (j + 1) && K1)) := by have := HM3.out; rw [hd, Bool.true_and] at this; exact this
            subst hd
            clear HM3 HB
            go_wp2
            go_roundw
            case rel => exact ⟨j + 1, by go_num, by omega, h12, HM4⟩
            case measure => simp [intOf]; omega
          · have hd : bb = false := by simpa using hd
            have HM4 : Hid (R = false) := by have := HM3.out; rw [hd, Bool.false_and] at this; exact this
            subst hd
            clear HM3 HB
            go_wp2
            go_ret
            exact ⟨ret_bool HM4.out.symm, h12.below⟩
        · obtain rfl : j = i := by omega
          have HM3 : Hid (R = K1) := by have := HM2.out; rw [Nat.sub_self, allF, Bool.true_and] at this; exact this
          go_wp2
          go_roundw
          case rel => exact ⟨j + 1, by go_num, by omega, h1, by show R = _; rw [HM3.out, HK1.out]⟩
          case measure => simp [intOf]; omega
    · obtain rfl : n = i := by omega
      have HR5 : Hid (R = true) := by have := HR.out; rw [Nat.sub_self, allF] at this; exact this
      go_wp2
      go_ret
      exact ⟨ret_bool HR5.out.symm, h1.below⟩

set_option maxHeartbeats 2000000 in
theorem IsHomomorphismS_any (p1 n1 p2 n2 q r c : Int) (t1 t2 u : Value) (T1 T2 D : List Int) (w : World) (g1 : Ints w t1 T1) (g2 : Ints w t2 T2) (g3 : Ints w u D) (hq : q ≤ 9223372036854775807) : Calls Try.prog 55 #[.agg #[.int .i64 p1, .int .i64 n1, t1], .agg #[.int .i64 p2, .int .i64 n2, t2], .agg #[.int .i64 q, .int .i64 r, .int .i64 c, u]] w (RetBool w (isHom p1 n1 T1 p2 n2 T2 q r c D)) := by
  by_cases b0 : mapsOk p1 n1 T1 p2 n2 T2 q r c D = true
  · obtain ⟨b1, b2, b3, rfl, rfl, rfl, rfl⟩ := mapsOk_spec b0
    obtain ⟨n, rfl, k1, kT, k3, k4, k5, k6⟩ := algOk_spec b1
    obtain ⟨m, rfl, j1, jT, j3, _, _, _⟩ := algOk_spec b2
    obtain ⟨a, b, e1, e2, _, _, kD, kR, _, _, _⟩ := matOk_spec b3
    obtain rfl : n = a := by omega
    obtain rfl : m = b := by omega
    rw [isHom, b0, Bool.true_and, Int.toNat_natCast, Int.toNat_natCast]
    exact IsHomomorphismS_in _ n m t1 t2 u T1 T2 D w g1 g2 g3 b1 b2 b3 kT jT kD k1 j1 k4 k5 k3 j3 kR
  · have b0 : mapsOk p1 n1 T1 p2 n2 T2 q r c D = false := by simpa using b0
    rw [show isHom p1 n1 T1 p2 n2 T2 q r c D = false by rw [isHom, b0, Bool.false_and]]
    have h1 := ((((((St.start w).arg g1).arg g2).arg g3).box [.int .i64 p1, .int .i64 n1, t1] 30).box [.int .i64 p2, .int .i64 n2, t2] 30).box [.int .i64 q, .int .i64 r, .int .i64 c, u] 32
    simp only [World.size_alloc] at h1
    obtain ⟨A1, k1, rfl, _, _, _⟩ := id g1
    obtain ⟨A2, k2, rfl, _, _, _⟩ := id g2
    obtain ⟨A3, k3, rfl, _, _, _⟩ := id g3
    clear g1 g2 g3
    obtain ⟨xm0, xm1, xm2, xm3⟩ := h1.box4 0 rfl
    obtain ⟨xb0, xb1, xb2⟩ := h1.box3 1 rfl
    obtain ⟨xa0, xa1, xa2⟩ := h1.box3 2 rfl
    go_enter Try.func55, Try.ntmps55
    go_wp2_with fail
    refine (l2Maps_any p1 n1 p2 n2 q r c _ _ _ T1 T2 D _ (h1.roInts 5 rfl) (h1.roInts 4 rfl) (h1.roInts 3 rfl) hq).mono ?_
    rintro e wn ⟨rfl, hb1⟩
    replace h1 := h1.on hb1
    clear hb1
    rw [b0]
    go_wp2
    go_ret
    exact ⟨rfl, h1.below⟩
end Go.Proofs.Ytechjmckfedblaa
