import Derived.Test.YtbnefjhljfbecaaGreatDoorW02
import Derived.Test.YtbnefjhljfbecaaGreatDoorW05
import Derived.Test.YtbnefjhljfbecaaGreatDoorW06
namespace Go.Proofs.YtbnefjhljfbecaaGreatDoor
set_option maxRecDepth 100000
section
open Go.RowKit
def allF (f : Nat → Bool) : Nat → Nat → Bool
  | 0, _ => true
  | c + 1, s => f s && allF f c (s + 1)
theorem allF_iff (f : Nat → Bool) : ∀ (c s : Nat), allF f c s = true ↔ ∀ i, s ≤ i → i < s + c → f i = true
  | 0, s => by simp [allF]; omega
  | c + 1, s => by
    simp only [allF, Bool.and_eq_true, allF_iff f c (s + 1)]
    constructor
    · rintro ⟨h1, h2⟩ i hi hi'
      by_cases e : i = s
      · subst e; exact h1
      · exact h2 i (by omega) (by omega)
    · intro h
      exact ⟨h s (by omega) (by omega), fun i hi hi' => h i (by omega) (by omega)⟩
theorem allF_congr {f g : Nat → Bool} {c s : Nat} (h : ∀ i, s ≤ i → i < s + c → f i = g i) : allF f c s = allF g c s := by
  rw [Bool.eq_iff_iff, allF_iff, allF_iff]
  constructor
  · intro h1 i a b; rw [← h i a b]; exact h1 i a b
  · intro h1 i a b; rw [h i a b]; exact h1 i a b
def pairI (T : List Int) (n : Nat) (p : Int) (i j : Nat) : Bool := zeroL (addL (rowT T n i j) 1 (rowT T n j i) p) && (if i = j then zeroL (rowT T n i i) else true)
def jacL (T : List Int) (n : Nat) (p : Int) (i j k : Nat) : List Int := addL (addL (rightL T (rowT T n i j) n p k) 1 (rightL T (rowT T n j k) n p i) p) 1 (rightL T (rowT T n k i) n p j) p
def jacI (T : List Int) (n : Nat) (p : Int) (i : Nat) : Bool := allF (fun j => allF (fun k => zeroL (jacL T n p i j k)) (n - (j + 1)) (j + 1)) (n - (i + 1)) (i + 1)
def tableI (T : List Int) (n : Nat) (p : Int) : Bool := allF (fun i => allF (pairI T n p i) (i + 1) 0) n 0 && allF (jacI T n p) n 0
def algOk (p n : Int) (T : List Int) : Bool := isPrime p && (inR n 0 28 && (decide ((T.length : Int) = n * n * n) && (resid p T && tableI T n.toNat p)))
theorem newLie_any (p n : Int) (t : Value) (A : Option Addr) (l c : Nat) (w : World) (ht : t = .slice A l c) :
    Calls Tryz.prog 44 #[.agg #[.int .i64 p, .int .i64 n, t]] w fun e w' => e = .returned (.agg #[.int .i64 p, .int .i64 n, t]) ∧ Below w.heap.size w w' := by
  subst ht
  go_enter Tryz.func44, Tryz.ntmps44
  go_wp2
  refine bodyPost_ret (v := .agg #[.int .i64 p, .int .i64 n, .slice A l c]) (by simp [results, Tryz.results44, go_sem]) rfl ⟨rfl, ?_⟩
  repeat (first | exact Below.refl _ _ | refine Below.setCell ?_ (by simp) _ | refine Below.alloc ?_ (by simp) _ | refine Below.drew ?_)
def RetBool (w : World) (b : Bool) (e : Ending) (w' : World) : Prop := e = .returned (.bool b) ∧ Below w.heap.size w w'
set_option maxRecDepth 100000 in
set_option maxHeartbeats 1000000 in
theorem AlgebraOkI_out (p n : Int) (t : Value) (T : List Int) (w : World) (ht : Ints w t T) (hp : p ≤ 9223372036854775807) (h : (isPrime p && (inR n 0 28 && (decide ((T.length : Int) = n * n * n) && resid p T))) = false) :
    Calls Tryz.prog 76 #[.agg #[.int .i64 p, .int .i64 n, t]] w (RetBool w false) := by
  obtain ⟨A, c, rfl, h1, h2, h3⟩ := id ht
  clear h3
  have hb : Below w.heap.size w (w.alloc (.cells #[.int .i64 p, .int .i64 n, .slice A T.length c] 30)) := (Below.refl _ _).alloc (Nat.le_refl _) _
  by_cases b1 : isPrime p = true
  · have hp2 := isPrime_bd b1
    by_cases b2 : inR n 0 28 = true
    · obtain ⟨m, rfl⟩ : ∃ m : Nat, n = m := ⟨n.toNat, by simp [inR] at b2; omega⟩
      have hm : m ≤ 28 := by simp [inR] at b2; omega
      have hc := cube_le hm
      have hm2 : m * m ≤ 784 := Nat.mul_le_mul hm hm
      have r1 : 0 ≤ (m : Int) * m ∧ (m : Int) * m ≤ 784 := by have : ((m * m : Nat) : Int) = (m : Int) * m := by simp
                                                              omega
      have r2 : 0 ≤ (m : Int) * m * m ∧ (m : Int) * m * m ≤ 21952 := by have : ((m * m * m : Nat) : Int) = (m : Int) * m * m := by simp
                                                                        omega
      by_cases b3 : (T.length : Int) = m * m * m
      · have b4 : resid p T = false := by simpa [b1, b2, b3] using h
        have t3 : ((T.length : Int) != (m : Int) * m * m) = false := by simp [b3]
        have ht1 := ht.below hb
        clear h b3
        go_enter Tryz.func76, Tryz.ntmps76
        go_wp2_with (first
          | (go_at_call 108; refine (IsPrimeI_any _ _).mono ?_; rintro e w' ⟨rfl, rfl⟩)
          | (go_at_call 56; refine (inside_any _ _ _ _).mono ?_; rintro e w' ⟨rfl, rfl⟩)
          | (go_at_call 109; refine (residues_any _ T p _ (by omega) hp ht1).mono ?_; rintro e w2 ⟨rfl, hb2⟩))
        go_ret
        exact ⟨rfl, hb.trans (hb2.mono (by simp))⟩
      · have t3 : ((T.length : Int) != (m : Int) * m * m) = true := by simp [b3]
        clear h b3
        go_enter Tryz.func76, Tryz.ntmps76
        go_wp2_with (first
          | (go_at_call 108; refine (IsPrimeI_any _ _).mono ?_; rintro e w' ⟨rfl, rfl⟩)
          | (go_at_call 56; refine (inside_any _ _ _ _).mono ?_; rintro e w' ⟨rfl, rfl⟩))
        go_ret
        exact ⟨rfl, hb⟩
    · have b2 : inR n 0 28 = false := by simpa using b2
      clear h
      go_enter Tryz.func76, Tryz.ntmps76
      go_wp2_with (first
        | (go_at_call 108; refine (IsPrimeI_any _ _).mono ?_; rintro e w' ⟨rfl, rfl⟩)
        | (go_at_call 56; refine (inside_any _ _ _ _).mono ?_; rintro e w' ⟨rfl, rfl⟩))
      go_ret
      exact ⟨rfl, hb⟩
  · have b1 : isPrime p = false := by simpa using b1
    clear h
    go_enter Tryz.func76, Tryz.ntmps76
    go_wp2_with (go_at_call 108; refine (IsPrimeI_any _ _).mono ?_; rintro e w' ⟨rfl, rfl⟩)
    go_ret
    exact ⟨rfl, hb⟩
theorem OwnIn.drew {w : World} {lo hi : Nat} {v : Value} {l : List Int} (h : OwnIn w lo hi v l) : OwnIn w.drew lo hi v l := ⟨h.own, h.top⟩
structure AlgSt (w wr : World) (b1 b2 : Nat) (v0 v1 v2 : Value) (T : List Int) : Prop where
  box1 : Box3 wr b1 v0 v1 v2
  box2 : Box3 wr b2 v0 v1 v2
  tab : IntsB wr w.heap.size v2 T
  below : Below w.heap.size w wr
theorem AlgSt.on {w wr w' : World} {b1 b2 : Nat} {v0 v1 v2 : Value} {T : List Int} (h : AlgSt w wr b1 b2 v0 v1 v2 T) (hb : Below wr.heap.size wr w') : AlgSt w w' b1 b2 v0 v1 v2 T :=
  ⟨h.box1.below hb h.box1.lt, h.box2.below hb h.box2.lt, h.tab.below hb h.below.size, h.below.trans (hb.mono h.below.size)⟩
theorem AlgSt.drew {w wr : World} {b1 b2 : Nat} {v0 v1 v2 : Value} {T : List Int} (h : AlgSt w wr b1 b2 v0 v1 v2 T) : AlgSt w wr.drew b1 b2 v0 v1 v2 T := h.on ⟨rfl, rfl, rfl, Nat.le_refl _, fun _ _ => rfl⟩
theorem AlgSt.grown {w wr w' : World} {b1 b2 : Nat} {v0 v1 v2 : Value} {T : List Int} {row : Option Nat} (h : AlgSt w wr b1 b2 v0 v1 v2 T) (hg : wr.grownBy w' row) (hr : ∀ k, row = some k → k ≠ b1 ∧ k ≠ b2 ∧ w.heap.size ≤ k) : AlgSt w w' b1 b2 v0 v1 v2 T :=
  ⟨h.box1.grown hg (fun e => (hr _ e).1 rfl), h.box2.grown hg (fun e => (hr _ e).2.1 rfl), h.tab.grownRow hg (fun k hk => (hr k hk).2.2) h.below.size, h.below.grown hg h.below.size (fun k hk => (hr k hk).2.2)⟩
theorem alg_start {w w2 w3 : World} {v0 v1 v2 : Value} {T : List Int} {t1 t2 : TypeId} (hB : IntsB (w.alloc (.cells #[v0, v1, v2] t1)) w.heap.size v2 T) (hb : Below w.heap.size w (w.alloc (.cells #[v0, v1, v2] t1)))
    (hbx : Box3 (w.alloc (.cells #[v0, v1, v2] t1)) w.heap.size v0 v1 v2) (hb2 : Below (w.alloc (.cells #[v0, v1, v2] t1)).heap.size (w.alloc (.cells #[v0, v1, v2] t1)) w2) (hb3 : Below w2.heap.size w2 w3) :
    AlgSt w (w3.alloc (.cells #[v0, v1, v2] t2)) w.heap.size w3.heap.size v0 v1 v2 T := by
  have k1 : Below (w.alloc (.cells #[v0, v1, v2] t1)).heap.size (w.alloc (.cells #[v0, v1, v2] t1)) (w3.alloc (.cells #[v0, v1, v2] t2)) := (hb2.trans (hb3.mono hb2.size)).alloc (Nat.le_trans hb2.size hb3.size) _
  exact ⟨hbx.below k1 hbx.lt, Box3.new _ _ _ _ _, hB.below k1 (by simp), hb.trans (k1.mono (by simp))⟩
set_option maxRecDepth 100000 in
set_option maxHeartbeats 4000000 in
theorem AlgebraOkI_in (p : Int) (n : Nat) (t : Value) (T : List Int) (w : World) (ht : Ints w t T) (b1 : isPrime p = true) (hn : n ≤ 28) (b3 : T.length = n * n * n) (b4 : resid p T = true) :
    Calls Tryz.prog 76 #[.agg #[.int .i64 p, .int .i64 n, t]] w (RetBool w (tableI T n p)) := by
  obtain ⟨A, c, rfl, h1, h2, h3⟩ := id ht
  clear h3
  have hp2 := isPrime_bd b1
  have b2 : inR n 0 28 = true := inR_true (by omega) (by omega)
  have hc := cube_le hn
  have hm2 : n * n ≤ 784 := Nat.mul_le_mul hn hn
  have r1 : 0 ≤ (n : Int) * n ∧ (n : Int) * n ≤ 784 := by have : ((n * n : Nat) : Int) = (n : Int) * n := by simp
                                                          omega
  have r2 : 0 ≤ (n : Int) * n * n ∧ (n : Int) * n * n ≤ 21952 := by have : ((n * n * n : Nat) : Int) = (n : Int) * n * n := by simp
                                                                    omega
  have t3 : ((T.length : Int) != (n : Int) * n * n) = false := by simp [b3]
  have hb : Below w.heap.size w (w.alloc (.cells #[.int .i64 p, .int .i64 n, .slice A T.length c] 30)) := (Below.refl _ _).alloc (Nat.le_refl _) _
  have hB := ht.toB.below hb (Nat.le_refl _)
  have hbx := Box3.new w 30 (.int .i64 p) (.int .i64 n) (.slice A T.length c)
  obtain ⟨R, hR⟩ : ∃ R, R = tableI T n p := ⟨_, rfl⟩
  rw [← hR]
  have HR := Lib.hid hR
  have H3 := Lib.hid b3
  have htl : T.length ≤ 21952 := by omega
  clear hR b3 ht
  go_enter Tryz.func76, Tryz.ntmps76
  go_wp2_with (first
    | (go_at_call 108; refine (IsPrimeI_any _ _).mono ?_; rintro e w' ⟨rfl, rfl⟩)
    | (go_at_call 56; refine (inside_any _ _ _ _).mono ?_; rintro e w' ⟨rfl, rfl⟩)
    | (go_at_call 109; refine (residues_any _ T p _ (by omega) (by omega) hB.ints).mono ?_; rintro e w2 ⟨rfl, hb2⟩; have hbx2 := hbx.below hb2 (by simp); obtain ⟨x0, x1, x2⟩ := id hbx2)
    | (go_at_call 44; refine (newLie_any p n _ A T.length c _ rfl).mono ?_; rintro e w3 ⟨rfl, hb3⟩; have hst := alg_start (t2 := 69) hB hb hbx hb2 hb3; obtain ⟨⟨y0, y1, y2⟩, ⟨z0, z1, z2⟩, _, _⟩ := id hst))
  obtain ⟨J, hJ⟩ : ∃ J, J = allF (jacI T n p) n 0 := ⟨_, rfl⟩
  have HR1 : Hid (R = (allF (fun i => allF (pairI T n p i) (i + 1) 0) n 0 && J)) := by rw [hJ]; exact HR
  have HJ := Lib.hid hJ
  clear hJ HR hbx hbx2 hB hb hb2 hb3 x0 x1 x2 y0 y1 y2 z0 z1 z2
  obtain ⟨c2, hc2⟩ : ∃ c2, c2 = w3.heap.size := ⟨_, rfl⟩
  rw [← hc2] at hst
  rw [← hc2]
  obtain ⟨W, hW⟩ : ∃ W, W = w3.alloc (.cells #[.int .i64 p, .int .i64 n, .slice A T.length c] 69) := ⟨_, rfl⟩
  rw [← hW] at hst
  rw [← hW]
  clear hW hc2
  go_loopw [47] (fun vi wr => ∃ i : Nat, vi = .int .i64 i ∧ i ≤ n ∧ AlgSt w wr w.heap.size c2 (.int .i64 p) (.int .i64 n) (.slice A T.length c) T ∧ Hid (R = (allF (fun i => allF (pairI T n p i) (i + 1) 0) (n - i) i && J))) (fun vi _ => n - (intOf vi).toNat)
  case atStart => exact ⟨0, rfl, by omega, hst, HR1⟩
  case round =>
    obtain ⟨i, rfl, a1, hst, HM⟩ := hrel
    by_cases hi : i < n
    · obtain ⟨W1, rfl⟩ : ∃ W1 : World, W1 = wr := ⟨_, rfl⟩
      obtain ⟨K1, hK1⟩ : ∃ K1, K1 = (allF (fun i => allF (pairI T n p i) (i + 1) 0) (n - (i + 1)) (i + 1) && J) := ⟨_, rfl⟩
      have HM1 : Hid (R = (allF (pairI T n p i) (i + 1) 0 && K1)) := by
        have := HM.out
        rw [show n - i = (n - (i + 1)) + 1 from by omega, allF, Bool.and_assoc, ← hK1] at this
        exact this
      have HK1 := Lib.hid hK1
      clear hK1 HM
      obtain ⟨⟨x0, x1, x2⟩, _, _, _⟩ := id hst
      go_wp2
      clear x0 x1 x2
      go_loopw [52] (fun vj wr => ∃ j : Nat, vj = .int .i64 j ∧ j ≤ i + 1 ∧ AlgSt w wr w.heap.size c2 (.int .i64 p) (.int .i64 n) (.slice A T.length c) T ∧ Hid (R = (allF (pairI T n p i) (i + 1 - j) j && K1))) (fun vj _ => i + 1 - (intOf vj).toNat)
      case atStart => exact ⟨0, rfl, by omega, hst, HM1⟩
      case round =>
        obtain ⟨j, rfl, a2, hst1, HM2⟩ := hrel
        clear hst HM1
        by_cases hj : j < i + 1
        · obtain ⟨_, ⟨y0, y1, y2⟩, ht1, hb1⟩ := id hst1
          go_wp2_with fail
          refine (pair_any p n _ T i j w.heap.size _ ht1 hb1.size H3.out hi (by omega) hn).mono ?_
          rintro e w4 ⟨A4, c4, rfl, hr4, hb4⟩
          have hst4 := hst1.on hb4
          clear y0 y1 y2 ht1 hb1 hst1
          go_wp2_with fail
          refine (Clone_any _ (rowT T n i j) _ hr4.ints (by rw [rowT, length_tab]; omega)).mono ?_
          rintro e w5 ⟨x5, rfl, ho5, hb5⟩
          have hst5 := hst4.on hb5
          have hs5 := hst4.below.size
          have hc4 : c2 < w4.heap.size := hst4.box2.lt
          have hc4' : w.heap.size < w4.heap.size := hst4.box1.lt
          have ho5' := ho5.toIn
          clear hr4 hst4 hb4 hb5
          obtain ⟨⟨x0, x1, x2⟩, ⟨y0, y1, y2⟩, ht5, hb5⟩ := id hst5
          go_wp2
          go_region_held3 (fun w' => w'.cell? ⟨w.heap.size, 0, none⟩ = some (.int .i64 p) ∧ w'.cell? ⟨c2, 0, none⟩ = some (.int .i64 p) ∧ w'.cell? ⟨c2, 1, none⟩ = some (.int .i64 n) ∧ w'.cell? ⟨c2, 2, none⟩ = some (.slice A T.length c))
            (first | exact ⟨x0, y0, y1, y2⟩ | exact ⟨hst6.box1.1, hst6.box2⟩ | exact ⟨hst7.box1.1, hst7.box2⟩)
            (first
              | (go_at_call 110; refine (pair_any p n _ T j i w.heap.size _ ?_ ?_ H3.out (by omega) hi hn).mono ?_; exact ht5; exact hb5.size; rintro e w6 ⟨A6, c6, rfl, hr6, hb6⟩; have hst6 := hst5.drew.on hb6)
              | (go_at_call 111; (have ho6 : Own w6 w4.heap.size x5 (rowT T n i j) := Own.below (w := w5.drew) ho5 hb6);
                  (have c6' := addTo_own x5 (.slice A6 n c6) (rowT T n i j) (rowT T n j i) 1 p w4.heap.size w.heap.size w6 ho6 hr6 (by omega) (by rw [rowT, rowT, length_tab, length_tab]) (by rw [rowT, length_tab]; omega) (by omega) (by omega) (by omega) (by omega) (resid_rowT b4 (by omega) n i j) (resid_rowT b4 (by omega) n j i));
                  refine c6'.mono ?_; rintro e w7 ⟨rfl, ho7, hg7⟩; have hst7 := hst6.grown hg7 (fun k hk => by have := (ho6.lt k hk).1; omega)))
          clear ho6 c6' hst6 hst5 x0 x1 x2 y0 y1 y2 ht5 hb5
          go_wp2_with fail
          refine (isZero_any _ _ _ ho7.ints).mono ?_
          rintro e w8 ⟨rfl, rfl⟩
          have HS := Lib.hid (show allF (pairI T n p i) (i + 1 - j) j = (pairI T n p i j && allF (pairI T n p i) (i + 1 - (j + 1)) (j + 1)) by
            rw [show i + 1 - j = (i + 1 - (j + 1)) + 1 from by omega, allF])
          by_cases z1 : zeroL (addL (rowT T n i j) 1 (rowT T n j i) p) = true
          · by_cases e : i = j
            · have e1 : ((i : Int) == (j : Int)) = true := by simp [e]
              by_cases z2 : zeroL (rowT T n i i) = true
              · have HP := Lib.hid (show pairI T n p i j = true by simp [pairI, z1, z2])
                have He := Lib.hid e
                clear e
                obtain ⟨_, ⟨y0, y1, y2⟩, ht7, hb7⟩ := id hst7
                go_wp2_with (first
                  | (go_at_call 110; refine (pair_any p n _ T i i w.heap.size _ ht7 hb7.size H3.out hi hi hn).mono ?_; rintro e w9 ⟨A9, c9, rfl, hr9, hb9⟩; have hst9 := hst7.on hb9)
                  | (go_at_call 26; refine (isZero_any _ _ _ hr9.ints).mono ?_; rintro e w10 ⟨rfl, rfl⟩))
                go_roundw
                case rel => exact ⟨j + 1, by go_num, by omega, hst9, by have := HM2.out; rw [HS.out, HP.out] at this; exact this⟩
                case measure => simp [intOf]; omega
              · have z2 : zeroL (rowT T n i i) = false := by simpa using z2
                have HP := Lib.hid (show pairI T n p i j = false by simp only [pairI, if_pos e, z2, Bool.and_false])
                have He := Lib.hid e
                clear e
                obtain ⟨_, ⟨y0, y1, y2⟩, ht7, hb7⟩ := id hst7
                go_wp2_with (first
                  | (go_at_call 110; refine (pair_any p n _ T i i w.heap.size _ ht7 hb7.size H3.out hi hi hn).mono ?_; rintro e w9 ⟨A9, c9, rfl, hr9, hb9⟩; have hst9 := hst7.on hb9)
                  | (go_at_call 26; refine (isZero_any _ _ _ hr9.ints).mono ?_; rintro e w10 ⟨rfl, rfl⟩))
                go_ret
                exact ⟨ret_bool (by rw [HM2.out, HS.out, HP.out]; rfl), hst9.below⟩
            · have e1 : ((i : Int) == (j : Int)) = false := by simp; omega
              have HP := Lib.hid (show pairI T n p i j = true by simp [pairI, z1, e])
              have He := Lib.hid e
              clear e
              go_wp2
              go_roundw
              case rel => exact ⟨j + 1, by go_num, by omega, hst7, by have := HM2.out; rw [HS.out, HP.out] at this; exact this⟩
              case measure => simp [intOf]; omega
          · have z1 : zeroL (addL (rowT T n i j) 1 (rowT T n j i) p) = false := by simpa using z1
            have HP := Lib.hid (show pairI T n p i j = false by simp [pairI, z1])
            go_wp2
            go_ret
            exact ⟨ret_bool (by rw [HM2.out, HS.out, HP.out]; rfl), hst7.below⟩
        · obtain rfl : j = i + 1 := by omega
          have HR3 : Hid (R = K1) := by have := HM2.out; rw [Nat.sub_self, allF, Bool.true_and] at this; exact this
          go_wp2
          go_roundw
          case rel => exact ⟨i + 1, by go_num, by omega, hst1, by show R = _; rw [HR3.out, HK1.out]⟩
          case measure => simp [intOf]; omega
    · obtain rfl : n = i := by omega
      have HR3 : Hid (R = allF (jacI T n p) n 0) := by have := HM.out; rw [Nat.sub_self, allF, Bool.true_and, HJ.out] at this; exact this
      obtain ⟨⟨x0, x1, x2⟩, _, _, _⟩ := id hst
      obtain ⟨W1, rfl⟩ : ∃ W1 : World, W1 = wr := ⟨_, rfl⟩
      go_wp2
      clear x0 x1 x2 HM
      go_loopw [88] (fun vi wr => ∃ i : Nat, vi = .int .i64 i ∧ i ≤ n ∧ AlgSt w wr w.heap.size c2 (.int .i64 p) (.int .i64 n) (.slice A T.length c) T ∧ Hid (R = allF (jacI T n p) (n - i) i)) (fun vi _ => n - (intOf vi).toNat)
      case atStart => exact ⟨0, rfl, by omega, hst, HR3⟩
      case round =>
        obtain ⟨i, rfl, a1, hst, HM⟩ := hrel
        by_cases hi : i < n
        · obtain ⟨W2, rfl⟩ : ∃ W2 : World, W2 = wr := ⟨_, rfl⟩
          obtain ⟨K2, hK2⟩ : ∃ K2, K2 = allF (jacI T n p) (n - (i + 1)) (i + 1) := ⟨_, rfl⟩
          have HM1 : Hid (R = (jacI T n p i && K2)) := by
            have := HM.out
            rw [show n - i = (n - (i + 1)) + 1 from by omega, allF, ← hK2] at this
            exact this
          have HK2 := Lib.hid hK2
          clear hK2 HM
          go_wp2
          go_loopw [8] (fun vj wr => ∃ j : Nat, vj = .int .i64 j ∧ i + 1 ≤ j ∧ j ≤ n ∧ AlgSt w wr w.heap.size c2 (.int .i64 p) (.int .i64 n) (.slice A T.length c) T ∧ Hid (R = (allF (fun j => allF (fun k => zeroL (jacL T n p i j k)) (n - (j + 1)) (j + 1)) (n - j) j && K2))) (fun vj _ => n - (intOf vj).toNat)
          case atStart => exact ⟨i + 1, by go_num, by omega, by omega, hst, HM1⟩
          case round =>
            obtain ⟨j, rfl, a2, a3, hst2, HM2⟩ := hrel
            obtain ⟨⟨x0, x1, x2⟩, _, _, _⟩ := id hst2
            clear hst HM1
            by_cases hj : j < n
            · obtain ⟨W3, rfl⟩ : ∃ W3 : World, W3 = wr := ⟨_, rfl⟩
              obtain ⟨K3, hK3⟩ : ∃ K3, K3 = (allF (fun j => allF (fun k => zeroL (jacL T n p i j k)) (n - (j + 1)) (j + 1)) (n - (j + 1)) (j + 1) && K2) := ⟨_, rfl⟩
              have HM3 : Hid (R = (allF (fun k => zeroL (jacL T n p i j k)) (n - (j + 1)) (j + 1) && K3)) := by
                have := HM2.out
                rw [show n - j = (n - (j + 1)) + 1 from by omega, allF, Bool.and_assoc, ← hK3] at this
                exact this
              have HK3 := Lib.hid hK3
              clear hK3 HM2
              go_wp2
              clear x0 x1 x2
              go_loopw [9] (fun vk wr => ∃ k : Nat, vk = .int .i64 k ∧ j + 1 ≤ k ∧ k ≤ n ∧ AlgSt w wr w.heap.size c2 (.int .i64 p) (.int .i64 n) (.slice A T.length c) T ∧ Hid (R = (allF (fun k => zeroL (jacL T n p i j k)) (n - k) k && K3))) (fun vk _ => n - (intOf vk).toNat)
              case atStart => exact ⟨j + 1, by go_num, by omega, by omega, hst2, HM3⟩
              case round =>
                obtain ⟨k, rfl, a4, a5, hst3, HM4⟩ := hrel
                clear hst2 HM3
                obtain ⟨⟨x0, x1, x2⟩, ⟨y0, y1, y2⟩, ht3, hb3⟩ := id hst3
                by_cases hk : k < n
                · have HS := Lib.hid (show allF (fun k => zeroL (jacL T n p i j k)) (n - k) k = (zeroL (jacL T n p i j k) && allF (fun k => zeroL (jacL T n p i j k)) (n - (k + 1)) (k + 1)) by
                    rw [show n - k = (n - (k + 1)) + 1 from by omega, allF])
                  go_wp2
                  go_region_held3 (fun w' => w'.cell? ⟨w.heap.size, 0, none⟩ = some (.int .i64 p) ∧ w'.cell? ⟨c2, 0, none⟩ = some (.int .i64 p) ∧ w'.cell? ⟨c2, 1, none⟩ = some (.int .i64 n) ∧ w'.cell? ⟨c2, 2, none⟩ = some (.slice A T.length c))
                    (first | exact ⟨x0, y0, y1, y2⟩ | exact ⟨hst6.box1.1, hst6.box2⟩ | exact ⟨hst7.box1.1, hst7.box2⟩)
                    (first
                      | (go_at_call 110; refine (pair_any p n _ T i j w.heap.size _ ?_ ?_ H3.out (by omega) hj hn).mono ?_; exact ht3; exact hb3.size; rintro e w6 ⟨A6, c6, rfl, hr6, hb6⟩; have hst6 := hst3.drew.on hb6)
                      | (go_at_call 81; (have c7 := right_any p n _ _ T (rowT T n i j) k w.heap.size w6 hst6.tab hr6 hst6.below.size H3.out (by rw [rowT, length_tab]) hk hn hp2.1 hp2.2 b4 (resid_rowT b4 (by omega) n i j)); refine c7.mono ?_; rintro e w7 ⟨x7, rfl, ho7, hb7⟩; have hst7 := hst6.on hb7))
                  have ho7' := ho7.toIn
                  have hs6 := hst6.below.size
                  have hc6 : c2 < w6.heap.size := hst6.box2.lt
                  have hc6' : w.heap.size < w6.heap.size := hst6.box1.lt
                  clear hst6 hr6 hb6 ho7 hb7 c7 hst3 x0 x1 x2 y0 y1 y2 ht3 hb3
                  obtain ⟨⟨x0, x1, x2⟩, ⟨y0, y1, y2⟩, ht3, hb3⟩ := id hst7
                  go_wp2
                  go_region_held3 (fun w' => w'.cell? ⟨w.heap.size, 0, none⟩ = some (.int .i64 p) ∧ w'.cell? ⟨c2, 0, none⟩ = some (.int .i64 p) ∧ w'.cell? ⟨c2, 1, none⟩ = some (.int .i64 n) ∧ w'.cell? ⟨c2, 2, none⟩ = some (.slice A T.length c))
                    (first | exact ⟨x0, y0, y1, y2⟩ | exact ⟨hst8.box1.1, hst8.box2⟩ | exact ⟨hst9.box1.1, hst9.box2⟩ | exact ⟨hst10.box1.1, hst10.box2⟩)
                    (first
                      | (go_at_call 110; refine (pair_any p n _ T j k w.heap.size _ ?_ ?_ H3.out (by omega) (by omega) hn).mono ?_; exact ht3; exact hb3.size; rintro e w8 ⟨A8, c8, rfl, hr8, hb8⟩; have hst8 := hst7.drew.on hb8)
                      | (go_at_call 81; (have cc := right_any p n _ _ T (rowT T n j k) i w.heap.size w8 hst8.tab hr8 hst8.below.size H3.out (by rw [rowT, length_tab]) (by omega) hn hp2.1 hp2.2 b4 (resid_rowT b4 (by omega) n j k)); refine cc.mono ?_; rintro e w9 ⟨x9, rfl, ho9, hb9⟩; have hst9 := hst8.on hb9)
                      | (go_at_call 111; (have hz : OwnIn w9 w6.heap.size w7.heap.size x7 (rightL T (rowT T n i j) n p k) := OwnIn.below (OwnIn.below (B := w7.heap.size) (OwnIn.drew ho7') hb8 (by omega)) hb9 (by have := hb8.size; simp at *; omega));
                          (have cd := addTo_fresh x7 x9 (rightL T (rowT T n i j) n p k) (rightL T (rowT T n j k) n p i) 1 p w6.heap.size w7.heap.size w8.heap.size w9 hz ho9 (by have := hb8.size; simp at *; omega) (by simp [rightL, length_tab]) (by simp [rightL, length_tab]; omega) (by omega) (by omega) (by omega) (by omega) (by first | exact resid_mod (by omega) | exact resid_addL _ _ _ _ (by omega)) (resid_mod (by omega)));
                          refine cd.mono ?_; rintro e w10 ⟨rfl, ho10, hg10⟩; have hst10 := hst9.grown hg10 (fun k hk => by have h1 := (hz.own.lt k hk).1; omega)))
                  have ho10' : OwnIn w10 w6.heap.size w7.heap.size x7 (addL (rightL T (rowT T n i j) n p k) 1 (rightL T (rowT T n j k) n p i) p) := ⟨ho10, hz.top⟩
                  have hs10 : w7.heap.size ≤ w10.heap.size := by have := hb8.size; have := hb9.size; have := hg10.size; simp at *; omega
                  clear hst8 hst9 hr8 hb8 ho9 hb9 hg10 ho10 cc cd hz ho7' hst7 x0 x1 x2 y0 y1 y2 ht3 hb3
                  obtain ⟨⟨x0, x1, x2⟩, ⟨y0, y1, y2⟩, ht3, hb3⟩ := id hst10
                  go_wp2
                  go_region_held3 (fun w' => w'.cell? ⟨w.heap.size, 0, none⟩ = some (.int .i64 p) ∧ w'.cell? ⟨c2, 0, none⟩ = some (.int .i64 p) ∧ w'.cell? ⟨c2, 1, none⟩ = some (.int .i64 n) ∧ w'.cell? ⟨c2, 2, none⟩ = some (.slice A T.length c))
                    (first | exact ⟨x0, y0, y1, y2⟩ | exact ⟨hst11.box1.1, hst11.box2⟩ | exact ⟨hst12.box1.1, hst12.box2⟩ | exact ⟨hst13.box1.1, hst13.box2⟩)
                    (first
                      | (go_at_call 110; refine (pair_any p n _ T k i w.heap.size _ ?_ ?_ H3.out (by omega) (by omega) hn).mono ?_; exact ht3; exact hb3.size; rintro e w11 ⟨A11, c11, rfl, hr11, hb11⟩; have hst11 := hst10.drew.on hb11)
                      | (go_at_call 81; (have cc := right_any p n _ _ T (rowT T n k i) j w.heap.size w11 hst11.tab hr11 hst11.below.size H3.out (by rw [rowT, length_tab]) (by omega) hn hp2.1 hp2.2 b4 (resid_rowT b4 (by omega) n k i)); refine cc.mono ?_; rintro e w12 ⟨x12, rfl, ho12, hb12⟩; have hst12 := hst11.on hb12)
                      | (go_at_call 111; (have hz : OwnIn w12 w6.heap.size w7.heap.size x7 (addL (rightL T (rowT T n i j) n p k) 1 (rightL T (rowT T n j k) n p i) p) := OwnIn.below (OwnIn.below (B := w10.heap.size) (OwnIn.drew ho10') hb11 (by omega)) hb12 (by have := hb11.size; simp at *; omega));
                          (have cd := addTo_fresh x7 x12 (addL (rightL T (rowT T n i j) n p k) 1 (rightL T (rowT T n j k) n p i) p) (rightL T (rowT T n k i) n p j) 1 p w6.heap.size w7.heap.size w11.heap.size w12 hz ho12 (by have := hb11.size; simp at *; omega) (by simp [rightL, length_tab, length_addL]) (by simp [rightL, length_tab, length_addL]; omega) (by omega) (by omega) (by omega) (by omega) (by first | exact resid_mod (by omega) | exact resid_addL _ _ _ _ (by omega)) (resid_mod (by omega)));
                          refine cd.mono ?_; rintro e w13 ⟨rfl, ho13, hg13⟩; have hst13 := hst12.grown hg13 (fun k hk => by have h1 := (hz.own.lt k hk).1; omega)))
                  have ho13' : OwnIn w13 w6.heap.size w7.heap.size x7 (addL (addL (rightL T (rowT T n i j) n p k) 1 (rightL T (rowT T n j k) n p i) p) 1 (rightL T (rowT T n k i) n p j) p) := ⟨ho13, hz.top⟩
                  have hs13 : w10.heap.size ≤ w13.heap.size := by have := hb11.size; have := hb12.size; have := hg13.size; simp at *; omega
                  clear hst11 hst12 hr11 hb11 ho12 hb12 hg13 ho13 cc cd hz ho10' hst10 x0 x1 x2 y0 y1 y2 ht3 hb3
                  go_wp2_with fail
                  refine (isZero_any _ _ _ ho13'.ints).mono ?_
                  rintro e w14 ⟨rfl, rfl⟩
                  by_cases z : zeroL (jacL T n p i j k) = true
                  · have z1 : zeroL (addL (addL (rightL T (rowT T n i j) n p k) 1 (rightL T (rowT T n j k) n p i) p) 1 (rightL T (rowT T n k i) n p j) p) = true := z
                    go_wp2
                    go_roundw
                    case rel => exact ⟨k + 1, by go_num, by omega, by omega, hst13, by have := HM4.out; rw [HS.out, z] at this; exact this⟩
                    case measure => simp [intOf]; omega
                  · have z : zeroL (jacL T n p i j k) = false := by simpa using z
                    have z1 : zeroL (addL (addL (rightL T (rowT T n i j) n p k) 1 (rightL T (rowT T n j k) n p i) p) 1 (rightL T (rowT T n k i) n p j) p) = false := z
                    go_wp2
                    go_ret
                    exact ⟨ret_bool (by rw [HM4.out, HS.out, z]; rfl), hst13.below⟩
                · obtain rfl : n = k := by omega
                  have HR5 : Hid (R = K3) := by have := HM4.out; rw [Nat.sub_self, allF, Bool.true_and] at this; exact this
                  go_wp2
                  go_roundw
                  case rel => exact ⟨j + 1, by go_num, by omega, by omega, hst3, by show R = _; rw [HR5.out, HK3.out]⟩
                  case measure => simp [intOf]; omega
            · obtain rfl : n = j := by omega
              have HR5 : Hid (R = K2) := by have := HM2.out; rw [Nat.sub_self, allF, Bool.true_and] at this; exact this
              go_wp2
              go_roundw
              case rel => exact ⟨i + 1, by go_num, by omega, hst2, by show R = _; rw [HR5.out, HK2.out]⟩
              case measure => simp [intOf]; omega
        · obtain rfl : n = i := by omega
          have HR5 : Hid (R = true) := by have := HM.out; rw [Nat.sub_self, allF] at this; exact this
          go_wp2
          go_ret
          exact ⟨ret_bool HR5.out.symm, hst.below⟩
end
section
open Go.RowKit
theorem idx3_bd {n i j k : Nat} (hi : i < n) (hj : j < n) (hk : k < n) : (i * n + j) * n + k < n * n * n := by have := idx_bd hi hj; omega
set_option maxHeartbeats 400000 in
theorem l2Get_any (p : Int) (n : Nat) (t : Value) (T : List Int) (i j k B : Nat) (w : World) (ht : IntsB w B t T) (hB : B ≤ w.heap.size) (hT : T.length = n * n * n) (hi : i < n) (hj : j < n) (hk : k < n) (hn : n ≤ 28) :
    Calls Tryz.prog 99 #[.agg #[.int .i64 p, .int .i64 n, t], .int .i64 i, .int .i64 j, .int .i64 k] w fun e w' => e = .returned (.int .i64 (t3 T n i j k)) ∧ Below w.heap.size w w' := by
  obtain ⟨A, c, rfl, h1, h2, h3⟩ := id ht.1
  clear h3
  have hb := idx3_bd hi hj hk
  have hcu := cube_le hn
  rw [← hT] at hb hcu
  obtain ⟨a, ha⟩ : ∃ a, a = (i * n + j) * n + k := ⟨_, rfl⟩
  have hin : i * n ≤ 784 := by have := Nat.mul_le_mul (Nat.le_trans (Nat.le_of_lt hi) hn) hn; omega
  have r1 : 0 ≤ (i : Int) * n ∧ (i : Int) * n ≤ 784 := by
    have : ((i * n : Nat) : Int) = (i : Int) * n := by simp
    omega
  have r2 : 0 ≤ ((i : Int) * n + j) * n ∧ ((i : Int) * n + j) * n ≤ 21952 := by
    have : (((i * n + j) * n : Nat) : Int) = ((i : Int) * n + j) * n := by simp
    omega
  have hat : ((i : Int) * n + j) * n + k = (a : Int) := by rw [ha]; simp
  rw [← ha] at hb
  have ht1 : IntsB (w.alloc (.cells #[.int .i64 p, .int .i64 n, .slice A T.length c] 30)) B (.slice A T.length c) T := ht.below ((Below.refl B w).alloc hB _) (Nat.le_refl _)
  obtain ⟨b, off, rfl, hbB, e1⟩ := ht1.cell hb
  have HV := Lib.hid (show vec T a = t3 T n i j k by rw [t3, ← ha])
  have HT := Lib.hid hT
  have HA := Lib.hid ha
  clear ha hT
  go_enter Tryz.func99, Tryz.ntmps99
  go_wp2
  go_ret
  exact ⟨ret_int HV.out, (Below.refl _ _).alloc (Nat.le_refl _) _⟩
set_option maxHeartbeats 400000 in
theorem l2Row_any (p : Int) (n : Nat) (t : Value) (T : List Int) (i j B : Nat) (w : World) (ht : IntsB w B t T) (hB : B ≤ w.heap.size) (hT : T.length = n * n * n) (hi : i < n) (hj : j < n) (hn : n ≤ 28) :
    Calls Tryz.prog 125 #[.agg #[.int .i64 p, .int .i64 n, t], .int .i64 i, .int .i64 j] w (RetB w B n (rowT T n i j)) := by
  obtain ⟨A, c, rfl, h1, h2, h3⟩ := id ht.1
  clear h3
  have hcut := rowT_cut hT hi hj
  have hb := idx_bd hi hj
  have hcu := cube_le hn
  rw [← hT] at hb hcu
  obtain ⟨a, ha⟩ : ∃ a, a = (i * n + j) * n := ⟨_, rfl⟩
  have hin : i * n ≤ 784 := by have := Nat.mul_le_mul (Nat.le_trans (Nat.le_of_lt hi) hn) hn; omega
  have r1 : 0 ≤ (i : Int) * n ∧ (i : Int) * n ≤ 784 := by
    have : ((i * n : Nat) : Int) = (i : Int) * n := by simp
    omega
  have hat : ((i : Int) * n + j) * n = (a : Int) := by rw [ha]; simp
  have hat2 : ((i : Int) * n + j + 1) * n = (a : Int) + n := by rw [ha, Int.add_mul _ 1, Int.one_mul]; simp
  rw [← ha] at hcut hb
  have ha2 : a ≤ 21952 := by omega
  obtain ⟨A', hrun0, hA'⟩ := cutMidB ht a (a + n) (by omega) (by omega)
  have e1 : a + n - a = n := by omega
  rw [e1] at hrun0 hA'
  rw [hcut] at hA'
  have hrun : ∀ W : World, (Instr.sliceAt 22 (.slice A T.length c) (some (.int .i64 (a : Int))) (some (.int .i64 ((a : Int) + (n : Int)))) none).run Tryz.prog W = .ok (.slice A' n (c - a)) W := fun W => hrun0 W
  have HT := Lib.hid hT
  have HA := Lib.hid ha
  clear hrun0 hcut e1 ha hT
  go_enter Tryz.func125, Tryz.ntmps125
  go_wp2
  go_ret
  exact ⟨A', c - a, rfl, hA'.below ((Below.refl B w).alloc hB _) (Nat.le_refl _), (Below.refl _ _).alloc (Nat.le_refl _) _⟩
def unitL (n k : Nat) : List Int := tab n fun i => if i = k then 1 else 0
set_option maxHeartbeats 400000 in
theorem l2Basis_any (n k : Nat) (w : World) (hn : n ≤ 1048576) (hk : k < n) :
    Calls Tryz.prog 63 #[.int .i64 n, .int .i64 k] w (RetOwn w (unitL n k)) := by
  have hmk := makeI n (by omega)
  have ho := Own.made (W := w) (n := n) (lo := w.heap.size) (by omega) (Nat.le_refl _)
  obtain ⟨e1, e2⟩ := ho.cell k (by simpa using hk)
  obtain ⟨ho', hg'⟩ := ho.set k 1
  rw [← tab_zero, tab_set, World.setCell_alloc_new] at ho'
  clear ho
  go_enter Tryz.func63, Tryz.ntmps63
  go_wp2
  go_ret
  exact ⟨_, rfl, ho', (Below.refl _ _).alloc (Nat.le_refl _) _⟩
def plusL (p : Int) (xs ys : List Int) : List Int := tab xs.length fun i => (vec xs i + vec ys i) % p
def upTo (k : Nat) (f : Nat → Int) (i : Nat) : Int := if i < k then f i else 0
theorem upTo_set (n k : Nat) (f : Nat → Int) : (tab n (upTo k f)).set k (f k) = tab n (upTo (k + 1) f) := by
  rw [tab_set]
  refine tab_congr fun i _ => ?_
  unfold upTo
  by_cases e : i = k
  · subst e; rw [if_pos rfl, if_pos (by omega)]
  · rw [if_neg e]
    by_cases h : i < k
    · rw [if_pos h, if_pos (by omega)]
    · rw [if_neg h, if_neg (by omega)]
theorem upTo_zero (n : Nat) (f : Nat → Int) : tab n (upTo 0 f) = List.replicate n 0 := by
  rw [← tab_zero]; exact tab_congr fun i _ => by simp [upTo]
theorem upTo_end (n : Nat) (f : Nat → Int) : tab n (upTo n f) = tab n f := tab_congr fun i hi => by simp [upTo, hi]
set_option maxHeartbeats 400000 in
theorem l2Plus_any (p : Int) (v u : Value) (xs ys : List Int) (B : Nat) (w : World) (hv : IntsB w B v xs) (hu : IntsB w B u ys) (hB : B ≤ w.heap.size) (hlen : ys.length = xs.length) (hn : xs.length ≤ 1048576) (hp : 2 ≤ p) (hp' : p ≤ 10007) (rx : resid p xs = true) (ry : resid p ys = true) :
    Calls Tryz.prog 126 #[.int .i64 p, v, u] w (RetOwn w (plusL p xs ys)) := by
  obtain ⟨A, c, rfl, _, _, _⟩ := id hv.1
  obtain ⟨A2, c2, rfl, _, _, _⟩ := id hu.1
  have hmk := makeI xs.length (by omega)
  have ho := Own.made (W := w) (n := xs.length) (lo := w.heap.size) (by omega) (Nat.le_refl _)
  have u1 : xs.length ≤ ys.length := by omega
  have HL := Lib.hid hlen
  have Hx := Lib.hid rx
  have Hy := Lib.hid ry
  clear hlen rx ry
  go_enter Tryz.func126, Tryz.ntmps126
  go_wp2
  go_loopw [8] (fun vi wr => ∃ k : Nat, vi = .int .i64 k ∧ k ≤ xs.length ∧ Own wr w.heap.size (.slice (some ⟨w.heap.size, 0, none⟩) xs.length xs.length) (tab xs.length (upTo k fun i => (vec xs i + vec ys i) % p)) ∧ Below w.heap.size w wr) (fun vi _ => xs.length - (intOf vi).toNat)
  case atStart => exact ⟨0, rfl, by omega, by rw [upTo_zero]; exact ho, (Below.refl _ _).alloc (Nat.le_refl _) _⟩
  case round =>
    obtain ⟨k, rfl, a1, ho1, hb⟩ := hrel
    by_cases hk : k < xs.length
    · have hv1 := hv.below hb hB
      have hu1 := hu.below hb hB
      obtain ⟨b, off, rfl, hbB, e1⟩ := hv1.cell hk
      obtain ⟨b', off', rfl, hbB', e2⟩ := hu1.cell (k := k) (by omega)
      obtain ⟨q1, q2⟩ := resid_vec Hx.out hk
      obtain ⟨q3, q4⟩ := resid_vec Hy.out (i := k) (by omega)
      obtain ⟨e3, e4⟩ := ho1.cell k (by rw [length_tab]; exact hk)
      obtain ⟨ho2, hg2⟩ := ho1.set k ((vec xs k + vec ys k) % p)
      have hs := upTo_set xs.length k (fun i => (vec xs i + vec ys i) % p)
      have HS := Lib.hid hs
      have n1 : b < w.heap.size := by omega
      have n2 : b' < w.heap.size := by omega
      have i1 : (k : Int) < ys.length := by omega
      have i2 : (k : Int) < xs.length := by omega
      have i3 : IntKind.i64.wrap (vec xs k + vec ys k) = vec xs k + vec ys k := IntWalk.i64_in _ (by omega)
      have i4 : 0 ≤ vec xs k + vec ys k := by omega
      have j1 : (vec xs k + vec ys k).tmod p = (vec xs k + vec ys k) % p := Int.tmod_eq_emod_of_nonneg i4
      have j2 : IntKind.i64.wrap ((vec xs k + vec ys k) % p) = (vec xs k + vec ys k) % p := by
        have := Int.emod_lt_of_pos (vec xs k + vec ys k) (b := p) (by omega)
        have := Int.emod_nonneg (vec xs k + vec ys k) (b := p) (by omega)
        exact IntWalk.i64_in _ (by omega)
      have j3 : ¬ p = 0 := by omega
      have e5 := (World.cell?_setCell_other wr ⟨w.heap.size, k, none⟩ ⟨b, off + k, none⟩ (.int .i64 ((vec xs k + vec ys k) % p)) (fun e => by injection e; omega)).trans e1
      have e6 := (World.cell?_setCell_other wr ⟨w.heap.size, k, none⟩ ⟨b', off' + k, none⟩ (.int .i64 ((vec xs k + vec ys k) % p)) (fun e => by injection e; omega)).trans e2
      clear hs ho hv hu
      go_wp2
      go_region_held3 (fun w' => w'.cell? ⟨b, off + k, none⟩ = some (.int .i64 (vec xs k)) ∧ w'.cell? ⟨b', off' + k, none⟩ = some (.int .i64 (vec ys k)))
        (first | exact ⟨e1, e2⟩ | exact ⟨e5, e6⟩)
        (fail)
      clear i3 j1 j2 j3
      have ho3 : Own (wr.setCell ⟨w.heap.size, k, none⟩ (.int .i64 ((vec xs k + vec ys k) % p))).drew w.heap.size (.slice (some ⟨w.heap.size, 0, none⟩) xs.length xs.length) (tab xs.length (upTo (k + 1) fun i => (vec xs i + vec ys i) % p)) := by rw [← HS.out]; exact ho2
      have hb3 : Below w.heap.size w (wr.setCell ⟨w.heap.size, k, none⟩ (.int .i64 ((vec xs k + vec ys k) % p))).drew := (hb.setCell (Nat.le_refl _) _).drew
      go_wp2
      go_roundw
      case rel => exact ⟨k + 1, by go_num, by omega, ho3, hb3⟩
      case measure => simp [intOf]; omega
    · obtain rfl : k = xs.length := by omega
      rw [upTo_end] at ho1
      go_wp2
      go_ret
      exact ⟨_, rfl, ho1, hb⟩
end
section
open Go.RowKit
def bra1 (T X Y : List Int) (n i k : Nat) : Int := sumTo i fun a => sumTo n fun b => vec X a * vec Y b * t3 T n a b k
def bra2 (T X Y : List Int) (n i j k : Nat) : Int := sumTo j fun b => vec X i * vec Y b * t3 T n i b k
def braF (T X Y : List Int) (n : Nat) (p : Int) (i j k : Nat) : Int := (bra1 T X Y n i k + bra2 T X Y n i j k) % p
def braM (T X Y : List Int) (n : Nat) (p : Int) (i j q k : Nat) : Int := if k < q then braF T X Y n p i (j + 1) k else braF T X Y n p i j k
def braL (T X Y : List Int) (n : Nat) (p : Int) : List Int := tab n fun k => bra1 T X Y n n k % p
theorem braF_zero (T X Y : List Int) (n : Nat) (p : Int) (i k : Nat) : braF T X Y n p i 0 k = bra1 T X Y n i k % p := by simp [braF, bra2, sumTo]
theorem braF_end (T X Y : List Int) (n : Nat) (p : Int) (i k : Nat) : braF T X Y n p i n k = bra1 T X Y n (i + 1) k % p := rfl
theorem braF_step (T X Y : List Int) (n : Nat) (p : Int) (i j k : Nat) : (braF T X Y n p i j k + (vec X i * vec Y j % p) * t3 T n i j k) % p = braF T X Y n p i (j + 1) k := by
  unfold braF
  rw [Int.add_emod, mul_mod_left', ← Int.add_emod, Int.add_emod, Int.emod_emod_of_dvd _ (Int.dvd_refl p), ← Int.add_emod]
  congr 1
  show _ = bra1 T X Y n i k + (bra2 T X Y n i j k + vec X i * vec Y j * t3 T n i j k)
  omega
theorem braF_skip (T X Y : List Int) (n : Nat) (p : Int) (i j k : Nat) (h : vec X i * vec Y j % p = 0) : braF T X Y n p i (j + 1) k = braF T X Y n p i j k := by
  rw [← braF_step, h, Int.zero_mul, Int.add_zero, braF, Int.emod_emod_of_dvd _ (Int.dvd_refl p)]
theorem bra1_skip (T X Y : List Int) (n i k : Nat) (h : vec X i = 0) : bra1 T X Y n (i + 1) k = bra1 T X Y n i k := by
  show bra1 T X Y n i k + sumTo n (fun b => vec X i * vec Y b * t3 T n i b k) = _
  rw [sumTo_congr (g := fun _ => 0) (fun b _ => by rw [h]; simp), sumTo_zero]; omega
theorem braM_zero (T X Y : List Int) (n : Nat) (p : Int) (i j : Nat) : tab n (braM T X Y n p i j 0) = tab n (braF T X Y n p i j) := tab_congr fun k _ => by simp [braM]
theorem braM_end (T X Y : List Int) (n : Nat) (p : Int) (i j : Nat) : tab n (braM T X Y n p i j n) = tab n (braF T X Y n p i (j + 1)) := tab_congr fun k hk => by simp [braM, hk]
theorem braM_skip (T X Y : List Int) (n : Nat) (p : Int) (i j q : Nat) (h : vec X i * vec Y j % p = 0) : tab n (braM T X Y n p i j q) = tab n (braF T X Y n p i (j + 1)) := tab_congr fun k _ => by
  unfold braM; rw [braF_skip T X Y n p i j k h]; split <;> rfl
theorem braM_set (T X Y : List Int) (n : Nat) (p : Int) (i j q : Nat) : (tab n (braM T X Y n p i j q)).set q (braF T X Y n p i (j + 1) q) = tab n (braM T X Y n p i j (q + 1)) := by
  rw [tab_set]
  refine tab_congr fun k _ => ?_
  unfold braM
  by_cases e : k = q
  · subst e; rw [if_pos rfl, if_pos (by omega)]
  · rw [if_neg e]
    by_cases h : k < q
    · rw [if_pos h, if_pos (by omega)]
    · rw [if_neg h, if_neg (by omega)]
theorem braM_at (T X Y : List Int) (n : Nat) (p : Int) (i j q : Nat) : braM T X Y n p i j q q = braF T X Y n p i j q := by simp [braM]
theorem braF_bd (T X Y : List Int) (n : Nat) {p : Int} (hp : 2 ≤ p) (i j k : Nat) : 0 ≤ braF T X Y n p i j k ∧ braF T X Y n p i j k < p := ⟨Int.emod_nonneg _ (by omega), Int.emod_lt_of_pos _ (by omega)⟩
structure BraSt (w wr : World) (B : Nat) (v0 v1 v2 v3 v4 : Value) (T X Y L : List Int) (n : Nat) : Prop where
  box : Box3 wr w.heap.size v0 v1 v2
  tab : IntsB wr B v2 T
  xs : IntsB wr B v3 X
  ys : IntsB wr B v4 Y
  out : Own wr (w.heap.size + 1) (.slice (some ⟨w.heap.size + 1, 0, none⟩) n n) L
  below : Below w.heap.size w wr
  size : w.heap.size + 1 < wr.heap.size
theorem BraSt.draws {w wr : World} {B : Nat} {v0 v1 v2 v3 v4 : Value} {T X Y L : List Int} {n : Nat} (h : BraSt w wr B v0 v1 v2 v3 v4 T X Y L n) (m : Nat) : BraSt w (wr.drewN m) B v0 v1 v2 v3 v4 T X Y L n :=
  ⟨h.box, ⟨h.tab.1, h.tab.2⟩, ⟨h.xs.1, h.xs.2⟩, ⟨h.ys.1, h.ys.2⟩, h.out, ⟨h.below.os, h.below.tape, h.below.output, h.below.size, h.below.block⟩, h.size⟩
theorem BraSt.on {w wr w' : World} {B : Nat} {v0 v1 v2 v3 v4 : Value} {T X Y L : List Int} {n : Nat} (h : BraSt w wr B v0 v1 v2 v3 v4 T X Y L n) (hB : B ≤ w.heap.size) (hb : Below wr.heap.size wr w') : BraSt w w' B v0 v1 v2 v3 v4 T X Y L n :=
  ⟨h.box.below hb h.box.lt, h.tab.below hb (Nat.le_trans hB h.below.size), h.xs.below hb (Nat.le_trans hB h.below.size), h.ys.below hb (Nat.le_trans hB h.below.size), h.out.below hb, h.below.trans (hb.mono h.below.size), Nat.lt_of_lt_of_le h.size hb.size⟩
theorem BraSt.set {w wr : World} {B : Nat} {v0 v1 v2 v3 v4 : Value} {T X Y L : List Int} {n : Nat} (h : BraSt w wr B v0 v1 v2 v3 v4 T X Y L n) (hB : B ≤ w.heap.size) (k : Nat) (x : Int) :
    BraSt w (wr.setCell ⟨w.heap.size + 1, k, none⟩ (.int .i64 x)) B v0 v1 v2 v3 v4 T X Y (L.set k x) n := by
  obtain ⟨ho, hg⟩ := h.out.set k x
  exact ⟨h.box.grown hg (by simp), h.tab.grownRow hg (by simp; omega) (Nat.le_trans hB h.below.size), h.xs.grownRow hg (by simp; omega) (Nat.le_trans hB h.below.size), h.ys.grownRow hg (by simp; omega) (Nat.le_trans hB h.below.size), ho,
    h.below.grown hg h.below.size (by simp), Nat.lt_of_lt_of_le h.size hg.size⟩
set_option maxHeartbeats 2000000 in
theorem l2Bracket_any (p : Int) (n : Nat) (t x y : Value) (T X Y : List Int) (B : Nat) (w : World) (ht : IntsB w B t T) (hx : IntsB w B x X) (hy : IntsB w B y Y) (hB : B ≤ w.heap.size) (hT : T.length = n * n * n) (hX : X.length = n) (hY : Y.length = n) (hn : n ≤ 28)
    (hp : 2 ≤ p) (hp' : p ≤ 10007) (rT : resid p T = true) (rX : resid p X = true) (rY : resid p Y = true) :
    Calls Tryz.prog 60 #[.agg #[.int .i64 p, .int .i64 n, t], x, y] w (RetOwn w (braL T X Y n p)) := by
  obtain ⟨A, c, rfl, _, _, _⟩ := id ht.1
  obtain ⟨A2, c2, rfl, _, _, _⟩ := id hx.1
  obtain ⟨A3, c3, rfl, _, _, _⟩ := id hy.1
  have hmk := makeI n (by omega)
  have HT := Lib.hid hT
  have HX := Lib.hid hX
  have HY := Lib.hid hY
  have HrT := Lib.hid rT
  have HrX := Lib.hid rX
  have HrY := Lib.hid rY
  have u1 : (n : Int) ≤ X.length := by omega
  have u2 : (n : Int) ≤ Y.length := by omega
  have htl : T.length ≤ 21952 := by rw [hT]; exact cube_le hn
  have hst : BraSt w ((w.alloc (.cells #[.int .i64 p, .int .i64 n, .slice A T.length c] 30)).alloc (.cells (zeros n) 3)) B (.int .i64 p) (.int .i64 n) (.slice A T.length c) (.slice A2 X.length c2) (.slice A3 Y.length c3) T X Y (List.replicate n 0) n := by
    have hb1 : Below w.heap.size w (w.alloc (.cells #[.int .i64 p, .int .i64 n, .slice A T.length c] 30)) := (Below.refl _ _).alloc (Nat.le_refl _) _
    have hb2 := hb1.alloc hb1.size (.cells (zeros n) 3)
    refine ⟨(Box3.new w 30 _ _ _).below (B := w.heap.size + 1) ((Below.refl _ _).alloc (by simp) _) (by omega), ht.below hb2 hB, hx.below hb2 hB, hy.below hb2 hB, ?_, hb2, by simp⟩
    have := Own.made (W := w.alloc (.cells #[.int .i64 p, .int .i64 n, .slice A T.length c] 30)) (n := n) (lo := w.heap.size + 1) (by omega) (by simp)
    simpa only [World.size_alloc] using this
  clear hT hX hY rT rX rY ht hx hy
  go_enter Tryz.func60, Tryz.ntmps60
  go_wp2
  go_loopw [9] (fun vi wr => ∃ i : Nat, vi = .int .i64 i ∧ i ≤ n ∧ BraSt w wr B (.int .i64 p) (.int .i64 n) (.slice A T.length c) (.slice A2 X.length c2) (.slice A3 Y.length c3) T X Y (tab n fun k => bra1 T X Y n i k % p) n) (fun vi _ => n - (intOf vi).toNat)
  case atStart => exact ⟨0, rfl, by omega, by rw [tab_congr (g := fun _ => 0) (fun k _ => by simp [bra1, sumTo]), tab_zero]; exact hst⟩
  case round =>
    obtain ⟨i, rfl, a1, hst⟩ := hrel
    by_cases hi : i < n
    · obtain ⟨W1, rfl⟩ : ∃ W1 : World, W1 = wr := ⟨_, rfl⟩
      obtain ⟨b2, off2, rfl, hb2, e2⟩ := hst.xs.cell (k := i) (by rw [HX.out]; exact hi)
      have v2 : (i : Int) < X.length := by omega
      by_cases hz : vec X i = 0
      · have t1 : (vec X i == 0) = true := by simp [hz]
        have Hz := Lib.hid hz
        clear hz
        go_wp2
        go_roundw
        case rel => exact ⟨i + 1, by go_num, by omega, by rw [tab_congr (fun k _ => by rw [bra1_skip T X Y n i k Hz.out])]; exact hst⟩
        case measure => simp [intOf]; omega
      · have t1 : (vec X i == 0) = false := by simp [hz]
        have Hz := Lib.hid hz
        clear hz
        have hst0 : BraSt w W1 B (.int .i64 p) (.int .i64 n) (.slice A T.length c) (.slice (some ⟨b2, off2, none⟩) X.length c2) (.slice A3 Y.length c3) T X Y (tab n (braF T X Y n p i 0)) n := by
          rw [tab_congr (fun k _ => braF_zero T X Y n p i k)]; exact hst
        clear hst
        obtain ⟨q1, q2⟩ := resid_vec HrX.out (i := i) (by rw [HX.out]; exact hi)
        go_wp2
        clear e2
        go_loopw [10] (fun vj wr => ∃ j : Nat, vj = .int .i64 j ∧ j ≤ n ∧ BraSt w wr B (.int .i64 p) (.int .i64 n) (.slice A T.length c) (.slice (some ⟨b2, off2, none⟩) X.length c2) (.slice A3 Y.length c3) T X Y (tab n (braF T X Y n p i j)) n) (fun vj _ => n - (intOf vj).toNat)
        case atStart => exact ⟨0, rfl, by omega, hst0⟩
        case round =>
          obtain ⟨j, rfl, a2, hst1⟩ := hrel
          clear hst0
          by_cases hj : j < n
          · obtain ⟨W2, rfl⟩ : ∃ W2 : World, W2 = wr := ⟨_, rfl⟩
            obtain ⟨b2', off2', he, _, e2⟩ := hst1.xs.cell (k := i) (by rw [HX.out]; exact hi)
            simp only [Option.some.injEq, Addr.mk.injEq, and_true] at he
            obtain ⟨rfl, rfl⟩ := he
            obtain ⟨b3, off3, rfl, hb3, e3⟩ := hst1.ys.cell (k := j) (by rw [HY.out]; exact hj)
            obtain ⟨q3, q4⟩ := resid_vec HrY.out (i := j) (by rw [HY.out]; exact hj)
            obtain ⟨q5, q6⟩ := mul_range q1 (Int.le_of_lt q2) q3 q4 hp'
            obtain ⟨x0, x1, x2⟩ := id hst1.box
            have v3 : (j : Int) < Y.length := by omega
            have j0 : IntKind.i64.wrap (vec X i * vec Y j) = vec X i * vec Y j := IntWalk.i64_in _ (by omega)
            have j1 : (vec X i * vec Y j).tmod p = (vec X i * vec Y j) % p := Int.tmod_eq_emod_of_nonneg q5
            have f1 := Int.emod_lt_of_pos (vec X i * vec Y j) (b := p) (by omega)
            have f2 := Int.emod_nonneg (vec X i * vec Y j) (b := p) (by omega)
            have j2 : IntKind.i64.wrap ((vec X i * vec Y j) % p) = (vec X i * vec Y j) % p := IntWalk.i64_in _ (by omega)
            have j3 : ¬ p = 0 := by omega
            go_wp2
            go_quiet (fail)
            clear j0 j1 j2 e2 e3 x0 x1 x2
            have hst2 := hst1.draws nq
            clear hst1
            go_wp2
            obtain ⟨f, hf⟩ : ∃ f, f = vec X i * vec Y j % p := ⟨_, rfl⟩
            rw [← hf] at f1 f2
            rw [← hf]
            have HF := Lib.hid hf
            clear hf
            have hst3 : BraSt w (W2.drewN nq) B (.int .i64 p) (.int .i64 n) (.slice A T.length c) (.slice (some ⟨b2, off2, none⟩) X.length c2) (.slice (some ⟨b3, off3, none⟩) Y.length c3) T X Y (tab n (braM T X Y n p i j 0)) n := by rw [braM_zero]; exact hst2
            clear hst2
            obtain ⟨W3, hW3⟩ : ∃ W3, W3 = W2.drewN nq := ⟨_, rfl⟩
            rw [← hW3] at hst3
            rw [← hW3]
            clear hW3
            go_loopw [12] (fun vk wr => ∃ k : Nat, vk = .int .i64 k ∧ k ≤ n ∧ BraSt w wr B (.int .i64 p) (.int .i64 n) (.slice A T.length c) (.slice (some ⟨b2, off2, none⟩) X.length c2) (.slice (some ⟨b3, off3, none⟩) Y.length c3) T X Y (tab n (braM T X Y n p i j k)) n) (fun vk _ => n - (intOf vk).toNat)
            case atStart => exact ⟨0, rfl, by omega, hst3⟩
            case round =>
              obtain ⟨k, rfl, a3, hst4⟩ := hrel
              clear hst3
              by_cases hk : k < n ∧ f ≠ 0
              · obtain ⟨hk, hf0⟩ := hk
                have t2 : (f != 0) = true := by simp [hf0]
                have Hf0 := Lib.hid hf0
                clear hf0
                obtain ⟨x0, x1, x2⟩ := id hst4.box
                obtain ⟨e3, e4⟩ := hst4.out.cell k (by rw [length_tab]; exact hk)
                have e5 : (tab n (braM T X Y n p i j k))[k]'(by rw [length_tab]; exact hk) = braF T X Y n p i j k := by rw [vec_eq, vec_tab hk, braM_at]
                rw [e5] at e3
                clear e5
                obtain ⟨g1, g2⟩ := braF_bd T X Y n hp i j k
                obtain ⟨g3, g4⟩ := resid_vec' HrT.out (by omega) ((i * n + j) * n + k)
                change 0 ≤ t3 T n i j k at g3
                change t3 T n i j k < p at g4
                obtain ⟨g5, g6⟩ := mul_range f2 (Int.le_of_lt f1) g3 g4 hp'
                have HSt := Lib.hid (braF_step T X Y n p i j k)
                obtain ⟨z, hz⟩ : ∃ z, z = (braF T X Y n p i j k + f * t3 T n i j k) % p := ⟨_, rfl⟩
                have hz' : braF T X Y n p i (j + 1) k = z := by rw [← HSt.out, ← HF.out, ← hz]
                have HZ := Lib.hid hz'
                have hset : ∀ wx, BraSt w wx B (.int .i64 p) (.int .i64 n) (.slice A T.length c) (.slice (some ⟨b2, off2, none⟩) X.length c2) (.slice (some ⟨b3, off3, none⟩) Y.length c3) T X Y (tab n (braM T X Y n p i j k)) n →
                    BraSt w (wx.setCell ⟨w.heap.size + 1, k, none⟩ (.int .i64 z)) B (.int .i64 p) (.int .i64 n) (.slice A T.length c) (.slice (some ⟨b2, off2, none⟩) X.length c2) (.slice (some ⟨b3, off3, none⟩) Y.length c3) T X Y (tab n (braM T X Y n p i j (k + 1))) n := fun wx hx => by
                  have := hx.set hB k z
                  rw [← HZ.out, braM_set, HZ.out] at this
                  exact this
                have HSet := Lib.hid hset
                have m0 : IntKind.i64.wrap (f * t3 T n i j k) = f * t3 T n i j k := IntWalk.i64_in _ (by omega)
                have m1 : IntKind.i64.wrap (braF T X Y n p i j k + f * t3 T n i j k) = braF T X Y n p i j k + f * t3 T n i j k := IntWalk.i64_in _ (by omega)
                have m2 : (braF T X Y n p i j k + f * t3 T n i j k).tmod p = z := by rw [hz]; exact Int.tmod_eq_emod_of_nonneg (by omega)
                have m3 : IntKind.i64.wrap z = z := by
                  have := Int.emod_lt_of_pos (braF T X Y n p i j k + f * t3 T n i j k) (b := p) (by omega)
                  have := Int.emod_nonneg (braF T X Y n p i j k + f * t3 T n i j k) (b := p) (by omega)
                  rw [hz]; exact IntWalk.i64_in _ (by omega)
                clear hset hz hz'
                go_wp2
                refine wp_region_tail (fun w' => BraSt w w' B (.int .i64 p) (.int .i64 n) (.slice A T.length c) (.slice (some ⟨b2, off2, none⟩) X.length c2) (.slice (some ⟨b3, off3, none⟩) Y.length c3) T X Y (tab n (braM T X Y n p i j k)) n) 18 (by kernel_rfl) (by kernel_rfl) (hst4.draws 1) ?_
                simp only [List.take_succ_cons, List.take_zero, List.drop_succ_cons, List.drop_zero]
                iterate 18
                  apply wpQuiet_op
                  · exact rfl
                  · intro w' hC
                    obtain ⟨z0, z1, z2⟩ := id hC.box
                    obtain ⟨z3, z4⟩ := hC.out.cell k (by rw [length_tab]; exact hk)
                    rw [vec_eq, vec_tab hk, braM_at] at z3
                    unfold Oper.quietAt
                    go_simp
                    first
                      | exact rfl
                      | exact ⟨rfl, rfl⟩
                      | exact (l2Get_any p n _ T i j k B _ hC.tab (Nat.le_trans hB hC.below.size) HT.out hi hj hk hn).mono fun e w'' h => ⟨h.1, hC.on hB h.2⟩
                  go_simp
                refine wpQuiet_nil (fun w' hC => ?_)
                obtain ⟨z3, z4⟩ := hC.out.cell k (by rw [length_tab]; exact hk)
                go_wp2
                go_roundw
                case rel => exact ⟨k + 1, by go_num, by omega, HSet.out _ hC⟩
                case measure => simp [intOf]; omega
              · have hend : tab n (braM T X Y n p i j k) = tab n (braF T X Y n p i (j + 1)) := by
                  by_cases hf0 : f = 0
                  · exact braM_skip T X Y n p i j k (by rw [← HF.out]; exact hf0)
                  · obtain rfl : k = n := by omega
                    exact braM_end T X Y k p i j
                have Hk := Lib.hid hk
                clear hk
                rw [hend] at hst4
                by_cases hk : k < n
                · have t2 : (f != 0) = false := by
                    have := Hk.out
                    simp; omega
                  go_wp2
                  go_roundw
                  case rel => exact ⟨j + 1, by go_num, by omega, hst4⟩
                  case measure => simp [intOf]; omega
                · go_wp2
                  go_roundw
                  case rel => exact ⟨j + 1, by go_num, by omega, hst4⟩
                  case measure => simp [intOf]; omega
          · obtain rfl : j = n := by omega
            rw [tab_congr (fun k _ => braF_end T X Y j p i k)] at hst1
            go_wp2
            go_roundw
            case rel => exact ⟨i + 1, by go_num, by omega, hst1⟩
            case measure => simp [intOf]; omega
    · obtain rfl : i = n := by omega
      go_wp2
      go_ret
      exact ⟨_, rfl, hst.out.mono (Nat.le_succ _), hst.below⟩
end
section
open Go.RowKit
theorem length_braL (T X Y : List Int) (n : Nat) (p : Int) : (braL T X Y n p).length = n := length_tab _ _
theorem resid_braL (T X Y : List Int) (n : Nat) {p : Int} (hp : 2 ≤ p) : resid p (braL T X Y n p) = true := resid_mod (by omega)
theorem length_plusL (p : Int) (xs ys : List Int) : (plusL p xs ys).length = xs.length := length_tab _ _
theorem resid_plusL {p : Int} (hp : 2 ≤ p) (xs ys : List Int) : resid p (plusL p xs ys) = true := resid_mod (by omega)
theorem length_unitL (n k : Nat) : (unitL n k).length = n := length_tab _ _
theorem resid_unitL {p : Int} (hp : 2 ≤ p) (n k : Nat) : resid p (unitL n k) = true := resid_tab fun i _ => by
  by_cases h : i = k <;> simp [h] <;> omega
def jac1 (T : List Int) (n : Nat) (p : Int) (i j k : Nat) : List Int := braL T (rowT T n i j) (unitL n k) n p
def jacSL (T : List Int) (n : Nat) (p : Int) (i j k : Nat) : List Int := plusL p (plusL p (jac1 T n p i j k) (jac1 T n p j k i)) (jac1 T n p k i j)
def jacS (T : List Int) (n : Nat) (p : Int) (i : Nat) : Bool := allF (fun j => allF (fun k => zeroL (jacSL T n p i j k)) (n - (j + 1)) (j + 1)) (n - (i + 1)) (i + 1)
theorem jac1_any (p : Int) (n : Nat) (t x y : Value) (T : List Int) (i j k B : Nat) (w : World) (ht : IntsB w B t T) (hx : IntsB w B x (rowT T n i j)) (hy : IntsB w B y (unitL n k)) (hB : B ≤ w.heap.size) (hT : T.length = n * n * n) (hn : n ≤ 28)
    (hp : 2 ≤ p) (hp' : p ≤ 10007) (rT : resid p T = true) : Calls Tryz.prog 60 #[.agg #[.int .i64 p, .int .i64 n, t], x, y] w (RetOwn w (jac1 T n p i j k)) :=
  l2Bracket_any p n t x y T _ _ B w ht hx hy hB hT (by rw [rowT, length_tab]) (length_unitL _ _) hn hp hp' rT (resid_rowT rT (by omega) n i j) (resid_unitL hp n k)
set_option maxRecDepth 100000 in
set_option maxHeartbeats 4000000 in
theorem l2Jacobi_any (p : Int) (n : Nat) (t : Value) (T : List Int) (w : World) (ht : Ints w t T) (hp2 : 2 ≤ p ∧ p ≤ 10007) (hn : n ≤ 28) (b3 : T.length = n * n * n) (b4 : resid p T = true) :
    Calls Tryz.prog 100 #[.agg #[.int .i64 p, .int .i64 n, t]] w (RetBool w (allF (jacS T n p) n 0)) := by
  obtain ⟨A, c, rfl, h1, h2, h3⟩ := id ht
  clear h3
  have hb : Below w.heap.size w (w.alloc (.cells #[.int .i64 p, .int .i64 n, .slice A T.length c] 30)) := (Below.refl _ _).alloc (Nat.le_refl _) _
  have hst : AlgSt w (w.alloc (.cells #[.int .i64 p, .int .i64 n, .slice A T.length c] 30)) w.heap.size w.heap.size (.int .i64 p) (.int .i64 n) (.slice A T.length c) T :=
    ⟨Box3.new _ _ _ _ _, Box3.new _ _ _ _ _, ht.toB.below hb (Nat.le_refl _), hb⟩
  obtain ⟨R, hR⟩ : ∃ R, R = allF (jacS T n p) n 0 := ⟨_, rfl⟩
  rw [← hR]
  have HR := Lib.hid hR
  have H3 := Lib.hid b3
  clear hR b3 ht hb
  obtain ⟨⟨x0, x1, x2⟩, _, _, _⟩ := id hst
  go_enter Tryz.func100, Tryz.ntmps100
  go_wp2
  clear x0 x1 x2
  go_loopw [4] (fun vi wr => ∃ i : Nat, vi = .int .i64 i ∧ i ≤ n ∧ AlgSt w wr w.heap.size w.heap.size (.int .i64 p) (.int .i64 n) (.slice A T.length c) T ∧ Hid (R = allF (jacS T n p) (n - i) i)) (fun vi _ => n - (intOf vi).toNat)
  case atStart => exact ⟨0, rfl, by omega, hst, HR⟩
  case round =>
    obtain ⟨i, rfl, a1, hst, HM⟩ := hrel
    by_cases hi : i < n
    · obtain ⟨W2, rfl⟩ : ∃ W2 : World, W2 = wr := ⟨_, rfl⟩
      obtain ⟨K2, hK2⟩ : ∃ K2, K2 = allF (jacS T n p) (n - (i + 1)) (i + 1) := ⟨_, rfl⟩
      have HM1 : Hid (R = (jacS T n p i && K2)) := by
        have := HM.out
        rw [show n - i = (n - (i + 1)) + 1 from by omega, allF, ← hK2] at this
        exact this
      have HK2 := Lib.hid hK2
      clear hK2 HM
      go_wp2
      go_loopw [5] (fun vj wr => ∃ j : Nat, vj = .int .i64 j ∧ i + 1 ≤ j ∧ j ≤ n ∧ AlgSt w wr w.heap.size w.heap.size (.int .i64 p) (.int .i64 n) (.slice A T.length c) T ∧ Hid (R = (allF (fun j => allF (fun k => zeroL (jacSL T n p i j k)) (n - (j + 1)) (j + 1)) (n - j) j && K2))) (fun vj _ => n - (intOf vj).toNat)
      case atStart => exact ⟨i + 1, by go_num, by omega, by omega, hst, HM1⟩
      case round =>
        obtain ⟨j, rfl, a2, a3, hst2, HM2⟩ := hrel
        clear hst HM1
        by_cases hj : j < n
        · obtain ⟨W3, rfl⟩ : ∃ W3 : World, W3 = wr := ⟨_, rfl⟩
          obtain ⟨K3, hK3⟩ : ∃ K3, K3 = (allF (fun j => allF (fun k => zeroL (jacSL T n p i j k)) (n - (j + 1)) (j + 1)) (n - (j + 1)) (j + 1) && K2) := ⟨_, rfl⟩
          have HM3 : Hid (R = (allF (fun k => zeroL (jacSL T n p i j k)) (n - (j + 1)) (j + 1) && K3)) := by
            have := HM2.out
            rw [show n - j = (n - (j + 1)) + 1 from by omega, allF, Bool.and_assoc, ← hK3] at this
            exact this
          have HK3 := Lib.hid hK3
          clear hK3 HM2
          go_wp2
          go_loopw [6] (fun vk wr => ∃ k : Nat, vk = .int .i64 k ∧ j + 1 ≤ k ∧ k ≤ n ∧ AlgSt w wr w.heap.size w.heap.size (.int .i64 p) (.int .i64 n) (.slice A T.length c) T ∧ Hid (R = (allF (fun k => zeroL (jacSL T n p i j k)) (n - k) k && K3))) (fun vk _ => n - (intOf vk).toNat)
          case atStart => exact ⟨j + 1, by go_num, by omega, by omega, hst2, HM3⟩
          case round =>
            obtain ⟨k, rfl, a4, a5, hst3, HM4⟩ := hrel
            clear hst2 HM3
            obtain ⟨⟨x0, x1, x2⟩, _, ht3, hb3⟩ := id hst3
            by_cases hk : k < n
            · have HS := Lib.hid (show allF (fun k => zeroL (jacSL T n p i j k)) (n - k) k = (zeroL (jacSL T n p i j k) && allF (fun k => zeroL (jacSL T n p i j k)) (n - (k + 1)) (k + 1)) by
                rw [show n - k = (n - (k + 1)) + 1 from by omega, allF])
              go_wp2
              go_region_held3 (fun w' => w'.cell? ⟨w.heap.size, 0, none⟩ = some (.int .i64 p) ∧ w'.cell? ⟨w.heap.size, 1, none⟩ = some (.int .i64 n) ∧ w'.cell? ⟨w.heap.size, 2, none⟩ = some (.slice A T.length c))
                (first | exact ⟨x0, x1, x2⟩ | exact hst4.box1 | exact hst5.box1 | exact hst6.box1)
                (first
                  | (go_at_call 125; refine (l2Row_any p n _ T i j w.heap.size _ ?_ ?_ H3.out (by omega) hj hn).mono ?_; exact ht3; exact hb3.size; rintro e w4 ⟨A4, c4, rfl, hr4, hb4⟩; have hst4 := hst3.drew.on hb4)
                  | (go_at_call 63; refine (l2Basis_any n k w4 (by omega) hk).mono ?_; rintro e w5 ⟨x5, rfl, ho5, hb5⟩; have hst5 := hst4.on hb5)
                  | (go_at_call 60; (have cc := jac1_any p n _ _ _ T i j k w5.heap.size w5 hst5.tab.ints.toB (hr4.below hb5 hst4.below.size).ints.toB ho5.ints.toB (Nat.le_refl _) H3.out hn hp2.1 hp2.2 b4); refine cc.mono ?_; rintro e w6 ⟨x6, rfl, ho6, hb6⟩; have hst6 := hst5.on hb6))
              have ho6' : Own w6.drew w5.heap.size x6 (jac1 T n p i j k) := ho6
              clear hst4 hst5 hr4 hb4 ho5 hb5 hb6 cc hst3 x0 x1 x2 ht3 hb3 ho6
              obtain ⟨⟨x0, x1, x2⟩, _, ht3, hb3⟩ := id hst6
              go_wp2
              go_region_held3 (fun w' => w'.cell? ⟨w.heap.size, 0, none⟩ = some (.int .i64 p) ∧ w'.cell? ⟨w.heap.size, 1, none⟩ = some (.int .i64 n) ∧ w'.cell? ⟨w.heap.size, 2, none⟩ = some (.slice A T.length c))
                (first | exact ⟨x0, x1, x2⟩ | exact hst7.box1 | exact hst8.box1 | exact hst9.box1 | exact hst10.box1)
                (first
                  | (go_at_call 125; refine (l2Row_any p n _ T j k w.heap.size _ ?_ ?_ H3.out hj hk hn).mono ?_; exact ht3; exact hb3.size; rintro e w7 ⟨A7, c7, rfl, hr7, hb7⟩; have hst7 := hst6.drew.on hb7)
                  | (go_at_call 63; refine (l2Basis_any n i w7 (by omega) hi).mono ?_; rintro e w8 ⟨x8, rfl, ho8, hb8⟩; have hst8 := hst7.on hb8)
                  | (go_at_call 60; (have cc := jac1_any p n _ _ _ T j k i w8.heap.size w8 hst8.tab.ints.toB (hr7.below hb8 hst7.below.size).ints.toB ho8.ints.toB (Nat.le_refl _) H3.out hn hp2.1 hp2.2 b4); refine cc.mono ?_; rintro e w9 ⟨x9, rfl, ho9, hb9⟩; have hst9 := hst8.on hb9)
                  | (go_at_call 126; (have cd := l2Plus_any p _ _ _ _ w9.heap.size w9 (((ho6'.below hb7).below hb8).below hb9).ints.toB ho9.ints.toB (Nat.le_refl _) (by simp [jac1, length_braL]) (by simp only [jac1, length_braL]; omega) hp2.1 hp2.2 (resid_braL _ _ _ _ hp2.1) (resid_braL _ _ _ _ hp2.1)); refine cd.mono ?_; rintro e w10 ⟨x10, rfl, ho10, hb10⟩; have hst10 := hst9.on hb10))
              have ho10' : Own w10.drew w9.heap.size x10 (plusL p (jac1 T n p i j k) (jac1 T n p j k i)) := ho10
              clear hst7 hst8 hst9 hr7 hb7 ho8 hb8 ho9 hb9 hb10 cc cd hst6 x0 x1 x2 ht3 hb3 ho10 ho6'
              obtain ⟨⟨x0, x1, x2⟩, _, ht3, hb3⟩ := id hst10
              go_wp2
              go_region_held3 (fun w' => w'.cell? ⟨w.heap.size, 0, none⟩ = some (.int .i64 p) ∧ w'.cell? ⟨w.heap.size, 1, none⟩ = some (.int .i64 n) ∧ w'.cell? ⟨w.heap.size, 2, none⟩ = some (.slice A T.length c))
                (first | exact ⟨x0, x1, x2⟩ | exact hst11.box1 | exact hst12.box1 | exact hst13.box1 | exact hst14.box1)
                (first
                  | (go_at_call 125; refine (l2Row_any p n _ T k i w.heap.size _ ?_ ?_ H3.out hk hi hn).mono ?_; exact ht3; exact hb3.size; rintro e w11 ⟨A11, c11, rfl, hr11, hb11⟩; have hst11 := hst10.drew.on hb11)
                  | (go_at_call 63; refine (l2Basis_any n j w11 (by omega) hj).mono ?_; rintro e w12 ⟨x12, rfl, ho12, hb12⟩; have hst12 := hst11.on hb12)
                  | (go_at_call 60; (have cc := jac1_any p n _ _ _ T k i j w12.heap.size w12 hst12.tab.ints.toB (hr11.below hb12 hst11.below.size).ints.toB ho12.ints.toB (Nat.le_refl _) H3.out hn hp2.1 hp2.2 b4); refine cc.mono ?_; rintro e w13 ⟨x13, rfl, ho13, hb13⟩; have hst13 := hst12.on hb13)
                  | (go_at_call 126; (have cd := l2Plus_any p _ _ _ _ w13.heap.size w13 (((ho10'.below hb11).below hb12).below hb13).ints.toB ho13.ints.toB (Nat.le_refl _) (by simp [jac1, length_braL, length_plusL]) (by simp only [jac1, length_braL, length_plusL]; omega) hp2.1 hp2.2 (resid_plusL hp2.1 _ _) (resid_braL _ _ _ _ hp2.1)); refine cd.mono ?_; rintro e w14 ⟨x14, rfl, ho14, hb14⟩; have hst14 := hst13.on hb14))
              have hz14 : Ints w14 x14 (jacSL T n p i j k) := ho14.ints
              clear hst11 hst12 hst13 hr11 hb11 ho12 hb12 ho13 hb13 hb14 cc cd hst10 x0 x1 x2 ht3 hb3 ho14 ho10'
              by_cases z : zeroL (jacSL T n p i j k) = true
              · go_wp2_with (go_at_call 15; refine (l1IsZero_any _ _ _ hz14).mono ?_; rintro e w' ⟨rfl, rfl⟩)
                go_roundw
                case rel => exact ⟨k + 1, by go_num, by omega, by omega, hst14, by have := HM4.out; rw [HS.out, z] at this; exact this⟩
                case measure => simp [intOf]; omega
              · have z : zeroL (jacSL T n p i j k) = false := by simpa using z
                go_wp2_with (go_at_call 15; refine (l1IsZero_any _ _ _ hz14).mono ?_; rintro e w' ⟨rfl, rfl⟩)
                go_ret
                exact ⟨ret_bool (by rw [HM4.out, HS.out, z]; rfl), hst14.below⟩
            · obtain rfl : n = k := by omega
              have HR5 : Hid (R = K3) := by have := HM4.out; rw [Nat.sub_self, allF, Bool.true_and] at this; exact this
              go_wp2
              go_roundw
              case rel => exact ⟨j + 1, by go_num, by omega, by omega, hst3, by show R = _; rw [HR5.out, HK3.out]⟩
              case measure => simp [intOf]; omega
        · obtain rfl : n = j := by omega
          have HR5 : Hid (R = K2) := by have := HM2.out; rw [Nat.sub_self, allF, Bool.true_and] at this; exact this
          go_wp2
          go_roundw
          case rel => exact ⟨i + 1, by go_num, by omega, hst2, by show R = _; rw [HR5.out, HK2.out]⟩
          case measure => simp [intOf]; omega
    · obtain rfl : n = i := by omega
      have HR5 : Hid (R = true) := by have := HM.out; rw [Nat.sub_self, allF] at this; exact this
      go_wp2
      go_ret
      exact ⟨ret_bool HR5.out.symm, hst.below⟩
end
section
open Go.RowKit
def pairS (T : List Int) (n : Nat) (p : Int) (i j k : Nat) : Bool := (if i = j then t3 T n i j k == 0 else true) && ((t3 T n i j k + t3 T n j i k) % p == 0)
def tableS (T : List Int) (n : Nat) (p : Int) : Bool := allF (fun i => allF (fun j => allF (pairS T n p i j) n 0) (i + 1) 0) n 0 && allF (jacS T n p) n 0
set_option maxRecDepth 100000 in
set_option maxHeartbeats 1000000 in
theorem AlgebraOkS_out (p n : Int) (t : Value) (T : List Int) (w : World) (ht : Ints w t T) (h : (isPrime p && (inR n 0 28 && (decide ((T.length : Int) = n * n * n) && resid p T))) = false) :
    Calls Tryz.prog 58 #[.agg #[.int .i64 p, .int .i64 n, t]] w (RetBool w false) := by
  obtain ⟨A, c, rfl, h1, h2, h3⟩ := id ht
  clear h3
  have hb : Below w.heap.size w (w.alloc (.cells #[.int .i64 p, .int .i64 n, .slice A T.length c] 30)) := (Below.refl _ _).alloc (Nat.le_refl _) _
  by_cases b1 : isPrime p = true
  · have hp2 := isPrime_bd b1
    by_cases b2 : inR n 0 28 = true
    · obtain ⟨m, rfl⟩ : ∃ m : Nat, n = m := ⟨n.toNat, by simp [inR] at b2; omega⟩
      have hm : m ≤ 28 := by simp [inR] at b2; omega
      have hc := cube_le hm
      have hm2 : m * m ≤ 784 := Nat.mul_le_mul hm hm
      have r1 : 0 ≤ (m : Int) * m ∧ (m : Int) * m ≤ 784 := by have : ((m * m : Nat) : Int) = (m : Int) * m := by simp
                                                              omega
      have r2 : 0 ≤ (m : Int) * m * m ∧ (m : Int) * m * m ≤ 21952 := by have : ((m * m * m : Nat) : Int) = (m : Int) * m * m := by simp
                                                                        omega
      by_cases b3 : (T.length : Int) = m * m * m
      · have b4 : resid p T = false := by simpa [b1, b2, b3] using h
        have t3 : ((T.length : Int) != (m : Int) * m * m) = false := by simp [b3]
        have ht1 := ht.below hb
        clear h b3
        go_enter Tryz.func58, Tryz.ntmps58
        go_wp2_with (first
          | (go_at_call 97; refine (IsPrimeS_any _ _).mono ?_; rintro e w' ⟨rfl, rfl⟩)
          | (go_at_call 20; refine (l1In_any _ _ _ _).mono ?_; rintro e w' ⟨rfl, rfl⟩)
          | (go_at_call 98; refine (l1Residues_any _ T p _ ht1).mono ?_; rintro e w2 ⟨rfl, rfl⟩))
        go_ret
        exact ⟨rfl, hb⟩
      · have t3 : ((T.length : Int) != (m : Int) * m * m) = true := by simp [b3]
        clear h b3
        go_enter Tryz.func58, Tryz.ntmps58
        go_wp2_with (first
          | (go_at_call 97; refine (IsPrimeS_any _ _).mono ?_; rintro e w' ⟨rfl, rfl⟩)
          | (go_at_call 20; refine (l1In_any _ _ _ _).mono ?_; rintro e w' ⟨rfl, rfl⟩))
        go_ret
        exact ⟨rfl, hb⟩
    · have b2 : inR n 0 28 = false := by simpa using b2
      clear h
      go_enter Tryz.func58, Tryz.ntmps58
      go_wp2_with (first
        | (go_at_call 97; refine (IsPrimeS_any _ _).mono ?_; rintro e w' ⟨rfl, rfl⟩)
        | (go_at_call 20; refine (l1In_any _ _ _ _).mono ?_; rintro e w' ⟨rfl, rfl⟩))
      go_ret
      exact ⟨rfl, hb⟩
  · have b1 : isPrime p = false := by simpa using b1
    clear h
    go_enter Tryz.func58, Tryz.ntmps58
    go_wp2_with (go_at_call 97; refine (IsPrimeS_any _ _).mono ?_; rintro e w' ⟨rfl, rfl⟩)
    go_ret
    exact ⟨rfl, hb⟩
set_option maxRecDepth 100000 in
set_option maxHeartbeats 4000000 in
theorem AlgebraOkS_in (p : Int) (n : Nat) (t : Value) (T : List Int) (w : World) (ht : Ints w t T) (b1 : isPrime p = true) (hn : n ≤ 28) (b3 : T.length = n * n * n) (b4 : resid p T = true) :
    Calls Tryz.prog 58 #[.agg #[.int .i64 p, .int .i64 n, t]] w (RetBool w (tableS T n p)) := by
  obtain ⟨A, c, rfl, h1, h2, h3⟩ := id ht
  clear h3
  have hp2 := isPrime_bd b1
  have b2 : inR n 0 28 = true := inR_true (by omega) (by omega)
  have hc := cube_le hn
  have hm2 : n * n ≤ 784 := Nat.mul_le_mul hn hn
  have r1 : 0 ≤ (n : Int) * n ∧ (n : Int) * n ≤ 784 := by have : ((n * n : Nat) : Int) = (n : Int) * n := by simp
                                                          omega
  have r2 : 0 ≤ (n : Int) * n * n ∧ (n : Int) * n * n ≤ 21952 := by have : ((n * n * n : Nat) : Int) = (n : Int) * n * n := by simp
                                                                    omega
  have t4 : ((T.length : Int) != (n : Int) * n * n) = false := by simp [b3]
  have hb : Below w.heap.size w (w.alloc (.cells #[.int .i64 p, .int .i64 n, .slice A T.length c] 30)) := (Below.refl _ _).alloc (Nat.le_refl _) _
  have hst : AlgSt w (w.alloc (.cells #[.int .i64 p, .int .i64 n, .slice A T.length c] 30)) w.heap.size w.heap.size (.int .i64 p) (.int .i64 n) (.slice A T.length c) T :=
    ⟨Box3.new _ _ _ _ _, Box3.new _ _ _ _ _, ht.toB.below hb (Nat.le_refl _), hb⟩
  obtain ⟨R, hR⟩ : ∃ R, R = tableS T n p := ⟨_, rfl⟩
  rw [← hR]
  obtain ⟨J, hJ⟩ : ∃ J, J = allF (jacS T n p) n 0 := ⟨_, rfl⟩
  have HR1 : Hid (R = (allF (fun i => allF (fun j => allF (pairS T n p i j) n 0) (i + 1) 0) n 0 && J)) := by rw [hJ]; exact Lib.hid hR
  have HJ := Lib.hid hJ
  have H3 := Lib.hid b3
  have htl : T.length ≤ 21952 := by omega
  have ht1 := ht.below hb
  clear hR hJ b3 ht hb
  obtain ⟨⟨x0, x1, x2⟩, _, _, _⟩ := id hst
  go_enter Tryz.func58, Tryz.ntmps58
  go_wp2_with (first
    | (go_at_call 97; refine (IsPrimeS_any _ _).mono ?_; rintro e w' ⟨rfl, rfl⟩)
    | (go_at_call 20; refine (l1In_any _ _ _ _).mono ?_; rintro e w' ⟨rfl, rfl⟩)
    | (go_at_call 98; refine (l1Residues_any _ T p _ ht1).mono ?_; rintro e w2 ⟨rfl, rfl⟩))
  clear x0 x1 x2 ht1
  obtain ⟨W0, hW0⟩ : ∃ W, W = w.alloc (.cells #[.int .i64 p, .int .i64 n, .slice A T.length c] 30) := ⟨_, rfl⟩
  rw [← hW0] at hst
  rw [← hW0]
  clear hW0
  go_loopw [4] (fun vi wr => ∃ i : Nat, vi = .int .i64 i ∧ i ≤ n ∧ AlgSt w wr w.heap.size w.heap.size (.int .i64 p) (.int .i64 n) (.slice A T.length c) T ∧ Hid (R = (allF (fun i => allF (fun j => allF (pairS T n p i j) n 0) (i + 1) 0) (n - i) i && J))) (fun vi _ => n - (intOf vi).toNat)
  case atStart => exact ⟨0, rfl, by omega, hst, HR1⟩
  case round =>
    obtain ⟨i, rfl, a1, hst, HM⟩ := hrel
    by_cases hi : i < n
    · obtain ⟨W1, rfl⟩ : ∃ W1 : World, W1 = wr := ⟨_, rfl⟩
      obtain ⟨K1, hK1⟩ : ∃ K1, K1 = (allF (fun i => allF (fun j => allF (pairS T n p i j) n 0) (i + 1) 0) (n - (i + 1)) (i + 1) && J) := ⟨_, rfl⟩
      have HM1 : Hid (R = (allF (fun j => allF (pairS T n p i j) n 0) (i + 1) 0 && K1)) := by
        have := HM.out
        rw [show n - i = (n - (i + 1)) + 1 from by omega, allF, Bool.and_assoc, ← hK1] at this
        exact this
      have HK1 := Lib.hid hK1
      clear hK1 HM
      go_wp2
      go_loopw [5] (fun vj wr => ∃ j : Nat, vj = .int .i64 j ∧ j ≤ i + 1 ∧ AlgSt w wr w.heap.size w.heap.size (.int .i64 p) (.int .i64 n) (.slice A T.length c) T ∧ Hid (R = (allF (fun j => allF (pairS T n p i j) n 0) (i + 1 - j) j && K1))) (fun vj _ => i + 1 - (intOf vj).toNat)
      case atStart => exact ⟨0, rfl, by omega, hst, HM1⟩
      case round =>
        obtain ⟨j, rfl, a2, hst1, HM2⟩ := hrel
        clear hst HM1
        by_cases hj : j < i + 1
        · obtain ⟨W2, rfl⟩ : ∃ W2 : World, W2 = wr := ⟨_, rfl⟩
          obtain ⟨K2, hK2⟩ : ∃ K2, K2 = (allF (fun j => allF (pairS T n p i j) n 0) (i + 1 - (j + 1)) (j + 1) && K1) := ⟨_, rfl⟩
          have HM3 : Hid (R = (allF (pairS T n p i j) n 0 && K2)) := by
            have := HM2.out
            rw [show i + 1 - j = (i + 1 - (j + 1)) + 1 from by omega, allF, Bool.and_assoc, ← hK2] at this
            exact this
          have HK2 := Lib.hid hK2
          clear hK2 HM2
          have h44 : decide ((j : Int) ≤ (i : Int)) = true := by simp; omega
          go_wp2
          go_simp
          go_loopw [6] (fun vk wr => ∃ k : Nat, vk = .int .i64 k ∧ k ≤ n ∧ AlgSt w wr w.heap.size w.heap.size (.int .i64 p) (.int .i64 n) (.slice A T.length c) T ∧ Hid (R = (allF (pairS T n p i j) (n - k) k && K2))) (fun vk _ => n - (intOf vk).toNat)
          case atStart => exact ⟨0, rfl, by omega, hst1, HM3⟩
          case round =>
            obtain ⟨k, rfl, a3, hst2, HM4⟩ := hrel
            clear hst1 HM3
            by_cases hk : k < n
            · have HS := Lib.hid (show allF (pairS T n p i j) (n - k) k = (pairS T n p i j k && allF (pairS T n p i j) (n - (k + 1)) (k + 1)) by
                rw [show n - k = (n - (k + 1)) + 1 from by omega, allF])
              obtain ⟨W3, rfl⟩ : ∃ W3 : World, W3 = wr := ⟨_, rfl⟩
              obtain ⟨q1, q2⟩ := resid_vec' b4 (by omega) ((i * n + j) * n + k)
              obtain ⟨q3, q4⟩ := resid_vec' b4 (by omega) ((j * n + i) * n + k)
              change 0 ≤ t3 T n i j k at q1
              change t3 T n i j k < p at q2
              change 0 ≤ t3 T n j i k at q3
              change t3 T n j i k < p at q4
              have m1 : IntKind.i64.wrap (t3 T n i j k + t3 T n j i k) = t3 T n i j k + t3 T n j i k := IntWalk.i64_in _ (by omega)
              obtain ⟨z, hz⟩ : ∃ z, z = (t3 T n i j k + t3 T n j i k) % p := ⟨_, rfl⟩
              have m2 : (t3 T n i j k + t3 T n j i k).tmod p = z := by rw [hz]; exact Int.tmod_eq_emod_of_nonneg (by omega)
              have m3 : IntKind.i64.wrap z = z := by
                have := Int.emod_lt_of_pos (t3 T n i j k + t3 T n j i k) (b := p) (by omega)
                have := Int.emod_nonneg (t3 T n i j k + t3 T n j i k) (b := p) (by omega)
                rw [hz]; exact IntWalk.i64_in _ (by omega)
              have m4 : ¬ p = 0 := by omega
              have HZ := Lib.hid hz
              clear hz
              by_cases e : i = j
              · have e1 : ((i : Int) == (j : Int)) = true := by simp [e]
                by_cases e0 : t3 T n i j k = 0
                · have e2 : (t3 T n i j k != 0) = false := by simp [e0]
                  by_cases ez : z = 0
                  · have e3 : (z != 0) = false := by simp [ez]
                    have HP := Lib.hid (show pairS T n p i j k = true by rw [HZ.out] at ez; simp only [pairS, if_pos e, e0]; rw [e0] at ez; rw [ez]; rfl)
                    have He := Lib.hid (And.intro e (And.intro e0 ez))
                    clear e e0 ez
                    go_wp2
                    refine wp_region_all (fun w' => AlgSt w w' w.heap.size w.heap.size (.int .i64 p) (.int .i64 n) (.slice A T.length c) T) (by kernel_rfl) (by kernel_rfl) hst2.drew ?_
                    iterate 21
                      first
                        | go_big_quiet_skip
                        | (go_big_quiet_want
                           apply Exists.intro
                           refine ⟨fun w' hC => ?_, ?_⟩
                           · obtain ⟨⟨z0, z1, z2⟩, _, zt, zb⟩ := id hC
                             unfold Oper.quietAt
                             go_simp
                             first
                               | exact rfl
                               | exact ⟨rfl, rfl⟩
                               | exact (l2Get_any p n _ T i j k w.heap.size _ zt zb.size H3.out (by omega) (by omega) hk hn).mono fun e w'' h => ⟨h.1, hC.on h.2⟩
                           go_simp
                           go_big_quiet_on)
                    iterate 7
                      first
                        | go_big_quiet_skip
                        | (go_big_quiet_want
                           apply Exists.intro
                           refine ⟨fun w' hC => ?_, ?_⟩
                           · obtain ⟨⟨z0, z1, z2⟩, _, zt, zb⟩ := id hC
                             unfold Oper.quietAt
                             go_simp
                             first
                               | exact rfl
                               | exact ⟨rfl, rfl⟩
                               | exact (l2Get_any p n _ T j i k w.heap.size _ zt zb.size H3.out (by omega) (by omega) hk hn).mono fun e w'' h => ⟨h.1, hC.on h.2⟩
                           go_simp
                           go_big_quiet_on)
                    refine wpQuiet_nil (fun w' hC => ?_)
                    clear hst2
                    go_wp2
                    go_roundw
                    case rel => exact ⟨k + 1, by go_num, by omega, hC, by have := HM4.out; rw [HS.out, HP.out] at this; exact this⟩
                    case measure => simp [intOf]; omega
                  · have e3 : (z != 0) = true := by simp [ez]
                    have HP := Lib.hid (show pairS T n p i j k = false by rw [HZ.out] at ez; simp only [pairS, beq_eq_false_iff_ne.2 ez, Bool.and_false])
                    have He := Lib.hid (And.intro e (And.intro e0 ez))
                    clear e e0 ez
                    go_wp2
                    refine wp_region_all (fun w' => AlgSt w w' w.heap.size w.heap.size (.int .i64 p) (.int .i64 n) (.slice A T.length c) T) (by kernel_rfl) (by kernel_rfl) hst2.drew ?_
                    iterate 21
                      first
                        | go_big_quiet_skip
                        | (go_big_quiet_want
                           apply Exists.intro
                           refine ⟨fun w' hC => ?_, ?_⟩
                           · obtain ⟨⟨z0, z1, z2⟩, _, zt, zb⟩ := id hC
                             unfold Oper.quietAt
                             go_simp
                             first
                               | exact rfl
                               | exact ⟨rfl, rfl⟩
                               | exact (l2Get_any p n _ T i j k w.heap.size _ zt zb.size H3.out (by omega) (by omega) hk hn).mono fun e w'' h => ⟨h.1, hC.on h.2⟩
                           go_simp
                           go_big_quiet_on)
                    iterate 7
                      first
                        | go_big_quiet_skip
                        | (go_big_quiet_want
                           apply Exists.intro
                           refine ⟨fun w' hC => ?_, ?_⟩
                           · obtain ⟨⟨z0, z1, z2⟩, _, zt, zb⟩ := id hC
                             unfold Oper.quietAt
                             go_simp
                             first
                               | exact rfl
                               | exact ⟨rfl, rfl⟩
                               | exact (l2Get_any p n _ T j i k w.heap.size _ zt zb.size H3.out (by omega) (by omega) hk hn).mono fun e w'' h => ⟨h.1, hC.on h.2⟩
                           go_simp
                           go_big_quiet_on)
                    refine wpQuiet_nil (fun w' hC => ?_)
                    clear hst2
                    go_wp2
                    go_ret
                    exact ⟨ret_bool (by rw [HM4.out, HS.out, HP.out]; rfl), hC.below⟩
                · have e2 : (t3 T n i j k != 0) = true := by simp [e0]
                  have HP := Lib.hid (show pairS T n p i j k = false by simp only [pairS, if_pos e, beq_eq_false_iff_ne.2 e0, Bool.false_and])
                  have He := Lib.hid (And.intro e e0)
                  clear e e0
                  go_wp2
                  refine wp_region_all (fun w' => AlgSt w w' w.heap.size w.heap.size (.int .i64 p) (.int .i64 n) (.slice A T.length c) T) (by kernel_rfl) (by kernel_rfl) hst2.drew ?_
                  iterate 21
                    first
                      | go_big_quiet_skip
                      | (go_big_quiet_want
                         apply Exists.intro
                         refine ⟨fun w' hC => ?_, ?_⟩
                         · obtain ⟨⟨z0, z1, z2⟩, _, zt, zb⟩ := id hC
                           unfold Oper.quietAt
                           go_simp
                           first
                             | exact rfl
                             | exact ⟨rfl, rfl⟩
                             | exact (l2Get_any p n _ T i j k w.heap.size _ zt zb.size H3.out (by omega) (by omega) hk hn).mono fun e w'' h => ⟨h.1, hC.on h.2⟩
                         go_simp
                         go_big_quiet_on)
                  iterate 7
                    first
                      | go_big_quiet_skip
                      | (go_big_quiet_want
                         apply Exists.intro
                         refine ⟨fun w' hC => ?_, ?_⟩
                         · obtain ⟨⟨z0, z1, z2⟩, _, zt, zb⟩ := id hC
                           unfold Oper.quietAt
                           go_simp
                           first
                             | exact rfl
                             | exact ⟨rfl, rfl⟩
                             | exact (l2Get_any p n _ T j i k w.heap.size _ zt zb.size H3.out (by omega) (by omega) hk hn).mono fun e w'' h => ⟨h.1, hC.on h.2⟩
                         go_simp
                         go_big_quiet_on)
                  refine wpQuiet_nil (fun w' hC => ?_)
                  clear hst2
                  go_wp2
                  go_ret
                  exact ⟨ret_bool (by rw [HM4.out, HS.out, HP.out]; rfl), hC.below⟩
              · have e1 : ((i : Int) == (j : Int)) = false := by simp; omega
                by_cases ez : z = 0
                · have e3 : (z != 0) = false := by simp [ez]
                  have HP := Lib.hid (show pairS T n p i j k = true by rw [HZ.out] at ez; simp only [pairS, if_neg e, ez]; rfl)
                  have He := Lib.hid (And.intro e ez)
                  clear e ez
                  go_wp2
                  refine wp_region_all (fun w' => AlgSt w w' w.heap.size w.heap.size (.int .i64 p) (.int .i64 n) (.slice A T.length c) T) (by kernel_rfl) (by kernel_rfl) hst2.drew ?_
                  iterate 21
                    first
                      | go_big_quiet_skip
                      | (go_big_quiet_want
                         apply Exists.intro
                         refine ⟨fun w' hC => ?_, ?_⟩
                         · obtain ⟨⟨z0, z1, z2⟩, _, zt, zb⟩ := id hC
                           unfold Oper.quietAt
                           go_simp
                           first
                             | exact rfl
                             | exact ⟨rfl, rfl⟩
                             | exact (l2Get_any p n _ T i j k w.heap.size _ zt zb.size H3.out (by omega) (by omega) hk hn).mono fun e w'' h => ⟨h.1, hC.on h.2⟩
                         go_simp
                         go_big_quiet_on)
                  iterate 7
                    first
                      | go_big_quiet_skip
                      | (go_big_quiet_want
                         apply Exists.intro
                         refine ⟨fun w' hC => ?_, ?_⟩
                         · obtain ⟨⟨z0, z1, z2⟩, _, zt, zb⟩ := id hC
                           unfold Oper.quietAt
                           go_simp
                           first
                             | exact rfl
                             | exact ⟨rfl, rfl⟩
                             | exact (l2Get_any p n _ T j i k w.heap.size _ zt zb.size H3.out (by omega) (by omega) hk hn).mono fun e w'' h => ⟨h.1, hC.on h.2⟩
                         go_simp
                         go_big_quiet_on)
                  refine wpQuiet_nil (fun w' hC => ?_)
                  clear hst2
                  go_wp2
                  go_roundw
                  case rel => exact ⟨k + 1, by go_num, by omega, hC, by have := HM4.out; rw [HS.out, HP.out] at this; exact this⟩
                  case measure => simp [intOf]; omega
                · have e3 : (z != 0) = true := by simp [ez]
                  have HP := Lib.hid (show pairS T n p i j k = false by rw [HZ.out] at ez; simp only [pairS, beq_eq_false_iff_ne.2 ez, Bool.and_false])
                  have He := Lib.hid (And.intro e ez)
                  clear e ez
                  go_wp2
                  refine wp_region_all (fun w' => AlgSt w w' w.heap.size w.heap.size (.int .i64 p) (.int .i64 n) (.slice A T.length c) T) (by kernel_rfl) (by kernel_rfl) hst2.drew ?_
                  iterate 21
                    first
                      | go_big_quiet_skip
                      | (go_big_quiet_want
                         apply Exists.intro
                         refine ⟨fun w' hC => ?_, ?_⟩
                         · obtain ⟨⟨z0, z1, z2⟩, _, zt, zb⟩ := id hC
                           unfold Oper.quietAt
                           go_simp
                           first
                             | exact rfl
                             | exact ⟨rfl, rfl⟩
                             | exact (l2Get_any p n _ T i j k w.heap.size _ zt zb.size H3.out (by omega) (by omega) hk hn).mono fun e w'' h => ⟨h.1, hC.on h.2⟩
                         go_simp
                         go_big_quiet_on)
                  iterate 7
                    first
                      | go_big_quiet_skip
                      | (go_big_quiet_want
                         apply Exists.intro
                         refine ⟨fun w' hC => ?_, ?_⟩
                         · obtain ⟨⟨z0, z1, z2⟩, _, zt, zb⟩ := id hC
                           unfold Oper.quietAt
                           go_simp
                           first
                             | exact rfl
                             | exact ⟨rfl, rfl⟩
                             | exact (l2Get_any p n _ T j i k w.heap.size _ zt zb.size H3.out (by omega) (by omega) hk hn).mono fun e w'' h => ⟨h.1, hC.on h.2⟩
                         go_simp
                         go_big_quiet_on)
                  refine wpQuiet_nil (fun w' hC => ?_)
                  clear hst2
                  go_wp2
                  go_ret
                  exact ⟨ret_bool (by rw [HM4.out, HS.out, HP.out]; rfl), hC.below⟩
            · obtain rfl : n = k := by omega
              have HR5 : Hid (R = K2) := by have := HM4.out; rw [Nat.sub_self, allF, Bool.true_and] at this; exact this
              go_wp2
              go_roundw
              case rel => exact ⟨j + 1, by go_num, by omega, hst2, by show R = _; rw [HR5.out, HK2.out]⟩
              case measure => simp [intOf]; omega
        · obtain rfl : j = i + 1 := by omega
          have HR5 : Hid (R = K1) := by have := HM2.out; rw [Nat.sub_self, allF, Bool.true_and] at this; exact this
          go_wp2
          go_roundw
          case rel => exact ⟨i + 1, by go_num, by omega, hst1, by show R = _; rw [HR5.out, HK1.out]⟩
          case measure => simp [intOf]; omega
    · obtain rfl : n = i := by omega
      have HR5 : Hid (R = allF (jacS T n p) n 0) := by have := HM.out; rw [Nat.sub_self, allF, Bool.true_and, HJ.out] at this; exact this
      obtain ⟨⟨x0, x1, x2⟩, _, ht1, _⟩ := id hst
      go_wp2_with (go_at_call 100; refine (l2Jacobi_any p n _ T _ ht1.ints hp2 hn H3.out b4).mono ?_; rintro e w5 ⟨rfl, hb5⟩)
      go_ret
      exact ⟨ret_bool HR5.out.symm, (hst.on hb5).below⟩
end
section
open Go.RowKit
theorem bracketL_eq (T U V : List Int) (n : Nat) (p : Int) : bracketL T U V n p = braL T U V n p := by
  refine tab_congr fun k _ => ?_
  unfold bracketS bra1 rightS
  rw [sumTo_emod_congr (g := fun b => vec V b * sumTo n (fun a => vec U a * t3 T n a b k)) (fun b _ => mul_mod_right _ _ _)]
  congr 1
  rw [sumTo_congr (g := fun b => sumTo n (fun a => vec U a * vec V b * t3 T n a b k)) (fun b _ => by
    rw [← sumTo_mul]; exact sumTo_congr fun a _ => by rw [← Int.mul_assoc, Int.mul_comm (vec V b)]), sumTo_comm]
theorem rightL_eq (T U : List Int) (n : Nat) (p : Int) {k : Nat} (hk : k < n) : rightL T U n p k = braL T U (unitL n k) n p := by
  refine tab_congr fun q _ => ?_
  unfold rightS bra1
  congr 1
  refine sumTo_congr fun a _ => ?_
  rw [sumTo_congr (g := fun b => if b = k then vec U a * t3 T n a b q else 0) (fun b hb => by
    rw [unitL, vec_tab hb]; split <;> simp), sumTo_single hk]
theorem plusL_tab (n : Nat) (f g : Nat → Int) (p : Int) : plusL p (tab n f) (tab n g) = addL (tab n f) 1 (tab n g) p := by
  rw [addL_tab, plusL, length_tab]
  exact tab_congr fun i hi => by rw [vec_tab hi, vec_tab hi, Int.one_mul]
theorem jacL_eq (T : List Int) (n : Nat) (p : Int) {i j k : Nat} (hi : i < n) (hj : j < n) (hk : k < n) : jacL T n p i j k = jacSL T n p i j k := by
  unfold jacL jacSL jac1
  rw [rightL_eq T _ n p hk, rightL_eq T _ n p hi, rightL_eq T _ n p hj]
  unfold braL
  rw [plusL_tab, addL_tab, plusL_tab]
theorem jac_eq (T : List Int) (n : Nat) (p : Int) {i : Nat} (hi : i < n) : jacI T n p i = jacS T n p i := by
  refine allF_congr fun j _ h2 => allF_congr fun k _ h4 => ?_
  rw [jacL_eq T n p hi (by omega) (by omega)]
theorem pair_eq (T : List Int) (n : Nat) (p : Int) (i j : Nat) : pairI T n p i j = allF (pairS T n p i j) n 0 := by
  rw [Bool.eq_iff_iff, allF_iff]
  unfold pairI pairS rowT
  rw [addL_tab, Bool.and_eq_true, zeroL_iff, length_tab]
  by_cases e : i = j
  · subst e
    simp only [if_true, Bool.and_eq_true, beq_iff_eq, zeroL_iff, length_tab]
    constructor
    · rintro ⟨h1, h2⟩ k _ hk
      have a := h1 k (by omega)
      have b := h2 k (by omega)
      rw [vec_tab (by omega)] at a b
      rw [Int.one_mul] at a
      exact ⟨b, a⟩
    · intro h
      refine ⟨fun k hk => ?_, fun k hk => ?_⟩
      · rw [vec_tab hk, Int.one_mul]; exact (h k (by omega) (by omega)).2
      · rw [vec_tab hk]; exact (h k (by omega) (by omega)).1
  · simp only [if_neg e, Bool.true_and, beq_iff_eq, and_true]
    constructor
    · intro h k _ hk
      have a := h k (by omega)
      rw [vec_tab (by omega), Int.one_mul] at a
      exact a
    · intro h k hk
      rw [vec_tab hk, Int.one_mul]; exact h k (by omega) (by omega)
theorem table_eq (T : List Int) (n : Nat) (p : Int) : tableI T n p = tableS T n p := by
  unfold tableI tableS
  congr 1
  · exact allF_congr fun i _ _ => allF_congr fun j _ _ => pair_eq T n p i j
  · exact allF_congr fun i _ hi => jac_eq T n p (by omega)
theorem AlgebraOkI_any (p n : Int) (t : Value) (T : List Int) (w : World) (ht : Ints w t T) (hp : p ≤ 9223372036854775807) :
    Calls Tryz.prog 76 #[.agg #[.int .i64 p, .int .i64 n, t]] w (RetBool w (algOk p n T)) := by
  by_cases h : (isPrime p && (inR n 0 28 && (decide ((T.length : Int) = n * n * n) && resid p T))) = true
  · simp only [Bool.and_eq_true, decide_eq_true_eq] at h
    obtain ⟨h1, h2, h3, h4⟩ := h
    obtain ⟨m, rfl⟩ : ∃ m : Nat, n = m := ⟨n.toNat, by simp [inR] at h2; omega⟩
    have hm : m ≤ 28 := by simp [inR] at h2; omega
    have h3' : T.length = m * m * m := by exact_mod_cast h3
    have e : algOk p m T = tableI T m p := by simp only [algOk, h1, h2, decide_eq_true h3, h4, Bool.true_and, Int.toNat_natCast]
    rw [e]
    exact AlgebraOkI_in p m t T w ht h1 hm h3' h4
  · have h' : (isPrime p && (inR n 0 28 && (decide ((T.length : Int) = n * n * n) && resid p T))) = false := by simpa using h
    have e : algOk p n T = false := by
      rw [algOk, ← Bool.and_assoc (decide _), ← Bool.and_assoc (inR n 0 28), ← Bool.and_assoc (isPrime p), h']; rfl
    rw [e]
    exact AlgebraOkI_out p n t T w ht hp h'
theorem AlgebraOkS_any (p n : Int) (t : Value) (T : List Int) (w : World) (ht : Ints w t T) :
    Calls Tryz.prog 58 #[.agg #[.int .i64 p, .int .i64 n, t]] w (RetBool w (algOk p n T)) := by
  by_cases h : (isPrime p && (inR n 0 28 && (decide ((T.length : Int) = n * n * n) && resid p T))) = true
  · simp only [Bool.and_eq_true, decide_eq_true_eq] at h
    obtain ⟨h1, h2, h3, h4⟩ := h
    obtain ⟨m, rfl⟩ : ∃ m : Nat, n = m := ⟨n.toNat, by simp [inR] at h2; omega⟩
    have hm : m ≤ 28 := by simp [inR] at h2; omega
    have h3' : T.length = m * m * m := by exact_mod_cast h3
    have e : algOk p m T = tableS T m p := by simp only [algOk, h1, h2, decide_eq_true h3, h4, Bool.true_and, Int.toNat_natCast, table_eq]
    rw [e]
    exact AlgebraOkS_in p m t T w ht h1 hm h3' h4
  · have h' : (isPrime p && (inR n 0 28 && (decide ((T.length : Int) = n * n * n) && resid p T))) = false := by simpa using h
    have e : algOk p n T = false := by
      rw [algOk, ← Bool.and_assoc (decide _), ← Bool.and_assoc (inR n 0 28), ← Bool.and_assoc (isPrime p), h']; rfl
    rw [e]
    exact AlgebraOkS_out p n t T w ht h'
theorem algOk_spec {p n : Int} {T : List Int} (h : algOk p n T = true) : ∃ m : Nat, n = m ∧ m ≤ 28 ∧ T.length = m * m * m ∧ resid p T = true ∧ 2 ≤ p ∧ p ≤ 10007 ∧ isPrime p = true := by
  simp only [algOk, Bool.and_eq_true, decide_eq_true_eq] at h
  obtain ⟨h1, h2, h3, h4, _⟩ := h
  obtain ⟨m, rfl⟩ : ∃ m : Nat, n = m := ⟨n.toNat, by simp [inR] at h2; omega⟩
  exact ⟨m, rfl, by simp [inR] at h2; omega, by exact_mod_cast h3, h4, (isPrime_bd h1).1, (isPrime_bd h1).2, h1⟩
end
end Go.Proofs.YtbnefjhljfbecaaGreatDoor
