import Derived.Test.YtbnefjhljfbecaaGreatDoorW01
import Derived.Test.YtbnefjhljfbecaaGreatDoorW02
import Derived.Test.YtbnefjhljfbecaaGreatDoorW05
namespace Go.Proofs.YtbnefjhljfbecaaGreatDoor
set_option maxRecDepth 100000
section
section
open Go.RowKit
set_option maxHeartbeats 400000 in
theorem toIntS_any (v : Value) (l : List Int) (w : World) (hv : Ints w v l) (hl : l.length ≤ 35184372088832) :
  Calls Tryz.prog 23 #[v] w (RetOwn w l) := by
 obtain ⟨A, c, rfl, h1, h2, h3⟩ := hv
 have hmk := makeI l.length hl
 go_enter Tryz.func23, Tryz.ntmps23
 go_wp2
 go_loopw [4] (fun vi wr => ∃ k : Nat, vi = .int .i64 k ∧ k ≤ l.length ∧ Own wr w.heap.size (.slice (some ⟨w.heap.size, 0, none⟩) l.length l.length) (fillTo l k) ∧ Below w.heap.size w wr) (fun vi _ => l.length - (intOf vi).toNat)
 case atStart => exact ⟨0, rfl, by omega, by rw [fillTo_zero]; exact Own.made hl (Nat.le_refl _), (Below.refl _ _).alloc (Nat.le_refl _) _⟩
 case round =>
  obtain ⟨k, rfl, a1, ho, hb⟩ := hrel
  by_cases hk : k < l.length
  ·obtain ⟨b, off, rfl, hc⟩ := h3 (by omega)
   have e1 := hc k l[k] (List.getElem?_eq_getElem hk)
   have e2 : wr.cell? ⟨b, off + k, none⟩ = some (.int .i64 l[k]) := (hb.cell (World.block_lt_of_cell? w _ e1)).trans e1
   obtain ⟨e3, e4⟩ := ho.cell k (by rw [length_fillTo l k a1]; exact hk)
   obtain ⟨ho', hg⟩ := ho.set k l[k]
   clear hc h3 e1
   go_wp2
   go_roundw
   case rel => exact ⟨k + 1, by go_num, by omega, by rw [← fillTo_set l k hk]; exact ho', hb.grown hg hb.size (by simp)⟩
   case measure => simp [intOf]; omega
  ·obtain rfl : k = l.length := by omega
   rw [fillTo_end] at ho
   clear h3
   go_wp2
   go_ret
   exact ⟨_, rfl, ho, hb⟩
theorem eq_step (l m : List Int) (k : Nat) (h1 : k < l.length) (h2 : k < m.length) : decide (l.drop k = m.drop k) = if l[k] = m[k] then decide (l.drop (k + 1) = m.drop (k + 1)) else false := by
 rw [List.drop_eq_getElem_cons h1, List.drop_eq_getElem_cons h2]
 by_cases h : l[k] = m[k] <;> simp only [List.cons.injEq, h, true_and, if_true, false_and, if_false, decide_false]
theorem eq_end (l m : List Int) (h : l.length = m.length) : decide (l.drop l.length = m.drop l.length) = true := by
 rw [List.drop_eq_nil_of_le (Nat.le_refl _), h, List.drop_eq_nil_of_le (Nat.le_refl _)]; rfl
set_option maxHeartbeats 400000 in
theorem eqIntS_any (v u : Value) (xs ys : List Int) (w : World) (hv : Ints w v xs) (hu : Ints w u ys) :
  Calls Tryz.prog 29 #[v, u] w fun e w' => e = .returned (.bool (decide (xs = ys))) ∧ ∃ n, w' = w.drewN n := by
 obtain ⟨A, c, rfl, h1, h2, h3⟩ := hv
 obtain ⟨B, d, rfl, g1, g2, g3⟩ := hu
 obtain ⟨R, hR⟩ : ∃ R, R = decide (xs = ys) := ⟨_, rfl⟩
 rw [← hR]
 by_cases hl : xs.length = ys.length
 ·have HR := Lib.hid hR
  clear hR
  have t1 : ((xs.length : Int) != (ys.length : Int)) = false := by simp [hl]
  have hl1 : xs.length ≤ ys.length := by omega
  have HL := Lib.hid hl
  clear hl
  go_enter Tryz.func29, Tryz.ntmps29
  go_wp2
  go_loopw [5] (fun vi wr => ∃ (k m : Nat), vi = .int .i64 k ∧ k ≤ xs.length ∧ wr = w.drewN m ∧ Hid (R = decide (xs.drop k = ys.drop k))) (fun vi _ => xs.length - (intOf vi).toNat)
  case atStart => exact ⟨0, 0, rfl, by omega, rfl, HR⟩
  case round =>
   obtain ⟨k, m, rfl, a1, rfl, HM⟩ := hrel
   by_cases hk : k < xs.length
   ·obtain ⟨b, off, rfl, hc⟩ := h3 (by omega)
    obtain ⟨b', off', rfl, hc'⟩ := g3 (by omega)
    have hk2 : k < ys.length := by omega
    have e1 := hc k xs[k] (List.getElem?_eq_getElem hk)
    have e2 := hc' k ys[k] (List.getElem?_eq_getElem hk2)
    have HD := Lib.hid (eq_step xs ys k hk hk2)
    clear hc hc' h3 g3
    by_cases hxy : xs[k] = ys[k]
    ·have t2 : (xs[k] != ys[k]) = false := by simp [hxy]
     have Hxy := Lib.hid hxy
     clear hxy
     go_wp2
     go_quiet (fail)
     go_wp2
     go_roundw
     case rel => exact ⟨k + 1, _, by go_num, by omega, rfl, by rw [HM.out, HD.out, if_pos Hxy.out]; exact rfl⟩
     case measure => simp [intOf]; omega
    ·have t2 : (xs[k] != ys[k]) = true := by simp [hxy]
     have Hxy := Lib.hid hxy
     clear hxy
     go_wp2
     go_quiet (fail)
     go_wp2
     go_ret
     exact ⟨ret_bool (by rw [HM.out, HD.out, if_neg Hxy.out]), by simp only [World.drewN_drewN]; exact ⟨_, rfl⟩⟩
   ·obtain rfl : k = xs.length := by omega
    clear h3 g3
    go_wp2
    go_ret
    exact ⟨ret_bool (by rw [HM.out, eq_end _ _ HL.out]), _, rfl⟩
 ·have t1 : ((xs.length : Int) != (ys.length : Int)) = true := by simp; omega
  have h0 : R = false := by rw [hR]; simp; intro e; exact hl (by rw [e])
  have H0 := Lib.hid h0
  clear hR h0 h3 g3 hl
  go_enter Tryz.func29, Tryz.ntmps29
  go_wp2
  go_ret
  exact ⟨ret_bool (H0.out).symm, 0, rfl⟩
def marks (k : Int) : Nat → List Int
 | 0 => []
 | n + 1 => k :: marks (k + 1) n
end
section
open Go.RowKit
theorem szIntS_yes (left : Int) (t : Value) (l : List Int) (w : World) (ht : Ints w t l) (h : (l.length : Int) ≤ left) (hl : left ≤ 1048576) :
  Calls Tryz.prog 12 #[t, .int .i64 left] w fun e w' => e = .returned (.int .i64 (left - l.length)) ∧ w = w' := by
 obtain ⟨A, c, rfl, _, _, h3⟩ := ht
 clear h3
 have h0 : 0 ≤ left - l.length := by omega
 go_enter Tryz.func12, Tryz.ntmps12
 go_wp2
 go_ret
 exact ⟨rfl, rfl⟩
theorem szIntS_no (left : Int) (t : Value) (l : List Int) (w : World) (ht : Ints w t l) (h : left < (l.length : Int)) (hl : left ≤ 1048576) (h0 : 0 ≤ left) :
  Calls Tryz.prog 12 #[t, .int .i64 left] w fun e w' => e = .returned (.int .i64 (-1)) ∧ w = w' := by
 obtain ⟨A, c, rfl, h1, h2, h3⟩ := ht
 clear h3
 have h4 : left - l.length < 0 := by omega
 go_enter Tryz.func12, Tryz.ntmps12
 go_wp2
 go_ret
 exact ⟨rfl, rfl⟩
end
section
open Go.RowKit
def RetAlg (w : World) (a0 a1 : Int) (l : List Int) (e : Ending) (w' : World) : Prop := ∃ u, e = .returned (.agg #[.int .i64 a0, .int .i64 a1, u]) ∧ Own w' w.heap.size u l ∧ Below w.heap.size w w'
set_option maxHeartbeats 400000 in
theorem toAlgebra_any (a0 a1 : Int) (t : Value) (l : List Int) (w : World) (ht : Ints w t l) (hl : l.length ≤ 35184372088832) :
  Calls Tryz.prog 7 #[.agg #[.int .i64 a0, .int .i64 a1, t]] w (RetAlg w a0 a1 l) := by
 have h0 := St.start1 ht
 have h1 := h0.box [.int .i64 a0, .int .i64 a1, t] 24
 have h2 := (h1.box [.int .i64 0, .int .i64 0, .slice none 0 0] 30).box [.int .i64 a0, .int .i64 a1, .slice none 0 0] 30
 simp only [World.size_alloc] at h2
 obtain ⟨A, c, rfl, _, _, _⟩ := id ht
 have hc := fun W (hi : Ints W (.slice A l.length c) l) => toIntS_any _ l W hi hl
 have Hc := Lib.hid hc
 clear hc ht hl
 obtain ⟨x0, x1, x2⟩ := (h1.box3 0 rfl)
 go_enter Tryz.func7, Tryz.ntmps7
 go_wp2_with fail
 refine (Hc.out _ (h2.roInts 3 rfl)).mono ?_
 rintro e w1 ⟨u, rfl, ho, hb⟩
 obtain ⟨A1, c1, rfl, _, _, _⟩ := id ho.ints
 have h3 := h2.pushOwn hb ho
 obtain ⟨z0, z1, z2⟩ := h3.box3 1 rfl
 have zf := h3.free 1 rfl 2
 have zl := (h3.boxLt 1 rfl).2
 obtain ⟨y0, y1, y2⟩ := h3.box3 2 rfl
 have f0 := h3.free 2 rfl 0
 have f1 := h3.free 2 rfl 1
 have f2 := h3.free 2 rfl 2
 have h4 := (h3.setBox 1 rfl 2 (.slice A1 l.length c1))
 replace h4 := h4.setBox 2 rfl 0 (.int .i64 a0)
 replace h4 := h4.setBox 2 rfl 1 (.int .i64 a1)
 replace h4 := h4.setBox 2 rfl 2 (.slice A1 l.length c1)
 clear hb ho h3
 obtain ⟨r0, r1, r2⟩ := h4.box3 2 rfl
 go_wp2
 refine bodyPost_ret (v := .agg #[.int .i64 a0, .int .i64 a1, .slice A1 l.length c1]) (by simp [results, Tryz.results7, go_sem, r0, r1, r2]) rfl ⟨_, rfl, h4.own 0 rfl, h4.below⟩
theorem szAlgebra_yes (a0 a1 left : Int) (t : Value) (l : List Int) (w : World) (ht : Ints w t l) (h : (l.length : Int) ≤ left) (hl : left ≤ 1048576) :
  Calls Tryz.prog 4 #[.agg #[.int .i64 a0, .int .i64 a1, t], .int .i64 left] w fun e w' => e = .returned (.int .i64 (left - l.length)) ∧ Below w.heap.size w w' := by
 have h1 := (St.start1 ht).box [.int .i64 a0, .int .i64 a1, t] 24
 obtain ⟨A, c, rfl, _, _, _⟩ := id ht
 clear ht
 obtain ⟨c0, c1, c2⟩ := h1.box3 0 rfl
 go_enter Tryz.func4, Tryz.ntmps4
 go_wp2_with (go_at_call 12; refine (szIntS_yes _ _ l _ (h1.roInts 1 rfl) h hl).mono ?_; rintro e wn ⟨rfl, rfl⟩)
 go_ret
 exact ⟨rfl, h1.below⟩
theorem szAlgebra_no (a0 a1 left : Int) (t : Value) (l : List Int) (w : World) (ht : Ints w t l) (h : left < (l.length : Int)) (hl : left ≤ 1048576) (h0 : 0 ≤ left) :
  Calls Tryz.prog 4 #[.agg #[.int .i64 a0, .int .i64 a1, t], .int .i64 left] w fun e w' => e = .returned (.int .i64 (-1)) ∧ Below w.heap.size w w' := by
 have h1 := (St.start1 ht).box [.int .i64 a0, .int .i64 a1, t] 24
 obtain ⟨A, c, rfl, _, _, _⟩ := id ht
 clear ht
 obtain ⟨c0, c1, c2⟩ := h1.box3 0 rfl
 go_enter Tryz.func4, Tryz.ntmps4
 go_wp2_with (go_at_call 12; refine (szIntS_no _ _ l _ (h1.roInts 1 rfl) h hl h0).mono ?_; rintro e wn ⟨rfl, rfl⟩)
 go_ret
 exact ⟨rfl, h1.below⟩
set_option maxHeartbeats 400000 in
theorem eqAlgebra_same (a0 a1 : Int) (t u : Value) (l : List Int) (w : World) (ht : Ints w t l) (hu : Ints w u l) :
  Calls Tryz.prog 10 #[.agg #[.int .i64 a0, .int .i64 a1, t], .agg #[.int .i64 a0, .int .i64 a1, u]] w fun e w' => e = .returned (.bool true) ∧ Below w.heap.size w w' := by
 have h1 := ((((St.start w).arg ht).arg hu).box [.int .i64 a0, .int .i64 a1, t] 30).box [.int .i64 a0, .int .i64 a1, u] 30
 simp only [World.size_alloc] at h1
 obtain ⟨A, c, rfl, _, _, _⟩ := id ht
 obtain ⟨B, d, rfl, _, _, _⟩ := id hu
 clear ht hu
 obtain ⟨c0, c1, c2⟩ := h1.box3 1 rfl
 obtain ⟨d0, d1, d2⟩ := h1.box3 0 rfl
 have he : decide (l = l) = true := by simp
 go_enter Tryz.func10, Tryz.ntmps10
 go_wp2_with fail
 refine (eqIntS_any _ _ l l _ (h1.roInts 3 rfl) (h1.roInts 2 rfl)).mono ?_
 rintro e wn ⟨rfl, nd, rfl⟩
 replace h1 := h1.drewN nd
 go_wp2
 go_ret
 exact ⟨rfl, h1.below⟩
end
section
open Go.RowKit
def RetMat (w : World) (a0 a1 a2 : Int) (l : List Int) (e : Ending) (w' : World) : Prop := ∃ u, e = .returned (.agg #[.int .i64 a0, .int .i64 a1, .int .i64 a2, u]) ∧ Own w' w.heap.size u l ∧ Below w.heap.size w w'
set_option maxHeartbeats 400000 in
theorem toMatrix_any (a0 a1 a2 : Int) (t : Value) (l : List Int) (w : World) (ht : Ints w t l) (hl : l.length ≤ 35184372088832) :
  Calls Tryz.prog 8 #[.agg #[.int .i64 a0, .int .i64 a1, .int .i64 a2, t]] w (RetMat w a0 a1 a2 l) := by
 have h0 := St.start1 ht
 have h1 := h0.box [.int .i64 a0, .int .i64 a1, .int .i64 a2, t] 26
 have h2 := (h1.box [.int .i64 0, .int .i64 0, .int .i64 0, .slice none 0 0] 32).box [.int .i64 a0, .int .i64 a1, .int .i64 a2, .slice none 0 0] 32
 simp only [World.size_alloc] at h2
 obtain ⟨A, c, rfl, _, _, _⟩ := id ht
 have hc := fun W (hi : Ints W (.slice A l.length c) l) => toIntS_any _ l W hi hl
 have Hc := Lib.hid hc
 clear hc ht hl
 obtain ⟨x0, x1, x2, x3⟩ := (h1.box4 0 rfl)
 go_enter Tryz.func8, Tryz.ntmps8
 go_wp2_with fail
 refine (Hc.out _ (h2.roInts 3 rfl)).mono ?_
 rintro e w1 ⟨u, rfl, ho, hb⟩
 obtain ⟨A1, c1, rfl, _, _, _⟩ := id ho.ints
 have h3 := h2.pushOwn hb ho
 obtain ⟨z0, z1, z2, z3⟩ := h3.box4 1 rfl
 have zf := h3.free 1 rfl 3
 have zl := (h3.boxLt 1 rfl).2
 obtain ⟨y0, y1, y2, y3⟩ := h3.box4 2 rfl
 have f0 := h3.free 2 rfl 0
 have f1 := h3.free 2 rfl 1
 have f2 := h3.free 2 rfl 2
 have f3 := h3.free 2 rfl 3
 have h4 := (h3.setBox 1 rfl 3 (.slice A1 l.length c1))
 replace h4 := h4.setBox 2 rfl 0 (.int .i64 a0)
 replace h4 := h4.setBox 2 rfl 1 (.int .i64 a1)
 replace h4 := h4.setBox 2 rfl 2 (.int .i64 a2)
 replace h4 := h4.setBox 2 rfl 3 (.slice A1 l.length c1)
 clear hb ho h3
 obtain ⟨r0, r1, r2, r3⟩ := h4.box4 2 rfl
 go_wp2
 refine bodyPost_ret (v := .agg #[.int .i64 a0, .int .i64 a1, .int .i64 a2, .slice A1 l.length c1]) (by simp [results, Tryz.results8, go_sem, r0, r1, r2, r3]) rfl ⟨_, rfl, h4.own 0 rfl, h4.below⟩
theorem szMatrix_yes (a0 a1 a2 left : Int) (t : Value) (l : List Int) (w : World) (ht : Ints w t l) (h : (l.length : Int) ≤ left) (hl : left ≤ 1048576) :
  Calls Tryz.prog 5 #[.agg #[.int .i64 a0, .int .i64 a1, .int .i64 a2, t], .int .i64 left] w fun e w' => e = .returned (.int .i64 (left - l.length)) ∧ Below w.heap.size w w' := by
 have h1 := (St.start1 ht).box [.int .i64 a0, .int .i64 a1, .int .i64 a2, t] 26
 obtain ⟨A, c, rfl, _, _, _⟩ := id ht
 clear ht
 obtain ⟨c0, c1, c2, c3⟩ := h1.box4 0 rfl
 go_enter Tryz.func5, Tryz.ntmps5
 go_wp2_with (go_at_call 12; refine (szIntS_yes _ _ l _ (h1.roInts 1 rfl) h hl).mono ?_; rintro e wn ⟨rfl, rfl⟩)
 go_ret
 exact ⟨rfl, h1.below⟩
theorem szMatrix_no (a0 a1 a2 left : Int) (t : Value) (l : List Int) (w : World) (ht : Ints w t l) (h : left < (l.length : Int)) (hl : left ≤ 1048576) (h0 : 0 ≤ left) :
  Calls Tryz.prog 5 #[.agg #[.int .i64 a0, .int .i64 a1, .int .i64 a2, t], .int .i64 left] w fun e w' => e = .returned (.int .i64 (-1)) ∧ Below w.heap.size w w' := by
 have h1 := (St.start1 ht).box [.int .i64 a0, .int .i64 a1, .int .i64 a2, t] 26
 obtain ⟨A, c, rfl, _, _, _⟩ := id ht
 clear ht
 obtain ⟨c0, c1, c2, c3⟩ := h1.box4 0 rfl
 go_enter Tryz.func5, Tryz.ntmps5
 go_wp2_with (go_at_call 12; refine (szIntS_no _ _ l _ (h1.roInts 1 rfl) h hl h0).mono ?_; rintro e wn ⟨rfl, rfl⟩)
 go_ret
 exact ⟨rfl, h1.below⟩
set_option maxHeartbeats 400000 in
theorem eqMatrix_same (a0 a1 a2 : Int) (t u : Value) (l : List Int) (w : World) (ht : Ints w t l) (hu : Ints w u l) :
  Calls Tryz.prog 11 #[.agg #[.int .i64 a0, .int .i64 a1, .int .i64 a2, t], .agg #[.int .i64 a0, .int .i64 a1, .int .i64 a2, u]] w fun e w' => e = .returned (.bool true) ∧ Below w.heap.size w w' := by
 have h1 := ((((St.start w).arg ht).arg hu).box [.int .i64 a0, .int .i64 a1, .int .i64 a2, t] 32).box [.int .i64 a0, .int .i64 a1, .int .i64 a2, u] 32
 simp only [World.size_alloc] at h1
 obtain ⟨A, c, rfl, _, _, _⟩ := id ht
 obtain ⟨B, d, rfl, _, _, _⟩ := id hu
 clear ht hu
 obtain ⟨c0, c1, c2, c3⟩ := h1.box4 1 rfl
 obtain ⟨d0, d1, d2, d3⟩ := h1.box4 0 rfl
 have he : decide (l = l) = true := by simp
 go_enter Tryz.func11, Tryz.ntmps11
 go_wp2_with fail
 refine (eqIntS_any _ _ l l _ (h1.roInts 3 rfl) (h1.roInts 2 rfl)).mono ?_
 rintro e wn ⟨rfl, nd, rfl⟩
 replace h1 := h1.drewN nd
 go_wp2
 go_ret
 exact ⟨rfl, h1.below⟩
end
end
section
section
open Go.RowKit
theorem mul_le {a b m n : Nat} (h1 : a ≤ m) (h2 : b ≤ n) : a * b ≤ m * n := Nat.mul_le_mul h1 h2
theorem makeI2 (a b : Nat) (h : a * b ≤ 35184372088832) (W : World) :
  (Instr.makeSlice 22 (.int .i64 ((a : Int) * (b : Int))) (.int .i64 ((a : Int) * (b : Int)))).run Tryz.prog W = .ok (.slice (some ⟨W.heap.size, 0, none⟩) (a * b) (a * b)) (W.alloc (.cells (zeros (a * b)) 3)) := by
 have := makeI (a * b) h W
 rw [Int.natCast_mul] at this
 exact this
set_option maxHeartbeats 400000 in
theorem ZeroMatrixI_any (p : Int) (r c : Nat) (w : World) (hp : isPrime p = true) (hr : r ≤ 40) (hc : c ≤ 40) :
  Calls Tryz.prog 89 #[.int .i64 p, .int .i64 r, .int .i64 c] w (RetMat w p r c (List.replicate (r * c) 0)) := by
 have hb := isPrime_bd hp
 have h := mul_le hr hc
 have hmk := makeI2 r c (by omega)
 have i1 : inR r 0 40 = true := inR_true (by omega) (by omega)
 have i2 : inR c 0 40 = true := inR_true (by omega) (by omega)
 have n1 : 0 ≤ (r : Int) * c ∧ (r : Int) * c ≤ 1600 := by
  have : ((r * c : Nat) : Int) = (r : Int) * c := Int.natCast_mul _ _
  omega
 go_enter Tryz.func89, Tryz.ntmps89
 go_wp2_with (first
  | (go_at_call 108; refine (IsPrimeI_any _ _).mono ?_; rintro e w' ⟨rfl, rfl⟩)
  | (go_at_call 56; refine (inside_any _ _ _ _).mono ?_; rintro e w' ⟨rfl, rfl⟩))
 have h1 := ((St.start w).box [.int .i64 p, .int .i64 r, .int .i64 c, .slice (some ⟨w.heap.size + 1, 0, none⟩) (r * c) (r * c)] 32).zeros (r * c) (by omega)
 simp only [World.size_alloc] at h1
 refine bodyPost_ret (v := .agg #[.int .i64 p, .int .i64 r, .int .i64 c, .slice (some ⟨w.heap.size + 1, 0, none⟩) (r * c) (r * c)]) (by simp [results, Tryz.results89, go_sem]) rfl ⟨_, rfl, h1.own 0 rfl, h1.below⟩
set_option maxHeartbeats 400000 in
theorem l1Zero_any (p : Int) (r c : Nat) (w : World) (h : r * c ≤ 4194304) :
  Calls Tryz.prog 103 #[.int .i64 p, .int .i64 r, .int .i64 c] w (RetMat w p r c (List.replicate (r * c) 0)) := by
 have hmk := makeI2 r c (by omega)
 have n1 : 0 ≤ (r : Int) * c ∧ (r : Int) * c ≤ 4194304 := by
  have : ((r * c : Nat) : Int) = (r : Int) * c := Int.natCast_mul _ _
  omega
 go_enter Tryz.func103, Tryz.ntmps103
 go_wp2
 have h1 := ((St.start w).box [.int .i64 p, .int .i64 r, .int .i64 c, .slice (some ⟨w.heap.size + 1, 0, none⟩) (r * c) (r * c)] 32).zeros (r * c) (by omega)
 simp only [World.size_alloc] at h1
 refine bodyPost_ret (v := .agg #[.int .i64 p, .int .i64 r, .int .i64 c, .slice (some ⟨w.heap.size + 1, 0, none⟩) (r * c) (r * c)]) (by simp [results, Tryz.results103, go_sem]) rfl ⟨_, rfl, h1.own 0 rfl, h1.below⟩
end
section
open Go.RowKit
set_option maxHeartbeats 400000 in
theorem l1Ints_any (v : Value) (l : List Int) (w : World) (hv : Ints w v l) (hl : l.length ≤ 8796093022208) :
  Calls Tryz.prog 37 #[v] w (RetOwn w l) := by
 obtain ⟨A, c, rfl, h1, h2, h3⟩ := id hv
 clear h1 h2 h3
 have hv1 : Ints (w.alloc (.cells #[] 3)) (.slice A l.length c) l := hv.below ((Below.refl _ _).alloc (Nat.le_refl _) _)
 go_enter Tryz.func37, Tryz.ntmps37
 go_wp2_with (at_builtin; refine wp_append_ints rfl (.tmp 3) (.tmp 4) rfl w.heap.size _ _ [] l rfl rfl (Own.empty (Nat.le_refl _)) hv1 (by simp; omega) (by simp) ?_; intro v1 w1 ho1 hg1 _)
 go_ret
 exact ⟨_, rfl, by simpa using ho1, grown_below (Own.empty (Nat.le_refl _)) hg1 ((Below.refl _ _).alloc (Nat.le_refl _) _) (Nat.le_refl _) (by simp)⟩
set_option maxHeartbeats 400000 in
theorem Clone_any (v : Value) (l : List Int) (w : World) (hv : Ints w v l) (hl : l.length ≤ 8796093022208) :
  Calls Tryz.prog 80 #[v] w (RetOwn w l) := by
 obtain ⟨A, c, rfl, h1, h2, h3⟩ := id hv
 cases A with
 | none =>
  obtain rfl : l = [] := by
   cases l with
   | nil => rfl
   | cons x xs => obtain ⟨b, off, h, _⟩ := h3 (by simp); cases h
  clear h1 h2 h3
  have hnil := fun W : World => Lib.run_eql_slice_nil (P := Tryz.prog) W 22 3 none 0 c 0 0 Tryz.underlying22
  go_enter Tryz.func80, Tryz.ntmps80
  go_wp2
  go_ret
  exact ⟨_, rfl, ⟨by simp, .inl ⟨rfl, rfl⟩⟩, Below.refl _ _⟩
 | some a =>
  clear h1 h2 h3
  have hv1 : Ints (w.alloc (.cells #[] 3)) (.slice (some a) l.length c) l := hv.below ((Below.refl _ _).alloc (Nat.le_refl _) _)
  have hnil := fun W : World => Lib.run_eql_slice_nil (P := Tryz.prog) W 22 3 (some a) l.length c 0 0 Tryz.underlying22
  go_enter Tryz.func80, Tryz.ntmps80
  go_wp2_with (at_builtin; refine wp_append_ints rfl (.tmp 5) (.tmp 6) rfl w.heap.size _ _ [] l rfl rfl (Own.empty (Nat.le_refl _)) hv1 (by simp; omega) (by simp) ?_; intro v1 w1 ho1 hg1 _)
  go_ret
  exact ⟨_, rfl, by simpa using ho1, grown_below (Own.empty (Nat.le_refl _)) hg1 ((Below.refl _ _).alloc (Nat.le_refl _) _) (Nat.le_refl _) (by simp)⟩
end
section
def total : List (List Int) → Nat
 | [] => 0
 | l :: ll => l.length + total ll
theorem total_take (ll : List (List Int)) (i : Nat) (h : i < ll.length) : total (ll.take (i + 1)) = total (ll.take i) + ll[i].length := by
 rw [List.take_succ_eq_append_getElem h]
 generalize ll.take i = a
 induction a with
 | nil => simp [total]
 | cons x xs ih => simp only [List.cons_append, total, ih]; omega
theorem total_split (ll : List (List Int)) (i : Nat) : total (ll.take i) + total (ll.drop i) = total ll := by
 induction ll generalizing i with
 | nil => simp [total]
 | cons x xs ih =>
  cases i with
  | zero => simp [total]
  | succ i => simp only [List.take_succ_cons, List.drop_succ_cons, total]; have := ih i; omega
theorem length_flatten' (ll : List (List Int)) : ll.flatten.length = total ll := by
 induction ll with
 | nil => rfl
 | cons l ll ih => rw [List.flatten_cons, List.length_append, ih]; rfl
theorem total_le (ll : List (List Int)) (i : Nat) : total (ll.take i) ≤ total ll := by have := total_split ll i; omega
theorem total_mem (ll : List (List Int)) (i : Nat) (h : i < ll.length) : total (ll.take i) + ll[i].length ≤ total ll := by rw [← total_take ll i h]; exact total_le ll _
theorem flatten_take (ll : List (List Int)) (i : Nat) (h : i < ll.length) : (ll.take (i + 1)).flatten = (ll.take i).flatten ++ ll[i] := by
 rw [List.take_succ_eq_append_getElem h, List.flatten_append]; simp
theorem total_const (ll : List (List Int)) (n : Nat) (h : ∀ l ∈ ll, l.length = n) : total ll = ll.length * n := by
 induction ll with
 | nil => simp [total]
 | cons l ll ih => rw [total, ih (fun x hx => h x (by simp [hx])), h l (by simp), List.length_cons, Nat.add_mul]; omega
end
end
end Go.Proofs.YtbnefjhljfbecaaGreatDoor
