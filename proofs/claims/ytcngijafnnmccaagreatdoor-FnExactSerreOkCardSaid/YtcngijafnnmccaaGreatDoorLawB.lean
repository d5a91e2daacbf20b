/- The laws' own helpers on slices of integers: a copy, a comparison, marks. The law's count of what is read. The laws' helpers on Algebra. (Written by lawgen_struct.py.) The laws' helpers on Matrix. (Written by lawgen_struct.py.) -/
import Derived.Test.YtcngijafnnmccaaGreatDoorBase
import Derived.Test.YtcngijafnnmccaaGreatDoorStB
namespace Go.Proofs.YtcngijafnnmccaaGreatDoor
set_option maxRecDepth 100000
section
open Go.RowKit

set_option maxHeartbeats 400000 in
theorem toIntS_any (v : Value) (l : List Int) (w : World) (hv : Ints w v l) (hl : l.length ≤ 35184372088832) :
    Calls Tryz.prog 25 #[v] w (RetOwn w l) := by
  obtain ⟨A, c, rfl, h1, h2, h3⟩ := hv
  have hmk := makeI l.length hl
  go_enter Tryz.func25, Tryz.ntmps25
  go_wp2
  go_loopw [4] (fun vi wr => ∃ k : Nat, vi = .int .i64 k ∧ k ≤ l.length ∧ Own wr w.heap.size (.slice (some ⟨w.heap.size, 0, none⟩) l.length l.length) (fillTo l k) ∧ Below w.heap.size w wr) (fun vi _ => l.length - (intOf vi).toNat)
  case atStart => exact ⟨0, rfl, by omega, by rw [fillTo_zero]; exact Own.made hl (Nat.le_refl _), (Below.refl _ _).alloc (Nat.le_refl _) _⟩
  case round =>
    obtain ⟨k, rfl, a1, ho, hb⟩ := hrel
    by_cases hk : k < l.length
    · obtain ⟨b, off, rfl, hc⟩ := h3 (by omega)
      have e1 := hc k l[k] (List.getElem?_eq_getElem hk)
      have e2 : wr.cell? ⟨b, off + k, none⟩ = some (.int .i64 l[k]) := (hb.cell (World.block_lt_of_cell? w _ e1)).trans e1
      obtain ⟨e3, e4⟩ := ho.cell k (by rw [length_fillTo l k a1]; exact hk)
      obtain ⟨ho', hg⟩ := ho.set k l[k]
      clear hc h3 e1
      go_wp2
      go_roundw
      case rel => exact ⟨k + 1, by go_num, by omega, by rw [← fillTo_set l k hk]; exact ho', hb.grown hg hb.size (by simp)⟩
      case measure => simp [intOf]; omega
    · obtain rfl : k = l.length := by omega
      rw [fillTo_end] at ho
      clear h3
      go_wp2
      go_ret
      exact ⟨_, rfl, ho, hb⟩

theorem eq_step (l m : List Int) (k : Nat) (h1 : k < l.length) (h2 : k < m.length) : decide (l.drop k = m.drop k) = if l[k] = m[k] then decide (l.drop (k + 1) = m.drop (k + 1)) else false := by
  rw [List.drop_eq_getElem_cons h1, List.drop_eq_getElem_cons h2]
  by_cases h : l[k] = m[k] <;> simp only [List.cons.injEq, h, true_and, if_true, false_and, if_false, decide_false]
theorem eq_end (l m : List Int) (h : l.length = m.length) : decide (l.drop l.length = m.drop l.length) = true := by
  rw [List.drop_eq_nil_of_le (Nat.le_refl _), h, List.drop_eq_nil_of_le (Nat.le_refl _)]; rfl

set_option maxHeartbeats 400000 in
theorem eqIntS_any (v u : Value) (xs ys : List Int) (w : World) (hv : Ints w v xs) (hu : Ints w u ys) :
    Calls Tryz.prog 31 #[v, u] w fun e w' => e = .returned (.bool (decide (xs = ys))) ∧ ∃ n, w' = w.drewN n := by
  obtain ⟨A, c, rfl, h1, h2, h3⟩ := hv
  obtain ⟨B, d, rfl, g1, g2, g3⟩ := hu
  obtain ⟨R, hR⟩ : ∃ R, R = decide (xs = ys) := ⟨_, rfl⟩
  rw [← hR]
  by_cases hl : xs.length = ys.length
  · have HR := Lib.hid hR
    clear hR
    have t1 : ((xs.length : Int) != (ys.length : Int)) = false := by simp [hl]
    have hl1 : xs.length ≤ ys.length := by omega
    have HL := Lib.hid hl
    clear hl
    go_enter Tryz.func31, Tryz.ntmps31
    go_wp2
    go_loopw [5] (fun vi wr => ∃ (k m : Nat), vi = .int .i64 k ∧ k ≤ xs.length ∧ wr = w.drewN m ∧ Hid (R = decide (xs.drop k = ys.drop k))) (fun vi _ => xs.length - (intOf vi).toNat)
    case atStart => exact ⟨0, 0, rfl, by omega, rfl, HR⟩
    case round =>
      obtain ⟨k, m, rfl, a1, rfl, HM⟩ := hrel
      by_cases hk : k < xs.length
      · obtain ⟨b, off, rfl, hc⟩ := h3 (by omega)
        obtain ⟨b', off', rfl, hc'⟩ := g3 (by omega)
        have hk2 : k < ys.length := by omega
        have e1 := hc k xs[k] (List.getElem?_eq_getElem hk)
        have e2 := hc' k ys[k] (List.getElem?_eq_getElem hk2)
        have HD := Lib.hid (eq_step xs ys k hk hk2)
        clear hc hc' h3 g3
        by_cases hxy : xs[k] = ys[k]
        · have t2 : (xs[k] != ys[k]) = false := by simp [hxy]
          have Hxy := Lib.hid hxy
          clear hxy
          go_wp2
          go_quiet (fail)
          go_wp2
          go_roundw
          case rel => exact ⟨k + 1, _, by go_num, by omega, rfl, by rw [HM.out, HD.out, if_pos Hxy.out]; exact rfl⟩
          case measure => simp [intOf]; omega
        · have t2 : (xs[k] != ys[k]) = true := by simp [hxy]
          have Hxy := Lib.hid hxy
          clear hxy
          go_wp2
          go_quiet (fail)
          go_wp2
          go_ret
          exact ⟨ret_bool (by rw [HM.out, HD.out, if_neg Hxy.out]), by simp only [World.drewN_drewN]; exact ⟨_, rfl⟩⟩
      · obtain rfl : k = xs.length := by omega
        clear h3 g3
        go_wp2
        go_ret
        exact ⟨ret_bool (by rw [HM.out, eq_end _ _ HL.out]), _, rfl⟩
  · have t1 : ((xs.length : Int) != (ys.length : Int)) = true := by simp; omega
    have h0 : R = false := by rw [hR]; simp; intro e; exact hl (by rw [e])
    have H0 := Lib.hid h0
    clear hR h0 h3 g3 hl
    go_enter Tryz.func31, Tryz.ntmps31
    go_wp2
    go_ret
    exact ⟨ret_bool (H0.out).symm, 0, rfl⟩

/-- The marks k, k + 1, .. -/
def marks (k : Int) : Nat → List Int
  | 0 => []
  | n + 1 => k :: marks (k + 1) n
theorem length_marks : ∀ (n : Nat) (k : Int), (marks k n).length = n
  | 0, _ => rfl
  | n + 1, k => by simp [marks, length_marks n]
theorem marks_get : ∀ (n : Nat) (k : Int) (i : Nat), i < n → (marks k n)[i]? = some (k + i)
  | n + 1, k, 0, _ => by simp [marks]
  | n + 1, k, i + 1, h => by simp only [marks, List.getElem?_cons_succ]; rw [marks_get n (k + 1) i (by omega)]; congr 1; omega
/-- A list whose first j elements are marks. -/
def markTo (k : Int) (l : List Int) (j : Nat) : List Int := marks k j ++ l.drop j
theorem length_markTo (k : Int) (l : List Int) (j : Nat) (h : j ≤ l.length) : (markTo k l j).length = l.length := by simp [markTo, length_marks]; omega
theorem marks_snoc : ∀ (n : Nat) (k : Int), marks k (n + 1) = marks k n ++ [k + n]
  | 0, k => by simp [marks]
  | n + 1, k => by
    rw [marks, marks_snoc n (k + 1), marks]
    simp; omega
theorem markTo_set (k : Int) (l : List Int) (j : Nat) (h : j < l.length) : (markTo k l j).set j (k + j) = markTo k l (j + 1) := by
  unfold markTo
  rw [List.set_append_right _ _ (by rw [length_marks]; omega), length_marks, Nat.sub_self, List.drop_eq_getElem_cons h, List.set_cons_zero, marks_snoc, List.append_assoc]
  rfl

/-- What a call leaves that has set marks: the slice holds them, all other blocks are as they were. -/
def Marked (w : World) (lo : Nat) (v : Value) (k : Int) (n : Nat) (e : Ending) (w' : World) : Prop :=
  e = .returned (.int .i64 (k + n)) ∧ Own w' lo v (marks k n) ∧ w.grownBy w' v.ownBlock

end
section
open Go.RowKit

theorem szIntS_yes (left : Int) (t : Value) (l : List Int) (w : World) (ht : Ints w t l) (h : (l.length : Int) ≤ left) (hl : left ≤ 1048576) :
    Calls Tryz.prog 15 #[t, .int .i64 left] w fun e w' => e = .returned (.int .i64 (left - l.length)) ∧ w = w' := by
  obtain ⟨A, c, rfl, _, _, h3⟩ := ht
  clear h3
  have h0 : 0 ≤ left - l.length := by omega
  go_enter Tryz.func15, Tryz.ntmps15
  go_wp2
  go_ret
  exact ⟨rfl, rfl⟩
theorem szIntS_no (left : Int) (t : Value) (l : List Int) (w : World) (ht : Ints w t l) (h : left < (l.length : Int)) (hl : left ≤ 1048576) (h0 : 0 ≤ left) :
    Calls Tryz.prog 15 #[t, .int .i64 left] w fun e w' => e = .returned (.int .i64 (-1)) ∧ w = w' := by
  obtain ⟨A, c, rfl, h1, h2, h3⟩ := ht
  clear h3
  have h4 : left - l.length < 0 := by omega
  go_enter Tryz.func15, Tryz.ntmps15
  go_wp2
  go_ret
  exact ⟨rfl, rfl⟩
end
section
open Go.RowKit

/-- A struct of numbers and a new slice of numbers is returned. -/
def RetAlg (w : World) (a0 a1 : Int) (l : List Int) (e : Ending) (w' : World) : Prop := ∃ u, e = .returned (.agg #[.int .i64 a0, .int .i64 a1, u]) ∧ Own w' w.heap.size u l ∧ Below w.heap.size w w'

set_option maxHeartbeats 400000 in
theorem toAlgebra_any (a0 a1 : Int) (t : Value) (l : List Int) (w : World) (ht : Ints w t l) (hl : l.length ≤ 35184372088832) :
    Calls Tryz.prog 8 #[.agg #[.int .i64 a0, .int .i64 a1, t]] w (RetAlg w a0 a1 l) := by
  have h0 := St.start1 ht
  have h1 := h0.box [.int .i64 a0, .int .i64 a1, t] 24
  have h2 := (h1.box [.int .i64 0, .int .i64 0, .slice none 0 0] 32).box [.int .i64 a0, .int .i64 a1, .slice none 0 0] 32
  simp only [World.size_alloc] at h2
  obtain ⟨A, c, rfl, _, _, _⟩ := id ht
  have hc := fun W (hi : Ints W (.slice A l.length c) l) => toIntS_any _ l W hi hl
  have Hc := Lib.hid hc
  clear hc ht hl
  obtain ⟨x0, x1, x2⟩ := (h1.box3 0 rfl)
  go_enter Tryz.func8, Tryz.ntmps8
  go_wp2_with fail
  refine (Hc.out _ (h2.roInts 3 rfl)).mono ?_
  rintro e w1 ⟨u, rfl, ho, hb⟩
  obtain ⟨A1, c1, rfl, _, _, _⟩ := id ho.ints
  have h3 := h2.pushOwn hb ho
  obtain ⟨z0, z1, z2⟩ := h3.box3 1 rfl
  have zf := h3.free 1 rfl 2
  have zl := (h3.boxLt 1 rfl).2
  obtain ⟨y0, y1, y2⟩ := h3.box3 2 rfl
  have f0 := h3.free 2 rfl 0
  have f1 := h3.free 2 rfl 1
  have f2 := h3.free 2 rfl 2
  have h4 := (h3.setBox 1 rfl 2 (.slice A1 l.length c1))
  replace h4 := h4.setBox 2 rfl 0 (.int .i64 a0)
  replace h4 := h4.setBox 2 rfl 1 (.int .i64 a1)
  replace h4 := h4.setBox 2 rfl 2 (.slice A1 l.length c1)
  clear hb ho h3
  obtain ⟨r0, r1, r2⟩ := h4.box3 2 rfl
  go_wp2
  refine bodyPost_ret (v := .agg #[.int .i64 a0, .int .i64 a1, .slice A1 l.length c1]) (by simp [results, Tryz.results8, go_sem, r0, r1, r2]) rfl ⟨_, rfl, h4.own 0 rfl, h4.below⟩

theorem szAlgebra_yes (a0 a1 left : Int) (t : Value) (l : List Int) (w : World) (ht : Ints w t l) (h : (l.length : Int) ≤ left) (hl : left ≤ 1048576) :
    Calls Tryz.prog 4 #[.agg #[.int .i64 a0, .int .i64 a1, t], .int .i64 left] w fun e w' => e = .returned (.int .i64 (left - l.length)) ∧ Below w.heap.size w w' := by
  have h1 := (St.start1 ht).box [.int .i64 a0, .int .i64 a1, t] 24
  obtain ⟨A, c, rfl, _, _, _⟩ := id ht
  clear ht
  obtain ⟨c0, c1, c2⟩ := h1.box3 0 rfl
  go_enter Tryz.func4, Tryz.ntmps4
  go_wp2_with (go_at_call 15; refine (szIntS_yes _ _ l _ (h1.roInts 1 rfl) h hl).mono ?_; rintro e wn ⟨rfl, rfl⟩)
  go_ret
  exact ⟨rfl, h1.below⟩
theorem szAlgebra_no (a0 a1 left : Int) (t : Value) (l : List Int) (w : World) (ht : Ints w t l) (h : left < (l.length : Int)) (hl : left ≤ 1048576) (h0 : 0 ≤ left) :
    Calls Tryz.prog 4 #[.agg #[.int .i64 a0, .int .i64 a1, t], .int .i64 left] w fun e w' => e = .returned (.int .i64 (-1)) ∧ Below w.heap.size w w' := by
  have h1 := (St.start1 ht).box [.int .i64 a0, .int .i64 a1, t] 24
  obtain ⟨A, c, rfl, _, _, _⟩ := id ht
  clear ht
  obtain ⟨c0, c1, c2⟩ := h1.box3 0 rfl
  go_enter Tryz.func4, Tryz.ntmps4
  go_wp2_with (go_at_call 15; refine (szIntS_no _ _ l _ (h1.roInts 1 rfl) h hl h0).mono ?_; rintro e wn ⟨rfl, rfl⟩)
  go_ret
  exact ⟨rfl, h1.below⟩
set_option maxHeartbeats 400000 in
theorem eqAlgebra_same (a0 a1 : Int) (t u : Value) (l : List Int) (w : World) (ht : Ints w t l) (hu : Ints w u l) :
    Calls Tryz.prog 12 #[.agg #[.int .i64 a0, .int .i64 a1, t], .agg #[.int .i64 a0, .int .i64 a1, u]] w fun e w' => e = .returned (.bool true) ∧ Below w.heap.size w w' := by
  have h1 := ((((St.start w).arg ht).arg hu).box [.int .i64 a0, .int .i64 a1, t] 32).box [.int .i64 a0, .int .i64 a1, u] 32
  simp only [World.size_alloc] at h1
  obtain ⟨A, c, rfl, _, _, _⟩ := id ht
  obtain ⟨B, d, rfl, _, _, _⟩ := id hu
  clear ht hu
  obtain ⟨c0, c1, c2⟩ := h1.box3 1 rfl
  obtain ⟨d0, d1, d2⟩ := h1.box3 0 rfl
  have he : decide (l = l) = true := by simp
  go_enter Tryz.func12, Tryz.ntmps12
  go_wp2_with fail
  refine (eqIntS_any _ _ l l _ (h1.roInts 3 rfl) (h1.roInts 2 rfl)).mono ?_
  rintro e wn ⟨rfl, nd, rfl⟩
  replace h1 := h1.drewN nd
  go_wp2
  go_ret
  exact ⟨rfl, h1.below⟩
end
section
open Go.RowKit

/-- A struct of numbers and a new slice of numbers is returned. -/
def RetMat (w : World) (a0 a1 a2 : Int) (l : List Int) (e : Ending) (w' : World) : Prop := ∃ u, e = .returned (.agg #[.int .i64 a0, .int .i64 a1, .int .i64 a2, u]) ∧ Own w' w.heap.size u l ∧ Below w.heap.size w w'

end
end Go.Proofs.YtcngijafnnmccaaGreatDoor
