/- The laws' own helpers on slices of integers: a copy, a comparison, marks. The law's count of what is read. The laws' helpers on Algebra. (Written by lawgen_struct.py.) The laws' helpers on Matrix. (Written by lawgen_struct.py.) -/
import Derived.Test.YtcngijafnnmccaaDoorBase
import Derived.Test.YtcngijafnnmccaaDoorStB
namespace Go.Proofs.YtcngijafnnmccaaDoor
set_option maxRecDepth 100000
section
open Go.RowKit

set_option maxHeartbeats 400000 in
theorem toIntS_any (v : Value) (l : List Int) (w : World) (hv : Ints w v l) (hl : l.length ≤ 35184372088832) :
    Calls Tryd.prog 9 #[v] w (RetOwn w l) := by
  obtain ⟨A, c, rfl, h1, h2, h3⟩ := hv
  have hmk := makeI l.length hl
  go_enter Tryd.func9, Tryd.ntmps9
  go_wp2
  go_loopw [4] (fun vi wr => ∃ k : Nat, vi = .int .i64 k ∧ k ≤ l.length ∧ Own wr w.heap.size (.slice (some ⟨w.heap.size, 0, none⟩) l.length l.length) (fillTo l k) ∧ Below w.heap.size w wr) (fun vi _ => l.length - (intOf vi).toNat)
  case atStart => exact ⟨0, rfl, by omega, by rw [fillTo_zero]; exact Own.made hl (Nat.le_refl _), (Below.refl _ _).alloc (Nat.le_refl _) _⟩
  case round =>
    obtain ⟨k, rfl, a1, ho, hb⟩ := hrel
    by_cases hk : k < l.length
    · obtain ⟨b, off, rfl, hc⟩ := h3 (by omega)
      have e1 := hc k l[k] (List.getElem?_eq_getElem hk)
      have e2 : wr.cell? ⟨b, off + k, none⟩ = some (.int .i64 l[k]) := (hb.cell (World.block_lt_of_cell? w _ e1)).trans e1
      obtain ⟨e3, e4⟩ := ho.cell k (by rw [length_fillTo l k a1]; exact hk)
      obtain ⟨ho', hg⟩ := ho.set k l[k]
      clear hc h3 e1
      go_wp2
      go_roundw
      case rel => exact ⟨k + 1, by go_num, by omega, by rw [← fillTo_set l k hk]; exact ho', hb.grown hg hb.size (by simp)⟩
      case measure => simp [intOf]; omega
    · obtain rfl : k = l.length := by omega
      rw [fillTo_end] at ho
      clear h3
      go_wp2
      go_ret
      exact ⟨_, rfl, ho, hb⟩

theorem eq_step (l m : List Int) (k : Nat) (h1 : k < l.length) (h2 : k < m.length) : decide (l.drop k = m.drop k) = if l[k] = m[k] then decide (l.drop (k + 1) = m.drop (k + 1)) else false := by
  rw [List.drop_eq_getElem_cons h1, List.drop_eq_getElem_cons h2]
  by_cases h : l[k] = m[k] <;> simp only [List.cons.injEq, h, true_and, if_true, false_and, if_false, decide_false]
theorem eq_end (l m : List Int) (h : l.length = m.length) : decide (l.drop l.length = m.drop l.length) = true := by
  rw [List.drop_eq_nil_of_le (Nat.le_refl _), h, List.drop_eq_nil_of_le (Nat.le_refl _)]; rfl

set_option maxHeartbeats 400000 in
theorem eqIntS_any (v u : Value) (xs ys : List Int) (w : World) (hv : Ints w v xs) (hu : Ints w u ys) :
    Calls Tryd.prog 11 #[v, u] w fun e w' => e = .returned (.bool (decide (xs = ys))) ∧ ∃ n, w' = w.drewN n := by
  obtain ⟨A, c, rfl, h1, h2, h3⟩ := hv
  obtain ⟨B, d, rfl, g1, g2, g3⟩ := hu
  obtain ⟨R, hR⟩ : ∃ R, R = decide (xs = ys) := ⟨_, rfl⟩
  rw [← hR]
  by_cases hl : xs.length = ys.length
  · have HR := Lib.hid hR
    clear hR
    have t1 : ((xs.length : Int) != (ys.length : Int)) = false := by simp [hl]
    have hl1 : xs.length ≤ ys.length := by omega
    have HL := Lib.hid hl
    clear hl
    go_enter Tryd.func11, Tryd.ntmps11
    go_wp2
    go_loopw [5] (fun vi wr => ∃ (k m : Nat), vi = .int .i64 k ∧ k ≤ xs.length ∧ wr = w.drewN m ∧ Hid (R = decide (xs.drop k = ys.drop k))) (fun vi _ => xs.length - (intOf vi).toNat)
    case atStart => exact ⟨0, 0, rfl, by omega, rfl, HR⟩
    case round =>
      obtain ⟨k, m, rfl, a1, rfl, HM⟩ := hrel
      by_cases hk : k < xs.length
      · obtain ⟨b, off, rfl, hc⟩ := h3 (by omega)
        obtain ⟨b', off', rfl, hc'⟩ := g3 (by omega)
        have hk2 : k < ys.length := by omega
        have e1 := hc k xs[k] (List.getElem?_eq_getElem hk)
        have e2 := hc' k ys[k] (List.getElem?_eq_getElem hk2)
        have HD := Lib.hid (eq_step xs ys k hk hk2)
        clear hc hc' h3 g3
        by_cases hxy : xs[k] = ys[k]
        · have t2 : (xs[k] != ys[k]) = false := by simp [hxy]
          have Hxy := Lib.hid hxy
          clear hxy
          go_wp2
          go_quiet (fail)
          go_wp2
          go_roundw
          case rel => exact ⟨k + 1, _, by go_num, by omega, rfl, by rw [HM.out, HD.out, if_pos Hxy.out]; exact rfl⟩
          case measure => simp [intOf]; omega
        · have t2 : (xs[k] != ys[k]) = true := by simp [hxy]
          have Hxy := Lib.hid hxy
          clear hxy
          go_wp2
          go_quiet (fail)
          go_wp2
          go_ret
          exact ⟨ret_bool (by rw [HM.out, HD.out, if_neg Hxy.out]), by simp only [World.drewN_drewN]; exact ⟨_, rfl⟩⟩
      · obtain rfl : k = xs.length := by omega
        clear h3 g3
        go_wp2
        go_ret
        exact ⟨ret_bool (by rw [HM.out, eq_end _ _ HL.out]), _, rfl⟩
  · have t1 : ((xs.length : Int) != (ys.length : Int)) = true := by simp; omega
    have h0 : R = false := by rw [hR]; simp; intro e; exact hl (by rw [e])
    have H0 := Lib.hid h0
    clear hR h0 h3 g3 hl
    go_enter Tryd.func11, Tryd.ntmps11
    go_wp2
    go_ret
    exact ⟨ret_bool (H0.out).symm, 0, rfl⟩

/-- The marks k, k + 1, .. -/
def marks (k : Int) : Nat → List Int
  | 0 => []
  | n + 1 => k :: marks (k + 1) n
theorem length_marks : ∀ (n : Nat) (k : Int), (marks k n).length = n
  | 0, _ => rfl
  | n + 1, k => by simp [marks, length_marks n]
theorem marks_get : ∀ (n : Nat) (k : Int) (i : Nat), i < n → (marks k n)[i]? = some (k + i)
  | n + 1, k, 0, _ => by simp [marks]
  | n + 1, k, i + 1, h => by simp only [marks, List.getElem?_cons_succ]; rw [marks_get n (k + 1) i (by omega)]; congr 1; omega
/-- A list whose first j elements are marks. -/
def markTo (k : Int) (l : List Int) (j : Nat) : List Int := marks k j ++ l.drop j
theorem length_markTo (k : Int) (l : List Int) (j : Nat) (h : j ≤ l.length) : (markTo k l j).length = l.length := by simp [markTo, length_marks]; omega
theorem marks_snoc : ∀ (n : Nat) (k : Int), marks k (n + 1) = marks k n ++ [k + n]
  | 0, k => by simp [marks]
  | n + 1, k => by
    rw [marks, marks_snoc n (k + 1), marks]
    simp; omega
theorem markTo_set (k : Int) (l : List Int) (j : Nat) (h : j < l.length) : (markTo k l j).set j (k + j) = markTo k l (j + 1) := by
  unfold markTo
  rw [List.set_append_right _ _ (by rw [length_marks]; omega), length_marks, Nat.sub_self, List.drop_eq_getElem_cons h, List.set_cons_zero, marks_snoc, List.append_assoc]
  rfl

/-- What a call leaves that has set marks: the slice holds them, all other blocks are as they were. -/
def Marked (w : World) (lo : Nat) (v : Value) (k : Int) (n : Nat) (e : Ending) (w' : World) : Prop :=
  e = .returned (.int .i64 (k + n)) ∧ Own w' lo v (marks k n) ∧ w.grownBy w' v.ownBlock

set_option maxHeartbeats 400000 in
theorem markIntS_any (v : Value) (l : List Int) (k : Int) (lo : Nat) (w : World) (hv : Own w lo v l) (hl : l.length ≤ 35184372088832) (hk : 0 ≤ k) (hk' : k ≤ 35184372088832000) :
    Calls Tryd.prog 26 #[v, .int .i64 k] w (Marked w lo v k l.length) := by
  rcases id hv.2 with ⟨rfl, h0⟩ | ⟨g, cap, cur, rfl, hb, hg, hn, hm, _⟩
  · obtain rfl : l = [] := List.eq_nil_of_length_eq_zero h0
    clear hl h0
    go_enter Tryd.func26, Tryd.ntmps26
    go_wp2
    go_loop [1, 5] (fun vk vi => vk = .int .i64 k ∧ vi = .int .i64 0) (fun _ _ => 0)
    case atStart => exact ⟨rfl, rfl⟩
    case round =>
      obtain ⟨rfl, rfl⟩ := hrel
      go_wp2
      go_ret
      exact ⟨by simp, hv, World.grownBy.refl w _⟩
  · have hl0 := hl
    go_enter Tryd.func26, Tryd.ntmps26
    go_wp2
    go_loopw [1, 5] (fun vk vi wr => ∃ j : Nat, vi = .int .i64 j ∧ vk = .int .i64 (k + j) ∧ j ≤ l.length ∧ Own wr lo (.slice (some ⟨g, 0, none⟩) l.length cap) (markTo k l j) ∧ w.grownBy wr (some g)) (fun _ vi _ => l.length - (intOf vi).toNat)
    case atStart => exact ⟨0, rfl, by simp, by omega, hv, World.grownBy.refl w _⟩
    case round =>
      obtain ⟨j, rfl, rfl, a1, ho, hgr⟩ := hrel
      by_cases hj : j < l.length
      · obtain ⟨e3, e4⟩ := ho.cell j (by rw [length_markTo k l j a1]; exact hj)
        obtain ⟨ho', hg'⟩ := ho.set j (k + j)
        go_wp2
        go_roundw
        case rel => exact ⟨j + 1, by go_num, by go_num, by omega, by rw [← markTo_set k l j hj]; exact ho', hgr.trans hg'⟩
        case measure => simp [intOf]; omega
      · obtain rfl : j = l.length := by omega
        have ho' : Own wr lo (.slice (some ⟨g, 0, none⟩) l.length cap) (marks k l.length) := by simpa [markTo] using ho
        clear ho
        go_wp2
        go_ret
        exact ⟨rfl, ho', hgr⟩

set_option maxHeartbeats 400000 in
theorem heldIntS_any (v : Value) (n : Nat) (k : Int) (w : World) (hv : Ints w v (marks k n)) (hl : n ≤ 35184372088832) (hk : 0 ≤ k) (hk' : k ≤ 35184372088832000) :
    Calls Tryd.prog 27 #[v, .int .i64 k] w fun e w' => e = .returned (.int .i64 (k + n)) ∧ w = w' := by
  obtain ⟨A, c, rfl, h1, h2, h3⟩ := hv
  have hn := length_marks n k
  rw [hn] at h1 h3 ⊢
  clear hn
  have HG := Lib.hid (marks_get n k)
  go_enter Tryd.func27, Tryd.ntmps27
  go_wp2
  go_loop [1, 5] (fun vk vi => ∃ j : Nat, vi = .int .i64 j ∧ vk = .int .i64 (k + j) ∧ j ≤ n) (fun _ vi => n - (intOf vi).toNat)
  case atStart => exact ⟨0, rfl, by simp, by omega⟩
  case round =>
    obtain ⟨j, rfl, rfl, a1⟩ := hrel
    by_cases hj : j < n
    · obtain ⟨b, off, rfl, hc⟩ := h3 (by omega)
      have e1 := hc j (k + j) (HG.out j hj)
      clear hc h3
      go_wp2
      go_round
      case rel => exact ⟨j + 1, by go_num, by go_num, by omega⟩
      case measure => simp [intOf]; omega
    · obtain rfl : j = n := by omega
      clear h3
      go_wp2
      go_ret
      exact ⟨rfl, rfl⟩
end
section
open Go.RowKit

theorem szIntS_yes (left : Int) (t : Value) (l : List Int) (w : World) (ht : Ints w t l) (h : (l.length : Int) ≤ left) (hl : left ≤ 1048576) :
    Calls Tryd.prog 37 #[t, .int .i64 left] w fun e w' => e = .returned (.int .i64 (left - l.length)) ∧ w = w' := by
  obtain ⟨A, c, rfl, _, _, h3⟩ := ht
  clear h3
  have h0 : 0 ≤ left - l.length := by omega
  go_enter Tryd.func37, Tryd.ntmps37
  go_wp2
  go_ret
  exact ⟨rfl, rfl⟩
theorem szIntS_no (left : Int) (t : Value) (l : List Int) (w : World) (ht : Ints w t l) (h : left < (l.length : Int)) (hl : left ≤ 1048576) (h0 : 0 ≤ left) :
    Calls Tryd.prog 37 #[t, .int .i64 left] w fun e w' => e = .returned (.int .i64 (-1)) ∧ w = w' := by
  obtain ⟨A, c, rfl, h1, h2, h3⟩ := ht
  clear h3
  have h4 : left - l.length < 0 := by omega
  go_enter Tryd.func37, Tryd.ntmps37
  go_wp2
  go_ret
  exact ⟨rfl, rfl⟩
end
section
open Go.RowKit

/-- A struct of numbers and a new slice of numbers is returned. -/
def RetAlg (w : World) (a0 a1 : Int) (l : List Int) (e : Ending) (w' : World) : Prop := ∃ u, e = .returned (.agg #[.int .i64 a0, .int .i64 a1, u]) ∧ Own w' w.heap.size u l ∧ Below w.heap.size w w'

end
section
open Go.RowKit

/-- A struct of numbers and a new slice of numbers is returned. -/
def RetMat (w : World) (a0 a1 a2 : Int) (l : List Int) (e : Ending) (w' : World) : Prop := ∃ u, e = .returned (.agg #[.int .i64 a0, .int .i64 a1, .int .i64 a2, u]) ∧ Own w' w.heap.size u l ∧ Below w.heap.size w w'

end
end Go.Proofs.YtcngijafnnmccaaDoor
