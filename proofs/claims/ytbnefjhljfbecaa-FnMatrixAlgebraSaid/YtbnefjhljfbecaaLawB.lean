/- The laws' own helpers on slices of integers: a copy, a comparison, marks. The law's count of what is read. The laws' helpers on Algebra. (Written by lawgen_struct.py.) The laws' helpers on Matrix. (Written by lawgen_struct.py.) -/
import Derived.Test.YtbnefjhljfbecaaBase
import Derived.Test.YtbnefjhljfbecaaStB
namespace Go.Proofs.Ytbnefjhljfbecaa
set_option maxRecDepth 100000
section
open Go.RowKit

theorem eq_step (l m : List Int) (k : Nat) (h1 : k < l.length) (h2 : k < m.length) : decide (l.drop k = m.drop k) = if l[k] = m[k] then decide (l.drop (k + 1) = m.drop (k + 1)) else false := by
  rw [List.drop_eq_getElem_cons h1, List.drop_eq_getElem_cons h2]
  by_cases h : l[k] = m[k] <;> simp only [List.cons.injEq, h, true_and, if_true, false_and, if_false, decide_false]
theorem eq_end (l m : List Int) (h : l.length = m.length) : decide (l.drop l.length = m.drop l.length) = true := by
  rw [List.drop_eq_nil_of_le (Nat.le_refl _), h, List.drop_eq_nil_of_le (Nat.le_refl _)]; rfl

/-- The marks k, k + 1, .. -/
def marks (k : Int) : Nat → List Int
  | 0 => []
  | n + 1 => k :: marks (k + 1) n
theorem length_marks : ∀ (n : Nat) (k : Int), (marks k n).length = n
  | 0, _ => rfl
  | n + 1, k => by simp [marks, length_marks n]
theorem marks_get : ∀ (n : Nat) (k : Int) (i : Nat), i < n → (marks k n)[i]? = some (k + i)
  | n + 1, k, 0, _ => by simp [marks]
  | n + 1, k, i + 1, h => by simp only [marks, List.getElem?_cons_succ]; rw [marks_get n (k + 1) i (by omega)]; congr 1; omega
/-- A list whose first j elements are marks. -/
def markTo (k : Int) (l : List Int) (j : Nat) : List Int := marks k j ++ l.drop j
theorem length_markTo (k : Int) (l : List Int) (j : Nat) (h : j ≤ l.length) : (markTo k l j).length = l.length := by simp [markTo, length_marks]; omega
theorem marks_snoc : ∀ (n : Nat) (k : Int), marks k (n + 1) = marks k n ++ [k + n]
  | 0, k => by simp [marks]
  | n + 1, k => by
    rw [marks, marks_snoc n (k + 1), marks]
    simp; omega
theorem markTo_set (k : Int) (l : List Int) (j : Nat) (h : j < l.length) : (markTo k l j).set j (k + j) = markTo k l (j + 1) := by
  unfold markTo
  rw [List.set_append_right _ _ (by rw [length_marks]; omega), length_marks, Nat.sub_self, List.drop_eq_getElem_cons h, List.set_cons_zero, marks_snoc, List.append_assoc]
  rfl

/-- What a call leaves that has set marks: the slice holds them, all other blocks are as they were. -/
def Marked (w : World) (lo : Nat) (v : Value) (k : Int) (n : Nat) (e : Ending) (w' : World) : Prop :=
  e = .returned (.int .i64 (k + n)) ∧ Own w' lo v (marks k n) ∧ w.grownBy w' v.ownBlock

end
section
open Go.RowKit

end
section
open Go.RowKit

/-- A struct of numbers and a new slice of numbers is returned. -/
def RetAlg (w : World) (a0 a1 : Int) (l : List Int) (e : Ending) (w' : World) : Prop := ∃ u, e = .returned (.agg #[.int .i64 a0, .int .i64 a1, u]) ∧ Own w' w.heap.size u l ∧ Below w.heap.size w w'

end
section
open Go.RowKit

/-- A struct of numbers and a new slice of numbers is returned. -/
def RetMat (w : World) (a0 a1 a2 : Int) (l : List Int) (e : Ending) (w' : World) : Prop := ∃ u, e = .returned (.agg #[.int .i64 a0, .int .i64 a1, .int .i64 a2, u]) ∧ Own w' w.heap.size u l ∧ Below w.heap.size w w'

end
end Go.Proofs.Ytbnefjhljfbecaa
