/- How many numbers some rows hold. -/
import Derived.Test.YtechjmckfedblaaBase
namespace Go.Proofs.Ytechjmckfedblaa
set_option maxRecDepth 100000

/-- How many numbers the rows hold. -/
def total : List (List Int) → Nat
  | [] => 0
  | l :: ll => l.length + total ll
theorem total_drop (ll : List (List Int)) (i : Nat) (h : i < ll.length) : total (ll.drop i) = ll[i].length + total (ll.drop (i + 1)) := by
  rw [List.drop_eq_getElem_cons h]; rfl
theorem total_take (ll : List (List Int)) (i : Nat) (h : i < ll.length) : total (ll.take (i + 1)) = total (ll.take i) + ll[i].length := by
  rw [List.take_succ_eq_append_getElem h]
  generalize ll.take i = a
  induction a with
  | nil => simp [total]
  | cons x xs ih => simp only [List.cons_append, total, ih]; omega
theorem total_split (ll : List (List Int)) (i : Nat) : total (ll.take i) + total (ll.drop i) = total ll := by
  induction ll generalizing i with
  | nil => simp [total]
  | cons x xs ih =>
    cases i with
    | zero => simp [total]
    | succ i => simp only [List.take_succ_cons, List.drop_succ_cons, total]; have := ih i; omega
theorem length_flatten' (ll : List (List Int)) : ll.flatten.length = total ll := by
  induction ll with
  | nil => rfl
  | cons l ll ih => rw [List.flatten_cons, List.length_append, ih]; rfl
theorem total_le (ll : List (List Int)) (i : Nat) : total (ll.take i) ≤ total ll := by have := total_split ll i; omega
theorem total_mem (ll : List (List Int)) (i : Nat) (h : i < ll.length) : total (ll.take i) + ll[i].length ≤ total ll := by rw [← total_take ll i h]; exact total_le ll _
theorem flatten_take (ll : List (List Int)) (i : Nat) (h : i < ll.length) : (ll.take (i + 1)).flatten = (ll.take i).flatten ++ ll[i] := by
  rw [List.take_succ_eq_append_getElem h, List.flatten_append]; simp
theorem total_const (ll : List (List Int)) (n : Nat) (h : ∀ l ∈ ll, l.length = n) : total ll = ll.length * n := by
  induction ll with
  | nil => simp [total]
  | cons l ll ih => rw [total, ih (fun x hx => h x (by simp [hx])), h l (by simp), List.length_cons, Nat.add_mul]; omega
end Go.Proofs.Ytechjmckfedblaa
