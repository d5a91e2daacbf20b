/- Matrices of zeros: ZeroMatrix of the program, l1Zero of the reference. Copies of slices of integers: slices.Clone and the reference's l1Ints. How many numbers some rows hold. -/
import Derived.Test.YtbnefjhljfbecaaStB
import Derived.Test.YtbnefjhljfbecaaLawB
import Derived.Test.YtbnefjhljfbecaaNum
import Derived.Test.YtbnefjhljfbecaaBase
namespace Go.Proofs.Ytbnefjhljfbecaa
set_option maxRecDepth 100000
section
open Go.RowKit

theorem mul_le {a b m n : Nat} (h1 : a ≤ m) (h2 : b ≤ n) : a * b ≤ m * n := Nat.mul_le_mul h1 h2
theorem makeI2 (a b : Nat) (h : a * b ≤ 35184372088832) (W : World) :
    (Instr.makeSlice 26 (.int .i64 ((a : Int) * (b : Int))) (.int .i64 ((a : Int) * (b : Int)))).run Try.prog W = .ok (.slice (some ⟨W.heap.size, 0, none⟩) (a * b) (a * b)) (W.alloc (.cells (zeros (a * b)) 3)) := by
  have := makeI (a * b) h W
  rw [Int.natCast_mul] at this
  exact this

set_option maxHeartbeats 400000 in
theorem l1Zero_any (p : Int) (r c : Nat) (w : World) (h : r * c ≤ 4194304) :
    Calls Try.prog 21 #[.int .i64 p, .int .i64 r, .int .i64 c] w (RetMat w p r c (List.replicate (r * c) 0)) := by
  have hmk := makeI2 r c (by omega)
  have n1 : 0 ≤ (r : Int) * c ∧ (r : Int) * c ≤ 4194304 := by
    have : ((r * c : Nat) : Int) = (r : Int) * c := Int.natCast_mul _ _
    omega
  go_enter Try.func21, Try.ntmps21
  go_wp2
  have h1 := ((St.start w).box [.int .i64 p, .int .i64 r, .int .i64 c, .slice (some ⟨w.heap.size + 1, 0, none⟩) (r * c) (r * c)] 35).zeros (r * c) (by omega)
  simp only [World.size_alloc] at h1
  refine bodyPost_ret (v := .agg #[.int .i64 p, .int .i64 r, .int .i64 c, .slice (some ⟨w.heap.size + 1, 0, none⟩) (r * c) (r * c)]) (by simp [results, Try.results21, go_sem]) rfl ⟨_, rfl, h1.own 0 rfl, h1.below⟩
end
section
open Go.RowKit

set_option maxHeartbeats 400000 in
theorem l1Ints_any (v : Value) (l : List Int) (w : World) (hv : Ints w v l) (hl : l.length ≤ 8796093022208) :
    Calls Try.prog 70 #[v] w (RetOwn w l) := by
  obtain ⟨A, c, rfl, h1, h2, h3⟩ := id hv
  clear h1 h2 h3
  have hv1 : Ints (w.alloc (.cells #[] 3)) (.slice A l.length c) l := hv.below ((Below.refl _ _).alloc (Nat.le_refl _) _)
  go_enter Try.func70, Try.ntmps70
  go_wp2_with (at_builtin; refine wp_append_ints rfl (.tmp 3) (.tmp 4) rfl w.heap.size _ _ [] l rfl rfl (Own.empty (Nat.le_refl _)) hv1 (by simp; omega) (by simp) ?_; intro v1 w1 ho1 hg1 _)
  go_ret
  exact ⟨_, rfl, by simpa using ho1, grown_below (Own.empty (Nat.le_refl _)) hg1 ((Below.refl _ _).alloc (Nat.le_refl _) _) (Nat.le_refl _) (by simp)⟩

set_option maxHeartbeats 400000 in
theorem Clone_any (v : Value) (l : List Int) (w : World) (hv : Ints w v l) (hl : l.length ≤ 8796093022208) :
    Calls Try.prog 37 #[v] w (RetOwn w l) := by
  obtain ⟨A, c, rfl, h1, h2, h3⟩ := id hv
  cases A with
  | none =>
    obtain rfl : l = [] := by
      cases l with
      | nil => rfl
      | cons x xs => obtain ⟨b, off, h, _⟩ := h3 (by simp); cases h
    clear h1 h2 h3
    have hnil := fun W : World => Lib.run_eql_slice_nil (P := Try.prog) W 26 3 none 0 c 0 0 Try.underlying26
    go_enter Try.func37, Try.ntmps37
    go_wp2
    go_ret
    exact ⟨_, rfl, ⟨by simp, .inl ⟨rfl, rfl⟩⟩, Below.refl _ _⟩
  | some a =>
    clear h1 h2 h3
    have hv1 : Ints (w.alloc (.cells #[] 3)) (.slice (some a) l.length c) l := hv.below ((Below.refl _ _).alloc (Nat.le_refl _) _)
    have hnil := fun W : World => Lib.run_eql_slice_nil (P := Try.prog) W 26 3 (some a) l.length c 0 0 Try.underlying26
    go_enter Try.func37, Try.ntmps37
    go_wp2_with (at_builtin; refine wp_append_ints rfl (.tmp 5) (.tmp 6) rfl w.heap.size _ _ [] l rfl rfl (Own.empty (Nat.le_refl _)) hv1 (by simp; omega) (by simp) ?_; intro v1 w1 ho1 hg1 _)
    go_ret
    exact ⟨_, rfl, by simpa using ho1, grown_below (Own.empty (Nat.le_refl _)) hg1 ((Below.refl _ _).alloc (Nat.le_refl _) _) (Nat.le_refl _) (by simp)⟩
end
section
/-- How many numbers the rows hold. -/
def total : List (List Int) → Nat
  | [] => 0
  | l :: ll => l.length + total ll
theorem total_drop (ll : List (List Int)) (i : Nat) (h : i < ll.length) : total (ll.drop i) = ll[i].length + total (ll.drop (i + 1)) := by
  rw [List.drop_eq_getElem_cons h]; rfl
theorem total_take (ll : List (List Int)) (i : Nat) (h : i < ll.length) : total (ll.take (i + 1)) = total (ll.take i) + ll[i].length := by
  rw [List.take_succ_eq_append_getElem h]
  generalize ll.take i = a
  induction a with
  | nil => simp [total]
  | cons x xs ih => simp only [List.cons_append, total, ih]; omega
theorem total_split (ll : List (List Int)) (i : Nat) : total (ll.take i) + total (ll.drop i) = total ll := by
  induction ll generalizing i with
  | nil => simp [total]
  | cons x xs ih =>
    cases i with
    | zero => simp [total]
    | succ i => simp only [List.take_succ_cons, List.drop_succ_cons, total]; have := ih i; omega
theorem length_flatten' (ll : List (List Int)) : ll.flatten.length = total ll := by
  induction ll with
  | nil => rfl
  | cons l ll ih => rw [List.flatten_cons, List.length_append, ih]; rfl
theorem total_le (ll : List (List Int)) (i : Nat) : total (ll.take i) ≤ total ll := by have := total_split ll i; omega
theorem total_mem (ll : List (List Int)) (i : Nat) (h : i < ll.length) : total (ll.take i) + ll[i].length ≤ total ll := by rw [← total_take ll i h]; exact total_le ll _
theorem flatten_take (ll : List (List Int)) (i : Nat) (h : i < ll.length) : (ll.take (i + 1)).flatten = (ll.take i).flatten ++ ll[i] := by
  rw [List.take_succ_eq_append_getElem h, List.flatten_append]; simp
theorem total_const (ll : List (List Int)) (n : Nat) (h : ∀ l ∈ ll, l.length = n) : total ll = ll.length * n := by
  induction ll with
  | nil => simp [total]
  | cons l ll ih => rw [total, ih (fun x hx => h x (by simp [hx])), h l (by simp), List.length_cons, Nat.add_mul]; omega
end
end Go.Proofs.Ytbnefjhljfbecaa
