/- Are all numbers of a list residues? Are they all 0? The reference's functions and the program's. -/
import Derived.Test.YtngmepodgbhbpaaFind
namespace Go.Proofs.Ytngmepodgbhbpaa
set_option maxRecDepth 100000
open Go.RowKit

def inP (p x : Int) : Bool := decide (0 ≤ x) && decide (x < p)
def resid (p : Int) (l : List Int) : Bool := l.all (inP p)
theorem resid_drop (p : Int) (l : List Int) (k : Nat) (hk : k < l.length) : resid p (l.drop k) = (inP p l[k] && resid p (l.drop (k + 1))) := by
  rw [List.drop_eq_getElem_cons hk]; rfl
theorem resid_end (p : Int) (l : List Int) (k : Nat) (hk : l.length ≤ k) : resid p (l.drop k) = true := by
  rw [List.drop_eq_nil_of_le hk]; rfl

set_option maxHeartbeats 400000 in
theorem l1Residues_any (v : Value) (l : List Int) (p : Int) (w : World) (hv : Ints w v l) :
    Calls Try.prog 113 #[v, .int .i64 p] w fun e w' => e = .returned (.bool (resid p l)) ∧ w = w' := by
  obtain ⟨A, c, rfl, h1, h2, h3⟩ := hv
  obtain ⟨R, hR⟩ : ∃ R, R = resid p l := ⟨_, rfl⟩
  rw [← hR]
  have HR := Lib.hid hR
  clear hR
  go_enter Try.func113, Try.ntmps113
  go_wp2
  go_loop [5] (fun vi => ∃ k : Nat, vi = .int .i64 k ∧ Hid (R = resid p (l.drop k))) (fun vi => l.length - (intOf vi).toNat)
  case atStart => exact ⟨0, rfl, HR⟩
  case round =>
    obtain ⟨k, rfl, HM⟩ := hrel
    by_cases hk : k < l.length
    · obtain ⟨b, off, rfl, hc⟩ := h3 (by omega)
      have e1 := hc k l[k] (List.getElem?_eq_getElem hk)
      have HD := Lib.hid (resid_drop p l k hk)
      clear hc h3
      by_cases hx : 0 ≤ l[k]
      · by_cases hy : l[k] < p
        · go_wp2
          go_round
          case rel => exact ⟨k + 1, by go_num, by have := HM.out; rw [HD.out, show inP p l[k] = true from by simp [inP, hx, hy]] at this; exact this⟩
          case measure => simp [intOf]; omega
        · go_wp2
          go_ret
          exact ⟨ret_bool (by rw [HM.out, HD.out, show inP p l[k] = false from by simp [inP]; omega]; rfl), rfl⟩
      · go_wp2
        go_ret
        exact ⟨ret_bool (by rw [HM.out, HD.out, show inP p l[k] = false from by simp [inP]; omega]; rfl), rfl⟩
    · have HE := Lib.hid (resid_end p l k (by omega))
      clear h3
      go_wp2
      go_ret
      exact ⟨ret_bool (by rw [HM.out, HE.out]), rfl⟩

def notIn (p x : Int) : Bool := !inR x 0 (p - 1)
theorem residues1_any (p x : Int) (b : Nat) (w : World) (hp : 0 ≤ p) (hp' : p ≤ 9223372036854775807) (hc : w.cell? ⟨b, 0, none⟩ = some (.int .i64 p)) :
    Calls Try.prog 136 (#[.int .i64 x] ++ #[.pointer (some ⟨b, 0, none⟩)]) w fun e w' => e = .returned (.bool (notIn p x)) ∧ w = w' := by
  show Calls Try.prog 136 #[.int .i64 x, .pointer (some ⟨b, 0, none⟩)] w _
  go_enter Try.func136, Try.ntmps136
  go_wp2_with (go_at_call 68; refine (inside_any _ _ _ _).mono ?_; rintro e w' ⟨rfl, rfl⟩)
  go_ret
  exact ⟨rfl, rfl⟩
theorem any_notIn (p : Int) (l : List Int) : l.any (notIn p) = !resid p l := by
  have h : ∀ x, notIn p x = !inP p x := fun x => by simp only [notIn, inR, inP]; congr 2; simp only [decide_eq_decide]; omega
  induction l with
  | nil => rfl
  | cons x xs ih => simp only [List.any_cons, ih, h]; show _ = !(inP p x && resid p xs); simp [Bool.not_and]

theorem cell_new_one (w : World) (v : Value) (t : TypeId) : (w.alloc (.cells #[v] t)).cell? ⟨w.heap.size, 0, none⟩ = some v := cell_of_row _ _ 0 #[v] _ _ (heap_alloc_new w _)

theorem residues_any (v : Value) (l : List Int) (p : Int) (w : World) (hp : 0 ≤ p) (hp' : p ≤ 9223372036854775807) (hv : Ints w v l) :
    Calls Try.prog 117 #[v, .int .i64 p] w fun e w' => e = .returned (.bool (resid p l)) ∧ Below w.heap.size w w' := by
  obtain ⟨A, c, rfl, h1, h2, h3⟩ := id hv
  clear h1 h2 h3
  have HL := Lib.hid (any_notIn p l)
  have hb : Below w.heap.size w (w.alloc (.cells #[.int .i64 p] 3)) := (Below.refl _ _).alloc (Nat.le_refl _) _
  have hv1 := hv.below hb
  go_enter Try.func117, Try.ntmps117
  go_wp2_with (go_at_call 135; refine (ContainsFunc_any _ _ (notIn p) Try.call136 _ l _ (fun x => residues1_any p x _ _ hp hp' (cell_new_one _ _ _)) hv1).mono ?_; rintro e w' ⟨rfl, rfl⟩)
  go_ret
  exact ⟨ret_bool (by rw [HL.out]; simp), hb⟩

def zeroL (l : List Int) : Bool := l.all fun x => x == 0
theorem zeroL_drop (l : List Int) (k : Nat) (hk : k < l.length) : zeroL (l.drop k) = ((l[k] == 0) && zeroL (l.drop (k + 1))) := by
  rw [List.drop_eq_getElem_cons hk]; rfl
theorem zeroL_end (l : List Int) (k : Nat) (hk : l.length ≤ k) : zeroL (l.drop k) = true := by
  rw [List.drop_eq_nil_of_le hk]; rfl
def not0 (x : Int) : Bool := x != 0
theorem isZero1_any (x : Int) (w : World) : Calls Try.prog 137 (#[.int .i64 x] ++ #[]) w fun e w' => e = .returned (.bool (not0 x)) ∧ w = w' := by
  show Calls Try.prog 137 #[.int .i64 x] w _
  go_enter Try.func137, Try.ntmps137
  go_wp2
  go_ret
  exact ⟨rfl, rfl⟩
theorem any_not0 (l : List Int) : l.any not0 = !zeroL l := by
  induction l with
  | nil => rfl
  | cons x xs ih =>
    simp only [List.any_cons, ih]
    show _ = !((x == 0) && zeroL xs)
    simp only [not0, Bool.not_and]; rfl
theorem isZero_any (v : Value) (l : List Int) (w : World) (hv : Ints w v l) :
    Calls Try.prog 119 #[v] w fun e w' => e = .returned (.bool (zeroL l)) ∧ w = w' := by
  obtain ⟨A, c, rfl, h1, h2, h3⟩ := id hv
  clear h1 h2 h3
  have HL := Lib.hid (any_not0 l)
  go_enter Try.func119, Try.ntmps119
  go_wp2_with (go_at_call 135; refine (ContainsFunc_any _ _ not0 Try.call137 _ l _ (fun x => isZero1_any x _) hv).mono ?_; rintro e w' ⟨rfl, rfl⟩)
  go_ret
  exact ⟨ret_bool (by rw [HL.out]; simp), rfl⟩

set_option maxHeartbeats 400000 in
theorem l1IsZero_any (v : Value) (l : List Int) (w : World) (hv : Ints w v l) :
    Calls Try.prog 134 #[v] w fun e w' => e = .returned (.bool (zeroL l)) ∧ w = w' := by
  obtain ⟨A, c, rfl, h1, h2, h3⟩ := hv
  obtain ⟨R, hR⟩ : ∃ R, R = zeroL l := ⟨_, rfl⟩
  rw [← hR]
  have HR := Lib.hid hR
  clear hR
  go_enter Try.func134, Try.ntmps134
  go_wp2
  go_loop [3] (fun vi => ∃ k : Nat, vi = .int .i64 k ∧ Hid (R = zeroL (l.drop k))) (fun vi => l.length - (intOf vi).toNat)
  case atStart => exact ⟨0, rfl, HR⟩
  case round =>
    obtain ⟨k, rfl, HM⟩ := hrel
    by_cases hk : k < l.length
    · obtain ⟨b, off, rfl, hc⟩ := h3 (by omega)
      have e1 := hc k l[k] (List.getElem?_eq_getElem hk)
      have HD := Lib.hid (zeroL_drop l k hk)
      clear hc h3
      by_cases hx : l[k] = 0
      · have t1 : (l[k] != 0) = false := by simp [hx]
        have Hx := Lib.hid hx
        clear hx
        go_wp2
        go_round
        case rel => exact ⟨k + 1, by go_num, by have := HM.out; rw [HD.out, show (l[k] == 0) = true from by simp [Hx.out]] at this; exact this⟩
        case measure => simp [intOf]; omega
      · have t1 : (l[k] != 0) = true := by simp [hx]
        have Hx := Lib.hid hx
        clear hx
        go_wp2
        go_ret
        exact ⟨ret_bool (by rw [HM.out, HD.out, show (l[k] == 0) = false from by simp [Hx.out]]; rfl), rfl⟩
    · have HE := Lib.hid (zeroL_end l k (by omega))
      clear h3
      go_wp2
      go_ret
      exact ⟨ret_bool (by rw [HM.out, HE.out]), rfl⟩
end Go.Proofs.Ytngmepodgbhbpaa
