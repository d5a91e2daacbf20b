/- Words of letters: comparing them, which are Lyndon words: the reference's functions and the program's, as one function on lists. -/
import Derived.Test.YtmohkpgojkipkaaBase
namespace Go.Proofs.Ytmohkpgojkipkaa
set_option maxRecDepth 100000
open Go.RowKit
namespace Words

/-- Is the first list above the second one in the order of a lexicon? -/
def above : List Int → List Int → Bool
  | [], _ => false
  | _ :: _, [] => true
  | x :: xs, y :: ys => if x = y then above xs ys else decide (y < x)

theorem above_drop (l m : List Int) (k : Nat) (x y : Int) (hx : l[k]? = some x) (hy : m[k]? = some y) : above (l.drop k) (m.drop k) = if x = y then above (l.drop (k + 1)) (m.drop (k + 1)) else decide (y < x) := by
  obtain ⟨h1, rfl⟩ := List.getElem?_eq_some_iff.1 hx
  obtain ⟨h2, rfl⟩ := List.getElem?_eq_some_iff.1 hy
  rw [List.drop_eq_getElem_cons h1, List.drop_eq_getElem_cons h2]
  rfl
theorem above_end (l m : List Int) (k : Nat) (h1 : k ≤ l.length) (h2 : k ≤ m.length) (h : ¬ (k < l.length ∧ k < m.length)) : above (l.drop k) (m.drop k) = decide (m.length < l.length) := by
  by_cases hl : k < l.length
  · have hm : m.drop k = [] := List.drop_eq_nil_of_le (by omega)
    rw [hm, List.drop_eq_getElem_cons hl]
    simp [above]; omega
  · have hm : l.drop k = [] := List.drop_eq_nil_of_le (by omega)
    rw [hm]
    simp [above]; omega

/-- Is a list below all of its ends? -/
def lyndonFrom (l : List Int) : Nat → Nat → Bool
  | 0, _ => true
  | f + 1, k => if k < l.length then (if above (l.drop k) l then lyndonFrom l f (k + 1) else false) else true
def lyndon (l : List Int) : Bool := lyndonFrom l l.length 1

def letters (l : List Int) : Bool := l.all fun x => inR x 0 3
theorem letters_drop (l : List Int) (k : Nat) (hk : k < l.length) : letters (l.drop k) = (inR l[k] 0 3 && letters (l.drop (k + 1))) := by
  rw [List.drop_eq_getElem_cons hk]; rfl
theorem letters_end (l : List Int) (k : Nat) (hk : l.length ≤ k) : letters (l.drop k) = true := by
  rw [List.drop_eq_nil_of_le hk]; rfl
def word (l : List Int) : Bool := inR l.length 1 8 && letters l

def isLyn (l : List Int) : Bool := word l && lyndon l
/-- The order of a lexicon: -1, 0 or 1. -/
def cmpL : List Int → List Int → Int
  | [], [] => 0
  | [], _ :: _ => -1
  | _ :: _, [] => 1
  | x :: xs, y :: ys => if x = y then cmpL xs ys else if x < y then -1 else 1
def cmpI (x y : Int) : Int := if x < y then -1 else if y < x then 1 else 0
theorem cmpI_any (x y : Int) (w : World) :
    Calls Try.prog 88 #[.int .i64 x, .int .i64 y] w fun e w' => e = .returned (.int .i64 (cmpI x y)) ∧ w = w' := by
  unfold cmpI
  by_cases h1 : x < y
  · go_enter Try.func88, Try.ntmps88
    go_wp2
    go_ret
    exact ⟨by simp, rfl⟩
  · by_cases h2 : y < x
    all_goals
      go_enter Try.func88, Try.ntmps88
      go_wp2
      go_ret
      exact ⟨by simp, rfl⟩

def notLetter (x : Int) : Bool := !inR x 0 3
theorem any_notLetter (l : List Int) : l.any notLetter = !letters l := by
  induction l with
  | nil => rfl
  | cons x xs ih => simp only [List.any_cons, ih]; show _ = !(inR x 0 3 && letters xs); simp [notLetter, Bool.not_and]
end Words
end Go.Proofs.Ytmohkpgojkipkaa
