/- Words of letters: comparing them, which are Lyndon words: the reference's functions and the program's, as one function on lists. -/
import Derived.Test.YtcngijafnnmccaaDoorBase
namespace Go.Proofs.YtcngijafnnmccaaDoor
set_option maxRecDepth 100000
open Go.RowKit
namespace Words

/-- Is the first list above the second one in the order of a lexicon? -/
def above : List Int → List Int → Bool
  | [], _ => false
  | _ :: _, [] => true
  | x :: xs, y :: ys => if x = y then above xs ys else decide (y < x)

theorem above_drop (l m : List Int) (k : Nat) (x y : Int) (hx : l[k]? = some x) (hy : m[k]? = some y) : above (l.drop k) (m.drop k) = if x = y then above (l.drop (k + 1)) (m.drop (k + 1)) else decide (y < x) := by
  obtain ⟨h1, rfl⟩ := List.getElem?_eq_some_iff.1 hx
  obtain ⟨h2, rfl⟩ := List.getElem?_eq_some_iff.1 hy
  rw [List.drop_eq_getElem_cons h1, List.drop_eq_getElem_cons h2]
  rfl
theorem above_end (l m : List Int) (k : Nat) (h1 : k ≤ l.length) (h2 : k ≤ m.length) (h : ¬ (k < l.length ∧ k < m.length)) : above (l.drop k) (m.drop k) = decide (m.length < l.length) := by
  by_cases hl : k < l.length
  · have hm : m.drop k = [] := List.drop_eq_nil_of_le (by omega)
    rw [hm, List.drop_eq_getElem_cons hl]
    simp [above]; omega
  · have hm : l.drop k = [] := List.drop_eq_nil_of_le (by omega)
    rw [hm]
    simp [above]; omega

set_option maxHeartbeats 400000 in
theorem l6Above_any (v u : Value) (xs ys : List Int) (w : World) (hv : Ints w v xs) (hu : Ints w u ys) :
    Calls Tryd.prog 73 #[v, u] w fun e w' => e = .returned (.bool (above xs ys)) ∧ ∃ n, w' = w.drewN n := by
  obtain ⟨A, c, rfl, h1, h2, h3⟩ := hv
  obtain ⟨B, d, rfl, g1, g2, g3⟩ := hu
  obtain ⟨R, hR⟩ : ∃ R, R = above xs ys := ⟨_, rfl⟩
  rw [← hR]
  have HR := Lib.hid hR
  clear hR
  go_enter Tryd.func73, Tryd.ntmps73
  go_wp2
  go_loopw [5] (fun vi wr => ∃ (k m : Nat), vi = .int .i64 k ∧ k ≤ xs.length ∧ k ≤ ys.length ∧ wr = w.drewN m ∧ Hid (R = above (xs.drop k) (ys.drop k))) (fun vi _ => xs.length - (intOf vi).toNat)
  case atStart => exact ⟨0, 0, rfl, by omega, by omega, rfl, HR⟩
  case round =>
    obtain ⟨k, m, rfl, a1, a2, rfl, HM⟩ := hrel
    by_cases hk : k < xs.length ∧ k < ys.length
    · obtain ⟨hk1, hk2⟩ := hk
      obtain ⟨b, off, rfl, hc⟩ := h3 (by omega)
      obtain ⟨b', off', rfl, hc'⟩ := g3 (by omega)
      have e1 := hc k xs[k] (List.getElem?_eq_getElem hk1)
      have e2 := hc' k ys[k] (List.getElem?_eq_getElem hk2)
      have HD := Lib.hid (above_drop xs ys k _ _ (List.getElem?_eq_getElem hk1) (List.getElem?_eq_getElem hk2))
      clear hc hc' h3 g3
      by_cases hxy : xs[k] = ys[k]
      · have t1 : (xs[k] != ys[k]) = false := by simp [hxy]
        have Hxy := Lib.hid hxy
        clear hxy
        go_wp2
        go_quiet (fail)
        go_wp2
        go_roundw
        case rel => exact ⟨k + 1, _, by go_num, by omega, by omega, rfl, by rw [HM.out, HD.out, if_pos Hxy.out]; exact rfl⟩
        case measure => simp [intOf]; omega
      · have t1 : (xs[k] != ys[k]) = true := by simp [hxy]
        have Hxy := Lib.hid hxy
        clear hxy
        go_wp2
        go_quiet (fail)
        go_wp2
        go_quiet (fail)
        go_wp2
        go_ret
        exact ⟨ret_bool (by rw [HM.out, HD.out, if_neg Hxy.out]), by simp only [World.drewN_drewN]; exact ⟨_, rfl⟩⟩
    · have HE := Lib.hid (above_end xs ys k a1 a2 hk)
      clear h3 g3
      by_cases hk1 : k < xs.length
      · have hk2 : ¬ k < ys.length := by omega
        clear hk
        go_wp2
        go_ret
        exact ⟨ret_bool (by rw [HM.out, HE.out]), _, rfl⟩
      · clear hk
        go_wp2
        go_ret
        exact ⟨ret_bool (by rw [HM.out, HE.out]), _, rfl⟩

/-- Is a list below all of its ends? -/
def lyndonFrom (l : List Int) : Nat → Nat → Bool
  | 0, _ => true
  | f + 1, k => if k < l.length then (if above (l.drop k) l then lyndonFrom l f (k + 1) else false) else true
def lyndon (l : List Int) : Bool := lyndonFrom l l.length 1

set_option maxHeartbeats 400000 in
theorem l11Lyndon_any (v : Value) (l : List Int) (w : World) (hv : Ints w v l) :
    Calls Tryd.prog 57 #[v] w fun e w' => e = .returned (.bool (lyndon l)) ∧ ∃ n, w' = w.drewN n := by
  have hv0 := hv
  obtain ⟨A, c, rfl, h1, h2, h3⟩ := hv
  obtain ⟨R, hR⟩ : ∃ R, R = lyndon l := ⟨_, rfl⟩
  rw [← hR]
  have HR := Lib.hid hR
  clear hR h3
  go_enter Tryd.func57, Tryd.ntmps57
  go_wp2
  go_loopw [3] (fun vi wr => ∃ (k m f : Nat), vi = .int .i64 k ∧ 1 ≤ k ∧ l.length ≤ f + k - 1 ∧ wr = w.drewN m ∧ Hid (R = lyndonFrom l f k)) (fun vi _ => l.length - (intOf vi).toNat)
  case atStart => exact ⟨1, 0, l.length, rfl, by omega, by omega, rfl, HR⟩
  case round =>
    obtain ⟨k, m, f, rfl, a1, a2, rfl, HM⟩ := hrel
    by_cases hk : k < l.length
    · obtain ⟨f, rfl⟩ : ∃ g, f = g + 1 := ⟨f - 1, by omega⟩
      obtain ⟨A', hrun, hA'⟩ := cutFrom hv0 k (by omega)
      by_cases ha : above (l.drop k) l = true
      · go_wp2_with (go_at_call 73; refine (l6Above_any _ _ _ _ _ (hA'.drewN m) (hv0.drewN m)).mono ?_; rintro e w' ⟨rfl, n1, rfl⟩)
        go_roundw
        case rel => exact ⟨k + 1, m + n1, f, by go_num, by omega, by omega, by simp, by have := HM.out; unfold lyndonFrom at this; rw [if_pos hk, if_pos ha] at this; exact this⟩
        case measure => simp [intOf]; omega
      · have ha : above (l.drop k) l = false := by simpa using ha
        go_wp2_with (go_at_call 73; refine (l6Above_any _ _ _ _ _ (hA'.drewN m) (hv0.drewN m)).mono ?_; rintro e w' ⟨rfl, n1, rfl⟩)
        go_ret
        exact ⟨ret_bool (by rw [HM.out]; unfold lyndonFrom; rw [if_pos hk, if_neg (by simp [ha])]), ⟨_, rfl⟩⟩
    · go_wp2
      go_ret
      exact ⟨ret_bool (by rw [HM.out]; cases f with | zero => rfl | succ f => (unfold lyndonFrom; rw [if_neg hk])), _, rfl⟩

def letters (l : List Int) : Bool := l.all fun x => inR x 0 3
theorem letters_drop (l : List Int) (k : Nat) (hk : k < l.length) : letters (l.drop k) = (inR l[k] 0 3 && letters (l.drop (k + 1))) := by
  rw [List.drop_eq_getElem_cons hk]; rfl
theorem letters_end (l : List Int) (k : Nat) (hk : l.length ≤ k) : letters (l.drop k) = true := by
  rw [List.drop_eq_nil_of_le hk]; rfl
def word (l : List Int) : Bool := inR l.length 1 8 && letters l

set_option maxHeartbeats 400000 in
theorem l11Letters_any (v : Value) (l : List Int) (w : World) (hv : Ints w v l) :
    Calls Tryd.prog 56 #[v] w fun e w' => e = .returned (.bool (word l)) ∧ w = w' := by
  obtain ⟨A, c, rfl, h1, h2, h3⟩ := hv
  by_cases hn : 1 ≤ l.length ∧ l.length ≤ 8
  · obtain ⟨R, hR⟩ : ∃ R, R = letters l := ⟨_, rfl⟩
    have hw : word l = R := by rw [hR]; simp [word, inR, hn]; omega
    rw [hw]
    have HR := Lib.hid hR
    clear hR hw
    obtain ⟨n1, n2⟩ := hn
    go_enter Tryd.func56, Tryd.ntmps56
    go_wp2
    go_loop [3] (fun vi => ∃ k : Nat, vi = .int .i64 k ∧ Hid (R = letters (l.drop k))) (fun vi => l.length - (intOf vi).toNat)
    case atStart => exact ⟨0, rfl, HR⟩
    case round =>
      obtain ⟨k, rfl, HM⟩ := hrel
      by_cases hk : k < l.length
      · obtain ⟨b, off, rfl, hc⟩ := h3 (by omega)
        have e1 := hc k l[k] (List.getElem?_eq_getElem hk)
        have HD := Lib.hid (letters_drop l k hk)
        clear hc h3
        by_cases hx : inR l[k] 0 3 = true
        · go_wp2_with (go_at_call 40; refine (l1In_any _ _ _ _).mono ?_; rintro e w' ⟨rfl, rfl⟩)
          go_round
          case rel => exact ⟨k + 1, by go_num, by have := HM.out; rw [HD.out, hx] at this; exact this⟩
          case measure => simp [intOf]; omega
        · have hx : inR l[k] 0 3 = false := by simpa using hx
          go_wp2_with (go_at_call 40; refine (l1In_any _ _ _ _).mono ?_; rintro e w' ⟨rfl, rfl⟩)
          go_ret
          exact ⟨ret_bool (by rw [HM.out, HD.out, hx]; rfl), rfl⟩
      · have HE := Lib.hid (letters_end l k (by omega))
        clear h3
        go_wp2
        go_ret
        exact ⟨ret_bool (by rw [HM.out, HE.out]), rfl⟩
  · have hw : word l = false := by simp [word, inR]; omega
    rw [hw]
    clear hw h3
    by_cases h0 : l.length < 1
    · clear hn
      go_enter Tryd.func56, Tryd.ntmps56
      go_wp2
      go_ret
      exact ⟨rfl, rfl⟩
    · have h8 : 8 < l.length := by omega
      clear hn
      go_enter Tryd.func56, Tryd.ntmps56
      go_wp2
      go_ret
      exact ⟨rfl, rfl⟩

def isLyn (l : List Int) : Bool := word l && lyndon l
theorem IsLyndonS_any (v : Value) (l : List Int) (w : World) (hv : Ints w v l) :
    Calls Tryd.prog 31 #[v] w fun e w' => e = .returned (.bool (isLyn l)) ∧ ∃ n, w' = w.drewN n := by
  have hv0 := hv
  obtain ⟨A, c, rfl, h1, h2, h3⟩ := hv
  clear h3
  by_cases hw : word l = true
  · by_cases hl : lyndon l = true
    all_goals
      go_enter Tryd.func31, Tryd.ntmps31
      go_wp2_with (first
        | (go_at_call 56; refine (l11Letters_any _ _ _ hv0).mono ?_; rintro e w' ⟨rfl, rfl⟩)
        | (go_at_call 57; refine (l11Lyndon_any _ _ _ hv0).mono ?_; rintro e w' ⟨rfl, n1, rfl⟩))
      go_ret
      exact ⟨ret_bool (by simp [isLyn, hw, hl]), _, rfl⟩
  · go_enter Tryd.func31, Tryd.ntmps31
    go_wp2_with (go_at_call 56; refine (l11Letters_any _ _ _ hv0).mono ?_; rintro e w' ⟨rfl, rfl⟩)
    go_ret
    exact ⟨ret_bool (by simp [isLyn, hw]), 0, rfl⟩

/-- The order of a lexicon: -1, 0 or 1. -/
def cmpL : List Int → List Int → Int
  | [], [] => 0
  | [], _ :: _ => -1
  | _ :: _, [] => 1
  | x :: xs, y :: ys => if x = y then cmpL xs ys else if x < y then -1 else 1
def cmpI (x y : Int) : Int := if x < y then -1 else if y < x then 1 else 0
theorem cmpI_any (x y : Int) (w : World) :
    Calls Tryd.prog 76 #[.int .i64 x, .int .i64 y] w fun e w' => e = .returned (.int .i64 (cmpI x y)) ∧ w = w' := by
  unfold cmpI
  by_cases h1 : x < y
  · go_enter Tryd.func76, Tryd.ntmps76
    go_wp2
    go_ret
    exact ⟨by simp, rfl⟩
  · by_cases h2 : y < x
    all_goals
      go_enter Tryd.func76, Tryd.ntmps76
      go_wp2
      go_ret
      exact ⟨by simp, rfl⟩

def notLetter (x : Int) : Bool := !inR x 0 3
theorem free1_any (x : Int) (w : World) : Calls Tryd.prog 61 (#[.int .i64 x] ++ #[]) w fun e w' => e = .returned (.bool (notLetter x)) ∧ w = w' := by
  show Calls Tryd.prog 61 #[.int .i64 x] w _
  go_enter Tryd.func61, Tryd.ntmps61
  go_wp2_with (go_at_call 45; refine (inside_any _ _ _ _).mono ?_; rintro e w' ⟨rfl, rfl⟩)
  go_ret
  exact ⟨rfl, rfl⟩
theorem any_notLetter (l : List Int) : l.any notLetter = !letters l := by
  induction l with
  | nil => rfl
  | cons x xs ih => simp only [List.any_cons, ih]; show _ = !(inR x 0 3 && letters xs); simp [notLetter, Bool.not_and]
theorem isFreeWord_any (v : Value) (l : List Int) (w : World) (hv : Ints w v l) :
    Calls Tryd.prog 33 #[v] w fun e w' => e = .returned (.bool (word l)) ∧ w = w' := by
  obtain ⟨A, c, rfl, h1, h2, h3⟩ := id hv
  clear h1 h2 h3
  have HL := Lib.hid (any_notLetter l)
  by_cases hl : inR l.length 1 8 = true
  · go_enter Tryd.func33, Tryd.ntmps33
    go_wp2_with (first
      | (go_at_call 45; refine (inside_any _ _ _ _).mono ?_; rintro e w' ⟨rfl, rfl⟩)
      | (go_at_call 60; refine (ContainsFunc_any _ _ notLetter Tryd.call61 _ l _ (fun x => free1_any x _) hv).mono ?_; rintro e w' ⟨rfl, rfl⟩))
    go_ret
    exact ⟨ret_bool (by simp [word, hl, HL.out]), rfl⟩
  · have hl : inR l.length 1 8 = false := by simpa using hl
    go_enter Tryd.func33, Tryd.ntmps33
    go_wp2_with (go_at_call 45; refine (inside_any _ _ _ _).mono ?_; rintro e w' ⟨rfl, rfl⟩)
    go_ret
    exact ⟨ret_bool (by simp [word, hl]), rfl⟩
end Words
end Go.Proofs.YtcngijafnnmccaaDoor
