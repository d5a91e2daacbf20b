/- Words of letters: comparing them, which are Lyndon words: the reference's functions and the program's, as one function on lists. -/
import Derived.Test.YtjkidofadpbmkaaSmall
namespace Go.Proofs.Ytjkidofadpbmkaa
open Go.RowKit
namespace Words

/-- Is the first list above the second one in the order of a lexicon? -/
def above : List Int → List Int → Bool
  | [], _ => false
  | _ :: _, [] => true
  | x :: xs, y :: ys => if x = y then above xs ys else decide (y < x)

theorem above_drop (l m : List Int) (k : Nat) (x y : Int) (hx : l[k]? = some x) (hy : m[k]? = some y) : above (l.drop k) (m.drop k) = if x = y then above (l.drop (k + 1)) (m.drop (k + 1)) else decide (y < x) := by
  obtain ⟨h1, rfl⟩ := List.getElem?_eq_some_iff.1 hx
  obtain ⟨h2, rfl⟩ := List.getElem?_eq_some_iff.1 hy
  rw [List.drop_eq_getElem_cons h1, List.drop_eq_getElem_cons h2]
  rfl
theorem above_end (l m : List Int) (k : Nat) (h1 : k ≤ l.length) (h2 : k ≤ m.length) (h : ¬ (k < l.length ∧ k < m.length)) : above (l.drop k) (m.drop k) = decide (m.length < l.length) := by
  by_cases hl : k < l.length
  · have hm : m.drop k = [] := List.drop_eq_nil_of_le (by omega)
    rw [hm, List.drop_eq_getElem_cons hl]
    simp [above]; omega
  · have hm : l.drop k = [] := List.drop_eq_nil_of_le (by omega)
    rw [hm]
    simp [above]; omega

set_option maxHeartbeats 400000 in
theorem l6Above_any (v u : Value) (xs ys : List Int) (w : World) (hv : Ints w v xs) (hu : Ints w u ys) :
    Calls Try.prog 54 #[v, u] w fun e w' => e = .returned (.bool (above xs ys)) ∧ ∃ n, w' = w.drewN n := by
  obtain ⟨A, c, rfl, h1, h2, h3⟩ := hv
  obtain ⟨B, d, rfl, g1, g2, g3⟩ := hu
  obtain ⟨R, hR⟩ : ∃ R, R = above xs ys := ⟨_, rfl⟩
  rw [← hR]
  have HR := Lib.hid hR
  clear hR
  go_enter Try.func54, Try.ntmps54
  go_wp2
  go_loopw [5] (fun vi wr => ∃ (k m : Nat), vi = .int .i64 k ∧ k ≤ xs.length ∧ k ≤ ys.length ∧ wr = w.drewN m ∧ Hid (R = above (xs.drop k) (ys.drop k))) (fun vi _ => xs.length - (intOf vi).toNat)
  case atStart => exact ⟨0, 0, rfl, by omega, by omega, rfl, HR⟩
  case round =>
    obtain ⟨k, m, rfl, a1, a2, rfl, HM⟩ := hrel
    by_cases hk : k < xs.length ∧ k < ys.length
    · obtain ⟨hk1, hk2⟩ := hk
      obtain ⟨b, off, rfl, hc⟩ := h3 (by omega)
      obtain ⟨b', off', rfl, hc'⟩ := g3 (by omega)
      have e1 := hc k xs[k] (List.getElem?_eq_getElem hk1)
      have e2 := hc' k ys[k] (List.getElem?_eq_getElem hk2)
      have HD := Lib.hid (above_drop xs ys k _ _ (List.getElem?_eq_getElem hk1) (List.getElem?_eq_getElem hk2))
      clear hc hc' h3 g3
      by_cases hxy : xs[k] = ys[k]
      · have t1 : (xs[k] != ys[k]) = false := by simp [hxy]
        have Hxy := Lib.hid hxy
        clear hxy
        go_wp2
        go_quiet (fail)
        go_wp2
        go_roundw
        case rel => exact ⟨k + 1, _, by go_num, by omega, by omega, rfl, by rw [HM.out, HD.out, if_pos Hxy.out]; exact rfl⟩
        case measure => simp [intOf]; omega
      · have t1 : (xs[k] != ys[k]) = true := by simp [hxy]
        have Hxy := Lib.hid hxy
        clear hxy
        go_wp2
        go_quiet (fail)
        go_wp2
        go_quiet (fail)
        go_wp2
        go_ret
        exact ⟨ret_bool (by rw [HM.out, HD.out, if_neg Hxy.out]), by simp only [World.drewN_drewN]; exact ⟨_, rfl⟩⟩
    · have HE := Lib.hid (above_end xs ys k a1 a2 hk)
      clear h3 g3
      by_cases hk1 : k < xs.length
      · have hk2 : ¬ k < ys.length := by omega
        clear hk
        go_wp2
        go_ret
        exact ⟨ret_bool (by rw [HM.out, HE.out]), _, rfl⟩
      · clear hk
        go_wp2
        go_ret
        exact ⟨ret_bool (by rw [HM.out, HE.out]), _, rfl⟩

/-- Is a list below all of its ends? -/
def lyndonFrom (l : List Int) : Nat → Nat → Bool
  | 0, _ => true
  | f + 1, k => if k < l.length then (if above (l.drop k) l then lyndonFrom l f (k + 1) else false) else true
def lyndon (l : List Int) : Bool := lyndonFrom l l.length 1

set_option maxHeartbeats 400000 in
theorem l11Lyndon_any (v : Value) (l : List Int) (w : World) (hv : Ints w v l) :
    Calls Try.prog 37 #[v] w fun e w' => e = .returned (.bool (lyndon l)) ∧ ∃ n, w' = w.drewN n := by
  have hv0 := hv
  obtain ⟨A, c, rfl, h1, h2, h3⟩ := hv
  obtain ⟨R, hR⟩ : ∃ R, R = lyndon l := ⟨_, rfl⟩
  rw [← hR]
  have HR := Lib.hid hR
  clear hR h3
  go_enter Try.func37, Try.ntmps37
  go_wp2
  go_loopw [3] (fun vi wr => ∃ (k m f : Nat), vi = .int .i64 k ∧ 1 ≤ k ∧ l.length ≤ f + k - 1 ∧ wr = w.drewN m ∧ Hid (R = lyndonFrom l f k)) (fun vi _ => l.length - (intOf vi).toNat)
  case atStart => exact ⟨1, 0, l.length, rfl, by omega, by omega, rfl, HR⟩
  case round =>
    obtain ⟨k, m, f, rfl, a1, a2, rfl, HM⟩ := hrel
    by_cases hk : k < l.length
    · obtain ⟨f, rfl⟩ : ∃ g, f = g + 1 := ⟨f - 1, by omega⟩
      obtain ⟨A', hrun, hA'⟩ := cutFrom hv0 k (by omega)
      by_cases ha : above (l.drop k) l = true
      · go_wp2_with (go_at_call 54; refine (l6Above_any _ _ _ _ _ (hA'.drewN m) (hv0.drewN m)).mono ?_; rintro e w' ⟨rfl, n1, rfl⟩)
        go_roundw
        case rel => exact ⟨k + 1, m + n1, f, by go_num, by omega, by omega, by simp, by have := HM.out; unfold lyndonFrom at this; rw [if_pos hk, if_pos ha] at this; exact this⟩
        case measure => simp [intOf]; omega
      · have ha : above (l.drop k) l = false := by simpa using ha
        go_wp2_with (go_at_call 54; refine (l6Above_any _ _ _ _ _ (hA'.drewN m) (hv0.drewN m)).mono ?_; rintro e w' ⟨rfl, n1, rfl⟩)
        go_ret
        exact ⟨ret_bool (by rw [HM.out]; unfold lyndonFrom; rw [if_pos hk, if_neg (by simp [ha])]), ⟨_, rfl⟩⟩
    · go_wp2
      go_ret
      exact ⟨ret_bool (by rw [HM.out]; cases f with | zero => rfl | succ f => (unfold lyndonFrom; rw [if_neg hk])), _, rfl⟩

def letters (l : List Int) : Bool := l.all fun x => inR x 0 3
theorem letters_drop (l : List Int) (k : Nat) (hk : k < l.length) : letters (l.drop k) = (inR l[k] 0 3 && letters (l.drop (k + 1))) := by
  rw [List.drop_eq_getElem_cons hk]; rfl
theorem letters_end (l : List Int) (k : Nat) (hk : l.length ≤ k) : letters (l.drop k) = true := by
  rw [List.drop_eq_nil_of_le hk]; rfl
def word (l : List Int) : Bool := inR l.length 1 8 && letters l

set_option maxHeartbeats 400000 in
theorem l11Letters_any (v : Value) (l : List Int) (w : World) (hv : Ints w v l) :
    Calls Try.prog 36 #[v] w fun e w' => e = .returned (.bool (word l)) ∧ w = w' := by
  obtain ⟨A, c, rfl, h1, h2, h3⟩ := hv
  by_cases hn : 1 ≤ l.length ∧ l.length ≤ 8
  · obtain ⟨R, hR⟩ : ∃ R, R = letters l := ⟨_, rfl⟩
    have hw : word l = R := by rw [hR]; simp [word, inR, hn]; omega
    rw [hw]
    have HR := Lib.hid hR
    clear hR hw
    obtain ⟨n1, n2⟩ := hn
    go_enter Try.func36, Try.ntmps36
    go_wp2
    go_loop [3] (fun vi => ∃ k : Nat, vi = .int .i64 k ∧ Hid (R = letters (l.drop k))) (fun vi => l.length - (intOf vi).toNat)
    case atStart => exact ⟨0, rfl, HR⟩
    case round =>
      obtain ⟨k, rfl, HM⟩ := hrel
      by_cases hk : k < l.length
      · obtain ⟨b, off, rfl, hc⟩ := h3 (by omega)
        have e1 := hc k l[k] (List.getElem?_eq_getElem hk)
        have HD := Lib.hid (letters_drop l k hk)
        clear hc h3
        by_cases hx : inR l[k] 0 3 = true
        · go_wp2_with (go_at_call 32; refine (l1In_any _ _ _ _).mono ?_; rintro e w' ⟨rfl, rfl⟩)
          go_round
          case rel => exact ⟨k + 1, by go_num, by have := HM.out; rw [HD.out, hx] at this; exact this⟩
          case measure => simp [intOf]; omega
        · have hx : inR l[k] 0 3 = false := by simpa using hx
          go_wp2_with (go_at_call 32; refine (l1In_any _ _ _ _).mono ?_; rintro e w' ⟨rfl, rfl⟩)
          go_ret
          exact ⟨ret_bool (by rw [HM.out, HD.out, hx]; rfl), rfl⟩
      · have HE := Lib.hid (letters_end l k (by omega))
        clear h3
        go_wp2
        go_ret
        exact ⟨ret_bool (by rw [HM.out, HE.out]), rfl⟩
  · have hw : word l = false := by simp [word, inR]; omega
    rw [hw]
    clear hw h3
    by_cases h0 : l.length < 1
    · clear hn
      go_enter Try.func36, Try.ntmps36
      go_wp2
      go_ret
      exact ⟨rfl, rfl⟩
    · have h8 : 8 < l.length := by omega
      clear hn
      go_enter Try.func36, Try.ntmps36
      go_wp2
      go_ret
      exact ⟨rfl, rfl⟩

def isLyn (l : List Int) : Bool := word l && lyndon l
theorem IsLyndonS_any (v : Value) (l : List Int) (w : World) (hv : Ints w v l) :
    Calls Try.prog 11 #[v] w fun e w' => e = .returned (.bool (isLyn l)) ∧ ∃ n, w' = w.drewN n := by
  have hv0 := hv
  obtain ⟨A, c, rfl, h1, h2, h3⟩ := hv
  clear h3
  by_cases hw : word l = true
  · by_cases hl : lyndon l = true
    all_goals
      go_enter Try.func11, Try.ntmps11
      go_wp2_with (first
        | (go_at_call 36; refine (l11Letters_any _ _ _ hv0).mono ?_; rintro e w' ⟨rfl, rfl⟩)
        | (go_at_call 37; refine (l11Lyndon_any _ _ _ hv0).mono ?_; rintro e w' ⟨rfl, n1, rfl⟩))
      go_ret
      exact ⟨ret_bool (by simp [isLyn, hw, hl]), _, rfl⟩
  · go_enter Try.func11, Try.ntmps11
    go_wp2_with (go_at_call 36; refine (l11Letters_any _ _ _ hv0).mono ?_; rintro e w' ⟨rfl, rfl⟩)
    go_ret
    exact ⟨ret_bool (by simp [isLyn, hw]), 0, rfl⟩

/-- The order of a lexicon: -1, 0 or 1. -/
def cmpL : List Int → List Int → Int
  | [], [] => 0
  | [], _ :: _ => -1
  | _ :: _, [] => 1
  | x :: xs, y :: ys => if x = y then cmpL xs ys else if x < y then -1 else 1
def cmpI (x y : Int) : Int := if x < y then -1 else if y < x then 1 else 0
theorem cmpI_any (x y : Int) (w : World) :
    Calls Try.prog 70 #[.int .i64 x, .int .i64 y] w fun e w' => e = .returned (.int .i64 (cmpI x y)) ∧ w = w' := by
  unfold cmpI
  by_cases h1 : x < y
  · go_enter Try.func70, Try.ntmps70
    go_wp2
    go_ret
    exact ⟨by simp, rfl⟩
  · by_cases h2 : y < x
    all_goals
      go_enter Try.func70, Try.ntmps70
      go_wp2
      go_ret
      exact ⟨by simp, rfl⟩

/-- Where the first element lies that a test takes, -1 if there is none. -/
def idx (p : Int → Bool) : List Int → Int → Int
  | [], _ => -1
  | x :: xs, k => if p x then k else idx p xs (k + 1)
theorem idx_drop (p : Int → Bool) (l : List Int) (k : Nat) (hk : k < l.length) : idx p (l.drop k) k = if p l[k] then (k : Int) else idx p (l.drop (k + 1)) ((k + 1 : Nat) : Int) := by
  rw [List.drop_eq_getElem_cons hk]; rfl
theorem idx_end (p : Int → Bool) (l : List Int) (k : Nat) (hk : l.length ≤ k) : idx p (l.drop k) k = -1 := by
  rw [List.drop_eq_nil_of_le hk]; rfl
theorem idx_any (p : Int → Bool) (l : List Int) : ∀ i : Int, 0 ≤ i → decide (0 ≤ idx p l i) = l.any p := by
  induction l with
  | nil => intro i _; simp [idx]
  | cons x xs ih =>
    intro i hi
    cases hx : p x
    · simp [idx, hx, ← ih (i + 1) (by omega)]
    · simp [idx, hx, hi]

set_option maxHeartbeats 400000 in
theorem IndexFunc_any (g : Nat) (caps : Array Value) (p : Int → Bool) (hg : ∀ (args : Array Value) (W : World), (callFunc g args).run Try.prog W = .ok (.enter g args) W)
    (hf : ∀ (x : Int) (W : World), Calls Try.prog g (#[.int .i64 x] ++ caps) W fun e w' => e = .returned (.bool (p x)) ∧ W = w') (v : Value) (l : List Int) (w : World) (hv : Ints w v l) :
    Calls Try.prog 69 #[v, .func (.func g) #[] caps] w fun e w' => e = .returned (.int .i64 (idx p l 0)) ∧ w = w' := by
  obtain ⟨A, c, rfl, h1, h2, h3⟩ := hv
  obtain ⟨R, hR⟩ : ∃ R, R = idx p l 0 := ⟨_, rfl⟩
  rw [← hR]
  have HR := Lib.hid hR
  have HF := Lib.hid hf
  clear hR hf
  go_enter Try.func69, Try.ntmps69
  go_wp2
  go_loop [8] (fun vi => ∃ k : Nat, vi = .int .i64 k ∧ Hid (R = idx p (l.drop k) k)) (fun vi => l.length - (intOf vi).toNat)
  case atStart => exact ⟨0, rfl, HR⟩
  case round =>
    obtain ⟨k, rfl, HM⟩ := hrel
    by_cases hk : k < l.length
    · obtain ⟨b, off, rfl, hc⟩ := h3 (by omega)
      have e1 := hc k l[k] (List.getElem?_eq_getElem hk)
      have HD := Lib.hid (idx_drop p l k hk)
      clear hc h3
      by_cases hx : p l[k] = true
      · go_wp2_with fail
        refine (HF.out _ _).mono ?_
        rintro e w' ⟨rfl, rfl⟩
        go_wp2
        go_ret
        exact ⟨ret_int (by rw [HM.out, HD.out, if_pos hx]), rfl⟩
      · have hx : p l[k] = false := by simpa using hx
        go_wp2_with fail
        refine (HF.out _ _).mono ?_
        rintro e w' ⟨rfl, rfl⟩
        go_wp2
        go_round
        case rel => exact ⟨k + 1, by go_num, by rw [HM.out, HD.out, if_neg (by simp [hx])]; exact rfl⟩
        case measure => simp [intOf]; omega
    · have HE := Lib.hid (idx_end p l k (by omega))
      clear h3
      go_wp2
      go_ret
      exact ⟨ret_int (by rw [HM.out, HE.out]), rfl⟩

theorem ContainsFunc_any (g : Nat) (caps : Array Value) (p : Int → Bool) (hg : ∀ (args : Array Value) (W : World), (callFunc g args).run Try.prog W = .ok (.enter g args) W)
    (hf : ∀ (x : Int) (W : World), Calls Try.prog g (#[.int .i64 x] ++ caps) W fun e w' => e = .returned (.bool (p x)) ∧ W = w') (v : Value) (l : List Int) (w : World) (hv : Ints w v l) :
    Calls Try.prog 55 #[v, .func (.func g) #[] caps] w fun e w' => e = .returned (.bool (l.any p)) ∧ w = w' := by
  have hq := idx_any p l 0 (by omega)
  have HQ := Lib.hid hq
  have HF := Lib.hid hf
  have HG := Lib.hid hg
  clear hq hf hg
  obtain ⟨A, c, rfl, h1, h2, h3⟩ := id hv
  clear h1 h2 h3
  go_enter Try.func55, Try.ntmps55
  go_wp2_with (go_at_call 69; refine (IndexFunc_any g caps p HG.out HF.out _ l _ hv).mono ?_; rintro e w' ⟨rfl, rfl⟩)
  go_ret
  exact ⟨ret_bool HQ.out, rfl⟩

def notLetter (x : Int) : Bool := !inR x 0 3
theorem free1_any (x : Int) (w : World) : Calls Try.prog 56 (#[.int .i64 x] ++ #[]) w fun e w' => e = .returned (.bool (notLetter x)) ∧ w = w' := by
  show Calls Try.prog 56 #[.int .i64 x] w _
  go_enter Try.func56, Try.ntmps56
  go_wp2_with (go_at_call 34; refine (inside_any _ _ _ _).mono ?_; rintro e w' ⟨rfl, rfl⟩)
  go_ret
  exact ⟨rfl, rfl⟩
theorem any_notLetter (l : List Int) : l.any notLetter = !letters l := by
  induction l with
  | nil => rfl
  | cons x xs ih => simp only [List.any_cons, ih]; show _ = !(inR x 0 3 && letters xs); simp [notLetter, Bool.not_and]
theorem isFreeWord_any (v : Value) (l : List Int) (w : World) (hv : Ints w v l) :
    Calls Try.prog 38 #[v] w fun e w' => e = .returned (.bool (word l)) ∧ w = w' := by
  obtain ⟨A, c, rfl, h1, h2, h3⟩ := id hv
  clear h1 h2 h3
  have HL := Lib.hid (any_notLetter l)
  by_cases hl : inR l.length 1 8 = true
  · go_enter Try.func38, Try.ntmps38
    go_wp2_with (first
      | (go_at_call 34; refine (inside_any _ _ _ _).mono ?_; rintro e w' ⟨rfl, rfl⟩)
      | (go_at_call 55; refine (ContainsFunc_any _ _ notLetter Try.call56 free1_any _ l _ hv).mono ?_; rintro e w' ⟨rfl, rfl⟩))
    go_ret
    exact ⟨ret_bool (by simp [word, hl, HL.out]), rfl⟩
  · have hl : inR l.length 1 8 = false := by simpa using hl
    go_enter Try.func38, Try.ntmps38
    go_wp2_with (go_at_call 34; refine (inside_any _ _ _ _).mono ?_; rintro e w' ⟨rfl, rfl⟩)
    go_ret
    exact ⟨ret_bool (by simp [word, hl]), rfl⟩
end Words
end Go.Proofs.Ytjkidofadpbmkaa
