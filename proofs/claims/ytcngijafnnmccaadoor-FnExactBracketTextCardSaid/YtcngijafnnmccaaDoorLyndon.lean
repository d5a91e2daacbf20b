/- slices.Compare and the program's isLyndon. -/
import Derived.Test.YtcngijafnnmccaaDoorWords
namespace Go.Proofs.YtcngijafnnmccaaDoor
set_option maxRecDepth 100000
open Go.RowKit
namespace Words

theorem cmpL_drop (l m : List Int) (k : Nat) (h1 : k < l.length) (h2 : k < m.length) : cmpL (l.drop k) (m.drop k) = if l[k] = m[k] then cmpL (l.drop (k + 1)) (m.drop (k + 1)) else if l[k] < m[k] then -1 else 1 := by
  rw [List.drop_eq_getElem_cons h1, List.drop_eq_getElem_cons h2]; rfl
theorem cmpL_long (l m : List Int) (k : Nat) (h1 : k < l.length) (h2 : m.length ≤ k) : cmpL (l.drop k) (m.drop k) = 1 := by
  rw [List.drop_eq_getElem_cons h1, List.drop_eq_nil_of_le h2]; rfl
theorem cmpL_end (l m : List Int) (h2 : l.length ≤ m.length) : cmpL (l.drop l.length) (m.drop l.length) = if l.length < m.length then -1 else 0 := by
  rw [List.drop_eq_nil_of_le (Nat.le_refl _)]
  by_cases h : l.length < m.length
  · rw [List.drop_eq_getElem_cons h, if_pos h]; rfl
  · rw [List.drop_eq_nil_of_le (by omega), if_neg h]; rfl

set_option maxHeartbeats 400000 in
theorem Compare_any (v u : Value) (xs ys : List Int) (w : World) (hv : Ints w v xs) (hu : Ints w u ys) :
    Calls Tryd.prog 62 #[v, u] w fun e w' => e = .returned (.int .i64 (cmpL xs ys)) ∧ w = w' := by
  obtain ⟨A, c, rfl, h1, h2, h3⟩ := hv
  obtain ⟨B, d, rfl, g1, g2, g3⟩ := hu
  obtain ⟨R, hR⟩ : ∃ R, R = cmpL xs ys := ⟨_, rfl⟩
  rw [← hR]
  have HR := Lib.hid hR
  clear hR
  go_enter Tryd.func62, Tryd.ntmps62
  go_wp2
  go_loop [11] (fun vi => ∃ k : Nat, vi = .int .i64 k ∧ k ≤ xs.length ∧ k ≤ ys.length ∧ Hid (R = cmpL (xs.drop k) (ys.drop k))) (fun vi => xs.length - (intOf vi).toNat)
  case atStart => exact ⟨0, rfl, by omega, by omega, HR⟩
  case round =>
    obtain ⟨k, rfl, a1, a2, HM⟩ := hrel
    by_cases hk1 : k < xs.length
    · obtain ⟨b, off, rfl, hc⟩ := h3 (by omega)
      have e1 := hc k xs[k] (List.getElem?_eq_getElem hk1)
      clear hc h3
      by_cases hk2 : k < ys.length
      · obtain ⟨b', off', rfl, hc'⟩ := g3 (by omega)
        have e2 := hc' k ys[k] (List.getElem?_eq_getElem hk2)
        have HD := Lib.hid (cmpL_drop xs ys k hk1 hk2)
        clear hc' g3
        by_cases hxy : xs[k] = ys[k]
        · have t1 : (cmpI xs[k] ys[k] != 0) = false := by simp [cmpI, hxy]
          have Hxy := Lib.hid hxy
          clear hxy
          go_wp2_with (go_at_call 76; refine (cmpI_any _ _ _).mono ?_; rintro e w' ⟨rfl, rfl⟩)
          go_round
          case rel => exact ⟨k + 1, by go_num, by omega, by omega, by rw [HM.out, HD.out, if_pos Hxy.out]; exact rfl⟩
          case measure => simp [intOf]; omega
        · have t1 : (cmpI xs[k] ys[k] != 0) = true := by simp [cmpI]; omega
          have t2 : cmpI xs[k] ys[k] = if xs[k] < ys[k] then -1 else 1 := by unfold cmpI; split; rfl; rw [if_pos (by omega)]
          have Hxy := Lib.hid hxy
          have T2 := Lib.hid t2
          clear hxy t2
          go_wp2_with (go_at_call 76; refine (cmpI_any _ _ _).mono ?_; rintro e w' ⟨rfl, rfl⟩)
          go_ret
          exact ⟨ret_int (by rw [HM.out, HD.out, if_neg Hxy.out, T2.out]), rfl⟩
      · have HD := Lib.hid (cmpL_long xs ys k hk1 (by omega))
        clear g3
        go_wp2
        go_ret
        exact ⟨ret_int (by rw [HM.out, HD.out]), rfl⟩
    · obtain rfl : k = xs.length := by omega
      have HE := Lib.hid (cmpL_end xs ys a2)
      clear h3 g3
      by_cases hl : xs.length < ys.length
      · go_wp2
        go_ret
        exact ⟨ret_int (by rw [HM.out, HE.out, if_pos hl]), rfl⟩
      · go_wp2
        go_ret
        exact ⟨ret_int (by rw [HM.out, HE.out, if_neg hl]), rfl⟩

theorem cmpL_above : ∀ a b : List Int, decide (0 ≤ cmpL a b) = !above b a
  | [], [] => rfl
  | [], _ :: _ => rfl
  | _ :: _, [] => rfl
  | x :: xs, y :: ys => by
    unfold cmpL above
    by_cases h : x = y
    · subst h; simp only [if_true]; exact cmpL_above xs ys
    · have h' : ¬ y = x := fun e => h (Eq.symm e)
      by_cases h1 : x < y <;> simp [h, h', h1]

set_option maxHeartbeats 400000 in
theorem isLyndonI_any (v : Value) (l : List Int) (w : World) (hv : Ints w v l) :
    Calls Tryd.prog 34 #[v] w fun e w' => e = .returned (.bool (lyndon l)) ∧ w = w' := by
  have hv0 := hv
  obtain ⟨A, c, rfl, h1, h2, h3⟩ := hv
  obtain ⟨R, hR⟩ : ∃ R, R = lyndon l := ⟨_, rfl⟩
  rw [← hR]
  have HR := Lib.hid hR
  clear hR h3
  go_enter Tryd.func34, Tryd.ntmps34
  go_wp2
  go_loop [3] (fun vi => ∃ (k f : Nat), vi = .int .i64 k ∧ 1 ≤ k ∧ l.length ≤ f + k - 1 ∧ Hid (R = lyndonFrom l f k)) (fun vi => l.length - (intOf vi).toNat)
  case atStart => exact ⟨1, l.length, rfl, by omega, by omega, HR⟩
  case round =>
    obtain ⟨k, f, rfl, a1, a2, HM⟩ := hrel
    by_cases hk : k < l.length
    · obtain ⟨f, rfl⟩ : ∃ g, f = g + 1 := ⟨f - 1, by omega⟩
      obtain ⟨A', hrun, hA'⟩ := cutFrom hv0 k (by omega)
      have hca := cmpL_above l (l.drop k)
      by_cases ha : above (l.drop k) l = true
      · have t1 : decide (0 ≤ cmpL l (l.drop k)) = false := by rw [hca, ha]; rfl
        clear hca
        go_wp2_with (go_at_call 62; refine (Compare_any _ _ _ _ _ hv0 hA').mono ?_; rintro e w' ⟨rfl, rfl⟩)
        go_round
        case rel => exact ⟨k + 1, f, by go_num, by omega, by omega, by have := HM.out; unfold lyndonFrom at this; rw [if_pos hk, if_pos ha] at this; exact this⟩
        case measure => simp [intOf]; omega
      · have ha : above (l.drop k) l = false := by simpa using ha
        have t1 : decide (0 ≤ cmpL l (l.drop k)) = true := by rw [hca, ha]; rfl
        clear hca
        go_wp2_with (go_at_call 62; refine (Compare_any _ _ _ _ _ hv0 hA').mono ?_; rintro e w' ⟨rfl, rfl⟩)
        go_ret
        exact ⟨ret_bool (by rw [HM.out]; unfold lyndonFrom; rw [if_pos hk, if_neg (by simp [ha])]), rfl⟩
    · go_wp2
      go_ret
      exact ⟨ret_bool (by rw [HM.out]; cases f with | zero => rfl | succ f => (unfold lyndonFrom; rw [if_neg hk])), rfl⟩

end Words
end Go.Proofs.YtcngijafnnmccaaDoor
