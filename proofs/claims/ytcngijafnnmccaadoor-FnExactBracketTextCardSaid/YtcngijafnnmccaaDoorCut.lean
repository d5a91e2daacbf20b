/- Where a Lyndon word is cut in two. -/
import Derived.Test.YtcngijafnnmccaaDoorLyndon
import Derived.Test.YtcngijafnnmccaaDoorSmall0
import Derived.Deep.RegionWith
namespace Go.Proofs.YtcngijafnnmccaaDoor
set_option maxRecDepth 100000
open Go.RowKit
namespace Words

/-- Where the first end from k on begins that is a Lyndon word. -/
def cutFromK (l : List Int) : Nat → Nat → Nat
  | 0, k => k
  | f + 1, k => if lyndon (l.drop k) then k else cutFromK l f (k + 1)
def cutPlace (l : List Int) : Nat := cutFromK l l.length 1
theorem lyndon_short (l : List Int) (h : l.length ≤ 1) : lyndon l = true := by
  match l, h with
  | [], _ => rfl
  | [x], _ => rfl
theorem lyndon_last (l : List Int) (k : Nat) (h : l.length ≤ k + 1) : lyndon (l.drop k) = true := lyndon_short _ (by simp; omega)
theorem cutFromK_bd (l : List Int) : ∀ (f k : Nat), k < l.length → l.length ≤ f + k → k ≤ cutFromK l f k ∧ cutFromK l f k < l.length := by
  intro f
  induction f with
  | zero => intro k h1 h2; omega
  | succ f ih =>
    intro k h1 h2
    unfold cutFromK
    by_cases hl : lyndon (l.drop k) = true
    · rw [if_pos hl]; omega
    · rw [if_neg hl]
      have h3 : k + 1 < l.length := by
        rcases Nat.lt_or_ge (k + 1) l.length with h | h
        · exact h
        · exact absurd (lyndon_last l k h) hl
      have := ih (k + 1) h3 (by omega)
      omega
theorem cutPlace_bd (l : List Int) (h : 2 ≤ l.length) : 1 ≤ cutPlace l ∧ cutPlace l < l.length := cutFromK_bd l l.length 1 (by omega) (by omega)

/-- Two new slices are returned. -/
def RetOwn2 (w : World) (l m : List Int) (e : Ending) (w' : World) : Prop :=
  ∃ u v, e = .returned (.tuple #[u, v]) ∧ ∃ mid, OwnIn w' w.heap.size mid u l ∧ OwnIn w' mid w'.heap.size v m ∧ Below w.heap.size w w' ∧ w.heap.size ≤ mid ∧ mid ≤ w'.heap.size

set_option maxHeartbeats 400000 in
theorem cutAt_any (v : Value) (l : List Int) (w : World) (hv : Ints w v l) (hl : 2 ≤ l.length) (hl' : l.length ≤ 1048576) :
    Calls Tryd.prog 36 #[v] w fun e w' => e = .returned (.int .i64 (cutPlace l : Nat)) ∧ w = w' := by
  have hv0 := hv
  obtain ⟨A, c, rfl, h1, h2, h3⟩ := hv
  obtain ⟨R, hR⟩ : ∃ R, R = cutPlace l := ⟨_, rfl⟩
  rw [← hR]
  have HR := Lib.hid hR
  clear hR h3
  go_enter Tryd.func36, Tryd.ntmps36
  go_wp2
  go_loop [3] (fun vi => ∃ (k f : Nat), vi = .int .i64 k ∧ 1 ≤ k ∧ k < l.length ∧ l.length ≤ f + k ∧ Hid (R = cutFromK l f k)) (fun vi => l.length - (intOf vi).toNat)
  case atStart => exact ⟨1, l.length, rfl, by omega, by omega, by omega, HR⟩
  case round =>
    obtain ⟨k, f, rfl, a1, a2, a3, HM⟩ := hrel
    obtain ⟨f, rfl⟩ : ∃ g, f = g + 1 := ⟨f - 1, by omega⟩
    obtain ⟨A', hrun, hA'⟩ := cutFrom hv0 k (by omega)
    by_cases hly : lyndon (l.drop k) = true
    · go_wp2_with (go_at_call 34; refine (isLyndonI_any _ _ _ hA').mono ?_; rintro e w' ⟨rfl, rfl⟩)
      go_ret
      exact ⟨ret_int (by rw [HM.out]; unfold cutFromK; rw [if_pos hly]), rfl⟩
    · have h3 : k + 1 < l.length := by
        rcases Nat.lt_or_ge (k + 1) l.length with h | h
        · exact h
        · exact absurd (lyndon_last l k h) hly
      have hly : lyndon (l.drop k) = false := by simpa using hly
      go_wp2_with (go_at_call 34; refine (isLyndonI_any _ _ _ hA').mono ?_; rintro e w' ⟨rfl, rfl⟩)
      go_round
      case rel => exact ⟨k + 1, f, by go_num, by omega, by omega, by omega, by have := HM.out; unfold cutFromK at this; rw [if_neg (by simp [hly])] at this; exact this⟩
      case measure => simp [intOf]; omega

set_option maxHeartbeats 400000 in
theorem l11Cut_any (v : Value) (l : List Int) (w : World) (hv : Ints w v l) (hl : 2 ≤ l.length) (hl' : l.length ≤ 1048576) :
    Calls Tryd.prog 59 #[v] w (RetOwn2 w (l.take (cutPlace l)) (l.drop (cutPlace l))) := by
  have hv0 := hv
  obtain ⟨A, c, rfl, h1, h2, h3⟩ := hv
  obtain ⟨R, hR⟩ : ∃ R, R = cutPlace l := ⟨_, rfl⟩
  rw [← hR]
  have HR := Lib.hid hR
  clear hR h3
  go_enter Tryd.func59, Tryd.ntmps59
  go_wp2
  go_loopw [4] (fun vi wr => ∃ (k f m : Nat), vi = .int .i64 k ∧ 1 ≤ k ∧ k < l.length ∧ l.length ≤ f + k ∧ wr = w.drewN m ∧ Hid (R = cutFromK l f k)) (fun vi _ => l.length - (intOf vi).toNat)
  case atStart => exact ⟨1, l.length, 0, rfl, by omega, by omega, by omega, rfl, HR⟩
  case round =>
    obtain ⟨k, f, m, rfl, a1, a2, a3, rfl, HM⟩ := hrel
    obtain ⟨f, rfl⟩ : ∃ g, f = g + 1 := ⟨f - 1, by omega⟩
    obtain ⟨A', hrun, hA'⟩ := cutFrom hv0 k (by omega)
    by_cases hly : lyndon (l.drop k) = true
    · obtain ⟨hrun2, hA2⟩ := cutTo hv0 k (by omega)
      have hR : R = k := by rw [HM.out]; unfold cutFromK; rw [if_pos hly]
      clear HM HR
      subst hR
      go_wp2_with (go_at_call 57; refine (l11Lyndon_any _ _ _ (hA'.drewN m)).mono ?_; rintro e w' ⟨rfl, n1, rfl⟩)
      go_region_with (first
        | (go_at_call_of 74 (Value.slice A R c); refine (l1Ints_any _ (l.take R) _ ?_ (by simp; omega)).mono ?_; exact hA2; rintro e w1 ⟨u1, rfl, ho1, hb1⟩)
        | (go_at_call 74; refine (l1Ints_any _ (l.drop R) _ ?_ (by simp; omega)).mono ?_; exact Ints.below (hb := hb1) (by exact hA'); rintro e w2 ⟨u2, rfl, ho2, hb2⟩))
      go_wp2
      go_ret2
      exact ⟨_, _, rfl, w1.heap.size, (Own.toIn ho1).below hb2 (Nat.le_refl _), Own.toIn ho2, Below.trans (b := w1) ⟨hb1.os, hb1.tape, hb1.output, hb1.size, hb1.block⟩ (hb2.mono hb1.size), hb1.size, hb2.size⟩
    · have h3 : k + 1 < l.length := by
        rcases Nat.lt_or_ge (k + 1) l.length with h | h
        · exact h
        · exact absurd (lyndon_last l k h) hly
      have hly : lyndon (l.drop k) = false := by simpa using hly
      go_wp2_with (go_at_call 57; refine (l11Lyndon_any _ _ _ (hA'.drewN m)).mono ?_; rintro e w' ⟨rfl, n1, rfl⟩)
      go_roundw
      case rel => exact ⟨k + 1, f, m + n1, by go_num, by omega, by omega, by omega, by simp, by have := HM.out; unfold cutFromK at this; rw [if_neg (by simp [hly])] at this; exact this⟩
      case measure => simp [intOf]; omega

theorem RetOwn2.nils (w : World) : RetOwn2 w [] [] (.returned (.tuple #[.slice none 0 0, .slice none 0 0])) w :=
  ⟨_, _, rfl, w.heap.size, ⟨⟨by simp, .inl ⟨rfl, rfl⟩⟩, by simp [Value.ownBlock]⟩, ⟨⟨by simp, .inl ⟨rfl, rfl⟩⟩, by simp [Value.ownBlock]⟩, Below.refl _ _, Nat.le_refl _, Nat.le_refl _⟩
theorem RetOwn2.later {w : World} {n : Nat} {l m : List Int} {e : Ending} {w' : World} (h : RetOwn2 (w.drewN n) l m e w') : RetOwn2 w l m e w' := by
  obtain ⟨u, v, he, mid, h1, h2, hb, h3⟩ := h
  exact ⟨u, v, he, mid, h1, h2, ⟨hb.os, hb.tape, hb.output, hb.size, hb.block⟩, h3⟩

def cutL (l : List Int) : List Int := if isLyn l && decide (2 ≤ l.length) then l.take (cutPlace l) else []
def cutR (l : List Int) : List Int := if isLyn l && decide (2 ≤ l.length) then l.drop (cutPlace l) else []
theorem len_of_word {l : List Int} (h : isLyn l = true) : l.length ≤ 8 := by
  simp [isLyn, word, inR] at h; omega

theorem cutL_len (l : List Int) : (cutL l).length ≤ 8 := by
  unfold cutL
  split
  · next h => simp at h; have := len_of_word h.1; simp; omega
  · simp
theorem cutR_len (l : List Int) : (cutR l).length ≤ 8 := by
  unfold cutR
  split
  · next h => simp at h; have := len_of_word h.1; simp; omega
  · simp
end Words
end Go.Proofs.YtcngijafnnmccaaDoor
