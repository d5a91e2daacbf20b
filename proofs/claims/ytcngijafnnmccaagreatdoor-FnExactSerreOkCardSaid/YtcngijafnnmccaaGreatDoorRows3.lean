/- Rows of integers: one row is written; the laws' marks. -/
import Derived.Test.YtcngijafnnmccaaGreatDoorRows2
namespace Go.Proofs.YtcngijafnnmccaaGreatDoor
set_option maxRecDepth 100000
open Go.RowKit

/-- One row has been written: the others are as they were. -/
theorem RowsIn.set {w w' : World} {lo hi : Nat} {us : List Value} {ll : List (List Int)} (h : RowsIn w lo hi us ll) {j : Nat} {u : Value} {m : List Int} (hu : us[j]? = some u)
    (ho : Own w' lo u m) (hg : w.grownBy w' u.ownBlock) : RowsIn w' lo hi us (ll.set j m) := by
  have hjl : j < ll.length := by rw [← h.len]; exact (List.getElem?_eq_some_iff.1 hu).1
  refine ⟨by simp [h.len], fun i x l hx hl => ?_, h.apart⟩
  rw [List.getElem?_set] at hl
  by_cases e : j = i
  · subst e
    rw [if_pos rfl, if_pos hjl] at hl
    rw [hu] at hx
    simp only [Option.some.injEq] at hx hl
    subst hx; subst hl
    exact ⟨ho, (h.row j u _ hu (List.getElem?_eq_getElem hjl)).top⟩
  · rw [if_neg e] at hl
    have hr := h.row i x l hx hl
    refine ⟨World.ownsRow.kept hr.own hg ?_, hr.top⟩
    cases hv : x.ownBlock with
    | none => exact .inl rfl
    | some k => exact .inr fun e' => e (h.apart j i u x k hu hx e'.symm hv)
theorem owns_kept_row {w w' : World} {lo hi n : Nat} {v u : Value} {us : List Value} {l : List Int} (h : w.ownsRow lo 22 1 v n us) (hu : OwnIn w lo hi u l) (hg : w.grownBy w' u.ownBlock) : w'.ownsRow lo 22 1 v n us := by
  refine World.ownsRow.kept h hg ?_
  cases hv : v.ownBlock with
  | none => exact .inl rfl
  | some k => exact .inr fun e => ne_of_types h hu hv e.symm

theorem markRowsTo_set (k : Int) (ll : List (List Int)) (j : Nat) (h : j < ll.length) : (markRowsTo k ll j).set j (marks (k + total (ll.take j)) ll[j].length) = markRowsTo k ll (j + 1) := by
  apply List.ext_getElem?
  intro i
  rw [List.getElem?_set, markRowsTo_get k ll j i (by omega), markRowsTo_get k ll (j + 1) i (by omega), markRowsTo_len k ll j (by omega)]
  by_cases e : j = i
  · subst e
    rw [if_pos rfl, if_pos h, if_pos (by omega), markRows_get ll k j h]
  · rw [if_neg e]
    by_cases h1 : i < j
    · rw [if_pos h1, if_pos (by omega)]
    · rw [if_neg h1, if_neg (by omega)]

end Go.Proofs.YtcngijafnnmccaaGreatDoor
