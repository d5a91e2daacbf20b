/- A list of a function's values, and a list while it is filled in place. -/
import Derived.Test.YtcngijafnnmccaaGreatDoorBase
namespace Go.Proofs.YtcngijafnnmccaaGreatDoor
set_option maxRecDepth 100000
open Go.RowKit
namespace Stp

/-- The list of f's values. -/
def mapI (n : Nat) (f : Nat → Int) : List Int := (List.range n).map f
theorem length_mapI (n : Nat) (f : Nat → Int) : (mapI n f).length = n := by simp [mapI]
theorem vec_mapI (n : Nat) (f : Nat → Int) {i : Nat} (h : i < n) : vec (mapI n f) i = f i := by
  unfold mapI vec
  rw [List.getD_eq_getElem?_getD, List.getElem?_map, List.getElem?_range h]
  rfl
theorem mapI_congr {n : Nat} {f g : Nat → Int} (h : ∀ i, i < n → f i = g i) : mapI n f = mapI n g := by
  unfold mapI
  apply List.map_congr_left
  intro i hi
  exact h i (List.mem_range.1 hi)
/-- A list whose first k places are new. -/
def fillTo (f : Nat → Int) (X : List Int) (k : Nat) : List Int := mapI X.length fun i => if i < k then f i else vec X i
theorem length_fillTo (f : Nat → Int) (X : List Int) (k : Nat) : (fillTo f X k).length = X.length := length_mapI _ _
theorem mapI_vec (X : List Int) : mapI X.length (vec X) = X := by
  apply List.ext_getElem?
  intro i
  unfold mapI vec
  rw [List.getElem?_map]
  by_cases h : i < X.length
  · rw [List.getElem?_range h, List.getElem?_eq_getElem h]
    simp [List.getD, List.getElem?_eq_getElem h]
  · rw [List.getElem?_eq_none (by simp; omega), List.getElem?_eq_none (by omega)]
    rfl
theorem fillTo_zero (f : Nat → Int) (X : List Int) : fillTo f X 0 = X := by
  unfold fillTo
  rw [mapI_congr (g := vec X) (fun i _ => if_neg (by omega)), mapI_vec]
theorem fillTo_end (f : Nat → Int) (X : List Int) : fillTo f X X.length = mapI X.length f := by
  unfold fillTo
  exact mapI_congr fun i h => if_pos h
theorem vec_fillTo (f : Nat → Int) (X : List Int) (k : Nat) (h : k < X.length) : vec (fillTo f X k) k = vec X k := by
  unfold fillTo
  rw [vec_mapI _ _ h, if_neg (by omega)]
theorem fillTo_set (f : Nat → Int) (X : List Int) (k : Nat) (h : k < X.length) : (fillTo f X k).set k (f k) = fillTo f X (k + 1) := by
  apply List.ext_getElem?
  intro i
  rw [List.getElem?_set, length_fillTo]
  unfold fillTo mapI
  by_cases e : k = i
  · subst e
    rw [if_pos rfl, if_pos h, List.getElem?_map, List.getElem?_range h]
    simp
  · rw [if_neg e, List.getElem?_map, List.getElem?_map]
    by_cases hi : i < X.length
    · rw [List.getElem?_range hi]
      simp only [Option.map_some, Option.some.injEq]
      by_cases h1 : i < k
      · rw [if_pos h1, if_pos (by omega)]
      · rw [if_neg h1, if_neg (by omega)]
    · rw [List.getElem?_eq_none (by simp; omega)]
      rfl

end Stp
end Go.Proofs.YtcngijafnnmccaaGreatDoor
