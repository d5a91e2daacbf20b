/- Cartan matrices, the plain law: a matrix whose rows can be put into the order of a known one is one whose parts are known. -/
import Derived.Test.YtcngijafnnmccaaGreatDoorBase
namespace Go.Proofs.YtcngijafnnmccaaGreatDoor
set_option maxRecDepth 100000
namespace Car

/-- The ranks and the matrices of the parts, in the order of their names. -/
def rk (k : Nat) : Nat := [1, 2, 3, 4, 2, 3, 4, 3, 4, 4, 4, 2].getD k 0
def mx (k : Nat) : List Int := ([[2], [2, -1, -1, 2], [2, -1, 0, -1, 2, -1, 0, -1, 2], [2, -1, 0, 0, -1, 2, -1, 0, 0, -1, 2, -1, 0, 0, -1, 2],
  [2, -1, -2, 2], [2, -1, 0, -1, 2, -1, 0, -2, 2], [2, -1, 0, 0, -1, 2, -1, 0, 0, -1, 2, -1, 0, 0, -2, 2],
  [2, -1, 0, -1, 2, -2, 0, -1, 2], [2, -1, 0, 0, -1, 2, -1, 0, 0, -1, 2, -2, 0, 0, -1, 2],
  [2, -1, 0, 0, -1, 2, -1, -1, 0, -1, 2, 0, 0, -1, 0, 2], [2, -1, 0, 0, -1, 2, -1, 0, 0, -2, 2, -1, 0, 0, -1, 2], [2, -3, -1, 2]] : List (List Int)).getD k []
def en (n : Nat) (D : List Int) (i j : Nat) : Int := D.getD (i * n + j) 0

/-- May x come next? -/
def ok (n : Nat) (D : List Int) (m : Nat) (E : List Int) (used : List Nat) (x : Nat) : Bool :=
  !used.contains x && (en n D x x == en m E used.length used.length) && (List.range used.length).all fun j => en n D x (used.getD j 0) == en m E used.length j && en n D (used.getD j 0) x == en m E j used.length
/-- The search for an order. -/
def bt (n : Nat) (D : List Int) (m : Nat) (E : List Int) (rows : List Nat) : Nat → List Nat → Bool
  | 0, _ => true
  | f + 1, used => rows.any fun x => ok n D m E used x && bt n D m E rows f (used ++ [x])
def Fit (n : Nat) (D : List Int) (m : Nat) (E : List Int) (rows o : List Nat) : Prop :=
  o.length = m ∧ (∀ x, x ∈ o → x ∈ rows) ∧ o.Nodup ∧ ∀ a b, a < m → b < m → en n D (o.getD a 0) (o.getD b 0) = en m E a b

/-- An order as it is built up. -/
def Ext (n : Nat) (D : List Int) (m : Nat) (E : List Int) (rows used o : List Nat) : Prop :=
  ∃ t, o = used ++ t ∧ ∀ k (h : k < t.length), t[k] ∈ rows ∧ ok n D m E (used ++ t.take k) t[k] = true
theorem bt_iff' (n : Nat) (D : List Int) (m : Nat) (E : List Int) (rows : List Nat) : ∀ (f : Nat) (used : List Nat), bt n D m E rows f used = true ↔ ∃ o, o.length = used.length + f ∧ Ext n D m E rows used o := by
  intro f
  induction f with
  | zero =>
    intro used
    refine ⟨fun _ => ⟨used, by simp, [], by simp, fun k h => absurd h (by simp)⟩, fun _ => rfl⟩
  | succ f ih =>
    intro used
    unfold bt
    rw [List.any_eq_true]
    constructor
    · rintro ⟨x, hx, h⟩
      rw [Bool.and_eq_true] at h
      obtain ⟨o, hl, t, ht, hk⟩ := (ih _).1 h.2
      refine ⟨o, by rw [List.length_append] at hl; simp at hl; omega, x :: t, by rw [ht]; simp, ?_⟩
      intro k hk'
      cases k with
      | zero => exact ⟨hx, by simpa using h.1⟩
      | succ k =>
        have h2 := hk k (by simpa using hk')
        refine ⟨h2.1, ?_⟩
        have h3 := h2.2
        rw [List.append_assoc] at h3
        simpa using h3
    · rintro ⟨o, hl, t, ht, hk⟩
      have hlt : t.length = f + 1 := by rw [ht, List.length_append] at hl; omega
      cases t with
      | nil => simp at hlt
      | cons x t =>
        have h0 := hk 0 (by simp)
        refine ⟨x, by simpa using h0.1, ?_⟩
        rw [Bool.and_eq_true]
        refine ⟨by simpa using h0.2, (ih _).2 ⟨o, by rw [List.length_append]; simp; omega, t, by rw [ht]; simp, ?_⟩⟩
        intro k hk'
        have h2 := hk (k + 1) (by simpa using hk')
        refine ⟨by simpa using h2.1, ?_⟩
        have h3 := h2.2
        rw [List.append_assoc]
        simpa using h3
theorem ok_iff (n : Nat) (D : List Int) (m : Nat) (E : List Int) (used : List Nat) (x : Nat) : ok n D m E used x = true ↔ x ∉ used ∧ en n D x x = en m E used.length used.length ∧ ∀ j, j < used.length → en n D x (used.getD j 0) = en m E used.length j ∧ en n D (used.getD j 0) x = en m E j used.length := by
  unfold ok
  simp only [Bool.and_eq_true, Bool.not_eq_true', List.all_eq_true, List.mem_range, beq_iff_eq, and_assoc]
  constructor
  · rintro ⟨h1, h2, h3⟩
    exact ⟨by simpa using h1, h2, h3⟩
  · rintro ⟨h1, h2, h3⟩
    exact ⟨by simpa using h1, h2, h3⟩
theorem bt_iff (n : Nat) (D : List Int) (m : Nat) (E : List Int) (rows : List Nat) : bt n D m E rows m [] = true ↔ ∃ o, Fit n D m E rows o := by
  rw [bt_iff']
  constructor
  · rintro ⟨o, hl, t, ht, hk⟩
    rw [List.nil_append] at ht
    rw [ht] at hl
    clear ht
    simp only [List.length_nil, Nat.zero_add] at hl
    have hk' : ∀ k (h : k < t.length), t[k] ∈ rows ∧ t[k] ∉ t.take k ∧ en n D t[k] t[k] = en m E k k ∧ ∀ j, j < k → en n D t[k] (t.getD j 0) = en m E k j ∧ en n D (t.getD j 0) t[k] = en m E j k := by
      intro k h
      obtain ⟨h1, h2⟩ := hk k h
      rw [List.nil_append, ok_iff, List.length_take, Nat.min_eq_left (by omega)] at h2
      refine ⟨h1, h2.1, h2.2.1, fun j hj => ?_⟩
      have h3 := h2.2.2 j hj
      have e : (t.take k).getD j 0 = t.getD j 0 := by
        simp only [List.getD]; rw [List.getElem?_take_of_lt hj]
      rwa [e] at h3
    refine ⟨t, hl, ?_, ?_, ?_⟩
    · intro x hx
      obtain ⟨k, h, rfl⟩ := List.getElem_of_mem hx
      exact (hk' k h).1
    · rw [List.nodup_iff_pairwise_ne, List.pairwise_iff_getElem]
      intro i j hi hj hij e
      refine (hk' j hj).2.1 ?_
      rw [← e]
      exact List.mem_take_iff_getElem.2 ⟨i, by omega, rfl⟩
    · intro a b ha hb
      have ga : t.getD a 0 = t[a] := by simp [List.getD, List.getElem?_eq_getElem (show a < t.length by omega)]
      have gb : t.getD b 0 = t[b] := by simp [List.getD, List.getElem?_eq_getElem (show b < t.length by omega)]
      rcases Nat.lt_trichotomy a b with h | h | h
      · rw [gb]; exact ((hk' b (by omega)).2.2.2 a h).2
      · subst h; rw [ga]; exact (hk' a (by omega)).2.2.1
      · rw [ga]; exact ((hk' a (by omega)).2.2.2 b h).1
  · rintro ⟨o, hl, hr, hn, he⟩
    refine ⟨o, by simpa using hl, o, rfl, ?_⟩
    intro k h
    refine ⟨hr _ (List.getElem_mem h), ?_⟩
    have ga : ∀ a (h : a < o.length), o.getD a 0 = o[a] := fun a h => by simp [List.getD, List.getElem?_eq_getElem h]
    rw [List.nil_append, ok_iff, List.length_take, Nat.min_eq_left (by omega)]
    refine ⟨?_, by rw [← ga k h]; exact he k k (by omega) (by omega), fun j hj => ?_⟩
    · intro hm
      obtain ⟨i, hi, e⟩ := List.mem_take_iff_getElem.1 hm
      have hi' : i < o.length := by omega
      have := (List.nodup_iff_pairwise_ne.1 hn)
      rw [List.pairwise_iff_getElem] at this
      exact this i k hi' h (by omega) e
    · have e : (o.take k).getD j 0 = o.getD j 0 := by
        simp only [List.getD]; rw [List.getElem?_take_of_lt hj]
      rw [e, ← ga k h]
      exact ⟨he k j (by omega) (by omega), he j k (by omega) (by omega)⟩

end Car
end Go.Proofs.YtcngijafnnmccaaGreatDoor
