/- The plain law of BracketText: where a Lyndon word is cut, both parts are Lyndon words; the text of a word. -/
import Derived.Test.YtcngijafnnmccaaDoorLynP
import Derived.Test.YtcngijafnnmccaaDoorCut
namespace Go.Proofs.YtcngijafnnmccaaDoor
set_option maxRecDepth 100000
open Go.RowKit
namespace Words

noncomputable def cutT (s : List Nat) : List Nat → Bool := List.rec (motive := fun _ => List Nat → Bool) (fun _ => true) (fun x xs ih p => Bool.rec (ih (p ++ [x])) (lynN p) (lynN (x :: xs))) s
noncomputable def cutOk (l : List Nat) : Bool := List.rec (motive := fun _ => Bool) true (fun x xs _ => cutT xs [x]) l
noncomputable def cutAll (ls : List (List Nat)) : Bool := List.rec (motive := fun _ => Bool) true (fun l _ ih => Bool.rec false ih (cutOk l)) ls

set_option maxHeartbeats 4000000 in
theorem cut_1 : ([1, 2, 3, 4, 5, 6, 7].all fun n => cutAll (genT [0, 1, 2, 3] n [] [])) = true := by decide +kernel
set_option maxHeartbeats 4000000 in
theorem cut_2 : cutAll (genT [0, 1, 2, 3] 8 [] []) = true := by decide +kernel

theorem cutAll_mem {l : List Nat} : ∀ {ls : List (List Nat)}, cutAll ls = true → l ∈ ls → cutOk l = true := by
  intro ls
  induction ls with
  | nil => intro _ h; exact absurd h (by simp)
  | cons x xs ih =>
    intro h hm
    have h1 : (Bool.rec false (cutAll xs) (cutOk x) : Bool) = true := h
    cases hc : cutOk x with
    | false => rw [hc] at h1; exact absurd h1 (by show ¬ false = true; decide)
    | true =>
      rw [hc] at h1
      rcases List.mem_cons.1 hm with rfl | hm
      · exact hc
      · exact ih h1 hm
theorem gen_mem (q : Nat) : ∀ (l p : List Nat), (∀ x, x ∈ l → x < q) → lynN (p ++ l) = true → p ++ l ∈ gen q l.length p := by
  intro l
  induction l with
  | nil =>
    intro p _ h
    rw [List.append_nil] at h ⊢
    show p ∈ gen q 0 p
    rw [gen_zero, if_pos h]; simp
  | cons x l ih =>
    intro p hb h
    show p ++ x :: l ∈ gen q (l.length + 1) p
    rw [gen_succ]
    have e : p ++ x :: l = (p ++ [x]) ++ l := by rw [List.append_assoc]; rfl
    have hx : x < q := hb x (by simp)
    refine List.mem_flatMap.2 ⟨x, ?_, ?_⟩
    · unfold lets
      exact List.mem_range'.2 ⟨x, by omega, by omega⟩
    · rw [e] at h ⊢
      exact ih (p ++ [x]) (fun y hy => hb y (by simp [hy])) h
theorem gen_cut {l : List Nat} (h1 : 1 ≤ l.length) (h8 : l.length ≤ 8) (hb : ∀ x, x ∈ l → x < 4) (hl : lynN l = true) : cutOk l = true := by
  have hm := gen_mem 4 l [] hb hl
  rw [List.nil_append] at hm
  have h7 := List.all_eq_true.1 cut_1
  by_cases h : l.length = 8
  · rw [h] at hm
    exact cutAll_mem cut_2 hm
  · have := h7 l.length (by
      have : l.length = 1 ∨ l.length = 2 ∨ l.length = 3 ∨ l.length = 4 ∨ l.length = 5 ∨ l.length = 6 ∨ l.length = 7 := by omega
      rcases this with e | e | e | e | e | e | e <;> rw [e] <;> simp)
    exact cutAll_mem this hm
theorem cutT_eq (l : List Nat) : ∀ (s p : List Nat) (f : Nat), l = p ++ s → s ≠ [] → s.length ≤ f → cutT s p = true → lyndon ((l.map Int.ofNat).take (cutFromK (l.map Int.ofNat) f p.length)) = true := by
  intro s
  induction s with
  | nil => intro p f _ h; exact absurd rfl h
  | cons x xs ih =>
    intro p f hl _ hf h
    obtain ⟨f, rfl⟩ : ∃ g, f = g + 1 := ⟨f - 1, by simp at hf; omega⟩
    have hpl : (p.map Int.ofNat).length = p.length := List.length_map ..
    have hd : (l.map Int.ofNat).drop p.length = (x :: xs).map Int.ofNat := by
      rw [hl, List.map_append, ← hpl, List.drop_left]
    have h1 : (Bool.rec (cutT xs (p ++ [x])) (lynN p) (lynN (x :: xs)) : Bool) = true := h
    unfold cutFromK
    rw [hd, ← lynN_eq]
    cases hc : lynN (x :: xs) with
    | true =>
      rw [hc] at h1
      have h2 : lynN p = true := h1
      rw [if_pos rfl, hl, List.map_append, ← hpl, List.take_left, ← lynN_eq]
      exact h2
    | false =>
      rw [hc] at h1
      have h2 : cutT xs (p ++ [x]) = true := h1
      rw [if_neg (by decide)]
      have hne : xs ≠ [] := by
        intro e
        have h9 : lynN [x] = true := by rw [lynN_eq]; exact lyndon_short _ (by simp)
        rw [e, h9] at hc
        exact absurd hc (by decide)
      have := ih (p ++ [x]) f (by rw [hl, List.append_assoc]; rfl) hne (by simp at hf; omega) h2
      rw [List.length_append] at this
      exact this
/-- A word as letters below four. -/
theorem word_nat {l : List Int} (hw : letters l = true) : ∃ ln : List Nat, l = ln.map Int.ofNat ∧ ∀ x, x ∈ ln → x < 4 := by
  induction l with
  | nil => exact ⟨[], rfl, fun x h => absurd h (by simp)⟩
  | cons x l ih =>
    have h1 : (inR x 0 3 && letters l) = true := hw
    rw [Bool.and_eq_true] at h1
    obtain ⟨ln, e, hb⟩ := ih h1.2
    have h2 := h1.1
    simp [inR] at h2
    refine ⟨x.toNat :: ln, ?_, ?_⟩
    · rw [List.map_cons, ← e]
      congr 1
      show x = ((x.toNat : Nat) : Int)
      omega
    · intro y hy
      rcases List.mem_cons.1 hy with rfl | hy
      · omega
      · exact hb y hy
theorem letters_take {l : List Int} (h : letters l = true) (k : Nat) : letters (l.take k) = true := by
  unfold letters at h ⊢
  rw [List.all_eq_true] at h ⊢
  exact fun x hx => h x (List.mem_of_mem_take hx)
theorem letters_drop' {l : List Int} (h : letters l = true) (k : Nat) : letters (l.drop k) = true := by
  unfold letters at h ⊢
  rw [List.all_eq_true] at h ⊢
  exact fun x hx => h x (List.mem_of_mem_drop hx)
theorem cutFromK_lyn (l : List Int) : ∀ (f k : Nat), k < l.length → l.length ≤ f + k → lyndon (l.drop (cutFromK l f k)) = true := by
  intro f
  induction f with
  | zero => intro k h1 h2; omega
  | succ f ih =>
    intro k h1 h2
    unfold cutFromK
    by_cases hl : lyndon (l.drop k) = true
    · rw [if_pos hl]; exact hl
    · rw [if_neg hl]
      have h3 : k + 1 < l.length := by
        rcases Nat.lt_or_ge (k + 1) l.length with h | h
        · exact h
        · exact absurd (lyndon_last l k h) hl
      exact ih (k + 1) h3 (by omega)
/-- Both parts of a Lyndon word are Lyndon words. -/
theorem cut_lyn {l : List Int} (h2 : 2 ≤ l.length) (hl : isLyn l = true) : isLyn (l.take (cutPlace l)) = true ∧ isLyn (l.drop (cutPlace l)) = true := by
  have h0 := hl
  unfold isLyn word at h0
  rw [Bool.and_eq_true, Bool.and_eq_true] at h0
  obtain ⟨⟨hn, hw⟩, hly⟩ := h0
  simp [inR] at hn
  obtain ⟨hc1, hc2⟩ := cutPlace_bd l h2
  obtain ⟨ln, e, hb⟩ := word_nat hw
  have hll : ln.length = l.length := by rw [e, List.length_map]
  have hlyn : lynN ln = true := by rw [lynN_eq, ← e]; exact hly
  have hok := gen_cut (by omega) (by omega) hb hlyn
  constructor
  · unfold isLyn word
    rw [Bool.and_eq_true, Bool.and_eq_true]
    refine ⟨⟨?_, letters_take hw _⟩, ?_⟩
    · simp [inR]; omega
    · cases hs : ln with
      | nil => rw [hs] at hll; simp at hll; omega
      | cons x xs =>
        rw [hs] at hok
        have h5 : cutT xs [x] = true := hok
        have h6 := cutT_eq ln xs [x] l.length (by rw [hs]; rfl) (by intro e2; rw [hs, e2] at hll; simp at hll; omega) (by rw [hs] at hll; simp at hll; omega) h5
        rw [← e] at h6
        exact h6
  · unfold isLyn word
    rw [Bool.and_eq_true, Bool.and_eq_true]
    refine ⟨⟨?_, letters_drop' hw _⟩, cutFromK_lyn l l.length 1 (by omega) (by omega)⟩
    simp [inR]; omega

/-- The text of a word: its digit, or its two parts in brackets. -/
def brk : Nat → List Int → List UInt8
  | 0, _ => []
  | f + 1, l => if l.length = 1 then [UInt8.ofNat (48 + (l.headD 0).toNat)] else [91] ++ brk f (l.take (cutPlace l)) ++ [44] ++ brk f (l.drop (cutPlace l)) ++ [93]
theorem brk_fuel : ∀ (f g : Nat) (l : List Int), 1 ≤ l.length → l.length ≤ f → l.length ≤ g → brk f l = brk g l := by
  intro f
  induction f with
  | zero => intro g l h1 h2; omega
  | succ f ih =>
    intro g l h1 h2 h3
    obtain ⟨g, rfl⟩ : ∃ k, g = k + 1 := ⟨g - 1, by omega⟩
    unfold brk
    by_cases h : l.length = 1
    · rw [if_pos h, if_pos h]
    · rw [if_neg h, if_neg h]
      obtain ⟨hc1, hc2⟩ := cutPlace_bd l (by omega)
      rw [ih g (l.take _) (by rw [List.length_take]; omega) (by rw [List.length_take]; omega) (by rw [List.length_take]; omega), ih g (l.drop _) (by rw [List.length_drop]; omega) (by rw [List.length_drop]; omega) (by rw [List.length_drop]; omega)]
theorem brk_len : ∀ (f : Nat) (l : List Int), 1 ≤ l.length → (brk f l).length + 3 ≤ 4 * l.length := by
  intro f
  induction f with
  | zero => intro l h; show 0 + 3 ≤ _; omega
  | succ f ih =>
    intro l h1
    unfold brk
    by_cases h : l.length = 1
    · rw [if_pos h]; simp; omega
    · rw [if_neg h]
      obtain ⟨hc1, hc2⟩ := cutPlace_bd l (by omega)
      have a := ih (l.take (cutPlace l)) (by rw [List.length_take]; omega)
      have b := ih (l.drop (cutPlace l)) (by rw [List.length_drop]; omega)
      rw [List.length_take] at a
      rw [List.length_drop] at b
      simp only [List.length_append, List.length_cons, List.length_nil]
      omega

end Words
end Go.Proofs.YtcngijafnnmccaaDoor
