/- Lyndon words in the order of a lexicon: the list of the words that a counter comes to, and the run of the next words, which is checked in the kernel for all letters and lengths. -/
import Derived.Test.YtcngijafnnmccaaDoorWords
namespace Go.Proofs.YtcngijafnnmccaaDoor
set_option maxRecDepth 100000
open Go.RowKit
namespace Words

/-- A word of small letters, by recursors alone: the kernel computes these quickly. -/
noncomputable def aboveN (l : List Nat) : List Nat → Bool := List.rec (motive := fun _ => List Nat → Bool) (fun _ => false) (fun x _ ih m => List.rec (motive := fun _ => Bool) true (fun y ys _ => Bool.rec (Nat.blt y x) (ih ys) (Nat.beq x y)) m) l
noncomputable def lynT (l : List Nat) (s : List Nat) : Bool := List.rec (motive := fun _ => Bool) true (fun x xs ih => Bool.rec false ih (aboveN (x :: xs) l)) s
noncomputable def lynN (l : List Nat) : Bool := List.rec (motive := fun _ => Bool) true (fun x xs _ => lynT (x :: xs) xs) l
noncomputable def nxt (top : Nat) (l : List Nat) : List Nat := List.rec (motive := fun _ => List Nat) [] (fun x _ ih => List.rec (motive := fun _ => List Nat) (Bool.rec [Nat.succ x] [] (Nat.beq x top)) (fun y ys _ => x :: y :: ys) ih) l
noncomputable def rep (w : List Nat) (n : Nat) : List Nat → List Nat := Nat.rec (motive := fun _ => List Nat → List Nat) (fun _ => []) (fun _ ih s => List.rec (motive := fun _ => List Nat) (List.rec (motive := fun _ => List Nat) [] (fun x xs _ => x :: ih xs) w) (fun x xs _ => x :: ih xs) s) n
noncomputable def eqN (l : List Nat) : List Nat → Bool := List.rec (motive := fun _ => List Nat → Bool) (fun m => List.rec (motive := fun _ => Bool) true (fun _ _ _ => false) m) (fun x _ ih m => List.rec (motive := fun _ => Bool) false (fun y ys _ => Bool.rec false (ih ys) (Nat.beq x y)) m) l
noncomputable def lenIs (n : Nat) : List Nat → Bool := Nat.rec (motive := fun _ => List Nat → Bool) (fun l => List.rec (motive := fun _ => Bool) true (fun _ _ _ => false) l) (fun _ ih l => List.rec (motive := fun _ => Bool) false (fun _ xs _ => ih xs) l) n
noncomputable def genT (letters : List Nat) (m : Nat) : List Nat → List (List Nat) → List (List Nat) :=
  Nat.rec (motive := fun _ => List Nat → List (List Nat) → List (List Nat)) (fun p acc => Bool.rec acc (p :: acc) (lynN p)) (fun _ ih p acc => List.rec (motive := fun _ => List (List Nat)) acc (fun b _ r => ih (p ++ [b]) r) letters) m
noncomputable def chk (top : Nat) (n : Nat) (f : Nat) : List Nat → List (List Nat) → Bool :=
  Nat.rec (motive := fun _ => List Nat → List (List Nat) → Bool) (fun _ _ => false)
   (fun _ ih w ex => List.rec (motive := fun _ => Bool) (List.rec (motive := fun _ => Bool) true (fun _ _ _ => false) ex)
     (fun x xs _ => Bool.rec (ih (nxt top (rep (x :: xs) n (x :: xs))) ex) (List.rec (motive := fun _ => Bool) false (fun e es _ => Bool.rec false (ih (nxt top (rep (x :: xs) n (x :: xs))) es) (eqN (x :: xs) e)) ex) (lenIs n (x :: xs))) w) f

/-- The letters of an alphabet that begin at some letter. -/
def lets (q b : Nat) : List Nat := List.range' b (q - b)
/-- All Lyndon words of a length that begin so, in the order of a lexicon. -/
noncomputable def gen (q m : Nat) (p : List Nat) : List (List Nat) := genT (lets q 0) m p []
/-- Those from a word on. -/
noncomputable def frm (q : Nat) : List Nat → List Nat → List (List Nat)
  | p, [] => if lynN p then [p] else []
  | p, x :: xs => frm q (p ++ [x]) xs ++ (lets q (x + 1)).flatMap fun b => gen q xs.length (p ++ [b])

theorem genT_succ (ls : List Nat) (m : Nat) (p : List Nat) (acc : List (List Nat)) : genT ls (m + 1) p acc = ls.foldr (fun b r => genT ls m (p ++ [b]) r) acc := by
  have h : ∀ l : List Nat, (List.rec (motive := fun _ => List (List Nat)) acc (fun b _ r => genT ls m (p ++ [b]) r) l : List (List Nat)) = l.foldr (fun b r => genT ls m (p ++ [b]) r) acc := by
    intro l
    induction l with
    | nil => rfl
    | cons b l ih => exact congrArg (genT ls m (p ++ [b])) ih
  exact h ls
theorem genT_acc (ls : List Nat) (m : Nat) : ∀ (p : List Nat) (acc : List (List Nat)), genT ls m p acc = genT ls m p [] ++ acc := by
  induction m with
  | zero => intro p acc; show (Bool.rec acc (p :: acc) (lynN p) : List (List Nat)) = (Bool.rec [] [p] (lynN p) : List (List Nat)) ++ acc; cases lynN p <;> rfl
  | succ m ih =>
    intro p acc
    have h : ∀ (l : List Nat) (acc : List (List Nat)), l.foldr (fun b r => genT ls m (p ++ [b]) r) acc = l.foldr (fun b r => genT ls m (p ++ [b]) r) [] ++ acc := by
      intro l acc
      induction l with
      | nil => rfl
      | cons b l ihl =>
        show genT ls m (p ++ [b]) (l.foldr (fun b r => genT ls m (p ++ [b]) r) acc) = genT ls m (p ++ [b]) (l.foldr (fun b r => genT ls m (p ++ [b]) r) []) ++ acc
        rw [ihl]
        exact (ih _ _).trans ((List.append_assoc _ _ _).symm.trans (congrArg (· ++ acc) (ih _ _).symm))
    rw [genT_succ, genT_succ]
    exact h ls acc
theorem gen_zero (q : Nat) (p : List Nat) : gen q 0 p = if lynN p then [p] else [] := by
  show (Bool.rec [] [p] (lynN p) : List (List Nat)) = _
  cases lynN p <;> rfl
theorem gen_succ (q m : Nat) (p : List Nat) : gen q (m + 1) p = (lets q 0).flatMap fun b => gen q m (p ++ [b]) := by
  have h : ∀ l : List Nat, l.foldr (fun b r => genT (lets q 0) m (p ++ [b]) r) [] = l.flatMap fun b => gen q m (p ++ [b]) := by
    intro l
    induction l with
    | nil => rfl
    | cons b l ih =>
      show genT (lets q 0) m (p ++ [b]) (l.foldr (fun b r => genT (lets q 0) m (p ++ [b]) r) []) = _
      rw [ih, genT_acc, List.flatMap_cons]
      rfl
  exact (genT_succ _ _ _ _).trans (h _)
theorem lets_cons {q b : Nat} (h : b < q) : lets q b = b :: lets q (b + 1) := by
  unfold lets
  obtain ⟨d, hd⟩ : ∃ d, q - b = d + 1 := ⟨q - b - 1, by omega⟩
  rw [hd, show q - (b + 1) = d from by omega]
  rfl
theorem lets_end {q b : Nat} (h : q ≤ b) : lets q b = [] := by
  unfold lets
  rw [show q - b = 0 from by omega]; rfl
theorem frm_zeros (q : Nat) (hq : 0 < q) (m : Nat) : ∀ p, frm q p (List.replicate m 0) = gen q m p := by
  induction m with
  | zero => intro p; rw [gen_zero]; rfl
  | succ m ih =>
    intro p
    rw [List.replicate_succ]
    show frm q (p ++ [0]) (List.replicate m 0) ++ (lets q 1).flatMap (fun b => gen q (List.replicate m 0).length (p ++ [b])) = _
    rw [gen_succ, lets_cons hq, List.flatMap_cons, ih, List.length_replicate]
theorem frm_tops (q : Nat) (hq : 0 < q) (m : Nat) : ∀ p, frm q p (List.replicate m (q - 1)) = if lynN (p ++ List.replicate m (q - 1)) then [p ++ List.replicate m (q - 1)] else [] := by
  induction m with
  | zero => intro p; simp [frm]
  | succ m ih =>
    intro p
    rw [List.replicate_succ]
    show frm q (p ++ [q - 1]) (List.replicate m (q - 1)) ++ (lets q (q - 1 + 1)).flatMap (fun b => gen q (List.replicate m (q - 1)).length (p ++ [b])) = _
    rw [ih, lets_end (by omega), List.flatMap_nil, List.append_nil, List.append_assoc]
    rfl
/-- The counter goes on: behind a word stand those from the next word on. -/
theorem frm_step (q : Nat) (hq : 0 < q) (x j : Nat) (hx : x + 1 < q) : ∀ (u p : List Nat), frm q p (u ++ x :: List.replicate j (q - 1)) =
    (if lynN (p ++ (u ++ x :: List.replicate j (q - 1))) then [p ++ (u ++ x :: List.replicate j (q - 1))] else []) ++ frm q p (u ++ (x + 1) :: List.replicate j 0) := by
  intro u
  induction u with
  | nil =>
    intro p
    show frm q (p ++ [x]) (List.replicate j (q - 1)) ++ (lets q (x + 1)).flatMap (fun b => gen q (List.replicate j (q - 1)).length (p ++ [b])) = _ ++ (frm q (p ++ [x + 1]) (List.replicate j 0) ++ (lets q (x + 1 + 1)).flatMap (fun b => gen q (List.replicate j 0).length (p ++ [b])))
    rw [frm_tops q hq, frm_zeros q hq, lets_cons hx, List.flatMap_cons, List.length_replicate, List.length_replicate, List.append_assoc]
    rfl
  | cons y u ih =>
    intro p
    show frm q (p ++ [y]) (u ++ x :: List.replicate j (q - 1)) ++ (lets q (y + 1)).flatMap (fun b => gen q (u ++ x :: List.replicate j (q - 1)).length (p ++ [b])) = _ ++ (frm q (p ++ [y]) (u ++ (x + 1) :: List.replicate j 0) ++ (lets q (y + 1)).flatMap (fun b => gen q (u ++ (x + 1) :: List.replicate j 0).length (p ++ [b])))
    have e1 : (u ++ x :: List.replicate j (q - 1)).length = (u ++ (x + 1) :: List.replicate j 0).length := by simp
    rw [ih, e1, ← List.append_assoc]
    simp only [List.append_assoc, List.cons_append, List.nil_append]

theorem aboveN_eq (l : List Nat) : ∀ m : List Nat, aboveN l m = above (l.map Int.ofNat) (m.map Int.ofNat) := by
  induction l with
  | nil => intro m; rfl
  | cons x l ih =>
    intro m
    cases m with
    | nil => rfl
    | cons y m =>
      show (Bool.rec (Nat.blt y x) (aboveN l m) (Nat.beq x y) : Bool) = if (x : Int) = (y : Int) then above (l.map Int.ofNat) (m.map Int.ofNat) else decide ((y : Int) < (x : Int))
      by_cases h : x = y
      · subst h
        rw [if_pos rfl, ← ih, Nat.beq_refl]
      · rw [if_neg (by omega)]
        have e : Nat.beq x y = false := by
          cases hb : Nat.beq x y with
          | false => rfl
          | true => exact absurd (Nat.eq_of_beq_eq_true hb) h
        rw [e]
        show Nat.blt y x = _
        by_cases h2 : y < x
        · rw [decide_eq_true (by omega)]; simpa [Nat.blt_eq] using h2
        · rw [decide_eq_false (by omega)]
          cases hb : Nat.blt y x with
          | false => rfl
          | true => rw [Nat.blt_eq] at hb; exact absurd hb h2
theorem lynT_eq (l : List Nat) : ∀ (s pre : List Nat) (f : Nat), l = pre ++ s → s.length ≤ f → lynT l s = lyndonFrom (l.map Int.ofNat) f pre.length := by
  intro s
  induction s with
  | nil =>
    intro pre f hl _
    show true = _
    cases f with
    | zero => rfl
    | succ f =>
      show true = if pre.length < (l.map Int.ofNat).length then _ else true
      rw [if_neg (by rw [hl]; simp)]
  | cons x s ih =>
    intro pre f hl hf
    obtain ⟨f, rfl⟩ : ∃ g, f = g + 1 := ⟨f - 1, by simp at hf; omega⟩
    show (Bool.rec false (lynT l s) (aboveN (x :: s) l) : Bool) = if pre.length < (l.map Int.ofNat).length then (if above ((l.map Int.ofNat).drop pre.length) (l.map Int.ofNat) then lyndonFrom (l.map Int.ofNat) f (pre.length + 1) else false) else true
    have e1 : (l.map Int.ofNat).drop pre.length = (x :: s).map Int.ofNat := by rw [← List.map_drop, hl, List.drop_left]
    rw [if_pos (by rw [hl]; simp), e1, aboveN_eq, ih (pre ++ [x]) f (by rw [hl]; simp) (by simp at hf; omega)]
    simp only [List.length_append, List.length_cons, List.length_nil, Nat.zero_add]
    cases above ((x :: s).map Int.ofNat) (l.map Int.ofNat) <;> rfl
theorem lynN_eq (l : List Nat) : lynN l = lyndon (l.map Int.ofNat) := by
  cases l with
  | nil => rfl
  | cons x l =>
    show lynT (x :: l) l = lyndonFrom ((x :: l).map Int.ofNat) ((x :: l).map Int.ofNat).length 1
    exact lynT_eq (x :: l) l [x] _ rfl (by simp)
theorem nxt_tops (top j : Nat) : nxt top (List.replicate j top) = [] := by
  induction j with
  | zero => rfl
  | succ j ih =>
    show (List.rec (motive := fun _ => List Nat) (Bool.rec [Nat.succ top] [] (Nat.beq top top)) (fun y ys _ => top :: y :: ys) (nxt top (List.replicate j top)) : List Nat) = []
    rw [ih, Nat.beq_refl]
theorem nxt_step (top x j : Nat) (hx : x ≠ top) : ∀ u : List Nat, nxt top (u ++ x :: List.replicate j top) = u ++ [x + 1] := by
  intro u
  induction u with
  | nil =>
    show (List.rec (motive := fun _ => List Nat) (Bool.rec [Nat.succ x] [] (Nat.beq x top)) (fun y ys _ => x :: y :: ys) (nxt top (List.replicate j top)) : List Nat) = [x + 1]
    have e : Nat.beq x top = false := by
      cases hb : Nat.beq x top with
      | false => rfl
      | true => exact absurd (Nat.eq_of_beq_eq_true hb) hx
    rw [nxt_tops, e]
  | cons y u ih =>
    show (List.rec (motive := fun _ => List Nat) (Bool.rec [Nat.succ y] [] (Nat.beq y top)) (fun z zs _ => y :: z :: zs) (nxt top (u ++ x :: List.replicate j top)) : List Nat) = y :: (u ++ [x + 1])
    rw [ih]
    cases u <;> rfl
theorem rep_eq (w : List Nat) (hw : w ≠ []) : ∀ (n : Nat) (pre s : List Nat), w = pre ++ s → rep w n s = (List.range n).map fun k => w.getD ((pre.length + k) % w.length) 0 := by
  have hwl : 0 < w.length := List.length_pos_iff.2 hw
  intro n
  induction n with
  | zero => intro pre s _; rfl
  | succ n ih =>
    intro pre s h
    rw [List.range_succ_eq_map, List.map_cons, List.map_map]
    cases s with
    | cons x xs =>
      show x :: rep w n xs = _
      have e : pre.length < w.length := by rw [h]; simp
      have ex : w.getD ((pre.length + 0) % w.length) 0 = x := by
        rw [Nat.add_zero, Nat.mod_eq_of_lt e, h]; simp
      rw [ih (pre ++ [x]) xs (by rw [h]; simp), ex]
      congr 1
      refine List.map_congr_left fun k _ => ?_
      simp only [Function.comp, List.length_append, List.length_cons, List.length_nil]
      rw [show pre.length + (0 + 1) + k = pre.length + k.succ from by omega]
    | nil =>
      rw [List.append_nil] at h
      cases hw2 : w with
      | nil => exact absurd hw2 hw
      | cons y ys =>
        show y :: rep (y :: ys) n ys = _
        rw [← hw2, ih [y] ys (by rw [hw2]; rfl), ← h]
        have ex : w.getD ((w.length + 0) % w.length) 0 = y := by
          rw [Nat.add_zero, Nat.mod_self, hw2]; rfl
        rw [ex]
        congr 1
        refine List.map_congr_left fun k _ => ?_
        simp only [Function.comp, List.length_cons, List.length_nil]
        rw [show w.length + k.succ = (0 + 1 + k) + w.length from by omega, Nat.add_mod_right]
theorem eqN_true : ∀ l m : List Nat, eqN l m = true → l = m := by
  intro l
  induction l with
  | nil => intro m h; cases m with | nil => rfl | cons y m => exact absurd h (by show ¬ (false = true); simp)
  | cons x l ih =>
    intro m h
    cases m with
    | nil => exact absurd h (by show ¬ (false = true); simp)
    | cons y m =>
      have h1 : (Bool.rec false (eqN l m) (Nat.beq x y) : Bool) = true := h
      cases hb : Nat.beq x y with
      | false => rw [hb] at h1; exact absurd h1 (by show ¬ (false = true); simp)
      | true => rw [hb] at h1; rw [Nat.eq_of_beq_eq_true hb, ih m h1]
theorem lenIs_eq : ∀ (n : Nat) (l : List Nat), lenIs n l = decide (l.length = n) := by
  intro n
  induction n with
  | zero => intro l; cases l <;> rfl
  | succ n ih =>
    intro l
    cases l with
    | nil => rfl
    | cons x l =>
      show lenIs n l = _
      rw [ih, List.length_cons]
      simp
theorem chk_end {top n f : Nat} {ex : List (List Nat)} (h : chk top n f [] ex = true) : ex = [] := by
  cases f with
  | zero => exact absurd h (by show ¬ (false = true); simp)
  | succ f => cases ex with | nil => rfl | cons e es => exact absurd h (by show ¬ (false = true); simp)
theorem chk_step {top n f : Nat} {w : List Nat} {ex : List (List Nat)} (h : chk top n f w ex = true) (hw : w ≠ []) :
    ∃ g, f = g + 1 ∧ if w.length = n then ∃ es, ex = w :: es ∧ chk top n g (nxt top (rep w n w)) es = true else chk top n g (nxt top (rep w n w)) ex = true := by
  cases f with
  | zero => exact absurd h (by show ¬ (false = true); simp)
  | succ f =>
    refine ⟨f, rfl, ?_⟩
    cases w with
    | nil => exact absurd rfl hw
    | cons x xs =>
      have h1 : (Bool.rec (chk top n f (nxt top (rep (x :: xs) n (x :: xs))) ex) (List.rec (motive := fun _ => Bool) false (fun e es _ => Bool.rec false (chk top n f (nxt top (rep (x :: xs) n (x :: xs))) es) (eqN (x :: xs) e)) ex) (lenIs n (x :: xs)) : Bool) = true := h
      rw [lenIs_eq] at h1
      by_cases hl : (x :: xs).length = n
      · rw [if_pos hl]
        rw [decide_eq_true hl] at h1
        cases ex with
        | nil => exact absurd h1 (by show ¬ (false = true); simp)
        | cons e es =>
          have h2 : (Bool.rec false (chk top n f (nxt top (rep (x :: xs) n (x :: xs))) es) (eqN (x :: xs) e) : Bool) = true := h1
          cases hb : eqN (x :: xs) e with
          | false => rw [hb] at h2; exact absurd h2 (by show ¬ (false = true); simp)
          | true => rw [hb] at h2; exact ⟨es, by rw [eqN_true _ _ hb], h2⟩
      · rw [if_neg hl]
        rw [decide_eq_false hl] at h1
        exact h1
set_option maxRecDepth 1000000 in
theorem run_1 : ([1, 2, 3, 4, 5, 6, 7, 8].all fun n => chk 0 n 20000 [0] (genT [0] n [] [])) = true := by decide +kernel
set_option maxRecDepth 1000000 in
theorem run_2 : ([1, 2, 3, 4, 5, 6, 7, 8].all fun n => chk 1 n 20000 [0] (genT [0, 1] n [] [])) = true := by decide +kernel
set_option maxRecDepth 1000000 in
theorem run_3 : ([1, 2, 3, 4, 5, 6, 7, 8].all fun n => chk 2 n 20000 [0] (genT [0, 1, 2] n [] [])) = true := by decide +kernel
set_option maxRecDepth 1000000 in
theorem run_4 : ([1, 2, 3, 4, 5, 6, 7].all fun n => chk 3 n 20000 [0] (genT [0, 1, 2, 3] n [] [])) = true := by decide +kernel
set_option maxRecDepth 1000000 in
theorem run_5 : chk 3 8 20000 [0] (genT [0, 1, 2, 3] 8 [] []) = true := by decide +kernel
theorem run_all {q n : Nat} (h1 : 1 ≤ q) (h2 : q ≤ 4) (h3 : 1 ≤ n) (h4 : n ≤ 8) : ∃ f, chk (q - 1) n f [0] (frm q [] (List.replicate n 0)) = true := by
  refine ⟨20000, ?_⟩
  rw [frm_zeros q (by omega)]
  have hm : n ∈ [1, 2, 3, 4, 5, 6, 7, 8] := by
    have : n = 1 ∨ n = 2 ∨ n = 3 ∨ n = 4 ∨ n = 5 ∨ n = 6 ∨ n = 7 ∨ n = 8 := by omega
    rcases this with h | h | h | h | h | h | h | h <;> rw [h] <;> decide
  have hq : q = 1 ∨ q = 2 ∨ q = 3 ∨ q = 4 := by omega
  rcases hq with h | h | h | h
  · rw [h]; exact List.all_eq_true.1 run_1 n hm
  · rw [h]; exact List.all_eq_true.1 run_2 n hm
  · rw [h]; exact List.all_eq_true.1 run_3 n hm
  · rw [h]
    by_cases h8 : n = 8
    · rw [h8]; exact run_5
    · refine List.all_eq_true.1 run_4 n ?_
      have : n = 1 ∨ n = 2 ∨ n = 3 ∨ n = 4 ∨ n = 5 ∨ n = 6 ∨ n = 7 := by omega
      rcases this with h | h | h | h | h | h | h <;> rw [h] <;> decide
end Words
end Go.Proofs.YtcngijafnnmccaaDoor
