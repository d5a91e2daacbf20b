import Derived.Lib.ItoaNum
import Derived.Lib.Join
import Derived.Test.YtbnefjhljfbecaaGreatDoorW01
import Derived.Test.YtbnefjhljfbecaaGreatDoorW02
namespace Go.Proofs.YtbnefjhljfbecaaGreatDoor
set_option maxRecDepth 100000
section
namespace Tya
def encL (l : List Int) : List UInt8 := Lib.join (l.map Lib.itoa) [32]
def encB (l : List Int) : ByteArray := ⟨(encL l).toArray⟩
def w1 : Bool := (List.range 101).all fun n => !((Lib.itoa (n : Int)).contains 32) && decide ((Lib.itoa (n : Int)).length ≤ 3) && !(Lib.itoa (n : Int)).isEmpty
def w2 : Bool := (List.range 101).all fun n => (List.range 101).all fun m => !(Lib.itoa (n : Int) == Lib.itoa (m : Int)) || n == m
set_option maxRecDepth 100000 in
theorem w1_ok : w1 = true := by decide +kernel
set_option maxRecDepth 100000 in
theorem w2_ok : w2 = true := by decide +kernel
theorem itoa_ok {n : Int} (h0 : 0 ≤ n) (h1 : n ≤ 100) : 32 ∉ Lib.itoa n ∧ (Lib.itoa n).length ≤ 3 ∧ Lib.itoa n ≠ [] := by
 obtain ⟨k, rfl⟩ : ∃ k : Nat, n = k := ⟨n.toNat, by omega⟩
 have h := List.all_eq_true.1 w1_ok k (List.mem_range.2 (by omega))
 simp only [Bool.and_eq_true, decide_eq_true_eq, Bool.not_eq_true', List.contains_eq_mem, decide_eq_false_iff_not] at h
 exact ⟨h.1.1, h.1.2, fun e => by rw [e] at h; simp at h⟩
theorem itoa_inj {n m : Int} (h0 : 0 ≤ n) (h1 : n ≤ 100) (g0 : 0 ≤ m) (g1 : m ≤ 100) (h : Lib.itoa n = Lib.itoa m) : n = m := by
 obtain ⟨k, rfl⟩ : ∃ k : Nat, n = k := ⟨n.toNat, by omega⟩
 obtain ⟨l, rfl⟩ : ∃ l : Nat, m = l := ⟨m.toNat, by omega⟩
 have h2 := List.all_eq_true.1 (List.all_eq_true.1 w2_ok k (List.mem_range.2 (by omega))) l (List.mem_range.2 (by omega))
 rw [h] at h2
 simp at h2
 omega
def Sml (l : List Int) : Prop := ∀ x ∈ l, 0 ≤ x ∧ x ≤ 100
theorem cut32 : ∀ {a b c d : List UInt8}, 32 ∉ a → 32 ∉ b → (c = [] ∧ d = [] ∨ (∃ c', c = 32 :: c') ∧ ∃ d', d = 32 :: d') → a ++ c = b ++ d → a = b ∧ c = d
 | [], [], _, _, _, _, _, h => ⟨rfl, by simpa using h⟩
 | [], y :: b, c, d, _, hb, hc, h => by
  exfalso
  rcases hc with ⟨rfl, rfl⟩ | ⟨⟨c', rfl⟩, _⟩
  ·simp at h
  ·simp only [List.nil_append, List.cons_append, List.cons.injEq] at h
   exact hb (by rw [← h.1]; simp)
 | x :: a, [], c, d, ha, _, hc, h => by
  exfalso
  rcases hc with ⟨rfl, rfl⟩ | ⟨_, d', rfl⟩
  ·simp at h
  ·simp only [List.nil_append, List.cons_append, List.cons.injEq] at h
   exact ha (by rw [h.1]; simp)
 | x :: a, y :: b, c, d, ha, hb, hc, h => by
  simp only [List.cons_append, List.cons.injEq] at h
  obtain ⟨h1, h2⟩ := cut32 (fun e => ha (by simp [e])) (fun e => hb (by simp [e])) hc h.2
  exact ⟨by rw [h.1, h1], h2⟩
theorem tail_cons (x : Int) (r : List Int) : Lib.joinTail [32] ((x :: r).map Lib.itoa) = 32 :: (Lib.itoa x ++ Lib.joinTail [32] (r.map Lib.itoa)) := by simp [Lib.joinTail]
theorem tail_shape {r r' : List Int} (hl : r.length = r'.length) : Lib.joinTail [32] (r.map Lib.itoa) = [] ∧ Lib.joinTail [32] (r'.map Lib.itoa) = [] ∨ (∃ c', Lib.joinTail [32] (r.map Lib.itoa) = 32 :: c') ∧ ∃ d', Lib.joinTail [32] (r'.map Lib.itoa) = 32 :: d' := by
 cases r with
 | nil =>
  cases r' with
  | nil => exact .inl ⟨rfl, rfl⟩
  | cons => simp at hl
 | cons x r =>
  cases r' with
  | nil => simp at hl
  | cons y r' => exact .inr ⟨⟨_, tail_cons x r⟩, ⟨_, tail_cons y r'⟩⟩
theorem tail_inj : ∀ {r r' : List Int}, r.length = r'.length → Sml r → Sml r' → Lib.joinTail [32] (r.map Lib.itoa) = Lib.joinTail [32] (r'.map Lib.itoa) → r = r'
 | [], [], _, _, _, _ => rfl
 | [], _ :: _, h, _, _, _ => by simp at h
 | _ :: _, [], h, _, _, _ => by simp at h
 | x :: r, y :: r', hl, hr, hr', h => by
  rw [tail_cons, tail_cons] at h
  have hx := hr x (by simp)
  have hy := hr' y (by simp)
  have hl' : r.length = r'.length := by simpa using hl
  obtain ⟨h1, h2⟩ := cut32 (itoa_ok hx.1 hx.2).1 (itoa_ok hy.1 hy.2).1 (tail_shape hl') (List.cons.inj h).2
  rw [itoa_inj hx.1 hx.2 hy.1 hy.2 h1, tail_inj hl' (fun z hz => hr z (by simp [hz])) (fun z hz => hr' z (by simp [hz])) h2]
theorem encL_inj {l l' : List Int} (hl : l.length = l'.length) (h1 : Sml l) (h2 : Sml l') (h : encL l = encL l') : l = l' := by
 cases l with
 | nil =>
  cases l' with
  | nil => rfl
  | cons => simp at hl
 | cons x r =>
  cases l' with
  | nil => simp at hl
  | cons y r' =>
   unfold encL at h
   rw [List.map_cons, List.map_cons, Lib.join_cons, Lib.join_cons] at h
   have hx := h1 x (by simp)
   have hy := h2 y (by simp)
   have hl' : r.length = r'.length := by simpa using hl
   obtain ⟨e1, e2⟩ := cut32 (itoa_ok hx.1 hx.2).1 (itoa_ok hy.1 hy.2).1 (tail_shape hl') h
   rw [itoa_inj hx.1 hx.2 hy.1 hy.2 e1, tail_inj hl' (fun z hz => h1 z (by simp [hz])) (fun z hz => h2 z (by simp [hz])) e2]
theorem encB_inj {l l' : List Int} (hl : l.length = l'.length) (h1 : Sml l) (h2 : Sml l') (h : encB l = encB l') : l = l' := by
 refine encL_inj hl h1 h2 ?_
 unfold encB at h
 injection h with h
 simpa using h
theorem tail_len : ∀ {r : List Int}, Sml r → (Lib.joinTail [32] (r.map Lib.itoa)).length ≤ 4 * r.length
 | [], _ => by simp [Lib.joinTail]
 | x :: r, h => by
  rw [tail_cons]
  have := tail_len (r := r) (fun z hz => h z (by simp [hz]))
  have hx := h x (by simp)
  have := (itoa_ok hx.1 hx.2).2.1
  simp only [List.length_cons, List.length_append]
  omega
theorem encL_len {l : List Int} (h : Sml l) : (encL l).length ≤ 4 * l.length := by
 cases l with
 | nil => simp [encL, Lib.join_nil]
 | cons x r =>
  unfold encL
  rw [List.map_cons, Lib.join_cons]
  have := tail_len (r := r) (fun z hz => h z (by simp [hz]))
  have hx := h x (by simp)
  have := (itoa_ok hx.1 hx.2).2.1
  simp only [List.length_cons, List.length_append]
  omega
theorem sml_of {p : Int} (hp : p ≤ 101) {l : List Int} (h : resid p l = true) : Sml l := fun x hx => by
 obtain ⟨i, hi, e⟩ := List.getElem_of_mem hx
 have := resid_vec h hi
 have e2 : vec l i = x := by simp [vec, List.getD_eq_getElem?_getD, hi, e]
 rw [e2] at this
 omega
def stpF (p : Int) (M : List Int → Bool) (y : List Int) (k : Int) (x : List Int) : Nat → Nat → Nat
 | 0, r => r
 | f + 1, r => if M (addL y (k * ((r : Int) + 1)) x p) = true then stpF p M y k x f (r + 1) else r
def stp (p : Int) (M : List Int → Bool) (y : List Int) (k : Int) (x : List Int) : Nat := stpF p M y k x 3 0
theorem stpF_le (p : Int) (M : List Int → Bool) (y : List Int) (k : Int) (x : List Int) : ∀ f r, stpF p M y k x f r ≤ r + f
 | 0, r => by simp [stpF]
 | f + 1, r => by
  unfold stpF
  split
  ·have := stpF_le p M y k x f (r + 1); omega
  ·omega
theorem stp_le (p : Int) (M : List Int → Bool) (y : List Int) (k : Int) (x : List Int) : stp p M y k x ≤ 3 := stpF_le p M y k x 3 0
def num (p : Int) (M : List Int → Bool) (x y : List Int) : Int :=
 if x = y then 2 else if zeroL (addL x 1 y p) = true then -2 else (stp p M y (-1) x : Int) - stp p M y 1 x
def sgn (p : Int) (M : List Int → Bool) (y : List Int) : List (List Int) → Int
 | [] => 0
 | x :: xs => if num p M x y = 0 then sgn p M y xs else num p M x y
def isIn (R : List (List Int)) (q : List Int) : Bool := decide (q ∈ R)
def posL (p : Int) (R : List (List Int)) : List (List Int) := R.filter fun y => decide (0 < sgn p (isIn R) y R)
def simB (p : Int) (P : List (List Int)) (x : List Int) : Bool := P.all fun b => !isIn P (addL x (-1) b p)
def basL (p : Int) (R : List (List Int)) : List (List Int) := (posL p R).filter (simB p (posL p R))
def sumB (p : Int) (P : List (List Int)) (q : List Int) : Bool := P.any fun x => P.any fun y => decide (addL x 1 y p = q)
theorem addL_iff {p : Int} (_hp : 2 ≤ p) {x y a : List Int} (h1 : x.length = a.length) (h2 : y.length = a.length) (rx : resid p x = true) (ra : resid p a = true) : addL x 1 y p = a ↔ addL a (-1) y p = x := by
 constructor
 ·intro h
  refine list_ext (by rw [length_addL _ _ _ _ h2, h1]) fun i hi => ?_
  rw [length_addL _ _ _ _ h2] at hi
  have e : vec a i = (vec x i + 1 * vec y i) % p := by rw [← h, vec_addL _ _ (by omega) (by omega)]
  rw [vec_addL _ _ h2 hi, e]
  have hx := resid_vec rx (i := i) (by omega)
  rw [Int.emod_def (vec x i + 1 * vec y i), show vec x i + 1 * vec y i - p * ((vec x i + 1 * vec y i) / p) + -1 * vec y i = vec x i + p * (-((vec x i + 1 * vec y i) / p)) by rw [Int.mul_neg]; omega, Int.add_mul_emod_self_left]
  exact Int.emod_eq_of_lt hx.1 hx.2
 ·intro h
  refine list_ext (by rw [length_addL _ _ _ _ (by omega), h1]) fun i hi => ?_
  rw [length_addL _ _ _ _ (by omega)] at hi
  have e : vec x i = (vec a i + -1 * vec y i) % p := by rw [← h, vec_addL _ _ h2 (by omega)]
  rw [vec_addL _ _ (by omega) hi, e]
  have ha := resid_vec ra (i := i) (by omega)
  rw [Int.emod_def (vec a i + -1 * vec y i), show vec a i + -1 * vec y i - p * ((vec a i + -1 * vec y i) / p) + 1 * vec y i = vec a i + p * (-((vec a i + -1 * vec y i) / p)) by rw [Int.mul_neg]; omega, Int.add_mul_emod_self_left]
  exact Int.emod_eq_of_lt ha.1 ha.2
def Lst (p : Int) (a : Nat) (R : List (List Int)) : Prop := ∀ x ∈ R, x.length = a ∧ resid p x = true
theorem Lst.filter {p : Int} {a : Nat} {R : List (List Int)} (h : Lst p a R) (q : List Int → Bool) : Lst p a (R.filter q) := fun x hx => h x (List.mem_filter.1 hx).1
theorem simB_iff {p : Int} (hp : 2 ≤ p) {a : Nat} {P : List (List Int)} (hP : Lst p a P) {q : List Int} (hq : q ∈ P) : simB p P q = !sumB p P q := by
 obtain ⟨q1, q2⟩ := hP q hq
 rw [Bool.eq_iff_iff]
 constructor
 ·intro h
  rw [Bool.not_eq_true', Bool.eq_false_iff]
  intro hs
  obtain ⟨x, hx, hs⟩ := List.any_eq_true.1 hs
  obtain ⟨y, hy, hs⟩ := List.any_eq_true.1 hs
  have e := of_decide_eq_true hs
  obtain ⟨x1, x2⟩ := hP x hx
  obtain ⟨y1, y2⟩ := hP y hy
  have := List.all_eq_true.1 h y hy
  rw [(addL_iff hp (by omega) (by omega) x2 q2).1 e] at this
  simp [isIn, hx] at this
 ·intro h
  rw [Bool.not_eq_true', Bool.eq_false_iff] at h
  refine List.all_eq_true.2 fun b hb => ?_
  rw [Bool.not_eq_true', Bool.eq_false_iff]
  intro hi
  have hm := of_decide_eq_true hi
  obtain ⟨b1, b2⟩ := hP b hb
  obtain ⟨x1, x2⟩ := hP _ hm
  refine h (List.any_eq_true.2 ⟨_, hm, List.any_eq_true.2 ⟨b, hb, ?_⟩⟩)
  exact decide_eq_true ((addL_iff hp (by omega) (by omega) x2 q2).2 rfl)
end Tya
end
section
namespace Car
def rk (k : Nat) : Nat := [1, 2, 3, 4, 2, 3, 4, 3, 4, 4, 4, 2].getD k 0
def mx (k : Nat) : List Int := ([[2], [2, -1, -1, 2], [2, -1, 0, -1, 2, -1, 0, -1, 2], [2, -1, 0, 0, -1, 2, -1, 0, 0, -1, 2, -1, 0, 0, -1, 2],
 [2, -1, -2, 2], [2, -1, 0, -1, 2, -1, 0, -2, 2], [2, -1, 0, 0, -1, 2, -1, 0, 0, -1, 2, -1, 0, 0, -2, 2],
 [2, -1, 0, -1, 2, -2, 0, -1, 2], [2, -1, 0, 0, -1, 2, -1, 0, 0, -1, 2, -2, 0, 0, -1, 2],
 [2, -1, 0, 0, -1, 2, -1, -1, 0, -1, 2, 0, 0, -1, 0, 2], [2, -1, 0, 0, -1, 2, -1, 0, 0, -2, 2, -1, 0, 0, -1, 2], [2, -3, -1, 2]] : List (List Int)).getD k []
def en (n : Nat) (D : List Int) (i j : Nat) : Int := D.getD (i * n + j) 0
def ok (n : Nat) (D : List Int) (m : Nat) (E : List Int) (used : List Nat) (x : Nat) : Bool :=
 !used.contains x && (en n D x x == en m E used.length used.length) && (List.range used.length).all fun j => en n D x (used.getD j 0) == en m E used.length j && en n D (used.getD j 0) x == en m E j used.length
def bt (n : Nat) (D : List Int) (m : Nat) (E : List Int) (rows : List Nat) : Nat → List Nat → Bool
 | 0, _ => true
 | f + 1, used => rows.any fun x => ok n D m E used x && bt n D m E rows f (used ++ [x])
def Fit (n : Nat) (D : List Int) (m : Nat) (E : List Int) (rows o : List Nat) : Prop :=
 o.length = m ∧ (∀ x, x ∈ o → x ∈ rows) ∧ o.Nodup ∧ ∀ a b, a < m → b < m → en n D (o.getD a 0) (o.getD b 0) = en m E a b
def Ext (n : Nat) (D : List Int) (m : Nat) (E : List Int) (rows used o : List Nat) : Prop :=
 ∃ t, o = used ++ t ∧ ∀ k (h : k < t.length), t[k] ∈ rows ∧ ok n D m E (used ++ t.take k) t[k] = true
theorem bt_iff' (n : Nat) (D : List Int) (m : Nat) (E : List Int) (rows : List Nat) : ∀ (f : Nat) (used : List Nat), bt n D m E rows f used = true ↔ ∃ o, o.length = used.length + f ∧ Ext n D m E rows used o := by
 intro f
 induction f with
 | zero =>
  intro used
  refine ⟨fun _ => ⟨used, by simp, [], by simp, fun k h => absurd h (by simp)⟩, fun _ => rfl⟩
 | succ f ih =>
  intro used
  unfold bt
  rw [List.any_eq_true]
  constructor
  ·rintro ⟨x, hx, h⟩
   rw [Bool.and_eq_true] at h
   obtain ⟨o, hl, t, ht, hk⟩ := (ih _).1 h.2
   refine ⟨o, by rw [List.length_append] at hl; simp at hl; omega, x :: t, by rw [ht]; simp, ?_⟩
   intro k hk'
   cases k with
   | zero => exact ⟨hx, by simpa using h.1⟩
   | succ k =>
    have h2 := hk k (by simpa using hk')
    refine ⟨h2.1, ?_⟩
    have h3 := h2.2
    rw [List.append_assoc] at h3
    simpa using h3
  ·rintro ⟨o, hl, t, ht, hk⟩
   have hlt : t.length = f + 1 := by rw [ht, List.length_append] at hl; omega
   cases t with
   | nil => simp at hlt
   | cons x t =>
    have h0 := hk 0 (by simp)
    refine ⟨x, by simpa using h0.1, ?_⟩
    rw [Bool.and_eq_true]
    refine ⟨by simpa using h0.2, (ih _).2 ⟨o, by rw [List.length_append]; simp; omega, t, by rw [ht]; simp, ?_⟩⟩
    intro k hk'
    have h2 := hk (k + 1) (by simpa using hk')
    refine ⟨by simpa using h2.1, ?_⟩
    have h3 := h2.2
    rw [List.append_assoc]
    simpa using h3
theorem ok_iff (n : Nat) (D : List Int) (m : Nat) (E : List Int) (used : List Nat) (x : Nat) : ok n D m E used x = true ↔ x ∉ used ∧ en n D x x = en m E used.length used.length ∧ ∀ j, j < used.length → en n D x (used.getD j 0) = en m E used.length j ∧ en n D (used.getD j 0) x = en m E j used.length := by
 unfold ok
 simp only [Bool.and_eq_true, Bool.not_eq_true', List.all_eq_true, List.mem_range, beq_iff_eq, and_assoc]
 constructor
 ·rintro ⟨h1, h2, h3⟩
  exact ⟨by simpa using h1, h2, h3⟩
 ·rintro ⟨h1, h2, h3⟩
  exact ⟨by simpa using h1, h2, h3⟩
theorem bt_iff (n : Nat) (D : List Int) (m : Nat) (E : List Int) (rows : List Nat) : bt n D m E rows m [] = true ↔ ∃ o, Fit n D m E rows o := by
 rw [bt_iff']
 constructor
 ·rintro ⟨o, hl, t, ht, hk⟩
  rw [List.nil_append] at ht
  rw [ht] at hl
  clear ht
  simp only [List.length_nil, Nat.zero_add] at hl
  have hk' : ∀ k (h : k < t.length), t[k] ∈ rows ∧ t[k] ∉ t.take k ∧ en n D t[k] t[k] = en m E k k ∧ ∀ j, j < k → en n D t[k] (t.getD j 0) = en m E k j ∧ en n D (t.getD j 0) t[k] = en m E j k := by
   intro k h
   obtain ⟨h1, h2⟩ := hk k h
   rw [List.nil_append, ok_iff, List.length_take, Nat.min_eq_left (by omega)] at h2
   refine ⟨h1, h2.1, h2.2.1, fun j hj => ?_⟩
   have h3 := h2.2.2 j hj
   have e : (t.take k).getD j 0 = t.getD j 0 := by
    simp only [List.getD]; rw [List.getElem?_take_of_lt hj]
   rwa [e] at h3
  refine ⟨t, hl, ?_, ?_, ?_⟩
  ·intro x hx
   obtain ⟨k, h, rfl⟩ := List.getElem_of_mem hx
   exact (hk' k h).1
  ·rw [List.nodup_iff_pairwise_ne, List.pairwise_iff_getElem]
   intro i j hi hj hij e
   refine (hk' j hj).2.1 ?_
   rw [← e]
   exact List.mem_take_iff_getElem.2 ⟨i, by omega, rfl⟩
  ·intro a b ha hb
   have ga : t.getD a 0 = t[a] := by simp [List.getD, List.getElem?_eq_getElem (show a < t.length by omega)]
   have gb : t.getD b 0 = t[b] := by simp [List.getD, List.getElem?_eq_getElem (show b < t.length by omega)]
   rcases Nat.lt_trichotomy a b with h | h | h
   ·rw [gb]; exact ((hk' b (by omega)).2.2.2 a h).2
   ·subst h; rw [ga]; exact (hk' a (by omega)).2.2.1
   ·rw [ga]; exact ((hk' a (by omega)).2.2.2 b h).1
 ·rintro ⟨o, hl, hr, hn, he⟩
  refine ⟨o, by simpa using hl, o, rfl, ?_⟩
  intro k h
  refine ⟨hr _ (List.getElem_mem h), ?_⟩
  have ga : ∀ a (h : a < o.length), o.getD a 0 = o[a] := fun a h => by simp [List.getD, List.getElem?_eq_getElem h]
  rw [List.nil_append, ok_iff, List.length_take, Nat.min_eq_left (by omega)]
  refine ⟨?_, by rw [← ga k h]; exact he k k (by omega) (by omega), fun j hj => ?_⟩
  ·intro hm
   obtain ⟨i, hi, e⟩ := List.mem_take_iff_getElem.1 hm
   have hi' : i < o.length := by omega
   have := (List.nodup_iff_pairwise_ne.1 hn)
   rw [List.pairwise_iff_getElem] at this
   exact this i k hi' h (by omega) e
  ·have e : (o.take k).getD j 0 = o.getD j 0 := by
    simp only [List.getD]; rw [List.getElem?_take_of_lt hj]
   rw [e, ← ga k h]
   exact ⟨he k j (by omega) (by omega), he j k (by omega) (by omega)⟩
end Car
end
section
namespace Car
def grow (n : Nat) (D : List Int) (x : Nat) (out : List Nat) : List Nat := (List.range n).foldl (fun o j => if en n D x j ≠ 0 ∧ j ∉ o then o ++ [j] else o) out
def partF (n : Nat) (D : List Int) : Nat → Nat → List Nat → List Nat
 | 0, _, out => out
 | f + 1, k, out => if k < out.length then partF n D f (k + 1) (grow n D (out.getD k 0) out) else out
def part (n : Nat) (D : List Int) (i : Nat) : List Nat := partF n D n 0 [i]
def fnd (n : Nat) (D : List Int) (rows : List Nat) : Option Nat := (List.range 12).foldl (fun o k => if rk k = rows.length ∧ bt n D (rk k) (mx k) rows (rk k) [] = true then some k else o) none
def ins (k : Nat) : List Nat → List Nat
 | [] => [k]
 | x :: xs => if k < x then k :: x :: xs else x :: ins k xs
def partsF (n : Nat) (D : List Int) : Nat → Nat → List Nat → List Nat → Option (List Nat)
 | 0, _, out, _ => some out
 | f + 1, i, out, done => if i ∈ done then partsF n D f (i + 1) out done else match fnd n D (part n D i) with
  | none => none
  | some k => partsF n D f (i + 1) (ins k out) (done ++ part n D i)
def fair (n : Nat) (D : List Int) : Bool := (List.range D.length).all fun i => decide (-3 ≤ D.getD i 0 ∧ D.getD i 0 ≤ 2) && (D.getD i 0 == 0 || D.getD ((i % n) * n + i / n) 0 != 0)
def parts (n : Nat) (D : List Int) : Option (List Nat) := if fair n D = true then partsF n D n 0 [] [] else none
def tyL : Nat → Nat → Nat → List (List Nat)
 | 0, _, _ => []
 | _ + 1, 0, _ => [[]]
 | f + 1, r + 1, from_ => (List.range' from_ (12 - from_)).flatMap fun i => if rk i ≤ r + 1 then (tyL f (r + 1 - rk i) i).map (fun t => i :: t) else []
def tys (n : Nat) : List (List Nat) := tyL 5 n 0
def dE : List Nat → Nat → Nat → Int
 | [], _, _ => 0
 | k :: t, a, b => if a < rk k then (if b < rk k then en (rk k) (mx k) a b else 0) else (if b < rk k then 0 else dE t (a - rk k) (b - rk k))
def due (n : Nat) (t : List Nat) : List Int := (List.range (n * n)).map fun q => dE t (q / n) (q % n)
def carI (n : Nat) (D : List Int) : Bool := (tys n).any fun t => bt n D n (due n t) (List.range n) n []
theorem en_due {n : Nat} {t : List Nat} {a b : Nat} (ha : a < n) (hb : b < n) : en n (due n t) a b = dE t a b := by
 have h : a * n + b < n * n := by
  calc a * n + b < a * n + n := by omega
   _ = (a + 1) * n := by rw [Nat.succ_mul]
   _ ≤ n * n := Nat.mul_le_mul_right _ ha
 unfold en due
 simp only [List.getD, List.getElem?_map, List.getElem?_range h, Option.map_some, Option.getD_some]
 rw [Nat.mul_comm a n, Nat.mul_add_div (by omega), Nat.div_eq_of_lt hb, Nat.mul_add_mod, Nat.mod_eq_of_lt hb, Nat.add_zero]
def plc (o : List Nat) (i : Nat) : Nat := o.findIdx (· == i)
def perm (n : Nat) (E : List Int) (o : List Nat) : List Int := (List.range (n * n)).map fun q => en n E (plc o (q / n)) (plc o (q % n))
def orders (n : Nat) : Nat → List (List Nat)
 | 0 => [[]]
 | f + 1 => (orders n f).flatMap fun l => ((List.range n).filter fun x => !l.contains x).map fun x => l ++ [x]
set_option maxRecDepth 100000
theorem orders_mem (n : Nat) (o : List Nat) (hb : ∀ x, x ∈ o → x < n) (hn : o.Nodup) : ∀ f, f ≤ o.length → o.take f ∈ orders n f := by
 intro f
 induction f with
 | zero => intro _; simp [orders]
 | succ f ih =>
  intro h
  unfold orders
  have hx : f < o.length := by omega
  have e : o.take (f + 1) = o.take f ++ [o[f]] := by rw [List.take_succ_eq_append_getElem hx]
  rw [e]
  refine List.mem_flatMap.2 ⟨_, ih (by omega), List.mem_map.2 ⟨o[f], ?_, rfl⟩⟩
  rw [List.mem_filter]
  refine ⟨List.mem_range.2 (hb _ (List.getElem_mem hx)), ?_⟩
  have : o[f] ∉ o.take f := by
   intro hm
   obtain ⟨i, hi, ei⟩ := List.mem_take_iff_getElem.1 hm
   have h9 := List.nodup_iff_pairwise_ne.1 hn
   rw [List.pairwise_iff_getElem] at h9
   exact h9 i f (by omega) hx (by omega) ei
  simpa using this
def allIn (n : Nat) : Bool := (orders n n).all fun o => (List.range n).all fun i => o.contains i
theorem nodup_all {n : Nat} (h1 : 1 ≤ n) (h4 : n ≤ 4) {o : List Nat} (hl : o.length = n) (hb : ∀ x, x ∈ o → x < n) (hn : o.Nodup) : ∀ i, i < n → i ∈ o := by
 intro i hi
 have hm := orders_mem n o hb hn n (by omega)
 rw [List.take_of_length_le (by omega)] at hm
 have ha : allIn n = true := by
  have : n = 1 ∨ n = 2 ∨ n = 3 ∨ n = 4 := by omega
  rcases this with rfl | rfl | rfl | rfl <;> decide +kernel
 unfold allIn at ha
 have := List.all_eq_true.1 (List.all_eq_true.1 ha o hm) i (List.mem_range.2 hi)
 simpa using this
theorem idx_spec {o : List Nat} {i : Nat} (h : i ∈ o) : plc o i < o.length ∧ o.getD (plc o i) 0 = i := by
 unfold plc
 have h1 : o.findIdx (· == i) < o.length := List.findIdx_lt_length_of_exists ⟨i, h, by simp⟩
 refine ⟨h1, ?_⟩
 have h2 := List.findIdx_getElem (w := h1)
 rw [List.getD_eq_getElem?_getD, List.getElem?_eq_getElem h1]
 simpa using h2
theorem perm_eq {n : Nat} (hn1 : 1 ≤ n) (hn4 : n ≤ 4) {D E : List Int} {o : List Nat} (hD : D.length = n * n) (h : Fit n D n E (List.range n) o) : D = perm n E o := by
 obtain ⟨h1, h2, h3, h4⟩ := h
 have hm := nodup_all hn1 hn4 h1 (fun x hx => List.mem_range.1 (h2 x hx)) h3
 refine List.ext_getElem? fun q => ?_
 by_cases hq2 : q < n * n
 ·have e1 : q / n < n := Nat.div_lt_of_lt_mul hq2
  have e2 : q % n < n := Nat.mod_lt _ hn1
  obtain ⟨a1, a2⟩ := idx_spec (hm _ e1)
  obtain ⟨b1, b2⟩ := idx_spec (hm _ e2)
  have := h4 (plc o (q / n)) (plc o (q % n)) (by omega) (by omega)
  rw [a2, b2] at this
  unfold perm
  rw [List.getElem?_map, List.getElem?_range hq2, Option.map_some, ← this]
  unfold en
  rw [Nat.mul_comm, Nat.div_add_mod, List.getD_eq_getElem?_getD, List.getElem?_eq_getElem (by omega)]
  rfl
 ·rw [List.getElem?_eq_none (by omega), List.getElem?_eq_none (by rw [perm, List.length_map, List.length_range]; omega)]
end Car
end
end Go.Proofs.YtbnefjhljfbecaaGreatDoor
