/- Tensor products of matrices: the plain law. -/
import Derived.Test.YtechjmckfedblaaMsB
namespace Go.Proofs.Ytechjmckfedblaa
set_option maxRecDepth 100000
open Go.RowKit

theorem posW {w q : Nat} (h : q < w * w) : 0 < w := by
  rcases Nat.eq_zero_or_pos w with rfl | h1
  · simp at h
  · exact h1
/-- A square list by a function of row and column. -/
def grid (w : Nat) (g : Nat → Nat → Int) : List Int := tab (w * w) fun q => g (q / w) (q % w)
theorem length_grid (w : Nat) (g : Nat → Nat → Int) : (grid w g).length = w * w := length_tab _ _
theorem dm {t j k : Nat} (h : k < t) : (j * t + k) / t = j ∧ (j * t + k) % t = k := by
  have ht : 0 < t := by omega
  constructor
  · rw [Nat.add_comm, Nat.add_mul_div_right _ _ ht, Nat.div_eq_of_lt h, Nat.zero_add]
  · rw [Nat.add_comm, Nat.add_mul_mod_self_right, Nat.mod_eq_of_lt h]
theorem grid_congr {w : Nat} {g h : Nat → Nat → Int} (e : ∀ a b, a < w → b < w → g a b = h a b) : grid w g = grid w h := by
  refine tab_congr fun q hq => ?_
  have hs := posW hq
  exact e _ _ (by rw [Nat.div_lt_iff_lt_mul hs]; exact hq) (Nat.mod_lt _ hs)
theorem vec_grid {w r c : Nat} {g : Nat → Nat → Int} (hr : r < w) (hc : c < w) : vec (grid w g) (r * w + c) = g r c := by
  have := row_bd (c := w) hr
  rw [grid, vec_tab (by omega), (dm hc).1, (dm hc).2]
theorem grid_set {w r c : Nat} {g h : Nat → Nat → Int} (x : Int) (_hr : r < w) (hc : c < w) (e : ∀ a b, a < w → b < w → (if a = r ∧ b = c then x else g a b) = h a b) : (grid w g).set (r * w + c) x = grid w h := by
  rw [grid, tab_set, grid]
  refine tab_congr fun q hq => ?_
  have hs := posW hq
  rw [← e _ _ (by rw [Nat.div_lt_iff_lt_mul hs]; exact hq) (Nat.mod_lt _ hs)]
  by_cases e1 : q = r * w + c
  · rw [if_pos e1, e1, (dm hc).1, (dm hc).2, if_pos ⟨rfl, rfl⟩]
  · rw [if_neg e1, if_neg]
    rintro ⟨h1, h2⟩
    apply e1
    have := Nat.div_add_mod q w
    rw [h1, h2, Nat.mul_comm] at this
    exact this.symm
theorem grid_zero {w : Nat} {g : Nat → Nat → Int} (e : ∀ a b, a < w → b < w → g a b = 0) : grid w g = List.replicate (w * w) 0 := by
  refine list_ext (by rw [length_grid]; simp) fun q hq => ?_
  rw [length_grid] at hq
  have hs := posW hq
  rw [grid, vec_tab hq, show vec (List.replicate (w * w) 0) q = 0 by simp [vec, List.getD_eq_getElem?_getD, hq]]
  exact e _ _ (by rw [Nat.div_lt_iff_lt_mul hs]; exact hq) (Nat.mod_lt _ hs)

/-- The tensor product at a place. -/
def tnF (p : Int) (s t : Nat) (D E : List Int) (a b : Nat) : Int := ((if a % t = b % t then vec D (a / t * s + b / t) else 0) + (if a / t = b / t then vec E (a % t * t + b % t) else 0)) % p
def tnD (p : Int) (s t : Nat) (D E : List Int) : List Int := grid (s * t) (tnF p s t D E)
theorem length_tnD (p : Int) (s t : Nat) (D E : List Int) : (tnD p s t D E).length = s * t * (s * t) := length_grid _ _
/-- While the reference makes it: the rows before (i, k) are done; of this row the first j places of x and l places of y. -/
def tnAt (p : Int) (s t : Nat) (D E : List Int) (i k j l a b : Nat) : Int :=
  if a < i * t + k then tnF p s t D E a b
  else if a = i * t + k then ((if b % t = k ∧ b / t < j then vec D (i * s + b / t) else 0) + (if b / t = i ∧ b % t < l then vec E (k * t + b % t) else 0)) % p else 0
def tnTo (p : Int) (s t : Nat) (D E : List Int) (i k j l : Nat) : List Int := grid (s * t) (tnAt p s t D E i k j l)
theorem length_tnTo (p : Int) (s t : Nat) (D E : List Int) (i k j l : Nat) : (tnTo p s t D E i k j l).length = s * t * (s * t) := length_grid _ _
theorem tn_zero (p : Int) (s t : Nat) (D E : List Int) : tnTo p s t D E 0 0 0 0 = List.replicate (s * t * (s * t)) 0 := grid_zero fun a b ha hb => by
  unfold tnAt
  rw [if_neg (show ¬ a < 0 * t + 0 by omega)]
  split
  · rw [if_neg (show ¬ (b % t = 0 ∧ b / t < 0) from fun h => Nat.not_lt_zero _ h.2), if_neg (show ¬ (b / t = 0 ∧ b % t < 0) from fun h => Nat.not_lt_zero _ h.2)]; simp
  · rfl
theorem tn_idx {s t i k : Nat} (hi : i < s) (hk : k < t) : i * t + k < s * t := by have := row_bd (c := t) hi; omega
theorem tn_cur1 {p : Int} {s t i k j : Nat} {D E : List Int} (hi : i < s) (hk : k < t) (hj : j < s) : vec (tnTo p s t D E i k j 0) ((i * t + k) * (s * t) + (j * t + k)) = 0 := by
  rw [tnTo, vec_grid (tn_idx hi hk) (tn_idx hj hk), tnAt, if_neg (Nat.lt_irrefl _), if_pos rfl, (dm hk).1, (dm hk).2, if_neg (show ¬ (k = k ∧ j < j) by omega), if_neg (show ¬ (j = i ∧ k < 0) by omega)]
  simp
theorem tn_set1 {p : Int} {s t i k j : Nat} {D E : List Int} (hi : i < s) (hk : k < t) (hj : j < s) : (tnTo p s t D E i k j 0).set ((i * t + k) * (s * t) + (j * t + k)) ((0 + vec D (i * s + j)) % p) = tnTo p s t D E i k (j + 1) 0 :=
  grid_set _ (tn_idx hi hk) (tn_idx hj hk) fun a b ha hb => by
    unfold tnAt
    by_cases e : a = i * t + k ∧ b = j * t + k
    · obtain ⟨rfl, rfl⟩ := e
      rw [if_pos ⟨rfl, rfl⟩, if_neg (Nat.lt_irrefl _), if_pos rfl, (dm hk).1, (dm hk).2, if_pos (show k = k ∧ j < j + 1 from ⟨rfl, by omega⟩), if_neg (show ¬ (j = i ∧ k < 0) by omega), Int.add_comm]
    · rw [if_neg e]
      by_cases h : a < i * t + k
      · rw [if_pos h, if_pos h]
      · rw [if_neg h, if_neg h]
        by_cases h2 : a = i * t + k
        · rw [if_pos h2, if_pos h2]
          have hne : ¬ (b % t = k ∧ b / t = j) := fun ⟨h3, h4⟩ => e ⟨h2, by have := Nat.div_add_mod b t; rw [h3, h4, Nat.mul_comm] at this; exact this.symm⟩
          by_cases h3 : b % t = k ∧ b / t < j
          · rw [if_pos h3, if_pos (show b % t = k ∧ b / t < j + 1 by omega)]
          · rw [if_neg h3, if_neg (show ¬ (b % t = k ∧ b / t < j + 1) by omega)]
        · rw [if_neg h2, if_neg h2]
theorem tn_cur2 {p : Int} {s t i k l : Nat} {D E : List Int} (hi : i < s) (hk : k < t) (hl : l < t) : vec (tnTo p s t D E i k s l) ((i * t + k) * (s * t) + (i * t + l)) = (if l = k then vec D (i * s + i) else 0) % p := by
  rw [tnTo, vec_grid (tn_idx hi hk) (tn_idx hi hl), tnAt, if_neg (Nat.lt_irrefl _), if_pos rfl, (dm hl).1, (dm hl).2, if_neg (show ¬ (i = i ∧ l < l) by omega)]
  by_cases e : l = k
  · rw [if_pos (show l = k ∧ i < s from ⟨e, hi⟩), if_pos e]; simp
  · rw [if_neg (show ¬ (l = k ∧ i < s) from fun h => e h.1), if_neg e]; simp
theorem tn_set2 {p : Int} {s t i k l : Nat} {D E : List Int} (hi : i < s) (hk : k < t) (hl : l < t) : (tnTo p s t D E i k s l).set ((i * t + k) * (s * t) + (i * t + l)) (((if l = k then vec D (i * s + i) else 0) % p + vec E (k * t + l)) % p) = tnTo p s t D E i k s (l + 1) :=
  grid_set _ (tn_idx hi hk) (tn_idx hi hl) fun a b ha hb => by
    unfold tnAt
    by_cases e : a = i * t + k ∧ b = i * t + l
    · obtain ⟨rfl, rfl⟩ := e
      rw [if_pos ⟨rfl, rfl⟩, if_neg (Nat.lt_irrefl _), if_pos rfl, (dm hl).1, (dm hl).2, if_pos (show i = i ∧ l < l + 1 from ⟨rfl, by omega⟩), Int.emod_add_emod]
      by_cases e : l = k
      · rw [if_pos (show l = k ∧ i < s from ⟨e, hi⟩), if_pos e]
      · rw [if_neg (show ¬ (l = k ∧ i < s) from fun h => e h.1), if_neg e]
    · rw [if_neg e]
      by_cases h : a < i * t + k
      · rw [if_pos h, if_pos h]
      · rw [if_neg h, if_neg h]
        by_cases h2 : a = i * t + k
        · rw [if_pos h2, if_pos h2]
          have hne : ¬ (b % t = l ∧ b / t = i) := fun ⟨h3, h4⟩ => e ⟨h2, by have := Nat.div_add_mod b t; rw [h3, h4, Nat.mul_comm] at this; exact this.symm⟩
          by_cases h3 : b / t = i ∧ b % t < l
          · rw [if_pos h3, if_pos (show b / t = i ∧ b % t < l + 1 by omega)]
          · rw [if_neg h3, if_neg (show ¬ (b / t = i ∧ b % t < l + 1) by omega)]
        · rw [if_neg h2, if_neg h2]
theorem tn_row {p : Int} {s t i k : Nat} {D E : List Int} (hk : k < t) : tnTo p s t D E i k s t = tnTo p s t D E i (k + 1) 0 0 :=
  grid_congr fun a b ha hb => by
    have ht : 0 < t := by omega
    have hbs : b / t < s := by rw [Nat.div_lt_iff_lt_mul ht]; exact hb
    have hbt := Nat.mod_lt b ht
    unfold tnAt
    by_cases h : a < i * t + k
    · rw [if_pos h, if_pos (show a < i * t + (k + 1) by omega)]
    · rw [if_neg h]
      by_cases h2 : a = i * t + k
      · rw [if_pos h2, if_pos (show a < i * t + (k + 1) by omega), tnF, h2, (dm hk).1, (dm hk).2]
        congr 1
        congr 1
        · by_cases e : b % t = k
          · rw [if_pos ⟨e, hbs⟩, if_pos e.symm]
          · rw [if_neg (fun h => e h.1), if_neg (fun h => e h.symm)]
        · by_cases e : b / t = i
          · rw [if_pos ⟨e, hbt⟩, if_pos e.symm]
          · rw [if_neg (fun h => e h.1), if_neg (fun h => e h.symm)]
      · rw [if_neg h2, if_neg (show ¬ a < i * t + (k + 1) by omega)]
        split
        · rw [if_neg (show ¬ (b % t = k + 1 ∧ b / t < 0) from fun h => Nat.not_lt_zero _ h.2), if_neg (show ¬ (b / t = i ∧ b % t < 0) from fun h => Nat.not_lt_zero _ h.2)]; simp
        · rfl
theorem tn_next (p : Int) (s t i : Nat) (D E : List Int) : tnTo p s t D E i t 0 0 = tnTo p s t D E (i + 1) 0 0 0 :=
  grid_congr fun a b ha hb => by
    have e : i * t + t = (i + 1) * t + 0 := by rw [Nat.succ_mul]; omega
    unfold tnAt
    rw [e]
    split
    · rfl
    · split
      · rw [if_neg (show ¬ (b % t = t ∧ b / t < 0) from fun h => Nat.not_lt_zero _ h.2), if_neg (show ¬ (b / t = i ∧ b % t < 0) from fun h => Nat.not_lt_zero _ h.2), if_neg (show ¬ (b % t = 0 ∧ b / t < 0) from fun h => Nat.not_lt_zero _ h.2), if_neg (show ¬ (b / t = i + 1 ∧ b % t < 0) from fun h => Nat.not_lt_zero _ h.2)]
      · rfl
theorem tn_end (p : Int) (s t : Nat) (D E : List Int) : tnTo p s t D E s 0 0 0 = tnD p s t D E :=
  grid_congr fun a b ha hb => by
    unfold tnAt
    rw [if_pos (by omega)]
/-- While the program makes it: the first q cells are done. -/
def tnQ (p : Int) (s t : Nat) (D E : List Int) (q : Nat) : List Int := tab (s * t * (s * t)) fun x => if x < q then tnF p s t D E (x / (s * t)) (x % (s * t)) else 0
theorem length_tnQ (p : Int) (s t : Nat) (D E : List Int) (q : Nat) : (tnQ p s t D E q).length = s * t * (s * t) := length_tab _ _
theorem tnQ_zero (p : Int) (s t : Nat) (D E : List Int) : tnQ p s t D E 0 = List.replicate (s * t * (s * t)) 0 := by
  refine list_ext (by rw [length_tnQ]; simp) fun q hq => ?_
  rw [length_tnQ] at hq
  rw [tnQ, vec_tab hq, show vec (List.replicate (s * t * (s * t)) 0) q = 0 by simp [vec, List.getD_eq_getElem?_getD, hq], if_neg (by omega)]
theorem tnQ_set {p : Int} {s t r c : Nat} {D E : List Int} (hc : c < s * t) : (tnQ p s t D E (r * (s * t) + c)).set (r * (s * t) + c) (tnF p s t D E r c) = tnQ p s t D E (r * (s * t) + (c + 1)) := by
  rw [tnQ, tab_set, tnQ]
  refine tab_congr fun q hq => ?_
  by_cases e : q = r * (s * t) + c
  · rw [if_pos e, if_pos (by omega), e, (dm hc).1, (dm hc).2]
  · rw [if_neg e]
    by_cases h : q < r * (s * t) + c
    · rw [if_pos h, if_pos (by omega)]
    · rw [if_neg h, if_neg (by omega)]
theorem tnQ_row (p : Int) (s t : Nat) (D E : List Int) (r : Nat) : tnQ p s t D E (r * (s * t) + s * t) = tnQ p s t D E ((r + 1) * (s * t) + 0) := by
  rw [Nat.succ_mul, Nat.add_zero]
theorem tnQ_end (p : Int) (s t : Nat) (D E : List Int) : tnQ p s t D E (s * t * (s * t) + 0) = tnD p s t D E :=
  tab_congr fun q hq => if_pos (by omega)
theorem tnF_ok {p : Int} (hp : 2 ≤ p) (s t : Nat) (D E : List Int) (a b : Nat) : 0 ≤ tnF p s t D E a b ∧ tnF p s t D E a b < p := ⟨Int.emod_nonneg _ (by omega), Int.emod_lt_of_pos _ (by omega)⟩

def tmOk (p n : Int) (T : List Int) (ms ns : List Mt) : Bool := isMod p n T ms && (isMod p n T ns && decide ((mAt ms 0).r * (mAt ns 0).r ≤ 30))
def tmMt (p : Int) (s t : Nat) (ms ns : List Mt) (i : Nat) : Mt := ⟨p, (s * t : Nat), (s * t : Nat), tnD p s t (mAt ms i).d (mAt ns i).d⟩
def tmL (p : Int) (s t N : Nat) (ms ns : List Mt) : List Mt := (List.range N).map (tmMt p s t ms ns)
def tmMs (p n : Int) (T : List Int) (ms ns : List Mt) : List Mt := if tmOk p n T ms ns then tmL p (mAt ms 0).r.toNat (mAt ns 0).r.toNat n.toNat ms ns else []
theorem length_tmL (p : Int) (s t N : Nat) (ms ns : List Mt) : (tmL p s t N ms ns).length = N := by simp [tmL]
theorem tmL_take (p : Int) (s t N : Nat) (ms ns : List Mt) (i : Nat) (h : i < N) : (tmL p s t N ms ns).take (i + 1) = (tmL p s t N ms ns).take i ++ [tmMt p s t ms ns i] := by
  rw [List.take_succ_eq_append_getElem (by rw [length_tmL]; exact h)]
  simp [tmL]
theorem dLen_le4 (ms : List Mt) (k : Nat) (h : ∀ m ∈ ms, m.d.length ≤ k) : dLen ms ≤ ms.length * k := by
  induction ms with
  | nil => simp [dLen]
  | cons m ms ih =>
    have h1 := ih fun x hx => h x (by simp [hx])
    have h2 := h m (by simp)
    rw [dLen, List.length_cons, Nat.add_mul]; omega
theorem tmMs_bd (p n : Int) (T : List Int) (ms ns : List Mt) : markMsLen (tmMs p n T ms ns) ≤ 25284 := by
  by_cases h : tmOk p n T ms ns = true
  · rw [tmMs, if_pos h]
    simp only [tmOk, Bool.and_eq_true, decide_eq_true_eq] at h
    obtain ⟨b1, b2, b3⟩ := h
    obtain ⟨N, s, rfl, hln, hN0, hs, hs30, hA, hM⟩ := isMod_all b1
    obtain ⟨N2, t2, hn2, hln2, _, ht2, ht30, _, hM2⟩ := isMod_all b2
    obtain ⟨N', e, hN, _⟩ := algOk_spec hA
    rw [hs, ht2, ← Int.natCast_mul] at b3
    rw [hs, ht2, Int.toNat_natCast, Int.toNat_natCast, Int.toNat_natCast]
    have hd := dLen_le4 (tmL p s t2 N ms ns) (30 * 30) fun x hx => by
      obtain ⟨i, _, rfl⟩ := List.mem_map.1 hx
      show (tnD p s t2 _ _).length ≤ _
      rw [length_tnD]
      exact mul_le (by omega) (by omega)
    unfold markMsLen
    rw [length_tmL] at hd ⊢
    have h2 : N * (30 * 30) ≤ 28 * 900 := Nat.mul_le_mul (by omega) (Nat.le_refl _)
    omega
  · rw [tmMs, if_neg h]; simp [markMsLen, dLen]
end Go.Proofs.Ytechjmckfedblaa
