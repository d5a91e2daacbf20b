/- Block matrices: the plain law of the sum of modules. -/
import Derived.Test.YtphnlmgliaelpaaTrans
import Derived.Test.YtphnlmgliaelpaaToMs
namespace Go.Proofs.Ytphnlmgliaelpaa
set_option maxRecDepth 100000
open Go.RowKit

/-- Blocks while they are made: i rows of the first one and j places more, i2 rows of the second one and j2 places more. -/
def bAt (s t : Nat) (D E : List Int) (i j i2 j2 r c : Nat) : Int :=
  if r < s then (if c < s ∧ (r < i ∨ (r = i ∧ c < j)) then vec D (r * s + c) else 0)
  else (if s ≤ c ∧ (r - s < i2 ∨ (r - s = i2 ∧ c - s < j2)) then vec E ((r - s) * t + (c - s)) else 0)
def bTo (s t : Nat) (D E : List Int) (i j i2 j2 : Nat) : List Int := tab ((s + t) * (s + t)) fun q => bAt s t D E i j i2 j2 (q / (s + t)) (q % (s + t))
def bD (s t : Nat) (D E : List Int) : List Int := bTo s t D E s 0 t 0
theorem length_bTo (s t : Nat) (D E : List Int) (i j i2 j2 : Nat) : (bTo s t D E i j i2 j2).length = (s + t) * (s + t) := length_tab _ _
theorem bAt_zero (s t : Nat) (D E : List Int) (r c : Nat) : bAt s t D E 0 0 0 0 r c = 0 := by
  unfold bAt
  split
  · exact if_neg (by omega)
  · exact if_neg (by omega)
theorem bTo_zero (s t : Nat) (D E : List Int) : bTo s t D E 0 0 0 0 = List.replicate ((s + t) * (s + t)) 0 := by
  refine list_ext (by rw [length_bTo]; simp) fun q hq => ?_
  rw [length_bTo] at hq
  rw [bTo, vec_tab hq, show vec (List.replicate ((s + t) * (s + t)) 0) q = 0 by simp [vec, List.getD_eq_getElem?_getD, hq]]
  exact bAt_zero _ _ _ _ _ _
theorem bTo_congr {s t : Nat} {D E : List Int} {i j i2 j2 i' j' i2' j2' : Nat} (h : ∀ r c, r < s + t → c < s + t → bAt s t D E i j i2 j2 r c = bAt s t D E i' j' i2' j2' r c) : bTo s t D E i j i2 j2 = bTo s t D E i' j' i2' j2' := by
  refine tab_congr fun q hq => ?_
  have hs := pos_of hq
  exact h _ _ (by rw [Nat.div_lt_iff_lt_mul hs]; exact hq) (Nat.mod_lt _ hs)
theorem bTo_set {s t r c : Nat} {D E : List Int} {i j i2 j2 i' j' i2' j2' : Nat} (x : Int) (_hr : r < s + t) (hc : c < s + t) (h : ∀ a b, a < s + t → b < s + t → (if a = r ∧ b = c then x else bAt s t D E i j i2 j2 a b) = bAt s t D E i' j' i2' j2' a b) :
    (bTo s t D E i j i2 j2).set (r * (s + t) + c) x = bTo s t D E i' j' i2' j2' := by
  rw [bTo, tab_set, bTo]
  refine tab_congr fun q hq => ?_
  have hs := pos_of hq
  rw [← h _ _ (by rw [Nat.div_lt_iff_lt_mul hs]; exact hq) (Nat.mod_lt _ hs)]
  by_cases e : q = r * (s + t) + c
  · have h1 : q % (s + t) = c := by rw [e, Nat.add_comm, Nat.add_mul_mod_self_right, Nat.mod_eq_of_lt hc]
    have h2 : q / (s + t) = r := by rw [e, Nat.add_comm, Nat.add_mul_div_right _ _ hs, Nat.div_eq_of_lt hc, Nat.zero_add]
    rw [if_pos e, if_pos ⟨h2, h1⟩]
  · rw [if_neg e, if_neg]
    rintro ⟨h1, h2⟩
    apply e
    have := Nat.div_add_mod q (s + t)
    rw [h1, h2, Nat.mul_comm] at this
    exact this.symm
theorem bTo_set1 {s t i j : Nat} (D E : List Int) (hi : i < s) (hj : j < s) : (bTo s t D E i j 0 0).set (i * (s + t) + j) (vec D (i * s + j)) = bTo s t D E i (j + 1) 0 0 :=
  bTo_set _ (by omega) (by omega) fun a b ha hb => by
    unfold bAt
    by_cases e : a = i ∧ b = j
    · obtain ⟨rfl, rfl⟩ := e
      rw [if_pos ⟨rfl, rfl⟩, if_pos hi, if_pos ⟨hj, by omega⟩]
    · rw [if_neg e]
      by_cases h : a < s
      · rw [if_pos h, if_pos h]
        by_cases h2 : b < s ∧ (a < i ∨ (a = i ∧ b < j))
        · rw [if_pos h2, if_pos (by omega)]
        · rw [if_neg h2, if_neg (by omega)]
      · rw [if_neg h, if_neg h]
theorem bTo_row1 (s t : Nat) (D E : List Int) (i : Nat) : bTo s t D E i s 0 0 = bTo s t D E (i + 1) 0 0 0 :=
  bTo_congr fun a b ha hb => by
    unfold bAt
    by_cases h : a < s
    · rw [if_pos h, if_pos h]
      by_cases h2 : b < s ∧ (a < i ∨ (a = i ∧ b < s))
      · rw [if_pos h2, if_pos (by omega)]
      · rw [if_neg h2, if_neg (by omega)]
    · rw [if_neg h, if_neg h]
theorem bTo_set2 {s t i j : Nat} (D E : List Int) (hi : i < t) (hj : j < t) : (bTo s t D E s 0 i j).set ((s + i) * (s + t) + s + j) (vec E (i * t + j)) = bTo s t D E s 0 i (j + 1) := by
  rw [Nat.add_assoc]
  refine bTo_set _ (by omega) (by omega) fun a b ha hb => ?_
  unfold bAt
  by_cases e : a = s + i ∧ b = s + j
  · obtain ⟨rfl, rfl⟩ := e
    rw [if_pos ⟨rfl, rfl⟩, if_neg (by omega), if_pos ⟨by omega, by omega⟩, Nat.add_sub_cancel_left, Nat.add_sub_cancel_left]
  · rw [if_neg e]
    by_cases h : a < s
    · rw [if_pos h, if_pos h]
    · rw [if_neg h, if_neg h]
      by_cases h2 : s ≤ b ∧ (a - s < i ∨ (a - s = i ∧ b - s < j))
      · rw [if_pos h2, if_pos (by omega)]
      · rw [if_neg h2, if_neg (by omega)]
theorem bTo_row2 (s t : Nat) (D E : List Int) (i : Nat) : bTo s t D E s 0 i t = bTo s t D E s 0 (i + 1) 0 :=
  bTo_congr fun a b ha hb => by
    unfold bAt
    by_cases h : a < s
    · rw [if_pos h, if_pos h]
    · rw [if_neg h, if_neg h]
      by_cases h2 : s ≤ b ∧ (a - s < i ∨ (a - s = i ∧ b - s < t))
      · rw [if_pos h2, if_pos (by omega)]
      · rw [if_neg h2, if_neg (by omega)]

def smOk (p n : Int) (T : List Int) (ms ns : List Mt) : Bool := isMod p n T ms && (isMod p n T ns && decide ((mAt ms 0).r + (mAt ns 0).r ≤ 30))
def smMt (p : Int) (s t : Nat) (ms ns : List Mt) (i : Nat) : Mt := ⟨p, (s + t : Nat), (s + t : Nat), bD s t (mAt ms i).d (mAt ns i).d⟩
def smL (p : Int) (s t N : Nat) (ms ns : List Mt) : List Mt := (List.range N).map (smMt p s t ms ns)
def smMs (p n : Int) (T : List Int) (ms ns : List Mt) : List Mt := if smOk p n T ms ns then smL p (mAt ms 0).r.toNat (mAt ns 0).r.toNat n.toNat ms ns else []
theorem length_smL (p : Int) (s t N : Nat) (ms ns : List Mt) : (smL p s t N ms ns).length = N := by simp [smL]
theorem smL_take (p : Int) (s t N : Nat) (ms ns : List Mt) (i : Nat) (h : i < N) : (smL p s t N ms ns).take (i + 1) = (smL p s t N ms ns).take i ++ [smMt p s t ms ns i] := by
  rw [List.take_succ_eq_append_getElem (by rw [length_smL]; exact h)]
  simp [smL]
/-- What the walks want of a module. -/
theorem isMod_all {p n : Int} {T : List Int} {ms : List Mt} (h : isMod p n T ms = true) : ∃ (N s : Nat), n = N ∧ ms.length = N ∧ 0 < N ∧ (mAt ms 0).r = s ∧ s ≤ 30 ∧ algOk p N T = true ∧
    ∀ i, i < ms.length → (mAt ms i).p = p ∧ (mAt ms i).r = s ∧ (mAt ms i).c = s ∧ (mAt ms i).d.length = s * s ∧ resid p (mAt ms i).d = true := by
  obtain ⟨N, s, m0, l, rfl, rfl, hl, h1, h2, h3, h4⟩ := isMod_spec h
  refine ⟨N, s, rfl, hl, by simp at hl; omega, h1, h2, h3, fun i hi => ?_⟩
  rw [← mAt_get hi]
  exact h4 i hi
end Go.Proofs.Ytphnlmgliaelpaa
