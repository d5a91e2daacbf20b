/- The table of an algebra with a derivation, as plain lists. -/
import Derived.Test.YtcdbgcpccmcbeaaTbl
import Derived.Test.YtcdbgcpccmcbeaaDerA
namespace Go.Proofs.Ytcdbgcpccmcbeaa
set_option maxRecDepth 100000
open Go.RowKit

/-- A table in the corner of one that is greater by one, while it is made. -/
def grF (n : Nat) (T : List Int) (i j k a b c : Nat) : Int := if (a < n ∧ b < n ∧ c < n) ∧ (a < i ∨ (a = i ∧ (b < j ∨ (b = j ∧ c < k)))) then t3 T n a b c else 0
def grTo (n : Nat) (T : List Int) (i j k : Nat) : List Int := tabT (n + 1) (grF n T i j k)
theorem length_grTo (n : Nat) (T : List Int) (i j k : Nat) : (grTo n T i j k).length = (n + 1) * (n + 1) * (n + 1) := length_tabT _ _
theorem grTo_zero (n : Nat) (T : List Int) : grTo n T 0 0 0 = List.replicate ((n + 1) * (n + 1) * (n + 1)) 0 :=
  tabT_ext (length_grTo _ _ _ _ _) (by simp) fun a b c ha hb hc => by
    rw [grTo, vec_tabT ha hb hc, grF, if_neg (by omega)]
    simp [vec, List.getD_eq_getElem?_getD, idx3_bd ha hb hc]
theorem grTo_congr {n : Nat} {T : List Int} {i j k i' j' k' : Nat} (h : ∀ a b c, grF n T i j k a b c = grF n T i' j' k' a b c) : grTo n T i j k = grTo n T i' j' k' :=
  tabT_ext (length_grTo _ _ _ _ _) (length_grTo _ _ _ _ _) fun a b c ha hb hc => by rw [grTo, grTo, vec_tabT ha hb hc, vec_tabT ha hb hc, h a b c]
theorem grTo_set {n : Nat} {T : List Int} {i j k : Nat} (hi : i < n) (hj : j < n) (hk : k < n) :
    (grTo n T i j k).set ((i * (n + 1) + j) * (n + 1) + k) (t3 T n i j k) = grTo n T i j (k + 1) := by
  have l1 := idx3_bd (show i < n + 1 by omega) (show j < n + 1 by omega) (show k < n + 1 by omega)
  refine tabT_ext (by rw [List.length_set, length_grTo]) (length_grTo _ _ _ _ _) fun a b c ha hb hc => ?_
  rw [vec_set (by rw [length_grTo]; exact l1), grTo, vec_tabT ha hb hc, grTo, vec_tabT ha hb hc]
  by_cases e1 : (a * (n + 1) + b) * (n + 1) + c = (i * (n + 1) + j) * (n + 1) + k
  · obtain ⟨rfl, rfl, rfl⟩ := (inj3 hb hc (show j < n + 1 by omega) (show k < n + 1 by omega)).1 e1
    rw [if_pos rfl, grF, if_pos (by omega)]
  · rw [if_neg e1]
    rw [inj3 hb hc (show j < n + 1 by omega) (show k < n + 1 by omega)] at e1
    unfold grF
    exact iteC (by omega) rfl rfl
theorem grTo_row (n : Nat) (T : List Int) (i j : Nat) : grTo n T i j n = grTo n T i (j + 1) 0 := grTo_congr fun a b c => by unfold grF; exact iteC (by omega) rfl rfl
theorem grTo_next (n : Nat) (T : List Int) (i : Nat) : grTo n T i n 0 = grTo n T (i + 1) 0 0 := grTo_congr fun a b c => by unfold grF; exact iteC (by omega) rfl rfl
theorem grTo_last (n : Nat) (T : List Int) : (grTo n T n 0 0).set ((n * (n + 1) + n) * (n + 1) + n) 0 = grTo n T n 0 0 := by
  have l1 := idx3_bd (show n < n + 1 by omega) (show n < n + 1 by omega) (show n < n + 1 by omega)
  refine tabT_ext (by rw [List.length_set, length_grTo]) (length_grTo _ _ _ _ _) fun a b c ha hb hc => ?_
  rw [vec_set (by rw [length_grTo]; exact l1), grTo, vec_tabT ha hb hc]
  by_cases e1 : (a * (n + 1) + b) * (n + 1) + c = (n * (n + 1) + n) * (n + 1) + n
  · obtain ⟨rfl, rfl, rfl⟩ := (inj3 hb hc (show n < n + 1 by omega) (show n < n + 1 by omega)).1 e1
    rw [if_pos rfl, grF, if_neg (by omega)]
  · rw [if_neg e1]

/-- The table with the derivation, while it is made. -/
def sdE (p : Int) (n : Nat) (T D : List Int) (j k a b c : Nat) : Int :=
  if (a = n ∧ b < n ∧ c < n) ∧ (b < j ∨ (b = j ∧ c < k)) then vec D (b * n + c)
  else if (b = n ∧ a < n ∧ c < n) ∧ (a < j ∨ (a = j ∧ c < k)) then (-(vec D (a * n + c))) % p
  else grF n T n 0 0 a b c
def sdTo (p : Int) (n : Nat) (T D : List Int) (j k : Nat) : List Int := tabT (n + 1) (sdE p n T D j k)
theorem length_sdTo (p : Int) (n : Nat) (T D : List Int) (j k : Nat) : (sdTo p n T D j k).length = (n + 1) * (n + 1) * (n + 1) := length_tabT _ _
theorem sdTo_zero (p : Int) (n : Nat) (T D : List Int) : sdTo p n T D 0 0 = grTo n T n 0 0 :=
  tabT_ext (length_sdTo _ _ _ _ _ _) (length_grTo _ _ _ _ _) fun a b c ha hb hc => by
    rw [sdTo, vec_tabT ha hb hc, grTo, vec_tabT ha hb hc, sdE, if_neg (by omega), if_neg (by omega)]
theorem sdTo_row (p : Int) (n : Nat) (T D : List Int) (j : Nat) : sdTo p n T D j n = sdTo p n T D (j + 1) 0 :=
  tabT_ext (length_sdTo _ _ _ _ _ _) (length_sdTo _ _ _ _ _ _) fun a b c ha hb hc => by
    rw [sdTo, vec_tabT ha hb hc, sdTo, vec_tabT ha hb hc]
    unfold sdE
    exact iteC (by omega) rfl (iteC (by omega) rfl rfl)
theorem sdTo_set {p : Int} {n : Nat} {T D : List Int} {j k : Nat} (hj : j < n) (hk : k < n) :
    ((sdTo p n T D j k).set ((n * (n + 1) + j) * (n + 1) + k) (vec D (j * n + k))).set ((j * (n + 1) + n) * (n + 1) + k) ((-(vec D (j * n + k))) % p) = sdTo p n T D j (k + 1) := by
  have l1 := idx3_bd (show n < n + 1 by omega) (show j < n + 1 by omega) (show k < n + 1 by omega)
  have l2 := idx3_bd (show j < n + 1 by omega) (show n < n + 1 by omega) (show k < n + 1 by omega)
  refine tabT_ext (by rw [List.length_set, List.length_set, length_sdTo]) (length_sdTo _ _ _ _ _ _) fun a b c ha hb hc => ?_
  rw [vec_set (by rw [List.length_set, length_sdTo]; exact l2), vec_set (by rw [length_sdTo]; exact l1), sdTo, vec_tabT ha hb hc, sdTo, vec_tabT ha hb hc]
  by_cases e1 : (a * (n + 1) + b) * (n + 1) + c = (j * (n + 1) + n) * (n + 1) + k
  · obtain ⟨rfl, rfl, rfl⟩ := (inj3 hb hc (show n < n + 1 by omega) (show k < n + 1 by omega)).1 e1
    rw [if_pos rfl, sdE, if_neg (by omega), if_pos (by omega)]
  · rw [if_neg e1]
    rw [inj3 hb hc (show n < n + 1 by omega) (show k < n + 1 by omega)] at e1
    by_cases e2 : (a * (n + 1) + b) * (n + 1) + c = (n * (n + 1) + j) * (n + 1) + k
    · obtain ⟨rfl, rfl, rfl⟩ := (inj3 hb hc (show j < n + 1 by omega) (show k < n + 1 by omega)).1 e2
      rw [if_pos rfl, sdE, if_pos (by omega)]
    · rw [if_neg e2]
      rw [inj3 hb hc (show j < n + 1 by omega) (show k < n + 1 by omega)] at e2
      unfold sdE
      exact iteC (by omega) rfl (iteC (by omega) rfl rfl)
/-- The brackets that the program gives to tableBy. -/
def sdF (n : Nat) (T D : List Int) (i j : Nat) : List Int := if i = n then rowM n D j else rowT T n i j
theorem vec_rowT' {T : List Int} {n i j c : Nat} : vec (rowT T n i j) c = if c < n then t3 T n i j c else 0 := by
  by_cases h : c < n
  · rw [if_pos h, rowT, vec_tab h]
  · rw [if_neg h, vec_out (by rw [rowT, length_tab]; omega)]
theorem vec_rowM' {D : List Int} {n j c : Nat} : vec (rowM n D j) c = if c < n then vec D (j * n + c) else 0 := by
  by_cases h : c < n
  · rw [if_pos h, rowM, vec_tab h]
  · rw [if_neg h, vec_out (by rw [rowM, length_tab]; omega)]
theorem sd_both {p : Int} {n : Nat} {T : List Int} (D : List Int) (hA : algOk p n T = true) (hp : 2 ≤ p) (rT : resid p T = true) : sdTo p n T D n 0 = tbL p (n + 1) (sdF n T D) :=
  tabT_ext (length_sdTo _ _ _ _ _ _) (length_tbL _ _ _) fun a b c ha hb hc => by
    rw [sdTo, vec_tabT ha hb hc, tbL, vec_tabT ha hb hc, tbG]
    by_cases h1 : b < a
    · rw [if_pos h1, sdF]
      by_cases ea : a = n
      · rw [if_pos ea, vec_rowM']
        by_cases ec : c < n
        · rw [if_pos ec, sdE, if_pos (by omega)]
        · rw [if_neg ec, sdE, if_neg (by omega), if_neg (by omega), grF, if_neg (by omega)]
      · rw [if_neg ea, vec_rowT', sdE, if_neg (by omega), if_neg (by omega), grF]
        exact iteC (by omega) rfl rfl
    · rw [if_neg h1]
      by_cases h2 : a < b
      · rw [if_pos h2, sdF]
        by_cases eb : b = n
        · rw [if_pos eb, vec_rowM']
          by_cases ec : c < n
          · rw [if_pos ec, sdE, if_neg (by omega), if_pos (by omega)]
          · rw [if_neg ec, sdE, if_neg (by omega), if_neg (by omega), grF, if_neg (by omega)]; simp
        · rw [if_neg eb, vec_rowT', sdE, if_neg (by omega), if_neg (by omega), grF]
          by_cases ec : c < n
          · rw [if_pos ec, if_pos (by omega)]
            exact rowT_neg (anti_of hA) rT hp (by omega) (by omega) ec
          · rw [if_neg ec, if_neg (by omega)]; simp
      · rw [if_neg h2, sdE, if_neg (by omega), if_neg (by omega), grF]
        obtain rfl : a = b := by omega
        by_cases e : a < n ∧ c < n
        · rw [if_pos (by omega)]; exact diag_of hA _ c e.1 e.2
        · rw [if_neg (by omega)]
/-- What SemidirectBy answers. -/
def sdOk (p n : Int) (T : List Int) (q r c : Int) (D : List Int) : Bool := isDer p n T q r c D && decide (n + 1 ≤ 28)
def sdP (p n : Int) (T : List Int) (q r c : Int) (D : List Int) : Int := if sdOk p n T q r c D then p else 0
def sdN (p n : Int) (T : List Int) (q r c : Int) (D : List Int) : Int := if sdOk p n T q r c D then n + 1 else 0
def sdT (p n : Int) (T : List Int) (q r c : Int) (D : List Int) : List Int := if sdOk p n T q r c D then tbL p (n.toNat + 1) (sdF n.toNat T D) else []
theorem sd_spec {p n q r c : Int} {T D : List Int} (h : isDer p n T q r c D = true) : ∃ m : Nat, n = m ∧ m ≤ 28 ∧ q = p ∧ r = m ∧ c = m ∧ algOk p m T = true ∧ T.length = m * m * m ∧ resid p T = true ∧ D.length = m * m ∧ resid p D = true ∧ 2 ≤ p ∧ p ≤ 10007 ∧ isPrime p = true := by
  simp only [isDer, Bool.and_eq_true] at h
  obtain ⟨h1, h2, -⟩ := h
  obtain ⟨m, rfl, k1, k2, k3, k4, k5, k6⟩ := algOk_spec h1
  obtain ⟨e1, e2, e3, f1⟩ := formOk_spec h2
  subst e1; subst e2; subst e3
  obtain ⟨a, b, ea, eb, _, _, f2, f3, _, _, f4⟩ := matOk_spec f1
  have ea' : a = m := by omega
  have eb' : b = m := by omega
  subst ea'; subst eb'
  exact ⟨_, rfl, k1, rfl, rfl, rfl, h1, k2, k3, f2, f3, k4, k5, k6⟩
theorem sdT_bd (p n : Int) (T : List Int) (q r c : Int) (D : List Int) : (sdT p n T q r c D).length ≤ 21952 := by
  unfold sdT
  by_cases h : sdOk p n T q r c D = true
  · rw [if_pos h]
    simp only [sdOk, Bool.and_eq_true, decide_eq_true_eq] at h
    rw [length_tbL]
    have h9 : n.toNat + 1 ≤ 28 := by omega
    have := mul_le (mul_le h9 h9) h9
    omega
  · rw [if_neg h]; simp
end Go.Proofs.Ytcdbgcpccmcbeaa
