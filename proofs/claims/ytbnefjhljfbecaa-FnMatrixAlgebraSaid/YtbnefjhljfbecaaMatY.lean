/- Commutators of square matrices obey the law of Jacobi; so do their coordinates (plain). Algebras of matrices: the brackets' coordinates make an algebra (plain). The algebra of matrices: what both programs answer, and the law's sums (plain). -/
import Derived.Test.YtbnefjhljfbecaaBase
import Derived.Test.YtbnefjhljfbecaaTbl
import Derived.Test.YtbnefjhljfbecaaMulE
import Derived.Test.YtbnefjhljfbecaaChgP
namespace Go.Proofs.Ytbnefjhljfbecaa
set_option maxRecDepth 100000
section
namespace Mx

/-- The product of two matrices, as functions. -/
def mm (s : Nat) (A B : Nat → Nat → Int) (a b : Nat) : Int := sumTo s fun t => A a t * B t b
/-- The commutator. -/
def cm (s : Nat) (A B : Nat → Nat → Int) (a b : Nat) : Int := mm s A B a b - mm s B A a b
theorem sumTo_sub (n : Nat) (f g : Nat → Int) : sumTo n (fun i => f i - g i) = sumTo n f - sumTo n g := by
  have h : (fun i => f i - g i) = fun i => f i + - g i := by funext i; omega
  rw [h, sumTo_add, sumTo_neg]
  omega
theorem mm_assoc (s : Nat) (A B C : Nat → Nat → Int) (a b : Nat) : mm s (mm s A B) C a b = mm s A (mm s B C) a b := by
  unfold mm
  have h1 : (fun t => sumTo s (fun u => A a u * B u t) * C t b) = fun t => sumTo s fun u => A a u * (B u t * C t b) := by
    funext t
    rw [← sumTo_mul_right]
    exact sumTo_congr fun u _ => Int.mul_assoc _ _ _
  rw [h1, sumTo_comm]
  exact sumTo_congr fun u _ => sumTo_mul s _ _
theorem mm_sub_left (s : Nat) (A B C : Nat → Nat → Int) (a b : Nat) : mm s (fun a b => A a b - B a b) C a b = mm s A C a b - mm s B C a b := by
  unfold mm
  rw [← sumTo_sub]
  exact sumTo_congr fun t _ => Int.sub_mul _ _ _
theorem mm_sub_right (s : Nat) (A B C : Nat → Nat → Int) (a b : Nat) : mm s C (fun a b => A a b - B a b) a b = mm s C A a b - mm s C B a b := by
  unfold mm
  rw [← sumTo_sub]
  exact sumTo_congr fun t _ => Int.mul_sub _ _ _
theorem cm2 (s : Nat) (A B C : Nat → Nat → Int) (a b : Nat) : cm s (cm s A B) C a b = mm s (mm s A B) C a b - mm s (mm s B A) C a b - (mm s (mm s C A) B a b - mm s (mm s C B) A a b) := by
  have h1 : cm s (cm s A B) C a b = mm s (fun a b => mm s A B a b - mm s B A a b) C a b - mm s C (fun a b => mm s A B a b - mm s B A a b) a b := rfl
  rw [h1, mm_sub_left, mm_sub_right, mm_assoc s C A B, mm_assoc s C B A]
theorem jacobi (s : Nat) (A B C : Nat → Nat → Int) (a b : Nat) : cm s (cm s A B) C a b + cm s (cm s B C) A a b + cm s (cm s C A) B a b = 0 := by
  rw [cm2, cm2, cm2]
  omega
theorem cm_anti (s : Nat) (A B : Nat → Nat → Int) (a b : Nat) : cm s A B a b + cm s B A a b = 0 := by unfold cm; omega
theorem cm_self (s : Nat) (A : Nat → Nat → Int) (a b : Nat) : cm s A A a b = 0 := by unfold cm; omega
theorem mm_lin_left (s n : Nat) (x : Nat → Int) (S : Nat → Nat → Nat → Int) (C : Nat → Nat → Int) (a b : Nat) : mm s (fun a b => sumTo n fun l => x l * S l a b) C a b = sumTo n fun l => x l * mm s (S l) C a b := by
  unfold mm
  have h1 : (fun t => sumTo n (fun l => x l * S l a t) * C t b) = fun t => sumTo n fun l => x l * (S l a t * C t b) := by
    funext t
    rw [← sumTo_mul_right]
    exact sumTo_congr fun u _ => Int.mul_assoc _ _ _
  rw [h1, sumTo_comm]
  exact sumTo_congr fun l _ => sumTo_mul s _ _
theorem mm_lin_right (s n : Nat) (x : Nat → Int) (S : Nat → Nat → Nat → Int) (C : Nat → Nat → Int) (a b : Nat) : mm s C (fun a b => sumTo n fun l => x l * S l a b) a b = sumTo n fun l => x l * mm s C (S l) a b := by
  unfold mm
  have h1 : (fun t => C a t * sumTo n (fun l => x l * S l t b)) = fun t => sumTo n fun l => x l * (C a t * S l t b) := by
    funext t
    rw [← sumTo_mul]
    exact sumTo_congr fun u _ => by rw [← Int.mul_assoc, Int.mul_comm (C a t), Int.mul_assoc]
  rw [h1, sumTo_comm]
  exact sumTo_congr fun l _ => sumTo_mul s _ _
theorem cm_lin (s n : Nat) (x : Nat → Int) (S : Nat → Nat → Nat → Int) (C : Nat → Nat → Int) (a b : Nat) : cm s (fun a b => sumTo n fun l => x l * S l a b) C a b = sumTo n fun l => x l * cm s (S l) C a b := by
  unfold cm
  rw [mm_lin_left, mm_lin_right, ← sumTo_sub]
  exact sumTo_congr fun l _ => (Int.mul_sub _ _ _).symm
theorem dvd_sum {p : Int} {n : Nat} {f : Nat → Int} (h : ∀ i, i < n → p ∣ f i) : p ∣ sumTo n f := by
  induction n with
  | zero => exact Int.dvd_zero p
  | succ n ih => exact Int.dvd_add (ih fun i hi => h i (by omega)) (h n (by omega))
theorem mm_congr_left {p : Int} {s : Nat} {A A' B : Nat → Nat → Int} (h : ∀ a b, a < s → b < s → p ∣ A a b - A' a b) {a b : Nat} (ha : a < s) : p ∣ mm s A B a b - mm s A' B a b := by
  rw [← mm_sub_left]
  exact dvd_sum fun t ht => Int.dvd_mul_of_dvd_left' (h a t ha ht)
where
  Int.dvd_mul_of_dvd_left' {p x y : Int} (h : p ∣ x) : p ∣ x * y := Int.dvd_trans h (Int.dvd_mul_right x y)
theorem mm_congr_right {p : Int} {s : Nat} {A A' B : Nat → Nat → Int} (h : ∀ a b, a < s → b < s → p ∣ A a b - A' a b) {a b : Nat} (hb : b < s) : p ∣ mm s B A a b - mm s B A' a b := by
  rw [← mm_sub_right]
  exact dvd_sum fun t ht => Int.dvd_trans (h t b ht hb) (Int.dvd_mul_left _ _)
theorem cm_congr {p : Int} {s : Nat} {A A' B : Nat → Nat → Int} (h : ∀ a b, a < s → b < s → p ∣ A a b - A' a b) {a b : Nat} (ha : a < s) (hb : b < s) : p ∣ cm s A B a b - cm s A' B a b := by
  have h1 := mm_congr_left (B := B) h (b := b) ha
  have h2 := mm_congr_right (B := B) h (a := a) hb
  have := Int.dvd_sub h1 h2
  unfold cm
  have e : mm s A B a b - mm s A' B a b - (mm s B A a b - mm s B A' a b) = mm s A B a b - mm s B A a b - (mm s A' B a b - mm s B A' a b) := by omega
  rwa [e] at this
/-- One term of Jacobi's law, in coordinates. -/
theorem term {p : Int} {n s : Nat} {S : Nat → Nat → Nat → Int} {c : Nat → Nat → Nat → Int} (hc : ∀ i j, i < n → j < n → ∀ a b, a < s → b < s → p ∣ cm s (S i) (S j) a b - sumTo n fun l => c i j l * S l a b)
    {i j k : Nat} (hi : i < n) (hj : j < n) (hk : k < n) {a b : Nat} (ha : a < s) (hb : b < s) :
    p ∣ cm s (cm s (S i) (S j)) (S k) a b - sumTo n fun m => (sumTo n fun l => c i j l * c l k m) * S m a b := by
  have h1 := cm_congr (B := S k) (hc i j hi hj) ha hb
  rw [cm_lin] at h1
  have h2 : p ∣ sumTo n (fun l => c i j l * (cm s (S l) (S k) a b - sumTo n fun m => c l k m * S m a b)) := dvd_sum fun l hl => Int.dvd_trans (hc l k hl hk a b ha hb) (Int.dvd_mul_left _ _)
  have e1 : sumTo n (fun l => c i j l * (cm s (S l) (S k) a b - sumTo n fun m => c l k m * S m a b)) = sumTo n (fun l => c i j l * cm s (S l) (S k) a b) - sumTo n fun l => c i j l * sumTo n fun m => c l k m * S m a b := by
    rw [← sumTo_sub]
    exact sumTo_congr fun l _ => Int.mul_sub _ _ _
  have e2 : (sumTo n fun l => c i j l * sumTo n fun m => c l k m * S m a b) = sumTo n fun m => (sumTo n fun l => c i j l * c l k m) * S m a b := by
    have : (fun l => c i j l * sumTo n fun m => c l k m * S m a b) = fun l => sumTo n fun m => (c i j l * c l k m) * S m a b := by
      funext l
      rw [← sumTo_mul]
      exact sumTo_congr fun m _ => (Int.mul_assoc _ _ _).symm
    rw [this, sumTo_comm]
    exact sumTo_congr fun m _ => sumTo_mul_right n _ _
  rw [e1, e2] at h2
  have := Int.dvd_add h1 h2
  have e3 : ∀ x y z : Int, x - y + (y - z) = x - z := fun x y z => by omega
  rwa [e3] at this
theorem jac_coords {p : Int} {n s : Nat} {S : Nat → Nat → Nat → Int} {c : Nat → Nat → Nat → Int} (hc : ∀ i j, i < n → j < n → ∀ a b, a < s → b < s → p ∣ cm s (S i) (S j) a b - sumTo n fun l => c i j l * S l a b)
    {i j k : Nat} (hi : i < n) (hj : j < n) (hk : k < n) {a b : Nat} (ha : a < s) (hb : b < s) :
    p ∣ sumTo n fun m => ((sumTo n fun l => c i j l * c l k m) + (sumTo n fun l => c j k l * c l i m) + (sumTo n fun l => c k i l * c l j m)) * S m a b := by
  have h1 := term hc hi hj hk ha hb
  have h2 := term hc hj hk hi ha hb
  have h3 := term hc hk hi hj ha hb
  have h := Int.dvd_add (Int.dvd_add h1 h2) h3
  have e := jacobi s (S i) (S j) (S k) a b
  have e1 : (sumTo n fun m => ((sumTo n fun l => c i j l * c l k m) + (sumTo n fun l => c j k l * c l i m) + (sumTo n fun l => c k i l * c l j m)) * S m a b) = (sumTo n fun m => (sumTo n fun l => c i j l * c l k m) * S m a b) + (sumTo n fun m => (sumTo n fun l => c j k l * c l i m) * S m a b) + (sumTo n fun m => (sumTo n fun l => c k i l * c l j m) * S m a b) := by
    rw [← sumTo_add, ← sumTo_add]
    exact sumTo_congr fun m _ => by rw [Int.add_mul, Int.add_mul]
  rw [e1]
  have e2 : ∀ x y z u v w : Int, x + y + z = 0 → (x - u) + (y - v) + (z - w) = -(u + v + w) := fun x y z u v w h => by omega
  rw [e2 _ _ _ _ _ _ e] at h
  exact (Int.dvd_neg).1 h

end Mx
end
section
namespace Mx

/-- A square matrix as a function. -/
def fnM (s : Nat) (D : List Int) (a b : Nat) : Int := vec D (a * s + b)
theorem at_lt {s a b : Nat} (ha : a < s) (hb : b < s) : a * s + b < s * s := by
  calc a * s + b < a * s + s := by omega
    _ = (a + 1) * s := by rw [Nat.succ_mul]
    _ ≤ s * s := Nat.mul_le_mul_right _ ha
theorem at_of {s c : Nat} (hc : c < s * s) : ∃ a b, a < s ∧ b < s ∧ c = a * s + b := by
  have hs : 0 < s := by
    rcases Nat.eq_zero_or_pos s with rfl | h
    · simp at hc
    · exact h
  exact ⟨c / s, c % s, by rw [Nat.div_lt_iff_lt_mul hs]; exact hc, Nat.mod_lt _ hs, by have := Nat.div_add_mod c s; rw [Nat.mul_comm] at this; exact this.symm⟩
theorem com_cm {p : Int} (hp : 2 ≤ p) (s : Nat) (D E : List Int) {a b : Nat} (ha : a < s) (hb : b < s) : p ∣ vec (comD p s D E) (a * s + b) - cm s (fnM s D) (fnM s E) a b := by
  obtain ⟨u1, h1⟩ := vec_mulD hp (D := D) (E := E) (r := s) (m := s) (c := s) ha hb
  obtain ⟨u2, h2⟩ := vec_mulD hp (D := E) (E := D) (r := s) (m := s) (c := s) ha hb
  have hl1 := length_mulD p s s s D E
  have hl2 := length_mulD p s s s E D
  have hv : vec (comD p s D E) (a * s + b) = (vec (mulD p s s s D E) (a * s + b) + (p - 1) * vec (mulD p s s s E D) (a * s + b)) % p := by
    unfold comD
    exact vec_addL _ _ (by rw [hl1, hl2]) (by rw [hl1]; exact at_lt ha hb)
  have e1 : cm s (fnM s D) (fnM s E) a b = sumTo s (fun k => vec D (a * s + k) * vec E (k * s + b)) - sumTo s (fun k => vec E (a * s + k) * vec D (k * s + b)) := rfl
  rw [hv, e1, Int.emod_def]
  generalize vec (mulD p s s s D E) (a * s + b) = x at h1 ⊢
  generalize vec (mulD p s s s E D) (a * s + b) = y at h2 ⊢
  generalize sumTo s (fun k => vec D (a * s + k) * vec E (k * s + b)) = X at h1 ⊢
  generalize sumTo s (fun k => vec E (a * s + k) * vec D (k * s + b)) = Y at h2 ⊢
  generalize (x + (p - 1) * y) / p = q
  exact ⟨u1 - u2 + y - q, by grind⟩
/-- The coordinates of a commutator. -/
def maF (p : Int) (s : Nat) (S : List (List Int)) (i j : Nat) : List Int := cooL p (s * s) S (comD p s (rowOf S i) (rowOf S j))
def maT (p : Int) (s : Nat) (S : List (List Int)) : List Int := tbL p S.length (maF p s S)
theorem t3_maT {p : Int} {s : Nat} {S : List (List Int)} {i j c : Nat} (hi : i < S.length) (hj : j < S.length) (hc : c < S.length) : t3 (maT p s S) S.length i j c = tbG p (maF p s S) i j c := by
  unfold t3 maT tbL
  exact vec_tabT hi hj hc
section
variable {p : Int} {s : Nat} {S : List (List Int)} (hP : isPrime p = true) (hS : Wf p (s * s) S) (hok : ∀ i j, j < i → i < S.length → Sp p (s * s) S (vec (comD p s (rowOf S i) (rowOf S j))))
include hP hS hok
theorem maF_cod {i j : Nat} (h1 : j < i) (h2 : i < S.length) : Cod p (s * s) S (comD p s (rowOf S i) (rowOf S j)) (maF p s S i j) :=
  cooL_cod hP hS (comD_ok (isPrime_bd hP).1 s _ _).1 (comD_ok (isPrime_bd hP).1 s _ _).2 (hok i j h1 h2)
theorem maT_resid : resid p (maT p s S) = true := resid_tbL (isPrime_bd hP).1 fun _i _j hi hj => (maF_cod hP hS hok hj hi).res
/-- The table's rows are the coordinates of all commutators. -/
theorem maT_sum {i j : Nat} (hi : i < S.length) (hj : j < S.length) {a b : Nat} (ha : a < s) (hb : b < s) :
    p ∣ cm s (fnM s (rowOf S i)) (fnM s (rowOf S j)) a b - sumTo S.length (fun l => t3 (maT p s S) S.length i j l * fnM s (rowOf S l) a b) := by
  have hp := (isPrime_bd hP).1
  have hc := com_cm hp s (rowOf S i) (rowOf S j) ha hb
  rcases Nat.lt_trichotomy j i with h | h | h
  · obtain ⟨u, hu⟩ := (maF_cod hP hS hok h hi).eq (a * s + b) (at_lt ha hb)
    obtain ⟨v, hv⟩ := hc
    have e : sumTo S.length (fun l => t3 (maT p s S) S.length i j l * fnM s (rowOf S l) a b) = sumTo S.length (fun l => vec (maF p s S i j) l * vec (rowOf S l) (a * s + b)) :=
      sumTo_congr fun l hl => by rw [t3_maT hi hj hl, tbG, if_pos h]; rfl
    rw [e]
    exact ⟨-(u + v), by grind⟩
  · subst h
    have e : sumTo S.length (fun l => t3 (maT p s S) S.length j j l * fnM s (rowOf S l) a b) = 0 := by
      rw [sumTo_congr (g := fun _ => 0) fun l hl => by rw [t3_maT hj hj hl, tbG, if_neg (by omega), if_neg (by omega), Int.zero_mul], sumTo_zero]
    rw [e, cm_self]
    exact ⟨0, by simp⟩
  · obtain ⟨u, hu⟩ := (maF_cod hP hS hok h hj).eq (a * s + b) (at_lt ha hb)
    obtain ⟨v, hv⟩ := com_cm hp s (rowOf S j) (rowOf S i) ha hb
    have ea := cm_anti s (fnM s (rowOf S i)) (fnM s (rowOf S j)) a b
    have e : p ∣ sumTo S.length (fun l => t3 (maT p s S) S.length i j l * fnM s (rowOf S l) a b) + sumTo S.length (fun l => vec (maF p s S j i) l * vec (rowOf S l) (a * s + b)) := by
      rw [← sumTo_add]
      refine dvd_sum fun l hl => ?_
      rw [t3_maT hi hj hl, tbG, if_neg (by omega), if_pos h]
      show p ∣ (-(vec (maF p s S j i) l)) % p * vec (rowOf S l) (a * s + b) + _
      rw [Int.emod_def]
      exact ⟨-((-(vec (maF p s S j i) l)) / p * vec (rowOf S l) (a * s + b)), by grind⟩
    obtain ⟨z, hz⟩ := e
    exact ⟨-(z - u - v), by grind⟩
theorem maT_ok (hn : S.length ≤ 28) (hI : Ind p (s * s) S) : algOk p S.length (maT p s S) = true := by
  have hp := (isPrime_bd hP).1
  have hr := maT_resid hP hS hok
  have hT : ∀ {i j c : Nat}, i < S.length → j < S.length → c < S.length → t3 (maT p s S) S.length i j c = tbG p (maF p s S) i j c := fun hi hj hc => t3_maT hi hj hc
  have hlr : ∀ i j, (rowT (maT p s S) S.length i j).length = S.length := fun i j => length_tab _ _
  have hvr : ∀ i j c, c < S.length → vec (rowT (maT p s S) S.length i j) c = t3 (maT p s S) S.length i j c := fun i j c hc => vec_tab hc
  have h1 : ∀ i j, i < S.length → j ≤ i → pairI (maT p s S) S.length p i j = true := fun i j hi hj => by
    unfold pairI
    rw [Bool.and_eq_true]
    refine ⟨zeroL_iff.2 fun c hc => ?_, ?_⟩
    · rw [length_addL _ _ _ _ (by rw [hlr, hlr]), hlr] at hc
      rw [vec_addL _ _ (by rw [hlr, hlr]) (by rw [hlr]; exact hc), hvr i j c hc, hvr j i c hc, hT hi (by omega) hc, hT (by omega) hi hc]
      unfold tbG
      rcases Nat.lt_or_ge j i with h | h
      · rw [if_pos h, if_neg (by omega), if_pos h, Int.one_mul, Int.add_emod_emod, Int.add_right_neg, Int.zero_emod]
      · obtain rfl : j = i := by omega
        simp
    · split
      · refine zeroL_iff.2 fun c hc => ?_
        rw [hlr] at hc
        rw [hvr i i c hc, hT hi hi hc]
        unfold tbG
        simp
      · rfl
  have h2 : ∀ i j k, i < j → j < k → k < S.length → zeroL (jacL (maT p s S) S.length p i j k) = true := fun i j k hij hjk hk => by
    have hx := hI (fun m => sumTo S.length (fun l => t3 (maT p s S) S.length i j l * t3 (maT p s S) S.length l k m) + sumTo S.length (fun l => t3 (maT p s S) S.length j k l * t3 (maT p s S) S.length l i m) + sumTo S.length (fun l => t3 (maT p s S) S.length k i l * t3 (maT p s S) S.length l j m)) (fun c hc => by
      obtain ⟨a, b, ha, hb, rfl⟩ := at_of hc
      exact jac_coords (p := p) (s := s) (S := fun l => fnM s (rowOf S l)) (c := t3 (maT p s S) S.length) (fun i j hi hj a b ha hb => maT_sum hP hS hok hi hj ha hb) (i := i) (j := j) (k := k) (by omega) (by omega) hk ha hb)
    have hlR : ∀ U k, (rightL (maT p s S) U S.length p k).length = S.length := fun U k => length_tab _ _
    have hvR : ∀ i j k m, m < S.length → vec (rightL (maT p s S) (rowT (maT p s S) S.length i j) S.length p k) m = sumTo S.length (fun l => t3 (maT p s S) S.length i j l * t3 (maT p s S) S.length l k m) % p := fun i j k m hm => by
      unfold rightL
      rw [vec_tab hm]
      unfold rightS
      congr 1
      exact sumTo_congr fun l hl => by rw [hvr i j l hl]
    refine zeroL_iff.2 fun m hm => ?_
    unfold jacL at hm ⊢
    have l1 := length_addL (rightL (maT p s S) (rowT (maT p s S) S.length i j) S.length p k) 1 (rightL (maT p s S) (rowT (maT p s S) S.length j k) S.length p i) p (by rw [hlR, hlR])
    rw [hlR] at l1
    rw [length_addL _ _ _ _ (by rw [l1, hlR]), l1] at hm
    rw [vec_addL _ _ (by rw [l1, hlR]) (by rw [l1]; exact hm), vec_addL _ _ (by rw [hlR, hlR]) (by rw [hlR]; exact hm), hvR i j k m hm, hvR j k i m hm, hvR k i j m hm, Int.one_mul, Int.one_mul]
    obtain ⟨u, hu⟩ := hx m hm
    rw [Int.add_emod_emod, Int.emod_add_emod, Int.add_assoc, Int.emod_add_emod, ← Int.add_assoc]
    generalize sumTo S.length (fun l => t3 (maT p s S) S.length i j l * t3 (maT p s S) S.length l k m) = X at hu ⊢
    generalize sumTo S.length (fun l => t3 (maT p s S) S.length j k l * t3 (maT p s S) S.length l i m) = Y at hu ⊢
    generalize sumTo S.length (fun l => t3 (maT p s S) S.length k i l * t3 (maT p s S) S.length l j m) = Z at hu ⊢
    exact Int.emod_eq_zero_of_dvd ⟨u - Y / p, by rw [Int.emod_def]; grind⟩
  unfold algOk
  simp only [Bool.and_eq_true, decide_eq_true_eq, Int.toNat_natCast]
  refine ⟨hP, by simp [inR]; omega, by unfold maT; rw [length_tbL]; simp, hr, ?_⟩
  unfold tableI
  rw [Bool.and_eq_true]
  refine ⟨(allF_iff _ _ _).2 fun i _ hi => (allF_iff _ _ _).2 fun j _ hj => h1 i j (by omega) (by omega), (allF_iff _ _ _).2 fun i _ hi => ?_⟩
  unfold jacI
  exact (allF_iff _ _ _).2 fun j hj hj2 => (allF_iff _ _ _).2 fun k hk hk2 => h2 i j k (by omega) (by omega) (by omega)
end

end Mx
end
section
namespace Mx

/-- Whether a bracket lies in the span. -/
def okM (p : Int) (s : Nat) (S : List (List Int)) (a b : Nat) : Bool := cooB p (s * s) S (comD p s (rowOf S a) (rowOf S b))
/-- The captured flag: free, and all pairs up to (i, j). -/
def fiR (p : Int) (s : Nat) (S : List (List Int)) (i j : Nat) : Bool := (List.range j).all fun b => okM p s S i b
def fiT (p : Int) (s : Nat) (S : List (List Int)) : Nat → Bool
  | 0 => decide ((pivL p (s * s) S).length = S.length)
  | i + 1 => fiT p s S i && fiR p s S i i
def fiX (p : Int) (s : Nat) (S : List (List Int)) (i j : Nat) : Bool := fiT p s S i && fiR p s S i j
theorem fiX_step (p : Int) (s : Nat) (S : List (List Int)) (i j : Nat) : fiX p s S i (j + 1) = (fiX p s S i j && okM p s S i j) := by
  unfold fiX fiR
  rw [List.range_succ, List.all_append, Bool.and_assoc]
  simp
theorem fiX_next (p : Int) (s : Nat) (S : List (List Int)) (i : Nat) : fiX p s S i i = fiX p s S (i + 1) 0 := by
  show (fiT p s S i && fiR p s S i i) = (fiT p s S (i + 1) && fiR p s S (i + 1) 0)
  rw [show fiR p s S (i + 1) 0 = true from rfl, Bool.and_true]
  rfl
theorem fiX_zero (p : Int) (s : Nat) (S : List (List Int)) : fiX p s S 0 0 = decide ((pivL p (s * s) S).length = S.length) := by simp [fiX, fiT, fiR]
def fine (p : Int) (s : Nat) (S : List (List Int)) : Bool := fiX p s S S.length 0
theorem fiT_iff {p : Int} {s : Nat} {S : List (List Int)} : ∀ {n : Nat}, fiT p s S n = true ↔ (pivL p (s * s) S).length = S.length ∧ ∀ a b, b < a → a < n → okM p s S a b = true
  | 0 => by simp [fiT]
  | n + 1 => by
    rw [fiT, Bool.and_eq_true, fiT_iff]
    constructor
    · rintro ⟨⟨h1, h2⟩, h3⟩
      refine ⟨h1, fun a b hb ha => ?_⟩
      by_cases e : a = n
      · subst e
        exact List.all_eq_true.1 h3 b (List.mem_range.2 hb)
      · exact h2 a b hb (by omega)
    · rintro ⟨h1, h2⟩
      exact ⟨⟨h1, fun a b hb ha => h2 a b hb (by omega)⟩, List.all_eq_true.2 fun b hb => h2 n b (List.mem_range.1 hb) (by omega)⟩
theorem fine_iff {p : Int} {s : Nat} {S : List (List Int)} : fine p s S = true ↔ (pivL p (s * s) S).length = S.length ∧ ∀ a b, b < a → a < S.length → okM p s S a b = true := by
  have e : fine p s S = fiT p s S S.length := by simp [fine, fiX, fiR]
  rw [e, fiT_iff]

section
variable {p : Int} {s : Nat} {S : List (List Int)} (hP : isPrime p = true) (hS : Wf p (s * s) S)
include hP hS
theorem okM_iff (a b : Nat) : okM p s S a b = true ↔ Sp p (s * s) S (vec (comD p s (rowOf S a) (rowOf S b))) :=
  cooB_iff hP hS (comD_ok (isPrime_bd hP).1 s _ _).1 (comD_ok (isPrime_bd hP).1 s _ _).2
theorem length_cooL (v : List Int) : (cooL p (s * s) S v).length = S.length ∧ resid p (cooL p (s * s) S v) = true := by
  have h := cooTo_ok (isPrime_bd hP).1 (m := S.length) (F := cooF p (spanL p (s * s) S) (pivL p (s * s) S) v) (E := bessE p (s * s) S) (pivL p (s * s) S).length (fun i hi => (bessE_ok hP hS hi).1)
  exact ⟨h.1, h.2.1⟩
/-- All brackets, in rows. -/
def brA (p : Int) (s : Nat) (S : List (List Int)) : List (List Int) := (List.range (S.length * S.length)).map fun q => comD p s (rowOf S (q / S.length)) (rowOf S (q % S.length))
omit hP hS in
theorem length_brA (p : Int) (s : Nat) (S : List (List Int)) : (brA p s S).length = S.length * S.length := by simp [brA]
omit hP hS in
theorem rowOf_brA (p : Int) (s : Nat) (S : List (List Int)) {a b : Nat} (ha : a < S.length) (hb : b < S.length) : rowOf (brA p s S) (a * S.length + b) = comD p s (rowOf S a) (rowOf S b) := by
  have h := at_lt ha hb
  have e1 : (a * S.length + b) / S.length = a := by
    rw [Nat.mul_comm, Nat.mul_add_div (by omega), Nat.div_eq_of_lt hb, Nat.add_zero]
  have e2 : (a * S.length + b) % S.length = b := by
    rw [Nat.mul_comm, Nat.mul_add_mod, Nat.mod_eq_of_lt hb]
  simp [rowOf, brA, List.getD_eq_getElem?_getD, h, e1, e2]
omit hS in
theorem Wf_brA : Wf p (s * s) (brA p s S) := fun i hi => by
  rw [length_brA] at hi
  have e : rowOf (brA p s S) i = comD p s (rowOf S (i / S.length)) (rowOf S (i % S.length)) := by simp [rowOf, brA, List.getD_eq_getElem?_getD, hi]
  rw [e]
  exact comD_ok (isPrime_bd hP).1 s _ _
/-- Where the program answers false, so does the reference. -/
theorem fine_spec (hf : fine p s S = false) : ¬ (pivL p (s * s) S).length < S.length → tabOk p S.length (s * s) (flat (s * s) S) (brA p s S) = false := fun hr => by
  have hl : (pivL p (s * s) S).length = S.length := by
    have := (spanL_rf hP hS).len
    have h2 := pivL_le hP hS
    have h3 : (pivL p (s * s + S.length) (besL S)).length ≤ S.length := by
      have := (reduceL_ok (p := p) (by have := (isPrime_bd hP).1; omega) (Wf_besL (isPrime_bd hP).1 hS)).piv
      rw [length_besL] at this
      exact this
    omega
  cases ht : tabOk p S.length (s * s) (flat (s * s) S) (brA p s S) with
  | false => rfl
  | true =>
    have : fine p s S = true := fine_iff.2 ⟨hl, fun a b hb ha => by
      have h1 := tabOk_iff.1 ht (a * S.length + b) (at_lt ha (by omega))
      rw [rowOf_brA p s S ha (by omega)] at h1
      exact (okM_iff hP hS a b).2 ((solB_iff hP hS (comD_ok (isPrime_bd hP).1 s _ _).1 (comD_ok (isPrime_bd hP).1 s _ _).2).1 h1)⟩
    rw [hf] at this
    exact Bool.noConfusion this
section
variable (hf : fine p s S = true)
include hf
theorem fine_sp : ∀ i j, j < i → i < S.length → Sp p (s * s) S (vec (comD p s (rowOf S i) (rowOf S j))) := fun i j h1 h2 =>
  (okM_iff hP hS i j).1 ((fine_iff.1 hf).2 i j h1 h2)
theorem fine_ok (hn : S.length ≤ 28) : algOk p S.length (maT p s S) = true := maT_ok hP hS (fine_sp hP hS hf) hn (ind_of_rank hP hS (fine_iff.1 hf).1)
end
end
/-- A list of zeros with a one. -/
theorem vec_set1 {n k : Nat} (hk : k < n) {c : Nat} (hc : c < n) : vec ((List.replicate n 0).set k 1) c = if c = k then 1 else 0 := by
  rw [vec_set (by rw [List.length_replicate]; exact hk)]
  split
  · rfl
  · simp [vec, List.getD_eq_getElem?_getD, hc]
theorem braL_units {p : Int} {n : Nat} {T : List Int} (hT : T.length = n * n * n) (hr : resid p T = true) {i j k : Nat} (hi : i < n) (hj : j < n) (hk : k < n) :
    vec (braL T ((List.replicate n 0).set i 1) ((List.replicate n 0).set j 1) n p) k = t3 T n i j k := by
  rw [vec_braL hk]
  have e : bF T n (vec ((List.replicate n 0).set i 1)) (vec ((List.replicate n 0).set j 1)) k = t3 T n i j k := by
    unfold bF
    rw [sumTo_congr (g := fun a => if a = i then sumTo n (fun b => if b = j then t3 T n a b k else 0) else 0) (fun a ha => by
      by_cases e : a = i
      · rw [if_pos e]
        exact sumTo_congr fun b hb => by
          rw [vec_set1 hi ha, vec_set1 hj hb, if_pos e]
          by_cases e2 : b = j
          · rw [if_pos e2, if_pos e2]; omega
          · rw [if_neg e2, if_neg e2]; omega
      · rw [if_neg e, sumTo_congr (g := fun _ => 0) (fun b hb => by rw [vec_set1 hi ha, if_neg e, Int.zero_mul, Int.zero_mul]), sumTo_zero]),
      sumTo_single hi fun a => sumTo n fun b => if b = j then t3 T n a b k else 0, sumTo_single hj fun b => t3 T n i b k]
  rw [e]
  have hb : (i * n + j) * n + k < T.length := by rw [hT]; exact idx3_bd hi hj hk
  exact Int.emod_eq_of_lt (resid_vec hr hb).1 (resid_vec hr hb).2
/-- The law's running sum. -/
def sumM (p : Int) (s : Nat) (S : List (List Int)) (x : List Int) : Nat → List Int
  | 0 => List.replicate (s * s) 0
  | k + 1 => addL (sumM p s S x k) 1 (scaleR p (vec x k % p) (rowOf S k)) p
theorem sumM_ok {p : Int} {s : Nat} {S : List (List Int)} (hp : 2 ≤ p) (hS : Wf p (s * s) S) (x : List Int) : ∀ k, k ≤ S.length → (sumM p s S x k).length = s * s ∧ resid p (sumM p s S x k) = true ∧ ∀ c, c < s * s → p ∣ vec (sumM p s S x k) c - sumTo k (fun l => vec x l * vec (rowOf S l) c)
  | 0, _ => ⟨by simp [sumM], resid_zeros (by omega) _, fun c hc => by
    have : vec (sumM p s S x 0) c = 0 := by simp [sumM, vec, List.getD_eq_getElem?_getD, hc]
    rw [this]
    exact ⟨0, by simp [sumTo]⟩⟩
  | k + 1, h => by
    obtain ⟨h1, h2, h3⟩ := sumM_ok hp hS x k (by omega)
    have hw := hS k (by omega)
    have hl : (scaleR p (vec x k % p) (rowOf S k)).length = (sumM p s S x k).length := by rw [length_scaleR, h1, hw.1]
    refine ⟨by rw [sumM, length_addL _ _ _ _ hl, h1], resid_addL _ _ _ _ (by omega), fun c hc => ?_⟩
    obtain ⟨u, hu⟩ := h3 c hc
    rw [sumM, vec_addL _ _ hl (by rw [h1]; exact hc), vec_scaleR (by rw [hw.1]; exact hc), sumTo, Int.emod_def, Int.emod_def (vec (rowOf S k) c * _), Int.emod_def (vec x k)]
    generalize vec (sumM p s S x k) c = A at hu ⊢
    generalize sumTo k (fun l => vec x l * vec (rowOf S l) c) = B at hu ⊢
    generalize vec (rowOf S k) c = C
    generalize vec x k = X
    generalize X / p = q1
    generalize C * (X - p * q1) / p = q2
    generalize (A + 1 * (C * (X - p * q1) - p * q2)) / p = q3
    exact ⟨u - C * q1 - q2 - q3, by grind⟩
/-- The sum of the matrices by the bracket's coordinates is the commutator. -/
theorem law_eq {p : Int} {s : Nat} {S : List (List Int)} (hP : isPrime p = true) (hS : Wf p (s * s) S) (hf : fine p s S = true) {i j : Nat} (hi : i < S.length) (hj : j < S.length) :
    sumM p s S (braL (maT p s S) ((List.replicate S.length 0).set i 1) ((List.replicate S.length 0).set j 1) S.length p) S.length = comD p s (rowOf S i) (rowOf S j) := by
  have hp := (isPrime_bd hP).1
  have hTl : (maT p s S).length = S.length * S.length * S.length := length_tbL _ _ _
  have hTr := maT_resid hP hS (fine_sp hP hS hf)
  obtain ⟨h1, h2, h3⟩ := sumM_ok hp hS (braL (maT p s S) ((List.replicate S.length 0).set i 1) ((List.replicate S.length 0).set j 1) S.length p) S.length (Nat.le_refl _)
  obtain ⟨c1, c2⟩ := comD_ok hp s (rowOf S i) (rowOf S j)
  refine list_ext (by rw [h1, c1]) fun c hc => ?_
  rw [h1] at hc
  obtain ⟨u, hu⟩ := h3 c hc
  obtain ⟨a, b, ha, hb, rfl⟩ := at_of hc
  obtain ⟨v, hv⟩ := com_cm hp s (rowOf S i) (rowOf S j) ha hb
  obtain ⟨z, hz⟩ := maT_sum hP hS (fine_sp hP hS hf) hi hj ha hb
  have e : sumTo S.length (fun l => vec (braL (maT p s S) ((List.replicate S.length 0).set i 1) ((List.replicate S.length 0).set j 1) S.length p) l * vec (rowOf S l) (a * s + b)) = sumTo S.length (fun l => t3 (maT p s S) S.length i j l * fnM s (rowOf S l) a b) :=
    sumTo_congr fun l hl => by rw [braL_units hTl hTr hi hj hl]; rfl
  rw [e] at hu
  exact resid_eq_of (resid_vec h2 (by rw [h1]; exact hc)) (resid_vec c2 (by rw [c1]; exact hc)) (u := u - v - z) (by grind)
end Mx
end
end Go.Proofs.Ytbnefjhljfbecaa
