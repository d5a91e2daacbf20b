/- Tables of algebras, as plain lists: half of the brackets are given, the others are their negatives. -/
import Derived.Test.YtbnefjhljfbecaaCo
namespace Go.Proofs.Ytbnefjhljfbecaa
set_option maxRecDepth 100000
open Go.RowKit

theorem dec3 {n q : Nat} (h : q < n * n * n) : ∃ a b c, a < n ∧ b < n ∧ c < n ∧ q = (a * n + b) * n + c := by
  have hn : 0 < n := by
    rcases Nat.eq_zero_or_pos n with rfl | h1
    · simp at h
    · exact h1
  have h1 : q / n < n * n := by rw [Nat.div_lt_iff_lt_mul hn]; exact h
  refine ⟨q / n / n, q / n % n, q % n, by rw [Nat.div_lt_iff_lt_mul hn]; exact h1, Nat.mod_lt _ hn, Nat.mod_lt _ hn, ?_⟩
  have e1 := Nat.div_add_mod (q / n) n
  have e2 := Nat.div_add_mod q n
  rw [Nat.mul_comm (q / n / n) n, e1, Nat.mul_comm (q / n) n, e2]
theorem enc3 {n a b c : Nat} (hb : b < n) (hc : c < n) : ((a * n + b) * n + c) / n / n = a ∧ ((a * n + b) * n + c) / n % n = b ∧ ((a * n + b) * n + c) % n = c := by
  rw [(dmR hc).1, (dmR hc).2, (dmR hb).1, (dmR hb).2]; exact ⟨rfl, rfl, rfl⟩
theorem inj3 {n a b c a' b' c' : Nat} (hb : b < n) (hc : c < n) (hb' : b' < n) (hc' : c' < n) : (a * n + b) * n + c = (a' * n + b') * n + c' ↔ a = a' ∧ b = b' ∧ c = c' := by
  constructor
  · intro e
    have h1 := enc3 (a := a) hb hc
    rw [e] at h1
    have h2 := enc3 (a := a') hb' hc'
    omega
  · rintro ⟨rfl, rfl, rfl⟩; rfl
/-- A table by its places. -/
def tabT (n : Nat) (G : Nat → Nat → Nat → Int) : List Int := tab (n * n * n) fun q => G (q / n / n) (q / n % n) (q % n)
theorem length_tabT (n : Nat) (G : Nat → Nat → Nat → Int) : (tabT n G).length = n * n * n := length_tab _ _
theorem vec_tabT {n : Nat} {G : Nat → Nat → Nat → Int} {a b c : Nat} (ha : a < n) (hb : b < n) (hc : c < n) : vec (tabT n G) ((a * n + b) * n + c) = G a b c := by
  rw [tabT, vec_tab (idx3_bd ha hb hc), (enc3 hb hc).1, (enc3 hb hc).2.1, (enc3 hb hc).2.2]
theorem tabT_ext {n : Nat} {l m : List Int} (hl : l.length = n * n * n) (hm : m.length = n * n * n) (h : ∀ a b c, a < n → b < n → c < n → vec l ((a * n + b) * n + c) = vec m ((a * n + b) * n + c)) : l = m :=
  list_ext (by rw [hl, hm]) fun q hq => by
    rw [hl] at hq
    obtain ⟨a, b, c, ha, hb, hc, rfl⟩ := dec3 hq
    exact h a b c ha hb hc
/-- The table while it is made: at i, j, k. F i j is the bracket of i and j, for j below i. -/
def tbF (p : Int) (F : Nat → Nat → List Int) (i j k a b c : Nat) : Int :=
  if b < a ∧ (a < i ∨ (a = i ∧ (b < j ∨ (b = j ∧ c < k)))) then vec (F a b) c
  else if a < b ∧ (b < i ∨ (b = i ∧ (a < j ∨ (a = j ∧ c < k)))) then (-(vec (F b a) c)) % p else 0
def tbTo (p : Int) (n : Nat) (F : Nat → Nat → List Int) (i j k : Nat) : List Int := tabT n (tbF p F i j k)
def tbG (p : Int) (F : Nat → Nat → List Int) (a b c : Nat) : Int := if b < a then vec (F a b) c else if a < b then (-(vec (F b a) c)) % p else 0
def tbL (p : Int) (n : Nat) (F : Nat → Nat → List Int) : List Int := tabT n (tbG p F)
theorem length_tbTo (p : Int) (n : Nat) (F : Nat → Nat → List Int) (i j k : Nat) : (tbTo p n F i j k).length = n * n * n := length_tabT _ _
theorem length_tbL (p : Int) (n : Nat) (F : Nat → Nat → List Int) : (tbL p n F).length = n * n * n := length_tabT _ _
theorem tbTo_congr {p : Int} {n : Nat} {F : Nat → Nat → List Int} {i j k i' j' k' : Nat} (h : ∀ a b c, a < n → b < n → c < n → tbF p F i j k a b c = tbF p F i' j' k' a b c) : tbTo p n F i j k = tbTo p n F i' j' k' :=
  tabT_ext (length_tbTo _ _ _ _ _ _) (length_tbTo _ _ _ _ _ _) fun a b c ha hb hc => by rw [tbTo, tbTo, vec_tabT ha hb hc, vec_tabT ha hb hc, h a b c ha hb hc]
theorem tbTo_zero (p : Int) (n : Nat) (F : Nat → Nat → List Int) : tbTo p n F 0 0 0 = List.replicate (n * n * n) 0 :=
  tabT_ext (length_tbTo _ _ _ _ _ _) (by simp) fun a b c ha hb hc => by
    rw [tbTo, vec_tabT ha hb hc, tbF, if_neg (by omega), if_neg (by omega)]
    simp [vec, List.getD_eq_getElem?_getD, idx3_bd ha hb hc]
theorem iteC {P Q : Prop} [Decidable P] [Decidable Q] {a b c d : Int} (h : P ↔ Q) (h1 : a = c) (h2 : b = d) : (if P then a else b) = if Q then c else d := by
  subst h1; subst h2
  by_cases hp : P
  · rw [if_pos hp, if_pos (h.1 hp)]
  · rw [if_neg hp, if_neg (fun hq => hp (h.2 hq))]
theorem tbTo_set {p : Int} {n : Nat} {F : Nat → Nat → List Int} {i j k : Nat} (hi : i < n) (hj : j < i) (hk : k < n) :
    ((tbTo p n F i j k).set ((i * n + j) * n + k) (vec (F i j) k)).set ((j * n + i) * n + k) ((-(vec (F i j) k)) % p) = tbTo p n F i j (k + 1) := by
  have hjn : j < n := by omega
  have l1 := idx3_bd hi hjn hk
  have l2 := idx3_bd hjn hi hk
  refine tabT_ext (by rw [List.length_set, List.length_set, length_tbTo]) (length_tbTo _ _ _ _ _ _) fun a b c ha hb hc => ?_
  rw [vec_set (by rw [List.length_set, length_tbTo]; exact l2), vec_set (by rw [length_tbTo]; exact l1), tbTo, vec_tabT ha hb hc, tbTo, vec_tabT ha hb hc]
  by_cases e1 : (a * n + b) * n + c = (j * n + i) * n + k
  · obtain ⟨rfl, rfl, rfl⟩ := (inj3 hb hc hi hk).1 e1
    rw [if_pos rfl, tbF, if_neg (by omega), if_pos (by omega)]
  · rw [if_neg e1]
    rw [inj3 hb hc hi hk] at e1
    by_cases e2 : (a * n + b) * n + c = (i * n + j) * n + k
    · obtain ⟨rfl, rfl, rfl⟩ := (inj3 hb hc hjn hk).1 e2
      rw [if_pos rfl, tbF, if_pos (by omega)]
    · rw [if_neg e2]
      rw [inj3 hb hc hjn hk] at e2
      unfold tbF
      have g1 : (b < a ∧ (a < i ∨ (a = i ∧ (b < j ∨ (b = j ∧ c < k))))) ↔ (b < a ∧ (a < i ∨ (a = i ∧ (b < j ∨ (b = j ∧ c < k + 1))))) := by omega
      have g2 : (a < b ∧ (b < i ∨ (b = i ∧ (a < j ∨ (a = j ∧ c < k))))) ↔ (a < b ∧ (b < i ∨ (b = i ∧ (a < j ∨ (a = j ∧ c < k + 1))))) := by omega
      exact iteC g1 rfl (iteC g2 rfl rfl)
theorem tbTo_row {p : Int} (_hp : 0 < p) {n : Nat} {F : Nat → Nat → List Int} {i j : Nat} (_hl : (F i j).length ≤ n) : tbTo p n F i j (F i j).length = tbTo p n F i (j + 1) 0 :=
  tbTo_congr fun a b c ha hb hc => by
    unfold tbF
    by_cases h1 : b < a ∧ (a < i ∨ (a = i ∧ (b < j ∨ (b = j ∧ c < (F i j).length))))
    · rw [if_pos h1, if_pos (by omega)]
    · rw [if_neg h1]
      by_cases h1' : b < a ∧ (a < i ∨ (a = i ∧ (b < j + 1 ∨ (b = j + 1 ∧ c < 0))))
      · rw [if_pos h1', if_neg (by omega)]
        have e : a = i ∧ b = j := by omega
        rw [e.1, e.2, vec_out (by omega)]
      · rw [if_neg h1']
        by_cases h2 : a < b ∧ (b < i ∨ (b = i ∧ (a < j ∨ (a = j ∧ c < (F i j).length))))
        · rw [if_pos h2, if_pos (by omega)]
        · rw [if_neg h2]
          by_cases h2' : a < b ∧ (b < i ∨ (b = i ∧ (a < j + 1 ∨ (a = j + 1 ∧ c < 0))))
          · rw [if_pos h2']
            have e : b = i ∧ a = j := by omega
            rw [e.1, e.2, vec_out (by omega)]; simp
          · rw [if_neg h2']
theorem tbTo_next (p : Int) (n : Nat) (F : Nat → Nat → List Int) (i : Nat) : tbTo p n F i i 0 = tbTo p n F (i + 1) 0 0 :=
  tbTo_congr fun a b c _ _ _ => by
    unfold tbF
    have g1 : (b < a ∧ (a < i ∨ (a = i ∧ (b < i ∨ (b = i ∧ c < 0))))) ↔ (b < a ∧ (a < i + 1 ∨ (a = i + 1 ∧ (b < 0 ∨ (b = 0 ∧ c < 0))))) := by omega
    have g2 : (a < b ∧ (b < i ∨ (b = i ∧ (a < i ∨ (a = i ∧ c < 0))))) ↔ (a < b ∧ (b < i + 1 ∨ (b = i + 1 ∧ (a < 0 ∨ (a = 0 ∧ c < 0))))) := by omega
    exact iteC g1 rfl (iteC g2 rfl rfl)
theorem tbTo_end (p : Int) (n : Nat) (F : Nat → Nat → List Int) : tbTo p n F n 0 0 = tbL p n F :=
  tabT_ext (length_tbTo _ _ _ _ _ _) (length_tbL _ _ _) fun a b c ha hb hc => by
    rw [tbTo, vec_tabT ha hb hc, tbL, vec_tabT ha hb hc, tbF, tbG]
    by_cases h1 : b < a
    · rw [if_pos (by omega), if_pos h1]
    · rw [if_neg (by omega), if_neg h1]
      by_cases h2 : a < b
      · rw [if_pos (by omega), if_pos h2]
      · rw [if_neg (by omega), if_neg h2]
theorem resid_tbL {p : Int} (hp : 2 ≤ p) {n : Nat} {F : Nat → Nat → List Int} (h : ∀ i j, i < n → j < i → resid p (F i j) = true) : resid p (tbL p n F) = true :=
  resid_iff.2 fun q hq => by
    rw [length_tbL] at hq
    obtain ⟨a, b, c, ha, hb, hc, rfl⟩ := dec3 hq
    rw [tbL, vec_tabT ha hb hc, tbG]
    split
    · rename_i h1
      exact resid_vec' (h a b ha h1) (by omega) c
    · split
      · exact ⟨Int.emod_nonneg _ (by omega), Int.emod_lt_of_pos _ (by omega)⟩
      · omega
/-- A table made by rows, one bracket after the other. -/
def rowsT (n : Nat) (X : Nat → Nat → List Int) (m : Nat) : List Int := tab (m * n) fun q => vec (X (q / n / n) (q / n % n)) (q % n)
theorem rowsT_zero (n : Nat) (X : Nat → Nat → List Int) : rowsT n X 0 = [] := by simp [rowsT, tab]
theorem rowsT_snoc {n : Nat} {X : Nat → Nat → List Int} {i j : Nat} (hj : j < n) (hl : (X i j).length = n) : rowsT n X (i * n + j) ++ X i j = rowsT n X (i * n + j + 1) := by
  have e0 : (i * n + j + 1) * n = (i * n + j) * n + n := by rw [Nat.add_mul (i * n + j) 1 n, Nat.one_mul]
  have hlen : (rowsT n X (i * n + j)).length = (i * n + j) * n := length_tab _ _
  refine list_ext (by rw [List.length_append, hlen, hl, rowsT, length_tab, e0]) fun q hq => ?_
  rw [List.length_append, hlen, hl] at hq
  by_cases h : q < (i * n + j) * n
  · rw [vec_app_left (by rw [hlen]; exact h), rowsT, vec_tab h, rowsT, vec_tab (by omega)]
  · obtain ⟨k, rfl⟩ : ∃ k, q = (i * n + j) * n + k := ⟨q - (i * n + j) * n, by omega⟩
    have hk : k < n := by omega
    rw [← hlen, vec_app_right, hlen, rowsT, vec_tab (by omega), (enc3 hj hk).1, (enc3 hj hk).2.1, (enc3 hj hk).2.2]
theorem length_rowsT (n : Nat) (X : Nat → Nat → List Int) (m : Nat) : (rowsT n X m).length = m * n := length_tab _ _
theorem vec_rowsT {n : Nat} {X : Nat → Nat → List Int} {a b c : Nat} (ha : a < n) (hb : b < n) (hc : c < n) : vec (rowsT n X (n * n)) ((a * n + b) * n + c) = vec (X a b) c := by
  rw [rowsT, vec_tab (idx3_bd ha hb hc), (enc3 hb hc).1, (enc3 hb hc).2.1, (enc3 hb hc).2.2]
/-- The two ways give one table if the brackets are alternating. -/
theorem rowsT_eq {p : Int} {n : Nat} {X F : Nat → Nat → List Int} (h1 : ∀ a b, a < n → b < a → X a b = F a b) (h2 : ∀ a, a < n → ∀ c, c < n → vec (X a a) c = 0) (h3 : ∀ a b, b < n → a < b → ∀ c, c < n → vec (X a b) c = (-(vec (X b a) c)) % p) : rowsT n X (n * n) = tbL p n F :=
  tabT_ext (length_rowsT _ _ _) (length_tbL _ _ _) fun a b c ha hb hc => by
    rw [vec_rowsT ha hb hc, tbL, vec_tabT ha hb hc, tbG]
    by_cases h : b < a
    · rw [if_pos h, h1 a b ha h]
    · rw [if_neg h]
      by_cases h' : a < b
      · rw [if_pos h', h3 a b hb h' c hc, h1 b a hb h']
      · rw [if_neg h']
        obtain rfl : a = b := by omega
        exact h2 a ha c hc

/-! Brackets are alternating. -/
def DiagT (_p : Int) (n : Nat) (T : List Int) : Prop := ∀ a c, a < n → c < n → t3 T n a a c = 0
theorem diag_of {p : Int} {n : Nat} {T : List Int} (h : algOk p n T = true) : DiagT p n T := by
  have ht : tableS T n p = true := by
    simp only [algOk, Bool.and_eq_true, decide_eq_true_eq] at h
    obtain ⟨_, _, _, _, h5⟩ := h
    rwa [Int.toNat_natCast, table_eq] at h5
  intro a c ha hc
  unfold tableS at ht
  rw [Bool.and_eq_true] at ht
  have h1 := (allF_iff _ _ _).1 ht.1 a (Nat.zero_le _) (by omega)
  have h2 := (allF_iff _ _ _).1 h1 a (Nat.zero_le _) (by omega)
  have h3 := (allF_iff _ _ _).1 h2 c (Nat.zero_le _) (by omega)
  unfold pairS at h3
  rw [Bool.and_eq_true] at h3
  have h4 := h3.1
  rw [if_pos rfl, beq_iff_eq] at h4
  exact h4
/-- A sum over a square, by its diagonal and its two halves. -/
theorem square_sum {p : Int} {m : Nat} {g : Nat → Nat → Int} : ∀ (n : Nat), n ≤ m → (∀ a, a < m → ∃ u, g a a = p * u) → (∀ a b, a < m → b < m → ∃ u, g a b + g b a = p * u) → ∃ u, sumTo n (fun a => sumTo n (fun b => g a b)) = p * u
  | 0, _, _, _ => ⟨0, by simp [sumTo]⟩
  | n + 1, hn, hd, ha => by
    obtain ⟨u, hu⟩ := square_sum n (by omega) hd ha
    have e : sumTo (n + 1) (fun a => sumTo (n + 1) (fun b => g a b)) = sumTo n (fun a => sumTo n (fun b => g a b)) + sumTo n (fun a => g a n + g n a) + g n n := by
      show sumTo n (fun a => sumTo n (fun b => g a b) + g a n) + (sumTo n (fun b => g n b) + g n n) = _
      have s1 := sumTo_add n (fun a => sumTo n (fun b => g a b)) (fun a => g a n)
      have s2 := sumTo_add n (fun a => g a n) (fun a => g n a)
      rw [s1, s2]
      exact (by omega : ∀ x y z t : Int, (x + y) + (z + t) = x + (y + z) + t) _ _ _ _
    obtain ⟨v, hv⟩ := sumTo_dvd (p := p) (n := n) (a := fun a => g a n + g n a) fun c hc => ha c n (by omega) (by omega)
    obtain ⟨x, hx⟩ := hd n (by omega)
    exact ⟨u + v + x, by rw [e, hu, hv, hx]; grind⟩
theorem bF_diag {p : Int} {n : Nat} {T : List Int} (h : AntiT p n T) (hd : DiagT p n T) (f : Nat → Int) {c : Nat} (hc : c < n) : ∃ u, bF T n f f c = p * u :=
  square_sum (g := fun a b => f a * f b * t3 T n a b c) n (Nat.le_refl _) (fun a ha => ⟨0, by rw [hd a c ha hc]; simp⟩) fun a b ha hb => by
    obtain ⟨u, hu⟩ := h a b c ha hb hc
    refine ⟨f a * f b * u, ?_⟩
    have e : t3 T n a b c = p * u - t3 T n b a c := by omega
    rw [e]; grind
theorem vec_braL {T X Y : List Int} {n : Nat} {p : Int} {c : Nat} (hc : c < n) : vec (braL T X Y n p) c = bF T n (vec X) (vec Y) c % p := by rw [braL, vec_tab hc]; rfl
theorem braL_diag {p : Int} {n : Nat} {T : List Int} (h : AntiT p n T) (hd : DiagT p n T) (X : List Int) {c : Nat} (hc : c < n) : vec (braL T X X n p) c = 0 := by
  obtain ⟨u, hu⟩ := bF_diag h hd (vec X) hc
  rw [vec_braL hc, hu, Int.mul_emod_right]
theorem neg_of_sum {p a b u : Int} (h : a + b = p * u) : a % p = (-(b % p)) % p := by
  have e : a = -b + p * u := by omega
  rw [e, Int.add_mul_emod_self_left]
  obtain ⟨u, hu⟩ := emod_dvd (p := p) (a := b)
  have e2 : -b = -(b % p) + p * (-u) := by grind
  rw [e2, Int.add_mul_emod_self_left]
theorem braL_neg {p : Int} {n : Nat} {T : List Int} (h : AntiT p n T) (X Y : List Int) {c : Nat} (hc : c < n) : vec (braL T X Y n p) c = (-(vec (braL T Y X n p) c)) % p := by
  obtain ⟨u, hu⟩ := bF_anti h (vec X) (vec Y) hc
  rw [vec_braL hc, vec_braL hc]
  exact neg_of_sum hu
theorem rowT_neg {p : Int} {n : Nat} {T : List Int} (h : AntiT p n T) (rT : resid p T = true) (hp : 2 ≤ p) {a b c : Nat} (ha : a < n) (hb : b < n) (hc : c < n) : t3 T n a b c = (-(t3 T n b a c)) % p := by
  obtain ⟨u, hu⟩ := h a b c ha hb hc
  have h1 := resid_vec' rT (by omega : 0 < p) ((a * n + b) * n + c)
  have h2 := neg_of_sum hu
  rw [show t3 T n a b c % p = t3 T n a b c from Int.emod_eq_of_lt h1.1 h1.2] at h2
  have h3 := resid_vec' rT (by omega : 0 < p) ((b * n + a) * n + c)
  rwa [show t3 T n b a c % p = t3 T n b a c from Int.emod_eq_of_lt h3.1 h3.2] at h2

/-- Coordinates of a vector of zeros, of a negative. -/
theorem Cod.zero {p : Int} (hp : 2 ≤ p) {n : Nat} {S : List (List Int)} {V x : List Int} (hI : Ind p n S) (h : Cod p n S V x) (hV : ∀ c, c < n → vec V c = 0) : ∀ j, j < S.length → vec x j = 0 := fun j hj => by
  obtain ⟨u, hu⟩ := hI (vec x) (fun c hc => by obtain ⟨u, hu⟩ := h.eq c hc; exact ⟨u, by rw [hV c hc] at hu; omega⟩) j hj
  exact resid_eq_of (resid_vec h.res (by rw [h.len]; exact hj)) (by omega : (0 : Int) ≤ 0 ∧ (0 : Int) < p) (u := u) (by omega)
theorem Cod.neg {p : Int} (_hp : 2 ≤ p) {n : Nat} {S : List (List Int)} {V W x y : List Int} (hI : Ind p n S) (hx : Cod p n S V x) (hy : Cod p n S W y) (h : ∀ c, c < n → ∃ u, vec V c + vec W c = p * u) : ∀ j, j < S.length → vec x j = (-(vec y j)) % p := fun j hj => by
  obtain ⟨u, hu⟩ := hI (fun j => vec x j + 1 * vec y j) (fun c hc => by
    obtain ⟨a, ha⟩ := hx.eq c hc
    obtain ⟨b, hb⟩ := hy.eq c hc
    obtain ⟨v, hv⟩ := h c hc
    refine ⟨a + b + v, ?_⟩
    have e : sumTo S.length (fun j => (vec x j + 1 * vec y j) * vec (rowOf S j) c) = sumTo S.length (fun j => vec x j * vec (rowOf S j) c) + sumTo S.length (fun j => vec y j * vec (rowOf S j) c) := by
      rw [← sumTo_add]; exact sumTo_congr fun i _ => by grind
    rw [e]; grind) j hj
  have h1 := resid_vec hx.res (i := j) (by rw [hx.len]; exact hj)
  have h2 := resid_vec hy.res (i := j) (by rw [hy.len]; exact hj)
  have e := neg_of_sum (a := vec x j) (b := vec y j) (p := p) (u := u) (by omega)
  rwa [Int.emod_eq_of_lt h1.1 h1.2, Int.emod_eq_of_lt h2.1 h2.2] at e
theorem neg_dvd {p a b : Int} (h : a = (-b) % p) : ∃ u, a + b = p * u := by
  obtain ⟨u, hu⟩ := emod_dvd (p := p) (a := -b)
  exact ⟨-u, by rw [h]; grind⟩
end Go.Proofs.Ytbnefjhljfbecaa
