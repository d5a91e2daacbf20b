/- Inverses modulo a prime: by Euclid's steps, and by powers. Plain numbers; no program. -/
import Derived.Test.YtngmepodgbhbpaaPrime
import Derived.Test.YtngmepodgbhbpaaPlain
namespace Go.Proofs.Ytngmepodgbhbpaa
set_option maxRecDepth 100000

theorem primeFrom_spec : ∀ (f : Nat) (n d : Int), primeFrom f n d = true → 2 ≤ d → ∀ e, d ≤ e → e < d + f → e * e ≤ n → n % e ≠ 0
  | 0, n, d, _, _, e, h1, h2, _ => by omega
  | f + 1, n, d, h, hd, e, h1, h2, h3 => by
    unfold primeFrom at h
    have hdd : d * d ≤ n := Int.le_trans (Int.mul_le_mul h1 h1 (by omega) (by omega)) h3
    rw [if_pos hdd] at h
    by_cases hm : n % d = 0
    · rw [if_pos hm] at h; cases h
    · rw [if_neg hm] at h
      by_cases e1 : e = d
      · subst e1; exact hm
      · exact primeFrom_spec f n (d + 1) h (by omega) e (by omega) (by omega) h3
theorem prime_small {p : Int} (h : isPrime p = true) {e : Int} (h1 : 2 ≤ e) (h2 : e * e ≤ p) : p % e ≠ 0 := by
  have hb := isPrime_bd h
  have he := sq_bd h1 h2 hb.2
  simp only [isPrime, Bool.and_eq_true] at h
  exact primeFrom_spec 101 p 2 h.2 (by omega) e h1 (by omega) h2
theorem prime_nat {p : Nat} (h : isPrime p = true) {d : Nat} (hd : d ∣ p) : d = 1 ∨ d = p := by
  have hb := isPrime_bd h
  obtain ⟨e, he⟩ := hd
  by_cases d1 : d = 1
  · exact .inl d1
  · by_cases e1 : e = 1
    · right; rw [he, e1, Nat.mul_one]
    · exfalso
      have d0 : d ≠ 0 := fun h0 => by rw [h0, Nat.zero_mul] at he; omega
      have e0 : e ≠ 0 := fun h0 => by rw [h0, Nat.mul_zero] at he; omega
      rcases Nat.le_total d e with hde | hde
      · have hs : (d : Int) * d ≤ p := by
          have : d * d ≤ p := by rw [he]; exact Nat.mul_le_mul_left d hde
          exact_mod_cast this
        refine prime_small h (e := d) (by omega) hs ?_
        rw [he]
        exact_mod_cast Nat.mul_mod_right d e
      · have hs : (e : Int) * e ≤ p := by
          have : e * e ≤ p := by rw [he]; exact Nat.mul_le_mul_right e hde
          exact_mod_cast this
        refine prime_small h (e := e) (by omega) hs ?_
        rw [he]
        exact_mod_cast Nat.mul_mod_left d e
theorem coprime_of {p a : Nat} (h : isPrime p = true) (ha : ¬ p ∣ a) : Nat.Coprime p a := by
  rcases prime_nat h (Nat.gcd_dvd_left p a) with h1 | h1
  · exact h1
  · exact absurd (h1 ▸ Nat.gcd_dvd_right p a) ha
theorem euclidN {p a b : Nat} (h : isPrime p = true) (hd : p ∣ a * b) : p ∣ a ∨ p ∣ b := by
  by_cases ha : p ∣ a
  · exact .inl ha
  · exact .inr ((coprime_of h ha).dvd_of_dvd_mul_left hd)

def prodN : List Nat → Nat
  | [] => 1
  | x :: xs => x * prodN xs
theorem prodN_perm {l m : List Nat} (h : l.Perm m) : prodN l = prodN m := by
  induction h with
  | nil => rfl
  | cons x _ ih => simp only [prodN, ih]
  | swap x y l => simp only [prodN]; rw [← Nat.mul_assoc, ← Nat.mul_assoc, Nat.mul_comm y x]
  | trans _ _ ih1 ih2 => exact ih1.trans ih2
theorem perm_of_sub : ∀ (l m : List Nat), l.Nodup → (∀ x ∈ l, x ∈ m) → m.length ≤ l.length → l.Perm m
  | [], m, _, _, h => by
    have : m = [] := List.eq_nil_of_length_eq_zero (by simpa using h)
    subst this; exact List.Perm.refl _
  | x :: l, m, hn, hs, hl => by
    rw [List.nodup_cons] at hn
    have hx : x ∈ m := hs x (by simp)
    have hp := List.perm_cons_erase hx
    refine List.Perm.trans (List.Perm.cons x (perm_of_sub l (m.erase x) hn.2 (fun y hy => ?_) ?_)) hp.symm
    · have hne : y ≠ x := fun e => hn.1 (e ▸ hy)
      exact (List.mem_erase_of_ne hne).2 (hs y (by simp [hy]))
    · have := hp.length_eq
      simp only [List.length_cons] at this hl
      omega
theorem prodN_map_mod (a p : Nat) : ∀ l : List Nat, prodN (l.map fun i => a * i % p) % p = a ^ l.length * prodN l % p
  | [] => by simp [prodN]
  | x :: l => by
    simp only [List.map_cons, prodN, List.length_cons]
    rw [Nat.mul_mod, Nat.mod_mod, prodN_map_mod a p l, ← Nat.mul_mod]
    congr 1
    rw [Nat.pow_succ]
    simp only [Nat.mul_assoc, Nat.mul_left_comm, Nat.mul_comm]
theorem prodN_not {p : Nat} (h : isPrime p = true) : ∀ l : List Nat, (∀ x ∈ l, ¬ p ∣ x) → ¬ p ∣ prodN l
  | [], _ => by
    have := isPrime_bd h
    intro hd
    have h1 : p ≤ 1 := Nat.le_of_dvd (by decide) hd
    omega
  | x :: l, hl => fun hd => by
    rcases euclidN h hd with h1 | h1
    · exact hl x (by simp) h1
    · exact prodN_not h l (fun y hy => hl y (by simp [hy])) h1
theorem fermat {p a : Nat} (h : isPrime p = true) (ha : ¬ p ∣ a) : a ^ (p - 1) % p = 1 := by
  have hb := isPrime_bd h
  have hp2 : 2 ≤ p := by omega
  obtain ⟨L, hL⟩ : ∃ L, L = (List.range (p - 1)).map (· + 1) := ⟨_, rfl⟩
  have hlen : L.length = p - 1 := by rw [hL]; simp
  have hmem : ∀ x, x ∈ L ↔ 0 < x ∧ x < p := fun x => by
    rw [hL]
    simp only [List.mem_map, List.mem_range]
    constructor
    · rintro ⟨y, hy, rfl⟩; omega
    · rintro ⟨h1, h2⟩; exact ⟨x - 1, by omega, by omega⟩
  have hno : ∀ x ∈ L, ¬ p ∣ x := fun x hx hd => by
    have := (hmem x).1 hx
    have := Nat.le_of_dvd this.1 hd
    omega
  have hnd : L.Nodup := by
    rw [hL]
    exact List.Pairwise.map _ (fun a b hab => by omega) (List.nodup_range (n := p - 1))
  have hinj : ∀ x ∈ L, ∀ y ∈ L, a * x % p = a * y % p → x = y := by
    have key : ∀ x ∈ L, ∀ y ∈ L, x < y → a * x % p = a * y % p → False := fun x hx y hy hlt he => by
      have hd : p ∣ a * y - a * x := by
        exact Nat.dvd_of_mod_eq_zero (Nat.sub_mod_eq_zero_of_mod_eq he.symm)
      rw [← Nat.mul_sub] at hd
      rcases euclidN h hd with h1 | h1
      · exact ha h1
      · have h2 := (hmem x).1 hx
        have h3 := (hmem y).1 hy
        have := Nat.le_of_dvd (by omega) h1
        omega
    intro x hx y hy he
    rcases Nat.lt_trichotomy x y with h1 | h1 | h1
    · exact (key x hx y hy h1 he).elim
    · exact h1
    · exact (key y hy x hx h1 he.symm).elim
  have hnd2 : (L.map fun i => a * i % p).Nodup := by
    rw [List.nodup_iff_pairwise_ne] at hnd ⊢
    rw [List.pairwise_map]
    exact List.Pairwise.imp_of_mem (fun hx hy hne he => hne (hinj _ hx _ hy he)) hnd
  have hperm := perm_of_sub (L.map fun i => a * i % p) L hnd2 (fun x hx => by
    obtain ⟨i, hi, rfl⟩ := List.mem_map.1 hx
    refine (hmem _).2 ⟨Nat.pos_of_ne_zero fun h0 => ?_, Nat.mod_lt _ (by omega)⟩
    rcases euclidN h (Nat.dvd_of_mod_eq_zero h0) with h1 | h1
    · exact ha h1
    · exact hno i hi h1) (by simp)
  have he := prodN_map_mod a p L
  rw [prodN_perm hperm, hlen] at he
  have hge : prodN L ≤ a ^ (p - 1) * prodN L := Nat.le_mul_of_pos_left _ (Nat.pow_pos (Nat.pos_of_ne_zero fun h0 => ha (h0 ▸ Nat.dvd_zero p)))
  have hd : p ∣ a ^ (p - 1) * prodN L - prodN L := Nat.dvd_of_mod_eq_zero (Nat.sub_mod_eq_zero_of_mod_eq he.symm)
  have hs : a ^ (p - 1) * prodN L - prodN L = (a ^ (p - 1) - 1) * prodN L := by rw [Nat.sub_mul, Nat.one_mul]
  rw [hs] at hd
  rcases euclidN h hd with h1 | h1
  · obtain ⟨q, hq⟩ := h1
    have hpos : 0 < a ^ (p - 1) := Nat.pow_pos (Nat.pos_of_ne_zero fun h0 => ha (h0 ▸ Nat.dvd_zero p))
    have : a ^ (p - 1) = 1 + p * q := by omega
    rw [this, Nat.add_mul_mod_self_left, Nat.mod_eq_of_lt (by omega)]
  · exact absurd h1 (prodN_not h L hno)

/-- The inverse of a residue other than 0, by Euclid's steps. -/
def eucX : Nat → Int → Int → Int → Int → Int
  | 0, _, _, x, _ => x
  | f + 1, a, b, x, y => if 1 < a then eucX f b (a % b) y (x - a / b * y) else x
def invE (p n : Int) : Int := eucX (p.toNat + 2) n p 1 0 % p
theorem eucX_spec (p n : Int) : ∀ (f : Nat) (a b x y : Int), 0 < a → 0 ≤ b → (∀ d : Int, d ∣ a → d ∣ b → d ∣ 1) → p ∣ x * n - a → p ∣ y * n - b → b.toNat + 2 ≤ f → p ∣ eucX f a b x y * n - 1
  | 0, a, b, x, y, _, _, _, _, _, hf => by omega
  | f + 1, a, b, x, y, ha, hb, hc, hx, hy, hf => by
    unfold eucX
    by_cases h1 : 1 < a
    · rw [if_pos h1]
      have hb0 : 0 < b := by
        rcases Int.lt_or_eq_of_le hb with h | h
        · exact h
        · exfalso
          have := Int.le_of_dvd (by decide) (hc a (Int.dvd_refl a) (h ▸ Int.dvd_zero a))
          omega
      have hr1 := Int.emod_nonneg a (b := b) (by omega)
      have hr2 := Int.emod_lt_of_pos a hb0
      have he : a / b * b + a % b = a := by rw [Int.mul_comm]; exact Int.mul_ediv_add_emod a b
      refine eucX_spec p n f b (a % b) y (x - a / b * y) hb0 hr1 (fun d h2 h3 => hc d ?_ h2) hy ?_ (by omega)
      · rw [← he]; exact Int.dvd_add (Int.dvd_mul_of_dvd_right h2) h3
      · have e2 : (x - a / b * y) * n - a % b = (x * n - a) - a / b * (y * n - b) := by
          have e3 : a % b = a - a / b * b := by omega
          rw [e3, Int.sub_mul, Int.mul_sub, Int.mul_assoc]; omega
        rw [e2]
        exact Int.dvd_sub hx (Int.dvd_mul_of_dvd_right hy)
    · rw [if_neg h1]
      have : a = 1 := by omega
      rw [this] at hx; exact hx
theorem prime_cop {p n : Int} (h : isPrime p = true) (h1 : 0 < n) (h2 : n < p) : ∀ d : Int, d ∣ n → d ∣ p → d ∣ 1 := by
  intro d hd1 hd2
  have hb := isPrime_bd h
  have e1 : p = (p.toNat : Int) := by omega
  have e2 : n = (n.toNat : Int) := by omega
  rw [e1] at h
  have k1 : d.natAbs ∣ p.toNat := by
    have := Int.natAbs_dvd_natAbs.2 hd2
    rwa [show p.natAbs = p.toNat from by omega] at this
  have k2 : d.natAbs ∣ n.toNat := by
    have := Int.natAbs_dvd_natAbs.2 hd1
    rwa [show n.natAbs = n.toNat from by omega] at this
  rcases prime_nat h k1 with h3 | h3
  · exact Int.natAbs_dvd_natAbs.1 (by rw [h3]; exact Nat.dvd_refl 1)
  · exfalso
    have := Nat.le_of_dvd (by omega) k2
    omega
theorem invE_range {p : Int} (n : Int) (hp : 2 ≤ p) : 0 ≤ invE p n ∧ invE p n < p := ⟨Int.emod_nonneg _ (by omega), Int.emod_lt_of_pos _ (by omega)⟩
theorem invE_mul {p n : Int} (h : isPrime p = true) (h1 : 0 < n) (h2 : n < p) : n * invE p n % p = 1 := by
  have hb := isPrime_bd h
  have hd := eucX_spec p n (p.toNat + 2) n p 1 0 h1 (by omega) (prime_cop h h1 h2) (by simp) (by simp) (Nat.le_refl _)
  unfold invE
  rw [mul_mod_right, Int.mul_comm]
  have e := Int.emod_emod_of_dvd (eucX (p.toNat + 2) n p 1 0 * n) (Int.dvd_refl p)
  have h3 : (eucX (p.toNat + 2) n p 1 0 * n) % p = 1 % p := (Int.emod_eq_emod_iff_emod_sub_eq_zero).2 (Int.emod_eq_zero_of_dvd hd)
  rw [h3]
  exact Int.emod_eq_of_lt (by omega) (by omega)
theorem inv_unique {p x y z : Int} (hy : 0 ≤ y ∧ y < p) (hz : 0 ≤ z ∧ z < p) (h1 : x * y % p = 1) (h2 : x * z % p = 1) : y = z := by
  have a1 : y = y * (x * z) % p := by rw [← mul_mod_right, h2, Int.mul_one, Int.emod_eq_of_lt hy.1 hy.2]
  have a2 : z = z * (x * y) % p := by rw [← mul_mod_right, h1, Int.mul_one, Int.emod_eq_of_lt hz.1 hz.2]
  rw [a1]
  conv => rhs; rw [a2]
  congr 1
  rw [Int.mul_left_comm, Int.mul_comm y z, Int.mul_left_comm]
/-- The power is the inverse. -/
theorem pow_inv {p n : Nat} (h : isPrime p = true) (h1 : 0 < n) (h2 : n < p) : ((n ^ (p - 2) % p : Nat) : Int) = invE p n := by
  have hb := isPrime_bd h
  have hn : ¬ p ∣ n := fun hd => by have := Nat.le_of_dvd h1 hd; omega
  have hf := fermat h hn
  refine inv_unique (p := p) (x := n) ⟨by omega, by exact_mod_cast Nat.mod_lt _ (by omega)⟩ (invE_range _ (by omega)) ?_ (invE_mul h (by omega) (by omega))
  have : n * (n ^ (p - 2) % p) % p = 1 := by
    rw [Nat.mul_mod_mod, Nat.mul_comm, ← Nat.pow_succ, show (p - 2).succ = p - 1 from by omega]
    exact hf
  exact_mod_cast this
end Go.Proofs.Ytngmepodgbhbpaa
