import Derived.Deep.LoopGhost
import Derived.Test.YtbnefjhljfbecaaGreatDoorW01
namespace Go.Proofs.YtbnefjhljfbecaaGreatDoor
set_option maxRecDepth 100000
section
open Go.RowKit
def primeFrom : Nat → Int → Int → Bool
 | 0, _, _ => true
 | f + 1, n, d => if d * d ≤ n then (if n % d = 0 then false else primeFrom f n (d + 1)) else true
def isPrime (n : Int) : Bool := inR n 2 10007 && primeFrom 101 n 2
theorem isPrime_bd {n : Int} (h : isPrime n = true) : 2 ≤ n ∧ n ≤ 10007 := by
 simp [isPrime, inR] at h; omega
theorem sq_bd {d n : Int} (_h1 : 2 ≤ d) (h2 : d * d ≤ n) (h3 : n ≤ 10007) : d ≤ 100 := by
 rcases Int.lt_or_le 100 d with h | h
 ·have : 101 * 101 ≤ d * d := Int.mul_le_mul (by omega) (by omega) (by omega) (by omega)
  omega
 ·exact h
set_option maxHeartbeats 400000 in
theorem IsPrimeS_any (n : Int) (w : World) : Calls Tryz.prog 97 #[.int .i64 n] w fun e w' => e = .returned (.bool (isPrime n)) ∧ w = w' := by
 by_cases hn : 2 ≤ n ∧ n ≤ 10007
 ·obtain ⟨R, hR⟩ : ∃ R, R = primeFrom 101 n 2 := ⟨_, rfl⟩
  have hp : isPrime n = R := by rw [hR]; simp [isPrime, inR_true hn.1 hn.2]
  rw [hp]
  have HR := Lib.hid hR
  have g1 := inR_true hn.1 hn.2
  obtain ⟨n1, n2⟩ := hn
  clear hR hp
  go_enter Tryz.func97, Tryz.ntmps97
  go_wp2
  go_loopg [3] 101 (fun gk vd wr => ∃ (d : Int), vd = .int .i64 d ∧ 2 ≤ d ∧ d + gk = 103 ∧ wr = w ∧ Hid (R = primeFrom gk n d))
  case atStart => exact ⟨2, rfl, by omega, by omega, rfl, HR⟩
  case round =>
   obtain ⟨d, rfl, a1, a2, rfl, HM⟩ := hrel
   have hb : d ≤ 103 := by omega
   have hsq : 0 ≤ d * d ∧ d * d ≤ 10609 := by
    have a : d * d ≤ 103 * 103 := Int.mul_le_mul hb hb (by omega) (by omega)
    have b : 0 ≤ d * d := Int.mul_nonneg (by omega) (by omega)
    omega
   by_cases hd : d * d ≤ n
   ·have hd1 := sq_bd a1 hd n2
    obtain ⟨f, rfl⟩ : ∃ k, gk = k + 1 := ⟨gk - 1, by omega⟩
    by_cases hm : n % d = 0
    ·have hm1 : (n % d == 0) = true := by simp [hm]
     have Hm := Lib.hid hm
     clear hm
     go_wp2
     go_ret
     exact ⟨ret_bool (by rw [HM.out]; unfold primeFrom; rw [if_pos hd, if_pos Hm.out]), rfl⟩
    ·have hm1 : (n % d == 0) = false := by simp [hm]
     have Hm := Lib.hid hm
     clear hm
     go_wp2
     go_roundg f
     case measure => omega
     case rel => exact ⟨d + 1, rfl, by omega, by omega, rfl, by have := HM.out; unfold primeFrom at this; rw [if_pos hd, if_neg Hm.out] at this; exact this⟩
   ·go_wp2
    go_ret
    exact ⟨ret_bool (by rw [HM.out]; cases gk with | zero => rfl | succ f => (unfold primeFrom; rw [if_neg (by omega)])), rfl⟩
 ·have hp : isPrime n = false := by simp [isPrime, inR_false hn]
  rw [hp]
  have g1 := inR_false hn
  by_cases h1 : n < 2
  ·clear hn
   go_enter Tryz.func97, Tryz.ntmps97
   go_wp2
   go_ret
   exact ⟨rfl, rfl⟩
  ·have h2 : 10007 < n := by omega
   clear hn
   go_enter Tryz.func97, Tryz.ntmps97
   go_wp2
   go_ret
   exact ⟨rfl, rfl⟩
set_option maxHeartbeats 400000 in
theorem IsPrimeI_any (n : Int) (w : World) : Calls Tryz.prog 108 #[.int .i64 n] w fun e w' => e = .returned (.bool (isPrime n)) ∧ w = w' := by
 by_cases hn : 2 ≤ n ∧ n ≤ 10007
 ·obtain ⟨R, hR⟩ : ∃ R, R = primeFrom 101 n 2 := ⟨_, rfl⟩
  have hp : isPrime n = R := by rw [hR]; simp [isPrime, inR_true hn.1 hn.2]
  rw [hp]
  have HR := Lib.hid hR
  have g1 := inR_true hn.1 hn.2
  obtain ⟨n1, n2⟩ := hn
  clear hR hp
  go_enter Tryz.func108, Tryz.ntmps108
  go_wp2_with (go_at_call 56; refine (inside_any _ _ _ _).mono ?_; rintro e w' ⟨rfl, rfl⟩)
  go_loopg [3] 101 (fun gk vd wr => ∃ (d : Int), vd = .int .i64 d ∧ 2 ≤ d ∧ d + gk = 103 ∧ wr = w ∧ Hid (R = primeFrom gk n d))
  case atStart => exact ⟨2, rfl, by omega, by omega, rfl, HR⟩
  case round =>
   obtain ⟨d, rfl, a1, a2, rfl, HM⟩ := hrel
   have hb : d ≤ 103 := by omega
   have hsq : 0 ≤ d * d ∧ d * d ≤ 10609 := by
    have a : d * d ≤ 103 * 103 := Int.mul_le_mul hb hb (by omega) (by omega)
    have b : 0 ≤ d * d := Int.mul_nonneg (by omega) (by omega)
    omega
   by_cases hd : d * d ≤ n
   ·have hd1 := sq_bd a1 hd n2
    obtain ⟨f, rfl⟩ : ∃ k, gk = k + 1 := ⟨gk - 1, by omega⟩
    by_cases hm : n % d = 0
    ·have hm1 : (n % d == 0) = true := by simp [hm]
     have Hm := Lib.hid hm
     clear hm
     go_wp2
     go_ret
     exact ⟨ret_bool (by rw [HM.out]; unfold primeFrom; rw [if_pos hd, if_pos Hm.out]), rfl⟩
    ·have hm1 : (n % d == 0) = false := by simp [hm]
     have Hm := Lib.hid hm
     clear hm
     go_wp2
     go_roundg f
     case measure => omega
     case rel => exact ⟨d + 1, rfl, by omega, by omega, rfl, by have := HM.out; unfold primeFrom at this; rw [if_pos hd, if_neg Hm.out] at this; exact this⟩
   ·go_wp2
    go_ret
    exact ⟨ret_bool (by rw [HM.out]; cases gk with | zero => rfl | succ f => (unfold primeFrom; rw [if_neg (by omega)])), rfl⟩
 ·have hp : isPrime n = false := by simp [isPrime, inR_false hn]
  rw [hp]
  have g1 := inR_false hn
  clear hn
  go_enter Tryz.func108, Tryz.ntmps108
  go_wp2_with (go_at_call 56; refine (inside_any _ _ _ _).mono ?_; rintro e w' ⟨rfl, rfl⟩)
  go_ret
  exact ⟨rfl, rfl⟩
end
section
theorem primeFrom_spec : ∀ (f : Nat) (n d : Int), primeFrom f n d = true → 2 ≤ d → ∀ e, d ≤ e → e < d + f → e * e ≤ n → n % e ≠ 0
 | 0, n, d, _, _, e, h1, h2, _ => by omega
 | f + 1, n, d, h, hd, e, h1, h2, h3 => by
  unfold primeFrom at h
  have hdd : d * d ≤ n := Int.le_trans (Int.mul_le_mul h1 h1 (by omega) (by omega)) h3
  rw [if_pos hdd] at h
  by_cases hm : n % d = 0
  ·rw [if_pos hm] at h; cases h
  ·rw [if_neg hm] at h
   by_cases e1 : e = d
   ·subst e1; exact hm
   ·exact primeFrom_spec f n (d + 1) h (by omega) e (by omega) (by omega) h3
theorem prime_small {p : Int} (h : isPrime p = true) {e : Int} (h1 : 2 ≤ e) (h2 : e * e ≤ p) : p % e ≠ 0 := by
 have hb := isPrime_bd h
 have he := sq_bd h1 h2 hb.2
 simp only [isPrime, Bool.and_eq_true] at h
 exact primeFrom_spec 101 p 2 h.2 (by omega) e h1 (by omega) h2
theorem prime_nat {p : Nat} (h : isPrime p = true) {d : Nat} (hd : d ∣ p) : d = 1 ∨ d = p := by
 have hb := isPrime_bd h
 obtain ⟨e, he⟩ := hd
 by_cases d1 : d = 1
 ·exact .inl d1
 ·by_cases e1 : e = 1
  ·right; rw [he, e1, Nat.mul_one]
  ·exfalso
   have d0 : d ≠ 0 := fun h0 => by rw [h0, Nat.zero_mul] at he; omega
   have e0 : e ≠ 0 := fun h0 => by rw [h0, Nat.mul_zero] at he; omega
   rcases Nat.le_total d e with hde | hde
   ·have hs : (d : Int) * d ≤ p := by
     have : d * d ≤ p := by rw [he]; exact Nat.mul_le_mul_left d hde
     exact_mod_cast this
    refine prime_small h (e := d) (by omega) hs ?_
    rw [he]
    exact_mod_cast Nat.mul_mod_right d e
   ·have hs : (e : Int) * e ≤ p := by
     have : e * e ≤ p := by rw [he]; exact Nat.mul_le_mul_right e hde
     exact_mod_cast this
    refine prime_small h (e := e) (by omega) hs ?_
    rw [he]
    exact_mod_cast Nat.mul_mod_left d e
theorem coprime_of {p a : Nat} (h : isPrime p = true) (ha : ¬ p ∣ a) : Nat.Coprime p a := by
 rcases prime_nat h (Nat.gcd_dvd_left p a) with h1 | h1
 ·exact h1
 ·exact absurd (h1 ▸ Nat.gcd_dvd_right p a) ha
theorem euclidN {p a b : Nat} (h : isPrime p = true) (hd : p ∣ a * b) : p ∣ a ∨ p ∣ b := by
 by_cases ha : p ∣ a
 ·exact .inl ha
 ·exact .inr ((coprime_of h ha).dvd_of_dvd_mul_left hd)
def prodN : List Nat → Nat
 | [] => 1
 | x :: xs => x * prodN xs
theorem prodN_perm {l m : List Nat} (h : l.Perm m) : prodN l = prodN m := by
 induction h with
 | nil => rfl
 | cons x _ ih => simp only [prodN, ih]
 | swap x y l => simp only [prodN]; rw [← Nat.mul_assoc, ← Nat.mul_assoc, Nat.mul_comm y x]
 | trans _ _ ih1 ih2 => exact ih1.trans ih2
theorem perm_of_sub : ∀ (l m : List Nat), l.Nodup → (∀ x ∈ l, x ∈ m) → m.length ≤ l.length → l.Perm m
 | [], m, _, _, h => by
  have : m = [] := List.eq_nil_of_length_eq_zero (by simpa using h)
  subst this; exact List.Perm.refl _
 | x :: l, m, hn, hs, hl => by
  rw [List.nodup_cons] at hn
  have hx : x ∈ m := hs x (by simp)
  have hp := List.perm_cons_erase hx
  refine List.Perm.trans (List.Perm.cons x (perm_of_sub l (m.erase x) hn.2 (fun y hy => ?_) ?_)) hp.symm
  ·have hne : y ≠ x := fun e => hn.1 (e ▸ hy)
   exact (List.mem_erase_of_ne hne).2 (hs y (by simp [hy]))
  ·have := hp.length_eq
   simp only [List.length_cons] at this hl
   omega
theorem prodN_map_mod (a p : Nat) : ∀ l : List Nat, prodN (l.map fun i => a * i % p) % p = a ^ l.length * prodN l % p
 | [] => by simp [prodN]
 | x :: l => by
  simp only [List.map_cons, prodN, List.length_cons]
  rw [Nat.mul_mod, Nat.mod_mod, prodN_map_mod a p l, ← Nat.mul_mod]
  congr 1
  rw [Nat.pow_succ]
  simp only [Nat.mul_assoc, Nat.mul_left_comm, Nat.mul_comm]
theorem prodN_not {p : Nat} (h : isPrime p = true) : ∀ l : List Nat, (∀ x ∈ l, ¬ p ∣ x) → ¬ p ∣ prodN l
 | [], _ => by
  have := isPrime_bd h
  intro hd
  have h1 : p ≤ 1 := Nat.le_of_dvd (by decide) hd
  omega
 | x :: l, hl => fun hd => by
  rcases euclidN h hd with h1 | h1
  ·exact hl x (by simp) h1
  ·exact prodN_not h l (fun y hy => hl y (by simp [hy])) h1
theorem fermat {p a : Nat} (h : isPrime p = true) (ha : ¬ p ∣ a) : a ^ (p - 1) % p = 1 := by
 have hb := isPrime_bd h
 have hp2 : 2 ≤ p := by omega
 obtain ⟨L, hL⟩ : ∃ L, L = (List.range (p - 1)).map (· + 1) := ⟨_, rfl⟩
 have hlen : L.length = p - 1 := by rw [hL]; simp
 have hmem : ∀ x, x ∈ L ↔ 0 < x ∧ x < p := fun x => by
  rw [hL]
  simp only [List.mem_map, List.mem_range]
  constructor
  ·rintro ⟨y, hy, rfl⟩; omega
  ·rintro ⟨h1, h2⟩; exact ⟨x - 1, by omega, by omega⟩
 have hno : ∀ x ∈ L, ¬ p ∣ x := fun x hx hd => by
  have := (hmem x).1 hx
  have := Nat.le_of_dvd this.1 hd
  omega
 have hnd : L.Nodup := by
  rw [hL]
  exact List.Pairwise.map _ (fun a b hab => by omega) (List.nodup_range (n := p - 1))
 have hinj : ∀ x ∈ L, ∀ y ∈ L, a * x % p = a * y % p → x = y := by
  have key : ∀ x ∈ L, ∀ y ∈ L, x < y → a * x % p = a * y % p → False := fun x hx y hy hlt he => by
   have hd : p ∣ a * y - a * x := by
    exact Nat.dvd_of_mod_eq_zero (Nat.sub_mod_eq_zero_of_mod_eq he.symm)
   rw [← Nat.mul_sub] at hd
   rcases euclidN h hd with h1 | h1
   ·exact ha h1
   ·have h2 := (hmem x).1 hx
    have h3 := (hmem y).1 hy
    have := Nat.le_of_dvd (by omega) h1
    omega
  intro x hx y hy he
  rcases Nat.lt_trichotomy x y with h1 | h1 | h1
  ·exact (key x hx y hy h1 he).elim
  ·exact h1
  ·exact (key y hy x hx h1 he.symm).elim
 have hnd2 : (L.map fun i => a * i % p).Nodup := by
  rw [List.nodup_iff_pairwise_ne] at hnd ⊢
  rw [List.pairwise_map]
  exact List.Pairwise.imp_of_mem (fun hx hy hne he => hne (hinj _ hx _ hy he)) hnd
 have hperm := perm_of_sub (L.map fun i => a * i % p) L hnd2 (fun x hx => by
  obtain ⟨i, hi, rfl⟩ := List.mem_map.1 hx
  refine (hmem _).2 ⟨Nat.pos_of_ne_zero fun h0 => ?_, Nat.mod_lt _ (by omega)⟩
  rcases euclidN h (Nat.dvd_of_mod_eq_zero h0) with h1 | h1
  ·exact ha h1
  ·exact hno i hi h1) (by simp)
 have he := prodN_map_mod a p L
 rw [prodN_perm hperm, hlen] at he
 have hge : prodN L ≤ a ^ (p - 1) * prodN L := Nat.le_mul_of_pos_left _ (Nat.pow_pos (Nat.pos_of_ne_zero fun h0 => ha (h0 ▸ Nat.dvd_zero p)))
 have hd : p ∣ a ^ (p - 1) * prodN L - prodN L := Nat.dvd_of_mod_eq_zero (Nat.sub_mod_eq_zero_of_mod_eq he.symm)
 have hs : a ^ (p - 1) * prodN L - prodN L = (a ^ (p - 1) - 1) * prodN L := by rw [Nat.sub_mul, Nat.one_mul]
 rw [hs] at hd
 rcases euclidN h hd with h1 | h1
 ·obtain ⟨q, hq⟩ := h1
  have hpos : 0 < a ^ (p - 1) := Nat.pow_pos (Nat.pos_of_ne_zero fun h0 => ha (h0 ▸ Nat.dvd_zero p))
  have : a ^ (p - 1) = 1 + p * q := by omega
  rw [this, Nat.add_mul_mod_self_left, Nat.mod_eq_of_lt (by omega)]
 ·exact absurd h1 (prodN_not h L hno)
def eucX : Nat → Int → Int → Int → Int → Int
 | 0, _, _, x, _ => x
 | f + 1, a, b, x, y => if 1 < a then eucX f b (a % b) y (x - a / b * y) else x
def invE (p n : Int) : Int := eucX (p.toNat + 2) n p 1 0 % p
theorem eucX_spec (p n : Int) : ∀ (f : Nat) (a b x y : Int), 0 < a → 0 ≤ b → (∀ d : Int, d ∣ a → d ∣ b → d ∣ 1) → p ∣ x * n - a → p ∣ y * n - b → b.toNat + 2 ≤ f → p ∣ eucX f a b x y * n - 1
 | 0, a, b, x, y, _, _, _, _, _, hf => by omega
 | f + 1, a, b, x, y, ha, hb, hc, hx, hy, hf => by
  unfold eucX
  by_cases h1 : 1 < a
  ·rw [if_pos h1]
   have hb0 : 0 < b := by
    rcases Int.lt_or_eq_of_le hb with h | h
    ·exact h
    ·exfalso
     have := Int.le_of_dvd (by decide) (hc a (Int.dvd_refl a) (h ▸ Int.dvd_zero a))
     omega
   have hr1 := Int.emod_nonneg a (b := b) (by omega)
   have hr2 := Int.emod_lt_of_pos a hb0
   have he : a / b * b + a % b = a := by rw [Int.mul_comm]; exact Int.mul_ediv_add_emod a b
   refine eucX_spec p n f b (a % b) y (x - a / b * y) hb0 hr1 (fun d h2 h3 => hc d ?_ h2) hy ?_ (by omega)
   ·rw [← he]; exact Int.dvd_add (Int.dvd_mul_of_dvd_right h2) h3
   ·have e2 : (x - a / b * y) * n - a % b = (x * n - a) - a / b * (y * n - b) := by
     have e3 : a % b = a - a / b * b := by omega
     rw [e3, Int.sub_mul, Int.mul_sub, Int.mul_assoc]; omega
    rw [e2]
    exact Int.dvd_sub hx (Int.dvd_mul_of_dvd_right hy)
  ·rw [if_neg h1]
   have : a = 1 := by omega
   rw [this] at hx; exact hx
theorem prime_cop {p n : Int} (h : isPrime p = true) (h1 : 0 < n) (h2 : n < p) : ∀ d : Int, d ∣ n → d ∣ p → d ∣ 1 := by
 intro d hd1 hd2
 have hb := isPrime_bd h
 have e1 : p = (p.toNat : Int) := by omega
 have e2 : n = (n.toNat : Int) := by omega
 rw [e1] at h
 have k1 : d.natAbs ∣ p.toNat := by
  have := Int.natAbs_dvd_natAbs.2 hd2
  rwa [show p.natAbs = p.toNat from by omega] at this
 have k2 : d.natAbs ∣ n.toNat := by
  have := Int.natAbs_dvd_natAbs.2 hd1
  rwa [show n.natAbs = n.toNat from by omega] at this
 rcases prime_nat h k1 with h3 | h3
 ·exact Int.natAbs_dvd_natAbs.1 (by rw [h3]; exact Nat.dvd_refl 1)
 ·exfalso
  have := Nat.le_of_dvd (by omega) k2
  omega
theorem invE_range {p : Int} (n : Int) (hp : 2 ≤ p) : 0 ≤ invE p n ∧ invE p n < p := ⟨Int.emod_nonneg _ (by omega), Int.emod_lt_of_pos _ (by omega)⟩
theorem invE_mul {p n : Int} (h : isPrime p = true) (h1 : 0 < n) (h2 : n < p) : n * invE p n % p = 1 := by
 have hb := isPrime_bd h
 have hd := eucX_spec p n (p.toNat + 2) n p 1 0 h1 (by omega) (prime_cop h h1 h2) (by simp) (by simp) (Nat.le_refl _)
 unfold invE
 rw [mul_mod_right, Int.mul_comm]
 have e := Int.emod_emod_of_dvd (eucX (p.toNat + 2) n p 1 0 * n) (Int.dvd_refl p)
 have h3 : (eucX (p.toNat + 2) n p 1 0 * n) % p = 1 % p := (Int.emod_eq_emod_iff_emod_sub_eq_zero).2 (Int.emod_eq_zero_of_dvd hd)
 rw [h3]
 exact Int.emod_eq_of_lt (by omega) (by omega)
theorem inv_unique {p x y z : Int} (hy : 0 ≤ y ∧ y < p) (hz : 0 ≤ z ∧ z < p) (h1 : x * y % p = 1) (h2 : x * z % p = 1) : y = z := by
 have a1 : y = y * (x * z) % p := by rw [← mul_mod_right, h2, Int.mul_one, Int.emod_eq_of_lt hy.1 hy.2]
 have a2 : z = z * (x * y) % p := by rw [← mul_mod_right, h1, Int.mul_one, Int.emod_eq_of_lt hz.1 hz.2]
 rw [a1]
 conv => rhs; rw [a2]
 congr 1
 rw [Int.mul_left_comm, Int.mul_comm y z, Int.mul_left_comm]
theorem pow_inv {p n : Nat} (h : isPrime p = true) (h1 : 0 < n) (h2 : n < p) : ((n ^ (p - 2) % p : Nat) : Int) = invE p n := by
 have hb := isPrime_bd h
 have hn : ¬ p ∣ n := fun hd => by have := Nat.le_of_dvd h1 hd; omega
 have hf := fermat h hn
 refine inv_unique (p := p) (x := n) ⟨by omega, by exact_mod_cast Nat.mod_lt _ (by omega)⟩ (invE_range _ (by omega)) ?_ (invE_mul h (by omega) (by omega))
 have : n * (n ^ (p - 2) % p) % p = 1 := by
  rw [Nat.mul_mod_mod, Nat.mul_comm, ← Nat.pow_succ, show (p - 2).succ = p - 1 from by omega]
  exact hf
 exact_mod_cast this
end
section
def rowOf (rows : List (List Int)) (i : Nat) : List Int := rows.getD i []
theorem rowOf_get {rows : List (List Int)} {i : Nat} (h : i < rows.length) : rows[i]? = some (rowOf rows i) := by
 simp [rowOf, List.getD_eq_getElem?_getD, List.getElem?_eq_getElem h]
theorem rowOf_eq {rows : List (List Int)} {i : Nat} (h : i < rows.length) : rows[i] = rowOf rows i := by
 have := rowOf_get h
 rw [List.getElem?_eq_getElem h] at this
 simpa using this
theorem rowOf_set {rows : List (List Int)} {i j : Nat} {l : List Int} (h : i < rows.length) : rowOf (rows.set i l) j = if i = j then l else rowOf rows j := by
 simp only [rowOf, List.getD_eq_getElem?_getD, List.getElem?_set]
 by_cases e : i = j
 ·subst e; simp [h]
 ·simp [e]
theorem rows_ext {a b : List (List Int)} (h : a.length = b.length) (h1 : ∀ i, i < a.length → rowOf a i = rowOf b i) : a = b := by
 apply List.ext_getElem h
 intro i x y
 rw [rowOf_eq x, rowOf_eq y]
 exact h1 i x
def Wf (p : Int) (n : Nat) (rows : List (List Int)) : Prop := ∀ i, i < rows.length → (rowOf rows i).length = n ∧ resid p (rowOf rows i) = true
theorem Wf.set {p : Int} {n : Nat} {rows : List (List Int)} (h : Wf p n rows) {i : Nat} (hi : i < rows.length) {l : List Int} (h1 : l.length = n) (h2 : resid p l = true) : Wf p n (rows.set i l) := by
 intro j hj
 rw [List.length_set] at hj
 rw [rowOf_set hi]
 by_cases e : i = j
 ·rw [if_pos e]; exact ⟨h1, h2⟩
 ·rw [if_neg e]; exact h j hj
def findR (rows : List (List Int)) (c : Nat) : Nat → Nat → Nat
 | 0, r => r
 | f + 1, r => if vec (rowOf rows r) c = 0 then findR rows c f (r + 1) else r
theorem findR_le (rows : List (List Int)) (c : Nat) : ∀ f r, r ≤ findR rows c f r ∧ findR rows c f r ≤ r + f
 | 0, r => by simp [findR]
 | f + 1, r => by
  unfold findR
  split
  ·have := findR_le rows c f (r + 1); omega
  ·omega
theorem findR_hit (rows : List (List Int)) (c : Nat) : ∀ f r, findR rows c f r < r + f → vec (rowOf rows (findR rows c f r)) c ≠ 0
 | 0, r, h => by simp [findR] at h
 | f + 1, r, h => by
  unfold findR at h ⊢
  by_cases h0 : vec (rowOf rows r) c = 0
  ·rw [if_pos h0] at h ⊢
   exact findR_hit rows c f (r + 1) (by omega)
  ·rw [if_neg h0]; exact h0
theorem findR_zero (rows : List (List Int)) (c : Nat) : ∀ f r i, r ≤ i → i < findR rows c f r → vec (rowOf rows i) c = 0
 | 0, r, i, h1, h2 => by simp [findR] at h2; omega
 | f + 1, r, i, h1, h2 => by
  unfold findR at h2
  by_cases h0 : vec (rowOf rows r) c = 0
  ·rw [if_pos h0] at h2
   by_cases e : i = r
   ·subst e; exact h0
   ·exact findR_zero rows c f (r + 1) i (by omega) h2
  ·rw [if_neg h0] at h2; omega
def swapR (rows : List (List Int)) (i j : Nat) : List (List Int) := (rows.set i (rowOf rows j)).set j (rowOf rows i)
theorem length_swapR (rows : List (List Int)) (i j : Nat) : (swapR rows i j).length = rows.length := by simp [swapR]
theorem rowOf_swapR {rows : List (List Int)} {i j k : Nat} (hi : i < rows.length) (hj : j < rows.length) : rowOf (swapR rows i j) k = if j = k then rowOf rows i else if i = k then rowOf rows j else rowOf rows k := by
 rw [swapR, rowOf_set (by simpa using hj), rowOf_set hi]
theorem Wf.swap {p : Int} {n : Nat} {rows : List (List Int)} (h : Wf p n rows) {i j : Nat} (hi : i < rows.length) (hj : j < rows.length) : Wf p n (swapR rows i j) :=
 (h.set hi (h j hj).1 (h j hj).2).set (by simpa using hj) (h i hi).1 (h i hi).2
def scaleR (p k : Int) (l : List Int) : List Int := l.map fun x => x * k % p
theorem length_scaleR (p k : Int) (l : List Int) : (scaleR p k l).length = l.length := by simp [scaleR]
theorem resid_scaleR {p : Int} (hp : 0 < p) (k : Int) (l : List Int) : resid p (scaleR p k l) = true :=
 resid_of fun i hi => by
  simp only [scaleR, List.getElem_map]
  exact ⟨Int.emod_nonneg _ (by omega), Int.emod_lt_of_pos _ hp⟩
theorem vec_scaleR {p k : Int} {l : List Int} {i : Nat} (hi : i < l.length) : vec (scaleR p k l) i = vec l i * k % p := by
 rw [← vec_eq (by rw [length_scaleR]; exact hi), ← vec_eq hi]; simp [scaleR]
def scaleTo (p k : Int) (l : List Int) (j : Nat) : List Int := (scaleR p k l).take j ++ l.drop j
theorem scaleTo_zero (p k : Int) (l : List Int) : scaleTo p k l 0 = l := by simp [scaleTo]
theorem scaleTo_end (p k : Int) (l : List Int) : scaleTo p k l l.length = scaleR p k l := by
 rw [scaleTo, List.drop_length, List.append_nil, List.take_of_length_le (by rw [length_scaleR]; exact Nat.le_refl _)]
theorem length_scaleTo (p k : Int) (l : List Int) (j : Nat) (h : j ≤ l.length) : (scaleTo p k l j).length = l.length := by
 simp [scaleTo, length_scaleR]; omega
theorem vec_scaleTo {p k : Int} {l : List Int} {j i : Nat} (h : j ≤ l.length) (hi : i < l.length) : vec (scaleTo p k l j) i = if i < j then vec l i * k % p else vec l i := by
 unfold scaleTo
 simp only [vec, List.getD_eq_getElem?_getD, List.getElem?_append, List.length_take, length_scaleR]
 by_cases hij : i < j
 ·rw [if_pos (by omega), if_pos hij, List.getElem?_take, if_pos hij]
  have := vec_scaleR (p := p) (k := k) hi
  simpa [vec, List.getD_eq_getElem?_getD] using this
 ·rw [if_neg (by omega), if_neg hij, List.getElem?_drop]
  congr 3
  omega
theorem scaleTo_set (p k : Int) (l : List Int) (j : Nat) (h : j < l.length) : (scaleTo p k l j).set j (vec l j * k % p) = scaleTo p k l (j + 1) := by
 refine list_ext (by simp [length_scaleTo p k l j (by omega), length_scaleTo p k l (j + 1) h]) fun i hi => ?_
 rw [List.length_set, length_scaleTo p k l j (by omega)] at hi
 rw [vec_scaleTo h hi]
 simp only [vec, List.getD_eq_getElem?_getD, List.getElem?_set, length_scaleTo p k l j (by omega)]
 by_cases e : j = i
 ·subst e
  simp [hi]
 ·rw [if_neg e]
  have := vec_scaleTo (p := p) (k := k) (j := j) (by omega) hi
  simp only [vec, List.getD_eq_getElem?_getD] at this
  rw [this]
  by_cases h2 : i < j
  ·rw [if_pos h2, if_pos (by omega)]
  ·rw [if_neg h2, if_neg (by omega)]
def elimRow (p : Int) (c a : Nat) (rows : List (List Int)) (i : Nat) : List Int :=
 if i = a ∨ vec (rowOf rows i) c = 0 then rowOf rows i else addL (rowOf rows i) (p - vec (rowOf rows i) c) (rowOf rows a) p
def elimTo (p : Int) (c a : Nat) (rows : List (List Int)) (k : Nat) : List (List Int) := (List.range rows.length).map fun i => if i < k then elimRow p c a rows i else rowOf rows i
def elimR (p : Int) (c a : Nat) (rows : List (List Int)) : List (List Int) := elimTo p c a rows rows.length
theorem length_elimTo (p : Int) (c a : Nat) (rows : List (List Int)) (k : Nat) : (elimTo p c a rows k).length = rows.length := by simp [elimTo]
theorem rowOf_elimTo {p : Int} {c a : Nat} {rows : List (List Int)} {k i : Nat} (hi : i < rows.length) : rowOf (elimTo p c a rows k) i = if i < k then elimRow p c a rows i else rowOf rows i := by
 simp [rowOf, elimTo, List.getD_eq_getElem?_getD, hi]
theorem elimTo_zero (p : Int) (c a : Nat) (rows : List (List Int)) : elimTo p c a rows 0 = rows :=
 rows_ext (length_elimTo _ _ _ _ _) fun i hi => by
  rw [length_elimTo] at hi
  rw [rowOf_elimTo hi, if_neg (by omega)]
theorem elimTo_keep {p : Int} {c a : Nat} {rows : List (List Int)} {k : Nat} (hk : k < rows.length) (h : elimRow p c a rows k = rowOf rows k) : elimTo p c a rows (k + 1) = elimTo p c a rows k :=
 rows_ext (by simp [length_elimTo]) fun i hi => by
  rw [length_elimTo] at hi
  rw [rowOf_elimTo hi, rowOf_elimTo hi]
  by_cases e : i = k
  ·subst e; rw [if_pos (by omega), if_neg (by omega), h]
  ·by_cases h1 : i < k
   ·rw [if_pos h1, if_pos (by omega)]
   ·rw [if_neg h1, if_neg (by omega)]
theorem elimTo_set {p : Int} {c a : Nat} {rows : List (List Int)} {k : Nat} (hk : k < rows.length) : (elimTo p c a rows k).set k (elimRow p c a rows k) = elimTo p c a rows (k + 1) :=
 rows_ext (by simp [length_elimTo]) fun i hi => by
  rw [List.length_set, length_elimTo] at hi
  rw [rowOf_set (by rw [length_elimTo]; exact hk), rowOf_elimTo hi, rowOf_elimTo hi]
  by_cases e : k = i
  ·subst e; rw [if_pos rfl, if_pos (by omega)]
  ·rw [if_neg e]
   by_cases h1 : i < k
   ·rw [if_pos h1, if_pos (by omega)]
   ·rw [if_neg h1, if_neg (by omega)]
theorem elimRow_wf {p : Int} (hp : 0 < p) {n c a : Nat} {rows : List (List Int)} (h : Wf p n rows) (ha : a < rows.length) {i : Nat} (hi : i < rows.length) : (elimRow p c a rows i).length = n ∧ resid p (elimRow p c a rows i) = true := by
 unfold elimRow
 split
 ·exact h i hi
 ·exact ⟨by rw [length_addL _ _ _ _ (by rw [(h a ha).1, (h i hi).1])]; exact (h i hi).1, resid_addL _ _ _ _ hp⟩
theorem Wf.elimTo {p : Int} (hp : 0 < p) {n c a : Nat} {rows : List (List Int)} (h : Wf p n rows) (ha : a < rows.length) (k : Nat) : Wf p n (elimTo p c a rows k) := by
 intro i hi
 rw [length_elimTo] at hi
 rw [rowOf_elimTo hi]
 split
 ·exact elimRow_wf hp h ha hi
 ·exact h i hi
def redCol (p : Int) (c : Nat) (s : List (List Int) × List Nat) : List (List Int) × List Nat :=
  if findR s.1 c (s.1.length - s.2.length) s.2.length < s.1.length then
    (elimR p c s.2.length ((swapR s.1 (findR s.1 c (s.1.length - s.2.length) s.2.length) s.2.length).set s.2.length
      (scaleR p (invE p (vec (rowOf (swapR s.1 (findR s.1 c (s.1.length - s.2.length) s.2.length) s.2.length) s.2.length) c)) (rowOf (swapR s.1 (findR s.1 c (s.1.length - s.2.length) s.2.length) s.2.length) s.2.length))), s.2 ++ [c])
  else s
def redR (p : Int) : Nat → Nat → List (List Int) × List Nat → List (List Int) × List Nat
 | 0, _, s => s
 | f + 1, c, s => redR p f (c + 1) (redCol p c s)
def reduceL (p : Int) (n : Nat) (rows : List (List Int)) : List (List Int) × List Nat := redR p n 0 (rows, [])
theorem redCol_no {p : Int} {c : Nat} {s : List (List Int) × List Nat} (h : findR s.1 c (s.1.length - s.2.length) s.2.length = s.1.length) : redCol p c s = s := by
 unfold redCol; rw [if_neg (by omega)]
theorem redCol_full {p : Int} {c : Nat} {s : List (List Int) × List Nat} (h : s.1.length ≤ s.2.length) : redCol p c s = s := by
 unfold redCol
 rw [if_neg]
 have := (findR_le s.1 c (s.1.length - s.2.length) s.2.length).1
 omega
theorem redR_full {p : Int} : ∀ (f c : Nat) (s : List (List Int) × List Nat), s.1.length ≤ s.2.length → redR p f c s = s
 | 0, _, _, _ => rfl
 | f + 1, c, s, h => by unfold redR; rw [redCol_full h, redR_full f (c + 1) s h]
structure RedOk (p : Int) (n m : Nat) (s : List (List Int) × List Nat) : Prop where
 wf : Wf p n s.1
 len : s.1.length = m
 piv : s.2.length ≤ m
theorem RedOk.col {p : Int} (hp : 0 < p) {n m c : Nat} {s : List (List Int) × List Nat} (h : RedOk p n m s) : RedOk p n m (redCol p c s) := by
 unfold redCol
 by_cases hf : findR s.1 c (s.1.length - s.2.length) s.2.length < s.1.length
 ·rw [if_pos hf]
  have h1 := (findR_le s.1 c (s.1.length - s.2.length) s.2.length).1
  have ha : s.2.length < s.1.length := by omega
  have hw := h.wf.swap hf ha
  have hl := hw s.2.length (by rw [length_swapR]; exact ha)
  have hw2 := hw.set (i := s.2.length) (by rw [length_swapR]; exact ha) (l := scaleR p (invE p (vec (rowOf (swapR s.1 (findR s.1 c (s.1.length - s.2.length) s.2.length) s.2.length) s.2.length) c)) (rowOf (swapR s.1 (findR s.1 c (s.1.length - s.2.length) s.2.length) s.2.length) s.2.length)) (by rw [length_scaleR]; exact hl.1) (resid_scaleR hp _ _)
  refine ⟨hw2.elimTo hp (by rw [List.length_set, length_swapR]; exact ha) _, ?_, ?_⟩
  ·simp only [elimR, length_elimTo, List.length_set, length_swapR]; exact h.len
  ·have := h.len; simp; omega
 ·rw [if_neg hf]; exact h
theorem RedOk.red {p : Int} (hp : 0 < p) {n m : Nat} : ∀ (f c : Nat) {s : List (List Int) × List Nat}, RedOk p n m s → RedOk p n m (redR p f c s)
 | 0, _, _, h => h
 | f + 1, c, _, h => RedOk.red hp f (c + 1) (h.col hp)
theorem RedOk.start {p : Int} {n : Nat} {rows : List (List Int)} (h : Wf p n rows) : RedOk p n rows.length (rows, []) := ⟨h, rfl, Nat.zero_le _⟩
theorem reduceL_ok {p : Int} (hp : 0 < p) {n : Nat} {rows : List (List Int)} (h : Wf p n rows) : RedOk p n rows.length (reduceL p n rows) := (RedOk.start h).red hp n 0
end
section
inductive Sp (p : Int) (n : Nat) (rows : List (List Int)) : (Nat → Int) → Prop
 | row (i : Nat) (h : i < rows.length) : Sp p n rows (vec (rowOf rows i))
 | zero : Sp p n rows (fun _ => 0)
 | comb (k : Int) {f g : Nat → Int} (hf : Sp p n rows f) (hg : Sp p n rows g) : Sp p n rows (fun c => f c + k * g c)
 | congr {f g : Nat → Int} (hf : Sp p n rows f) (h : ∀ c, c < n → ∃ u, f c - g c = p * u) : Sp p n rows g
theorem Sp.trans {p : Int} {n : Nat} {R S : List (List Int)} {f : Nat → Int} (h : Sp p n R f) (hr : ∀ i, i < R.length → Sp p n S (vec (rowOf R i))) : Sp p n S f := by
 induction h with
 | row i hi => exact hr i hi
 | zero => exact .zero
 | comb k _ _ h1 h2 => exact .comb k h1 h2
 | congr _ h h1 => exact .congr h1 h
theorem Sp.eqOn {p : Int} {n : Nat} {R : List (List Int)} {f g : Nat → Int} (h : Sp p n R f) (he : ∀ c, c < n → g c = f c) : Sp p n R g :=
 .congr h fun c hc => ⟨0, by rw [he c hc]; omega⟩
theorem Sp.mul {p : Int} {n : Nat} {R : List (List Int)} {f : Nat → Int} (h : Sp p n R f) (k : Int) : Sp p n R (fun c => k * f c) :=
 (Sp.comb k .zero h).eqOn fun _ _ => by simp
theorem emod_dvd {p a : Int} : ∃ u, a - a % p = p * u := ⟨a / p, by have := Int.mul_ediv_add_emod a p; omega⟩
def pv (piv : List Nat) (i : Nat) : Nat := piv.getD i 0
theorem pv_get {piv : List Nat} {i : Nat} (h : i < piv.length) : piv[i]? = some (pv piv i) := by
 simp [pv, List.getD_eq_getElem?_getD, List.getElem?_eq_getElem h]
theorem pv_app {piv : List Nat} {i : Nat} (h : i < piv.length) (c : Nat) : pv (piv ++ [c]) i = pv piv i := by
 simp [pv, List.getD_eq_getElem?_getD, List.getElem?_append_left h]
theorem pv_last (piv : List Nat) (c : Nat) : pv (piv ++ [c]) piv.length = c := by
 simp [pv, List.getD_eq_getElem?_getD]
theorem pv_mem {piv : List Nat} {i : Nat} (h : i < piv.length) : pv piv i ∈ piv := List.mem_of_getElem? (pv_get h)
theorem mem_pv {piv : List Nat} {c : Nat} (h : c ∈ piv) : ∃ i, i < piv.length ∧ pv piv i = c := by
 obtain ⟨i, hi⟩ := List.getElem?_of_mem h
 have hl := (List.getElem?_eq_some_iff.1 hi).1
 rw [pv_get hl] at hi
 exact ⟨i, hl, by simpa using hi⟩
structure Rf (p : Int) (n : Nat) (R : List (List Int)) (piv : List Nat) : Prop where
 len : R.length = piv.length
 wf : Wf p n R
 lt : ∀ i, i < piv.length → pv piv i < n
 mono : ∀ i j, i < j → j < piv.length → pv piv i < pv piv j
 one : ∀ i, i < piv.length → vec (rowOf R i) (pv piv i) = 1
 off : ∀ i j, i < piv.length → j < piv.length → i ≠ j → vec (rowOf R j) (pv piv i) = 0
 lead : ∀ i c, i < piv.length → c < pv piv i → vec (rowOf R i) c = 0
theorem Rf.coef {p : Int} {n : Nat} {R : List (List Int)} {piv : List Nat} (h : Rf p n R piv) {f : Nat → Int} (hf : Sp p n R f) : ∀ c, c < n → ∃ u, f c - sumTo piv.length (fun i => f (pv piv i) * vec (rowOf R i) c) = p * u := by
 induction hf with
 | row i hi =>
  intro c _
  rw [h.len] at hi
  refine ⟨0, ?_⟩
  have e : sumTo piv.length (fun j => vec (rowOf R i) (pv piv j) * vec (rowOf R j) c) = sumTo piv.length (fun j => if j = i then vec (rowOf R i) c else 0) := sumTo_congr fun j hj => by
   by_cases e : j = i
   ·subst e; rw [if_pos rfl, h.one j hj, Int.one_mul]
   ·rw [if_neg e, h.off j i hj hi e, Int.zero_mul]
  rw [e, sumTo_single hi (fun _ => vec (rowOf R i) c)]
  simp
 | zero =>
  intro c _
  refine ⟨0, ?_⟩
  have e : sumTo piv.length (fun i => (0 : Int) * vec (rowOf R i) c) = sumTo piv.length (fun _ => 0) := sumTo_congr fun i _ => Int.zero_mul _
  rw [e, sumTo_zero]; simp
 | comb k _ _ h1 h2 =>
  rename_i f g _ _
  intro c hc
  obtain ⟨u, hu⟩ := h1 c hc
  obtain ⟨v, hv⟩ := h2 c hc
  have e : sumTo piv.length (fun i => (f (pv piv i) + k * g (pv piv i)) * vec (rowOf R i) c) = sumTo piv.length (fun i => f (pv piv i) * vec (rowOf R i) c) + k * sumTo piv.length (fun i => g (pv piv i) * vec (rowOf R i) c) := by
   rw [← sumTo_mul, ← sumTo_add]
   exact sumTo_congr fun i _ => by grind
  refine ⟨u + k * v, ?_⟩
  rw [e]
  grind
 | congr _ he h1 =>
  rename_i f g _
  intro c hc
  obtain ⟨u, hu⟩ := h1 c hc
  obtain ⟨v, hv⟩ := he c hc
  have key : ∀ m, m ≤ piv.length → ∃ q, sumTo m (fun i => f (pv piv i) * vec (rowOf R i) c) - sumTo m (fun i => g (pv piv i) * vec (rowOf R i) c) = p * q := by
   intro m
   induction m with
   | zero => intro _; exact ⟨0, by simp [sumTo]⟩
   | succ m ih =>
    intro hm
    obtain ⟨q, hq⟩ := ih (by omega)
    obtain ⟨x, hx⟩ := he (pv piv m) (h.lt m (by omega))
    refine ⟨q + x * vec (rowOf R m) c, ?_⟩
    simp only [sumTo]
    grind
  obtain ⟨q, hq⟩ := key _ (Nat.le_refl _)
  exact ⟨u - v + q, by grind⟩
theorem Rf.nil {p : Int} {n : Nat} {R : List (List Int)} {piv : List Nat} (h : Rf p n R piv) {f : Nat → Int} (hf : Sp p n R f) (h0 : ∀ i, i < piv.length → ∃ u, f (pv piv i) = p * u) : ∀ c, c < n → ∃ u, f c = p * u := by
 intro c hc
 obtain ⟨u, hu⟩ := h.coef hf c hc
 have key : ∀ m, m ≤ piv.length → ∃ q, sumTo m (fun i => f (pv piv i) * vec (rowOf R i) c) = p * q := by
  intro m
  induction m with
  | zero => intro _; exact ⟨0, by simp [sumTo]⟩
  | succ m ih =>
   intro hm
   obtain ⟨q, hq⟩ := ih (by omega)
   obtain ⟨x, hx⟩ := h0 m (by omega)
   refine ⟨q + x * vec (rowOf R m) c, ?_⟩
   simp only [sumTo]
   rw [hq, hx]; grind
 obtain ⟨q, hq⟩ := key _ (Nat.le_refl _)
 exact ⟨u + q, by grind⟩
theorem Rf.first {p : Int} {n : Nat} {R : List (List Int)} {piv : List Nat} (h : Rf p n R piv) {f : Nat → Int} (hf : Sp p n R f) {c : Nat} (hc : c < n) (h1 : ¬ ∃ u, f c = p * u) (h0 : ∀ d, d < c → ∃ u, f d = p * u) : c ∈ piv := by
 apply Classical.byContradiction
 intro hn
 apply h1
 obtain ⟨u, hu⟩ := h.coef hf c hc
 have key : ∀ m, m ≤ piv.length → ∃ q, sumTo m (fun i => f (pv piv i) * vec (rowOf R i) c) = p * q := by
  intro m
  induction m with
  | zero => intro _; exact ⟨0, by simp [sumTo]⟩
  | succ m ih =>
   intro hm
   obtain ⟨q, hq⟩ := ih (by omega)
   simp only [sumTo]
   rcases Nat.lt_trichotomy (pv piv m) c with e | e | e
   ·obtain ⟨x, hx⟩ := h0 _ e
    exact ⟨q + x * vec (rowOf R m) c, by rw [hq, hx]; grind⟩
   ·exact absurd (e ▸ pv_mem (by omega)) hn
   ·exact ⟨q, by rw [hq, h.lead m c (by omega) e]; omega⟩
 obtain ⟨q, hq⟩ := key _ (Nat.le_refl _)
 exact ⟨u + q, by grind⟩
theorem pv_ext {a b : List Nat} (ha : ∀ i j, i < j → j < a.length → pv a i < pv a j) (hb : ∀ i j, i < j → j < b.length → pv b i < pv b j) (h : ∀ c, c ∈ a ↔ c ∈ b) : a = b := by
 have strict : ∀ {l : List Nat}, (∀ i j, i < j → j < l.length → pv l i < pv l j) → l.Pairwise (· < ·) := fun {l} hl => by
  rw [List.pairwise_iff_getElem]
  intro i j hi hj hij
  have := hl i j hij hj
  simpa [pv, List.getD_eq_getElem?_getD, List.getElem?_eq_getElem hi, List.getElem?_eq_getElem hj] using this
 have go : ∀ (a b : List Nat), a.Pairwise (· < ·) → b.Pairwise (· < ·) → (∀ c, c ∈ a ↔ c ∈ b) → a = b := by
  intro a
  induction a with
  | nil =>
   intro b _ _ h
   cases b with
   | nil => rfl
   | cons y b => exact absurd ((h y).2 (by simp)) (by simp)
  | cons x a ih =>
   intro b ha hb h
   cases b with
   | nil => exact absurd ((h x).1 (by simp)) (by simp)
   | cons y b =>
    rw [List.pairwise_cons] at ha hb
    have e : x = y := by
     rcases List.mem_cons.1 ((h x).1 (by simp)) with e | e
     ·exact e
     ·rcases List.mem_cons.1 ((h y).2 (by simp)) with e2 | e2
      ·exact e2.symm
      ·have h1 := hb.1 x e
       have h2 := ha.1 y e2
       omega
    subst e
    rw [ih b ha.2 hb.2 fun c => ?_]
    constructor
    ·intro hc
     rcases List.mem_cons.1 ((h c).1 (by simp [hc])) with e | e
     ·have := ha.1 c hc; omega
     ·exact e
    ·intro hc
     rcases List.mem_cons.1 ((h c).2 (by simp [hc])) with e | e
     ·have := hb.1 c hc; omega
     ·exact e
 exact go a b (strict ha) (strict hb) h
theorem Rf.pivSub {p : Int} (hp : 2 ≤ p) {n : Nat} {R S : List (List Int)} {a b : List Nat} (h1 : Rf p n R a) (h2 : Rf p n S b) (h : ∀ i, i < R.length → Sp p n S (vec (rowOf R i))) : ∀ c, c ∈ a → c ∈ b := by
 intro c hc
 obtain ⟨i, hi, rfl⟩ := mem_pv hc
 refine h2.first (h i (by rw [h1.len]; exact hi)) (h1.lt i hi) ?_ fun d hd => ⟨0, by rw [h1.lead i d hi hd]; omega⟩
 rw [h1.one i hi]
 rintro ⟨u, hu⟩
 have : p ∣ 1 := ⟨u, hu⟩
 have := Int.le_of_dvd (by decide) this
 omega
theorem Rf.unique {p : Int} (hp : 2 ≤ p) {n : Nat} {R S : List (List Int)} {a b : List Nat} (h1 : Rf p n R a) (h2 : Rf p n S b) (h : ∀ i, i < R.length → Sp p n S (vec (rowOf R i))) (h' : ∀ i, i < S.length → Sp p n R (vec (rowOf S i))) : R = S ∧ a = b := by
 have e : a = b := pv_ext h1.mono h2.mono fun c => ⟨h1.pivSub hp h2 h c, h2.pivSub hp h1 h' c⟩
 subst e
 refine ⟨rows_ext (by rw [h1.len, h2.len]) fun i hi => ?_, rfl⟩
 have hi' : i < a.length := by rw [← h1.len]; exact hi
 have hi2 : i < S.length := by rw [h2.len]; exact hi'
 obtain ⟨l1, r1⟩ := h1.wf i hi
 obtain ⟨l2, r2⟩ := h2.wf i hi2
 refine list_ext (l1.trans l2.symm) fun c hc => ?_
 rw [l1] at hc
 have hd := h1.nil (Sp.comb (-1) (.row i hi) (h' i hi2)) (fun j hj => ⟨0, by
  by_cases e : j = i
  ·subst e; rw [h1.one j hj, h2.one j hj]; omega
  ·rw [h1.off j i hj hi' e, h2.off j i hj hi' e]; omega⟩) c hc
 obtain ⟨u, hu⟩ := hd
 have b1 := resid_vec r1 (by rw [l1]; exact hc)
 have b2 := resid_vec r2 (by rw [l2]; exact hc)
 have hu' : vec (rowOf R i) c - vec (rowOf S i) c = p * u := by omega
 have hu0 : u = 0 := by
  rcases Int.lt_trichotomy u 0 with h | h | h
  ·have : p * u ≤ p * (-1) := Int.mul_le_mul_of_nonneg_left (by omega) (by omega)
   omega
  ·exact h
  ·have : p * 1 ≤ p * u := Int.mul_le_mul_of_nonneg_left (by omega) (by omega)
   omega
 rw [hu0] at hu'
 omega
end
section
theorem vec_addL {l ys : List Int} (k p : Int) (h : ys.length = l.length) {i : Nat} (hi : i < l.length) : vec (addL l k ys p) i = (vec l i + k * vec ys i) % p := by
 have hl : i < (addL l k ys p).length := by rw [length_addL _ _ _ _ h]; exact hi
 rw [← vec_eq hl, ← vec_eq hi, ← vec_eq (l := ys) (by omega)]
 simp [addL]
def stepR (p : Int) (c a r : Nat) (rows : List (List Int)) : List (List Int) :=
 elimR p c a ((swapR rows r a).set a (scaleR p (invE p (vec (rowOf (swapR rows r a) a) c)) (rowOf (swapR rows r a) a)))
theorem redCol_yes {p : Int} {c : Nat} {s : List (List Int) × List Nat} (h : findR s.1 c (s.1.length - s.2.length) s.2.length < s.1.length) :
  redCol p c s = (stepR p c s.2.length (findR s.1 c (s.1.length - s.2.length) s.2.length) s.1, s.2 ++ [c]) := by
 unfold redCol stepR; rw [if_pos h]
theorem length_stepR (p : Int) (c a r : Nat) (rows : List (List Int)) : (stepR p c a r rows).length = rows.length := by
 simp [stepR, elimR, length_elimTo, length_swapR]
theorem rowOf_stepR_at {p : Int} {c a r : Nat} {rows : List (List Int)} (ha : a < rows.length) (hr : r < rows.length) :
  rowOf (stepR p c a r rows) a = scaleR p (invE p (vec (rowOf rows r) c)) (rowOf rows r) := by
 have e : rowOf (swapR rows r a) a = rowOf rows r := by rw [rowOf_swapR hr ha, if_pos rfl]
 rw [stepR, e, elimR, rowOf_elimTo (by simpa [length_swapR] using ha), if_pos (by simpa [length_swapR] using ha), elimRow, if_pos (.inl rfl), rowOf_set (by rw [length_swapR]; exact ha), if_pos rfl]
theorem rowOf_stepR {p : Int} {c a r j : Nat} {rows : List (List Int)} (ha : a < rows.length) (hr : r < rows.length) (hj : j < rows.length) (hja : j ≠ a) :
  rowOf (stepR p c a r rows) j = if vec (rowOf rows (if j = r then a else j)) c = 0 then rowOf rows (if j = r then a else j) else addL (rowOf rows (if j = r then a else j)) (p - vec (rowOf rows (if j = r then a else j)) c) (rowOf (stepR p c a r rows) a) p := by
 rw [rowOf_stepR_at ha hr]
 have e : rowOf (swapR rows r a) a = rowOf rows r := by rw [rowOf_swapR hr ha, if_pos rfl]
 have e2 : rowOf (swapR rows r a) j = rowOf rows (if j = r then a else j) := by
  rw [rowOf_swapR hr ha, if_neg (fun h => hja h.symm)]
  by_cases h : j = r
  ·rw [if_pos h.symm, if_pos h]
  ·rw [if_neg (fun h' => h h'.symm), if_neg h]
 have hl : a < (swapR rows r a).length := by rw [length_swapR]; exact ha
 rw [stepR, e, elimR, rowOf_elimTo (by simpa [length_swapR] using hj), if_pos (by simpa [length_swapR] using hj), elimRow, rowOf_set hl, rowOf_set hl, if_neg (show ¬ a = j from fun h => hja h.symm), if_pos (show a = a from rfl), e2]
 by_cases h0 : vec (rowOf rows (if j = r then a else j)) c = 0
 ·rw [if_pos (.inr h0), if_pos h0]
 ·rw [if_neg (fun h => h.elim hja h0), if_neg h0]
section
variable {p : Int} {n c a r : Nat} {rows : List (List Int)}
theorem step_at (hw : Wf p n rows) (ha : a < rows.length) (hr : r < rows.length) {d : Nat} (hd : d < n) : vec (rowOf (stepR p c a r rows) a) d = vec (rowOf rows r) d * invE p (vec (rowOf rows r) c) % p := by
 rw [rowOf_stepR_at ha hr, vec_scaleR (by rw [(hw r hr).1]; exact hd)]
theorem step_one (hp : isPrime p = true) (hw : Wf p n rows) (ha : a < rows.length) (hr : r < rows.length) (hc : c < n) (hx : vec (rowOf rows r) c ≠ 0) : vec (rowOf (stepR p c a r rows) a) c = 1 := by
 rw [step_at hw ha hr hc]
 have := resid_vec (hw r hr).2 (i := c) (by rw [(hw r hr).1]; exact hc)
 exact invE_mul hp (by omega) this.2
theorem step_row (hw : Wf p n rows) (ha : a < rows.length) (hr : r < rows.length) {j d : Nat} (hj : j < rows.length) (hja : j ≠ a) (hd : d < n) :
  vec (rowOf (stepR p c a r rows) j) d = (vec (rowOf rows (if j = r then a else j)) d + (p - vec (rowOf rows (if j = r then a else j)) c) * vec (rowOf (stepR p c a r rows) a) d) % p ∨
  vec (rowOf rows (if j = r then a else j)) c = 0 ∧ vec (rowOf (stepR p c a r rows) j) d = vec (rowOf rows (if j = r then a else j)) d := by
 have hq : (if j = r then a else j) < rows.length := by split <;> assumption
 rw [rowOf_stepR ha hr hj hja]
 by_cases h0 : vec (rowOf rows (if j = r then a else j)) c = 0
 ·right; rw [if_pos h0]; exact ⟨h0, rfl⟩
 ·left
  rw [if_neg h0, vec_addL _ _ (by rw [rowOf_stepR_at ha hr, length_scaleR, (hw r hr).1, (hw _ hq).1]) (by rw [(hw _ hq).1]; exact hd)]
theorem step_zero (hp : isPrime p = true) (hw : Wf p n rows) (ha : a < rows.length) (hr : r < rows.length) (hc : c < n) (hx : vec (rowOf rows r) c ≠ 0) {j : Nat} (hj : j < rows.length) (hja : j ≠ a) : vec (rowOf (stepR p c a r rows) j) c = 0 := by
 rcases step_row (c := c) hw ha hr hj hja hc with h | ⟨h, h'⟩
 ·rw [h, step_one hp hw ha hr hc hx, Int.mul_one]
  have : vec (rowOf rows (if j = r then a else j)) c + (p - vec (rowOf rows (if j = r then a else j)) c) = p := by omega
  rw [this, Int.emod_self]
 ·rw [h', h]
theorem step_keep (hw : Wf p n rows) (ha : a < rows.length) (hr : r < rows.length) {j d : Nat} (hj : j < rows.length) (hja : j ≠ a) (hd : d < n) (h0 : vec (rowOf rows r) d = 0) : vec (rowOf (stepR p c a r rows) j) d = vec (rowOf rows (if j = r then a else j)) d := by
 have hq : (if j = r then a else j) < rows.length := by split <;> assumption
 rcases step_row (c := c) hw ha hr hj hja hd with h | ⟨_, h⟩
 ·have := resid_vec (hw _ hq).2 (i := d) (by rw [(hw _ hq).1]; exact hd)
  rw [h, step_at hw ha hr hd, h0, Int.zero_mul, Int.zero_emod, Int.mul_zero, Int.add_zero, Int.emod_eq_of_lt this.1 this.2]
 ·exact h
theorem step_at0 (hw : Wf p n rows) (ha : a < rows.length) (hr : r < rows.length) {d : Nat} (hd : d < n) (h0 : vec (rowOf rows r) d = 0) : vec (rowOf (stepR p c a r rows) a) d = 0 := by
 rw [step_at hw ha hr hd, h0, Int.zero_mul, Int.zero_emod]
theorem step_in (hw : Wf p n rows) (ha : a < rows.length) (hr : r < rows.length) (j : Nat) (hj : j < (stepR p c a r rows).length) : Sp p n rows (vec (rowOf (stepR p c a r rows) j)) := by
 rw [length_stepR] at hj
 have h1 : Sp p n rows (vec (rowOf (stepR p c a r rows) a)) := (Sp.mul (.row r hr) (invE p (vec (rowOf rows r) c))).congr fun d hd => by
  rw [step_at hw ha hr hd]
  obtain ⟨u, hu⟩ := @emod_dvd p (vec (rowOf rows r) d * invE p (vec (rowOf rows r) c))
  exact ⟨u, by grind⟩
 by_cases hja : j = a
 ·subst hja; exact h1
 ·have hq : (if j = r then a else j) < rows.length := by split <;> assumption
  by_cases h0 : vec (rowOf rows (if j = r then a else j)) c = 0
  ·rw [rowOf_stepR ha hr hj hja, if_pos h0]; exact .row _ hq
  ·refine (Sp.comb (p - vec (rowOf rows (if j = r then a else j)) c) (.row _ hq) h1).congr fun d hd => ?_
   rcases step_row (c := c) hw ha hr hj hja hd with h | ⟨h, _⟩
   ·rw [h]; exact emod_dvd
   ·exact absurd h h0
theorem step_out (hp : isPrime p = true) (hw : Wf p n rows) (ha : a < rows.length) (hr : r < rows.length) (hc : c < n) (hx : vec (rowOf rows r) c ≠ 0) (j : Nat) (hj : j < rows.length) : Sp p n (stepR p c a r rows) (vec (rowOf rows j)) := by
 have hla : a < (stepR p c a r rows).length := by rw [length_stepR]; exact ha
 have hb := resid_vec (hw r hr).2 (i := c) (by rw [(hw r hr).1]; exact hc)
 have hi := invE_mul hp (n := vec (rowOf rows r) c) (by omega) hb.2
 have hR : Sp p n (stepR p c a r rows) (vec (rowOf rows r)) := (Sp.mul (.row a hla) (vec (rowOf rows r) c)).congr fun d hd => by
  rw [step_at hw ha hr hd]
  obtain ⟨u, hu⟩ := @emod_dvd p (vec (rowOf rows r) d * invE p (vec (rowOf rows r) c))
  obtain ⟨v, hv⟩ := @emod_dvd p (vec (rowOf rows r) c * invE p (vec (rowOf rows r) c))
  rw [hi] at hv
  exact ⟨vec (rowOf rows r) d * v - vec (rowOf rows r) c * u, by grind⟩
 have hS : ∀ q, q < rows.length → q ≠ a → Sp p n (stepR p c a r rows) (vec (rowOf rows (if q = r then a else q))) := fun q hq hqa => by
  have hlq : q < (stepR p c a r rows).length := by rw [length_stepR]; exact hq
  by_cases h0 : vec (rowOf rows (if q = r then a else q)) c = 0
  ·have e := rowOf_stepR (p := p) (c := c) ha hr hq hqa
   rw [if_pos h0] at e
   rw [← e]; exact .row q hlq
  ·refine (Sp.comb (vec (rowOf rows (if q = r then a else q)) c) (.row q hlq) (.row a hla)).congr fun d hd => ?_
   rcases step_row (c := c) hw ha hr hq hqa hd with h | ⟨h, _⟩
   ·rw [h]
    obtain ⟨u, hu⟩ := @emod_dvd p (vec (rowOf rows (if q = r then a else q)) d + (p - vec (rowOf rows (if q = r then a else q)) c) * vec (rowOf (stepR p c a r rows) a) d)
    exact ⟨vec (rowOf (stepR p c a r rows) a) d - u, by grind⟩
   ·exact absurd h h0
 by_cases e1 : j = r
 ·subst e1; exact hR
 ·by_cases e2 : j = a
  ·have := hS r hr (fun e => e1 (e2.trans e.symm))
   rw [if_pos rfl] at this
   rw [e2]; exact this
  ·have := hS j hj e2
   rw [if_neg e1] at this
   exact this
end
structure RedSt (p : Int) (n m c : Nat) (s : List (List Int) × List Nat) : Prop where
 ok : RedOk p n m s
 lt : ∀ i, i < s.2.length → pv s.2 i < c
 mono : ∀ i j, i < j → j < s.2.length → pv s.2 i < pv s.2 j
 one : ∀ i, i < s.2.length → vec (rowOf s.1 i) (pv s.2 i) = 1
 off : ∀ i j, i < s.2.length → j < m → i ≠ j → vec (rowOf s.1 j) (pv s.2 i) = 0
 lead : ∀ i d, i < s.2.length → d < pv s.2 i → vec (rowOf s.1 i) d = 0
 rest : ∀ j d, s.2.length ≤ j → j < m → d < c → vec (rowOf s.1 j) d = 0
theorem RedSt.col {p : Int} (hp : isPrime p = true) {n m c : Nat} {s : List (List Int) × List Nat} (h : RedSt p n m c s) (hc : c < n) : RedSt p n m (c + 1) (redCol p c s) := by
 have hb := isPrime_bd hp
 have hok := h.ok.col (c := c) (by omega)
 obtain ⟨S, piv⟩ := s
 obtain ⟨⟨hw, hm, hpm⟩, h1, h2, h3, h4, h5, h6⟩ := h
 simp only at hw hm hpm h1 h2 h3 h4 h5 h6
 subst hm
 have hf := findR_le S c (S.length - piv.length) piv.length
 by_cases hy : findR S c (S.length - piv.length) piv.length < S.length
 ·have hx := findR_hit S c (S.length - piv.length) piv.length (by omega)
  have hz := findR_zero S c (S.length - piv.length) piv.length
  have e := redCol_yes (p := p) (s := (S, piv)) hy
  rw [e] at hok ⊢
  obtain ⟨r, hr⟩ : ∃ r, r = findR S c (S.length - piv.length) piv.length := ⟨_, rfl⟩
  simp only at hok ⊢
  rw [← hr] at hy hx hz hf hok ⊢
  clear hr e
  have ha : piv.length < S.length := by omega
  have low : ∀ i, i < piv.length → vec (rowOf S r) (pv piv i) = 0 := fun i hi => h4 i r hi hy (by omega)
  refine ⟨hok, fun i hi => ?_, fun i j hij hj => ?_, fun i hi => ?_, fun i j hi hj hne => ?_, fun i d hi hd => ?_, fun j d hj1 hj2 hd => ?_⟩
  ·simp only [List.length_append, List.length_singleton] at hi
   by_cases e : i < piv.length
   ·rw [pv_app e]; have := h1 i e; omega
   ·obtain rfl : i = piv.length := by omega
    rw [pv_last]; omega
  ·simp only [List.length_append, List.length_singleton] at hj
   by_cases e : j < piv.length
   ·rw [pv_app e, pv_app (by omega)]; exact h2 i j hij e
   ·obtain rfl : j = piv.length := by omega
    rw [pv_last, pv_app (by omega)]; exact h1 i (by omega)
  ·simp only [List.length_append, List.length_singleton] at hi
   by_cases e : i < piv.length
   ·have hl := h1 i e
    rw [pv_app e, step_keep hw ha hy (by omega) (by omega) (by omega) (low i e), if_neg (by omega)]
    exact h3 i e
   ·obtain rfl : i = piv.length := by omega
    rw [pv_last]; exact step_one hp hw ha hy hc hx
  ·simp only [List.length_append, List.length_singleton] at hi
   by_cases e : i < piv.length
   ·have hl := h1 i e
    rw [pv_app e]
    by_cases ej : j = piv.length
    ·subst ej; exact step_at0 hw ha hy (by omega) (low i e)
    ·rw [step_keep hw ha hy hj ej (by omega) (low i e)]
     by_cases er : j = r
     ·rw [if_pos er]; exact h4 i _ e ha (by omega)
     ·rw [if_neg er]; exact h4 i j e hj hne
   ·obtain rfl : i = piv.length := by omega
    rw [pv_last]; exact step_zero hp hw ha hy hc hx hj (fun e => hne e.symm)
  ·simp only [List.length_append, List.length_singleton] at hi
   by_cases e : i < piv.length
   ·rw [pv_app e] at hd
    have hl := h1 i e
    have hr0 : vec (rowOf S r) d = 0 := h6 r d (by omega) hy (by omega)
    rw [step_keep hw ha hy (by omega) (by omega) (by omega) hr0, if_neg (by omega)]
    exact h5 i d e hd
   ·obtain rfl : i = piv.length := by omega
    rw [pv_last] at hd
    exact step_at0 hw ha hy (by omega) (h6 r d (by omega) hy hd)
  ·simp only [List.length_append, List.length_singleton] at hj1
   by_cases ed : d = c
   ·subst ed; exact step_zero hp hw ha hy hc hx hj2 (by omega)
   ·have hr0 : vec (rowOf S r) d = 0 := h6 r d (by omega) hy (by omega)
    rw [step_keep hw ha hy hj2 (by omega) (by omega) hr0]
    by_cases er : j = r
    ·rw [if_pos er]; exact h6 _ d (Nat.le_refl _) ha (by omega)
    ·rw [if_neg er]; exact h6 j d (by omega) hj2 (by omega)
 ·have he : findR S c (S.length - piv.length) piv.length = S.length := by omega
  rw [redCol_no (p := p) (s := (S, piv)) he] at hok ⊢
  have hz := findR_zero S c (S.length - piv.length) piv.length
  rw [he] at hz
  refine ⟨hok, fun i hi => ?_, h2, h3, h4, h5, fun j d hj1 hj2 hd => ?_⟩
  ·have := h1 i hi
   simp only at this ⊢
   omega
  ·by_cases ed : d = c
   ·subst ed; exact hz j hj1 hj2
   ·exact h6 j d hj1 hj2 (by omega)
theorem RedSt.red {p : Int} (hp : isPrime p = true) {n m : Nat} : ∀ (f c : Nat) {s : List (List Int) × List Nat}, RedSt p n m c s → c + f ≤ n → RedSt p n m (c + f) (redR p f c s)
 | 0, _, _, h, _ => h
 | f + 1, c, _, h, hf => by
  have := RedSt.red hp f (c + 1) (h.col hp (by omega)) (by omega)
  rw [show c + 1 + f = c + (f + 1) from by omega] at this
  exact this
theorem RedSt.start {p : Int} {n : Nat} {rows : List (List Int)} (h : Wf p n rows) : RedSt p n rows.length 0 (rows, []) :=
 ⟨RedOk.start h, fun i hi => absurd hi (by simp), fun i j _ hj => absurd hj (by simp), fun i hi => absurd hi (by simp), fun i j hi => absurd hi (by simp), fun i d hi => absurd hi (by simp), fun j d _ _ hd => absurd hd (by omega)⟩
theorem redCol_span {p : Int} (hp : isPrime p = true) {n m c : Nat} {s : List (List Int) × List Nat} (h : RedOk p n m s) (hc : c < n) :
  (∀ i, i < s.1.length → Sp p n (redCol p c s).1 (vec (rowOf s.1 i))) ∧ (∀ i, i < (redCol p c s).1.length → Sp p n s.1 (vec (rowOf (redCol p c s).1 i))) := by
 have hf := findR_le s.1 c (s.1.length - s.2.length) s.2.length
 by_cases hy : findR s.1 c (s.1.length - s.2.length) s.2.length < s.1.length
 ·rw [redCol_yes hy]
  have hx := findR_hit s.1 c (s.1.length - s.2.length) s.2.length (by omega)
  exact ⟨fun i hi => step_out hp h.wf (by omega) hy hc hx i hi, fun i hi => step_in h.wf (by omega) hy i hi⟩
 ·rw [redCol_no (by have := h.piv; have := h.len; omega)]
  exact ⟨fun i hi => .row i hi, fun i hi => .row i hi⟩
theorem redR_span {p : Int} (hp : isPrime p = true) {n m : Nat} : ∀ (f c : Nat) {s : List (List Int) × List Nat}, RedOk p n m s → c + f ≤ n →
  (∀ i, i < s.1.length → Sp p n (redR p f c s).1 (vec (rowOf s.1 i))) ∧ (∀ i, i < (redR p f c s).1.length → Sp p n s.1 (vec (rowOf (redR p f c s).1 i)))
 | 0, _, _, _, _ => ⟨fun i hi => .row i hi, fun i hi => .row i hi⟩
 | f + 1, c, s, h, hf => by
  have hb := isPrime_bd hp
  have a := redCol_span hp h (c := c) (by omega)
  have b := redR_span hp f (c + 1) (h.col (c := c) (by omega)) (by omega)
  exact ⟨fun i hi => (a.1 i hi).trans b.1, fun i hi => (b.2 i hi).trans a.2⟩
def spanL (p : Int) (n : Nat) (rows : List (List Int)) : List (List Int) := (reduceL p n rows).1.take (reduceL p n rows).2.length
def pivL (p : Int) (n : Nat) (rows : List (List Int)) : List Nat := (reduceL p n rows).2
theorem rowOf_take {rows : List (List Int)} {k i : Nat} (h : i < k) : rowOf (rows.take k) i = rowOf rows i := by
 simp [rowOf, List.getD_eq_getElem?_getD, h]
theorem reduceL_st {p : Int} (hp : isPrime p = true) {n : Nat} {rows : List (List Int)} (h : Wf p n rows) : RedSt p n rows.length n (reduceL p n rows) := by
 have := RedSt.red hp n 0 (RedSt.start h) (by omega)
 rwa [Nat.zero_add] at this
theorem length_spanL {p : Int} (hp : isPrime p = true) {n : Nat} {rows : List (List Int)} (h : Wf p n rows) : (spanL p n rows).length = (pivL p n rows).length := by
 have := (reduceL_st hp h).ok
 have h1 := this.len
 have h2 := this.piv
 rw [spanL, List.length_take, pivL]; omega
theorem spanL_rf {p : Int} (hp : isPrime p = true) {n : Nat} {rows : List (List Int)} (h : Wf p n rows) : Rf p n (spanL p n rows) (pivL p n rows) := by
 have s := reduceL_st hp h
 have hl := length_spanL hp h
 have hm := s.ok.piv
 have hlen := s.ok.len
 have tk : ∀ {i}, i < (pivL p n rows).length → rowOf (spanL p n rows) i = rowOf (reduceL p n rows).1 i := fun hi => rowOf_take hi
 refine ⟨hl, fun i hi => ?_, s.lt, s.mono, fun i hi => ?_, fun i j hi hj hne => ?_, fun i c hi hc => ?_⟩
 ·rw [tk (by omega)]; exact s.ok.wf i (by rw [hl] at hi; simp only [pivL] at hi; omega)
 ·rw [tk hi]; exact s.one i hi
 ·rw [tk hj]; exact s.off i j hi (by simp only [pivL] at hj; omega) hne
 ·rw [tk hi]; exact s.lead i c hi hc
theorem spanL_in {p : Int} (hp : isPrime p = true) {n : Nat} {rows : List (List Int)} (h : Wf p n rows) (i : Nat) (hi : i < (spanL p n rows).length) : Sp p n rows (vec (rowOf (spanL p n rows) i)) := by
 have hl := length_spanL hp h
 have s := reduceL_st hp h
 have := (redR_span hp n 0 (RedOk.start h) (by omega)).2 i (by
  have h1 := s.ok.len; have h2 := s.ok.piv
  show i < (reduceL p n rows).1.length
  rw [hl] at hi; simp only [pivL] at hi; omega)
 have e : rowOf (spanL p n rows) i = rowOf (reduceL p n rows).1 i := rowOf_take (by rw [hl] at hi; exact hi)
 rw [e]; exact this
theorem spanL_out {p : Int} (hp : isPrime p = true) {n : Nat} {rows : List (List Int)} (h : Wf p n rows) (i : Nat) (hi : i < rows.length) : Sp p n (spanL p n rows) (vec (rowOf rows i)) := by
 have hl := length_spanL hp h
 have s := reduceL_st hp h
 refine ((redR_span hp n 0 (RedOk.start h) (by omega)).1 i hi).trans fun j hj => ?_
 have hj' : j < rows.length := by have := s.ok.len; rw [← this]; exact hj
 by_cases e : j < (pivL p n rows).length
 ·have e2 : rowOf (spanL p n rows) j = rowOf (reduceL p n rows).1 j := rowOf_take e
  have := Sp.row (p := p) (n := n) (rows := spanL p n rows) j (by rw [hl]; exact e)
  rw [e2] at this; exact this
 ·exact Sp.zero.eqOn fun c hc => s.rest j c (by simp only [pivL] at e; omega) hj' hc
theorem spanL_eq {p : Int} (hp : isPrime p = true) {n : Nat} {R S : List (List Int)} (h1 : Wf p n R) (h2 : Wf p n S) (h : ∀ i, i < R.length → Sp p n S (vec (rowOf R i))) (h' : ∀ i, i < S.length → Sp p n R (vec (rowOf S i))) : spanL p n R = spanL p n S ∧ pivL p n R = pivL p n S := by
 have hb := isPrime_bd hp
 exact (spanL_rf hp h1).unique (by omega) (spanL_rf hp h2) (fun i hi => ((spanL_in hp h1 i hi).trans h).trans (spanL_out hp h2)) (fun i hi => ((spanL_in hp h2 i hi).trans h').trans (spanL_out hp h1))
theorem spanL_self {p : Int} (hp : isPrime p = true) {n : Nat} {R : List (List Int)} {piv : List Nat} (h : Rf p n R piv) : spanL p n R = R ∧ pivL p n R = piv := by
 have hb := isPrime_bd hp
 exact (spanL_rf hp h.wf).unique (by omega) h (spanL_in hp h.wf) (spanL_out hp h.wf)
end
end Go.Proofs.YtbnefjhljfbecaaGreatDoor
