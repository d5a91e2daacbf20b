/- The reference's brackets: l2Get, l2Row, l2Basis, l2Plus, l2Bracket. -/
import Derived.Test.YtechjmckfedblaaAlgI
namespace Go.Proofs.Ytechjmckfedblaa
set_option maxRecDepth 100000
open Go.RowKit

theorem idx3_bd {n i j k : Nat} (hi : i < n) (hj : j < n) (hk : k < n) : (i * n + j) * n + k < n * n * n := by have := idx_bd hi hj; omega

set_option maxHeartbeats 400000 in
theorem l2Get_any (p : Int) (n : Nat) (t : Value) (T : List Int) (i j k B : Nat) (w : World) (ht : IntsB w B t T) (hB : B ≤ w.heap.size) (hT : T.length = n * n * n) (hi : i < n) (hj : j < n) (hk : k < n) (hn : n ≤ 28) :
    Calls Try.prog 125 #[.agg #[.int .i64 p, .int .i64 n, t], .int .i64 i, .int .i64 j, .int .i64 k] w fun e w' => e = .returned (.int .i64 (t3 T n i j k)) ∧ Below w.heap.size w w' := by
  obtain ⟨A, c, rfl, h1, h2, h3⟩ := id ht.1
  clear h3
  have hb := idx3_bd hi hj hk
  have hcu := cube_le hn
  rw [← hT] at hb hcu
  obtain ⟨a, ha⟩ : ∃ a, a = (i * n + j) * n + k := ⟨_, rfl⟩
  have hin : i * n ≤ 784 := by have := Nat.mul_le_mul (Nat.le_trans (Nat.le_of_lt hi) hn) hn; omega
  have r1 : 0 ≤ (i : Int) * n ∧ (i : Int) * n ≤ 784 := by
    have : ((i * n : Nat) : Int) = (i : Int) * n := by simp
    omega
  have r2 : 0 ≤ ((i : Int) * n + j) * n ∧ ((i : Int) * n + j) * n ≤ 21952 := by
    have : (((i * n + j) * n : Nat) : Int) = ((i : Int) * n + j) * n := by simp
    omega
  have hat : ((i : Int) * n + j) * n + k = (a : Int) := by rw [ha]; simp
  rw [← ha] at hb
  have ht1 : IntsB (w.alloc (.cells #[.int .i64 p, .int .i64 n, .slice A T.length c] 30)) B (.slice A T.length c) T := ht.below ((Below.refl B w).alloc hB _) (Nat.le_refl _)
  obtain ⟨b, off, rfl, hbB, e1⟩ := ht1.cell hb
  have HV := Lib.hid (show vec T a = t3 T n i j k by rw [t3, ← ha])
  have HT := Lib.hid hT
  have HA := Lib.hid ha
  clear ha hT
  go_enter Try.func125, Try.ntmps125
  go_wp2
  go_ret
  exact ⟨ret_int HV.out, (Below.refl _ _).alloc (Nat.le_refl _) _⟩

set_option maxHeartbeats 400000 in
theorem l2Row_any (p : Int) (n : Nat) (t : Value) (T : List Int) (i j B : Nat) (w : World) (ht : IntsB w B t T) (hB : B ≤ w.heap.size) (hT : T.length = n * n * n) (hi : i < n) (hj : j < n) (hn : n ≤ 28) :
    Calls Try.prog 104 #[.agg #[.int .i64 p, .int .i64 n, t], .int .i64 i, .int .i64 j] w (RetB w B n (rowT T n i j)) := by
  obtain ⟨A, c, rfl, h1, h2, h3⟩ := id ht.1
  clear h3
  have hcut := rowT_cut hT hi hj
  have hb := idx_bd hi hj
  have hcu := cube_le hn
  rw [← hT] at hb hcu
  obtain ⟨a, ha⟩ : ∃ a, a = (i * n + j) * n := ⟨_, rfl⟩
  have hin : i * n ≤ 784 := by have := Nat.mul_le_mul (Nat.le_trans (Nat.le_of_lt hi) hn) hn; omega
  have r1 : 0 ≤ (i : Int) * n ∧ (i : Int) * n ≤ 784 := by
    have : ((i * n : Nat) : Int) = (i : Int) * n := by simp
    omega
  have hat : ((i : Int) * n + j) * n = (a : Int) := by rw [ha]; simp
  have hat2 : ((i : Int) * n + j + 1) * n = (a : Int) + n := by rw [ha, Int.add_mul _ 1, Int.one_mul]; simp
  rw [← ha] at hcut hb
  have ha2 : a ≤ 21952 := by omega
  obtain ⟨A', hrun0, hA'⟩ := cutMidB ht a (a + n) (by omega) (by omega)
  have e1 : a + n - a = n := by omega
  rw [e1] at hrun0 hA'
  rw [hcut] at hA'
  have hrun : ∀ W : World, (Instr.sliceAt 22 (.slice A T.length c) (some (.int .i64 (a : Int))) (some (.int .i64 ((a : Int) + (n : Int)))) none).run Try.prog W = .ok (.slice A' n (c - a)) W := fun W => hrun0 W
  have HT := Lib.hid hT
  have HA := Lib.hid ha
  clear hrun0 hcut e1 ha hT
  go_enter Try.func104, Try.ntmps104
  go_wp2
  go_ret
  exact ⟨A', c - a, rfl, hA'.below ((Below.refl B w).alloc hB _) (Nat.le_refl _), (Below.refl _ _).alloc (Nat.le_refl _) _⟩

/-- The basis element k. -/
def unitL (n k : Nat) : List Int := tab n fun i => if i = k then 1 else 0
set_option maxHeartbeats 400000 in
theorem l2Basis_any (n k : Nat) (w : World) (hn : n ≤ 1048576) (hk : k < n) :
    Calls Try.prog 146 #[.int .i64 n, .int .i64 k] w (RetOwn w (unitL n k)) := by
  have hmk := makeI n (by omega)
  have ho := Own.made (W := w) (n := n) (lo := w.heap.size) (by omega) (Nat.le_refl _)
  obtain ⟨e1, e2⟩ := ho.cell k (by simpa using hk)
  obtain ⟨ho', hg'⟩ := ho.set k 1
  rw [← tab_zero, tab_set, World.setCell_alloc_new] at ho'
  clear ho
  go_enter Try.func146, Try.ntmps146
  go_wp2
  go_ret
  exact ⟨_, rfl, ho', (Below.refl _ _).alloc (Nat.le_refl _) _⟩

def plusL (p : Int) (xs ys : List Int) : List Int := tab xs.length fun i => (vec xs i + vec ys i) % p
/-- A list on its way: the first k places hold f, the others still 0. -/
def upTo (k : Nat) (f : Nat → Int) (i : Nat) : Int := if i < k then f i else 0
theorem upTo_set (n k : Nat) (f : Nat → Int) : (tab n (upTo k f)).set k (f k) = tab n (upTo (k + 1) f) := by
  rw [tab_set]
  refine tab_congr fun i _ => ?_
  unfold upTo
  by_cases e : i = k
  · subst e; rw [if_pos rfl, if_pos (by omega)]
  · rw [if_neg e]
    by_cases h : i < k
    · rw [if_pos h, if_pos (by omega)]
    · rw [if_neg h, if_neg (by omega)]
theorem upTo_zero (n : Nat) (f : Nat → Int) : tab n (upTo 0 f) = List.replicate n 0 := by
  rw [← tab_zero]; exact tab_congr fun i _ => by simp [upTo]
theorem upTo_end (n : Nat) (f : Nat → Int) : tab n (upTo n f) = tab n f := tab_congr fun i hi => by simp [upTo, hi]

set_option maxHeartbeats 400000 in
theorem l2Plus_any (p : Int) (v u : Value) (xs ys : List Int) (B : Nat) (w : World) (hv : IntsB w B v xs) (hu : IntsB w B u ys) (hB : B ≤ w.heap.size) (hlen : ys.length = xs.length) (hn : xs.length ≤ 1048576) (hp : 2 ≤ p) (hp' : p ≤ 10007) (rx : resid p xs = true) (ry : resid p ys = true) :
    Calls Try.prog 156 #[.int .i64 p, v, u] w (RetOwn w (plusL p xs ys)) := by
  obtain ⟨A, c, rfl, _, _, _⟩ := id hv.1
  obtain ⟨A2, c2, rfl, _, _, _⟩ := id hu.1
  have hmk := makeI xs.length (by omega)
  have ho := Own.made (W := w) (n := xs.length) (lo := w.heap.size) (by omega) (Nat.le_refl _)
  have u1 : xs.length ≤ ys.length := by omega
  have HL := Lib.hid hlen
  have Hx := Lib.hid rx
  have Hy := Lib.hid ry
  clear hlen rx ry
  go_enter Try.func156, Try.ntmps156
  go_wp2
  go_loopw [8] (fun vi wr => ∃ k : Nat, vi = .int .i64 k ∧ k ≤ xs.length ∧ Own wr w.heap.size (.slice (some ⟨w.heap.size, 0, none⟩) xs.length xs.length) (tab xs.length (upTo k fun i => (vec xs i + vec ys i) % p)) ∧ Below w.heap.size w wr) (fun vi _ => xs.length - (intOf vi).toNat)
  case atStart => exact ⟨0, rfl, by omega, by rw [upTo_zero]; exact ho, (Below.refl _ _).alloc (Nat.le_refl _) _⟩
  case round =>
    obtain ⟨k, rfl, a1, ho1, hb⟩ := hrel
    by_cases hk : k < xs.length
    · have hv1 := hv.below hb hB
      have hu1 := hu.below hb hB
      obtain ⟨b, off, rfl, hbB, e1⟩ := hv1.cell hk
      obtain ⟨b', off', rfl, hbB', e2⟩ := hu1.cell (k := k) (by omega)
      obtain ⟨q1, q2⟩ := resid_vec Hx.out hk
      obtain ⟨q3, q4⟩ := resid_vec Hy.out (i := k) (by omega)
      obtain ⟨e3, e4⟩ := ho1.cell k (by rw [length_tab]; exact hk)
      obtain ⟨ho2, hg2⟩ := ho1.set k ((vec xs k + vec ys k) % p)
      have hs := upTo_set xs.length k (fun i => (vec xs i + vec ys i) % p)
      have HS := Lib.hid hs
      have n1 : b < w.heap.size := by omega
      have n2 : b' < w.heap.size := by omega
      have i1 : (k : Int) < ys.length := by omega
      have i2 : (k : Int) < xs.length := by omega
      have i3 : IntKind.i64.wrap (vec xs k + vec ys k) = vec xs k + vec ys k := IntWalk.i64_in _ (by omega)
      have i4 : 0 ≤ vec xs k + vec ys k := by omega
      have j1 : (vec xs k + vec ys k).tmod p = (vec xs k + vec ys k) % p := Int.tmod_eq_emod_of_nonneg i4
      have j2 : IntKind.i64.wrap ((vec xs k + vec ys k) % p) = (vec xs k + vec ys k) % p := by
        have := Int.emod_lt_of_pos (vec xs k + vec ys k) (b := p) (by omega)
        have := Int.emod_nonneg (vec xs k + vec ys k) (b := p) (by omega)
        exact IntWalk.i64_in _ (by omega)
      have j3 : ¬ p = 0 := by omega
      have e5 := (World.cell?_setCell_other wr ⟨w.heap.size, k, none⟩ ⟨b, off + k, none⟩ (.int .i64 ((vec xs k + vec ys k) % p)) (fun e => by injection e; omega)).trans e1
      have e6 := (World.cell?_setCell_other wr ⟨w.heap.size, k, none⟩ ⟨b', off' + k, none⟩ (.int .i64 ((vec xs k + vec ys k) % p)) (fun e => by injection e; omega)).trans e2
      clear hs ho hv hu
      go_wp2
      go_region_held3 (fun w' => w'.cell? ⟨b, off + k, none⟩ = some (.int .i64 (vec xs k)) ∧ w'.cell? ⟨b', off' + k, none⟩ = some (.int .i64 (vec ys k)))
        (first | exact ⟨e1, e2⟩ | exact ⟨e5, e6⟩)
        (fail)
      clear i3 j1 j2 j3
      have ho3 : Own (wr.setCell ⟨w.heap.size, k, none⟩ (.int .i64 ((vec xs k + vec ys k) % p))).drew w.heap.size (.slice (some ⟨w.heap.size, 0, none⟩) xs.length xs.length) (tab xs.length (upTo (k + 1) fun i => (vec xs i + vec ys i) % p)) := by rw [← HS.out]; exact ho2
      have hb3 : Below w.heap.size w (wr.setCell ⟨w.heap.size, k, none⟩ (.int .i64 ((vec xs k + vec ys k) % p))).drew := (hb.setCell (Nat.le_refl _) _).drew
      go_wp2
      go_roundw
      case rel => exact ⟨k + 1, by go_num, by omega, ho3, hb3⟩
      case measure => simp [intOf]; omega
    · obtain rfl : k = xs.length := by omega
      rw [upTo_end] at ho1
      go_wp2
      go_ret
      exact ⟨_, rfl, ho1, hb⟩
end Go.Proofs.Ytechjmckfedblaa
