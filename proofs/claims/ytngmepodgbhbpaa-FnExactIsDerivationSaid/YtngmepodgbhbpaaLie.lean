/- The program's lie: brackets of basis elements, of an element and a basis element, of two elements. -/
import Derived.Test.YtngmepodgbhbpaaPlain
import Derived.Deep.RegionHeld3
namespace Go.Proofs.Ytngmepodgbhbpaa
set_option maxRecDepth 100000
open Go.RowKit

/-- The number of times that the basis element k is in the bracket of i and j. -/
def t3 (T : List Int) (n i j k : Nat) : Int := vec T ((i * n + j) * n + k)
/-- The bracket of the basis elements i and j. -/
def rowT (T : List Int) (n i j : Nat) : List Int := tab n (t3 T n i j)
theorem idx_bd {n i j : Nat} (hi : i < n) (hj : j < n) : (i * n + j) * n + n ≤ n * n * n := by
  have h1 : i * n + j + 1 ≤ n * n := by
    have : (i + 1) * n ≤ n * n := Nat.mul_le_mul_right n hi
    rw [Nat.add_mul] at this; omega
  have h2 : (i * n + j + 1) * n ≤ n * n * n := Nat.mul_le_mul_right n h1
  rw [Nat.add_mul] at h2; omega
theorem rowT_cut {T : List Int} {n i j : Nat} (hT : T.length = n * n * n) (hi : i < n) (hj : j < n) : (T.take ((i * n + j) * n + n)).drop ((i * n + j) * n) = rowT T n i j := by
  have hb := idx_bd hi hj
  refine list_ext (by simp [rowT, length_tab]; omega) fun k hk => ?_
  simp at hk
  rw [rowT, vec_tab (by omega), t3]
  simp only [vec, List.getD_eq_getElem?_getD, List.getElem?_drop, List.getElem?_take]
  rw [if_pos (by omega)]
theorem resid_rowT {T : List Int} {p : Int} (h : resid p T = true) (hp : 0 < p) (n i j : Nat) : resid p (rowT T n i j) = true :=
  resid_tab fun _ _ => resid_vec' h hp _
theorem cube_le {n : Nat} (h : n ≤ 28) : n * n * n ≤ 21952 := by
  have h1 : n * n ≤ 28 * 28 := Nat.mul_le_mul h h
  exact Nat.mul_le_mul h1 h

/-- A box of three cells. -/
def Box3 (w : World) (b : Nat) (v0 v1 v2 : Value) : Prop := w.cell? ⟨b, 0, none⟩ = some v0 ∧ w.cell? ⟨b, 1, none⟩ = some v1 ∧ w.cell? ⟨b, 2, none⟩ = some v2
theorem Box3.new (w : World) (t : TypeId) (v0 v1 v2 : Value) : Box3 (w.alloc (.cells #[v0, v1, v2] t)) w.heap.size v0 v1 v2 :=
  ⟨cell_of_row _ _ 0 #[v0, v1, v2] _ _ (heap_alloc_new w _), cell_of_row _ _ 1 #[v0, v1, v2] _ _ (heap_alloc_new w _), cell_of_row _ _ 2 #[v0, v1, v2] _ _ (heap_alloc_new w _)⟩
theorem Box3.below {w w' : World} {b B : Nat} {v0 v1 v2 : Value} (h : Box3 w b v0 v1 v2) (hb : Below B w w') (hB : b < B) : Box3 w' b v0 v1 v2 :=
  ⟨(hb.cell (p := ⟨b, 0, none⟩) hB).trans h.1, (hb.cell (p := ⟨b, 1, none⟩) hB).trans h.2.1, (hb.cell (p := ⟨b, 2, none⟩) hB).trans h.2.2⟩
theorem Box3.lt {w : World} {b : Nat} {v0 v1 v2 : Value} (h : Box3 w b v0 v1 v2) : b < w.heap.size := World.block_lt_of_cell? w _ h.1
theorem Box3.grown {w w' : World} {b : Nat} {row : Option Nat} {v0 v1 v2 : Value} (h : Box3 w b v0 v1 v2) (hg : w.grownBy w' row) (hr : row ≠ some b) : Box3 w' b v0 v1 v2 :=
  ⟨hg.cell h.1 (fun e => hr e.symm), hg.cell h.2.1 (fun e => hr e.symm), hg.cell h.2.2 (fun e => hr e.symm)⟩

theorem cutMidB {w : World} {B : Nat} {A : Option Addr} {n c : Nat} {l : List Int} (h : IntsB w B (.slice A n c) l) (lo hh : Nat) (h1 : lo ≤ hh) (h2 : hh ≤ n) :
    ∃ A', (∀ W : World, (Instr.sliceAt 22 (.slice A n c) (some (.int .i64 (lo : Int))) (some (.int .i64 (hh : Int))) none).run Try.prog W = .ok (.slice A' (hh - lo) (c - lo)) W) ∧ IntsB w B (.slice A' (hh - lo) (c - lo)) ((l.take hh).drop lo) := by
  obtain ⟨i, h3, _, h4, _⟩ := info_parts infoI
  have hc : n ≤ c := by
    obtain ⟨A', c', he, h1, _⟩ := h.1
    simp only [Value.slice.injEq] at he
    omega
  refine ⟨_, fun W => ?_, (h.take hh h2).drop lo h1⟩
  rw [run_sliceAt_slice W _ _ _ _ _ sliceI, run_slice_lh W _ A n c sliceI .i64 .i64 lo hh (by omega) (by omega) (by omega)]
  simp [sizeOf, typeInfo, h3, h4, sliced, Result.andThen]

/-- A slice that lies below block B is returned, of length n, holding l. -/
def RetB (w : World) (B n : Nat) (l : List Int) (e : Ending) (w' : World) : Prop := ∃ A c, e = .returned (.slice A n c) ∧ IntsB w' B (.slice A n c) l ∧ Below w.heap.size w w'

set_option maxHeartbeats 400000 in
theorem pair_any (p : Int) (n : Nat) (t : Value) (T : List Int) (i j B : Nat) (w : World) (ht : IntsB w B t T) (hB : B ≤ w.heap.size) (hT : T.length = n * n * n) (hi : i < n) (hj : j < n) (hn : n ≤ 28) :
    Calls Try.prog 79 #[.agg #[.int .i64 p, .int .i64 n, t], .int .i64 i, .int .i64 j] w (RetB w B n (rowT T n i j)) := by
  obtain ⟨A, c, rfl, h1, h2, h3⟩ := id ht.1
  clear h3
  have hcut := rowT_cut hT hi hj
  have hb := idx_bd hi hj
  have hcu := cube_le hn
  rw [← hT] at hb hcu
  obtain ⟨a, ha⟩ : ∃ a, a = (i * n + j) * n := ⟨_, rfl⟩
  have hin : i * n ≤ 784 := by have := Nat.mul_le_mul (Nat.le_trans (Nat.le_of_lt hi) hn) hn; omega
  have r1 : 0 ≤ (i : Int) * n ∧ (i : Int) * n ≤ 784 := by
    have : ((i * n : Nat) : Int) = (i : Int) * n := by simp
    omega
  have hat : ((i : Int) * n + j) * n = (a : Int) := by rw [ha]; simp
  rw [← ha] at hcut hb
  have ha2 : a ≤ 21952 := by omega
  obtain ⟨A', hrun0, hA'⟩ := cutMidB ht a (a + n) (by omega) (by omega)
  have e1 : a + n - a = n := by omega
  rw [e1] at hrun0 hA'
  rw [hcut] at hA'
  have hrun : ∀ W : World, (Instr.sliceAt 22 (.slice A T.length c) (some (.int .i64 (a : Int))) (some (.int .i64 ((a : Int) + (n : Int)))) none).run Try.prog W = .ok (.slice A' n (c - a)) W := fun W => hrun0 W
  have HT := Lib.hid hT
  have HA := Lib.hid ha
  clear hrun0 hcut e1 ha hT
  go_enter Try.func79, Try.ntmps79
  go_wp2
  go_ret
  exact ⟨A', c - a, rfl, hA'.below ((Below.refl B w).alloc hB _) (Nat.le_refl _), (Below.refl _ _).alloc (Nat.le_refl _) _⟩

theorem IntsB.cell {w : World} {B : Nat} {A : Option Addr} {n c : Nat} {l : List Int} (h : IntsB w B (.slice A n c) l) {k : Nat} (hk : k < l.length) :
    ∃ b off, A = some ⟨b, off, none⟩ ∧ b < B ∧ w.cell? ⟨b, off + k, none⟩ = some (.int .i64 (vec l k)) := by
  obtain ⟨⟨A', c', he, h1, h2, h3⟩, h4⟩ := h
  simp only [Value.slice.injEq] at he
  obtain ⟨rfl, rfl, rfl⟩ := he
  obtain ⟨b, off, rfl, hc⟩ := h3 (by omega)
  obtain ⟨b', off', c', he, hb⟩ := h4 (by omega)
  simp only [Value.slice.injEq, Option.some.injEq, Addr.mk.injEq, and_true, true_and] at he
  exact ⟨b, off, rfl, by omega, hc k _ (vec_get hk)⟩
theorem IntsB.length {w : World} {B : Nat} {A : Option Addr} {n c : Nat} {l : List Int} (h : IntsB w B (.slice A n c) l) : n = l.length := by
  obtain ⟨⟨A', c', he, _⟩, _⟩ := h
  simp only [Value.slice.injEq] at he
  exact he.2.1

/-- The k-th place of the bracket of an element and the basis element j, over the first m places of the element. -/
def rightS (T U : List Int) (n : Nat) (p : Int) (j m k : Nat) : Int := sumTo m (fun a => vec U a * t3 T n a j k) % p
theorem rightS_succ (T U : List Int) (n : Nat) (p : Int) (j m k : Nat) : (rightS T U n p j m k + vec U m * t3 T n m j k) % p = rightS T U n p j (m + 1) k := by
  unfold rightS
  rw [add_mul_mod]
  rfl
theorem rightS_skip (T U : List Int) (n : Nat) (p : Int) (j m k : Nat) (h : vec U m = 0) : rightS T U n p j (m + 1) k = rightS T U n p j m k := by
  unfold rightS
  simp only [sumTo, h, Int.zero_mul, Int.add_zero]
def rightL (T U : List Int) (n : Nat) (p : Int) (j : Nat) : List Int := tab n (rightS T U n p j n)

set_option maxHeartbeats 1000000 in
theorem right_any (p : Int) (n : Nat) (t u : Value) (T U : List Int) (j B : Nat) (w : World) (ht : IntsB w B t T) (hu : IntsB w B u U) (hB : B ≤ w.heap.size) (hT : T.length = n * n * n) (hU : U.length = n) (hj : j < n) (hn : n ≤ 28)
    (hp : 2 ≤ p) (hp' : p ≤ 10007) (rT : resid p T = true) (rU : resid p U = true) :
    Calls Try.prog 83 #[.agg #[.int .i64 p, .int .i64 n, t], u, .int .i64 j] w (RetOwn w (rightL T U n p j)) := by
  obtain ⟨A, c, rfl, _, _, _⟩ := id ht.1
  obtain ⟨A2, c2, rfl, _, _, _⟩ := id hu.1
  have hmk := makeI n (by omega)
  have HT := Lib.hid hT
  have HU := Lib.hid hU
  have HrT := Lib.hid rT
  have HrU := Lib.hid rU
  have u1 : U.length ≤ n := by omega
  have u2 : n ≤ U.length := by omega
  have htl : T.length ≤ 21952 := by rw [hT]; exact cube_le hn
  clear hT hU rT rU
  go_enter Try.func83, Try.ntmps83
  go_wp2
  go_loopw [15] (fun vi wr => ∃ k : Nat, vi = .int .i64 k ∧ k ≤ n ∧ Own wr (w.heap.size + 1) (.slice (some ⟨w.heap.size + 1, 0, none⟩) n n) (tab n (rightS T U n p j k)) ∧
    Box3 wr w.heap.size (.int .i64 p) (.int .i64 n) (.slice A T.length c) ∧ IntsB wr B (.slice A T.length c) T ∧ IntsB wr B (.slice A2 U.length c2) U ∧ Below w.heap.size w wr ∧ w.heap.size + 1 < wr.heap.size) (fun vi _ => n - (intOf vi).toNat)
  case atStart =>
    have hb1 : Below w.heap.size w (w.alloc (.cells #[.int .i64 p, .int .i64 n, .slice A T.length c] 72)) := (Below.refl _ _).alloc (Nat.le_refl _) _
    have hb2 := hb1.alloc hb1.size (.cells (zeros n) 3)
    refine ⟨0, rfl, by omega, ?_, ?_, ht.below hb2 hB, hu.below hb2 hB, hb2, by simp⟩
    · have := Own.made (W := w.alloc (.cells #[.int .i64 p, .int .i64 n, .slice A T.length c] 72)) (n := n) (lo := w.heap.size + 1) (by omega) (by simp)
      rw [← tab_zero] at this
      simp only [World.size_alloc] at this
      rw [tab_congr (g := fun _ => 0) (fun i _ => by simp [rightS, sumTo])]
      exact this
    · exact (Box3.new w 72 _ _ _).below (B := w.heap.size + 1) ((Below.refl _ _).alloc (by simp) _) (by omega)
  case round =>
    obtain ⟨k, rfl, a1, ho, hbx, ht1, hu1, hb, hs⟩ := hrel
    by_cases hk : k < n
    · obtain ⟨b2, off2, rfl, hb2, e1⟩ := hu1.cell (k := k) (by omega)
      have hrv := resid_vec HrU.out (i := k) (by omega)
      obtain ⟨x0, x1, x2⟩ := id hbx
      by_cases hx : vec U k = 0
      · have t1 : (vec U k != 0) = false := by simp [hx]
        have Hx := Lib.hid hx
        clear hx
        go_wp2
        go_roundw
        case rel => exact ⟨k + 1, by go_num, by omega, by rw [tab_congr (fun q _ => rightS_skip T U n p j k q Hx.out)]; exact ho, hbx, ht1, hu1, hb, hs⟩
        case measure => simp [intOf]; omega
      · have t1 : (vec U k != 0) = true := by simp [hx]
        have Hx := Lib.hid hx
        clear hx
        go_wp2
        go_region_held3 (fun w' => w'.cell? ⟨w.heap.size, 0, none⟩ = some (.int .i64 p) ∧ w'.cell? ⟨w.heap.size, 1, none⟩ = some (.int .i64 n) ∧ w'.cell? ⟨w.heap.size, 2, none⟩ = some (.slice A T.length c))
          (first | exact hbx | exact hbx1 | exact hbx2)
          (first
            | (go_at_call 79; refine (pair_any p n _ T k j B _ ?_ ?_ HT.out hk hj hn).mono ?_; exact ht1; (have := hb.size; simp; omega); rintro e w1 ⟨A3, c3, rfl, hr, hb1⟩; have hbx1 := Box3.below (hb := hb1) (h := by exact hbx) (by simp; omega))
            | (go_at_call 84; (have ho1 : Own w1 (w.heap.size + 1) (.slice (some ⟨w.heap.size + 1, 0, none⟩) n n) (tab n (rightS T U n p j k)) := Own.below (w := wr.drew) ho hb1);
                (have c1 := addTo_own (.slice (some ⟨w.heap.size + 1, 0, none⟩) n n) (.slice A3 n c3) (tab n (rightS T U n p j k)) (rowT T n k j) (vec U k) p (w.heap.size + 1) B w1 ho1 hr (by omega) (by rw [rowT, length_tab, length_tab]) (by rw [length_tab]; omega) hp hp' hrv.1 (Int.le_of_lt hrv.2) (resid_mod (by omega)) (resid_rowT HrT.out (by omega) n k j));
                refine c1.mono ?_; rintro e w2 ⟨rfl, ho2, hg2⟩; have hbx2 := hbx1.grown hg2 (by simp [Value.ownBlock])))
        have hb3 : Below w.heap.size w w1 := hb.trans ⟨hb1.os, hb1.tape, hb1.output, hb1.size, fun i hi => hb1.block i (by simp; omega)⟩
        have hb4 : Below w.heap.size w w2 := hb3.grown hg2 hb3.size (by simp [Value.ownBlock])
        have ht2 : IntsB w2 B (.slice A T.length c) T := IntsB.grownRow (IntsB.below (w := wr.drew) ht1 hb1 (by simp; omega)) hg2 (by simp [Value.ownBlock]; omega) (by have := hb3.size; omega)
        have hu2 : IntsB w2 B (.slice (some ⟨b2, off2, none⟩) U.length c2) U := IntsB.grownRow (IntsB.below (w := wr.drew) hu1 hb1 (by simp; omega)) hg2 (by simp [Value.ownBlock]; omega) (by have := hb3.size; omega)
        have hs2 : w.heap.size + 1 < w2.heap.size := by have := hb1.size; have := hg2.size; simp at *; omega
        have ho3 : Own w2 (w.heap.size + 1) (.slice (some ⟨w.heap.size + 1, 0, none⟩) n n) (tab n (rightS T U n p j (k + 1))) := by
          rw [rowT, addL_tab, tab_congr (fun q _ => rightS_succ T U n p j k q)] at ho2
          exact ho2
        clear ho ho2 hbx hbx1 ht1 hu1 hb hb1 hb3 hr ho1 hg2 hs c1
        go_wp2
        go_roundw
        case rel => exact ⟨k + 1, by go_num, by omega, ho3, hbx2, ht2, hu2, hb4, hs2⟩
        case measure => simp [intOf]; omega
    · obtain rfl : k = n := by omega
      go_wp2
      go_ret
      exact ⟨_, rfl, Own.mono ho (by omega), hb⟩

/-- The k-th place of the bracket of two elements, over the first m places of the second. -/
def bracketS (T U V : List Int) (n : Nat) (p : Int) (m k : Nat) : Int := sumTo m (fun b => vec V b * rightS T U n p b n k) % p
theorem bracketS_succ (T U V : List Int) (n : Nat) (p : Int) (m k : Nat) : (bracketS T U V n p m k + vec V m * rightS T U n p m n k) % p = bracketS T U V n p (m + 1) k := by
  unfold bracketS
  rw [add_mul_mod]
  rfl
theorem bracketS_skip (T U V : List Int) (n : Nat) (p : Int) (m k : Nat) (h : vec V m = 0) : bracketS T U V n p (m + 1) k = bracketS T U V n p m k := by
  unfold bracketS
  simp only [sumTo, h, Int.zero_mul, Int.add_zero]
def bracketL (T U V : List Int) (n : Nat) (p : Int) : List Int := tab n (bracketS T U V n p n)

set_option maxHeartbeats 1000000 in
theorem bracket_any (p : Int) (n : Nat) (t u v : Value) (T U V : List Int) (B : Nat) (w : World) (ht : IntsB w B t T) (hu : IntsB w B u U) (hv : IntsB w B v V) (hB : B ≤ w.heap.size) (hT : T.length = n * n * n) (hU : U.length = n) (hV : V.length = n) (hn : n ≤ 28)
    (hp : 2 ≤ p) (hp' : p ≤ 10007) (rT : resid p T = true) (rU : resid p U = true) (rV : resid p V = true) :
    Calls Try.prog 65 #[.agg #[.int .i64 p, .int .i64 n, t], u, v] w (RetOwn w (bracketL T U V n p)) := by
  obtain ⟨A, c, rfl, _, _, _⟩ := id ht.1
  obtain ⟨A2, c2, rfl, _, _, _⟩ := id hu.1
  obtain ⟨A4, c4, rfl, _, _, _⟩ := id hv.1
  have hmk := makeI n (by omega)
  have HT := Lib.hid hT
  have HU := Lib.hid hU
  have HrT := Lib.hid rT
  have HrU := Lib.hid rU
  have HV := Lib.hid hV
  have HrV := Lib.hid rV
  have u1 : V.length ≤ n := by omega
  have u2 : n ≤ V.length := by omega
  have htl : T.length ≤ 21952 := by rw [hT]; exact cube_le hn
  clear hT hU rT rU hV rV
  go_enter Try.func65, Try.ntmps65
  go_wp2
  go_loopw [15] (fun vi wr => ∃ k : Nat, vi = .int .i64 k ∧ k ≤ n ∧ Own wr (w.heap.size + 1) (.slice (some ⟨w.heap.size + 1, 0, none⟩) n n) (tab n (bracketS T U V n p k)) ∧
    Box3 wr w.heap.size (.int .i64 p) (.int .i64 n) (.slice A T.length c) ∧ IntsB wr B (.slice A T.length c) T ∧ IntsB wr B (.slice A2 U.length c2) U ∧ IntsB wr B (.slice A4 V.length c4) V ∧ Below w.heap.size w wr ∧ w.heap.size + 1 < wr.heap.size) (fun vi _ => n - (intOf vi).toNat)
  case atStart =>
    have hb1 : Below w.heap.size w (w.alloc (.cells #[.int .i64 p, .int .i64 n, .slice A T.length c] 72)) := (Below.refl _ _).alloc (Nat.le_refl _) _
    have hb2 := hb1.alloc hb1.size (.cells (zeros n) 3)
    refine ⟨0, rfl, by omega, ?_, ?_, ht.below hb2 hB, hu.below hb2 hB, hv.below hb2 hB, hb2, by simp⟩
    · have := Own.made (W := w.alloc (.cells #[.int .i64 p, .int .i64 n, .slice A T.length c] 72)) (n := n) (lo := w.heap.size + 1) (by omega) (by simp)
      rw [← tab_zero] at this
      simp only [World.size_alloc] at this
      rw [tab_congr (g := fun _ => 0) (fun i _ => by simp [bracketS, sumTo])]
      exact this
    · exact (Box3.new w 72 _ _ _).below (B := w.heap.size + 1) ((Below.refl _ _).alloc (by simp) _) (by omega)
  case round =>
    obtain ⟨k, rfl, a1, ho, hbx, ht1, hu1, hv1, hb, hs⟩ := hrel
    by_cases hk : k < n
    · obtain ⟨b2, off2, rfl, hb2, e1⟩ := hv1.cell (k := k) (by omega)
      have hrv := resid_vec HrV.out (i := k) (by omega)
      obtain ⟨x0, x1, x2⟩ := id hbx
      by_cases hx : vec V k = 0
      · have t1 : (vec V k != 0) = false := by simp [hx]
        have Hx := Lib.hid hx
        clear hx
        go_wp2
        go_roundw
        case rel => exact ⟨k + 1, by go_num, by omega, by rw [tab_congr (fun q _ => bracketS_skip T U V n p k q Hx.out)]; exact ho, hbx, ht1, hu1, hv1, hb, hs⟩
        case measure => simp [intOf]; omega
      · have t1 : (vec V k != 0) = true := by simp [hx]
        have Hx := Lib.hid hx
        clear hx
        go_wp2
        go_region_held3 (fun w' => w'.cell? ⟨w.heap.size, 0, none⟩ = some (.int .i64 p) ∧ w'.cell? ⟨w.heap.size, 1, none⟩ = some (.int .i64 n) ∧ w'.cell? ⟨w.heap.size, 2, none⟩ = some (.slice A T.length c))
          (first | exact hbx | exact hbx1 | exact hbx2)
          (first
            | (go_at_call 83; refine (right_any p n _ _ T U k B _ ?_ ?_ ?_ HT.out HU.out hk hn hp hp' HrT.out HrU.out).mono ?_; exact ht1; exact hu1; (have := hb.size; simp; omega); rintro e w1 ⟨x1, rfl, hr, hb1⟩; have hbx1 := Box3.below (hb := hb1) (h := by exact hbx) (by simp; omega))
            | (go_at_call 84; (have ho1 : OwnIn w1 (w.heap.size + 1) (w.heap.size + 2) (.slice (some ⟨w.heap.size + 1, 0, none⟩) n n) (tab n (bracketS T U V n p k)) := ⟨Own.below (w := wr.drew) ho hb1, by simp [Value.ownBlock]⟩);
                (have c1 := addTo_fresh (.slice (some ⟨w.heap.size + 1, 0, none⟩) n n) x1 (tab n (bracketS T U V n p k)) (rightL T U n p k) (vec V k) p (w.heap.size + 1) (w.heap.size + 2) wr.drew.heap.size w1 ho1 hr (by simp; omega) (by rw [rightL, length_tab, length_tab]) (by rw [length_tab]; omega) hp hp' hrv.1 (Int.le_of_lt hrv.2) (resid_mod (by omega)) (resid_mod (by omega)));
                refine c1.mono ?_; rintro e w2 ⟨rfl, ho2, hg2⟩; have hbx2 := hbx1.grown hg2 (by simp [Value.ownBlock])))
        have hb3 : Below w.heap.size w w1 := hb.trans ⟨hb1.os, hb1.tape, hb1.output, hb1.size, fun i hi => hb1.block i (by simp; omega)⟩
        have hb4 : Below w.heap.size w w2 := hb3.grown hg2 hb3.size (by simp [Value.ownBlock])
        have ht2 : IntsB w2 B (.slice A T.length c) T := IntsB.grownRow (IntsB.below (w := wr.drew) ht1 hb1 (by simp; omega)) hg2 (by simp [Value.ownBlock]; omega) (by have := hb3.size; omega)
        have hu2 : IntsB w2 B (.slice A2 U.length c2) U := IntsB.grownRow (IntsB.below (w := wr.drew) hu1 hb1 (by simp; omega)) hg2 (by simp [Value.ownBlock]; omega) (by have := hb3.size; omega)
        have hv2 : IntsB w2 B (.slice (some ⟨b2, off2, none⟩) V.length c4) V := IntsB.grownRow (IntsB.below (w := wr.drew) hv1 hb1 (by simp; omega)) hg2 (by simp [Value.ownBlock]; omega) (by have := hb3.size; omega)
        have hs2 : w.heap.size + 1 < w2.heap.size := by have := hb1.size; have := hg2.size; simp at *; omega
        have ho3 : Own w2 (w.heap.size + 1) (.slice (some ⟨w.heap.size + 1, 0, none⟩) n n) (tab n (bracketS T U V n p (k + 1))) := by
          rw [rightL, addL_tab, tab_congr (fun q _ => bracketS_succ T U V n p k q)] at ho2
          exact ho2
        clear ho ho2 hbx hbx1 ht1 hu1 hv1 hb hb1 hb3 hr ho1 hg2 hs c1
        go_wp2
        go_roundw
        case rel => exact ⟨k + 1, by go_num, by omega, ho3, hbx2, ht2, hu2, hv2, hb4, hs2⟩
        case measure => simp [intOf]; omega
    · obtain rfl : k = n := by omega
      go_wp2
      go_ret
      exact ⟨_, rfl, Own.mono ho (by omega), hb⟩
end Go.Proofs.Ytngmepodgbhbpaa
