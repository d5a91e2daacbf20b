import Derived.Deep.Quiet
import Derived.Deep.RegionHeld3
import Derived.StillTail
import Derived.Test.YtbnefjhljfbecaaGreatDoorW01
namespace Go.Proofs.YtbnefjhljfbecaaGreatDoor
set_option maxRecDepth 100000
section
open Go.RowKit
def t3 (T : List Int) (n i j k : Nat) : Int := vec T ((i * n + j) * n + k)
def rowT (T : List Int) (n i j : Nat) : List Int := tab n (t3 T n i j)
theorem idx_bd {n i j : Nat} (hi : i < n) (hj : j < n) : (i * n + j) * n + n ≤ n * n * n := by
 have h1 : i * n + j + 1 ≤ n * n := by
  have : (i + 1) * n ≤ n * n := Nat.mul_le_mul_right n hi
  rw [Nat.add_mul] at this; omega
 have h2 : (i * n + j + 1) * n ≤ n * n * n := Nat.mul_le_mul_right n h1
 rw [Nat.add_mul] at h2; omega
theorem rowT_cut {T : List Int} {n i j : Nat} (hT : T.length = n * n * n) (hi : i < n) (hj : j < n) : (T.take ((i * n + j) * n + n)).drop ((i * n + j) * n) = rowT T n i j := by
 have hb := idx_bd hi hj
 refine list_ext (by simp [rowT, length_tab]; omega) fun k hk => ?_
 simp at hk
 rw [rowT, vec_tab (by omega), t3]
 simp only [vec, List.getD_eq_getElem?_getD, List.getElem?_drop, List.getElem?_take]
 rw [if_pos (by omega)]
theorem resid_rowT {T : List Int} {p : Int} (h : resid p T = true) (hp : 0 < p) (n i j : Nat) : resid p (rowT T n i j) = true :=
 resid_tab fun _ _ => resid_vec' h hp _
theorem cube_le {n : Nat} (h : n ≤ 28) : n * n * n ≤ 21952 := by
 have h1 : n * n ≤ 28 * 28 := Nat.mul_le_mul h h
 exact Nat.mul_le_mul h1 h
def Box3 (w : World) (b : Nat) (v0 v1 v2 : Value) : Prop := w.cell? ⟨b, 0, none⟩ = some v0 ∧ w.cell? ⟨b, 1, none⟩ = some v1 ∧ w.cell? ⟨b, 2, none⟩ = some v2
theorem Box3.new (w : World) (t : TypeId) (v0 v1 v2 : Value) : Box3 (w.alloc (.cells #[v0, v1, v2] t)) w.heap.size v0 v1 v2 :=
 ⟨cell_of_row _ _ 0 #[v0, v1, v2] _ _ (heap_alloc_new w _), cell_of_row _ _ 1 #[v0, v1, v2] _ _ (heap_alloc_new w _), cell_of_row _ _ 2 #[v0, v1, v2] _ _ (heap_alloc_new w _)⟩
theorem Box3.below {w w' : World} {b B : Nat} {v0 v1 v2 : Value} (h : Box3 w b v0 v1 v2) (hb : Below B w w') (hB : b < B) : Box3 w' b v0 v1 v2 :=
 ⟨(hb.cell (p := ⟨b, 0, none⟩) hB).trans h.1, (hb.cell (p := ⟨b, 1, none⟩) hB).trans h.2.1, (hb.cell (p := ⟨b, 2, none⟩) hB).trans h.2.2⟩
theorem Box3.lt {w : World} {b : Nat} {v0 v1 v2 : Value} (h : Box3 w b v0 v1 v2) : b < w.heap.size := World.block_lt_of_cell? w _ h.1
theorem Box3.grown {w w' : World} {b : Nat} {row : Option Nat} {v0 v1 v2 : Value} (h : Box3 w b v0 v1 v2) (hg : w.grownBy w' row) (hr : row ≠ some b) : Box3 w' b v0 v1 v2 :=
 ⟨hg.cell h.1 (fun e => hr e.symm), hg.cell h.2.1 (fun e => hr e.symm), hg.cell h.2.2 (fun e => hr e.symm)⟩
theorem cutMidB {w : World} {B : Nat} {A : Option Addr} {n c : Nat} {l : List Int} (h : IntsB w B (.slice A n c) l) (lo hh : Nat) (h1 : lo ≤ hh) (h2 : hh ≤ n) :
  ∃ A', (∀ W : World, (Instr.sliceAt 22 (.slice A n c) (some (.int .i64 (lo : Int))) (some (.int .i64 (hh : Int))) none).run Tryz.prog W = .ok (.slice A' (hh - lo) (c - lo)) W) ∧ IntsB w B (.slice A' (hh - lo) (c - lo)) ((l.take hh).drop lo) := by
 obtain ⟨i, h3, _, h4, _⟩ := info_parts infoI
 have hc : n ≤ c := by
  obtain ⟨A', c', he, h1, _⟩ := h.1
  simp only [Value.slice.injEq] at he
  omega
 refine ⟨_, fun W => ?_, (h.take hh h2).drop lo h1⟩
 rw [run_sliceAt_slice W _ _ _ _ _ sliceI, run_slice_lh W _ A n c sliceI .i64 .i64 lo hh (by omega) (by omega) (by omega)]
 simp [sizeOf, typeInfo, h3, h4, sliced, Result.andThen]
def RetB (w : World) (B n : Nat) (l : List Int) (e : Ending) (w' : World) : Prop := ∃ A c, e = .returned (.slice A n c) ∧ IntsB w' B (.slice A n c) l ∧ Below w.heap.size w w'
set_option maxHeartbeats 400000 in
theorem pair_any (p : Int) (n : Nat) (t : Value) (T : List Int) (i j B : Nat) (w : World) (ht : IntsB w B t T) (hB : B ≤ w.heap.size) (hT : T.length = n * n * n) (hi : i < n) (hj : j < n) (hn : n ≤ 28) :
  Calls Tryz.prog 110 #[.agg #[.int .i64 p, .int .i64 n, t], .int .i64 i, .int .i64 j] w (RetB w B n (rowT T n i j)) := by
 obtain ⟨A, c, rfl, h1, h2, h3⟩ := id ht.1
 clear h3
 have hcut := rowT_cut hT hi hj
 have hb := idx_bd hi hj
 have hcu := cube_le hn
 rw [← hT] at hb hcu
 obtain ⟨a, ha⟩ : ∃ a, a = (i * n + j) * n := ⟨_, rfl⟩
 have hin : i * n ≤ 784 := by have := Nat.mul_le_mul (Nat.le_trans (Nat.le_of_lt hi) hn) hn; omega
 have r1 : 0 ≤ (i : Int) * n ∧ (i : Int) * n ≤ 784 := by
  have : ((i * n : Nat) : Int) = (i : Int) * n := by simp
  omega
 have hat : ((i : Int) * n + j) * n = (a : Int) := by rw [ha]; simp
 rw [← ha] at hcut hb
 have ha2 : a ≤ 21952 := by omega
 obtain ⟨A', hrun0, hA'⟩ := cutMidB ht a (a + n) (by omega) (by omega)
 have e1 : a + n - a = n := by omega
 rw [e1] at hrun0 hA'
 rw [hcut] at hA'
 have hrun : ∀ W : World, (Instr.sliceAt 22 (.slice A T.length c) (some (.int .i64 (a : Int))) (some (.int .i64 ((a : Int) + (n : Int)))) none).run Tryz.prog W = .ok (.slice A' n (c - a)) W := fun W => hrun0 W
 have HT := Lib.hid hT
 have HA := Lib.hid ha
 clear hrun0 hcut e1 ha hT
 go_enter Tryz.func110, Tryz.ntmps110
 go_wp2
 go_ret
 exact ⟨A', c - a, rfl, hA'.below ((Below.refl B w).alloc hB _) (Nat.le_refl _), (Below.refl _ _).alloc (Nat.le_refl _) _⟩
theorem IntsB.cell {w : World} {B : Nat} {A : Option Addr} {n c : Nat} {l : List Int} (h : IntsB w B (.slice A n c) l) {k : Nat} (hk : k < l.length) :
  ∃ b off, A = some ⟨b, off, none⟩ ∧ b < B ∧ w.cell? ⟨b, off + k, none⟩ = some (.int .i64 (vec l k)) := by
 obtain ⟨⟨A', c', he, h1, h2, h3⟩, h4⟩ := h
 simp only [Value.slice.injEq] at he
 obtain ⟨rfl, rfl, rfl⟩ := he
 obtain ⟨b, off, rfl, hc⟩ := h3 (by omega)
 obtain ⟨b', off', c', he, hb⟩ := h4 (by omega)
 simp only [Value.slice.injEq, Option.some.injEq, Addr.mk.injEq, and_true, true_and] at he
 exact ⟨b, off, rfl, by omega, hc k _ (vec_get hk)⟩
theorem IntsB.length {w : World} {B : Nat} {A : Option Addr} {n c : Nat} {l : List Int} (h : IntsB w B (.slice A n c) l) : n = l.length := by
 obtain ⟨⟨A', c', he, _⟩, _⟩ := h
 simp only [Value.slice.injEq] at he
 exact he.2.1
def rightS (T U : List Int) (n : Nat) (p : Int) (j m k : Nat) : Int := sumTo m (fun a => vec U a * t3 T n a j k) % p
theorem rightS_succ (T U : List Int) (n : Nat) (p : Int) (j m k : Nat) : (rightS T U n p j m k + vec U m * t3 T n m j k) % p = rightS T U n p j (m + 1) k := by
 unfold rightS
 rw [add_mul_mod]
 rfl
theorem rightS_skip (T U : List Int) (n : Nat) (p : Int) (j m k : Nat) (h : vec U m = 0) : rightS T U n p j (m + 1) k = rightS T U n p j m k := by
 unfold rightS
 simp only [sumTo, h, Int.zero_mul, Int.add_zero]
def rightL (T U : List Int) (n : Nat) (p : Int) (j : Nat) : List Int := tab n (rightS T U n p j n)
set_option maxHeartbeats 1000000 in
theorem right_any (p : Int) (n : Nat) (t u : Value) (T U : List Int) (j B : Nat) (w : World) (ht : IntsB w B t T) (hu : IntsB w B u U) (hB : B ≤ w.heap.size) (hT : T.length = n * n * n) (hU : U.length = n) (hj : j < n) (hn : n ≤ 28)
    (hp : 2 ≤ p) (hp' : p ≤ 10007) (rT : resid p T = true) (rU : resid p U = true) :
    Calls Tryz.prog 81 #[.agg #[.int .i64 p, .int .i64 n, t], u, .int .i64 j] w (RetOwn w (rightL T U n p j)) := by
  obtain ⟨A, c, rfl, _, _, _⟩ := id ht.1
  obtain ⟨A2, c2, rfl, _, _, _⟩ := id hu.1
  have hmk := makeI n (by omega)
  have HT := Lib.hid hT
  have HU := Lib.hid hU
  have HrT := Lib.hid rT
  have HrU := Lib.hid rU
  have u1 : U.length ≤ n := by omega
  have u2 : n ≤ U.length := by omega
  have htl : T.length ≤ 21952 := by rw [hT]; exact cube_le hn
  clear hT hU rT rU
  go_enter Tryz.func81, Tryz.ntmps81
  go_wp2
  go_loopw [15] (fun vi wr => ∃ k : Nat, vi = .int .i64 k ∧ k ≤ n ∧ Own wr (w.heap.size + 1) (.slice (some ⟨w.heap.size + 1, 0, none⟩) n n) (tab n (rightS T U n p j k)) ∧
    Box3 wr w.heap.size (.int .i64 p) (.int .i64 n) (.slice A T.length c) ∧ IntsB wr B (.slice A T.length c) T ∧ IntsB wr B (.slice A2 U.length c2) U ∧ Below w.heap.size w wr ∧ w.heap.size + 1 < wr.heap.size) (fun vi _ => n - (intOf vi).toNat)
  case atStart =>
    have hb1 : Below w.heap.size w (w.alloc (.cells #[.int .i64 p, .int .i64 n, .slice A T.length c] 69)) := (Below.refl _ _).alloc (Nat.le_refl _) _
    have hb2 := hb1.alloc hb1.size (.cells (zeros n) 3)
    refine ⟨0, rfl, by omega, ?_, ?_, ht.below hb2 hB, hu.below hb2 hB, hb2, by simp⟩
    · have := Own.made (W := w.alloc (.cells #[.int .i64 p, .int .i64 n, .slice A T.length c] 69)) (n := n) (lo := w.heap.size + 1) (by omega) (by simp)
      rw [← tab_zero] at this
      simp only [World.size_alloc] at this
      rw [tab_congr (g := fun _ => 0) (fun i _ => by simp [rightS, sumTo])]
      exact this
    · exact (Box3.new w 69 _ _ _).below (B := w.heap.size + 1) ((Below.refl _ _).alloc (by simp) _) (by omega)
  case round =>
    obtain ⟨k, rfl, a1, ho, hbx, ht1, hu1, hb, hs⟩ := hrel
    by_cases hk : k < n
    · obtain ⟨b2, off2, rfl, hb2, e1⟩ := hu1.cell (k := k) (by omega)
      have hrv := resid_vec HrU.out (i := k) (by omega)
      obtain ⟨x0, x1, x2⟩ := id hbx
      by_cases hx : vec U k = 0
      · have t1 : (vec U k != 0) = false := by simp [hx]
        have Hx := Lib.hid hx
        clear hx
        go_wp2
        go_roundw
        case rel => exact ⟨k + 1, by go_num, by omega, by rw [tab_congr (fun q _ => rightS_skip T U n p j k q Hx.out)]; exact ho, hbx, ht1, hu1, hb, hs⟩
        case measure => simp [intOf]; omega
      · have t1 : (vec U k != 0) = true := by simp [hx]
        have Hx := Lib.hid hx
        clear hx
        go_wp2
        go_region_held3 (fun w' => w'.cell? ⟨w.heap.size, 0, none⟩ = some (.int .i64 p) ∧ w'.cell? ⟨w.heap.size, 1, none⟩ = some (.int .i64 n) ∧ w'.cell? ⟨w.heap.size, 2, none⟩ = some (.slice A T.length c))
          (first | exact hbx | exact hbx1 | exact hbx2)
          (first
            | (go_at_call 110; refine (pair_any p n _ T k j B _ ?_ ?_ HT.out hk hj hn).mono ?_; exact ht1; (have := hb.size; simp; omega); rintro e w1 ⟨A3, c3, rfl, hr, hb1⟩; have hbx1 := Box3.below (hb := hb1) (h := by exact hbx) (by simp; omega))
            | (go_at_call 111; (have ho1 : Own w1 (w.heap.size + 1) (.slice (some ⟨w.heap.size + 1, 0, none⟩) n n) (tab n (rightS T U n p j k)) := Own.below (w := wr.drew) ho hb1);
                (have c1 := addTo_own (.slice (some ⟨w.heap.size + 1, 0, none⟩) n n) (.slice A3 n c3) (tab n (rightS T U n p j k)) (rowT T n k j) (vec U k) p (w.heap.size + 1) B w1 ho1 hr (by omega) (by rw [rowT, length_tab, length_tab]) (by rw [length_tab]; omega) hp hp' hrv.1 (Int.le_of_lt hrv.2) (resid_mod (by omega)) (resid_rowT HrT.out (by omega) n k j));
                refine c1.mono ?_; rintro e w2 ⟨rfl, ho2, hg2⟩; have hbx2 := hbx1.grown hg2 (by simp [Value.ownBlock])))
        have hb3 : Below w.heap.size w w1 := hb.trans ⟨hb1.os, hb1.tape, hb1.output, hb1.size, fun i hi => hb1.block i (by simp; omega)⟩
        have hb4 : Below w.heap.size w w2 := hb3.grown hg2 hb3.size (by simp [Value.ownBlock])
        have ht2 : IntsB w2 B (.slice A T.length c) T := IntsB.grownRow (IntsB.below (w := wr.drew) ht1 hb1 (by simp; omega)) hg2 (by simp [Value.ownBlock]; omega) (by have := hb3.size; omega)
        have hu2 : IntsB w2 B (.slice (some ⟨b2, off2, none⟩) U.length c2) U := IntsB.grownRow (IntsB.below (w := wr.drew) hu1 hb1 (by simp; omega)) hg2 (by simp [Value.ownBlock]; omega) (by have := hb3.size; omega)
        have hs2 : w.heap.size + 1 < w2.heap.size := by have := hb1.size; have := hg2.size; simp at *; omega
        have ho3 : Own w2 (w.heap.size + 1) (.slice (some ⟨w.heap.size + 1, 0, none⟩) n n) (tab n (rightS T U n p j (k + 1))) := by
          rw [rowT, addL_tab, tab_congr (fun q _ => rightS_succ T U n p j k q)] at ho2
          exact ho2
        clear ho ho2 hbx hbx1 ht1 hu1 hb hb1 hb3 hr ho1 hg2 hs c1
        go_wp2
        go_roundw
        case rel => exact ⟨k + 1, by go_num, by omega, ho3, hbx2, ht2, hu2, hb4, hs2⟩
        case measure => simp [intOf]; omega
    · obtain rfl : k = n := by omega
      go_wp2
      go_ret
      exact ⟨_, rfl, Own.mono ho (by omega), hb⟩
def bracketS (T U V : List Int) (n : Nat) (p : Int) (m k : Nat) : Int := sumTo m (fun b => vec V b * rightS T U n p b n k) % p
theorem bracketS_succ (T U V : List Int) (n : Nat) (p : Int) (m k : Nat) : (bracketS T U V n p m k + vec V m * rightS T U n p m n k) % p = bracketS T U V n p (m + 1) k := by
 unfold bracketS
 rw [add_mul_mod]
 rfl
theorem bracketS_skip (T U V : List Int) (n : Nat) (p : Int) (m k : Nat) (h : vec V m = 0) : bracketS T U V n p (m + 1) k = bracketS T U V n p m k := by
 unfold bracketS
 simp only [sumTo, h, Int.zero_mul, Int.add_zero]
def bracketL (T U V : List Int) (n : Nat) (p : Int) : List Int := tab n (bracketS T U V n p n)
set_option maxHeartbeats 1000000 in
theorem bracket_any (p : Int) (n : Nat) (t u v : Value) (T U V : List Int) (B : Nat) (w : World) (ht : IntsB w B t T) (hu : IntsB w B u U) (hv : IntsB w B v V) (hB : B ≤ w.heap.size) (hT : T.length = n * n * n) (hU : U.length = n) (hV : V.length = n) (hn : n ≤ 28)
    (hp : 2 ≤ p) (hp' : p ≤ 10007) (rT : resid p T = true) (rU : resid p U = true) (rV : resid p V = true) :
    Calls Tryz.prog 78 #[.agg #[.int .i64 p, .int .i64 n, t], u, v] w (RetOwn w (bracketL T U V n p)) := by
  obtain ⟨A, c, rfl, _, _, _⟩ := id ht.1
  obtain ⟨A2, c2, rfl, _, _, _⟩ := id hu.1
  obtain ⟨A4, c4, rfl, _, _, _⟩ := id hv.1
  have hmk := makeI n (by omega)
  have HT := Lib.hid hT
  have HU := Lib.hid hU
  have HrT := Lib.hid rT
  have HrU := Lib.hid rU
  have HV := Lib.hid hV
  have HrV := Lib.hid rV
  have u1 : V.length ≤ n := by omega
  have u2 : n ≤ V.length := by omega
  have htl : T.length ≤ 21952 := by rw [hT]; exact cube_le hn
  clear hT hU rT rU hV rV
  go_enter Tryz.func78, Tryz.ntmps78
  go_wp2
  go_loopw [15] (fun vi wr => ∃ k : Nat, vi = .int .i64 k ∧ k ≤ n ∧ Own wr (w.heap.size + 1) (.slice (some ⟨w.heap.size + 1, 0, none⟩) n n) (tab n (bracketS T U V n p k)) ∧
    Box3 wr w.heap.size (.int .i64 p) (.int .i64 n) (.slice A T.length c) ∧ IntsB wr B (.slice A T.length c) T ∧ IntsB wr B (.slice A2 U.length c2) U ∧ IntsB wr B (.slice A4 V.length c4) V ∧ Below w.heap.size w wr ∧ w.heap.size + 1 < wr.heap.size) (fun vi _ => n - (intOf vi).toNat)
  case atStart =>
    have hb1 : Below w.heap.size w (w.alloc (.cells #[.int .i64 p, .int .i64 n, .slice A T.length c] 69)) := (Below.refl _ _).alloc (Nat.le_refl _) _
    have hb2 := hb1.alloc hb1.size (.cells (zeros n) 3)
    refine ⟨0, rfl, by omega, ?_, ?_, ht.below hb2 hB, hu.below hb2 hB, hv.below hb2 hB, hb2, by simp⟩
    · have := Own.made (W := w.alloc (.cells #[.int .i64 p, .int .i64 n, .slice A T.length c] 69)) (n := n) (lo := w.heap.size + 1) (by omega) (by simp)
      rw [← tab_zero] at this
      simp only [World.size_alloc] at this
      rw [tab_congr (g := fun _ => 0) (fun i _ => by simp [bracketS, sumTo])]
      exact this
    · exact (Box3.new w 69 _ _ _).below (B := w.heap.size + 1) ((Below.refl _ _).alloc (by simp) _) (by omega)
  case round =>
    obtain ⟨k, rfl, a1, ho, hbx, ht1, hu1, hv1, hb, hs⟩ := hrel
    by_cases hk : k < n
    · obtain ⟨b2, off2, rfl, hb2, e1⟩ := hv1.cell (k := k) (by omega)
      have hrv := resid_vec HrV.out (i := k) (by omega)
      obtain ⟨x0, x1, x2⟩ := id hbx
      by_cases hx : vec V k = 0
      · have t1 : (vec V k != 0) = false := by simp [hx]
        have Hx := Lib.hid hx
        clear hx
        go_wp2
        go_roundw
        case rel => exact ⟨k + 1, by go_num, by omega, by rw [tab_congr (fun q _ => bracketS_skip T U V n p k q Hx.out)]; exact ho, hbx, ht1, hu1, hv1, hb, hs⟩
        case measure => simp [intOf]; omega
      · have t1 : (vec V k != 0) = true := by simp [hx]
        have Hx := Lib.hid hx
        clear hx
        go_wp2
        go_region_held3 (fun w' => w'.cell? ⟨w.heap.size, 0, none⟩ = some (.int .i64 p) ∧ w'.cell? ⟨w.heap.size, 1, none⟩ = some (.int .i64 n) ∧ w'.cell? ⟨w.heap.size, 2, none⟩ = some (.slice A T.length c))
          (first | exact hbx | exact hbx1 | exact hbx2)
          (first
            | (go_at_call 81; refine (right_any p n _ _ T U k B _ ?_ ?_ ?_ HT.out HU.out hk hn hp hp' HrT.out HrU.out).mono ?_; exact ht1; exact hu1; (have := hb.size; simp; omega); rintro e w1 ⟨x1, rfl, hr, hb1⟩; have hbx1 := Box3.below (hb := hb1) (h := by exact hbx) (by simp; omega))
            | (go_at_call 111; (have ho1 : OwnIn w1 (w.heap.size + 1) (w.heap.size + 2) (.slice (some ⟨w.heap.size + 1, 0, none⟩) n n) (tab n (bracketS T U V n p k)) := ⟨Own.below (w := wr.drew) ho hb1, by simp [Value.ownBlock]⟩);
                (have c1 := addTo_fresh (.slice (some ⟨w.heap.size + 1, 0, none⟩) n n) x1 (tab n (bracketS T U V n p k)) (rightL T U n p k) (vec V k) p (w.heap.size + 1) (w.heap.size + 2) wr.drew.heap.size w1 ho1 hr (by simp; omega) (by rw [rightL, length_tab, length_tab]) (by rw [length_tab]; omega) hp hp' hrv.1 (Int.le_of_lt hrv.2) (resid_mod (by omega)) (resid_mod (by omega)));
                refine c1.mono ?_; rintro e w2 ⟨rfl, ho2, hg2⟩; have hbx2 := hbx1.grown hg2 (by simp [Value.ownBlock])))
        have hb3 : Below w.heap.size w w1 := hb.trans ⟨hb1.os, hb1.tape, hb1.output, hb1.size, fun i hi => hb1.block i (by simp; omega)⟩
        have hb4 : Below w.heap.size w w2 := hb3.grown hg2 hb3.size (by simp [Value.ownBlock])
        have ht2 : IntsB w2 B (.slice A T.length c) T := IntsB.grownRow (IntsB.below (w := wr.drew) ht1 hb1 (by simp; omega)) hg2 (by simp [Value.ownBlock]; omega) (by have := hb3.size; omega)
        have hu2 : IntsB w2 B (.slice A2 U.length c2) U := IntsB.grownRow (IntsB.below (w := wr.drew) hu1 hb1 (by simp; omega)) hg2 (by simp [Value.ownBlock]; omega) (by have := hb3.size; omega)
        have hv2 : IntsB w2 B (.slice (some ⟨b2, off2, none⟩) V.length c4) V := IntsB.grownRow (IntsB.below (w := wr.drew) hv1 hb1 (by simp; omega)) hg2 (by simp [Value.ownBlock]; omega) (by have := hb3.size; omega)
        have hs2 : w.heap.size + 1 < w2.heap.size := by have := hb1.size; have := hg2.size; simp at *; omega
        have ho3 : Own w2 (w.heap.size + 1) (.slice (some ⟨w.heap.size + 1, 0, none⟩) n n) (tab n (bracketS T U V n p (k + 1))) := by
          rw [rightL, addL_tab, tab_congr (fun q _ => bracketS_succ T U V n p k q)] at ho2
          exact ho2
        clear ho ho2 hbx hbx1 ht1 hu1 hv1 hb hb1 hb3 hr ho1 hg2 hs c1
        go_wp2
        go_roundw
        case rel => exact ⟨k + 1, by go_num, by omega, ho3, hbx2, ht2, hu2, hv2, hb4, hs2⟩
        case measure => simp [intOf]; omega
    · obtain rfl : k = n := by omega
      go_wp2
      go_ret
      exact ⟨_, rfl, Own.mono ho (by omega), hb⟩
end
section
open Go.RowKit
section
variable {P : Program} {ops : Array Oper} {md : Region.Mode} {C : World → Prop}
def wpAnyT (P : Program) (md : Region.Mode) (ops : Array Oper) (C : World → Prop) (n : Nat) (L : Array Bool → Act → Prop) : Nat → Array Bool → Act → Prop
 | 0, listed, a => L listed a
 | f + 1, listed, a =>
  Region.ready md ops listed ≠ [] ∧ ∀ i ∈ Region.ready md ops listed, i < n ∧ qOp P ops C i (wpAnyT P md ops C n L f (listed.setIfInBounds i true)) a
theorem wpAny_of_headT {n g : Nat} {L : Array Bool → Act → Prop} {Q' : Exit → Act → World → Prop} (hL : ∀ listed a, L listed a → ∀ w, C w → wpAny P md ops Q' g listed a w) :
  ∀ (f : Nat) (listed : Array Bool) (a : Act) (w : World), C w → wpAnyT P md ops C n L f listed a → wpAny P md ops Q' (f + g) listed a w
 | 0, listed, a, w, hw, h => by rw [Nat.zero_add]; exact hL _ _ h w hw
 | f + 1, listed, a, w, hw, h => by
  rw [show f + 1 + g = (f + g) + 1 by omega]
  exact ⟨fun h0 => absurd h0 h.1, fun i hi => wpOp_of_qOp hw (fun a' w' hw' h' => wpAny_of_headT hL f _ a' w' hw' h') (h.2 i hi).2⟩
theorem wpAnyT_first {n i : Nat} {oi : Oper} {v : Value} {L : Array Bool → Act → Prop} (hi : ops[i]? = some oi) (hsel : ∀ (j : Nat) (o : Oper) cs b, ops[j]? = some o → o.op ≠ .select cs b)
  (hs : Region.sinkB md ops n = true) (hc : Region.chainB md ops n = true) (hn : n < ops.size) (hin : i < n)
  (hdone : ∀ listed a, L listed a → ∀ j ∈ Region.ready md ops listed, n ≤ j) :
  ∀ (f : Nat) (listed : Array Bool) (a : Act), HeadInv md ops n listed →
   (∀ j oj, ops[j]? = some oj → j ≠ i → listed.getD j true = false → (∀ e ∈ oj.after, Region.binds md e = true → e.on ≠ i) → oi.apart ops oj = true) →
   i ∈ Region.ready md ops listed → YieldsIn P ops C oi v a →
   wpAnyT P md ops C n L f (listed.setIfInBounds i true) (a.put oi.dst v) → wpAnyT P md ops C n L (f + 1) listed a := by
 intro f
 induction f with
 | zero =>
  intro listed a inv _ hr hy H
  have hun := (mem_ready.1 hr).1
  refine ⟨fun h => (by rw [h] at hr; cases hr), fun j hj => ?_⟩
  have hjn : j < n := by
   rcases Nat.lt_or_ge j n with h | h
   ·exact h
   ·exact absurd hj (tail_waits hs hc hn inv _ i rfl hin hun j h)
  refine ⟨hjn, ?_⟩
  by_cases hji : j = i
  ·subst hji; exact hy.qOp hi H
  ·have := hdone _ _ H j (ready_mono hj hji)
   omega
 | succ f ih =>
  intro listed a inv hfree hr hy H
  have hun := (mem_ready.1 hr).1
  refine ⟨fun h => (by rw [h] at hr; cases hr), fun j hj => ?_⟩
  have hjn : j < n := by
   rcases Nat.lt_or_ge j n with h | h
   ·exact h
   ·exact absurd hj (tail_waits hs hc hn inv _ i rfl hin hun j h)
  refine ⟨hjn, ?_⟩
  by_cases hji : j = i
  ·subst hji; exact hy.qOp hi H
  ·have h1 := (H.2 j (ready_mono hj hji)).2
   obtain ⟨hjun, oj, hoj, hall⟩ := mem_ready.1 hj
   have hnot : ∀ e ∈ oj.after, Region.binds md e = true → e.on ≠ i := fun e he hb heq => by
    have h1 := hall e he hb
    rw [heq, getD_both hun] at h1
    cases h1
   have h2 := qOp_put hoj (hfree j oj hoj hji hjun hnot) (fun cs b => hsel i oi cs b hi) (fun cs b => hsel j oj cs b hoj) hy h1
   have hfree' : ∀ k ok, ops[k]? = some ok → k ≠ i → (listed.setIfInBounds j true).getD k true = false →
     (∀ e ∈ ok.after, Region.binds md e = true → e.on ≠ i) → oi.apart ops ok = true := fun k ok hk hki hun hno => by
    refine hfree k ok hk hki ?_ hno
    by_cases hjk : j = k
    ·subst hjk; exact hjun
    ·rw [getD_set_ne true hjk] at hun; exact hun
   refine qOp_mono (fun a' h3 => ih (listed.setIfInBounds j true) a' (inv.set hj hjn) hfree' (ready_mono hr (Ne.symm hji)) h3.1 ?_) h2
   rw [Array.setIfInBounds_comm _ _ hji]
   exact h3.2
theorem wpAnyT_lex {n g : Nat} {Lq : Act → Prop} (hsel : Region.noSelect ops = true) (hs : Region.sinkB md ops n = true) (hc : Region.chainB md ops n = true) (hn : n < ops.size) :
  ∀ (l : List Oper) (k : Nat) (listed : Array Bool) (a : Act), (∀ j, j < l.length → l[j]? = ops[k + j]?) → k + l.length = n → HeadInv md ops n listed →
  Region.lexHead md ops g l.length k listed = true → wpQuiet P ops C Lq l a →
  wpAnyT P md ops C n (fun listed' a' => Region.seqB md ops g n listed' = true ∧ Lq a') l.length listed a
 | [], k, listed, a, _, hk, _, hB, h => by
  have : k = n := by simpa using hk
  subst this
  exact ⟨by simpa [Region.lexHead] using hB, h⟩
 | o :: l, k, listed, a, hl, hk, inv, hB, h => by
  have h0 : ops[k]? = some o := by simpa using (hl 0 (by simp)).symm
  simp only [List.length_cons, Region.lexHead, Bool.and_eq_true] at hB
  obtain ⟨⟨hr, hf⟩, hB'⟩ := hB
  have hkn : k < n := by simp only [List.length_cons] at hk; omega
  have hr' : k ∈ Region.ready md ops listed := by simpa using hr
  have hst : qOp P ops C k (wpQuiet P ops C Lq l) a := by unfold qOp; simp only [h0]; exact h
  obtain ⟨v, hy, hK⟩ := yieldsIn_of_qOp h0 hst
  exact wpAnyT_first h0 (Region.noSelect_spec hsel) hs hc hn hkn (fun listed' a' hL => seqB_ready hL.1) l.length listed a inv (Region.free_spec h0 hf) hr' hy
   (wpAnyT_lex hsel hs hc hn l (k + 1) _ _ (fun j hj => by have := hl (j + 1) (by simp; omega); simpa [Nat.add_assoc, Nat.add_comm 1 j] using this) (by simp only [List.length_cons] at hk; omega) (inv.set hr' hkn) hB' hK)
theorem wp_region_tail {id : Nat} {Q : Exit → Act → World → Prop} {a : Act} {w : World} {l : List Oper} (C : World → Prop) (n : Nat) (hm : P.follows .mixedOrders = true) (hB : Region.lexTailB .any l.toArray n = true) (hC : C { w with drawn := w.drawn + 1 })
  (h : wpQuiet P l.toArray C (fun a' => ∀ w', C w' → wpList P l.toArray Q (l.drop n) a' w') (l.take n) a) : (Code.region id l.toArray true).wp P Q a w := by
 simp only [Region.lexTailB, Bool.and_eq_true, decide_eq_true_eq] at hB
 obtain ⟨⟨⟨⟨hsel, hn⟩, hs⟩, hc⟩, hlex⟩ := hB
 have hn' : n < l.length := by simpa using hn
 have htl : (l.take n).length = n := by simp; omega
 have hdl : (l.drop n).length = l.toArray.size - n := by simp
 have inv0 : HeadInv .any l.toArray n (Array.replicate l.toArray.size false) :=
  ⟨by simp, fun j oj _ hl => (by rw [getD_replicate_false] at hl; cases hl), fun t _ ht => getD_in (by simpa using ht) (getD_replicate_false _ _)⟩
 have H := wpAnyT_lex (md := .any) (g := l.toArray.size - n) hsel hs hc hn (l.take n) 0 _ a (fun j hj => by
  have hj' : j < n := by rw [htl] at hj; exact hj
  simp [hj']) (by simpa using htl) inv0 (by rw [htl]; exact hlex) h
 refine wp_region_any hm ?_
 have := wpAny_of_headT (Q' := Q) (g := l.toArray.size - n) (fun listed a' hL w' hw' => by
  have := wpAny_of_seq (md := .any) (Q' := Q) (l.drop n) n listed a' w' (fun j => by simp [List.getElem?_drop]) (by rw [hdl]; exact hL.1) (hL.2 w' hw')
  rwa [hdl] at this) _ _ _ _ hC H
 rw [htl, show n + (l.toArray.size - n) = l.toArray.size by omega] at this
 exact this
theorem wp_region_all {id : Nat} {Q : Exit → Act → World → Prop} {a : Act} {w : World} {l : List Oper} (C : World → Prop) (hm : P.follows .mixedOrders = true) (hB : Region.lexB .any l.toArray = true) (hC : C { w with drawn := w.drawn + 1 })
  (h : wpQuiet P l.toArray C (fun a' => ∀ w', C w' → Q .normal a' w') l a) : (Code.region id l.toArray true).wp P Q a w :=
 wp_region_quiet (C := C) hm hB hC (by simpa using h)
theorem wpQuiet_op {Q : Act → Prop} {a : Act} {o : Oper} {rest : List Oper} (v : Value) (hw : Region.wanted o (yielded ops a.tmps) = true) (h1 : ∀ w, C w → o.quietAt P a C w v) (h2 : wpQuiet P ops C Q rest (a.put o.dst v)) : wpQuiet P ops C Q (o :: rest) a := by
 unfold wpQuiet
 rw [if_pos hw]
 exact ⟨v, h1, h2⟩
end
end
section
open Go.RowKit
inductive It where
 | box (b : Nat) (vs : List Value)
 | ro (v : Value) (l : List Int)
 | own (v : Value) (l : List Int)
 | vec (v : Value) (e : TypeId) (sz n : Nat) (cs : List Value) (subs : List (Value × List Int))
 | fact (R : World → Prop)
 | held (bs : List Nat) (R : World → Prop)
def It.fp : It → List Nat
 | .box b _ => [b]
 | .ro _ _ => []
 | .own v _ => v.ownBlock.toList
 | .vec v _ _ _ _ subs => v.ownBlock.toList ++ subs.flatMap fun s => s.1.ownBlock.toList
 | .fact _ => []
 | .held bs _ => bs
def It.ok (B : Nat) (w : World) : It → Prop
 | .box b vs => B ≤ b ∧ ∃ t, w.heap[b]? = some (.cells vs.toArray t (0, 0))
 | .ro v l => IntsB w B v l
 | .own v l => Own w B v l
 | .vec v e sz n cs subs => w.ownsRow B e sz v n cs ∧ ∀ s ∈ subs, Own w B s.1 s.2
 | .fact R => ∀ w', (∀ b, b < B → w'.heap[b]? = w.heap[b]?) → R w'
 | .held bs R => (∀ b, b ∈ bs → B ≤ b ∧ b < w.heap.size) ∧ ∀ w', (∀ b, b < B ∨ b ∈ bs → w'.heap[b]? = w.heap[b]?) → R w'
theorem owns_same {w w' : World} {B e sz n : Nat} {v : Value} {xs : List Value} (h : w.ownsRow B e sz v n xs) (k : ∀ b, v.ownBlock = some b → w'.heap[b]? = w.heap[b]?) : w'.ownsRow B e sz v n xs := by
 refine ⟨h.1, ?_⟩
 rcases h.2 with hn | ⟨g, cap, cur, hv, hbg, hh, r⟩
 ·exact .inl hn
 ·exact .inr ⟨g, cap, cur, hv, hbg, (k g (by rw [hv]; rfl)).trans hh, r⟩
theorem Own.same {w w' : World} {B : Nat} {v : Value} {l : List Int} (h : Own w B v l) (k : ∀ b, v.ownBlock = some b → w'.heap[b]? = w.heap[b]?) : Own w' B v l := owns_same h k
theorem It.ok_same {B : Nat} {w w' : World} {x : It} (h : x.ok B w) (h1 : ∀ b, b < B → w'.heap[b]? = w.heap[b]?) (h2 : ∀ b, b ∈ x.fp → w'.heap[b]? = w.heap[b]?) : x.ok B w' := by
 cases x with
 | box b vs =>
  obtain ⟨hb, t, ht⟩ := h
  exact ⟨hb, t, (h2 b (by simp [It.fp])).trans ht⟩
 | ro v l => exact IntsB.keep h fun p hp => World.cell?_of_block (h1 p.block hp)
 | own v l => exact Own.same h fun b hb => h2 b (by simp [It.fp, hb])
 | vec v e sz n cs subs =>
  refine ⟨owns_same h.1 fun b hb => h2 b (by simp [It.fp, hb]), fun s hs => Own.same (h.2 s hs) fun b hb => h2 b ?_⟩
  simp only [It.fp, List.mem_append, List.mem_flatMap]
  exact .inr ⟨s, hs, by simp [hb]⟩
 | fact R => exact fun w'' hw => h w'' fun b hb => (hw b hb).trans (h1 b hb)
 | held bs R =>
  refine ⟨fun b hb => ⟨(h.1 b hb).1, ?_⟩, fun w'' hw => h.2 w'' fun b hb => (hw b hb).trans (hb.elim (h1 b) (h2 b))⟩
  have e := h2 b hb
  rw [Array.getElem?_eq_getElem (h.1 b hb).2] at e
  exact (Array.getElem?_eq_some_iff.1 e).1
theorem It.ok_lt {B : Nat} {w : World} {x : It} (h : x.ok B w) : ∀ b ∈ x.fp, B ≤ b ∧ b < w.heap.size := by
 intro b hb
 cases x with
 | box b' vs =>
  obtain ⟨h1, t, ht⟩ := h
  simp only [It.fp, List.mem_singleton] at hb
  subst hb
  exact ⟨h1, (Array.getElem?_eq_some_iff.1 ht).1⟩
 | ro v l => simp [It.fp] at hb
 | own v l => exact Own.lt h b (by simpa [It.fp] using hb)
 | vec v e sz n cs subs =>
  simp only [It.fp, List.mem_append, List.mem_flatMap] at hb
  rcases hb with hb | ⟨s, hs, hb⟩
  ·exact World.ownsRow.lt h.1 b (by simpa using hb)
  ·exact Own.lt (h.2 s hs) b (by simpa using hb)
 | fact R => simp [It.fp] at hb
 | held bs R => exact h.1 b hb
structure St (w0 w : World) (L : List It) : Prop where
 below : Below w0.heap.size w0 w
 ok : ∀ x ∈ L, x.ok w0.heap.size w
 apart : ∀ (i j : Nat) (x y : It), L[i]? = some x → L[j]? = some y → ∀ b ∈ x.fp, b ∈ y.fp → i = j
 nodup : ∀ x ∈ L, x.fp.Nodup
section
variable {w0 w w' : World} {L : List It}
theorem St.size (h : St w0 w L) : w0.heap.size ≤ w.heap.size := h.below.size
theorem St.at (h : St w0 w L) (i : Nat) {x : It} (hi : L[i]? = some x) : x.ok w0.heap.size w := h.ok x (List.mem_of_getElem? hi)
theorem St.on (h : St w0 w L) (hb : Below w.heap.size w w') : St w0 w' L :=
 ⟨h.below.trans (hb.mono h.size), fun x hx => It.ok_same (h.ok x hx) (fun b hb' => hb.block b (Nat.lt_of_lt_of_le hb' h.size)) (fun b hb' => hb.block b (It.ok_lt (h.ok x hx) b hb').2), h.apart, h.nodup⟩
theorem St.drewN (h : St w0 w L) (n : Nat) : St w0 (w.drewN n) L := h.on ⟨rfl, rfl, rfl, Nat.le_refl _, fun _ _ => rfl⟩
theorem St.drew (h : St w0 w L) : St w0 w.drew L := h.on ⟨rfl, rfl, rfl, Nat.le_refl _, fun _ _ => rfl⟩
theorem St.draws (h : St w0 w L) (n : Nat) : St w0 { w with drawn := w.drawn + n } L := h.drewN n
theorem St.alloc' (h : St w0 w L) (o : Obj) : St w0 (w.alloc o) L := h.on ((Below.refl _ _).alloc (Nat.le_refl _) _)
theorem St.push (h : St w0 w L) {x : It} (hb : Below w.heap.size w w') (hok : x.ok w0.heap.size w') (hfp : ∀ b ∈ x.fp, w.heap.size ≤ b) (hnd : x.fp.Nodup) : St w0 w' (x :: L) := by
 have h' := h.on hb
 refine ⟨h'.below, fun y hy => ?_, fun i j y z hy hz b h1 h2 => ?_, fun y hy => ?_⟩
 ·rcases List.mem_cons.1 hy with rfl | hy
  ·exact hok
  ·exact h'.ok y hy
 ·have low : ∀ (i : Nat) (y : It), L[i]? = some y → b ∈ y.fp → b < w.heap.size := fun i y hy hb' => (It.ok_lt (h.at i hy) b hb').2
  match i, j, hy, hz with
  | 0, 0, _, _ => rfl
  | 0, j + 1, hy, hz =>
   simp only [List.getElem?_cons_zero, Option.some.injEq] at hy
   subst hy
   have := hfp b h1
   have := low j z (by simpa using hz) h2
   omega
  | i + 1, 0, hy, hz =>
   simp only [List.getElem?_cons_zero, Option.some.injEq] at hz
   subst hz
   have := hfp b h2
   have := low i y (by simpa using hy) h1
   omega
  | i + 1, j + 1, hy, hz => rw [h.apart i j y z (by simpa using hy) (by simpa using hz) b h1 h2]
 ·rcases List.mem_cons.1 hy with rfl | hy
  ·exact hnd
  ·exact h'.nodup y hy
theorem Own.nil {w : World} {lo : Nat} : Own w lo (.slice none 0 0) [] := ⟨by simp, .inl ⟨rfl, rfl⟩⟩
theorem nodup_own (v : Value) : v.ownBlock.toList.Nodup := by cases v.ownBlock <;> simp
theorem St.pushOwn (h : St w0 w L) {v : Value} {l : List Int} (hb : Below w.heap.size w w') (ho : Own w' w.heap.size v l) : St w0 w' (.own v l :: L) :=
 h.push hb (Own.mono ho h.size) (fun b hb' => (ho.lt b (by simpa [It.fp] using hb')).1) (nodup_own v)
theorem St.pushRo (h : St w0 w L) {v : Value} {l : List Int} (hi : IntsB w w0.heap.size v l) : St w0 w (.ro v l :: L) :=
 h.push (Below.refl _ _) hi (fun b hb' => by simp [It.fp] at hb') (by simp [It.fp])
theorem St.pushFact (h : St w0 w L) {R : World → Prop} (hi : (It.fact R).ok w0.heap.size w) : St w0 w (.fact R :: L) :=
 h.push (Below.refl _ _) hi (fun b hb' => by simp [It.fp] at hb') (by simp [It.fp])
theorem St.box (h : St w0 w L) (vs : List Value) (t : TypeId) : St w0 (w.alloc (.cells vs.toArray t)) (.box w.heap.size vs :: L) :=
 h.push ((Below.refl _ _).alloc (Nat.le_refl _) _) ⟨h.size, t, heap_alloc_new w _⟩ (fun b hb' => by simp [It.fp] at hb'; omega) (by simp [It.fp])
theorem St.zeros (h : St w0 w L) (n : Nat) (hn : n ≤ 35184372088832) : St w0 (w.alloc (.cells (zeros n) 3)) (.own (.slice (some ⟨w.heap.size, 0, none⟩) n n) (List.replicate n 0) :: L) :=
 h.pushOwn ((Below.refl _ _).alloc (Nat.le_refl _) _) (Own.made hn (Nat.le_refl _))
theorem St.empty (h : St w0 w L) : St w0 (w.alloc (.cells #[] 3)) (.own (.slice (some ⟨w.heap.size, 0, none⟩) 0 0) [] :: L) :=
 h.pushOwn ((Below.refl _ _).alloc (Nat.le_refl _) _) (Own.empty (Nat.le_refl _))
theorem St.start (w : World) : St w w [] := ⟨Below.refl _ _, (fun x hx => by cases hx), (fun i j x y hx => by simp at hx), (fun x hx => by cases hx)⟩
theorem St.arg (h : St w w L) {v : Value} {l : List Int} (hi : Ints w v l) : St w w (.ro v l :: L) := h.pushRo hi.toB
theorem St.start1 {w : World} {v : Value} {l : List Int} (h : Ints w v l) : St w w [.ro v l] := (St.start w).arg h
theorem St.re (h : St w0 w L) (idx : List Nat) (hn : idx.Nodup) {L' : List It} (hL : ∀ j : Nat, L'[j]? = (idx[j]?).bind fun i => L[i]?) : St w0 w L' := by
 have key : ∀ (j : Nat) (x : It), L'[j]? = some x → ∃ i, idx[j]? = some i ∧ L[i]? = some x := fun j x hx => by
  rw [hL] at hx
  exact Option.bind_eq_some_iff.1 hx
 refine ⟨h.below, fun x hx => ?_, fun i j x y hx hy b h1 h2 => ?_, fun x hx => ?_⟩
 ·obtain ⟨j, hj⟩ := List.getElem?_of_mem hx
  obtain ⟨i, _, hi⟩ := key j x hj
  exact h.at i hi
 ·obtain ⟨i', a1, a2⟩ := key i x hx
  obtain ⟨j', c1, c2⟩ := key j y hy
  have e := h.apart i' j' x y a2 c2 b h1 h2
  subst e
  obtain ⟨p1, p2⟩ := List.getElem?_eq_some_iff.1 a1
  obtain ⟨q1, q2⟩ := List.getElem?_eq_some_iff.1 c1
  exact (List.getElem_inj hn).1 (p2.trans q2.symm)
 ·obtain ⟨j, hj⟩ := List.getElem?_of_mem hx
  obtain ⟨i, _, hi⟩ := key j x hj
  exact h.nodup x (List.mem_of_getElem? hi)
theorem St.drop (h : St w0 w L) (k : Nat) : St w0 w (L.drop k) := by
 refine ⟨h.below, fun x hx => h.ok x (List.mem_of_mem_drop hx), fun i j x y hx hy b h1 h2 => ?_, fun x hx => h.nodup x (List.mem_of_mem_drop hx)⟩
 rw [List.getElem?_drop] at hx hy
 have := h.apart _ _ x y hx hy b h1 h2
 omega
theorem St.upd (h : St w0 w L) (i : Nat) {x x' : It} (hi : L[i]? = some x) (hsz : w.heap.size ≤ w'.heap.size) (hos : w'.os = w.os) (htp : w'.tape = w.tape) (hou : w'.output = w.output)
  (hk : ∀ b, b < w.heap.size → b ∉ x.fp → w'.heap[b]? = w.heap[b]?) (hok : x'.ok w0.heap.size w') (hfp : ∀ b ∈ x'.fp, b ∈ x.fp ∨ w.heap.size ≤ b) (hnd : x'.fp.Nodup) : St w0 w' (L.set i x') := by
 have hx := h.at i hi
 have hlt := It.ok_lt hx
 have old : ∀ b, b < w0.heap.size → w'.heap[b]? = w.heap[b]? := fun b hb => hk b (Nat.lt_of_lt_of_le hb h.size) fun hm => by have := (hlt b hm).1; omega
 have hil : i < L.length := (List.getElem?_eq_some_iff.1 hi).1
 have get : ∀ (j : Nat) (y : It), (L.set i x')[j]? = some y → (j = i ∧ y = x') ∨ (j ≠ i ∧ L[j]? = some y) := fun j y hy => by
  rw [List.getElem?_set] at hy
  by_cases e : i = j
  ·subst e
   rw [if_pos rfl, if_pos hil] at hy
   exact .inl ⟨rfl, by simpa using hy.symm⟩
  ·rw [if_neg e] at hy
   exact .inr ⟨fun e' => e e'.symm, hy⟩
 refine ⟨h.below.trans ⟨hos, htp, hou, hsz, old⟩, fun y hy => ?_, fun j k y z hy hz b h1 h2 => ?_, fun y hy => ?_⟩
 ·obtain ⟨j, hj⟩ := List.getElem?_of_mem hy
  rcases get j y hj with ⟨_, rfl⟩ | ⟨hne, hj'⟩
  ·exact hok
  ·exact It.ok_same (h.at j hj') old fun b hb => hk b (It.ok_lt (h.at j hj') b hb).2 fun hm => hne (h.apart j i y x hj' hi b hb hm)
 ·rcases get j y hy with ⟨rfl, rfl⟩ | ⟨hne, hj'⟩
  ·rcases get k z hz with ⟨rfl, rfl⟩ | ⟨hne2, hk'⟩
   ·rfl
   ·rcases hfp b h1 with hm | hm
    ·exact absurd (h.apart k j z x hk' hi b h2 hm) hne2
    ·have := (It.ok_lt (h.at k hk') b h2).2; omega
  ·rcases get k z hz with ⟨rfl, rfl⟩ | ⟨hne2, hk'⟩
   ·rcases hfp b h2 with hm | hm
    ·exact absurd (h.apart j k y x hj' hi b h1 hm) hne
    ·have := (It.ok_lt (h.at j hj') b h1).2; omega
   ·exact h.apart j k y z hj' hk' b h1 h2
 ·obtain ⟨j, hj⟩ := List.getElem?_of_mem hy
  rcases get j y hj with ⟨_, rfl⟩ | ⟨hne, hj'⟩
  ·exact hnd
  ·exact h.nodup y (List.mem_of_getElem? hj')
theorem St.own (h : St w0 w L) (i : Nat) {v : Value} {l : List Int} (hi : L[i]? = some (.own v l)) : Own w w0.heap.size v l := h.at i hi
theorem St.ownInts (h : St w0 w L) (i : Nat) {v : Value} {l : List Int} (hi : L[i]? = some (.own v l)) : Ints w v l := (h.own i hi).ints
theorem St.ro (h : St w0 w L) (i : Nat) {v : Value} {l : List Int} (hi : L[i]? = some (.ro v l)) : IntsB w w0.heap.size v l := h.at i hi
theorem St.roInts (h : St w0 w L) (i : Nat) {v : Value} {l : List Int} (hi : L[i]? = some (.ro v l)) : Ints w v l := (h.ro i hi).ints
theorem St.roUp (h : St w0 w L) (i : Nat) {v : Value} {l : List Int} (hi : L[i]? = some (.ro v l)) : IntsB w w.heap.size v l := (h.ro i hi).ints.toB
theorem St.fact (h : St w0 w L) (i : Nat) {R : World → Prop} (hi : L[i]? = some (.fact R)) : R w := (h.at i hi : It.ok _ _ (.fact R)) w fun _ _ => rfl
theorem St.cell (h : St w0 w L) (i : Nat) {b : Nat} {vs : List Value} (hi : L[i]? = some (.box b vs)) (k : Nat) {v : Value} (hv : vs[k]? = some v) : w.cell? ⟨b, k, none⟩ = some v := by
 obtain ⟨_, t, ht⟩ := h.at i hi
 rw [cell_of_row w b k vs.toArray t (0, 0) ht]
 simpa using hv
theorem St.free (h : St w0 w L) (i : Nat) {b : Nat} {vs : List Value} (hi : L[i]? = some (.box b vs)) (k : Nat) : w.frozen? ⟨b, k, none⟩ = false := by
 obtain ⟨_, t, ht⟩ := h.at i hi
 exact frozen_of_row w b k vs.toArray t ht
theorem St.boxLt (h : St w0 w L) (i : Nat) {b : Nat} {vs : List Value} (hi : L[i]? = some (.box b vs)) : w0.heap.size ≤ b ∧ b < w.heap.size := It.ok_lt (h.at i hi) b (by simp [It.fp])
theorem St.box1 (h : St w0 w L) (i : Nat) {b : Nat} {x : Value} (hi : L[i]? = some (.box b [x])) : w.cell? ⟨b, 0, none⟩ = some x := h.cell i hi 0 rfl
theorem St.box3 (h : St w0 w L) (i : Nat) {b : Nat} {x y z : Value} (hi : L[i]? = some (.box b [x, y, z])) : w.cell? ⟨b, 0, none⟩ = some x ∧ w.cell? ⟨b, 1, none⟩ = some y ∧ w.cell? ⟨b, 2, none⟩ = some z :=
 ⟨h.cell i hi 0 rfl, h.cell i hi 1 rfl, h.cell i hi 2 rfl⟩
theorem St.box4 (h : St w0 w L) (i : Nat) {b : Nat} {x y z u : Value} (hi : L[i]? = some (.box b [x, y, z, u])) : w.cell? ⟨b, 0, none⟩ = some x ∧ w.cell? ⟨b, 1, none⟩ = some y ∧ w.cell? ⟨b, 2, none⟩ = some z ∧ w.cell? ⟨b, 3, none⟩ = some u :=
 ⟨h.cell i hi 0 rfl, h.cell i hi 1 rfl, h.cell i hi 2 rfl, h.cell i hi 3 rfl⟩
theorem St.setBox (h : St w0 w L) (i : Nat) {b : Nat} {vs : List Value} (hi : L[i]? = some (.box b vs)) (k : Nat) (u : Value) : St w0 (w.setCell ⟨b, k, none⟩ u) (L.set i (.box b (vs.set k u))) := by
 obtain ⟨h1, t, ht⟩ := h.at i hi
 refine h.upd i hi (by simp) rfl rfl rfl (fun b' _ hn => heap_setCell_other w ⟨b, k, none⟩ b' u (fun e => hn (by simp [It.fp, e]))) ⟨h1, t, ?_⟩ (fun b' hb => .inl hb) (by simp [It.fp])
 rw [heap_setCell_same w b k vs.toArray t u ht]
 simp
theorem St.set (h : St w0 w L) (i : Nat) {g n c : Nat} {l : List Int} (hi : L[i]? = some (.own (.slice (some ⟨g, 0, none⟩) n c) l)) (k : Nat) (x : Int) :
  St w0 (w.setCell ⟨g, k, none⟩ (.int .i64 x)) (L.set i (.own (.slice (some ⟨g, 0, none⟩) n c) (l.set k x))) := by
 obtain ⟨ho, hg⟩ := (h.own i hi).set k x
 exact h.upd i hi hg.size hg.os hg.tape hg.output (fun b hb hn => hg.block b hb (fun e => hn (by simp at e; simp [It.fp, Value.ownBlock, e]))) ho (fun b hb => .inl hb) (by simp [It.fp, Value.ownBlock])
theorem St.grown (h : St w0 w L) (i : Nat) {v v' : Value} {l l' : List Int} (hi : L[i]? = some (.own v l)) (ho : Own w' w0.heap.size v' l') (hg : w.grownBy w' v.ownBlock)
  (hv : ∀ b, v'.ownBlock = some b → v.ownBlock = some b ∨ w.heap.size ≤ b) : St w0 w' (L.set i (.own v' l')) :=
 h.upd i hi hg.size hg.os hg.tape hg.output (fun b hb hn => hg.block b hb (fun e => hn (by simp [It.fp, ← e]))) ho (fun b hb => by
  have := hv b (by simpa [It.fp] using hb)
  rcases this with e | e
  ·exact .inl (by simp [It.fp, e])
  ·exact .inr e) (nodup_own _)
theorem St.wrote (h : St w0 w L) (i : Nat) {v : Value} {l l' : List Int} (hi : L[i]? = some (.own v l)) (ho : Own w' w0.heap.size v l') (hg : w.grownBy w' v.ownBlock) : St w0 w' (L.set i (.own v l')) :=
 h.grown i hi ho hg fun _ hb => .inl hb
theorem St.appended (h : St w0 w L) (i : Nat) {v v' : Value} {l l' : List Int} (hi : L[i]? = some (.own v l)) (ho : Own w' w0.heap.size v' l') (hg : w.grownBy w' v.ownBlock)
  (hv : v'.ownBlock = v.ownBlock ∨ v'.ownBlock = some w.heap.size) : St w0 w' (L.set i (.own v' l')) :=
 h.grown i hi ho hg fun b hb => by
  rcases hv with e | e
  ·exact .inl (e ▸ hb)
  ·rw [e] at hb
   have := Option.some.inj hb
   exact .inr (by omega)
theorem St.region_tail {P : Program} {id : Nat} {Q : Exit → Act → World → Prop} {a : Act} {l : List Oper} (h : St w0 w L) (n : Nat) (hm : P.follows .mixedOrders = true) (hB : Region.lexTailB .any l.toArray n = true)
  (H : wpQuiet P l.toArray (fun w' => St w0 w' L) (fun a' => ∀ w', St w0 w' L → wpList P l.toArray Q (l.drop n) a' w') (l.take n) a) : (Code.region id l.toArray true).wp P Q a w :=
 wp_region_tail (fun w' => St w0 w' L) n hm hB (h.draws 1) H
theorem St.region_all {P : Program} {id : Nat} {Q : Exit → Act → World → Prop} {a : Act} {l : List Oper} (h : St w0 w L) (hm : P.follows .mixedOrders = true) (hB : Region.lexB .any l.toArray = true)
  (H : wpQuiet P l.toArray (fun w' => St w0 w' L) (fun a' => ∀ w', St w0 w' L → Q .normal a' w') l a) : (Code.region id l.toArray true).wp P Q a w :=
 wp_region_all (fun w' => St w0 w' L) hm hB (h.draws 1) H
end
end
section
open Go.RowKit
theorem owns_mono {w : World} {B B' e sz n : Nat} {v : Value} {xs : List Value} (h : w.ownsRow B e sz v n xs) (hB : B' ≤ B) : w.ownsRow B' e sz v n xs := by
 refine ⟨h.1, ?_⟩
 rcases h.2 with hn | ⟨g, cap, cur, hv, hb, r⟩
 ·exact .inl hn
 ·exact .inr ⟨g, cap, cur, hv, Nat.le_trans hB hb, r⟩
theorem It.vec_mono {B B' : Nat} {w : World} {v : Value} {e sz n : Nat} {cs : List Value} {subs : List (Value × List Int)} (h : It.ok B w (.vec v e sz n cs subs)) (hB : B' ≤ B) : It.ok B' w (.vec v e sz n cs subs) :=
 ⟨owns_mono h.1 hB, fun s hs => Own.mono (h.2 s hs) hB⟩
theorem apart_of_nodup {α : Type} {f : α → List Nat} : ∀ {l : List α} {i j : Nat} {x y : α} {b : Nat}, (l.flatMap f).Nodup → l[i]? = some x → l[j]? = some y → b ∈ f x → b ∈ f y → i = j
 | [], _, _, _, _, _, _, h, _, _, _ => by simp at h
 | a :: l, 0, 0, _, _, _, _, _, _, _, _ => rfl
 | a :: l, 0, j + 1, x, y, b, hn, h1, h2, h3, h4 => by
  rw [List.flatMap_cons, List.nodup_append] at hn
  simp only [List.getElem?_cons_zero, Option.some.injEq, List.getElem?_cons_succ] at h1 h2
  subst h1
  exact absurd rfl (hn.2.2 b h3 b (List.mem_flatMap.2 ⟨y, List.mem_of_getElem? h2, h4⟩))
 | a :: l, i + 1, 0, x, y, b, hn, h1, h2, h3, h4 => by
  rw [List.flatMap_cons, List.nodup_append] at hn
  simp only [List.getElem?_cons_zero, Option.some.injEq, List.getElem?_cons_succ] at h1 h2
  subst h2
  exact absurd rfl (hn.2.2 b h4 b (List.mem_flatMap.2 ⟨x, List.mem_of_getElem? h1, h3⟩))
 | a :: l, i + 1, j + 1, x, y, b, hn, h1, h2, h3, h4 => by
  rw [List.flatMap_cons, List.nodup_append] at hn
  have := apart_of_nodup (i := i) (j := j) (x := x) (y := y) hn.2.1 (by simpa using h1) (by simpa using h2) h3 h4
  omega
section
variable {w0 w w' : World} {L : List It}
theorem St.pushVec (h : St w0 w L) {v : Value} {e sz n : Nat} {cs : List Value} {subs : List (Value × List Int)} (hb : Below w.heap.size w w') (hok : It.ok w.heap.size w' (.vec v e sz n cs subs)) (hnd : (It.vec v e sz n cs subs).fp.Nodup) :
  St w0 w' (.vec v e sz n cs subs :: L) :=
 h.push hb (It.vec_mono hok h.size) (fun b hb' => (It.ok_lt hok b hb').1) hnd
theorem St.vec (h : St w0 w L) (i : Nat) {v : Value} {e sz n : Nat} {cs : List Value} {subs : List (Value × List Int)} (hi : L[i]? = some (.vec v e sz n cs subs)) : It.ok w0.heap.size w (.vec v e sz n cs subs) := h.at i hi
theorem St.vecNodup (h : St w0 w L) (i : Nat) {x : It} (hi : L[i]? = some x) : x.fp.Nodup := h.nodup x (List.mem_of_getElem? hi)
theorem St.vecCell (h : St w0 w L) (i : Nat) {g c : Nat} {e sz n : Nat} {cs : List Value} {subs : List (Value × List Int)} (hi : L[i]? = some (.vec (.slice (some ⟨g, 0, none⟩) n c) e sz n cs subs)) (k : Nat) {u : Value} (hu : cs[k]? = some u) :
  w.cell? ⟨g, k, none⟩ = some u := by
 have h1 : w.ownsRow w0.heap.size e sz (.slice (some ⟨g, 0, none⟩) n c) n cs := (h.vec i hi).1
 have h3 : cs.length = n * sz := h1.1
 have hk : k < n * sz := by rw [← h3]; exact (List.getElem?_eq_some_iff.1 hu).1
 rw [World.ownsRow.cellAt h1 k hk, hu]
theorem St.vecFree (h : St w0 w L) (i : Nat) {g c : Nat} {e sz n : Nat} {cs : List Value} {subs : List (Value × List Int)} (hi : L[i]? = some (.vec (.slice (some ⟨g, 0, none⟩) n c) e sz n cs subs)) (k : Nat) : w.frozen? ⟨g, k, none⟩ = false :=
 World.ownsRow.frozenAt (h.vec i hi).1 k
theorem St.sub (h : St w0 w L) (i : Nat) {v : Value} {e sz n : Nat} {cs : List Value} {subs : List (Value × List Int)} (hi : L[i]? = some (.vec v e sz n cs subs)) (k : Nat) {u : Value} {l : List Int} (hk : subs[k]? = some (u, l)) : Own w w0.heap.size u l :=
 (h.vec i hi).2 (u, l) (List.mem_of_getElem? hk)
theorem St.absorb {u : Value} {l : List Int} (h : St w0 w (.own u l :: L)) (i : Nat) {v : Value} {e sz n : Nat} {cs : List Value} {subs : List (Value × List Int)} (hi : L[i]? = some (.vec v e sz n cs subs)) :
  St w0 w (L.set i (.vec v e sz n cs (subs ++ [(u, l)]))) := by
 have hi' : (It.own u l :: L)[i + 1]? = some (.vec v e sz n cs subs) := by simpa using hi
 have hx := h.vec (i + 1) hi'
 have ho : Own w w0.heap.size u l := h.own 0 rfl
 have hil : i < L.length := (List.getElem?_eq_some_iff.1 hi).1
 have ht : St w0 w L := h.drop 1
 have fpe : (It.vec v e sz n cs (subs ++ [(u, l)])).fp = (It.vec v e sz n cs subs).fp ++ u.ownBlock.toList := by simp [It.fp]
 have get : ∀ (j : Nat) (y : It), (L.set i (.vec v e sz n cs (subs ++ [(u, l)])))[j]? = some y → (j = i ∧ y = .vec v e sz n cs (subs ++ [(u, l)])) ∨ (j ≠ i ∧ L[j]? = some y) := fun j y hy => by
  rw [List.getElem?_set] at hy
  by_cases e : i = j
  ·subst e
   rw [if_pos rfl, if_pos hil] at hy
   exact .inl ⟨rfl, by simpa using hy.symm⟩
  ·rw [if_neg e] at hy
   exact .inr ⟨fun e' => e e'.symm, hy⟩
 have far : ∀ (j : Nat) (y : It), j ≠ i → L[j]? = some y → ∀ b ∈ y.fp, b ∉ (It.vec v e sz n cs (subs ++ [(u, l)])).fp := fun j y hj hy b hb hm => by
  rw [fpe, List.mem_append] at hm
  rcases hm with hm | hm
  ·exact hj (ht.apart j i y _ hy hi b hb hm)
  ·have := h.apart (j + 1) 0 y (.own u l) (by simpa using hy) rfl b hb (by simpa [It.fp] using hm)
   omega
 refine ⟨h.below, fun y hy => ?_, fun j k y z hy hz b h1 h2 => ?_, fun y hy => ?_⟩
 ·obtain ⟨j, hj⟩ := List.getElem?_of_mem hy
  rcases get j y hj with ⟨_, rfl⟩ | ⟨_, hj'⟩
  ·refine ⟨hx.1, fun s hs => ?_⟩
   rcases List.mem_append.1 hs with hs | hs
   ·exact hx.2 s hs
   ·obtain rfl := List.mem_singleton.1 hs
    exact ho
  ·exact ht.at j hj'
 ·rcases get j y hy with ⟨rfl, rfl⟩ | ⟨hne, hj'⟩
  ·rcases get k z hz with ⟨rfl, rfl⟩ | ⟨hne2, hk'⟩
   ·rfl
   ·exact absurd h1 (far k z hne2 hk' b h2)
  ·rcases get k z hz with ⟨rfl, rfl⟩ | ⟨hne2, hk'⟩
   ·exact absurd h2 (far j y hne hj' b h1)
   ·exact ht.apart j k y z hj' hk' b h1 h2
 ·obtain ⟨j, hj⟩ := List.getElem?_of_mem hy
  rcases get j y hj with ⟨_, rfl⟩ | ⟨_, hj'⟩
  ·rw [fpe, List.nodup_append]
   refine ⟨ht.vecNodup i hi, nodup_own u, fun a ha b hb e => ?_⟩
   subst e
   have := h.apart (i + 1) 0 _ (.own u l) hi' rfl a ha (by simpa [It.fp] using hb)
   omega
  ·exact ht.vecNodup j hj'
theorem St.updVec (h : St w0 w L) (i : Nat) {v v' : Value} {e sz n n' : Nat} {cs cs' : List Value} {subs : List (Value × List Int)} (hi : L[i]? = some (.vec v e sz n cs subs)) (hg : w.grownBy w' v.ownBlock)
  (hv : ∀ b, v'.ownBlock = some b → v.ownBlock = some b ∨ w.heap.size ≤ b) (hok : w'.ownsRow w0.heap.size e sz v' n' cs') : St w0 w' (L.set i (.vec v' e sz n' cs' subs)) := by
 obtain ⟨h1, h2⟩ := h.vec i hi
 have hnd := h.vecNodup i hi
 have hsub : ∀ s ∈ subs, ∀ b, s.1.ownBlock = some b → b ∈ subs.flatMap fun s => s.1.ownBlock.toList := fun s hs b hb => List.mem_flatMap.2 ⟨s, hs, by simp [hb]⟩
 rw [It.fp, List.nodup_append] at hnd
 have hsl : ∀ s ∈ subs, ∀ b, s.1.ownBlock = some b → b < w.heap.size := fun s hs b hb => (Own.lt (h2 s hs) b hb).2
 refine h.upd i hi hg.size hg.os hg.tape hg.output (fun b hb hn => hg.block b hb (fun e => hn (by simp [It.fp, ← e]))) ⟨hok, fun s hs => ?_⟩ (fun b hb => ?_) ?_
 ·refine Own.same (h2 s hs) fun b hb => hg.block b (hsl s hs b hb) fun e => ?_
  exact hnd.2.2 b (by simp [← e]) b (hsub s hs b hb) rfl
 ·simp only [It.fp, List.mem_append] at hb ⊢
  rcases hb with hb | hb
  ·rcases hv b (by simpa using hb) with e | e
   ·exact .inl (.inl (by simp [e]))
   ·exact .inr e
  ·exact .inl (.inr hb)
 ·rw [It.fp, List.nodup_append]
  refine ⟨nodup_own v', hnd.2.1, fun a ha b hb e => ?_⟩
  subst e
  rcases hv a (by simpa using ha) with e | e
  ·exact hnd.2.2 a (by simp [e]) a hb rfl
  ·obtain ⟨s, hs, hb'⟩ := List.mem_flatMap.1 hb
   have := hsl s hs a (by simpa using hb')
   omega
theorem St.wroteSub (h : St w0 w L) (i : Nat) {v : Value} {e sz n : Nat} {cs : List Value} {subs : List (Value × List Int)} (hi : L[i]? = some (.vec v e sz n cs subs)) (k : Nat) {u : Value} {l l' : List Int} (hk : subs[k]? = some (u, l))
  (ho : Own w' w0.heap.size u l') (hg : w.grownBy w' u.ownBlock) : St w0 w' (L.set i (.vec v e sz n cs (subs.set k (u, l')))) := by
 obtain ⟨h1, h2⟩ := h.vec i hi
 have hnd := h.vecNodup i hi
 have hkl : k < subs.length := (List.getElem?_eq_some_iff.1 hk).1
 have hke : subs[k] = (u, l) := (List.getElem?_eq_some_iff.1 hk).2
 have fpe : ((subs.set k (u, l')).flatMap fun s => s.1.ownBlock.toList) = subs.flatMap fun s => s.1.ownBlock.toList := by
  have : (subs.set k (u, l')).map (fun s => s.1.ownBlock.toList) = subs.map fun s => s.1.ownBlock.toList := by
   rw [List.map_set]
   apply List.ext_getElem?
   intro j
   rw [List.getElem?_set, List.getElem?_map]
   by_cases e : k = j
   ·subst e; rw [if_pos rfl, if_pos (by simpa using hkl), hk]; rfl
   ·rw [if_neg e]
  simp only [List.flatMap_def, this]
 have hu : ∀ b, u.ownBlock = some b → b ∈ (It.vec v e sz n cs subs).fp := fun b hb => by
  simp only [It.fp, List.mem_append, List.mem_flatMap]
  exact .inr ⟨(u, l), List.mem_of_getElem? hk, by simp [hb]⟩
 have hnd' := hnd
 rw [It.fp, List.nodup_append] at hnd'
 refine h.upd i hi hg.size hg.os hg.tape hg.output (fun b hb hn => hg.block b hb (fun e => hn (hu b e.symm))) ⟨?_, fun s hs => ?_⟩ (fun b hb => .inl (by simpa only [It.fp, fpe] using hb)) (by simpa only [It.fp, fpe] using hnd)
 ·refine owns_same h1 fun b hb => hg.block b (World.ownsRow.lt h1 b hb).2 fun e => ?_
  exact hnd'.2.2 b (by simp [hb]) b (List.mem_flatMap.2 ⟨(u, l), List.mem_of_getElem? hk, by simp [← e]⟩) rfl
 ·obtain ⟨j, hj⟩ := List.getElem?_of_mem hs
  rw [List.getElem?_set] at hj
  by_cases e : k = j
  ·subst e
   rw [if_pos rfl, if_pos hkl] at hj
   obtain rfl := Option.some.inj hj
   exact ho
  ·rw [if_neg e] at hj
   have hjl : j < subs.length := (List.getElem?_eq_some_iff.1 hj).1
   refine Own.same (h2 s (List.mem_of_getElem? hj)) fun b hb => hg.block b (Own.lt (h2 s (List.mem_of_getElem? hj)) b hb).2 fun e' => e ?_
   exact apart_of_nodup (b := b) hnd'.2.1 hk hj (by simp [← e']) (by simp [hb])
end
end
section
open Go.RowKit
structure Mt where
 p : Int
 r : Int
 c : Int
 d : List Int
def matCells : List Value → List Mt → List Value
 | u :: us, m :: ms => .int .i64 m.p :: .int .i64 m.r :: .int .i64 m.c :: u :: matCells us ms
 | _, _ => []
theorem matCells_get : ∀ (us : List Value) (ms : List Mt) (i : Nat) (u : Value) (m : Mt), us[i]? = some u → ms[i]? = some m →
  (matCells us ms)[i * 4]? = some (.int .i64 m.p) ∧ (matCells us ms)[i * 4 + 1]? = some (.int .i64 m.r) ∧ (matCells us ms)[i * 4 + 2]? = some (.int .i64 m.c) ∧ (matCells us ms)[i * 4 + 3]? = some u
 | [], _, _, _, _, h, _ => by simp at h
 | _ :: _, [], _, _, _, _, h => by simp at h
 | u :: us, m :: ms, 0, u', m', h, h' => by
  simp only [List.getElem?_cons_zero, Option.some.injEq] at h h'
  subst h; subst h'
  exact ⟨rfl, rfl, rfl, rfl⟩
 | u :: us, m :: ms, i + 1, u', m', h, h' => by
  have := matCells_get us ms i u' m' (by simpa using h) (by simpa using h')
  have e : (i + 1) * 4 = i * 4 + 4 := by omega
  simp only [matCells, e, Nat.add_right_comm _ 4, List.getElem?_cons_succ]
  exact this
theorem matCells_snoc : ∀ (us : List Value) (ms : List Mt) (u : Value) (m : Mt), us.length = ms.length → matCells (us ++ [u]) (ms ++ [m]) = matCells us ms ++ [.int .i64 m.p, .int .i64 m.r, .int .i64 m.c, u]
 | [], [], _, _, _ => rfl
 | a :: us, b :: ms, u, m, h => by simp only [List.cons_append, matCells]; rw [matCells_snoc us ms u m (by simpa using h)]
def matsIt (v : Value) (us : List Value) (ms : List Mt) : It := .vec v 32 4 ms.length (matCells us ms) (us.zip (ms.map Mt.d))
def rowsIt (v : Value) (us : List Value) (ll : List (List Int)) : It := .vec v 22 1 ll.length us (us.zip ll)
def MatsR (w : World) (v : Value) (ms : List Mt) : Prop :=
  ∃ A c, v = .slice A ms.length c ∧ ms.length ≤ c ∧ c ≤ 9223372036854775807 ∧
    (0 < ms.length → ∃ b off, A = some ⟨b, off, none⟩ ∧ ∀ (i : Nat) (m : Mt), ms[i]? = some m → w.cell? ⟨b, off + i * 4, none⟩ = some (.int .i64 m.p) ∧ w.cell? ⟨b, off + i * 4 + 1, none⟩ = some (.int .i64 m.r) ∧
      w.cell? ⟨b, off + i * 4 + 2, none⟩ = some (.int .i64 m.c) ∧ ∃ u, w.cell? ⟨b, off + i * 4 + 3, none⟩ = some u ∧ Ints w u m.d)
theorem zip_get {us : List Value} {ls : List (List Int)} {i : Nat} {u : Value} {l : List Int} (h1 : us[i]? = some u) (h2 : ls[i]? = some l) : (us.zip ls)[i]? = some (u, l) := by
 rw [List.getElem?_zip_eq_some]; exact ⟨h1, h2⟩
theorem It.mats {B : Nat} {w : World} {v : Value} {us : List Value} {ms : List Mt} (h : (matsIt v us ms).ok B w) (hl : us.length = ms.length) : MatsR w v ms := by
 obtain ⟨h1, h2⟩ := h
 rcases id h1.2 with ⟨rfl, h0⟩ | ⟨g, cap, cur, rfl, hb, hg, hn, hm, _⟩
 ·obtain rfl : ms = [] := List.eq_nil_of_length_eq_zero h0
  exact ⟨none, 0, rfl, by simp, by simp, fun h => by simp at h⟩
 ·refine ⟨_, cap, rfl, hn, by simpa [maxLen] using hm, fun _ => ⟨g, 0, rfl, fun i m hi => ?_⟩⟩
  have hil := (List.getElem?_eq_some_iff.1 hi).1
  have hu : us[i]? = some (us[i]'(by omega)) := List.getElem?_eq_getElem _
  obtain ⟨k0, k1, k2, k3⟩ := matCells_get us ms i _ m hu hi
  have at_ : ∀ k, k < 4 → w.cell? ⟨g, 0 + i * 4 + k, none⟩ = (matCells us ms)[i * 4 + k]? := fun k hk => by
   rw [Nat.zero_add]; exact World.ownsRow.cellAt h1 _ (by omega)
  refine ⟨by rw [show 0 + i * 4 = 0 + i * 4 + 0 from rfl, at_ 0 (by omega)]; exact k0, (at_ 1 (by omega)).trans k1, (at_ 2 (by omega)).trans k2, _, (at_ 3 (by omega)).trans k3, ?_⟩
  exact Own.ints (h2 (us[i]'(by omega), m.d) (List.mem_of_getElem? (zip_get hu (by rw [List.getElem?_map, hi]; rfl))))
theorem MatsR.keep {w w' : World} {v : Value} {ms : List Mt} (h : MatsR w v ms) (hk : ∀ p : Addr, p.block < w.heap.size → w'.cell? p = w.cell? p) : MatsR w' v ms := by
 obtain ⟨A, c, rfl, h1, h2, h3⟩ := h
 refine ⟨A, c, rfl, h1, h2, fun hl => ?_⟩
 obtain ⟨b, off, rfl, hc⟩ := h3 hl
 refine ⟨b, off, rfl, fun i m hi => ?_⟩
 obtain ⟨k0, k1, k2, u, k3, k4⟩ := hc i m hi
 have kk : ∀ {o : Nat} {x : Value}, w.cell? ⟨b, o, none⟩ = some x → w'.cell? ⟨b, o, none⟩ = some x := fun h => (hk _ (World.block_lt_of_cell? w _ h)).trans h
 exact ⟨kk k0, kk k1, kk k2, u, kk k3, k4.keep hk⟩
theorem MatsR.fact {w : World} {v : Value} {ms : List Mt} (h : MatsR w v ms) : It.ok w.heap.size w (.fact fun w' => MatsR w' v ms) := fun _ hk => h.keep fun p hp => World.cell?_of_block (hk p.block hp)
def MtAt (w : World) (b o : Nat) (m : Mt) (u : Value) : Prop :=
 w.cell? ⟨b, o, none⟩ = some (.int .i64 m.p) ∧ w.cell? ⟨b, o + 1, none⟩ = some (.int .i64 m.r) ∧ w.cell? ⟨b, o + 2, none⟩ = some (.int .i64 m.c) ∧ w.cell? ⟨b, o + 3, none⟩ = some u ∧ Ints w u m.d
theorem MtAt.fact {w : World} {b o : Nat} {m : Mt} {u : Value} (h : MtAt w b o m u) : It.ok w.heap.size w (.fact fun w' => MtAt w' b o m u) := fun w' hk => by
 have kk : ∀ {o : Nat} {x : Value}, w.cell? ⟨b, o, none⟩ = some x → w'.cell? ⟨b, o, none⟩ = some x := fun h => (World.cell?_of_block (hk _ (World.block_lt_of_cell? w _ h))).trans h
 exact ⟨kk h.1, kk h.2.1, kk h.2.2.1, kk h.2.2.2.1, h.2.2.2.2.keep fun p hp => World.cell?_of_block (hk p.block hp)⟩
theorem MatsR.at {w : World} {A : Option Addr} {n c : Nat} {ms : List Mt} (h : MatsR w (.slice A n c) ms) {i : Nat} (hi : i < ms.length) :
  ∃ b off A' c', A = some ⟨b, off, none⟩ ∧ MtAt w b (off + i * 4) ms[i] (.slice A' ms[i].d.length c') := by
 obtain ⟨A', c', he, _, _, h3⟩ := h
 simp only [Value.slice.injEq] at he
 obtain ⟨rfl, _, rfl⟩ := he
 obtain ⟨b, off, rfl, hc⟩ := h3 (by omega)
 obtain ⟨k0, k1, k2, u, k3, k4⟩ := hc i ms[i] (List.getElem?_eq_getElem hi)
 obtain ⟨A2, c2, rfl, _⟩ := id k4
 exact ⟨b, off, A2, c2, rfl, k0, k1, k2, k3, k4⟩
theorem St.pushOld {w w' : World} {L : List It} {R : World → Prop} (h : St w w' L) (hR : It.ok w.heap.size w (.fact R)) : St w w' (.fact R :: L) :=
 h.pushFact fun w'' hk => hR w'' fun b hb => (hk b hb).trans (h.below.block b hb)
theorem IntRows.keep {w w' : World} {v : Value} {ll : List (List Int)} (h : IntRows w v ll) (hk : ∀ p : Addr, p.block < w.heap.size → w'.cell? p = w.cell? p) : IntRows w' v ll := by
 obtain ⟨A, c, rfl, h1, h2, h3⟩ := h
 refine ⟨A, c, rfl, h1, h2, fun hl => ?_⟩
 obtain ⟨b, off, rfl, hc⟩ := h3 hl
 refine ⟨b, off, rfl, fun i l hi => ?_⟩
 obtain ⟨u, k1, k2⟩ := hc i l hi
 exact ⟨u, (hk _ (World.block_lt_of_cell? w _ k1)).trans k1, k2.keep hk⟩
theorem IntRows.fact {w : World} {v : Value} {ll : List (List Int)} (h : IntRows w v ll) : It.ok w.heap.size w (.fact fun w' => IntRows w' v ll) := fun _ hk => h.keep fun p hp => World.cell?_of_block (hk p.block hp)
theorem It.rows {B : Nat} {w : World} {v : Value} {us : List Value} {ll : List (List Int)} (h : (rowsIt v us ll).ok B w) (hl : us.length = ll.length) : IntRows w v ll := by
 obtain ⟨h1, h2⟩ := h
 rcases id h1.2 with ⟨rfl, h0⟩ | ⟨g, cap, cur, rfl, hb, hg, hn, hm, _⟩
 ·obtain rfl : ll = [] := List.eq_nil_of_length_eq_zero h0
  exact ⟨none, 0, rfl, by simp, by simp, fun h => by simp at h⟩
 ·refine ⟨_, cap, rfl, hn, by simpa [maxLen] using hm, fun _ => ⟨g, 0, rfl, fun i l hi => ?_⟩⟩
  have hil := (List.getElem?_eq_some_iff.1 hi).1
  have hu : us[i]? = some (us[i]'(by omega)) := List.getElem?_eq_getElem _
  refine ⟨_, by rw [Nat.zero_add]; exact (World.ownsRow.cellAt h1 i (by omega)).trans hu, Own.ints (h2 (us[i]'(by omega), l) (List.mem_of_getElem? (zip_get hu hi)))⟩
def RetLL (w : World) (ll : List (List Int)) (e : Ending) (w' : World) : Prop := ∃ v us, e = .returned v ∧ us.length = ll.length ∧ It.ok w.heap.size w' (rowsIt v us ll) ∧ (rowsIt v us ll).fp.Nodup ∧ Below w.heap.size w w'
section
variable {w0 w : World} {L : List It}
theorem St.mats (h : St w0 w L) (i : Nat) {v : Value} {us : List Value} {ms : List Mt} (hi : L[i]? = some (matsIt v us ms)) (hl : us.length = ms.length) : MatsR w v ms := It.mats (h.at i hi) hl
theorem St.rowsR (h : St w0 w L) (i : Nat) {v : Value} {us : List Value} {ll : List (List Int)} (hi : L[i]? = some (rowsIt v us ll)) (hl : us.length = ll.length) : IntRows w v ll := It.rows (h.at i hi) hl
theorem St.pushRows (h : St w0 w L) {w' : World} {v : Value} {us : List Value} {ll : List (List Int)} (hb : Below w.heap.size w w') (hok : It.ok w.heap.size w' (rowsIt v us ll)) (hnd : (rowsIt v us ll).fp.Nodup) : St w0 w' (rowsIt v us ll :: L) := h.pushVec hb hok hnd
theorem vec_nil {B : Nat} {w : World} {e sz : Nat} : It.ok B w (.vec (.slice none 0 0) e sz 0 [] []) := ⟨World.ownsRow_nil w B e sz, fun s hs => by cases hs⟩
theorem St.emptyMats (h : St w0 w L) : St w0 (w.alloc (.cells #[] 32)) (matsIt (.slice (some ⟨w.heap.size, 0, none⟩) 0 0) [] [] :: L) :=
 h.push (x := matsIt (.slice (some ⟨w.heap.size, 0, none⟩) 0 0) [] []) ((Below.refl _ _).alloc (Nat.le_refl _) _) ⟨World.ownsRow_lit (base := w0.heap.size) (e := 32) (size := 4) w #[] 0 h.size (by simp) rfl, fun s hs => by cases hs⟩ (fun b hb => by simp [matsIt, It.fp, Value.ownBlock] at hb; omega) (by simp [matsIt, It.fp, Value.ownBlock])
theorem St.emptyRows (h : St w0 w L) : St w0 (w.alloc (.cells #[] 22)) (rowsIt (.slice (some ⟨w.heap.size, 0, none⟩) 0 0) [] [] :: L) :=
 h.push (x := rowsIt (.slice (some ⟨w.heap.size, 0, none⟩) 0 0) [] []) ((Below.refl _ _).alloc (Nat.le_refl _) _) ⟨World.ownsRow_lit (base := w0.heap.size) (e := 22) (size := 1) w #[] 0 h.size (by simp) rfl, fun s hs => by cases hs⟩ (fun b hb => by simp [rowsIt, It.fp, Value.ownBlock] at hb; omega) (by simp [rowsIt, It.fp, Value.ownBlock])
theorem infoM : (Tryz.prog.info? 32).map (fun i => (i.zero, i.size, i.bytes)) = some (some (.agg #[.int .i64 0, .int .i64 0, .int .i64 0, .slice none 0 0]), 4, 48) := by kernel_rfl
theorem run_append_vec (t ty e sz bytes : Nat) (i : TypeInfo) (z : Value) (ht : Tryz.prog.underlying t = some (.slice e)) (hi : Tryz.prog.info? e = some i) (hz : i.zero = some z) (hsize : i.size = sz) (hby : i.bytes = bytes) (hzs : z.cells.size = sz) (hsz : 0 < sz)
    (h : St w0 w L) (j : Nat) {v : Value} {n : Nat} {cs : List Value} {subs : List (Value × List Int)} (hj : L[j]? = some (.vec v e sz n cs subs)) (news : List Value) (hl : news.length = sz) (h1 : ∀ u ∈ news, u.oneCell' = true)
    (h63 : n + 1 ≤ maxLen) (hbytes : (n + 1) * bytes ≤ 140737488355328) :
    ∃ v' w', (Builtin.append_ #[t, t] ty #[v, .slice (some ⟨w.heap.size, 0, none⟩) 1 1]).run Tryz.prog (w.alloc (.cells news.toArray e)) = .ok v' w' ∧ St w0 w' (L.set j (.vec v' e sz (n + 1) (cs ++ news) subs)) := by
  have ha := h.alloc' (.cells news.toArray e)
  obtain ⟨v', w', hr, k1, k2, _, k4⟩ := run_append_own_at (P := Tryz.prog) (w := w.alloc (.cells news.toArray e)) w0.heap.size t ty e i z sz bytes ht hi hz hsize hby hzs hsz v n cs (ha.vec j hj).1 ⟨w.heap.size, 0, none⟩ 1 1 news (by omega)
    (fun k u hk => by
      rw [add_zero_spot, Nat.zero_add, cell_of_row _ _ k news.toArray _ _ (heap_alloc_new w _)]
      simpa using hk) h1 h63 hbytes ha.size
  refine ⟨v', w', hr, ha.updVec j hj k2 (fun b hb => ?_) k1⟩
  rcases k4 with e | e
  · exact .inl (by rw [← e]; exact hb)
  · right
    rw [e] at hb
    simp only [Option.some.injEq] at hb
    omega
theorem wp_append_vec {ops : Array Oper} {rest : List Oper} {o : Oper} {a : Act} {Q : Exit → Act → World → Prop} (hgd : o.guard = none) (s x : Operand) (t e sz bytes : Nat) (i : TypeInfo) (z : Value)
  (ho : o.op = .call { callee := .builtin .append, args := #[s, x], argTypes := #[t, t] }) (ht : Tryz.prog.underlying t = some (.slice e)) (hi : Tryz.prog.info? e = some i) (hz : i.zero = some z) (hsize : i.size = sz) (hby : i.bytes = bytes) (hzs : z.cells.size = sz) (hsz : 0 < sz)
  (h : St w0 w L) (j : Nat) {v : Value} {n : Nat} {cs : List Value} {subs : List (Value × List Int)} (hj : L[j]? = some (.vec v e sz n cs subs)) (news : List Value) (hl : news.length = sz) (h1 : ∀ u ∈ news, u.oneCell' = true)
  (hs : a.eval s = v) (hx : a.eval x = .slice (some ⟨w.heap.size, 0, none⟩) 1 1) (h63 : n + 1 ≤ maxLen) (hbytes : (n + 1) * bytes ≤ 140737488355328)
  (hk : ∀ v' w', St w0 w' (L.set j (.vec v' e sz (n + 1) (cs ++ news) subs)) → wpList Tryz.prog ops Q rest (a.put o.dst v') w') : wpList Tryz.prog ops Q (o :: rest) a (w.alloc (.cells news.toArray e)) := by
 refine wpList_plain hgd fun K hK => ?_
 obtain ⟨v', w', hr, k1⟩ := run_append_vec t o.type e sz bytes i z ht hi hz hsize hby hzs hsz h j hj news hl h1 h63 hbytes
 unfold Oper.wp execOp
 simp only [ho, resolve, invoke, builtin, Sem.run_bind, Sem.run_pure, Result.andThen_ok, List.map_toArray, List.map_cons, List.map_nil, hs, hx, hr]
 exact hK _ _ (hk v' w' k1)
theorem wp_append_row' {ops : Array Oper} {rest : List Oper} {o : Oper} {a : Act} {Q : Exit → Act → World → Prop} (hgd : o.guard = none) (s x : Operand)
  (ho : o.op = .call { callee := .builtin .append, args := #[s, x], argTypes := #[39, 39] }) {u v : Value} {l : List Int} {us : List Value} {ll : List (List Int)} (h : St w0 w (.own u l :: L)) (j : Nat) (hj : L[j]? = some (rowsIt v us ll)) (hul : us.length = ll.length)
  (hs : a.eval s = v) (hx : a.eval x = .slice (some ⟨w.heap.size, 0, none⟩) 1 1) (hlen : ll.length + 1 ≤ 1099511627776)
  (hk : ∀ v' w', St w0 w' (L.set j (rowsIt v' (us ++ [u]) (ll ++ [l]))) → wpList Tryz.prog ops Q rest (a.put o.dst v') w') : wpList Tryz.prog ops Q (o :: rest) a (w.alloc (.cells #[u] 22)) := by
 obtain ⟨i, h1, h2, h3, h4⟩ := info_parts infoR
 have hab := h.absorb j hj
 have hil : j < L.length := (List.getElem?_eq_some_iff.1 hj).1
 have ho' : Own w w0.heap.size u l := h.own 0 rfl
 refine wp_append_vec hgd s x 39 22 1 24 i _ ho Tryz.underlying39 h1 h2 h3 h4 rfl (by decide) hab j (by rw [List.getElem?_set_self hil]) [u] rfl (by simpa using ho'.one) hs hx (by simp only [maxLen]; omega) (by omega) fun v' w' hst => hk v' w' ?_
 rw [List.set_set] at hst
 have e : rowsIt v' (us ++ [u]) (ll ++ [l]) = .vec v' 22 1 (ll.length + 1) (us ++ [u]) (us.zip ll ++ [(u, l)]) := by
  unfold rowsIt; rw [List.zip_append hul]; simp
 rw [e]; exact hst
theorem wp_append_mat {ops : Array Oper} {rest : List Oper} {o : Oper} {a : Act} {Q : Exit → Act → World → Prop} (hgd : o.guard = none) (s x : Operand)
  (ho : o.op = .call { callee := .builtin .append, args := #[s, x], argTypes := #[40, 40] }) {u v : Value} (m : Mt) {us : List Value} {ms : List Mt} (h : St w0 w (.own u m.d :: L)) (j : Nat) (hj : L[j]? = some (matsIt v us ms)) (hul : us.length = ms.length)
  (hs : a.eval s = v) (hx : a.eval x = .slice (some ⟨w.heap.size, 0, none⟩) 1 1) (hlen : ms.length + 1 ≤ 1099511627776)
  (hk : ∀ v' w', St w0 w' (L.set j (matsIt v' (us ++ [u]) (ms ++ [m]))) → wpList Tryz.prog ops Q rest (a.put o.dst v') w') : wpList Tryz.prog ops Q (o :: rest) a (w.alloc (.cells #[.int .i64 m.p, .int .i64 m.r, .int .i64 m.c, u] 32)) := by
 obtain ⟨i, h1, h2, h3, h4⟩ := info_parts infoM
 have hab := h.absorb j hj
 have hil : j < L.length := (List.getElem?_eq_some_iff.1 hj).1
 have ho' : Own w w0.heap.size u m.d := h.own 0 rfl
 refine wp_append_vec hgd s x 40 32 4 48 i _ ho Tryz.underlying40 h1 h2 h3 h4 rfl (by decide) hab j (by rw [List.getElem?_set_self hil]) [.int .i64 m.p, .int .i64 m.r, .int .i64 m.c, u] rfl (by
  intro y hy
  simp only [List.mem_cons, List.not_mem_nil, or_false] at hy
  rcases hy with rfl | rfl | rfl | rfl
  ·rfl
  ·rfl
  ·rfl
  ·exact ho'.one) hs hx (by simp only [maxLen]; omega) (by omega) fun v' w' hst => hk v' w' ?_
 rw [List.set_set] at hst
 have e : matsIt v' (us ++ [u]) (ms ++ [m]) = .vec v' 32 4 (ms.length + 1) (matCells us ms ++ [.int .i64 m.p, .int .i64 m.r, .int .i64 m.c, u]) (us.zip (ms.map Mt.d) ++ [(u, m.d)]) := by
  unfold matsIt; rw [matCells_snoc us ms u m hul, List.map_append, List.zip_append (by simpa using hul)]; simp
 rw [e]; exact hst
theorem step_append_row {ops : Array Oper} {o : Oper} {a : Act} {K : Act → World → Prop} {Q : Exit → Act → World → Prop} {E : Prop} (hgd : o.guard = none) (s x : Operand)
  (ho : o.op = .call { callee := .builtin .append, args := #[s, x], argTypes := #[39, 39] }) {u v : Value} {l : List Int} {us : List Value} {ll : List (List Int)} (h : St w0 w (.own u l :: L)) (j : Nat) (hj : L[j]? = some (rowsIt v us ll)) (hul : us.length = ll.length)
  (hs : a.eval s = v) (hx : a.eval x = .slice (some ⟨w.heap.size, 0, none⟩) 1 1) (hlen : ll.length + 1 ≤ 1099511627776)
  (hk : ∀ v' w', St w0 w' (L.set j (rowsIt v' (us ++ [u]) (ll ++ [l]))) → K (a.put o.dst v') w') :
  if Region.wanted o (yielded ops a.tmps) = true then Oper.wp Tryz.prog o a (w.alloc (.cells #[u] 22)) K Q else E := by
 have hw : Region.wanted o (yielded ops a.tmps) = true := by simp [Region.wanted, hgd]
 rw [if_pos hw]
 obtain ⟨i, h1, h2, h3, h4⟩ := info_parts infoR
 have hab := h.absorb j hj
 have hil : j < L.length := (List.getElem?_eq_some_iff.1 hj).1
 have ho' : Own w w0.heap.size u l := h.own 0 rfl
 obtain ⟨v', w', hr, hst⟩ := run_append_vec 39 o.type 22 1 24 i _ Tryz.underlying39 h1 h2 h3 h4 rfl (by decide) hab j (by rw [List.getElem?_set_self hil]) [u] rfl (by simpa using ho'.one) (by simp only [maxLen]; omega) (by omega)
 rw [List.set_set] at hst
 have e : rowsIt v' (us ++ [u]) (ll ++ [l]) = .vec v' 22 1 (ll.length + 1) (us ++ [u]) (us.zip ll ++ [(u, l)]) := by
  unfold rowsIt; rw [List.zip_append hul]; simp
 unfold Oper.wp execOp
 simp only [ho, resolve, invoke, builtin, Sem.run_bind, Sem.run_pure, Result.andThen_ok, List.map_toArray, List.map_cons, List.map_nil, hs, hx, hr]
 exact hk _ _ (by rw [e]; exact hst)
end
end
end Go.Proofs.YtbnefjhljfbecaaGreatDoor
