import Derived.Deep.DeepCutAuto
import Derived.Deep.RegionHeld3
import Derived.Deep.RegionWith
import Derived.Test.YtbnefjhljfbecaaGreatDoorW06
import Derived.Test.YtbnefjhljfbecaaGreatDoorW07
import Derived.Test.YtbnefjhljfbecaaGreatDoorW24
import Derived.Test.YtbnefjhljfbecaaGreatDoorW28
namespace Go.Proofs.YtbnefjhljfbecaaGreatDoor
set_option maxRecDepth 100000
section
open Go.RowKit
def unitTo (n : Nat) : Nat → List Int
 | 0 => List.replicate (n * n) 0
 | i + 1 => (unitTo n i).set (i * n + i) 1
theorem length_unitTo (n : Nat) : ∀ i, (unitTo n i).length = n * n
 | 0 => by simp [unitTo]
 | i + 1 => by rw [unitTo, List.length_set, length_unitTo n i]
def unitD (n : Nat) : List Int := unitTo n n
theorem length_unitD (n : Nat) : (unitD n).length = n * n := length_unitTo n n
theorem resid_set {p x : Int} {l : List Int} {k : Nat} (h : resid p l = true) (h0 : 0 ≤ x) (h1 : x < p) : resid p (l.set k x) = true :=
 resid_iff.2 fun i hi => by
  rw [List.length_set] at hi
  by_cases hk : k < l.length
  ·rw [vec_set hk]
   split
   ·exact ⟨h0, h1⟩
   ·exact resid_vec h hi
  ·rw [List.set_eq_of_length_le (by omega)]
   exact resid_vec h hi
theorem resid_unitTo {p : Int} (hp : 2 ≤ p) (n : Nat) : ∀ i, resid p (unitTo n i) = true
 | 0 => resid_iff.2 fun i hi => by
  rw [unitTo] at *
  have : vec (List.replicate (n * n) 0) i = 0 := by simp [vec, List.getD_eq_getElem?_getD, List.getElem?_replicate]; split <;> rfl
  rw [this]; omega
 | i + 1 => resid_set (resid_unitTo hp n i) (by omega) (by omega)
theorem resid_unitD {p : Int} (hp : 2 ≤ p) (n : Nat) : resid p (unitD n) = true := resid_unitTo hp n n
set_option maxHeartbeats 2000000 in
theorem l1Unit_any (p : Int) (n : Nat) (w : World) (_hP : isPrime p = true) (hn : n ≤ 40) : Calls Tryz.prog 64 #[.int .i64 p, .int .i64 n] w (RetMat w p n n (unitD n)) := by
 have hnn := mul_le hn hn
 have h1 := (St.start w).box [.int .i64 0, .int .i64 0, .int .i64 0, .slice none 0 0] 32
 have HZ := Lib.hid (fun W => l1Zero_any p n n W (by omega))
 go_enter Tryz.func64, Tryz.ntmps64
 go_wp2_with fail
 refine (HZ.out _).mono ?_
 rintro (e : Ending) w1 ⟨u, rfl, ho, hb1⟩
 obtain ⟨A5, c5, rfl, _, _, _⟩ := id ho.ints
 have hle : (List.replicate (n * n) (0 : Int)).length = (unitD n).length := by rw [length_unitD]; simp
 replace h1 := (h1.pushOwn hb1 ho).box [.int .i64 p, .int .i64 n, .int .i64 n, .slice A5 (List.replicate (n * n) (0 : Int)).length c5] 32
 rw [hle] at h1 ⊢
 clear ho hb1 hle
 obtain ⟨z0, z1, z2, z3⟩ := h1.box4 0 rfl
 go_wp2
 clear z0 z1 z2 z3
 generalize w1.heap.size = B5 at h1 ⊢
 go_loopw [6] (fun v6 wr => ∃ i : Nat, v6 = .int .i64 i ∧ i ≤ n ∧ St w wr [.box B5 [.int .i64 p, .int .i64 n, .int .i64 n, .slice A5 (unitD n).length c5], .own (.slice A5 (unitD n).length c5) (unitTo n i), .box w.heap.size [.int .i64 0, .int .i64 0, .int .i64 0, .slice none 0 0]]) (fun v6 _ => n - (intOf v6).toNat)
 case atStart => exact ⟨0, rfl, by omega, h1⟩
 case round =>
  clear h1
  obtain ⟨i, rfl, a1, h1⟩ := hrel
  obtain ⟨z0, z1, z2, z3⟩ := h1.box4 0 rfl
  by_cases hi : i < n
  ·have HL := Lib.hid (length_unitTo n i)
   have HD := Lib.hid (length_unitD n)
   obtain ⟨e1, e2, e3, e4⟩ := spotI hi hi hnn
   obtain ⟨g, rfl, hn9⟩ := h1.ownSomeA 1 rfl (by rw [HL.out]; exact Nat.mul_pos (by omega) (by omega))
   clear hn9
   have HST := Lib.hid (show (unitTo n i).set (i * n + i) 1 = unitTo n (i + 1) from rfl)
   obtain ⟨q, hq⟩ : ∃ q, q = i * n + i := ⟨_, rfl⟩
   rw [← hq] at e1 e4 HST
   have i1 : q < (unitD n).length := by rw [HD.out]; exact e4
   have i2 : (unitD n).length ≤ 1600 := by rw [HD.out]; exact hnn
   obtain ⟨y0, f0⟩ := h1.ownCell2 1 rfl (q := q) (by rw [HL.out]; exact e4)
   have h2 := h1.set 1 rfl q 1
   clear hq e4 h1
   go_wp2
   go_roundw
   case rel => exact ⟨i + 1, by go_num, by omega, by rw [← HST.out]; exact h2⟩
   case measure => simp [intOf]; omega
  ·obtain rfl : i = n := by omega
   have f0 := h1.free 2 rfl 0
   have f1 := h1.free 2 rfl 1
   have f2 := h1.free 2 rfl 2
   have f3 := h1.free 2 rfl 3
   obtain ⟨x0, x1, x2, x3⟩ := h1.box4 2 rfl
   have h2 := (((h1.setBox 2 rfl 0 (.int .i64 p)).setBox 2 rfl 1 (.int .i64 i)).setBox 2 rfl 2 (.int .i64 i)).setBox 2 rfl 3 (.slice A5 (unitD i).length c5)
   obtain ⟨r0, r1, r2, r3⟩ := h2.box4 2 rfl
   go_wp2
   refine bodyPost_ret (v := .agg #[.int .i64 p, .int .i64 i, .int .i64 i, .slice A5 (unitD i).length c5]) (by simp [results, Tryz.results64, go_sem, r0, r1, r2, r3]) rfl ⟨_, rfl, h2.own 1 rfl, h2.below⟩
set_option maxHeartbeats 2000000 in
theorem UnitMatrixI_any (p : Int) (n : Nat) (w : World) (hP : isPrime p = true) (hn : n ≤ 40) : Calls Tryz.prog 50 #[.int .i64 p, .int .i64 n] w (RetMat w p n n (unitD n)) := by
 have hnn := mul_le hn hn
 have h1 := (St.start w).box [.int .i64 0, .int .i64 0, .int .i64 0, .slice none 0 0] 32
 have HZ := Lib.hid (fun W => ZeroMatrixI_any p n n W hP hn hn)
 go_enter Tryz.func50, Tryz.ntmps50
 go_wp2_with fail
 refine (HZ.out _).mono ?_
 rintro (e : Ending) w1 ⟨u, rfl, ho, hb1⟩
 obtain ⟨A5, c5, rfl, _, _, _⟩ := id ho.ints
 have hle : (List.replicate (n * n) (0 : Int)).length = (unitD n).length := by rw [length_unitD]; simp
 replace h1 := (h1.pushOwn hb1 ho).box [.int .i64 p, .int .i64 n, .int .i64 n, .slice A5 (List.replicate (n * n) (0 : Int)).length c5] 32
 rw [hle] at h1 ⊢
 clear ho hb1 hle
 obtain ⟨z0, z1, z2, z3⟩ := h1.box4 0 rfl
 go_wp2
 clear z0 z1 z2 z3
 generalize w1.heap.size = B5 at h1 ⊢
 go_loopw [6, 13] (fun v6 v13 wr => ∃ i : Nat, v13 = .int .i64 i ∧ i ≤ n ∧ St w wr [.box B5 [.int .i64 p, .int .i64 n, .int .i64 n, .slice A5 (unitD n).length c5], .own (.slice A5 (unitD n).length c5) (unitTo n i), .box w.heap.size [.int .i64 0, .int .i64 0, .int .i64 0, .slice none 0 0]]) (fun _ v13 _ => n - (intOf v13).toNat)
 case atStart => exact ⟨0, rfl, by omega, h1⟩
 case round =>
  clear h1
  obtain ⟨i, rfl, a1, h1⟩ := hrel
  obtain ⟨z0, z1, z2, z3⟩ := h1.box4 0 rfl
  by_cases hi : i < n
  ·have HL := Lib.hid (length_unitTo n i)
   have HD := Lib.hid (length_unitD n)
   obtain ⟨e1, e2, e3, e4⟩ := spotI hi hi hnn
   obtain ⟨g, rfl, hn9⟩ := h1.ownSomeA 1 rfl (by rw [HL.out]; exact Nat.mul_pos (by omega) (by omega))
   clear hn9
   have HST := Lib.hid (show (unitTo n i).set (i * n + i) 1 = unitTo n (i + 1) from rfl)
   obtain ⟨q, hq⟩ : ∃ q, q = i * n + i := ⟨_, rfl⟩
   rw [← hq] at e1 e4 HST
   have i1 : q < (unitD n).length := by rw [HD.out]; exact e4
   have i2 : (unitD n).length ≤ 1600 := by rw [HD.out]; exact hnn
   obtain ⟨y0, f0⟩ := h1.ownCell2 1 rfl (q := q) (by rw [HL.out]; exact e4)
   have h2 := h1.set 1 rfl q 1
   clear hq e4 h1
   go_wp2
   go_roundw
   case rel => exact ⟨i + 1, by go_num, by omega, by rw [← HST.out]; exact h2⟩
   case measure => simp [intOf]; omega
  ·obtain rfl : i = n := by omega
   have f0 := h1.free 2 rfl 0
   have f1 := h1.free 2 rfl 1
   have f2 := h1.free 2 rfl 2
   have f3 := h1.free 2 rfl 3
   obtain ⟨x0, x1, x2, x3⟩ := h1.box4 2 rfl
   have h2 := (((h1.setBox 2 rfl 0 (.int .i64 p)).setBox 2 rfl 1 (.int .i64 i)).setBox 2 rfl 2 (.int .i64 i)).setBox 2 rfl 3 (.slice A5 (unitD i).length c5)
   obtain ⟨r0, r1, r2, r3⟩ := h2.box4 2 rfl
   go_wp2
   refine bodyPost_ret (v := .agg #[.int .i64 p, .int .i64 i, .int .i64 i, .slice A5 (unitD i).length c5]) (by simp [results, Tryz.results50, go_sem, r0, r1, r2, r3]) rfl ⟨_, rfl, h2.own 1 rfl, h2.below⟩
set_option maxHeartbeats 400000 in
theorem l2All_any (p : Int) (n : Nat) (A : Option Addr) (l c : Nat) (w : World) (hP : isPrime p = true) (hn : n ≤ 40) : Calls Tryz.prog 35 #[.agg #[.int .i64 p, .int .i64 n, .slice A l c]] w (RetMat w p n n (unitD n)) := by
 have h1 := ((St.start w).box [.int .i64 p, .int .i64 n, .slice A l c] 30).box [.int .i64 0, .int .i64 0, .int .i64 0, .slice none 0 0] 32
 simp only [World.size_alloc] at h1
 have HU := Lib.hid (fun W => l1Unit_any p n W hP hn)
 clear hP
 obtain ⟨R, hR⟩ : ∃ R, R = unitD n := ⟨_, rfl⟩
 rw [← hR] at HU ⊢
 clear hR
 obtain ⟨z0, z1, z2⟩ := h1.box3 1 rfl
 go_enter Tryz.func35, Tryz.ntmps35
 go_wp2_with fail
 refine (HU.out _).mono ?_
 rintro (e : Ending) w1 ⟨u, rfl, ho, hb1⟩
 obtain ⟨A7, c7, rfl, _, _, _⟩ := id ho.ints
 replace h1 := h1.pushOwn hb1 ho
 clear ho hb1 z0 z1 z2
 obtain ⟨z0, z1, z2, z3⟩ := h1.box4 1 rfl
 have f0 := h1.free 1 rfl 0
 have f1 := h1.free 1 rfl 1
 have f2 := h1.free 1 rfl 2
 have f3 := h1.free 1 rfl 3
 have h2 := (((h1.setBox 1 rfl 0 (.int .i64 p)).setBox 1 rfl 1 (.int .i64 n)).setBox 1 rfl 2 (.int .i64 n)).setBox 1 rfl 3 (.slice A7 R.length c7)
 obtain ⟨r0, r1, r2, r3⟩ := h2.box4 1 rfl
 go_wp2
 refine bodyPost_ret (v := .agg #[.int .i64 p, .int .i64 n, .int .i64 n, .slice A7 R.length c7]) (by simp [results, Tryz.results35, go_sem, r0, r1, r2, r3]) rfl ⟨_, rfl, h2.own 0 rfl, h2.below⟩
end
section
open Go.RowKit
theorem St.roSome {w0 w : World} {L : List It} (h : St w0 w L) (i : Nat) {A : Option Addr} {n c : Nat} {l : List Int} (hi : L[i]? = some (.ro (.slice A n c) l)) (hn : 0 < l.length) : ∃ b off, A = some ⟨b, off, none⟩ := by
 obtain ⟨A', c', e1, _, _, e4⟩ := h.roInts i hi
 simp only [Value.slice.injEq] at e1
 obtain ⟨rfl, _, rfl⟩ := e1
 obtain ⟨b, off, e5, _⟩ := e4 hn
 exact ⟨b, off, e5⟩
theorem add_range {p x y : Int} (hx : 0 ≤ x ∧ x < p) (hy : 0 ≤ y ∧ y < p) (hp : p ≤ 10007) : 0 ≤ x + y ∧ x + y ≤ 20014 := by omega
set_option maxHeartbeats 4000000 in
theorem l1Add_any (p q r c r' c' : Int) (t s : Value) (D E : List Int) (w : World) (ht : Ints w t D) (hs : Ints w s E) (hl : D.length ≤ 4194304) (hE : E.length = D.length) (hp : 2 ≤ p) (hp' : p ≤ 10007) (rD : resid p D = true) (rE : resid p E = true) :
  Calls Tryz.prog 69 #[.agg #[.int .i64 p, .int .i64 r, .int .i64 c, t], .agg #[.int .i64 q, .int .i64 r', .int .i64 c', s]] w (RetMat w p r c (addL D 1 E p)) := by
 have h1 := (((((St.start w).arg ht).arg hs).box [.int .i64 p, .int .i64 r, .int .i64 c, t] 32).box [.int .i64 q, .int .i64 r', .int .i64 c', s] 32).box [.int .i64 0, .int .i64 0, .int .i64 0, .slice none 0 0] 32
 simp only [World.size_alloc] at h1
 obtain ⟨A, k, rfl, _, _, _⟩ := id ht
 obtain ⟨A2, k2, rfl, _, _, _⟩ := id hs
 have HE := Lib.hid hE
 have Hln := Lib.hid (length_addL D 1 E p hE)
 have HV := Lib.hid (fun (i : Nat) (hi : i < D.length) => vec_addLq (a := D) (b := E) (k := 1) (p := p) hE hi)
 clear ht hs hE
 obtain ⟨z0, z1, z2, z3⟩ := h1.box4 2 rfl
 go_enter Tryz.func69, Tryz.ntmps69
 go_wp2_with fail
 refine (l1Copy_any p r c _ D _ (h1.roInts 4 rfl) hl).mono ?_
 rintro (e : Ending) w1 ⟨u, rfl, ho, hb1⟩
 obtain ⟨A5, c5, rfl, _, _, _⟩ := id ho.ints
 replace h1 := (h1.pushOwn hb1 ho).box [.int .i64 p, .int .i64 r, .int .i64 c, .slice A5 D.length c5] 32
 clear ho hb1 z0 z1 z2 z3
 go_wp2
 generalize w1.heap.size = B5 at h1 ⊢
 go_loopw [6] (fun v6 wr => ∃ i : Nat, v6 = .int .i64 i ∧ i ≤ D.length ∧ St w wr [.box B5 [.int .i64 p, .int .i64 r, .int .i64 c, .slice A5 D.length c5], .own (.slice A5 D.length c5) (mixTo D.length D (addL D 1 E p) i), .box (w.heap.size + 1 + 1) [.int .i64 0, .int .i64 0, .int .i64 0, .slice none 0 0], .box (w.heap.size + 1) [.int .i64 q, .int .i64 r', .int .i64 c', .slice A2 E.length k2], .box w.heap.size [.int .i64 p, .int .i64 r, .int .i64 c, .slice A D.length k], .ro (.slice A2 E.length k2) E, .ro (.slice A D.length k) D]) (fun v6 _ => D.length - (intOf v6).toNat)
 case atStart => exact ⟨0, rfl, by omega, by rw [mixTo_zero rfl]; exact h1⟩
 case round =>
  clear h1
  obtain ⟨i, rfl, a1, h1⟩ := hrel
  obtain ⟨z0, z1, z2, z3⟩ := h1.box4 0 rfl
  by_cases hi : i < D.length
  ·have HL := Lib.hid (length_mixTo D.length D (addL D 1 E p) i)
   obtain ⟨g, rfl, hn9⟩ := h1.ownSomeA 1 rfl (by rw [HL.out]; omega)
   obtain ⟨b, off, rfl⟩ := h1.roSome 5 rfl (by rw [HE.out]; omega)
   have hX := mixTo_ge (n := D.length) (a := D) (b := addL D 1 E p) (Nat.le_refl i) hi
   obtain ⟨x, hx⟩ : ∃ x, x = vec D i := ⟨_, rfl⟩
   obtain ⟨y, hy⟩ : ∃ y, y = vec E i := ⟨_, rfl⟩
   have hxr := resid_vec rD (i := i) hi
   have hyr := resid_vec' rE (by omega : 0 < p) i
   rw [← hx] at hxr hX
   rw [← hy] at hyr
   have hS := mixTo_set (n := D.length) (a := D) (b := addL D 1 E p) (j := i)
   rw [HV.out i hi, ← hx, ← hy, Int.one_mul] at hS
   have HX := Lib.hid hX
   have HS := Lib.hid hS
   have Hy := Lib.hid hy.symm
   have hsum := add_range hxr hyr hp'
   have iE : (i : Int) < E.length := by rw [HE.out]; omega
   have HH := Lib.hid (show _ ∧ _ ∧ _ from ⟨wrap_ok (x := x + y) (by omega) (by omega), rem_ok (x := x + y) (p := p) (by omega), (show ¬ p = 0 by omega)⟩)
   clear hn9 hx hy hX hS
   have i1 : (i : Int) < D.length := by omega
   go_wp2
   refine h1.region_tail 18 (by kernel_rfl) (by kernel_rfl) ?_
   simp only [List.take_succ_cons, List.take_zero, List.drop_succ_cons, List.drop_zero]
   clear z0 z1 z2 z3
   iterate 18
    apply wpQuiet_op
    ·exact rfl
    ·intro w' hC
     obtain ⟨z0, z1, z2, z3⟩ := hC.box4 0 rfl
     obtain ⟨y0, y1, y2, y3⟩ := hC.box4 3 rfl
     have x0 := (hC.ownCellA 1 rfl (q := i) (by rw [HL.out]; exact hi)).1
     have x1 := hC.roCell 5 rfl (q := i) (by rw [HE.out]; exact hi)
     rw [HX.out] at x0
     rw [Hy.out] at x1
     obtain ⟨q1, q2, q3⟩ := HH.out
     unfold Oper.quietAt
     go_simp
     first | exact rfl | exact ⟨rfl, rfl⟩
    go_simp
   refine wpQuiet_nil (fun wn hC => ?_)
   obtain ⟨y0, f0⟩ := hC.ownCellA 1 rfl (q := i) (by rw [HL.out]; exact hi)
   have h3 := hC.set 1 rfl i ((x + y) % p)
   clear h1 hC
   go_wp2
   go_roundw
   case rel => exact ⟨i + 1, by go_num, by omega, by rw [← HS.out]; exact h3⟩
   case measure => simp [intOf]; omega
  ·obtain rfl : i = D.length := by omega
   rw [mixTo_end Hln.out] at h1
   have f0 := h1.free 2 rfl 0
   have f1 := h1.free 2 rfl 1
   have f2 := h1.free 2 rfl 2
   have f3 := h1.free 2 rfl 3
   obtain ⟨x0, x1, x2, x3⟩ := h1.box4 2 rfl
   have h2 := (((h1.setBox 2 rfl 0 (.int .i64 p)).setBox 2 rfl 1 (.int .i64 r)).setBox 2 rfl 2 (.int .i64 c)).setBox 2 rfl 3 (.slice A5 D.length c5)
   obtain ⟨r0, r1, r2, r3⟩ := h2.box4 2 rfl
   go_wp2
   refine bodyPost_ret (v := .agg #[.int .i64 p, .int .i64 r, .int .i64 c, .slice A5 D.length c5]) (by simp [results, Tryz.results69, go_sem, r0, r1, r2, r3]) rfl ⟨_, rfl, h2.own 1 rfl, h2.below⟩
set_option maxHeartbeats 4000000 in
theorem l1Scale_any (p r c k : Int) (t : Value) (D : List Int) (w : World) (ht : Ints w t D) (hl : D.length ≤ 4194304) (hp : 2 ≤ p) (hp' : p ≤ 10007) (hk : -1000000000000000000 ≤ k) (hk' : k ≤ 1000000000000000000) (rD : resid p D = true) :
  Calls Tryz.prog 70 #[.agg #[.int .i64 p, .int .i64 r, .int .i64 c, t], .int .i64 k] w (RetMat w p r c (scaleR p (k % p) D)) := by
 have h1 := ((((St.start w).arg ht)).box [.int .i64 p, .int .i64 r, .int .i64 c, t] 32).box [.int .i64 0, .int .i64 0, .int .i64 0, .slice none 0 0] 32
 simp only [World.size_alloc] at h1
 obtain ⟨A, k0, rfl, _, _, _⟩ := id ht
 have HMd := Lib.hid (fun W => l1Mod_any k p W hk hk' (by omega) hp')
 obtain ⟨m, hm⟩ : ∃ m, m = k % p := ⟨_, rfl⟩
 have hmr : 0 ≤ m ∧ m < p := by rw [hm]; exact ⟨Int.emod_nonneg _ (by omega), Int.emod_lt_of_pos _ (by omega)⟩
 rw [← hm] at HMd ⊢
 clear ht hm
 obtain ⟨z0, z1, z2, z3⟩ := h1.box4 1 rfl
 go_enter Tryz.func70, Tryz.ntmps70
 go_wp2_with fail
 refine (l1Copy_any p r c _ D _ (h1.roInts 2 rfl) hl).mono ?_
 rintro (e : Ending) w1 ⟨u, rfl, ho, hb1⟩
 obtain ⟨A5, c5, rfl, _, _, _⟩ := id ho.ints
 replace h1 := (h1.pushOwn hb1 ho).box [.int .i64 p, .int .i64 r, .int .i64 c, .slice A5 D.length c5] 32
 clear ho hb1 z0 z1 z2 z3
 go_wp2_with fail
 refine (HMd.out _).mono ?_
 rintro (e : Ending) w2 ⟨rfl, rfl⟩
 go_wp2
 generalize w1.heap.size = B5 at h1 ⊢
 go_loopw [7] (fun v7 wr => ∃ i : Nat, v7 = .int .i64 i ∧ i ≤ D.length ∧ St w wr [.box B5 [.int .i64 p, .int .i64 r, .int .i64 c, .slice A5 D.length c5], .own (.slice A5 D.length c5) (scaleTo p m D i), .box (w.heap.size + 1) [.int .i64 0, .int .i64 0, .int .i64 0, .slice none 0 0], .box w.heap.size [.int .i64 p, .int .i64 r, .int .i64 c, .slice A D.length k0], .ro (.slice A D.length k0) D]) (fun v7 _ => D.length - (intOf v7).toNat)
 case atStart => exact ⟨0, rfl, by omega, by rw [scaleTo_zero]; exact h1⟩
 case round =>
  clear h1
  obtain ⟨i, rfl, a1, h1⟩ := hrel
  obtain ⟨z0, z1, z2, z3⟩ := h1.box4 0 rfl
  by_cases hi : i < D.length
  ·have HL := Lib.hid (length_scaleTo p m D i a1)
   obtain ⟨g, rfl, hn9⟩ := h1.ownSomeA 1 rfl (by rw [HL.out]; omega)
   have hX := vec_scaleTo (p := p) (k := m) (l := D) (j := i) (i := i) a1 hi
   rw [if_neg (Nat.lt_irrefl i)] at hX
   obtain ⟨x, hx⟩ : ∃ x, x = vec D i := ⟨_, rfl⟩
   have hxr := resid_vec rD (i := i) hi
   have hS := scaleTo_set p m D i hi
   rw [← hx] at hxr hX hS
   have HX := Lib.hid hX
   have HS := Lib.hid hS
   have hsum := mul_range (k := x) (y := m) (p := p) (by omega) (by omega) (by omega) (by omega) (by omega)
   have HH := Lib.hid (show _ ∧ _ ∧ _ from ⟨wrap_ok (x := x * m) (by omega) (by omega), rem_ok (x := x * m) (p := p) (by omega), (show ¬ p = 0 by omega)⟩)
   clear hn9 hx hX hS
   have i1 : (i : Int) < D.length := by omega
   go_wp2
   refine h1.region_tail 14 (by kernel_rfl) (by kernel_rfl) ?_
   simp only [List.take_succ_cons, List.take_zero, List.drop_succ_cons, List.drop_zero]
   clear z0 z1 z2 z3
   iterate 14
    apply wpQuiet_op
    ·exact rfl
    ·intro w' hC
     obtain ⟨z0, z1, z2, z3⟩ := hC.box4 0 rfl
     have x0 := (hC.ownCellA 1 rfl (q := i) (by rw [HL.out]; exact hi)).1
     rw [HX.out] at x0
     obtain ⟨q1, q2, q3⟩ := HH.out
     unfold Oper.quietAt
     go_simp
     first | exact rfl | exact ⟨rfl, rfl⟩
    go_simp
   refine wpQuiet_nil (fun wn hC => ?_)
   obtain ⟨y0, f0⟩ := hC.ownCellA 1 rfl (q := i) (by rw [HL.out]; exact hi)
   have h3 := hC.set 1 rfl i (x * m % p)
   clear h1 hC
   go_wp2
   go_roundw
   case rel => exact ⟨i + 1, by go_num, by omega, by rw [← HS.out]; exact h3⟩
   case measure => simp [intOf]; omega
  ·obtain rfl : i = D.length := by omega
   rw [scaleTo_end] at h1
   have f0 := h1.free 2 rfl 0
   have f1 := h1.free 2 rfl 1
   have f2 := h1.free 2 rfl 2
   have f3 := h1.free 2 rfl 3
   obtain ⟨x0, x1, x2, x3⟩ := h1.box4 2 rfl
   have h2 := (((h1.setBox 2 rfl 0 (.int .i64 p)).setBox 2 rfl 1 (.int .i64 r)).setBox 2 rfl 2 (.int .i64 c)).setBox 2 rfl 3 (.slice A5 D.length c5)
   obtain ⟨r0, r1, r2, r3⟩ := h2.box4 2 rfl
   go_wp2
   refine bodyPost_ret (v := .agg #[.int .i64 p, .int .i64 r, .int .i64 c, .slice A5 D.length c5]) (by simp [results, Tryz.results70, go_sem, r0, r1, r2, r3]) rfl ⟨_, rfl, by have := h2.own 1 rfl; exact this, h2.below⟩
end
section
open Go.RowKit
set_option maxHeartbeats 4000000 in
theorem plus_any (p q r c r' c' k : Int) (t s : Value) (D E : List Int) (w : World) (ht : Ints w t D) (hs : Ints w s E) (hl : D.length ≤ 4194304) (hE : E.length = D.length) (hp : 2 ≤ p) (hp' : p ≤ 10007) (hk : 0 ≤ k) (hk' : k ≤ p) (rD : resid p D = true) (rE : resid p E = true) :
    Calls Tryz.prog 84 #[.agg #[.int .i64 p, .int .i64 r, .int .i64 c, t], .int .i64 k, .agg #[.int .i64 q, .int .i64 r', .int .i64 c', s]] w (RetMat w p r c (addL D k E p)) := by
  have h1 := (((((St.start w).arg ht).arg hs).box [.int .i64 p, .int .i64 r, .int .i64 c, t] 32).box [.int .i64 q, .int .i64 r', .int .i64 c', s] 32).box [.int .i64 0, .int .i64 0, .int .i64 0, .slice none 0 0] 32
  simp only [World.size_alloc] at h1
  obtain ⟨A, k0, rfl, _, _, _⟩ := id ht
  obtain ⟨A2, k2, rfl, _, _, _⟩ := id hs
  have HE := Lib.hid hE
  have Hln := Lib.hid (length_addL D k E p hE)
  have HC := Lib.hid (fun W (hi : Ints W (.slice A D.length k0) D) => Clone_any _ D W hi (by omega))
  clear ht hs hE
  go_enter Tryz.func84, Tryz.ntmps84
  go_upto_region 1 with fail
  generalize hW0 : (((w.alloc (.cells #[.int .i64 p, .int .i64 r, .int .i64 c, .slice A D.length k0] 32)).alloc (.cells #[.int .i64 q, .int .i64 r', .int .i64 c', .slice A2 E.length k2] 32)).alloc (.cells #[.int .i64 0, .int .i64 0, .int .i64 0, .slice none 0 0] 32)) = W0 at h1 ⊢
  clear hW0
  obtain ⟨z0, z1, z2, z3⟩ := h1.box4 2 rfl
  have l0 := (h1.boxLt 2 rfl).2
  have l1 := (h1.boxLt 1 rfl).2
  have n1 : W0.heap.size ≠ w.heap.size := by omega
  have n2 : W0.heap.size ≠ w.heap.size + 1 := by omega
  go_cut [7] (fun s7 wx => ∃ (bx : Nat) (A7 : Option Addr) (c7 : Nat), s7 = .pointer (some ⟨bx, 0, none⟩) ∧ St w wx [.box bx [.int .i64 p, .int .i64 r, .int .i64 c, .slice A7 D.length c7], .own (.slice A7 D.length c7) D, .box (w.heap.size + 1 + 1) [.int .i64 0, .int .i64 0, .int .i64 0, .slice none 0 0], .box (w.heap.size + 1) [.int .i64 q, .int .i64 r', .int .i64 c', .slice A2 E.length k2], .box w.heap.size [.int .i64 p, .int .i64 r, .int .i64 c, .slice A D.length k0], .ro (.slice A2 E.length k2) E, .ro (.slice A D.length k0) D])
  case first =>
    go_region_held3 (fun w' => w'.cell? ⟨w.heap.size, 0, none⟩ = some (.int .i64 p) ∧ w'.cell? ⟨w.heap.size, 1, none⟩ = some (.int .i64 r) ∧ w'.cell? ⟨w.heap.size, 2, none⟩ = some (.int .i64 c) ∧ w'.cell? ⟨w.heap.size, 3, none⟩ = some (.slice A D.length k0))
      (first | exact ⟨z0, z1, z2, z3⟩ | exact ⟨y0, y1, y2, y3⟩ | go_keep)
      (first
        | (go_at_call 80; refine (HC.out _ ?_).mono ?_; exact h1.drew.roInts 4 rfl; rintro (e : Ending) w1 ⟨u, rfl, ho, hb1⟩; obtain ⟨A7, c7, rfl, _, _, _⟩ := id ho.ints; have h2 := h1.drew.pushOwn hb1 ho; obtain ⟨y0, y1, y2, y3⟩ := h2.box4 3 rfl)
        | (go_at_call 80; refine (HC.out _ ?_).mono ?_; exact (h1.drew.box [.int .i64 0, .int .i64 0, .int .i64 0, .slice none 0 0] 32).roInts 5 rfl; rintro (e : Ending) w1 ⟨u, rfl, ho, hb1⟩; obtain ⟨A7, c7, rfl, _, _, _⟩ := id ho.ints; have h2 := (h1.drew.box [.int .i64 0, .int .i64 0, .int .i64 0, .slice none 0 0] 32).pushOwn hb1 ho; (try simp only [World.drew] at h2); obtain ⟨y0, y1, y2, y3⟩ := h2.box4 4 rfl; obtain ⟨e0, e1, e2, e3⟩ := h2.box4 1 rfl; have f0 := h2.free 1 rfl 0; have f1 := h2.free 1 rfl 1; have f2 := h2.free 1 rfl 2; have f3 := h2.free 1 rfl 3))
    all_goals
      go_wp2_with fail
      go_meet
      first
      | exact ⟨_, _, _, rfl, h2.box [.int .i64 p, .int .i64 r, .int .i64 c, .slice A7 D.length c7] 32⟩
      | exact ⟨_, _, _, rfl, St.swap2 ((((h2.setBox 1 rfl 0 (.int .i64 p)).setBox 1 rfl 1 (.int .i64 r)).setBox 1 rfl 2 (.int .i64 c)).setBox 1 rfl 3 (.slice A7 D.length c7))⟩
  case rest =>
  clear h1 z0 z1 z2 z3
  obtain ⟨bx, A7, c7, rfl, h1⟩ := hcut
  obtain ⟨z0, z1, z2, z3⟩ := h1.box4 0 rfl
  obtain ⟨y0, y1, y2, y3⟩ := h1.box4 3 rfl
  obtain ⟨x0, x1, x2, x3⟩ := h1.box4 4 rfl
  go_wp2_with fail
  refine (addTo_any _ _ D E k p w.heap.size _ (h1.own 1 rfl) (h1.roInts 5 rfl) (fun h g hg e => ?_) HE.out (by omega) hp hp' hk hk' rD rE).mono ?_
  · obtain ⟨b, off, c, he, hbb⟩ := (h1.ro 5 rfl).2 h
    have := ((h1.own 1 rfl).lt g hg).1
    rw [he] at e
    simp [Value.ownBlock] at e
    omega
  rintro (e : Ending) w3 ⟨rfl, ho, hg⟩
  have h2 := h1.wrote 1 rfl ho hg
  clear h1 ho hg z0 z1 z2 z3 y0 y1 y2 y3 x0 x1 x2 x3
  obtain ⟨z0, z1, z2, z3⟩ := h2.box4 0 rfl
  have f0 := h2.free 2 rfl 0
  have f1 := h2.free 2 rfl 1
  have f2 := h2.free 2 rfl 2
  have f3 := h2.free 2 rfl 3
  obtain ⟨x0, x1, x2, x3⟩ := h2.box4 2 rfl
  have h3 := (((h2.setBox 2 rfl 0 (.int .i64 p)).setBox 2 rfl 1 (.int .i64 r)).setBox 2 rfl 2 (.int .i64 c)).setBox 2 rfl 3 (.slice A7 D.length c7)
  obtain ⟨r0, r1, r2, r3⟩ := h3.box4 2 rfl
  go_wp2
  refine bodyPost_ret (v := .agg #[.int .i64 p, .int .i64 r, .int .i64 c, .slice A7 D.length c7]) (by simp [results, Tryz.results84, go_sem, r0, r1, r2, r3]) rfl ⟨_, rfl, h3.own 1 rfl, h3.below⟩
end
section
open Go.RowKit
def sumMTo (p : Int) (n : Nat) (K : List Int) (Ms : List (List Int)) : Nat → List Int
 | 0 => List.replicate n 0
 | i + 1 => if vec K i = 0 then sumMTo p n K Ms i else addL (sumMTo p n K Ms i) (vec K i) (rowOf Ms i) p
theorem sumMTo_ok {p : Int} (hp : 2 ≤ p) {n : Nat} {K : List Int} {Ms : List (List Int)} (hM : ∀ i, i < Ms.length → (rowOf Ms i).length = n) : ∀ i, i ≤ Ms.length → (sumMTo p n K Ms i).length = n ∧ resid p (sumMTo p n K Ms i) = true
 | 0, _ => ⟨by simp [sumMTo], resid_iff.2 fun j hj => by
   rw [sumMTo] at *
   have : vec (List.replicate n 0) j = 0 := by simp [vec, List.getD_eq_getElem?_getD, List.getElem?_replicate]; split <;> rfl
   rw [this]; omega⟩
 | i + 1, h => by
  obtain ⟨h1, h2⟩ := sumMTo_ok hp hM i (by omega)
  rw [sumMTo]
  split
  ·exact ⟨h1, h2⟩
  ·exact ⟨by rw [length_addL _ _ _ _ (by rw [hM i (by omega), h1])]; exact h1, resid_addL _ _ _ _ (by omega)⟩
end
end Go.Proofs.YtbnefjhljfbecaaGreatDoor
