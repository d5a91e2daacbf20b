/- Unit matrices of both programs. The reference's l1Add, l1Scale: number by number. plus of the program. Modules: their size; sums of matrices, each times its number. l10Sum of the reference: the beginning. -/
import Derived.Test.YthiainhhaokjoaaSmall0
import Derived.Test.YthiainhhaokjoaaReduce
import Derived.Test.YthiainhhaokjoaaRowsW2
import Derived.Test.YthiainhhaokjoaaCopy1
import Derived.Test.YthiainhhaokjoaaRegX
import Derived.Deep.DeepCutAuto
import Derived.Deep.RegionHeld3
import Derived.Deep.RegionWith
namespace Go.Proofs.Ythiainhhaokjoaa
set_option maxRecDepth 100000
section
open Go.RowKit

/-- Zeros, with ones at the first i places of the diagonal. -/
def unitTo (n : Nat) : Nat → List Int
  | 0 => List.replicate (n * n) 0
  | i + 1 => (unitTo n i).set (i * n + i) 1
theorem length_unitTo (n : Nat) : ∀ i, (unitTo n i).length = n * n
  | 0 => by simp [unitTo]
  | i + 1 => by rw [unitTo, List.length_set, length_unitTo n i]
def unitD (n : Nat) : List Int := unitTo n n
theorem length_unitD (n : Nat) : (unitD n).length = n * n := length_unitTo n n
theorem resid_set {p x : Int} {l : List Int} {k : Nat} (h : resid p l = true) (h0 : 0 ≤ x) (h1 : x < p) : resid p (l.set k x) = true :=
  resid_iff.2 fun i hi => by
    rw [List.length_set] at hi
    by_cases hk : k < l.length
    · rw [vec_set hk]
      split
      · exact ⟨h0, h1⟩
      · exact resid_vec h hi
    · rw [List.set_eq_of_length_le (by omega)]
      exact resid_vec h hi
theorem resid_unitTo {p : Int} (hp : 2 ≤ p) (n : Nat) : ∀ i, resid p (unitTo n i) = true
  | 0 => resid_iff.2 fun i hi => by
    rw [unitTo] at *
    have : vec (List.replicate (n * n) 0) i = 0 := by simp [vec, List.getD_eq_getElem?_getD, List.getElem?_replicate]; split <;> rfl
    rw [this]; omega
  | i + 1 => resid_set (resid_unitTo hp n i) (by omega) (by omega)
theorem resid_unitD {p : Int} (hp : 2 ≤ p) (n : Nat) : resid p (unitD n) = true := resid_unitTo hp n n

set_option maxHeartbeats 2000000 in
theorem l1Unit_any (p : Int) (n : Nat) (w : World) (_hP : isPrime p = true) (hn : n ≤ 40) : Calls Try.prog 118 #[.int .i64 p, .int .i64 n] w (RetMat w p n n (unitD n)) := by
  have hnn := mul_le hn hn
  have h1 := (St.start w).box [.int .i64 0, .int .i64 0, .int .i64 0, .slice none 0 0] 40
  have HZ := Lib.hid (fun W => l1Zero_any p n n W (by omega))
  go_enter Try.func118, Try.ntmps118
  go_wp2_with fail
  refine (HZ.out _).mono ?_
  rintro (e : Ending) w1 ⟨u, rfl, ho, hb1⟩
  obtain ⟨A5, c5, rfl, _, _, _⟩ := id ho.ints
  have hle : (List.replicate (n * n) (0 : Int)).length = (unitD n).length := by rw [length_unitD]; simp
  replace h1 := (h1.pushOwn hb1 ho).box [.int .i64 p, .int .i64 n, .int .i64 n, .slice A5 (List.replicate (n * n) (0 : Int)).length c5] 40
  rw [hle] at h1 ⊢
  clear ho hb1 hle
  obtain ⟨z0, z1, z2, z3⟩ := h1.box4 0 rfl
  go_wp2
  clear z0 z1 z2 z3
  generalize w1.heap.size = B5 at h1 ⊢
  go_loopw [6] (fun v6 wr => ∃ i : Nat, v6 = .int .i64 i ∧ i ≤ n ∧ St w wr [.box B5 [.int .i64 p, .int .i64 n, .int .i64 n, .slice A5 (unitD n).length c5], .own (.slice A5 (unitD n).length c5) (unitTo n i), .box w.heap.size [.int .i64 0, .int .i64 0, .int .i64 0, .slice none 0 0]]) (fun v6 _ => n - (intOf v6).toNat)
  case atStart => exact ⟨0, rfl, by omega, h1⟩
  case round =>
    clear h1
    obtain ⟨i, rfl, a1, h1⟩ := hrel
    obtain ⟨z0, z1, z2, z3⟩ := h1.box4 0 rfl
    by_cases hi : i < n
    · have HL := Lib.hid (length_unitTo n i)
      have HD := Lib.hid (length_unitD n)
      obtain ⟨e1, e2, e3, e4⟩ := spotI hi hi hnn
      obtain ⟨g, rfl, hn9⟩ := h1.ownSomeA 1 rfl (by rw [HL.out]; exact Nat.mul_pos (by omega) (by omega))
      clear hn9
      have HST := Lib.hid (show (unitTo n i).set (i * n + i) 1 = unitTo n (i + 1) from rfl)
      obtain ⟨q, hq⟩ : ∃ q, q = i * n + i := ⟨_, rfl⟩
      rw [← hq] at e1 e4 HST
      have i1 : q < (unitD n).length := by rw [HD.out]; exact e4
      have i2 : (unitD n).length ≤ 1600 := by rw [HD.out]; exact hnn
      obtain ⟨y0, f0⟩ := h1.ownCell2 1 rfl (q := q) (by rw [HL.out]; exact e4)
      have h2 := h1.set 1 rfl q 1
      clear hq e4 h1
      go_wp2
      go_roundw
      case rel => exact ⟨i + 1, by go_num, by omega, by rw [← HST.out]; exact h2⟩
      case measure => simp [intOf]; omega
    · obtain rfl : i = n := by omega
      have f0 := h1.free 2 rfl 0
      have f1 := h1.free 2 rfl 1
      have f2 := h1.free 2 rfl 2
      have f3 := h1.free 2 rfl 3
      obtain ⟨x0, x1, x2, x3⟩ := h1.box4 2 rfl
      have h2 := (((h1.setBox 2 rfl 0 (.int .i64 p)).setBox 2 rfl 1 (.int .i64 i)).setBox 2 rfl 2 (.int .i64 i)).setBox 2 rfl 3 (.slice A5 (unitD i).length c5)
      obtain ⟨r0, r1, r2, r3⟩ := h2.box4 2 rfl
      go_wp2
      refine bodyPost_ret (v := .agg #[.int .i64 p, .int .i64 i, .int .i64 i, .slice A5 (unitD i).length c5]) (by simp [results, Try.results118, go_sem, r0, r1, r2, r3]) rfl ⟨_, rfl, h2.own 1 rfl, h2.below⟩
end
section
open Go.RowKit

theorem St.roSome {w0 w : World} {L : List It} (h : St w0 w L) (i : Nat) {A : Option Addr} {n c : Nat} {l : List Int} (hi : L[i]? = some (.ro (.slice A n c) l)) (hn : 0 < l.length) : ∃ b off, A = some ⟨b, off, none⟩ := by
  obtain ⟨A', c', e1, _, _, e4⟩ := h.roInts i hi
  simp only [Value.slice.injEq] at e1
  obtain ⟨rfl, _, rfl⟩ := e1
  obtain ⟨b, off, e5, _⟩ := e4 hn
  exact ⟨b, off, e5⟩
theorem St.roCell {w0 w : World} {L : List It} (h : St w0 w L) (i : Nat) {b off n c : Nat} {l : List Int} (hi : L[i]? = some (.ro (.slice (some ⟨b, off, none⟩) n c) l)) {q : Nat} (hq : q < l.length) : w.cell? ⟨b, off + q, none⟩ = some (.int .i64 (Go.Proofs.Ythiainhhaokjoaa.vec l q)) := by
  obtain ⟨A', c', e1, _, _, e4⟩ := h.roInts i hi
  simp only [Value.slice.injEq] at e1
  obtain ⟨rfl, _, rfl⟩ := e1
  obtain ⟨b', off', e5, e6⟩ := e4 (by omega)
  simp only [Option.some.injEq, Addr.mk.injEq] at e5
  obtain ⟨rfl, rfl, _⟩ := e5
  exact e6 q _ (vec_get hq)
theorem add_range {p x y : Int} (hx : 0 ≤ x ∧ x < p) (hy : 0 ≤ y ∧ y < p) (hp : p ≤ 10007) : 0 ≤ x + y ∧ x + y ≤ 20014 := by omega

set_option maxHeartbeats 4000000 in
theorem l1Add_any (p q r c r' c' : Int) (t s : Value) (D E : List Int) (w : World) (ht : Ints w t D) (hs : Ints w s E) (hl : D.length ≤ 4194304) (hE : E.length = D.length) (hp : 2 ≤ p) (hp' : p ≤ 10007) (rD : resid p D = true) (rE : resid p E = true) :
    Calls Try.prog 91 #[.agg #[.int .i64 p, .int .i64 r, .int .i64 c, t], .agg #[.int .i64 q, .int .i64 r', .int .i64 c', s]] w (RetMat w p r c (addL D 1 E p)) := by
  have h1 := (((((St.start w).arg ht).arg hs).box [.int .i64 p, .int .i64 r, .int .i64 c, t] 40).box [.int .i64 q, .int .i64 r', .int .i64 c', s] 40).box [.int .i64 0, .int .i64 0, .int .i64 0, .slice none 0 0] 40
  simp only [World.size_alloc] at h1
  obtain ⟨A, k, rfl, _, _, _⟩ := id ht
  obtain ⟨A2, k2, rfl, _, _, _⟩ := id hs
  have HE := Lib.hid hE
  have Hln := Lib.hid (length_addL D 1 E p hE)
  have HV := Lib.hid (fun (i : Nat) (hi : i < D.length) => vec_addLq (a := D) (b := E) (k := 1) (p := p) hE hi)
  clear ht hs hE
  obtain ⟨z0, z1, z2, z3⟩ := h1.box4 2 rfl
  go_enter Try.func91, Try.ntmps91
  go_wp2_with fail
  refine (l1Copy_any p r c _ D _ (h1.roInts 4 rfl) hl).mono ?_
  rintro (e : Ending) w1 ⟨u, rfl, ho, hb1⟩
  obtain ⟨A5, c5, rfl, _, _, _⟩ := id ho.ints
  replace h1 := (h1.pushOwn hb1 ho).box [.int .i64 p, .int .i64 r, .int .i64 c, .slice A5 D.length c5] 40
  clear ho hb1 z0 z1 z2 z3
  go_wp2
  generalize w1.heap.size = B5 at h1 ⊢
  go_loopw [6] (fun v6 wr => ∃ i : Nat, v6 = .int .i64 i ∧ i ≤ D.length ∧ St w wr [.box B5 [.int .i64 p, .int .i64 r, .int .i64 c, .slice A5 D.length c5], .own (.slice A5 D.length c5) (mixTo D.length D (addL D 1 E p) i), .box (w.heap.size + 1 + 1) [.int .i64 0, .int .i64 0, .int .i64 0, .slice none 0 0], .box (w.heap.size + 1) [.int .i64 q, .int .i64 r', .int .i64 c', .slice A2 E.length k2], .box w.heap.size [.int .i64 p, .int .i64 r, .int .i64 c, .slice A D.length k], .ro (.slice A2 E.length k2) E, .ro (.slice A D.length k) D]) (fun v6 _ => D.length - (intOf v6).toNat)
  case atStart => exact ⟨0, rfl, by omega, by rw [mixTo_zero rfl]; exact h1⟩
  case round =>
    clear h1
    obtain ⟨i, rfl, a1, h1⟩ := hrel
    obtain ⟨z0, z1, z2, z3⟩ := h1.box4 0 rfl
    by_cases hi : i < D.length
    · have HL := Lib.hid (length_mixTo D.length D (addL D 1 E p) i)
      obtain ⟨g, rfl, hn9⟩ := h1.ownSomeA 1 rfl (by rw [HL.out]; omega)
      obtain ⟨b, off, rfl⟩ := h1.roSome 5 rfl (by rw [HE.out]; omega)
      have hX := mixTo_ge (n := D.length) (a := D) (b := addL D 1 E p) (Nat.le_refl i) hi
      obtain ⟨x, hx⟩ : ∃ x, x = vec D i := ⟨_, rfl⟩
      obtain ⟨y, hy⟩ : ∃ y, y = vec E i := ⟨_, rfl⟩
      have hxr := resid_vec rD (i := i) hi
      have hyr := resid_vec' rE (by omega : 0 < p) i
      rw [← hx] at hxr hX
      rw [← hy] at hyr
      have hS := mixTo_set (n := D.length) (a := D) (b := addL D 1 E p) (j := i)
      rw [HV.out i hi, ← hx, ← hy, Int.one_mul] at hS
      have HX := Lib.hid hX
      have HS := Lib.hid hS
      have Hy := Lib.hid hy.symm
      have hsum := add_range hxr hyr hp'
      have iE : (i : Int) < E.length := by rw [HE.out]; omega
      have HH := Lib.hid (show _ ∧ _ ∧ _ from ⟨wrap_ok (x := x + y) (by omega) (by omega), rem_ok (x := x + y) (p := p) (by omega), (show ¬ p = 0 by omega)⟩)
      clear hn9 hx hy hX hS
      have i1 : (i : Int) < D.length := by omega
      go_wp2
      refine h1.region_tail 18 (by kernel_rfl) (by kernel_rfl) ?_
      simp only [List.take_succ_cons, List.take_zero, List.drop_succ_cons, List.drop_zero]
      clear z0 z1 z2 z3
      iterate 18
        apply wpQuiet_op
        · exact rfl
        · intro w' hC
          obtain ⟨z0, z1, z2, z3⟩ := hC.box4 0 rfl
          obtain ⟨y0, y1, y2, y3⟩ := hC.box4 3 rfl
          have x0 := (hC.ownCellA 1 rfl (q := i) (by rw [HL.out]; exact hi)).1
          have x1 := hC.roCell 5 rfl (q := i) (by rw [HE.out]; exact hi)
          rw [HX.out] at x0
          rw [Hy.out] at x1
          obtain ⟨q1, q2, q3⟩ := HH.out
          unfold Oper.quietAt
          go_simp
          first | exact rfl | exact ⟨rfl, rfl⟩
        go_simp
      refine wpQuiet_nil (fun wn hC => ?_)
      obtain ⟨y0, f0⟩ := hC.ownCellA 1 rfl (q := i) (by rw [HL.out]; exact hi)
      have h3 := hC.set 1 rfl i ((x + y) % p)
      clear h1 hC
      go_wp2
      go_roundw
      case rel => exact ⟨i + 1, by go_num, by omega, by rw [← HS.out]; exact h3⟩
      case measure => simp [intOf]; omega
    · obtain rfl : i = D.length := by omega
      rw [mixTo_end Hln.out] at h1
      have f0 := h1.free 2 rfl 0
      have f1 := h1.free 2 rfl 1
      have f2 := h1.free 2 rfl 2
      have f3 := h1.free 2 rfl 3
      obtain ⟨x0, x1, x2, x3⟩ := h1.box4 2 rfl
      have h2 := (((h1.setBox 2 rfl 0 (.int .i64 p)).setBox 2 rfl 1 (.int .i64 r)).setBox 2 rfl 2 (.int .i64 c)).setBox 2 rfl 3 (.slice A5 D.length c5)
      obtain ⟨r0, r1, r2, r3⟩ := h2.box4 2 rfl
      go_wp2
      refine bodyPost_ret (v := .agg #[.int .i64 p, .int .i64 r, .int .i64 c, .slice A5 D.length c5]) (by simp [results, Try.results91, go_sem, r0, r1, r2, r3]) rfl ⟨_, rfl, h2.own 1 rfl, h2.below⟩

set_option maxHeartbeats 4000000 in
theorem l1Scale_any (p r c k : Int) (t : Value) (D : List Int) (w : World) (ht : Ints w t D) (hl : D.length ≤ 4194304) (hp : 2 ≤ p) (hp' : p ≤ 10007) (hk : -1000000000000000000 ≤ k) (hk' : k ≤ 1000000000000000000) (rD : resid p D = true) :
    Calls Try.prog 76 #[.agg #[.int .i64 p, .int .i64 r, .int .i64 c, t], .int .i64 k] w (RetMat w p r c (scaleR p (k % p) D)) := by
  have h1 := ((((St.start w).arg ht)).box [.int .i64 p, .int .i64 r, .int .i64 c, t] 40).box [.int .i64 0, .int .i64 0, .int .i64 0, .slice none 0 0] 40
  simp only [World.size_alloc] at h1
  obtain ⟨A, k0, rfl, _, _, _⟩ := id ht
  have HMd := Lib.hid (fun W => l1Mod_any k p W hk hk' (by omega) hp')
  obtain ⟨m, hm⟩ : ∃ m, m = k % p := ⟨_, rfl⟩
  have hmr : 0 ≤ m ∧ m < p := by rw [hm]; exact ⟨Int.emod_nonneg _ (by omega), Int.emod_lt_of_pos _ (by omega)⟩
  rw [← hm] at HMd ⊢
  clear ht hm
  obtain ⟨z0, z1, z2, z3⟩ := h1.box4 1 rfl
  go_enter Try.func76, Try.ntmps76
  go_wp2_with fail
  refine (l1Copy_any p r c _ D _ (h1.roInts 2 rfl) hl).mono ?_
  rintro (e : Ending) w1 ⟨u, rfl, ho, hb1⟩
  obtain ⟨A5, c5, rfl, _, _, _⟩ := id ho.ints
  replace h1 := (h1.pushOwn hb1 ho).box [.int .i64 p, .int .i64 r, .int .i64 c, .slice A5 D.length c5] 40
  clear ho hb1 z0 z1 z2 z3
  go_wp2_with fail
  refine (HMd.out _).mono ?_
  rintro (e : Ending) w2 ⟨rfl, rfl⟩
  go_wp2
  generalize w1.heap.size = B5 at h1 ⊢
  go_loopw [7] (fun v7 wr => ∃ i : Nat, v7 = .int .i64 i ∧ i ≤ D.length ∧ St w wr [.box B5 [.int .i64 p, .int .i64 r, .int .i64 c, .slice A5 D.length c5], .own (.slice A5 D.length c5) (scaleTo p m D i), .box (w.heap.size + 1) [.int .i64 0, .int .i64 0, .int .i64 0, .slice none 0 0], .box w.heap.size [.int .i64 p, .int .i64 r, .int .i64 c, .slice A D.length k0], .ro (.slice A D.length k0) D]) (fun v7 _ => D.length - (intOf v7).toNat)
  case atStart => exact ⟨0, rfl, by omega, by rw [scaleTo_zero]; exact h1⟩
  case round =>
    clear h1
    obtain ⟨i, rfl, a1, h1⟩ := hrel
    obtain ⟨z0, z1, z2, z3⟩ := h1.box4 0 rfl
    by_cases hi : i < D.length
    · have HL := Lib.hid (length_scaleTo p m D i a1)
      obtain ⟨g, rfl, hn9⟩ := h1.ownSomeA 1 rfl (by rw [HL.out]; omega)
      have hX := vec_scaleTo (p := p) (k := m) (l := D) (j := i) (i := i) a1 hi
      rw [if_neg (Nat.lt_irrefl i)] at hX
      obtain ⟨x, hx⟩ : ∃ x, x = vec D i := ⟨_, rfl⟩
      have hxr := resid_vec rD (i := i) hi
      have hS := scaleTo_set p m D i hi
      rw [← hx] at hxr hX hS
      have HX := Lib.hid hX
      have HS := Lib.hid hS
      have hsum := mul_range (k := x) (y := m) (p := p) (by omega) (by omega) (by omega) (by omega) (by omega)
      have HH := Lib.hid (show _ ∧ _ ∧ _ from ⟨wrap_ok (x := x * m) (by omega) (by omega), rem_ok (x := x * m) (p := p) (by omega), (show ¬ p = 0 by omega)⟩)
      clear hn9 hx hX hS
      have i1 : (i : Int) < D.length := by omega
      go_wp2
      refine h1.region_tail 14 (by kernel_rfl) (by kernel_rfl) ?_
      simp only [List.take_succ_cons, List.take_zero, List.drop_succ_cons, List.drop_zero]
      clear z0 z1 z2 z3
      iterate 14
        apply wpQuiet_op
        · exact rfl
        · intro w' hC
          obtain ⟨z0, z1, z2, z3⟩ := hC.box4 0 rfl
          have x0 := (hC.ownCellA 1 rfl (q := i) (by rw [HL.out]; exact hi)).1
          rw [HX.out] at x0
          obtain ⟨q1, q2, q3⟩ := HH.out
          unfold Oper.quietAt
          go_simp
          first | exact rfl | exact ⟨rfl, rfl⟩
        go_simp
      refine wpQuiet_nil (fun wn hC => ?_)
      obtain ⟨y0, f0⟩ := hC.ownCellA 1 rfl (q := i) (by rw [HL.out]; exact hi)
      have h3 := hC.set 1 rfl i (x * m % p)
      clear h1 hC
      go_wp2
      go_roundw
      case rel => exact ⟨i + 1, by go_num, by omega, by rw [← HS.out]; exact h3⟩
      case measure => simp [intOf]; omega
    · obtain rfl : i = D.length := by omega
      rw [scaleTo_end] at h1
      have f0 := h1.free 2 rfl 0
      have f1 := h1.free 2 rfl 1
      have f2 := h1.free 2 rfl 2
      have f3 := h1.free 2 rfl 3
      obtain ⟨x0, x1, x2, x3⟩ := h1.box4 2 rfl
      have h2 := (((h1.setBox 2 rfl 0 (.int .i64 p)).setBox 2 rfl 1 (.int .i64 r)).setBox 2 rfl 2 (.int .i64 c)).setBox 2 rfl 3 (.slice A5 D.length c5)
      obtain ⟨r0, r1, r2, r3⟩ := h2.box4 2 rfl
      go_wp2
      refine bodyPost_ret (v := .agg #[.int .i64 p, .int .i64 r, .int .i64 c, .slice A5 D.length c5]) (by simp [results, Try.results76, go_sem, r0, r1, r2, r3]) rfl ⟨_, rfl, by have := h2.own 1 rfl; exact this, h2.below⟩
end
section
open Go.RowKit

theorem St.swap2 {w0 w : World} {x y : It} {L : List It} (h : St w0 w (x :: y :: L)) : St w0 w (y :: x :: L) := by
  have key : ∀ (i : Nat) (z : It), (y :: x :: L)[i]? = some z → ∃ k, (x :: y :: L)[k]? = some z ∧ (i = 0 ∧ k = 1 ∨ i = 1 ∧ k = 0 ∨ 2 ≤ i ∧ k = i) := fun i z hz => by
    match i, hz with
    | 0, hz => exact ⟨1, hz, .inl ⟨rfl, rfl⟩⟩
    | 1, hz => exact ⟨0, hz, .inr (.inl ⟨rfl, rfl⟩)⟩
    | i + 2, hz => exact ⟨i + 2, hz, .inr (.inr ⟨by omega, rfl⟩)⟩
  refine ⟨h.below, fun z hz => h.ok z (by simp only [List.mem_cons] at hz ⊢; rcases hz with e | e | e <;> simp [e]), fun i j a b ha hb c h1 h2 => ?_, fun z hz => h.nodup z (by simp only [List.mem_cons] at hz ⊢; rcases hz with e | e | e <;> simp [e])⟩
  obtain ⟨k, hk, ek⟩ := key i a ha
  obtain ⟨l, hl, el⟩ := key j b hb
  have := h.apart k l a b hk hl c h1 h2
  omega

set_option maxHeartbeats 4000000 in
theorem plus_any (p q r c r' c' k : Int) (t s : Value) (D E : List Int) (w : World) (ht : Ints w t D) (hs : Ints w s E) (hl : D.length ≤ 4194304) (hE : E.length = D.length) (hp : 2 ≤ p) (hp' : p ≤ 10007) (hk : 0 ≤ k) (hk' : k ≤ p) (rD : resid p D = true) (rE : resid p E = true) :
    Calls Try.prog 96 #[.agg #[.int .i64 p, .int .i64 r, .int .i64 c, t], .int .i64 k, .agg #[.int .i64 q, .int .i64 r', .int .i64 c', s]] w (RetMat w p r c (addL D k E p)) := by
  have h1 := (((((St.start w).arg ht).arg hs).box [.int .i64 p, .int .i64 r, .int .i64 c, t] 40).box [.int .i64 q, .int .i64 r', .int .i64 c', s] 40).box [.int .i64 0, .int .i64 0, .int .i64 0, .slice none 0 0] 40
  simp only [World.size_alloc] at h1
  obtain ⟨A, k0, rfl, _, _, _⟩ := id ht
  obtain ⟨A2, k2, rfl, _, _, _⟩ := id hs
  have HE := Lib.hid hE
  have Hln := Lib.hid (length_addL D k E p hE)
  have HC := Lib.hid (fun W (hi : Ints W (.slice A D.length k0) D) => Clone_any _ D W hi (by omega))
  clear ht hs hE
  go_enter Try.func96, Try.ntmps96
  go_upto_region 1 with fail
  generalize hW0 : (((w.alloc (.cells #[.int .i64 p, .int .i64 r, .int .i64 c, .slice A D.length k0] 40)).alloc (.cells #[.int .i64 q, .int .i64 r', .int .i64 c', .slice A2 E.length k2] 40)).alloc (.cells #[.int .i64 0, .int .i64 0, .int .i64 0, .slice none 0 0] 40)) = W0 at h1 ⊢
  clear hW0
  obtain ⟨z0, z1, z2, z3⟩ := h1.box4 2 rfl
  have l0 := (h1.boxLt 2 rfl).2
  have l1 := (h1.boxLt 1 rfl).2
  have n1 : W0.heap.size ≠ w.heap.size := by omega
  have n2 : W0.heap.size ≠ w.heap.size + 1 := by omega
  go_cut [7] (fun s7 wx => ∃ (bx : Nat) (A7 : Option Addr) (c7 : Nat), s7 = .pointer (some ⟨bx, 0, none⟩) ∧ St w wx [.box bx [.int .i64 p, .int .i64 r, .int .i64 c, .slice A7 D.length c7], .own (.slice A7 D.length c7) D, .box (w.heap.size + 1 + 1) [.int .i64 0, .int .i64 0, .int .i64 0, .slice none 0 0], .box (w.heap.size + 1) [.int .i64 q, .int .i64 r', .int .i64 c', .slice A2 E.length k2], .box w.heap.size [.int .i64 p, .int .i64 r, .int .i64 c, .slice A D.length k0], .ro (.slice A2 E.length k2) E, .ro (.slice A D.length k0) D])
  case first =>
    go_region_held3 (fun w' => w'.cell? ⟨w.heap.size, 0, none⟩ = some (.int .i64 p) ∧ w'.cell? ⟨w.heap.size, 1, none⟩ = some (.int .i64 r) ∧ w'.cell? ⟨w.heap.size, 2, none⟩ = some (.int .i64 c) ∧ w'.cell? ⟨w.heap.size, 3, none⟩ = some (.slice A D.length k0))
      (first | exact ⟨z0, z1, z2, z3⟩ | exact ⟨y0, y1, y2, y3⟩ | go_keep)
      (first
        | (go_at_call 67; refine (HC.out _ ?_).mono ?_; exact h1.drew.roInts 4 rfl; rintro (e : Ending) w1 ⟨u, rfl, ho, hb1⟩; obtain ⟨A7, c7, rfl, _, _, _⟩ := id ho.ints; have h2 := h1.drew.pushOwn hb1 ho; obtain ⟨y0, y1, y2, y3⟩ := h2.box4 3 rfl)
        | (go_at_call 67; refine (HC.out _ ?_).mono ?_; exact (h1.drew.box [.int .i64 0, .int .i64 0, .int .i64 0, .slice none 0 0] 40).roInts 5 rfl; rintro (e : Ending) w1 ⟨u, rfl, ho, hb1⟩; obtain ⟨A7, c7, rfl, _, _, _⟩ := id ho.ints; have h2 := (h1.drew.box [.int .i64 0, .int .i64 0, .int .i64 0, .slice none 0 0] 40).pushOwn hb1 ho; (try simp only [World.drew] at h2); obtain ⟨y0, y1, y2, y3⟩ := h2.box4 4 rfl; obtain ⟨e0, e1, e2, e3⟩ := h2.box4 1 rfl; have f0 := h2.free 1 rfl 0; have f1 := h2.free 1 rfl 1; have f2 := h2.free 1 rfl 2; have f3 := h2.free 1 rfl 3))
    all_goals
      go_wp2_with fail
      go_meet
      first
      | exact ⟨_, _, _, rfl, h2.box [.int .i64 p, .int .i64 r, .int .i64 c, .slice A7 D.length c7] 40⟩
      | exact ⟨_, _, _, rfl, St.swap2 ((((h2.setBox 1 rfl 0 (.int .i64 p)).setBox 1 rfl 1 (.int .i64 r)).setBox 1 rfl 2 (.int .i64 c)).setBox 1 rfl 3 (.slice A7 D.length c7))⟩
  case rest =>
  clear h1 z0 z1 z2 z3
  obtain ⟨bx, A7, c7, rfl, h1⟩ := hcut
  obtain ⟨z0, z1, z2, z3⟩ := h1.box4 0 rfl
  obtain ⟨y0, y1, y2, y3⟩ := h1.box4 3 rfl
  obtain ⟨x0, x1, x2, x3⟩ := h1.box4 4 rfl
  go_wp2_with fail
  refine (addTo_any _ _ D E k p w.heap.size _ (h1.own 1 rfl) (h1.roInts 5 rfl) (fun h g hg e => ?_) HE.out (by omega) hp hp' hk hk' rD rE).mono ?_
  · obtain ⟨b, off, c, he, hbb⟩ := (h1.ro 5 rfl).2 h
    have := ((h1.own 1 rfl).lt g hg).1
    rw [he] at e
    simp [Value.ownBlock] at e
    omega
  rintro (e : Ending) w3 ⟨rfl, ho, hg⟩
  have h2 := h1.wrote 1 rfl ho hg
  clear h1 ho hg z0 z1 z2 z3 y0 y1 y2 y3 x0 x1 x2 x3
  obtain ⟨z0, z1, z2, z3⟩ := h2.box4 0 rfl
  have f0 := h2.free 2 rfl 0
  have f1 := h2.free 2 rfl 1
  have f2 := h2.free 2 rfl 2
  have f3 := h2.free 2 rfl 3
  obtain ⟨x0, x1, x2, x3⟩ := h2.box4 2 rfl
  have h3 := (((h2.setBox 2 rfl 0 (.int .i64 p)).setBox 2 rfl 1 (.int .i64 r)).setBox 2 rfl 2 (.int .i64 c)).setBox 2 rfl 3 (.slice A7 D.length c7)
  obtain ⟨r0, r1, r2, r3⟩ := h3.box4 2 rfl
  go_wp2
  refine bodyPost_ret (v := .agg #[.int .i64 p, .int .i64 r, .int .i64 c, .slice A7 D.length c7]) (by simp [results, Try.results96, go_sem, r0, r1, r2, r3]) rfl ⟨_, rfl, h3.own 1 rfl, h3.below⟩
end
section
open Go.RowKit

theorem l10Size_any (v : Value) (m : Mt) (ms : List Mt) (w : World) (h : MatsR w v (m :: ms)) : Calls Try.prog 82 #[v] w fun e w' => e = .returned (.int .i64 m.r) ∧ w = w' := by
  obtain ⟨A, c, rfl, hc, hc', _⟩ := id h
  obtain ⟨b, off, A9, c9, rfl, z0, z1, z2, z3, _⟩ := h.at (i := 0) (by simp)
  clear h
  simp only [List.getElem_cons_zero, Nat.zero_mul, Nat.add_zero] at z0 z1 z2 z3
  have i1 : (0 : Int) < ((m :: ms).length : Nat) := by simp
  go_enter Try.func82, Try.ntmps82
  go_wp2
  go_ret
  exact ⟨rfl, rfl⟩

/-- The sum of the first i matrices, each times its number, number by number. -/
def sumMTo (p : Int) (n : Nat) (K : List Int) (Ms : List (List Int)) : Nat → List Int
  | 0 => List.replicate n 0
  | i + 1 => if vec K i = 0 then sumMTo p n K Ms i else addL (sumMTo p n K Ms i) (vec K i) (rowOf Ms i) p
theorem sumMTo_ok {p : Int} (hp : 2 ≤ p) {n : Nat} {K : List Int} {Ms : List (List Int)} (hM : ∀ i, i < Ms.length → (rowOf Ms i).length = n) : ∀ i, i ≤ Ms.length → (sumMTo p n K Ms i).length = n ∧ resid p (sumMTo p n K Ms i) = true
  | 0, _ => ⟨by simp [sumMTo], resid_iff.2 fun j hj => by
      rw [sumMTo] at *
      have : vec (List.replicate n 0) j = 0 := by simp [vec, List.getD_eq_getElem?_getD, List.getElem?_replicate]; split <;> rfl
      rw [this]; omega⟩
  | i + 1, h => by
    obtain ⟨h1, h2⟩ := sumMTo_ok hp hM i (by omega)
    rw [sumMTo]
    split
    · exact ⟨h1, h2⟩
    · exact ⟨by rw [length_addL _ _ _ _ (by rw [hM i (by omega), h1])]; exact h1, resid_addL _ _ _ _ (by omega)⟩
/-- The reference scales first, then adds. -/
theorem addL_scale {p k : Int} (_hp : 0 < p) {D E : List Int} (h : E.length = D.length) : addL D 1 (scaleR p (k % p) E) p = addL D k E p := by
  refine list_ext (by rw [length_addL _ _ _ _ (by rw [length_scaleR]; exact h), length_addL _ _ _ _ h]) fun i hi => ?_
  rw [length_addL _ _ _ _ (by rw [length_scaleR]; exact h)] at hi
  rw [vec_addLq (by rw [length_scaleR]; exact h) hi, vec_addLq h hi, vec_scaleR (by omega), Int.one_mul]
  rw [Int.add_emod, Int.emod_emod_of_dvd _ (Int.dvd_refl p), Int.mul_emod, Int.emod_emod_of_dvd _ (Int.dvd_refl p), ← Int.mul_emod, ← Int.add_emod, Int.mul_comm]
end
section
open Go.RowKit

set_option maxHeartbeats 8000000 in
theorem l10Sum_any (p : Int) (n s : Nat) (t v x : Value) (T K : List Int) (m0 : Mt) (ms : List Mt) (w : World) (ht : Ints w t T) (hv : MatsR w v (m0 :: ms)) (hx : Ints w x K) (hn : (m0 :: ms).length = n) (hK : K.length = n) (hn' : n ≤ 28) (hs : s ≤ 40)
    (hM : ∀ i (h : i < (m0 :: ms).length), ((m0 :: ms)[i]).p = p ∧ ((m0 :: ms)[i]).r = s ∧ ((m0 :: ms)[i]).c = s ∧ ((m0 :: ms)[i]).d.length = s * s ∧ resid p ((m0 :: ms)[i]).d = true) (hp : 2 ≤ p) (hp' : p ≤ 10007) (rK : resid p K = true) :
    Calls Try.prog 116 #[.agg #[.int .i64 p, .int .i64 n, t], v, x] w (RetMat w p s s (sumMTo p (s * s) K ((m0 :: ms).map Mt.d) n)) := by
  have h1 := (((((St.start w).arg ht).arg hx).pushFact hv.fact).box [.int .i64 p, .int .i64 n, t] 33).box [.int .i64 0, .int .i64 0, .int .i64 0, .slice none 0 0] 40
  simp only [World.size_alloc] at h1
  obtain ⟨A, k, rfl, _, _, _⟩ := id ht
  obtain ⟨A1, k1, rfl, _, _, _⟩ := id hx
  obtain ⟨A2, k2, rfl, _, _, _⟩ := id hv
  have hss := mul_le hs hs
  obtain ⟨_, hr0, _⟩ := hM 0 (by simp)
  simp only [List.getElem_cons_zero] at hr0
  have HS := Lib.hid (show ∀ W, MatsR W (.slice A2 (m0 :: ms).length k2) (m0 :: ms) → Calls Try.prog 82 #[.slice A2 (m0 :: ms).length k2] W (fun e w' => e = .returned (.int .i64 (s : Int)) ∧ W = w') from fun W hi => by have := l10Size_any _ m0 ms W hi; rwa [hr0] at this)
  have HZ := Lib.hid (fun W => l1Zero_any p s s W (by omega))
  have HN := Lib.hid hn
  have HV := Lib.hid hv
  have HKl := Lib.hid hK
  have HM := Lib.hid hM
  clear ht hx hv hM hn hK
  have tk1 : True := trivial
  go_enter Try.func116, Try.ntmps116
  go_upto_region 1 with fail
  generalize hW0 : ((w.alloc (.cells #[.int .i64 p, .int .i64 n, .slice A T.length k] 33)).alloc (.cells #[.int .i64 0, .int .i64 0, .int .i64 0, .slice none 0 0] 40)) = W0 at h1 ⊢
  clear hW0
  obtain ⟨z0, z1, z2⟩ := h1.box3 1 rfl
  have l0 := (h1.boxLt 1 rfl).2
  have n1 : W0.heap.size ≠ w.heap.size := by omega
  go_cut [7] (fun s7 wx => ∃ (bx : Nat) (A7 : Option Addr) (c7 : Nat), s7 = .pointer (some ⟨bx, 0, none⟩) ∧ St w wx [.box bx [.int .i64 p, .int .i64 s, .int .i64 s, .slice A7 (s * s) c7], .own (.slice A7 (s * s) c7) (List.replicate (s * s) 0), .box (w.heap.size + 1) [.int .i64 0, .int .i64 0, .int .i64 0, .slice none 0 0], .box w.heap.size [.int .i64 p, .int .i64 n, .slice A T.length k], .fact (fun w' => MatsR w' (.slice A2 (m0 :: ms).length k2) (m0 :: ms)), .ro (.slice A1 K.length k1) K, .ro (.slice A T.length k) T])
  case first =>
    go_region_held3 (fun w' => w'.cell? ⟨w.heap.size, 0, none⟩ = some (.int .i64 p))
      (first | with_reducible exact z0 | with_reducible exact y0 | go_keep)
      (first
        | (go_at_call 82; have _t := tk1; refine (HS.out _ ?_).mono ?_; (first | with_reducible exact h1.drew.fact 2 rfl | exact (h1.box [.int .i64 0, .int .i64 0, .int .i64 0, .slice none 0 0] 40).drew.fact 3 rfl); rintro (e : Ending) wa ⟨rfl, rfl⟩; clear tk1 _t)
        | (go_at_call 82; refine (HS.out _ ?_).mono ?_; (first | with_reducible exact h1.drew.fact 2 rfl | exact (h1.box [.int .i64 0, .int .i64 0, .int .i64 0, .slice none 0 0] 40).drew.fact 3 rfl); rintro (e : Ending) wa ⟨rfl, rfl⟩)
        | (go_at_call 52; refine (HZ.out _).mono ?_; rintro (e : Ending) w1 ⟨u, rfl, ho, hb1⟩; obtain ⟨A7, c7, rfl, _, _, _⟩ := id ho.ints; rw [List.length_replicate] at ho ⊢; (first | (with_reducible have h2 := h1.drew.pushOwn hb1 ho) | (have h2 := (h1.box [.int .i64 0, .int .i64 0, .int .i64 0, .slice none 0 0] 40).drew.pushOwn hb1 ho)); (first | (obtain ⟨y0, _, _⟩ := h2.box3 3 rfl; obtain ⟨e0, e1, e2, e3⟩ := h2.box4 1 rfl; have f0 := h2.free 1 rfl 0; have f1 := h2.free 1 rfl 1; have f2 := h2.free 1 rfl 2; have f3 := h2.free 1 rfl 3) | (obtain ⟨y0, _, _⟩ := h2.box3 2 rfl)))
        )
    all_goals
      go_wp2_with fail
      go_meet
      first
      | exact ⟨_, _, _, rfl, h2.box [.int .i64 p, .int .i64 s, .int .i64 s, .slice A7 (s * s) c7] 40⟩
      | exact ⟨_, _, _, rfl, St.swap2 ((((h2.setBox 1 rfl 0 (.int .i64 p)).setBox 1 rfl 1 (.int .i64 s)).setBox 1 rfl 2 (.int .i64 s)).setBox 1 rfl 3 (.slice A7 (s * s) c7))⟩
  case rest =>
  clear h1 z0 z1 z2 n1 l0
  obtain ⟨bx, A7, c7, rfl, h1⟩ := hcut
  obtain ⟨Ms, hMs⟩ : ∃ Ms, Ms = (m0 :: ms).map Mt.d := ⟨_, rfl⟩
  obtain ⟨R, hR⟩ : ∃ R, R = sumMTo p (s * s) K ((m0 :: ms).map Mt.d) n := ⟨_, rfl⟩
  have hMr : ∀ i (hi : i < (m0 :: ms).length), rowOf Ms i = ((m0 :: ms)[i]).d := fun i hi => by
    rw [hMs, ← rowOf_eq (by simpa using hi), List.getElem_map]
  have hMl : Ms.length = n := by rw [hMs, List.length_map]; exact HN.out
  have HMr := Lib.hid hMr
  have HMl := Lib.hid hMl
  have HOk := Lib.hid (sumMTo_ok (p := p) hp (n := s * s) (K := K) (Ms := Ms) (fun i hi => by rw [hMr i (by rw [HN.out, ← hMl]; exact hi)]; exact (HM.out i (by rw [HN.out, ← hMl]; exact hi)).2.2.2.1))
  have HRf := Lib.hid (show sumMTo p (s * s) K ((m0 :: ms).map Mt.d) n = sumMTo p (s * s) K Ms n by rw [hMs])
  clear hMs hMr hMl hR
  go_wp2
  go_loopw [8] (fun v8 wr => ∃ (i : Nat) (A7 : Option Addr) (c7 : Nat), v8 = .int .i64 i ∧ i ≤ n ∧ St w wr [.box bx [.int .i64 p, .int .i64 s, .int .i64 s, .slice A7 (s * s) c7], .own (.slice A7 (s * s) c7) (sumMTo p (s * s) K Ms i), .box (w.heap.size + 1) [.int .i64 0, .int .i64 0, .int .i64 0, .slice none 0 0], .box w.heap.size [.int .i64 p, .int .i64 n, .slice A T.length k], .fact (fun w' => MatsR w' (.slice A2 (m0 :: ms).length k2) (m0 :: ms)), .ro (.slice A1 K.length k1) K, .ro (.slice A T.length k) T]) (fun v8 _ => n - (intOf v8).toNat)
  case atStart => exact ⟨0, A7, c7, rfl, by omega, h1⟩
  case round =>
    clear h1 A7 c7
    obtain ⟨i, A7, c7, rfl, a1, h1⟩ := hrel
    obtain ⟨z0, z1, z2⟩ := h1.box3 3 rfl
    by_cases hi : i < n
    · obtain ⟨kb, koff, rfl⟩ := h1.roSome 5 rfl (by rw [HKl.out]; omega)
      have y0 := h1.roCell 5 rfl (q := i) (by rw [HKl.out]; exact hi)
      have hkr := resid_vec rK (i := i) (by rw [HKl.out]; exact hi)
      obtain ⟨x, hx⟩ : ∃ x, x = vec K i := ⟨_, rfl⟩
      have hS : sumMTo p (s * s) K Ms (i + 1) = if x = 0 then sumMTo p (s * s) K Ms i else addL (sumMTo p (s * s) K Ms i) x (rowOf Ms i) p := by rw [hx]; rfl
      rw [← hx] at y0 hkr
      have Hx := Lib.hid hx.symm
      have iK : (i : Int) < K.length := by rw [HKl.out]; omega
      clear hx
      by_cases hx0 : x = 0
      · rw [if_pos hx0] at hS
        have HS2 := Lib.hid hS
        have t1 : (x != 0) = false := by simp [hx0]
        clear hx0 hS
        go_wp2
        go_roundw
        case rel => exact ⟨i + 1, A7, c7, by go_num, by omega, by rw [HS2.out]; exact h1⟩
        case measure => simp [intOf]; omega
      · rw [if_neg hx0] at hS
        have t1 : (x != 0) = true := by simp [hx0]
        have him : i < (m0 :: ms).length := by rw [HN.out]; exact hi
        obtain ⟨g1, g2, g3, g4, g5⟩ := HM.out i him
        rw [HMr.out i him] at hS
        obtain ⟨b, off, A9, c9, rfl, hm⟩ := HV.out.at (i := i) him
        obtain ⟨Di, hDi⟩ : ∃ Di, Di = ((m0 :: ms)[i]).d := ⟨_, rfl⟩
        unfold MtAt at hm
        rw [g1, g2, g3] at hm
        rw [← hDi] at hm g4 g5 hS
        have h2 := h1.pushOld (R := fun w' => w'.cell? ⟨b, off + i * 4, none⟩ = some (.int .i64 p) ∧ w'.cell? ⟨b, off + i * 4 + 1, none⟩ = some (.int .i64 s) ∧ w'.cell? ⟨b, off + i * 4 + 2, none⟩ = some (.int .i64 s) ∧ w'.cell? ⟨b, off + i * 4 + 3, none⟩ = some (.slice A9 Di.length c9) ∧ Ints w' (.slice A9 Di.length c9) Di) (fun w' hk => by
          obtain ⟨k0, k1, k2, k3, k4⟩ := hm
          have kk : ∀ {o : Nat} {x : Value}, w.cell? ⟨b, o, none⟩ = some x → w'.cell? ⟨b, o, none⟩ = some x := fun h => (World.cell?_of_block (hk _ (World.block_lt_of_cell? w _ h))).trans h
          exact ⟨kk k0, kk k1, kk k2, kk k3, k4.keep fun q hq => World.cell?_of_block (hk _ hq)⟩)
        have HDl := Lib.hid g4
        have HDr := Lib.hid g5
        obtain ⟨o1, o2⟩ := HOk.out i (by rw [HMl.out]; omega)
        have HO1 := Lib.hid o1
        have HO2 := Lib.hid o2
        have HS2 := Lib.hid hS
        have iM : (i : Int) < ((m0 :: ms).length : Nat) := by omega
        have HSc := Lib.hid (fun W (hi : Ints W (.slice A9 Di.length c9) Di) => l1Scale_any p s s x _ Di W hi (by rw [g4]; omega) hp hp' (by omega) (by omega) g5)
        clear g1 g2 g3 g4 g5 hm hDi o1 o2 hS h1 z0 z1 z2 y0 hx0
        obtain ⟨q0, q1, q2, q3, q4⟩ := h2.fact 0 rfl
        obtain ⟨b0, b1, b2, b3⟩ := h2.box4 1 rfl
        have y0 := h2.roCell 6 rfl (q := i) (by rw [HKl.out]; exact hi)
        rw [Hx.out] at y0
        obtain ⟨z0, z1, z2⟩ := h2.box3 4 rfl
        have HO3 := Lib.hid (HOk.out (i + 1) (by rw [HMl.out]; omega)).1
        have HAs := Lib.hid (addL_scale (p := p) (k := x) (by omega) (D := sumMTo p (s * s) K Ms i) (E := Di) (by rw [HDl.out, HO1.out]))
        go_wp2
        have g0 := h2.drew
        have HAd := Lib.hid (show ∀ (W : World) (v1 v2 : Value), Ints W v1 (sumMTo p (s * s) K Ms i) → Ints W v2 (scaleR p (x % p) Di) → Calls Try.prog 91 #[.agg #[.int .i64 p, .int .i64 s, .int .i64 s, v1], .agg #[.int .i64 p, .int .i64 s, .int .i64 s, v2]] W (RetMat W p s s (sumMTo p (s * s) K Ms (i + 1))) from fun W v1 v2 hv1 hv2 => by
          have := l1Add_any p p s s s s v1 v2 (sumMTo p (s * s) K Ms i) (scaleR p (x % p) Di) W hv1 hv2 (by rw [HO1.out]; omega) (by rw [length_scaleR, HDl.out, HO1.out]) hp hp' HO2.out (resid_scaleR (by omega) _ _)
          rwa [HAs.out, ← HS2.out] at this)
        have iM2 : (i : Int) < (ms.length : Int) + 1 := by have := iM; rw [List.length_cons] at this; omega
        have hik : i < K.length := by rw [HKl.out]; exact hi
        have HF := Lib.hid (fun (W : World) (b1 : Nat) (h : W.cell? ⟨kb, koff + i, none⟩ = some (.int .i64 (vec K i))) => (show W.cell? ⟨kb, koff + i, none⟩ = some (.int .i64 x) by rw [← Hx.out]; exact h))
        refine wp_region_cut (S := fun w' => (w'.cell? ⟨bx, 0, none⟩ = some (.int .i64 p) ∧ w'.cell? ⟨bx, 1, none⟩ = some (.int .i64 s) ∧ w'.cell? ⟨bx, 2, none⟩ = some (.int .i64 s) ∧ w'.cell? ⟨bx, 3, none⟩ = some (.slice A7 (s * s) c7)) ∧ (w'.cell? ⟨b, off + i * 4, none⟩ = some (.int .i64 p) ∧ w'.cell? ⟨b, off + i * 4 + 1, none⟩ = some (.int .i64 s) ∧ w'.cell? ⟨b, off + i * 4 + 2, none⟩ = some (.int .i64 s) ∧ w'.cell? ⟨b, off + i * 4 + 3, none⟩ = some (.slice A9 Di.length c9)) ∧ w'.cell? ⟨kb, koff + i, none⟩ = some (.int .i64 x)) 11 (by kernel_rfl) (by kernel_rfl) ⟨g0.box4 1 rfl, ⟨(g0.fact 0 rfl).1, (g0.fact 0 rfl).2.1, (g0.fact 0 rfl).2.2.1, (g0.fact 0 rfl).2.2.2.1⟩, HF.out _ 0 (g0.roCell 6 rfl hik)⟩ (fun hHeld => ?_)
        simp only [List.take_succ_cons, List.take_zero]
        clear q0 q1 q2 q3 q4 b0 b1 b2 b3 y0 z0 z1 z2
        refine anyH_take (v := ?_) 0 rfl (by kernel_rfl) (by kernel_rfl) (by kernel_rfl) (fun _ _ _ h => h) rfl ?_ hHeld ?_
        rotate_left
        · intro w' hSw
          go_simp
          try with_reducible rfl
        try simp only [Act.put, List.setIfInBounds_toArray, List.set_cons_zero, List.set_cons_succ]
        refine anyH_take (v := ?_) 1 rfl (by kernel_rfl) (by kernel_rfl) (by kernel_rfl) (fun _ _ _ h => h) rfl ?_ hHeld ?_
        rotate_left
        · intro w' hSw
          go_simp
          try with_reducible rfl
        try simp only [Act.put, List.setIfInBounds_toArray, List.set_cons_zero, List.set_cons_succ]
        refine anyH_take (v := ?_) 2 rfl (by kernel_rfl) (by kernel_rfl) (by kernel_rfl) (fun _ _ _ h => h) rfl ?_ hHeld ?_
        rotate_left
        · intro w' hSw
          go_simp
          try with_reducible rfl
        try simp only [Act.put, List.setIfInBounds_toArray, List.set_cons_zero, List.set_cons_succ]
        refine anyH_take (v := ?_) 3 rfl (by kernel_rfl) (by kernel_rfl) (by kernel_rfl) (fun _ _ _ h => h) rfl ?_ hHeld ?_
        rotate_left
        · intro w' hSw
          go_simp
          try with_reducible rfl
        try simp only [Act.put, List.setIfInBounds_toArray, List.set_cons_zero, List.set_cons_succ]
        refine anyH_take (v := ?_) 4 rfl (by kernel_rfl) (by kernel_rfl) (by kernel_rfl) (fun _ _ _ h => h) rfl ?_ hHeld ?_
        rotate_left
        · intro w' hSw
          go_simp
          try with_reducible rfl
        try simp only [Act.put, List.setIfInBounds_toArray, List.set_cons_zero, List.set_cons_succ]
        refine anyH_take (v := ?_) 5 rfl (by kernel_rfl) (by kernel_rfl) (by kernel_rfl) (fun _ _ _ h => h) rfl ?_ hHeld ?_
        rotate_left
        · intro w' hSw
          go_simp
          try with_reducible rfl
        try simp only [Act.put, List.setIfInBounds_toArray, List.set_cons_zero, List.set_cons_succ]
        refine anyH_take (v := ?_) 6 rfl (by kernel_rfl) (by kernel_rfl) (by kernel_rfl) (fun _ _ _ h => h) rfl ?_ hHeld ?_
        rotate_left
        · intro w' hSw
          go_simp
          try with_reducible rfl
        try simp only [Act.put, List.setIfInBounds_toArray, List.set_cons_zero, List.set_cons_succ]
        refine anyH_take (v := ?_) 7 rfl (by kernel_rfl) (by kernel_rfl) (by kernel_rfl) (fun _ _ _ h => h) rfl ?_ hHeld ?_
        rotate_left
        · intro w' hSw
          go_simp
          try with_reducible rfl
        try simp only [Act.put, List.setIfInBounds_toArray, List.set_cons_zero, List.set_cons_succ]
        refine anyH_take (v := ?_) 8 rfl (by kernel_rfl) (by kernel_rfl) (by kernel_rfl) (fun _ _ _ h => h) rfl ?_ hHeld ?_
        rotate_left
        · intro w' hSw
          go_simp
          try with_reducible rfl
        try simp only [Act.put, List.setIfInBounds_toArray, List.set_cons_zero, List.set_cons_succ]
        refine wpAnyH_ready (rs := [9]) (by kernel_rfl) (by simp) ?_
        refine ready_cons rfl (fun K hK => ?_) AllReadyH.nil
        go_simp
        refine (HSc.out _ (g0.fact 0 rfl).2.2.2.2).mono ?_
        rintro (e : Ending) w2 ⟨u, rfl, ho2, hb2⟩
        obtain ⟨A3, n3, c3, rfl⟩ := ho2.slice
        have h3 := g0.pushOwn hb2 ho2
        show K _ _
        refine hK.out _ _ ?_ (fun hHeld => ?_)
        · exact ⟨h3.box4 2 rfl, ⟨(h3.fact 1 rfl).1, (h3.fact 1 rfl).2.1, (h3.fact 1 rfl).2.2.1, (h3.fact 1 rfl).2.2.2.1⟩, HF.out _ 0 (h3.roCell 7 rfl hik)⟩
        clear hK K
        try simp only [Act.put, List.setIfInBounds_toArray, List.set_cons_zero, List.set_cons_succ]
        refine wpAnyH_ready (rs := [10]) (by kernel_rfl) (by simp) ?_
        refine ready_cons rfl (fun K hK => ?_) AllReadyH.nil
        go_simp
        refine (HAd.out _ _ _ (h3.ownInts 3 rfl) (h3.ownInts 0 rfl)).mono ?_
        rintro (e : Ending) w3 ⟨u3, rfl, ho3, hb3⟩
        obtain ⟨A4, c4, rfl, _, _, _⟩ := id ho3.ints
        rw [HO3.out] at ho3 ⊢
        have h4 := h3.pushOwn hb3 ho3
        show K _ _
        refine hK.out _ _ ?_ (fun hHeld => ?_)
        · exact ⟨h4.box4 3 rfl, ⟨(h4.fact 2 rfl).1, (h4.fact 2 rfl).2.1, (h4.fact 2 rfl).2.2.1, (h4.fact 2 rfl).2.2.2.1⟩, HF.out _ 0 (h4.roCell 8 rfl hik)⟩
        clear hK K
        try simp only [Act.put, List.setIfInBounds_toArray, List.set_cons_zero, List.set_cons_succ]
        refine wpAnyH_done (by kernel_rfl) ?_ _
        show wpList _ _ _ _ _ _
        simp only [List.drop_succ_cons, List.drop_zero]
        clear hHeld
        obtain ⟨bb0, bb1, bb2, bb3⟩ := h4.box4 3 rfl
        have f0 := h4.free 3 rfl 0
        have f1 := h4.free 3 rfl 1
        have f2 := h4.free 3 rfl 2
        have f3 := h4.free 3 rfl 3
        have h5 := (((h4.setBox 3 rfl 0 (.int .i64 p)).setBox 3 rfl 1 (.int .i64 s)).setBox 3 rfl 2 (.int .i64 s)).setBox 3 rfl 3 (.slice A4 (s * s) c4)
        go_wp2
        go_roundw
        case rel => exact ⟨i + 1, A4, c4, by go_num, by omega, h5.re [3, 0, 5, 6, 7, 8, 9] (by decide) (fun j => by match j with | 0 => rfl | 1 => rfl | 2 => rfl | 3 => rfl | 4 => rfl | 5 => rfl | 6 => rfl | j + 7 => rfl)⟩
        case measure => simp [intOf]; omega
    · obtain rfl : i = n := by omega
      rw [← HRf.out] at h1
      have f0 := h1.free 2 rfl 0
      have f1 := h1.free 2 rfl 1
      have f2 := h1.free 2 rfl 2
      have f3 := h1.free 2 rfl 3
      obtain ⟨b0, b1, b2, b3⟩ := h1.box4 0 rfl
      obtain ⟨x0, x1, x2, x3⟩ := h1.box4 2 rfl
      have h2 := (((h1.setBox 2 rfl 0 (.int .i64 p)).setBox 2 rfl 1 (.int .i64 s)).setBox 2 rfl 2 (.int .i64 s)).setBox 2 rfl 3 (.slice A7 (s * s) c7)
      obtain ⟨r0, r1, r2, r3⟩ := h2.box4 2 rfl
      go_wp2
      refine bodyPost_ret (v := .agg #[.int .i64 p, .int .i64 s, .int .i64 s, .slice A7 (s * s) c7]) (by simp [results, Try.results116, go_sem, r0, r1, r2, r3]) rfl ⟨_, rfl, h2.own 1 rfl, h2.below⟩
end
end Go.Proofs.Ythiainhhaokjoaa
