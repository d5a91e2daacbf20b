import Derived.Test.YtbnefjhljfbecaaGreatDoorW13
namespace Go.Proofs.YtbnefjhljfbecaaGreatDoor
set_option maxRecDepth 100000
open Go.RowKit
namespace Car
set_option maxHeartbeats 1000000 in
theorem l5Names_any (w : World) : Calls Tryz.prog 73 #[] w fun e w' => ∃ B, e = .returned (.slice (some ⟨B, 0, none⟩) 12 12) ∧ NamesAt w' B ∧ w.heap.size ≤ B ∧ B < w'.heap.size ∧ Below w.heap.size w w' := by
 go_enter Tryz.func73, Tryz.ntmps73
 go_wp2
 go_ret
 refine ⟨w.heap.size, rfl, fun k hk => ?_, Nat.le_refl _, by rw [World.size_alloc]; omega, (Below.refl _ _).alloc (Nat.le_refl _) _⟩
 rw [World.cell?_alloc_new]
 have : k = 0 ∨ k = 1 ∨ k = 2 ∨ k = 3 ∨ k = 4 ∨ k = 5 ∨ k = 6 ∨ k = 7 ∨ k = 8 ∨ k = 9 ∨ k = 10 ∨ k = 11 := by omega
 rcases this with rfl | rfl | rfl | rfl | rfl | rfl | rfl | rfl | rfl | rfl | rfl | rfl <;> rfl
theorem oneE {n : Nat} (hn : n ≤ 4) {i : Nat} (hi : i < n) : wrap64 (wrap64 ((i : Int) * (n : Int)) + (i : Int)) = ((i * n + i : Nat) : Int) ∧ wrap64 (((i * n + i : Nat) : Int) + 1) = ((i * n + (i + 1) : Nat) : Int) ∧ wrap64 (wrap64 (((i : Int) + 1) * (n : Int)) + (i : Int)) = (((i + 1) * n + i : Nat) : Int) := by
 have hb : n * n ≤ 16 := Nat.mul_le_mul hn hn
 have h1 := row_bd (c := n) hi
 have e : ((i * n : Nat) : Int) = (i : Int) * n := Int.natCast_mul _ _
 have e2 : (((i + 1) * n : Nat) : Int) = ((i : Int) + 1) * n := by rw [Int.natCast_mul]; simp
 have e3 : (i + 1) * n = i * n + n := by rw [Nat.succ_mul]
 refine ⟨?_, ?_, ?_⟩
 ·rw [w64_ok (x := (i : Int) * n) (by omega) (by omega), w64_ok (by omega) (by omega)]; omega
 ·rw [w64_ok (by omega) (by omega)]; omega
 ·rw [w64_ok (x := ((i : Int) + 1) * n) (by omega) (by omega), w64_ok (by omega) (by omega)]; omega
def RetOne (w : World) (k : Nat) (e : Ending) (w' : World) : Prop := ∃ v, e = .returned (.agg #[.int .i64 (rk k), v]) ∧ Own w' w.heap.size v (mx k) ∧ Below w.heap.size w w'
def PO (w0 w : World) (g B n N : Nat) (D : List Int) : Prop := St w0 w [.box B [.int .i64 n, .slice (some ⟨g, 0, none⟩) N N], .own (.slice (some ⟨g, 0, none⟩) N N) D, .box w0.heap.size [.int .i64 0, .slice none 0 0]]
theorem PO.set {w0 w : World} {g B n N : Nat} {D : List Int} (h : PO w0 w g B n N D) (q : Nat) (x : Int) : PO w0 (w.setCell ⟨g, q, none⟩ (.int .i64 x)) g B n N (D.set q x) := St.set h 1 rfl q x
theorem PO.cell {w0 w : World} {g B n N : Nat} {D : List Int} (h : PO w0 w g B n N D) {q : Nat} (hq : q < D.length) : (∃ y, w.cell? ⟨g, q, none⟩ = some (.int .i64 y)) ∧ w.frozen? ⟨g, q, none⟩ = false := by
 obtain ⟨h1, h2⟩ := St.ownCell h 1 rfl hq
 exact ⟨⟨_, h1⟩, h2⟩
def dD (D : List Int) : Nat → List Int
 | 0 => D
 | k + 1 => if k = 1 then dD D k else ((dD D k).set (4 + k) (-1)).set (k * 4 + 1) (-1)
theorem dD_len (D : List Int) : ∀ k, (dD D k).length = D.length
 | 0 => rfl
 | k + 1 => by
  unfold dD
  split
  ·exact dD_len D k
  ·rw [List.length_set, List.length_set, dD_len D k]
set_option maxHeartbeats 8000000 in
theorem l5One_any (k : Nat) (w : World) (hk : k < 12) : Calls Tryz.prog 75 #[.string (nmB k)] w (RetOne w k) := by
 have hix := nm_index hk
 have hix0 := nm_first hk
 have hr := rk_pos hk
 obtain ⟨nm, hnm⟩ : ∃ nm, nm = nmB k := ⟨_, rfl⟩
 obtain ⟨n, hn⟩ : ∃ n, n = rk k := ⟨_, rfl⟩
 rw [← hnm] at hix hix0 ⊢
 rw [← hn] at hix hr
 obtain ⟨c0, hc0⟩ : ∃ c0, c0 = fst k := ⟨_, rfl⟩
 rw [← hc0] at hix0
 have wu : IntKind.u8.wrap (48 + (n : Int) - 48) = (n : Int) := by rw [show (48 + (n : Int) - 48) = n by omega]; exact u8_ok (by omega)
 have Hn := Lib.hid hn
 have Hc0 := Lib.hid hc0
 obtain ⟨nn, hnn⟩ : ∃ nn, nn = n * n := ⟨_, rfl⟩
 have hnn16 : nn ≤ 16 := by have := Nat.mul_le_mul hr.2 hr.2; omega
 have wq : wrap64 ((n : Int) * (n : Int)) = (nn : Int) := by rw [← Int.natCast_mul, ← hnn]; exact w64_ok (by omega) (by omega)
 have hmk := makeI nn (by omega)
 have Hnn := Lib.hid hnn
 have h5 := (((St.start w).box [.int .i64 0, .slice none 0 0] 49).zeros nn (by omega)).box [.int .i64 n, .slice (some ⟨w.heap.size + 1, 0, none⟩) nn nn] 49
 simp only [World.size_alloc] at h5
 have e0 : List.replicate nn (0 : Int) = dA n (decide (c0 = 68)) 0 := by rw [hnn]; rfl
 rw [e0] at h5
 have hn1 := hr.1
 have hn4 := hr.2
 have HE := Lib.hid (fun i (hi : i < n) => oneE hn4 hi)
 clear hnm hn hc0 hnn e0 hr
 go_enter Tryz.func75, Tryz.ntmps75
 go_wp2
 clear wq hmk
 go_loopw [5] (fun v5 wr => ∃ i : Nat, v5 = .int .i64 i ∧ i ≤ n ∧ PO w wr (w.heap.size + 1) (w.heap.size + 2) n nn (dA n (decide (c0 = 68)) i)) (fun v5 _ => n - (intOf v5).toNat)
 case atStart => exact ⟨0, rfl, by omega, h5⟩
 case round =>
  clear h5
  obtain ⟨i, rfl, a1, h5⟩ := hrel
  obtain ⟨b0, b1⟩ := St.box2 h5 0 rfl
  by_cases hi : i < n
  ·have ii : (i : Int) < (n : Int) := by omega
   obtain ⟨e1, -, e3⟩ := HE.out i hi
   have hb16 : n * n ≤ 16 := Nat.mul_le_mul hn4 hn4
   have hrow := row_bd (c := n) hi
   obtain ⟨D0, hD0⟩ : ∃ D0, D0 = dA n (decide (c0 = 68)) i := ⟨_, rfl⟩
   have hDl : D0.length = n * n := by rw [hD0]; exact dA_len _ _ _
   obtain ⟨s1, hs1⟩ : ∃ s1, s1 = i * n + i := ⟨_, rfl⟩
   have hs2 : s1 + 1 = i * n + (i + 1) := by omega
   obtain ⟨s3, hs3⟩ : ∃ s3, s3 = (i + 1) * n + i := ⟨_, rfl⟩
   rw [← hD0] at h5
   obtain ⟨⟨y1, pc1⟩, pf1⟩ := PO.cell h5 (q := s1) (by rw [hDl, hs1]; omega)
   have h6 := PO.set h5 s1 2
   obtain ⟨c0', c1'⟩ := St.box2 h6 0 rfl
   have l1 : (s1 : Int) < (nn : Int) := by rw [Hnn.out]; exact Int.ofNat_lt.2 (by rw [hs1]; omega)
   rw [← hs1] at e1
   rw [← hs3] at e3
   by_cases hi2 : i + 1 < n
   ·have ij : (i : Int) + 1 < (n : Int) := by omega
    have hrow2 := row_bd (c := n) hi2
    have l2 : (s1 : Int) + 1 < (nn : Int) := by have := Int.ofNat_lt.2 (show s1 + 1 < n * n by rw [hs2]; omega); rw [Hnn.out]; omega
    have l3 : (s3 : Int) < (nn : Int) := by rw [Hnn.out]; exact Int.ofNat_lt.2 (by rw [hs3]; omega)
    by_cases hc : c0 = 68
    ·have hdA : dA n (decide (c0 = 68)) (i + 1) = D0.set s1 2 := by rw [decide_eq_true hc, dA, if_neg (fun h => by cases h.2), hD0, hs1, decide_eq_true hc]
     have HdA := Lib.hid hdA
     rw [hdA.symm] at h6
     subst hc
     clear hdA hrow hrow2 hb16 hDl hD0 hs1 hs2 hs3 l2 l3 e3
     go_wp2
     go_roundw
     case rel => exact ⟨i + 1, by go_num, by omega, h6⟩
     case measure => simp [intOf]; omega
    ·have hdA : dA n (decide (c0 = 68)) (i + 1) = ((D0.set s1 2).set (s1 + 1) (-1)).set s3 (-1) := by rw [decide_eq_false hc, dA, if_pos ⟨hi2, rfl⟩, hs2, hD0, hs1, hs3, decide_eq_false hc]
     obtain ⟨⟨y2, pc2⟩, pf2⟩ := PO.cell h6 (q := s1 + 1) (by rw [List.length_set, hDl, hs2]; omega)
     have h7 := PO.set h6 (s1 + 1) (-1)
     obtain ⟨d0', d1'⟩ := St.box2 h7 0 rfl
     obtain ⟨⟨y3, pc3⟩, pf3⟩ := PO.cell h7 (q := s3) (by rw [List.length_set, List.length_set, hDl, hs3]; omega)
     have h8 := PO.set h7 s3 (-1)
     rw [← hdA] at h8
     have hc' : ((c0 : Int) != 68) = true := by simp; omega
     clear hdA hrow hrow2 hb16 hDl hD0 hs1 hs2 hs3 hc
     go_wp2
     go_roundw
     case rel => exact ⟨i + 1, by go_num, by omega, h8⟩
     case measure => simp [intOf]; omega
   ·have ij : ¬ ((i : Int) + 1 < (n : Int)) := by omega
    have hdA : dA n (decide (c0 = 68)) (i + 1) = D0.set s1 2 := by rw [dA, if_neg (fun h => hi2 h.1), hD0, hs1]
    rw [← hdA] at h6
    clear hdA hrow hb16 hDl hD0 hs1 hs2 hs3 e3
    go_wp2
    go_roundw
    case rel => exact ⟨i + 1, by go_num, by omega, h6⟩
    case measure => simp [intOf]; omega
  ·obtain rfl : i = n := by omega
   obtain ⟨DF, hDF⟩ : ∃ DF, DF = dA i (decide (c0 = 68)) i := ⟨_, rfl⟩
   have hDl : DF.length = i * i := by rw [hDF]; exact dA_len _ _ _
   rw [← hDF] at h5
   have HDF := Lib.hid hDF
   clear hDF b0 b1
   have hk12 : k = 0 ∨ k = 1 ∨ k = 2 ∨ k = 3 ∨ k = 4 ∨ k = 5 ∨ k = 6 ∨ k = 7 ∨ k = 8 ∨ k = 9 ∨ k = 10 ∨ k = 11 := by omega
   rcases hk12 with rfl | rfl | rfl | rfl | rfl | rfl | rfl | rfl | rfl | rfl | rfl | rfl
   ·have e1 : i = 1 := Hn.out
    have e2 : c0 = 65 := Hc0.out
    have e4 : nn = 1 := Hnn.out.trans (by rw [e1])
    subst e1
    subst e2
    have e3 : DF = mx 0 := by rw [HDF.out]; decide
    clear e4
    obtain ⟨b0, b1⟩ := St.box2 h5 0 rfl
    have p0 := (St.box2 h5 2 rfl).1
    have p1 := (St.box2 h5 2 rfl).2
    have q0 := St.free h5 2 rfl 0
    have q1 := St.free h5 2 rfl 1
    have g9 := (St.setBox (St.setBox h5 2 rfl 0 (.int .i64 1)) 2 rfl 1 (.slice (some ⟨w.heap.size + 1, 0, none⟩) nn nn))
    obtain ⟨s0, s1⟩ := St.box2 g9 2 rfl
    go_wp2
    refine bodyPost_ret (v := .agg #[.int .i64 1, .slice (some ⟨w.heap.size + 1, 0, none⟩) nn nn]) (by simp [results, Tryz.results75, go_sem, s0, s1]) rfl ⟨_, rfl, ?_, g9.below⟩
    rw [← e3]
    exact St.own g9 1 rfl
   ·have e1 : i = 2 := Hn.out
    have e2 : c0 = 65 := Hc0.out
    have e4 : nn = 4 := Hnn.out.trans (by rw [e1])
    subst e1
    subst e2
    have e3 : DF = mx 1 := by rw [HDF.out]; decide
    clear e4
    obtain ⟨b0, b1⟩ := St.box2 h5 0 rfl
    have p0 := (St.box2 h5 2 rfl).1
    have p1 := (St.box2 h5 2 rfl).2
    have q0 := St.free h5 2 rfl 0
    have q1 := St.free h5 2 rfl 1
    have g9 := (St.setBox (St.setBox h5 2 rfl 0 (.int .i64 2)) 2 rfl 1 (.slice (some ⟨w.heap.size + 1, 0, none⟩) nn nn))
    obtain ⟨s0, s1⟩ := St.box2 g9 2 rfl
    go_wp2
    refine bodyPost_ret (v := .agg #[.int .i64 2, .slice (some ⟨w.heap.size + 1, 0, none⟩) nn nn]) (by simp [results, Tryz.results75, go_sem, s0, s1]) rfl ⟨_, rfl, ?_, g9.below⟩
    rw [← e3]
    exact St.own g9 1 rfl
   ·have e1 : i = 3 := Hn.out
    have e2 : c0 = 65 := Hc0.out
    have e4 : nn = 9 := Hnn.out.trans (by rw [e1])
    subst e1
    subst e2
    have e3 : DF = mx 2 := by rw [HDF.out]; decide
    clear e4
    obtain ⟨b0, b1⟩ := St.box2 h5 0 rfl
    have p0 := (St.box2 h5 2 rfl).1
    have p1 := (St.box2 h5 2 rfl).2
    have q0 := St.free h5 2 rfl 0
    have q1 := St.free h5 2 rfl 1
    have g9 := (St.setBox (St.setBox h5 2 rfl 0 (.int .i64 3)) 2 rfl 1 (.slice (some ⟨w.heap.size + 1, 0, none⟩) nn nn))
    obtain ⟨s0, s1⟩ := St.box2 g9 2 rfl
    go_wp2
    refine bodyPost_ret (v := .agg #[.int .i64 3, .slice (some ⟨w.heap.size + 1, 0, none⟩) nn nn]) (by simp [results, Tryz.results75, go_sem, s0, s1]) rfl ⟨_, rfl, ?_, g9.below⟩
    rw [← e3]
    exact St.own g9 1 rfl
   ·have e1 : i = 4 := Hn.out
    have e2 : c0 = 65 := Hc0.out
    have e4 : nn = 16 := Hnn.out.trans (by rw [e1])
    subst e1
    subst e2
    have e3 : DF = mx 3 := by rw [HDF.out]; decide
    clear e4
    obtain ⟨b0, b1⟩ := St.box2 h5 0 rfl
    have p0 := (St.box2 h5 2 rfl).1
    have p1 := (St.box2 h5 2 rfl).2
    have q0 := St.free h5 2 rfl 0
    have q1 := St.free h5 2 rfl 1
    have g9 := (St.setBox (St.setBox h5 2 rfl 0 (.int .i64 4)) 2 rfl 1 (.slice (some ⟨w.heap.size + 1, 0, none⟩) nn nn))
    obtain ⟨s0, s1⟩ := St.box2 g9 2 rfl
    go_wp2
    refine bodyPost_ret (v := .agg #[.int .i64 4, .slice (some ⟨w.heap.size + 1, 0, none⟩) nn nn]) (by simp [results, Tryz.results75, go_sem, s0, s1]) rfl ⟨_, rfl, ?_, g9.below⟩
    rw [← e3]
    exact St.own g9 1 rfl
   ·have e1 : i = 2 := Hn.out
    have e2 : c0 = 66 := Hc0.out
    have e4 : nn = 4 := Hnn.out.trans (by rw [e1])
    subst e1
    subst e2
    have e3 : DF.set 2 (-2) = mx 4 := by rw [HDF.out]; decide
    obtain ⟨⟨y, pc⟩, pf⟩ := PO.cell h5 (q := 2) (by rw [hDl]; decide)
    obtain ⟨b0', b1'⟩ := St.box2 h5 0 rfl
    have hq : ((2 : Nat) : Int) < (nn : Int) := by omega
    have h7 := PO.set h5 2 (-2)
    clear e4
    obtain ⟨b0, b1⟩ := St.box2 h7 0 rfl
    have p0 := (St.box2 h7 2 rfl).1
    have p1 := (St.box2 h7 2 rfl).2
    have q0 := St.free h7 2 rfl 0
    have q1 := St.free h7 2 rfl 1
    have g9 := (St.setBox (St.setBox h7 2 rfl 0 (.int .i64 2)) 2 rfl 1 (.slice (some ⟨w.heap.size + 1, 0, none⟩) nn nn))
    obtain ⟨s0, s1⟩ := St.box2 g9 2 rfl
    go_wp2
    refine bodyPost_ret (v := .agg #[.int .i64 2, .slice (some ⟨w.heap.size + 1, 0, none⟩) nn nn]) (by simp [results, Tryz.results75, go_sem, s0, s1]) rfl ⟨_, rfl, ?_, g9.below⟩
    rw [← e3]
    exact St.own g9 1 rfl
   ·have e1 : i = 3 := Hn.out
    have e2 : c0 = 66 := Hc0.out
    have e4 : nn = 9 := Hnn.out.trans (by rw [e1])
    subst e1
    subst e2
    have e3 : DF.set 7 (-2) = mx 5 := by rw [HDF.out]; decide
    obtain ⟨⟨y, pc⟩, pf⟩ := PO.cell h5 (q := 7) (by rw [hDl]; decide)
    obtain ⟨b0', b1'⟩ := St.box2 h5 0 rfl
    have hq : ((7 : Nat) : Int) < (nn : Int) := by omega
    have h7 := PO.set h5 7 (-2)
    clear e4
    obtain ⟨b0, b1⟩ := St.box2 h7 0 rfl
    have p0 := (St.box2 h7 2 rfl).1
    have p1 := (St.box2 h7 2 rfl).2
    have q0 := St.free h7 2 rfl 0
    have q1 := St.free h7 2 rfl 1
    have g9 := (St.setBox (St.setBox h7 2 rfl 0 (.int .i64 3)) 2 rfl 1 (.slice (some ⟨w.heap.size + 1, 0, none⟩) nn nn))
    obtain ⟨s0, s1⟩ := St.box2 g9 2 rfl
    go_wp2
    refine bodyPost_ret (v := .agg #[.int .i64 3, .slice (some ⟨w.heap.size + 1, 0, none⟩) nn nn]) (by simp [results, Tryz.results75, go_sem, s0, s1]) rfl ⟨_, rfl, ?_, g9.below⟩
    rw [← e3]
    exact St.own g9 1 rfl
   ·have e1 : i = 4 := Hn.out
    have e2 : c0 = 66 := Hc0.out
    have e4 : nn = 16 := Hnn.out.trans (by rw [e1])
    subst e1
    subst e2
    have e3 : DF.set 14 (-2) = mx 6 := by rw [HDF.out]; decide
    obtain ⟨⟨y, pc⟩, pf⟩ := PO.cell h5 (q := 14) (by rw [hDl]; decide)
    obtain ⟨b0', b1'⟩ := St.box2 h5 0 rfl
    have hq : ((14 : Nat) : Int) < (nn : Int) := by omega
    have h7 := PO.set h5 14 (-2)
    clear e4
    obtain ⟨b0, b1⟩ := St.box2 h7 0 rfl
    have p0 := (St.box2 h7 2 rfl).1
    have p1 := (St.box2 h7 2 rfl).2
    have q0 := St.free h7 2 rfl 0
    have q1 := St.free h7 2 rfl 1
    have g9 := (St.setBox (St.setBox h7 2 rfl 0 (.int .i64 4)) 2 rfl 1 (.slice (some ⟨w.heap.size + 1, 0, none⟩) nn nn))
    obtain ⟨s0, s1⟩ := St.box2 g9 2 rfl
    go_wp2
    refine bodyPost_ret (v := .agg #[.int .i64 4, .slice (some ⟨w.heap.size + 1, 0, none⟩) nn nn]) (by simp [results, Tryz.results75, go_sem, s0, s1]) rfl ⟨_, rfl, ?_, g9.below⟩
    rw [← e3]
    exact St.own g9 1 rfl
   ·have e1 : i = 3 := Hn.out
    have e2 : c0 = 67 := Hc0.out
    have e4 : nn = 9 := Hnn.out.trans (by rw [e1])
    subst e1
    subst e2
    have e3 : DF.set 5 (-2) = mx 7 := by rw [HDF.out]; decide
    obtain ⟨⟨y, pc⟩, pf⟩ := PO.cell h5 (q := 5) (by rw [hDl]; decide)
    obtain ⟨b0', b1'⟩ := St.box2 h5 0 rfl
    have hq : ((5 : Nat) : Int) < (nn : Int) := by omega
    have h7 := PO.set h5 5 (-2)
    clear e4
    obtain ⟨b0, b1⟩ := St.box2 h7 0 rfl
    have p0 := (St.box2 h7 2 rfl).1
    have p1 := (St.box2 h7 2 rfl).2
    have q0 := St.free h7 2 rfl 0
    have q1 := St.free h7 2 rfl 1
    have g9 := (St.setBox (St.setBox h7 2 rfl 0 (.int .i64 3)) 2 rfl 1 (.slice (some ⟨w.heap.size + 1, 0, none⟩) nn nn))
    obtain ⟨s0, s1⟩ := St.box2 g9 2 rfl
    go_wp2
    refine bodyPost_ret (v := .agg #[.int .i64 3, .slice (some ⟨w.heap.size + 1, 0, none⟩) nn nn]) (by simp [results, Tryz.results75, go_sem, s0, s1]) rfl ⟨_, rfl, ?_, g9.below⟩
    rw [← e3]
    exact St.own g9 1 rfl
   ·have e1 : i = 4 := Hn.out
    have e2 : c0 = 67 := Hc0.out
    have e4 : nn = 16 := Hnn.out.trans (by rw [e1])
    subst e1
    subst e2
    have e3 : DF.set 11 (-2) = mx 8 := by rw [HDF.out]; decide
    obtain ⟨⟨y, pc⟩, pf⟩ := PO.cell h5 (q := 11) (by rw [hDl]; decide)
    obtain ⟨b0', b1'⟩ := St.box2 h5 0 rfl
    have hq : ((11 : Nat) : Int) < (nn : Int) := by omega
    have h7 := PO.set h5 11 (-2)
    clear e4
    obtain ⟨b0, b1⟩ := St.box2 h7 0 rfl
    have p0 := (St.box2 h7 2 rfl).1
    have p1 := (St.box2 h7 2 rfl).2
    have q0 := St.free h7 2 rfl 0
    have q1 := St.free h7 2 rfl 1
    have g9 := (St.setBox (St.setBox h7 2 rfl 0 (.int .i64 4)) 2 rfl 1 (.slice (some ⟨w.heap.size + 1, 0, none⟩) nn nn))
    obtain ⟨s0, s1⟩ := St.box2 g9 2 rfl
    go_wp2
    refine bodyPost_ret (v := .agg #[.int .i64 4, .slice (some ⟨w.heap.size + 1, 0, none⟩) nn nn]) (by simp [results, Tryz.results75, go_sem, s0, s1]) rfl ⟨_, rfl, ?_, g9.below⟩
    rw [← e3]
    exact St.own g9 1 rfl
   ·have e1 : i = 4 := Hn.out
    have e2 : c0 = 68 := Hc0.out
    have e4 : nn = 16 := Hnn.out.trans (by rw [e1])
    subst e1
    subst e2
    have e3 : dD DF 4 = mx 9 := by rw [HDF.out]; decide
    have hnl : ((14 : Nat) : Int) < (nn : Int) := by omega
    have HDl := Lib.hid hDl
    have hB := St.box2 h5 0 rfl
    obtain ⟨x0, x1⟩ := hB
    clear e4 hDl
    go_wp2
    go_loopw [6] (fun v6 wr => ∃ q : Nat, v6 = .int .i64 q ∧ q ≤ 4 ∧ PO w wr (w.heap.size + 1) (w.heap.size + 2) 4 nn (dD DF q)) (fun v6 _ => 4 - (intOf v6).toNat)
    case atStart => exact ⟨0, rfl, by omega, h5⟩
    case round =>
     clear h5 x0 x1
     obtain ⟨q, rfl, d1, h5⟩ := hrel
     obtain ⟨x0, x1⟩ := St.box2 h5 0 rfl
     have hq5 : q = 0 ∨ q = 1 ∨ q = 2 ∨ q = 3 ∨ q = 4 := by omega
     rcases hq5 with rfl | rfl | rfl | rfl | rfl
     ·obtain ⟨⟨y1, pc1⟩, pf1⟩ := PO.cell h5 (q := 4) (by rw [dD_len, HDl.out]; decide)
      have h6 := PO.set h5 4 (-1)
      obtain ⟨x2, x3⟩ := St.box2 h6 0 rfl
      obtain ⟨⟨y2, pc2⟩, pf2⟩ := PO.cell h6 (q := 1) (by rw [List.length_set, dD_len, HDl.out]; decide)
      have h7 := PO.set h6 1 (-1)
      have hd : dD DF (0 + 1) = ((dD DF 0).set 4 (-1)).set 1 (-1) := rfl
      rw [← hd] at h7
      have hl1 : ((4 : Nat) : Int) < (nn : Int) := by omega
      have hl2 : ((1 : Nat) : Int) < (nn : Int) := by omega
      go_wp2
      go_roundw
      case rel => exact ⟨0 + 1, rfl, by omega, h7⟩
      case measure => simp [intOf]
     ·have hd : dD DF (1 + 1) = dD DF 1 := rfl
      rw [← hd] at h5
      go_wp2
      go_roundw
      case rel => exact ⟨2, rfl, by omega, h5⟩
      case measure => simp [intOf]
     ·obtain ⟨⟨y1, pc1⟩, pf1⟩ := PO.cell h5 (q := 6) (by rw [dD_len, HDl.out]; decide)
      have h6 := PO.set h5 6 (-1)
      obtain ⟨x2, x3⟩ := St.box2 h6 0 rfl
      obtain ⟨⟨y2, pc2⟩, pf2⟩ := PO.cell h6 (q := 9) (by rw [List.length_set, dD_len, HDl.out]; decide)
      have h7 := PO.set h6 9 (-1)
      have hd : dD DF (2 + 1) = ((dD DF 2).set 6 (-1)).set 9 (-1) := rfl
      rw [← hd] at h7
      have hl1 : ((6 : Nat) : Int) < (nn : Int) := by omega
      have hl2 : ((9 : Nat) : Int) < (nn : Int) := by omega
      go_wp2
      go_roundw
      case rel => exact ⟨2 + 1, rfl, by omega, h7⟩
      case measure => simp [intOf]
     ·obtain ⟨⟨y1, pc1⟩, pf1⟩ := PO.cell h5 (q := 7) (by rw [dD_len, HDl.out]; decide)
      have h6 := PO.set h5 7 (-1)
      obtain ⟨x2, x3⟩ := St.box2 h6 0 rfl
      obtain ⟨⟨y2, pc2⟩, pf2⟩ := PO.cell h6 (q := 13) (by rw [List.length_set, dD_len, HDl.out]; decide)
      have h7 := PO.set h6 13 (-1)
      have hd : dD DF (3 + 1) = ((dD DF 3).set 7 (-1)).set 13 (-1) := rfl
      rw [← hd] at h7
      have hl1 : ((7 : Nat) : Int) < (nn : Int) := by omega
      have hl2 : ((13 : Nat) : Int) < (nn : Int) := by omega
      go_wp2
      go_roundw
      case rel => exact ⟨3 + 1, rfl, by omega, h7⟩
      case measure => simp [intOf]
     ·clear x0 x1
      obtain ⟨b0, b1⟩ := St.box2 h5 0 rfl
      have p0 := (St.box2 h5 2 rfl).1
      have p1 := (St.box2 h5 2 rfl).2
      have q0 := St.free h5 2 rfl 0
      have q1 := St.free h5 2 rfl 1
      have g9 := (St.setBox (St.setBox h5 2 rfl 0 (.int .i64 4)) 2 rfl 1 (.slice (some ⟨w.heap.size + 1, 0, none⟩) nn nn))
      obtain ⟨s0, s1⟩ := St.box2 g9 2 rfl
      go_wp2
      refine bodyPost_ret (v := .agg #[.int .i64 4, .slice (some ⟨w.heap.size + 1, 0, none⟩) nn nn]) (by simp [results, Tryz.results75, go_sem, s0, s1]) rfl ⟨_, rfl, ?_, g9.below⟩
      rw [← e3]
      exact St.own g9 1 rfl
   ·have e1 : i = 4 := Hn.out
    have e2 : c0 = 70 := Hc0.out
    have e4 : nn = 16 := Hnn.out.trans (by rw [e1])
    subst e1
    subst e2
    have e3 : DF.set 9 (-2) = mx 10 := by rw [HDF.out]; decide
    obtain ⟨⟨y, pc⟩, pf⟩ := PO.cell h5 (q := 9) (by rw [hDl]; decide)
    obtain ⟨b0', b1'⟩ := St.box2 h5 0 rfl
    have hq : ((9 : Nat) : Int) < (nn : Int) := by omega
    have h7 := PO.set h5 9 (-2)
    clear e4
    obtain ⟨b0, b1⟩ := St.box2 h7 0 rfl
    have p0 := (St.box2 h7 2 rfl).1
    have p1 := (St.box2 h7 2 rfl).2
    have q0 := St.free h7 2 rfl 0
    have q1 := St.free h7 2 rfl 1
    have g9 := (St.setBox (St.setBox h7 2 rfl 0 (.int .i64 4)) 2 rfl 1 (.slice (some ⟨w.heap.size + 1, 0, none⟩) nn nn))
    obtain ⟨s0, s1⟩ := St.box2 g9 2 rfl
    go_wp2
    refine bodyPost_ret (v := .agg #[.int .i64 4, .slice (some ⟨w.heap.size + 1, 0, none⟩) nn nn]) (by simp [results, Tryz.results75, go_sem, s0, s1]) rfl ⟨_, rfl, ?_, g9.below⟩
    rw [← e3]
    exact St.own g9 1 rfl
   ·have e1 : i = 2 := Hn.out
    have e2 : c0 = 71 := Hc0.out
    have e4 : nn = 4 := Hnn.out.trans (by rw [e1])
    subst e1
    subst e2
    have e3 : DF.set 1 (-3) = mx 11 := by rw [HDF.out]; decide
    obtain ⟨⟨y, pc⟩, pf⟩ := PO.cell h5 (q := 1) (by rw [hDl]; decide)
    obtain ⟨b0', b1'⟩ := St.box2 h5 0 rfl
    have hq : ((1 : Nat) : Int) < (nn : Int) := by omega
    have h7 := PO.set h5 1 (-3)
    clear e4
    obtain ⟨b0, b1⟩ := St.box2 h7 0 rfl
    have p0 := (St.box2 h7 2 rfl).1
    have p1 := (St.box2 h7 2 rfl).2
    have q0 := St.free h7 2 rfl 0
    have q1 := St.free h7 2 rfl 1
    have g9 := (St.setBox (St.setBox h7 2 rfl 0 (.int .i64 2)) 2 rfl 1 (.slice (some ⟨w.heap.size + 1, 0, none⟩) nn nn))
    obtain ⟨s0, s1⟩ := St.box2 g9 2 rfl
    go_wp2
    refine bodyPost_ret (v := .agg #[.int .i64 2, .slice (some ⟨w.heap.size + 1, 0, none⟩) nn nn]) (by simp [results, Tryz.results75, go_sem, s0, s1]) rfl ⟨_, rfl, ?_, g9.below⟩
    rw [← e3]
    exact St.own g9 1 rfl
end Car
end Go.Proofs.YtbnefjhljfbecaaGreatDoor
