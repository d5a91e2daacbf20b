import Derived.Test.YtbnefjhljfbecaaGreatDoorW08
import Derived.Test.YtbnefjhljfbecaaGreatDoorW11
namespace Go.Proofs.YtbnefjhljfbecaaGreatDoor
set_option maxRecDepth 100000
open Go.RowKit
namespace Car
def CarsAt (W : World) (v : Value) (bl : List (Nat × List Int)) : Prop :=
 ∃ A c, v = .slice A bl.length c ∧ bl.length ≤ c ∧ (0 < bl.length → ∃ b o, A = some ⟨b, o, none⟩ ∧ ∀ (j : Nat) (m : Nat × List Int), bl[j]? = some m → ∃ u, W.cell? ⟨b, o + j * 2, none⟩ = some (.int .i64 m.1) ∧ W.cell? ⟨b, o + j * 2 + 1, none⟩ = some u ∧ Ints W u m.2)
theorem CarsAt.keep {W W' : World} {v : Value} {bl : List (Nat × List Int)} (h : CarsAt W v bl) (hk : ∀ a : Addr, a.block < W.heap.size → W'.cell? a = W.cell? a) : CarsAt W' v bl := by
 obtain ⟨A, c, rfl, h1, h2⟩ := h
 refine ⟨A, c, rfl, h1, fun h0 => ?_⟩
 obtain ⟨b, o, rfl, h3⟩ := h2 h0
 refine ⟨b, o, rfl, fun j m hm => ?_⟩
 obtain ⟨u, a1, a2, a3⟩ := h3 j m hm
 exact ⟨u, (hk _ (World.block_lt_of_cell? W _ a1)).trans a1, (hk _ (World.block_lt_of_cell? W _ a2)).trans a2, a3.keep fun p hp => hk p hp⟩
def cellsF (N at_ n : Nat) (M : List Int) : Nat → List Int → List Int
 | 0, D => D
 | q + 1, D => (cellsF N at_ n M q D).set ((at_ + q / n) * N + at_ + q % n) (M.getD q 0)
theorem cellsF_len (N at_ n : Nat) (M : List Int) : ∀ q D, (cellsF N at_ n M q D).length = D.length
 | 0, _ => rfl
 | q + 1, D => by unfold cellsF; rw [List.length_set, cellsF_len N at_ n M q D]
theorem cellsF_step (N at_ n : Nat) (M D : List Int) {i j : Nat} (hj : j < n) : cellsF N at_ n M (i * n + (j + 1)) D = (cellsF N at_ n M (i * n + j) D).set ((at_ + i) * N + at_ + j) (M.getD (i * n + j) 0) := by
 show cellsF N at_ n M (i * n + j + 1) D = _
 have e1 : (i * n + j) / n = i := by rw [Nat.mul_comm, Nat.mul_add_div (by omega), Nat.div_eq_of_lt hj]; rfl
 have e2 : (i * n + j) % n = j := by rw [Nat.mul_comm, Nat.mul_add_mod, Nat.mod_eq_of_lt hj]
 conv => lhs; unfold cellsF
 rw [e1, e2]
def blocksF (N : Nat) : List (Nat × List Int) → Nat × List Int → Nat × List Int
 | [], s => s
 | b :: bl, s => blocksF N bl (s.1 + b.1, cellsF N s.1 b.1 b.2 (b.1 * b.1) s.2)
def sumB (bl : List (Nat × List Int)) : Nat := (bl.map Prod.fst).sum
def jn (bl : List (Nat × List Int)) : List Int := (blocksF (sumB bl) bl (0, List.replicate (sumB bl * sumB bl) 0)).2
theorem blocksF_app (N : Nat) : ∀ (a b : List (Nat × List Int)) (s : Nat × List Int), blocksF N (a ++ b) s = blocksF N b (blocksF N a s)
 | [], _, _ => rfl
 | _x :: a, b, _s => blocksF_app N a b _
theorem blocksF_fst (N : Nat) : ∀ (a : List (Nat × List Int)) (s : Nat × List Int), (blocksF N a s).1 = s.1 + sumB a
 | [], s => by simp [blocksF, sumB]
 | x :: a, s => by
  unfold blocksF
  rw [blocksF_fst N a]
  unfold sumB
  rw [List.map_cons, List.sum_cons]
  omega
theorem blocksF_len (N : Nat) : ∀ (a : List (Nat × List Int)) (s : Nat × List Int), (blocksF N a s).2.length = s.2.length
 | [], s => rfl
 | x :: a, s => by
  unfold blocksF
  rw [blocksF_len N a, cellsF_len]
theorem sumB_snoc (a : List (Nat × List Int)) (x : Nat × List Int) : sumB (a ++ [x]) = sumB a + x.1 := by
 unfold sumB
 rw [List.map_append, List.sum_append]; simp
def jnOk (n : Nat) : Bool := (tys n).all fun t => decide (jn (t.map fun k => (rk k, mx k)) = due n t) && decide (sumB (t.map fun k => (rk k, mx k)) = n) && decide (1 ≤ t.length) && decide (t.length ≤ 4) && t.all fun k => decide (k < 12)
theorem jn_ok {n : Nat} (h1 : 1 ≤ n) (h4 : n ≤ 4) {t : List Nat} (ht : t ∈ tys n) : jn (t.map fun k => (rk k, mx k)) = due n t ∧ sumB (t.map fun k => (rk k, mx k)) = n ∧ 1 ≤ t.length ∧ t.length ≤ 4 ∧ ∀ k, k ∈ t → k < 12 := by
 have hd : jnOk n = true := by
  have : n = 1 ∨ n = 2 ∨ n = 3 ∨ n = 4 := by omega
  rcases this with rfl | rfl | rfl | rfl <;> decide +kernel
 have h := List.all_eq_true.1 hd t ht
 simp only [Bool.and_eq_true, decide_eq_true_eq, List.all_eq_true] at h
 exact ⟨h.1.1.1.1, h.1.1.1.2, h.1.1.2, h.1.2, h.2⟩
theorem CarsAt.fact {w : World} {v : Value} {bl : List (Nat × List Int)} (h : CarsAt w v bl) : It.ok w.heap.size w (.fact fun w' => CarsAt w' v bl) := fun _ hk => CarsAt.keep h fun p hp => World.cell?_of_block (hk p.block hp)
theorem CarsAt.at {W : World} {A : Option Addr} {m c : Nat} {bl : List (Nat × List Int)} (h : CarsAt W (.slice A m c) bl) {j : Nat} {x : Nat × List Int} (hx : bl[j]? = some x) : ∃ b o u, A = some ⟨b, o, none⟩ ∧ W.cell? ⟨b, o + j * 2, none⟩ = some (.int .i64 x.1) ∧ W.cell? ⟨b, o + j * 2 + 1, none⟩ = some u ∧ Ints W u x.2 := by
 obtain ⟨A', c', e, _, h2⟩ := h
 simp only [Value.slice.injEq] at e
 have hj := (List.getElem?_eq_some_iff.1 hx).1
 obtain ⟨b, o, e2, h3⟩ := h2 (by omega)
 obtain ⟨u, h4, h5, h6⟩ := h3 j x hx
 exact ⟨b, o, u, e.1.trans e2, h4, h5, h6⟩
theorem CarsAt.atF {w : World} {A : Option Addr} {m c : Nat} {bl : List (Nat × List Int)} (h : CarsAt w (.slice A m c) bl) {j : Nat} {x : Nat × List Int} (hx : bl[j]? = some x) : ∃ bk o Au cu, A = some ⟨bk, o, none⟩ ∧ It.ok w.heap.size w (.fact (fun W => W.cell? ⟨bk, o + j * 2, none⟩ = some (.int .i64 x.1) ∧ W.cell? ⟨bk, o + j * 2 + 1, none⟩ = some (.slice Au x.2.length cu) ∧ Ints W (.slice Au x.2.length cu) x.2)) := by
 obtain ⟨b, o, u, e, h1, h2, h3⟩ := CarsAt.at h hx
 obtain ⟨Au, cu, rfl, _⟩ := id h3
 refine ⟨b, o, Au, cu, e, fun w' hk => ⟨(World.cell?_of_block (hk b (World.block_lt_of_cell? w _ h1))).trans h1, (World.cell?_of_block (hk b (World.block_lt_of_cell? w _ h2))).trans h2, h3.keep fun p hp => World.cell?_of_block (hk p.block hp)⟩⟩
theorem copyE {S n a i j : Nat} (hS : S ≤ 4) (ha : a + n ≤ S) (hi : i < n) (hj : j < n) : IntKind.i64.wrap (IntKind.i64.wrap (IntKind.i64.wrap (IntKind.i64.wrap ((a : Int) + i) * (S : Int)) + a) + j) = (((a + i) * S + a + j : Nat) : Int) ∧ IntKind.i64.wrap (IntKind.i64.wrap ((i : Int) * (n : Int)) + j) = ((i * n + j : Nat) : Int) ∧ (a + i) * S + a + j < S * S ∧ i * n + j < n * n := by
 have h1 : (a + i + 1) * S ≤ S * S := Nat.mul_le_mul_right S (by omega)
 rw [Nat.add_mul, Nat.one_mul] at h1
 have h2 : (i + 1) * n ≤ n * n := Nat.mul_le_mul_right n (by omega)
 rw [Nat.add_mul, Nat.one_mul] at h2
 have h3 : S * S ≤ 16 := Nat.mul_le_mul hS hS
 have h4 : n * n ≤ 16 := Nat.mul_le_mul (by omega : n ≤ 4) (by omega : n ≤ 4)
 have e1 : (((a + i) * S : Nat) : Int) = ((a : Int) + i) * S := by rw [Int.natCast_mul]; simp
 have e2 : ((i * n : Nat) : Int) = (i : Int) * n := Int.natCast_mul _ _
 refine ⟨?_, ?_, by omega, by omega⟩
 ·rw [wrap_ok (x := (a : Int) + i) (by omega) (by omega), wrap_ok (x := ((a : Int) + i) * S) (by omega) (by omega), wrap_ok (x := ((a : Int) + i) * S + a) (by omega) (by omega), wrap_ok (by omega) (by omega)]
  omega
 ·rw [wrap_ok (x := (i : Int) * n) (by omega) (by omega), wrap_ok (by omega) (by omega)]
  omega
def RetCar (w : World) (n : Nat) (D : List Int) (e : Ending) (w' : World) : Prop := ∃ u, e = .returned (.agg #[.int .i64 n, u]) ∧ Own w' w.heap.size u D ∧ Below w.heap.size w w'
theorem take_snoc {bl : List (Nat × List Int)} {t : Nat} (h : t < bl.length) : bl.take (t + 1) = bl.take t ++ [bl[t]] := List.take_succ_eq_append_getElem h
theorem sumB_le (bl : List (Nat × List Int)) (t : Nat) : sumB (bl.take t) ≤ sumB bl := by
 have : bl = bl.take t ++ bl.drop t := (List.take_append_drop t bl).symm
 conv => rhs; rw [this]
 unfold sumB
 rw [List.map_append, List.sum_append]
 omega
set_option maxHeartbeats 8000000 in
theorem joined_any (v : Value) (bl : List (Nat × List Int)) (w : World) (h : CarsAt w v bl) (hb : ∀ b, b ∈ bl → 1 ≤ b.1 ∧ b.2.length = b.1 * b.1) (hs : sumB bl ≤ 4) (hl : bl.length ≤ 4) :
  Calls Tryz.prog 124 #[v] w (RetCar w (sumB bl) (jn bl)) := by
 obtain ⟨A, c, rfl, _, _⟩ := id h
 obtain ⟨m, hm⟩ : ∃ m, m = bl.length := ⟨_, rfl⟩
 rw [← hm] at h hl ⊢
 obtain ⟨N, hN⟩ : ∃ N, N = sumB bl := ⟨_, rfl⟩
 obtain ⟨J, hJ⟩ : ∃ J, J = jn bl := ⟨_, rfl⟩
 rw [← hJ]
 rw [← hN] at hs ⊢
 have HJ := Lib.hid (show J = (blocksF N bl (0, List.replicate (N * N) 0)).2 by rw [hJ, hN]; rfl)
 have Hm := Lib.hid hm
 have HN := Lib.hid hN
 have Hb := Lib.hid hb
 have HC := Lib.hid h
 have h1 := (((St.start w).pushOld (CarsAt.fact h)).box [.int .i64 0, .slice none 0 0] 49).box [.int .i64 0, .slice none 0 0] 49
 simp only [World.size_alloc] at h1
 clear h hJ hN hm hb
 go_enter Tryz.func124, Tryz.ntmps124
 go_wp2
 go_loopw [14] (fun v14 wr => ∃ (t S : Nat), v14 = .int .i64 t ∧ t ≤ m ∧ Hid (S = sumB (bl.take t)) ∧ S ≤ 4 ∧ St w wr [.box (w.heap.size + 1) [.int .i64 S, .slice none 0 0], .box w.heap.size [.int .i64 0, .slice none 0 0], .fact (fun W => CarsAt W (.slice A m c) bl)]) (fun v14 _ => m - (intOf v14).toNat)
 case atStart => exact ⟨0, 0, rfl, by omega, Lib.hid rfl, by omega, h1⟩
 case round =>
  clear h1
  obtain ⟨t, S, rfl, a1, HS, a2, g⟩ := hrel
  by_cases ht : t < m
  ·have htl : t < bl.length := by rw [← Hm.out]; exact ht
   obtain ⟨bk, o, u, rfl, x0, x1, hu⟩ := CarsAt.at (g.fact 2 rfl) (List.getElem?_eq_getElem htl)
   obtain ⟨n, hn⟩ : ∃ n, n = bl[t].1 := ⟨_, rfl⟩
   rw [← hn] at x0
   obtain ⟨Au, cu, rfl, -, -, -⟩ := id hu
   obtain ⟨nl, hnl⟩ : ∃ nl, nl = bl[t].2.length := ⟨_, rfl⟩
   rw [← hnl] at x1
   have HS2 := Lib.hid (show S + n = sumB (bl.take (t + 1)) by rw [take_snoc htl, sumB_snoc, HS.out, hn])
   have hS4 : S + n ≤ 4 := by have := sumB_le bl (t + 1); rw [← HS2.out, ← HN.out] at this; omega
   have it : (t : Int) < (m : Int) := by omega
   have wS : IntKind.i64.wrap ((S : Int) + (n : Int)) = ((S + n : Nat) : Int) := by rw [wrap_ok (by omega) (by omega)]; simp
   have g2 := g.box [.int .i64 n, .slice Au nl cu] 49
   obtain ⟨p0, p1⟩ := g2.box2 0 rfl
   obtain ⟨q0, q1⟩ := g2.box2 1 rfl
   have f0 := g2.free 1 rfl 0
   have g3 := g2.setBox 1 rfl 0 (.int .i64 ((S + n : Nat) : Int))
   have g4 := g3.drop 1
   simp only [List.set_cons_zero, List.set_cons_succ, List.drop_succ_cons, List.drop_zero] at g4
   clear hn hnl hu g g2 g3
   go_wp2
   go_roundw
   case rel => exact ⟨t + 1, S + n, by go_num, by omega, HS2, hS4, g4⟩
   case measure => simp [intOf]; omega
  ·obtain rfl : m = t := by omega
   have hSN : S = N := by rw [HS.out, HN.out, Hm.out, List.take_length]
   subst hSN
   obtain ⟨wg, hwg⟩ : ∃ wg, wg = wr := ⟨_, rfl⟩
   subst hwg
   obtain ⟨NN, hNN⟩ : ∃ NN, NN = S * S := ⟨_, rfl⟩
   have hNN16 : NN ≤ 16 := by have := Nat.mul_le_mul a2 a2; omega
   have wq : IntKind.i64.wrap ((S : Int) * (S : Int)) = (NN : Int) := by rw [← Int.natCast_mul, ← hNN]; exact wrap_ok (by omega) (by omega)
   have hmk := makeI NN (by omega)
   have HNN := Lib.hid hNN
   have wq2 : wrap64 ((S : Int) * (S : Int)) = (NN : Int) := by rw [← Int.natCast_mul, ← hNN]; unfold wrap64; omega
   have g2 := g.zeros NN (by omega)
   obtain ⟨q0, q1⟩ := g.box2 0 rfl
   obtain ⟨r0, r1⟩ := g2.box2 1 rfl
   have f1 := g2.free 1 rfl 1
   have g3 := g2.setBox 1 rfl 1 (.slice (some ⟨wg.heap.size, 0, none⟩) NN NN)
   simp only [List.set_cons_zero, List.set_cons_succ] at g3
   clear g g2 hNN
   have HD0 : Hid (List.replicate NN (0 : Int) = (blocksF S (bl.take 0) (0, List.replicate (S * S) 0)).2) := by show _ = _; rw [HNN.out]; rfl
   go_wp2
   clear wq wq2 hmk
   go_loopw [6, 34] (fun v6 v34 wr => ∃ (t at_ : Nat) (DD : List Int), v34 = .int .i64 t ∧ v6 = .int .i64 at_ ∧ t ≤ m ∧ at_ ≤ 4 ∧ Hid (at_ = sumB (bl.take t)) ∧ Hid (DD = (blocksF S (bl.take t) (0, List.replicate (S * S) 0)).2) ∧ St w wr [.box (w.heap.size + 1) [.int .i64 S, .slice (some ⟨wg.heap.size, 0, none⟩) NN NN], .own (.slice (some ⟨wg.heap.size, 0, none⟩) NN NN) DD, .box w.heap.size [.int .i64 0, .slice none 0 0], .fact (fun W => CarsAt W (.slice A m c) bl)]) (fun _ v34 _ => m - (intOf v34).toNat)
   case atStart => exact ⟨0, 0, _, rfl, rfl, by omega, by omega, Lib.hid rfl, HD0, g3.toFront 1 rfl⟩
   case round =>
    clear g3 HD0 q0 q1 r0 r1 f1
    obtain ⟨t, at_, DD, rfl, rfl, b1, b2, HA, HDD, g⟩ := hrel
    obtain ⟨w8, hw8⟩ : ∃ w8, w8 = wr := ⟨_, rfl⟩
    subst hw8
    by_cases ht2 : t < m
    ·have htl : t < bl.length := by rw [← Hm.out]; exact ht2
     obtain ⟨bk, o, Au, cu, rfl, hF⟩ := CarsAt.atF HC.out (List.getElem?_eq_getElem htl)
     obtain ⟨hb1, hb2⟩ := Hb.out bl[t] (List.getElem_mem htl)
     obtain ⟨n, hn⟩ : ∃ n, n = bl[t].1 := ⟨_, rfl⟩
     obtain ⟨M, hM⟩ : ∃ M, M = bl[t].2 := ⟨_, rfl⟩
     rw [← hn, ← hM] at hF hb2
     rw [← hn] at hb1
     have HA2 := Lib.hid (show at_ + n = sumB (bl.take (t + 1)) by rw [take_snoc htl, sumB_snoc, HA.out, hn])
     have hAS : at_ + n ≤ S := by have := sumB_le bl (t + 1); rw [← HA2.out, ← HN.out] at this; exact this
     have HDD2 := Lib.hid (show cellsF S at_ n M (n * n) DD = (blocksF S (bl.take (t + 1)) (0, List.replicate (S * S) 0)).2 by
      rw [take_snoc htl, blocksF_app, hn, hM, HDD.out]
      show _ = cellsF S (blocksF S (bl.take t) _).1 bl[t].1 bl[t].2 (bl[t].1 * bl[t].1) _
      rw [blocksF_fst, HA.out, Nat.zero_add])
     have hDl : DD.length = S * S := by rw [HDD.out, blocksF_len, List.length_replicate]
     have gF := g.pushOld hF
     obtain ⟨x0, x1, -⟩ := gF.fact 0 rfl
     obtain ⟨Ml, hMl⟩ : ∃ Ml, Ml = M.length := ⟨_, rfl⟩
     rw [← hMl] at gF x1 hb2
     have g2 := gF.box [.int .i64 n, .slice Au Ml cu] 49
     have it2 : (t : Int) < (m : Int) := by omega
     obtain ⟨z0, z1⟩ := g2.box2 0 rfl
     have HDl := Lib.hid hDl
     have Hb2 := Lib.hid hb2
     have HMl := Lib.hid hMl
     clear hF hn hM hMl gF g hDl hb2
     go_wp2
     go_loopw [9, 40] (fun _ v40 wr => ∃ i : Nat, v40 = .int .i64 i ∧ i ≤ n ∧ St w wr [.box w8.heap.size [.int .i64 n, .slice Au Ml cu], .fact (fun W => W.cell? ⟨bk, o + t * 2, none⟩ = some (.int .i64 n) ∧ W.cell? ⟨bk, o + t * 2 + 1, none⟩ = some (.slice Au Ml cu) ∧ Ints W (.slice Au Ml cu) M), .box (w.heap.size + 1) [.int .i64 S, .slice (some ⟨wg.heap.size, 0, none⟩) NN NN], .own (.slice (some ⟨wg.heap.size, 0, none⟩) NN NN) (cellsF S at_ n M (i * n) DD), .box w.heap.size [.int .i64 0, .slice none 0 0], .fact (fun W => CarsAt W (.slice (some ⟨bk, o, none⟩) m c) bl)]) (fun _ v40 _ => n - (intOf v40).toNat)
     case atStart => exact ⟨0, rfl, by omega, by rw [Nat.zero_mul]; exact g2⟩
     case round =>
      clear g2 z0 z1 x0 x1
      obtain ⟨i, rfl, c1, g⟩ := hrel
      obtain ⟨z0, z1⟩ := g.box2 0 rfl
      by_cases hi : i < n
      ·have ii : (i : Int) < (n : Int) := by omega
       go_wp2
       go_loopw [10, 45] (fun _ v45 wr => ∃ j : Nat, v45 = .int .i64 j ∧ j ≤ n ∧ St w wr [.box w8.heap.size [.int .i64 n, .slice Au Ml cu], .fact (fun W => W.cell? ⟨bk, o + t * 2, none⟩ = some (.int .i64 n) ∧ W.cell? ⟨bk, o + t * 2 + 1, none⟩ = some (.slice Au Ml cu) ∧ Ints W (.slice Au Ml cu) M), .box (w.heap.size + 1) [.int .i64 S, .slice (some ⟨wg.heap.size, 0, none⟩) NN NN], .own (.slice (some ⟨wg.heap.size, 0, none⟩) NN NN) (cellsF S at_ n M (i * n + j) DD), .box w.heap.size [.int .i64 0, .slice none 0 0], .fact (fun W => CarsAt W (.slice (some ⟨bk, o, none⟩) m c) bl)]) (fun _ v45 _ => n - (intOf v45).toNat)
       case atStart => exact ⟨0, rfl, by omega, g⟩
       case round =>
        clear g z0 z1
        obtain ⟨j, rfl, d1, g⟩ := hrel
        by_cases hj : j < n
        ·have ij : (j : Int) < (n : Int) := by omega
         obtain ⟨e1, e2, e3, e4⟩ := copyE a2 hAS hi hj
         have HSt := Lib.hid (cellsF_step S at_ n M DD (i := i) hj)
         obtain ⟨D0, hD0⟩ : ∃ D0, D0 = cellsF S at_ n M (i * n + j) DD := ⟨_, rfl⟩
         have hD0l : D0.length = NN := by rw [hD0, cellsF_len, HDl.out, HNN.out]
         rw [← hD0] at g HSt
         obtain ⟨bv, ov, rfl, _, xv⟩ := (g.fact 1 rfl).2.2.toB.cell (k := i * n + j) (by rw [← HMl.out, Hb2.out]; exact e4)
         obtain ⟨y, hy⟩ : ∃ y, y = vec M (i * n + j) := ⟨_, rfl⟩
         have HSt2 := Lib.hid (show cellsF S at_ n M (i * n + (j + 1)) DD = D0.set ((at_ + i) * S + at_ + j) y by rw [HSt.out, hy]; rfl)
         rw [← hy] at xv
         obtain ⟨pc, pf⟩ := g.ownCell 3 rfl (q := (at_ + i) * S + at_ + j) (by rw [hD0l, HNN.out]; exact e3)
         obtain ⟨s1, hs1⟩ : ∃ s1, s1 = (at_ + i) * S + at_ + j := ⟨_, rfl⟩
         obtain ⟨s2, hs2⟩ : ∃ s2, s2 = i * n + j := ⟨_, rfl⟩
         rw [← hs1] at e1 e3 pc pf HSt2
         rw [← hs2] at e2 e4 xv
         have e3' : (s1 : Int) < (NN : Int) := by rw [HNN.out]; exact Int.ofNat_lt.2 e3
         have e4' : (s2 : Int) < (Ml : Int) := by rw [Hb2.out]; exact Int.ofNat_lt.2 e4
         have xv' : wr.drew.cell? ⟨bv, ov + s2, none⟩ = some (.int .i64 y) := xv
         have g0 := g.drew
         have g9 := g0.set 3 rfl s1 y
         have pc' := (g0.ownCell 3 rfl (q := s1) (by rw [hD0l, HNN.out]; exact e3)).1
         have pf' := (g0.ownCell 3 rfl (q := s1) (by rw [hD0l, HNN.out]; exact e3)).2
         simp only [List.set_cons_zero, List.set_cons_succ] at g9
         rw [← HSt2.out] at g9
         clear hs1 hs2 hy HSt hD0 hD0l pc pf xv e3 e4
         go_upto_region 18 with fail
         refine wp_region_cut (S := fun w' => (w'.cell? ⟨w8.heap.size, 0, none⟩ = some (.int .i64 n) ∧ w'.cell? ⟨w8.heap.size, 1, none⟩ = some (.slice (some ⟨bv, ov, none⟩) Ml cu)) ∧ (w'.cell? ⟨w.heap.size + 1, 0, none⟩ = some (.int .i64 S) ∧ w'.cell? ⟨w.heap.size + 1, 1, none⟩ = some (.slice (some ⟨wg.heap.size, 0, none⟩) NN NN)) ∧ w'.cell? ⟨bv, ov + s2, none⟩ = some (.int .i64 y)) 23 (by kernel_rfl) (by kernel_rfl) ⟨g0.box2 0 rfl, g0.box2 2 rfl, xv'⟩ (fun hHeld => ?_)
         simp only [List.take_succ_cons, List.take_zero]
         refine tkA 0 hHeld ?_
         refine tkA 1 hHeld ?_
         refine tkA 2 hHeld ?_
         refine tkA 3 hHeld ?_
         refine tkA 4 hHeld ?_
         refine tkA 5 hHeld ?_
         refine tkA 6 hHeld ?_
         refine tkA 7 hHeld ?_
         refine tkA 8 hHeld ?_
         refine tkA 9 hHeld ?_
         refine tkA 10 hHeld ?_
         refine tkA 11 hHeld ?_
         refine tkA 12 hHeld ?_
         refine tkA 13 hHeld ?_
         refine tkA 14 hHeld ?_
         refine tkA 15 hHeld ?_
         refine tkA 16 hHeld ?_
         refine tkA 17 hHeld ?_
         refine tkA 18 hHeld ?_
         refine tkA 19 hHeld ?_
         refine tkA 20 hHeld ?_
         refine tkA 21 hHeld ?_
         refine tkA 22 hHeld ?_
         refine wpAnyH_done (by kernel_rfl) ?_ _
         show wpList _ _ _ _ _ _
         simp only [List.drop_succ_cons, List.drop_zero]
         clear hHeld
         clear g g0 e1 e2
         go_wp2
         go_roundw
         case rel => exact ⟨j + 1, by go_num, by omega, g9⟩
         case measure => simp [intOf]; omega
        ·obtain rfl : j = n := by omega
         have he : i * j + j = (i + 1) * j := by rw [Nat.succ_mul]
         rw [he] at g
         go_wp2
         go_roundw
         case rel => exact ⟨i + 1, by go_num, by omega, g⟩
         case measure => simp [intOf]; omega
      ·obtain rfl : i = n := by omega
       rw [HDD2.out] at g
       have g5 := (g.drop 1).drop 1
       simp only [List.drop_succ_cons, List.drop_zero] at g5
       go_wp2
       go_roundw
       case rel => exact ⟨t + 1, at_ + i, _, by go_num, by go_num, by omega, by omega, HA2, Lib.hid rfl, g5⟩
       case measure => simp [intOf]; omega
    ·obtain rfl : t = m := by omega
     have hDJ : DD = J := by rw [HDD.out, HJ.out, Hm.out, List.take_length]
     subst hDJ
     obtain ⟨z0, z1⟩ := g.box2 0 rfl
     obtain ⟨w0', w1'⟩ := g.box2 2 rfl
     have f0 := g.free 2 rfl 0
     have f1 := g.free 2 rfl 1
     have g9 := (g.setBox 2 rfl 0 (.int .i64 S)).setBox 2 rfl 1 (.slice (some ⟨wg.heap.size, 0, none⟩) NN NN)
     obtain ⟨s0, s1⟩ := g9.box2 2 rfl
     go_wp2
     refine bodyPost_ret (v := .agg #[.int .i64 S, .slice (some ⟨wg.heap.size, 0, none⟩) NN NN]) (by simp [results, Tryz.results124, go_sem, s0, s1]) rfl ⟨_, rfl, g9.own 1 rfl, g9.below⟩
end Car
end Go.Proofs.YtbnefjhljfbecaaGreatDoor
