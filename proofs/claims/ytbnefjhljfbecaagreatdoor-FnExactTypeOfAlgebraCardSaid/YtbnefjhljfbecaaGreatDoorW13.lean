import Derived.Laws.EntriesVeiled
import Derived.Test.YtbnefjhljfbecaaGreatDoorW08
import Derived.Test.YtbnefjhljfbecaaGreatDoorW12
namespace Go.Proofs.YtbnefjhljfbecaaGreatDoor
set_option maxRecDepth 100000
open Go.RowKit
namespace Car
theorem w64_ok {x : Int} (h1 : -1000000 ≤ x) (h2 : x ≤ 1000000) : wrap64 x = x := by unfold wrap64; omega
theorem putE {n : Nat} (hn : n ≤ 4) {i j : Nat} (hi : i < n) (hj : j < n) : wrap64 (wrap64 (wrap64 ((i : Int) * (n : Int)) + ((j : Int) + 1)) - 1) = ((i * n + j : Nat) : Int) := by
 have hb : n * n ≤ 16 := Nat.mul_le_mul hn hn
 have h1 := row_bd (c := n) hi
 obtain ⟨n1, n2, _, _⟩ := row_int (c := n) hi hb
 have e : ((i * n : Nat) : Int) = (i : Int) * n := Int.natCast_mul _ _
 rw [w64_ok (x := (i : Int) * n) (by omega) (by omega), w64_ok (x := (i : Int) * n + ((j : Int) + 1)) (by omega) (by omega), w64_ok (by omega) (by omega)]
 omega
set_option maxHeartbeats 1000000 in
theorem put_any (n N i j : Nat) (x : Int) (B Bn g c : Nat) (w : World) (hn : n ≤ 4) (hi : i < n) (hj : j < n) (hN : i * n + j < N) (_hN2 : N ≤ 16)
  (c1 : w.cell? ⟨B, 1, none⟩ = some (.slice (some ⟨g, 0, none⟩) N c)) (c2 : w.cell? ⟨Bn, 0, none⟩ = some (.int .i64 n)) (y : Int) (c3 : w.cell? ⟨g, i * n + j, none⟩ = some (.int .i64 y)) (c4 : w.frozen? ⟨g, i * n + j, none⟩ = false) :
  Calls Tryz.prog 137 #[.int .i64 (i + 1 : Nat), .int .i64 (j + 1 : Nat), .int .i64 x, .pointer (some ⟨B, 0, none⟩), .pointer (some ⟨Bn, 0, none⟩)] w fun e w' => e = .returned (.tuple #[]) ∧ w' = w.setCell ⟨g, i * n + j, none⟩ (.int .i64 x) := by
 have hp := putE hn hi hj
 obtain ⟨q, hq⟩ : ∃ q, q = i * n + j := ⟨_, rfl⟩
 rw [← hq] at hp c3 c4 hN ⊢
 have hqN : (q : Int) < (N : Int) := by omega
 clear hq
 go_enter Tryz.func137, Tryz.ntmps137
 go_wp2
 go_end0
 exact ⟨rfl, rfl⟩
theorem nm_ne {j k : Nat} (hj : j < k) (hk : k < 12) : ((nmB k).toList == (nmB j).toList) = false := by
 have hd : ((List.range 12).all fun k => (List.range k).all fun j => !((nmB k).toList == (nmB j).toList)) = true := by decide +kernel
 have := List.all_eq_true.1 (List.all_eq_true.1 hd k (List.mem_range.2 hk)) j (List.mem_range.2 hj)
 simpa using this
set_option maxHeartbeats 1000000 in
theorem indexS_any (B k : Nat) (w : World) (hk : k < 12) (hB : NamesAt w B) :
  Calls Tryz.prog 146 #[.slice (some ⟨B, 0, none⟩) 12 12, .string (nmB k)] w fun e w' => e = .returned (.int .i64 (k : Nat)) ∧ w = w' := by
 have HB := Lib.hid hB
 have HN := Lib.hid (fun j (hj : j < k) => nm_ne hj hk)
 obtain ⟨nm, hnm⟩ : ∃ nm, nm = nmB k := ⟨_, rfl⟩
 rw [← hnm]
 have Hnm := Lib.hid hnm
 clear hB hnm
 go_enter Tryz.func146, Tryz.ntmps146
 go_wp2
 go_loop [8] (fun vi => ∃ j : Nat, vi = .int .i64 j ∧ j ≤ k) (fun vi => 12 - (intOf vi).toNat)
 case atStart => exact ⟨0, rfl, by omega⟩
 case round =>
  obtain ⟨j, rfl, a1⟩ := hrel
  have e1 := HB.out j (by omega)
  have hj12 : (j : Int) < 12 := by omega
  by_cases hj : j = k
  ·subst hj
   rw [← Hnm.out] at e1
   go_wp2
   go_ret
   exact ⟨rfl, rfl⟩
  ·have hne := HN.out j (by omega)
   rw [← Hnm.out] at hne
   obtain ⟨nj, hnj⟩ : ∃ nj, nj = nmB j := ⟨_, rfl⟩
   rw [← hnj] at e1 hne
   clear hnj
   go_wp2
   go_round
   case rel => exact ⟨j + 1, by go_num, by omega⟩
   case measure => simp [intOf]; omega
theorem hasS_any (B k : Nat) (w : World) (hk : k < 12) (hB : NamesAt w B) :
  Calls Tryz.prog 136 #[.slice (some ⟨B, 0, none⟩) 12 12, .string (nmB k)] w fun e w' => e = .returned (.bool true) ∧ w = w' := by
 have HI := Lib.hid (indexS_any B k w hk hB)
 obtain ⟨nm, hnm⟩ : ∃ nm, nm = nmB k := ⟨_, rfl⟩
 rw [← hnm] at HI ⊢
 clear hnm hB
 go_enter Tryz.func136, Tryz.ntmps136
 go_wp2_with fail
 refine HI.out.mono ?_
 rintro (e : Ending) w1 ⟨rfl, rfl⟩
 go_wp2
 go_ret
 exact ⟨rfl, rfl⟩
def PL (w0 w : World) (g B Bn Bf Rb n N c : Nat) (D : List Int) : Prop := St w0 w [.box Bf [.func (.func 137) #[] #[.pointer (some ⟨B, 0, none⟩), .pointer (some ⟨Bn, 0, none⟩)]], .box B [.int .i64 n, .slice (some ⟨g, 0, none⟩) N c], .own (.slice (some ⟨g, 0, none⟩) N c) D, .box Bn [.int .i64 n], .box Rb [.int .i64 0, .slice none 0 0]]
theorem put_st {w0 w : World} {g B Bn Bf Rb n N c : Nat} {D : List Int} (h : PL w0 w g B Bn Bf Rb n N c D) (hn : n ≤ 4) (hD : D.length = n * n) (hN : N = n * n) (i j : Nat) (hi : i < n) (hj : j < n) (a b x : Int) (ha : a = (i : Int) + 1) (hb : b = (j : Int) + 1) :
  Calls Tryz.prog 137 #[.int .i64 a, .int .i64 b, .int .i64 x, .pointer (some ⟨B, 0, none⟩), .pointer (some ⟨Bn, 0, none⟩)] w fun e w' => e = .returned (.tuple #[]) ∧ PL w0 w' g B Bn Bf Rb n N c (D.set (i * n + j) x) := by
 have hb2 : n * n ≤ 16 := Nat.mul_le_mul hn hn
 have h1 := row_bd (c := n) hi
 obtain ⟨p1, p2⟩ := St.ownCell h 2 rfl (q := i * n + j) (by omega)
 have e1 : a = ((i + 1 : Nat) : Int) := by omega
 have e2 : b = ((j + 1 : Nat) : Int) := by omega
 rw [e1, e2]
 refine (put_any n N i j x B Bn g c w hn hi hj (by omega) (by omega) (St.box2 h 1 rfl).2 (St.box1 h 3 rfl) _ p1 p2).mono fun e w' ⟨h3, h4⟩ => ⟨h3, ?_⟩
 subst h4
 exact St.set h 2 rfl (i * n + j) x
set_option maxHeartbeats 1000000 in
theorem both_st {w0 w : World} {g B Bn Bf Rb n N c : Nat} {D : List Int} (h : PL w0 w g B Bn Bf Rb n N c D) (hn : n ≤ 4) (hD : D.length = n * n) (hN : N = n * n) (i j : Nat) (hi : i < n) (hj : j < n) (a b : Int) (ha : a = (i : Int) + 1) (hb : b = (j : Int) + 1) :
  Calls Tryz.prog 138 #[.int .i64 a, .int .i64 b, .pointer (some ⟨Bf, 0, none⟩)] w fun e w' => e = .returned (.tuple #[]) ∧ PL w0 w' g B Bn Bf Rb n N c ((D.set (i * n + j) (-1)).set (j * n + i) (-1)) := by
 have HP := Lib.hid (fun (D : List Int) (W : World) (h : PL w0 W g B Bn Bf Rb n N c D) (hD : D.length = n * n) => put_st h hn hD hN i j hi hj a b (-1) ha hb)
 have HQ := Lib.hid (fun (D : List Int) (W : World) (h : PL w0 W g B Bn Bf Rb n N c D) (hD : D.length = n * n) => put_st h hn hD hN j i hj hi b a (-1) hb ha)
 have HD := Lib.hid hD
 have Hh := Lib.hid h
 have f0 := St.box1 h 0 rfl
 clear hi hj ha hb hD hN hn h
 go_enter Tryz.func138, Tryz.ntmps138
 go_wp2_with fail
 refine (HP.out D w Hh.out HD.out).mono ?_
 rintro (e : Ending) w3 ⟨rfl, g3⟩
 have f3 := St.box1 g3 0 rfl
 go_wp2_with fail
 refine (HQ.out _ w3 g3 (by rw [List.length_set]; exact HD.out)).mono ?_
 rintro (e : Ending) w4 ⟨rfl, g4⟩
 go_wp2
 go_end0
 exact ⟨rfl, g4⟩
def dA (n : Nat) (d4 : Bool) : Nat → List Int
 | 0 => List.replicate (n * n) 0
 | i + 1 => if i + 1 < n ∧ d4 = false then ((((dA n d4 i).set (i * n + i) 2).set (i * n + (i + 1)) (-1)).set ((i + 1) * n + i) (-1)) else (dA n d4 i).set (i * n + i) 2
theorem dA_len (n : Nat) (d4 : Bool) : ∀ i, (dA n d4 i).length = n * n
 | 0 => List.length_replicate ..
 | i + 1 => by
  unfold dA
  split
  ·rw [List.length_set, List.length_set, List.length_set, dA_len n d4 i]
  ·rw [List.length_set, dA_len n d4 i]
theorem nm_d4 {k : Nat} (hk : k < 12) : ((nmB k).toList == [68, 52]) = decide (k = 9) := by
 have hd : ((List.range 12).all fun k => ((nmB k).toList == [68, 52]) == decide (k = 9)) = true := by decide +kernel
 have := List.all_eq_true.1 hd k (List.mem_range.2 hk)
 simpa using this
def fst (k : Nat) : Nat := [65, 65, 65, 65, 66, 66, 66, 67, 67, 68, 70, 71].getD k 0
theorem nm_first {k : Nat} (h : k < 12) (W : World) : (Instr.index 9 (.string (nmB k)) (.int .i64 0)).run Tryz.prog W = .ok (.int .u8 (fst k : Int)) W := by
 have hs := nm_size h
 rw [run_index_string W 9 (nmB k) .i64 0 Tryz.underlying9, dif_pos (by omega)]
 have hd : ((List.range 12).all fun k => (nmB k).data[0]? == some (UInt8.ofNat (fst k)) && decide (fst k < 256)) = true := by decide +kernel
 have h1 := List.all_eq_true.1 hd k (List.mem_range.2 h)
 rw [Bool.and_eq_true] at h1
 have h3 : fst k < 256 := of_decide_eq_true h1.2
 have h1 : (nmB k).data[0]? = some (UInt8.ofNat (fst k)) := by simpa using h1.1
 have h2 : 0 < (nmB k).data.size := by show 0 < (nmB k).size; omega
 rw [Array.getElem?_eq_getElem h2] at h1
 have e : (nmB k)[(0 : Int).toNat]'(by show 0 < (nmB k).size; omega) = (nmB k).data[0] := rfl
 rw [e, Option.some.inj h1]
 congr 2
 have : (UInt8.ofNat (fst k)).toNat = fst k := by
  rw [UInt8.toNat_ofNat']
  exact Nat.mod_eq_of_lt h3
 rw [this]
def RetPart (w : World) (k : Nat) (e : Ending) (w' : World) : Prop := ∃ v, e = .returned (.tuple #[.agg #[.int .i64 (rk k), v], .bool true]) ∧ Own w' w.heap.size v (mx k) ∧ Below w.heap.size w w'
set_option maxHeartbeats 8000000 in
theorem partCartan_any (k : Nat) (w : World) (hk : k < 12) : Calls Tryz.prog 123 #[.string (nmB k)] w (RetPart w k) := by
 have hix := nm_index hk
 have hix0 := nm_first hk
 have hd4 := nm_d4 hk
 have hr := rk_pos hk
 have HHas := Lib.hid (fun (B : Nat) (W : World) (h : NamesAt W B) => hasS_any B k W hk h)
 obtain ⟨nm, hnm⟩ : ∃ nm, nm = nmB k := ⟨_, rfl⟩
 obtain ⟨n, hn⟩ : ∃ n, n = rk k := ⟨_, rfl⟩
 rw [← hnm] at hix hix0 hd4 HHas ⊢
 rw [← hn] at hix hr
 obtain ⟨c0, hc0⟩ : ∃ c0, c0 = fst k := ⟨_, rfl⟩
 obtain ⟨d4, hd⟩ : ∃ d4, d4 = decide (k = 9) := ⟨_, rfl⟩
 rw [← hc0] at hix0
 rw [← hd] at hd4
 have wu : IntKind.u8.wrap (48 + (n : Int) - 48) = (n : Int) := by rw [show (48 + (n : Int) - 48) = n by omega]; exact u8_ok (by omega)
 have Hn := Lib.hid hn
 have Hc0 := Lib.hid hc0
 have Hd := Lib.hid hd
 have h1 := (St.start w).box [.int .i64 0, .slice none 0 0] 49
 clear hnm hn hc0 hd
 go_enter Tryz.func123, Tryz.ntmps123
 go_wp2_with fail
 refine (partNames_any _).mono ?_
 rintro (e : Ending) w3 ⟨B3, rfl, hN3, hb3⟩
 have h2 := h1.on hb3
 go_wp2_with fail
 refine (HHas.out _ _ hN3).mono ?_
 rintro (e : Ending) w4 ⟨rfl, rfl⟩
 clear h1 hb3 hN3
 have h3 := h2.box [.int .i64 n] 3
 go_upto_region 4 with fail
 obtain ⟨nn, hnn⟩ : ∃ nn, nn = n * n := ⟨_, rfl⟩
 have hnn16 : nn ≤ 16 := by have := Nat.mul_le_mul hr.2 hr.2; omega
 have wq : IntKind.i64.wrap ((n : Int) * (n : Int)) = (nn : Int) := by rw [← Int.natCast_mul, ← hnn]; exact wrap_ok (by omega) (by omega)
 have hmk := makeI nn (by omega)
 have Hnn := Lib.hid hnn
 clear hnn
 go_cut [5] (fun s5 wx => ∃ B g : Nat, s5 = .pointer (some ⟨B, 0, none⟩) ∧ St w wx [.box B [.int .i64 n, .slice (some ⟨g, 0, none⟩) nn nn], .own (.slice (some ⟨g, 0, none⟩) nn nn) (List.replicate nn 0), .box w3.heap.size [.int .i64 n], .box w.heap.size [.int .i64 0, .slice none 0 0]])
 case first =>
  have g := h3.drew
  clear h3
  refine wp_region_cut (S := fun w' => w'.cell? ⟨w3.heap.size, 0, none⟩ = some (.int .i64 n)) 7 (by kernel_rfl) (by kernel_rfl) (g.box1 0 rfl) (fun hHeld => ?_)
  simp only [List.take_succ_cons, List.take_zero]
  obtain ⟨v0, hv0, g⟩ : ∃ v0, v0 = _ ∧ St w v0 _ := ⟨_, rfl, g⟩
  rw [← hv0] at hHeld ⊢
  clear hv0
  refine tkA 0 hHeld ?_
  refine tkA 1 hHeld ?_
  refine tkA 2 hHeld ?_
  refine tkA 3 hHeld ?_
  refine wpAnyH_ready (rs := [4, 6]) (by kernel_rfl) (by simp) ?_
  refine ready_cons rfl (fun K hK => ?_) (ready_cons rfl (fun K hK => ?_) AllReadyH.nil)
  ·go_simp
   replace g := g.zeros nn (by omega)
   refine outA hK ?_ fun hHeld => ?_
   ·exact (g.box1 1 rfl)
   clear hK K
   refine tkA 5 hHeld ?_
   refine rcA 6 fun K hK => ?_
   go_simp
   replace g := g.box [.int .i64 0, .slice none 0 0] 49
   refine outA hK ?_ fun hHeld => ?_
   ·exact (g.box1 2 rfl)
   clear hK K
   simp only [World.size_alloc] at g
   generalize (v0.alloc (.cells (zeros nn) 3)).alloc (.cells #[.int .i64 0, .slice none 0 0] 49) = va at g hHeld ⊢
   refine wpAnyH_done (by kernel_rfl) ?_ _
   show wpList _ _ _ _ _ _
   simp only [List.drop_succ_cons, List.drop_zero]
   clear hHeld
   obtain ⟨p0, p1⟩ := g.box2 0 rfl
   have f0 := g.free 0 rfl 0
   have f1 := g.free 0 rfl 1
   have g4 := (g.setBox 0 rfl 0 (.int .i64 n)).setBox 0 rfl 1 (.slice (some ⟨v0.heap.size, 0, none⟩) nn nn)
   obtain ⟨r0, r1⟩ := g4.box2 0 rfl
   go_wp2
   go_meet
   exact ⟨_, _, rfl, g4⟩
  ·go_simp
   replace g := g.box [.int .i64 0, .slice none 0 0] 49
   refine outA hK ?_ fun hHeld => ?_
   ·exact (g.box1 1 rfl)
   clear hK K
   refine rcA 4 fun K hK => ?_
   go_simp
   replace g := (g.zeros nn (by omega)).toFront 1 rfl
   simp only [List.eraseIdx_cons_succ, List.eraseIdx_cons_zero] at g
   refine outA hK ?_ fun hHeld => ?_
   ·exact (g.box1 2 rfl)
   clear hK K
   refine tkA 5 hHeld ?_
   simp only [World.size_alloc] at g
   generalize (v0.alloc (.cells #[.int .i64 0, .slice none 0 0] 49)).alloc (.cells (zeros nn) 3) = va at g hHeld ⊢
   refine wpAnyH_done (by kernel_rfl) ?_ _
   show wpList _ _ _ _ _ _
   simp only [List.drop_succ_cons, List.drop_zero]
   clear hHeld
   obtain ⟨p0, p1⟩ := g.box2 0 rfl
   have f0 := g.free 0 rfl 0
   have f1 := g.free 0 rfl 1
   have g4 := (g.setBox 0 rfl 0 (.int .i64 n)).setBox 0 rfl 1 (.slice (some ⟨v0.heap.size + 1, 0, none⟩) nn nn)
   obtain ⟨r0, r1⟩ := g4.box2 0 rfl
   go_wp2
   go_meet
   exact ⟨_, _, rfl, g4⟩
 obtain ⟨B, g, rfl, h4⟩ := hcut
 clear h3 hmk wq
 obtain ⟨Bn, hBn⟩ : ∃ Bn, Bn = w3.heap.size := ⟨_, rfl⟩
 obtain ⟨Rb, hRb⟩ : ∃ Rb, Rb = w.heap.size := ⟨_, rfl⟩
 rw [← hBn, ← hRb] at h4 ⊢
 have HRb := Lib.hid hRb
 clear hBn hRb
 have h5 : PL w (wc.alloc (.cells #[.func (.func 137) #[] #[.pointer (some ⟨B, 0, none⟩), .pointer (some ⟨Bn, 0, none⟩)]] 136)) g B Bn wc.heap.size Rb n nn nn (dA n d4 0) := by
  have e : dA n d4 0 = List.replicate nn 0 := by rw [Hnn.out]; rfl
  rw [e]
  exact h4.box [.func (.func 137) #[] #[.pointer (some ⟨B, 0, none⟩), .pointer (some ⟨Bn, 0, none⟩)]] 136
 have hPut := fun (i j : Nat) (x : Int) (D : List Int) (W : World) (h : PL w W g B Bn wc.heap.size Rb n nn nn D) (hD : D.length = n * n) (hi : i < n) (hj : j < n) (a b : Int) (ha : a = (i : Int) + 1) (hb : b = (j : Int) + 1) => put_st h hr.2 hD Hnn.out i j hi hj a b x ha hb
 have hBoth := fun (i j : Nat) (D : List Int) (W : World) (h : PL w W g B Bn wc.heap.size Rb n nn nn D) (hD : D.length = n * n) (hi : i < n) (hj : j < n) (a b : Int) (ha : a = (i : Int) + 1) (hb : b = (j : Int) + 1) => both_st h hr.2 hD Hnn.out i j hi hj a b ha hb
 have HPut := Lib.hid hPut
 have HBoth := Lib.hid hBoth
 clear hPut hBoth h4
 have hn1 := hr.1
 have hn4 := hr.2
 clear hr
 go_wp2
 go_loopw [8] (fun v8 wr => ∃ i : Nat, v8 = .int .i64 ((i : Int) + 1) ∧ i ≤ n ∧ PL w wr g B Bn wc.heap.size Rb n nn nn (dA n d4 i)) (fun v8 _ => n + 1 - (intOf v8).toNat)
 case atStart => exact ⟨0, rfl, by omega, h5⟩
 case round =>
  clear h5
  obtain ⟨i, rfl, a1, h5⟩ := hrel
  have b0 := St.box1 h5 3 rfl
  have f0 := St.box1 h5 0 rfl
  by_cases hi : i < n
  ·have ii : (i : Int) + 1 ≤ (n : Int) := by omega
   go_wp2_with fail
   refine (HPut.out i i 2 _ _ h5 (dA_len _ _ _) hi hi _ _ rfl rfl).mono ?_
   rintro (e : Ending) w5 ⟨rfl, h6⟩
   have b1 := St.box1 h6 3 rfl
   by_cases hi2 : i + 1 < n
   ·have ij : (i : Int) + 1 < (n : Int) := by omega
    cases d4 with
    | true =>
     have hdA : dA n true (i + 1) = (dA n true i).set (i * n + i) 2 := by rw [dA, if_neg (fun h => by cases h.2)]
     rw [← hdA] at h6
     go_wp2
     go_roundw
     case rel => exact ⟨i + 1, by go_num, by omega, h6⟩
     case measure => simp [intOf]; omega
    | false =>
     have hdA : dA n false (i + 1) = (((dA n false i).set (i * n + i) 2).set (i * n + (i + 1)) (-1)).set ((i + 1) * n + i) (-1) := by rw [dA, if_pos ⟨hi2, rfl⟩]
     go_wp2_with fail
     refine (HBoth.out i (i + 1) _ _ h6 (by rw [List.length_set]; exact dA_len _ _ _) hi hi2 _ _ rfl (by omega)).mono ?_
     rintro (e : Ending) w6 ⟨rfl, h7⟩
     rw [← hdA] at h7
     go_wp2
     go_roundw
     case rel => exact ⟨i + 1, by go_num, by omega, h7⟩
     case measure => simp [intOf]; omega
   ·have ij : ¬ ((i : Int) + 1 < (n : Int)) := by omega
    have hdA : dA n d4 (i + 1) = (dA n d4 i).set (i * n + i) 2 := by rw [dA, if_neg (fun h => hi2 h.1)]
    rw [← hdA] at h6
    go_wp2
    go_roundw
    case rel => exact ⟨i + 1, by go_num, by omega, h6⟩
    case measure => simp [intOf]; omega
  ·obtain rfl : i = n := by omega
   have ii : ¬ ((i : Int) + 1 ≤ (i : Int)) := by omega
   obtain ⟨DF, hDF⟩ : ∃ DF, DF = dA i d4 i := ⟨_, rfl⟩
   have hDl : DF.length = i * i := by rw [hDF]; exact dA_len _ _ _
   rw [← hDF] at h5
   have HDF := Lib.hid hDF
   clear hDF HHas
   have hk12 : k = 0 ∨ k = 1 ∨ k = 2 ∨ k = 3 ∨ k = 4 ∨ k = 5 ∨ k = 6 ∨ k = 7 ∨ k = 8 ∨ k = 9 ∨ k = 10 ∨ k = 11 := by omega
   rcases hk12 with rfl | rfl | rfl | rfl | rfl | rfl | rfl | rfl | rfl | rfl | rfl | rfl
   ·have e1 : i = 1 := Hn.out
    have e2 : c0 = 65 := Hc0.out
    subst e1
    subst e2
    have b0' := St.box1 h5 3 rfl
    have r5 := St.box2 h5 1 rfl
    obtain ⟨r50, r51⟩ := r5
    have p0 := (St.box2 h5 4 rfl).1
    have p1 := (St.box2 h5 4 rfl).2
    have q0 := St.free h5 4 rfl 0
    have q1 := St.free h5 4 rfl 1
    have e3 : DF = mx 0 := by rw [HDF.out, Hd.out]; decide
    have g9 := (St.setBox (St.setBox h5 4 rfl 0 (.int .i64 1)) 4 rfl 1 (.slice (some ⟨g, 0, none⟩) nn nn))
    obtain ⟨s0, s1⟩ := St.box2 g9 4 rfl
    go_wp2
    refine bodyPost_ret (v := .tuple #[.agg #[.int .i64 1, .slice (some ⟨g, 0, none⟩) nn nn], .bool true]) (by simp [results, Tryz.results123, go_sem, s0, s1]) rfl ⟨_, rfl, ?_, g9.below⟩
    rw [← e3]
    exact St.own g9 2 rfl
   ·have e1 : i = 2 := Hn.out
    have e2 : c0 = 65 := Hc0.out
    subst e1
    subst e2
    have b0' := St.box1 h5 3 rfl
    have r5 := St.box2 h5 1 rfl
    obtain ⟨r50, r51⟩ := r5
    have p0 := (St.box2 h5 4 rfl).1
    have p1 := (St.box2 h5 4 rfl).2
    have q0 := St.free h5 4 rfl 0
    have q1 := St.free h5 4 rfl 1
    have e3 : DF = mx 1 := by rw [HDF.out, Hd.out]; decide
    have g9 := (St.setBox (St.setBox h5 4 rfl 0 (.int .i64 2)) 4 rfl 1 (.slice (some ⟨g, 0, none⟩) nn nn))
    obtain ⟨s0, s1⟩ := St.box2 g9 4 rfl
    go_wp2
    refine bodyPost_ret (v := .tuple #[.agg #[.int .i64 2, .slice (some ⟨g, 0, none⟩) nn nn], .bool true]) (by simp [results, Tryz.results123, go_sem, s0, s1]) rfl ⟨_, rfl, ?_, g9.below⟩
    rw [← e3]
    exact St.own g9 2 rfl
   ·have e1 : i = 3 := Hn.out
    have e2 : c0 = 65 := Hc0.out
    subst e1
    subst e2
    have b0' := St.box1 h5 3 rfl
    have r5 := St.box2 h5 1 rfl
    obtain ⟨r50, r51⟩ := r5
    have p0 := (St.box2 h5 4 rfl).1
    have p1 := (St.box2 h5 4 rfl).2
    have q0 := St.free h5 4 rfl 0
    have q1 := St.free h5 4 rfl 1
    have e3 : DF = mx 2 := by rw [HDF.out, Hd.out]; decide
    have g9 := (St.setBox (St.setBox h5 4 rfl 0 (.int .i64 3)) 4 rfl 1 (.slice (some ⟨g, 0, none⟩) nn nn))
    obtain ⟨s0, s1⟩ := St.box2 g9 4 rfl
    go_wp2
    refine bodyPost_ret (v := .tuple #[.agg #[.int .i64 3, .slice (some ⟨g, 0, none⟩) nn nn], .bool true]) (by simp [results, Tryz.results123, go_sem, s0, s1]) rfl ⟨_, rfl, ?_, g9.below⟩
    rw [← e3]
    exact St.own g9 2 rfl
   ·have e1 : i = 4 := Hn.out
    have e2 : c0 = 65 := Hc0.out
    subst e1
    subst e2
    have b0' := St.box1 h5 3 rfl
    have r5 := St.box2 h5 1 rfl
    obtain ⟨r50, r51⟩ := r5
    have p0 := (St.box2 h5 4 rfl).1
    have p1 := (St.box2 h5 4 rfl).2
    have q0 := St.free h5 4 rfl 0
    have q1 := St.free h5 4 rfl 1
    have e3 : DF = mx 3 := by rw [HDF.out, Hd.out]; decide
    have g9 := (St.setBox (St.setBox h5 4 rfl 0 (.int .i64 4)) 4 rfl 1 (.slice (some ⟨g, 0, none⟩) nn nn))
    obtain ⟨s0, s1⟩ := St.box2 g9 4 rfl
    go_wp2
    refine bodyPost_ret (v := .tuple #[.agg #[.int .i64 4, .slice (some ⟨g, 0, none⟩) nn nn], .bool true]) (by simp [results, Tryz.results123, go_sem, s0, s1]) rfl ⟨_, rfl, ?_, g9.below⟩
    rw [← e3]
    exact St.own g9 2 rfl
   ·have e1 : i = 2 := Hn.out
    have e2 : c0 = 66 := Hc0.out
    subst e1
    subst e2
    have b0' := St.box1 h5 3 rfl
    have r5 := St.box2 h5 1 rfl
    obtain ⟨r50, r51⟩ := r5
    have p0 := (St.box2 h5 4 rfl).1
    have p1 := (St.box2 h5 4 rfl).2
    have q0 := St.free h5 4 rfl 0
    have q1 := St.free h5 4 rfl 1
    have e3 : DF.set (1 * 2 + 0) (-2) = mx 4 := by rw [HDF.out, Hd.out]; decide
    go_wp2_with fail
    refine (HPut.out 1 0 (-2) _ _ h5 hDl (by omega) (by omega) _ _ (by rfl) (by rfl)).mono ?_
    rintro (e : Ending) w7 ⟨rfl, h7⟩
    clear r50 r51 p0 p1 q0 q1 f0 b0 b0'
    have r5 := St.box2 h7 1 rfl
    obtain ⟨r50, r51⟩ := r5
    have p0 := (St.box2 h7 4 rfl).1
    have p1 := (St.box2 h7 4 rfl).2
    have q0 := St.free h7 4 rfl 0
    have q1 := St.free h7 4 rfl 1
    have g9 := (St.setBox (St.setBox h7 4 rfl 0 (.int .i64 2)) 4 rfl 1 (.slice (some ⟨g, 0, none⟩) nn nn))
    obtain ⟨s0, s1⟩ := St.box2 g9 4 rfl
    go_wp2
    refine bodyPost_ret (v := .tuple #[.agg #[.int .i64 2, .slice (some ⟨g, 0, none⟩) nn nn], .bool true]) (by simp [results, Tryz.results123, go_sem, s0, s1]) rfl ⟨_, rfl, ?_, g9.below⟩
    rw [← e3]
    exact St.own g9 2 rfl
   ·have e1 : i = 3 := Hn.out
    have e2 : c0 = 66 := Hc0.out
    subst e1
    subst e2
    have b0' := St.box1 h5 3 rfl
    have r5 := St.box2 h5 1 rfl
    obtain ⟨r50, r51⟩ := r5
    have p0 := (St.box2 h5 4 rfl).1
    have p1 := (St.box2 h5 4 rfl).2
    have q0 := St.free h5 4 rfl 0
    have q1 := St.free h5 4 rfl 1
    have e3 : DF.set (2 * 3 + 1) (-2) = mx 5 := by rw [HDF.out, Hd.out]; decide
    go_wp2_with fail
    refine (HPut.out 2 1 (-2) _ _ h5 hDl (by omega) (by omega) _ _ (by rfl) (by rfl)).mono ?_
    rintro (e : Ending) w7 ⟨rfl, h7⟩
    clear r50 r51 p0 p1 q0 q1 f0 b0 b0'
    have r5 := St.box2 h7 1 rfl
    obtain ⟨r50, r51⟩ := r5
    have p0 := (St.box2 h7 4 rfl).1
    have p1 := (St.box2 h7 4 rfl).2
    have q0 := St.free h7 4 rfl 0
    have q1 := St.free h7 4 rfl 1
    have g9 := (St.setBox (St.setBox h7 4 rfl 0 (.int .i64 3)) 4 rfl 1 (.slice (some ⟨g, 0, none⟩) nn nn))
    obtain ⟨s0, s1⟩ := St.box2 g9 4 rfl
    go_wp2
    refine bodyPost_ret (v := .tuple #[.agg #[.int .i64 3, .slice (some ⟨g, 0, none⟩) nn nn], .bool true]) (by simp [results, Tryz.results123, go_sem, s0, s1]) rfl ⟨_, rfl, ?_, g9.below⟩
    rw [← e3]
    exact St.own g9 2 rfl
   ·have e1 : i = 4 := Hn.out
    have e2 : c0 = 66 := Hc0.out
    subst e1
    subst e2
    have b0' := St.box1 h5 3 rfl
    have r5 := St.box2 h5 1 rfl
    obtain ⟨r50, r51⟩ := r5
    have p0 := (St.box2 h5 4 rfl).1
    have p1 := (St.box2 h5 4 rfl).2
    have q0 := St.free h5 4 rfl 0
    have q1 := St.free h5 4 rfl 1
    have e3 : DF.set (3 * 4 + 2) (-2) = mx 6 := by rw [HDF.out, Hd.out]; decide
    go_wp2_with fail
    refine (HPut.out 3 2 (-2) _ _ h5 hDl (by omega) (by omega) _ _ (by rfl) (by rfl)).mono ?_
    rintro (e : Ending) w7 ⟨rfl, h7⟩
    clear r50 r51 p0 p1 q0 q1 f0 b0 b0'
    have r5 := St.box2 h7 1 rfl
    obtain ⟨r50, r51⟩ := r5
    have p0 := (St.box2 h7 4 rfl).1
    have p1 := (St.box2 h7 4 rfl).2
    have q0 := St.free h7 4 rfl 0
    have q1 := St.free h7 4 rfl 1
    have g9 := (St.setBox (St.setBox h7 4 rfl 0 (.int .i64 4)) 4 rfl 1 (.slice (some ⟨g, 0, none⟩) nn nn))
    obtain ⟨s0, s1⟩ := St.box2 g9 4 rfl
    go_wp2
    refine bodyPost_ret (v := .tuple #[.agg #[.int .i64 4, .slice (some ⟨g, 0, none⟩) nn nn], .bool true]) (by simp [results, Tryz.results123, go_sem, s0, s1]) rfl ⟨_, rfl, ?_, g9.below⟩
    rw [← e3]
    exact St.own g9 2 rfl
   ·have e1 : i = 3 := Hn.out
    have e2 : c0 = 67 := Hc0.out
    subst e1
    subst e2
    have b0' := St.box1 h5 3 rfl
    have r5 := St.box2 h5 1 rfl
    obtain ⟨r50, r51⟩ := r5
    have p0 := (St.box2 h5 4 rfl).1
    have p1 := (St.box2 h5 4 rfl).2
    have q0 := St.free h5 4 rfl 0
    have q1 := St.free h5 4 rfl 1
    have e3 : DF.set (1 * 3 + 2) (-2) = mx 7 := by rw [HDF.out, Hd.out]; decide
    go_wp2_with fail
    refine (HPut.out 1 2 (-2) _ _ h5 hDl (by omega) (by omega) _ _ (by rfl) (by rfl)).mono ?_
    rintro (e : Ending) w7 ⟨rfl, h7⟩
    clear r50 r51 p0 p1 q0 q1 f0 b0 b0'
    have r5 := St.box2 h7 1 rfl
    obtain ⟨r50, r51⟩ := r5
    have p0 := (St.box2 h7 4 rfl).1
    have p1 := (St.box2 h7 4 rfl).2
    have q0 := St.free h7 4 rfl 0
    have q1 := St.free h7 4 rfl 1
    have g9 := (St.setBox (St.setBox h7 4 rfl 0 (.int .i64 3)) 4 rfl 1 (.slice (some ⟨g, 0, none⟩) nn nn))
    obtain ⟨s0, s1⟩ := St.box2 g9 4 rfl
    go_wp2
    refine bodyPost_ret (v := .tuple #[.agg #[.int .i64 3, .slice (some ⟨g, 0, none⟩) nn nn], .bool true]) (by simp [results, Tryz.results123, go_sem, s0, s1]) rfl ⟨_, rfl, ?_, g9.below⟩
    rw [← e3]
    exact St.own g9 2 rfl
   ·have e1 : i = 4 := Hn.out
    have e2 : c0 = 67 := Hc0.out
    subst e1
    subst e2
    have b0' := St.box1 h5 3 rfl
    have r5 := St.box2 h5 1 rfl
    obtain ⟨r50, r51⟩ := r5
    have p0 := (St.box2 h5 4 rfl).1
    have p1 := (St.box2 h5 4 rfl).2
    have q0 := St.free h5 4 rfl 0
    have q1 := St.free h5 4 rfl 1
    have e3 : DF.set (2 * 4 + 3) (-2) = mx 8 := by rw [HDF.out, Hd.out]; decide
    go_wp2_with fail
    refine (HPut.out 2 3 (-2) _ _ h5 hDl (by omega) (by omega) _ _ (by rfl) (by rfl)).mono ?_
    rintro (e : Ending) w7 ⟨rfl, h7⟩
    clear r50 r51 p0 p1 q0 q1 f0 b0 b0'
    have r5 := St.box2 h7 1 rfl
    obtain ⟨r50, r51⟩ := r5
    have p0 := (St.box2 h7 4 rfl).1
    have p1 := (St.box2 h7 4 rfl).2
    have q0 := St.free h7 4 rfl 0
    have q1 := St.free h7 4 rfl 1
    have g9 := (St.setBox (St.setBox h7 4 rfl 0 (.int .i64 4)) 4 rfl 1 (.slice (some ⟨g, 0, none⟩) nn nn))
    obtain ⟨s0, s1⟩ := St.box2 g9 4 rfl
    go_wp2
    refine bodyPost_ret (v := .tuple #[.agg #[.int .i64 4, .slice (some ⟨g, 0, none⟩) nn nn], .bool true]) (by simp [results, Tryz.results123, go_sem, s0, s1]) rfl ⟨_, rfl, ?_, g9.below⟩
    rw [← e3]
    exact St.own g9 2 rfl
   ·have e1 : i = 4 := Hn.out
    have e2 : c0 = 68 := Hc0.out
    subst e1
    subst e2
    have b0' := St.box1 h5 3 rfl
    have r5 := St.box2 h5 1 rfl
    obtain ⟨r50, r51⟩ := r5
    have p0 := (St.box2 h5 4 rfl).1
    have p1 := (St.box2 h5 4 rfl).2
    have q0 := St.free h5 4 rfl 0
    have q1 := St.free h5 4 rfl 1
    have e3 : ((((((DF.set (1 * 4 + 0) (-1)).set (0 * 4 + 1) (-1)).set (1 * 4 + 2) (-1)).set (2 * 4 + 1) (-1)).set (1 * 4 + 3) (-1)).set (3 * 4 + 1) (-1)) = mx 9 := by rw [HDF.out, Hd.out]; decide
    go_wp2_with fail
    refine (HBoth.out 1 0 _ _ h5 hDl (by omega) (by omega) _ _ (by rfl) (by rfl)).mono ?_
    rintro (e : Ending) w7 ⟨rfl, h7⟩
    clear r50 r51 p0 p1 q0 q1 f0 b0 b0'
    go_wp2_with fail
    refine (HBoth.out 1 2 _ _ h7 (by rw [List.length_set, List.length_set]; exact hDl) (by omega) (by omega) _ _ (by rfl) (by rfl)).mono ?_
    rintro (e : Ending) w8 ⟨rfl, h8⟩
    go_wp2_with fail
    refine (HBoth.out 1 3 _ _ h8 (by rw [List.length_set, List.length_set, List.length_set, List.length_set]; exact hDl) (by omega) (by omega) _ _ (by rfl) (by rfl)).mono ?_
    rintro (e : Ending) w9 ⟨rfl, h9⟩
    have r5 := St.box2 h9 1 rfl
    obtain ⟨r50, r51⟩ := r5
    have p0 := (St.box2 h9 4 rfl).1
    have p1 := (St.box2 h9 4 rfl).2
    have q0 := St.free h9 4 rfl 0
    have q1 := St.free h9 4 rfl 1
    have g9 := (St.setBox (St.setBox h9 4 rfl 0 (.int .i64 4)) 4 rfl 1 (.slice (some ⟨g, 0, none⟩) nn nn))
    obtain ⟨s0, s1⟩ := St.box2 g9 4 rfl
    go_wp2
    refine bodyPost_ret (v := .tuple #[.agg #[.int .i64 4, .slice (some ⟨g, 0, none⟩) nn nn], .bool true]) (by simp [results, Tryz.results123, go_sem, s0, s1]) rfl ⟨_, rfl, ?_, g9.below⟩
    rw [← e3]
    exact St.own g9 2 rfl
   ·have e1 : i = 4 := Hn.out
    have e2 : c0 = 70 := Hc0.out
    subst e1
    subst e2
    have b0' := St.box1 h5 3 rfl
    have r5 := St.box2 h5 1 rfl
    obtain ⟨r50, r51⟩ := r5
    have p0 := (St.box2 h5 4 rfl).1
    have p1 := (St.box2 h5 4 rfl).2
    have q0 := St.free h5 4 rfl 0
    have q1 := St.free h5 4 rfl 1
    have e3 : DF.set (2 * 4 + 1) (-2) = mx 10 := by rw [HDF.out, Hd.out]; decide
    go_wp2_with fail
    refine (HPut.out 2 1 (-2) _ _ h5 hDl (by omega) (by omega) _ _ (by rfl) (by rfl)).mono ?_
    rintro (e : Ending) w7 ⟨rfl, h7⟩
    clear r50 r51 p0 p1 q0 q1 f0 b0 b0'
    have r5 := St.box2 h7 1 rfl
    obtain ⟨r50, r51⟩ := r5
    have p0 := (St.box2 h7 4 rfl).1
    have p1 := (St.box2 h7 4 rfl).2
    have q0 := St.free h7 4 rfl 0
    have q1 := St.free h7 4 rfl 1
    have g9 := (St.setBox (St.setBox h7 4 rfl 0 (.int .i64 4)) 4 rfl 1 (.slice (some ⟨g, 0, none⟩) nn nn))
    obtain ⟨s0, s1⟩ := St.box2 g9 4 rfl
    go_wp2
    refine bodyPost_ret (v := .tuple #[.agg #[.int .i64 4, .slice (some ⟨g, 0, none⟩) nn nn], .bool true]) (by simp [results, Tryz.results123, go_sem, s0, s1]) rfl ⟨_, rfl, ?_, g9.below⟩
    rw [← e3]
    exact St.own g9 2 rfl
   ·have e1 : i = 2 := Hn.out
    have e2 : c0 = 71 := Hc0.out
    subst e1
    subst e2
    have b0' := St.box1 h5 3 rfl
    have r5 := St.box2 h5 1 rfl
    obtain ⟨r50, r51⟩ := r5
    have p0 := (St.box2 h5 4 rfl).1
    have p1 := (St.box2 h5 4 rfl).2
    have q0 := St.free h5 4 rfl 0
    have q1 := St.free h5 4 rfl 1
    have e3 : DF.set (0 * 2 + 1) (-3) = mx 11 := by rw [HDF.out, Hd.out]; decide
    go_wp2_with fail
    refine (HPut.out 0 1 (-3) _ _ h5 hDl (by omega) (by omega) _ _ (by rfl) (by rfl)).mono ?_
    rintro (e : Ending) w7 ⟨rfl, h7⟩
    clear r50 r51 p0 p1 q0 q1 f0 b0 b0'
    have r5 := St.box2 h7 1 rfl
    obtain ⟨r50, r51⟩ := r5
    have p0 := (St.box2 h7 4 rfl).1
    have p1 := (St.box2 h7 4 rfl).2
    have q0 := St.free h7 4 rfl 0
    have q1 := St.free h7 4 rfl 1
    have g9 := (St.setBox (St.setBox h7 4 rfl 0 (.int .i64 2)) 4 rfl 1 (.slice (some ⟨g, 0, none⟩) nn nn))
    obtain ⟨s0, s1⟩ := St.box2 g9 4 rfl
    go_wp2
    refine bodyPost_ret (v := .tuple #[.agg #[.int .i64 2, .slice (some ⟨g, 0, none⟩) nn nn], .bool true]) (by simp [results, Tryz.results123, go_sem, s0, s1]) rfl ⟨_, rfl, ?_, g9.below⟩
    rw [← e3]
    exact St.own g9 2 rfl
end Car
end Go.Proofs.YtbnefjhljfbecaaGreatDoor
