import Derived.Test.YtbnefjhljfbecaaGreatDoorW20
import Derived.Test.YtbnefjhljfbecaaGreatDoorW23
import Derived.Test.YtbnefjhljfbecaaGreatDoorW29
import Derived.Test.YtbnefjhljfbecaaGreatDoorW30
import Derived.Test.YtbnefjhljfbecaaGreatDoorW31
namespace Go.Proofs.YtbnefjhljfbecaaGreatDoor
set_option maxRecDepth 100000
section
open Go.RowKit
theorem St.join {w0 w w' : World} {L M : List It} (h : St w0 w L) (h2 : St w w' M) (hm : ∀ x ∈ M, x.ok w0.heap.size w') : St w0 w' (M ++ L) := by
 have h' := h.on h2.below
 have low : ∀ (i : Nat) (y : It) (b : Nat), L[i]? = some y → b ∈ y.fp → b < w.heap.size := fun i y b hy hb => (It.ok_lt (h.at i hy) b hb).2
 have high : ∀ (i : Nat) (y : It) (b : Nat), M[i]? = some y → b ∈ y.fp → w.heap.size ≤ b := fun i y b hy hb => (It.ok_lt (h2.at i hy) b hb).1
 refine ⟨h'.below, fun x hx => ?_, fun i j x y hx hy b h3 h4 => ?_, fun x hx => ?_⟩
 ·rcases List.mem_append.1 hx with hx | hx
  ·exact hm x hx
  ·exact h'.ok x hx
 ·rw [List.getElem?_append] at hx hy
  split at hx
  ·split at hy
   ·exact h2.apart i j x y hx hy b h3 h4
   ·have := high i x b hx h3
    have := low _ y b hy h4
    omega
  ·split at hy
   ·have := low _ x b hx h3
    have := high j y b hy h4
    omega
   ·have := h.apart _ _ x y hx hy b h3 h4
    omega
 ·rcases List.mem_append.1 hx with hx | hx
  ·exact h2.nodup x hx
  ·exact h.nodup x hx
theorem St.pushTwo {w0 w w' : World} {L : List It} (h : St w0 w L) {v u : Value} {l m : List Int} (h2 : St w w' [.own v l, .own u m]) : St w0 w' (.own v l :: .own u m :: L) :=
 h.join h2 fun x hx => by
  simp only [List.mem_cons, List.not_mem_nil, or_false] at hx
  rcases hx with rfl | rfl
  ·exact Own.mono (h2.own 0 rfl) h.size
  ·exact Own.mono (h2.own 1 rfl) h.size
set_option maxHeartbeats 4000000 in
theorem l1Span_any (p : Int) (nr nc : Nat) (t : Value) (D : List Int) (w : World) (ht : Ints w t D) (hD : D.length = nr * nc) (hb : nr * nc ≤ 4194304) (hnr : nr ≤ 4194304) (hnc : nc ≤ 4194304) (hP : isPrime p = true) (rD : resid p D = true) :
  Calls Tryz.prog 61 #[.agg #[.int .i64 p, .int .i64 nr, .int .i64 nc, t]] w (RetMat w p (spanL p nc (rowsM nr nc D)).length nc (spanM p nc (rowsM nr nc D))) := by
 obtain ⟨b1, b2⟩ := isPrime_bd hP
 have h1 := (((St.start w).arg ht).box [.int .i64 p, .int .i64 nr, .int .i64 nc, t] 32).box [.int .i64 0, .int .i64 0, .int .i64 0, .slice none 0 0] 32
 simp only [World.size_alloc] at h1
 obtain ⟨A, k0, rfl, _, _, _⟩ := id ht
 have hWr := Wf_rowsM (p := p) (by omega) (r := nr) (c := nc) rD
 have hok := reduceL_ok (p := p) (by omega) hWr
 have hrl := hok.len
 have hpv := hok.piv
 rw [length_rowsM] at hrl hpv
 have hls := length_spanL hP hWr
 have hR := fun (W : World) (hi : Ints W (.slice A D.length k0) D) => l1Reduce_any p nr nc _ D W hi hD hb hnr hnc hP rD
 have hsp : spanM p nc (rowsM nr nc D) = (flat nc (reduceL p nc (rowsM nr nc D)).1).take ((reduceL p nc (rowsM nr nc D)).2.length * nc) := by
  rw [take_mul_flat hok.wf _ (by rw [hrl]; exact hpv)]; rfl
 obtain ⟨F, hF⟩ : ∃ F, F = flat nc (reduceL p nc (rowsM nr nc D)).1 := ⟨_, rfl⟩
 have hFl : F.length = nr * nc := by rw [hF, length_flat, hrl]
 obtain ⟨piv, hpiv⟩ : ∃ piv, piv = (reduceL p nc (rowsM nr nc D)).2 := ⟨_, rfl⟩
 have hpv' : pivL p nc (rowsM nr nc D) = piv := by rw [hpiv]; rfl
 rw [hls, hpv', hsp]
 rw [← hF, ← hpiv] at hR ⊢
 rw [← hpiv] at hpv
 have HRd := Lib.hid hR
 have hkc := Nat.mul_le_mul_right nc hpv
 have HFl := Lib.hid hFl
 clear hF hpiv hok hWr hrl hls hR hsp hpv' ht hD rD hP hFl
 obtain ⟨z0, z1, z2, z3⟩ := h1.box4 1 rfl
 go_enter Tryz.func61, Tryz.ntmps61
 go_wp2_with fail
 refine (HRd.out _ (h1.roInts 2 rfl)).mono ?_
 rintro (e : Ending) w1 ⟨u, vp, det, rfl, h2⟩
 replace h1 := h1.pushTwo h2
 clear h2 z0 z1 z2 z3
 obtain ⟨A1, c1, rfl, _, _, _⟩ := id (h1.ownInts 0 rfl)
 obtain ⟨A2, c2, rfl, _, _, _⟩ := id (h1.ownInts 1 rfl)
 rw [length_pivI] at h1 ⊢
 have hcut := (cutTo (h1.ownInts 1 rfl) (piv.length * nc) (by rw [HFl.out]; exact hkc)).1
 have e1 : (piv.length : Int) * nc = ((piv.length * nc : Nat) : Int) := (Int.natCast_mul _ _).symm
 have i1 : 0 ≤ (piv.length : Int) * nc ∧ (piv.length : Int) * nc ≤ 4194304 := by omega
 obtain ⟨q, hq⟩ : ∃ q, q = piv.length * nc := ⟨_, rfl⟩
 rw [← hq] at e1 hcut
 have hqF : q ≤ F.length := by rw [HFl.out, hq]; exact hkc
 have h3 := (h1.box [.int .i64 p, .int .i64 piv.length, .int .i64 nc, .slice A2 q c2] 32).takeOwn 2 rfl rfl q hqF
 obtain ⟨x0, x1, x2, x3⟩ := h3.box4 3 rfl
 have g0 := h3.free 3 rfl 0
 have g1 := h3.free 3 rfl 1
 have g2 := h3.free 3 rfl 2
 have g3 := h3.free 3 rfl 3
 have h4 := (((h3.setBox 3 rfl 0 (.int .i64 p)).setBox 3 rfl 1 (.int .i64 piv.length)).setBox 3 rfl 2 (.int .i64 nc)).setBox 3 rfl 3 (.slice A2 q c2)
 obtain ⟨r0, r1, r2, r3⟩ := h4.box4 3 rfl
 have HQ := Lib.hid hq
 clear h1 h3 hq hkc hpv
 go_wp2
 refine bodyPost_ret (v := .agg #[.int .i64 p, .int .i64 piv.length, .int .i64 nc, .slice A2 q c2]) (by simp [results, Tryz.results61, go_sem, r0, r1, r2, r3]) rfl ⟨_, rfl, by rw [← HQ.out]; exact h4.own 2 rfl, h4.below⟩
end
section
section
open Go.RowKit
def prodTo (T : List Int) (n : Nat) (p : Int) (S : List Int) (rt : Nat) (U : List Int) (i j : Nat) : List (List Int) :=
 ((List.range i).flatMap fun a => (List.range rt).map fun b => braL T (rowM n S a) (rowM n U b) n p) ++ (List.range j).map fun b => braL T (rowM n S i) (rowM n U b) n p
def prodL (T : List Int) (n : Nat) (p : Int) (rs : Nat) (S : List Int) (rt : Nat) (U : List Int) : List (List Int) := prodTo T n p S rt U rs 0
theorem prodTo_col (T : List Int) (n : Nat) (p : Int) (S : List Int) (rt : Nat) (U : List Int) (i j : Nat) : prodTo T n p S rt U i (j + 1) = prodTo T n p S rt U i j ++ [braL T (rowM n S i) (rowM n U j) n p] := by
 simp [prodTo, List.range_succ]
theorem prodTo_row (T : List Int) (n : Nat) (p : Int) (S : List Int) (rt : Nat) (U : List Int) (i : Nat) : prodTo T n p S rt U i rt = prodTo T n p S rt U (i + 1) 0 := by
 simp [prodTo, List.range_succ]
theorem length_prodTo (T : List Int) (n : Nat) (p : Int) (S : List Int) (rt : Nat) (U : List Int) (i j : Nat) : (prodTo T n p S rt U i j).length = i * rt + j := by
 induction i generalizing j with
 | zero => simp [prodTo]
 | succ i ih =>
  have := ih rt
  rw [prodTo_row] at this
  have e : (prodTo T n p S rt U (i + 1) j).length = (prodTo T n p S rt U (i + 1) 0).length + j := by simp [prodTo]
  rw [e, this, Nat.add_mul]; omega
theorem mem_prodTo {T : List Int} {n : Nat} {p : Int} {S : List Int} {rt : Nat} {U : List Int} {i j : Nat} {l : List Int} (h : l ∈ prodTo T n p S rt U i j) : ∃ a b, l = braL T (rowM n S a) (rowM n U b) n p := by
 simp only [prodTo, List.mem_append, List.mem_flatMap, List.mem_map] at h
 rcases h with ⟨a, _, b, _, rfl⟩ | ⟨b, _, rfl⟩
 ·exact ⟨a, b, rfl⟩
 ·exact ⟨i, b, rfl⟩
theorem Wf_prodTo {T : List Int} {n : Nat} {p : Int} (hp : 2 ≤ p) (S : List Int) (rt : Nat) (U : List Int) (i j : Nat) : Wf p n (prodTo T n p S rt U i j) := by
 intro k hk
 have hm : rowOf (prodTo T n p S rt U i j) k ∈ prodTo T n p S rt U i j := by rw [← rowOf_eq hk]; exact List.getElem_mem hk
 obtain ⟨a, b, e⟩ := mem_prodTo hm
 rw [e]
 exact ⟨length_braL _ _ _ _ _, resid_braL _ _ _ _ hp⟩
set_option maxHeartbeats 8000000 in
theorem product_any (p q1 q2 : Int) (n rs rt : Nat) (t s u : Value) (T S U : List Int) (w : World) (ht : Ints w t T) (hs : Ints w s S) (hu : Ints w u U) (hT : T.length = n * n * n) (hS : S.length = rs * n) (hU : U.length = rt * n) (hn : n ≤ 28) (hrs : rs ≤ 40) (hrt : rt ≤ 40)
  (hP : isPrime p = true) (rT : resid p T = true) (rS : resid p S = true) (rU : resid p U = true) :
  Calls Tryz.prog 45 #[.agg #[.int .i64 p, .int .i64 n, t], .agg #[.int .i64 q1, .int .i64 rs, .int .i64 n, s], .agg #[.int .i64 q2, .int .i64 rt, .int .i64 n, u]] w
   (RetMat w p (spanL p n (prodL T n p rs S rt U)).length n (spanM p n (prodL T n p rs S rt U))) := by
 obtain ⟨b1, b2⟩ := isPrime_bd hP
 have h1 := (((((((St.start w).arg ht).arg hs).arg hu).box [.int .i64 p, .int .i64 n, t] 69).box [.int .i64 q1, .int .i64 rs, .int .i64 n, s] 32).box [.int .i64 q2, .int .i64 rt, .int .i64 n, u] 32).box [.int .i64 0, .int .i64 0, .int .i64 0, .slice none 0 0] 32
 replace h1 := h1.emptyRows
 simp only [World.size_alloc] at h1
 obtain ⟨A, k, rfl, _, _, _⟩ := id ht
 obtain ⟨A1, k1, rfl, _, _, _⟩ := id hs
 obtain ⟨A2, k2, rfl, _, _, _⟩ := id hu
 have hbs := mul_le hrs (show n ≤ 40 by omega)
 have hbt := mul_le hrt (show n ≤ 40 by omega)
 have hst := mul_le hrs hrt
 have HT := Lib.hid hT
 have HSl := Lib.hid hS
 have HUl := Lib.hid hU
 have HP := Lib.hid hP
 have HLs := Lib.hid (length_rowsM rs n S)
 have HLt := Lib.hid (length_rowsM rt n U)
 have HWs := Lib.hid (Wf_rowsM (p := p) (by omega) (r := rs) (c := n) rS)
 have HWt := Lib.hid (Wf_rowsM (p := p) (by omega) (r := rt) (c := n) rU)
 have HRs := Lib.hid (fun (i : Nat) (hi : i < rs) => rowOf_rowsM (r := rs) (c := n) (D := S) hi)
 have HRt := Lib.hid (fun (i : Nat) (hi : i < rt) => rowOf_rowsM (r := rt) (c := n) (D := U) hi)
 obtain ⟨R, hR⟩ : ∃ R, R = spanM p n (prodL T n p rs S rt U) := ⟨_, rfl⟩
 obtain ⟨l, hl⟩ : ∃ l, l = (spanL p n (prodL T n p rs S rt U)).length := ⟨_, rfl⟩
 rw [← hR, ← hl]
 have HR := Lib.hid hR
 have Hll := Lib.hid hl
 clear ht hs hu hT hS hU hP hR hl
 obtain ⟨z0, z1, z2, z3⟩ := h1.box4 3 rfl
 go_enter Tryz.func45, Tryz.ntmps45
 go_wp2_with fail
 refine (rowsOf_any q1 rs n _ S _ (h1.roInts 6 rfl) HSl.out (by omega) (by omega)).mono ?_
 rintro (e : Ending) w8 ⟨vr, us1, rfl, hul1, hok, hnd, hb1⟩
 obtain ⟨Ar, cr, rfl, _, _, _⟩ := id (It.rows hok hul1)
 replace h1 := h1.pushRows hb1 hok hnd
 have Hul1 := Lib.hid (hul1.trans HLs.out)
 clear hok hnd hb1 z0 z1 z2 z3 hul1
 rw [HLs.out] at h1 ⊢
 go_wp2
 go_loopw [7, 9, 11, 16] (fun v7 v9 v11 v16 wr => ∃ (i : Nat) (us : List Value), v16 = .int .i64 i ∧ i ≤ rs ∧ Hid (us.length = i * rt) ∧ St w wr [rowsIt (.slice Ar rs cr) us1 (rowsM rs n S), rowsIt v7 us (prodTo T n p S rt U i 0), .box (w.heap.size + 1 + 1 + 1) [.int .i64 0, .int .i64 0, .int .i64 0, .slice none 0 0], .box (w.heap.size + 1 + 1) [.int .i64 q2, .int .i64 rt, .int .i64 n, .slice A2 U.length k2], .box (w.heap.size + 1) [.int .i64 q1, .int .i64 rs, .int .i64 n, .slice A1 S.length k1], .box w.heap.size [.int .i64 p, .int .i64 n, .slice A T.length k], .ro (.slice A2 U.length k2) U, .ro (.slice A1 S.length k1) S, .ro (.slice A T.length k) T]) (fun _ _ _ v16 _ => rs - (intOf v16).toNat)
 case atStart => exact ⟨0, [], rfl, by omega, by show _ = _; simp, h1⟩
 case round =>
  clear h1
  obtain ⟨i, us, rfl, a1, Hul, h1⟩ := hrel
  by_cases hi : i < rs
  ·have hlen0 := length_prodTo T n p S rt U i 0
   have hirt : i * rt ≤ 1600 := by have := Nat.mul_le_mul (show i ≤ 40 by omega) hrt; omega
   obtain ⟨gr, rfl⟩ := h1.vecSome 0 rfl (by rw [HLs.out]; omega)
   obtain ⟨Ai, ci, hui, e0, _⟩ := h1.row 0 rfl (Hul1.out.trans HLs.out.symm) HLs.out.symm (k := i) (by rw [HLs.out]; exact hi)
   obtain ⟨z0, z1, z2, z3⟩ := h1.box4 3 rfl
   have Hui := Lib.hid hui
   have i1 : (i : Int) < rs := by omega
   clear hui hlen0
   go_wp2_with fail
   refine (rowsOf_any q2 rt n _ U _ (h1.roInts 6 rfl) HUl.out (by omega) (by omega)).mono ?_
   rintro (e : Ending) w9 ⟨vr, us2, rfl, hul2, hok, hnd, hb1⟩
   obtain ⟨At, ct, rfl, _, _, _⟩ := id (It.rows hok hul2)
   replace h1 := h1.pushRows hb1 hok hnd
   have Hul2 := Lib.hid (hul2.trans HLt.out)
   clear hok hnd hb1 z0 z1 z2 z3 hul2 e0
   rw [HLt.out] at h1 ⊢
   go_wp2
   go_loopw [7, 11, 23] (fun v7 v11 v23 wr => ∃ (j : Nat) (us : List Value), v23 = .int .i64 j ∧ j ≤ rt ∧ Hid (us.length = i * rt + j) ∧ St w wr [rowsIt (.slice At rt ct) us2 (rowsM rt n U), rowsIt (.slice (some ⟨gr, 0, none⟩) rs cr) us1 (rowsM rs n S), rowsIt v7 us (prodTo T n p S rt U i j), .box (w.heap.size + 1 + 1 + 1) [.int .i64 0, .int .i64 0, .int .i64 0, .slice none 0 0], .box (w.heap.size + 1 + 1) [.int .i64 q2, .int .i64 rt, .int .i64 n, .slice A2 U.length k2], .box (w.heap.size + 1) [.int .i64 q1, .int .i64 rs, .int .i64 n, .slice A1 S.length k1], .box w.heap.size [.int .i64 p, .int .i64 n, .slice A T.length k], .ro (.slice A2 U.length k2) U, .ro (.slice A1 S.length k1) S, .ro (.slice A T.length k) T]) (fun _ _ v23 _ => rt - (intOf v23).toNat)
   case atStart => exact ⟨0, us, rfl, by omega, by show _ = _; rw [Hul.out, Nat.add_zero], h1⟩
   case round =>
    clear h1 Hul
    obtain ⟨j, us, rfl, a2, Hul, h1⟩ := hrel
    by_cases hj : j < rt
    ·have hlen0 := length_prodTo T n p S rt U i j
     obtain ⟨gt, rfl⟩ := h1.vecSome 0 rfl (by rw [HLt.out]; omega)
     obtain ⟨Aj, cj, huj, e0, _⟩ := h1.row 0 rfl (Hul2.out.trans HLt.out.symm) HLt.out.symm (k := j) (by rw [HLt.out]; exact hj)
     have Huj := Lib.hid huj
     have hl : us.length = (prodTo T n p S rt U i j).length := by rw [Hul.out, hlen0]
     have ht1 : (prodTo T n p S rt U i j).length + 1 ≤ 1099511627776 := by rw [hlen0]; omega
     have Hl := Lib.hid hl
     have Ht1 := Lib.hid ht1
     have HC := Lib.hid (prodTo_col T n p S rt U i j)
     have j1 : (j : Int) < rt := by omega
     obtain ⟨y0, y1, y2⟩ := h1.box3 6 rfl
     clear huj hl ht1 hlen0
     go_wp2_with fail
     refine (bracket_any p n _ _ _ T (rowOf (rowsM rs n S) i) (rowOf (rowsM rt n U) j) _ _ (h1.roUp 9 rfl) (h1.rowAt 1 rfl HLs.out.symm Hui.out (by rw [HLs.out]; exact hi)).2.toB (h1.rowAt 0 rfl HLt.out.symm Huj.out (by rw [HLt.out]; exact hj)).2.toB (Nat.le_refl _) HT.out (HWs.out i (by rw [HLs.out]; exact hi)).1 (HWt.out j (by rw [HLt.out]; exact hj)).1 hn b1 b2 rT (HWs.out i (by rw [HLs.out]; exact hi)).2 (HWt.out j (by rw [HLt.out]; exact hj)).2).mono ?_
     rintro (e : Ending) w7 ⟨x, rfl, ho, hb7⟩
     obtain ⟨A7, n7, c7, rfl⟩ := ho.slice
     have h2 := h1.pushOwn hb7 ho
     rw [bracketL_eq, HRs.out i hi, HRt.out j hj] at h2
     clear h1 ho hb7 y0 y1 y2 e0
     go_wp2_with (at_builtin; refine wp_append_row' rfl (.tmp 27) (.tmp 32) rfl h2 2 rfl Hl.out rfl rfl Ht1.out ?_; intro v1 w6 h3)
     go_roundw
     case rel => exact ⟨j + 1, us ++ [_], by go_num, by omega, by show _ = _; rw [List.length_append, Hul.out]; rfl, by rw [HC.out]; exact h3⟩
     case measure => simp [intOf]; omega
    ·obtain rfl : j = rt := by omega
     have h2 := h1.drop 1
     have HC := Lib.hid (prodTo_row T n p S j U i)
     clear h1
     go_wp2
     go_roundw
     case rel => exact ⟨i + 1, us, by go_num, by omega, by show _ = _; rw [Hul.out, Nat.add_mul, Nat.one_mul], by rw [← HC.out]; exact h2⟩
     case measure => simp [intOf]; omega
  ·obtain rfl : i = rs := by omega
   have hlen0 := length_prodTo T n p S rt U i 0
   have hin : i * rt * n ≤ 44800 := mul_le hst hn
   have hWq : Wf p n (prodL T n p i S rt U) := Wf_prodTo b1 _ _ _ _ _
   change St w _ (rowsIt _ _ _ :: rowsIt _ us (prodL T n p i S rt U) :: _) at h1
   change (prodL T n p i S rt U).length = i * rt + 0 at hlen0
   have hq := h1.rowsR 1 rfl (by rw [Hul.out, hlen0, Nat.add_zero])
   obtain ⟨A5, c5, rfl, _, _, _⟩ := id hq
   have hM := space_any p n A T.length k _ (prodL T n p i S rt U) _ hq hWq (by rw [hlen0]; simpa using (by omega : i * rt * n ≤ 4194304)) (by rw [hlen0]; omega) (by omega) HP.out
   rw [← HR.out, ← Hll.out] at hM
   have HM := Lib.hid hM
   obtain ⟨y0, y1, y2⟩ := h1.box3 5 rfl
   clear hM hWq hq hlen0 hin
   go_wp2_with fail
   refine HM.out.mono ?_
   rintro (e : Ending) w7 ⟨x, rfl, ho, hb7⟩
   obtain ⟨A7, c7, rfl, _, _, _⟩ := id ho.ints
   have h2 := h1.pushOwn hb7 ho
   clear ho hb7 h1 HM y0 y1 y2
   obtain ⟨z0, z1, z2, z3⟩ := h2.box4 3 rfl
   have f0 := h2.free 3 rfl 0
   have f1 := h2.free 3 rfl 1
   have f2 := h2.free 3 rfl 2
   have f3 := h2.free 3 rfl 3
   have h4 := (((h2.setBox 3 rfl 0 (.int .i64 p)).setBox 3 rfl 1 (.int .i64 l)).setBox 3 rfl 2 (.int .i64 n)).setBox 3 rfl 3 (.slice A7 R.length c7)
   obtain ⟨r0, r1, r2, r3⟩ := h4.box4 3 rfl
   go_wp2
   refine bodyPost_ret (v := .agg #[.int .i64 p, .int .i64 l, .int .i64 n, .slice A7 R.length c7]) (by simp [results, Tryz.results45, go_sem, r0, r1, r2, r3]) rfl ⟨_, rfl, h4.own 0 rfl, h4.below⟩
end
section
open Go.RowKit
set_option maxHeartbeats 8000000 in
theorem l2Product_any (p q1 q2 : Int) (n rs rt : Nat) (t s u : Value) (T S U : List Int) (w : World) (ht : Ints w t T) (hs : Ints w s S) (hu : Ints w u U) (hT : T.length = n * n * n) (hS : S.length = rs * n) (hU : U.length = rt * n) (hn : n ≤ 28) (hrs : rs ≤ 40) (hrt : rt ≤ 40)
    (hP : isPrime p = true) (rT : resid p T = true) (rS : resid p S = true) (rU : resid p U = true) :
    Calls Tryz.prog 31 #[.agg #[.int .i64 p, .int .i64 n, t], .agg #[.int .i64 q1, .int .i64 rs, .int .i64 n, s], .agg #[.int .i64 q2, .int .i64 rt, .int .i64 n, u]] w
      (RetMat w p (spanL p n (prodL T n p rs S rt U)).length n (spanM p n (prodL T n p rs S rt U))) := by
  obtain ⟨b1, b2⟩ := isPrime_bd hP
  have h1 := (((((((St.start w).arg ht).arg hs).arg hu).box [.int .i64 p, .int .i64 n, t] 30).box [.int .i64 q1, .int .i64 rs, .int .i64 n, s] 32).box [.int .i64 q2, .int .i64 rt, .int .i64 n, u] 32).box [.int .i64 0, .int .i64 0, .int .i64 0, .slice none 0 0] 32
  replace h1 := h1.emptyRows
  simp only [World.size_alloc] at h1
  obtain ⟨A, k, rfl, _, _, _⟩ := id ht
  obtain ⟨A1, k1, rfl, _, _, _⟩ := id hs
  obtain ⟨A2, k2, rfl, _, _, _⟩ := id hu
  have hbs := mul_le hrs (show n ≤ 40 by omega)
  have hbt := mul_le hrt (show n ≤ 40 by omega)
  have hst := mul_le hrs hrt
  have HT := Lib.hid hT
  have HSl := Lib.hid hS
  have HUl := Lib.hid hU
  obtain ⟨Q, hQ⟩ : ∃ Q, Q = prodL T n p rs S rt U := ⟨_, rfl⟩
  rw [← hQ]
  have HQ := Lib.hid hQ
  have hWq : Wf p n Q := by rw [hQ]; exact Wf_prodTo b1 _ _ _ _ _
  have hQl : Q.length = rs * rt := by rw [hQ, prodL, length_prodTo, Nat.add_zero]
  have hQn : rs * rt * n ≤ 44800 := mul_le hst hn
  have hfl := flat_flatten hWq
  have hfr := rowsM_flat hWq
  have hM := fun (W : World) (v : Value) (hi : IntRows W v Q) => l1Rows_any p n v Q W hi (by rw [total_wf hWq, hQl]; omega)
  rw [← hfl] at hM
  have hN := fun (W : World) (v : Value) (hi : Ints W v (flat n Q)) => l1Span_any p Q.length n v (flat n Q) W hi (length_flat n Q) (by rw [hQl]; omega) (by rw [hQl]; omega) (by omega) hP (resid_flat (by omega) hWq)
  rw [hfr] at hN
  obtain ⟨F, hF⟩ : ∃ F, F = flat n Q := ⟨_, rfl⟩
  obtain ⟨R, hR⟩ : ∃ R, R = spanM p n Q := ⟨_, rfl⟩
  obtain ⟨l, hl⟩ : ∃ l, l = (spanL p n Q).length := ⟨_, rfl⟩
  rw [← hF] at hM hN
  rw [← hR, ← hl] at hN ⊢
  have HM := Lib.hid hM
  have HN := Lib.hid hN
  clear ht hs hu hT hS hU hP hR hl hF hM hN hQ hWq hfl hfr hQn
  have hQl' := Lib.hid hQl
  clear hQl
  go_enter Tryz.func31, Tryz.ntmps31
  go_wp2
  go_loopw [7, 8, 9] (fun v7 v8 v9 wr => ∃ (i : Nat) (us : List Value), v8 = .int .i64 i ∧ i ≤ rs ∧ Hid (us.length = i * rt) ∧ St w wr [rowsIt v7 us (prodTo T n p S rt U i 0), .box (w.heap.size + 1 + 1 + 1) [.int .i64 0, .int .i64 0, .int .i64 0, .slice none 0 0], .box (w.heap.size + 1 + 1) [.int .i64 q2, .int .i64 rt, .int .i64 n, .slice A2 U.length k2], .box (w.heap.size + 1) [.int .i64 q1, .int .i64 rs, .int .i64 n, .slice A1 S.length k1], .box w.heap.size [.int .i64 p, .int .i64 n, .slice A T.length k], .ro (.slice A2 U.length k2) U, .ro (.slice A1 S.length k1) S, .ro (.slice A T.length k) T]) (fun _ v8 _ _ => rs - (intOf v8).toNat)
  case atStart => exact ⟨0, [], rfl, by omega, by show _ = _; simp, h1⟩
  case round =>
    clear h1
    obtain ⟨i, us, rfl, a1, Hul, h1⟩ := hrel
    obtain ⟨z0, z1, z2, z3⟩ := h1.box4 3 rfl
    by_cases hi : i < rs
    · have hirt : i * rt ≤ 1600 := by have := Nat.mul_le_mul (show i ≤ 40 by omega) hrt; omega
      go_wp2
      clear z0 z1 z2 z3
      go_loopw [7, 9] (fun v7 v9 wr => ∃ (j : Nat) (us : List Value), v9 = .int .i64 j ∧ j ≤ rt ∧ Hid (us.length = i * rt + j) ∧ St w wr [rowsIt v7 us (prodTo T n p S rt U i j), .box (w.heap.size + 1 + 1 + 1) [.int .i64 0, .int .i64 0, .int .i64 0, .slice none 0 0], .box (w.heap.size + 1 + 1) [.int .i64 q2, .int .i64 rt, .int .i64 n, .slice A2 U.length k2], .box (w.heap.size + 1) [.int .i64 q1, .int .i64 rs, .int .i64 n, .slice A1 S.length k1], .box w.heap.size [.int .i64 p, .int .i64 n, .slice A T.length k], .ro (.slice A2 U.length k2) U, .ro (.slice A1 S.length k1) S, .ro (.slice A T.length k) T]) (fun _ v9 _ => rt - (intOf v9).toNat)
      case atStart => exact ⟨0, us, rfl, by omega, by show _ = _; rw [Hul.out, Nat.add_zero], h1⟩
      case round =>
        clear h1 Hul
        obtain ⟨j, us, rfl, a2, Hul, h1⟩ := hrel
        obtain ⟨y0, y1, y2, y3⟩ := h1.box4 2 rfl
        by_cases hj : j < rt
        · have hlen0 := length_prodTo T n p S rt U i j
          have hl : us.length = (prodTo T n p S rt U i j).length := by rw [Hul.out, hlen0]
          have ht1 : (prodTo T n p S rt U i j).length + 1 ≤ 1099511627776 := by rw [hlen0]; omega
          have Hl := Lib.hid hl
          have Ht1 := Lib.hid ht1
          have HC := Lib.hid (prodTo_col T n p S rt U i j)
          obtain ⟨za0, za1, za2, za3⟩ := h1.box4 3 rfl
          obtain ⟨xa0, xa1, xa2⟩ := h1.box3 4 rfl
          have tk1 : True := trivial
          clear hl ht1 hlen0
          go_wp2
          go_region_held3 (fun w' => w'.cell? ⟨w.heap.size, 0, none⟩ = some (.int .i64 p) ∧ w'.cell? ⟨w.heap.size, 1, none⟩ = some (.int .i64 n) ∧ w'.cell? ⟨w.heap.size, 2, none⟩ = some (.slice A T.length k) ∧ w'.cell? ⟨w.heap.size + 1, 0, none⟩ = some (.int .i64 q1) ∧ w'.cell? ⟨w.heap.size + 1, 1, none⟩ = some (.int .i64 rs) ∧ w'.cell? ⟨w.heap.size + 1, 2, none⟩ = some (.int .i64 n) ∧ w'.cell? ⟨w.heap.size + 1, 3, none⟩ = some (.slice A1 S.length k1) ∧ w'.cell? ⟨w.heap.size + 1 + 1, 0, none⟩ = some (.int .i64 q2) ∧ w'.cell? ⟨w.heap.size + 1 + 1, 1, none⟩ = some (.int .i64 rt) ∧ w'.cell? ⟨w.heap.size + 1 + 1, 2, none⟩ = some (.int .i64 n) ∧ w'.cell? ⟨w.heap.size + 1 + 1, 3, none⟩ = some (.slice A2 U.length k2))
            (first | exact ⟨xa0, xa1, xa2, za0, za1, za2, za3, y0, y1, y2, y3⟩ | exact ⟨xb0, xb1, xb2, zb0, zb1, zb2, zb3, yb0, yb1, yb2, yb3⟩ | exact ⟨xc0, xc1, xc2, zc0, zc1, zc2, zc3, yc0, yc1, yc2, yc3⟩ | exact ⟨xd0, xd1, xd2, zd0, zd1, zd2, zd3, yd0, yd1, yd2, yd3⟩ | exact ⟨xe0, xe1, xe2, ze0, ze1, ze2, ze3, ye0, ye1, ye2, ye3⟩ | exact ⟨xf0, xf1, xf2, zf0, zf1, zf2, zf3, yf0, yf1, yf2, yf3⟩)
            (first
              | (go_at_call 33; have _t := tk1; refine (l1Row_any q1 rs n _ S i w.heap.size _ ?_ ?_ HSl.out (by omega) (by omega) hi).mono ?_; exact h1.drew.ro 6 rfl; exact h1.drew.size; rintro (e : Ending) w3 ⟨A5, c5, rfl, hr3, hb3⟩; have h2 := (h1.drew.on hb3).pushRo hr3; obtain ⟨xb0, xb1, xb2⟩ := h2.box3 5 rfl; obtain ⟨zb0, zb1, zb2, zb3⟩ := h2.box4 4 rfl; obtain ⟨yb0, yb1, yb2, yb3⟩ := h2.box4 3 rfl; clear tk1 _t)
              | (go_at_call 33; refine (l1Row_any q2 rt n _ U j w.heap.size _ ?_ ?_ HUl.out (by omega) (by omega) hj).mono ?_; exact h2.ro 6 rfl; exact h2.size; rintro (e : Ending) w4 ⟨A6, c6, rfl, hr4, hb4⟩; have h3 := (h2.on hb4).pushRo hr4; obtain ⟨xc0, xc1, xc2⟩ := h3.box3 6 rfl; obtain ⟨zc0, zc1, zc2, zc3⟩ := h3.box4 5 rfl; obtain ⟨yc0, yc1, yc2, yc3⟩ := h3.box4 4 rfl)
              | (go_at_call 60; refine (l2Bracket_any p n _ _ _ T (rowM n S i) (rowM n U j) _ _ (h3.roUp 9 rfl) (h3.roUp 1 rfl) (h3.roUp 0 rfl) (Nat.le_refl _) HT.out (length_rowM _ _ _) (length_rowM _ _ _) hn b1 b2 rT (resid_rowM (by omega) rS n i) (resid_rowM (by omega) rU n j)).mono ?_; rintro (e : Ending) w5 ⟨x, rfl, ho5, hb5⟩; obtain ⟨A7, n7, c7, rfl⟩ := ho5.slice; have h4 := h3.pushOwn hb5 ho5; obtain ⟨xd0, xd1, xd2⟩ := h4.box3 7 rfl; obtain ⟨zd0, zd1, zd2, zd3⟩ := h4.box4 6 rfl; obtain ⟨yd0, yd1, yd2, yd3⟩ := h4.box4 5 rfl; obtain ⟨xe0, xe1, xe2⟩ := (h4.alloc' (.cells #[.slice A7 n7 c7] 22)).box3 7 rfl; obtain ⟨ze0, ze1, ze2, ze3⟩ := (h4.alloc' (.cells #[.slice A7 n7 c7] 22)).box4 6 rfl; obtain ⟨ye0, ye1, ye2, ye3⟩ := (h4.alloc' (.cells #[.slice A7 n7 c7] 22)).box4 5 rfl)
              | (refine step_append_row rfl (.tmp 23) (.tmp 32) rfl h4 2 rfl Hl.out rfl rfl Ht1.out ?_; intro vv w6 h5; obtain ⟨xf0, xf1, xf2⟩ := h5.box3 6 rfl; obtain ⟨zf0, zf1, zf2, zf3⟩ := h5.box4 5 rfl; obtain ⟨yf0, yf1, yf2, yf3⟩ := h5.box4 4 rfl))
          clear h1 h2 h3 h4 xa0 xa1 xa2 za0 za1 za2 za3 y0 y1 y2 y3 xb0 xb1 xb2 zb0 zb1 zb2 zb3 yb0 yb1 yb2 yb3 xc0 xc1 xc2 zc0 zc1 zc2 zc3 yc0 yc1 yc2 yc3 xd0 xd1 xd2 zd0 zd1 zd2 zd3 yd0 yd1 yd2 yd3 xe0 xe1 xe2 ze0 ze1 ze2 ze3 ye0 ye1 ye2 ye3 xf0 xf1 xf2 zf0 zf1 zf2 zf3 yf0 yf1 yf2 yf3 hr3 hr4 hb3 hb4 ho5 hb5
          go_wp2
          go_roundw
          case rel => exact ⟨j + 1, us ++ [_], by go_num, by omega, by show _ = _; rw [List.length_append, Hul.out]; rfl, by rw [HC.out]; exact h5.drop 2⟩
          case measure => simp [intOf]; omega
        · obtain rfl : j = rt := by omega
          have HC := Lib.hid (prodTo_row T n p S j U i)
          go_wp2
          go_roundw
          case rel => exact ⟨i + 1, us, by go_num, by omega, by show _ = _; rw [Hul.out, Nat.add_mul, Nat.one_mul], by rw [← HC.out]; exact h1⟩
          case measure => simp [intOf]; omega
    · obtain rfl : i = rs := by omega
      change St w _ (rowsIt _ us (prodL T n p i S rt U) :: _) at h1
      rw [← HQ.out] at h1
      have HU1 : Hid (us.length = Q.length) := by show _ = _; rw [Hul.out, hQl'.out]
      obtain ⟨xa0, xa1, xa2⟩ := h1.box3 4 rfl
      go_wp2_with fail
      refine (HM.out _ _ (h1.rowsR 0 rfl HU1.out)).mono ?_
      rintro (e : Ending) w7 ⟨x, rfl, ho, hb7⟩
      obtain ⟨A7, c7, rfl, _, _, _⟩ := id ho.ints
      have h2 := h1.pushOwn hb7 ho
      clear ho hb7 h1 xa0 xa1 xa2
      go_wp2_with fail
      refine (HN.out _ _ (h2.ownInts 0 rfl)).mono ?_
      rintro (e : Ending) w8 ⟨x, rfl, ho, hb8⟩
      obtain ⟨A8, c8, rfl, _, _, _⟩ := id ho.ints
      have h3 := h2.pushOwn hb8 ho
      clear ho hb8 h2
      clear z0 z1 z2 z3
      obtain ⟨z0, z1, z2, z3⟩ := h3.box4 3 rfl
      have f0 := h3.free 3 rfl 0
      have f1 := h3.free 3 rfl 1
      have f2 := h3.free 3 rfl 2
      have f3 := h3.free 3 rfl 3
      have h4 := (((h3.setBox 3 rfl 0 (.int .i64 p)).setBox 3 rfl 1 (.int .i64 l)).setBox 3 rfl 2 (.int .i64 n)).setBox 3 rfl 3 (.slice A8 R.length c8)
      obtain ⟨r0, r1, r2, r3⟩ := h4.box4 3 rfl
      go_wp2
      refine bodyPost_ret (v := .agg #[.int .i64 p, .int .i64 l, .int .i64 n, .slice A8 R.length c8]) (by simp [results, Tryz.results31, go_sem, r0, r1, r2, r3]) rfl ⟨_, rfl, h4.own 0 rfl, h4.below⟩
end
end
section
section
open Go.RowKit
def bF (T : List Int) (n : Nat) (f g : Nat → Int) (k : Nat) : Int := sumTo n fun a => sumTo n fun b => f a * g b * t3 T n a b k
theorem bF_left (T : List Int) (n : Nat) (f f' g : Nat → Int) (k : Int) (c : Nat) : bF T n (fun a => f a + k * f' a) g c = bF T n f g c + k * bF T n f' g c := by
 unfold bF
 rw [← sumTo_mul, ← sumTo_add]
 refine sumTo_congr fun a _ => ?_
 rw [← sumTo_mul, ← sumTo_add]
 refine sumTo_congr fun b _ => ?_
 grind
theorem bF_right (T : List Int) (n : Nat) (f g g' : Nat → Int) (k : Int) (c : Nat) : bF T n f (fun a => g a + k * g' a) c = bF T n f g c + k * bF T n f g' c := by
 unfold bF
 rw [← sumTo_mul, ← sumTo_add]
 refine sumTo_congr fun a _ => ?_
 rw [← sumTo_mul, ← sumTo_add]
 refine sumTo_congr fun b _ => ?_
 grind
theorem bF_zero_left (T : List Int) (n : Nat) (g : Nat → Int) (c : Nat) : bF T n (fun _ => 0) g c = 0 := by
 unfold bF
 rw [sumTo_congr (g := fun _ => 0) (fun a _ => by rw [sumTo_congr (g := fun _ => 0) (fun b _ => by simp), sumTo_zero]), sumTo_zero]
theorem bF_zero_right (T : List Int) (n : Nat) (f : Nat → Int) (c : Nat) : bF T n f (fun _ => 0) c = 0 := by
 unfold bF
 rw [sumTo_congr (g := fun _ => 0) (fun a _ => by rw [sumTo_congr (g := fun _ => 0) (fun b _ => by simp), sumTo_zero]), sumTo_zero]
theorem bF_mod_left (T : List Int) (n : Nat) (p : Int) (f f' g : Nat → Int) (h : ∀ c, c < n → ∃ u, f c - f' c = p * u) (c : Nat) : ∃ u, bF T n f g c - bF T n f' g c = p * u := by
 refine ⟨bF T n (fun a => (f a - f' a) / p) g c, ?_⟩
 have e : bF T n f g c - bF T n f' g c = bF T n (fun a => f a + (-1) * f' a) g c := by rw [bF_left]; omega
 rw [e]
 unfold bF
 rw [← sumTo_mul]
 refine sumTo_congr fun a ha => ?_
 rw [← sumTo_mul]
 refine sumTo_congr fun b _ => ?_
 obtain ⟨u, hu⟩ := h a ha
 have hq : f a + -1 * f' a = p * ((f a - f' a) / p) := by
  rw [Int.mul_ediv_cancel_of_dvd ⟨u, hu⟩]; omega
 show (f a + -1 * f' a) * g b * t3 T n a b c = p * ((f a - f' a) / p * g b * t3 T n a b c)
 rw [hq]
 grind
theorem bF_mod_right (T : List Int) (n : Nat) (p : Int) (f g g' : Nat → Int) (h : ∀ c, c < n → ∃ u, g c - g' c = p * u) (c : Nat) : ∃ u, bF T n f g c - bF T n f g' c = p * u := by
 refine ⟨bF T n f (fun a => (g a - g' a) / p) c, ?_⟩
 have e : bF T n f g c - bF T n f g' c = bF T n f (fun a => g a + (-1) * g' a) c := by rw [bF_right]; omega
 rw [e]
 unfold bF
 rw [← sumTo_mul]
 refine sumTo_congr fun a _ => ?_
 rw [← sumTo_mul]
 refine sumTo_congr fun b hb => ?_
 obtain ⟨u, hu⟩ := h b hb
 have hq : g b + -1 * g' b = p * ((g b - g' b) / p) := by
  rw [Int.mul_ediv_cancel_of_dvd ⟨u, hu⟩]; omega
 show f a * (g b + -1 * g' b) * t3 T n a b c = p * (f a * ((g b - g' b) / p) * t3 T n a b c)
 rw [hq]
 grind
def brR (T : List Int) (n : Nat) (p : Int) (R S : List (List Int)) : List (List Int) := prodL T n p R.length (flat n R) S.length (flat n S)
theorem brR_mem {T : List Int} {n : Nat} {p : Int} {R S : List (List Int)} (hR : Wf p n R) (hS : Wf p n S) {i j : Nat} (hi : i < R.length) (hj : j < S.length) : braL T (rowOf R i) (rowOf S j) n p ∈ brR T n p R S := by
 unfold brR prodL prodTo
 refine List.mem_append_left _ (List.mem_flatMap.2 ⟨i, List.mem_range.2 hi, List.mem_map.2 ⟨j, List.mem_range.2 hj, ?_⟩⟩)
 rw [rowM_flat hi (hR i hi).1, rowM_flat hj (hS j hj).1]
theorem brR_row {T : List Int} {n : Nat} {p : Int} {R S : List (List Int)} (hR : Wf p n R) (hS : Wf p n S) {l : List Int} (h : l ∈ brR T n p R S) : ∃ i j, i < R.length ∧ j < S.length ∧ l = braL T (rowOf R i) (rowOf S j) n p := by
 unfold brR prodL prodTo at h
 simp only [List.mem_append, List.mem_flatMap, List.mem_map, List.mem_range, List.range_zero, List.map_nil, List.not_mem_nil, or_false] at h
 obtain ⟨i, hi, j, hj, rfl⟩ := h
 exact ⟨i, j, hi, hj, by rw [rowM_flat hi (hR i hi).1, rowM_flat hj (hS j hj).1]⟩
theorem Wf_brR {T : List Int} {n : Nat} {p : Int} (hp : 2 ≤ p) (R S : List (List Int)) : Wf p n (brR T n p R S) := Wf_prodTo hp _ _ _ _ _
theorem sp_mem {p : Int} {n : Nat} {R : List (List Int)} {l : List Int} (h : l ∈ R) : Sp p n R (vec l) := by
 obtain ⟨i, hi, rfl⟩ := List.mem_iff_getElem.1 h
 rw [rowOf_eq hi]
 exact .row i hi
theorem brR_bra {T : List Int} {n : Nat} {p : Int} {R S : List (List Int)} (hR : Wf p n R) (hS : Wf p n S) {f g : Nat → Int} (hf : Sp p n R f) (hg : Sp p n S g) : Sp p n (brR T n p R S) (bF T n f g) := by
 induction hf with
 | row i hi =>
  induction hg with
  | row j hj =>
   refine (sp_mem (brR_mem hR hS hi hj)).congr fun c hc => ?_
   rw [braL, vec_tab hc]
   obtain ⟨u, hu⟩ := emod_dvd (p := p) (a := bra1 T (rowOf R i) (rowOf S j) n n c)
   refine ⟨-u, ?_⟩
   show _ - bra1 T (rowOf R i) (rowOf S j) n n c = _
   grind
  | zero => exact Sp.zero.eqOn fun c _ => bF_zero_right _ _ _ _
  | comb k _ _ h1 h2 => exact (Sp.comb k h1 h2).eqOn fun c _ => bF_right _ _ _ _ _ _ _
  | congr _ h h1 => exact h1.congr fun c _ => bF_mod_right _ _ _ _ _ _ h c
 | zero => exact Sp.zero.eqOn fun c _ => bF_zero_left _ _ _ _
 | comb k _ _ h1 h2 => exact (Sp.comb k h1 h2).eqOn fun c _ => bF_left _ _ _ _ _ _ _
 | congr _ h h1 => exact h1.congr fun c _ => bF_mod_left _ _ _ _ _ _ h c
theorem brR_sub {T : List Int} {n : Nat} {p : Int} {R S R' S' : List (List Int)} (hR : Wf p n R) (hS : Wf p n S) (hR' : Wf p n R') (hS' : Wf p n S') (h1 : ∀ i, i < R'.length → Sp p n R (vec (rowOf R' i))) (h2 : ∀ i, i < S'.length → Sp p n S (vec (rowOf S' i))) {i : Nat} (hi : i < (brR T n p R' S').length) :
  Sp p n (brR T n p R S) (vec (rowOf (brR T n p R' S') i)) := by
 obtain ⟨a, b, ha, hb, e⟩ := brR_row hR' hS' (List.getElem_mem hi)
 rw [rowOf_eq hi] at e
 rw [e]
 refine (brR_bra hR hS (h1 a ha) (h2 b hb)).congr fun c hc => ?_
 rw [braL, vec_tab hc]
 obtain ⟨u, hu⟩ := emod_dvd (p := p) (a := bra1 T (rowOf R' a) (rowOf S' b) n n c)
 exact ⟨u, hu⟩
theorem length_le_of_nodup : ∀ {a b : List Nat}, a.Nodup → (∀ c, c ∈ a → c ∈ b) → a.length ≤ b.length
 | [], _, _, _ => Nat.zero_le _
 | x :: a, b, hn, h => by
  rw [List.nodup_cons] at hn
  have hx := h x (by simp)
  have := length_le_of_nodup (a := a) (b := b.erase x) hn.2 fun c hc => (List.mem_erase_of_ne (fun e => hn.1 (by rw [← e]; exact hc))).2 (h c (by simp [hc]))
  rw [List.length_erase_of_mem hx] at this
  have hb : 0 < b.length := List.length_pos_of_mem hx
  simp only [List.length_cons]
  omega
theorem Rf.nodup {p : Int} {n : Nat} {R : List (List Int)} {a : List Nat} (h : Rf p n R a) : a.Nodup := by
 refine List.Pairwise.imp (R := (· < ·)) (fun h => by omega) ?_
 rw [List.pairwise_iff_getElem]
 intro i j hi hj hij
 have := h.mono i j hij hj
 have e1 := pv_get hi
 have e2 := pv_get hj
 rw [List.getElem?_eq_getElem hi] at e1
 rw [List.getElem?_eq_getElem hj] at e2
 simp only [Option.some.injEq] at e1 e2
 omega
theorem Rf.length_le {p : Int} (hp : 2 ≤ p) {n : Nat} {R S : List (List Int)} {a b : List Nat} (h1 : Rf p n R a) (h2 : Rf p n S b) (h : ∀ i, i < R.length → Sp p n S (vec (rowOf R i))) : R.length ≤ S.length := by
 rw [h1.len, h2.len]
 exact length_le_of_nodup h1.nodup (h1.pivSub hp h2 h)
def uniR (n : Nat) : List (List Int) := rowsM n n (unitD n)
theorem vec_unitTo (n : Nat) : ∀ (k a b : Nat), k ≤ n → a < n → b < n → vec (unitTo n k) (a * n + b) = if a = b ∧ a < k then 1 else 0
 | 0, a, b, _, ha, hb => by
  simp [unitTo, vec, List.getD_eq_getElem?_getD, List.getElem?_replicate]; split <;> rfl
 | k + 1, a, b, hk, ha, hb => by
  have hlt : k * n + k < (unitTo n k).length := by
   rw [length_unitTo]
   have : k * n + n ≤ n * n := by rw [← Nat.succ_mul]; exact Nat.mul_le_mul_right n hk
   omega
  rw [unitTo, vec_set hlt, vec_unitTo n k a b (by omega) ha hb]
  by_cases e : a = k ∧ b = k
  ·rw [e.1, e.2, if_pos rfl, if_pos ⟨rfl, by omega⟩]
  ·have hne : a * n + b ≠ k * n + k := by
    intro h
    have h1 : a = k := by
     have : (a * n + b) / n = (k * n + k) / n := by rw [h]
     rw [Nat.add_comm (k * n), Nat.add_comm (a * n), Nat.add_mul_div_right _ _ (by omega), Nat.add_mul_div_right _ _ (by omega), Nat.div_eq_of_lt (show k < n by omega), Nat.div_eq_of_lt hb] at this
     omega
    subst h1
    omega
   rw [if_neg hne]
   by_cases e1 : a = b
   ·subst e1
    have : a ≠ k := fun h => e ⟨h, h⟩
    by_cases e2 : a < k
    ·rw [if_pos ⟨rfl, e2⟩, if_pos ⟨rfl, by omega⟩]
    ·rw [if_neg (by omega), if_neg (by omega)]
   ·rw [if_neg (fun h => e1 h.1), if_neg (fun h => e1 h.1)]
theorem length_uniR (n : Nat) : (uniR n).length = n := length_rowsM _ _ _
theorem vec_uniR {n a b : Nat} (ha : a < n) (hb : b < n) : vec (rowOf (uniR n) a) b = if a = b then 1 else 0 := by
 rw [uniR, rowOf_rowsM ha, rowM, vec_tab hb, unitD, vec_unitTo n n a b (Nat.le_refl _) ha hb]
 by_cases e : a = b
 ·rw [if_pos ⟨e, ha⟩, if_pos e]
 ·rw [if_neg (fun h => e h.1), if_neg e]
theorem Wf_uniR {p : Int} (hp : 2 ≤ p) (n : Nat) : Wf p n (uniR n) := Wf_rowsM (by omega) (resid_unitD hp n)
theorem flat_uniR (n : Nat) : flat n (uniR n) = unitD n := flat_rowsM (length_unitD n)
theorem pv_range {n i : Nat} (h : i < n) : pv (List.range n) i = i := by simp [pv, List.getD_eq_getElem?_getD, h]
theorem Rf_uniR {p : Int} (hp : 2 ≤ p) (n : Nat) : Rf p n (uniR n) (List.range n) where
 len := by rw [length_uniR, List.length_range]
 wf := Wf_uniR hp n
 lt i hi := by rw [List.length_range] at hi; rw [pv_range hi]; exact hi
 mono i j hij hj := by rw [List.length_range] at hj; rw [pv_range hj, pv_range (by omega)]; exact hij
 one i hi := by rw [List.length_range] at hi; rw [pv_range hi, vec_uniR hi hi, if_pos rfl]
 off i j hi hj hij := by rw [List.length_range] at hi hj; rw [pv_range hi, vec_uniR hj hi, if_neg (fun e => hij e.symm)]
 lead i c hi hc := by rw [List.length_range] at hi; rw [pv_range hi] at hc; rw [vec_uniR hi (by omega), if_neg (by omega)]
theorem sp_uniR (p : Int) (n : Nat) (f : Nat → Int) : Sp p n (uniR n) f := by
 have key : ∀ k, k ≤ n → Sp p n (uniR n) (fun c => sumTo k fun i => f i * vec (rowOf (uniR n) i) c) := by
  intro k
  induction k with
  | zero => intro _; exact Sp.zero.eqOn fun _ _ => rfl
  | succ k ih => intro hk; exact (Sp.comb (f k) (ih (by omega)) (.row k (by rw [length_uniR]; omega))).eqOn fun c _ => rfl
 refine (key n (Nat.le_refl _)).eqOn fun c hc => ?_
 rw [sumTo_congr (g := fun i => if i = c then f i else 0) (fun i hi => by rw [vec_uniR hi hc]; by_cases e : i = c <;> simp [e]), sumTo_single hc]
def stepS (k : Bool) (T : List Int) (n : Nat) (p : Int) (R : List (List Int)) : List (List Int) :=
 spanL p n (if k then brR T n p (uniR n) R else brR T n p R R)
structure SerOk (k : Bool) (T : List Int) (n : Nat) (p : Int) (R : List (List Int)) : Prop where
 rf : ∃ a, Rf p n R a
 sub : ∀ i, i < (stepS k T n p R).length → Sp p n R (vec (rowOf (stepS k T n p R) i))
theorem SerOk.wf {k : Bool} {T : List Int} {n : Nat} {p : Int} {R : List (List Int)} (h : SerOk k T n p R) : Wf p n R := by
 obtain ⟨a, ha⟩ := h.rf; exact ha.wf
theorem Wf_stepArg (k : Bool) (T : List Int) (n : Nat) {p : Int} (hp : 2 ≤ p) (R : List (List Int)) : Wf p n (if k then brR T n p (uniR n) R else brR T n p R R) := by
 split <;> exact Wf_brR hp _ _
theorem SerOk.next {k : Bool} {T : List Int} {n : Nat} {p : Int} (hP : isPrime p = true) {R : List (List Int)} (h : SerOk k T n p R) : SerOk k T n p (stepS k T n p R) := by
 have hp := (isPrime_bd hP).1
 have hrf : Rf p n (stepS k T n p R) (pivL p n (if k then brR T n p (uniR n) R else brR T n p R R)) := spanL_rf hP (Wf_stepArg k T n hp R)
 refine ⟨⟨_, hrf⟩, fun i hi => ?_⟩
 refine (spanL_in hP (Wf_stepArg k T n hp _) i hi).trans fun j hj => ?_
 refine Sp.trans (R := if k then brR T n p (uniR n) R else brR T n p R R) ?_ fun q hq => spanL_out hP (Wf_stepArg k T n hp R) q hq
 cases k with
 | true => exact brR_sub (Wf_uniR hp n) h.wf (Wf_uniR hp n) hrf.wf (fun _ _ => sp_uniR _ _ _) h.sub hj
 | false => exact brR_sub h.wf h.wf hrf.wf hrf.wf h.sub h.sub hj
theorem SerOk.le {k : Bool} {T : List Int} {n : Nat} {p : Int} (hP : isPrime p = true) {R : List (List Int)} (h : SerOk k T n p R) : (stepS k T n p R).length ≤ R.length := by
 obtain ⟨a, ha⟩ := h.rf
 obtain ⟨b, hb⟩ := (h.next hP).rf
 exact hb.length_le (isPrime_bd hP).1 ha h.sub
def serTo (k : Bool) (T : List Int) (n : Nat) (p : Int) : Nat → List (List Int) → List (List (List Int))
 | 0, R => [R]
 | f + 1, R => if (stepS k T n p R).length = R.length then [R] else R :: serTo k T n p f (stepS k T n p R)
def serL (k : Bool) (T : List Int) (n : Nat) (p : Int) : List (List (List Int)) := serTo k T n p n (uniR n)
structure SerAt (k : Bool) (T : List Int) (n : Nat) (p : Int) (pre : List (List (List Int))) (R : List (List Int)) : Prop where
 ok : SerOk k T n p R
 all : pre ++ serTo k T n p R.length R = serL k T n p
 len : pre.length + R.length ≤ n
end
end
section
open Go.RowKit
theorem Wf.app {p : Int} {n : Nat} {R S : List (List Int)} (h1 : Wf p n R) (h2 : Wf p n S) : Wf p n (R ++ S) := by
 intro i hi
 rw [List.length_append] at hi
 by_cases e : i < R.length
 ·rw [show rowOf (R ++ S) i = rowOf R i by simp [rowOf, List.getD_eq_getElem?_getD, List.getElem?_append_left e]]
  exact h1 i e
 ·rw [show rowOf (R ++ S) i = rowOf S (i - R.length) by simp [rowOf, List.getD_eq_getElem?_getD, List.getElem?_append_right (show R.length ≤ i by omega)]]
  exact h2 _ (by omega)
theorem rf_le_n {n : Nat} {p : Int} (hp : 2 ≤ p) {R : List (List Int)} {a : List Nat} (h : Rf p n R a) : R.length ≤ n := by
 have := h.length_le hp (Rf_uniR hp n) fun _ _ => sp_uniR _ _ _
 rwa [length_uniR] at this
end
end Go.Proofs.YtbnefjhljfbecaaGreatDoor
