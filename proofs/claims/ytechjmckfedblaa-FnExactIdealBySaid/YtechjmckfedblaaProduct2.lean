/- The program's product of two spaces. The reference's product of two spaces. -/
import Derived.Test.YtechjmckfedblaaSpace2
import Derived.Test.YtechjmckfedblaaL1Span
import Derived.Test.YtechjmckfedblaaAdjS
namespace Go.Proofs.Ytechjmckfedblaa
set_option maxRecDepth 100000
section
open Go.RowKit

/-- The brackets of the rows, row by row: those of the first i rows, and the first j of the next. -/
def prodTo (T : List Int) (n : Nat) (p : Int) (S : List Int) (rt : Nat) (U : List Int) (i j : Nat) : List (List Int) :=
  ((List.range i).flatMap fun a => (List.range rt).map fun b => braL T (rowM n S a) (rowM n U b) n p) ++ (List.range j).map fun b => braL T (rowM n S i) (rowM n U b) n p
def prodL (T : List Int) (n : Nat) (p : Int) (rs : Nat) (S : List Int) (rt : Nat) (U : List Int) : List (List Int) := prodTo T n p S rt U rs 0
theorem prodTo_zero (T : List Int) (n : Nat) (p : Int) (S : List Int) (rt : Nat) (U : List Int) : prodTo T n p S rt U 0 0 = [] := rfl
theorem prodTo_col (T : List Int) (n : Nat) (p : Int) (S : List Int) (rt : Nat) (U : List Int) (i j : Nat) : prodTo T n p S rt U i (j + 1) = prodTo T n p S rt U i j ++ [braL T (rowM n S i) (rowM n U j) n p] := by
  simp [prodTo, List.range_succ]
theorem prodTo_row (T : List Int) (n : Nat) (p : Int) (S : List Int) (rt : Nat) (U : List Int) (i : Nat) : prodTo T n p S rt U i rt = prodTo T n p S rt U (i + 1) 0 := by
  simp [prodTo, List.range_succ]
theorem length_prodTo (T : List Int) (n : Nat) (p : Int) (S : List Int) (rt : Nat) (U : List Int) (i j : Nat) : (prodTo T n p S rt U i j).length = i * rt + j := by
  induction i generalizing j with
  | zero => simp [prodTo]
  | succ i ih =>
    have := ih rt
    rw [prodTo_row] at this
    have e : (prodTo T n p S rt U (i + 1) j).length = (prodTo T n p S rt U (i + 1) 0).length + j := by simp [prodTo]
    rw [e, this, Nat.add_mul]; omega
theorem mem_prodTo {T : List Int} {n : Nat} {p : Int} {S : List Int} {rt : Nat} {U : List Int} {i j : Nat} {l : List Int} (h : l ∈ prodTo T n p S rt U i j) : ∃ a b, l = braL T (rowM n S a) (rowM n U b) n p := by
  simp only [prodTo, List.mem_append, List.mem_flatMap, List.mem_map] at h
  rcases h with ⟨a, _, b, _, rfl⟩ | ⟨b, _, rfl⟩
  · exact ⟨a, b, rfl⟩
  · exact ⟨i, b, rfl⟩
theorem Wf_prodTo {T : List Int} {n : Nat} {p : Int} (hp : 2 ≤ p) (S : List Int) (rt : Nat) (U : List Int) (i j : Nat) : Wf p n (prodTo T n p S rt U i j) := by
  intro k hk
  have hm : rowOf (prodTo T n p S rt U i j) k ∈ prodTo T n p S rt U i j := by rw [← rowOf_eq hk]; exact List.getElem_mem hk
  obtain ⟨a, b, e⟩ := mem_prodTo hm
  rw [e]
  exact ⟨length_braL _ _ _ _ _, resid_braL _ _ _ _ hp⟩

set_option maxHeartbeats 8000000 in
theorem product_any (p q1 q2 : Int) (n rs rt : Nat) (t s u : Value) (T S U : List Int) (w : World) (ht : Ints w t T) (hs : Ints w s S) (hu : Ints w u U) (hT : T.length = n * n * n) (hS : S.length = rs * n) (hU : U.length = rt * n) (hn : n ≤ 28) (hrs : rs ≤ 40) (hrt : rt ≤ 40)
    (hP : isPrime p = true) (rT : resid p T = true) (rS : resid p S = true) (rU : resid p U = true) :
    Calls Try.prog 90 #[.agg #[.int .i64 p, .int .i64 n, t], .agg #[.int .i64 q1, .int .i64 rs, .int .i64 n, s], .agg #[.int .i64 q2, .int .i64 rt, .int .i64 n, u]] w
      (RetMat w p (spanL p n (prodL T n p rs S rt U)).length n (spanM p n (prodL T n p rs S rt U))) := by
  obtain ⟨b1, b2⟩ := isPrime_bd hP
  have h1 := (((((((St.start w).arg ht).arg hs).arg hu).box [.int .i64 p, .int .i64 n, t] 76).box [.int .i64 q1, .int .i64 rs, .int .i64 n, s] 32).box [.int .i64 q2, .int .i64 rt, .int .i64 n, u] 32).box [.int .i64 0, .int .i64 0, .int .i64 0, .slice none 0 0] 32
  replace h1 := h1.emptyRows
  simp only [World.size_alloc] at h1
  obtain ⟨A, k, rfl, _, _, _⟩ := id ht
  obtain ⟨A1, k1, rfl, _, _, _⟩ := id hs
  obtain ⟨A2, k2, rfl, _, _, _⟩ := id hu
  have hbs := mul_le hrs (show n ≤ 40 by omega)
  have hbt := mul_le hrt (show n ≤ 40 by omega)
  have hst := mul_le hrs hrt
  have HT := Lib.hid hT
  have HSl := Lib.hid hS
  have HUl := Lib.hid hU
  have HP := Lib.hid hP
  have HLs := Lib.hid (length_rowsM rs n S)
  have HLt := Lib.hid (length_rowsM rt n U)
  have HWs := Lib.hid (Wf_rowsM (p := p) (by omega) (r := rs) (c := n) rS)
  have HWt := Lib.hid (Wf_rowsM (p := p) (by omega) (r := rt) (c := n) rU)
  have HRs := Lib.hid (fun (i : Nat) (hi : i < rs) => rowOf_rowsM (r := rs) (c := n) (D := S) hi)
  have HRt := Lib.hid (fun (i : Nat) (hi : i < rt) => rowOf_rowsM (r := rt) (c := n) (D := U) hi)
  obtain ⟨R, hR⟩ : ∃ R, R = spanM p n (prodL T n p rs S rt U) := ⟨_, rfl⟩
  obtain ⟨l, hl⟩ : ∃ l, l = (spanL p n (prodL T n p rs S rt U)).length := ⟨_, rfl⟩
  rw [← hR, ← hl]
  have HR := Lib.hid hR
  have Hll := Lib.hid hl
  clear ht hs hu hT hS hU hP hR hl
  obtain ⟨z0, z1, z2, z3⟩ := h1.box4 3 rfl
  go_enter Try.func90, Try.ntmps90
  go_wp2_with fail
  refine (rowsOf_any q1 rs n _ S _ (h1.roInts 6 rfl) HSl.out (by omega) (by omega)).mono ?_
  rintro (e : Ending) w8 ⟨vr, us1, rfl, hul1, hok, hnd, hb1⟩
  obtain ⟨Ar, cr, rfl, _, _, _⟩ := id (It.rows hok hul1)
  replace h1 := h1.pushRows hb1 hok hnd
  have Hul1 := Lib.hid (hul1.trans HLs.out)
  clear hok hnd hb1 z0 z1 z2 z3 hul1
  rw [HLs.out] at h1 ⊢
  go_wp2
  go_loopw [7, 9, 11, 16] (fun v7 v9 v11 v16 wr => ∃ (i : Nat) (us : List Value), v16 = .int .i64 i ∧ i ≤ rs ∧ Hid (us.length = i * rt) ∧ St w wr [rowsIt (.slice Ar rs cr) us1 (rowsM rs n S), rowsIt v7 us (prodTo T n p S rt U i 0), .box (w.heap.size + 1 + 1 + 1) [.int .i64 0, .int .i64 0, .int .i64 0, .slice none 0 0], .box (w.heap.size + 1 + 1) [.int .i64 q2, .int .i64 rt, .int .i64 n, .slice A2 U.length k2], .box (w.heap.size + 1) [.int .i64 q1, .int .i64 rs, .int .i64 n, .slice A1 S.length k1], .box w.heap.size [.int .i64 p, .int .i64 n, .slice A T.length k], .ro (.slice A2 U.length k2) U, .ro (.slice A1 S.length k1) S, .ro (.slice A T.length k) T]) (fun _ _ _ v16 _ => rs - (intOf v16).toNat)
  case atStart => exact ⟨0, [], rfl, by omega, by show _ = _; simp, h1⟩
  case round =>
    clear h1
    obtain ⟨i, us, rfl, a1, Hul, h1⟩ := hrel
    by_cases hi : i < rs
    · have hlen0 := length_prodTo T n p S rt U i 0
      have hirt : i * rt ≤ 1600 := by have := Nat.mul_le_mul (show i ≤ 40 by omega) hrt; omega
      obtain ⟨gr, rfl⟩ := h1.vecSome 0 rfl (by rw [HLs.out]; omega)
      obtain ⟨Ai, ci, hui, e0, _⟩ := h1.row 0 rfl (Hul1.out.trans HLs.out.symm) HLs.out.symm (k := i) (by rw [HLs.out]; exact hi)
      obtain ⟨z0, z1, z2, z3⟩ := h1.box4 3 rfl
      have Hui := Lib.hid hui
      have i1 : (i : Int) < rs := by omega
      clear hui hlen0
      go_wp2_with fail
      refine (rowsOf_any q2 rt n _ U _ (h1.roInts 6 rfl) HUl.out (by omega) (by omega)).mono ?_
      rintro (e : Ending) w9 ⟨vr, us2, rfl, hul2, hok, hnd, hb1⟩
      obtain ⟨At, ct, rfl, _, _, _⟩ := id (It.rows hok hul2)
      replace h1 := h1.pushRows hb1 hok hnd
      have Hul2 := Lib.hid (hul2.trans HLt.out)
      clear hok hnd hb1 z0 z1 z2 z3 hul2 e0
      rw [HLt.out] at h1 ⊢
      go_wp2
      go_loopw [7, 11, 23] (fun v7 v11 v23 wr => ∃ (j : Nat) (us : List Value), v23 = .int .i64 j ∧ j ≤ rt ∧ Hid (us.length = i * rt + j) ∧ St w wr [rowsIt (.slice At rt ct) us2 (rowsM rt n U), rowsIt (.slice (some ⟨gr, 0, none⟩) rs cr) us1 (rowsM rs n S), rowsIt v7 us (prodTo T n p S rt U i j), .box (w.heap.size + 1 + 1 + 1) [.int .i64 0, .int .i64 0, .int .i64 0, .slice none 0 0], .box (w.heap.size + 1 + 1) [.int .i64 q2, .int .i64 rt, .int .i64 n, .slice A2 U.length k2], .box (w.heap.size + 1) [.int .i64 q1, .int .i64 rs, .int .i64 n, .slice A1 S.length k1], .box w.heap.size [.int .i64 p, .int .i64 n, .slice A T.length k], .ro (.slice A2 U.length k2) U, .ro (.slice A1 S.length k1) S, .ro (.slice A T.length k) T]) (fun _ _ v23 _ => rt - (intOf v23).toNat)
      case atStart => exact ⟨0, us, rfl, by omega, by show _ = _; rw [Hul.out, Nat.add_zero], h1⟩
      case round =>
        clear h1 Hul
        obtain ⟨j, us, rfl, a2, Hul, h1⟩ := hrel
        by_cases hj : j < rt
        · have hlen0 := length_prodTo T n p S rt U i j
          obtain ⟨gt, rfl⟩ := h1.vecSome 0 rfl (by rw [HLt.out]; omega)
          obtain ⟨Aj, cj, huj, e0, _⟩ := h1.row 0 rfl (Hul2.out.trans HLt.out.symm) HLt.out.symm (k := j) (by rw [HLt.out]; exact hj)
          have Huj := Lib.hid huj
          have hl : us.length = (prodTo T n p S rt U i j).length := by rw [Hul.out, hlen0]
          have ht1 : (prodTo T n p S rt U i j).length + 1 ≤ 1099511627776 := by rw [hlen0]; omega
          have Hl := Lib.hid hl
          have Ht1 := Lib.hid ht1
          have HC := Lib.hid (prodTo_col T n p S rt U i j)
          have j1 : (j : Int) < rt := by omega
          obtain ⟨y0, y1, y2⟩ := h1.box3 6 rfl
          clear huj hl ht1 hlen0
          go_wp2_with fail
          refine (bracket_any p n _ _ _ T (rowOf (rowsM rs n S) i) (rowOf (rowsM rt n U) j) _ _ (h1.roUp 9 rfl) (h1.rowAt 1 rfl HLs.out.symm Hui.out (by rw [HLs.out]; exact hi)).2.toB (h1.rowAt 0 rfl HLt.out.symm Huj.out (by rw [HLt.out]; exact hj)).2.toB (Nat.le_refl _) HT.out (HWs.out i (by rw [HLs.out]; exact hi)).1 (HWt.out j (by rw [HLt.out]; exact hj)).1 hn b1 b2 rT (HWs.out i (by rw [HLs.out]; exact hi)).2 (HWt.out j (by rw [HLt.out]; exact hj)).2).mono ?_
          rintro (e : Ending) w7 ⟨x, rfl, ho, hb7⟩
          obtain ⟨A7, n7, c7, rfl⟩ := ho.slice
          have h2 := h1.pushOwn hb7 ho
          rw [bracketL_eq, HRs.out i hi, HRt.out j hj] at h2
          clear h1 ho hb7 y0 y1 y2 e0
          go_wp2_with (at_builtin; refine wp_append_row' rfl (.tmp 27) (.tmp 32) rfl h2 2 rfl Hl.out rfl rfl Ht1.out ?_; intro v1 w6 h3)
          go_roundw
          case rel => exact ⟨j + 1, us ++ [_], by go_num, by omega, by show _ = _; rw [List.length_append, Hul.out]; rfl, by rw [HC.out]; exact h3⟩
          case measure => simp [intOf]; omega
        · obtain rfl : j = rt := by omega
          have h2 := h1.drop 1
          have HC := Lib.hid (prodTo_row T n p S j U i)
          clear h1
          go_wp2
          go_roundw
          case rel => exact ⟨i + 1, us, by go_num, by omega, by show _ = _; rw [Hul.out, Nat.add_mul, Nat.one_mul], by rw [← HC.out]; exact h2⟩
          case measure => simp [intOf]; omega
    · obtain rfl : i = rs := by omega
      have hlen0 := length_prodTo T n p S rt U i 0
      have hin : i * rt * n ≤ 44800 := mul_le hst hn
      have hWq : Wf p n (prodL T n p i S rt U) := Wf_prodTo b1 _ _ _ _ _
      change St w _ (rowsIt _ _ _ :: rowsIt _ us (prodL T n p i S rt U) :: _) at h1
      change (prodL T n p i S rt U).length = i * rt + 0 at hlen0
      have hq := h1.rowsR 1 rfl (by rw [Hul.out, hlen0, Nat.add_zero])
      obtain ⟨A5, c5, rfl, _, _, _⟩ := id hq
      have hM := space_any p n A T.length k _ (prodL T n p i S rt U) _ hq hWq (by rw [hlen0]; simpa using (by omega : i * rt * n ≤ 4194304)) (by rw [hlen0]; omega) (by omega) HP.out
      rw [← HR.out, ← Hll.out] at hM
      have HM := Lib.hid hM
      obtain ⟨y0, y1, y2⟩ := h1.box3 5 rfl
      clear hM hWq hq hlen0 hin
      go_wp2_with fail
      refine HM.out.mono ?_
      rintro (e : Ending) w7 ⟨x, rfl, ho, hb7⟩
      obtain ⟨A7, c7, rfl, _, _, _⟩ := id ho.ints
      have h2 := h1.pushOwn hb7 ho
      clear ho hb7 h1 HM y0 y1 y2
      obtain ⟨z0, z1, z2, z3⟩ := h2.box4 3 rfl
      have f0 := h2.free 3 rfl 0
      have f1 := h2.free 3 rfl 1
      have f2 := h2.free 3 rfl 2
      have f3 := h2.free 3 rfl 3
      have h4 := (((h2.setBox 3 rfl 0 (.int .i64 p)).setBox 3 rfl 1 (.int .i64 l)).setBox 3 rfl 2 (.int .i64 n)).setBox 3 rfl 3 (.slice A7 R.length c7)
      obtain ⟨r0, r1, r2, r3⟩ := h4.box4 3 rfl
      go_wp2
      refine bodyPost_ret (v := .agg #[.int .i64 p, .int .i64 l, .int .i64 n, .slice A7 R.length c7]) (by simp [results, Try.results90, go_sem, r0, r1, r2, r3]) rfl ⟨_, rfl, h4.own 0 rfl, h4.below⟩
end
section
open Go.RowKit

set_option maxHeartbeats 8000000 in
theorem l2Product_any (p q1 q2 : Int) (n rs rt : Nat) (t s u : Value) (T S U : List Int) (w : World) (ht : Ints w t T) (hs : Ints w s S) (hu : Ints w u U) (hT : T.length = n * n * n) (hS : S.length = rs * n) (hU : U.length = rt * n) (hn : n ≤ 28) (hrs : rs ≤ 40) (hrt : rt ≤ 40)
    (hP : isPrime p = true) (rT : resid p T = true) (rS : resid p S = true) (rU : resid p U = true) :
    Calls Try.prog 87 #[.agg #[.int .i64 p, .int .i64 n, t], .agg #[.int .i64 q1, .int .i64 rs, .int .i64 n, s], .agg #[.int .i64 q2, .int .i64 rt, .int .i64 n, u]] w
      (RetMat w p (spanL p n (prodL T n p rs S rt U)).length n (spanM p n (prodL T n p rs S rt U))) := by
  obtain ⟨b1, b2⟩ := isPrime_bd hP
  have h1 := (((((((St.start w).arg ht).arg hs).arg hu).box [.int .i64 p, .int .i64 n, t] 30).box [.int .i64 q1, .int .i64 rs, .int .i64 n, s] 32).box [.int .i64 q2, .int .i64 rt, .int .i64 n, u] 32).box [.int .i64 0, .int .i64 0, .int .i64 0, .slice none 0 0] 32
  replace h1 := h1.emptyRows
  simp only [World.size_alloc] at h1
  obtain ⟨A, k, rfl, _, _, _⟩ := id ht
  obtain ⟨A1, k1, rfl, _, _, _⟩ := id hs
  obtain ⟨A2, k2, rfl, _, _, _⟩ := id hu
  have hbs := mul_le hrs (show n ≤ 40 by omega)
  have hbt := mul_le hrt (show n ≤ 40 by omega)
  have hst := mul_le hrs hrt
  have HT := Lib.hid hT
  have HSl := Lib.hid hS
  have HUl := Lib.hid hU
  obtain ⟨Q, hQ⟩ : ∃ Q, Q = prodL T n p rs S rt U := ⟨_, rfl⟩
  rw [← hQ]
  have HQ := Lib.hid hQ
  have hWq : Wf p n Q := by rw [hQ]; exact Wf_prodTo b1 _ _ _ _ _
  have hQl : Q.length = rs * rt := by rw [hQ, prodL, length_prodTo, Nat.add_zero]
  have hQn : rs * rt * n ≤ 44800 := mul_le hst hn
  have hfl := flat_flatten hWq
  have hfr := rowsM_flat hWq
  have hM := fun (W : World) (v : Value) (hi : IntRows W v Q) => l1Rows_any p n v Q W hi (by rw [total_wf hWq, hQl]; omega)
  rw [← hfl] at hM
  have hN := fun (W : World) (v : Value) (hi : Ints W v (flat n Q)) => l1Span_any p Q.length n v (flat n Q) W hi (length_flat n Q) (by rw [hQl]; omega) (by rw [hQl]; omega) (by omega) hP (resid_flat (by omega) hWq)
  rw [hfr] at hN
  obtain ⟨F, hF⟩ : ∃ F, F = flat n Q := ⟨_, rfl⟩
  obtain ⟨R, hR⟩ : ∃ R, R = spanM p n Q := ⟨_, rfl⟩
  obtain ⟨l, hl⟩ : ∃ l, l = (spanL p n Q).length := ⟨_, rfl⟩
  rw [← hF] at hM hN
  rw [← hR, ← hl] at hN ⊢
  have HM := Lib.hid hM
  have HN := Lib.hid hN
  clear ht hs hu hT hS hU hP hR hl hF hM hN hQ hWq hfl hfr hQn
  have hQl' := Lib.hid hQl
  clear hQl
  go_enter Try.func87, Try.ntmps87
  go_wp2
  go_loopw [7, 8, 9] (fun v7 v8 v9 wr => ∃ (i : Nat) (us : List Value), v8 = .int .i64 i ∧ i ≤ rs ∧ Hid (us.length = i * rt) ∧ St w wr [rowsIt v7 us (prodTo T n p S rt U i 0), .box (w.heap.size + 1 + 1 + 1) [.int .i64 0, .int .i64 0, .int .i64 0, .slice none 0 0], .box (w.heap.size + 1 + 1) [.int .i64 q2, .int .i64 rt, .int .i64 n, .slice A2 U.length k2], .box (w.heap.size + 1) [.int .i64 q1, .int .i64 rs, .int .i64 n, .slice A1 S.length k1], .box w.heap.size [.int .i64 p, .int .i64 n, .slice A T.length k], .ro (.slice A2 U.length k2) U, .ro (.slice A1 S.length k1) S, .ro (.slice A T.length k) T]) (fun _ v8 _ _ => rs - (intOf v8).toNat)
  case atStart => exact ⟨0, [], rfl, by omega, by show _ = _; simp, h1⟩
  case round =>
    clear h1
    obtain ⟨i, us, rfl, a1, Hul, h1⟩ := hrel
    obtain ⟨z0, z1, z2, z3⟩ := h1.box4 3 rfl
    by_cases hi : i < rs
    · have hirt : i * rt ≤ 1600 := by have := Nat.mul_le_mul (show i ≤ 40 by omega) hrt; omega
      go_wp2
      clear z0 z1 z2 z3
      go_loopw [7, 9] (fun v7 v9 wr => ∃ (j : Nat) (us : List Value), v9 = .int .i64 j ∧ j ≤ rt ∧ Hid (us.length = i * rt + j) ∧ St w wr [rowsIt v7 us (prodTo T n p S rt U i j), .box (w.heap.size + 1 + 1 + 1) [.int .i64 0, .int .i64 0, .int .i64 0, .slice none 0 0], .box (w.heap.size + 1 + 1) [.int .i64 q2, .int .i64 rt, .int .i64 n, .slice A2 U.length k2], .box (w.heap.size + 1) [.int .i64 q1, .int .i64 rs, .int .i64 n, .slice A1 S.length k1], .box w.heap.size [.int .i64 p, .int .i64 n, .slice A T.length k], .ro (.slice A2 U.length k2) U, .ro (.slice A1 S.length k1) S, .ro (.slice A T.length k) T]) (fun _ v9 _ => rt - (intOf v9).toNat)
      case atStart => exact ⟨0, us, rfl, by omega, by show _ = _; rw [Hul.out, Nat.add_zero], h1⟩
      case round =>
        clear h1 Hul
        obtain ⟨j, us, rfl, a2, Hul, h1⟩ := hrel
        obtain ⟨y0, y1, y2, y3⟩ := h1.box4 2 rfl
        by_cases hj : j < rt
        · have hlen0 := length_prodTo T n p S rt U i j
          have hl : us.length = (prodTo T n p S rt U i j).length := by rw [Hul.out, hlen0]
          have ht1 : (prodTo T n p S rt U i j).length + 1 ≤ 1099511627776 := by rw [hlen0]; omega
          have Hl := Lib.hid hl
          have Ht1 := Lib.hid ht1
          have HC := Lib.hid (prodTo_col T n p S rt U i j)
          obtain ⟨za0, za1, za2, za3⟩ := h1.box4 3 rfl
          obtain ⟨xa0, xa1, xa2⟩ := h1.box3 4 rfl
          have tk1 : True := trivial
          clear hl ht1 hlen0
          go_wp2
          go_region_held3 (fun w' => w'.cell? ⟨w.heap.size, 0, none⟩ = some (.int .i64 p) ∧ w'.cell? ⟨w.heap.size, 1, none⟩ = some (.int .i64 n) ∧ w'.cell? ⟨w.heap.size, 2, none⟩ = some (.slice A T.length k) ∧ w'.cell? ⟨w.heap.size + 1, 0, none⟩ = some (.int .i64 q1) ∧ w'.cell? ⟨w.heap.size + 1, 1, none⟩ = some (.int .i64 rs) ∧ w'.cell? ⟨w.heap.size + 1, 2, none⟩ = some (.int .i64 n) ∧ w'.cell? ⟨w.heap.size + 1, 3, none⟩ = some (.slice A1 S.length k1) ∧ w'.cell? ⟨w.heap.size + 1 + 1, 0, none⟩ = some (.int .i64 q2) ∧ w'.cell? ⟨w.heap.size + 1 + 1, 1, none⟩ = some (.int .i64 rt) ∧ w'.cell? ⟨w.heap.size + 1 + 1, 2, none⟩ = some (.int .i64 n) ∧ w'.cell? ⟨w.heap.size + 1 + 1, 3, none⟩ = some (.slice A2 U.length k2))
            (first | exact ⟨xa0, xa1, xa2, za0, za1, za2, za3, y0, y1, y2, y3⟩ | exact ⟨xb0, xb1, xb2, zb0, zb1, zb2, zb3, yb0, yb1, yb2, yb3⟩ | exact ⟨xc0, xc1, xc2, zc0, zc1, zc2, zc3, yc0, yc1, yc2, yc3⟩ | exact ⟨xd0, xd1, xd2, zd0, zd1, zd2, zd3, yd0, yd1, yd2, yd3⟩ | exact ⟨xe0, xe1, xe2, ze0, ze1, ze2, ze3, ye0, ye1, ye2, ye3⟩ | exact ⟨xf0, xf1, xf2, zf0, zf1, zf2, zf3, yf0, yf1, yf2, yf3⟩)
            (first
              | (go_at_call 106; have _t := tk1; refine (l1Row_any q1 rs n _ S i w.heap.size _ ?_ ?_ HSl.out (by omega) (by omega) hi).mono ?_; exact h1.drew.ro 6 rfl; exact h1.drew.size; rintro (e : Ending) w3 ⟨A5, c5, rfl, hr3, hb3⟩; have h2 := (h1.drew.on hb3).pushRo hr3; obtain ⟨xb0, xb1, xb2⟩ := h2.box3 5 rfl; obtain ⟨zb0, zb1, zb2, zb3⟩ := h2.box4 4 rfl; obtain ⟨yb0, yb1, yb2, yb3⟩ := h2.box4 3 rfl; clear tk1 _t)
              | (go_at_call 106; refine (l1Row_any q2 rt n _ U j w.heap.size _ ?_ ?_ HUl.out (by omega) (by omega) hj).mono ?_; exact h2.ro 6 rfl; exact h2.size; rintro (e : Ending) w4 ⟨A6, c6, rfl, hr4, hb4⟩; have h3 := (h2.on hb4).pushRo hr4; obtain ⟨xc0, xc1, xc2⟩ := h3.box3 6 rfl; obtain ⟨zc0, zc1, zc2, zc3⟩ := h3.box4 5 rfl; obtain ⟨yc0, yc1, yc2, yc3⟩ := h3.box4 4 rfl)
              | (go_at_call 105; refine (l2Bracket_any p n _ _ _ T (rowM n S i) (rowM n U j) _ _ (h3.roUp 9 rfl) (h3.roUp 1 rfl) (h3.roUp 0 rfl) (Nat.le_refl _) HT.out (length_rowM _ _ _) (length_rowM _ _ _) hn b1 b2 rT (resid_rowM (by omega) rS n i) (resid_rowM (by omega) rU n j)).mono ?_; rintro (e : Ending) w5 ⟨x, rfl, ho5, hb5⟩; obtain ⟨A7, n7, c7, rfl⟩ := ho5.slice; have h4 := h3.pushOwn hb5 ho5; obtain ⟨xd0, xd1, xd2⟩ := h4.box3 7 rfl; obtain ⟨zd0, zd1, zd2, zd3⟩ := h4.box4 6 rfl; obtain ⟨yd0, yd1, yd2, yd3⟩ := h4.box4 5 rfl; obtain ⟨xe0, xe1, xe2⟩ := (h4.alloc' (.cells #[.slice A7 n7 c7] 22)).box3 7 rfl; obtain ⟨ze0, ze1, ze2, ze3⟩ := (h4.alloc' (.cells #[.slice A7 n7 c7] 22)).box4 6 rfl; obtain ⟨ye0, ye1, ye2, ye3⟩ := (h4.alloc' (.cells #[.slice A7 n7 c7] 22)).box4 5 rfl)
              | (refine step_append_row rfl (.tmp 23) (.tmp 32) rfl h4 2 rfl Hl.out rfl rfl Ht1.out ?_; intro vv w6 h5; obtain ⟨xf0, xf1, xf2⟩ := h5.box3 6 rfl; obtain ⟨zf0, zf1, zf2, zf3⟩ := h5.box4 5 rfl; obtain ⟨yf0, yf1, yf2, yf3⟩ := h5.box4 4 rfl))
          clear h1 h2 h3 h4 xa0 xa1 xa2 za0 za1 za2 za3 y0 y1 y2 y3 xb0 xb1 xb2 zb0 zb1 zb2 zb3 yb0 yb1 yb2 yb3 xc0 xc1 xc2 zc0 zc1 zc2 zc3 yc0 yc1 yc2 yc3 xd0 xd1 xd2 zd0 zd1 zd2 zd3 yd0 yd1 yd2 yd3 xe0 xe1 xe2 ze0 ze1 ze2 ze3 ye0 ye1 ye2 ye3 xf0 xf1 xf2 zf0 zf1 zf2 zf3 yf0 yf1 yf2 yf3 hr3 hr4 hb3 hb4 ho5 hb5
          go_wp2
          go_roundw
          case rel => exact ⟨j + 1, us ++ [_], by go_num, by omega, by show _ = _; rw [List.length_append, Hul.out]; rfl, by rw [HC.out]; exact h5.drop 2⟩
          case measure => simp [intOf]; omega
        · obtain rfl : j = rt := by omega
          have HC := Lib.hid (prodTo_row T n p S j U i)
          go_wp2
          go_roundw
          case rel => exact ⟨i + 1, us, by go_num, by omega, by show _ = _; rw [Hul.out, Nat.add_mul, Nat.one_mul], by rw [← HC.out]; exact h1⟩
          case measure => simp [intOf]; omega
    · obtain rfl : i = rs := by omega
      change St w _ (rowsIt _ us (prodL T n p i S rt U) :: _) at h1
      rw [← HQ.out] at h1
      have HU1 : Hid (us.length = Q.length) := by show _ = _; rw [Hul.out, hQl'.out]
      obtain ⟨xa0, xa1, xa2⟩ := h1.box3 4 rfl
      go_wp2_with fail
      refine (HM.out _ _ (h1.rowsR 0 rfl HU1.out)).mono ?_
      rintro (e : Ending) w7 ⟨x, rfl, ho, hb7⟩
      obtain ⟨A7, c7, rfl, _, _, _⟩ := id ho.ints
      have h2 := h1.pushOwn hb7 ho
      clear ho hb7 h1 xa0 xa1 xa2
      go_wp2_with fail
      refine (HN.out _ _ (h2.ownInts 0 rfl)).mono ?_
      rintro (e : Ending) w8 ⟨x, rfl, ho, hb8⟩
      obtain ⟨A8, c8, rfl, _, _, _⟩ := id ho.ints
      have h3 := h2.pushOwn hb8 ho
      clear ho hb8 h2
      clear z0 z1 z2 z3
      obtain ⟨z0, z1, z2, z3⟩ := h3.box4 3 rfl
      have f0 := h3.free 3 rfl 0
      have f1 := h3.free 3 rfl 1
      have f2 := h3.free 3 rfl 2
      have f3 := h3.free 3 rfl 3
      have h4 := (((h3.setBox 3 rfl 0 (.int .i64 p)).setBox 3 rfl 1 (.int .i64 l)).setBox 3 rfl 2 (.int .i64 n)).setBox 3 rfl 3 (.slice A8 R.length c8)
      obtain ⟨r0, r1, r2, r3⟩ := h4.box4 3 rfl
      go_wp2
      refine bodyPost_ret (v := .agg #[.int .i64 p, .int .i64 l, .int .i64 n, .slice A8 R.length c8]) (by simp [results, Try.results87, go_sem, r0, r1, r2, r3]) rfl ⟨_, rfl, h4.own 0 rfl, h4.below⟩
end
end Go.Proofs.Ytechjmckfedblaa
