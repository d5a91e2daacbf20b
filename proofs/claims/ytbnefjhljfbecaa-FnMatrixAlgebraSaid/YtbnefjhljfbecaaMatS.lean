/- AlgebraOfMatrices of the reference, where it answers false. -/
import Derived.Test.YtbnefjhljfbecaaMatZ
namespace Go.Proofs.Ytbnefjhljfbecaa
set_option maxRecDepth 100000
open Go.RowKit
namespace Mx

/-- The brackets as the loops make them. -/
def brTo (p : Int) (s : Nat) (S : List (List Int)) (i j : Nat) : List (List Int) := (brA p s S).take (i * S.length + j)
theorem brTo_next {p : Int} {s : Nat} {S : List (List Int)} {i j : Nat} (hi : i < S.length) (hj : j < S.length) : brTo p s S i (j + 1) = brTo p s S i j ++ [comD p s (rowOf S i) (rowOf S j)] := by
  have h : i * S.length + j < (brA p s S).length := by rw [length_brA]; exact at_lt hi hj
  unfold brTo
  rw [← Nat.add_assoc, ds_take h, rowOf_brA p s S hi hj]
theorem brTo_row (p : Int) (s : Nat) (S : List (List Int)) (i : Nat) : brTo p s S i S.length = brTo p s S (i + 1) 0 := by unfold brTo; rw [Nat.succ_mul, Nat.add_zero]
theorem brTo_zero (p : Int) (s : Nat) (S : List (List Int)) : brTo p s S 0 0 = [] := by simp [brTo]
theorem brTo_end (p : Int) (s : Nat) (S : List (List Int)) : brTo p s S S.length 0 = brA p s S := by
  unfold brTo
  rw [List.take_of_length_le (by rw [length_brA]; omega)]
theorem length_brTo {p : Int} {s : Nat} {S : List (List Int)} {i j : Nat} (hi : i < S.length) (hj : j ≤ S.length) : (brTo p s S i j).length = i * S.length + j := by
  unfold brTo
  rw [List.length_take, length_brA]
  have : (i + 1) * S.length ≤ S.length * S.length := Nat.mul_le_mul_right _ hi
  rw [Nat.succ_mul] at this
  omega

set_option maxHeartbeats 8000000 in
theorem AlgebraOfMatricesS_any (p : Int) (s : Nat) (v : Value) (ms : List Mt) (w : World) (hv : MatsR w v ms) (hP : isPrime p = true) (hs : s ≤ 3) (hG : GoodMs p s ms) (hn1 : 1 ≤ ms.length) (hn : ms.length ≤ 28) (hf : fine p s (ms.map Mt.d) = false) :
    Calls Try.prog 7 #[v] w (RetAlgB w 0 0 [] false) := by
  obtain ⟨b1, b2⟩ := isPrime_bd hP
  have hss : s * s ≤ 9 := Nat.mul_le_mul hs hs
  have hS := hG.wf
  have hM := hG.get
  have hSl : (ms.map Mt.d).length = ms.length := List.length_map _
  obtain ⟨S, hSd⟩ : ∃ S, S = ms.map Mt.d := ⟨_, rfl⟩
  rw [← hSd] at hS hM hSl hf
  obtain ⟨A, k0, rfl, _, _, _⟩ := id hv
  have h0m : 0 < ms.length := by omega
  obtain ⟨bb, off, A0, c0, rfl, hm0⟩ := hv.at (i := 0) h0m
  rw [hM 0 h0m] at hm0
  rw [show (Mt.mk p s s (rowOf S 0)).d.length = s * s from (hS 0 (by omega)).1] at hm0
  have HK0 := hm0.fact
  have hfs := fine_spec hP hS hf
  have hQw := Wf_brA (s := s) (S := S) hP
  have hQl := length_brA p s S
  have hfl : (flat (s * s) S).length = S.length * (s * s) := length_flat _ _
  have hfr : resid p (flat (s * s) S) = true := resid_flat (by omega) hS
  have hbd : S.length * (s * s) ≤ 252 := by have := Nat.mul_le_mul (show S.length ≤ 28 by omega) hss; omega
  have hRw := fun (W : World) (v : Value) (x1 : IntRows W v S) => (show Calls Try.prog 30 #[.int .i64 p, .int .i64 ((s * s : Nat) : Int), v] W (RetMat W p S.length ((s * s : Nat) : Int) (flat (s * s) S)) by
    rw [flat_flatten hS]
    exact l1Rows_any p (s * s) v S W x1 (by rw [total_wf hS]; omega))
  have hRe := fun (W : World) (v : Value) (x1 : Ints W v (flat (s * s) S)) => l1Reduce_any p S.length (s * s) v _ W x1 hfl (by omega) (by omega) (by omega) hP hfr
  rw [rowsM_flat hS] at hRe
  have hTb := fun (W : World) (v1 v2 : Value) (x1 : Ints W v1 (flat (s * s) S)) (x2 : IntRows W v2 (brA p s S)) => l2Table_any p S.length (s * s) v1 v2 _ _ W x1 x2 hfl hQw hQl (by omega) (by omega) hP hfr
  have hCm := fun (W : World) (t u : Value) (D E : List Int) (ht : Ints W t D) (hu : Ints W u E) (h1 : D.length = s * s) (h2 : E.length = s * s) (h3 : resid p D = true) (h4 : resid p E = true) => l1Commutator_any p s t u D E W ht hu h1 h2 (by omega) b1 b2 h3 h4
  have hMk := fun (W : World) (a : Value) (D : List Int) (ha : Ints W a D) (hD : D.length = s * s) (rD : resid p D = true) => (show Calls Try.prog 29 #[.agg #[.int .i64 p, .int .i64 s, .int .i64 s, a]] W (RetBool W true) by
    have := MatrixOkS_any p s s a D W ha (by omega)
    rwa [matOk_of hP (by omega) hD rD] at this)
  have hbn := fun (i j : Nat) (hi : i < S.length) (hj : j < S.length) => brTo_next (p := p) (s := s) (S := S) hi hj
  have hbr := fun (i : Nat) => brTo_row p s S i
  have hbz := brTo_zero p s S
  have hbe := brTo_end p s S
  have hbl := fun (i j : Nat) (hi : i < S.length) (hj : j ≤ S.length) => length_brTo (p := p) (s := s) (S := S) hi hj
  obtain ⟨Q, hQ⟩ : ∃ Q, Q = brA p s S := ⟨_, rfl⟩
  obtain ⟨F, hF⟩ : ∃ F, F = flat (s * s) S := ⟨_, rfl⟩
  obtain ⟨pl, hpl⟩ : ∃ pl, pl = pivL p (s * s) S := ⟨_, rfl⟩
  obtain ⟨Z, hZ⟩ : ∃ Z, Z = (reduceL p (s * s) S).1 := ⟨_, rfl⟩
  have hpl2 : (reduceL p (s * s) S).2 = pl := hpl.symm
  rw [hpl2, ← hZ, ← hF] at hRe
  rw [← hF, ← hQ] at hTb hfs
  rw [← hpl] at hfs
  rw [← hF] at hRw
  rw [← hQ] at hbe
  obtain ⟨m2, hm2⟩ : ∃ m2, m2 = s * s := ⟨_, rfl⟩
  rw [← hm2] at hRe hTb hfs hRw hss hCm hMk
  have hW := fun (i : Nat) (hi : i < S.length) => hS i hi
  rw [← hm2] at hW
  obtain ⟨n, hnn⟩ : ∃ n, n = ms.length := ⟨_, rfl⟩
  rw [← hnn] at hSl hv hn hn1 h0m ⊢
  rw [hSl] at hRe hTb hfs hRw hbn hbr hbe hbl
  obtain ⟨tk, htk⟩ : ∃ tk, tk = tabOk p n m2 F Q := ⟨_, rfl⟩
  rw [← htk] at hTb hfs
  rw [← hm2] at HK0
  have h1 := ((((St.start w).pushFact hv.fact).pushOld HK0).box [.int .i64 0, .int .i64 0, .slice none 0 0] 28).emptyRb
  simp only [World.size_alloc] at h1
  have HS := Lib.hid hSl
  have HV := Lib.hid hv
  have HM := Lib.hid hM
  have HW := Lib.hid hW
  have HTb := Lib.hid hTb
  have HRe := Lib.hid hRe
  have HRw := Lib.hid hRw
  have HCm := Lib.hid hCm
  have HMk := Lib.hid hMk
  have Hfs := Lib.hid hfs
  have Hbn := Lib.hid hbn
  have Hbr := Lib.hid hbr
  have Hbz := Lib.hid hbz
  have Hbe := Lib.hid hbe
  have Hbl := Lib.hid hbl
  have Hnn := Lib.hid hnn
  have Hm2 := Lib.hid hm2
  have t1 : (p != p) = false := by simp
  have t2 : ((s : Int) != (s : Int)) = false := by simp
  have i0 : (0 : Int) < (n : Int) := by omega
  have i00 : 0 < n := by omega
  clear hm0 hTb hRe hRw hCm hMk hfs hbn hbr hbz hbe hbl hW hQ hF hpl hZ hpl2 hm2 hnn htk hSl hS hM hG hv hSd HK0 h0m hQw hQl hfl hfr hbd hf
  have hA1 : ¬ ((n : Int) < 1) := by omega
  have hA2 : ¬ ((n : Int) > 28) := by omega
  go_enter Try.func7, Try.ntmps7
  go_wp2
  go_loopw [4, 5] (fun v4 v5 wr => ∃ (i : Nat) (us : List Value), v5 = .int .i64 i ∧ i ≤ n ∧ Hid (RBor w us (S.take i)) ∧ St w wr [rbIt v4 us, .box w.heap.size [.int .i64 0, .int .i64 0, .slice none 0 0], .fact fun w' => MtAt w' bb (off + 0 * 4) ⟨p, s, s, rowOf S 0⟩ (.slice A0 m2 c0), .fact fun w' => MatsR w' (.slice (some ⟨bb, off, none⟩) n k0) ms]) (fun _ v5 _ => n - (intOf v5).toNat)
  case atStart => exact ⟨0, [], rfl, by omega, Lib.hid (by rw [List.take_zero]; exact RBor.nil w), h1⟩
  case round =>
    clear h1
    obtain ⟨i, us, rfl, a1, Hb, g⟩ := hrel
    by_cases hi : i < n
    · have him : i < ms.length := by rw [← Hnn.out]; exact hi
      have hiS : i < S.length := by rw [HS.out]; exact hi
      obtain ⟨bb2, off2, A9, c9, hA, hmf⟩ := HV.out.at (i := i) him
      simp only [Option.some.injEq, Addr.mk.injEq, and_true] at hA
      obtain ⟨rfl, rfl⟩ := hA
      rw [HM.out i him] at hmf
      have hw := HW.out i hiS
      have HN := Lib.hid (ds_take hiS)
      obtain ⟨D, hD⟩ : ∃ D, D = rowOf S i := ⟨_, rfl⟩
      rw [← hD] at hmf hw HN
      have HB2 := Lib.hid (show RBor w (us ++ [Value.slice A9 m2 c9]) (S.take (i + 1)) by
        rw [HN.out]
        have h9 := hmf.2.2.2.2
        rw [show (Mt.mk p s s D).d.length = m2 from hw.1] at h9
        exact Hb.out.snoc h9)
      rw [show (Mt.mk p s s D).d.length = m2 from hw.1] at hmf
      have Hul := Lib.hid (show us.length + 1 ≤ 1099511627776 by rw [Hb.out.1, List.length_take]; omega)
      have g1 := g.pushOld hmf.fact
      have i1 : (i : Int) < (n : Int) := by omega
      have HMk2 := Lib.hid (fun (W : World) (a : Value) (ha : Ints W a D) => HMk.out W a D ha hw.1 hw.2)
      clear hmf hD hw him hiS g Hb HN
      go_upto_region 7 with fail
      have g2 := g1.drew
      refine wp_region_held_drew (S := fun w' => (w'.cell? ⟨bb, off + i * 4, none⟩ = some (.int .i64 p) ∧ w'.cell? ⟨bb, off + i * 4 + 1, none⟩ = some (.int .i64 s) ∧ w'.cell? ⟨bb, off + i * 4 + 2, none⟩ = some (.int .i64 s) ∧ w'.cell? ⟨bb, off + i * 4 + 3, none⟩ = some (.slice A9 m2 c9)) ∧ w'.cell? ⟨bb, off, none⟩ = some (.int .i64 p) ∧ w'.cell? ⟨bb, off + 1, none⟩ = some (.int .i64 s)) (by kernel_rfl) ⟨MtAt.four (g2.fact 0 rfl), (g2.fact 3 rfl).1, (g2.fact 3 rfl).2.1⟩ (fun hHeld => ?_)
      refine anyH_take (v := ?_) 0 rfl (by kernel_rfl) (by kernel_rfl) (by kernel_rfl) (fun _ _ _ h => h) rfl ?_ hHeld ?_
      rotate_left
      · intro w' hSw
        go_simp
        try with_reducible rfl
      try simp only [Act.put, List.setIfInBounds_toArray, List.set_cons_zero, List.set_cons_succ]
      refine anyH_take (v := ?_) 1 rfl (by kernel_rfl) (by kernel_rfl) (by kernel_rfl) (fun _ _ _ h => h) rfl ?_ hHeld ?_
      rotate_left
      · intro w' hSw
        go_simp
        try with_reducible rfl
      try simp only [Act.put, List.setIfInBounds_toArray, List.set_cons_zero, List.set_cons_succ]
      refine anyH_take (v := ?_) 2 rfl (by kernel_rfl) (by kernel_rfl) (by kernel_rfl) (fun _ _ _ h => h) rfl ?_ hHeld ?_
      rotate_left
      · intro w' hSw
        go_simp
        try with_reducible rfl
      try simp only [Act.put, List.setIfInBounds_toArray, List.set_cons_zero, List.set_cons_succ]
      refine anyH_take (v := ?_) 3 rfl (by kernel_rfl) (by kernel_rfl) (by kernel_rfl) (fun _ _ _ h => h) rfl ?_ hHeld ?_
      rotate_left
      · intro w' hSw
        go_simp
        try with_reducible rfl
      try simp only [Act.put, List.setIfInBounds_toArray, List.set_cons_zero, List.set_cons_succ]
      refine wpAnyH_ready (rs := [4]) (by kernel_rfl) (by simp) ?_
      refine ready_cons rfl (fun K hK => ?_) AllReadyH.nil
      go_simp
      refine (HMk2.out _ _ (g2.fact 0 rfl).2.2.2.2).mono ?_
      rintro (e : Ending) w5 ⟨rfl, hb5⟩
      have g3 := g2.on hb5
      show K _ _
      refine hK.out _ _ ?_ (fun hHeld => ?_)
      · exact ⟨MtAt.four (g3.fact 0 rfl), (g3.fact 3 rfl).1, (g3.fact 3 rfl).2.1⟩
      clear hK K
      try simp only [Act.put, List.setIfInBounds_toArray, List.set_cons_zero, List.set_cons_succ]
      refine anyH_take (v := ?_) 5 rfl (by kernel_rfl) (by kernel_rfl) (by kernel_rfl) (fun _ _ _ h => h) rfl ?_ hHeld ?_
      rotate_left
      · intro w' hSw
        go_simp
        try with_reducible rfl
      try simp only [Act.put, List.setIfInBounds_toArray, List.set_cons_zero, List.set_cons_succ]
      refine anyH_take (v := ?_) 6 rfl (by kernel_rfl) (by kernel_rfl) (by kernel_rfl) (fun _ _ _ h => h) rfl ?_ hHeld ?_
      rotate_left
      · intro w' hSw
        go_simp
        try with_reducible rfl
      try simp only [Act.put, List.setIfInBounds_toArray, List.set_cons_zero, List.set_cons_succ]
      refine anyH_take (v := ?_) 7 rfl (by kernel_rfl) (by kernel_rfl) (by kernel_rfl) (fun _ _ _ h => h) rfl ?_ hHeld ?_
      rotate_left
      · intro w' hSw
        go_simp
        try with_reducible rfl
      try simp only [Act.put, List.setIfInBounds_toArray, List.set_cons_zero, List.set_cons_succ]
      refine anyH_take (v := ?_) 8 rfl (by kernel_rfl) (by kernel_rfl) (by kernel_rfl) (fun _ _ _ h => h) rfl ?_ hHeld ?_
      rotate_left
      · intro w' hSw
        go_simp
        try with_reducible rfl
      try simp only [Act.put, List.setIfInBounds_toArray, List.set_cons_zero, List.set_cons_succ]
      refine anyH_take (v := ?_) 9 rfl (by kernel_rfl) (by kernel_rfl) (by kernel_rfl) (fun _ _ _ h => h) rfl ?_ hHeld ?_
      rotate_left
      · intro w' hSw
        go_simp
        try with_reducible rfl
      try simp only [Act.put, List.setIfInBounds_toArray, List.set_cons_zero, List.set_cons_succ]
      refine anyH_take (v := ?_) 10 rfl (by kernel_rfl) (by kernel_rfl) (by kernel_rfl) (fun _ _ _ h => h) rfl ?_ hHeld ?_
      rotate_left
      · intro w' hSw
        go_simp
        try with_reducible rfl
      try simp only [Act.put, List.setIfInBounds_toArray, List.set_cons_zero, List.set_cons_succ]
      refine anyH_take (v := ?_) 11 rfl (by kernel_rfl) (by kernel_rfl) (by kernel_rfl) (fun _ _ _ h => h) rfl ?_ hHeld ?_
      rotate_left
      · intro w' hSw
        go_simp
        try with_reducible rfl
      try simp only [Act.put, List.setIfInBounds_toArray, List.set_cons_zero, List.set_cons_succ]
      refine anyH_take (v := ?_) 12 rfl (by kernel_rfl) (by kernel_rfl) (by kernel_rfl) (fun _ _ _ h => h) rfl ?_ hHeld ?_
      rotate_left
      · intro w' hSw
        go_simp
        try with_reducible rfl
      try simp only [Act.put, List.setIfInBounds_toArray, List.set_cons_zero, List.set_cons_succ]
      refine anyH_take (v := ?_) 13 rfl (by kernel_rfl) (by kernel_rfl) (by kernel_rfl) (fun _ _ _ h => h) rfl ?_ hHeld ?_
      rotate_left
      · intro w' hSw
        go_simp
        try with_reducible rfl
      try simp only [Act.put, List.setIfInBounds_toArray, List.set_cons_zero, List.set_cons_succ]
      refine anyH_take (v := ?_) 14 rfl (by kernel_rfl) (by kernel_rfl) (by kernel_rfl) (fun _ _ _ h => h) rfl ?_ hHeld ?_
      rotate_left
      · intro w' hSw
        go_simp
        try with_reducible rfl
      try simp only [Act.put, List.setIfInBounds_toArray, List.set_cons_zero, List.set_cons_succ]
      refine anyH_take (v := ?_) 15 rfl (by kernel_rfl) (by kernel_rfl) (by kernel_rfl) (fun _ _ _ h => h) rfl ?_ hHeld ?_
      rotate_left
      · intro w' hSw
        go_simp
        try with_reducible rfl
      try simp only [Act.put, List.setIfInBounds_toArray, List.set_cons_zero, List.set_cons_succ]
      refine anyH_take (v := ?_) 16 rfl (by kernel_rfl) (by kernel_rfl) (by kernel_rfl) (fun _ _ _ h => h) rfl ?_ hHeld ?_
      rotate_left
      · intro w' hSw
        go_simp
        try with_reducible rfl
      try simp only [Act.put, List.setIfInBounds_toArray, List.set_cons_zero, List.set_cons_succ]
      refine anyH_take (v := ?_) 17 rfl (by kernel_rfl) (by kernel_rfl) (by kernel_rfl) (fun _ _ _ h => h) rfl ?_ hHeld ?_
      rotate_left
      · intro w' hSw
        go_simp
        try with_reducible rfl
      try simp only [Act.put, List.setIfInBounds_toArray, List.set_cons_zero, List.set_cons_succ]
      refine anyH_take (v := ?_) 18 rfl (by kernel_rfl) (by kernel_rfl) (by kernel_rfl) (fun _ _ _ h => h) rfl ?_ hHeld ?_
      rotate_left
      · intro w' hSw
        go_simp
        try with_reducible rfl
      try simp only [Act.put, List.setIfInBounds_toArray, List.set_cons_zero, List.set_cons_succ]
      refine anyH_take (v := ?_) 19 rfl (by kernel_rfl) (by kernel_rfl) (by kernel_rfl) (fun _ _ _ h => h) rfl ?_ hHeld ?_
      rotate_left
      · intro w' hSw
        go_simp
        try with_reducible rfl
      try simp only [Act.put, List.setIfInBounds_toArray, List.set_cons_zero, List.set_cons_succ]
      refine anyH_take (v := ?_) 20 rfl (by kernel_rfl) (by kernel_rfl) (by kernel_rfl) (fun _ _ _ h => h) rfl ?_ hHeld ?_
      rotate_left
      · intro w' hSw
        go_simp
        try with_reducible rfl
      try simp only [Act.put, List.setIfInBounds_toArray, List.set_cons_zero, List.set_cons_succ]
      refine anyH_take (v := ?_) 21 rfl (by kernel_rfl) (by kernel_rfl) (by kernel_rfl) (fun _ _ _ h => h) rfl ?_ hHeld ?_
      rotate_left
      · intro w' hSw
        go_simp
        try with_reducible rfl
      try simp only [Act.put, List.setIfInBounds_toArray, List.set_cons_zero, List.set_cons_succ]
      refine anyH_take (v := ?_) 22 rfl (by kernel_rfl) (by kernel_rfl) (by kernel_rfl) (fun _ _ _ h => h) rfl ?_ hHeld ?_
      rotate_left
      · intro w' hSw
        go_simp
        try with_reducible rfl
      try simp only [Act.put, List.setIfInBounds_toArray, List.set_cons_zero, List.set_cons_succ]
      refine anyH_take (v := ?_) 23 rfl (by kernel_rfl) (by kernel_rfl) (by kernel_rfl) (fun _ _ _ h => h) rfl ?_ hHeld ?_
      rotate_left
      · intro w' hSw
        go_simp
        try with_reducible rfl
      try simp only [Act.put, List.setIfInBounds_toArray, List.set_cons_zero, List.set_cons_succ]
      refine anyH_take (v := ?_) 24 rfl (by kernel_rfl) (by kernel_rfl) (by kernel_rfl) (fun _ _ _ h => h) rfl ?_ hHeld ?_
      rotate_left
      · intro w' hSw
        go_simp
        try with_reducible rfl
      try simp only [Act.put, List.setIfInBounds_toArray, List.set_cons_zero, List.set_cons_succ]
      refine anyH_take (v := ?_) 25 rfl (by kernel_rfl) (by kernel_rfl) (by kernel_rfl) (fun _ _ _ h => h) rfl ?_ hHeld ?_
      rotate_left
      · intro w' hSw
        go_simp
        try with_reducible rfl
      try simp only [Act.put, List.setIfInBounds_toArray, List.set_cons_zero, List.set_cons_succ]
      refine anyH_take (v := ?_) 26 rfl (by kernel_rfl) (by kernel_rfl) (by kernel_rfl) (fun _ _ _ h => h) rfl ?_ hHeld ?_
      rotate_left
      · intro w' hSw
        go_simp
        try with_reducible rfl
      try simp only [Act.put, List.setIfInBounds_toArray, List.set_cons_zero, List.set_cons_succ]
      refine anyH_take (v := ?_) 27 rfl (by kernel_rfl) (by kernel_rfl) (by kernel_rfl) (fun _ _ _ h => h) rfl ?_ hHeld ?_
      rotate_left
      · intro w' hSw
        go_simp
        try with_reducible rfl
      try simp only [Act.put, List.setIfInBounds_toArray, List.set_cons_zero, List.set_cons_succ]
      refine anyH_take (v := ?_) 28 rfl (by kernel_rfl) (by kernel_rfl) (by kernel_rfl) (fun _ _ _ h => h) rfl ?_ hHeld ?_
      rotate_left
      · intro w' hSw
        go_simp
        try with_reducible rfl
      try simp only [Act.put, List.setIfInBounds_toArray, List.set_cons_zero, List.set_cons_succ]
      refine anyH_take (v := ?_) 29 rfl (by kernel_rfl) (by kernel_rfl) (by kernel_rfl) (fun _ _ _ h => h) rfl ?_ hHeld ?_
      rotate_left
      · intro w' hSw
        go_simp
        try with_reducible rfl
      try simp only [Act.put, List.setIfInBounds_toArray, List.set_cons_zero, List.set_cons_succ]
      refine anyH_take (v := ?_) 30 rfl (by kernel_rfl) (by kernel_rfl) (by kernel_rfl) (fun _ _ _ h => h) rfl ?_ hHeld ?_
      rotate_left
      · intro w' hSw
        go_simp
        try with_reducible rfl
      try simp only [Act.put, List.setIfInBounds_toArray, List.set_cons_zero, List.set_cons_succ]
      refine anyH_take (v := ?_) 31 rfl (by kernel_rfl) (by kernel_rfl) (by kernel_rfl) (fun _ _ _ h => h) rfl ?_ hHeld ?_
      rotate_left
      · intro w' hSw
        go_simp
        try with_reducible rfl
      try simp only [Act.put, List.setIfInBounds_toArray, List.set_cons_zero, List.set_cons_succ]
      refine anyH_take (v := ?_) 32 rfl (by kernel_rfl) (by kernel_rfl) (by kernel_rfl) (fun _ _ _ h => h) rfl ?_ hHeld ?_
      rotate_left
      · intro w' hSw
        go_simp
        try with_reducible rfl
      try simp only [Act.put, List.setIfInBounds_toArray, List.set_cons_zero, List.set_cons_succ]
      refine anyH_take (v := ?_) 33 rfl (by kernel_rfl) (by kernel_rfl) (by kernel_rfl) (fun _ _ _ h => h) rfl ?_ hHeld ?_
      rotate_left
      · intro w' hSw
        go_simp
        try with_reducible rfl
      try simp only [Act.put, List.setIfInBounds_toArray, List.set_cons_zero, List.set_cons_succ]
      refine anyH_take (v := ?_) 34 rfl (by kernel_rfl) (by kernel_rfl) (by kernel_rfl) (fun _ _ _ h => h) rfl ?_ hHeld ?_
      rotate_left
      · intro w' hSw
        go_simp
        try with_reducible rfl
      try simp only [Act.put, List.setIfInBounds_toArray, List.set_cons_zero, List.set_cons_succ]
      refine anyH_take (v := ?_) 35 rfl (by kernel_rfl) (by kernel_rfl) (by kernel_rfl) (fun _ _ _ h => h) rfl ?_ hHeld ?_
      rotate_left
      · intro w' hSw
        go_simp
        try with_reducible rfl
      try simp only [Act.put, List.setIfInBounds_toArray, List.set_cons_zero, List.set_cons_succ]
      refine anyH_take (v := ?_) 36 rfl (by kernel_rfl) (by kernel_rfl) (by kernel_rfl) (fun _ _ _ h => h) rfl ?_ hHeld ?_
      rotate_left
      · intro w' hSw
        go_simp
        try with_reducible rfl
      try simp only [Act.put, List.setIfInBounds_toArray, List.set_cons_zero, List.set_cons_succ]
      refine anyH_take (v := ?_) 37 rfl (by kernel_rfl) (by kernel_rfl) (by kernel_rfl) (fun _ _ _ h => h) rfl ?_ hHeld ?_
      rotate_left
      · intro w' hSw
        go_simp
        try with_reducible rfl
      try simp only [Act.put, List.setIfInBounds_toArray, List.set_cons_zero, List.set_cons_succ]
      refine anyH_take (v := ?_) 38 rfl (by kernel_rfl) (by kernel_rfl) (by kernel_rfl) (fun _ _ _ h => h) rfl ?_ hHeld ?_
      rotate_left
      · intro w' hSw
        go_simp
        try with_reducible rfl
      try simp only [Act.put, List.setIfInBounds_toArray, List.set_cons_zero, List.set_cons_succ]
      refine anyH_take (v := ?_) 39 rfl (by kernel_rfl) (by kernel_rfl) (by kernel_rfl) (fun _ _ _ h => h) rfl ?_ hHeld ?_
      rotate_left
      · intro w' hSw
        go_simp
        try with_reducible rfl
      try simp only [Act.put, List.setIfInBounds_toArray, List.set_cons_zero, List.set_cons_succ]
      refine anyH_take (v := ?_) 40 rfl (by kernel_rfl) (by kernel_rfl) (by kernel_rfl) (fun _ _ _ h => h) rfl ?_ hHeld ?_
      rotate_left
      · intro w' hSw
        go_simp
        try with_reducible rfl
      try simp only [Act.put, List.setIfInBounds_toArray, List.set_cons_zero, List.set_cons_succ]
      refine anyH_take (v := ?_) 41 rfl (by kernel_rfl) (by kernel_rfl) (by kernel_rfl) (fun _ _ _ h => h) rfl ?_ hHeld ?_
      rotate_left
      · intro w' hSw
        go_simp
        try with_reducible rfl
      try simp only [Act.put, List.setIfInBounds_toArray, List.set_cons_zero, List.set_cons_succ]
      refine anyH_take (v := ?_) 42 rfl (by kernel_rfl) (by kernel_rfl) (by kernel_rfl) (fun _ _ _ h => h) rfl ?_ hHeld ?_
      rotate_left
      · intro w' hSw
        go_simp
        try with_reducible rfl
      try simp only [Act.put, List.setIfInBounds_toArray, List.set_cons_zero, List.set_cons_succ]
      refine wpAnyH_done (by kernel_rfl) ?_ _
      clear hHeld
      obtain ⟨x0, x1, x2, x3⟩ := MtAt.four (g3.fact 0 rfl)
      have g4 := g3.drop 1
      clear g1 g2 g3 hb5
      go_wp2_with (at_builtin; refine wp_append_rb rfl (.tmp 73) (.tmp 79) rfl g4 0 rfl rfl rfl rfl Hul.out ?_; intro v1 w6 h6)
      go_roundw
      case rel => exact ⟨i + 1, us ++ [_], by go_num, by omega, HB2, h6⟩
      case measure => simp [intOf]; omega
    · obtain rfl : i = n := by omega
      rw [List.take_of_length_le (by rw [HS.out]; exact Nat.le_refl _)] at Hb
      clear HMk
      go_upto_region 10 with fail
      go_cut [6] (fun s6 wx => ∃ (Bx : Nat) (A5 : Option Addr) (n5 c5 : Nat), s6 = .pointer (some ⟨Bx, 0, none⟩) ∧ St w wx [.own (.slice A5 n5 c5) F, rbIt u4 us, .box w.heap.size [.int .i64 0, .int .i64 0, .slice none 0 0], .fact fun w' => MtAt w' bb (off + 0 * 4) ⟨p, s, s, rowOf S 0⟩ (.slice A0 m2 c0), .fact fun w' => MatsR w' (.slice (some ⟨bb, off, none⟩) i k0) ms, .box Bx [.int .i64 p, .int .i64 i, .int .i64 m2, .slice A5 n5 c5]])
      case first =>
        replace g := g.drew
        refine wp_region_cut (S := fun w' => w'.cell? ⟨bb, off, none⟩ = some (.int .i64 p) ∧ w'.cell? ⟨bb, off + 3, none⟩ = some (.slice A0 m2 c0)) 12 (by kernel_rfl) (by kernel_rfl) ⟨(g.fact 2 rfl).1, (g.fact 2 rfl).2.2.2.1⟩ (fun hHeld => ?_)
        simp only [List.take_succ_cons, List.take_zero]
        generalize World.drew _ = v0 at g hHeld ⊢
        refine anyH_take (v := ?_) 0 rfl (by kernel_rfl) (by kernel_rfl) (by kernel_rfl) (fun _ _ _ h => h) rfl ?_ hHeld ?_
        rotate_left
        · intro w' hSw
          go_simp
          try with_reducible rfl
        try simp only [Act.put, List.setIfInBounds_toArray, List.set_cons_zero, List.set_cons_succ]
        refine anyH_take (v := ?_) 1 rfl (by kernel_rfl) (by kernel_rfl) (by kernel_rfl) (fun _ _ _ h => h) rfl ?_ hHeld ?_
        rotate_left
        · intro w' hSw
          go_simp
          try with_reducible rfl
        try simp only [Act.put, List.setIfInBounds_toArray, List.set_cons_zero, List.set_cons_succ]
        refine anyH_take (v := ?_) 2 rfl (by kernel_rfl) (by kernel_rfl) (by kernel_rfl) (fun _ _ _ h => h) rfl ?_ hHeld ?_
        rotate_left
        · intro w' hSw
          go_simp
          try with_reducible rfl
        try simp only [Act.put, List.setIfInBounds_toArray, List.set_cons_zero, List.set_cons_succ]
        refine anyH_take (v := ?_) 3 rfl (by kernel_rfl) (by kernel_rfl) (by kernel_rfl) (fun _ _ _ h => h) rfl ?_ hHeld ?_
        rotate_left
        · intro w' hSw
          go_simp
          try with_reducible rfl
        try simp only [Act.put, List.setIfInBounds_toArray, List.set_cons_zero, List.set_cons_succ]
        refine anyH_take (v := ?_) 4 rfl (by kernel_rfl) (by kernel_rfl) (by kernel_rfl) (fun _ _ _ h => h) rfl ?_ hHeld ?_
        rotate_left
        · intro w' hSw
          go_simp
          try with_reducible rfl
        try simp only [Act.put, List.setIfInBounds_toArray, List.set_cons_zero, List.set_cons_succ]
        refine anyH_take (v := ?_) 5 rfl (by kernel_rfl) (by kernel_rfl) (by kernel_rfl) (fun _ _ _ h => h) rfl ?_ hHeld ?_
        rotate_left
        · intro w' hSw
          go_simp
          try with_reducible rfl
        try simp only [Act.put, List.setIfInBounds_toArray, List.set_cons_zero, List.set_cons_succ]
        refine anyH_take (v := ?_) 6 rfl (by kernel_rfl) (by kernel_rfl) (by kernel_rfl) (fun _ _ _ h => h) rfl ?_ hHeld ?_
        rotate_left
        · intro w' hSw
          go_simp
          try with_reducible rfl
        try simp only [Act.put, List.setIfInBounds_toArray, List.set_cons_zero, List.set_cons_succ]
        refine anyH_take (v := ?_) 7 rfl (by kernel_rfl) (by kernel_rfl) (by kernel_rfl) (fun _ _ _ h => h) rfl ?_ hHeld ?_
        rotate_left
        · intro w' hSw
          go_simp
          try with_reducible rfl
        try simp only [Act.put, List.setIfInBounds_toArray, List.set_cons_zero, List.set_cons_succ]
        refine anyH_take (v := ?_) 8 rfl (by kernel_rfl) (by kernel_rfl) (by kernel_rfl) (fun _ _ _ h => h) rfl ?_ hHeld ?_
        rotate_left
        · intro w' hSw
          go_simp
          try with_reducible rfl
        try simp only [Act.put, List.setIfInBounds_toArray, List.set_cons_zero, List.set_cons_succ]
        refine anyH_take (v := ?_) 9 rfl (by kernel_rfl) (by kernel_rfl) (by kernel_rfl) (fun _ _ _ h => h) rfl ?_ hHeld ?_
        rotate_left
        · intro w' hSw
          go_simp
          try with_reducible rfl
        try simp only [Act.put, List.setIfInBounds_toArray, List.set_cons_zero, List.set_cons_succ]
        refine wpAnyH_ready (rs := [10, 11]) (by kernel_rfl) (by simp) ?_
        refine ready_cons rfl (fun K hK => ?_) (ready_cons rfl (fun K hK => ?_) AllReadyH.nil)
        · go_simp
          refine (HRw.out _ _ (Hb.out.rows g 0 rfl)).mono ?_
          rintro (e : Ending) w5 ⟨u5, rfl, ho5, hb5⟩
          obtain ⟨A5, n5, c5, rfl⟩ := ho5.slice
          replace g := g.pushOwn hb5 ho5
          show K _ _
          refine hK.out _ _ ?_ (fun hHeld => ?_)
          · exact ⟨(g.fact 3 rfl).1, (g.fact 3 rfl).2.2.2.1⟩
          clear hK K
          try simp only [Act.put, List.setIfInBounds_toArray, List.set_cons_zero, List.set_cons_succ]
          refine wpAnyH_ready (rs := [11]) (by kernel_rfl) (by simp) ?_
          refine ready_cons rfl (fun K hK => ?_) AllReadyH.nil
          · go_simp
            replace g := (g.box [.int .i64 0, .int .i64 0, .int .i64 0, .slice none 0 0] 35).toBack
            simp only [List.cons_append, List.nil_append] at g
            refine hK.out _ _ ?_ (fun hHeld => ?_)
            · exact ⟨(g.fact 3 rfl).1, (g.fact 3 rfl).2.2.2.1⟩
            clear hK K
            generalize w5.alloc (.cells #[.int .i64 0, .int .i64 0, .int .i64 0, .slice none 0 0] 35) = va at g hHeld ⊢
            try simp only [Act.put, List.setIfInBounds_toArray, List.set_cons_zero, List.set_cons_succ]
            refine wpAnyH_done (by kernel_rfl) ?_ _
            show wpList _ _ _ _ _ _
            simp only [List.drop_succ_cons, List.drop_zero]
            clear hHeld
            obtain ⟨p0, p1, p2, p3⟩ := g.box4 5 rfl
            have f0 := g.free 5 rfl 0
            have f1 := g.free 5 rfl 1
            have f2 := g.free 5 rfl 2
            have f3 := g.free 5 rfl 3
            have g4 := (((g.setBox 5 rfl 0 (.int .i64 p)).setBox 5 rfl 1 (.int .i64 i)).setBox 5 rfl 2 (.int .i64 m2)).setBox 5 rfl 3 (.slice A5 n5 c5)
            obtain ⟨r0, r1, r2, r3⟩ := g4.box4 5 rfl
            go_wp2
            go_meet
            exact ⟨_, A5, n5, c5, rfl, g4⟩
        · go_simp
          replace g := (g.box [.int .i64 0, .int .i64 0, .int .i64 0, .slice none 0 0] 35).toBack
          simp only [List.cons_append, List.nil_append] at g
          refine hK.out _ _ ?_ (fun hHeld => ?_)
          · exact ⟨(g.fact 2 rfl).1, (g.fact 2 rfl).2.2.2.1⟩
          clear hK K
          generalize v0.alloc (.cells #[.int .i64 0, .int .i64 0, .int .i64 0, .slice none 0 0] 35) = va at g hHeld ⊢
          try simp only [Act.put, List.setIfInBounds_toArray, List.set_cons_zero, List.set_cons_succ]
          refine wpAnyH_ready (rs := [10]) (by kernel_rfl) (by simp) ?_
          refine ready_cons rfl (fun K hK => ?_) AllReadyH.nil
          · go_simp
            refine (HRw.out _ _ (Hb.out.rows g 0 rfl)).mono ?_
            rintro (e : Ending) w5 ⟨u5, rfl, ho5, hb5⟩
            obtain ⟨A5, n5, c5, rfl⟩ := ho5.slice
            replace g := g.pushOwn hb5 ho5
            show K _ _
            refine hK.out _ _ ?_ (fun hHeld => ?_)
            · exact ⟨(g.fact 3 rfl).1, (g.fact 3 rfl).2.2.2.1⟩
            clear hK K
            try simp only [Act.put, List.setIfInBounds_toArray, List.set_cons_zero, List.set_cons_succ]
            refine wpAnyH_done (by kernel_rfl) ?_ _
            show wpList _ _ _ _ _ _
            simp only [List.drop_succ_cons, List.drop_zero]
            clear hHeld
            obtain ⟨p0, p1, p2, p3⟩ := g.box4 5 rfl
            have f0 := g.free 5 rfl 0
            have f1 := g.free 5 rfl 1
            have f2 := g.free 5 rfl 2
            have f3 := g.free 5 rfl 3
            have g4 := (((g.setBox 5 rfl 0 (.int .i64 p)).setBox 5 rfl 1 (.int .i64 i)).setBox 5 rfl 2 (.int .i64 m2)).setBox 5 rfl 3 (.slice A5 n5 c5)
            obtain ⟨r0, r1, r2, r3⟩ := g4.box4 5 rfl
            go_wp2
            go_meet
            exact ⟨_, A5, n5, c5, rfl, g4⟩
      clear g HRw
      obtain ⟨Bx, A5, n5, c5, rfl, g⟩ := hcut
      obtain ⟨y0, y1, y2, y3⟩ := g.box4 5 rfl
      go_wp2_with fail
      refine (HRe.out _ _ (g.ownInts 0 rfl)).mono ?_
      rintro (e : Ending) w6 ⟨u6, vp6, det, rfl, hst6⟩
      obtain ⟨A6, n6, c6, rfl⟩ := (hst6.own 1 rfl).slice
      obtain ⟨A7, c7, rfl, _, _, _⟩ := id (hst6.ownInts 0 rfl)
      rw [length_pivI]
      have g2 := (g.pushTwo hst6).box [.int .i64 p, .int .i64 i, .int .i64 m2, .slice A6 n6 c6] 35
      clear hst6 HRe y0 y1 y2 y3 g
      by_cases hr : pl.length < i
      · have r1 : (pl.length : Int) < (i : Int) := by omega
        obtain ⟨y0, y1, y2, y3⟩ := g2.box4 8 rfl
        obtain ⟨p0, p1, p2⟩ := g2.box3 5 rfl
        have f0 := g2.free 5 rfl 0
        have f1 := g2.free 5 rfl 1
        have f2 := g2.free 5 rfl 2
        have g3 := ((g2.setBox 5 rfl 0 (.int .i64 0)).setBox 5 rfl 1 (.int .i64 0)).setBox 5 rfl 2 (.slice none 0 0)
        obtain ⟨r0, r1, r2⟩ := g3.box3 5 rfl
        go_wp2
        refine bodyPost_ret (v := .tuple #[.agg #[.int .i64 0, .int .i64 0, .slice none 0 0], .bool false]) (by simp [results, Try.results7, go_sem, r0, r1, r2]) rfl ?_
        exact ⟨_, rfl, Own.nil, g3.below⟩
      · have r1 : ¬ (pl.length : Int) < (i : Int) := by omega
        have hk := Hfs.out hr
        subst hk
        have HT2 := Lib.hid (fun W v1 v2 x1 x2 => by
          have := HTb.out W v1 v2 x1 x2
          rwa [if_neg (by decide)] at this)
        have h3 := g2.emptyRows
        simp only [World.size_alloc] at h3
        obtain ⟨y0, y1, y2, y3⟩ := g2.box4 8 rfl
        clear HTb Hfs
        clear g2
        go_wp2
        clear y0 y1 y2 y3
        obtain ⟨OL, hOL, h9⟩ : ∃ OL, OL = _ ∧ St w _ (rowsIt _ [] [] :: OL) := ⟨_, rfl, h3⟩
        have HOL := Lib.hid hOL
        clear hOL h3
        go_loopw [10, 11, 12] (fun v10 v11 _ wr => ∃ (a : Nat) (us : List Value), v11 = .int .i64 a ∧ a ≤ i ∧ Hid (us.length = (brTo p s S a 0).length) ∧ St w wr (rowsIt v10 us (brTo p s S a 0) :: OL)) (fun _ v11 _ _ => i - (intOf v11).toNat)
        case atStart => exact ⟨0, [], rfl, by omega, Lib.hid (by rw [Hbz.out]; rfl), by rw [Hbz.out]; exact h9⟩
        case round =>
          clear h9
          obtain ⟨a, us2, rfl, a2, Hul2, g⟩ := hrel
          by_cases ha : a < i
          · have a3 : (a : Int) < (i : Int) := by omega
            have ham : a < ms.length := by rw [← Hnn.out]; exact ha
            have haS : a < S.length := by rw [HS.out]; exact ha
            obtain ⟨bb2, off2, A9, c9, hA, hmf⟩ := HV.out.at (i := a) ham
            simp only [Option.some.injEq, Addr.mk.injEq, and_true] at hA
            obtain ⟨rfl, rfl⟩ := hA
            rw [HM.out a ham] at hmf
            have hw := HW.out a haS
            rw [show (Mt.mk p s s (rowOf S a)).d.length = m2 from hw.1] at hmf
            have HF1 := Lib.hid hmf.fact
            have Hw1 := Lib.hid hw
            clear hmf hw haS ham
            go_wp2
            go_loopw [10, 12] (fun v10 v12 wr => ∃ (j : Nat) (us : List Value), v12 = .int .i64 j ∧ j ≤ i ∧ Hid (us.length = (brTo p s S a j).length) ∧ St w wr (rowsIt v10 us (brTo p s S a j) :: OL)) (fun _ v12 _ => i - (intOf v12).toNat)
            case atStart => exact ⟨0, us2, rfl, by omega, Hul2, g⟩
            case round =>
              clear g Hul2 us2
              obtain ⟨j, us2, rfl, a4, Hul2, g⟩ := hrel
              by_cases hj : j < i
              · have a5 : (j : Int) < (i : Int) := by omega
                have hjm : j < ms.length := by rw [← Hnn.out]; exact hj
                have hjS : j < S.length := by rw [HS.out]; exact hj
                obtain ⟨bb2, off2, A10, c10, hA, hmg⟩ := HV.out.at (i := j) hjm
                simp only [Option.some.injEq, Addr.mk.injEq, and_true] at hA
                obtain ⟨rfl, rfl⟩ := hA
                rw [HM.out j hjm] at hmg
                have hw := HW.out j hjS
                rw [show (Mt.mk p s s (rowOf S j)).d.length = m2 from hw.1] at hmg
                have HC := Lib.hid (fun (W : World) (t u : Value) (x1 : Ints W t (rowOf S a)) (x2 : Ints W u (rowOf S j)) => HCm.out W t u _ _ x1 x2 Hw1.out.1 hw.1 Hw1.out.2 hw.2)
                have HB := Lib.hid (Hbn.out a j ha hj)
                have Hl := Lib.hid (show (brTo p s S a j).length + 1 ≤ 1099511627776 by
                  rw [Hbl.out a j ha (by omega)]
                  have h8 := Nat.mul_le_mul (show a ≤ 28 by omega) (show i ≤ 28 by omega)
                  omega)
                have g0 := ((g.pushOld HF1.out).pushOld hmg.fact).drew
                clear hmg hw hjm hjS g
                go_upto_region 21 with fail
                refine wp_region_cut (S := fun w' => (w'.cell? ⟨bb, off + a * 4, none⟩ = some (.int .i64 p) ∧ w'.cell? ⟨bb, off + a * 4 + 1, none⟩ = some (.int .i64 s) ∧ w'.cell? ⟨bb, off + a * 4 + 2, none⟩ = some (.int .i64 s) ∧ w'.cell? ⟨bb, off + a * 4 + 3, none⟩ = some (.slice A9 m2 c9)) ∧ (w'.cell? ⟨bb, off + j * 4, none⟩ = some (.int .i64 p) ∧ w'.cell? ⟨bb, off + j * 4 + 1, none⟩ = some (.int .i64 s) ∧ w'.cell? ⟨bb, off + j * 4 + 2, none⟩ = some (.int .i64 s) ∧ w'.cell? ⟨bb, off + j * 4 + 3, none⟩ = some (.slice A10 m2 c10))) 12 (by kernel_rfl) (by kernel_rfl) ⟨MtAt.four (g0.fact 1 rfl), MtAt.four (g0.fact 0 rfl)⟩ (fun hHeld => ?_)
                simp only [List.take_succ_cons, List.take_zero]
                refine anyH_take (v := ?_) 0 rfl (by kernel_rfl) (by kernel_rfl) (by kernel_rfl) (fun _ _ _ h => h) rfl ?_ hHeld ?_
                rotate_left
                · intro w' hSw
                  go_simp
                  try with_reducible rfl
                try simp only [Act.put, List.setIfInBounds_toArray, List.set_cons_zero, List.set_cons_succ]
                refine anyH_take (v := ?_) 1 rfl (by kernel_rfl) (by kernel_rfl) (by kernel_rfl) (fun _ _ _ h => h) rfl ?_ hHeld ?_
                rotate_left
                · intro w' hSw
                  go_simp
                  try with_reducible rfl
                try simp only [Act.put, List.setIfInBounds_toArray, List.set_cons_zero, List.set_cons_succ]
                refine anyH_take (v := ?_) 2 rfl (by kernel_rfl) (by kernel_rfl) (by kernel_rfl) (fun _ _ _ h => h) rfl ?_ hHeld ?_
                rotate_left
                · intro w' hSw
                  go_simp
                  try with_reducible rfl
                try simp only [Act.put, List.setIfInBounds_toArray, List.set_cons_zero, List.set_cons_succ]
                refine anyH_take (v := ?_) 3 rfl (by kernel_rfl) (by kernel_rfl) (by kernel_rfl) (fun _ _ _ h => h) rfl ?_ hHeld ?_
                rotate_left
                · intro w' hSw
                  go_simp
                  try with_reducible rfl
                try simp only [Act.put, List.setIfInBounds_toArray, List.set_cons_zero, List.set_cons_succ]
                refine anyH_take (v := ?_) 4 rfl (by kernel_rfl) (by kernel_rfl) (by kernel_rfl) (fun _ _ _ h => h) rfl ?_ hHeld ?_
                rotate_left
                · intro w' hSw
                  go_simp
                  try with_reducible rfl
                try simp only [Act.put, List.setIfInBounds_toArray, List.set_cons_zero, List.set_cons_succ]
                refine anyH_take (v := ?_) 5 rfl (by kernel_rfl) (by kernel_rfl) (by kernel_rfl) (fun _ _ _ h => h) rfl ?_ hHeld ?_
                rotate_left
                · intro w' hSw
                  go_simp
                  try with_reducible rfl
                try simp only [Act.put, List.setIfInBounds_toArray, List.set_cons_zero, List.set_cons_succ]
                refine anyH_take (v := ?_) 6 rfl (by kernel_rfl) (by kernel_rfl) (by kernel_rfl) (fun _ _ _ h => h) rfl ?_ hHeld ?_
                rotate_left
                · intro w' hSw
                  go_simp
                  try with_reducible rfl
                try simp only [Act.put, List.setIfInBounds_toArray, List.set_cons_zero, List.set_cons_succ]
                refine anyH_take (v := ?_) 7 rfl (by kernel_rfl) (by kernel_rfl) (by kernel_rfl) (fun _ _ _ h => h) rfl ?_ hHeld ?_
                rotate_left
                · intro w' hSw
                  go_simp
                  try with_reducible rfl
                try simp only [Act.put, List.setIfInBounds_toArray, List.set_cons_zero, List.set_cons_succ]
                refine anyH_take (v := ?_) 8 rfl (by kernel_rfl) (by kernel_rfl) (by kernel_rfl) (fun _ _ _ h => h) rfl ?_ hHeld ?_
                rotate_left
                · intro w' hSw
                  go_simp
                  try with_reducible rfl
                try simp only [Act.put, List.setIfInBounds_toArray, List.set_cons_zero, List.set_cons_succ]
                refine wpAnyH_ready (rs := [9]) (by kernel_rfl) (by simp) ?_
                refine ready_cons rfl (fun K hK => ?_) AllReadyH.nil
                go_simp
                refine (HC.out _ _ _ (g0.fact 1 rfl).2.2.2.2 (g0.fact 0 rfl).2.2.2.2).mono ?_
                rintro (e : Ending) w5 ⟨u5, rfl, ho5, hb5⟩
                obtain ⟨A8, n8, c8, rfl⟩ := ho5.slice
                have hfd := fieldM3 p s s A8 n8 c8
                have g1 := g0.pushOwn hb5 ho5
                show K _ _
                refine hK.out _ _ ?_ (fun hHeld => ?_)
                · exact ⟨MtAt.four (g1.fact 2 rfl), MtAt.four (g1.fact 1 rfl)⟩
                clear hK K
                try simp only [Act.put, List.setIfInBounds_toArray, List.set_cons_zero, List.set_cons_succ]
                refine anyH_take (v := ?_) 10 rfl (by kernel_rfl) (by kernel_rfl) (by kernel_rfl) (fun _ _ _ h => h) rfl ?_ hHeld ?_
                rotate_left
                · intro w' hSw
                  go_simp
                  try with_reducible rfl
                try simp only [Act.put, List.setIfInBounds_toArray, List.set_cons_zero, List.set_cons_succ]
                refine wpAnyH_ready (rs := [11]) (by kernel_rfl) (by simp) ?_
                refine ready_cons rfl (fun K hK => ?_) AllReadyH.nil
                go_simp
                have ga := g1.alloc' (.cells #[.slice A8 n8 c8] 26)
                refine hK.out _ _ ?_ (fun hHeld => ?_)
                · exact ⟨MtAt.four (ga.fact 2 rfl), MtAt.four (ga.fact 1 rfl)⟩
                clear hK K
                try simp only [Act.put, List.setIfInBounds_toArray, List.set_cons_zero, List.set_cons_succ]
                refine wpAnyH_done (by kernel_rfl) ?_ _
                show wpList _ _ _ _ _ _
                simp only [List.drop_succ_cons, List.drop_zero]
                clear hHeld
                clear ga g0 ho5 hb5
                go_wp2_with (at_builtin; refine wp_append_row' rfl (.tmp 117) (.tmp 128) rfl g1 2 rfl Hul2.out rfl rfl Hl.out ?_; intro v1 w8 h3)
                go_roundw
                case rel => exact ⟨j + 1, us2 ++ [_], by go_num, by omega, by show _ = _; rw [HB.out, List.length_append, List.length_append, Hul2.out]; rfl, by rw [HB.out]; exact h3.drop 2⟩
                case measure => simp [intOf]; omega
              · obtain rfl : j = i := by omega
                rw [Hbr.out] at g Hul2
                go_wp2
                go_roundw
                case rel => exact ⟨a + 1, us2, by go_num, by omega, Hul2, g⟩
                case measure => simp [intOf]; omega
          · obtain rfl : a = i := by omega
            rw [Hbe.out] at g Hul2
            rw [HOL.out] at g
            obtain ⟨y0, y1, y2, y3⟩ := g.box4 9 rfl
            go_wp2_with fail
            refine (HT2.out _ _ _ (g.ownInts 4 rfl) (g.rowsR 0 rfl Hul2.out)).mono ?_
            rintro (e : Ending) w9 ⟨u9, rfl, ho9, hb9⟩
            obtain ⟨A9, n9, c9, rfl⟩ := ho9.slice
            have g2 := g.pushOwn hb9 ho9
            clear y0 y1 y2 y3 g
            obtain ⟨p0, p1, p2⟩ := g2.box3 7 rfl
            have f0 := g2.free 7 rfl 0
            have f1 := g2.free 7 rfl 1
            have f2 := g2.free 7 rfl 2
            have g3 := ((g2.setBox 7 rfl 0 (.int .i64 0)).setBox 7 rfl 1 (.int .i64 0)).setBox 7 rfl 2 (.slice A9 n9 c9)
            obtain ⟨r0, r1, r2⟩ := g3.box3 7 rfl
            go_wp2
            refine bodyPost_ret (v := .tuple #[.agg #[.int .i64 0, .int .i64 0, .slice A9 n9 c9], .bool false]) (by simp [results, Try.results7, go_sem, r0, r1, r2]) rfl ?_
            exact ⟨_, rfl, g3.own 0 rfl, g3.below⟩
end Mx
end Go.Proofs.Ytbnefjhljfbecaa
