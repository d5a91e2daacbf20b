/- The law's copy of a slice of matrices. -/
import Derived.Test.YtechjmckfedblaaLawMats
import Derived.Test.YtechjmckfedblaaLawB
namespace Go.Proofs.Ytechjmckfedblaa
set_option maxRecDepth 100000
open Go.RowKit

/-- n zero matrices, as a new block holds them. -/
def madeM (n : Nat) : Array Value := madeCells (Value.agg #[.int .i64 0, .int .i64 0, .int .i64 0, .slice none 0 0]).cells (n * 4)
theorem size_madeM (n : Nat) : (madeM n).size = n * 4 := by simp [madeM, madeCells]
theorem makeM (n : Nat) (hn : n ≤ 1099511627776) (W : World) :
    (Instr.makeSlice 39 (.int .i64 (n : Int)) (.int .i64 (n : Int))).run Try.prog W = .ok (.slice (some ⟨W.heap.size, 0, none⟩) n n) (W.alloc (.cells (madeM n) 32)) := by
  obtain ⟨i, h1, h2, h3, h4⟩ := info_parts infoM
  have hr := run_make (P := Try.prog) W 39 32 i _ Try.underlying39 h1 h2 .i64 .i64 (n : Int) (n : Int) (by omega) (Int.le_refl _) (by rw [h4]; omega) (by omega)
  simp only [Int.toNat_natCast, h3] at hr
  exact hr
theorem set4 {X Y : List Value} {k : Nat} (a b c d : Value) (hk : X.length = k) (hY : 4 ≤ Y.length) : ((((X ++ Y).set k a).set (k + 1) b).set (k + 2) c).set (k + 3) d = X ++ [a, b, c, d] ++ Y.drop 4 := by
  subst hk
  match Y, hY with
  | y0 :: y1 :: y2 :: y3 :: Y, _ => simp [List.set_append_right]
theorem dLen_get : ∀ (ms : List Mt) (i : Nat) (h : i < ms.length), (ms[i]).d.length ≤ dLen ms
  | m :: ms, 0, _ => by simp [dLen]
  | m :: ms, i + 1, h => by
    have := dLen_get ms i (by simpa using h)
    simp only [dLen, List.getElem_cons_succ]; omega
theorem St.pushMtX {w0 w : World} {L : List It} (h : St w0 w L) {b off i : Nat} {A : Option Addr} {c : Nat} {m : Mt} (hm : MtAt w0 b (off + i * 4) m (.slice A m.d.length c)) : St w0 w (.fact (fun w' => MtAt w' b (off + i * 4) m (.slice A m.d.length c)) :: L) := h.pushOld hm.fact

set_option maxHeartbeats 4000000 in
theorem toMatrixS_any (v : Value) (ms : List Mt) (w : World) (hv : MatsR w v ms) (hl : szMs ms ≤ 1099511627776) : Calls Try.prog 25 #[v] w (RetMs w ms) := by
  obtain ⟨n, hn⟩ : ∃ n, n = ms.length := ⟨_, rfl⟩
  have hnb : n ≤ 1099511627776 := by rw [hn]; unfold szMs at hl; omega
  have hdb : dLen ms ≤ 1099511627776 := by unfold szMs at hl; omega
  have hmk := makeM n hnb
  obtain ⟨A2, k2, rfl, _, _, _⟩ := id hv
  have h1 := (St.start w).pushFact hv.fact
  have HV := Lib.hid hv
  have hms := size_madeM n
  obtain ⟨M, hM⟩ : ∃ M, M = (madeM n).toList := ⟨_, rfl⟩
  have hMl : M.length = n * 4 := by rw [hM]; simpa using hms
  have h2 : St w (w.alloc (.cells (madeM n) 32)) (.vec (.slice (some ⟨w.heap.size, 0, none⟩) n n) 32 4 n M [] :: .fact (fun w' => MatsR w' (.slice A2 ms.length k2) ms) :: []) := by
    rw [hM]
    exact h1.push ((Below.refl _ _).alloc (Nat.le_refl _) _) ⟨World.ownsRow_lit (base := w.heap.size) (e := 32) (size := 4) w (madeM n) n (Nat.le_refl _) (by simp only [maxLen]; omega) hms, fun s hs => by cases hs⟩ (fun b hb => by simp [It.fp, Value.ownBlock] at hb; omega) (by simp [It.fp, Value.ownBlock])
  have HN := Lib.hid hn
  have HMl := Lib.hid hMl
  rw [← hn] at h2 ⊢
  clear hv h1 hms hM hMl hl hn
  generalize hB : w.heap.size = B at h2
  go_enter Try.func25, Try.ntmps25
  go_wp2
  go_loopw [4] (fun v4 wr => ∃ (i : Nat) (us : List Value), v4 = .int .i64 i ∧ i ≤ n ∧ Hid (us.length = i) ∧ St w wr [.vec (.slice (some ⟨B, 0, none⟩) n n) 32 4 n (matCells us (ms.take i) ++ M.drop (i * 4)) (us.zip ((ms.take i).map Mt.d)), .fact (fun w' => MatsR w' (.slice A2 n k2) ms)]) (fun v4 _ => n - (intOf v4).toNat)
  case atStart => exact ⟨0, [], rfl, by omega, rfl, h2⟩
  case round =>
    clear h2
    obtain ⟨i, us, rfl, a1, Hul, h1⟩ := hrel
    by_cases hi : i < n
    · have him : i < ms.length := by rw [← HN.out]; exact hi
      have hvv := HV.out
      rw [← HN.out] at hvv
      obtain ⟨b, off, A9, c9, rfl, hm⟩ := MatsR.at (by rw [HN.out] at hvv; exact hvv) (i := i) him
      have hdl := dLen_get ms i him
      have htk : ms.take (i + 1) = ms.take i ++ [ms[i]] := by rw [List.take_succ_eq_append_getElem him]
      obtain ⟨m, hmm⟩ : ∃ m, m = ms[i] := ⟨_, rfl⟩
      rw [← hmm] at hm hdl htk
      have h2 := h1.pushMtX hm
      have HTk := Lib.hid htk
      have hcl : (matCells us (ms.take i)).length = i * 4 := by
        rw [length_matCells us (ms.take i) (by rw [Hul.out, List.length_take]; omega), List.length_take]
        rw [Nat.min_eq_left (by omega)]
      have hdr : 4 ≤ (M.drop (i * 4)).length := by rw [List.length_drop, HMl.out]; omega
      have HC := Lib.hid (fun (a b c d : Value) => set4 (X := matCells us (ms.take i)) (Y := M.drop (i * 4)) a b c d hcl hdr)
      have hlen : (matCells us (ms.take i) ++ M.drop (i * 4)).length = n * 4 := by rw [List.length_append, hcl, List.length_drop, HMl.out]; omega
      have HL := Lib.hid hlen
      clear hvv hm hmm htk hcl hdr hlen h1 him
      obtain ⟨q0, q1, q2, q3, q4⟩ := h2.fact 0 rfl
      have HQ := Lib.hid q4
      clear q4
      go_wp2_with fail
      refine (toMatrix_any m.p m.r m.c _ m.d _ HQ.out (by omega)).mono ?_
      rintro (e : Ending) w3 ⟨u, rfl, ho, hb⟩
      obtain ⟨A7, n7, c7, rfl⟩ := ho.slice
      have h3 := (h2.pushOwn hb ho).absorb 1 rfl
      change St w w3 [.fact _, .vec (.slice (some ⟨B, 0, none⟩) n n) 32 4 n (matCells us (ms.take i) ++ M.drop (i * 4)) (us.zip ((ms.take i).map Mt.d) ++ [(.slice A7 n7 c7, m.d)]), .fact _] at h3
      clear q0 q1 q2 q3 h2 ho hb
      have gg : ∀ k, k < n * 4 → ∃ x, (matCells us (ms.take i) ++ M.drop (i * 4))[k]? = some x := fun k hk => ⟨_, List.getElem?_eq_getElem (by rw [HL.out]; exact hk)⟩
      obtain ⟨t0, e0⟩ := gg (i * 4) (by omega)
      obtain ⟨t1, e1⟩ := gg (i * 4 + 1) (by omega)
      obtain ⟨t2, e2⟩ := gg (i * 4 + 2) (by omega)
      obtain ⟨t3, e3⟩ := gg (i * 4 + 3) (by omega)
      have c0 := h3.vecCell 1 rfl (i * 4) e0
      have c1 := h3.vecCell 1 rfl (i * 4 + 1) e1
      have c2 := h3.vecCell 1 rfl (i * 4 + 2) e2
      have c3 := h3.vecCell 1 rfl (i * 4 + 3) e3
      have f0 := h3.vecFree 1 rfl (i * 4)
      have f1 := h3.vecFree 1 rfl (i * 4 + 1)
      have f2 := h3.vecFree 1 rfl (i * 4 + 2)
      have f3 := h3.vecFree 1 rfl (i * 4 + 3)
      have s4 := (((h3.setVec 1 rfl (i * 4) (.int .i64 m.p)).setVec 1 rfl (i * 4 + 1) (.int .i64 m.r)).setVec 1 rfl (i * 4 + 2) (.int .i64 m.c)).setVec 1 rfl (i * 4 + 3) (.slice A7 n7 c7)
      clear gg e0 e1 e2 e3 h3
      go_wp2
      go_roundw
      case rel =>
        refine ⟨i + 1, us ++ [.slice A7 n7 c7], by go_num, by omega, by show _ = _; rw [List.length_append, Hul.out]; rfl, ?_⟩
        have s5 := s4.drop 1
        have hul : us.length = (ms.take i).length := by rw [Hul.out, List.length_take, ← HN.out]; omega
        have hc := HC.out (.int .i64 m.p) (.int .i64 m.r) (.int .i64 m.c) (.slice A7 n7 c7)
        change St w _ [.vec (.slice (some ⟨B, 0, none⟩) n n) 32 4 n (((((matCells us (ms.take i) ++ M.drop (i * 4)).set (i * 4) _).set (i * 4 + 1) _).set (i * 4 + 2) _).set (i * 4 + 3) _) (us.zip ((ms.take i).map Mt.d) ++ [(.slice A7 n7 c7, m.d)]), .fact _] at s5
        rw [hc, List.drop_drop, ← matCells_snoc us (ms.take i) _ m hul, ← HTk.out] at s5
        rw [HTk.out, List.map_append, List.zip_append (by rw [List.length_map]; exact hul), ← HTk.out, Nat.succ_mul]
        exact s5
      case measure => simp [intOf]; omega
    · obtain rfl : i = n := by omega
      have htk : ms.take i = ms := List.take_of_length_le (by rw [← HN.out]; exact Nat.le_refl _)
      have hdr : M.drop (i * 4) = [] := List.drop_eq_nil_of_le (by rw [HMl.out]; exact Nat.le_refl _)
      rw [htk, hdr, List.append_nil] at h1
      go_wp2
      go_ret
      have hit : (It.vec (.slice (some ⟨B, 0, none⟩) i i) 32 4 i (matCells us ms) (us.zip (ms.map Mt.d))) = matsIt (.slice (some ⟨B, 0, none⟩) i i) us ms := by rw [matsIt, ← HN.out]
      rw [hit] at h1
      exact ⟨_, us, rfl, by rw [Hul.out, HN.out], h1.at 0 rfl, h1.vecNodup 0 rfl, h1.below⟩
end Go.Proofs.Ytechjmckfedblaa
