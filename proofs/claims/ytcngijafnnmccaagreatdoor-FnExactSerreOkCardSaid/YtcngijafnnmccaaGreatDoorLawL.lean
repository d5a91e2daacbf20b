/- The laws' sizes and copies of slices of slices that are arguments. -/
import Derived.Test.YtcngijafnnmccaaGreatDoorRows3
import Derived.Test.YtcngijafnnmccaaGreatDoorLawB
import Derived.Test.YtcngijafnnmccaaGreatDoorMatO
import Derived.Test.YtcngijafnnmccaaGreatDoorLite
namespace Go.Proofs.YtcngijafnnmccaaGreatDoor
set_option maxRecDepth 100000
open Go.RowKit

/-- What a slice of slices counts. -/
def szLL (ll : List (List Int)) : Nat := ll.length + total ll
theorem total_takeL : ∀ (ll : List (List Int)) (i : Nat) (_h : i < ll.length), total (ll.take (i + 1)) = total (ll.take i) + (rowOf ll i).length
  | l :: ll, 0, _ => by simp [total, rowOf]
  | l :: ll, i + 1, h => by
    have := total_takeL ll i (by simpa using h)
    simp only [List.take_succ_cons, total]
    rw [this]
    simp only [rowOf, List.getD_cons_succ]
    omega
theorem total_leL : ∀ (ll : List (List Int)) (i : Nat) (_h : i < ll.length), total (ll.take i) + (rowOf ll i).length ≤ total ll
  | l :: ll, 0, _ => by simp [total, rowOf]
  | l :: ll, i + 1, h => by
    have := total_leL ll i (by simpa using h)
    simp only [List.take_succ_cons, total, rowOf, List.getD_cons_succ] at this ⊢
    omega
set_option maxHeartbeats 400000 in
theorem szIntSS_yes (left : Int) (v : Value) (ll : List (List Int)) (w : World) (hv : IntRows w v ll) (h : ((szLL ll : Nat) : Int) ≤ left) (hl : left ≤ 1048576) :
    Calls Tryz.prog 6 #[v, .int .i64 left] w fun e w' => e = .returned (.int .i64 (left - (szLL ll : Nat))) ∧ Below w.heap.size w w' := by
  have h1 := St.start w
  obtain ⟨A, c, rfl, _, _, g3⟩ := id hv
  have HV := Lib.hid hv
  clear hv g3
  have hb : ll.length ≤ 1048576 := by unfold szLL at h; omega
  have h2 : 0 ≤ left - ll.length := by unfold szLL at h; omega
  have HS := Lib.hid (show left - ll.length - (total ll : Nat) = left - (szLL ll : Nat) by unfold szLL; omega)
  have hd : ((total ll : Nat) : Int) ≤ left - ll.length := by unfold szLL at h; omega
  clear h
  go_enter Tryz.func6, Tryz.ntmps6
  go_wp2
  go_loopw [1, 5] (fun vl vi wr => ∃ i : Nat, vi = .int .i64 i ∧ i ≤ ll.length ∧ vl = .int .i64 (left - ll.length - (total (ll.take i) : Nat)) ∧ St w wr []) (fun _ vi _ => ll.length - (intOf vi).toNat)
  case atStart => exact ⟨0, rfl, by omega, by simp [total], h1⟩
  case round =>
    clear h1
    obtain ⟨i, rfl, a1, rfl, h1⟩ := hrel
    by_cases hi : i < ll.length
    · have hm9 := total_leL ll i hi
      have HT := Lib.hid (total_takeL ll i hi)
      have i1 : (i : Int) < ll.length := by omega
      obtain ⟨b, off, A9, c9, rfl, hm⟩ := HV.out.at (i := i) hi
      rw [rowOf_eq hi] at hm
      have q0 := hm.1
      have q1 := hm.2
      obtain ⟨T, hT⟩ : ∃ T, T = rowOf ll i := ⟨_, rfl⟩
      rw [← hT] at hm q0 q1
      have h2 := h1.pushOld hm.fact
      obtain ⟨z0, z4⟩ := h2.fact 0 rfl
      rw [← hT] at hm9
      have HT2 := Lib.hid (show total (ll.take (i + 1)) = total (ll.take i) + T.length by rw [HT.out, hT])
      clear hm q0 q1 h2 hT HT
      go_wp2_with (go_at_call 15; refine (szIntS_yes _ _ T _ z4 (by omega) (by omega)).mono ?_; rintro e wn ⟨rfl, rfl⟩)
      go_roundw
      case rel => exact ⟨i + 1, by go_num, by omega, by rw [HT2.out]; go_num, h1⟩
      case measure => simp [intOf]; omega
    · obtain rfl : i = ll.length := by omega
      rw [List.take_length]
      go_wp2
      go_ret
      exact ⟨ret_int HS.out, h1.below⟩
set_option maxHeartbeats 400000 in
theorem szIntSS_no (left : Int) (v : Value) (ll : List (List Int)) (w : World) (hv : IntRows w v ll) (h : left < ((szLL ll : Nat) : Int)) (hl : left ≤ 1048576) (h0 : 0 ≤ left) :
    Calls Tryz.prog 6 #[v, .int .i64 left] w fun e w' => e = .returned (.int .i64 (-1)) ∧ Below w.heap.size w w' := by
  have h1 := St.start w
  obtain ⟨A, c, rfl, hlc, hcc, g3⟩ := id hv
  have HV := Lib.hid hv
  clear hv g3
  by_cases hb : (ll.length : Int) ≤ left
  · have h2 : 0 ≤ left - ll.length := by omega
    have hd : left - ll.length < ((total ll : Nat) : Int) := by unfold szLL at h; omega
    clear h
    go_enter Tryz.func6, Tryz.ntmps6
    go_wp2
    go_loopw [1, 5] (fun vl vi wr => ∃ i : Nat, vi = .int .i64 i ∧ i ≤ ll.length ∧ vl = .int .i64 (left - ll.length - (total (ll.take i) : Nat)) ∧ 0 ≤ left - ll.length - (total (ll.take i) : Nat) ∧ St w wr []) (fun _ vi _ => ll.length - (intOf vi).toNat)
    case atStart => exact ⟨0, rfl, by omega, by simp [total], by simp [total]; omega, h1⟩
    case round =>
      clear h1
      obtain ⟨i, rfl, a1, rfl, a2, h1⟩ := hrel
      by_cases hi : i < ll.length
      · have HT := Lib.hid (total_takeL ll i hi)
        have i1 : (i : Int) < ll.length := by omega
        obtain ⟨b, off, A9, c9, rfl, hm⟩ := HV.out.at (i := i) hi
        rw [rowOf_eq hi] at hm
        have q0 := hm.1
        have q1 := hm.2
        obtain ⟨T, hT⟩ : ∃ T, T = rowOf ll i := ⟨_, rfl⟩
        rw [← hT] at hm q0 q1
        have h2 := h1.pushOld hm.fact
        obtain ⟨z0, z4⟩ := h2.fact 0 rfl
        have HT2 := Lib.hid (show total (ll.take (i + 1)) = total (ll.take i) + T.length by rw [HT.out, hT])
        clear hm q0 q1 h2 hT HT
        by_cases hx : (T.length : Int) ≤ left - ll.length - (total (ll.take i) : Nat)
        · have a3 : 0 ≤ left - ll.length - (total (ll.take i) : Nat) - T.length := by omega
          go_wp2_with (go_at_call 15; refine (szIntS_yes _ _ T _ z4 hx (by omega)).mono ?_; rintro e wn ⟨rfl, rfl⟩)
          go_roundw
          case rel => exact ⟨i + 1, by go_num, by omega, by rw [HT2.out]; go_num, by rw [HT2.out]; omega, h1⟩
          case measure => simp [intOf]; omega
        · go_wp2_with (go_at_call 15; refine (szIntS_no _ _ T _ z4 (by omega) (by omega) a2).mono ?_; rintro e wn ⟨rfl, rfl⟩)
          go_ret
          exact ⟨rfl, h1.below⟩
      · exfalso
        have e : i = ll.length := by omega
        subst e
        rw [List.take_length] at a2
        omega
  · have h2 : left - ll.length < 0 := by omega
    clear h
    go_enter Tryz.func6, Tryz.ntmps6
    go_wp2
    go_ret
    exact ⟨rfl, h1.below⟩

/-- n nil rows, as a new block holds them. -/
def madeL (n : Nat) : Array Value := madeCells (Value.slice none 0 0).cells (n * 1)
theorem size_madeL (n : Nat) : (madeL n).size = n * 1 := by simp [madeL, madeCells]
theorem makeL (n : Nat) (hn : n ≤ 1099511627776) (W : World) :
    (Instr.makeSlice 27 (.int .i64 (n : Int)) (.int .i64 (n : Int))).run Tryz.prog W = .ok (.slice (some ⟨W.heap.size, 0, none⟩) n n) (W.alloc (.cells (madeL n) 22)) := by
  obtain ⟨i, h1, h2, h3, h4⟩ := info_parts infoR
  have hr := run_make (P := Tryz.prog) W 27 22 i _ Tryz.underlying27 h1 h2 .i64 .i64 (n : Int) (n : Int) (by omega) (Int.le_refl _) (by rw [h4]; omega) (by omega)
  simp only [Int.toNat_natCast, h3] at hr
  exact hr
theorem set1L {X Y : List Value} {k : Nat} (a : Value) (hk : X.length = k) (hY : 1 ≤ Y.length) : (X ++ Y).set k a = X ++ [a] ++ Y.drop 1 := by
  subst hk
  match Y, hY with
  | y0 :: Y, _ => simp [List.set_append_right]
set_option maxHeartbeats 4000000 in
theorem toIntSS_any (v : Value) (ll : List (List Int)) (w : World) (hv : IntRows w v ll) (hl : szLL ll ≤ 1099511627776) : Calls Tryz.prog 10 #[v] w (RetLL w ll) := by
  obtain ⟨n, hn⟩ : ∃ n, n = ll.length := ⟨_, rfl⟩
  have hnb : n ≤ 1099511627776 := by rw [hn]; unfold szLL at hl; omega
  have hdb : total ll ≤ 1099511627776 := by unfold szLL at hl; omega
  have hmk := makeL n hnb
  obtain ⟨A2, k2, rfl, _, _, _⟩ := id hv
  have h1 := (St.start w).pushFact hv.fact
  have HV := Lib.hid hv
  have hms := size_madeL n
  obtain ⟨M, hM⟩ : ∃ M, M = (madeL n).toList := ⟨_, rfl⟩
  have hMl : M.length = n := by rw [hM]; simpa using hms
  have h2 : St w (w.alloc (.cells (madeL n) 22)) (.vec (.slice (some ⟨w.heap.size, 0, none⟩) n n) 22 1 n M [] :: .fact (fun w' => IntRows w' (.slice A2 ll.length k2) ll) :: []) := by
    rw [hM]
    exact h1.push ((Below.refl _ _).alloc (Nat.le_refl _) _) ⟨World.ownsRow_lit (base := w.heap.size) (e := 22) (size := 1) w (madeL n) n (Nat.le_refl _) (by simp only [maxLen]; omega) hms, fun s hs => by cases hs⟩ (fun b hb => by simp [It.fp, Value.ownBlock] at hb; omega) (by simp [It.fp, Value.ownBlock])
  have HN := Lib.hid hn
  have HMl := Lib.hid hMl
  rw [← hn] at h2 ⊢
  clear hv h1 hms hM hMl hl hn
  generalize hB : w.heap.size = B at h2
  go_enter Tryz.func10, Tryz.ntmps10
  go_wp2
  go_loopw [4] (fun v4 wr => ∃ (i : Nat) (us : List Value), v4 = .int .i64 i ∧ i ≤ n ∧ Hid (us.length = i) ∧ St w wr [.vec (.slice (some ⟨B, 0, none⟩) n n) 22 1 n (us ++ M.drop i) (us.zip (ll.take i)), .fact (fun w' => IntRows w' (.slice A2 n k2) ll)]) (fun v4 _ => n - (intOf v4).toNat)
  case atStart => exact ⟨0, [], rfl, by omega, rfl, h2⟩
  case round =>
    clear h2
    obtain ⟨i, us, rfl, a1, Hul, h1⟩ := hrel
    by_cases hi : i < n
    · have him : i < ll.length := by rw [← HN.out]; exact hi
      have hvv := HV.out
      obtain ⟨b, off, A9, c9, rfl, hm⟩ := hvv.at (i := i) him
      have hdl := total_leL ll i him
      have htk : ll.take (i + 1) = ll.take i ++ [ll[i]] := by rw [List.take_succ_eq_append_getElem him]
      rw [rowOf_eq him] at hm htk
      obtain ⟨T, hT⟩ : ∃ T, T = rowOf ll i := ⟨_, rfl⟩
      rw [← hT] at hm hdl htk
      have h2 := h1.pushOld hm.fact
      have HTk := Lib.hid htk
      have HC := Lib.hid (fun (a : Value) => set1L (X := us) (Y := M.drop i) a Hul.out (by rw [List.length_drop, HMl.out]; omega))
      have hlen : (us ++ M.drop i).length = n := by rw [List.length_append, Hul.out, List.length_drop, HMl.out]; omega
      have HL := Lib.hid hlen
      clear hvv hm hT htk hlen h1 him
      obtain ⟨q0, q4⟩ := h2.fact 0 rfl
      have HQ := Lib.hid q4
      clear q4
      go_wp2_with fail
      refine (toIntS_any _ T _ HQ.out (by omega)).mono ?_
      rintro (e : Ending) w3 ⟨u, rfl, ho, hb⟩
      obtain ⟨A7, n7, c7, rfl⟩ := ho.slice
      have h3 := (h2.pushOwn hb ho).absorb 1 rfl
      change St w w3 [.fact _, .vec (.slice (some ⟨B, 0, none⟩) n n) 22 1 n (us ++ M.drop i) (us.zip (ll.take i) ++ [(.slice A7 n7 c7, T)]), .fact _] at h3
      clear q0 h2 ho hb
      obtain ⟨t0, e0⟩ : ∃ x, (us ++ M.drop i)[i]? = some x := ⟨_, List.getElem?_eq_getElem (by rw [HL.out]; exact hi)⟩
      have c0 := h3.vecCell 1 rfl i e0
      have f0 := h3.vecFree 1 rfl i
      have s4 := h3.setVec 1 rfl i (.slice A7 n7 c7)
      clear e0 h3
      go_wp2
      go_roundw
      case rel =>
        refine ⟨i + 1, us ++ [.slice A7 n7 c7], by go_num, by omega, by show _ = _; rw [List.length_append, Hul.out]; rfl, ?_⟩
        have s5 := s4.drop 1
        have hul : us.length = (ll.take i).length := by rw [Hul.out, List.length_take, ← HN.out]; omega
        have hc := HC.out (.slice A7 n7 c7)
        change St w _ [.vec (.slice (some ⟨B, 0, none⟩) n n) 22 1 n ((us ++ M.drop i).set i _) (us.zip (ll.take i) ++ [(.slice A7 n7 c7, T)]), .fact _] at s5
        rw [hc, List.drop_drop] at s5
        rw [HTk.out, List.zip_append hul]
        exact s5
      case measure => simp [intOf]; omega
    · obtain rfl : i = n := by omega
      have htk : ll.take i = ll := List.take_of_length_le (by rw [← HN.out]; exact Nat.le_refl _)
      have hdr : M.drop i = [] := List.drop_eq_nil_of_le (by rw [HMl.out]; exact Nat.le_refl _)
      rw [htk, hdr, List.append_nil] at h1
      go_wp2
      go_ret
      have hit : (It.vec (.slice (some ⟨B, 0, none⟩) i i) 22 1 i us (us.zip ll)) = rowsIt (.slice (some ⟨B, 0, none⟩) i i) us ll := by rw [rowsIt, ← HN.out]
      rw [hit] at h1
      exact ⟨_, us, rfl, by rw [Hul.out, HN.out], h1.at 0 rfl, h1.vecNodup 0 rfl, h1.below⟩

end Go.Proofs.YtcngijafnnmccaaGreatDoor
