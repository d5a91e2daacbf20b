/- DualModule of both programs. -/
import Derived.Test.YtphnlmgliaelpaaTrans
import Derived.Test.YtphnlmgliaelpaaToMs
import Derived.Test.YtphnlmgliaelpaaZeroMod
namespace Go.Proofs.Ytphnlmgliaelpaa
set_option maxRecDepth 100000
open Go.RowKit

def duMt (p : Int) (s : Nat) (m : Mt) : Mt := ⟨p, s, s, scaleR p (-1 % p) (trD s m.d)⟩
def duMs (p n : Int) (T : List Int) (ms : List Mt) : List Mt := if isMod p n T ms then ms.map (duMt p (mAt ms 0).r.toNat) else []
theorem du_take (p : Int) (s : Nat) (ms : List Mt) (i : Nat) (h : i < ms.length) : (ms.map (duMt p s)).take (i + 1) = (ms.map (duMt p s)).take i ++ [duMt p s (mAt ms i)] := by
  rw [List.take_succ_eq_append_getElem (by rw [List.length_map]; exact h), List.getElem_map, mAt_get h]
theorem dLen_le2 (ms : List Mt) (k : Nat) (h : ∀ m ∈ ms, m.d.length ≤ k) : dLen ms ≤ ms.length * k := by
  induction ms with
  | nil => simp [dLen]
  | cons m ms ih =>
    have h1 := ih fun x hx => h x (by simp [hx])
    have h2 := h m (by simp)
    rw [dLen, List.length_cons, Nat.add_mul]; omega
theorem duMs_bd (p n : Int) (T : List Int) (ms : List Mt) : markMsLen (duMs p n T ms) ≤ 25284 := by
  by_cases h : isMod p n T ms = true
  · rw [duMs, if_pos h]
    obtain ⟨N, s, m0, l, rfl, hms, hl, hs, hs30, hA, hM⟩ := isMod_spec h
    obtain ⟨N', e, hN, _⟩ := algOk_spec hA
    have hr : (mAt ms 0).r = s := by rw [hms]; exact hs
    have hln : ms.length = N := by rw [hms]; exact hl
    rw [hr, Int.toNat_natCast]
    have hd := dLen_le2 (ms.map (duMt p s)) (30 * 30) fun x hx => by
      obtain ⟨m, _, rfl⟩ := List.mem_map.1 hx
      show (scaleR p (-1 % p) (trD s m.d)).length ≤ _
      rw [length_scaleR, length_trD]
      exact mul_le hs30 hs30
    unfold markMsLen
    rw [List.length_map] at hd ⊢
    have h2 : ms.length * (30 * 30) ≤ 28 * 900 := Nat.mul_le_mul (by omega) (Nat.le_refl _)
    omega
  · rw [duMs, if_neg h]; simp [markMsLen, dLen]
theorem MtAt.keepW {w w' : World} {b o : Nat} {m : Mt} {u : Value} (h : MtAt w b o m u) (hk : ∀ b, b < w.heap.size → w'.heap[b]? = w.heap[b]?) : MtAt w' b o m u := h.fact w' hk

set_option maxHeartbeats 4000000 in
theorem DualModuleS_any (p n : Int) (t v : Value) (T : List Int) (ms : List Mt) (w : World) (ht : Ints w t T) (hv : MatsR w v ms) (hp0 : p ≤ 9223372036854775807) (hw : ∀ i, i < ms.length → (mAt ms i).p ≤ 9223372036854775807) :
    Calls Try.prog 42 #[.agg #[.int .i64 p, .int .i64 n, t], v] w (RetMs w (duMs p n T ms)) := by
  have h1 := (((St.start w).arg ht).pushFact hv.fact).box [.int .i64 p, .int .i64 n, t] 30
  obtain ⟨A, k, rfl, _, _, _⟩ := id ht
  obtain ⟨A2, k2, rfl, _, _, _⟩ := id hv
  have HI := Lib.hid (fun (W : World) (h1 : Ints W (.slice A T.length k) T) (h2 : MatsR W (.slice A2 ms.length k2) ms) => IsModuleS_any p n _ _ T ms W h1 h2 hp0 hw)
  have HV := Lib.hid hv
  clear ht hv hw
  obtain ⟨y0, y1, y2⟩ := h1.box3 0 rfl
  by_cases b1 : isMod p n T ms = true
  case neg =>
    have b1 : isMod p n T ms = false := by simpa using b1
    rw [show duMs p n T ms = [] by simp [duMs, b1]]
    have B1 := Lib.hid b1
    clear b1
    go_enter Try.func42, Try.ntmps42
    go_wp2_with fail
    refine (HI.out _ (h1.roInts 2 rfl) (h1.fact 1 rfl)).mono ?_
    rintro (e : Ending) w1 ⟨rfl, hb1⟩
    replace h1 := h1.on hb1
    rw [B1.out]
    clear hb1 y0 y1 y2
    go_wp2
    go_ret
    exact RetMs.nil h1.below
  obtain ⟨N, s, m0, l, hn, hms, hl, hs, hs30, hA, hM⟩ := isMod_spec b1
  obtain ⟨N', eN, g1, kT, g3, g4, g5, g6⟩ := algOk_spec hA
  have eN' : N = N' := by omega
  subst eN'
  clear eN
  have hr : (mAt ms 0).r = s := by rw [hms]; exact hs
  have hln : ms.length = N := by rw [hms]; exact hl
  have hmm : ∀ i, i < ms.length → (mAt ms i).p = p ∧ (mAt ms i).r = s ∧ (mAt ms i).c = s ∧ (mAt ms i).d.length = s * s ∧ resid p (mAt ms i).d = true := fun i hi => by
    subst hms
    rw [← mAt_get hi]
    exact hM i hi
  have HR : Hid (ms.map (duMt p s) = duMs p n T ms) := by show _ = _; rw [duMs, if_pos b1, hr, Int.toNat_natCast]
  have hss := mul_le hs30 hs30
  have B1 := Lib.hid b1
  have HLn := Lib.hid hln
  have HM := Lib.hid hmm
  have Hn := Lib.hid hn
  have ix : (ms.length : Int) = n := by omega
  have HIx := Lib.hid ix
  clear hr hln hmm hms hl hs hA hM kT b1 hn ix
  go_enter Try.func42, Try.ntmps42
  go_wp2_with fail
  refine (HI.out _ (h1.roInts 2 rfl) (h1.fact 1 rfl)).mono ?_
  rintro (e : Ending) w1 ⟨rfl, hb1⟩
  replace h1 := (h1.on hb1).emptyMats
  rw [B1.out]
  clear hb1 y0 y1 y2
  go_wp2
  go_loopw [5, 6] (fun v5 v6 wr => ∃ (i : Nat) (us : List Value), v6 = .int .i64 i ∧ i ≤ N ∧ Hid (us.length = i) ∧ St w wr [matsIt v5 us ((ms.map (duMt p s)).take i), .box w.heap.size [.int .i64 p, .int .i64 n, .slice A T.length k], .fact (fun w' => MatsR w' (.slice A2 ms.length k2) ms), .ro (.slice A T.length k) T]) (fun _ v6 _ => N - (intOf v6).toNat)
  case atStart => exact ⟨0, [], rfl, by omega, rfl, h1⟩
  case round =>
    clear h1
    obtain ⟨i, us, rfl, a1, Hul, h1⟩ := hrel
    by_cases hi : i < N
    · have him : i < ms.length := by rw [HLn.out]; exact hi
      obtain ⟨b, off, A9, c9, rfl, hm⟩ := HV.out.at (i := i) him
      rw [mAt_get him] at hm
      obtain ⟨g7, g8, g9, g10, g11⟩ := HM.out i him
      have hst := du_take p s ms i him
      obtain ⟨m, hmm⟩ : ∃ m, m = mAt ms i := ⟨_, rfl⟩
      rw [← hmm] at hm g7 g8 g9 g10 g11 hst
      have hmf : MtAt w b (off + i * 4) ⟨p, s, s, m.d⟩ (.slice A9 m.d.length c9) := by unfold MtAt at hm ⊢; rw [g7, g8, g9] at hm; exact hm
      have h2 := h1.pushOld hmf.fact
      have hlu : us.length = ((ms.map (duMt p s)).take i).length := by rw [Hul.out, List.length_take, List.length_map, HLn.out]; omega
      have hl1 : ((ms.map (duMt p s)).take i).length + 1 ≤ 1099511627776 := by rw [List.length_take, List.length_map, HLn.out]; omega
      have Hlu := Lib.hid hlu
      have Hl1 := Lib.hid hl1
      have HDl := Lib.hid g10
      have HDr := Lib.hid g11
      have HSt := Lib.hid hst
      have iM : (i : Int) < (ms.length : Int) := by omega
      have iN : (i : Int) < n := by rw [← HIx.out]; exact iM
      clear hm hmf hmm g7 g8 g9 g10 g11 hlu hl1 hst h1 him
      obtain ⟨q0, q1, q2, q3, q4⟩ := h2.fact 0 rfl
      have HQ := Lib.hid q4
      clear q4
      obtain ⟨z0, z1, z2⟩ := h2.box3 2 rfl
      go_wp2_with fail
      refine (l1Transpose_any p s _ m.d _ HQ.out HDl.out hs30 g6 HDr.out).mono ?_
      rintro (e : Ending) w3 ⟨u3, rfl, ho, hb⟩
      obtain ⟨A7, n7, c7, rfl⟩ := ho.slice
      have h3 := h2.pushOwn hb ho
      clear ho hb q0 q1 q2 q3 z0 z1 z2
      go_wp2_with fail
      refine (l1Scale_any p s s (-1) _ (trD s m.d) _ (h3.ownInts 0 rfl) (by rw [length_trD]; omega) g4 g5 (by omega) (by omega) (resid_trD (by omega) HDr.out)).mono ?_
      rintro (e : Ending) w4 ⟨u4, rfl, ho, hb⟩
      obtain ⟨A8, n8, c8, rfl⟩ := ho.slice
      have h5 := h3.pushOwn hb ho
      clear ho hb
      go_wp2_with (at_builtin; refine wp_append_mat rfl (.tmp 18) (.tmp 25) rfl (duMt p s m) h5 2 rfl Hlu.out rfl rfl Hl1.out ?_; intro v1 w6 h6)
      go_roundw
      case rel => exact ⟨i + 1, us ++ [_], by go_num, by omega, by show _ = _; rw [List.length_append, Hul.out]; rfl, by rw [HSt.out]; exact h6.drop 2⟩
      case measure => simp [intOf]; omega
    · obtain rfl : i = N := by omega
      rw [List.take_of_length_le (by rw [List.length_map, HLn.out]; exact Nat.le_refl _), HR.out] at h1
      have iM : ¬ ((i : Int) < (ms.length : Int)) := by rw [HLn.out]; omega
      have iN : ¬ ((i : Int) < n) := by rw [← HIx.out]; exact iM
      obtain ⟨z0, z1, z2⟩ := h1.box3 1 rfl
      have hul2 : us.length = (duMs p n T ms).length := by rw [← HR.out, List.length_map, Hul.out, HLn.out]
      have HU := Lib.hid hul2
      clear hul2
      go_wp2
      go_ret
      exact ⟨_, us, rfl, HU.out, h1.at 0 rfl, h1.vecNodup 0 rfl, h1.below⟩

set_option maxHeartbeats 4000000 in
theorem DualModuleI_any (p n : Int) (t v : Value) (T : List Int) (ms : List Mt) (w : World) (ht : Ints w t T) (hv : MatsR w v ms) (hp0 : p ≤ 9223372036854775807) (hw : ∀ i, i < ms.length → (mAt ms i).p ≤ 9223372036854775807) :
    Calls Try.prog 43 #[.agg #[.int .i64 p, .int .i64 n, t], v] w (RetMs w (duMs p n T ms)) := by
  have h1 := (((St.start w).arg ht).pushFact hv.fact).box [.int .i64 p, .int .i64 n, t] 30
  obtain ⟨A, k, rfl, _, _, _⟩ := id ht
  obtain ⟨A2, k2, rfl, _, _, _⟩ := id hv
  have HI := Lib.hid (fun (W : World) (h1 : Ints W (.slice A T.length k) T) (h2 : MatsR W (.slice A2 ms.length k2) ms) => IsModuleI_any p n _ _ T ms W h1 h2 hp0 hw)
  have HV := Lib.hid hv
  clear ht hv hw
  obtain ⟨y0, y1, y2⟩ := h1.box3 0 rfl
  by_cases b1 : isMod p n T ms = true
  case neg =>
    have b1 : isMod p n T ms = false := by simpa using b1
    rw [show duMs p n T ms = [] by simp [duMs, b1]]
    have B1 := Lib.hid b1
    clear b1
    go_enter Try.func43, Try.ntmps43
    go_wp2_with fail
    refine (HI.out _ (h1.roInts 2 rfl) (h1.fact 1 rfl)).mono ?_
    rintro (e : Ending) w1 ⟨rfl, hb1⟩
    replace h1 := h1.on hb1
    rw [B1.out]
    clear hb1 y0 y1 y2
    go_wp2
    go_ret
    exact RetMs.nil h1.below
  obtain ⟨N, s, m0, l, hn, hms, hl, hs, hs30, hA, hM⟩ := isMod_spec b1
  obtain ⟨N', eN, g1, kT, g3, g4, g5, g6⟩ := algOk_spec hA
  have eN' : N = N' := by omega
  subst eN'
  clear eN
  have hr : (mAt ms 0).r = s := by rw [hms]; exact hs
  have hln : ms.length = N := by rw [hms]; exact hl
  have hmm : ∀ i, i < ms.length → (mAt ms i).p = p ∧ (mAt ms i).r = s ∧ (mAt ms i).c = s ∧ (mAt ms i).d.length = s * s ∧ resid p (mAt ms i).d = true := fun i hi => by
    subst hms
    rw [← mAt_get hi]
    exact hM i hi
  have HR : Hid (ms.map (duMt p s) = duMs p n T ms) := by show _ = _; rw [duMs, if_pos b1, hr, Int.toNat_natCast]
  have hss := mul_le hs30 hs30
  have B1 := Lib.hid b1
  have HLn := Lib.hid hln
  have HM := Lib.hid hmm
  have Hn := Lib.hid hn
  have ix : (ms.length : Int) = n := by omega
  have HIx := Lib.hid ix
  clear hr hln hmm hms hl hs hA hM kT b1 hn ix
  go_enter Try.func43, Try.ntmps43
  go_wp2_with fail
  refine (HI.out _ (h1.roInts 2 rfl) (h1.fact 1 rfl)).mono ?_
  rintro (e : Ending) w1 ⟨rfl, hb1⟩
  replace h1 := (h1.on hb1).emptyMats
  rw [B1.out]
  clear hb1 y0 y1 y2
  go_wp2
  go_loopw [5, 15] (fun v5 v6 wr => ∃ (i : Nat) (us : List Value), v6 = .int .i64 i ∧ i ≤ N ∧ Hid (us.length = i) ∧ St w wr [matsIt v5 us ((ms.map (duMt p s)).take i), .box w.heap.size [.int .i64 p, .int .i64 n, .slice A T.length k], .fact (fun w' => MatsR w' (.slice A2 ms.length k2) ms), .ro (.slice A T.length k) T]) (fun _ v6 _ => N - (intOf v6).toNat)
  case atStart => exact ⟨0, [], rfl, by omega, rfl, h1⟩
  case round =>
    clear h1
    obtain ⟨i, us, rfl, a1, Hul, h1⟩ := hrel
    by_cases hi : i < N
    · have him : i < ms.length := by rw [HLn.out]; exact hi
      obtain ⟨b, off, A9, c9, rfl, hm⟩ := HV.out.at (i := i) him
      rw [mAt_get him] at hm
      obtain ⟨g7, g8, g9, g10, g11⟩ := HM.out i him
      have hst := du_take p s ms i him
      obtain ⟨m, hmm⟩ : ∃ m, m = mAt ms i := ⟨_, rfl⟩
      rw [← hmm] at hm g7 g8 g9 g10 g11 hst
      have hmf : MtAt w b (off + i * 4) ⟨p, s, s, m.d⟩ (.slice A9 m.d.length c9) := by unfold MtAt at hm ⊢; rw [g7, g8, g9] at hm; exact hm
      have h2 := h1.pushOld hmf.fact
      have hlu : us.length = ((ms.map (duMt p s)).take i).length := by rw [Hul.out, List.length_take, List.length_map, HLn.out]; omega
      have hl1 : ((ms.map (duMt p s)).take i).length + 1 ≤ 1099511627776 := by rw [List.length_take, List.length_map, HLn.out]; omega
      have Hlu := Lib.hid hlu
      have Hl1 := Lib.hid hl1
      have HDl := Lib.hid g10
      have HDr := Lib.hid g11
      have HSt := Lib.hid hst
      have iM : (i : Int) < (ms.length : Int) := by omega
      have iN : (i : Int) < n := by rw [← HIx.out]; exact iM
      clear hm hmf hmm g7 g8 g9 g10 g11 hlu hl1 hst h1 him
      obtain ⟨q0, q1, q2, q3, q4⟩ := h2.fact 0 rfl
      have HQ := Lib.hid q4
      clear q4
      have h3 := h2.box [.int .i64 p, .int .i64 s, .int .i64 s, .slice A9 m.d.length c9] 32
      obtain ⟨x0, x1, x2, x3⟩ := h3.box4 0 rfl
      go_wp2_with fail
      refine (TransposeMatrix_any p s _ m.d _ (h3.fact 1 rfl).2.2.2.2 HDl.out hs30 g6 HDr.out).mono ?_
      rintro (e : Ending) w3 ⟨u3, rfl, ho, hb⟩
      obtain ⟨A7, n7, c7, rfl⟩ := ho.slice
      have h4 := h3.pushOwn hb ho
      clear ho hb q0 q1 q2 q3 x0 x1 x2 x3
      go_wp2_with fail
      refine (ScaleMatrix_any p (-1) s _ (trD s m.d) _ (h4.ownInts 0 rfl) (length_trD _ _) hs30 g6 (resid_trD (by omega) HDr.out) (by omega) (by omega)).mono ?_
      rintro (e : Ending) w4 ⟨u4, rfl, ho, hb⟩
      obtain ⟨A8, n8, c8, rfl⟩ := ho.slice
      have h5 := h4.pushOwn hb ho
      clear ho hb
      go_wp2_with (at_builtin; refine wp_append_mat rfl (.tmp 19) (.tmp 23) rfl (duMt p s m) h5 3 rfl Hlu.out rfl rfl Hl1.out ?_; intro v1 w6 h6)
      go_roundw
      case rel => exact ⟨i + 1, us ++ [_], by go_num, by omega, by show _ = _; rw [List.length_append, Hul.out]; rfl, by rw [HSt.out]; exact h6.drop 3⟩
      case measure => simp [intOf]; omega
    · obtain rfl : i = N := by omega
      rw [List.take_of_length_le (by rw [List.length_map, HLn.out]; exact Nat.le_refl _), HR.out] at h1
      have iM : ¬ ((i : Int) < (ms.length : Int)) := by rw [HLn.out]; omega
      have iN : ¬ ((i : Int) < n) := by rw [← HIx.out]; exact iM
      obtain ⟨z0, z1, z2⟩ := h1.box3 1 rfl
      have hul2 : us.length = (duMs p n T ms).length := by rw [← HR.out, List.length_map, Hul.out, HLn.out]
      have HU := Lib.hid hul2
      clear hul2
      go_wp2
      go_ret
      exact ⟨_, us, rfl, HU.out, h1.at 0 rfl, h1.vecNodup 0 rfl, h1.below⟩
end Go.Proofs.Ytphnlmgliaelpaa
