/- SumModules of the reference. -/
import Derived.Test.YtphnlmgliaelpaaSumB
import Derived.Test.YtphnlmgliaelpaaZeroMod
namespace Go.Proofs.Ytphnlmgliaelpaa
set_option maxRecDepth 100000
open Go.RowKit

/-- What a function leaves that returns matrices and a Bool. -/
def RetMsB (w : World) (ms : List Mt) (b : Bool) (e : Ending) (w' : World) : Prop := ∃ v us, e = .returned (.tuple #[v, .bool b]) ∧ us.length = ms.length ∧ It.ok w.heap.size w' (matsIt v us ms) ∧ (matsIt v us ms).fp.Nodup ∧ Below w.heap.size w w'
theorem RetMsB.nil {w w' : World} (h : Below w.heap.size w w') : RetMsB w [] false (.returned (.tuple #[.slice none 0 0, .bool false])) w' := by
  obtain ⟨v, us, h1, h2, h3, h4, h5⟩ := RetMs.nil h
  simp only [Ending.returned.injEq] at h1
  subst h1
  exact ⟨_, us, rfl, h2, h3, h4, h5⟩
theorem size_mods {v : Value} {ms : List Mt} (hl : 0 < ms.length) {W : World} (h : MatsR W v ms) : Calls Try.prog 86 #[v] W fun e w' => e = .returned (.int .i64 (mAt ms 0).r) ∧ W = w' := by
  obtain ⟨m0, l, rfl⟩ : ∃ a l, ms = a :: l := by cases ms with | nil => simp at hl | cons a l => exact ⟨a, l, rfl⟩
  exact l10Size_any v m0 l W h

set_option maxHeartbeats 8000000 in
theorem SumModulesS_any (p n : Int) (t v u : Value) (T : List Int) (ms ns : List Mt) (w : World) (ht : Ints w t T) (hv : MatsR w v ms) (hu : MatsR w u ns) (hp0 : p ≤ 9223372036854775807) (hw : ∀ i, i < ms.length → (mAt ms i).p ≤ 9223372036854775807) (hw2 : ∀ i, i < ns.length → (mAt ns i).p ≤ 9223372036854775807) :
    Calls Try.prog 39 #[.agg #[.int .i64 p, .int .i64 n, t], v, u] w (RetMsB w (smMs p n T ms ns) (smOk p n T ms ns)) := by
  have h1 := ((((St.start w).arg ht).pushFact hv.fact).pushFact hu.fact).box [.int .i64 p, .int .i64 n, t] 30
  obtain ⟨A, k, rfl, _, _, _⟩ := id ht
  obtain ⟨A2, k2, rfl, _, _, _⟩ := id hv
  obtain ⟨A3, k3, rfl, _, _, _⟩ := id hu
  have HI := Lib.hid (fun (W : World) (h1 : Ints W (.slice A T.length k) T) (h2 : MatsR W (.slice A2 ms.length k2) ms) => IsModuleS_any p n _ _ T ms W h1 h2 hp0 hw)
  have HI2 := Lib.hid (fun (W : World) (h1 : Ints W (.slice A T.length k) T) (h2 : MatsR W (.slice A3 ns.length k3) ns) => IsModuleS_any p n _ _ T ns W h1 h2 hp0 hw2)
  have HV := Lib.hid hv
  have HU := Lib.hid hu
  clear ht hv hu hw hw2
  obtain ⟨y0, y1, y2⟩ := h1.box3 0 rfl
  by_cases b1 : isMod p n T ms = true
  case neg =>
    have b1 : isMod p n T ms = false := by simpa using b1
    have b0 : smOk p n T ms ns = false := by rw [smOk, b1, Bool.false_and]
    rw [show smMs p n T ms ns = [] by simp [smMs, b0], b0]
    have B1 := Lib.hid b1
    clear b1 b0
    go_enter Try.func39, Try.ntmps39
    go_wp2_with fail
    refine (HI.out _ (h1.roInts 3 rfl) (h1.fact 2 rfl)).mono ?_
    rintro (e : Ending) w1 ⟨rfl, hb1⟩
    replace h1 := h1.on hb1
    rw [B1.out]
    clear hb1 y0 y1 y2
    go_wp2
    refine bodyPost_ret (v := .tuple #[.slice none 0 0, .bool false]) (by simp [results, Try.results39, go_sem]) rfl (RetMsB.nil h1.below)
  by_cases b2 : isMod p n T ns = true
  case neg =>
    have b2 : isMod p n T ns = false := by simpa using b2
    have b0 : smOk p n T ms ns = false := by rw [smOk, b2, Bool.false_and, Bool.and_false]
    rw [show smMs p n T ms ns = [] by simp [smMs, b0], b0]
    have B1 := Lib.hid b1
    have B2 := Lib.hid b2
    clear b1 b2 b0
    go_enter Try.func39, Try.ntmps39
    go_wp2_with fail
    refine (HI.out _ (h1.roInts 3 rfl) (h1.fact 2 rfl)).mono ?_
    rintro (e : Ending) w1 ⟨rfl, hb1⟩
    replace h1 := h1.on hb1
    rw [B1.out]
    clear hb1 y0 y1 y2
    obtain ⟨y0, y1, y2⟩ := h1.box3 0 rfl
    go_wp2_with fail
    refine (HI2.out _ (h1.roInts 3 rfl) (h1.fact 1 rfl)).mono ?_
    rintro (e : Ending) w2 ⟨rfl, hb1⟩
    replace h1 := h1.on hb1
    rw [B2.out]
    clear hb1 y0 y1 y2
    go_wp2
    refine bodyPost_ret (v := .tuple #[.slice none 0 0, .bool false]) (by simp [results, Try.results39, go_sem]) rfl (RetMsB.nil h1.below)
  obtain ⟨N, s, hn, hln, hN0, hs, hs30, hA, hM⟩ := isMod_all b1
  obtain ⟨N2, t2, hn2, hln2, _, ht2, ht30, _, hM2⟩ := isMod_all b2
  have e2 : N = N2 := by omega
  subst e2
  clear hn2
  obtain ⟨N', eN, g1, kT, g3, g4, g5, g6⟩ := algOk_spec hA
  have hN28 : N ≤ 28 := by omega
  clear eN kT g1 g3
  have S1 := Lib.hid (show ∀ W, MatsR W (.slice A2 ms.length k2) ms → Calls Try.prog 86 #[.slice A2 ms.length k2] W (fun e w' => e = .returned (.int .i64 (s : Int)) ∧ W = w') from fun W h => by rw [← hs]; exact size_mods (by omega) h)
  have S2 := Lib.hid (show ∀ W, MatsR W (.slice A3 ns.length k3) ns → Calls Try.prog 86 #[.slice A3 ns.length k3] W (fun e w' => e = .returned (.int .i64 (t2 : Int)) ∧ W = w') from fun W h => by rw [← ht2]; exact size_mods (by omega) h)
  have B1 := Lib.hid b1
  have B2 := Lib.hid b2
  obtain ⟨q, hq⟩ : ∃ q, q = s + t2 := ⟨_, rfl⟩
  have hst : (s : Int) + (t2 : Int) = (q : Int) := by omega
  have hwq : IntKind.i64.wrap ((q : Nat) : Int) = q := wrap_ok (by omega) (by omega)
  have HQ := Lib.hid hq
  by_cases b3 : q ≤ 30
  case neg =>
    have b0 : smOk p n T ms ns = false := by rw [smOk, b1, b2, hs, ht2, decide_eq_false (by omega)]; rfl
    rw [show smMs p n T ms ns = [] by simp [smMs, b0], b0]
    have i3 : (30 : Int) < q := by omega
    clear b1 b2 b0 hn hln hln2 hs ht2 hA hM hM2 hq b3
    go_enter Try.func39, Try.ntmps39
    go_wp2_with fail
    refine (HI.out _ (h1.roInts 3 rfl) (h1.fact 2 rfl)).mono ?_
    rintro (e : Ending) w1 ⟨rfl, hb1⟩
    replace h1 := h1.on hb1
    rw [B1.out]
    clear hb1 y0 y1 y2
    obtain ⟨y0, y1, y2⟩ := h1.box3 0 rfl
    go_wp2_with fail
    refine (HI2.out _ (h1.roInts 3 rfl) (h1.fact 1 rfl)).mono ?_
    rintro (e : Ending) w2 ⟨rfl, hb1⟩
    replace h1 := h1.on hb1
    rw [B2.out]
    clear hb1 y0 y1 y2
    go_wp2_with fail
    refine (S1.out _ (h1.fact 2 rfl)).mono ?_
    rintro (e : Ending) w3 ⟨rfl, rfl⟩
    go_wp2_with fail
    refine (S2.out _ (h1.fact 1 rfl)).mono ?_
    rintro (e : Ending) w4 ⟨rfl, rfl⟩
    go_wp2
    refine bodyPost_ret (v := .tuple #[.slice none 0 0, .bool false]) (by simp [results, Try.results39, go_sem]) rfl (RetMsB.nil h1.below)
  have b0 : smOk p n T ms ns = true := by rw [smOk, b1, b2, hs, ht2, decide_eq_true (by omega)]; rfl
  have HR : Hid (smL p s t2 N ms ns = smMs p n T ms ns) := by show _ = _; rw [smMs, if_pos b0, hs, ht2, hn, Int.toNat_natCast, Int.toNat_natCast, Int.toNat_natCast]
  rw [b0]
  have i3 : ¬ ((30 : Int) < q) := by omega
  have hqq := mul_le b3 b3
  have HZ := Lib.hid (fun W => l1Zero_any p q q W (by omega))
  have HM := Lib.hid hM
  have HM2 := Lib.hid hM2
  have HLn := Lib.hid hln
  have HLn2 := Lib.hid hln2
  have Hn := Lib.hid hn
  clear b1 b2 b0 hn hln hln2 hs ht2 hA hM hM2 hq
  go_enter Try.func39, Try.ntmps39
  go_wp2_with fail
  refine (HI.out _ (h1.roInts 3 rfl) (h1.fact 2 rfl)).mono ?_
  rintro (e : Ending) w1 ⟨rfl, hb1⟩
  replace h1 := h1.on hb1
  rw [B1.out]
  clear hb1 y0 y1 y2
  obtain ⟨y0, y1, y2⟩ := h1.box3 0 rfl
  go_wp2_with fail
  refine (HI2.out _ (h1.roInts 3 rfl) (h1.fact 1 rfl)).mono ?_
  rintro (e : Ending) w2 ⟨rfl, hb1⟩
  replace h1 := h1.on hb1
  rw [B2.out]
  clear hb1 y0 y1 y2
  go_wp2_with fail
  refine (S1.out _ (h1.fact 2 rfl)).mono ?_
  rintro (e : Ending) w3 ⟨rfl, rfl⟩
  go_wp2_with fail
  refine (S2.out _ (h1.fact 1 rfl)).mono ?_
  rintro (e : Ending) w4 ⟨rfl, rfl⟩
  go_wp2_with fail
  refine (S1.out _ (h1.fact 2 rfl)).mono ?_
  rintro (e : Ending) w5 ⟨rfl, rfl⟩
  go_wp2_with fail
  refine (S2.out _ (h1.fact 1 rfl)).mono ?_
  rintro (e : Ending) w6 ⟨rfl, rfl⟩
  replace h1 := h1.emptyMats
  go_wp2
  go_loopw [10, 11] (fun v10 v11 wr => ∃ (i : Nat) (us : List Value), v11 = .int .i64 i ∧ i ≤ N ∧ Hid (us.length = i) ∧ St w wr [matsIt v10 us ((smL p s t2 N ms ns).take i), .box w.heap.size [.int .i64 p, .int .i64 n, .slice A T.length k], .fact (fun w' => MatsR w' (.slice A3 ns.length k3) ns), .fact (fun w' => MatsR w' (.slice A2 ms.length k2) ms), .ro (.slice A T.length k) T]) (fun _ v11 _ => N - (intOf v11).toNat)
  case atStart => exact ⟨0, [], rfl, by omega, rfl, h1⟩
  case round =>
    clear h1
    obtain ⟨i, us, rfl, a1, Hul, h1⟩ := hrel
    obtain ⟨z0, z1, z2⟩ := h1.box3 1 rfl
    by_cases hi : i < N
    · have him : i < ms.length := by rw [HLn.out]; exact hi
      have hin : i < ns.length := by rw [HLn2.out]; exact hi
      obtain ⟨b, off, A9, c9, hbA, hm⟩ := HV.out.at (i := i) him
      obtain ⟨b8, off8, A8, c8, hbB, hm8⟩ := HU.out.at (i := i) hin
      rw [mAt_get him] at hm
      rw [mAt_get hin] at hm8
      obtain ⟨u1, u2, u3, u4, u5⟩ := HM.out i him
      obtain ⟨v1, v2, v3, v4, v5⟩ := HM2.out i hin
      have hstk := smL_take p s t2 N ms ns i hi
      have hmt : smMt p s t2 ms ns i = ⟨p, q, q, bD s t2 (mAt ms i).d (mAt ns i).d⟩ := by rw [smMt, HQ.out]
      rw [hmt] at hstk
      obtain ⟨D, hD⟩ : ∃ D, D = (mAt ms i).d := ⟨_, rfl⟩
      obtain ⟨E, hE⟩ : ∃ E, E = (mAt ns i).d := ⟨_, rfl⟩
      have hmf : MtAt w b (off + i * 4) ⟨p, s, s, D⟩ (.slice A9 D.length c9) := by unfold MtAt at hm ⊢; rw [u1, u2, u3, ← hD] at hm; exact hm
      have hmg : MtAt w b8 (off8 + i * 4) ⟨p, t2, t2, E⟩ (.slice A8 E.length c8) := by unfold MtAt at hm8 ⊢; rw [v1, v2, v3, ← hE] at hm8; exact hm8
      rw [← hD] at u4 u5 hstk
      rw [← hE] at v4 v5 hstk
      have h2 := (h1.pushOld hmg.fact).pushOld hmf.fact
      have hlu : us.length = ((smL p s t2 N ms ns).take i).length := by rw [Hul.out, List.length_take, length_smL]; omega
      have hl1 : ((smL p s t2 N ms ns).take i).length + 1 ≤ 1099511627776 := by rw [List.length_take, length_smL]; omega
      have Hlu := Lib.hid hlu
      have Hl1 := Lib.hid hl1
      have HDl := Lib.hid u4
      have HDr := Lib.hid u5
      have HEl := Lib.hid v4
      have HEr := Lib.hid v5
      have HSt := Lib.hid hstk
      have iN : (i : Int) < n := by rw [Hn.out]; omega
      have iM : (i : Int) < (ms.length : Int) := by omega
      have iM2 : (i : Int) < (ns.length : Int) := by omega
      clear hm hm8 hmf hmg u1 u2 u3 u4 u5 v1 v2 v3 v4 v5 hD hE hstk hmt hlu hl1 h1 him hin
      subst hbA
      subst hbB
      go_wp2_with fail
      refine (HZ.out _).mono ?_
      rintro (e : Ending) w1 ⟨u, rfl, ho, hb1⟩
      obtain ⟨A5, c5, rfl, _, _, _⟩ := id ho.ints
      rw [List.length_replicate] at ho ⊢
      have h3 := (h2.pushOwn hb1 ho).box [.int .i64 p, .int .i64 q, .int .i64 q, .slice A5 (q * q) c5] 32
      have HLb := Lib.hid (fun (i j i2 j2 : Nat) => (show (bTo s t2 D E i j i2 j2).length = q * q by rw [length_bTo, HQ.out]))
      rw [show List.replicate (q * q) 0 = bTo s t2 D E 0 0 0 0 by rw [bTo_zero, HQ.out]] at h3
      clear ho hb1 z0 z1 z2 h2
      go_wp2
      generalize w1.heap.size = B5 at h3 ⊢
      obtain ⟨OL, hOL, h3⟩ : ∃ OL, OL = _ ∧ St w _ (.box B5 [.int .i64 p, .int .i64 q, .int .i64 q, .slice A5 (q * q) c5] :: .own (.slice A5 (q * q) c5) (bTo s t2 D E 0 0 0 0) :: OL) := ⟨_, rfl, h3⟩
      go_loopw [13] (fun va wr => ∃ r : Nat, va = .int .i64 r ∧ r ≤ s ∧ St w wr (.box B5 [.int .i64 p, .int .i64 q, .int .i64 q, .slice A5 (q * q) c5] :: .own (.slice A5 (q * q) c5) (bTo s t2 D E r (0) 0 0) :: OL)) (fun va _ => s - (intOf va).toNat)
      case atStart => exact ⟨0, rfl, by omega, h3⟩
      case round =>
        clear h3
        obtain ⟨r, rfl, a2, h3⟩ := hrel
        by_cases hr : r < s
        · go_wp2
          go_loopw [14] (fun vb wr => ∃ c : Nat, vb = .int .i64 c ∧ c ≤ s ∧ St w wr (.box B5 [.int .i64 p, .int .i64 q, .int .i64 q, .slice A5 (q * q) c5] :: .own (.slice A5 (q * q) c5) (bTo s t2 D E r (c) 0 0) :: OL)) (fun vb _ => s - (intOf vb).toNat)
          case atStart => exact ⟨0, rfl, by omega, h3⟩
          case round =>
            clear h3
            obtain ⟨c, rfl, a3, h3⟩ := hrel
            by_cases hc : c < s
            · have hqs := HQ.out
              have hb1 := row_bd (c := q) (show r < q by omega)
              obtain ⟨g, rfl, hn9⟩ := h3.ownSomeA 1 rfl (by rw [HLb.out]; omega)
              have HLt := Lib.hid (show r * q + c < (bTo s t2 D E r (c) 0 0).length by rw [HLb.out]; omega)
              have HSet := Lib.hid ((show (bTo s t2 D E r c 0 0).set (r * q + c) (vec D (r * s + c)) = bTo s t2 D E r (c + 1) 0 0 by have h := bTo_set1 (t := t2) D E hr hc; rw [show s + t2 = q from hqs.symm] at h; exact h))
              obtain ⟨m1, m2, m3, m4⟩ := row_int (c := q) (show r < q by omega) (show q * q ≤ 900 by omega)
              obtain ⟨x, hx⟩ : ∃ x, x = vec D (r * s + c) := ⟨_, rfl⟩
              have HSet2 : Hid ((bTo s t2 D E r (c) 0 0).set (r * q + c) x = bTo s t2 D E r (c + 1) 0 0) := by show _ = _; rw [hx]; exact HSet.out
              have HA := Lib.hid (show ∀ W, Ints W (.slice A9 D.length c9) D → Calls Try.prog 88 #[.agg #[.int .i64 p, .int .i64 s, .int .i64 s, .slice A9 D.length c9], .int .i64 r, .int .i64 c] W (fun e w' => e = .returned (.int .i64 x) ∧ Below W.heap.size W w') from fun W hW => by rw [hx]; exact l1At_any p s s _ D r c W hW HDl.out (by have := mul_le (show s ≤ 30 by omega) (show s ≤ 30 by omega); omega) hr hc)
              obtain ⟨qi, hqi⟩ : ∃ qi, qi = r * q + c := ⟨_, rfl⟩
              have ha1 : (r : Int) * q + c = (qi : Int) := by rw [hqi]; simp
              have hw1 : IntKind.i64.wrap ((r : Int) * q) = (r : Int) * q := wrap_ok (by omega) (by omega)
              have hw2 : IntKind.i64.wrap ((qi : Nat) : Int) = qi := wrap_ok (by omega) (by omega)
              have iq : (qi : Int) < (q : Int) * q := by rw [← Int.natCast_mul]; omega
              have iq2 : (qi : Int) < ((q * q : Nat) : Int) := by omega
              rw [← hqi] at HLt HSet2
              clear hx hn9 hb1 HSet hqs hqi
              subst hOL
              go_upto_region 16 with fail
              have g0 := h3.drew
              refine wp_region_cut (S := fun w' => (w'.cell? ⟨B5, 0, none⟩ = some (.int .i64 p) ∧ w'.cell? ⟨B5, 1, none⟩ = some (.int .i64 q) ∧ w'.cell? ⟨B5, 2, none⟩ = some (.int .i64 q) ∧ w'.cell? ⟨B5, 3, none⟩ = some (.slice (some ⟨g, 0, none⟩) (q * q) c5)) ∧ w'.cell? ⟨b, off + i * 4, none⟩ = some (.int .i64 p) ∧ w'.cell? ⟨b, off + i * 4 + 1, none⟩ = some (.int .i64 s) ∧ w'.cell? ⟨b, off + i * 4 + 2, none⟩ = some (.int .i64 s) ∧ w'.cell? ⟨b, off + i * 4 + 3, none⟩ = some (.slice A9 D.length c9)) 17 (by kernel_rfl) (by kernel_rfl) ⟨g0.box4 0 rfl, (g0.fact 2 rfl).1, (g0.fact 2 rfl).2.1, (g0.fact 2 rfl).2.2.1, (g0.fact 2 rfl).2.2.2.1⟩ (fun hHeld => ?_)
              simp only [List.take_succ_cons, List.take_zero]
              refine anyH_take (v := ?_) 0 rfl (by kernel_rfl) (by kernel_rfl) (by kernel_rfl) (fun _ _ _ h => h) rfl ?_ hHeld ?_
              rotate_left
              · intro w' hSw
                go_simp
                try with_reducible rfl
              try simp only [Act.put, List.setIfInBounds_toArray, List.set_cons_zero, List.set_cons_succ]
              refine anyH_take (v := ?_) 1 rfl (by kernel_rfl) (by kernel_rfl) (by kernel_rfl) (fun _ _ _ h => h) rfl ?_ hHeld ?_
              rotate_left
              · intro w' hSw
                go_simp
                try with_reducible rfl
              try simp only [Act.put, List.setIfInBounds_toArray, List.set_cons_zero, List.set_cons_succ]
              refine anyH_take (v := ?_) 2 rfl (by kernel_rfl) (by kernel_rfl) (by kernel_rfl) (fun _ _ _ h => h) rfl ?_ hHeld ?_
              rotate_left
              · intro w' hSw
                go_simp
                try with_reducible rfl
              try simp only [Act.put, List.setIfInBounds_toArray, List.set_cons_zero, List.set_cons_succ]
              refine anyH_take (v := ?_) 3 rfl (by kernel_rfl) (by kernel_rfl) (by kernel_rfl) (fun _ _ _ h => h) rfl ?_ hHeld ?_
              rotate_left
              · intro w' hSw
                go_simp
                try with_reducible rfl
              try simp only [Act.put, List.setIfInBounds_toArray, List.set_cons_zero, List.set_cons_succ]
              refine anyH_take (v := ?_) 4 rfl (by kernel_rfl) (by kernel_rfl) (by kernel_rfl) (fun _ _ _ h => h) rfl ?_ hHeld ?_
              rotate_left
              · intro w' hSw
                go_simp
                try with_reducible rfl
              try simp only [Act.put, List.setIfInBounds_toArray, List.set_cons_zero, List.set_cons_succ]
              refine anyH_take (v := ?_) 5 rfl (by kernel_rfl) (by kernel_rfl) (by kernel_rfl) (fun _ _ _ h => h) rfl ?_ hHeld ?_
              rotate_left
              · intro w' hSw
                go_simp
                try with_reducible rfl
              try simp only [Act.put, List.setIfInBounds_toArray, List.set_cons_zero, List.set_cons_succ]
              refine anyH_take (v := ?_) 6 rfl (by kernel_rfl) (by kernel_rfl) (by kernel_rfl) (fun _ _ _ h => h) rfl ?_ hHeld ?_
              rotate_left
              · intro w' hSw
                go_simp
                try with_reducible rfl
              try simp only [Act.put, List.setIfInBounds_toArray, List.set_cons_zero, List.set_cons_succ]
              refine anyH_take (v := ?_) 7 rfl (by kernel_rfl) (by kernel_rfl) (by kernel_rfl) (fun _ _ _ h => h) rfl ?_ hHeld ?_
              rotate_left
              · intro w' hSw
                go_simp
                try with_reducible rfl
              try simp only [Act.put, List.setIfInBounds_toArray, List.set_cons_zero, List.set_cons_succ]
              refine anyH_take (v := ?_) 8 rfl (by kernel_rfl) (by kernel_rfl) (by kernel_rfl) (fun _ _ _ h => h) rfl ?_ hHeld ?_
              rotate_left
              · intro w' hSw
                go_simp
                try with_reducible rfl
              try simp only [Act.put, List.setIfInBounds_toArray, List.set_cons_zero, List.set_cons_succ]
              refine anyH_take (v := ?_) 9 rfl (by kernel_rfl) (by kernel_rfl) (by kernel_rfl) (fun _ _ _ h => h) rfl ?_ hHeld ?_
              rotate_left
              · intro w' hSw
                go_simp
                try with_reducible rfl
              try simp only [Act.put, List.setIfInBounds_toArray, List.set_cons_zero, List.set_cons_succ]
              refine anyH_take (v := ?_) 10 rfl (by kernel_rfl) (by kernel_rfl) (by kernel_rfl) (fun _ _ _ h => h) rfl ?_ hHeld ?_
              rotate_left
              · intro w' hSw
                go_simp
                try with_reducible rfl
              try simp only [Act.put, List.setIfInBounds_toArray, List.set_cons_zero, List.set_cons_succ]
              refine anyH_take (v := ?_) 11 rfl (by kernel_rfl) (by kernel_rfl) (by kernel_rfl) (fun _ _ _ h => h) rfl ?_ hHeld ?_
              rotate_left
              · intro w' hSw
                go_simp
                try with_reducible rfl
              try simp only [Act.put, List.setIfInBounds_toArray, List.set_cons_zero, List.set_cons_succ]
              refine anyH_take (v := ?_) 12 rfl (by kernel_rfl) (by kernel_rfl) (by kernel_rfl) (fun _ _ _ h => h) rfl ?_ hHeld ?_
              rotate_left
              · intro w' hSw
                go_simp
                try with_reducible rfl
              try simp only [Act.put, List.setIfInBounds_toArray, List.set_cons_zero, List.set_cons_succ]
              refine anyH_take (v := ?_) 13 rfl (by kernel_rfl) (by kernel_rfl) (by kernel_rfl) (fun _ _ _ h => h) rfl ?_ hHeld ?_
              rotate_left
              · intro w' hSw
                go_simp
                try with_reducible rfl
              try simp only [Act.put, List.setIfInBounds_toArray, List.set_cons_zero, List.set_cons_succ]
              refine anyH_take (v := ?_) 14 rfl (by kernel_rfl) (by kernel_rfl) (by kernel_rfl) (fun _ _ _ h => h) rfl ?_ hHeld ?_
              rotate_left
              · intro w' hSw
                go_simp
                try with_reducible rfl
              try simp only [Act.put, List.setIfInBounds_toArray, List.set_cons_zero, List.set_cons_succ]
              refine wpAnyH_ready (rs := [15]) (by kernel_rfl) (by simp) ?_
              refine ready_cons rfl (fun K hK => ?_) AllReadyH.nil
              go_simp
              refine (HA.out _ (g0.fact 2 rfl).2.2.2.2).mono ?_
              rintro (e : Ending) w3 ⟨rfl, hb3⟩
              have g1 := g0.on hb3
              clear hb3
              show K _ _
              refine hK.out _ _ ?_ (fun hHeld => ?_)
              · exact ⟨g1.box4 0 rfl, (g1.fact 2 rfl).1, (g1.fact 2 rfl).2.1, (g1.fact 2 rfl).2.2.1, (g1.fact 2 rfl).2.2.2.1⟩
              clear hK K
              try simp only [Act.put, List.setIfInBounds_toArray, List.set_cons_zero, List.set_cons_succ]
              refine anyH_take (v := ?_) 16 rfl (by kernel_rfl) (by kernel_rfl) (by kernel_rfl) (fun _ _ _ h => h) rfl ?_ hHeld ?_
              rotate_left
              · intro w' hSw
                go_simp
                try with_reducible rfl
              try simp only [Act.put, List.setIfInBounds_toArray, List.set_cons_zero, List.set_cons_succ]
              refine wpAnyH_done (by kernel_rfl) ?_ _
              show wpList _ _ _ _ _ _
              simp only [List.drop_succ_cons, List.drop_zero]
              obtain ⟨v0, f0⟩ := g1.ownCellA 1 rfl HLt.out
              have h4 := g1.set 1 rfl qi x
              clear h3 g0
              go_wp2
              go_roundw
              case rel => exact ⟨c + 1, by go_num, by omega, by rw [← HSet2.out]; exact h4⟩
              case measure => simp [intOf]; omega
            · obtain rfl : s = c := by omega
              rw [bTo_row1] at h3
              go_wp2
              go_roundw
              case rel => exact ⟨r + 1, by go_num, by omega, h3⟩
              case measure => simp [intOf]; omega
        · obtain rfl : s = r := by omega
          go_wp2
          go_loopw [15] (fun va wr => ∃ r : Nat, va = .int .i64 r ∧ r ≤ t2 ∧ St w wr (.box B5 [.int .i64 p, .int .i64 q, .int .i64 q, .slice A5 (q * q) c5] :: .own (.slice A5 (q * q) c5) (bTo s t2 D E s 0 r (0)) :: OL)) (fun va _ => t2 - (intOf va).toNat)
          case atStart => exact ⟨0, rfl, by omega, h3⟩
          case round =>
            clear h3
            obtain ⟨r, rfl, a2, h3⟩ := hrel
            by_cases hr : r < t2
            · go_wp2
              go_loopw [16] (fun vb wr => ∃ c : Nat, vb = .int .i64 c ∧ c ≤ t2 ∧ St w wr (.box B5 [.int .i64 p, .int .i64 q, .int .i64 q, .slice A5 (q * q) c5] :: .own (.slice A5 (q * q) c5) (bTo s t2 D E s 0 r (c)) :: OL)) (fun vb _ => t2 - (intOf vb).toNat)
              case atStart => exact ⟨0, rfl, by omega, h3⟩
              case round =>
                clear h3
                obtain ⟨c, rfl, a3, h3⟩ := hrel
                by_cases hc : c < t2
                · have hqs := HQ.out
                  have hb1 := row_bd (c := q) (show (s + r) < q by omega)
                  obtain ⟨g, rfl, hn9⟩ := h3.ownSomeA 1 rfl (by rw [HLb.out]; omega)
                  have HLt := Lib.hid (show (s + r) * q + s + c < (bTo s t2 D E s 0 r (c)).length by rw [HLb.out]; omega)
                  have HSet := Lib.hid ((show (bTo s t2 D E s 0 r c).set ((s + r) * q + s + c) (vec E (r * t2 + c)) = bTo s t2 D E s 0 r (c + 1) by have h := bTo_set2 (s := s) D E hr hc; rw [show s + t2 = q from hqs.symm] at h; exact h))
                  obtain ⟨m1, m2, m3, m4⟩ := row_int (c := q) (show (s + r) < q by omega) (show q * q ≤ 900 by omega)
                  obtain ⟨x, hx⟩ : ∃ x, x = vec E (r * t2 + c) := ⟨_, rfl⟩
                  have HSet2 : Hid ((bTo s t2 D E s 0 r (c)).set ((s + r) * q + s + c) x = bTo s t2 D E s 0 r (c + 1)) := by show _ = _; rw [hx]; exact HSet.out
                  have HA := Lib.hid (show ∀ W, Ints W (.slice A8 E.length c8) E → Calls Try.prog 88 #[.agg #[.int .i64 p, .int .i64 t2, .int .i64 t2, .slice A8 E.length c8], .int .i64 r, .int .i64 c] W (fun e w' => e = .returned (.int .i64 x) ∧ Below W.heap.size W w') from fun W hW => by rw [hx]; exact l1At_any p t2 t2 _ E r c W hW HEl.out (by have := mul_le (show t2 ≤ 30 by omega) (show t2 ≤ 30 by omega); omega) hr hc)
                  obtain ⟨qi, hqi⟩ : ∃ qi, qi = (s + r) * q + s + c := ⟨_, rfl⟩
                  obtain ⟨sr, hsr⟩ : ∃ sr, sr = s + r := ⟨_, rfl⟩
                  rw [← hsr] at m1 m2 m3 m4
                  have ha0 : (s : Int) + r = (sr : Int) := by omega
                  have ha1 : (sr : Int) * q + s + c = (qi : Int) := by rw [hqi, ← hsr]; simp
                  have hw0 : IntKind.i64.wrap ((sr : Nat) : Int) = sr := wrap_ok (by omega) (by omega)
                  have hw1 : IntKind.i64.wrap ((sr : Int) * q) = (sr : Int) * q := wrap_ok (by omega) (by omega)
                  have hw3 : IntKind.i64.wrap ((sr : Int) * q + s) = (sr : Int) * q + s := wrap_ok (by omega) (by omega)
                  have hw2 : IntKind.i64.wrap ((qi : Nat) : Int) = qi := wrap_ok (by omega) (by omega)
                  have iq : (qi : Int) < (q : Int) * q := by rw [← Int.natCast_mul]; omega
                  have iq2 : (qi : Int) < ((q * q : Nat) : Int) := by omega
                  rw [← hqi] at HLt HSet2
                  clear hx hn9 hb1 HSet hqs hqi hsr
                  subst hOL
                  go_upto_region 23 with fail
                  have g0 := h3.drew
                  refine wp_region_cut (S := fun w' => (w'.cell? ⟨B5, 0, none⟩ = some (.int .i64 p) ∧ w'.cell? ⟨B5, 1, none⟩ = some (.int .i64 q) ∧ w'.cell? ⟨B5, 2, none⟩ = some (.int .i64 q) ∧ w'.cell? ⟨B5, 3, none⟩ = some (.slice (some ⟨g, 0, none⟩) (q * q) c5)) ∧ w'.cell? ⟨b8, off8 + i * 4, none⟩ = some (.int .i64 p) ∧ w'.cell? ⟨b8, off8 + i * 4 + 1, none⟩ = some (.int .i64 t2) ∧ w'.cell? ⟨b8, off8 + i * 4 + 2, none⟩ = some (.int .i64 t2) ∧ w'.cell? ⟨b8, off8 + i * 4 + 3, none⟩ = some (.slice A8 E.length c8)) 21 (by kernel_rfl) (by kernel_rfl) ⟨g0.box4 0 rfl, (g0.fact 3 rfl).1, (g0.fact 3 rfl).2.1, (g0.fact 3 rfl).2.2.1, (g0.fact 3 rfl).2.2.2.1⟩ (fun hHeld => ?_)
                  simp only [List.take_succ_cons, List.take_zero]
                  refine anyH_take (v := ?_) 0 rfl (by kernel_rfl) (by kernel_rfl) (by kernel_rfl) (fun _ _ _ h => h) rfl ?_ hHeld ?_
                  rotate_left
                  · intro w' hSw
                    go_simp
                    try with_reducible rfl
                  try simp only [Act.put, List.setIfInBounds_toArray, List.set_cons_zero, List.set_cons_succ]
                  refine anyH_take (v := ?_) 1 rfl (by kernel_rfl) (by kernel_rfl) (by kernel_rfl) (fun _ _ _ h => h) rfl ?_ hHeld ?_
                  rotate_left
                  · intro w' hSw
                    go_simp
                    try with_reducible rfl
                  try simp only [Act.put, List.setIfInBounds_toArray, List.set_cons_zero, List.set_cons_succ]
                  refine anyH_take (v := ?_) 2 rfl (by kernel_rfl) (by kernel_rfl) (by kernel_rfl) (fun _ _ _ h => h) rfl ?_ hHeld ?_
                  rotate_left
                  · intro w' hSw
                    go_simp
                    try with_reducible rfl
                  try simp only [Act.put, List.setIfInBounds_toArray, List.set_cons_zero, List.set_cons_succ]
                  refine anyH_take (v := ?_) 3 rfl (by kernel_rfl) (by kernel_rfl) (by kernel_rfl) (fun _ _ _ h => h) rfl ?_ hHeld ?_
                  rotate_left
                  · intro w' hSw
                    go_simp
                    try with_reducible rfl
                  try simp only [Act.put, List.setIfInBounds_toArray, List.set_cons_zero, List.set_cons_succ]
                  refine anyH_take (v := ?_) 4 rfl (by kernel_rfl) (by kernel_rfl) (by kernel_rfl) (fun _ _ _ h => h) rfl ?_ hHeld ?_
                  rotate_left
                  · intro w' hSw
                    go_simp
                    try with_reducible rfl
                  try simp only [Act.put, List.setIfInBounds_toArray, List.set_cons_zero, List.set_cons_succ]
                  refine anyH_take (v := ?_) 5 rfl (by kernel_rfl) (by kernel_rfl) (by kernel_rfl) (fun _ _ _ h => h) rfl ?_ hHeld ?_
                  rotate_left
                  · intro w' hSw
                    go_simp
                    try with_reducible rfl
                  try simp only [Act.put, List.setIfInBounds_toArray, List.set_cons_zero, List.set_cons_succ]
                  refine anyH_take (v := ?_) 6 rfl (by kernel_rfl) (by kernel_rfl) (by kernel_rfl) (fun _ _ _ h => h) rfl ?_ hHeld ?_
                  rotate_left
                  · intro w' hSw
                    go_simp
                    try with_reducible rfl
                  try simp only [Act.put, List.setIfInBounds_toArray, List.set_cons_zero, List.set_cons_succ]
                  refine anyH_take (v := ?_) 7 rfl (by kernel_rfl) (by kernel_rfl) (by kernel_rfl) (fun _ _ _ h => h) rfl ?_ hHeld ?_
                  rotate_left
                  · intro w' hSw
                    go_simp
                    try with_reducible rfl
                  try simp only [Act.put, List.setIfInBounds_toArray, List.set_cons_zero, List.set_cons_succ]
                  refine anyH_take (v := ?_) 8 rfl (by kernel_rfl) (by kernel_rfl) (by kernel_rfl) (fun _ _ _ h => h) rfl ?_ hHeld ?_
                  rotate_left
                  · intro w' hSw
                    go_simp
                    try with_reducible rfl
                  try simp only [Act.put, List.setIfInBounds_toArray, List.set_cons_zero, List.set_cons_succ]
                  refine anyH_take (v := ?_) 9 rfl (by kernel_rfl) (by kernel_rfl) (by kernel_rfl) (fun _ _ _ h => h) rfl ?_ hHeld ?_
                  rotate_left
                  · intro w' hSw
                    go_simp
                    try with_reducible rfl
                  try simp only [Act.put, List.setIfInBounds_toArray, List.set_cons_zero, List.set_cons_succ]
                  refine anyH_take (v := ?_) 10 rfl (by kernel_rfl) (by kernel_rfl) (by kernel_rfl) (fun _ _ _ h => h) rfl ?_ hHeld ?_
                  rotate_left
                  · intro w' hSw
                    go_simp
                    try with_reducible rfl
                  try simp only [Act.put, List.setIfInBounds_toArray, List.set_cons_zero, List.set_cons_succ]
                  refine anyH_take (v := ?_) 11 rfl (by kernel_rfl) (by kernel_rfl) (by kernel_rfl) (fun _ _ _ h => h) rfl ?_ hHeld ?_
                  rotate_left
                  · intro w' hSw
                    go_simp
                    try with_reducible rfl
                  try simp only [Act.put, List.setIfInBounds_toArray, List.set_cons_zero, List.set_cons_succ]
                  refine anyH_take (v := ?_) 12 rfl (by kernel_rfl) (by kernel_rfl) (by kernel_rfl) (fun _ _ _ h => h) rfl ?_ hHeld ?_
                  rotate_left
                  · intro w' hSw
                    go_simp
                    try with_reducible rfl
                  try simp only [Act.put, List.setIfInBounds_toArray, List.set_cons_zero, List.set_cons_succ]
                  refine anyH_take (v := ?_) 13 rfl (by kernel_rfl) (by kernel_rfl) (by kernel_rfl) (fun _ _ _ h => h) rfl ?_ hHeld ?_
                  rotate_left
                  · intro w' hSw
                    go_simp
                    try with_reducible rfl
                  try simp only [Act.put, List.setIfInBounds_toArray, List.set_cons_zero, List.set_cons_succ]
                  refine anyH_take (v := ?_) 14 rfl (by kernel_rfl) (by kernel_rfl) (by kernel_rfl) (fun _ _ _ h => h) rfl ?_ hHeld ?_
                  rotate_left
                  · intro w' hSw
                    go_simp
                    try with_reducible rfl
                  try simp only [Act.put, List.setIfInBounds_toArray, List.set_cons_zero, List.set_cons_succ]
                  refine anyH_take (v := ?_) 15 rfl (by kernel_rfl) (by kernel_rfl) (by kernel_rfl) (fun _ _ _ h => h) rfl ?_ hHeld ?_
                  rotate_left
                  · intro w' hSw
                    go_simp
                    try with_reducible rfl
                  try simp only [Act.put, List.setIfInBounds_toArray, List.set_cons_zero, List.set_cons_succ]
                  refine anyH_take (v := ?_) 16 rfl (by kernel_rfl) (by kernel_rfl) (by kernel_rfl) (fun _ _ _ h => h) rfl ?_ hHeld ?_
                  rotate_left
                  · intro w' hSw
                    go_simp
                    try with_reducible rfl
                  try simp only [Act.put, List.setIfInBounds_toArray, List.set_cons_zero, List.set_cons_succ]
                  refine anyH_take (v := ?_) 17 rfl (by kernel_rfl) (by kernel_rfl) (by kernel_rfl) (fun _ _ _ h => h) rfl ?_ hHeld ?_
                  rotate_left
                  · intro w' hSw
                    go_simp
                    try with_reducible rfl
                  try simp only [Act.put, List.setIfInBounds_toArray, List.set_cons_zero, List.set_cons_succ]
                  refine anyH_take (v := ?_) 18 rfl (by kernel_rfl) (by kernel_rfl) (by kernel_rfl) (fun _ _ _ h => h) rfl ?_ hHeld ?_
                  rotate_left
                  · intro w' hSw
                    go_simp
                    try with_reducible rfl
                  try simp only [Act.put, List.setIfInBounds_toArray, List.set_cons_zero, List.set_cons_succ]
                  refine wpAnyH_ready (rs := [19]) (by kernel_rfl) (by simp) ?_
                  refine ready_cons rfl (fun K hK => ?_) AllReadyH.nil
                  go_simp
                  refine (HA.out _ (g0.fact 3 rfl).2.2.2.2).mono ?_
                  rintro (e : Ending) w3 ⟨rfl, hb3⟩
                  have g1 := g0.on hb3
                  clear hb3
                  show K _ _
                  refine hK.out _ _ ?_ (fun hHeld => ?_)
                  · exact ⟨g1.box4 0 rfl, (g1.fact 3 rfl).1, (g1.fact 3 rfl).2.1, (g1.fact 3 rfl).2.2.1, (g1.fact 3 rfl).2.2.2.1⟩
                  clear hK K
                  try simp only [Act.put, List.setIfInBounds_toArray, List.set_cons_zero, List.set_cons_succ]
                  refine anyH_take (v := ?_) 20 rfl (by kernel_rfl) (by kernel_rfl) (by kernel_rfl) (fun _ _ _ h => h) rfl ?_ hHeld ?_
                  rotate_left
                  · intro w' hSw
                    go_simp
                    try with_reducible rfl
                  try simp only [Act.put, List.setIfInBounds_toArray, List.set_cons_zero, List.set_cons_succ]
                  refine wpAnyH_done (by kernel_rfl) ?_ _
                  show wpList _ _ _ _ _ _
                  simp only [List.drop_succ_cons, List.drop_zero]
                  obtain ⟨v0, f0⟩ := g1.ownCellA 1 rfl HLt.out
                  have h4 := g1.set 1 rfl qi x
                  clear h3 g0
                  go_wp2
                  go_roundw
                  case rel => exact ⟨c + 1, by go_num, by omega, by rw [← HSet2.out]; exact h4⟩
                  case measure => simp [intOf]; omega
                · obtain rfl : t2 = c := by omega
                  rw [bTo_row2] at h3
                  go_wp2
                  go_roundw
                  case rel => exact ⟨r + 1, by go_num, by omega, h3⟩
                  case measure => simp [intOf]; omega
            · obtain rfl : t2 = r := by omega
              have h4 := h3.swap2
              subst hOL
              obtain ⟨z0, z1, z2, z3⟩ := h4.box4 1 rfl
              go_wp2_with (at_builtin; refine wp_append_mat rfl (.tmp 113) (.tmp 115) rfl ⟨p, q, q, bD _ _ D E⟩ h4 3 rfl Hlu.out rfl rfl Hl1.out ?_; intro v1 w6 h6)
              go_roundw
              case rel => exact ⟨i + 1, us ++ [_], by go_num, by omega, by show _ = _; rw [List.length_append, Hul.out]; rfl, by rw [HSt.out]; exact h6.drop 3⟩
              case measure => simp [intOf]; omega
    · obtain rfl : i = N := by omega
      rw [List.take_of_length_le (by rw [length_smL]; exact Nat.le_refl _), HR.out] at h1
      have iN : ¬ ((i : Int) < n) := by rw [Hn.out]; omega
      have hul2 : us.length = (smMs p n T ms ns).length := by rw [← HR.out, length_smL, Hul.out]
      have HU2 := Lib.hid hul2
      clear hul2
      obtain ⟨A4, c4, rfl, _, _, _⟩ := id (h1.mats 0 rfl HU2.out)
      go_wp2
      refine bodyPost_ret (v := .tuple #[.slice A4 (smMs p n T ms ns).length c4, .bool true]) (by simp [results, Try.results39, go_sem]) rfl ⟨_, us, rfl, HU2.out, h1.at 0 rfl, h1.vecNodup 0 rfl, h1.below⟩
end Go.Proofs.Ytphnlmgliaelpaa
