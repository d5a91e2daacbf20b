/- MapsBetween of the reference. -/
import Derived.Test.YtcdbgcpccmcbeaaMapsQ
import Derived.Test.YtcdbgcpccmcbeaaJoinB
import Derived.Test.YtcdbgcpccmcbeaaKerS
import Derived.Test.YtcdbgcpccmcbeaaRegX
namespace Go.Proofs.Ytcdbgcpccmcbeaa
set_option maxRecDepth 100000
open Go.RowKit

/-- The space of the equations of the first e pairs. -/
def mbS (p : Int) (s t : Nat) (Ms Ns : List (List Int)) : Nat → List (List Int)
  | 0 => []
  | e + 1 => spanL p (s * t) (mbS p s t Ms Ns e ++ mbR p s t (rowOf Ms e) (rowOf Ns e) (s * t))
theorem mbS_ok {p : Int} (hP : isPrime p = true) (s t : Nat) {Ms : List (List Int)} (Ns : List (List Int)) : ∀ e, (∀ i, i < e → resid p (rowOf Ms i) = true) → Wf p (s * t) (mbS p s t Ms Ns e) ∧ (mbS p s t Ms Ns e).length ≤ s * t
  | 0, _ => ⟨fun i hi => absurd hi (Nat.not_lt_zero _), Nat.zero_le _⟩
  | e + 1, h => by
    have hp := (isPrime_bd hP).1
    obtain ⟨h1, _⟩ := mbS_ok hP s t Ns e fun i hi => h i (by omega)
    have hr := spanL_rf hP (h1.app (Wf_mbR hp s t (h e (by omega)) (rowOf Ns e) (s * t)))
    exact ⟨hr.wf, rf_le_n hp hr⟩
theorem mbS_Kr {p : Int} (hP : isPrime p = true) (s t : Nat) {Ms : List (List Int)} (Ns : List (List Int)) {f : Nat → Int} : ∀ e, (∀ i, i < e → resid p (rowOf Ms i) = true) → (Kr p (s * t) (mbS p s t Ms Ns e) f ↔ Kr p (s * t) (mbE p s t Ms Ns e) f)
  | 0, _ => Iff.rfl
  | e + 1, h => by
    have hp := (isPrime_bd hP).1
    have h1 := (mbS_ok hP s t Ns e fun i hi => h i (by omega)).1
    rw [mbS, mbE, Kr_span hP (h1.app (Wf_mbR hp s t (h e (by omega)) _ _)), Kr_app, Kr_app, mbS_Kr hP s t Ns e fun i hi => h i (by omega)]
theorem mbS_ker {p : Int} (hP : isPrime p = true) (s t : Nat) {Ms : List (List Int)} (Ns : List (List Int)) (e : Nat) (h : ∀ i, i < e → resid p (rowOf Ms i) = true) : kerL p (s * t) (mbS p s t Ms Ns e) = mbK p s t Ms Ns e :=
  kerL_eq hP (mbS_ok hP s t Ns e h).1 (Wf_mbE (isPrime_bd hP).1 s t Ns e h) fun _ => mbS_Kr hP s t Ns e h

set_option maxHeartbeats 4000000 in
theorem MapsBetweenS_any (p n : Int) (t v u : Value) (T : List Int) (ms ns : List Mt) (w : World) (ht : Ints w t T) (hv : MatsR w v ms) (hu : MatsR w u ns) (hp0 : p ≤ 9223372036854775807) (hw : ∀ i, i < ms.length → (mAt ms i).p ≤ 9223372036854775807) (hw2 : ∀ i, i < ns.length → (mAt ns i).p ≤ 9223372036854775807) :
    Calls Try.prog 35 #[.agg #[.int .i64 p, .int .i64 n, t], v, u] w (RetLL w (mbL p n T ms ns)) := by
  have h1 := ((((St.start w).arg ht).pushFact hv.fact).pushFact hu.fact).box [.int .i64 p, .int .i64 n, t] 29
  obtain ⟨A, k, rfl, _, _, _⟩ := id ht
  obtain ⟨A2, k2, rfl, _, _, _⟩ := id hv
  obtain ⟨A3, k3, rfl, _, _, _⟩ := id hu
  have HI := Lib.hid (fun (W : World) (h1 : Ints W (.slice A T.length k) T) (h2 : MatsR W (.slice A2 ms.length k2) ms) => IsModuleS_any p n _ _ T ms W h1 h2 hp0 hw)
  have HI2 := Lib.hid (fun (W : World) (h1 : Ints W (.slice A T.length k) T) (h2 : MatsR W (.slice A3 ns.length k3) ns) => IsModuleS_any p n _ _ T ns W h1 h2 hp0 hw2)
  have HV := Lib.hid hv
  have HU := Lib.hid hu
  clear ht hv hu hw hw2
  obtain ⟨X0, hX0⟩ : ∃ X0, X0 = mbL p n T ms ns := ⟨_, rfl⟩
  rw [← hX0]
  by_cases b1 : isMod p n T ms = true
  case neg =>
    have b1 : isMod p n T ms = false := by simpa using b1
    have HF := Lib.hid (show X0 = [] by rw [hX0, mbL, show mbOk p n T ms ns = false by rw [mbOk, b1, Bool.false_and]]; rfl)
    have B1 := Lib.hid b1
    clear b1 hX0
    go_enter Try.func35, Try.ntmps35
    obtain ⟨z0, z1, z2⟩ := h1.box3 0 rfl
    go_wp2_with fail
    refine (HI.out _ (h1.roInts 3 rfl) (h1.fact 2 rfl)).mono ?_
    rintro (e : Ending) w1 ⟨rfl, hb1⟩
    have g2 := h1.on hb1
    rw [B1.out]
    clear z0 z1 z2
    go_wp2
    go_ret
    rw [HF.out]
    exact RetLL.nil g2.below
  by_cases b2 : isMod p n T ns = true
  case neg =>
    have b2 : isMod p n T ns = false := by simpa using b2
    have HF := Lib.hid (show X0 = [] by rw [hX0, mbL, show mbOk p n T ms ns = false by rw [mbOk, b2, Bool.false_and, Bool.and_false]]; rfl)
    have B1 := Lib.hid b1
    have B2 := Lib.hid b2
    clear b1 b2 hX0
    go_enter Try.func35, Try.ntmps35
    obtain ⟨z0, z1, z2⟩ := h1.box3 0 rfl
    go_wp2_with fail
    refine (HI.out _ (h1.roInts 3 rfl) (h1.fact 2 rfl)).mono ?_
    rintro (e : Ending) w1 ⟨rfl, hb1⟩
    have g2 := h1.on hb1
    rw [B1.out]
    clear z0 z1 z2
    obtain ⟨z0, z1, z2⟩ := g2.box3 0 rfl
    go_wp2_with fail
    refine (HI2.out _ (g2.roInts 3 rfl) (g2.fact 1 rfl)).mono ?_
    rintro (e : Ending) w2 ⟨rfl, hb2⟩
    have g3 := g2.on hb2
    rw [B2.out]
    clear z0 z1 z2
    go_wp2
    go_ret
    rw [HF.out]
    exact RetLL.nil g3.below
  obtain ⟨N, s, rfl, hln, hN0, hs, hs30, hA, hM⟩ := isMod_all b1
  obtain ⟨N2, t2, hn2, hln2, _, ht2, ht30, _, hM2⟩ := isMod_all b2
  have e2 : N = N2 := by omega
  subst e2
  clear hn2
  obtain ⟨N', eN, g1, kT, g3, g4, g5, hP⟩ := algOk_spec hA
  have hN28 : N ≤ 28 := by omega
  clear eN kT g1 g3
  have h0m : 0 < ms.length := by omega
  have h0n : 0 < ns.length := by omega
  obtain ⟨b, off, A9, c9, hbA, hm⟩ := HV.out.at (i := 0) h0m
  obtain ⟨b8, off8, A8, c8, hbB, hm8⟩ := HU.out.at (i := 0) h0n
  have hX : w.cell? ⟨b, off + 1, none⟩ = some (.int .i64 s) := by
    have := hm.2.1
    rw [mAt_get h0m, hs] at this
    simpa using this
  have hX8 : w.cell? ⟨b8, off8 + 1, none⟩ = some (.int .i64 t2) := by
    have := hm8.2.1
    rw [mAt_get h0n, ht2] at this
    simpa using this
  subst hbA
  subst hbB
  replace h1 := h1.pushOld (R := fun w' => w'.cell? ⟨b, off + 1, none⟩ = some (.int .i64 s)) (fun w' hk => (World.cell?_of_block (hk _ (World.block_lt_of_cell? w _ hX))).trans hX)
  replace h1 := h1.pushOld (R := fun w' => w'.cell? ⟨b8, off8 + 1, none⟩ = some (.int .i64 t2)) (fun w' hk => (World.cell?_of_block (hk _ (World.block_lt_of_cell? w _ hX8))).trans hX8)
  have B1 := Lib.hid b1
  have B2 := Lib.hid b2
  obtain ⟨q, hq⟩ : ∃ q, q = s * t2 := ⟨_, rfl⟩
  have hst : (s : Int) * (t2 : Int) = (q : Int) := by rw [hq]; simp
  have hwq : IntKind.i64.wrap ((q : Nat) : Int) = q := wrap_ok (by omega) (by have := mul_le hs30 ht30; omega)
  have HQ := Lib.hid hq
  have S1 := Lib.hid (show ∀ W, MatsR W (.slice (some ⟨b, off, none⟩) ms.length k2) ms → Calls Try.prog 99 #[.slice (some ⟨b, off, none⟩) ms.length k2] W fun e w' => e = .returned (.int .i64 s) ∧ W = w' from fun W hW => by have := size_mods h0m hW; rwa [hs] at this)
  have S2 := Lib.hid (show ∀ W, MatsR W (.slice (some ⟨b8, off8, none⟩) ns.length k3) ns → Calls Try.prog 99 #[.slice (some ⟨b8, off8, none⟩) ns.length k3] W fun e w' => e = .returned (.int .i64 t2) ∧ W = w' from fun W hW => by have := size_mods h0n hW; rwa [ht2] at this)
  clear hm hm8 hX hX8 A9 c9 A8 c8 h0m h0n
  by_cases b3 : q ≤ 64
  case neg =>
    have HF := Lib.hid (show X0 = [] by rw [hX0, mbL, show mbOk p N T ms ns = false by rw [mbOk, b1, b2, hs, ht2, decide_eq_false (by omega)]; rfl]; rfl)
    have i3 : (64 : Int) < q := by omega
    have im0 : 0 < ms.length := by omega
    have in0 : 0 < ns.length := by omega
    clear b1 b2 hln hln2 hs ht2 hA hM hM2 hq b3 hX0 hN0
    go_enter Try.func35, Try.ntmps35
    obtain ⟨z0, z1, z2⟩ := h1.box3 2 rfl
    go_wp2_with fail
    refine (HI.out _ (h1.roInts 5 rfl) (h1.fact 4 rfl)).mono ?_
    rintro (e : Ending) w1 ⟨rfl, hb1⟩
    have g2 := h1.on hb1
    rw [B1.out]
    clear z0 z1 z2
    obtain ⟨z0, z1, z2⟩ := g2.box3 2 rfl
    go_wp2_with fail
    refine (HI2.out _ (g2.roInts 5 rfl) (g2.fact 3 rfl)).mono ?_
    rintro (e : Ending) w2 ⟨rfl, hb2⟩
    have g3 := g2.on hb2
    rw [B2.out]
    clear z0 z1 z2
    go_wp2_with fail
    refine (S1.out _ (g3.fact 4 rfl)).mono ?_
    rintro (e : Ending) w3 ⟨rfl, rfl⟩
    go_wp2_with fail
    refine (S2.out _ (g3.fact 3 rfl)).mono ?_
    rintro (e : Ending) w4 ⟨rfl, rfl⟩
    go_wp2
    go_ret
    rw [HF.out]
    exact RetLL.nil g3.below
  have HF : Hid (X0 = mbK p s t2 (ms.map Mt.d) (ns.map Mt.d) ms.length) := by
    show _ = _
    rw [hX0, mbL, show mbOk p N T ms ns = true by rw [mbOk, b1, b2, hs, ht2, decide_eq_true (by omega)]; rfl, if_pos rfl, hs, ht2, Int.toNat_natCast, Int.toNat_natCast]
  have i3 : ¬ ((64 : Int) < q) := by omega
  have hRd1 := fun (i : Nat) (hi : i < ms.length) => (show resid p (rowOf (ms.map Mt.d) i) = true by rw [rowOf_ds hi]; exact (hM i hi).2.2.2.2)
  have hSW := fun (i : Nat) (hi : i ≤ ms.length) => mbS_ok hP s t2 (Ms := ms.map Mt.d) (ns.map Mt.d) i (fun j hj => hRd1 j (by omega))
  have hSK := mbS_ker hP s t2 (Ms := ms.map Mt.d) (ns.map Mt.d) ms.length (fun j hj => hRd1 j (by omega))
  have hSs := fun (i : Nat) (hi : i < ms.length) => (show mbS p s t2 (ms.map Mt.d) (ns.map Mt.d) (i + 1) = spanL p q (mbS p s t2 (ms.map Mt.d) (ns.map Mt.d) i ++ mbR p s t2 (mAt ms i).d (mAt ns i).d q) by rw [mbS, rowOf_ds hi, rowOf_ds (by omega), hq])
  have hWE := fun (i : Nat) (hi : i ≤ ms.length) => Wf_mbE g4 s t2 (Ms := ms.map Mt.d) (ns.map Mt.d) i (fun j hj => hRd1 j (by omega))
  have hLE := fun (i : Nat) => length_mbE p s t2 (ms.map Mt.d) (ns.map Mt.d) i
  have hE0 := fun (i : Nat) (hi : i < ms.length) => (show mbE p s t2 (ms.map Mt.d) (ns.map Mt.d) (i + 1) = mbE p s t2 (ms.map Mt.d) (ns.map Mt.d) i ++ mbR p s t2 (mAt ms i).d (mAt ns i).d q by rw [mbE, rowOf_ds hi, rowOf_ds (by omega), hq])
  have hnl : ns.length = ms.length := by omega
  subst hln
  have im0 : 0 < ms.length := hN0
  have in0 : 0 < ns.length := by omega
  have HM := Lib.hid hM
  have HM2 := Lib.hid hM2
  have HSW := Lib.hid hSW
  have HSK := Lib.hid hSK
  have HSs := Lib.hid hSs
  have Hnl := Lib.hid hnl
  have HP := Lib.hid hP
  have hmk := makeI q (by omega)
  have HZ := Lib.hid (show ∀ W, Calls Try.prog 100 #[.int .i64 p, .int .i64 0, .int .i64 q] W (RetMat W p 0 q []) from fun W => by
    have h9 := l1Zero_any p 0 q W (by omega)
    rw [Nat.zero_mul] at h9
    exact h9)
  clear b1 b2 hs ht2 hA hM hM2 hq hX0 hRd1 hSW hSK hSs hWE hLE hE0 hnl hP hln2
  obtain ⟨z0, z1, z2⟩ := h1.box3 2 rfl
  go_enter Try.func35, Try.ntmps35
  go_wp2_with fail
  refine (HI.out _ (h1.roInts 5 rfl) (h1.fact 4 rfl)).mono ?_
  rintro (e : Ending) w1 ⟨rfl, hb1⟩
  have g2 := h1.on hb1
  rw [B1.out]
  clear z0 z1 z2
  obtain ⟨z0, z1, z2⟩ := g2.box3 2 rfl
  go_wp2_with fail
  refine (HI2.out _ (g2.roInts 5 rfl) (g2.fact 3 rfl)).mono ?_
  rintro (e : Ending) w2 ⟨rfl, hb2⟩
  have g3 := g2.on hb2
  rw [B2.out]
  clear z0 z1 z2 h1 g2 hb1 hb2
  go_wp2_with fail
  refine (S1.out _ (g3.fact 4 rfl)).mono ?_
  rintro (e : Ending) w3 ⟨rfl, rfl⟩
  go_wp2_with fail
  refine (S2.out _ (g3.fact 3 rfl)).mono ?_
  rintro (e : Ending) w4 ⟨rfl, rfl⟩
  go_wp2_with fail
  refine (S1.out _ (g3.fact 4 rfl)).mono ?_
  rintro (e : Ending) w5 ⟨rfl, rfl⟩
  go_wp2_with fail
  refine (S2.out _ (g3.fact 3 rfl)).mono ?_
  rintro (e : Ending) w6 ⟨rfl, rfl⟩
  obtain ⟨z0, z1, z2⟩ := g3.box3 2 rfl
  go_wp2_with fail
  refine (HZ.out _).mono ?_
  rintro (e : Ending) w7 ⟨u7, rfl, ho7, hb7⟩
  obtain ⟨Ak, nk, ck, rfl⟩ := ho7.slice
  have h6 := (g3.pushOwn hb7 ho7).box [.int .i64 p, .int .i64 0, .int .i64 q, .slice Ak nk ck] 33
  clear z0 z1 z2 g3 hb7 ho7
  go_wp2
  generalize hB9 : w7.heap.size = B9 at h6 ⊢
  clear hB9
  go_loopw [10] (fun v10 wr => ∃ (e : Nat) (Ak : Option Addr) (nk ck Kl : Nat) (K : List (List Int)), v10 = .int .i64 e ∧ e ≤ ms.length ∧ Hid (K = mbS p s t2 (ms.map Mt.d) (ns.map Mt.d) e ∧ Kl = K.length) ∧ St w wr [.box B9 [.int .i64 p, .int .i64 Kl, .int .i64 q, .slice Ak nk ck], .own (.slice Ak nk ck) (flat q K), .fact (fun w' => w'.cell? ⟨b8, off8 + 1, none⟩ = some (.int .i64 t2)), .fact (fun w' => w'.cell? ⟨b, off + 1, none⟩ = some (.int .i64 s)), .box w.heap.size [.int .i64 p, .int .i64 ms.length, .slice A T.length k], .fact (fun w' => MatsR w' (.slice (some ⟨b8, off8, none⟩) ns.length k3) ns), .fact (fun w' => MatsR w' (.slice (some ⟨b, off, none⟩) ms.length k2) ms), .ro (.slice A T.length k) T]) (fun v10 _ => ms.length - (intOf v10).toNat)
  case atStart => exact ⟨0, _, _, _, 0, [], rfl, by omega, Lib.hid ⟨rfl, rfl⟩, by rw [show flat q ([] : List (List Int)) = [] by simp [flat, tab]]; exact h6⟩
  case round =>
    clear h6
    obtain ⟨e, Ak, nk, ck, Kl, K, rfl, a1, HK, g⟩ := hrel
    obtain ⟨z0, z1, z2⟩ := g.box3 4 rfl
    by_cases he : e < ms.length
    · obtain ⟨b', off', A9, c9, hbA, hm⟩ := HV.out.at (i := e) he
      simp only [Option.some.injEq, Addr.mk.injEq, and_true] at hbA
      obtain ⟨rfl, rfl⟩ := hbA
      have he2 : e < ns.length := by rw [Hnl.out]; exact he
      obtain ⟨b', off', A8, c8, hbA, hm8⟩ := HU.out.at (i := e) he2
      simp only [Option.some.injEq, Addr.mk.injEq, and_true] at hbA
      obtain ⟨rfl, rfl⟩ := hbA
      rw [mAt_get he] at hm
      rw [mAt_get he2] at hm8
      obtain ⟨u1, u2, u3, u4, u5⟩ := HM.out e he
      obtain ⟨v1, v2, v3, v4, v5⟩ := HM2.out e he2
      have hSs := HSs.out e he
      obtain ⟨hKW, hKl⟩ := HSW.out e (by omega)
      obtain ⟨hK1, hK2⟩ := HK.out
      rw [← hK1] at hSs hKW hKl
      obtain ⟨D, hD⟩ : ∃ D, D = (mAt ms e).d := ⟨_, rfl⟩
      obtain ⟨E, hE⟩ : ∃ E, E = (mAt ns e).d := ⟨_, rfl⟩
      have hmf : MtAt w b (off + e * 4) ⟨p, s, s, D⟩ (.slice A9 D.length c9) := by unfold MtAt at hm ⊢; rw [u1, u2, u3, ← hD] at hm; exact hm
      have hmg : MtAt w b8 (off8 + e * 4) ⟨p, t2, t2, E⟩ (.slice A8 E.length c8) := by unfold MtAt at hm8 ⊢; rw [v1, v2, v3, ← hE] at hm8; exact hm8
      rw [← hD] at u4 u5 hSs
      rw [← hE] at v4 v5 hSs
      have hAt1 := fun (W : World) (i j : Nat) (x1 : Ints W (.slice A9 D.length c9) D) (hi : i < s) (hj : j < s) => l1At_any p s s _ D i j W x1 u4 (by have := mul_le hs30 hs30; omega) hi hj
      have hAt2 := fun (W : World) (i j : Nat) (x1 : Ints W (.slice A8 E.length c8) E) (hi : i < t2) (hj : j < t2) => l1At_any p t2 t2 _ E i j W x1 v4 (by have := mul_le ht30 ht30; omega) hi hj
      have hRW := Wf_mbR g4 s t2 u5 E q
      have hRl := length_mbR p s t2 D E q
      have h4 := ((g.pushOld hmf.fact).pushOld hmg.fact).emptyRows
      have HAt1 := Lib.hid hAt1
      have HAt2 := Lib.hid hAt2
      have HSs1 := Lib.hid hSs
      have HRW := Lib.hid hRW
      have HRl := Lib.hid hRl
      have HKW := Lib.hid hKW
      have HKl := Lib.hid hKl
      have HK2 := Lib.hid hK2
      have HDr := Lib.hid u5
      have HEr := Lib.hid v5
      have ie : (e : Int) < (ms.length : Int) := by omega
      have ie2 : (e : Int) < (ns.length : Int) := by omega
      clear hm hm8 hmf hmg u1 u2 u3 u4 u5 v1 v2 v3 v4 v5 hD hE hSs hKW hKl hK1 hK2 hAt1 hAt2 hRW hRl g
      go_wp2
      clear z0 z1 z2
      obtain ⟨OL, hOL, h9⟩ : ∃ OL, OL = _ ∧ St w _ (rowsIt _ [] [] :: OL) := ⟨_, rfl, h4⟩
      clear h4
      go_loopw [11, 12] (fun v11 v12 wr => ∃ (i : Nat) (us : List Value), v12 = .int .i64 i ∧ i ≤ s ∧ Hid (us.length = i * t2) ∧ St w wr (rowsIt v11 us (mbR p s t2 D E (i * t2)) :: OL)) (fun _ v12 _ => s - (intOf v12).toNat)
      case atStart => exact ⟨0, [], rfl, by omega, Lib.hid (by simp), by rw [Nat.zero_mul, mbR_zero]; exact h9⟩
      case round =>
        clear h9
        obtain ⟨i, us, rfl, a2, Hul, g⟩ := hrel
        by_cases hi : i < s
        · go_wp2
          go_loopw [11, 13] (fun v11 v13 wr => ∃ (j : Nat) (us : List Value), v13 = .int .i64 j ∧ j ≤ t2 ∧ Hid (us.length = i * t2 + j) ∧ St w wr (rowsIt v11 us (mbR p s t2 D E (i * t2 + j)) :: OL)) (fun _ v13 _ => t2 - (intOf v13).toNat)
          case atStart => exact ⟨0, us, rfl, by omega, Hul, g⟩
          case round =>
            clear g Hul
            obtain ⟨j, us, rfl, a3, Hul, g⟩ := hrel
            by_cases hj : j < t2
            · have HR1 := Lib.hid (mbR_succ (p := p) (s := s) (M := D) (N := E) (r := i) hj)
              have HA0 := Lib.hid (show List.replicate q 0 = mbA s t2 D i j 0 by rw [mbA_zero, HQ.out])
              have HAl := Lib.hid (show ∀ k, (mbA s t2 D i j k).length = q from fun k => by rw [length_mbA, HQ.out])
              have HBl := Lib.hid (show ∀ k, (mbB p s t2 D E i j k).length = q from fun k => by rw [length_mbB, HQ.out])
              have HAs := Lib.hid (fun (k : Nat) (hk : k < s) => mbA_set (p := p) (r := i) g4 HDr.out hk hj)
              have HBs := Lib.hid (fun (k : Nat) (hk : k < t2) => mbB_set (p := p) (M := D) (N := E) (c := j) hk hi)
              have HAr := Lib.hid (fun (k q1 : Nat) => resid_vec' (resid_mbA g4 s t2 HDr.out i j k) (by omega : 0 < p) q1)
              have HBr := Lib.hid (fun (k q1 : Nat) => resid_vec' (resid_mbB g4 s t2 HDr.out E i j k) (by omega : 0 < p) q1)
              have HB0 := Lib.hid (mbB_zero p s t2 D E i j)
              have HlR := Lib.hid (length_mbR p s t2 D E (i * t2 + j))
              have hij : i * t2 + j < q := by rw [HQ.out]; exact spot_lt hi hj
              have h3 := g.zeros q (by omega)
              rw [HA0.out] at h3
              go_wp2
              generalize hgq : wr.heap.size = gq at h3 ⊢
              clear hgq g
              go_loopw [15] (fun v15 wr => ∃ k0 : Nat, v15 = .int .i64 k0 ∧ k0 ≤ s ∧ St w wr (.own (.slice (some ⟨gq, 0, none⟩) q q) (mbA s t2 D i j k0) :: rowsIt u11 us (mbR p s t2 D E (i * t2 + j)) :: OL)) (fun v15 _ => s - (intOf v15).toNat)
              case atStart => exact ⟨0, rfl, by omega, h3⟩
              case round =>
                clear h3
                obtain ⟨k0, rfl, a4, g⟩ := hrel
                by_cases hk : k0 < s
                · subst hOL
                  have hlt : k0 * t2 + j < q := by rw [HQ.out]; exact spot_lt hk hj
                  have hset := HAs.out k0 hk
                  have hob := HAr.out k0 (k0 * t2 + j)
                  have hxb := resid_vec' HDr.out (by omega : 0 < p) (i * s + k0)
                  have hat := fun (W : World) x1 => HAt1.out W i k0 x1 hi hk
                  have g0 := g.drew
                  have oc := (g0.ownCellA 0 rfl (q := k0 * t2 + j) (by rw [HAl.out]; exact hlt)).1
                  have HOc := Lib.hid (show k0 * t2 + j < (mbA s t2 D i j k0).length by rw [HAl.out]; exact hlt)
                  obtain ⟨x, hx⟩ : ∃ x, x = vec D (i * s + k0) := ⟨_, rfl⟩
                  obtain ⟨o1, ho1⟩ : ∃ o1, o1 = vec (mbA s t2 D i j k0) (k0 * t2 + j) := ⟨_, rfl⟩
                  have HO1 := Lib.hid ho1.symm
                  rw [← hx] at hset hxb hat
                  rw [← ho1] at hset hob oc
                  obtain ⟨z1, hz1⟩ : ∃ z1, z1 = k0 * t2 := ⟨_, rfl⟩
                  obtain ⟨q1, hq1⟩ : ∃ q1, q1 = z1 + j := ⟨_, rfl⟩
                  rw [← hz1, ← hq1] at hset hlt oc HOc HO1
                  have t1 : (k0 : Int) * (t2 : Int) = (z1 : Int) := by rw [hz1]; simp
                  have t3 : (z1 : Int) + (j : Int) = (q1 : Int) := by omega
                  have w1 : IntKind.i64.wrap (z1 : Int) = z1 := wrap_ok (by omega) (by omega)
                  have w2 : IntKind.i64.wrap (q1 : Int) = q1 := wrap_ok (by omega) (by omega)
                  have w5 : IntKind.i64.wrap (o1 + x) = o1 + x := wrap_ok (by omega) (by omega)
                  have i1 : (q1 : Int) < (q : Int) := by omega
                  have ik : (k0 : Int) < (s : Int) := by omega
                  have HSet2 := Lib.hid hset
                  have HAt9 := Lib.hid hat
                  have HMo := Lib.hid (fun (W : World) => l1Mod_any (o1 + x) p W (by omega) (by omega) (by omega) (by omega))
                  clear hz1 hq1 hset hlt hx ho1 hob hxb hat
                  go_upto_region 20 with fail
                  refine wp_region_cut (S := fun w' => w'.cell? ⟨gq, q1, none⟩ = some (.int .i64 o1) ∧ w'.cell? ⟨b, off + e * 4, none⟩ = some (.int .i64 p) ∧ w'.cell? ⟨b, off + e * 4 + 1, none⟩ = some (.int .i64 s) ∧ w'.cell? ⟨b, off + e * 4 + 2, none⟩ = some (.int .i64 s) ∧ w'.cell? ⟨b, off + e * 4 + 3, none⟩ = some (.slice A9 D.length c9) ∧ (w'.cell? ⟨w.heap.size, 0, none⟩ = some (.int .i64 p) ∧ w'.cell? ⟨w.heap.size, 1, none⟩ = some (.int .i64 ms.length) ∧ w'.cell? ⟨w.heap.size, 2, none⟩ = some (.slice A T.length k))) 26 (by kernel_rfl) (by kernel_rfl) ⟨oc, (g0.fact 3 rfl).1, (g0.fact 3 rfl).2.1, (g0.fact 3 rfl).2.2.1, (g0.fact 3 rfl).2.2.2.1, g0.box3 8 rfl⟩ (fun hHeld => ?_)
                  simp only [List.take_succ_cons, List.take_zero]
                  refine anyH_take (v := ?_) 0 rfl (by kernel_rfl) (by kernel_rfl) (by kernel_rfl) (fun _ _ _ h => h) rfl ?_ hHeld ?_
                  rotate_left
                  · intro w' hSw
                    go_simp
                    try with_reducible rfl
                  try simp only [Act.put, List.setIfInBounds_toArray, List.set_cons_zero, List.set_cons_succ]
                  refine anyH_take (v := ?_) 1 rfl (by kernel_rfl) (by kernel_rfl) (by kernel_rfl) (fun _ _ _ h => h) rfl ?_ hHeld ?_
                  rotate_left
                  · intro w' hSw
                    go_simp
                    try with_reducible rfl
                  try simp only [Act.put, List.setIfInBounds_toArray, List.set_cons_zero, List.set_cons_succ]
                  refine anyH_take (v := ?_) 2 rfl (by kernel_rfl) (by kernel_rfl) (by kernel_rfl) (fun _ _ _ h => h) rfl ?_ hHeld ?_
                  rotate_left
                  · intro w' hSw
                    go_simp
                    try with_reducible rfl
                  try simp only [Act.put, List.setIfInBounds_toArray, List.set_cons_zero, List.set_cons_succ]
                  refine anyH_take (v := ?_) 3 rfl (by kernel_rfl) (by kernel_rfl) (by kernel_rfl) (fun _ _ _ h => h) rfl ?_ hHeld ?_
                  rotate_left
                  · intro w' hSw
                    go_simp
                    try with_reducible rfl
                  try simp only [Act.put, List.setIfInBounds_toArray, List.set_cons_zero, List.set_cons_succ]
                  refine anyH_take (v := ?_) 4 rfl (by kernel_rfl) (by kernel_rfl) (by kernel_rfl) (fun _ _ _ h => h) rfl ?_ hHeld ?_
                  rotate_left
                  · intro w' hSw
                    go_simp
                    try with_reducible rfl
                  try simp only [Act.put, List.setIfInBounds_toArray, List.set_cons_zero, List.set_cons_succ]
                  refine anyH_take (v := ?_) 5 rfl (by kernel_rfl) (by kernel_rfl) (by kernel_rfl) (fun _ _ _ h => h) rfl ?_ hHeld ?_
                  rotate_left
                  · intro w' hSw
                    go_simp
                    try with_reducible rfl
                  try simp only [Act.put, List.setIfInBounds_toArray, List.set_cons_zero, List.set_cons_succ]
                  refine anyH_take (v := ?_) 6 rfl (by kernel_rfl) (by kernel_rfl) (by kernel_rfl) (fun _ _ _ h => h) rfl ?_ hHeld ?_
                  rotate_left
                  · intro w' hSw
                    go_simp
                    try with_reducible rfl
                  try simp only [Act.put, List.setIfInBounds_toArray, List.set_cons_zero, List.set_cons_succ]
                  refine anyH_take (v := ?_) 7 rfl (by kernel_rfl) (by kernel_rfl) (by kernel_rfl) (fun _ _ _ h => h) rfl ?_ hHeld ?_
                  rotate_left
                  · intro w' hSw
                    go_simp
                    try with_reducible rfl
                  try simp only [Act.put, List.setIfInBounds_toArray, List.set_cons_zero, List.set_cons_succ]
                  refine anyH_take (v := ?_) 8 rfl (by kernel_rfl) (by kernel_rfl) (by kernel_rfl) (fun _ _ _ h => h) rfl ?_ hHeld ?_
                  rotate_left
                  · intro w' hSw
                    go_simp
                    try with_reducible rfl
                  try simp only [Act.put, List.setIfInBounds_toArray, List.set_cons_zero, List.set_cons_succ]
                  refine anyH_take (v := ?_) 9 rfl (by kernel_rfl) (by kernel_rfl) (by kernel_rfl) (fun _ _ _ h => h) rfl ?_ hHeld ?_
                  rotate_left
                  · intro w' hSw
                    go_simp
                    try with_reducible rfl
                  try simp only [Act.put, List.setIfInBounds_toArray, List.set_cons_zero, List.set_cons_succ]
                  refine anyH_take (v := ?_) 10 rfl (by kernel_rfl) (by kernel_rfl) (by kernel_rfl) (fun _ _ _ h => h) rfl ?_ hHeld ?_
                  rotate_left
                  · intro w' hSw
                    go_simp
                    try with_reducible rfl
                  try simp only [Act.put, List.setIfInBounds_toArray, List.set_cons_zero, List.set_cons_succ]
                  refine anyH_take (v := ?_) 11 rfl (by kernel_rfl) (by kernel_rfl) (by kernel_rfl) (fun _ _ _ h => h) rfl ?_ hHeld ?_
                  rotate_left
                  · intro w' hSw
                    go_simp
                    try with_reducible rfl
                  try simp only [Act.put, List.setIfInBounds_toArray, List.set_cons_zero, List.set_cons_succ]
                  refine anyH_take (v := ?_) 12 rfl (by kernel_rfl) (by kernel_rfl) (by kernel_rfl) (fun _ _ _ h => h) rfl ?_ hHeld ?_
                  rotate_left
                  · intro w' hSw
                    go_simp
                    try with_reducible rfl
                  try simp only [Act.put, List.setIfInBounds_toArray, List.set_cons_zero, List.set_cons_succ]
                  refine anyH_take (v := ?_) 13 rfl (by kernel_rfl) (by kernel_rfl) (by kernel_rfl) (fun _ _ _ h => h) rfl ?_ hHeld ?_
                  rotate_left
                  · intro w' hSw
                    go_simp
                    try with_reducible rfl
                  try simp only [Act.put, List.setIfInBounds_toArray, List.set_cons_zero, List.set_cons_succ]
                  refine anyH_take (v := ?_) 14 rfl (by kernel_rfl) (by kernel_rfl) (by kernel_rfl) (fun _ _ _ h => h) rfl ?_ hHeld ?_
                  rotate_left
                  · intro w' hSw
                    go_simp
                    try with_reducible rfl
                  try simp only [Act.put, List.setIfInBounds_toArray, List.set_cons_zero, List.set_cons_succ]
                  refine anyH_take (v := ?_) 15 rfl (by kernel_rfl) (by kernel_rfl) (by kernel_rfl) (fun _ _ _ h => h) rfl ?_ hHeld ?_
                  rotate_left
                  · intro w' hSw
                    go_simp
                    try with_reducible rfl
                  try simp only [Act.put, List.setIfInBounds_toArray, List.set_cons_zero, List.set_cons_succ]
                  refine anyH_take (v := ?_) 16 rfl (by kernel_rfl) (by kernel_rfl) (by kernel_rfl) (fun _ _ _ h => h) rfl ?_ hHeld ?_
                  rotate_left
                  · intro w' hSw
                    go_simp
                    try with_reducible rfl
                  try simp only [Act.put, List.setIfInBounds_toArray, List.set_cons_zero, List.set_cons_succ]
                  refine anyH_take (v := ?_) 17 rfl (by kernel_rfl) (by kernel_rfl) (by kernel_rfl) (fun _ _ _ h => h) rfl ?_ hHeld ?_
                  rotate_left
                  · intro w' hSw
                    go_simp
                    try with_reducible rfl
                  try simp only [Act.put, List.setIfInBounds_toArray, List.set_cons_zero, List.set_cons_succ]
                  refine anyH_take (v := ?_) 18 rfl (by kernel_rfl) (by kernel_rfl) (by kernel_rfl) (fun _ _ _ h => h) rfl ?_ hHeld ?_
                  rotate_left
                  · intro w' hSw
                    go_simp
                    try with_reducible rfl
                  try simp only [Act.put, List.setIfInBounds_toArray, List.set_cons_zero, List.set_cons_succ]
                  refine anyH_take (v := ?_) 19 rfl (by kernel_rfl) (by kernel_rfl) (by kernel_rfl) (fun _ _ _ h => h) rfl ?_ hHeld ?_
                  rotate_left
                  · intro w' hSw
                    go_simp
                    try with_reducible rfl
                  try simp only [Act.put, List.setIfInBounds_toArray, List.set_cons_zero, List.set_cons_succ]
                  refine anyH_take (v := ?_) 22 rfl (by kernel_rfl) (by kernel_rfl) (by kernel_rfl) (fun _ _ _ h => h) rfl ?_ hHeld ?_
                  rotate_left
                  · intro w' hSw
                    go_simp
                    try with_reducible rfl
                  try simp only [Act.put, List.setIfInBounds_toArray, List.set_cons_zero, List.set_cons_succ]
                  refine anyH_take (v := ?_) 23 rfl (by kernel_rfl) (by kernel_rfl) (by kernel_rfl) (fun _ _ _ h => h) rfl ?_ hHeld ?_
                  rotate_left
                  · intro w' hSw
                    go_simp
                    try with_reducible rfl
                  try simp only [Act.put, List.setIfInBounds_toArray, List.set_cons_zero, List.set_cons_succ]
                  refine wpAnyH_ready (rs := [20]) (by kernel_rfl) (by simp) ?_
                  refine ready_cons rfl (fun K hK => ?_) AllReadyH.nil
                  go_simp
                  refine (HAt9.out _ (g0.fact 3 rfl).2.2.2.2).mono ?_
                  rintro (e : Ending) w8 ⟨rfl, hb8⟩
                  have g1 := g0.on hb8
                  show K _ _
                  refine hK.out _ _ ?_ (fun hHeld => ?_)
                  · exact ⟨(by have h9 := (g1.ownCellA 0 rfl HOc.out).1; rwa [HO1.out] at h9), (g1.fact 3 rfl).1, (g1.fact 3 rfl).2.1, (g1.fact 3 rfl).2.2.1, (g1.fact 3 rfl).2.2.2.1, g1.box3 8 rfl⟩
                  clear hK K
                  try simp only [Act.put, List.setIfInBounds_toArray, List.set_cons_zero, List.set_cons_succ]
                  refine anyH_take (v := ?_) 21 rfl (by kernel_rfl) (by kernel_rfl) (by kernel_rfl) (fun _ _ _ h => h) rfl ?_ hHeld ?_
                  rotate_left
                  · intro w' hSw
                    go_simp
                    try with_reducible rfl
                  try simp only [Act.put, List.setIfInBounds_toArray, List.set_cons_zero, List.set_cons_succ]
                  refine wpAnyH_ready (rs := [24]) (by kernel_rfl) (by simp) ?_
                  refine ready_cons rfl (fun K hK => ?_) AllReadyH.nil
                  go_simp
                  refine (HMo.out _).mono ?_
                  rintro (e : Ending) w9 ⟨rfl, rfl⟩
                  show K _ _
                  refine hK.out _ _ ?_ (fun hHeld => ?_)
                  · exact ⟨(by have h9 := (g1.ownCellA 0 rfl HOc.out).1; rwa [HO1.out] at h9), (g1.fact 3 rfl).1, (g1.fact 3 rfl).2.1, (g1.fact 3 rfl).2.2.1, (g1.fact 3 rfl).2.2.2.1, g1.box3 8 rfl⟩
                  clear hK K
                  try simp only [Act.put, List.setIfInBounds_toArray, List.set_cons_zero, List.set_cons_succ]
                  refine anyH_take (v := ?_) 25 rfl (by kernel_rfl) (by kernel_rfl) (by kernel_rfl) (fun _ _ _ h => h) rfl ?_ hHeld ?_
                  rotate_left
                  · intro w' hSw
                    go_simp
                    try with_reducible rfl
                  try simp only [Act.put, List.setIfInBounds_toArray, List.set_cons_zero, List.set_cons_succ]
                  refine wpAnyH_done (by kernel_rfl) ?_ _
                  show wpList _ _ _ _ _ _
                  simp only [List.drop_succ_cons, List.drop_zero]
                  clear hHeld
                  obtain ⟨v0, f0⟩ := g1.ownCellA 0 rfl HOc.out
                  have g5 := g1.set 0 rfl q1 ((o1 + x) % p)
                  clear g g0 g1 oc hb8
                  go_wp2
                  go_roundw
                  case rel => exact ⟨k0 + 1, by go_num, by omega, by rw [← HSet2.out]; exact g5⟩
                  case measure => simp [intOf]; omega
                · obtain rfl : k0 = s := by omega
                  rw [← HB0.out] at g
                  go_wp2
                  go_loopw [16] (fun v16 wr => ∃ k1 : Nat, v16 = .int .i64 k1 ∧ k1 ≤ t2 ∧ St w wr (.own (.slice (some ⟨gq, 0, none⟩) q q) (mbB p k0 t2 D E i j k1) :: rowsIt u11 us (mbR p k0 t2 D E (i * t2 + j)) :: OL)) (fun v16 _ => t2 - (intOf v16).toNat)
                  case atStart => exact ⟨0, rfl, by omega, g⟩
                  case round =>
                    clear g
                    obtain ⟨k1, rfl, a5, g⟩ := hrel
                    by_cases hk : k1 < t2
                    · subst hOL
                      have hlt : i * t2 + k1 < q := by rw [HQ.out]; exact spot_lt hi hk
                      have hset := HBs.out k1 hk
                      have hob := HBr.out k1 (i * t2 + k1)
                      have hxb := resid_vec' HEr.out (by omega : 0 < p) (k1 * t2 + j)
                      have hat := fun (W : World) x1 => HAt2.out W k1 j x1 hk hj
                      have g0 := g.drew
                      have oc := (g0.ownCellA 0 rfl (q := i * t2 + k1) (by rw [HBl.out]; exact hlt)).1
                      have HOc := Lib.hid (show i * t2 + k1 < (mbB p k0 t2 D E i j k1).length by rw [HBl.out]; exact hlt)
                      obtain ⟨x, hx⟩ : ∃ x, x = vec E (k1 * t2 + j) := ⟨_, rfl⟩
                      obtain ⟨o1, ho1⟩ : ∃ o1, o1 = vec (mbB p k0 t2 D E i j k1) (i * t2 + k1) := ⟨_, rfl⟩
                      have HO1 := Lib.hid ho1.symm
                      rw [← hx] at hset hxb hat
                      rw [← ho1] at hset hob oc
                      obtain ⟨z1, hz1⟩ : ∃ z1, z1 = i * t2 := ⟨_, rfl⟩
                      obtain ⟨q1, hq1⟩ : ∃ q1, q1 = z1 + k1 := ⟨_, rfl⟩
                      rw [← hz1, ← hq1] at hset hlt oc HOc HO1
                      have t1 : (i : Int) * (t2 : Int) = (z1 : Int) := by rw [hz1]; simp
                      have t3 : (z1 : Int) + (k1 : Int) = (q1 : Int) := by omega
                      have w1 : IntKind.i64.wrap (z1 : Int) = z1 := wrap_ok (by omega) (by omega)
                      have w2 : IntKind.i64.wrap (q1 : Int) = q1 := wrap_ok (by omega) (by omega)
                      have w5 : IntKind.i64.wrap (o1 - x) = o1 - x := wrap_ok (by omega) (by omega)
                      have i1 : (q1 : Int) < (q : Int) := by omega
                      have ik : (k1 : Int) < (t2 : Int) := by omega
                      have HSet2 := Lib.hid hset
                      have HAt9 := Lib.hid hat
                      have HMo := Lib.hid (fun (W : World) => l1Mod_any (o1 - x) p W (by omega) (by omega) (by omega) (by omega))
                      clear hz1 hq1 hset hlt hx ho1 hob hxb hat
                      go_upto_region 24 with fail
                      refine wp_region_cut (S := fun w' => w'.cell? ⟨gq, q1, none⟩ = some (.int .i64 o1) ∧ w'.cell? ⟨b8, off8 + e * 4, none⟩ = some (.int .i64 p) ∧ w'.cell? ⟨b8, off8 + e * 4 + 1, none⟩ = some (.int .i64 t2) ∧ w'.cell? ⟨b8, off8 + e * 4 + 2, none⟩ = some (.int .i64 t2) ∧ w'.cell? ⟨b8, off8 + e * 4 + 3, none⟩ = some (.slice A8 E.length c8) ∧ (w'.cell? ⟨w.heap.size, 0, none⟩ = some (.int .i64 p) ∧ w'.cell? ⟨w.heap.size, 1, none⟩ = some (.int .i64 ms.length) ∧ w'.cell? ⟨w.heap.size, 2, none⟩ = some (.slice A T.length k))) 26 (by kernel_rfl) (by kernel_rfl) ⟨oc, (g0.fact 2 rfl).1, (g0.fact 2 rfl).2.1, (g0.fact 2 rfl).2.2.1, (g0.fact 2 rfl).2.2.2.1, g0.box3 8 rfl⟩ (fun hHeld => ?_)
                      simp only [List.take_succ_cons, List.take_zero]
                      refine anyH_take (v := ?_) 0 rfl (by kernel_rfl) (by kernel_rfl) (by kernel_rfl) (fun _ _ _ h => h) rfl ?_ hHeld ?_
                      rotate_left
                      · intro w' hSw
                        go_simp
                        try with_reducible rfl
                      try simp only [Act.put, List.setIfInBounds_toArray, List.set_cons_zero, List.set_cons_succ]
                      refine anyH_take (v := ?_) 1 rfl (by kernel_rfl) (by kernel_rfl) (by kernel_rfl) (fun _ _ _ h => h) rfl ?_ hHeld ?_
                      rotate_left
                      · intro w' hSw
                        go_simp
                        try with_reducible rfl
                      try simp only [Act.put, List.setIfInBounds_toArray, List.set_cons_zero, List.set_cons_succ]
                      refine anyH_take (v := ?_) 2 rfl (by kernel_rfl) (by kernel_rfl) (by kernel_rfl) (fun _ _ _ h => h) rfl ?_ hHeld ?_
                      rotate_left
                      · intro w' hSw
                        go_simp
                        try with_reducible rfl
                      try simp only [Act.put, List.setIfInBounds_toArray, List.set_cons_zero, List.set_cons_succ]
                      refine anyH_take (v := ?_) 3 rfl (by kernel_rfl) (by kernel_rfl) (by kernel_rfl) (fun _ _ _ h => h) rfl ?_ hHeld ?_
                      rotate_left
                      · intro w' hSw
                        go_simp
                        try with_reducible rfl
                      try simp only [Act.put, List.setIfInBounds_toArray, List.set_cons_zero, List.set_cons_succ]
                      refine anyH_take (v := ?_) 4 rfl (by kernel_rfl) (by kernel_rfl) (by kernel_rfl) (fun _ _ _ h => h) rfl ?_ hHeld ?_
                      rotate_left
                      · intro w' hSw
                        go_simp
                        try with_reducible rfl
                      try simp only [Act.put, List.setIfInBounds_toArray, List.set_cons_zero, List.set_cons_succ]
                      refine anyH_take (v := ?_) 5 rfl (by kernel_rfl) (by kernel_rfl) (by kernel_rfl) (fun _ _ _ h => h) rfl ?_ hHeld ?_
                      rotate_left
                      · intro w' hSw
                        go_simp
                        try with_reducible rfl
                      try simp only [Act.put, List.setIfInBounds_toArray, List.set_cons_zero, List.set_cons_succ]
                      refine anyH_take (v := ?_) 6 rfl (by kernel_rfl) (by kernel_rfl) (by kernel_rfl) (fun _ _ _ h => h) rfl ?_ hHeld ?_
                      rotate_left
                      · intro w' hSw
                        go_simp
                        try with_reducible rfl
                      try simp only [Act.put, List.setIfInBounds_toArray, List.set_cons_zero, List.set_cons_succ]
                      refine anyH_take (v := ?_) 7 rfl (by kernel_rfl) (by kernel_rfl) (by kernel_rfl) (fun _ _ _ h => h) rfl ?_ hHeld ?_
                      rotate_left
                      · intro w' hSw
                        go_simp
                        try with_reducible rfl
                      try simp only [Act.put, List.setIfInBounds_toArray, List.set_cons_zero, List.set_cons_succ]
                      refine anyH_take (v := ?_) 8 rfl (by kernel_rfl) (by kernel_rfl) (by kernel_rfl) (fun _ _ _ h => h) rfl ?_ hHeld ?_
                      rotate_left
                      · intro w' hSw
                        go_simp
                        try with_reducible rfl
                      try simp only [Act.put, List.setIfInBounds_toArray, List.set_cons_zero, List.set_cons_succ]
                      refine anyH_take (v := ?_) 9 rfl (by kernel_rfl) (by kernel_rfl) (by kernel_rfl) (fun _ _ _ h => h) rfl ?_ hHeld ?_
                      rotate_left
                      · intro w' hSw
                        go_simp
                        try with_reducible rfl
                      try simp only [Act.put, List.setIfInBounds_toArray, List.set_cons_zero, List.set_cons_succ]
                      refine anyH_take (v := ?_) 10 rfl (by kernel_rfl) (by kernel_rfl) (by kernel_rfl) (fun _ _ _ h => h) rfl ?_ hHeld ?_
                      rotate_left
                      · intro w' hSw
                        go_simp
                        try with_reducible rfl
                      try simp only [Act.put, List.setIfInBounds_toArray, List.set_cons_zero, List.set_cons_succ]
                      refine anyH_take (v := ?_) 11 rfl (by kernel_rfl) (by kernel_rfl) (by kernel_rfl) (fun _ _ _ h => h) rfl ?_ hHeld ?_
                      rotate_left
                      · intro w' hSw
                        go_simp
                        try with_reducible rfl
                      try simp only [Act.put, List.setIfInBounds_toArray, List.set_cons_zero, List.set_cons_succ]
                      refine anyH_take (v := ?_) 12 rfl (by kernel_rfl) (by kernel_rfl) (by kernel_rfl) (fun _ _ _ h => h) rfl ?_ hHeld ?_
                      rotate_left
                      · intro w' hSw
                        go_simp
                        try with_reducible rfl
                      try simp only [Act.put, List.setIfInBounds_toArray, List.set_cons_zero, List.set_cons_succ]
                      refine anyH_take (v := ?_) 13 rfl (by kernel_rfl) (by kernel_rfl) (by kernel_rfl) (fun _ _ _ h => h) rfl ?_ hHeld ?_
                      rotate_left
                      · intro w' hSw
                        go_simp
                        try with_reducible rfl
                      try simp only [Act.put, List.setIfInBounds_toArray, List.set_cons_zero, List.set_cons_succ]
                      refine anyH_take (v := ?_) 14 rfl (by kernel_rfl) (by kernel_rfl) (by kernel_rfl) (fun _ _ _ h => h) rfl ?_ hHeld ?_
                      rotate_left
                      · intro w' hSw
                        go_simp
                        try with_reducible rfl
                      try simp only [Act.put, List.setIfInBounds_toArray, List.set_cons_zero, List.set_cons_succ]
                      refine anyH_take (v := ?_) 15 rfl (by kernel_rfl) (by kernel_rfl) (by kernel_rfl) (fun _ _ _ h => h) rfl ?_ hHeld ?_
                      rotate_left
                      · intro w' hSw
                        go_simp
                        try with_reducible rfl
                      try simp only [Act.put, List.setIfInBounds_toArray, List.set_cons_zero, List.set_cons_succ]
                      refine anyH_take (v := ?_) 16 rfl (by kernel_rfl) (by kernel_rfl) (by kernel_rfl) (fun _ _ _ h => h) rfl ?_ hHeld ?_
                      rotate_left
                      · intro w' hSw
                        go_simp
                        try with_reducible rfl
                      try simp only [Act.put, List.setIfInBounds_toArray, List.set_cons_zero, List.set_cons_succ]
                      refine anyH_take (v := ?_) 17 rfl (by kernel_rfl) (by kernel_rfl) (by kernel_rfl) (fun _ _ _ h => h) rfl ?_ hHeld ?_
                      rotate_left
                      · intro w' hSw
                        go_simp
                        try with_reducible rfl
                      try simp only [Act.put, List.setIfInBounds_toArray, List.set_cons_zero, List.set_cons_succ]
                      refine anyH_take (v := ?_) 18 rfl (by kernel_rfl) (by kernel_rfl) (by kernel_rfl) (fun _ _ _ h => h) rfl ?_ hHeld ?_
                      rotate_left
                      · intro w' hSw
                        go_simp
                        try with_reducible rfl
                      try simp only [Act.put, List.setIfInBounds_toArray, List.set_cons_zero, List.set_cons_succ]
                      refine anyH_take (v := ?_) 19 rfl (by kernel_rfl) (by kernel_rfl) (by kernel_rfl) (fun _ _ _ h => h) rfl ?_ hHeld ?_
                      rotate_left
                      · intro w' hSw
                        go_simp
                        try with_reducible rfl
                      try simp only [Act.put, List.setIfInBounds_toArray, List.set_cons_zero, List.set_cons_succ]
                      refine anyH_take (v := ?_) 22 rfl (by kernel_rfl) (by kernel_rfl) (by kernel_rfl) (fun _ _ _ h => h) rfl ?_ hHeld ?_
                      rotate_left
                      · intro w' hSw
                        go_simp
                        try with_reducible rfl
                      try simp only [Act.put, List.setIfInBounds_toArray, List.set_cons_zero, List.set_cons_succ]
                      refine anyH_take (v := ?_) 23 rfl (by kernel_rfl) (by kernel_rfl) (by kernel_rfl) (fun _ _ _ h => h) rfl ?_ hHeld ?_
                      rotate_left
                      · intro w' hSw
                        go_simp
                        try with_reducible rfl
                      try simp only [Act.put, List.setIfInBounds_toArray, List.set_cons_zero, List.set_cons_succ]
                      refine wpAnyH_ready (rs := [20]) (by kernel_rfl) (by simp) ?_
                      refine ready_cons rfl (fun K hK => ?_) AllReadyH.nil
                      go_simp
                      refine (HAt9.out _ (g0.fact 2 rfl).2.2.2.2).mono ?_
                      rintro (e : Ending) w8 ⟨rfl, hb8⟩
                      have g1 := g0.on hb8
                      show K _ _
                      refine hK.out _ _ ?_ (fun hHeld => ?_)
                      · exact ⟨(by have h9 := (g1.ownCellA 0 rfl HOc.out).1; rwa [HO1.out] at h9), (g1.fact 2 rfl).1, (g1.fact 2 rfl).2.1, (g1.fact 2 rfl).2.2.1, (g1.fact 2 rfl).2.2.2.1, g1.box3 8 rfl⟩
                      clear hK K
                      try simp only [Act.put, List.setIfInBounds_toArray, List.set_cons_zero, List.set_cons_succ]
                      refine anyH_take (v := ?_) 21 rfl (by kernel_rfl) (by kernel_rfl) (by kernel_rfl) (fun _ _ _ h => h) rfl ?_ hHeld ?_
                      rotate_left
                      · intro w' hSw
                        go_simp
                        try with_reducible rfl
                      try simp only [Act.put, List.setIfInBounds_toArray, List.set_cons_zero, List.set_cons_succ]
                      refine wpAnyH_ready (rs := [24]) (by kernel_rfl) (by simp) ?_
                      refine ready_cons rfl (fun K hK => ?_) AllReadyH.nil
                      go_simp
                      refine (HMo.out _).mono ?_
                      rintro (e : Ending) w9 ⟨rfl, rfl⟩
                      show K _ _
                      refine hK.out _ _ ?_ (fun hHeld => ?_)
                      · exact ⟨(by have h9 := (g1.ownCellA 0 rfl HOc.out).1; rwa [HO1.out] at h9), (g1.fact 2 rfl).1, (g1.fact 2 rfl).2.1, (g1.fact 2 rfl).2.2.1, (g1.fact 2 rfl).2.2.2.1, g1.box3 8 rfl⟩
                      clear hK K
                      try simp only [Act.put, List.setIfInBounds_toArray, List.set_cons_zero, List.set_cons_succ]
                      refine anyH_take (v := ?_) 25 rfl (by kernel_rfl) (by kernel_rfl) (by kernel_rfl) (fun _ _ _ h => h) rfl ?_ hHeld ?_
                      rotate_left
                      · intro w' hSw
                        go_simp
                        try with_reducible rfl
                      try simp only [Act.put, List.setIfInBounds_toArray, List.set_cons_zero, List.set_cons_succ]
                      refine wpAnyH_done (by kernel_rfl) ?_ _
                      show wpList _ _ _ _ _ _
                      simp only [List.drop_succ_cons, List.drop_zero]
                      clear hHeld
                      obtain ⟨v0, f0⟩ := g1.ownCellA 0 rfl HOc.out
                      have g5 := g1.set 0 rfl q1 ((o1 - x) % p)
                      clear g g0 g1 oc hb8
                      go_wp2
                      go_roundw
                      case rel => exact ⟨k1 + 1, by go_num, by omega, by rw [← HSet2.out]; exact g5⟩
                      case measure => simp [intOf]; omega
                    · obtain rfl : k1 = t2 := by omega
                      have Hl2 := Lib.hid (Hul.out.trans HlR.out.symm)
                      have Hl3 := Lib.hid (show (mbR p k0 k1 D E (i * k1 + j)).length + 1 ≤ 1099511627776 by rw [HlR.out]; omega)
                      go_wp2_with (at_builtin; refine wp_append_row' rfl (.tmp 128) (.tmp 130) rfl g 0 rfl Hl2.out rfl rfl Hl3.out ?_; intro v1 w9 h10)
                      go_roundw
                      case rel => exact ⟨j + 1, us ++ [_], by go_num, by omega, by show _ = _; rw [List.length_append, Hul.out]; rfl, by rw [← Nat.add_assoc, HR1.out]; exact h10⟩
                      case measure => simp [intOf]; omega
            · obtain rfl : j = t2 := by omega
              go_wp2
              go_roundw
              case rel => exact ⟨i + 1, us, by go_num, by omega, by show _ = _; rw [Hul.out, Nat.add_mul, Nat.one_mul], by rw [Nat.add_mul, Nat.one_mul]; exact g⟩
              case measure => simp [intOf]; omega
        · obtain rfl : i = s := by omega
          have HQ9 := Lib.hid (show i * t2 = q from HQ.out.symm)
          have Hu3 := Lib.hid (show us.length = (mbR p i t2 D E q).length by rw [Hul.out, HQ9.out, HRl.out])
          rw [HQ9.out] at g
          have HJ := Lib.hid (show ∀ (W : World) (v1 : Value) (x1 : Ints W (.slice Ak nk ck) (flat q K)) (x2 : Ints W v1 (flat q (mbR p i t2 D E q))), Calls Try.prog 101 #[.agg #[.int .i64 p, .int .i64 Kl, .int .i64 q, .slice Ak nk ck], .agg #[.int .i64 p, .int .i64 q, .int .i64 q, v1]] W (RetMat W p (spanL p q (K ++ mbR p i t2 D E q)).length q (flat q (spanL p q (K ++ mbR p i t2 D E q)))) from fun W v1 x1 x2 => by
            have hq9 := HQ9.out
            have h9 := l1Join_big p p q q _ v1 K (mbR p i t2 D E q) W x1 x2 (by rw [← hq9]; exact HKW.out) (by have := HRW.out; rwa [hq9] at this) (by have := HKl.out; omega) (by rw [HRl.out]; omega) b3 HP.out
            rw [HRl.out, ← HK2.out] at h9
            exact h9)
          have HLr := Lib.hid (show ∀ (W : World) (v1 : Value) (x1 : IntRows W v1 (mbR p i t2 D E q)), Calls Try.prog 102 #[.int .i64 p, .int .i64 q, v1] W (RetMat W p q q (flat q (mbR p i t2 D E q))) from fun W v1 x1 => by
            have hq9 := HQ9.out
            have hw := HRW.out
            rw [hq9] at hw
            have h9 := l1Rows_any p q v1 (mbR p i t2 D E q) W x1 (by rw [mb_total (p := p) (n := q) _ (fun l hl => (Wf_iff_mem.1 hw l hl).1), HRl.out]; have := Nat.mul_le_mul b3 b3; omega)
            rw [HRl.out, ← flat_flatten hw] at h9
            exact h9)
          rw [← HSs1.out] at HJ
          obtain ⟨K2, hK2⟩ : ∃ K2, K2 = mbS p i t2 (ms.map Mt.d) (ns.map Mt.d) (e + 1) := ⟨_, rfl⟩
          rw [← hK2] at HJ
          have HKn := Lib.hid hK2
          subst hOL
          obtain ⟨F9, hF9⟩ : ∃ F9, F9 = flat q (mbR p i t2 D E q) := ⟨_, rfl⟩
          rw [← hF9] at HJ HLr
          obtain ⟨K2l, hK2l⟩ : ∃ K2l, K2l = K2.length := ⟨_, rfl⟩
          rw [← hK2l] at HJ
          have HK2l := Lib.hid hK2l
          clear hK2 hF9 hK2l
          go_upto_region 26 with fail
          have g0 := g.drew
          refine wp_region_cut (S := fun w' => (w'.cell? ⟨B9, 0, none⟩ = some (.int .i64 p) ∧ w'.cell? ⟨B9, 1, none⟩ = some (.int .i64 Kl) ∧ w'.cell? ⟨B9, 2, none⟩ = some (.int .i64 q) ∧ w'.cell? ⟨B9, 3, none⟩ = some (.slice Ak nk ck)) ∧ (w'.cell? ⟨w.heap.size, 0, none⟩ = some (.int .i64 p) ∧ w'.cell? ⟨w.heap.size, 1, none⟩ = some (.int .i64 ms.length) ∧ w'.cell? ⟨w.heap.size, 2, none⟩ = some (.slice A T.length k))) 9 (by kernel_rfl) (by kernel_rfl) ⟨g0.box4 3 rfl, g0.box3 7 rfl⟩ (fun hHeld => ?_)
          simp only [List.take_succ_cons, List.take_zero]
          refine anyH_take (v := ?_) 0 rfl (by kernel_rfl) (by kernel_rfl) (by kernel_rfl) (fun _ _ _ h => h) rfl ?_ hHeld ?_
          rotate_left
          · intro w' hSw
            go_simp
            try with_reducible rfl
          try simp only [Act.put, List.setIfInBounds_toArray, List.set_cons_zero, List.set_cons_succ]
          refine anyH_take (v := ?_) 1 rfl (by kernel_rfl) (by kernel_rfl) (by kernel_rfl) (fun _ _ _ h => h) rfl ?_ hHeld ?_
          rotate_left
          · intro w' hSw
            go_simp
            try with_reducible rfl
          try simp only [Act.put, List.setIfInBounds_toArray, List.set_cons_zero, List.set_cons_succ]
          refine anyH_take (v := ?_) 2 rfl (by kernel_rfl) (by kernel_rfl) (by kernel_rfl) (fun _ _ _ h => h) rfl ?_ hHeld ?_
          rotate_left
          · intro w' hSw
            go_simp
            try with_reducible rfl
          try simp only [Act.put, List.setIfInBounds_toArray, List.set_cons_zero, List.set_cons_succ]
          refine anyH_take (v := ?_) 3 rfl (by kernel_rfl) (by kernel_rfl) (by kernel_rfl) (fun _ _ _ h => h) rfl ?_ hHeld ?_
          rotate_left
          · intro w' hSw
            go_simp
            try with_reducible rfl
          try simp only [Act.put, List.setIfInBounds_toArray, List.set_cons_zero, List.set_cons_succ]
          refine anyH_take (v := ?_) 4 rfl (by kernel_rfl) (by kernel_rfl) (by kernel_rfl) (fun _ _ _ h => h) rfl ?_ hHeld ?_
          rotate_left
          · intro w' hSw
            go_simp
            try with_reducible rfl
          try simp only [Act.put, List.setIfInBounds_toArray, List.set_cons_zero, List.set_cons_succ]
          refine anyH_take (v := ?_) 5 rfl (by kernel_rfl) (by kernel_rfl) (by kernel_rfl) (fun _ _ _ h => h) rfl ?_ hHeld ?_
          rotate_left
          · intro w' hSw
            go_simp
            try with_reducible rfl
          try simp only [Act.put, List.setIfInBounds_toArray, List.set_cons_zero, List.set_cons_succ]
          refine anyH_take (v := ?_) 6 rfl (by kernel_rfl) (by kernel_rfl) (by kernel_rfl) (fun _ _ _ h => h) rfl ?_ hHeld ?_
          rotate_left
          · intro w' hSw
            go_simp
            try with_reducible rfl
          try simp only [Act.put, List.setIfInBounds_toArray, List.set_cons_zero, List.set_cons_succ]
          refine wpAnyH_ready (rs := [7]) (by kernel_rfl) (by simp) ?_
          refine ready_cons rfl (fun K hK => ?_) AllReadyH.nil
          go_simp
          refine (HLr.out _ _ (g0.rowsR 0 rfl Hu3.out)).mono ?_
          rintro (e : Ending) w8 ⟨u8, rfl, ho8, hb8⟩
          obtain ⟨A10, n10, c10, rfl⟩ := ho8.slice
          have g1 := g0.pushOwn hb8 ho8
          show K _ _
          refine hK.out _ _ ?_ (fun hHeld => ?_)
          · exact ⟨g1.box4 4 rfl, g1.box3 8 rfl⟩
          clear hK K
          try simp only [Act.put, List.setIfInBounds_toArray, List.set_cons_zero, List.set_cons_succ]
          refine wpAnyH_ready (rs := [8]) (by kernel_rfl) (by simp) ?_
          refine ready_cons rfl (fun K hK => ?_) AllReadyH.nil
          go_simp
          refine (HJ.out _ _ (g1.ownInts 5 rfl) (g1.ownInts 0 rfl)).mono ?_
          rintro (e : Ending) w9 ⟨u9, rfl, ho9, hb9⟩
          obtain ⟨A11, n11, c11, rfl⟩ := ho9.slice
          have g2 := g1.pushOwn hb9 ho9
          show K _ _
          refine hK.out _ _ ?_ (fun hHeld => ?_)
          · exact ⟨g2.box4 5 rfl, g2.box3 9 rfl⟩
          clear hK K
          try simp only [Act.put, List.setIfInBounds_toArray, List.set_cons_zero, List.set_cons_succ]
          refine wpAnyH_done (by kernel_rfl) ?_ _
          show wpList _ _ _ _ _ _
          simp only [List.drop_succ_cons, List.drop_zero]
          clear hHeld
          clear g g0 g1 ho8 hb8 ho9 hb9
          obtain ⟨p0, p1, p2, p3⟩ := g2.box4 5 rfl
          have f0 := g2.free 5 rfl 0
          have f1 := g2.free 5 rfl 1
          have f2 := g2.free 5 rfl 2
          have f3 := g2.free 5 rfl 3
          have g5 := (((g2.setBox 5 rfl 0 (.int .i64 p)).setBox 5 rfl 1 (.int .i64 K2l)).setBox 5 rfl 2 (.int .i64 q)).setBox 5 rfl 3 (.slice A11 n11 c11)
          obtain ⟨r0, r1, r2, r3⟩ := g5.box4 5 rfl
          go_wp2
          go_roundw
          case rel => exact ⟨e + 1, _, _, _, K2l, K2, by go_num, by omega, Lib.hid ⟨HKn.out, HK2l.out⟩, g5.re [5, 0, 7, 8, 9, 10, 11, 12] (by decide) (fun j => by rcases j with _ | _ | _ | _ | _ | _ | _ | _ | j <;> rfl)⟩
          case measure => simp [intOf]; omega
    · obtain rfl : e = ms.length := by omega
      obtain ⟨hK1, hK2⟩ := HK.out
      obtain ⟨hKW, hKl⟩ := HSW.out ms.length (Nat.le_refl _)
      have hKx : kerL p q K = X0 := by rw [HF.out, ← HSK.out, hK1, HQ.out]
      rw [← hK1, ← HQ.out] at hKW hKl
      have HKr := Lib.hid (show ∀ (W : World) (x1 : Ints W (.slice Ak nk ck) (flat q K)), Calls Try.prog 104 #[.agg #[.int .i64 p, .int .i64 Kl, .int .i64 q, .slice Ak nk ck]] W (RetMat W p X0.length q (flat q X0)) from fun W x1 => by
        have h9 := l1Kernel_any p K.length q _ (flat q K) W x1 (length_flat _ _) (by have := Nat.mul_le_mul (show K.length ≤ 64 by omega) b3; omega) (by omega) (by omega) HP.out (resid_flat (by omega) hKW)
        rw [rowsM_flat hKW, hKx, ← hK2] at h9
        exact h9)
      have hXw : Wf p q X0 := by rw [← hKx]; exact Wf_kerL HP.out q K
      have hXl : X0.length ≤ q := by
        obtain ⟨a, hr⟩ := kerL_rf HP.out q K
        have := rf_le_n g4 hr
        rw [hKx] at this; exact this
      have HLl := Lib.hid (fun (W : World) (v1 : Value) (x1 : Ints W v1 (flat q X0)) => l3Lists_any p X0.length q v1 (flat q X0) W x1 (length_flat _ _) (by have := Nat.mul_le_mul (show X0.length ≤ 64 by omega) b3; omega) (by omega) (by omega))
      rw [rowsM_flat hXw] at HLl
      clear hK1 hK2 hKW hKl hKx hXw hXl
      obtain ⟨y0, y1, y2, y3⟩ := g.box4 0 rfl
      go_wp2_with fail
      refine (HKr.out _ (g.ownInts 1 rfl)).mono ?_
      rintro (e : Ending) w8 ⟨u8, rfl, ho8, hb8⟩
      obtain ⟨A10, n10, c10, rfl⟩ := ho8.slice
      have g1 := g.pushOwn hb8 ho8
      clear y0 y1 y2 y3 z0 z1 z2 g ho8 hb8
      go_wp2_with fail
      refine (HLl.out _ _ (g1.ownInts 0 rfl)).mono ?_
      rintro (e : Ending) w7 ⟨u7, us7, rfl, hul7, hok7, hnd7, hb7⟩
      have g8 := g1.pushRows hb7 hok7 hnd7
      go_wp2
      go_ret
      exact ⟨_, us7, rfl, hul7, g8.at 0 rfl, g8.vecNodup 0 rfl, g8.below⟩
end Go.Proofs.Ytcdbgcpccmcbeaa
