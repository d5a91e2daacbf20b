/- IsModule of both programs: what is tested; the reference. -/
import Derived.Test.YthiainhhaokjoaaMul
import Derived.Test.YthiainhhaokjoaaSubSp
import Derived.Test.YthiainhhaokjoaaHom
namespace Go.Proofs.Ythiainhhaokjoaa
set_option maxRecDepth 100000
open Go.RowKit

def mAt (ms : List Mt) (i : Nat) : Mt := ms.getD i ⟨0, 0, 0, []⟩
theorem len_rowT (T : List Int) (n i j : Nat) : (rowT T n i j).length = n := length_tab _ _
theorem mAt_get {ms : List Mt} {i : Nat} (h : i < ms.length) : ms[i] = mAt ms i := by simp [mAt, List.getD_eq_getElem?_getD, h]
/-- One matrix of a module of size s. -/
def mtOk (p s : Int) (m : Mt) : Bool := matOk m.p m.r m.c m.d && decide (m.p = p ∧ m.r = s ∧ m.c = s ∧ s ≤ 30)
/-- One bracket. -/
def comAt (p : Int) (s n : Nat) (T : List Int) (ms : List Mt) (i j : Nat) : Bool := decide (sumMTo p (s * s) (rowT T n i j) (ms.map Mt.d) n = comD p s (mAt ms j).d (mAt ms i).d)
def modHead (p n : Int) (T : List Int) (ms : List Mt) : Bool := algOk p n T && decide (n ≠ 0 ∧ (ms.length : Int) = n)
def modMats (p n : Int) (ms : List Mt) : Bool := allF (fun i => mtOk p (mAt ms 0).r (mAt ms i)) n.toNat 0
def modComs (p n : Int) (T : List Int) (ms : List Mt) : Bool := allF (fun i => allF (comAt p (mAt ms 0).r.toNat n.toNat T ms i) i 0) n.toNat 0
def isMod (p n : Int) (T : List Int) (ms : List Mt) : Bool := modHead p n T ms && (modMats p n ms && modComs p n T ms)
theorem mtOk_spec {p s : Int} {m : Mt} (h : mtOk p s m = true) : ∃ a : Nat, s = a ∧ a ≤ 30 ∧ m.p = p ∧ m.r = a ∧ m.c = a ∧ m.d.length = a * a ∧ resid p m.d = true ∧ isPrime p = true := by
  simp only [mtOk, Bool.and_eq_true, decide_eq_true_eq] at h
  obtain ⟨h1, rfl, h2, h3, h4⟩ := h
  obtain ⟨a, b, h5, h6, _, _, h7, h8, _, _, h9⟩ := matOk_spec h1
  have e : b = a := by omega
  subst e
  exact ⟨b, by omega, by omega, rfl, h5, h6, h7, h8, h9⟩
/-- What the walks of the brackets want of the matrices. -/
theorem mats_spec {p s : Int} {N : Nat} {ms : List Mt} (hl : ms.length = N) (hN : 0 < N) (h : ∀ k, k < N → mtOk p s (mAt ms k) = true) : ∃ a : Nat, s = a ∧ a ≤ 30 ∧ ∀ i (h : i < ms.length), (ms[i]).p = p ∧ (ms[i]).r = a ∧ (ms[i]).c = a ∧ (ms[i]).d.length = a * a ∧ resid p (ms[i]).d = true := by
  obtain ⟨a, h0, h1, _⟩ := mtOk_spec (h 0 hN)
  refine ⟨a, h0, h1, fun i hi => ?_⟩
  rw [mAt_get hi]
  obtain ⟨b, g0, g1, g2, g3, g4, g5, g6, _⟩ := mtOk_spec (h i (by omega))
  have e : b = a := by omega
  subst e
  exact ⟨g2, g3, g4, g5, g6⟩
theorem pushMt {w0 w : World} {L : List It} (h : St w0 w L) {b off i : Nat} {A : Option Addr} {c : Nat} {m : Mt} (hm : MtAt w0 b (off + i * 4) m (.slice A m.d.length c)) :
    St w0 w (.fact (fun w' => w'.cell? ⟨b, off + i * 4, none⟩ = some (.int .i64 m.p) ∧ w'.cell? ⟨b, off + i * 4 + 1, none⟩ = some (.int .i64 m.r) ∧ w'.cell? ⟨b, off + i * 4 + 2, none⟩ = some (.int .i64 m.c) ∧ w'.cell? ⟨b, off + i * 4 + 3, none⟩ = some (.slice A m.d.length c)) :: L) := by
  refine h.pushOld fun w' hk => ?_
  obtain ⟨k0, k1, k2, k3, _⟩ := hm
  have kk : ∀ {o : Nat} {x : Value}, w0.cell? ⟨b, o, none⟩ = some x → w'.cell? ⟨b, o, none⟩ = some x := fun h => (World.cell?_of_block (hk _ (World.block_lt_of_cell? w0 _ h))).trans h
  exact ⟨kk k0, kk k1, kk k2, kk k3⟩

set_option maxHeartbeats 8000000 in
theorem IsModuleS_any (p n : Int) (t v : Value) (T : List Int) (ms : List Mt) (w : World) (ht : Ints w t T) (hv : MatsR w v ms) (hp0 : p ≤ 9223372036854775807) (hw : ∀ i, i < ms.length → (mAt ms i).p ≤ 9223372036854775807) :
    Calls Try.prog 80 #[.agg #[.int .i64 p, .int .i64 n, t], v] w (RetBool w (isMod p n T ms)) := by
  have h1 := (((St.start w).arg ht).pushFact hv.fact).box [.int .i64 p, .int .i64 n, t] 33
  obtain ⟨A, k, rfl, _, _, _⟩ := id ht
  obtain ⟨A2, k2, rfl, _, _, _⟩ := id hv
  by_cases b1 : algOk p n T = true
  case neg =>
    have b1 : algOk p n T = false := by simpa using b1
    rw [show isMod p n T ms = false by simp [isMod, modHead, b1]]
    clear ht hv hw
    obtain ⟨z0, z1, z2⟩ := h1.box3 0 rfl
    go_enter Try.func80, Try.ntmps80
    go_wp2_with fail
    refine (AlgebraOkS_any p n _ T _ (h1.roInts 2 rfl)).mono ?_
    rintro e wn ⟨rfl, hb1⟩
    replace h1 := h1.on hb1
    clear hb1
    go_wp2
    go_ret
    exact ⟨rfl, h1.below⟩
  by_cases b2 : n = 0
  case pos =>
    rw [show isMod p n T ms = false by simp [isMod, modHead, b2]]
    have e2 : (n == 0) = true := by simp [b2]
    clear ht hv hw b2
    obtain ⟨z0, z1, z2⟩ := h1.box3 0 rfl
    go_enter Try.func80, Try.ntmps80
    go_wp2_with fail
    refine (AlgebraOkS_any p n _ T _ (h1.roInts 2 rfl)).mono ?_
    rintro e wn ⟨rfl, hb1⟩
    replace h1 := h1.on hb1
    clear hb1
    clear z0 z1 z2
    obtain ⟨z0, z1, z2⟩ := h1.box3 0 rfl
    go_wp2
    go_ret
    exact ⟨rfl, h1.below⟩
  by_cases b3 : (ms.length : Int) = n
  case neg =>
    rw [show isMod p n T ms = false by simp [isMod, modHead, b3]]
    have e2 : (n == 0) = false := by simp [b2]
    have e3 : ((ms.length : Int) != n) = true := by simp [b3]
    clear ht hv hw b2 b3
    obtain ⟨z0, z1, z2⟩ := h1.box3 0 rfl
    go_enter Try.func80, Try.ntmps80
    go_wp2_with fail
    refine (AlgebraOkS_any p n _ T _ (h1.roInts 2 rfl)).mono ?_
    rintro e wn ⟨rfl, hb1⟩
    replace h1 := h1.on hb1
    clear hb1
    clear z0 z1 z2
    obtain ⟨z0, z1, z2⟩ := h1.box3 0 rfl
    go_wp2
    go_ret
    exact ⟨rfl, h1.below⟩
  obtain ⟨N, rfl, k1, kT, k3, k4, k5, k6⟩ := algOk_spec b1
  have hN : ms.length = N := by omega
  have hN0 : 0 < N := by omega
  obtain ⟨m0, ms, rfl⟩ : ∃ a l, ms = a :: l := by cases ms with | nil => simp at hN; omega | cons a l => exact ⟨a, l, rfl⟩
  obtain ⟨R, hR⟩ : ∃ R, R = isMod p N T (m0 :: ms) := ⟨_, rfl⟩
  rw [← hR]
  have hm0 : mAt (m0 :: ms) 0 = m0 := rfl
  obtain ⟨K0, hK0⟩ : ∃ K0, K0 = modComs p N T (m0 :: ms) := ⟨_, rfl⟩
  have HR : Hid (R = (allF (fun i => mtOk p m0.r (mAt (m0 :: ms) i)) (N - 0) 0 && K0)) := by
    show _ = _
    rw [hR, isMod, modHead, b1, hK0, modMats, hm0, Int.toNat_natCast, Nat.sub_zero, show decide ((N : Int) ≠ 0 ∧ ((m0 :: ms).length : Int) = N) = true from decide_eq_true ⟨b2, b3⟩]
    rfl
  have HK0 : Hid (K0 = allF (fun i => allF (comAt p m0.r.toNat N T (m0 :: ms) i) i 0) (N - 0) 0) := by show _ = _; rw [hK0, modComs, hm0, Int.toNat_natCast]; rfl
  obtain ⟨b0, off0, A8, k8, rfl, hmt0⟩ := hv.at (i := 0) (by simp)
  replace h1 := h1.pushOld (R := fun w' => w'.cell? ⟨b0, off0 + 1, none⟩ = some (.int .i64 m0.r)) (fun w' hk => (World.cell?_of_block (hk _ (World.block_lt_of_cell? w _ hmt0.2.1))).trans hmt0.2.1)
  have HV := Lib.hid hv
  have HW := Lib.hid hw
  have HT := Lib.hid kT
  have HN := Lib.hid hN
  have e2 : ((N : Int) == 0) = false := by simp; omega
  have e3 : ((ms.length : Int) + 1 != N) = false := by
    rw [show (ms.length : Int) + 1 = N by rw [← hN]; simp]
    simp
  have i0 : (0 : Int) < (ms.length : Int) + 1 := by omega
  have hlen : (ms.length : Int) + 1 = N := by rw [← hN]; simp
  have B1 := Lib.hid b1
  have HLen := Lib.hid hlen
  clear ht hv hw hR hm0 hK0 hmt0 kT b2 b3 hN b1 hlen
  obtain ⟨z0, z1, z2⟩ := h1.box3 1 rfl
  go_enter Try.func80, Try.ntmps80
  go_wp2_with fail
  refine (AlgebraOkS_any p N _ T _ (h1.roInts 3 rfl)).mono ?_
  rintro (e : Ending) w1 ⟨rfl, hb1⟩
  replace h1 := h1.on hb1
  rw [B1.out]
  clear hb1 z0 z1 z2
  obtain ⟨z0, z1, z2⟩ := h1.box3 1 rfl
  have y0 := h1.fact 0 rfl
  go_wp2
  clear z0 z1 z2 y0
  go_loopw [5] (fun v5 wr => ∃ i : Nat, v5 = .int .i64 i ∧ i ≤ N ∧ Hid (∀ k, k < i → mtOk p m0.r (mAt (m0 :: ms) k) = true) ∧ Hid (R = (allF (fun i => mtOk p m0.r (mAt (m0 :: ms) i)) (N - i) i && K0)) ∧ St w wr [.fact (fun w' => w'.cell? ⟨b0, off0 + 1, none⟩ = some (.int .i64 m0.r)), .box w.heap.size [.int .i64 p, .int .i64 N, .slice A T.length k], .fact (fun w' => MatsR w' (.slice (some ⟨b0, off0, none⟩) (m0 :: ms).length k2) (m0 :: ms)), .ro (.slice A T.length k) T]) (fun v5 _ => N - (intOf v5).toNat)
  case atStart => exact ⟨0, rfl, by omega, fun k hk => absurd hk (Nat.not_lt_zero k), HR, h1⟩
  case round =>
    clear h1 HR
    obtain ⟨i, rfl, a1, HAll, HR, h1⟩ := hrel
    by_cases hi : i < N
    · have him : i < (m0 :: ms).length := by rw [HN.out]; exact hi
      obtain ⟨b9, off9, A9, c9, hbo, hm⟩ := HV.out.at (i := i) him
      simp only [Option.some.injEq, Addr.mk.injEq, and_true] at hbo
      obtain ⟨rfl, rfl⟩ := hbo
      rw [mAt_get him] at hm
      have hmw := HW.out i him
      have hst := HR.out
      rw [allF_step hi] at hst
      obtain ⟨m, hmm⟩ : ∃ m, m = mAt (m0 :: ms) i := ⟨_, rfl⟩
      have HMm := Lib.hid hmm
      have iM2 : (i : Int) < (ms.length : Int) + 1 := by rw [HLen.out]; omega
      have HS1 : Hid (R = (mtOk p m0.r m && (allF (fun i => mtOk p m0.r (mAt (m0 :: ms) i)) (N - (i + 1)) (i + 1) && K0))) := by show _ = _; rw [hst, hmm, Bool.and_assoc]
      rw [← hmm] at hm hmw
      have h2 := pushMt h1 hm
      have hIn : IntsB w w.heap.size (.slice A9 m.d.length c9) m.d := hm.2.2.2.2.toB
      have HI := Lib.hid hIn
      clear hst hmm hm hIn him h1 HR
      by_cases b4 : matOk m.p m.r m.c m.d = true
      case neg =>
        have B4 : Hid (matOk m.p m.r m.c m.d = false) := by show _ = _; simpa using b4
        have HF : Hid (R = false) := by show _ = _; rw [HS1.out, mtOk, B4.out]; simp
        clear b4
        go_upto_region 6 with fail
        have g0 := h2.drew
        refine wp_region_held_drew (S := fun w' => (w'.cell? ⟨b0, off0 + i * 4, none⟩ = some (.int .i64 m.p) ∧ w'.cell? ⟨b0, off0 + i * 4 + 1, none⟩ = some (.int .i64 m.r) ∧ w'.cell? ⟨b0, off0 + i * 4 + 2, none⟩ = some (.int .i64 m.c) ∧ w'.cell? ⟨b0, off0 + i * 4 + 3, none⟩ = some (.slice A9 m.d.length c9)) ∧ (w'.cell? ⟨b0, off0 + 1, none⟩ = some (.int .i64 m0.r)) ∧ w'.cell? ⟨w.heap.size, 0, none⟩ = some (.int .i64 p) ∧ w'.cell? ⟨w.heap.size, 1, none⟩ = some (.int .i64 N) ∧ w'.cell? ⟨w.heap.size, 2, none⟩ = some (.slice A T.length k)) (by kernel_rfl) ⟨g0.fact 0 rfl, g0.fact 1 rfl, g0.box3 2 rfl⟩ (fun hHeld => ?_)
        refine anyH_take (v := ?_) 0 rfl (by kernel_rfl) (by kernel_rfl) (by kernel_rfl) (fun _ _ _ h => h) rfl ?_ hHeld ?_
        rotate_left
        · intro w' hSw
          go_simp
          try with_reducible rfl
        try simp only [Act.put, List.setIfInBounds_toArray, List.set_cons_zero, List.set_cons_succ]
        refine anyH_take (v := ?_) 1 rfl (by kernel_rfl) (by kernel_rfl) (by kernel_rfl) (fun _ _ _ h => h) rfl ?_ hHeld ?_
        rotate_left
        · intro w' hSw
          go_simp
          try with_reducible rfl
        try simp only [Act.put, List.setIfInBounds_toArray, List.set_cons_zero, List.set_cons_succ]
        refine anyH_take (v := ?_) 2 rfl (by kernel_rfl) (by kernel_rfl) (by kernel_rfl) (fun _ _ _ h => h) rfl ?_ hHeld ?_
        rotate_left
        · intro w' hSw
          go_simp
          try with_reducible rfl
        try simp only [Act.put, List.setIfInBounds_toArray, List.set_cons_zero, List.set_cons_succ]
        refine anyH_take (v := ?_) 3 rfl (by kernel_rfl) (by kernel_rfl) (by kernel_rfl) (fun _ _ _ h => h) rfl ?_ hHeld ?_
        rotate_left
        · intro w' hSw
          go_simp
          try with_reducible rfl
        try simp only [Act.put, List.setIfInBounds_toArray, List.set_cons_zero, List.set_cons_succ]
        refine wpAnyH_ready (rs := [4]) (by kernel_rfl) (by simp) ?_
        refine ready_cons rfl (fun K hK => ?_) AllReadyH.nil
        go_simp
        refine (MatrixOkS_any m.p m.r m.c _ m.d _ (HI.out.below g0.below (Nat.le_refl _)).ints hmw).mono ?_
        rintro (e : Ending) w2 ⟨rfl, hb2⟩
        have g1 := g0.on hb2
        rw [B4.out]
        show K _ _
        refine hK.out _ _ ?_ (fun hHeld => ?_)
        · exact ⟨g1.fact 0 rfl, g1.fact 1 rfl, g1.box3 2 rfl⟩
        clear hK K
        try simp only [Act.put, List.setIfInBounds_toArray, List.set_cons_zero, List.set_cons_succ]
        refine anyH_take (v := ?_) 5 rfl (by kernel_rfl) (by kernel_rfl) (by kernel_rfl) (fun _ _ _ h => h) rfl ?_ hHeld ?_
        rotate_left
        · intro w' hSw
          go_simp
          try with_reducible rfl
        try simp only [Act.put, List.setIfInBounds_toArray, List.set_cons_zero, List.set_cons_succ]
        refine anyH_take (v := ?_) 6 rfl (by kernel_rfl) (by kernel_rfl) (by kernel_rfl) (fun _ _ _ h => h) rfl ?_ hHeld ?_
        rotate_left
        · intro w' hSw
          go_simp
          try with_reducible rfl
        try simp only [Act.put, List.setIfInBounds_toArray, List.set_cons_zero, List.set_cons_succ]
        refine anyH_skip 7 rfl (by kernel_rfl) (by kernel_rfl) (by kernel_rfl) (fun _ _ _ h => h) rfl hHeld ?_
        try simp only [Act.put, List.setIfInBounds_toArray, List.set_cons_zero, List.set_cons_succ]
        refine anyH_skip 8 rfl (by kernel_rfl) (by kernel_rfl) (by kernel_rfl) (fun _ _ _ h => h) rfl hHeld ?_
        try simp only [Act.put, List.setIfInBounds_toArray, List.set_cons_zero, List.set_cons_succ]
        refine anyH_skip 9 rfl (by kernel_rfl) (by kernel_rfl) (by kernel_rfl) (fun _ _ _ h => h) rfl hHeld ?_
        try simp only [Act.put, List.setIfInBounds_toArray, List.set_cons_zero, List.set_cons_succ]
        refine anyH_skip 10 rfl (by kernel_rfl) (by kernel_rfl) (by kernel_rfl) (fun _ _ _ h => h) rfl hHeld ?_
        try simp only [Act.put, List.setIfInBounds_toArray, List.set_cons_zero, List.set_cons_succ]
        refine anyH_skip 11 rfl (by kernel_rfl) (by kernel_rfl) (by kernel_rfl) (fun _ _ _ h => h) rfl hHeld ?_
        try simp only [Act.put, List.setIfInBounds_toArray, List.set_cons_zero, List.set_cons_succ]
        refine anyH_skip 12 rfl (by kernel_rfl) (by kernel_rfl) (by kernel_rfl) (fun _ _ _ h => h) rfl hHeld ?_
        try simp only [Act.put, List.setIfInBounds_toArray, List.set_cons_zero, List.set_cons_succ]
        refine anyH_skip 13 rfl (by kernel_rfl) (by kernel_rfl) (by kernel_rfl) (fun _ _ _ h => h) rfl hHeld ?_
        try simp only [Act.put, List.setIfInBounds_toArray, List.set_cons_zero, List.set_cons_succ]
        refine anyH_skip 14 rfl (by kernel_rfl) (by kernel_rfl) (by kernel_rfl) (fun _ _ _ h => h) rfl hHeld ?_
        try simp only [Act.put, List.setIfInBounds_toArray, List.set_cons_zero, List.set_cons_succ]
        refine anyH_take (v := ?_) 15 rfl (by kernel_rfl) (by kernel_rfl) (by kernel_rfl) (fun _ _ _ h => h) rfl ?_ hHeld ?_
        rotate_left
        · intro w' hSw
          go_simp
          try with_reducible rfl
        try simp only [Act.put, List.setIfInBounds_toArray, List.set_cons_zero, List.set_cons_succ]
        refine anyH_take (v := ?_) 16 rfl (by kernel_rfl) (by kernel_rfl) (by kernel_rfl) (fun _ _ _ h => h) rfl ?_ hHeld ?_
        rotate_left
        · intro w' hSw
          go_simp
          try with_reducible rfl
        try simp only [Act.put, List.setIfInBounds_toArray, List.set_cons_zero, List.set_cons_succ]
        refine anyH_skip 17 rfl (by kernel_rfl) (by kernel_rfl) (by kernel_rfl) (fun _ _ _ h => h) rfl hHeld ?_
        try simp only [Act.put, List.setIfInBounds_toArray, List.set_cons_zero, List.set_cons_succ]
        refine anyH_skip 18 rfl (by kernel_rfl) (by kernel_rfl) (by kernel_rfl) (fun _ _ _ h => h) rfl hHeld ?_
        try simp only [Act.put, List.setIfInBounds_toArray, List.set_cons_zero, List.set_cons_succ]
        refine anyH_skip 19 rfl (by kernel_rfl) (by kernel_rfl) (by kernel_rfl) (fun _ _ _ h => h) rfl hHeld ?_
        try simp only [Act.put, List.setIfInBounds_toArray, List.set_cons_zero, List.set_cons_succ]
        refine anyH_skip 20 rfl (by kernel_rfl) (by kernel_rfl) (by kernel_rfl) (fun _ _ _ h => h) rfl hHeld ?_
        try simp only [Act.put, List.setIfInBounds_toArray, List.set_cons_zero, List.set_cons_succ]
        refine anyH_skip 21 rfl (by kernel_rfl) (by kernel_rfl) (by kernel_rfl) (fun _ _ _ h => h) rfl hHeld ?_
        try simp only [Act.put, List.setIfInBounds_toArray, List.set_cons_zero, List.set_cons_succ]
        refine anyH_skip 22 rfl (by kernel_rfl) (by kernel_rfl) (by kernel_rfl) (fun _ _ _ h => h) rfl hHeld ?_
        try simp only [Act.put, List.setIfInBounds_toArray, List.set_cons_zero, List.set_cons_succ]
        refine anyH_skip 23 rfl (by kernel_rfl) (by kernel_rfl) (by kernel_rfl) (fun _ _ _ h => h) rfl hHeld ?_
        try simp only [Act.put, List.setIfInBounds_toArray, List.set_cons_zero, List.set_cons_succ]
        refine anyH_skip 24 rfl (by kernel_rfl) (by kernel_rfl) (by kernel_rfl) (fun _ _ _ h => h) rfl hHeld ?_
        try simp only [Act.put, List.setIfInBounds_toArray, List.set_cons_zero, List.set_cons_succ]
        refine anyH_skip 25 rfl (by kernel_rfl) (by kernel_rfl) (by kernel_rfl) (fun _ _ _ h => h) rfl hHeld ?_
        try simp only [Act.put, List.setIfInBounds_toArray, List.set_cons_zero, List.set_cons_succ]
        refine anyH_skip 26 rfl (by kernel_rfl) (by kernel_rfl) (by kernel_rfl) (fun _ _ _ h => h) rfl hHeld ?_
        try simp only [Act.put, List.setIfInBounds_toArray, List.set_cons_zero, List.set_cons_succ]
        refine anyH_skip 27 rfl (by kernel_rfl) (by kernel_rfl) (by kernel_rfl) (fun _ _ _ h => h) rfl hHeld ?_
        try simp only [Act.put, List.setIfInBounds_toArray, List.set_cons_zero, List.set_cons_succ]
        refine anyH_take (v := ?_) 28 rfl (by kernel_rfl) (by kernel_rfl) (by kernel_rfl) (fun _ _ _ h => h) rfl ?_ hHeld ?_
        rotate_left
        · intro w' hSw
          go_simp
          try with_reducible rfl
        try simp only [Act.put, List.setIfInBounds_toArray, List.set_cons_zero, List.set_cons_succ]
        refine anyH_take (v := ?_) 29 rfl (by kernel_rfl) (by kernel_rfl) (by kernel_rfl) (fun _ _ _ h => h) rfl ?_ hHeld ?_
        rotate_left
        · intro w' hSw
          go_simp
          try with_reducible rfl
        try simp only [Act.put, List.setIfInBounds_toArray, List.set_cons_zero, List.set_cons_succ]
        refine anyH_skip 30 rfl (by kernel_rfl) (by kernel_rfl) (by kernel_rfl) (fun _ _ _ h => h) rfl hHeld ?_
        try simp only [Act.put, List.setIfInBounds_toArray, List.set_cons_zero, List.set_cons_succ]
        refine anyH_skip 31 rfl (by kernel_rfl) (by kernel_rfl) (by kernel_rfl) (fun _ _ _ h => h) rfl hHeld ?_
        try simp only [Act.put, List.setIfInBounds_toArray, List.set_cons_zero, List.set_cons_succ]
        refine anyH_skip 32 rfl (by kernel_rfl) (by kernel_rfl) (by kernel_rfl) (fun _ _ _ h => h) rfl hHeld ?_
        try simp only [Act.put, List.setIfInBounds_toArray, List.set_cons_zero, List.set_cons_succ]
        refine anyH_skip 33 rfl (by kernel_rfl) (by kernel_rfl) (by kernel_rfl) (fun _ _ _ h => h) rfl hHeld ?_
        try simp only [Act.put, List.setIfInBounds_toArray, List.set_cons_zero, List.set_cons_succ]
        refine anyH_skip 34 rfl (by kernel_rfl) (by kernel_rfl) (by kernel_rfl) (fun _ _ _ h => h) rfl hHeld ?_
        try simp only [Act.put, List.setIfInBounds_toArray, List.set_cons_zero, List.set_cons_succ]
        refine anyH_skip 35 rfl (by kernel_rfl) (by kernel_rfl) (by kernel_rfl) (fun _ _ _ h => h) rfl hHeld ?_
        try simp only [Act.put, List.setIfInBounds_toArray, List.set_cons_zero, List.set_cons_succ]
        refine anyH_skip 36 rfl (by kernel_rfl) (by kernel_rfl) (by kernel_rfl) (fun _ _ _ h => h) rfl hHeld ?_
        try simp only [Act.put, List.setIfInBounds_toArray, List.set_cons_zero, List.set_cons_succ]
        refine anyH_skip 37 rfl (by kernel_rfl) (by kernel_rfl) (by kernel_rfl) (fun _ _ _ h => h) rfl hHeld ?_
        try simp only [Act.put, List.setIfInBounds_toArray, List.set_cons_zero, List.set_cons_succ]
        refine anyH_skip 38 rfl (by kernel_rfl) (by kernel_rfl) (by kernel_rfl) (fun _ _ _ h => h) rfl hHeld ?_
        try simp only [Act.put, List.setIfInBounds_toArray, List.set_cons_zero, List.set_cons_succ]
        refine anyH_skip 39 rfl (by kernel_rfl) (by kernel_rfl) (by kernel_rfl) (fun _ _ _ h => h) rfl hHeld ?_
        try simp only [Act.put, List.setIfInBounds_toArray, List.set_cons_zero, List.set_cons_succ]
        refine anyH_take (v := ?_) 40 rfl (by kernel_rfl) (by kernel_rfl) (by kernel_rfl) (fun _ _ _ h => h) rfl ?_ hHeld ?_
        rotate_left
        · intro w' hSw
          go_simp
          try with_reducible rfl
        try simp only [Act.put, List.setIfInBounds_toArray, List.set_cons_zero, List.set_cons_succ]
        refine anyH_take (v := ?_) 41 rfl (by kernel_rfl) (by kernel_rfl) (by kernel_rfl) (fun _ _ _ h => h) rfl ?_ hHeld ?_
        rotate_left
        · intro w' hSw
          go_simp
          try with_reducible rfl
        try simp only [Act.put, List.setIfInBounds_toArray, List.set_cons_zero, List.set_cons_succ]
        refine anyH_skip 42 rfl (by kernel_rfl) (by kernel_rfl) (by kernel_rfl) (fun _ _ _ h => h) rfl hHeld ?_
        try simp only [Act.put, List.setIfInBounds_toArray, List.set_cons_zero, List.set_cons_succ]
        refine anyH_skip 43 rfl (by kernel_rfl) (by kernel_rfl) (by kernel_rfl) (fun _ _ _ h => h) rfl hHeld ?_
        try simp only [Act.put, List.setIfInBounds_toArray, List.set_cons_zero, List.set_cons_succ]
        refine anyH_skip 44 rfl (by kernel_rfl) (by kernel_rfl) (by kernel_rfl) (fun _ _ _ h => h) rfl hHeld ?_
        try simp only [Act.put, List.setIfInBounds_toArray, List.set_cons_zero, List.set_cons_succ]
        refine anyH_skip 45 rfl (by kernel_rfl) (by kernel_rfl) (by kernel_rfl) (fun _ _ _ h => h) rfl hHeld ?_
        try simp only [Act.put, List.setIfInBounds_toArray, List.set_cons_zero, List.set_cons_succ]
        refine anyH_skip 46 rfl (by kernel_rfl) (by kernel_rfl) (by kernel_rfl) (fun _ _ _ h => h) rfl hHeld ?_
        try simp only [Act.put, List.setIfInBounds_toArray, List.set_cons_zero, List.set_cons_succ]
        refine anyH_skip 47 rfl (by kernel_rfl) (by kernel_rfl) (by kernel_rfl) (fun _ _ _ h => h) rfl hHeld ?_
        try simp only [Act.put, List.setIfInBounds_toArray, List.set_cons_zero, List.set_cons_succ]
        refine anyH_take (v := ?_) 48 rfl (by kernel_rfl) (by kernel_rfl) (by kernel_rfl) (fun _ _ _ h => h) rfl ?_ hHeld ?_
        rotate_left
        · intro w' hSw
          go_simp
          try with_reducible rfl
        try simp only [Act.put, List.setIfInBounds_toArray, List.set_cons_zero, List.set_cons_succ]
        refine wpAnyH_done (by kernel_rfl) ?_ _
        clear hHeld g0 h2
        go_wp2
        go_ret
        exact ⟨ret_bool HF.out.symm, g1.below⟩
      have B4 := Lib.hid b4
      clear b4
      by_cases c1 : m.p = p
      case neg =>
        have t1 : (m.p != p) = true := by simp [c1]
        have HF : Hid (R = false) := by
          show _ = _
          rw [HS1.out, mtOk, show decide (m.p = p ∧ m.r = m0.r ∧ m.c = m0.r ∧ m0.r ≤ 30) = false from decide_eq_false (fun h => c1 h.1)]
          simp
        clear c1
        go_upto_region 6 with fail
        have g0 := h2.drew
        refine wp_region_held_drew (S := fun w' => (w'.cell? ⟨b0, off0 + i * 4, none⟩ = some (.int .i64 m.p) ∧ w'.cell? ⟨b0, off0 + i * 4 + 1, none⟩ = some (.int .i64 m.r) ∧ w'.cell? ⟨b0, off0 + i * 4 + 2, none⟩ = some (.int .i64 m.c) ∧ w'.cell? ⟨b0, off0 + i * 4 + 3, none⟩ = some (.slice A9 m.d.length c9)) ∧ (w'.cell? ⟨b0, off0 + 1, none⟩ = some (.int .i64 m0.r)) ∧ w'.cell? ⟨w.heap.size, 0, none⟩ = some (.int .i64 p) ∧ w'.cell? ⟨w.heap.size, 1, none⟩ = some (.int .i64 N) ∧ w'.cell? ⟨w.heap.size, 2, none⟩ = some (.slice A T.length k)) (by kernel_rfl) ⟨g0.fact 0 rfl, g0.fact 1 rfl, g0.box3 2 rfl⟩ (fun hHeld => ?_)
        refine anyH_take (v := ?_) 0 rfl (by kernel_rfl) (by kernel_rfl) (by kernel_rfl) (fun _ _ _ h => h) rfl ?_ hHeld ?_
        rotate_left
        · intro w' hSw
          go_simp
          try with_reducible rfl
        try simp only [Act.put, List.setIfInBounds_toArray, List.set_cons_zero, List.set_cons_succ]
        refine anyH_take (v := ?_) 1 rfl (by kernel_rfl) (by kernel_rfl) (by kernel_rfl) (fun _ _ _ h => h) rfl ?_ hHeld ?_
        rotate_left
        · intro w' hSw
          go_simp
          try with_reducible rfl
        try simp only [Act.put, List.setIfInBounds_toArray, List.set_cons_zero, List.set_cons_succ]
        refine anyH_take (v := ?_) 2 rfl (by kernel_rfl) (by kernel_rfl) (by kernel_rfl) (fun _ _ _ h => h) rfl ?_ hHeld ?_
        rotate_left
        · intro w' hSw
          go_simp
          try with_reducible rfl
        try simp only [Act.put, List.setIfInBounds_toArray, List.set_cons_zero, List.set_cons_succ]
        refine anyH_take (v := ?_) 3 rfl (by kernel_rfl) (by kernel_rfl) (by kernel_rfl) (fun _ _ _ h => h) rfl ?_ hHeld ?_
        rotate_left
        · intro w' hSw
          go_simp
          try with_reducible rfl
        try simp only [Act.put, List.setIfInBounds_toArray, List.set_cons_zero, List.set_cons_succ]
        refine wpAnyH_ready (rs := [4]) (by kernel_rfl) (by simp) ?_
        refine ready_cons rfl (fun K hK => ?_) AllReadyH.nil
        go_simp
        refine (MatrixOkS_any m.p m.r m.c _ m.d _ (HI.out.below g0.below (Nat.le_refl _)).ints hmw).mono ?_
        rintro (e : Ending) w2 ⟨rfl, hb2⟩
        have g1 := g0.on hb2
        rw [B4.out]
        show K _ _
        refine hK.out _ _ ?_ (fun hHeld => ?_)
        · exact ⟨g1.fact 0 rfl, g1.fact 1 rfl, g1.box3 2 rfl⟩
        clear hK K
        try simp only [Act.put, List.setIfInBounds_toArray, List.set_cons_zero, List.set_cons_succ]
        refine anyH_take (v := ?_) 5 rfl (by kernel_rfl) (by kernel_rfl) (by kernel_rfl) (fun _ _ _ h => h) rfl ?_ hHeld ?_
        rotate_left
        · intro w' hSw
          go_simp
          try with_reducible rfl
        try simp only [Act.put, List.setIfInBounds_toArray, List.set_cons_zero, List.set_cons_succ]
        refine anyH_take (v := ?_) 6 rfl (by kernel_rfl) (by kernel_rfl) (by kernel_rfl) (fun _ _ _ h => h) rfl ?_ hHeld ?_
        rotate_left
        · intro w' hSw
          go_simp
          try with_reducible rfl
        try simp only [Act.put, List.setIfInBounds_toArray, List.set_cons_zero, List.set_cons_succ]
        refine anyH_take (v := ?_) 7 rfl (by kernel_rfl) (by kernel_rfl) (by kernel_rfl) (fun _ _ _ h => h) rfl ?_ hHeld ?_
        rotate_left
        · intro w' hSw
          go_simp
          try with_reducible rfl
        try simp only [Act.put, List.setIfInBounds_toArray, List.set_cons_zero, List.set_cons_succ]
        refine anyH_take (v := ?_) 8 rfl (by kernel_rfl) (by kernel_rfl) (by kernel_rfl) (fun _ _ _ h => h) rfl ?_ hHeld ?_
        rotate_left
        · intro w' hSw
          go_simp
          try with_reducible rfl
        try simp only [Act.put, List.setIfInBounds_toArray, List.set_cons_zero, List.set_cons_succ]
        refine anyH_take (v := ?_) 9 rfl (by kernel_rfl) (by kernel_rfl) (by kernel_rfl) (fun _ _ _ h => h) rfl ?_ hHeld ?_
        rotate_left
        · intro w' hSw
          go_simp
          try with_reducible rfl
        try simp only [Act.put, List.setIfInBounds_toArray, List.set_cons_zero, List.set_cons_succ]
        refine anyH_take (v := ?_) 10 rfl (by kernel_rfl) (by kernel_rfl) (by kernel_rfl) (fun _ _ _ h => h) rfl ?_ hHeld ?_
        rotate_left
        · intro w' hSw
          go_simp
          try with_reducible rfl
        try simp only [Act.put, List.setIfInBounds_toArray, List.set_cons_zero, List.set_cons_succ]
        refine anyH_take (v := ?_) 11 rfl (by kernel_rfl) (by kernel_rfl) (by kernel_rfl) (fun _ _ _ h => h) rfl ?_ hHeld ?_
        rotate_left
        · intro w' hSw
          go_simp
          try with_reducible rfl
        try simp only [Act.put, List.setIfInBounds_toArray, List.set_cons_zero, List.set_cons_succ]
        refine anyH_take (v := ?_) 12 rfl (by kernel_rfl) (by kernel_rfl) (by kernel_rfl) (fun _ _ _ h => h) rfl ?_ hHeld ?_
        rotate_left
        · intro w' hSw
          go_simp
          try with_reducible rfl
        try simp only [Act.put, List.setIfInBounds_toArray, List.set_cons_zero, List.set_cons_succ]
        refine anyH_take (v := ?_) 13 rfl (by kernel_rfl) (by kernel_rfl) (by kernel_rfl) (fun _ _ _ h => h) rfl ?_ hHeld ?_
        rotate_left
        · intro w' hSw
          go_simp
          try with_reducible rfl
        try simp only [Act.put, List.setIfInBounds_toArray, List.set_cons_zero, List.set_cons_succ]
        refine anyH_take (v := ?_) 14 rfl (by kernel_rfl) (by kernel_rfl) (by kernel_rfl) (fun _ _ _ h => h) rfl ?_ hHeld ?_
        rotate_left
        · intro w' hSw
          go_simp
          try with_reducible rfl
        try simp only [Act.put, List.setIfInBounds_toArray, List.set_cons_zero, List.set_cons_succ]
        refine anyH_take (v := ?_) 15 rfl (by kernel_rfl) (by kernel_rfl) (by kernel_rfl) (fun _ _ _ h => h) rfl ?_ hHeld ?_
        rotate_left
        · intro w' hSw
          go_simp
          try with_reducible rfl
        try simp only [Act.put, List.setIfInBounds_toArray, List.set_cons_zero, List.set_cons_succ]
        refine anyH_take (v := ?_) 16 rfl (by kernel_rfl) (by kernel_rfl) (by kernel_rfl) (fun _ _ _ h => h) rfl ?_ hHeld ?_
        rotate_left
        · intro w' hSw
          go_simp
          try with_reducible rfl
        try simp only [Act.put, List.setIfInBounds_toArray, List.set_cons_zero, List.set_cons_succ]
        refine anyH_skip 17 rfl (by kernel_rfl) (by kernel_rfl) (by kernel_rfl) (fun _ _ _ h => h) rfl hHeld ?_
        try simp only [Act.put, List.setIfInBounds_toArray, List.set_cons_zero, List.set_cons_succ]
        refine anyH_skip 18 rfl (by kernel_rfl) (by kernel_rfl) (by kernel_rfl) (fun _ _ _ h => h) rfl hHeld ?_
        try simp only [Act.put, List.setIfInBounds_toArray, List.set_cons_zero, List.set_cons_succ]
        refine anyH_skip 19 rfl (by kernel_rfl) (by kernel_rfl) (by kernel_rfl) (fun _ _ _ h => h) rfl hHeld ?_
        try simp only [Act.put, List.setIfInBounds_toArray, List.set_cons_zero, List.set_cons_succ]
        refine anyH_skip 20 rfl (by kernel_rfl) (by kernel_rfl) (by kernel_rfl) (fun _ _ _ h => h) rfl hHeld ?_
        try simp only [Act.put, List.setIfInBounds_toArray, List.set_cons_zero, List.set_cons_succ]
        refine anyH_skip 21 rfl (by kernel_rfl) (by kernel_rfl) (by kernel_rfl) (fun _ _ _ h => h) rfl hHeld ?_
        try simp only [Act.put, List.setIfInBounds_toArray, List.set_cons_zero, List.set_cons_succ]
        refine anyH_skip 22 rfl (by kernel_rfl) (by kernel_rfl) (by kernel_rfl) (fun _ _ _ h => h) rfl hHeld ?_
        try simp only [Act.put, List.setIfInBounds_toArray, List.set_cons_zero, List.set_cons_succ]
        refine anyH_skip 23 rfl (by kernel_rfl) (by kernel_rfl) (by kernel_rfl) (fun _ _ _ h => h) rfl hHeld ?_
        try simp only [Act.put, List.setIfInBounds_toArray, List.set_cons_zero, List.set_cons_succ]
        refine anyH_skip 24 rfl (by kernel_rfl) (by kernel_rfl) (by kernel_rfl) (fun _ _ _ h => h) rfl hHeld ?_
        try simp only [Act.put, List.setIfInBounds_toArray, List.set_cons_zero, List.set_cons_succ]
        refine anyH_skip 25 rfl (by kernel_rfl) (by kernel_rfl) (by kernel_rfl) (fun _ _ _ h => h) rfl hHeld ?_
        try simp only [Act.put, List.setIfInBounds_toArray, List.set_cons_zero, List.set_cons_succ]
        refine anyH_skip 26 rfl (by kernel_rfl) (by kernel_rfl) (by kernel_rfl) (fun _ _ _ h => h) rfl hHeld ?_
        try simp only [Act.put, List.setIfInBounds_toArray, List.set_cons_zero, List.set_cons_succ]
        refine anyH_skip 27 rfl (by kernel_rfl) (by kernel_rfl) (by kernel_rfl) (fun _ _ _ h => h) rfl hHeld ?_
        try simp only [Act.put, List.setIfInBounds_toArray, List.set_cons_zero, List.set_cons_succ]
        refine anyH_take (v := ?_) 28 rfl (by kernel_rfl) (by kernel_rfl) (by kernel_rfl) (fun _ _ _ h => h) rfl ?_ hHeld ?_
        rotate_left
        · intro w' hSw
          go_simp
          try with_reducible rfl
        try simp only [Act.put, List.setIfInBounds_toArray, List.set_cons_zero, List.set_cons_succ]
        refine anyH_take (v := ?_) 29 rfl (by kernel_rfl) (by kernel_rfl) (by kernel_rfl) (fun _ _ _ h => h) rfl ?_ hHeld ?_
        rotate_left
        · intro w' hSw
          go_simp
          try with_reducible rfl
        try simp only [Act.put, List.setIfInBounds_toArray, List.set_cons_zero, List.set_cons_succ]
        refine anyH_skip 30 rfl (by kernel_rfl) (by kernel_rfl) (by kernel_rfl) (fun _ _ _ h => h) rfl hHeld ?_
        try simp only [Act.put, List.setIfInBounds_toArray, List.set_cons_zero, List.set_cons_succ]
        refine anyH_skip 31 rfl (by kernel_rfl) (by kernel_rfl) (by kernel_rfl) (fun _ _ _ h => h) rfl hHeld ?_
        try simp only [Act.put, List.setIfInBounds_toArray, List.set_cons_zero, List.set_cons_succ]
        refine anyH_skip 32 rfl (by kernel_rfl) (by kernel_rfl) (by kernel_rfl) (fun _ _ _ h => h) rfl hHeld ?_
        try simp only [Act.put, List.setIfInBounds_toArray, List.set_cons_zero, List.set_cons_succ]
        refine anyH_skip 33 rfl (by kernel_rfl) (by kernel_rfl) (by kernel_rfl) (fun _ _ _ h => h) rfl hHeld ?_
        try simp only [Act.put, List.setIfInBounds_toArray, List.set_cons_zero, List.set_cons_succ]
        refine anyH_skip 34 rfl (by kernel_rfl) (by kernel_rfl) (by kernel_rfl) (fun _ _ _ h => h) rfl hHeld ?_
        try simp only [Act.put, List.setIfInBounds_toArray, List.set_cons_zero, List.set_cons_succ]
        refine anyH_skip 35 rfl (by kernel_rfl) (by kernel_rfl) (by kernel_rfl) (fun _ _ _ h => h) rfl hHeld ?_
        try simp only [Act.put, List.setIfInBounds_toArray, List.set_cons_zero, List.set_cons_succ]
        refine anyH_skip 36 rfl (by kernel_rfl) (by kernel_rfl) (by kernel_rfl) (fun _ _ _ h => h) rfl hHeld ?_
        try simp only [Act.put, List.setIfInBounds_toArray, List.set_cons_zero, List.set_cons_succ]
        refine anyH_skip 37 rfl (by kernel_rfl) (by kernel_rfl) (by kernel_rfl) (fun _ _ _ h => h) rfl hHeld ?_
        try simp only [Act.put, List.setIfInBounds_toArray, List.set_cons_zero, List.set_cons_succ]
        refine anyH_skip 38 rfl (by kernel_rfl) (by kernel_rfl) (by kernel_rfl) (fun _ _ _ h => h) rfl hHeld ?_
        try simp only [Act.put, List.setIfInBounds_toArray, List.set_cons_zero, List.set_cons_succ]
        refine anyH_skip 39 rfl (by kernel_rfl) (by kernel_rfl) (by kernel_rfl) (fun _ _ _ h => h) rfl hHeld ?_
        try simp only [Act.put, List.setIfInBounds_toArray, List.set_cons_zero, List.set_cons_succ]
        refine anyH_take (v := ?_) 40 rfl (by kernel_rfl) (by kernel_rfl) (by kernel_rfl) (fun _ _ _ h => h) rfl ?_ hHeld ?_
        rotate_left
        · intro w' hSw
          go_simp
          try with_reducible rfl
        try simp only [Act.put, List.setIfInBounds_toArray, List.set_cons_zero, List.set_cons_succ]
        refine anyH_take (v := ?_) 41 rfl (by kernel_rfl) (by kernel_rfl) (by kernel_rfl) (fun _ _ _ h => h) rfl ?_ hHeld ?_
        rotate_left
        · intro w' hSw
          go_simp
          try with_reducible rfl
        try simp only [Act.put, List.setIfInBounds_toArray, List.set_cons_zero, List.set_cons_succ]
        refine anyH_skip 42 rfl (by kernel_rfl) (by kernel_rfl) (by kernel_rfl) (fun _ _ _ h => h) rfl hHeld ?_
        try simp only [Act.put, List.setIfInBounds_toArray, List.set_cons_zero, List.set_cons_succ]
        refine anyH_skip 43 rfl (by kernel_rfl) (by kernel_rfl) (by kernel_rfl) (fun _ _ _ h => h) rfl hHeld ?_
        try simp only [Act.put, List.setIfInBounds_toArray, List.set_cons_zero, List.set_cons_succ]
        refine anyH_skip 44 rfl (by kernel_rfl) (by kernel_rfl) (by kernel_rfl) (fun _ _ _ h => h) rfl hHeld ?_
        try simp only [Act.put, List.setIfInBounds_toArray, List.set_cons_zero, List.set_cons_succ]
        refine anyH_skip 45 rfl (by kernel_rfl) (by kernel_rfl) (by kernel_rfl) (fun _ _ _ h => h) rfl hHeld ?_
        try simp only [Act.put, List.setIfInBounds_toArray, List.set_cons_zero, List.set_cons_succ]
        refine anyH_skip 46 rfl (by kernel_rfl) (by kernel_rfl) (by kernel_rfl) (fun _ _ _ h => h) rfl hHeld ?_
        try simp only [Act.put, List.setIfInBounds_toArray, List.set_cons_zero, List.set_cons_succ]
        refine anyH_skip 47 rfl (by kernel_rfl) (by kernel_rfl) (by kernel_rfl) (fun _ _ _ h => h) rfl hHeld ?_
        try simp only [Act.put, List.setIfInBounds_toArray, List.set_cons_zero, List.set_cons_succ]
        refine anyH_take (v := ?_) 48 rfl (by kernel_rfl) (by kernel_rfl) (by kernel_rfl) (fun _ _ _ h => h) rfl ?_ hHeld ?_
        rotate_left
        · intro w' hSw
          go_simp
          try with_reducible rfl
        try simp only [Act.put, List.setIfInBounds_toArray, List.set_cons_zero, List.set_cons_succ]
        refine wpAnyH_done (by kernel_rfl) ?_ _
        clear hHeld g0 h2
        go_wp2
        go_ret
        exact ⟨ret_bool HF.out.symm, g1.below⟩
      have t1 : (m.p != p) = false := by simp [c1]
      by_cases c2 : m.r = m.c
      case neg =>
        have t2 : (m.r != m.c) = true := by simp [c2]
        have HF : Hid (R = false) := by
          show _ = _
          rw [HS1.out, mtOk, show decide (m.p = p ∧ m.r = m0.r ∧ m.c = m0.r ∧ m0.r ≤ 30) = false from decide_eq_false (fun h => c2 (by omega))]
          simp
        clear c1 c2
        go_upto_region 6 with fail
        have g0 := h2.drew
        refine wp_region_held_drew (S := fun w' => (w'.cell? ⟨b0, off0 + i * 4, none⟩ = some (.int .i64 m.p) ∧ w'.cell? ⟨b0, off0 + i * 4 + 1, none⟩ = some (.int .i64 m.r) ∧ w'.cell? ⟨b0, off0 + i * 4 + 2, none⟩ = some (.int .i64 m.c) ∧ w'.cell? ⟨b0, off0 + i * 4 + 3, none⟩ = some (.slice A9 m.d.length c9)) ∧ (w'.cell? ⟨b0, off0 + 1, none⟩ = some (.int .i64 m0.r)) ∧ w'.cell? ⟨w.heap.size, 0, none⟩ = some (.int .i64 p) ∧ w'.cell? ⟨w.heap.size, 1, none⟩ = some (.int .i64 N) ∧ w'.cell? ⟨w.heap.size, 2, none⟩ = some (.slice A T.length k)) (by kernel_rfl) ⟨g0.fact 0 rfl, g0.fact 1 rfl, g0.box3 2 rfl⟩ (fun hHeld => ?_)
        refine anyH_take (v := ?_) 0 rfl (by kernel_rfl) (by kernel_rfl) (by kernel_rfl) (fun _ _ _ h => h) rfl ?_ hHeld ?_
        rotate_left
        · intro w' hSw
          go_simp
          try with_reducible rfl
        try simp only [Act.put, List.setIfInBounds_toArray, List.set_cons_zero, List.set_cons_succ]
        refine anyH_take (v := ?_) 1 rfl (by kernel_rfl) (by kernel_rfl) (by kernel_rfl) (fun _ _ _ h => h) rfl ?_ hHeld ?_
        rotate_left
        · intro w' hSw
          go_simp
          try with_reducible rfl
        try simp only [Act.put, List.setIfInBounds_toArray, List.set_cons_zero, List.set_cons_succ]
        refine anyH_take (v := ?_) 2 rfl (by kernel_rfl) (by kernel_rfl) (by kernel_rfl) (fun _ _ _ h => h) rfl ?_ hHeld ?_
        rotate_left
        · intro w' hSw
          go_simp
          try with_reducible rfl
        try simp only [Act.put, List.setIfInBounds_toArray, List.set_cons_zero, List.set_cons_succ]
        refine anyH_take (v := ?_) 3 rfl (by kernel_rfl) (by kernel_rfl) (by kernel_rfl) (fun _ _ _ h => h) rfl ?_ hHeld ?_
        rotate_left
        · intro w' hSw
          go_simp
          try with_reducible rfl
        try simp only [Act.put, List.setIfInBounds_toArray, List.set_cons_zero, List.set_cons_succ]
        refine wpAnyH_ready (rs := [4]) (by kernel_rfl) (by simp) ?_
        refine ready_cons rfl (fun K hK => ?_) AllReadyH.nil
        go_simp
        refine (MatrixOkS_any m.p m.r m.c _ m.d _ (HI.out.below g0.below (Nat.le_refl _)).ints hmw).mono ?_
        rintro (e : Ending) w2 ⟨rfl, hb2⟩
        have g1 := g0.on hb2
        rw [B4.out]
        show K _ _
        refine hK.out _ _ ?_ (fun hHeld => ?_)
        · exact ⟨g1.fact 0 rfl, g1.fact 1 rfl, g1.box3 2 rfl⟩
        clear hK K
        try simp only [Act.put, List.setIfInBounds_toArray, List.set_cons_zero, List.set_cons_succ]
        refine anyH_take (v := ?_) 5 rfl (by kernel_rfl) (by kernel_rfl) (by kernel_rfl) (fun _ _ _ h => h) rfl ?_ hHeld ?_
        rotate_left
        · intro w' hSw
          go_simp
          try with_reducible rfl
        try simp only [Act.put, List.setIfInBounds_toArray, List.set_cons_zero, List.set_cons_succ]
        refine anyH_take (v := ?_) 6 rfl (by kernel_rfl) (by kernel_rfl) (by kernel_rfl) (fun _ _ _ h => h) rfl ?_ hHeld ?_
        rotate_left
        · intro w' hSw
          go_simp
          try with_reducible rfl
        try simp only [Act.put, List.setIfInBounds_toArray, List.set_cons_zero, List.set_cons_succ]
        refine anyH_take (v := ?_) 7 rfl (by kernel_rfl) (by kernel_rfl) (by kernel_rfl) (fun _ _ _ h => h) rfl ?_ hHeld ?_
        rotate_left
        · intro w' hSw
          go_simp
          try with_reducible rfl
        try simp only [Act.put, List.setIfInBounds_toArray, List.set_cons_zero, List.set_cons_succ]
        refine anyH_take (v := ?_) 8 rfl (by kernel_rfl) (by kernel_rfl) (by kernel_rfl) (fun _ _ _ h => h) rfl ?_ hHeld ?_
        rotate_left
        · intro w' hSw
          go_simp
          try with_reducible rfl
        try simp only [Act.put, List.setIfInBounds_toArray, List.set_cons_zero, List.set_cons_succ]
        refine anyH_take (v := ?_) 9 rfl (by kernel_rfl) (by kernel_rfl) (by kernel_rfl) (fun _ _ _ h => h) rfl ?_ hHeld ?_
        rotate_left
        · intro w' hSw
          go_simp
          try with_reducible rfl
        try simp only [Act.put, List.setIfInBounds_toArray, List.set_cons_zero, List.set_cons_succ]
        refine anyH_take (v := ?_) 10 rfl (by kernel_rfl) (by kernel_rfl) (by kernel_rfl) (fun _ _ _ h => h) rfl ?_ hHeld ?_
        rotate_left
        · intro w' hSw
          go_simp
          try with_reducible rfl
        try simp only [Act.put, List.setIfInBounds_toArray, List.set_cons_zero, List.set_cons_succ]
        refine anyH_take (v := ?_) 11 rfl (by kernel_rfl) (by kernel_rfl) (by kernel_rfl) (fun _ _ _ h => h) rfl ?_ hHeld ?_
        rotate_left
        · intro w' hSw
          go_simp
          try with_reducible rfl
        try simp only [Act.put, List.setIfInBounds_toArray, List.set_cons_zero, List.set_cons_succ]
        refine anyH_take (v := ?_) 12 rfl (by kernel_rfl) (by kernel_rfl) (by kernel_rfl) (fun _ _ _ h => h) rfl ?_ hHeld ?_
        rotate_left
        · intro w' hSw
          go_simp
          try with_reducible rfl
        try simp only [Act.put, List.setIfInBounds_toArray, List.set_cons_zero, List.set_cons_succ]
        refine anyH_take (v := ?_) 13 rfl (by kernel_rfl) (by kernel_rfl) (by kernel_rfl) (fun _ _ _ h => h) rfl ?_ hHeld ?_
        rotate_left
        · intro w' hSw
          go_simp
          try with_reducible rfl
        try simp only [Act.put, List.setIfInBounds_toArray, List.set_cons_zero, List.set_cons_succ]
        refine anyH_take (v := ?_) 14 rfl (by kernel_rfl) (by kernel_rfl) (by kernel_rfl) (fun _ _ _ h => h) rfl ?_ hHeld ?_
        rotate_left
        · intro w' hSw
          go_simp
          try with_reducible rfl
        try simp only [Act.put, List.setIfInBounds_toArray, List.set_cons_zero, List.set_cons_succ]
        refine anyH_take (v := ?_) 15 rfl (by kernel_rfl) (by kernel_rfl) (by kernel_rfl) (fun _ _ _ h => h) rfl ?_ hHeld ?_
        rotate_left
        · intro w' hSw
          go_simp
          try with_reducible rfl
        try simp only [Act.put, List.setIfInBounds_toArray, List.set_cons_zero, List.set_cons_succ]
        refine anyH_take (v := ?_) 16 rfl (by kernel_rfl) (by kernel_rfl) (by kernel_rfl) (fun _ _ _ h => h) rfl ?_ hHeld ?_
        rotate_left
        · intro w' hSw
          go_simp
          try with_reducible rfl
        try simp only [Act.put, List.setIfInBounds_toArray, List.set_cons_zero, List.set_cons_succ]
        refine anyH_take (v := ?_) 17 rfl (by kernel_rfl) (by kernel_rfl) (by kernel_rfl) (fun _ _ _ h => h) rfl ?_ hHeld ?_
        rotate_left
        · intro w' hSw
          go_simp
          try with_reducible rfl
        try simp only [Act.put, List.setIfInBounds_toArray, List.set_cons_zero, List.set_cons_succ]
        refine anyH_take (v := ?_) 18 rfl (by kernel_rfl) (by kernel_rfl) (by kernel_rfl) (fun _ _ _ h => h) rfl ?_ hHeld ?_
        rotate_left
        · intro w' hSw
          go_simp
          try with_reducible rfl
        try simp only [Act.put, List.setIfInBounds_toArray, List.set_cons_zero, List.set_cons_succ]
        refine anyH_take (v := ?_) 19 rfl (by kernel_rfl) (by kernel_rfl) (by kernel_rfl) (fun _ _ _ h => h) rfl ?_ hHeld ?_
        rotate_left
        · intro w' hSw
          go_simp
          try with_reducible rfl
        try simp only [Act.put, List.setIfInBounds_toArray, List.set_cons_zero, List.set_cons_succ]
        refine anyH_take (v := ?_) 20 rfl (by kernel_rfl) (by kernel_rfl) (by kernel_rfl) (fun _ _ _ h => h) rfl ?_ hHeld ?_
        rotate_left
        · intro w' hSw
          go_simp
          try with_reducible rfl
        try simp only [Act.put, List.setIfInBounds_toArray, List.set_cons_zero, List.set_cons_succ]
        refine anyH_take (v := ?_) 21 rfl (by kernel_rfl) (by kernel_rfl) (by kernel_rfl) (fun _ _ _ h => h) rfl ?_ hHeld ?_
        rotate_left
        · intro w' hSw
          go_simp
          try with_reducible rfl
        try simp only [Act.put, List.setIfInBounds_toArray, List.set_cons_zero, List.set_cons_succ]
        refine anyH_take (v := ?_) 22 rfl (by kernel_rfl) (by kernel_rfl) (by kernel_rfl) (fun _ _ _ h => h) rfl ?_ hHeld ?_
        rotate_left
        · intro w' hSw
          go_simp
          try with_reducible rfl
        try simp only [Act.put, List.setIfInBounds_toArray, List.set_cons_zero, List.set_cons_succ]
        refine anyH_take (v := ?_) 23 rfl (by kernel_rfl) (by kernel_rfl) (by kernel_rfl) (fun _ _ _ h => h) rfl ?_ hHeld ?_
        rotate_left
        · intro w' hSw
          go_simp
          try with_reducible rfl
        try simp only [Act.put, List.setIfInBounds_toArray, List.set_cons_zero, List.set_cons_succ]
        refine anyH_take (v := ?_) 24 rfl (by kernel_rfl) (by kernel_rfl) (by kernel_rfl) (fun _ _ _ h => h) rfl ?_ hHeld ?_
        rotate_left
        · intro w' hSw
          go_simp
          try with_reducible rfl
        try simp only [Act.put, List.setIfInBounds_toArray, List.set_cons_zero, List.set_cons_succ]
        refine anyH_take (v := ?_) 25 rfl (by kernel_rfl) (by kernel_rfl) (by kernel_rfl) (fun _ _ _ h => h) rfl ?_ hHeld ?_
        rotate_left
        · intro w' hSw
          go_simp
          try with_reducible rfl
        try simp only [Act.put, List.setIfInBounds_toArray, List.set_cons_zero, List.set_cons_succ]
        refine anyH_take (v := ?_) 26 rfl (by kernel_rfl) (by kernel_rfl) (by kernel_rfl) (fun _ _ _ h => h) rfl ?_ hHeld ?_
        rotate_left
        · intro w' hSw
          go_simp
          try with_reducible rfl
        try simp only [Act.put, List.setIfInBounds_toArray, List.set_cons_zero, List.set_cons_succ]
        refine anyH_take (v := ?_) 27 rfl (by kernel_rfl) (by kernel_rfl) (by kernel_rfl) (fun _ _ _ h => h) rfl ?_ hHeld ?_
        rotate_left
        · intro w' hSw
          go_simp
          try with_reducible rfl
        try simp only [Act.put, List.setIfInBounds_toArray, List.set_cons_zero, List.set_cons_succ]
        refine anyH_take (v := ?_) 28 rfl (by kernel_rfl) (by kernel_rfl) (by kernel_rfl) (fun _ _ _ h => h) rfl ?_ hHeld ?_
        rotate_left
        · intro w' hSw
          go_simp
          try with_reducible rfl
        try simp only [Act.put, List.setIfInBounds_toArray, List.set_cons_zero, List.set_cons_succ]
        refine anyH_take (v := ?_) 29 rfl (by kernel_rfl) (by kernel_rfl) (by kernel_rfl) (fun _ _ _ h => h) rfl ?_ hHeld ?_
        rotate_left
        · intro w' hSw
          go_simp
          try with_reducible rfl
        try simp only [Act.put, List.setIfInBounds_toArray, List.set_cons_zero, List.set_cons_succ]
        refine anyH_skip 30 rfl (by kernel_rfl) (by kernel_rfl) (by kernel_rfl) (fun _ _ _ h => h) rfl hHeld ?_
        try simp only [Act.put, List.setIfInBounds_toArray, List.set_cons_zero, List.set_cons_succ]
        refine anyH_skip 31 rfl (by kernel_rfl) (by kernel_rfl) (by kernel_rfl) (fun _ _ _ h => h) rfl hHeld ?_
        try simp only [Act.put, List.setIfInBounds_toArray, List.set_cons_zero, List.set_cons_succ]
        refine anyH_skip 32 rfl (by kernel_rfl) (by kernel_rfl) (by kernel_rfl) (fun _ _ _ h => h) rfl hHeld ?_
        try simp only [Act.put, List.setIfInBounds_toArray, List.set_cons_zero, List.set_cons_succ]
        refine anyH_skip 33 rfl (by kernel_rfl) (by kernel_rfl) (by kernel_rfl) (fun _ _ _ h => h) rfl hHeld ?_
        try simp only [Act.put, List.setIfInBounds_toArray, List.set_cons_zero, List.set_cons_succ]
        refine anyH_skip 34 rfl (by kernel_rfl) (by kernel_rfl) (by kernel_rfl) (fun _ _ _ h => h) rfl hHeld ?_
        try simp only [Act.put, List.setIfInBounds_toArray, List.set_cons_zero, List.set_cons_succ]
        refine anyH_skip 35 rfl (by kernel_rfl) (by kernel_rfl) (by kernel_rfl) (fun _ _ _ h => h) rfl hHeld ?_
        try simp only [Act.put, List.setIfInBounds_toArray, List.set_cons_zero, List.set_cons_succ]
        refine anyH_skip 36 rfl (by kernel_rfl) (by kernel_rfl) (by kernel_rfl) (fun _ _ _ h => h) rfl hHeld ?_
        try simp only [Act.put, List.setIfInBounds_toArray, List.set_cons_zero, List.set_cons_succ]
        refine anyH_skip 37 rfl (by kernel_rfl) (by kernel_rfl) (by kernel_rfl) (fun _ _ _ h => h) rfl hHeld ?_
        try simp only [Act.put, List.setIfInBounds_toArray, List.set_cons_zero, List.set_cons_succ]
        refine anyH_skip 38 rfl (by kernel_rfl) (by kernel_rfl) (by kernel_rfl) (fun _ _ _ h => h) rfl hHeld ?_
        try simp only [Act.put, List.setIfInBounds_toArray, List.set_cons_zero, List.set_cons_succ]
        refine anyH_skip 39 rfl (by kernel_rfl) (by kernel_rfl) (by kernel_rfl) (fun _ _ _ h => h) rfl hHeld ?_
        try simp only [Act.put, List.setIfInBounds_toArray, List.set_cons_zero, List.set_cons_succ]
        refine anyH_take (v := ?_) 40 rfl (by kernel_rfl) (by kernel_rfl) (by kernel_rfl) (fun _ _ _ h => h) rfl ?_ hHeld ?_
        rotate_left
        · intro w' hSw
          go_simp
          try with_reducible rfl
        try simp only [Act.put, List.setIfInBounds_toArray, List.set_cons_zero, List.set_cons_succ]
        refine anyH_take (v := ?_) 41 rfl (by kernel_rfl) (by kernel_rfl) (by kernel_rfl) (fun _ _ _ h => h) rfl ?_ hHeld ?_
        rotate_left
        · intro w' hSw
          go_simp
          try with_reducible rfl
        try simp only [Act.put, List.setIfInBounds_toArray, List.set_cons_zero, List.set_cons_succ]
        refine anyH_skip 42 rfl (by kernel_rfl) (by kernel_rfl) (by kernel_rfl) (fun _ _ _ h => h) rfl hHeld ?_
        try simp only [Act.put, List.setIfInBounds_toArray, List.set_cons_zero, List.set_cons_succ]
        refine anyH_skip 43 rfl (by kernel_rfl) (by kernel_rfl) (by kernel_rfl) (fun _ _ _ h => h) rfl hHeld ?_
        try simp only [Act.put, List.setIfInBounds_toArray, List.set_cons_zero, List.set_cons_succ]
        refine anyH_skip 44 rfl (by kernel_rfl) (by kernel_rfl) (by kernel_rfl) (fun _ _ _ h => h) rfl hHeld ?_
        try simp only [Act.put, List.setIfInBounds_toArray, List.set_cons_zero, List.set_cons_succ]
        refine anyH_skip 45 rfl (by kernel_rfl) (by kernel_rfl) (by kernel_rfl) (fun _ _ _ h => h) rfl hHeld ?_
        try simp only [Act.put, List.setIfInBounds_toArray, List.set_cons_zero, List.set_cons_succ]
        refine anyH_skip 46 rfl (by kernel_rfl) (by kernel_rfl) (by kernel_rfl) (fun _ _ _ h => h) rfl hHeld ?_
        try simp only [Act.put, List.setIfInBounds_toArray, List.set_cons_zero, List.set_cons_succ]
        refine anyH_skip 47 rfl (by kernel_rfl) (by kernel_rfl) (by kernel_rfl) (fun _ _ _ h => h) rfl hHeld ?_
        try simp only [Act.put, List.setIfInBounds_toArray, List.set_cons_zero, List.set_cons_succ]
        refine anyH_take (v := ?_) 48 rfl (by kernel_rfl) (by kernel_rfl) (by kernel_rfl) (fun _ _ _ h => h) rfl ?_ hHeld ?_
        rotate_left
        · intro w' hSw
          go_simp
          try with_reducible rfl
        try simp only [Act.put, List.setIfInBounds_toArray, List.set_cons_zero, List.set_cons_succ]
        refine wpAnyH_done (by kernel_rfl) ?_ _
        clear hHeld g0 h2
        go_wp2
        go_ret
        exact ⟨ret_bool HF.out.symm, g1.below⟩
      have t2 : (m.r != m.c) = false := by simp [c2]
      by_cases c3 : m.r = m0.r
      case neg =>
        have t3 : (m.r != m0.r) = true := by simp [c3]
        have HF : Hid (R = false) := by
          show _ = _
          rw [HS1.out, mtOk, show decide (m.p = p ∧ m.r = m0.r ∧ m.c = m0.r ∧ m0.r ≤ 30) = false from decide_eq_false (fun h => c3 (by omega))]
          simp
        clear c1 c2 c3
        go_upto_region 6 with fail
        have g0 := h2.drew
        refine wp_region_held_drew (S := fun w' => (w'.cell? ⟨b0, off0 + i * 4, none⟩ = some (.int .i64 m.p) ∧ w'.cell? ⟨b0, off0 + i * 4 + 1, none⟩ = some (.int .i64 m.r) ∧ w'.cell? ⟨b0, off0 + i * 4 + 2, none⟩ = some (.int .i64 m.c) ∧ w'.cell? ⟨b0, off0 + i * 4 + 3, none⟩ = some (.slice A9 m.d.length c9)) ∧ (w'.cell? ⟨b0, off0 + 1, none⟩ = some (.int .i64 m0.r)) ∧ w'.cell? ⟨w.heap.size, 0, none⟩ = some (.int .i64 p) ∧ w'.cell? ⟨w.heap.size, 1, none⟩ = some (.int .i64 N) ∧ w'.cell? ⟨w.heap.size, 2, none⟩ = some (.slice A T.length k)) (by kernel_rfl) ⟨g0.fact 0 rfl, g0.fact 1 rfl, g0.box3 2 rfl⟩ (fun hHeld => ?_)
        refine anyH_take (v := ?_) 0 rfl (by kernel_rfl) (by kernel_rfl) (by kernel_rfl) (fun _ _ _ h => h) rfl ?_ hHeld ?_
        rotate_left
        · intro w' hSw
          go_simp
          try with_reducible rfl
        try simp only [Act.put, List.setIfInBounds_toArray, List.set_cons_zero, List.set_cons_succ]
        refine anyH_take (v := ?_) 1 rfl (by kernel_rfl) (by kernel_rfl) (by kernel_rfl) (fun _ _ _ h => h) rfl ?_ hHeld ?_
        rotate_left
        · intro w' hSw
          go_simp
          try with_reducible rfl
        try simp only [Act.put, List.setIfInBounds_toArray, List.set_cons_zero, List.set_cons_succ]
        refine anyH_take (v := ?_) 2 rfl (by kernel_rfl) (by kernel_rfl) (by kernel_rfl) (fun _ _ _ h => h) rfl ?_ hHeld ?_
        rotate_left
        · intro w' hSw
          go_simp
          try with_reducible rfl
        try simp only [Act.put, List.setIfInBounds_toArray, List.set_cons_zero, List.set_cons_succ]
        refine anyH_take (v := ?_) 3 rfl (by kernel_rfl) (by kernel_rfl) (by kernel_rfl) (fun _ _ _ h => h) rfl ?_ hHeld ?_
        rotate_left
        · intro w' hSw
          go_simp
          try with_reducible rfl
        try simp only [Act.put, List.setIfInBounds_toArray, List.set_cons_zero, List.set_cons_succ]
        refine wpAnyH_ready (rs := [4]) (by kernel_rfl) (by simp) ?_
        refine ready_cons rfl (fun K hK => ?_) AllReadyH.nil
        go_simp
        refine (MatrixOkS_any m.p m.r m.c _ m.d _ (HI.out.below g0.below (Nat.le_refl _)).ints hmw).mono ?_
        rintro (e : Ending) w2 ⟨rfl, hb2⟩
        have g1 := g0.on hb2
        rw [B4.out]
        show K _ _
        refine hK.out _ _ ?_ (fun hHeld => ?_)
        · exact ⟨g1.fact 0 rfl, g1.fact 1 rfl, g1.box3 2 rfl⟩
        clear hK K
        try simp only [Act.put, List.setIfInBounds_toArray, List.set_cons_zero, List.set_cons_succ]
        refine anyH_take (v := ?_) 5 rfl (by kernel_rfl) (by kernel_rfl) (by kernel_rfl) (fun _ _ _ h => h) rfl ?_ hHeld ?_
        rotate_left
        · intro w' hSw
          go_simp
          try with_reducible rfl
        try simp only [Act.put, List.setIfInBounds_toArray, List.set_cons_zero, List.set_cons_succ]
        refine anyH_take (v := ?_) 6 rfl (by kernel_rfl) (by kernel_rfl) (by kernel_rfl) (fun _ _ _ h => h) rfl ?_ hHeld ?_
        rotate_left
        · intro w' hSw
          go_simp
          try with_reducible rfl
        try simp only [Act.put, List.setIfInBounds_toArray, List.set_cons_zero, List.set_cons_succ]
        refine anyH_take (v := ?_) 7 rfl (by kernel_rfl) (by kernel_rfl) (by kernel_rfl) (fun _ _ _ h => h) rfl ?_ hHeld ?_
        rotate_left
        · intro w' hSw
          go_simp
          try with_reducible rfl
        try simp only [Act.put, List.setIfInBounds_toArray, List.set_cons_zero, List.set_cons_succ]
        refine anyH_take (v := ?_) 8 rfl (by kernel_rfl) (by kernel_rfl) (by kernel_rfl) (fun _ _ _ h => h) rfl ?_ hHeld ?_
        rotate_left
        · intro w' hSw
          go_simp
          try with_reducible rfl
        try simp only [Act.put, List.setIfInBounds_toArray, List.set_cons_zero, List.set_cons_succ]
        refine anyH_take (v := ?_) 9 rfl (by kernel_rfl) (by kernel_rfl) (by kernel_rfl) (fun _ _ _ h => h) rfl ?_ hHeld ?_
        rotate_left
        · intro w' hSw
          go_simp
          try with_reducible rfl
        try simp only [Act.put, List.setIfInBounds_toArray, List.set_cons_zero, List.set_cons_succ]
        refine anyH_take (v := ?_) 10 rfl (by kernel_rfl) (by kernel_rfl) (by kernel_rfl) (fun _ _ _ h => h) rfl ?_ hHeld ?_
        rotate_left
        · intro w' hSw
          go_simp
          try with_reducible rfl
        try simp only [Act.put, List.setIfInBounds_toArray, List.set_cons_zero, List.set_cons_succ]
        refine anyH_take (v := ?_) 11 rfl (by kernel_rfl) (by kernel_rfl) (by kernel_rfl) (fun _ _ _ h => h) rfl ?_ hHeld ?_
        rotate_left
        · intro w' hSw
          go_simp
          try with_reducible rfl
        try simp only [Act.put, List.setIfInBounds_toArray, List.set_cons_zero, List.set_cons_succ]
        refine anyH_take (v := ?_) 12 rfl (by kernel_rfl) (by kernel_rfl) (by kernel_rfl) (fun _ _ _ h => h) rfl ?_ hHeld ?_
        rotate_left
        · intro w' hSw
          go_simp
          try with_reducible rfl
        try simp only [Act.put, List.setIfInBounds_toArray, List.set_cons_zero, List.set_cons_succ]
        refine anyH_take (v := ?_) 13 rfl (by kernel_rfl) (by kernel_rfl) (by kernel_rfl) (fun _ _ _ h => h) rfl ?_ hHeld ?_
        rotate_left
        · intro w' hSw
          go_simp
          try with_reducible rfl
        try simp only [Act.put, List.setIfInBounds_toArray, List.set_cons_zero, List.set_cons_succ]
        refine anyH_take (v := ?_) 14 rfl (by kernel_rfl) (by kernel_rfl) (by kernel_rfl) (fun _ _ _ h => h) rfl ?_ hHeld ?_
        rotate_left
        · intro w' hSw
          go_simp
          try with_reducible rfl
        try simp only [Act.put, List.setIfInBounds_toArray, List.set_cons_zero, List.set_cons_succ]
        refine anyH_take (v := ?_) 15 rfl (by kernel_rfl) (by kernel_rfl) (by kernel_rfl) (fun _ _ _ h => h) rfl ?_ hHeld ?_
        rotate_left
        · intro w' hSw
          go_simp
          try with_reducible rfl
        try simp only [Act.put, List.setIfInBounds_toArray, List.set_cons_zero, List.set_cons_succ]
        refine anyH_take (v := ?_) 16 rfl (by kernel_rfl) (by kernel_rfl) (by kernel_rfl) (fun _ _ _ h => h) rfl ?_ hHeld ?_
        rotate_left
        · intro w' hSw
          go_simp
          try with_reducible rfl
        try simp only [Act.put, List.setIfInBounds_toArray, List.set_cons_zero, List.set_cons_succ]
        refine anyH_take (v := ?_) 17 rfl (by kernel_rfl) (by kernel_rfl) (by kernel_rfl) (fun _ _ _ h => h) rfl ?_ hHeld ?_
        rotate_left
        · intro w' hSw
          go_simp
          try with_reducible rfl
        try simp only [Act.put, List.setIfInBounds_toArray, List.set_cons_zero, List.set_cons_succ]
        refine anyH_take (v := ?_) 18 rfl (by kernel_rfl) (by kernel_rfl) (by kernel_rfl) (fun _ _ _ h => h) rfl ?_ hHeld ?_
        rotate_left
        · intro w' hSw
          go_simp
          try with_reducible rfl
        try simp only [Act.put, List.setIfInBounds_toArray, List.set_cons_zero, List.set_cons_succ]
        refine anyH_take (v := ?_) 19 rfl (by kernel_rfl) (by kernel_rfl) (by kernel_rfl) (fun _ _ _ h => h) rfl ?_ hHeld ?_
        rotate_left
        · intro w' hSw
          go_simp
          try with_reducible rfl
        try simp only [Act.put, List.setIfInBounds_toArray, List.set_cons_zero, List.set_cons_succ]
        refine anyH_take (v := ?_) 20 rfl (by kernel_rfl) (by kernel_rfl) (by kernel_rfl) (fun _ _ _ h => h) rfl ?_ hHeld ?_
        rotate_left
        · intro w' hSw
          go_simp
          try with_reducible rfl
        try simp only [Act.put, List.setIfInBounds_toArray, List.set_cons_zero, List.set_cons_succ]
        refine anyH_take (v := ?_) 21 rfl (by kernel_rfl) (by kernel_rfl) (by kernel_rfl) (fun _ _ _ h => h) rfl ?_ hHeld ?_
        rotate_left
        · intro w' hSw
          go_simp
          try with_reducible rfl
        try simp only [Act.put, List.setIfInBounds_toArray, List.set_cons_zero, List.set_cons_succ]
        refine anyH_take (v := ?_) 22 rfl (by kernel_rfl) (by kernel_rfl) (by kernel_rfl) (fun _ _ _ h => h) rfl ?_ hHeld ?_
        rotate_left
        · intro w' hSw
          go_simp
          try with_reducible rfl
        try simp only [Act.put, List.setIfInBounds_toArray, List.set_cons_zero, List.set_cons_succ]
        refine anyH_take (v := ?_) 23 rfl (by kernel_rfl) (by kernel_rfl) (by kernel_rfl) (fun _ _ _ h => h) rfl ?_ hHeld ?_
        rotate_left
        · intro w' hSw
          go_simp
          try with_reducible rfl
        try simp only [Act.put, List.setIfInBounds_toArray, List.set_cons_zero, List.set_cons_succ]
        refine anyH_take (v := ?_) 24 rfl (by kernel_rfl) (by kernel_rfl) (by kernel_rfl) (fun _ _ _ h => h) rfl ?_ hHeld ?_
        rotate_left
        · intro w' hSw
          go_simp
          try with_reducible rfl
        try simp only [Act.put, List.setIfInBounds_toArray, List.set_cons_zero, List.set_cons_succ]
        refine anyH_take (v := ?_) 25 rfl (by kernel_rfl) (by kernel_rfl) (by kernel_rfl) (fun _ _ _ h => h) rfl ?_ hHeld ?_
        rotate_left
        · intro w' hSw
          go_simp
          try with_reducible rfl
        try simp only [Act.put, List.setIfInBounds_toArray, List.set_cons_zero, List.set_cons_succ]
        refine anyH_take (v := ?_) 26 rfl (by kernel_rfl) (by kernel_rfl) (by kernel_rfl) (fun _ _ _ h => h) rfl ?_ hHeld ?_
        rotate_left
        · intro w' hSw
          go_simp
          try with_reducible rfl
        try simp only [Act.put, List.setIfInBounds_toArray, List.set_cons_zero, List.set_cons_succ]
        refine anyH_take (v := ?_) 27 rfl (by kernel_rfl) (by kernel_rfl) (by kernel_rfl) (fun _ _ _ h => h) rfl ?_ hHeld ?_
        rotate_left
        · intro w' hSw
          go_simp
          try with_reducible rfl
        try simp only [Act.put, List.setIfInBounds_toArray, List.set_cons_zero, List.set_cons_succ]
        refine anyH_take (v := ?_) 28 rfl (by kernel_rfl) (by kernel_rfl) (by kernel_rfl) (fun _ _ _ h => h) rfl ?_ hHeld ?_
        rotate_left
        · intro w' hSw
          go_simp
          try with_reducible rfl
        try simp only [Act.put, List.setIfInBounds_toArray, List.set_cons_zero, List.set_cons_succ]
        refine anyH_take (v := ?_) 29 rfl (by kernel_rfl) (by kernel_rfl) (by kernel_rfl) (fun _ _ _ h => h) rfl ?_ hHeld ?_
        rotate_left
        · intro w' hSw
          go_simp
          try with_reducible rfl
        try simp only [Act.put, List.setIfInBounds_toArray, List.set_cons_zero, List.set_cons_succ]
        refine anyH_take (v := ?_) 30 rfl (by kernel_rfl) (by kernel_rfl) (by kernel_rfl) (fun _ _ _ h => h) rfl ?_ hHeld ?_
        rotate_left
        · intro w' hSw
          go_simp
          try with_reducible rfl
        try simp only [Act.put, List.setIfInBounds_toArray, List.set_cons_zero, List.set_cons_succ]
        refine anyH_take (v := ?_) 31 rfl (by kernel_rfl) (by kernel_rfl) (by kernel_rfl) (fun _ _ _ h => h) rfl ?_ hHeld ?_
        rotate_left
        · intro w' hSw
          go_simp
          try with_reducible rfl
        try simp only [Act.put, List.setIfInBounds_toArray, List.set_cons_zero, List.set_cons_succ]
        refine anyH_take (v := ?_) 32 rfl (by kernel_rfl) (by kernel_rfl) (by kernel_rfl) (fun _ _ _ h => h) rfl ?_ hHeld ?_
        rotate_left
        · intro w' hSw
          go_simp
          try with_reducible rfl
        try simp only [Act.put, List.setIfInBounds_toArray, List.set_cons_zero, List.set_cons_succ]
        refine anyH_take (v := ?_) 33 rfl (by kernel_rfl) (by kernel_rfl) (by kernel_rfl) (fun _ _ _ h => h) rfl ?_ hHeld ?_
        rotate_left
        · intro w' hSw
          go_simp
          try with_reducible rfl
        try simp only [Act.put, List.setIfInBounds_toArray, List.set_cons_zero, List.set_cons_succ]
        refine anyH_take (v := ?_) 34 rfl (by kernel_rfl) (by kernel_rfl) (by kernel_rfl) (fun _ _ _ h => h) rfl ?_ hHeld ?_
        rotate_left
        · intro w' hSw
          go_simp
          try with_reducible rfl
        try simp only [Act.put, List.setIfInBounds_toArray, List.set_cons_zero, List.set_cons_succ]
        refine anyH_take (v := ?_) 35 rfl (by kernel_rfl) (by kernel_rfl) (by kernel_rfl) (fun _ _ _ h => h) rfl ?_ hHeld ?_
        rotate_left
        · intro w' hSw
          go_simp
          try with_reducible rfl
        try simp only [Act.put, List.setIfInBounds_toArray, List.set_cons_zero, List.set_cons_succ]
        refine anyH_take (v := ?_) 36 rfl (by kernel_rfl) (by kernel_rfl) (by kernel_rfl) (fun _ _ _ h => h) rfl ?_ hHeld ?_
        rotate_left
        · intro w' hSw
          go_simp
          try with_reducible rfl
        try simp only [Act.put, List.setIfInBounds_toArray, List.set_cons_zero, List.set_cons_succ]
        refine anyH_take (v := ?_) 37 rfl (by kernel_rfl) (by kernel_rfl) (by kernel_rfl) (fun _ _ _ h => h) rfl ?_ hHeld ?_
        rotate_left
        · intro w' hSw
          go_simp
          try with_reducible rfl
        try simp only [Act.put, List.setIfInBounds_toArray, List.set_cons_zero, List.set_cons_succ]
        refine anyH_take (v := ?_) 38 rfl (by kernel_rfl) (by kernel_rfl) (by kernel_rfl) (fun _ _ _ h => h) rfl ?_ hHeld ?_
        rotate_left
        · intro w' hSw
          go_simp
          try with_reducible rfl
        try simp only [Act.put, List.setIfInBounds_toArray, List.set_cons_zero, List.set_cons_succ]
        refine anyH_take (v := ?_) 39 rfl (by kernel_rfl) (by kernel_rfl) (by kernel_rfl) (fun _ _ _ h => h) rfl ?_ hHeld ?_
        rotate_left
        · intro w' hSw
          go_simp
          try with_reducible rfl
        try simp only [Act.put, List.setIfInBounds_toArray, List.set_cons_zero, List.set_cons_succ]
        refine anyH_take (v := ?_) 40 rfl (by kernel_rfl) (by kernel_rfl) (by kernel_rfl) (fun _ _ _ h => h) rfl ?_ hHeld ?_
        rotate_left
        · intro w' hSw
          go_simp
          try with_reducible rfl
        try simp only [Act.put, List.setIfInBounds_toArray, List.set_cons_zero, List.set_cons_succ]
        refine anyH_take (v := ?_) 41 rfl (by kernel_rfl) (by kernel_rfl) (by kernel_rfl) (fun _ _ _ h => h) rfl ?_ hHeld ?_
        rotate_left
        · intro w' hSw
          go_simp
          try with_reducible rfl
        try simp only [Act.put, List.setIfInBounds_toArray, List.set_cons_zero, List.set_cons_succ]
        refine anyH_skip 42 rfl (by kernel_rfl) (by kernel_rfl) (by kernel_rfl) (fun _ _ _ h => h) rfl hHeld ?_
        try simp only [Act.put, List.setIfInBounds_toArray, List.set_cons_zero, List.set_cons_succ]
        refine anyH_skip 43 rfl (by kernel_rfl) (by kernel_rfl) (by kernel_rfl) (fun _ _ _ h => h) rfl hHeld ?_
        try simp only [Act.put, List.setIfInBounds_toArray, List.set_cons_zero, List.set_cons_succ]
        refine anyH_skip 44 rfl (by kernel_rfl) (by kernel_rfl) (by kernel_rfl) (fun _ _ _ h => h) rfl hHeld ?_
        try simp only [Act.put, List.setIfInBounds_toArray, List.set_cons_zero, List.set_cons_succ]
        refine anyH_skip 45 rfl (by kernel_rfl) (by kernel_rfl) (by kernel_rfl) (fun _ _ _ h => h) rfl hHeld ?_
        try simp only [Act.put, List.setIfInBounds_toArray, List.set_cons_zero, List.set_cons_succ]
        refine anyH_skip 46 rfl (by kernel_rfl) (by kernel_rfl) (by kernel_rfl) (fun _ _ _ h => h) rfl hHeld ?_
        try simp only [Act.put, List.setIfInBounds_toArray, List.set_cons_zero, List.set_cons_succ]
        refine anyH_skip 47 rfl (by kernel_rfl) (by kernel_rfl) (by kernel_rfl) (fun _ _ _ h => h) rfl hHeld ?_
        try simp only [Act.put, List.setIfInBounds_toArray, List.set_cons_zero, List.set_cons_succ]
        refine anyH_take (v := ?_) 48 rfl (by kernel_rfl) (by kernel_rfl) (by kernel_rfl) (fun _ _ _ h => h) rfl ?_ hHeld ?_
        rotate_left
        · intro w' hSw
          go_simp
          try with_reducible rfl
        try simp only [Act.put, List.setIfInBounds_toArray, List.set_cons_zero, List.set_cons_succ]
        refine wpAnyH_done (by kernel_rfl) ?_ _
        clear hHeld g0 h2
        go_wp2
        go_ret
        exact ⟨ret_bool HF.out.symm, g1.below⟩
      have t3 : (m.r != m0.r) = false := by simp [c3]
      by_cases c4 : m.r ≤ 30
      case neg =>
        have t4 : (30 : Int) < m.r := by omega
        have HF : Hid (R = false) := by
          show _ = _
          rw [HS1.out, mtOk, show decide (m.p = p ∧ m.r = m0.r ∧ m.c = m0.r ∧ m0.r ≤ 30) = false from decide_eq_false (fun h => c4 (by omega))]
          simp
        clear c1 c2 c3 c4
        go_upto_region 6 with fail
        have g0 := h2.drew
        refine wp_region_held_drew (S := fun w' => (w'.cell? ⟨b0, off0 + i * 4, none⟩ = some (.int .i64 m.p) ∧ w'.cell? ⟨b0, off0 + i * 4 + 1, none⟩ = some (.int .i64 m.r) ∧ w'.cell? ⟨b0, off0 + i * 4 + 2, none⟩ = some (.int .i64 m.c) ∧ w'.cell? ⟨b0, off0 + i * 4 + 3, none⟩ = some (.slice A9 m.d.length c9)) ∧ (w'.cell? ⟨b0, off0 + 1, none⟩ = some (.int .i64 m0.r)) ∧ w'.cell? ⟨w.heap.size, 0, none⟩ = some (.int .i64 p) ∧ w'.cell? ⟨w.heap.size, 1, none⟩ = some (.int .i64 N) ∧ w'.cell? ⟨w.heap.size, 2, none⟩ = some (.slice A T.length k)) (by kernel_rfl) ⟨g0.fact 0 rfl, g0.fact 1 rfl, g0.box3 2 rfl⟩ (fun hHeld => ?_)
        refine anyH_take (v := ?_) 0 rfl (by kernel_rfl) (by kernel_rfl) (by kernel_rfl) (fun _ _ _ h => h) rfl ?_ hHeld ?_
        rotate_left
        · intro w' hSw
          go_simp
          try with_reducible rfl
        try simp only [Act.put, List.setIfInBounds_toArray, List.set_cons_zero, List.set_cons_succ]
        refine anyH_take (v := ?_) 1 rfl (by kernel_rfl) (by kernel_rfl) (by kernel_rfl) (fun _ _ _ h => h) rfl ?_ hHeld ?_
        rotate_left
        · intro w' hSw
          go_simp
          try with_reducible rfl
        try simp only [Act.put, List.setIfInBounds_toArray, List.set_cons_zero, List.set_cons_succ]
        refine anyH_take (v := ?_) 2 rfl (by kernel_rfl) (by kernel_rfl) (by kernel_rfl) (fun _ _ _ h => h) rfl ?_ hHeld ?_
        rotate_left
        · intro w' hSw
          go_simp
          try with_reducible rfl
        try simp only [Act.put, List.setIfInBounds_toArray, List.set_cons_zero, List.set_cons_succ]
        refine anyH_take (v := ?_) 3 rfl (by kernel_rfl) (by kernel_rfl) (by kernel_rfl) (fun _ _ _ h => h) rfl ?_ hHeld ?_
        rotate_left
        · intro w' hSw
          go_simp
          try with_reducible rfl
        try simp only [Act.put, List.setIfInBounds_toArray, List.set_cons_zero, List.set_cons_succ]
        refine wpAnyH_ready (rs := [4]) (by kernel_rfl) (by simp) ?_
        refine ready_cons rfl (fun K hK => ?_) AllReadyH.nil
        go_simp
        refine (MatrixOkS_any m.p m.r m.c _ m.d _ (HI.out.below g0.below (Nat.le_refl _)).ints hmw).mono ?_
        rintro (e : Ending) w2 ⟨rfl, hb2⟩
        have g1 := g0.on hb2
        rw [B4.out]
        show K _ _
        refine hK.out _ _ ?_ (fun hHeld => ?_)
        · exact ⟨g1.fact 0 rfl, g1.fact 1 rfl, g1.box3 2 rfl⟩
        clear hK K
        try simp only [Act.put, List.setIfInBounds_toArray, List.set_cons_zero, List.set_cons_succ]
        refine anyH_take (v := ?_) 5 rfl (by kernel_rfl) (by kernel_rfl) (by kernel_rfl) (fun _ _ _ h => h) rfl ?_ hHeld ?_
        rotate_left
        · intro w' hSw
          go_simp
          try with_reducible rfl
        try simp only [Act.put, List.setIfInBounds_toArray, List.set_cons_zero, List.set_cons_succ]
        refine anyH_take (v := ?_) 6 rfl (by kernel_rfl) (by kernel_rfl) (by kernel_rfl) (fun _ _ _ h => h) rfl ?_ hHeld ?_
        rotate_left
        · intro w' hSw
          go_simp
          try with_reducible rfl
        try simp only [Act.put, List.setIfInBounds_toArray, List.set_cons_zero, List.set_cons_succ]
        refine anyH_take (v := ?_) 7 rfl (by kernel_rfl) (by kernel_rfl) (by kernel_rfl) (fun _ _ _ h => h) rfl ?_ hHeld ?_
        rotate_left
        · intro w' hSw
          go_simp
          try with_reducible rfl
        try simp only [Act.put, List.setIfInBounds_toArray, List.set_cons_zero, List.set_cons_succ]
        refine anyH_take (v := ?_) 8 rfl (by kernel_rfl) (by kernel_rfl) (by kernel_rfl) (fun _ _ _ h => h) rfl ?_ hHeld ?_
        rotate_left
        · intro w' hSw
          go_simp
          try with_reducible rfl
        try simp only [Act.put, List.setIfInBounds_toArray, List.set_cons_zero, List.set_cons_succ]
        refine anyH_take (v := ?_) 9 rfl (by kernel_rfl) (by kernel_rfl) (by kernel_rfl) (fun _ _ _ h => h) rfl ?_ hHeld ?_
        rotate_left
        · intro w' hSw
          go_simp
          try with_reducible rfl
        try simp only [Act.put, List.setIfInBounds_toArray, List.set_cons_zero, List.set_cons_succ]
        refine anyH_take (v := ?_) 10 rfl (by kernel_rfl) (by kernel_rfl) (by kernel_rfl) (fun _ _ _ h => h) rfl ?_ hHeld ?_
        rotate_left
        · intro w' hSw
          go_simp
          try with_reducible rfl
        try simp only [Act.put, List.setIfInBounds_toArray, List.set_cons_zero, List.set_cons_succ]
        refine anyH_take (v := ?_) 11 rfl (by kernel_rfl) (by kernel_rfl) (by kernel_rfl) (fun _ _ _ h => h) rfl ?_ hHeld ?_
        rotate_left
        · intro w' hSw
          go_simp
          try with_reducible rfl
        try simp only [Act.put, List.setIfInBounds_toArray, List.set_cons_zero, List.set_cons_succ]
        refine anyH_take (v := ?_) 12 rfl (by kernel_rfl) (by kernel_rfl) (by kernel_rfl) (fun _ _ _ h => h) rfl ?_ hHeld ?_
        rotate_left
        · intro w' hSw
          go_simp
          try with_reducible rfl
        try simp only [Act.put, List.setIfInBounds_toArray, List.set_cons_zero, List.set_cons_succ]
        refine anyH_take (v := ?_) 13 rfl (by kernel_rfl) (by kernel_rfl) (by kernel_rfl) (fun _ _ _ h => h) rfl ?_ hHeld ?_
        rotate_left
        · intro w' hSw
          go_simp
          try with_reducible rfl
        try simp only [Act.put, List.setIfInBounds_toArray, List.set_cons_zero, List.set_cons_succ]
        refine anyH_take (v := ?_) 14 rfl (by kernel_rfl) (by kernel_rfl) (by kernel_rfl) (fun _ _ _ h => h) rfl ?_ hHeld ?_
        rotate_left
        · intro w' hSw
          go_simp
          try with_reducible rfl
        try simp only [Act.put, List.setIfInBounds_toArray, List.set_cons_zero, List.set_cons_succ]
        refine anyH_take (v := ?_) 15 rfl (by kernel_rfl) (by kernel_rfl) (by kernel_rfl) (fun _ _ _ h => h) rfl ?_ hHeld ?_
        rotate_left
        · intro w' hSw
          go_simp
          try with_reducible rfl
        try simp only [Act.put, List.setIfInBounds_toArray, List.set_cons_zero, List.set_cons_succ]
        refine anyH_take (v := ?_) 16 rfl (by kernel_rfl) (by kernel_rfl) (by kernel_rfl) (fun _ _ _ h => h) rfl ?_ hHeld ?_
        rotate_left
        · intro w' hSw
          go_simp
          try with_reducible rfl
        try simp only [Act.put, List.setIfInBounds_toArray, List.set_cons_zero, List.set_cons_succ]
        refine anyH_take (v := ?_) 17 rfl (by kernel_rfl) (by kernel_rfl) (by kernel_rfl) (fun _ _ _ h => h) rfl ?_ hHeld ?_
        rotate_left
        · intro w' hSw
          go_simp
          try with_reducible rfl
        try simp only [Act.put, List.setIfInBounds_toArray, List.set_cons_zero, List.set_cons_succ]
        refine anyH_take (v := ?_) 18 rfl (by kernel_rfl) (by kernel_rfl) (by kernel_rfl) (fun _ _ _ h => h) rfl ?_ hHeld ?_
        rotate_left
        · intro w' hSw
          go_simp
          try with_reducible rfl
        try simp only [Act.put, List.setIfInBounds_toArray, List.set_cons_zero, List.set_cons_succ]
        refine anyH_take (v := ?_) 19 rfl (by kernel_rfl) (by kernel_rfl) (by kernel_rfl) (fun _ _ _ h => h) rfl ?_ hHeld ?_
        rotate_left
        · intro w' hSw
          go_simp
          try with_reducible rfl
        try simp only [Act.put, List.setIfInBounds_toArray, List.set_cons_zero, List.set_cons_succ]
        refine anyH_take (v := ?_) 20 rfl (by kernel_rfl) (by kernel_rfl) (by kernel_rfl) (fun _ _ _ h => h) rfl ?_ hHeld ?_
        rotate_left
        · intro w' hSw
          go_simp
          try with_reducible rfl
        try simp only [Act.put, List.setIfInBounds_toArray, List.set_cons_zero, List.set_cons_succ]
        refine anyH_take (v := ?_) 21 rfl (by kernel_rfl) (by kernel_rfl) (by kernel_rfl) (fun _ _ _ h => h) rfl ?_ hHeld ?_
        rotate_left
        · intro w' hSw
          go_simp
          try with_reducible rfl
        try simp only [Act.put, List.setIfInBounds_toArray, List.set_cons_zero, List.set_cons_succ]
        refine anyH_take (v := ?_) 22 rfl (by kernel_rfl) (by kernel_rfl) (by kernel_rfl) (fun _ _ _ h => h) rfl ?_ hHeld ?_
        rotate_left
        · intro w' hSw
          go_simp
          try with_reducible rfl
        try simp only [Act.put, List.setIfInBounds_toArray, List.set_cons_zero, List.set_cons_succ]
        refine anyH_take (v := ?_) 23 rfl (by kernel_rfl) (by kernel_rfl) (by kernel_rfl) (fun _ _ _ h => h) rfl ?_ hHeld ?_
        rotate_left
        · intro w' hSw
          go_simp
          try with_reducible rfl
        try simp only [Act.put, List.setIfInBounds_toArray, List.set_cons_zero, List.set_cons_succ]
        refine anyH_take (v := ?_) 24 rfl (by kernel_rfl) (by kernel_rfl) (by kernel_rfl) (fun _ _ _ h => h) rfl ?_ hHeld ?_
        rotate_left
        · intro w' hSw
          go_simp
          try with_reducible rfl
        try simp only [Act.put, List.setIfInBounds_toArray, List.set_cons_zero, List.set_cons_succ]
        refine anyH_take (v := ?_) 25 rfl (by kernel_rfl) (by kernel_rfl) (by kernel_rfl) (fun _ _ _ h => h) rfl ?_ hHeld ?_
        rotate_left
        · intro w' hSw
          go_simp
          try with_reducible rfl
        try simp only [Act.put, List.setIfInBounds_toArray, List.set_cons_zero, List.set_cons_succ]
        refine anyH_take (v := ?_) 26 rfl (by kernel_rfl) (by kernel_rfl) (by kernel_rfl) (fun _ _ _ h => h) rfl ?_ hHeld ?_
        rotate_left
        · intro w' hSw
          go_simp
          try with_reducible rfl
        try simp only [Act.put, List.setIfInBounds_toArray, List.set_cons_zero, List.set_cons_succ]
        refine anyH_take (v := ?_) 27 rfl (by kernel_rfl) (by kernel_rfl) (by kernel_rfl) (fun _ _ _ h => h) rfl ?_ hHeld ?_
        rotate_left
        · intro w' hSw
          go_simp
          try with_reducible rfl
        try simp only [Act.put, List.setIfInBounds_toArray, List.set_cons_zero, List.set_cons_succ]
        refine anyH_take (v := ?_) 28 rfl (by kernel_rfl) (by kernel_rfl) (by kernel_rfl) (fun _ _ _ h => h) rfl ?_ hHeld ?_
        rotate_left
        · intro w' hSw
          go_simp
          try with_reducible rfl
        try simp only [Act.put, List.setIfInBounds_toArray, List.set_cons_zero, List.set_cons_succ]
        refine anyH_take (v := ?_) 29 rfl (by kernel_rfl) (by kernel_rfl) (by kernel_rfl) (fun _ _ _ h => h) rfl ?_ hHeld ?_
        rotate_left
        · intro w' hSw
          go_simp
          try with_reducible rfl
        try simp only [Act.put, List.setIfInBounds_toArray, List.set_cons_zero, List.set_cons_succ]
        refine anyH_take (v := ?_) 30 rfl (by kernel_rfl) (by kernel_rfl) (by kernel_rfl) (fun _ _ _ h => h) rfl ?_ hHeld ?_
        rotate_left
        · intro w' hSw
          go_simp
          try with_reducible rfl
        try simp only [Act.put, List.setIfInBounds_toArray, List.set_cons_zero, List.set_cons_succ]
        refine anyH_take (v := ?_) 31 rfl (by kernel_rfl) (by kernel_rfl) (by kernel_rfl) (fun _ _ _ h => h) rfl ?_ hHeld ?_
        rotate_left
        · intro w' hSw
          go_simp
          try with_reducible rfl
        try simp only [Act.put, List.setIfInBounds_toArray, List.set_cons_zero, List.set_cons_succ]
        refine anyH_take (v := ?_) 32 rfl (by kernel_rfl) (by kernel_rfl) (by kernel_rfl) (fun _ _ _ h => h) rfl ?_ hHeld ?_
        rotate_left
        · intro w' hSw
          go_simp
          try with_reducible rfl
        try simp only [Act.put, List.setIfInBounds_toArray, List.set_cons_zero, List.set_cons_succ]
        refine anyH_take (v := ?_) 33 rfl (by kernel_rfl) (by kernel_rfl) (by kernel_rfl) (fun _ _ _ h => h) rfl ?_ hHeld ?_
        rotate_left
        · intro w' hSw
          go_simp
          try with_reducible rfl
        try simp only [Act.put, List.setIfInBounds_toArray, List.set_cons_zero, List.set_cons_succ]
        refine anyH_take (v := ?_) 34 rfl (by kernel_rfl) (by kernel_rfl) (by kernel_rfl) (fun _ _ _ h => h) rfl ?_ hHeld ?_
        rotate_left
        · intro w' hSw
          go_simp
          try with_reducible rfl
        try simp only [Act.put, List.setIfInBounds_toArray, List.set_cons_zero, List.set_cons_succ]
        refine anyH_take (v := ?_) 35 rfl (by kernel_rfl) (by kernel_rfl) (by kernel_rfl) (fun _ _ _ h => h) rfl ?_ hHeld ?_
        rotate_left
        · intro w' hSw
          go_simp
          try with_reducible rfl
        try simp only [Act.put, List.setIfInBounds_toArray, List.set_cons_zero, List.set_cons_succ]
        refine anyH_take (v := ?_) 36 rfl (by kernel_rfl) (by kernel_rfl) (by kernel_rfl) (fun _ _ _ h => h) rfl ?_ hHeld ?_
        rotate_left
        · intro w' hSw
          go_simp
          try with_reducible rfl
        try simp only [Act.put, List.setIfInBounds_toArray, List.set_cons_zero, List.set_cons_succ]
        refine anyH_take (v := ?_) 37 rfl (by kernel_rfl) (by kernel_rfl) (by kernel_rfl) (fun _ _ _ h => h) rfl ?_ hHeld ?_
        rotate_left
        · intro w' hSw
          go_simp
          try with_reducible rfl
        try simp only [Act.put, List.setIfInBounds_toArray, List.set_cons_zero, List.set_cons_succ]
        refine anyH_take (v := ?_) 38 rfl (by kernel_rfl) (by kernel_rfl) (by kernel_rfl) (fun _ _ _ h => h) rfl ?_ hHeld ?_
        rotate_left
        · intro w' hSw
          go_simp
          try with_reducible rfl
        try simp only [Act.put, List.setIfInBounds_toArray, List.set_cons_zero, List.set_cons_succ]
        refine anyH_take (v := ?_) 39 rfl (by kernel_rfl) (by kernel_rfl) (by kernel_rfl) (fun _ _ _ h => h) rfl ?_ hHeld ?_
        rotate_left
        · intro w' hSw
          go_simp
          try with_reducible rfl
        try simp only [Act.put, List.setIfInBounds_toArray, List.set_cons_zero, List.set_cons_succ]
        refine anyH_take (v := ?_) 40 rfl (by kernel_rfl) (by kernel_rfl) (by kernel_rfl) (fun _ _ _ h => h) rfl ?_ hHeld ?_
        rotate_left
        · intro w' hSw
          go_simp
          try with_reducible rfl
        try simp only [Act.put, List.setIfInBounds_toArray, List.set_cons_zero, List.set_cons_succ]
        refine anyH_take (v := ?_) 41 rfl (by kernel_rfl) (by kernel_rfl) (by kernel_rfl) (fun _ _ _ h => h) rfl ?_ hHeld ?_
        rotate_left
        · intro w' hSw
          go_simp
          try with_reducible rfl
        try simp only [Act.put, List.setIfInBounds_toArray, List.set_cons_zero, List.set_cons_succ]
        refine anyH_take (v := ?_) 42 rfl (by kernel_rfl) (by kernel_rfl) (by kernel_rfl) (fun _ _ _ h => h) rfl ?_ hHeld ?_
        rotate_left
        · intro w' hSw
          go_simp
          try with_reducible rfl
        try simp only [Act.put, List.setIfInBounds_toArray, List.set_cons_zero, List.set_cons_succ]
        refine anyH_take (v := ?_) 43 rfl (by kernel_rfl) (by kernel_rfl) (by kernel_rfl) (fun _ _ _ h => h) rfl ?_ hHeld ?_
        rotate_left
        · intro w' hSw
          go_simp
          try with_reducible rfl
        try simp only [Act.put, List.setIfInBounds_toArray, List.set_cons_zero, List.set_cons_succ]
        refine anyH_take (v := ?_) 44 rfl (by kernel_rfl) (by kernel_rfl) (by kernel_rfl) (fun _ _ _ h => h) rfl ?_ hHeld ?_
        rotate_left
        · intro w' hSw
          go_simp
          try with_reducible rfl
        try simp only [Act.put, List.setIfInBounds_toArray, List.set_cons_zero, List.set_cons_succ]
        refine anyH_take (v := ?_) 45 rfl (by kernel_rfl) (by kernel_rfl) (by kernel_rfl) (fun _ _ _ h => h) rfl ?_ hHeld ?_
        rotate_left
        · intro w' hSw
          go_simp
          try with_reducible rfl
        try simp only [Act.put, List.setIfInBounds_toArray, List.set_cons_zero, List.set_cons_succ]
        refine anyH_take (v := ?_) 46 rfl (by kernel_rfl) (by kernel_rfl) (by kernel_rfl) (fun _ _ _ h => h) rfl ?_ hHeld ?_
        rotate_left
        · intro w' hSw
          go_simp
          try with_reducible rfl
        try simp only [Act.put, List.setIfInBounds_toArray, List.set_cons_zero, List.set_cons_succ]
        refine anyH_take (v := ?_) 47 rfl (by kernel_rfl) (by kernel_rfl) (by kernel_rfl) (fun _ _ _ h => h) rfl ?_ hHeld ?_
        rotate_left
        · intro w' hSw
          go_simp
          try with_reducible rfl
        try simp only [Act.put, List.setIfInBounds_toArray, List.set_cons_zero, List.set_cons_succ]
        refine anyH_take (v := ?_) 48 rfl (by kernel_rfl) (by kernel_rfl) (by kernel_rfl) (fun _ _ _ h => h) rfl ?_ hHeld ?_
        rotate_left
        · intro w' hSw
          go_simp
          try with_reducible rfl
        try simp only [Act.put, List.setIfInBounds_toArray, List.set_cons_zero, List.set_cons_succ]
        refine wpAnyH_done (by kernel_rfl) ?_ _
        clear hHeld g0 h2
        go_wp2
        go_ret
        exact ⟨ret_bool HF.out.symm, g1.below⟩
      have t4 : ¬ ((30 : Int) < m.r) := by omega
      have hmt : mtOk p m0.r m = true := by
        rw [mtOk, B4.out, show decide (m.p = p ∧ m.r = m0.r ∧ m.c = m0.r ∧ m0.r ≤ 30) = true from decide_eq_true (by omega)]; rfl
      have HS2 : Hid (R = (allF (fun i => mtOk p m0.r (mAt (m0 :: ms) i)) (N - (i + 1)) (i + 1) && K0)) := by show _ = _; rw [HS1.out, hmt, Bool.true_and]
      have HAll2 : Hid (∀ k, k < i + 1 → mtOk p m0.r (mAt (m0 :: ms) k) = true) := fun k hk => by
        rcases Nat.lt_or_ge k i with h | h
        · exact HAll.out k h
        · obtain rfl : k = i := by omega
          rw [← HMm.out]; exact hmt
      clear c1 c2 c3 c4 hmt
      go_upto_region 6 with fail
      have g0 := h2.drew
      refine wp_region_held_drew (S := fun w' => (w'.cell? ⟨b0, off0 + i * 4, none⟩ = some (.int .i64 m.p) ∧ w'.cell? ⟨b0, off0 + i * 4 + 1, none⟩ = some (.int .i64 m.r) ∧ w'.cell? ⟨b0, off0 + i * 4 + 2, none⟩ = some (.int .i64 m.c) ∧ w'.cell? ⟨b0, off0 + i * 4 + 3, none⟩ = some (.slice A9 m.d.length c9)) ∧ (w'.cell? ⟨b0, off0 + 1, none⟩ = some (.int .i64 m0.r)) ∧ w'.cell? ⟨w.heap.size, 0, none⟩ = some (.int .i64 p) ∧ w'.cell? ⟨w.heap.size, 1, none⟩ = some (.int .i64 N) ∧ w'.cell? ⟨w.heap.size, 2, none⟩ = some (.slice A T.length k)) (by kernel_rfl) ⟨g0.fact 0 rfl, g0.fact 1 rfl, g0.box3 2 rfl⟩ (fun hHeld => ?_)
      refine anyH_take (v := ?_) 0 rfl (by kernel_rfl) (by kernel_rfl) (by kernel_rfl) (fun _ _ _ h => h) rfl ?_ hHeld ?_
      rotate_left
      · intro w' hSw
        go_simp
        try with_reducible rfl
      try simp only [Act.put, List.setIfInBounds_toArray, List.set_cons_zero, List.set_cons_succ]
      refine anyH_take (v := ?_) 1 rfl (by kernel_rfl) (by kernel_rfl) (by kernel_rfl) (fun _ _ _ h => h) rfl ?_ hHeld ?_
      rotate_left
      · intro w' hSw
        go_simp
        try with_reducible rfl
      try simp only [Act.put, List.setIfInBounds_toArray, List.set_cons_zero, List.set_cons_succ]
      refine anyH_take (v := ?_) 2 rfl (by kernel_rfl) (by kernel_rfl) (by kernel_rfl) (fun _ _ _ h => h) rfl ?_ hHeld ?_
      rotate_left
      · intro w' hSw
        go_simp
        try with_reducible rfl
      try simp only [Act.put, List.setIfInBounds_toArray, List.set_cons_zero, List.set_cons_succ]
      refine anyH_take (v := ?_) 3 rfl (by kernel_rfl) (by kernel_rfl) (by kernel_rfl) (fun _ _ _ h => h) rfl ?_ hHeld ?_
      rotate_left
      · intro w' hSw
        go_simp
        try with_reducible rfl
      try simp only [Act.put, List.setIfInBounds_toArray, List.set_cons_zero, List.set_cons_succ]
      refine wpAnyH_ready (rs := [4]) (by kernel_rfl) (by simp) ?_
      refine ready_cons rfl (fun K hK => ?_) AllReadyH.nil
      go_simp
      refine (MatrixOkS_any m.p m.r m.c _ m.d _ (HI.out.below g0.below (Nat.le_refl _)).ints hmw).mono ?_
      rintro (e : Ending) w2 ⟨rfl, hb2⟩
      have g1 := g0.on hb2
      rw [B4.out]
      show K _ _
      refine hK.out _ _ ?_ (fun hHeld => ?_)
      · exact ⟨g1.fact 0 rfl, g1.fact 1 rfl, g1.box3 2 rfl⟩
      clear hK K
      try simp only [Act.put, List.setIfInBounds_toArray, List.set_cons_zero, List.set_cons_succ]
      refine anyH_take (v := ?_) 5 rfl (by kernel_rfl) (by kernel_rfl) (by kernel_rfl) (fun _ _ _ h => h) rfl ?_ hHeld ?_
      rotate_left
      · intro w' hSw
        go_simp
        try with_reducible rfl
      try simp only [Act.put, List.setIfInBounds_toArray, List.set_cons_zero, List.set_cons_succ]
      refine anyH_take (v := ?_) 6 rfl (by kernel_rfl) (by kernel_rfl) (by kernel_rfl) (fun _ _ _ h => h) rfl ?_ hHeld ?_
      rotate_left
      · intro w' hSw
        go_simp
        try with_reducible rfl
      try simp only [Act.put, List.setIfInBounds_toArray, List.set_cons_zero, List.set_cons_succ]
      refine anyH_take (v := ?_) 7 rfl (by kernel_rfl) (by kernel_rfl) (by kernel_rfl) (fun _ _ _ h => h) rfl ?_ hHeld ?_
      rotate_left
      · intro w' hSw
        go_simp
        try with_reducible rfl
      try simp only [Act.put, List.setIfInBounds_toArray, List.set_cons_zero, List.set_cons_succ]
      refine anyH_take (v := ?_) 8 rfl (by kernel_rfl) (by kernel_rfl) (by kernel_rfl) (fun _ _ _ h => h) rfl ?_ hHeld ?_
      rotate_left
      · intro w' hSw
        go_simp
        try with_reducible rfl
      try simp only [Act.put, List.setIfInBounds_toArray, List.set_cons_zero, List.set_cons_succ]
      refine anyH_take (v := ?_) 9 rfl (by kernel_rfl) (by kernel_rfl) (by kernel_rfl) (fun _ _ _ h => h) rfl ?_ hHeld ?_
      rotate_left
      · intro w' hSw
        go_simp
        try with_reducible rfl
      try simp only [Act.put, List.setIfInBounds_toArray, List.set_cons_zero, List.set_cons_succ]
      refine anyH_take (v := ?_) 10 rfl (by kernel_rfl) (by kernel_rfl) (by kernel_rfl) (fun _ _ _ h => h) rfl ?_ hHeld ?_
      rotate_left
      · intro w' hSw
        go_simp
        try with_reducible rfl
      try simp only [Act.put, List.setIfInBounds_toArray, List.set_cons_zero, List.set_cons_succ]
      refine anyH_take (v := ?_) 11 rfl (by kernel_rfl) (by kernel_rfl) (by kernel_rfl) (fun _ _ _ h => h) rfl ?_ hHeld ?_
      rotate_left
      · intro w' hSw
        go_simp
        try with_reducible rfl
      try simp only [Act.put, List.setIfInBounds_toArray, List.set_cons_zero, List.set_cons_succ]
      refine anyH_take (v := ?_) 12 rfl (by kernel_rfl) (by kernel_rfl) (by kernel_rfl) (fun _ _ _ h => h) rfl ?_ hHeld ?_
      rotate_left
      · intro w' hSw
        go_simp
        try with_reducible rfl
      try simp only [Act.put, List.setIfInBounds_toArray, List.set_cons_zero, List.set_cons_succ]
      refine anyH_take (v := ?_) 13 rfl (by kernel_rfl) (by kernel_rfl) (by kernel_rfl) (fun _ _ _ h => h) rfl ?_ hHeld ?_
      rotate_left
      · intro w' hSw
        go_simp
        try with_reducible rfl
      try simp only [Act.put, List.setIfInBounds_toArray, List.set_cons_zero, List.set_cons_succ]
      refine anyH_take (v := ?_) 14 rfl (by kernel_rfl) (by kernel_rfl) (by kernel_rfl) (fun _ _ _ h => h) rfl ?_ hHeld ?_
      rotate_left
      · intro w' hSw
        go_simp
        try with_reducible rfl
      try simp only [Act.put, List.setIfInBounds_toArray, List.set_cons_zero, List.set_cons_succ]
      refine anyH_take (v := ?_) 15 rfl (by kernel_rfl) (by kernel_rfl) (by kernel_rfl) (fun _ _ _ h => h) rfl ?_ hHeld ?_
      rotate_left
      · intro w' hSw
        go_simp
        try with_reducible rfl
      try simp only [Act.put, List.setIfInBounds_toArray, List.set_cons_zero, List.set_cons_succ]
      refine anyH_take (v := ?_) 16 rfl (by kernel_rfl) (by kernel_rfl) (by kernel_rfl) (fun _ _ _ h => h) rfl ?_ hHeld ?_
      rotate_left
      · intro w' hSw
        go_simp
        try with_reducible rfl
      try simp only [Act.put, List.setIfInBounds_toArray, List.set_cons_zero, List.set_cons_succ]
      refine anyH_take (v := ?_) 17 rfl (by kernel_rfl) (by kernel_rfl) (by kernel_rfl) (fun _ _ _ h => h) rfl ?_ hHeld ?_
      rotate_left
      · intro w' hSw
        go_simp
        try with_reducible rfl
      try simp only [Act.put, List.setIfInBounds_toArray, List.set_cons_zero, List.set_cons_succ]
      refine anyH_take (v := ?_) 18 rfl (by kernel_rfl) (by kernel_rfl) (by kernel_rfl) (fun _ _ _ h => h) rfl ?_ hHeld ?_
      rotate_left
      · intro w' hSw
        go_simp
        try with_reducible rfl
      try simp only [Act.put, List.setIfInBounds_toArray, List.set_cons_zero, List.set_cons_succ]
      refine anyH_take (v := ?_) 19 rfl (by kernel_rfl) (by kernel_rfl) (by kernel_rfl) (fun _ _ _ h => h) rfl ?_ hHeld ?_
      rotate_left
      · intro w' hSw
        go_simp
        try with_reducible rfl
      try simp only [Act.put, List.setIfInBounds_toArray, List.set_cons_zero, List.set_cons_succ]
      refine anyH_take (v := ?_) 20 rfl (by kernel_rfl) (by kernel_rfl) (by kernel_rfl) (fun _ _ _ h => h) rfl ?_ hHeld ?_
      rotate_left
      · intro w' hSw
        go_simp
        try with_reducible rfl
      try simp only [Act.put, List.setIfInBounds_toArray, List.set_cons_zero, List.set_cons_succ]
      refine anyH_take (v := ?_) 21 rfl (by kernel_rfl) (by kernel_rfl) (by kernel_rfl) (fun _ _ _ h => h) rfl ?_ hHeld ?_
      rotate_left
      · intro w' hSw
        go_simp
        try with_reducible rfl
      try simp only [Act.put, List.setIfInBounds_toArray, List.set_cons_zero, List.set_cons_succ]
      refine anyH_take (v := ?_) 22 rfl (by kernel_rfl) (by kernel_rfl) (by kernel_rfl) (fun _ _ _ h => h) rfl ?_ hHeld ?_
      rotate_left
      · intro w' hSw
        go_simp
        try with_reducible rfl
      try simp only [Act.put, List.setIfInBounds_toArray, List.set_cons_zero, List.set_cons_succ]
      refine anyH_take (v := ?_) 23 rfl (by kernel_rfl) (by kernel_rfl) (by kernel_rfl) (fun _ _ _ h => h) rfl ?_ hHeld ?_
      rotate_left
      · intro w' hSw
        go_simp
        try with_reducible rfl
      try simp only [Act.put, List.setIfInBounds_toArray, List.set_cons_zero, List.set_cons_succ]
      refine anyH_take (v := ?_) 24 rfl (by kernel_rfl) (by kernel_rfl) (by kernel_rfl) (fun _ _ _ h => h) rfl ?_ hHeld ?_
      rotate_left
      · intro w' hSw
        go_simp
        try with_reducible rfl
      try simp only [Act.put, List.setIfInBounds_toArray, List.set_cons_zero, List.set_cons_succ]
      refine anyH_take (v := ?_) 25 rfl (by kernel_rfl) (by kernel_rfl) (by kernel_rfl) (fun _ _ _ h => h) rfl ?_ hHeld ?_
      rotate_left
      · intro w' hSw
        go_simp
        try with_reducible rfl
      try simp only [Act.put, List.setIfInBounds_toArray, List.set_cons_zero, List.set_cons_succ]
      refine anyH_take (v := ?_) 26 rfl (by kernel_rfl) (by kernel_rfl) (by kernel_rfl) (fun _ _ _ h => h) rfl ?_ hHeld ?_
      rotate_left
      · intro w' hSw
        go_simp
        try with_reducible rfl
      try simp only [Act.put, List.setIfInBounds_toArray, List.set_cons_zero, List.set_cons_succ]
      refine anyH_take (v := ?_) 27 rfl (by kernel_rfl) (by kernel_rfl) (by kernel_rfl) (fun _ _ _ h => h) rfl ?_ hHeld ?_
      rotate_left
      · intro w' hSw
        go_simp
        try with_reducible rfl
      try simp only [Act.put, List.setIfInBounds_toArray, List.set_cons_zero, List.set_cons_succ]
      refine anyH_take (v := ?_) 28 rfl (by kernel_rfl) (by kernel_rfl) (by kernel_rfl) (fun _ _ _ h => h) rfl ?_ hHeld ?_
      rotate_left
      · intro w' hSw
        go_simp
        try with_reducible rfl
      try simp only [Act.put, List.setIfInBounds_toArray, List.set_cons_zero, List.set_cons_succ]
      refine anyH_take (v := ?_) 29 rfl (by kernel_rfl) (by kernel_rfl) (by kernel_rfl) (fun _ _ _ h => h) rfl ?_ hHeld ?_
      rotate_left
      · intro w' hSw
        go_simp
        try with_reducible rfl
      try simp only [Act.put, List.setIfInBounds_toArray, List.set_cons_zero, List.set_cons_succ]
      refine anyH_take (v := ?_) 30 rfl (by kernel_rfl) (by kernel_rfl) (by kernel_rfl) (fun _ _ _ h => h) rfl ?_ hHeld ?_
      rotate_left
      · intro w' hSw
        go_simp
        try with_reducible rfl
      try simp only [Act.put, List.setIfInBounds_toArray, List.set_cons_zero, List.set_cons_succ]
      refine anyH_take (v := ?_) 31 rfl (by kernel_rfl) (by kernel_rfl) (by kernel_rfl) (fun _ _ _ h => h) rfl ?_ hHeld ?_
      rotate_left
      · intro w' hSw
        go_simp
        try with_reducible rfl
      try simp only [Act.put, List.setIfInBounds_toArray, List.set_cons_zero, List.set_cons_succ]
      refine anyH_take (v := ?_) 32 rfl (by kernel_rfl) (by kernel_rfl) (by kernel_rfl) (fun _ _ _ h => h) rfl ?_ hHeld ?_
      rotate_left
      · intro w' hSw
        go_simp
        try with_reducible rfl
      try simp only [Act.put, List.setIfInBounds_toArray, List.set_cons_zero, List.set_cons_succ]
      refine anyH_take (v := ?_) 33 rfl (by kernel_rfl) (by kernel_rfl) (by kernel_rfl) (fun _ _ _ h => h) rfl ?_ hHeld ?_
      rotate_left
      · intro w' hSw
        go_simp
        try with_reducible rfl
      try simp only [Act.put, List.setIfInBounds_toArray, List.set_cons_zero, List.set_cons_succ]
      refine anyH_take (v := ?_) 34 rfl (by kernel_rfl) (by kernel_rfl) (by kernel_rfl) (fun _ _ _ h => h) rfl ?_ hHeld ?_
      rotate_left
      · intro w' hSw
        go_simp
        try with_reducible rfl
      try simp only [Act.put, List.setIfInBounds_toArray, List.set_cons_zero, List.set_cons_succ]
      refine anyH_take (v := ?_) 35 rfl (by kernel_rfl) (by kernel_rfl) (by kernel_rfl) (fun _ _ _ h => h) rfl ?_ hHeld ?_
      rotate_left
      · intro w' hSw
        go_simp
        try with_reducible rfl
      try simp only [Act.put, List.setIfInBounds_toArray, List.set_cons_zero, List.set_cons_succ]
      refine anyH_take (v := ?_) 36 rfl (by kernel_rfl) (by kernel_rfl) (by kernel_rfl) (fun _ _ _ h => h) rfl ?_ hHeld ?_
      rotate_left
      · intro w' hSw
        go_simp
        try with_reducible rfl
      try simp only [Act.put, List.setIfInBounds_toArray, List.set_cons_zero, List.set_cons_succ]
      refine anyH_take (v := ?_) 37 rfl (by kernel_rfl) (by kernel_rfl) (by kernel_rfl) (fun _ _ _ h => h) rfl ?_ hHeld ?_
      rotate_left
      · intro w' hSw
        go_simp
        try with_reducible rfl
      try simp only [Act.put, List.setIfInBounds_toArray, List.set_cons_zero, List.set_cons_succ]
      refine anyH_take (v := ?_) 38 rfl (by kernel_rfl) (by kernel_rfl) (by kernel_rfl) (fun _ _ _ h => h) rfl ?_ hHeld ?_
      rotate_left
      · intro w' hSw
        go_simp
        try with_reducible rfl
      try simp only [Act.put, List.setIfInBounds_toArray, List.set_cons_zero, List.set_cons_succ]
      refine anyH_take (v := ?_) 39 rfl (by kernel_rfl) (by kernel_rfl) (by kernel_rfl) (fun _ _ _ h => h) rfl ?_ hHeld ?_
      rotate_left
      · intro w' hSw
        go_simp
        try with_reducible rfl
      try simp only [Act.put, List.setIfInBounds_toArray, List.set_cons_zero, List.set_cons_succ]
      refine anyH_take (v := ?_) 40 rfl (by kernel_rfl) (by kernel_rfl) (by kernel_rfl) (fun _ _ _ h => h) rfl ?_ hHeld ?_
      rotate_left
      · intro w' hSw
        go_simp
        try with_reducible rfl
      try simp only [Act.put, List.setIfInBounds_toArray, List.set_cons_zero, List.set_cons_succ]
      refine anyH_take (v := ?_) 41 rfl (by kernel_rfl) (by kernel_rfl) (by kernel_rfl) (fun _ _ _ h => h) rfl ?_ hHeld ?_
      rotate_left
      · intro w' hSw
        go_simp
        try with_reducible rfl
      try simp only [Act.put, List.setIfInBounds_toArray, List.set_cons_zero, List.set_cons_succ]
      refine anyH_take (v := ?_) 42 rfl (by kernel_rfl) (by kernel_rfl) (by kernel_rfl) (fun _ _ _ h => h) rfl ?_ hHeld ?_
      rotate_left
      · intro w' hSw
        go_simp
        try with_reducible rfl
      try simp only [Act.put, List.setIfInBounds_toArray, List.set_cons_zero, List.set_cons_succ]
      refine anyH_take (v := ?_) 43 rfl (by kernel_rfl) (by kernel_rfl) (by kernel_rfl) (fun _ _ _ h => h) rfl ?_ hHeld ?_
      rotate_left
      · intro w' hSw
        go_simp
        try with_reducible rfl
      try simp only [Act.put, List.setIfInBounds_toArray, List.set_cons_zero, List.set_cons_succ]
      refine anyH_take (v := ?_) 44 rfl (by kernel_rfl) (by kernel_rfl) (by kernel_rfl) (fun _ _ _ h => h) rfl ?_ hHeld ?_
      rotate_left
      · intro w' hSw
        go_simp
        try with_reducible rfl
      try simp only [Act.put, List.setIfInBounds_toArray, List.set_cons_zero, List.set_cons_succ]
      refine anyH_take (v := ?_) 45 rfl (by kernel_rfl) (by kernel_rfl) (by kernel_rfl) (fun _ _ _ h => h) rfl ?_ hHeld ?_
      rotate_left
      · intro w' hSw
        go_simp
        try with_reducible rfl
      try simp only [Act.put, List.setIfInBounds_toArray, List.set_cons_zero, List.set_cons_succ]
      refine anyH_take (v := ?_) 46 rfl (by kernel_rfl) (by kernel_rfl) (by kernel_rfl) (fun _ _ _ h => h) rfl ?_ hHeld ?_
      rotate_left
      · intro w' hSw
        go_simp
        try with_reducible rfl
      try simp only [Act.put, List.setIfInBounds_toArray, List.set_cons_zero, List.set_cons_succ]
      refine anyH_take (v := ?_) 47 rfl (by kernel_rfl) (by kernel_rfl) (by kernel_rfl) (fun _ _ _ h => h) rfl ?_ hHeld ?_
      rotate_left
      · intro w' hSw
        go_simp
        try with_reducible rfl
      try simp only [Act.put, List.setIfInBounds_toArray, List.set_cons_zero, List.set_cons_succ]
      refine anyH_take (v := ?_) 48 rfl (by kernel_rfl) (by kernel_rfl) (by kernel_rfl) (fun _ _ _ h => h) rfl ?_ hHeld ?_
      rotate_left
      · intro w' hSw
        go_simp
        try with_reducible rfl
      try simp only [Act.put, List.setIfInBounds_toArray, List.set_cons_zero, List.set_cons_succ]
      refine wpAnyH_done (by kernel_rfl) ?_ _
      clear hHeld g0 h2
      go_wp2
      go_roundw
      case rel => exact ⟨i + 1, by go_num, by omega, HAll2, HS2, g1.drop 1⟩
      case measure => simp [intOf]; omega
    · obtain rfl : i = N := by omega
      obtain ⟨s, hs, hs30, hMs⟩ := mats_spec HN.out hN0 HAll.out
      have HM := Lib.hid hMs
      have HRK : Hid (R = allF (fun a => allF (comAt p s i T (m0 :: ms) a) a 0) (i - 0) 0) := by
        show _ = _
        rw [HR.out, Nat.sub_self, allF, Bool.true_and, HK0.out, hs, Int.toNat_natCast]
      have Hs := Lib.hid hs
      have iM2 : ¬ ((i : Int) < (ms.length : Int) + 1) := by rw [HLen.out]; omega
      clear hs hMs HR HAll
      obtain ⟨z0, z1, z2⟩ := h1.box3 1 rfl
      go_wp2
      clear z0 z1 z2
      go_loopw [6] (fun v6 wr => ∃ a : Nat, v6 = .int .i64 a ∧ a ≤ i ∧ Hid (R = allF (fun a => allF (comAt p s i T (m0 :: ms) a) a 0) (i - a) a) ∧ St w wr [.fact (fun w' => w'.cell? ⟨b0, off0 + 1, none⟩ = some (.int .i64 m0.r)), .box w.heap.size [.int .i64 p, .int .i64 i, .slice A T.length k], .fact (fun w' => MatsR w' (.slice (some ⟨b0, off0, none⟩) (m0 :: ms).length k2) (m0 :: ms)), .ro (.slice A T.length k) T]) (fun v6 _ => i - (intOf v6).toNat)
      case atStart => exact ⟨0, rfl, by omega, HRK, h1⟩
      case round =>
        clear h1 HRK
        obtain ⟨a, rfl, a2, HRK, h1⟩ := hrel
        obtain ⟨z0, z1, z2⟩ := h1.box3 1 rfl
        by_cases ha : a < i
        · obtain ⟨K1, hK1⟩ : ∃ K1, K1 = allF (fun a => allF (comAt p s i T (m0 :: ms) a) a 0) (i - (a + 1)) (a + 1) := ⟨_, rfl⟩
          have HM1 : Hid (R = (allF (comAt p s i T (m0 :: ms) a) (a - 0) 0 && K1)) := by
            have := HRK.out
            rw [allF_step ha, ← hK1] at this
            exact this
          have HK1 := Lib.hid hK1
          clear hK1 HRK
          go_wp2
          clear z0 z1 z2
          go_loopw [7] (fun v7 wr => ∃ j : Nat, v7 = .int .i64 j ∧ j ≤ a ∧ Hid (R = (allF (comAt p s i T (m0 :: ms) a) (a - j) j && K1)) ∧ St w wr [.fact (fun w' => w'.cell? ⟨b0, off0 + 1, none⟩ = some (.int .i64 m0.r)), .box w.heap.size [.int .i64 p, .int .i64 i, .slice A T.length k], .fact (fun w' => MatsR w' (.slice (some ⟨b0, off0, none⟩) (m0 :: ms).length k2) (m0 :: ms)), .ro (.slice A T.length k) T]) (fun v7 _ => a - (intOf v7).toNat)
          case atStart => exact ⟨0, rfl, by omega, HM1, h1⟩
          case round =>
            clear h1 HM1
            obtain ⟨j, rfl, a3, HM2, h1⟩ := hrel
            by_cases hj : j < a
            · have hst := HM2.out
              rw [allF_step hj, Bool.and_assoc] at hst
              obtain ⟨bb, hbb⟩ : ∃ bb, bb = comAt p s i T (m0 :: ms) a j := ⟨_, rfl⟩
              rw [← hbb] at hst
              have HST := Lib.hid hst
              have hia : a < (m0 :: ms).length := by rw [HN.out]; exact ha
              have hij : j < (m0 :: ms).length := by rw [HN.out]; omega
              obtain ⟨b9, off9, A9, c9, hbo, hma⟩ := HV.out.at (i := a) hia
              simp only [Option.some.injEq, Addr.mk.injEq, and_true] at hbo
              obtain ⟨rfl, rfl⟩ := hbo
              obtain ⟨b7, off7, A7, c7, hbo, hmj⟩ := HV.out.at (i := j) hij
              simp only [Option.some.injEq, Addr.mk.injEq, and_true] at hbo
              obtain ⟨rfl, rfl⟩ := hbo
              obtain ⟨g1, g2, g3, g4, g5⟩ := HM.out a hia
              obtain ⟨f1, f2, f3, f4, f5⟩ := HM.out j hij
              rw [mAt_get hia] at hma g1 g2 g3 g4 g5
              rw [mAt_get hij] at hmj f1 f2 f3 f4 f5
              have h2 := pushMt (pushMt h1 hma) hmj
              obtain ⟨Da, hDa⟩ : ∃ Da, Da = (mAt (m0 :: ms) a).d := ⟨_, rfl⟩
              obtain ⟨Dj, hDj⟩ : ∃ Dj, Dj = (mAt (m0 :: ms) j).d := ⟨_, rfl⟩
              have HIa : Hid (IntsB w w.heap.size (.slice A9 Da.length c9) Da) := by rw [hDa]; exact hma.2.2.2.2.toB
              have HIj : Hid (IntsB w w.heap.size (.slice A7 Dj.length c7) Dj) := by rw [hDj]; exact hmj.2.2.2.2.toB
              rw [g1, g2, g3, ← hDa, f1, f2, f3, ← hDj] at h2
              rw [← hDa] at g4 g5
              rw [← hDj] at f4 f5
              have hBB : Hid (bb = decide (sumMTo p (s * s) (rowT T i a j) ((m0 :: ms).map Mt.d) i = comD p s Dj Da)) := by show _ = _; rw [hbb, comAt, hDa, hDj]
              have hss := mul_le (show s ≤ 40 by omega) (show s ≤ 40 by omega)
              have iA : (a : Int) < (ms.length : Int) + 1 := by rw [HLen.out]; omega
              have iJ : (j : Int) < (ms.length : Int) + 1 := by rw [HLen.out]; omega
              have HSum := Lib.hid (sumMTo_ok (p := p) k4 (n := s * s) (K := rowT T i a j) (Ms := (m0 :: ms).map Mt.d) (fun q hq => by
                rw [← rowOf_eq hq, List.getElem_map]; exact (HM.out q (by simpa using hq)).2.2.2.1) i (by rw [List.length_map, HN.out]; exact Nat.le_refl _))
              have hrT : resid p (rowT T i a j) = true := resid_rowT k3 (by omega) i a j
              have hcom := comD_ok k4 s Dj Da
              have C2 := Lib.hid (show ∀ (W : World) (t x : Value), Ints W t T → MatsR W (.slice (some ⟨b0, off0, none⟩) (m0 :: ms).length k2) (m0 :: ms) → Ints W x (rowT T i a j) → Calls Try.prog 116 #[.agg #[.int .i64 p, .int .i64 i, t], .slice (some ⟨b0, off0, none⟩) (m0 :: ms).length k2, x] W (RetMat W p s s (sumMTo p (s * s) (rowT T i a j) ((m0 :: ms).map Mt.d) i)) from fun W t x h1 h2 h3 => l10Sum_any p i s t _ x T _ m0 ms W h1 h2 h3 HN.out (len_rowT _ _ _ _) k1 (by omega) HM.out k4 k5 hrT)
              have C3 := Lib.hid (show ∀ (W : World) (x y : Value), Ints W x Dj → Ints W y Da → Calls Try.prog 62 #[.agg #[.int .i64 p, .int .i64 s, .int .i64 s, x], .agg #[.int .i64 p, .int .i64 s, .int .i64 s, y]] W (RetMat W p s s (comD p s Dj Da)) from fun W x y h1 h2 => l1Commutator_any p s x y Dj Da W h1 h2 f4 g4 (by omega) k4 k5 f5 g5)
              have C4 := Lib.hid (show ∀ (W : World) (x y : Value), Ints W x (sumMTo p (s * s) (rowT T i a j) ((m0 :: ms).map Mt.d) i) → Ints W y (comD p s Dj Da) → Calls Try.prog 115 #[.agg #[.int .i64 p, .int .i64 s, .int .i64 s, x], .agg #[.int .i64 p, .int .i64 s, .int .i64 s, y]] W (RetBool W bb) from fun W x y h1 h2 => by
                have := l1Equal_any p s s p s s x y _ _ W h1 h2
                rwa [show decide (p = p ∧ (s : Int) = s ∧ (s : Int) = s ∧ sumMTo p (s * s) (rowT T i a j) ((m0 :: ms).map Mt.d) i = comD p s Dj Da) = bb by rw [hBB.out]; simp] at this)
              clear hst hbb hma hmj g1 g2 g3 g4 g5 f1 f2 f3 f4 f5 hDa hDj hia hij HM2 h1 hrT hcom
              go_upto_region 14 with fail
              have g0 := h2.drew
              refine wp_region_held_drew (S := fun w' => (w'.cell? ⟨b0, off0 + j * 4, none⟩ = some (.int .i64 p) ∧ w'.cell? ⟨b0, off0 + j * 4 + 1, none⟩ = some (.int .i64 s) ∧ w'.cell? ⟨b0, off0 + j * 4 + 2, none⟩ = some (.int .i64 s) ∧ w'.cell? ⟨b0, off0 + j * 4 + 3, none⟩ = some (.slice A7 Dj.length c7)) ∧ (w'.cell? ⟨b0, off0 + a * 4, none⟩ = some (.int .i64 p) ∧ w'.cell? ⟨b0, off0 + a * 4 + 1, none⟩ = some (.int .i64 s) ∧ w'.cell? ⟨b0, off0 + a * 4 + 2, none⟩ = some (.int .i64 s) ∧ w'.cell? ⟨b0, off0 + a * 4 + 3, none⟩ = some (.slice A9 Da.length c9)) ∧ w'.cell? ⟨w.heap.size, 0, none⟩ = some (.int .i64 p) ∧ w'.cell? ⟨w.heap.size, 1, none⟩ = some (.int .i64 i) ∧ w'.cell? ⟨w.heap.size, 2, none⟩ = some (.slice A T.length k)) (by kernel_rfl) ⟨g0.fact 0 rfl, g0.fact 1 rfl, g0.box3 3 rfl⟩ (fun hHeld => ?_)
              refine anyH_take (v := ?_) 0 rfl (by kernel_rfl) (by kernel_rfl) (by kernel_rfl) (fun _ _ _ h => h) rfl ?_ hHeld ?_
              rotate_left
              · intro w' hSw
                go_simp
                try with_reducible rfl
              try simp only [Act.put, List.setIfInBounds_toArray, List.set_cons_zero, List.set_cons_succ]
              refine anyH_take (v := ?_) 1 rfl (by kernel_rfl) (by kernel_rfl) (by kernel_rfl) (fun _ _ _ h => h) rfl ?_ hHeld ?_
              rotate_left
              · intro w' hSw
                go_simp
                try with_reducible rfl
              try simp only [Act.put, List.setIfInBounds_toArray, List.set_cons_zero, List.set_cons_succ]
              refine anyH_take (v := ?_) 2 rfl (by kernel_rfl) (by kernel_rfl) (by kernel_rfl) (fun _ _ _ h => h) rfl ?_ hHeld ?_
              rotate_left
              · intro w' hSw
                go_simp
                try with_reducible rfl
              try simp only [Act.put, List.setIfInBounds_toArray, List.set_cons_zero, List.set_cons_succ]
              refine anyH_take (v := ?_) 3 rfl (by kernel_rfl) (by kernel_rfl) (by kernel_rfl) (fun _ _ _ h => h) rfl ?_ hHeld ?_
              rotate_left
              · intro w' hSw
                go_simp
                try with_reducible rfl
              try simp only [Act.put, List.setIfInBounds_toArray, List.set_cons_zero, List.set_cons_succ]
              refine anyH_take (v := ?_) 4 rfl (by kernel_rfl) (by kernel_rfl) (by kernel_rfl) (fun _ _ _ h => h) rfl ?_ hHeld ?_
              rotate_left
              · intro w' hSw
                go_simp
                try with_reducible rfl
              try simp only [Act.put, List.setIfInBounds_toArray, List.set_cons_zero, List.set_cons_succ]
              refine anyH_take (v := ?_) 7 rfl (by kernel_rfl) (by kernel_rfl) (by kernel_rfl) (fun _ _ _ h => h) rfl ?_ hHeld ?_
              rotate_left
              · intro w' hSw
                go_simp
                try with_reducible rfl
              try simp only [Act.put, List.setIfInBounds_toArray, List.set_cons_zero, List.set_cons_succ]
              refine anyH_take (v := ?_) 8 rfl (by kernel_rfl) (by kernel_rfl) (by kernel_rfl) (fun _ _ _ h => h) rfl ?_ hHeld ?_
              rotate_left
              · intro w' hSw
                go_simp
                try with_reducible rfl
              try simp only [Act.put, List.setIfInBounds_toArray, List.set_cons_zero, List.set_cons_succ]
              refine anyH_take (v := ?_) 9 rfl (by kernel_rfl) (by kernel_rfl) (by kernel_rfl) (fun _ _ _ h => h) rfl ?_ hHeld ?_
              rotate_left
              · intro w' hSw
                go_simp
                try with_reducible rfl
              try simp only [Act.put, List.setIfInBounds_toArray, List.set_cons_zero, List.set_cons_succ]
              refine anyH_take (v := ?_) 10 rfl (by kernel_rfl) (by kernel_rfl) (by kernel_rfl) (fun _ _ _ h => h) rfl ?_ hHeld ?_
              rotate_left
              · intro w' hSw
                go_simp
                try with_reducible rfl
              try simp only [Act.put, List.setIfInBounds_toArray, List.set_cons_zero, List.set_cons_succ]
              refine anyH_take (v := ?_) 11 rfl (by kernel_rfl) (by kernel_rfl) (by kernel_rfl) (fun _ _ _ h => h) rfl ?_ hHeld ?_
              rotate_left
              · intro w' hSw
                go_simp
                try with_reducible rfl
              try simp only [Act.put, List.setIfInBounds_toArray, List.set_cons_zero, List.set_cons_succ]
              refine anyH_take (v := ?_) 12 rfl (by kernel_rfl) (by kernel_rfl) (by kernel_rfl) (fun _ _ _ h => h) rfl ?_ hHeld ?_
              rotate_left
              · intro w' hSw
                go_simp
                try with_reducible rfl
              try simp only [Act.put, List.setIfInBounds_toArray, List.set_cons_zero, List.set_cons_succ]
              refine anyH_take (v := ?_) 13 rfl (by kernel_rfl) (by kernel_rfl) (by kernel_rfl) (fun _ _ _ h => h) rfl ?_ hHeld ?_
              rotate_left
              · intro w' hSw
                go_simp
                try with_reducible rfl
              try simp only [Act.put, List.setIfInBounds_toArray, List.set_cons_zero, List.set_cons_succ]
              refine anyH_take (v := ?_) 14 rfl (by kernel_rfl) (by kernel_rfl) (by kernel_rfl) (fun _ _ _ h => h) rfl ?_ hHeld ?_
              rotate_left
              · intro w' hSw
                go_simp
                try with_reducible rfl
              try simp only [Act.put, List.setIfInBounds_toArray, List.set_cons_zero, List.set_cons_succ]
              refine wpAnyH_ready (rs := [5]) (by kernel_rfl) (by simp) ?_
              refine ready_cons rfl (fun K hK => ?_) AllReadyH.nil
              go_simp
              refine (l2Row_any p i _ T a j w.heap.size _ (g0.ro 5 rfl) g0.size HT.out ha (by omega) k1).mono ?_
              rintro (e : Ending) w3 ⟨A5, c5, rfl, hr3, hb3⟩
              have g1 := (g0.on hb3).pushRo hr3
              show K _ _
              refine hK.out _ _ ?_ (fun hHeld => ?_)
              · exact ⟨g1.fact 1 rfl, g1.fact 2 rfl, g1.box3 4 rfl⟩
              clear hK K
              try simp only [Act.put, List.setIfInBounds_toArray, List.set_cons_zero, List.set_cons_succ]
              refine wpAnyH_ready (rs := [6]) (by kernel_rfl) (by simp) ?_
              refine ready_cons rfl (fun K hK => ?_) AllReadyH.nil
              go_simp
              refine (C2.out _ _ _ (g1.roInts 6 rfl) (g1.fact 5 rfl) (g1.roInts 0 rfl)).mono ?_
              rintro (e : Ending) w4 ⟨u4, rfl, ho4, hb4⟩
              obtain ⟨A6, n6, c6, rfl⟩ := ho4.slice
              have g2 := g1.pushOwn hb4 ho4
              show K _ _
              refine hK.out _ _ ?_ (fun hHeld => ?_)
              · exact ⟨g2.fact 2 rfl, g2.fact 3 rfl, g2.box3 5 rfl⟩
              clear hK K
              try simp only [Act.put, List.setIfInBounds_toArray, List.set_cons_zero, List.set_cons_succ]
              refine wpAnyH_ready (rs := [15]) (by kernel_rfl) (by simp) ?_
              refine ready_cons rfl (fun K hK => ?_) AllReadyH.nil
              go_simp
              refine (C3.out _ _ _ (HIj.out.below g2.below (Nat.le_refl _)).ints (HIa.out.below g2.below (Nat.le_refl _)).ints).mono ?_
              rintro (e : Ending) w5 ⟨u5, rfl, ho5, hb5⟩
              obtain ⟨A4, n4, c4, rfl⟩ := ho5.slice
              have g3 := g2.pushOwn hb5 ho5
              show K _ _
              refine hK.out _ _ ?_ (fun hHeld => ?_)
              · exact ⟨g3.fact 3 rfl, g3.fact 4 rfl, g3.box3 6 rfl⟩
              clear hK K
              try simp only [Act.put, List.setIfInBounds_toArray, List.set_cons_zero, List.set_cons_succ]
              refine wpAnyH_ready (rs := [16]) (by kernel_rfl) (by simp) ?_
              refine ready_cons rfl (fun K hK => ?_) AllReadyH.nil
              go_simp
              refine (C4.out _ _ _ (g3.ownInts 1 rfl) (g3.ownInts 0 rfl)).mono ?_
              rintro (e : Ending) w6 ⟨rfl, hb6⟩
              have g4 := g3.on hb6
              show K _ _
              refine hK.out _ _ ?_ (fun hHeld => ?_)
              · exact ⟨g4.fact 3 rfl, g4.fact 4 rfl, g4.box3 6 rfl⟩
              clear hK K
              try simp only [Act.put, List.setIfInBounds_toArray, List.set_cons_zero, List.set_cons_succ]
              refine anyH_take (v := ?_) 17 rfl (by kernel_rfl) (by kernel_rfl) (by kernel_rfl) (fun _ _ _ h => h) rfl ?_ hHeld ?_
              rotate_left
              · intro w' hSw
                go_simp
                try with_reducible rfl
              try simp only [Act.put, List.setIfInBounds_toArray, List.set_cons_zero, List.set_cons_succ]
              refine wpAnyH_done (by kernel_rfl) ?_ _
              clear hHeld g0 g1 g2 g3 h2 hb3 hb4 hb5 hb6 ho4 ho5 hr3
              cases bb with
              | false =>
                go_wp2
                go_ret
                exact ⟨ret_bool (by rw [HST.out]; rfl), g4.below⟩
              | true =>
                have HM3 : Hid (R = (allF (comAt p s i T (m0 :: ms) a) (a - (j + 1)) (j + 1) && K1)) := by show _ = _; rw [HST.out, Bool.true_and]
                go_wp2
                go_roundw
                case rel => exact ⟨j + 1, by go_num, by omega, HM3, g4.drop 5⟩
                case measure => simp [intOf]; omega
            · obtain rfl : j = a := by omega
              have HM4 : Hid (R = allF (fun a => allF (comAt p s i T (m0 :: ms) a) a 0) (i - (j + 1)) (j + 1)) := by
                show _ = _
                rw [HM2.out, Nat.sub_self, allF, Bool.true_and, HK1.out]
              go_wp2
              go_roundw
              case rel => exact ⟨j + 1, by go_num, by omega, HM4, h1⟩
              case measure => simp [intOf]; omega
        · obtain rfl : a = i := by omega
          have HT1 : Hid (R = true) := by show _ = _; rw [HRK.out, Nat.sub_self, allF]
          go_wp2
          go_ret
          exact ⟨ret_bool HT1.out.symm, h1.below⟩
end Go.Proofs.Ythiainhhaokjoaa
