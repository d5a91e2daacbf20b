/- Relations of Serre: multiples of lists (l7Times, l7Multiple, the closure of serre), a number of a Cartan matrix. -/
import Derived.Test.YtcngijafnnmccaaGreatDoorMapI
import Derived.Test.YtcngijafnnmccaaGreatDoorRowsJ
import Derived.Test.YtcngijafnnmccaaGreatDoorRowsW2
import Derived.Test.YtcngijafnnmccaaGreatDoorCarS
import Derived.Test.YtcngijafnnmccaaGreatDoorAtL
namespace Go.Proofs.YtcngijafnnmccaaGreatDoor
set_option maxRecDepth 100000
open Go.RowKit
namespace Srr
open Stp Car

/-- A list of residues plus n times another one. -/
def timF (p : Int) (Y : List Int) (n : Int) (X : List Int) (i : Nat) : Int := (vec Y i + n * vec X i) % p
def timL (p : Int) (Y : List Int) (n : Int) (X : List Int) : List Int := mapI Y.length (timF p Y n X)
/-- A multiple. -/
def mulL (p : Int) (n : Int) (X : List Int) : List Int := mapI X.length fun i => n * vec X i % p
theorem length_timL (p : Int) (Y : List Int) (n : Int) (X : List Int) : (timL p Y n X).length = Y.length := length_mapI _ _
theorem length_mulL (p : Int) (n : Int) (X : List Int) : (mulL p n X).length = X.length := length_mapI _ _
theorem mapI_tab (n : Nat) (f : Nat → Int) : mapI n f = tab n f := rfl
theorem mapI_rep (n : Nat) : List.replicate n (0 : Int) = mapI n fun _ => 0 := by
  unfold mapI
  rw [List.map_const', List.length_range]
theorem timL_zero (p n : Int) (X : List Int) : timL p (List.replicate X.length 0) n X = mulL p n X := by
  unfold timL mulL
  rw [List.length_replicate]
  refine mapI_congr fun i hi => ?_
  unfold timF
  rw [mapI_rep, vec_mapI _ _ hi, Int.zero_add]
theorem combL_one (p k : Int) (n : Nat) (X : List Int) (hX : X.length = n) : combL [k % p] [X] n p = mulL p k X := by
  unfold combL mulL
  rw [hX, mapI_tab]
  show tab n _ = tab n _
  unfold tab
  apply List.map_congr_left
  intro j _
  show combS [k % p] [X] p 1 j = _
  unfold combS
  simp only [sumTo, Int.zero_add]
  have h1 : vec [k % p] 0 = k % p := rfl
  have h2 : rowOf [X] 0 = X := rfl
  rw [h1, h2, Int.mul_emod, Int.emod_emod_of_dvd _ (Int.dvd_refl p), ← Int.mul_emod]
theorem mul_small {x y : Int} (h1 : -100000 ≤ x ∧ x ≤ 100000) (h2 : -100000 ≤ y ∧ y ≤ 100000) : -10000000000 ≤ x * y ∧ x * y ≤ 10000000000 := by
  have h : (x * y).natAbs ≤ 100000 * 100000 := by
    rw [Int.natAbs_mul]
    exact Nat.mul_le_mul (by omega) (by omega)
  omega

set_option maxHeartbeats 4000000 in
theorem l7Times_any (p n : Int) (y x : Value) (Y X : List Int) (w : World) (hy : Ints w y Y) (hx : Ints w x X) (hl : X.length = Y.length) (hn9 : Y.length ≤ 1000) (hp : 1 ≤ p) (hp' : p ≤ 10007)
    (hn : -100000 ≤ n ∧ n ≤ 100000) (hX : ∀ i, -100000 ≤ vec X i ∧ vec X i ≤ 100000) (hY : ∀ i, -100000 ≤ vec Y i ∧ vec Y i ≤ 100000) :
    Calls Tryz.prog 38 #[.int .i64 p, y, .int .i64 n, x] w (RetOwn w (timL p Y n X)) := by
  have g := (((St.start w).arg hx).arg hy).zeros Y.length (by omega)
  have hmk := makeI Y.length (by omega)
  obtain ⟨A, cy, rfl, _, _, _⟩ := id hy
  obtain ⟨A2, cx, rfl, _, _, _⟩ := id hx
  have H0 := Lib.hid (Stp.fillTo_zero (timF p Y n X) (List.replicate Y.length 0))
  have HE := Stp.fillTo_end (timF p Y n X) (List.replicate Y.length 0)
  rw [List.length_replicate] at HE
  rw [← H0.out] at g
  obtain ⟨Z, hZ⟩ : ∃ Z : List Int, Z = List.replicate Y.length 0 := ⟨_, rfl⟩
  have hlZ : Z.length = Y.length := by rw [hZ, List.length_replicate]
  rw [← hZ] at g HE
  obtain ⟨R, hR⟩ : ∃ R, R = timL p Y n X := ⟨_, rfl⟩
  have HR := Lib.hid (hR.trans HE.symm)
  rw [← hR]
  rw [hl] at g
  obtain ⟨yl, hyl⟩ : ∃ yl, yl = Y.length := ⟨_, rfl⟩
  have Hyl := Lib.hid hyl
  have Hxl := Lib.hid (show yl = X.length by rw [hl, hyl])
  rw [hl]
  rw [← hyl] at g HR hn9 hlZ hmk ⊢
  have HlZ := Lib.hid hlZ
  have HX := Lib.hid hX
  have HY := Lib.hid hY
  clear hx hy hX hY hR hyl HE hZ H0 hlZ hl
  go_enter Tryz.func38, Tryz.ntmps38
  go_wp2
  go_loopw [10] (fun v10 wr => ∃ k : Nat, v10 = .int .i64 k ∧ k ≤ yl ∧ St w wr [.own (.slice (some ⟨w.heap.size, 0, none⟩) yl yl) (Stp.fillTo (timF p Y n X) Z k), .ro (.slice A yl cy) Y, .ro (.slice A2 yl cx) X]) (fun v10 _ => yl - (intOf v10).toNat)
  case atStart => exact ⟨0, rfl, by omega, g⟩
  case round =>
    clear g
    obtain ⟨k, rfl, a1, g⟩ := hrel
    by_cases hk : k < yl
    · have hXk := HX.out k
      have hYk := HY.out k
      have b6 := mul_small hn hXk
      have hfs := Stp.fillTo_set (timF p Y n X) Z k (by rw [HlZ.out]; exact hk)
      have hlf := Stp.length_fillTo (timF p Y n X) Z k
      obtain ⟨LL, hLL⟩ : ∃ LL, LL = Stp.fillTo (timF p Y n X) Z k := ⟨_, rfl⟩
      rw [← hLL] at g hfs hlf
      obtain ⟨x, hxx⟩ : ∃ x, x = vec X k := ⟨_, rfl⟩
      obtain ⟨y, hyy⟩ : ∃ y, y = vec Y k := ⟨_, rfl⟩
      obtain ⟨T2, hT2⟩ : ∃ T2, T2 = timF p Y n X k := ⟨_, rfl⟩
      have hT3 : T2 = (y + n * x) % p := by rw [hT2, hxx, hyy]; rfl
      rw [← hxx] at hXk b6
      rw [← hyy] at hYk
      obtain ⟨z, hz⟩ : ∃ z, z = n * x := ⟨_, rfl⟩
      rw [← hz] at b6 hT3
      obtain ⟨s, hs⟩ : ∃ s, s = y + z := ⟨_, rfl⟩
      have HM := Lib.hid (fun W => l1Mod_any s p W (by omega) (by omega) hp hp')
      rw [← hs] at hT3
      rw [← hT3] at HM
      rw [← hT2] at hfs
      have hLk : k < LL.length := by rw [hlf, HlZ.out]; exact hk
      obtain ⟨bx, ox, rfl, -, -⟩ := (g.ro 2 rfl).cell (k := k) (by rw [← Hxl.out]; exact hk)
      obtain ⟨by', oy, rfl, -, -⟩ := (g.ro 1 rfl).cell (k := k) (by rw [← Hyl.out]; exact hk)
      have HC := Lib.hid (fun (W : World) (o1 : It) (L : List It) (h : St w W (o1 :: .ro (.slice (some ⟨by', oy, none⟩) yl cy) Y :: .ro (.slice (some ⟨bx, ox, none⟩) yl cx) X :: L)) => show W.cell? ⟨by', oy + k, none⟩ = some (.int .i64 y) ∧ W.cell? ⟨bx, ox + k, none⟩ = some (.int .i64 x) by
        have h1 := h.roCell 1 rfl (q := k) (by rw [← Hyl.out]; exact hk)
        have h2 := h.roCell 2 rfl (q := k) (by rw [← Hxl.out]; exact hk)
        rw [← hyy] at h1
        rw [← hxx] at h2
        exact ⟨h1, h2⟩)
      have HO := Lib.hid (fun (W : World) (L : List It) (h : St w W (.own (.slice (some ⟨w.heap.size, 0, none⟩) yl yl) LL :: L)) => show W.frozen? ⟨w.heap.size, k, none⟩ = false ∧ W.cell? ⟨w.heap.size, k, none⟩ = some (.int .i64 (vec LL k)) from ⟨(h.ownCell 0 rfl (q := k) hLk).2, (h.ownCell 0 rfl (q := k) hLk).1⟩)
      have ik : (k : Int) < (yl : Int) := by omega
      have w1 : IntKind.i64.wrap (n * x) = z := by rw [← hz]; exact wrap_ok (by omega) (by omega)
      have w2 : IntKind.i64.wrap (y + z) = s := by rw [hs]; exact wrap_ok (by omega) (by omega)
      have w3 : wrap64 (n * x) = z := by rw [← hz]; unfold wrap64; omega
      have w4 : wrap64 (y + z) = s := by rw [hs]; unfold wrap64; omega
      have Hfs := Lib.hid hfs
      clear hXk hYk b6 hlf hLL hT2 hT3 hxx hyy hz hs hLk hfs
      go_upto_region 5 with fail
      have g0 := g.drew
      clear g
      refine wp_region_cut (S := fun w' => w'.cell? ⟨by', oy + k, none⟩ = some (.int .i64 y) ∧ w'.cell? ⟨bx, ox + k, none⟩ = some (.int .i64 x)) 15 (by kernel_rfl) (by kernel_rfl) ⟨(HC.out _ _ _ g0).1, (HC.out _ _ _ g0).2⟩ (fun hHeld => ?_)
      simp only [List.take_succ_cons, List.take_zero]
      obtain ⟨v0, hv0, g8⟩ : ∃ v0, v0 = wr.drew ∧ St w v0 _ := ⟨_, rfl, g0⟩
      rw [← hv0] at g0 hHeld ⊢
      clear hv0 g8
      refine anyH_take (v := ?_) 0 rfl (by kernel_rfl) (by kernel_rfl) (by kernel_rfl) (fun _ _ _ h => h) rfl ?_ hHeld ?_
      rotate_left
      · intro w' hSw
        go_simp
        try with_reducible rfl
      try simp only [Act.put, List.setIfInBounds_toArray, List.set_cons_zero, List.set_cons_succ]
      refine anyH_take (v := ?_) 1 rfl (by kernel_rfl) (by kernel_rfl) (by kernel_rfl) (fun _ _ _ h => h) rfl ?_ hHeld ?_
      rotate_left
      · intro w' hSw
        go_simp
        try with_reducible rfl
      try simp only [Act.put, List.setIfInBounds_toArray, List.set_cons_zero, List.set_cons_succ]
      refine anyH_take (v := ?_) 2 rfl (by kernel_rfl) (by kernel_rfl) (by kernel_rfl) (fun _ _ _ h => h) rfl ?_ hHeld ?_
      rotate_left
      · intro w' hSw
        go_simp
        try with_reducible rfl
      try simp only [Act.put, List.setIfInBounds_toArray, List.set_cons_zero, List.set_cons_succ]
      refine anyH_take (v := ?_) 3 rfl (by kernel_rfl) (by kernel_rfl) (by kernel_rfl) (fun _ _ _ h => h) rfl ?_ hHeld ?_
      rotate_left
      · intro w' hSw
        go_simp
        try with_reducible rfl
      try simp only [Act.put, List.setIfInBounds_toArray, List.set_cons_zero, List.set_cons_succ]
      refine anyH_take (v := ?_) 4 rfl (by kernel_rfl) (by kernel_rfl) (by kernel_rfl) (fun _ _ _ h => h) rfl ?_ hHeld ?_
      rotate_left
      · intro w' hSw
        go_simp
        try with_reducible rfl
      try simp only [Act.put, List.setIfInBounds_toArray, List.set_cons_zero, List.set_cons_succ]
      refine anyH_take (v := ?_) 5 rfl (by kernel_rfl) (by kernel_rfl) (by kernel_rfl) (fun _ _ _ h => h) rfl ?_ hHeld ?_
      rotate_left
      · intro w' hSw
        go_simp
        try with_reducible rfl
      try simp only [Act.put, List.setIfInBounds_toArray, List.set_cons_zero, List.set_cons_succ]
      refine anyH_take (v := ?_) 6 rfl (by kernel_rfl) (by kernel_rfl) (by kernel_rfl) (fun _ _ _ h => h) rfl ?_ hHeld ?_
      rotate_left
      · intro w' hSw
        go_simp
        try with_reducible rfl
      try simp only [Act.put, List.setIfInBounds_toArray, List.set_cons_zero, List.set_cons_succ]
      refine anyH_take (v := ?_) 7 rfl (by kernel_rfl) (by kernel_rfl) (by kernel_rfl) (fun _ _ _ h => h) rfl ?_ hHeld ?_
      rotate_left
      · intro w' hSw
        go_simp
        try with_reducible rfl
      try simp only [Act.put, List.setIfInBounds_toArray, List.set_cons_zero, List.set_cons_succ]
      refine anyH_take (v := ?_) 8 rfl (by kernel_rfl) (by kernel_rfl) (by kernel_rfl) (fun _ _ _ h => h) rfl ?_ hHeld ?_
      rotate_left
      · intro w' hSw
        go_simp
        try with_reducible rfl
      try simp only [Act.put, List.setIfInBounds_toArray, List.set_cons_zero, List.set_cons_succ]
      refine anyH_take (v := ?_) 9 rfl (by kernel_rfl) (by kernel_rfl) (by kernel_rfl) (fun _ _ _ h => h) rfl ?_ hHeld ?_
      rotate_left
      · intro w' hSw
        go_simp
        try with_reducible rfl
      try simp only [Act.put, List.setIfInBounds_toArray, List.set_cons_zero, List.set_cons_succ]
      refine anyH_take (v := ?_) 10 rfl (by kernel_rfl) (by kernel_rfl) (by kernel_rfl) (fun _ _ _ h => h) rfl ?_ hHeld ?_
      rotate_left
      · intro w' hSw
        go_simp
        try with_reducible rfl
      try simp only [Act.put, List.setIfInBounds_toArray, List.set_cons_zero, List.set_cons_succ]
      refine anyH_take (v := ?_) 11 rfl (by kernel_rfl) (by kernel_rfl) (by kernel_rfl) (fun _ _ _ h => h) rfl ?_ hHeld ?_
      rotate_left
      · intro w' hSw
        go_simp
        try with_reducible rfl
      try simp only [Act.put, List.setIfInBounds_toArray, List.set_cons_zero, List.set_cons_succ]
      refine anyH_take (v := ?_) 12 rfl (by kernel_rfl) (by kernel_rfl) (by kernel_rfl) (fun _ _ _ h => h) rfl ?_ hHeld ?_
      rotate_left
      · intro w' hSw
        go_simp
        try with_reducible rfl
      try simp only [Act.put, List.setIfInBounds_toArray, List.set_cons_zero, List.set_cons_succ]
      refine anyH_take (v := ?_) 13 rfl (by kernel_rfl) (by kernel_rfl) (by kernel_rfl) (fun _ _ _ h => h) rfl ?_ hHeld ?_
      rotate_left
      · intro w' hSw
        go_simp
        try with_reducible rfl
      try simp only [Act.put, List.setIfInBounds_toArray, List.set_cons_zero, List.set_cons_succ]
      refine wpAnyH_ready (rs := [14]) (by kernel_rfl) (by simp) ?_
      refine ready_cons rfl (fun K hK => ?_) AllReadyH.nil
      go_simp
      refine (HM.out _).mono ?_
      rintro (e : Ending) w5 ⟨rfl, rfl⟩
      show K _ _
      refine hK.out _ _ ?_ (fun hHeld => ?_)
      · exact ⟨(HC.out _ _ _ g0).1, (HC.out _ _ _ g0).2⟩
      clear hK K
      try simp only [Act.put, List.setIfInBounds_toArray, List.set_cons_zero, List.set_cons_succ]
      refine wpAnyH_done (by kernel_rfl) ?_ _
      show wpList _ _ _ _ _ _
      simp only [List.drop_succ_cons, List.drop_zero]
      clear hHeld
      obtain ⟨f0, f1⟩ := HO.out _ _ g0
      go_wp2
      go_roundw
      case rel => exact ⟨k + 1, by go_num, by omega, by rw [← Hfs.out]; exact g0.set 0 rfl k T2⟩
      case measure => simp [intOf]; omega
    · obtain rfl : yl = k := by omega
      rw [← HlZ.out] at g HR
      rw [← HR.out] at g
      rw [HlZ.out] at g
      go_wp2
      go_ret
      exact ⟨_, rfl, g.own 0 rfl, g.below⟩
theorem vec_rep0 (n i : Nat) : vec (List.replicate n (0 : Int)) i = 0 := by
  unfold vec
  rw [List.getD_eq_getElem?_getD]
  by_cases h : i < n
  · rw [List.getElem?_replicate_of_lt h]; rfl
  · rw [List.getElem?_eq_none (by simp; omega)]; rfl
set_option maxHeartbeats 4000000 in
theorem l7Multiple_any (p n : Int) (x : Value) (X : List Int) (w : World) (hx : Ints w x X) (hn9 : X.length ≤ 1000) (hp : 1 ≤ p) (hp' : p ≤ 10007)
    (hn : -100000 ≤ n ∧ n ≤ 100000) (hX : ∀ i, -100000 ≤ vec X i ∧ vec X i ≤ 100000) :
    Calls Tryz.prog 23 #[.int .i64 p, .int .i64 n, x] w (RetOwn w (mulL p n X)) := by
  have g := ((St.start w).arg hx).zeros X.length (by omega)
  have hmk := makeI X.length (by omega)
  obtain ⟨A, cx, rfl, _, _, _⟩ := id hx
  have HL := Lib.hid (fun (W : World) (y z : Value) (hy : Ints W y (List.replicate X.length 0)) (hz : Ints W z X) => l7Times_any p n y z _ X W hy hz (by simp) (by simpa using hn9) hp hp' hn hX (fun i => by rw [vec_rep0]; omega))
  rw [timL_zero] at HL
  obtain ⟨Z, hZ⟩ : ∃ Z : List Int, Z = List.replicate X.length 0 := ⟨_, rfl⟩
  rw [← hZ] at g HL
  obtain ⟨R, hR⟩ : ∃ R, R = mulL p n X := ⟨_, rfl⟩
  rw [← hR] at HL ⊢
  obtain ⟨xl, hxl⟩ : ∃ xl, xl = X.length := ⟨_, rfl⟩
  rw [← hxl] at g hmk ⊢
  clear hx hX hR hxl hZ hn9 hn
  go_enter Tryz.func23, Tryz.ntmps23
  go_wp2_with fail
  refine (HL.out _ _ _ (g.ownInts 0 rfl) (g.roInts 1 rfl)).mono ?_
  rintro (e : Ending) w3 ⟨u3, rfl, ho3, hb3⟩
  have g3 := g.pushOwn hb3 ho3
  go_wp2
  go_ret
  exact ⟨_, rfl, g3.own 0 rfl, g3.below⟩
theorem resid_one {p q : Int} (h : 0 ≤ q ∧ q < p) : resid p [q] = true := by
  unfold resid
  rw [List.all_eq_true]
  intro x hx
  rw [List.mem_singleton.1 hx]
  unfold inP
  simp [h.1, h.2]
theorem rows1 {W : World} {b : Nat} {x : Value} {X : List Int} (h0 : W.cell? ⟨b, 0, none⟩ = some x) (hx : Ints W x X) : IntRows W (.slice (some ⟨b, 0, none⟩) 1 1) [X] :=
  ⟨_, 1, rfl, Nat.le_refl _, by omega, fun _ => ⟨b, 0, rfl, fun i l hi => by
    rcases i with _ | i
    · simp only [List.getElem?_cons_zero, Option.some.injEq] at hi
      subst hi
      exact ⟨x, h0, hx⟩
    · simp at hi⟩⟩
set_option maxHeartbeats 4000000 in
theorem scaled_any (p k : Int) (n : Nat) (X : List Int) (bx : Nat) (t v : Value) (w : World) (hb : AtL w bx [.int .i64 p, .int .i64 n, t]) (hv : Ints w v X) (hX : X.length = n) (hn : n ≤ 28) (hp : 2 ≤ p) (hp' : p ≤ 10007) (rX : resid p X = true) (hk : -1000 ≤ k ∧ k ≤ 1000) :
    Calls Tryz.prog 49 #[.int .i64 k, v, .pointer (some ⟨bx, 0, none⟩)] w (RetOwn w (mulL p k X)) := by
  have h1 := ((St.start w).arg hv).pushOld hb.fact
  obtain ⟨A, c, rfl, _, _, _⟩ := id hv
  have hM := Lib.hid (fun W => mod_any k p W (by omega) (by omega) (by omega) hp')
  have e1 := Int.emod_nonneg k (b := p) (by omega)
  have e2 := Int.emod_lt_of_pos k (show 0 < p by omega)
  have hC := fun (W : World) (v u : Value) (x0 : Ints W v [k % p]) (x1 : IntRows W u [X]) => combine_any p n v u [k % p] [X] W x0 x1 rfl (show 1 ≤ 4194304 by omega) (by omega) (fun i hi => by obtain rfl : i = 0 := (by simpa using hi); exact ⟨hX, rX⟩) hp hp' (resid_one ⟨e1, e2⟩)
  rw [combL_one p k n X hX] at hC
  obtain ⟨q, hq⟩ : ∃ q, q = k % p := ⟨_, rfl⟩
  rw [← hq] at hM hC
  obtain ⟨R, hR⟩ : ∃ R, R = mulL p k X := ⟨_, rfl⟩
  rw [← hR] at hC ⊢
  have HC := Lib.hid hC
  clear hC hq hR e1 e2 rX hk hv hb
  rw [hX] at h1 ⊢
  clear hX
  go_enter Tryz.func49, Tryz.ntmps49
  go_upto_region 1 with fail
  have g0 := h1.drew
  clear h1
  refine wp_region_held_drew (S := fun w' => (w'.cell? ⟨bx, 0, none⟩ = some (.int .i64 p) ∧ w'.cell? ⟨bx, 1, none⟩ = some (.int .i64 n) ∧ w'.cell? ⟨bx, 2, none⟩ = some (t))) (by kernel_rfl) (g0.fact 0 rfl).c3 (fun hHeld => ?_)
  obtain ⟨v0, hv0, g8⟩ : ∃ v0, v0 = w.drew ∧ St w v0 _ := ⟨_, rfl, g0⟩
  rw [← hv0] at g0 hHeld ⊢
  clear hv0 g8
  refine anyH_take (v := ?_) 0 rfl (by kernel_rfl) (by kernel_rfl) (by kernel_rfl) (fun _ _ _ h => h) rfl ?_ hHeld ?_
  rotate_left
  · intro w' hSw
    go_simp
    try with_reducible rfl
  try simp only [Act.put, List.setIfInBounds_toArray, List.set_cons_zero, List.set_cons_succ]
  refine anyH_take (v := ?_) 1 rfl (by kernel_rfl) (by kernel_rfl) (by kernel_rfl) (fun _ _ _ h => h) rfl ?_ hHeld ?_
  rotate_left
  · intro w' hSw
    go_simp
    try with_reducible rfl
  try simp only [Act.put, List.setIfInBounds_toArray, List.set_cons_zero, List.set_cons_succ]
  refine anyH_take (v := ?_) 2 rfl (by kernel_rfl) (by kernel_rfl) (by kernel_rfl) (fun _ _ _ h => h) rfl ?_ hHeld ?_
  rotate_left
  · intro w' hSw
    go_simp
    try with_reducible rfl
  try simp only [Act.put, List.setIfInBounds_toArray, List.set_cons_zero, List.set_cons_succ]
  refine anyH_take (v := ?_) 5 rfl (by kernel_rfl) (by kernel_rfl) (by kernel_rfl) (fun _ _ _ h => h) rfl ?_ hHeld ?_
  rotate_left
  · intro w' hSw
    go_simp
    try with_reducible rfl
  try simp only [Act.put, List.setIfInBounds_toArray, List.set_cons_zero, List.set_cons_succ]
  refine anyH_take (v := ?_) 7 rfl (by kernel_rfl) (by kernel_rfl) (by kernel_rfl) (fun _ _ _ h => h) rfl ?_ hHeld ?_
  rotate_left
  · intro w' hSw
    go_simp
    try with_reducible rfl
  try simp only [Act.put, List.setIfInBounds_toArray, List.set_cons_zero, List.set_cons_succ]
  refine anyH_take (v := ?_) 8 rfl (by kernel_rfl) (by kernel_rfl) (by kernel_rfl) (fun _ _ _ h => h) rfl ?_ hHeld ?_
  rotate_left
  · intro w' hSw
    go_simp
    try with_reducible rfl
  try simp only [Act.put, List.setIfInBounds_toArray, List.set_cons_zero, List.set_cons_succ]
  refine anyH_take (v := ?_) 9 rfl (by kernel_rfl) (by kernel_rfl) (by kernel_rfl) (fun _ _ _ h => h) rfl ?_ hHeld ?_
  rotate_left
  · intro w' hSw
    go_simp
    try with_reducible rfl
  try simp only [Act.put, List.setIfInBounds_toArray, List.set_cons_zero, List.set_cons_succ]
  refine anyH_take (v := ?_) 10 rfl (by kernel_rfl) (by kernel_rfl) (by kernel_rfl) (fun _ _ _ h => h) rfl ?_ hHeld ?_
  rotate_left
  · intro w' hSw
    go_simp
    try with_reducible rfl
  try simp only [Act.put, List.setIfInBounds_toArray, List.set_cons_zero, List.set_cons_succ]
  refine wpAnyH_ready (rs := [3, 6]) (by kernel_rfl) (by simp) ?_
  refine ready_cons rfl (fun K hK => ?_) (ready_cons rfl (fun K hK => ?_) AllReadyH.nil)
  · go_simp
    refine (hM.out _).mono ?_
    rintro (e : Ending) w5 ⟨rfl, rfl⟩
    show K _ _
    refine hK.out _ _ ?_ (fun hHeld => ?_)
    · exact (g0.fact 0 rfl).c3
    clear hK K
    try simp only [Act.put, List.setIfInBounds_toArray, List.set_cons_zero, List.set_cons_succ]
    refine wpAnyH_ready (rs := [4, 6]) (by kernel_rfl) (by simp) ?_
    refine ready_cons rfl (fun K hK => ?_) (ready_cons rfl (fun K hK => ?_) AllReadyH.nil)
    · go_simp
      refine hK.out _ _ ?_ (fun hHeld => ?_)
      · exact ((g0.litInt q).fact 1 rfl).c3
      clear hK K
      try simp only [Act.put, List.setIfInBounds_toArray, List.set_cons_zero, List.set_cons_succ]
      obtain ⟨v1, hv1, g1⟩ : ∃ v1, v1 = v0.alloc (.cells #[.int .i64 q] 3) ∧ St w v1 _ := ⟨_, rfl, g0.litInt q⟩
      rw [← hv1] at hHeld ⊢
      clear hv1 g0
      refine wpAnyH_ready (rs := [6]) (by kernel_rfl) (by simp) ?_
      refine ready_cons rfl (fun K hK => ?_) AllReadyH.nil
      go_simp
      refine hK.out _ _ ?_ (fun hHeld => ?_)
      · exact ((g1.box [.slice A n c] 22).fact 2 rfl).c3
      clear hK K
      try simp only [Act.put, List.setIfInBounds_toArray, List.set_cons_zero, List.set_cons_succ]
      have g2 := g1.box [.slice A n c] 22
      clear g1
      refine wpAnyH_ready (rs := [11]) (by kernel_rfl) (by simp) ?_
      refine ready_cons rfl (fun K hK => ?_) AllReadyH.nil
      go_simp
      refine (HC.out _ _ _ (g2.ownInts 1 rfl) (rows1 (g2.cell 0 rfl 0 rfl) (g2.roInts 3 rfl))).mono ?_
      rintro (e : Ending) w6 ⟨u6, rfl, ho6, hb6⟩
      have g3 := g2.pushOwn hb6 ho6
      show K _ _
      refine hK.out _ _ ?_ (fun hHeld => ?_)
      · exact (g3.fact 3 rfl).c3
      clear hK K
      try simp only [Act.put, List.setIfInBounds_toArray, List.set_cons_zero, List.set_cons_succ]
      refine anyH_take (v := ?_) 12 rfl (by kernel_rfl) (by kernel_rfl) (by kernel_rfl) (fun _ _ _ h => h) rfl ?_ hHeld ?_
      rotate_left
      · intro w' hSw
        go_simp
        try with_reducible rfl
      try simp only [Act.put, List.setIfInBounds_toArray, List.set_cons_zero, List.set_cons_succ]
      refine wpAnyH_done (by kernel_rfl) ?_ _
      clear hHeld
      go_wp2
      go_ret
      exact ⟨_, rfl, g3.own 0 rfl, g3.below⟩
    · go_simp
      refine hK.out _ _ ?_ (fun hHeld => ?_)
      · exact ((g0.box [.slice A n c] 22).fact 1 rfl).c3
      clear hK K
      try simp only [Act.put, List.setIfInBounds_toArray, List.set_cons_zero, List.set_cons_succ]
      obtain ⟨v1, hv1, g1⟩ : ∃ v1, v1 = v0.alloc (.cells #[.slice A n c] 22) ∧ St w v1 _ := ⟨_, rfl, g0.box [.slice A n c] 22⟩
      rw [← hv1] at hHeld ⊢
      clear hv1 g0
      refine wpAnyH_ready (rs := [4]) (by kernel_rfl) (by simp) ?_
      refine ready_cons rfl (fun K hK => ?_) AllReadyH.nil
      go_simp
      refine hK.out _ _ ?_ (fun hHeld => ?_)
      · exact ((g1.litInt q).fact 2 rfl).c3
      clear hK K
      try simp only [Act.put, List.setIfInBounds_toArray, List.set_cons_zero, List.set_cons_succ]
      have g2 := g1.litInt q
      clear g1
      refine wpAnyH_ready (rs := [11]) (by kernel_rfl) (by simp) ?_
      refine ready_cons rfl (fun K hK => ?_) AllReadyH.nil
      go_simp
      refine (HC.out _ _ _ (g2.ownInts 0 rfl) (rows1 (g2.cell 1 rfl 0 rfl) (g2.roInts 3 rfl))).mono ?_
      rintro (e : Ending) w6 ⟨u6, rfl, ho6, hb6⟩
      have g3 := g2.pushOwn hb6 ho6
      show K _ _
      refine hK.out _ _ ?_ (fun hHeld => ?_)
      · exact (g3.fact 3 rfl).c3
      clear hK K
      try simp only [Act.put, List.setIfInBounds_toArray, List.set_cons_zero, List.set_cons_succ]
      refine anyH_take (v := ?_) 12 rfl (by kernel_rfl) (by kernel_rfl) (by kernel_rfl) (fun _ _ _ h => h) rfl ?_ hHeld ?_
      rotate_left
      · intro w' hSw
        go_simp
        try with_reducible rfl
      try simp only [Act.put, List.setIfInBounds_toArray, List.set_cons_zero, List.set_cons_succ]
      refine wpAnyH_done (by kernel_rfl) ?_ _
      clear hHeld
      go_wp2
      go_ret
      exact ⟨_, rfl, g3.own 0 rfl, g3.below⟩
  · go_simp
    refine hK.out _ _ ?_ (fun hHeld => ?_)
    · exact ((g0.box [.slice A n c] 22).fact 1 rfl).c3
    clear hK K
    try simp only [Act.put, List.setIfInBounds_toArray, List.set_cons_zero, List.set_cons_succ]
    obtain ⟨v1, hv1, g1⟩ : ∃ v1, v1 = v0.alloc (.cells #[.slice A n c] 22) ∧ St w v1 _ := ⟨_, rfl, g0.box [.slice A n c] 22⟩
    rw [← hv1] at hHeld ⊢
    clear hv1 g0
    refine wpAnyH_ready (rs := [3]) (by kernel_rfl) (by simp) ?_
    refine ready_cons rfl (fun K hK => ?_) AllReadyH.nil
    go_simp
    refine (hM.out _).mono ?_
    rintro (e : Ending) w5 ⟨rfl, rfl⟩
    show K _ _
    refine hK.out _ _ ?_ (fun hHeld => ?_)
    · exact (g1.fact 1 rfl).c3
    clear hK K
    try simp only [Act.put, List.setIfInBounds_toArray, List.set_cons_zero, List.set_cons_succ]
    refine wpAnyH_ready (rs := [4]) (by kernel_rfl) (by simp) ?_
    refine ready_cons rfl (fun K hK => ?_) AllReadyH.nil
    go_simp
    refine hK.out _ _ ?_ (fun hHeld => ?_)
    · exact ((g1.litInt q).fact 2 rfl).c3
    clear hK K
    try simp only [Act.put, List.setIfInBounds_toArray, List.set_cons_zero, List.set_cons_succ]
    have g2 := g1.litInt q
    clear g1
    refine wpAnyH_ready (rs := [11]) (by kernel_rfl) (by simp) ?_
    refine ready_cons rfl (fun K hK => ?_) AllReadyH.nil
    go_simp
    refine (HC.out _ _ _ (g2.ownInts 0 rfl) (rows1 (g2.cell 1 rfl 0 rfl) (g2.roInts 3 rfl))).mono ?_
    rintro (e : Ending) w6 ⟨u6, rfl, ho6, hb6⟩
    have g3 := g2.pushOwn hb6 ho6
    show K _ _
    refine hK.out _ _ ?_ (fun hHeld => ?_)
    · exact (g3.fact 3 rfl).c3
    clear hK K
    try simp only [Act.put, List.setIfInBounds_toArray, List.set_cons_zero, List.set_cons_succ]
    refine anyH_take (v := ?_) 12 rfl (by kernel_rfl) (by kernel_rfl) (by kernel_rfl) (fun _ _ _ h => h) rfl ?_ hHeld ?_
    rotate_left
    · intro w' hSw
      go_simp
      try with_reducible rfl
    try simp only [Act.put, List.setIfInBounds_toArray, List.set_cons_zero, List.set_cons_succ]
    refine wpAnyH_done (by kernel_rfl) ?_ _
    clear hHeld
    go_wp2
    go_ret
    exact ⟨_, rfl, g3.own 0 rfl, g3.below⟩

end Srr
end Go.Proofs.YtcngijafnnmccaaGreatDoor
