/- Paths: heights and the least of them; LowestOf, IsDominantPath of both. -/
import Derived.Test.YtcngijafnnmccaaDoorPthT
import Derived.Test.YtcngijafnnmccaaDoorPthI
namespace Go.Proofs.YtcngijafnnmccaaDoor
set_option maxRecDepth 100000
open Go.RowKit
namespace Stp
open Car

/-- The height for row i behind k steps. -/
def hgt (i : Nat) (ps : List Sg) : Nat → Int
  | 0 => 0
  | k + 1 => hgt i ps k + (pAt ps k).n * vec (pAt ps k).d i
def hgtL (i : Nat) (ps : List Sg) (k : Nat) : List Int := (List.range (k + 1)).map (hgt i ps)
theorem length_hgtL (i : Nat) (ps : List Sg) (k : Nat) : (hgtL i ps k).length = k + 1 := by simp [hgtL]
theorem hgtL_succ (i : Nat) (ps : List Sg) (k : Nat) : hgtL i ps (k + 1) = hgtL i ps k ++ [hgt i ps (k + 1)] := by
  unfold hgtL
  rw [List.range_succ, List.map_append]
  rfl
theorem vec_hgtL (i : Nat) (ps : List Sg) (k j : Nat) (h : j ≤ k) : vec (hgtL i ps k) j = hgt i ps j := by
  unfold hgtL vec
  rw [List.getD_eq_getElem?_getD, List.getElem?_map, List.getElem?_range (by omega)]
  rfl
theorem mul_bd {x y : Int} (h1 : 1 ≤ x ∧ x ≤ 83160) (h2 : -1000 ≤ y ∧ y ≤ 1000) : -83160000 ≤ x * y ∧ x * y ≤ 83160000 := by
  have a1 : x * y ≤ x * 1000 := Int.mul_le_mul_of_nonneg_left h2.2 (by omega)
  have a2 : x * (-1000) ≤ x * y := Int.mul_le_mul_of_nonneg_left h2.1 (by omega)
  omega
theorem vecIn {d : List Int} {i : Nat} (hi : i < d.length) (h : ∀ x ∈ d, -1000 ≤ x ∧ x ≤ 1000) : -1000 ≤ vec d i ∧ vec d i ≤ 1000 := h _ (by unfold vec; simp [List.getD, List.getElem?_eq_getElem hi])
theorem hgt_bd {n i : Nat} {ps : List Sg} {k : Nat} (hi : i < n) (hOk : ∀ j, j < k → stpOk n ps j = true) : -83160000 * (k : Int) ≤ hgt i ps k ∧ hgt i ps k ≤ 83160000 * (k : Int) := by
  induction k with
  | zero => simp [hgt]
  | succ k ih =>
    have h1 := ih fun j hj => hOk j (by omega)
    obtain ⟨a1, a2, a3, a4⟩ := stpOk_n (hOk k (by omega))
    have h2 := mul_bd ⟨a1, a2⟩ (vecIn (i := i) (by omega) a4)
    unfold hgt
    omega
/-- The least of the first k + 1 numbers. -/
def mn (l : List Int) : Nat → Int
  | 0 => vec l 0
  | k + 1 => if vec l (k + 1) < mn l k then vec l (k + 1) else mn l k
theorem mn_ge (l : List Int) (lo : Int) : ∀ k, (∀ j, j ≤ k → lo ≤ vec l j) → lo ≤ mn l k
  | 0, h => h 0 (Nat.le_refl _)
  | k + 1, h => by
    unfold mn
    split
    · exact h _ (Nat.le_refl _)
    · exact mn_ge l lo k fun j hj => h j (by omega)

set_option maxHeartbeats 1000000 in
theorem l9Least_any (v : Value) (l : List Int) (w : World) (hv : Ints w v l) (h0 : 0 < l.length) :
    Calls Tryd.prog 41 #[v] w fun e w' => e = .returned (.int .i64 (mn l (l.length - 1))) ∧ w = w' := by
  obtain ⟨A, c, rfl, h1, h2, h3⟩ := id hv
  obtain ⟨b, o, rfl, hc⟩ := h3 h0
  have HC := Lib.hid (fun (k : Nat) (hk : k < l.length) => show w.cell? ⟨b, o + k, none⟩ = some (.int .i64 (vec l k)) by
    have := hc k _ (List.getElem?_eq_getElem hk)
    rw [this]
    unfold vec
    simp [List.getD, List.getElem?_eq_getElem hk])
  have x0 := HC.out 0 h0
  rw [Nat.add_zero] at x0
  obtain ⟨n, hn⟩ : ∃ n, n = l.length := ⟨_, rfl⟩
  have Hn := Lib.hid hn
  rw [← hn] at h0 h1 ⊢
  have hnb : n ≤ 9223372036854775807 := by omega
  obtain ⟨x, hx⟩ : ∃ x, x = vec l 0 := ⟨_, rfl⟩
  have Hx := Lib.hid hx
  rw [← hx] at x0
  have in0 : (0 : Int) < (n : Int) := by omega
  clear hv h3 hc hn h1 h2 hx
  go_enter Tryd.func41, Tryd.ntmps41
  go_wp2
  go_loop [3, 4] (fun v3 v4 => ∃ k : Nat, v4 = .int .i64 ((k + 1 : Nat) : Int) ∧ k < n ∧ v3 = .int .i64 (mn l k)) (fun _ v4 => n - (intOf v4).toNat)
  case atStart => exact ⟨0, rfl, h0, by rw [Hx.out]; rfl⟩
  case round =>
    obtain ⟨k, rfl, a1, rfl⟩ := hrel
    by_cases hk : k + 1 < n
    · have ik : (k : Int) + 1 < (n : Int) := by omega
      have x1 := HC.out (k + 1) (by rw [← Hn.out]; exact hk)
      have HM := Lib.hid (show mn l (k + 1) = if vec l (k + 1) < mn l k then vec l (k + 1) else mn l k from rfl)
      obtain ⟨y, hy⟩ : ∃ y, y = vec l (k + 1) := ⟨_, rfl⟩
      obtain ⟨m, hm⟩ : ∃ m, m = mn l k := ⟨_, rfl⟩
      rw [← hy] at x1 HM
      rw [← hm] at HM ⊢
      obtain ⟨q, hq⟩ : ∃ q, q = k + 1 := ⟨_, rfl⟩
      have iq : (q : Int) < (n : Int) := by omega
      rw [← hq] at x1 HM ⊢
      have Hq := Lib.hid hq
      clear hy hm x0 ik hq hk
      by_cases hlt : y < m
      · have HM2 := Lib.hid (HM.out.trans (if_pos hlt))
        go_wp2
        go_round
        case rel => exact ⟨q, by go_num, by omega, by rw [HM2.out]⟩
        case measure => simp [intOf]; omega
      · have HM2 := Lib.hid (HM.out.trans (if_neg hlt))
        go_wp2
        go_round
        case rel => exact ⟨q, by go_num, by omega, by rw [HM2.out]⟩
        case measure => simp [intOf]; omega
    · obtain rfl : n = k + 1 := by omega
      clear x0
      go_wp2
      go_ret
      exact ⟨rfl, rfl⟩
set_option maxHeartbeats 1000000 in
theorem Min_any (v : Value) (l : List Int) (w : World) (hv : Ints w v l) (h0 : 0 < l.length) :
    Calls Tryd.prog 46 #[v] w fun e w' => e = .returned (.int .i64 (mn l (l.length - 1))) ∧ w = w' := by
  obtain ⟨A, c, rfl, h1, h2, h3⟩ := id hv
  obtain ⟨b, o, rfl, hc⟩ := h3 h0
  have HC := Lib.hid (fun (k : Nat) (hk : k < l.length) => show w.cell? ⟨b, o + k, none⟩ = some (.int .i64 (vec l k)) by
    have := hc k _ (List.getElem?_eq_getElem hk)
    rw [this]
    unfold vec
    simp [List.getD, List.getElem?_eq_getElem hk])
  have x0 := HC.out 0 h0
  rw [Nat.add_zero] at x0
  obtain ⟨n, hn⟩ : ∃ n, n = l.length := ⟨_, rfl⟩
  have Hn := Lib.hid hn
  rw [← hn] at h0 h1 ⊢
  have hnb : n ≤ 9223372036854775807 := by omega
  obtain ⟨x, hx⟩ : ∃ x, x = vec l 0 := ⟨_, rfl⟩
  have Hx := Lib.hid hx
  rw [← hx] at x0
  have in0 : (0 : Int) < (n : Int) := by omega
  have in1 : ¬ (n : Int) < 1 := by omega
  clear hv h3 hc hn h1 h2 hx
  go_enter Tryd.func46, Tryd.ntmps46
  go_wp2
  go_loop [3, 4] (fun v3 v4 => ∃ k : Nat, v4 = .int .i64 ((k + 1 : Nat) : Int) ∧ k < n ∧ v3 = .int .i64 (mn l k)) (fun _ v4 => n - (intOf v4).toNat)
  case atStart => exact ⟨0, rfl, h0, by rw [Hx.out]; rfl⟩
  case round =>
    obtain ⟨k, rfl, a1, rfl⟩ := hrel
    by_cases hk : k + 1 < n
    · have ik : (k : Int) + 1 < (n : Int) := by omega
      have x1 := HC.out (k + 1) (by rw [← Hn.out]; exact hk)
      have HM := Lib.hid (show mn l (k + 1) = if vec l (k + 1) < mn l k then vec l (k + 1) else mn l k from rfl)
      obtain ⟨y, hy⟩ : ∃ y, y = vec l (k + 1) := ⟨_, rfl⟩
      obtain ⟨m, hm⟩ : ∃ m, m = mn l k := ⟨_, rfl⟩
      rw [← hy] at x1 HM
      rw [← hm] at HM ⊢
      obtain ⟨q, hq⟩ : ∃ q, q = k + 1 := ⟨_, rfl⟩
      have iq : (q : Int) < (n : Int) := by omega
      rw [← hq] at x1 HM ⊢
      have Hq := Lib.hid hq
      clear hy hm x0 ik hq hk
      by_cases hlt : y < m
      · have HM2 := Lib.hid (HM.out.trans (if_pos hlt))
        go_wp2
        go_round
        case rel => exact ⟨q, by go_num, by omega, by rw [HM2.out]; first | rfl | (congr 1; omega)⟩
        case measure => simp [intOf]; omega
      · have HM2 := Lib.hid (HM.out.trans (if_neg hlt))
        go_wp2
        go_round
        case rel => exact ⟨q, by go_num, by omega, by rw [HM2.out]; first | rfl | (congr 1; omega)⟩
        case measure => simp [intOf]; omega
    · obtain rfl : n = k + 1 := by omega
      clear x0
      go_wp2
      go_ret
      exact ⟨rfl, rfl⟩

set_option maxHeartbeats 4000000 in
theorem l9Heights_any (n i : Nat) (v : Value) (ps : List Sg) (w : World) (hv : StR w v ps) (hin : i < n) (_h4 : n ≤ 4) (h60 : ps.length ≤ 60) (hOk : ∀ j, j < ps.length → stpOk n ps j = true) :
    Calls Tryd.prog 42 #[.int .i64 i, v] w (RetOwn w (hgtL i ps ps.length)) := by
  have g := (((St.start w).pushFact hv.fact).litInt 0)
  obtain ⟨A, c, rfl, _, _, _⟩ := id hv
  have HV := Lib.hid hv
  have HOk := Lib.hid hOk
  obtain ⟨pl, hpl⟩ : ∃ pl, pl = ps.length := ⟨_, rfl⟩
  have Hpl := Lib.hid hpl
  rw [← hpl] at g HV h60 ⊢
  obtain ⟨R, hR⟩ : ∃ R, R = hgtL i ps pl := ⟨_, rfl⟩
  rw [← hR]
  have HR := Lib.hid hR
  clear hv hpl hOk hR
  go_enter Tryd.func42, Tryd.ntmps42
  go_wp2
  go_loopw [5, 6] (fun v5 v6 wr => ∃ k : Nat, v6 = .int .i64 k ∧ k ≤ pl ∧ St w wr [.own v5 (hgtL i ps k), .fact (fun w' => StR w' (.slice A pl c) ps)]) (fun _ v6 _ => pl - (intOf v6).toNat)
  case atStart => exact ⟨0, rfl, by omega, g⟩
  case round =>
    clear g
    obtain ⟨k, rfl, a1, g⟩ := hrel
    obtain ⟨Ax, nx, cx, rfl⟩ := (g.own 0 rfl).slice
    by_cases hk : k < pl
    · obtain ⟨gx, rfl, hnx⟩ := g.ownSome 0 rfl (by rw [length_hgtL]; omega)
      rw [length_hgtL] at hnx
      have hk2 : k < ps.length := by rw [← Hpl.out]; exact hk
      obtain ⟨b, off, A9, c9, rfl, hm⟩ := HV.out.at (i := k) hk2
      rw [pAt_get hk2] at hm
      obtain ⟨b1, b2, b3, b4⟩ := stpOk_n (HOk.out k hk2)
      have b5 := vecIn (i := i) (by omega) b4
      have b6 := mul_bd ⟨b1, b2⟩ b5
      have tb := hgt_bd (i := i) (ps := ps) (k := k) hin (fun j hj => HOk.out j (by omega))
      obtain ⟨bw, ow, rfl, _, _⟩ := hm.2.2.toB.cell (k := i) (by omega)
      have HY := Lib.hid (fun (W : World) (h : SgAt W b (off + k * 2) (pAt ps k) (.slice (some ⟨bw, ow, none⟩) (pAt ps k).d.length c9)) => show W.cell? ⟨b, off + k * 2 + 1, none⟩ = some (.int .i64 (pAt ps k).n) ∧ W.cell? ⟨bw, ow + i, none⟩ = some (.int .i64 (vec (pAt ps k).d i)) by
        obtain ⟨bw', ow', e, _, hc⟩ := h.2.2.toB.cell (k := i) (by omega)
        simp only [Option.some.injEq, Addr.mk.injEq] at e
        obtain ⟨rfl, rfl, -⟩ := e
        exact ⟨h.2.1, hc⟩)
      have HO := Lib.hid (fun (W : World) (L : List It) (j : Nat) (h : St w W L) (hj : L[j]? = some (.own (.slice (some ⟨gx, 0, none⟩) nx cx) (hgtL i ps k))) => show W.cell? ⟨gx, k, none⟩ = some (.int .i64 (hgt i ps k)) by
        have := (h.ownCell j hj (q := k) (by rw [length_hgtL]; omega)).1
        rwa [vec_hgtL _ _ _ _ (Nat.le_refl _)] at this)
      have HL1 := Lib.hid (show hgtL i ps (k + 1) = hgtL i ps k ++ [hgt i ps (k + 1)] from hgtL_succ i ps k)
      have HT2 := Lib.hid (show hgt i ps (k + 1) = hgt i ps k + (pAt ps k).n * vec (pAt ps k).d i from rfl)
      have hLl := length_hgtL i ps k
      obtain ⟨LL, hLL⟩ : ∃ LL, LL = hgtL i ps k := ⟨_, rfl⟩
      obtain ⟨T, hT⟩ : ∃ T, T = hgt i ps k := ⟨_, rfl⟩
      obtain ⟨T2, hT2⟩ : ∃ T2, T2 = hgt i ps (k + 1) := ⟨_, rfl⟩
      rw [← hLL] at g HO HL1 hLl
      rw [← hT] at HO HT2 tb
      rw [← hT2] at HL1 HT2
      obtain ⟨m, hmm⟩ : ∃ m, m = pAt ps k := ⟨_, rfl⟩
      rw [← hmm] at hm HY HT2 b1 b2 b3 b5 b6
      obtain ⟨x, hx⟩ : ∃ x, x = m.n := ⟨_, rfl⟩
      obtain ⟨y, hy⟩ : ∃ y, y = vec m.d i := ⟨_, rfl⟩
      obtain ⟨wl, hwl⟩ : ∃ wl, wl = m.d.length := ⟨_, rfl⟩
      rw [← hx] at HY HT2 b1 b2 b6
      rw [← hy] at HY HT2 b5 b6
      rw [← hwl] at HY hm b3
      obtain ⟨z, hz⟩ : ∃ z, z = x * y := ⟨_, rfl⟩
      rw [← hz] at b6 HT2
      have ik : (k : Int) < (pl : Int) := by omega
      have ikx : (k : Int) < (nx : Int) := by omega
      have iw : (i : Int) < (wl : Int) := by omega
      have w1 : IntKind.i64.wrap (x * y) = z := by rw [← hz]; exact wrap_ok (by omega) (by omega)
      have w2 : IntKind.i64.wrap (T + z) = T2 := by rw [HT2.out]; exact wrap_ok (by omega) (by omega)
      have Hm := Lib.hid hm
      have Hll := Lib.hid (show LL.length + [T2].length ≤ 17592186044416 by rw [hLl]; simp only [List.length_singleton]; omega)
      have HEnd := Lib.hid (show LL ++ [T2] = hgtL i ps (k + 1) by rw [HL1.out])
      clear hm hLl hT hT2 hLL hmm hx hy hwl hz b1 b2 b3 b4 b5 b6 tb hk2 hnx HL1 HT2
      go_upto_region 5 with fail
      have g0 := (g.pushOld Hm.out.fact).drew
      clear g
      refine wp_region_cut (S := fun w' => w'.cell? ⟨gx, k, none⟩ = some (.int .i64 T) ∧ w'.cell? ⟨b, off + k * 2, none⟩ = some (.slice (some ⟨bw, ow, none⟩) wl c9) ∧ w'.cell? ⟨b, off + k * 2 + 1, none⟩ = some (.int .i64 x) ∧ w'.cell? ⟨bw, ow + i, none⟩ = some (.int .i64 y)) 21 (by kernel_rfl) (by kernel_rfl) ⟨HO.out _ _ 1 g0 rfl, (g0.fact 0 rfl).1, (HY.out _ (g0.fact 0 rfl)).1, (HY.out _ (g0.fact 0 rfl)).2⟩ (fun hHeld => ?_)
      simp only [List.take_succ_cons, List.take_zero]
      refine anyH_take (v := ?_) 0 rfl (by kernel_rfl) (by kernel_rfl) (by kernel_rfl) (fun _ _ _ h => h) rfl ?_ hHeld ?_
      rotate_left
      · intro w' hSw
        go_simp
        try with_reducible rfl
      try simp only [Act.put, List.setIfInBounds_toArray, List.set_cons_zero, List.set_cons_succ]
      refine anyH_take (v := ?_) 1 rfl (by kernel_rfl) (by kernel_rfl) (by kernel_rfl) (fun _ _ _ h => h) rfl ?_ hHeld ?_
      rotate_left
      · intro w' hSw
        go_simp
        try with_reducible rfl
      try simp only [Act.put, List.setIfInBounds_toArray, List.set_cons_zero, List.set_cons_succ]
      refine anyH_take (v := ?_) 2 rfl (by kernel_rfl) (by kernel_rfl) (by kernel_rfl) (fun _ _ _ h => h) rfl ?_ hHeld ?_
      rotate_left
      · intro w' hSw
        go_simp
        try with_reducible rfl
      try simp only [Act.put, List.setIfInBounds_toArray, List.set_cons_zero, List.set_cons_succ]
      refine anyH_take (v := ?_) 3 rfl (by kernel_rfl) (by kernel_rfl) (by kernel_rfl) (fun _ _ _ h => h) rfl ?_ hHeld ?_
      rotate_left
      · intro w' hSw
        go_simp
        try with_reducible rfl
      try simp only [Act.put, List.setIfInBounds_toArray, List.set_cons_zero, List.set_cons_succ]
      refine anyH_take (v := ?_) 4 rfl (by kernel_rfl) (by kernel_rfl) (by kernel_rfl) (fun _ _ _ h => h) rfl ?_ hHeld ?_
      rotate_left
      · intro w' hSw
        go_simp
        try with_reducible rfl
      try simp only [Act.put, List.setIfInBounds_toArray, List.set_cons_zero, List.set_cons_succ]
      refine anyH_take (v := ?_) 5 rfl (by kernel_rfl) (by kernel_rfl) (by kernel_rfl) (fun _ _ _ h => h) rfl ?_ hHeld ?_
      rotate_left
      · intro w' hSw
        go_simp
        try with_reducible rfl
      try simp only [Act.put, List.setIfInBounds_toArray, List.set_cons_zero, List.set_cons_succ]
      refine anyH_take (v := ?_) 6 rfl (by kernel_rfl) (by kernel_rfl) (by kernel_rfl) (fun _ _ _ h => h) rfl ?_ hHeld ?_
      rotate_left
      · intro w' hSw
        go_simp
        try with_reducible rfl
      try simp only [Act.put, List.setIfInBounds_toArray, List.set_cons_zero, List.set_cons_succ]
      refine anyH_take (v := ?_) 7 rfl (by kernel_rfl) (by kernel_rfl) (by kernel_rfl) (fun _ _ _ h => h) rfl ?_ hHeld ?_
      rotate_left
      · intro w' hSw
        go_simp
        try with_reducible rfl
      try simp only [Act.put, List.setIfInBounds_toArray, List.set_cons_zero, List.set_cons_succ]
      refine anyH_take (v := ?_) 8 rfl (by kernel_rfl) (by kernel_rfl) (by kernel_rfl) (fun _ _ _ h => h) rfl ?_ hHeld ?_
      rotate_left
      · intro w' hSw
        go_simp
        try with_reducible rfl
      try simp only [Act.put, List.setIfInBounds_toArray, List.set_cons_zero, List.set_cons_succ]
      refine anyH_take (v := ?_) 9 rfl (by kernel_rfl) (by kernel_rfl) (by kernel_rfl) (fun _ _ _ h => h) rfl ?_ hHeld ?_
      rotate_left
      · intro w' hSw
        go_simp
        try with_reducible rfl
      try simp only [Act.put, List.setIfInBounds_toArray, List.set_cons_zero, List.set_cons_succ]
      refine anyH_take (v := ?_) 10 rfl (by kernel_rfl) (by kernel_rfl) (by kernel_rfl) (fun _ _ _ h => h) rfl ?_ hHeld ?_
      rotate_left
      · intro w' hSw
        go_simp
        try with_reducible rfl
      try simp only [Act.put, List.setIfInBounds_toArray, List.set_cons_zero, List.set_cons_succ]
      refine anyH_take (v := ?_) 11 rfl (by kernel_rfl) (by kernel_rfl) (by kernel_rfl) (fun _ _ _ h => h) rfl ?_ hHeld ?_
      rotate_left
      · intro w' hSw
        go_simp
        try with_reducible rfl
      try simp only [Act.put, List.setIfInBounds_toArray, List.set_cons_zero, List.set_cons_succ]
      refine anyH_take (v := ?_) 12 rfl (by kernel_rfl) (by kernel_rfl) (by kernel_rfl) (fun _ _ _ h => h) rfl ?_ hHeld ?_
      rotate_left
      · intro w' hSw
        go_simp
        try with_reducible rfl
      try simp only [Act.put, List.setIfInBounds_toArray, List.set_cons_zero, List.set_cons_succ]
      refine anyH_take (v := ?_) 13 rfl (by kernel_rfl) (by kernel_rfl) (by kernel_rfl) (fun _ _ _ h => h) rfl ?_ hHeld ?_
      rotate_left
      · intro w' hSw
        go_simp
        try with_reducible rfl
      try simp only [Act.put, List.setIfInBounds_toArray, List.set_cons_zero, List.set_cons_succ]
      refine anyH_take (v := ?_) 14 rfl (by kernel_rfl) (by kernel_rfl) (by kernel_rfl) (fun _ _ _ h => h) rfl ?_ hHeld ?_
      rotate_left
      · intro w' hSw
        go_simp
        try with_reducible rfl
      try simp only [Act.put, List.setIfInBounds_toArray, List.set_cons_zero, List.set_cons_succ]
      refine anyH_take (v := ?_) 15 rfl (by kernel_rfl) (by kernel_rfl) (by kernel_rfl) (fun _ _ _ h => h) rfl ?_ hHeld ?_
      rotate_left
      · intro w' hSw
        go_simp
        try with_reducible rfl
      try simp only [Act.put, List.setIfInBounds_toArray, List.set_cons_zero, List.set_cons_succ]
      refine anyH_take (v := ?_) 16 rfl (by kernel_rfl) (by kernel_rfl) (by kernel_rfl) (fun _ _ _ h => h) rfl ?_ hHeld ?_
      rotate_left
      · intro w' hSw
        go_simp
        try with_reducible rfl
      try simp only [Act.put, List.setIfInBounds_toArray, List.set_cons_zero, List.set_cons_succ]
      refine anyH_take (v := ?_) 17 rfl (by kernel_rfl) (by kernel_rfl) (by kernel_rfl) (fun _ _ _ h => h) rfl ?_ hHeld ?_
      rotate_left
      · intro w' hSw
        go_simp
        try with_reducible rfl
      try simp only [Act.put, List.setIfInBounds_toArray, List.set_cons_zero, List.set_cons_succ]
      refine anyH_take (v := ?_) 18 rfl (by kernel_rfl) (by kernel_rfl) (by kernel_rfl) (fun _ _ _ h => h) rfl ?_ hHeld ?_
      rotate_left
      · intro w' hSw
        go_simp
        try with_reducible rfl
      try simp only [Act.put, List.setIfInBounds_toArray, List.set_cons_zero, List.set_cons_succ]
      refine anyH_take (v := ?_) 19 rfl (by kernel_rfl) (by kernel_rfl) (by kernel_rfl) (fun _ _ _ h => h) rfl ?_ hHeld ?_
      rotate_left
      · intro w' hSw
        go_simp
        try with_reducible rfl
      try simp only [Act.put, List.setIfInBounds_toArray, List.set_cons_zero, List.set_cons_succ]
      refine wpAnyH_ready (rs := [20]) (by kernel_rfl) (by simp) ?_
      refine ready_cons rfl (fun K hK => ?_) AllReadyH.nil
      go_simp
      have g1 := g0.litInt T2
      refine hK.out _ _ ?_ (fun hHeld => ?_)
      · exact ⟨HO.out _ _ 2 g1 rfl, (g1.fact 1 rfl).1, (HY.out _ (g1.fact 1 rfl)).1, (HY.out _ (g1.fact 1 rfl)).2⟩
      clear hK K
      try simp only [Act.put, List.setIfInBounds_toArray, List.set_cons_zero, List.set_cons_succ]
      refine wpAnyH_done (by kernel_rfl) ?_ _
      show wpList _ _ _ _ _ _
      simp only [List.drop_succ_cons, List.drop_zero]
      clear hHeld
      clear g0
      go_wp2_with (at_builtin; refine wp_append_ints rfl (.tmp 14) (.tmp 34) rfl w.heap.size _ _ LL [T2] rfl (by first | rfl | (rw [World.size_alloc]; rfl)) (g1.own 2 rfl) (g1.ownInts 0 rfl) Hll.out g1.size ?_; intro v1 w7 ho1 hg1 hb1; have h5 := g1.appended 2 rfl ho1 hg1 hb1)
      simp only [List.set_cons_zero, List.set_cons_succ] at h5
      rw [HEnd.out] at h5
      clear g1 ho1 hg1 hb1
      go_roundw
      case rel => exact ⟨k + 1, by go_num, by omega, h5.drop 2⟩
      case measure => simp [intOf]; omega
    · obtain rfl : pl = k := by omega
      rw [← HR.out] at g
      go_wp2
      go_ret
      exact ⟨_, rfl, g.own 0 rfl, g.below⟩

end Stp
end Go.Proofs.YtcngijafnnmccaaDoor
