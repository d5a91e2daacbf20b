/- QuotientTable of the program: withoutPivots, pick, the closure, the walk. -/
import Derived.Test.YtcdbgcpccmcbeaaQuoP
import Derived.Test.YtcdbgcpccmcbeaaTabI
import Derived.Test.YtcdbgcpccmcbeaaAtL
namespace Go.Proofs.Ytcdbgcpccmcbeaa
set_option maxRecDepth 100000
open Go.RowKit

theorem AtL.c4 {w : World} {b : Nat} {x y z u : Value} (h : AtL w b [x, y, z, u]) : w.cell? ⟨b, 0, none⟩ = some x ∧ w.cell? ⟨b, 1, none⟩ = some y ∧ w.cell? ⟨b, 2, none⟩ = some z ∧ w.cell? ⟨b, 3, none⟩ = some u := ⟨h 0 _ rfl, h 1 _ rfl, h 2 _ rfl, h 3 _ rfl⟩
theorem cellFact {w : World} {a : Addr} {x : Value} (h : w.cell? a = some x) : It.ok w.heap.size w (.fact fun w' => w'.cell? a = some x) := fun _ hk => (World.cell?_of_block (hk _ (World.block_lt_of_cell? w _ h))).trans h
theorem atPiv_take1 {piv : List Nat} {V : List Int} {k : Nat} (h : k < piv.length) : atPiv (piv.take (k + 1)) V = atPiv (piv.take k) V ++ [vec V (pv piv k)] := by
  rw [take_piv h, atPiv, List.map_append]; rfl

set_option maxHeartbeats 1000000 in
theorem pick_any (v t : Value) (V : List Int) (piv : List Nat) (w : World) (hv : Ints w v V) (ht : Ints w t (pivI piv)) (hb : ∀ i, i < piv.length → pv piv i < V.length) (hV : V.length ≤ 4194304) (hl : piv.length ≤ 4194304) :
    Calls Try.prog 96 #[v, t] w (RetOwn w (atPiv piv V)) := by
  have h1 := (((St.start w).arg hv).arg ht).empty
  obtain ⟨A, k0, rfl, _, _, _⟩ := id hv
  obtain ⟨A3, k3, rfl, _, _, _⟩ := id ht
  rw [length_pivI] at h1 ⊢
  obtain ⟨n, hn⟩ : ∃ n, n = V.length := ⟨_, rfl⟩
  rw [← hn] at h1 hb hV ⊢
  have HV := Lib.hid hn
  have Hb := Lib.hid hb
  clear hv ht hb hn
  go_enter Try.func96, Try.ntmps96
  go_wp2
  go_loopw [5, 7, 11] (fun v5 _ v11 wr => ∃ k : Nat, v11 = .int .i64 k ∧ k ≤ piv.length ∧ St w wr [.own v5 (atPiv (piv.take k) V), .ro (.slice A3 piv.length k3) (pivI piv), .ro (.slice A n k0) V]) (fun _ _ v11 _ => piv.length - (intOf v11).toNat)
  case atStart => exact ⟨0, rfl, by omega, h1⟩
  case round =>
    clear h1
    obtain ⟨k, rfl, a1, g⟩ := hrel
    by_cases hk : k < piv.length
    · have hcn := Hb.out k hk
      have HN := Lib.hid (atPiv_take1 (V := V) hk)
      obtain ⟨gp, offp, rfl⟩ := g.roSome 1 rfl (by rw [length_pivI]; omega)
      have pc := g.roCell 1 rfl (q := k) (by rw [length_pivI]; exact hk)
      rw [vec_pivI hk] at pc
      obtain ⟨gl, offl, rfl⟩ := g.roSome 2 rfl (by rw [← HV.out]; omega)
      have oc := g.roCell 2 rfl (q := pv piv k) (by rw [← HV.out]; exact hcn)
      obtain ⟨z, hz⟩ : ∃ z, z = vec V (pv piv k) := ⟨_, rfl⟩
      obtain ⟨ck, hck⟩ : ∃ ck, ck = pv piv k := ⟨_, rfl⟩
      have hn2 := HN.out
      rw [← hz] at hn2
      have HN2 := Lib.hid hn2
      rw [← hz, ← hck] at oc
      rw [← hck] at hcn pc
      have ip : (k : Int) < piv.length := by omega
      have ic : (ck : Int) < n := by omega
      have Hl1 := Lib.hid (show (atPiv (piv.take k) V).length + 1 ≤ 17592186044416 by rw [length_atPiv, List.length_take]; omega)
      clear hz hck hn2 HN
      go_wp2_with (at_builtin; refine wp_append_ints rfl (.tmp 15) (.tmp 20) rfl w.heap.size _ _ (atPiv (piv.take k) V) [z] rfl rfl ((g.alloc' _).own 0 rfl) Ints.one Hl1.out (g.alloc' _).size ?_; intro v1 w7 ho1 hg1 hb1; have h4 := (g.alloc' _).appended 0 rfl ho1 hg1 hb1)
      go_roundw
      case rel => exact ⟨k + 1, by go_num, by omega, by rw [HN2.out]; exact h4⟩
      case measure => simp [intOf]; omega
    · obtain rfl : k = piv.length := by omega
      rw [List.take_length] at g
      go_wp2
      go_ret
      exact ⟨_, rfl, g.own 0 rfl, g.below⟩

set_option maxHeartbeats 1000000 in
theorem withoutPivots_any (p : Int) (n : Nat) (S : List (List Int)) (piv : List Nat) (t : Value) (w : World) (ht : Ints w t (flat n S)) (hS : Rf p n S piv) (hr : S.length ≤ 40) (hn : n ≤ 40) :
    Calls Try.prog 94 #[.agg #[.int .i64 p, .int .i64 S.length, .int .i64 n, t]] w (RetOwn w (pivI (freeTo piv n))) := by
  have h1 := ((St.start1 ht).box [.int .i64 p, .int .i64 S.length, .int .i64 n, t] 33).empty
  simp only [World.size_alloc] at h1
  obtain ⟨A, k0, rfl, _, _, _⟩ := id ht
  have hPv := fun (W : World) (x1 : Ints W (.slice A (flat n S).length k0) (flat n S)) => pivotsOf_any p n S piv _ W x1 hS hr hn
  obtain ⟨D, hD⟩ : ∃ D, D = flat n S := ⟨_, rfl⟩
  obtain ⟨r, hr9⟩ : ∃ r, r = S.length := ⟨_, rfl⟩
  rw [← hD, ← hr9] at hPv h1
  rw [← hD, ← hr9]
  have HPv := Lib.hid hPv
  clear ht hD hr hr9 hPv hS
  obtain ⟨z0, z1, z2, z3⟩ := h1.box4 1 rfl
  go_enter Try.func94, Try.ntmps94
  go_wp2
  clear z0 z1 z2 z3
  go_loopw [3, 4, 8] (fun v3 _ v8 wr => ∃ c : Nat, v8 = .int .i64 c ∧ c ≤ n ∧ St w wr [.own v3 (pivI (freeTo piv c)), .box w.heap.size [.int .i64 p, .int .i64 r, .int .i64 n, .slice A D.length k0], .ro (.slice A D.length k0) D]) (fun _ _ v8 _ => n - (intOf v8).toNat)
  case atStart => exact ⟨0, rfl, by omega, h1⟩
  case round =>
    clear h1
    obtain ⟨c, rfl, a1, h3⟩ := hrel
    by_cases hc : c < n
    · obtain ⟨x0, x1, x2, x3⟩ := h3.box4 1 rfl
      have ic : (c : Int) < n := by omega
      go_wp2_with fail
      refine (HPv.out _ (h3.roInts 2 rfl)).mono ?_
      rintro (e : Ending) w3 ⟨u3, rfl, ho3, hb3⟩
      have h4 := h3.pushOwn hb3 ho3
      clear x0 x1 x2 x3 h3 hb3 ho3
      by_cases hm : c ∈ piv
      · have hmd : decide (c ∈ piv) = true := decide_eq_true hm
        have HN := Lib.hid (freeTo_no hm)
        have HC := Lib.hid (fun W => Contains_piv u3 piv c W)
        rw [hmd] at HC
        clear hm hmd
        go_wp2_with fail
        refine (HC.out _ (h4.ownInts 0 rfl)).mono ?_
        rintro (e : Ending) w4 ⟨rfl, rfl⟩
        go_wp2
        go_roundw
        case rel => exact ⟨c + 1, by go_num, by omega, by rw [HN.out]; exact h4.drop 1⟩
        case measure => simp [intOf]; omega
      · have hmd : decide (c ∈ piv) = false := decide_eq_false hm
        have HN := Lib.hid (freeTo_yes hm)
        have HC := Lib.hid (fun W => Contains_piv u3 piv c W)
        rw [hmd] at HC
        have Hl1 := Lib.hid (show (pivI (freeTo piv c)).length + 1 ≤ 17592186044416 by have := length_freeTo piv c; rw [length_pivI]; omega)
        clear hm hmd
        go_wp2_with fail
        refine (HC.out _ (h4.ownInts 0 rfl)).mono ?_
        rintro (e : Ending) w4 ⟨rfl, rfl⟩
        go_wp2_with (at_builtin; refine wp_append_ints rfl (.tmp 16) (.tmp 18) rfl w.heap.size _ _ (pivI (freeTo piv c)) [((c : Nat) : Int)] rfl rfl ((h4.alloc' _).own 1 rfl) Ints.one Hl1.out (h4.alloc' _).size ?_; intro v1 w7 ho1 hg1 hb1; have h5 := (h4.alloc' _).appended 1 rfl ho1 hg1 hb1)
        go_roundw
        case rel => exact ⟨c + 1, by go_num, by omega, by rw [HN.out, pivI_snoc]; exact h5.drop 1⟩
        case measure => simp [intOf]; omega
    · obtain rfl : c = n := by omega
      go_wp2
      go_ret
      exact ⟨_, rfl, h3.own 0 rfl, h3.below⟩

set_option maxHeartbeats 1000000 in
theorem qtFn_any (p : Int) (n : Nat) (T : List Int) (S : List (List Int)) (piv : List Nat) (bs bx bz i j : Nat) (vp t v : Value) (w : World) (hs : AtL w bs [.int .i64 p, .int .i64 S.length, .int .i64 n, v]) (hx : AtL w bx [.int .i64 p, .int .i64 n, t]) (hz : AtL w bz [vp])
    (hq : Ints w vp (pivI (freeTo piv n))) (ht : Ints w t T) (hv : Ints w v (flat n S)) (hT : T.length = n * n * n) (hW : Rf p n S piv) (hn : n ≤ 28) (hP : isPrime p = true) (rT : resid p T = true) (hi : i < (freeTo piv n).length) (hj : j < (freeTo piv n).length) :
    Calls Try.prog 95 #[.int .i64 i, .int .i64 j, .pointer (some ⟨bs, 0, none⟩), .pointer (some ⟨bx, 0, none⟩), .pointer (some ⟨bz, 0, none⟩)] w (RetOwn w (qtF p n T S piv i j)) := by
  obtain ⟨b1, b2⟩ := isPrime_bd hP
  obtain ⟨A, k0, rfl, _, _, _⟩ := id hv
  obtain ⟨A2, k2, rfl, _, _, _⟩ := id ht
  obtain ⟨A3, k3, rfl, _, _, _⟩ := id hq
  have h1 := ((((((St.start w).arg hq).arg ht).arg hv).pushOld hs.fact).pushOld hx.fact).pushOld hz.fact
  have hPr := fun (W : World) (v0 : Value) (a b B : Nat) (x0 : IntsB W B v0 T) (x1 : B ≤ W.heap.size) (x2 : a < n) (x3 : b < n) => pair_any p n v0 T a b B W x0 x1 hT x2 x3 hn
  have hRd := fun (W : World) (v0 v1 : Value) (a b : Nat) (x0 : Ints W v0 (flat n S)) (x1 : Ints W v1 (rowT T n a b)) => reduceBy_any p n S piv v0 v1 (rowT T n a b) W x0 x1 hW (length_tab _ _) (resid_rowT rT (by omega) _ _ _) (by omega) b1 b2
  have hRl := fun (a b : Nat) => (redV_ok b1 hW (v := rowT T n a b) (length_tab _ _) (resid_rowT rT (by omega) _ _ _)).1
  have hXd : qtF p n T S piv i j = atPiv (freeTo piv n) (redV p S piv (rowT T n (pv (freeTo piv n) i) (pv (freeTo piv n) j))) := rfl
  have hFl := length_freeTo piv n
  have hFb : ∀ i, i < (freeTo piv n).length → pv (freeTo piv n) i < n := fun i hi => pv_free hi
  obtain ⟨Fr, hFr⟩ : ∃ Fr, Fr = freeTo piv n := ⟨_, rfl⟩
  rw [hXd]
  rw [← hFr] at h1 hi hj hFl hFb ⊢
  have hPk := fun (W : World) (v0 v1 : Value) (a b : Nat) (x0 : Ints W v0 (redV p S piv (rowT T n a b))) (x1 : Ints W v1 (pivI Fr)) => pick_any v0 v1 _ Fr W x0 x1 (by rw [hRl]; exact hFb) (by rw [hRl]; omega) (by omega)
  obtain ⟨D, hD⟩ : ∃ D, D = flat n S := ⟨_, rfl⟩
  rw [← hD] at h1 hRd
  obtain ⟨r, hr⟩ : ∃ r, r = S.length := ⟨_, rfl⟩
  rw [← hr] at h1 hRd
  rw [length_pivI] at h1
  have hfi := hFb i hi
  have hfj := hFb j hj
  obtain ⟨gp, offp, rfl⟩ := h1.roSome 5 rfl (by rw [length_pivI]; omega)
  have pc1 := h1.roCell 5 rfl (q := i) (by rw [length_pivI]; exact hi)
  have pc2 := h1.roCell 5 rfl (q := j) (by rw [length_pivI]; exact hj)
  rw [vec_pivI hi] at pc1
  rw [vec_pivI hj] at pc2
  obtain ⟨fi, hfi9⟩ : ∃ fi, fi = pv Fr i := ⟨_, rfl⟩
  obtain ⟨fj, hfj9⟩ : ∃ fj, fj = pv Fr j := ⟨_, rfl⟩
  rw [← hfi9] at hfi pc1
  rw [← hfj9] at hfj pc2
  rw [← hfi9, ← hfj9]
  replace h1 := (h1.pushOld (cellFact pc1)).pushOld (cellFact pc2)
  obtain ⟨m, hm⟩ : ∃ m, m = Fr.length := ⟨_, rfl⟩
  rw [← hm] at h1 hi hj
  have i1 : (i : Int) < m := by omega
  have i2 : (j : Int) < m := by omega
  have HPr := Lib.hid hPr
  have HRd := Lib.hid hRd
  have HPk := Lib.hid hPk
  clear hs hx hz hq ht hv hT hW hP rT hPr hRd hRl hXd hFl hFb hFr hPk hD hr hfi9 hfj9 hm pc1 pc2
  go_enter Try.func95, Try.ntmps95
  go_upto_region 1 with fail
  have g0 := h1.drew
  refine wp_region_held_drew (S := fun w' => (w'.cell? ⟨bs, 0, none⟩ = some (.int .i64 p) ∧ w'.cell? ⟨bs, 1, none⟩ = some (.int .i64 r) ∧ w'.cell? ⟨bs, 2, none⟩ = some (.int .i64 n) ∧ w'.cell? ⟨bs, 3, none⟩ = some (.slice A D.length k0)) ∧ (w'.cell? ⟨bx, 0, none⟩ = some (.int .i64 p) ∧ w'.cell? ⟨bx, 1, none⟩ = some (.int .i64 n) ∧ w'.cell? ⟨bx, 2, none⟩ = some (.slice A2 T.length k2)) ∧ w'.cell? ⟨bz, 0, none⟩ = some (.slice (some ⟨gp, offp, none⟩) m k3) ∧ w'.cell? ⟨gp, offp + i, none⟩ = some (.int .i64 fi) ∧ w'.cell? ⟨gp, offp + j, none⟩ = some (.int .i64 fj)) (by kernel_rfl) ⟨(g0.fact 4 rfl).c4, (g0.fact 3 rfl).c3, (g0.fact 2 rfl).c1, g0.fact 1 rfl, g0.fact 0 rfl⟩ (fun hHeld => ?_)
  refine anyH_take (v := ?_) 0 rfl (by kernel_rfl) (by kernel_rfl) (by kernel_rfl) (fun _ _ _ h => h) rfl ?_ hHeld ?_
  rotate_left
  · intro w' hSw
    go_simp
    try with_reducible rfl
  try simp only [Act.put, List.setIfInBounds_toArray, List.set_cons_zero, List.set_cons_succ]
  refine anyH_take (v := ?_) 1 rfl (by kernel_rfl) (by kernel_rfl) (by kernel_rfl) (fun _ _ _ h => h) rfl ?_ hHeld ?_
  rotate_left
  · intro w' hSw
    go_simp
    try with_reducible rfl
  try simp only [Act.put, List.setIfInBounds_toArray, List.set_cons_zero, List.set_cons_succ]
  refine anyH_take (v := ?_) 2 rfl (by kernel_rfl) (by kernel_rfl) (by kernel_rfl) (fun _ _ _ h => h) rfl ?_ hHeld ?_
  rotate_left
  · intro w' hSw
    go_simp
    try with_reducible rfl
  try simp only [Act.put, List.setIfInBounds_toArray, List.set_cons_zero, List.set_cons_succ]
  refine anyH_take (v := ?_) 3 rfl (by kernel_rfl) (by kernel_rfl) (by kernel_rfl) (fun _ _ _ h => h) rfl ?_ hHeld ?_
  rotate_left
  · intro w' hSw
    go_simp
    try with_reducible rfl
  try simp only [Act.put, List.setIfInBounds_toArray, List.set_cons_zero, List.set_cons_succ]
  refine anyH_take (v := ?_) 4 rfl (by kernel_rfl) (by kernel_rfl) (by kernel_rfl) (fun _ _ _ h => h) rfl ?_ hHeld ?_
  rotate_left
  · intro w' hSw
    go_simp
    try with_reducible rfl
  try simp only [Act.put, List.setIfInBounds_toArray, List.set_cons_zero, List.set_cons_succ]
  refine anyH_take (v := ?_) 5 rfl (by kernel_rfl) (by kernel_rfl) (by kernel_rfl) (fun _ _ _ h => h) rfl ?_ hHeld ?_
  rotate_left
  · intro w' hSw
    go_simp
    try with_reducible rfl
  try simp only [Act.put, List.setIfInBounds_toArray, List.set_cons_zero, List.set_cons_succ]
  refine anyH_take (v := ?_) 6 rfl (by kernel_rfl) (by kernel_rfl) (by kernel_rfl) (fun _ _ _ h => h) rfl ?_ hHeld ?_
  rotate_left
  · intro w' hSw
    go_simp
    try with_reducible rfl
  try simp only [Act.put, List.setIfInBounds_toArray, List.set_cons_zero, List.set_cons_succ]
  refine anyH_take (v := ?_) 7 rfl (by kernel_rfl) (by kernel_rfl) (by kernel_rfl) (fun _ _ _ h => h) rfl ?_ hHeld ?_
  rotate_left
  · intro w' hSw
    go_simp
    try with_reducible rfl
  try simp only [Act.put, List.setIfInBounds_toArray, List.set_cons_zero, List.set_cons_succ]
  refine anyH_take (v := ?_) 8 rfl (by kernel_rfl) (by kernel_rfl) (by kernel_rfl) (fun _ _ _ h => h) rfl ?_ hHeld ?_
  rotate_left
  · intro w' hSw
    go_simp
    try with_reducible rfl
  try simp only [Act.put, List.setIfInBounds_toArray, List.set_cons_zero, List.set_cons_succ]
  refine anyH_take (v := ?_) 9 rfl (by kernel_rfl) (by kernel_rfl) (by kernel_rfl) (fun _ _ _ h => h) rfl ?_ hHeld ?_
  rotate_left
  · intro w' hSw
    go_simp
    try with_reducible rfl
  try simp only [Act.put, List.setIfInBounds_toArray, List.set_cons_zero, List.set_cons_succ]
  refine anyH_take (v := ?_) 12 rfl (by kernel_rfl) (by kernel_rfl) (by kernel_rfl) (fun _ _ _ h => h) rfl ?_ hHeld ?_
  rotate_left
  · intro w' hSw
    go_simp
    try with_reducible rfl
  try simp only [Act.put, List.setIfInBounds_toArray, List.set_cons_zero, List.set_cons_succ]
  refine wpAnyH_ready (rs := [10]) (by kernel_rfl) (by simp) ?_
  refine ready_cons rfl (fun K hK => ?_) AllReadyH.nil
  go_simp
  refine (HPr.out _ _ _ _ _ (g0.ro 6 rfl) g0.size hfi hfj).mono ?_
  rintro (e : Ending) w3 ⟨A4, c4, rfl, hr3, hb3⟩
  have g1 := (g0.on hb3).pushRo hr3
  show K _ _
  refine hK.out _ _ ?_ (fun hHeld => ?_)
  · exact ⟨(g1.fact 5 rfl).c4, (g1.fact 4 rfl).c3, (g1.fact 3 rfl).c1, g1.fact 2 rfl, g1.fact 1 rfl⟩
  clear hK K
  try simp only [Act.put, List.setIfInBounds_toArray, List.set_cons_zero, List.set_cons_succ]
  refine wpAnyH_ready (rs := [11]) (by kernel_rfl) (by simp) ?_
  refine ready_cons rfl (fun K hK => ?_) AllReadyH.nil
  go_simp
  refine (HRd.out _ _ _ _ _ (g1.roInts 6 rfl) (g1.roInts 0 rfl)).mono ?_
  rintro (e : Ending) w4 ⟨u4, rfl, ho4, hb4⟩
  obtain ⟨A5, n5, c5, rfl⟩ := ho4.slice
  have g2 := g1.pushOwn hb4 ho4
  show K _ _
  refine hK.out _ _ ?_ (fun hHeld => ?_)
  · exact ⟨(g2.fact 6 rfl).c4, (g2.fact 5 rfl).c3, (g2.fact 4 rfl).c1, g2.fact 3 rfl, g2.fact 2 rfl⟩
  clear hK K
  try simp only [Act.put, List.setIfInBounds_toArray, List.set_cons_zero, List.set_cons_succ]
  refine wpAnyH_ready (rs := [13]) (by kernel_rfl) (by simp) ?_
  refine ready_cons rfl (fun K hK => ?_) AllReadyH.nil
  go_simp
  refine (HPk.out _ _ _ _ _ (g2.ownInts 0 rfl) (g2.roInts 9 rfl)).mono ?_
  rintro (e : Ending) w5 ⟨u5, rfl, ho5, hb5⟩
  obtain ⟨A6, n6, c6, rfl⟩ := ho5.slice
  have g3 := g2.pushOwn hb5 ho5
  show K _ _
  refine hK.out _ _ ?_ (fun hHeld => ?_)
  · exact ⟨(g3.fact 7 rfl).c4, (g3.fact 6 rfl).c3, (g3.fact 5 rfl).c1, g3.fact 4 rfl, g3.fact 3 rfl⟩
  clear hK K
  try simp only [Act.put, List.setIfInBounds_toArray, List.set_cons_zero, List.set_cons_succ]
  refine anyH_take (v := ?_) 14 rfl (by kernel_rfl) (by kernel_rfl) (by kernel_rfl) (fun _ _ _ h => h) rfl ?_ hHeld ?_
  rotate_left
  · intro w' hSw
    go_simp
    try with_reducible rfl
  try simp only [Act.put, List.setIfInBounds_toArray, List.set_cons_zero, List.set_cons_succ]
  refine wpAnyH_done (by kernel_rfl) ?_ _
  clear hHeld
  clear g0 h1 g1 g2
  go_wp2
  go_ret
  exact ⟨_, rfl, g3.own 0 rfl, g3.below⟩
theorem qtTable_any (p : Int) (n : Nat) (T : List Int) (S : List (List Int)) (piv : List Nat) (bs bx bz : Nat) (vp t v : Value) (w : World) (hs : AtL w bs [.int .i64 p, .int .i64 S.length, .int .i64 n, v]) (hx : AtL w bx [.int .i64 p, .int .i64 n, t]) (hz : AtL w bz [vp])
    (hq : Ints w vp (pivI (freeTo piv n))) (ht : Ints w t T) (hv : Ints w v (flat n S)) (hT : T.length = n * n * n) (hW : Rf p n S piv) (hn : n ≤ 28) (hP : isPrime p = true) (rT : resid p T = true) :
    Calls Try.prog 59 #[.int .i64 p, .int .i64 (freeTo piv n).length, .func (.func 95) #[] #[.pointer (some ⟨bs, 0, none⟩), .pointer (some ⟨bx, 0, none⟩), .pointer (some ⟨bz, 0, none⟩)]] w (RetAlg w p (freeTo piv n).length (tbL p (freeTo piv n).length (qtF p n T S piv))) := by
  obtain ⟨b1, b2⟩ := isPrime_bd hP
  have hFl := length_freeTo piv n
  refine tableBy_any p (freeTo piv n).length (qtF p n T S piv) _ _ (fun _ _ => rfl) w (fun W i j hj hi hk hs9 => ?_) (fun i j hj hi => ?_) (by omega) b1 b2
  · have hk2 : ∀ q : Addr, q.block < w.heap.size → W.cell? q = w.cell? q := fun q hq => World.cell?_of_block (hk q.block hq)
    exact (qtFn_any p n T S piv bs bx bz i j vp t v W (hs.keep hk) (hx.keep hk) (hz.keep hk) (hq.keep hk2) (ht.keep hk2) (hv.keep hk2) hT hW hn hP rT hi (by omega)).mono fun e w' ⟨u, h1, h2, h3⟩ => ⟨u, h1, .inr h2, h3⟩
  · exact ⟨by rw [qtF, length_atPiv]; exact Nat.le_refl _, resid_atPiv (by omega) (redV_ok b1 hW (length_tab _ _) (resid_rowT rT (by omega) _ _ _)).2.1 _⟩
end Go.Proofs.Ytcdbgcpccmcbeaa
