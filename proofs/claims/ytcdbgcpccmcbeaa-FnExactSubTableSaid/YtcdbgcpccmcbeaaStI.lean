/- SubTable of the program. -/
import Derived.Test.YtcdbgcpccmcbeaaStP
import Derived.Test.YtcdbgcpccmcbeaaTabI
import Derived.Test.YtcdbgcpccmcbeaaAtL
import Derived.Test.YtcdbgcpccmcbeaaFlt
namespace Go.Proofs.Ytcdbgcpccmcbeaa
set_option maxRecDepth 100000
open Go.RowKit

theorem atPiv_take {piv : List Nat} {V : List Int} {k : Nat} (h : k < piv.length) : atPiv (piv.take (k + 1)) V = atPiv (piv.take k) V ++ [vec V (pv piv k)] := by
  rw [take_piv h, atPiv, List.map_append]; rfl

set_option maxHeartbeats 1000000 in
theorem stFn_any (p : Int) (n : Nat) (T : List Int) (S : List (List Int)) (piv : List Nat) (bx by' bz i j : Nat) (vp t v : Value) (w : World) (hx : AtL w bx [.int .i64 p, .int .i64 n, t]) (hy : AtL w by' [v]) (hz : AtL w bz [vp])
    (hq : Ints w vp (pivI piv)) (ht : Ints w t T) (hv : IntRows w v S) (hT : T.length = n * n * n) (hW : Rf p n S piv) (hn : n ≤ 28) (hP : isPrime p = true) (rT : resid p T = true) (hi : i < S.length) (hj : j < S.length) :
    Calls Try.prog 79 #[.int .i64 i, .int .i64 j, .pointer (some ⟨bx, 0, none⟩), .pointer (some ⟨by', 0, none⟩), .pointer (some ⟨bz, 0, none⟩)] w (RetOwn w (stF p n T S piv i j)) := by
  obtain ⟨b1, b2⟩ := isPrime_bd hP
  obtain ⟨A, k0, rfl, _, _, _⟩ := id hv
  obtain ⟨A2, k2, rfl, _, _, _⟩ := id ht
  obtain ⟨A3, k3, rfl, _, _, _⟩ := id hq
  obtain ⟨bb, off, A9, c9, rfl, hmf⟩ := hv.at (i := i) hi
  obtain ⟨bb2, off2, A10, c10, hA, hmg⟩ := hv.at (i := j) hj
  simp only [Option.some.injEq, Addr.mk.injEq, and_true] at hA
  obtain ⟨rfl, rfl⟩ := hA
  have hwi := hW.wf i hi
  have hwj := hW.wf j hj
  rw [rowOf_eq hi, hwi.1] at hmf
  rw [rowOf_eq hj, hwj.1] at hmg
  have h1 := (((((((St.start w).arg hq).arg ht).pushOld hmf.fact).pushOld hmg.fact).pushOld hx.fact).pushOld hy.fact).pushOld hz.fact
  have hB := fun (W : World) (v0 v1 v2 : Value) (x0 : Ints W v0 T) (x1 : Ints W v1 (rowOf S i)) (x2 : Ints W v2 (rowOf S j)) => bracket_any p n v0 v1 v2 T (rowOf S i) (rowOf S j) _ W x0.toB x1.toB x2.toB (Nat.le_refl _) hT hwi.1 hwj.1 hn b1 b2 rT hwi.2 hwj.2
  simp only [bracketL_eq] at hB
  have hVl := length_braL T (rowOf S i) (rowOf S j) n p
  have hXd : stF p n T S piv i j = atPiv piv (braL T (rowOf S i) (rowOf S j) n p) := rfl
  obtain ⟨V, hV⟩ : ∃ V, V = braL T (rowOf S i) (rowOf S j) n p := ⟨_, rfl⟩
  rw [hXd]
  rw [← hV] at hB hVl ⊢
  have hpn : piv.length ≤ n := by rw [← hW.len]; exact rf_le_n b1 hW
  have hlt := hW.lt
  rw [length_pivI] at h1
  obtain ⟨m, hm⟩ : ∃ m, m = S.length := ⟨_, rfl⟩
  rw [← hm] at h1
  have i1 : (i : Int) < m := by omega
  have i2 : (j : Int) < m := by omega
  have HB := Lib.hid hB
  have HV := Lib.hid hVl
  have Hlt := Lib.hid hlt
  clear hx hy hz hq ht hv hT hW hP rT hi hj hmf hmg hwi hwj hB hV hVl hXd hlt hm
  go_enter Try.func79, Try.ntmps79
  go_upto_region 1 with fail
  have g0 := h1.drew
  refine wp_region_held_drew (S := fun w' => (w'.cell? ⟨bx, 0, none⟩ = some (.int .i64 p) ∧ w'.cell? ⟨bx, 1, none⟩ = some (.int .i64 n) ∧ w'.cell? ⟨bx, 2, none⟩ = some (.slice A2 T.length k2)) ∧ w'.cell? ⟨by', 0, none⟩ = some (.slice (some ⟨bb, off, none⟩) m k0) ∧ w'.cell? ⟨bb, off + i, none⟩ = some (.slice A9 n c9) ∧ w'.cell? ⟨bb, off + j, none⟩ = some (.slice A10 n c10)) (by kernel_rfl) ⟨(g0.fact 2 rfl).c3, (g0.fact 1 rfl).c1, (g0.fact 4 rfl).1, (g0.fact 3 rfl).1⟩ (fun hHeld => ?_)
  refine anyH_take (v := ?_) 0 rfl (by kernel_rfl) (by kernel_rfl) (by kernel_rfl) (fun _ _ _ h => h) rfl ?_ hHeld ?_
  rotate_left
  · intro w' hSw
    go_simp
    try with_reducible rfl
  try simp only [Act.put, List.setIfInBounds_toArray, List.set_cons_zero, List.set_cons_succ]
  refine anyH_take (v := ?_) 1 rfl (by kernel_rfl) (by kernel_rfl) (by kernel_rfl) (fun _ _ _ h => h) rfl ?_ hHeld ?_
  rotate_left
  · intro w' hSw
    go_simp
    try with_reducible rfl
  try simp only [Act.put, List.setIfInBounds_toArray, List.set_cons_zero, List.set_cons_succ]
  refine anyH_take (v := ?_) 2 rfl (by kernel_rfl) (by kernel_rfl) (by kernel_rfl) (fun _ _ _ h => h) rfl ?_ hHeld ?_
  rotate_left
  · intro w' hSw
    go_simp
    try with_reducible rfl
  try simp only [Act.put, List.setIfInBounds_toArray, List.set_cons_zero, List.set_cons_succ]
  refine anyH_take (v := ?_) 3 rfl (by kernel_rfl) (by kernel_rfl) (by kernel_rfl) (fun _ _ _ h => h) rfl ?_ hHeld ?_
  rotate_left
  · intro w' hSw
    go_simp
    try with_reducible rfl
  try simp only [Act.put, List.setIfInBounds_toArray, List.set_cons_zero, List.set_cons_succ]
  refine anyH_take (v := ?_) 4 rfl (by kernel_rfl) (by kernel_rfl) (by kernel_rfl) (fun _ _ _ h => h) rfl ?_ hHeld ?_
  rotate_left
  · intro w' hSw
    go_simp
    try with_reducible rfl
  try simp only [Act.put, List.setIfInBounds_toArray, List.set_cons_zero, List.set_cons_succ]
  refine anyH_take (v := ?_) 5 rfl (by kernel_rfl) (by kernel_rfl) (by kernel_rfl) (fun _ _ _ h => h) rfl ?_ hHeld ?_
  rotate_left
  · intro w' hSw
    go_simp
    try with_reducible rfl
  try simp only [Act.put, List.setIfInBounds_toArray, List.set_cons_zero, List.set_cons_succ]
  refine anyH_take (v := ?_) 6 rfl (by kernel_rfl) (by kernel_rfl) (by kernel_rfl) (fun _ _ _ h => h) rfl ?_ hHeld ?_
  rotate_left
  · intro w' hSw
    go_simp
    try with_reducible rfl
  try simp only [Act.put, List.setIfInBounds_toArray, List.set_cons_zero, List.set_cons_succ]
  refine anyH_take (v := ?_) 7 rfl (by kernel_rfl) (by kernel_rfl) (by kernel_rfl) (fun _ _ _ h => h) rfl ?_ hHeld ?_
  rotate_left
  · intro w' hSw
    go_simp
    try with_reducible rfl
  try simp only [Act.put, List.setIfInBounds_toArray, List.set_cons_zero, List.set_cons_succ]
  refine anyH_take (v := ?_) 8 rfl (by kernel_rfl) (by kernel_rfl) (by kernel_rfl) (fun _ _ _ h => h) rfl ?_ hHeld ?_
  rotate_left
  · intro w' hSw
    go_simp
    try with_reducible rfl
  try simp only [Act.put, List.setIfInBounds_toArray, List.set_cons_zero, List.set_cons_succ]
  refine wpAnyH_ready (rs := [9]) (by kernel_rfl) (by simp) ?_
  refine ready_cons rfl (fun K hK => ?_) AllReadyH.nil
  go_simp
  refine (HB.out _ _ _ _ (g0.roInts 5 rfl) (g0.fact 4 rfl).2 (g0.fact 3 rfl).2).mono ?_
  rintro (e : Ending) w3 ⟨u3, rfl, ho3, hb3⟩
  obtain ⟨A5, c5, rfl, _, _, _⟩ := id ho3.ints
  have g1 := g0.pushOwn hb3 ho3
  show K _ _
  refine hK.out _ _ ?_ (fun hHeld => ?_)
  · exact ⟨(g1.fact 3 rfl).c3, (g1.fact 2 rfl).c1, (g1.fact 5 rfl).1, (g1.fact 4 rfl).1⟩
  clear hK K
  try simp only [Act.put, List.setIfInBounds_toArray, List.set_cons_zero, List.set_cons_succ]
  refine anyH_take (v := ?_) 10 rfl (by kernel_rfl) (by kernel_rfl) (by kernel_rfl) (fun _ _ _ h => h) rfl ?_ hHeld ?_
  rotate_left
  · intro w' hSw
    go_simp
    try with_reducible rfl
  try simp only [Act.put, List.setIfInBounds_toArray, List.set_cons_zero, List.set_cons_succ]
  refine wpAnyH_done (by kernel_rfl) ?_ _
  clear hHeld
  clear g0 h1 hb3 ho3
  rw [HV.out] at g1 ⊢
  have g2 := g1.empty
  have z0 := (g2.fact 2 rfl).c1
  go_wp2
  clear z0 g1
  generalize w3.heap.size = B5 at g2 ⊢
  go_loopw [9, 11, 25] (fun v9 _ v25 wr => ∃ k : Nat, v25 = .int .i64 k ∧ k ≤ piv.length ∧ St w wr [.own v9 (atPiv (piv.take k) V), .own (.slice A5 n c5) V, .ro (.slice A3 piv.length k3) (pivI piv)]) (fun _ _ v25 _ => piv.length - (intOf v25).toNat)
  case atStart => exact ⟨0, rfl, by omega, g2.re [0, 1, 8] (by decide) (fun j => by rcases j with _ | _ | _ | j <;> simp [atPiv])⟩
  case round =>
    clear g2
    obtain ⟨k, rfl, a1, g⟩ := hrel
    by_cases hk : k < piv.length
    · have hcn := Hlt.out k hk
      have HN := Lib.hid (atPiv_take (V := V) hk)
      obtain ⟨gp, offp, rfl⟩ := g.roSome 2 rfl (by rw [length_pivI]; omega)
      have pc := g.roCell 2 rfl (q := k) (by rw [length_pivI]; exact hk)
      rw [vec_pivI hk] at pc
      obtain ⟨gl, rfl, hq9⟩ := g.ownSomeA 1 rfl (by rw [HV.out]; omega)
      clear hq9
      have oc := (g.ownCellA 1 rfl (q := pv piv k) (by rw [HV.out]; exact hcn)).1
      obtain ⟨z, hz⟩ : ∃ z, z = vec V (pv piv k) := ⟨_, rfl⟩
      obtain ⟨ck, hck⟩ : ∃ ck, ck = pv piv k := ⟨_, rfl⟩
      have hn2 := HN.out
      rw [← hz] at hn2
      have HN2 := Lib.hid hn2
      rw [← hz, ← hck] at oc
      rw [← hck] at hcn pc
      have ip : (k : Int) < piv.length := by omega
      have ic : (ck : Int) < n := by omega
      have Hl1 := Lib.hid (show (atPiv (piv.take k) V).length + 1 ≤ 17592186044416 by rw [length_atPiv, List.length_take]; omega)
      clear hz hck hn2 HN
      go_wp2_with (at_builtin; refine wp_append_ints rfl (.tmp 29) (.tmp 34) rfl w.heap.size _ _ (atPiv (piv.take k) V) [z] rfl rfl ((g.alloc' _).own 0 rfl) Ints.one Hl1.out (g.alloc' _).size ?_; intro v1 w7 ho1 hg1 hb1; have h4 := (g.alloc' _).appended 0 rfl ho1 hg1 hb1)
      go_roundw
      case rel => exact ⟨k + 1, by go_num, by omega, by rw [HN2.out]; exact h4⟩
      case measure => simp [intOf]; omega
    · obtain rfl : k = piv.length := by omega
      rw [List.take_length] at g
      go_wp2
      go_ret
      exact ⟨_, rfl, g.own 0 rfl, g.below⟩
theorem stTable_any (p : Int) (n : Nat) (T : List Int) (S : List (List Int)) (piv : List Nat) (bx by' bz : Nat) (vp t v : Value) (w : World) (hx : AtL w bx [.int .i64 p, .int .i64 n, t]) (hy : AtL w by' [v]) (hz : AtL w bz [vp])
    (hq : Ints w vp (pivI piv)) (ht : Ints w t T) (hv : IntRows w v S) (hT : T.length = n * n * n) (hW : Rf p n S piv) (hn : n ≤ 28) (hP : isPrime p = true) (rT : resid p T = true) :
    Calls Try.prog 59 #[.int .i64 p, .int .i64 S.length, .func (.func 79) #[] #[.pointer (some ⟨bx, 0, none⟩), .pointer (some ⟨by', 0, none⟩), .pointer (some ⟨bz, 0, none⟩)]] w (RetAlg w p S.length (tbL p S.length (stF p n T S piv))) := by
  obtain ⟨b1, b2⟩ := isPrime_bd hP
  have hSn := rf_le_n b1 hW
  refine tableBy_any p S.length (stF p n T S piv) _ _ (fun _ _ => rfl) w (fun W i j hj hi hk hs => ?_) (fun i j hj hi => ?_) (by omega) b1 b2
  · have hk2 : ∀ q : Addr, q.block < w.heap.size → W.cell? q = w.cell? q := fun q hq => World.cell?_of_block (hk q.block hq)
    exact (stFn_any p n T S piv bx by' bz i j vp t v W (hx.keep hk) (hy.keep hk) (hz.keep hk) (hq.keep hk2) (ht.keep hk2) (hv.keep hk2) hT hW hn hP rT hi (by omega)).mono fun e w' ⟨u, h1, h2, h3⟩ => ⟨u, h1, .inr h2, h3⟩
  · exact ⟨by rw [stF, length_atPiv, hW.len]; exact Nat.le_refl _, resid_atPiv (by omega) (resid_braL _ _ _ _ b1) _⟩
end Go.Proofs.Ytcdbgcpccmcbeaa
