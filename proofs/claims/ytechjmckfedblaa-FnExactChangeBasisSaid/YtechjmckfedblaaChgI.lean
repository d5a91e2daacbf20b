/- ChangeBasis of the program. -/
import Derived.Test.YtechjmckfedblaaChgP
import Derived.Test.YtechjmckfedblaaTabI
import Derived.Test.YtechjmckfedblaaCds
import Derived.Test.YtechjmckfedblaaFlt
namespace Go.Proofs.Ytechjmckfedblaa
set_option maxRecDepth 100000
open Go.RowKit

/-- A block's cells. -/
def AtL (w : World) (b : Nat) (vs : List Value) : Prop := ∀ j x, vs[j]? = some x → w.cell? ⟨b, j, none⟩ = some x
theorem AtL.keep {w w' : World} {b : Nat} {vs : List Value} (h : AtL w b vs) (hk : ∀ b, b < w.heap.size → w'.heap[b]? = w.heap[b]?) : AtL w' b vs := fun j x hx =>
  (World.cell?_of_block (hk _ (World.block_lt_of_cell? w _ (h j x hx)))).trans (h j x hx)
theorem AtL.fact {w : World} {b : Nat} {vs : List Value} (h : AtL w b vs) : It.ok w.heap.size w (.fact fun w' => AtL w' b vs) := fun _ hk => h.keep hk
theorem St.atL {w0 w : World} {L : List It} (h : St w0 w L) (i : Nat) {b : Nat} {vs : List Value} (hi : L[i]? = some (.box b vs)) : AtL w b vs := fun j _ hx => h.cell i hi j hx
theorem AtL.c1 {w : World} {b : Nat} {x : Value} (h : AtL w b [x]) : w.cell? ⟨b, 0, none⟩ = some x := h 0 _ rfl
theorem AtL.c3 {w : World} {b : Nat} {x y z : Value} (h : AtL w b [x, y, z]) : w.cell? ⟨b, 0, none⟩ = some x ∧ w.cell? ⟨b, 1, none⟩ = some y ∧ w.cell? ⟨b, 2, none⟩ = some z := ⟨h 0 _ rfl, h 1 _ rfl, h 2 _ rfl⟩
theorem AtL.c6 {w : World} {b : Nat} {x y z u v t : Value} (h : AtL w b [x, y, z, u, v, t]) : w.cell? ⟨b, 0, none⟩ = some x ∧ w.cell? ⟨b, 1, none⟩ = some y ∧ w.cell? ⟨b, 2, none⟩ = some z ∧ w.cell? ⟨b, 3, none⟩ = some u ∧ w.cell? ⟨b, 4, none⟩ = some v ∧ w.cell? ⟨b, 5, none⟩ = some t := ⟨h 0 _ rfl, h 1 _ rfl, h 2 _ rfl, h 3 _ rfl, h 4 _ rfl, h 5 _ rfl⟩

set_option maxHeartbeats 1000000 in
theorem chgFn_any (p : Int) (n : Nat) (T : List Int) (S : List (List Int)) (bx by' bz i j : Nat) (fr : Bool) (vr vp t v : Value) (w : World) (hx : AtL w bx [.bool fr, .int .i64 p, .int .i64 n, .int .i64 n, vr, vp]) (hy : AtL w by' [.int .i64 p, .int .i64 n, t]) (hz : AtL w bz [v])
    (hr : IntRows w vr (reduceL p (n + S.length) (besL S)).1) (hq : Ints w vp (pivI (pivL p n S))) (ht : Ints w t T) (hv : IntRows w v S) (hT : T.length = n * n * n) (hW : Wf p n S) (hl : S.length = n) (hn : n ≤ 28) (hP : isPrime p = true) (rT : resid p T = true) (hi : i < n) (hj : j < n) :
    Calls Try.prog 77 #[.int .i64 i, .int .i64 j, .pointer (some ⟨bx, 0, none⟩), .pointer (some ⟨by', 0, none⟩), .pointer (some ⟨bz, 0, none⟩)] w (RetOwn w (cbF p n T S i j)) := by
  obtain ⟨b1, b2⟩ := isPrime_bd hP
  obtain ⟨A, k0, rfl, _, _, _⟩ := id hv
  obtain ⟨A2, k2, rfl, _, _, _⟩ := id ht
  obtain ⟨A3, k3, rfl, _, _, _⟩ := id hq
  obtain ⟨A4, k4, rfl, _, _, _⟩ := id hr
  have hil : i < S.length := by omega
  have hjl : j < S.length := by omega
  obtain ⟨bb, off, A9, c9, rfl, hmf⟩ := hv.at (i := i) hil
  obtain ⟨bb2, off2, A10, c10, hA, hmg⟩ := hv.at (i := j) hjl
  simp only [Option.some.injEq, Addr.mk.injEq, and_true] at hA
  obtain ⟨rfl, rfl⟩ := hA
  have hwi := hW i hil
  have hwj := hW j hjl
  rw [rowOf_eq hil, hwi.1] at hmf
  rw [rowOf_eq hjl, hwj.1] at hmg
  have h1 := ((((((((St.start w).pushFact hr.fact).arg hq).arg ht).pushOld hmf.fact).pushOld hmg.fact).pushOld hx.fact).pushOld hy.fact).pushOld hz.fact
  have hB := fun (W : World) (v0 v1 v2 : Value) (x0 : Ints W v0 T) (x1 : Ints W v1 (rowOf S i)) (x2 : Ints W v2 (rowOf S j)) => bracket_any p n v0 v1 v2 T (rowOf S i) (rowOf S j) _ W x0.toB x1.toB x2.toB (Nat.le_refl _) hT hwi.1 hwj.1 hn b1 b2 rT hwi.2 hwj.2
  simp only [bracketL_eq] at hB
  obtain ⟨V, hV⟩ : ∃ V, V = braL T (rowOf S i) (rowOf S j) n p := ⟨_, rfl⟩
  have hC := fun (W : World) (v0 v1 v2 : Value) (x0 : IntRows W v0 (reduceL p (n + S.length) (besL S)).1) (x1 : Ints W v1 (pivI (pivL p n S))) (x2 : Ints W v2 V) => coords_any p n S fr v0 v1 v2 V W x0 x1 x2 hW (by rw [hV]; exact length_braL _ _ _ _ _) (by rw [hV]; exact resid_braL _ _ _ _ b1) (by omega) (by omega) hP
  rw [hl] at hC h1
  obtain ⟨X, hX⟩ : ∃ X, X = cbF p n T S i j := ⟨_, rfl⟩
  have hXd : cooL p n S V = X := by rw [hX, cbF, hV]
  rw [← hX]
  rw [← hV] at hB
  rw [hXd] at hC
  obtain ⟨Rd, hRd⟩ : ∃ Rd, Rd = (reduceL p (n + n) (besL S)).1 := ⟨_, rfl⟩
  rw [← hRd] at hC h1
  have HB := Lib.hid hB
  have HC := Lib.hid hC
  have i1 : (i : Int) < n := by omega
  have i2 : (j : Int) < n := by omega
  clear hx hy hz hr hq ht hv hT hW hl hP rT hil hjl hmf hmg hwi hwj hB hC hV hX hXd hRd
  go_enter Try.func77, Try.ntmps77
  go_upto_region 1 with fail
  have g0 := h1.drew
  refine wp_region_held_drew (S := fun w' => (w'.cell? ⟨bx, 0, none⟩ = some (.bool fr) ∧ w'.cell? ⟨bx, 1, none⟩ = some (.int .i64 p) ∧ w'.cell? ⟨bx, 2, none⟩ = some (.int .i64 n) ∧ w'.cell? ⟨bx, 3, none⟩ = some (.int .i64 n) ∧ w'.cell? ⟨bx, 4, none⟩ = some (.slice A4 Rd.length k4) ∧ w'.cell? ⟨bx, 5, none⟩ = some (.slice A3 (pivI (pivL p n S)).length k3)) ∧ (w'.cell? ⟨by', 0, none⟩ = some (.int .i64 p) ∧ w'.cell? ⟨by', 1, none⟩ = some (.int .i64 n) ∧ w'.cell? ⟨by', 2, none⟩ = some (.slice A2 T.length k2)) ∧ w'.cell? ⟨bz, 0, none⟩ = some (.slice (some ⟨bb, off, none⟩) n k0) ∧ w'.cell? ⟨bb, off + i, none⟩ = some (.slice A9 n c9) ∧ w'.cell? ⟨bb, off + j, none⟩ = some (.slice A10 n c10)) (by kernel_rfl) ⟨(g0.fact 2 rfl).c6, (g0.fact 1 rfl).c3, (g0.fact 0 rfl).c1, (g0.fact 4 rfl).1, (g0.fact 3 rfl).1⟩ (fun hHeld => ?_)
  refine anyH_take (v := ?_) 0 rfl (by kernel_rfl) (by kernel_rfl) (by kernel_rfl) (fun _ _ _ h => h) rfl ?_ hHeld ?_
  rotate_left
  · intro w' hSw
    go_simp
    try with_reducible rfl
  try simp only [Act.put, List.setIfInBounds_toArray, List.set_cons_zero, List.set_cons_succ]
  refine anyH_take (v := ?_) 1 rfl (by kernel_rfl) (by kernel_rfl) (by kernel_rfl) (fun _ _ _ h => h) rfl ?_ hHeld ?_
  rotate_left
  · intro w' hSw
    go_simp
    try with_reducible rfl
  try simp only [Act.put, List.setIfInBounds_toArray, List.set_cons_zero, List.set_cons_succ]
  refine anyH_take (v := ?_) 2 rfl (by kernel_rfl) (by kernel_rfl) (by kernel_rfl) (fun _ _ _ h => h) rfl ?_ hHeld ?_
  rotate_left
  · intro w' hSw
    go_simp
    try with_reducible rfl
  try simp only [Act.put, List.setIfInBounds_toArray, List.set_cons_zero, List.set_cons_succ]
  refine anyH_take (v := ?_) 3 rfl (by kernel_rfl) (by kernel_rfl) (by kernel_rfl) (fun _ _ _ h => h) rfl ?_ hHeld ?_
  rotate_left
  · intro w' hSw
    go_simp
    try with_reducible rfl
  try simp only [Act.put, List.setIfInBounds_toArray, List.set_cons_zero, List.set_cons_succ]
  refine anyH_take (v := ?_) 4 rfl (by kernel_rfl) (by kernel_rfl) (by kernel_rfl) (fun _ _ _ h => h) rfl ?_ hHeld ?_
  rotate_left
  · intro w' hSw
    go_simp
    try with_reducible rfl
  try simp only [Act.put, List.setIfInBounds_toArray, List.set_cons_zero, List.set_cons_succ]
  refine anyH_take (v := ?_) 5 rfl (by kernel_rfl) (by kernel_rfl) (by kernel_rfl) (fun _ _ _ h => h) rfl ?_ hHeld ?_
  rotate_left
  · intro w' hSw
    go_simp
    try with_reducible rfl
  try simp only [Act.put, List.setIfInBounds_toArray, List.set_cons_zero, List.set_cons_succ]
  refine anyH_take (v := ?_) 6 rfl (by kernel_rfl) (by kernel_rfl) (by kernel_rfl) (fun _ _ _ h => h) rfl ?_ hHeld ?_
  rotate_left
  · intro w' hSw
    go_simp
    try with_reducible rfl
  try simp only [Act.put, List.setIfInBounds_toArray, List.set_cons_zero, List.set_cons_succ]
  refine anyH_take (v := ?_) 7 rfl (by kernel_rfl) (by kernel_rfl) (by kernel_rfl) (fun _ _ _ h => h) rfl ?_ hHeld ?_
  rotate_left
  · intro w' hSw
    go_simp
    try with_reducible rfl
  try simp only [Act.put, List.setIfInBounds_toArray, List.set_cons_zero, List.set_cons_succ]
  refine anyH_take (v := ?_) 8 rfl (by kernel_rfl) (by kernel_rfl) (by kernel_rfl) (fun _ _ _ h => h) rfl ?_ hHeld ?_
  rotate_left
  · intro w' hSw
    go_simp
    try with_reducible rfl
  try simp only [Act.put, List.setIfInBounds_toArray, List.set_cons_zero, List.set_cons_succ]
  refine anyH_take (v := ?_) 9 rfl (by kernel_rfl) (by kernel_rfl) (by kernel_rfl) (fun _ _ _ h => h) rfl ?_ hHeld ?_
  rotate_left
  · intro w' hSw
    go_simp
    try with_reducible rfl
  try simp only [Act.put, List.setIfInBounds_toArray, List.set_cons_zero, List.set_cons_succ]
  refine wpAnyH_ready (rs := [10]) (by kernel_rfl) (by simp) ?_
  refine ready_cons rfl (fun K hK => ?_) AllReadyH.nil
  go_simp
  refine (HB.out _ _ _ _ (g0.roInts 5 rfl) (g0.fact 4 rfl).2 (g0.fact 3 rfl).2).mono ?_
  rintro (e : Ending) w3 ⟨u3, rfl, ho3, hb3⟩
  obtain ⟨A5, n5, c5, rfl⟩ := ho3.slice
  have g1 := g0.pushOwn hb3 ho3
  show K _ _
  refine hK.out _ _ ?_ (fun hHeld => ?_)
  · exact ⟨(g1.fact 3 rfl).c6, (g1.fact 2 rfl).c3, (g1.fact 1 rfl).c1, (g1.fact 5 rfl).1, (g1.fact 4 rfl).1⟩
  clear hK K
  try simp only [Act.put, List.setIfInBounds_toArray, List.set_cons_zero, List.set_cons_succ]
  refine wpAnyH_ready (rs := [11]) (by kernel_rfl) (by simp) ?_
  refine ready_cons rfl (fun K hK => ?_) AllReadyH.nil
  go_simp
  refine (HC.out _ _ _ _ (g1.fact 8 rfl) (g1.roInts 7 rfl) (g1.ownInts 0 rfl)).mono ?_
  rintro (e : Ending) w4 ⟨u4, rfl, ho4, hb4⟩
  obtain ⟨A6, n6, c6, rfl⟩ := ho4.slice
  have g2 := g1.pushOwn hb4 ho4
  show K _ _
  refine hK.out _ _ ?_ (fun hHeld => ?_)
  · exact ⟨(g2.fact 4 rfl).c6, (g2.fact 3 rfl).c3, (g2.fact 2 rfl).c1, (g2.fact 6 rfl).1, (g2.fact 5 rfl).1⟩
  clear hK K
  try simp only [Act.put, List.setIfInBounds_toArray, List.set_cons_zero, List.set_cons_succ]
  refine anyH_take (v := ?_) 12 rfl (by kernel_rfl) (by kernel_rfl) (by kernel_rfl) (fun _ _ _ h => h) rfl ?_ hHeld ?_
  rotate_left
  · intro w' hSw
    go_simp
    try with_reducible rfl
  try simp only [Act.put, List.setIfInBounds_toArray, List.set_cons_zero, List.set_cons_succ]
  refine anyH_take (v := ?_) 13 rfl (by kernel_rfl) (by kernel_rfl) (by kernel_rfl) (fun _ _ _ h => h) rfl ?_ hHeld ?_
  rotate_left
  · intro w' hSw
    go_simp
    try with_reducible rfl
  try simp only [Act.put, List.setIfInBounds_toArray, List.set_cons_zero, List.set_cons_succ]
  refine anyH_take (v := ?_) 14 rfl (by kernel_rfl) (by kernel_rfl) (by kernel_rfl) (fun _ _ _ h => h) rfl ?_ hHeld ?_
  rotate_left
  · intro w' hSw
    go_simp
    try with_reducible rfl
  try simp only [Act.put, List.setIfInBounds_toArray, List.set_cons_zero, List.set_cons_succ]
  refine anyH_take (v := ?_) 15 rfl (by kernel_rfl) (by kernel_rfl) (by kernel_rfl) (fun _ _ _ h => h) rfl ?_ hHeld ?_
  rotate_left
  · intro w' hSw
    go_simp
    try with_reducible rfl
  try simp only [Act.put, List.setIfInBounds_toArray, List.set_cons_zero, List.set_cons_succ]
  refine anyH_take (v := ?_) 16 rfl (by kernel_rfl) (by kernel_rfl) (by kernel_rfl) (fun _ _ _ h => h) rfl ?_ hHeld ?_
  rotate_left
  · intro w' hSw
    go_simp
    try with_reducible rfl
  try simp only [Act.put, List.setIfInBounds_toArray, List.set_cons_zero, List.set_cons_succ]
  refine wpAnyH_done (by kernel_rfl) ?_ _
  clear hHeld
  go_wp2
  go_ret
  exact ⟨_, rfl, g2.own 0 rfl, g2.below⟩
theorem chgTable_any (p : Int) (n : Nat) (T : List Int) (S : List (List Int)) (bx by' bz : Nat) (fr : Bool) (vr vp t v : Value) (w : World) (hx : AtL w bx [.bool fr, .int .i64 p, .int .i64 n, .int .i64 n, vr, vp]) (hy : AtL w by' [.int .i64 p, .int .i64 n, t]) (hz : AtL w bz [v])
    (hr : IntRows w vr (reduceL p (n + S.length) (besL S)).1) (hq : Ints w vp (pivI (pivL p n S))) (ht : Ints w t T) (hv : IntRows w v S) (hT : T.length = n * n * n) (hW : Wf p n S) (hl : S.length = n) (hn : n ≤ 28) (hP : isPrime p = true) (rT : resid p T = true) (hrk : rankL p n S = n) :
    Calls Try.prog 76 #[.int .i64 p, .int .i64 n, .func (.func 77) #[] #[.pointer (some ⟨bx, 0, none⟩), .pointer (some ⟨by', 0, none⟩), .pointer (some ⟨bz, 0, none⟩)]] w (RetAlg w p n (tbL p n (cbF p n T S))) := by
  obtain ⟨b1, b2⟩ := isPrime_bd hP
  refine tableBy_any p n (cbF p n T S) _ _ (fun _ _ => rfl) w (fun W i j hj hi hk hs => ?_) (fun i j hj hi => ?_) hn b1 b2
  · have hk2 : ∀ q : Addr, q.block < w.heap.size → W.cell? q = w.cell? q := fun q hq => World.cell?_of_block (hk q.block hq)
    exact (chgFn_any p n T S bx by' bz i j fr vr vp t v W (hx.keep hk) (hy.keep hk) (hz.keep hk) (hr.keep hk2) (hq.keep hk2) (ht.keep hk2) (hv.keep hk2) hT hW hl hn hP rT hi (by omega)).mono fun e w' ⟨u, h1, h2, h3⟩ => ⟨u, h1, .inr h2, h3⟩
  · have := cooL_cod hP hW (length_braL T (rowOf S i) (rowOf S j) n p) (resid_braL T _ _ n b1) (sp_all hP hW hrk _)
    exact ⟨by rw [cbF, this.len, hl]; exact Nat.le_refl _, this.res⟩
end Go.Proofs.Ytechjmckfedblaa
