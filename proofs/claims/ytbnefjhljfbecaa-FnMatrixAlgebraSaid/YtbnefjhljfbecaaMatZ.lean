/- AlgebraOfMatrices of the program: the closure, the table. AlgebraOfMatrices of the program: the walk. -/
import Derived.Test.YtbnefjhljfbecaaMatY
import Derived.Test.YtbnefjhljfbecaaTabW
import Derived.Test.YtbnefjhljfbecaaCds
import Derived.Test.YtbnefjhljfbecaaComW
import Derived.Test.YtbnefjhljfbecaaRowB
import Derived.Test.YtbnefjhljfbecaaFlt
import Derived.Test.YtbnefjhljfbecaaAtL
namespace Go.Proofs.Ytbnefjhljfbecaa
set_option maxRecDepth 100000
section
open Go.RowKit
namespace Mx

theorem MtAt.four {w : World} {b o : Nat} {p : Int} {s : Nat} {D : List Int} {u : Value} (h : MtAt w b o ⟨p, s, s, D⟩ u) : w.cell? ⟨b, o, none⟩ = some (.int .i64 p) ∧ w.cell? ⟨b, o + 1, none⟩ = some (.int .i64 s) ∧ w.cell? ⟨b, o + 2, none⟩ = some (.int .i64 s) ∧ w.cell? ⟨b, o + 3, none⟩ = some u := ⟨h.1, h.2.1, h.2.2.1, h.2.2.2.1⟩
set_option maxHeartbeats 4000000 in
theorem amFn_st {w0 W : World} {L : List It} (p : Int) (s : Nat) (S : List (List Int)) (ms : List Mt) (v vr vp : Value) (us : List Value) (fr b : Bool) (bf bx bz a0 a1 a2 a3 a4 i j : Nat) (h : St w0 W L) (hv : MatsR w0 v ms)
    (i0 : L[a0]? = some (.box bf [.bool b])) (i1 : L[a1]? = some (.box bx [.bool fr, .int .i64 p, .int .i64 ((s * s : Nat) : Int), .int .i64 S.length, vr, vp])) (i2 : L[a2]? = some (.box bz [v])) (i3 : L[a3]? = some (rowsIt vr us (reduceL p (s * s + S.length) (besL S)).1)) (i4 : L[a4]? = some (.own vp (pivI (pivL p (s * s) S))))
    (hul : us.length = (reduceL p (s * s + S.length) (besL S)).1.length) (hP : isPrime p = true) (hs : s ≤ 3) (hS : Wf p (s * s) S) (hml : ms.length = S.length) (hM : ∀ (i : Nat) (h : i < ms.length), ms[i] = ⟨p, s, s, rowOf S i⟩) (hn : S.length ≤ 28) (hi : i < S.length) (hj : j < S.length) :
    Calls Try.prog 26 #[.int .i64 i, .int .i64 j, .pointer (some ⟨bz, 0, none⟩), .pointer (some ⟨bx, 0, none⟩), .pointer (some ⟨bf, 0, none⟩)] W fun e W' => ∃ u, e = .returned u ∧ St w0 W' (.own u (cooL p (s * s) S (comD p s (rowOf S i) (rowOf S j))) :: L.set a0 (.box bf [.bool (b && okM p s S i j)])) := by
  obtain ⟨b1, b2⟩ := isPrime_bd hP
  have hss : s * s ≤ 9 := Nat.mul_le_mul hs hs
  obtain ⟨A, k0, rfl, _, _, _⟩ := id hv
  obtain ⟨A3, n3, c3, rfl⟩ := (h.own a4 i4).slice
  obtain ⟨A4, n4, c4, rfl⟩ := h.rowsSlice a3 i3 hul
  have him : i < ms.length := by omega
  have hjm : j < ms.length := by omega
  obtain ⟨bb, off, A9, c9, rfl, hmf⟩ := hv.at (i := i) him
  obtain ⟨bb2, off2, A10, c10, hA, hmg⟩ := hv.at (i := j) hjm
  simp only [Option.some.injEq, Addr.mk.injEq, and_true] at hA
  obtain ⟨rfl, rfl⟩ := hA
  rw [hM i him] at hmf
  rw [hM j hjm] at hmg
  have hwi := hS i hi
  have hwj := hS j hj
  have hmlt : ms.length ≤ 28 := by omega
  have C1 := fun (W : World) (t u : Value) (ht : Ints W t (rowOf S i)) (hu : Ints W u (rowOf S j)) => CommutatorI_any p s t u (rowOf S i) (rowOf S j) W ht hu hP (by omega) hwi.1 hwj.1 hwi.2 hwj.2
  have hcd := comD_ok b1 s (rowOf S i) (rowOf S j)
  obtain ⟨E, hE⟩ : ∃ E, E = comD p s (rowOf S i) (rowOf S j) := ⟨_, rfl⟩
  have hok : okM p s S i j = cooB p (s * s) S E := by rw [okM, hE]
  rw [← hE] at hcd C1 ⊢
  have C2 := fun (W : World) (v0 v1 v2 : Value) (x0 : IntRows W v0 (reduceL p (s * s + S.length) (besL S)).1) (x1 : Ints W v1 (pivI (pivL p (s * s) S))) (x2 : Ints W v2 E) => coords_any p (s * s) S fr v0 v1 v2 E W x0 x1 x2 hS hcd.1 hcd.2 (by omega) (by omega) hP
  obtain ⟨m2, hm2⟩ : ∃ m2, m2 = s * s := ⟨_, rfl⟩
  rw [← hm2] at C2 i1 i3 i4 hul hok ⊢
  obtain ⟨X, hX⟩ : ∃ X, X = cooL p m2 S E := ⟨_, rfl⟩
  obtain ⟨q, hq⟩ : ∃ q, q = cooB p m2 S E := ⟨_, rfl⟩
  rw [← hX, ← hq] at C2
  rw [hok, ← hX, ← hq]
  obtain ⟨Rd, hRd⟩ : ∃ Rd, Rd = (reduceL p (m2 + S.length) (besL S)).1 := ⟨_, rfl⟩
  rw [← hRd] at C2 i3 hul
  obtain ⟨pl, hpl⟩ : ∃ pl, pl = pivI (pivL p m2 S) := ⟨_, rfl⟩
  rw [← hpl] at C2 i4
  obtain ⟨n, hnn⟩ : ∃ n, n = S.length := ⟨_, rfl⟩
  rw [← hnn] at C2 i1 hi hj
  obtain ⟨l, hl⟩ : ∃ l, l = ms.length := ⟨_, rfl⟩
  rw [← hl] at i2 him hjm hmlt
  have hlen : (rowOf S i).length = m2 ∧ (rowOf S j).length = m2 := by rw [hm2]; exact ⟨hwi.1, hwj.1⟩
  obtain ⟨Di, hDi⟩ : ∃ Di, Di = rowOf S i := ⟨_, rfl⟩
  obtain ⟨Dj, hDj⟩ : ∃ Dj, Dj = rowOf S j := ⟨_, rfl⟩
  rw [← hDi, ← hDj] at C1
  rw [← hDi] at hmf hlen
  rw [← hDj] at hmg hlen
  have e1 : (Mt.mk p s s Di).d.length = m2 := hlen.1
  have e2 : (Mt.mk p s s Dj).d.length = m2 := hlen.2
  rw [e1] at hmf
  rw [e2] at hmg
  have K1 := Lib.hid C1
  have K2 := Lib.hid C2
  have HUL := Lib.hid hul
  have h1 := ((h.pushOld hmf.fact).pushOld hmg.fact)
  have ii : (i : Int) < (l : Int) := by omega
  have jj : (j : Int) < (l : Int) := by omega
  clear hv hmf hmg hwi hwj C1 C2 hcd hE hok hX hq hRd hpl hnn hl hDi hDj hlen e1 e2 hS hM hml hul hP hm2 h him hjm hss hn
  go_enter Try.func26, Try.ntmps26
  go_upto_region 1 with fail
  go_cut [8, 9] (fun s8 s9 wx => ∃ (B : Nat) (A7 : Option Addr) (n7 c7 : Nat), s8 = .pointer (some ⟨B, 0, none⟩) ∧ s9 = .bool true ∧ St w0 wx (.box B [.int .i64 p, .int .i64 s, .int .i64 s, .slice A7 n7 c7] :: .own (.slice A7 n7 c7) E :: L))
  case first =>
    have g := h1.drew
    clear h1
    refine wp_region_cut (S := fun w' => w'.cell? ⟨bz, 0, none⟩ = some (.slice (some ⟨bb, off, none⟩) l k0) ∧ (w'.cell? ⟨bb, off + i * 4, none⟩ = some (.int .i64 p) ∧ w'.cell? ⟨bb, off + i * 4 + 1, none⟩ = some (.int .i64 s) ∧ w'.cell? ⟨bb, off + i * 4 + 2, none⟩ = some (.int .i64 s) ∧ w'.cell? ⟨bb, off + i * 4 + 3, none⟩ = some (.slice A9 m2 c9)) ∧ (w'.cell? ⟨bb, off + j * 4, none⟩ = some (.int .i64 p) ∧ w'.cell? ⟨bb, off + j * 4 + 1, none⟩ = some (.int .i64 s) ∧ w'.cell? ⟨bb, off + j * 4 + 2, none⟩ = some (.int .i64 s) ∧ w'.cell? ⟨bb, off + j * 4 + 3, none⟩ = some (.slice A10 m2 c10))) 14 (by kernel_rfl) (by kernel_rfl) ⟨g.cell (a2 + 2) i2 0 rfl, (MtAt.four (g.fact 1 rfl)), (MtAt.four (g.fact 0 rfl))⟩ (fun hHeld => ?_)
    simp only [List.take_succ_cons, List.take_zero]
    generalize World.drew _ = v0 at g hHeld ⊢
    refine anyH_take (v := ?_) 0 rfl (by kernel_rfl) (by kernel_rfl) (by kernel_rfl) (fun _ _ _ h => h) rfl ?_ hHeld ?_
    rotate_left
    · intro w' hSw
      go_simp
      try with_reducible rfl
    try simp only [Act.put, List.setIfInBounds_toArray, List.set_cons_zero, List.set_cons_succ]
    refine anyH_take (v := ?_) 1 rfl (by kernel_rfl) (by kernel_rfl) (by kernel_rfl) (fun _ _ _ h => h) rfl ?_ hHeld ?_
    rotate_left
    · intro w' hSw
      go_simp
      try with_reducible rfl
    try simp only [Act.put, List.setIfInBounds_toArray, List.set_cons_zero, List.set_cons_succ]
    refine anyH_take (v := ?_) 2 rfl (by kernel_rfl) (by kernel_rfl) (by kernel_rfl) (fun _ _ _ h => h) rfl ?_ hHeld ?_
    rotate_left
    · intro w' hSw
      go_simp
      try with_reducible rfl
    try simp only [Act.put, List.setIfInBounds_toArray, List.set_cons_zero, List.set_cons_succ]
    refine anyH_take (v := ?_) 3 rfl (by kernel_rfl) (by kernel_rfl) (by kernel_rfl) (fun _ _ _ h => h) rfl ?_ hHeld ?_
    rotate_left
    · intro w' hSw
      go_simp
      try with_reducible rfl
    try simp only [Act.put, List.setIfInBounds_toArray, List.set_cons_zero, List.set_cons_succ]
    refine anyH_take (v := ?_) 4 rfl (by kernel_rfl) (by kernel_rfl) (by kernel_rfl) (fun _ _ _ h => h) rfl ?_ hHeld ?_
    rotate_left
    · intro w' hSw
      go_simp
      try with_reducible rfl
    try simp only [Act.put, List.setIfInBounds_toArray, List.set_cons_zero, List.set_cons_succ]
    refine anyH_take (v := ?_) 5 rfl (by kernel_rfl) (by kernel_rfl) (by kernel_rfl) (fun _ _ _ h => h) rfl ?_ hHeld ?_
    rotate_left
    · intro w' hSw
      go_simp
      try with_reducible rfl
    try simp only [Act.put, List.setIfInBounds_toArray, List.set_cons_zero, List.set_cons_succ]
    refine anyH_take (v := ?_) 6 rfl (by kernel_rfl) (by kernel_rfl) (by kernel_rfl) (fun _ _ _ h => h) rfl ?_ hHeld ?_
    rotate_left
    · intro w' hSw
      go_simp
      try with_reducible rfl
    try simp only [Act.put, List.setIfInBounds_toArray, List.set_cons_zero, List.set_cons_succ]
    refine anyH_take (v := ?_) 7 rfl (by kernel_rfl) (by kernel_rfl) (by kernel_rfl) (fun _ _ _ h => h) rfl ?_ hHeld ?_
    rotate_left
    · intro w' hSw
      go_simp
      try with_reducible rfl
    try simp only [Act.put, List.setIfInBounds_toArray, List.set_cons_zero, List.set_cons_succ]
    refine wpAnyH_ready (rs := [8, 12]) (by kernel_rfl) (by simp) ?_
    refine ready_cons rfl (fun K hK => ?_) (ready_cons rfl (fun K hK => ?_) AllReadyH.nil)
    · go_simp
      refine (K1.out _ _ _ (g.fact 1 rfl).2.2.2.2 (g.fact 0 rfl).2.2.2.2).mono ?_
      rintro (e : Ending) w3 ⟨u3, rfl, ho3, hb3⟩
      obtain ⟨A7, n7, c7, rfl⟩ := ho3.slice
      replace g := g.pushOwn hb3 ho3
      show K _ _
      refine hK.out _ _ ?_ (fun hHeld => ?_)
      · exact ⟨g.cell (a2 + 3) i2 0 rfl, (MtAt.four (g.fact 2 rfl)), (MtAt.four (g.fact 1 rfl))⟩
      clear hK K
      try simp only [Act.put, List.setIfInBounds_toArray, List.set_cons_zero, List.set_cons_succ]
      refine anyH_take (v := ?_) 9 rfl (by kernel_rfl) (by kernel_rfl) (by kernel_rfl) (fun _ _ _ h => h) rfl ?_ hHeld ?_
      rotate_left
      · intro w' hSw
        go_simp
        try with_reducible rfl
      try simp only [Act.put, List.setIfInBounds_toArray, List.set_cons_zero, List.set_cons_succ]
      refine anyH_take (v := ?_) 10 rfl (by kernel_rfl) (by kernel_rfl) (by kernel_rfl) (fun _ _ _ h => h) rfl ?_ hHeld ?_
      rotate_left
      · intro w' hSw
        go_simp
        try with_reducible rfl
      try simp only [Act.put, List.setIfInBounds_toArray, List.set_cons_zero, List.set_cons_succ]
      refine anyH_take (v := ?_) 11 rfl (by kernel_rfl) (by kernel_rfl) (by kernel_rfl) (fun _ _ _ h => h) rfl ?_ hHeld ?_
      rotate_left
      · intro w' hSw
        go_simp
        try with_reducible rfl
      try simp only [Act.put, List.setIfInBounds_toArray, List.set_cons_zero, List.set_cons_succ]
      refine wpAnyH_ready (rs := [12]) (by kernel_rfl) (by simp) ?_
      refine ready_cons rfl (fun K hK => ?_) AllReadyH.nil
      go_simp
      have g1 := g.box [.int .i64 0, .int .i64 0, .int .i64 0, .slice none 0 0] 35
      refine hK.out _ _ ?_ (fun hHeld => ?_)
      · exact ⟨g1.cell (a2 + 4) i2 0 rfl, (MtAt.four (g1.fact 3 rfl)), (MtAt.four (g1.fact 2 rfl))⟩
      clear hK K
      try simp only [Act.put, List.setIfInBounds_toArray, List.set_cons_zero, List.set_cons_succ]
      generalize World.alloc _ _ = va at g1 hHeld ⊢
      obtain ⟨p0, p1, p2, p3⟩ := g1.box4 0 rfl
      have f0 := g1.free 0 rfl 0
      have f1 := g1.free 0 rfl 1
      have f2 := g1.free 0 rfl 2
      have f3 := g1.free 0 rfl 3
      have g4 := (((g1.setBox 0 rfl 0 (.int .i64 p)).setBox 0 rfl 1 (.int .i64 s)).setBox 0 rfl 2 (.int .i64 s)).setBox 0 rfl 3 (.slice A7 n7 c7)
      obtain ⟨r0, r1, r2, r3⟩ := g4.box4 0 rfl
      refine wpAnyH_ready (rs := [13]) (by kernel_rfl) (by simp) ?_
      refine ready_cons rfl (fun K hK => ?_) AllReadyH.nil
      go_simp
      refine hK.out _ _ ?_ (fun hHeld => ?_)
      · exact ⟨g4.cell (a2 + 4) i2 0 rfl, (MtAt.four (g4.fact 3 rfl)), (MtAt.four (g4.fact 2 rfl))⟩
      clear hK K
      try simp only [Act.put, List.setIfInBounds_toArray, List.set_cons_zero, List.set_cons_succ]
      refine wpAnyH_done (by kernel_rfl) ?_ _
      show wpList _ _ _ _ _ _
      simp only [List.drop_succ_cons, List.drop_zero]
      clear hHeld
      go_wp2
      go_meet
      exact ⟨_, A7, n7, c7, rfl, rfl, (g4.erase 2).erase 2⟩
    · go_simp
      replace g := g.box [.int .i64 0, .int .i64 0, .int .i64 0, .slice none 0 0] 35
      refine hK.out _ _ ?_ (fun hHeld => ?_)
      · exact ⟨g.cell (a2 + 3) i2 0 rfl, (MtAt.four (g.fact 2 rfl)), (MtAt.four (g.fact 1 rfl))⟩
      clear hK K
      generalize World.alloc _ _ = va at g hHeld ⊢
      try simp only [Act.put, List.setIfInBounds_toArray, List.set_cons_zero, List.set_cons_succ]
      refine wpAnyH_ready (rs := [8]) (by kernel_rfl) (by simp) ?_
      refine ready_cons rfl (fun K hK => ?_) AllReadyH.nil
      go_simp
      refine (K1.out _ _ _ (g.fact 2 rfl).2.2.2.2 (g.fact 1 rfl).2.2.2.2).mono ?_
      rintro (e : Ending) w3 ⟨u3, rfl, ho3, hb3⟩
      obtain ⟨A7, n7, c7, rfl⟩ := ho3.slice
      have g1 := g.pushOwn hb3 ho3
      show K _ _
      refine hK.out _ _ ?_ (fun hHeld => ?_)
      · exact ⟨g1.cell (a2 + 4) i2 0 rfl, (MtAt.four (g1.fact 3 rfl)), (MtAt.four (g1.fact 2 rfl))⟩
      clear hK K
      try simp only [Act.put, List.setIfInBounds_toArray, List.set_cons_zero, List.set_cons_succ]
      refine anyH_take (v := ?_) 9 rfl (by kernel_rfl) (by kernel_rfl) (by kernel_rfl) (fun _ _ _ h => h) rfl ?_ hHeld ?_
      rotate_left
      · intro w' hSw
        go_simp
        try with_reducible rfl
      try simp only [Act.put, List.setIfInBounds_toArray, List.set_cons_zero, List.set_cons_succ]
      refine anyH_take (v := ?_) 10 rfl (by kernel_rfl) (by kernel_rfl) (by kernel_rfl) (fun _ _ _ h => h) rfl ?_ hHeld ?_
      rotate_left
      · intro w' hSw
        go_simp
        try with_reducible rfl
      try simp only [Act.put, List.setIfInBounds_toArray, List.set_cons_zero, List.set_cons_succ]
      refine anyH_take (v := ?_) 11 rfl (by kernel_rfl) (by kernel_rfl) (by kernel_rfl) (fun _ _ _ h => h) rfl ?_ hHeld ?_
      rotate_left
      · intro w' hSw
        go_simp
        try with_reducible rfl
      try simp only [Act.put, List.setIfInBounds_toArray, List.set_cons_zero, List.set_cons_succ]
      obtain ⟨p0, p1, p2, p3⟩ := g1.box4 1 rfl
      have f0 := g1.free 1 rfl 0
      have f1 := g1.free 1 rfl 1
      have f2 := g1.free 1 rfl 2
      have f3 := g1.free 1 rfl 3
      have g4 := (((g1.setBox 1 rfl 0 (.int .i64 p)).setBox 1 rfl 1 (.int .i64 s)).setBox 1 rfl 2 (.int .i64 s)).setBox 1 rfl 3 (.slice A7 n7 c7)
      obtain ⟨r0, r1, r2, r3⟩ := g4.box4 1 rfl
      refine wpAnyH_ready (rs := [13]) (by kernel_rfl) (by simp) ?_
      refine ready_cons rfl (fun K hK => ?_) AllReadyH.nil
      go_simp
      refine hK.out _ _ ?_ (fun hHeld => ?_)
      · exact ⟨g4.cell (a2 + 4) i2 0 rfl, (MtAt.four (g4.fact 3 rfl)), (MtAt.four (g4.fact 2 rfl))⟩
      clear hK K
      try simp only [Act.put, List.setIfInBounds_toArray, List.set_cons_zero, List.set_cons_succ]
      refine wpAnyH_done (by kernel_rfl) ?_ _
      show wpList _ _ _ _ _ _
      simp only [List.drop_succ_cons, List.drop_zero]
      clear hHeld
      go_wp2
      go_meet
      exact ⟨_, A7, n7, c7, rfl, rfl, ((g4.toFront 1 rfl).erase 2).erase 2⟩
  case rest =>
    obtain ⟨B, A7, n7, c7, rfl, rfl, g⟩ := hcut
    obtain ⟨y0, y1, y2, y3⟩ := g.box4 0 rfl
    obtain ⟨z0, z1, z2, z3, z4, z5⟩ := g.box6 (a1 + 2) i1
    clear h1
    go_wp2_with fail
    refine (K2.out _ _ _ _ (g.rowsR (a3 + 2) i3 HUL.out) (g.ownInts (a4 + 2) i4) (g.ownInts 1 rfl)).mono ?_
    rintro (e : Ending) w4 ⟨u4, rfl, ho4, hb4⟩
    obtain ⟨A8, n8, c8, rfl⟩ := ho4.slice
    have g2 := g.pushOwn hb4 ho4
    clear y0 y1 y2 y3 z0 z1 z2 z3 z4 z5 ho4 hb4 g
    cases b with
    | false =>
      have x0 := g2.box1 (a0 + 3) i0
      have f0 := g2.free (a0 + 3) i0 0
      have g3 := g2.setBox (a0 + 3) i0 0 (.bool false)
      go_wp2
      go_ret
      exact ⟨_, rfl, (g3.erase 1).erase 1⟩
    | true =>
      have x0 := g2.box1 (a0 + 3) i0
      have f0 := g2.free (a0 + 3) i0 0
      have g3 := g2.setBox (a0 + 3) i0 0 (.bool q)
      go_wp2
      go_ret
      exact ⟨_, rfl, (g3.erase 1).erase 1⟩
theorem at_app {α : Type} (L M : List α) (k : Nat) {x : α} (h : M[k]? = some x) : (L ++ M)[L.length + k]? = some x := by
  rw [List.getElem?_append_right (by omega), Nat.add_sub_cancel_left]; exact h
theorem set_app {α : Type} (L M : List α) (x y : α) : (L ++ y :: M).set L.length x = L ++ x :: M := by simp
/-- The table, the captured flag along. -/
theorem amTable_st {w0 W : World} {M : List It} (p : Int) (s : Nat) (S : List (List Int)) (ms : List Mt) (v vr vp : Value) (us : List Value) (fr : Bool) (bf bx bz : Nat) (hv : MatsR w0 v ms)
    (h : St w0 W (.box bf [.bool (decide ((pivL p (s * s) S).length = S.length))] :: .box bx [.bool fr, .int .i64 p, .int .i64 ((s * s : Nat) : Int), .int .i64 S.length, vr, vp] :: .own vp (pivI (pivL p (s * s) S)) :: rowsIt vr us (reduceL p (s * s + S.length) (besL S)).1 :: .box bz [v] :: M))
    (hul : us.length = (reduceL p (s * s + S.length) (besL S)).1.length) (hP : isPrime p = true) (hs : s ≤ 3) (hS : Wf p (s * s) S) (hml : ms.length = S.length) (hM : ∀ (i : Nat) (h : i < ms.length), ms[i] = ⟨p, s, s, rowOf S i⟩) (hn : S.length ≤ 28) :
    Calls Try.prog 25 #[.int .i64 p, .int .i64 S.length, .func (.func 26) #[] #[.pointer (some ⟨bz, 0, none⟩), .pointer (some ⟨bx, 0, none⟩), .pointer (some ⟨bf, 0, none⟩)]] W fun e W' =>
      ∃ u, e = .returned (.agg #[.int .i64 p, .int .i64 S.length, u]) ∧ St w0 W' (.own u (maT p s S) :: .box bf [.bool (fine p s S)] :: .box bx [.bool fr, .int .i64 p, .int .i64 ((s * s : Nat) : Int), .int .i64 S.length, vr, vp] :: .own vp (pivI (pivL p (s * s) S)) :: rowsIt vr us (reduceL p (s * s + S.length) (besL S)).1 :: .box bz [v] :: M) := by
  obtain ⟨b1, b2⟩ := isPrime_bd hP
  rw [← fiX_zero] at h
  exact tableBy_st p S.length (maF p s S) _ _ (fun _ _ => rfl) (fun i j => .box bf [.bool (fiX p s S i j)] :: .box bx [.bool fr, .int .i64 p, .int .i64 ((s * s : Nat) : Int), .int .i64 S.length, vr, vp] :: .own vp (pivI (pivL p (s * s) S)) :: rowsIt vr us (reduceL p (s * s + S.length) (besL S)).1 :: .box bz [v] :: M) h
    (fun i => by simp only [fiX_next])
    (fun W' L i j hj hi hL => (amFn_st p s S ms v vr vp us fr (fiX p s S i j) bf bx bz L.length (L.length + 1) (L.length + 4) (L.length + 3) (L.length + 2) i j hL hv (at_app L _ 0 rfl) (at_app L _ 1 rfl) (at_app L _ 4 rfl) (at_app L _ 3 rfl) (at_app L _ 2 rfl) hul hP hs hS hml hM hn hi (by omega)).mono fun e w' ⟨u, e1, e2⟩ =>
      ⟨u, _, e1, .inr rfl, by
        rw [set_app, ← fiX_step] at e2
        exact e2⟩)
    (fun i j hj hi => ⟨by rw [show (maF p s S i j).length = S.length from (length_cooL hP hS _).1]; exact Nat.le_refl _, (length_cooL hP hS _).2⟩) hn b1 b2
end Mx
end
section
open Go.RowKit
namespace Mx

/-- What AlgebraOfMatrices leaves. -/
def RetAM (w : World) (p : Int) (n : Nat) (T : List Int) (b : Bool) (e : Ending) (w' : World) : Prop :=
  if b = true then RetAlgB w p n T true e w' else RetAlgB w 0 0 [] false e w'
/-- Matrices s x s over one prime. -/
def GoodMs (p : Int) (s : Nat) (ms : List Mt) : Prop := ∀ m ∈ ms, m.p = p ∧ m.r = s ∧ m.c = s ∧ m.d.length = s * s ∧ resid p m.d = true
theorem GoodMs.get {p : Int} {s : Nat} {ms : List Mt} (h : GoodMs p s ms) (i : Nat) (hi : i < ms.length) : ms[i] = ⟨p, s, s, rowOf (ms.map Mt.d) i⟩ := by
  obtain ⟨h1, h2, h3, -, -⟩ := h ms[i] (List.getElem_mem hi)
  have e : rowOf (ms.map Mt.d) i = ms[i].d := by simp [rowOf, List.getD_eq_getElem?_getD, hi]
  rw [e]
  cases hm : ms[i] with
  | mk a b c d =>
    rw [hm] at h1 h2 h3
    simp only at h1 h2 h3
    subst h1 h2 h3
    rfl
theorem GoodMs.wf {p : Int} {s : Nat} {ms : List Mt} (h : GoodMs p s ms) : Wf p (s * s) (ms.map Mt.d) := fun i hi => by
  rw [List.length_map] at hi
  obtain ⟨-, -, -, h4, h5⟩ := h ms[i] (List.getElem_mem hi)
  have e : rowOf (ms.map Mt.d) i = ms[i].d := by simp [rowOf, List.getD_eq_getElem?_getD, hi]
  rw [e]
  exact ⟨h4, h5⟩
theorem ds_take {S : List (List Int)} {i : Nat} (hi : i < S.length) : S.take (i + 1) = S.take i ++ [rowOf S i] := by
  rw [List.take_succ_eq_append_getElem hi, rowOf_eq hi]

set_option maxHeartbeats 8000000 in
theorem AlgebraOfMatricesI_any (p : Int) (s : Nat) (v : Value) (ms : List Mt) (w : World) (hv : MatsR w v ms) (hP : isPrime p = true) (hs : s ≤ 3) (hG : GoodMs p s ms) (hn1 : 1 ≤ ms.length) (hn : ms.length ≤ 28) :
    Calls Try.prog 6 #[v] w (RetAM w p ms.length (maT p s (ms.map Mt.d)) (fine p s (ms.map Mt.d))) := by
  obtain ⟨b1, b2⟩ := isPrime_bd hP
  have hss : s * s ≤ 9 := Nat.mul_le_mul hs hs
  have hS := hG.wf
  have hM := hG.get
  have hSl : (ms.map Mt.d).length = ms.length := List.length_map _
  obtain ⟨S, hSd⟩ : ∃ S, S = ms.map Mt.d := ⟨_, rfl⟩
  rw [← hSd] at hS hM hSl ⊢
  obtain ⟨A, k0, rfl, _, _, _⟩ := id hv
  have h0m : 0 < ms.length := by omega
  obtain ⟨bb, off, A0, c0, rfl, hm0⟩ := hv.at (i := 0) h0m
  rw [hM 0 h0m] at hm0
  have HK0 := hm0.fact
  have hTb := fun (W : World) (M : List It) (vr vp : Value) (us : List Value) (fr : Bool) (bf bx bz : Nat) h hul => amTable_st (w0 := w) (W := W) (M := M) p s S ms (.slice (some ⟨bb, off, none⟩) ms.length k0) vr vp us fr bf bx bz hv h hul hP hs hS hSl.symm hM (by omega)
  have hNb := fun (W : World) (v : Value) (x1 : IntRows W v S) => newBasis_any p (s * s) v S W x1 hS (by omega) (by omega) hP
  unfold RetBas at hNb
  have hW := fun (i : Nat) (hi : i < S.length) => hS i hi
  have HMk := Lib.hid (fun (W : World) (a : Value) (D : List Int) (ha : Ints W a D) (hD : D.length = s * s) (rD : resid p D = true) => by
    have := MatrixOkI_any p s s a D W ha (by omega)
    rwa [matOk_of hP (by omega) hD rD] at this)
  obtain ⟨fr, hfr⟩ : ∃ fr, fr = decide ((pivL p (s * s) S).length = S.length) := ⟨_, rfl⟩
  obtain ⟨Rd, hRd⟩ : ∃ Rd, Rd = (reduceL p (s * s + S.length) (besL S)).1 := ⟨_, rfl⟩
  obtain ⟨pl, hpl⟩ : ∃ pl, pl = pivI (pivL p (s * s) S) := ⟨_, rfl⟩
  obtain ⟨T, hT⟩ : ∃ T, T = maT p s S := ⟨_, rfl⟩
  obtain ⟨fi, hfi⟩ : ∃ fi, fi = fine p s S := ⟨_, rfl⟩
  rw [← hfr, ← hRd, ← hpl] at hNb hTb
  rw [← hT, ← hfi] at hTb ⊢
  obtain ⟨m2, hm2⟩ : ∃ m2, m2 = s * s := ⟨_, rfl⟩
  rw [← hm2] at hNb hTb hss hW
  rw [← hm2] at HMk
  obtain ⟨n, hnn⟩ : ∃ n, n = ms.length := ⟨_, rfl⟩
  rw [← hnn] at hSl hTb hv hn hn1 h0m ⊢
  rw [hSl] at hNb hTb
  have h1 := ((((St.start w).pushOld HK0).box [.slice (some ⟨bb, off, none⟩) n k0] 24).box [.int .i64 0, .int .i64 0, .slice none 0 0] 28).emptyRb
  simp only [World.size_alloc] at h1
  have HS := Lib.hid hSl
  have HV := Lib.hid hv
  have HM := Lib.hid hM
  have HW := Lib.hid hW
  have HTb := Lib.hid hTb
  have HNb := Lib.hid hNb
  have Hnn := Lib.hid hnn
  obtain ⟨Po, hPo⟩ : ∃ Po : Ending → World → Prop, Po = RetAM w p n T fi := ⟨_, rfl⟩
  rw [← hPo]
  have HPo := Lib.hid hPo
  have t1 : (p != p) = false := by simp
  have t2 : ((s : Int) != (s : Int)) = false := by simp
  have i0 : (0 : Int) < (n : Int) := by omega
  have i00 : 0 < n := by omega
  have hin : inR (n : Int) 1 28 = true := inR_true (by omega) (by omega)
  have hz : 0 + 0 * 4 = 0 := rfl
  clear hz hm0 hTb hNb hW hfr hRd hpl hT hfi hm2 hnn hSl hS hM hG hv hPo hSd HK0 h0m
  go_enter Try.func6, Try.ntmps6
  go_wp2_with (go_at_call 22; refine (inside_any _ _ _ _).mono ?_; rintro (e : Ending) w' ⟨rfl, rfl⟩)
  go_loopw [4, 6, 19] (fun v4 _ v19 wr => ∃ (i : Nat) (us : List Value), v19 = .int .i64 i ∧ i ≤ n ∧ Hid (RBor w us (S.take i)) ∧ St w wr [rbIt v4 us, .box (w.heap.size + 1) [.int .i64 0, .int .i64 0, .slice none 0 0], .box w.heap.size [.slice (some ⟨bb, off, none⟩) n k0], .fact fun w' => MtAt w' bb (off + 0 * 4) ⟨p, s, s, rowOf S 0⟩ (.slice A0 (rowOf S 0).length c0)]) (fun _ _ v19 _ => n - (intOf v19).toNat)
  case atStart => exact ⟨0, [], rfl, by omega, Lib.hid (by rw [List.take_zero]; exact RBor.nil w), h1⟩
  case round =>
    clear h1
    obtain ⟨i, us, rfl, a1, Hb, g⟩ := hrel
    by_cases hi : i < n
    · have him : i < ms.length := by rw [← Hnn.out]; exact hi
      have hiS : i < S.length := by rw [HS.out]; exact hi
      obtain ⟨bb2, off2, A9, c9, hA, hmf⟩ := HV.out.at (i := i) him
      simp only [Option.some.injEq, Addr.mk.injEq, and_true] at hA
      obtain ⟨rfl, rfl⟩ := hA
      rw [HM.out i him] at hmf
      have hw := HW.out i hiS
      have HN := Lib.hid (ds_take hiS)
      obtain ⟨D, hD⟩ : ∃ D, D = rowOf S i := ⟨_, rfl⟩
      rw [← hD] at hmf hw HN
      have HB2 := Lib.hid (show RBor w (us ++ [Value.slice A9 m2 c9]) (S.take (i + 1)) by
        rw [HN.out]
        have h9 := hmf.2.2.2.2
        rw [show (Mt.mk p s s D).d.length = m2 from hw.1] at h9
        exact Hb.out.snoc h9)
      rw [show (Mt.mk p s s D).d.length = m2 from hw.1] at hmf
      have Hul := Lib.hid (show us.length + 1 ≤ 1099511627776 by rw [Hb.out.1, List.length_take]; omega)
      have g0 := g.pushOld hmf.fact
      have i1 : (i : Int) < (n : Int) := by omega
      obtain ⟨x0, x1, x2, x3⟩ := MtAt.four (g0.fact 0 rfl)
      have g1 := g0.box [.int .i64 p, .int .i64 s, .int .i64 s, .slice A9 m2 c9] 35
      have HMk2 := Lib.hid (fun (W : World) (a : Value) (ha : Ints W a D) => HMk.out W a D ha hw.1 hw.2)
      clear hmf hD hw him hiS g g0 Hb HN
      go_upto_region 7 with fail
      generalize World.alloc _ _ = wa at g1 ⊢
      clear x0 x1 x2 x3
      have g2 := g1.drew
      refine wp_region_held_drew (S := fun w' => (w'.cell? ⟨wr.heap.size, 0, none⟩ = some (.int .i64 p) ∧ w'.cell? ⟨wr.heap.size, 1, none⟩ = some (.int .i64 s) ∧ w'.cell? ⟨wr.heap.size, 2, none⟩ = some (.int .i64 s) ∧ w'.cell? ⟨wr.heap.size, 3, none⟩ = some (.slice A9 m2 c9)) ∧ w'.cell? ⟨w.heap.size, 0, none⟩ = some (.slice (some ⟨bb, off, none⟩) n k0) ∧ w'.cell? ⟨bb, off, none⟩ = some (.int .i64 p) ∧ w'.cell? ⟨bb, off + 1, none⟩ = some (.int .i64 s)) (by kernel_rfl) ⟨g2.box4 0 rfl, g2.box1 4 rfl, (g2.fact 5 rfl).1, (g2.fact 5 rfl).2.1⟩ (fun hHeld => ?_)
      refine anyH_take (v := ?_) 0 rfl (by kernel_rfl) (by kernel_rfl) (by kernel_rfl) (fun _ _ _ h => h) rfl ?_ hHeld ?_
      rotate_left
      · intro w' hSw
        go_simp
        try with_reducible rfl
      try simp only [Act.put, List.setIfInBounds_toArray, List.set_cons_zero, List.set_cons_succ]
      refine wpAnyH_ready (rs := [1]) (by kernel_rfl) (by simp) ?_
      refine ready_cons rfl (fun K hK => ?_) AllReadyH.nil
      go_simp
      refine (HMk2.out _ _ (g2.fact 1 rfl).2.2.2.2).mono ?_
      rintro (e : Ending) w5 ⟨rfl, hb5⟩
      have g3 := g2.on hb5
      show K _ _
      refine hK.out _ _ ?_ (fun hHeld => ?_)
      · exact ⟨g3.box4 0 rfl, g3.box1 4 rfl, (g3.fact 5 rfl).1, (g3.fact 5 rfl).2.1⟩
      clear hK K
      try simp only [Act.put, List.setIfInBounds_toArray, List.set_cons_zero, List.set_cons_succ]
      refine anyH_take (v := ?_) 2 rfl (by kernel_rfl) (by kernel_rfl) (by kernel_rfl) (fun _ _ _ h => h) rfl ?_ hHeld ?_
      rotate_left
      · intro w' hSw
        go_simp
        try with_reducible rfl
      try simp only [Act.put, List.setIfInBounds_toArray, List.set_cons_zero, List.set_cons_succ]
      refine anyH_take (v := ?_) 3 rfl (by kernel_rfl) (by kernel_rfl) (by kernel_rfl) (fun _ _ _ h => h) rfl ?_ hHeld ?_
      rotate_left
      · intro w' hSw
        go_simp
        try with_reducible rfl
      try simp only [Act.put, List.setIfInBounds_toArray, List.set_cons_zero, List.set_cons_succ]
      refine anyH_take (v := ?_) 4 rfl (by kernel_rfl) (by kernel_rfl) (by kernel_rfl) (fun _ _ _ h => h) rfl ?_ hHeld ?_
      rotate_left
      · intro w' hSw
        go_simp
        try with_reducible rfl
      try simp only [Act.put, List.setIfInBounds_toArray, List.set_cons_zero, List.set_cons_succ]
      refine anyH_take (v := ?_) 5 rfl (by kernel_rfl) (by kernel_rfl) (by kernel_rfl) (fun _ _ _ h => h) rfl ?_ hHeld ?_
      rotate_left
      · intro w' hSw
        go_simp
        try with_reducible rfl
      try simp only [Act.put, List.setIfInBounds_toArray, List.set_cons_zero, List.set_cons_succ]
      refine anyH_take (v := ?_) 6 rfl (by kernel_rfl) (by kernel_rfl) (by kernel_rfl) (fun _ _ _ h => h) rfl ?_ hHeld ?_
      rotate_left
      · intro w' hSw
        go_simp
        try with_reducible rfl
      try simp only [Act.put, List.setIfInBounds_toArray, List.set_cons_zero, List.set_cons_succ]
      refine anyH_take (v := ?_) 7 rfl (by kernel_rfl) (by kernel_rfl) (by kernel_rfl) (fun _ _ _ h => h) rfl ?_ hHeld ?_
      rotate_left
      · intro w' hSw
        go_simp
        try with_reducible rfl
      try simp only [Act.put, List.setIfInBounds_toArray, List.set_cons_zero, List.set_cons_succ]
      refine anyH_take (v := ?_) 8 rfl (by kernel_rfl) (by kernel_rfl) (by kernel_rfl) (fun _ _ _ h => h) rfl ?_ hHeld ?_
      rotate_left
      · intro w' hSw
        go_simp
        try with_reducible rfl
      try simp only [Act.put, List.setIfInBounds_toArray, List.set_cons_zero, List.set_cons_succ]
      refine anyH_take (v := ?_) 9 rfl (by kernel_rfl) (by kernel_rfl) (by kernel_rfl) (fun _ _ _ h => h) rfl ?_ hHeld ?_
      rotate_left
      · intro w' hSw
        go_simp
        try with_reducible rfl
      try simp only [Act.put, List.setIfInBounds_toArray, List.set_cons_zero, List.set_cons_succ]
      refine anyH_take (v := ?_) 10 rfl (by kernel_rfl) (by kernel_rfl) (by kernel_rfl) (fun _ _ _ h => h) rfl ?_ hHeld ?_
      rotate_left
      · intro w' hSw
        go_simp
        try with_reducible rfl
      try simp only [Act.put, List.setIfInBounds_toArray, List.set_cons_zero, List.set_cons_succ]
      refine anyH_take (v := ?_) 11 rfl (by kernel_rfl) (by kernel_rfl) (by kernel_rfl) (fun _ _ _ h => h) rfl ?_ hHeld ?_
      rotate_left
      · intro w' hSw
        go_simp
        try with_reducible rfl
      try simp only [Act.put, List.setIfInBounds_toArray, List.set_cons_zero, List.set_cons_succ]
      refine anyH_take (v := ?_) 12 rfl (by kernel_rfl) (by kernel_rfl) (by kernel_rfl) (fun _ _ _ h => h) rfl ?_ hHeld ?_
      rotate_left
      · intro w' hSw
        go_simp
        try with_reducible rfl
      try simp only [Act.put, List.setIfInBounds_toArray, List.set_cons_zero, List.set_cons_succ]
      refine anyH_take (v := ?_) 13 rfl (by kernel_rfl) (by kernel_rfl) (by kernel_rfl) (fun _ _ _ h => h) rfl ?_ hHeld ?_
      rotate_left
      · intro w' hSw
        go_simp
        try with_reducible rfl
      try simp only [Act.put, List.setIfInBounds_toArray, List.set_cons_zero, List.set_cons_succ]
      refine anyH_take (v := ?_) 14 rfl (by kernel_rfl) (by kernel_rfl) (by kernel_rfl) (fun _ _ _ h => h) rfl ?_ hHeld ?_
      rotate_left
      · intro w' hSw
        go_simp
        try with_reducible rfl
      try simp only [Act.put, List.setIfInBounds_toArray, List.set_cons_zero, List.set_cons_succ]
      refine anyH_take (v := ?_) 15 rfl (by kernel_rfl) (by kernel_rfl) (by kernel_rfl) (fun _ _ _ h => h) rfl ?_ hHeld ?_
      rotate_left
      · intro w' hSw
        go_simp
        try with_reducible rfl
      try simp only [Act.put, List.setIfInBounds_toArray, List.set_cons_zero, List.set_cons_succ]
      refine anyH_take (v := ?_) 16 rfl (by kernel_rfl) (by kernel_rfl) (by kernel_rfl) (fun _ _ _ h => h) rfl ?_ hHeld ?_
      rotate_left
      · intro w' hSw
        go_simp
        try with_reducible rfl
      try simp only [Act.put, List.setIfInBounds_toArray, List.set_cons_zero, List.set_cons_succ]
      refine anyH_take (v := ?_) 17 rfl (by kernel_rfl) (by kernel_rfl) (by kernel_rfl) (fun _ _ _ h => h) rfl ?_ hHeld ?_
      rotate_left
      · intro w' hSw
        go_simp
        try with_reducible rfl
      try simp only [Act.put, List.setIfInBounds_toArray, List.set_cons_zero, List.set_cons_succ]
      refine anyH_take (v := ?_) 18 rfl (by kernel_rfl) (by kernel_rfl) (by kernel_rfl) (fun _ _ _ h => h) rfl ?_ hHeld ?_
      rotate_left
      · intro w' hSw
        go_simp
        try with_reducible rfl
      try simp only [Act.put, List.setIfInBounds_toArray, List.set_cons_zero, List.set_cons_succ]
      refine anyH_take (v := ?_) 19 rfl (by kernel_rfl) (by kernel_rfl) (by kernel_rfl) (fun _ _ _ h => h) rfl ?_ hHeld ?_
      rotate_left
      · intro w' hSw
        go_simp
        try with_reducible rfl
      try simp only [Act.put, List.setIfInBounds_toArray, List.set_cons_zero, List.set_cons_succ]
      refine anyH_take (v := ?_) 20 rfl (by kernel_rfl) (by kernel_rfl) (by kernel_rfl) (fun _ _ _ h => h) rfl ?_ hHeld ?_
      rotate_left
      · intro w' hSw
        go_simp
        try with_reducible rfl
      try simp only [Act.put, List.setIfInBounds_toArray, List.set_cons_zero, List.set_cons_succ]
      refine anyH_take (v := ?_) 21 rfl (by kernel_rfl) (by kernel_rfl) (by kernel_rfl) (fun _ _ _ h => h) rfl ?_ hHeld ?_
      rotate_left
      · intro w' hSw
        go_simp
        try with_reducible rfl
      try simp only [Act.put, List.setIfInBounds_toArray, List.set_cons_zero, List.set_cons_succ]
      refine anyH_take (v := ?_) 22 rfl (by kernel_rfl) (by kernel_rfl) (by kernel_rfl) (fun _ _ _ h => h) rfl ?_ hHeld ?_
      rotate_left
      · intro w' hSw
        go_simp
        try with_reducible rfl
      try simp only [Act.put, List.setIfInBounds_toArray, List.set_cons_zero, List.set_cons_succ]
      refine anyH_take (v := ?_) 23 rfl (by kernel_rfl) (by kernel_rfl) (by kernel_rfl) (fun _ _ _ h => h) rfl ?_ hHeld ?_
      rotate_left
      · intro w' hSw
        go_simp
        try with_reducible rfl
      try simp only [Act.put, List.setIfInBounds_toArray, List.set_cons_zero, List.set_cons_succ]
      refine anyH_take (v := ?_) 24 rfl (by kernel_rfl) (by kernel_rfl) (by kernel_rfl) (fun _ _ _ h => h) rfl ?_ hHeld ?_
      rotate_left
      · intro w' hSw
        go_simp
        try with_reducible rfl
      try simp only [Act.put, List.setIfInBounds_toArray, List.set_cons_zero, List.set_cons_succ]
      refine anyH_take (v := ?_) 25 rfl (by kernel_rfl) (by kernel_rfl) (by kernel_rfl) (fun _ _ _ h => h) rfl ?_ hHeld ?_
      rotate_left
      · intro w' hSw
        go_simp
        try with_reducible rfl
      try simp only [Act.put, List.setIfInBounds_toArray, List.set_cons_zero, List.set_cons_succ]
      refine anyH_take (v := ?_) 26 rfl (by kernel_rfl) (by kernel_rfl) (by kernel_rfl) (fun _ _ _ h => h) rfl ?_ hHeld ?_
      rotate_left
      · intro w' hSw
        go_simp
        try with_reducible rfl
      try simp only [Act.put, List.setIfInBounds_toArray, List.set_cons_zero, List.set_cons_succ]
      refine anyH_take (v := ?_) 27 rfl (by kernel_rfl) (by kernel_rfl) (by kernel_rfl) (fun _ _ _ h => h) rfl ?_ hHeld ?_
      rotate_left
      · intro w' hSw
        go_simp
        try with_reducible rfl
      try simp only [Act.put, List.setIfInBounds_toArray, List.set_cons_zero, List.set_cons_succ]
      refine wpAnyH_done (by kernel_rfl) ?_ _
      clear hHeld
      have g4 := g3.drop 2
      obtain ⟨x0, x1, x2, x3⟩ := g3.box4 0 rfl
      clear g1 g2 g3 hb5
      go_wp2_with (at_builtin; refine wp_append_rb rfl (.tmp 52) (.tmp 55) rfl g4 0 rfl rfl rfl rfl Hul.out ?_; intro v1 w6 h6)
      go_roundw
      case rel => exact ⟨i + 1, us ++ [_], by go_num, by omega, HB2, h6⟩
      case measure => simp [intOf]; omega
    · obtain rfl : i = n := by omega
      rw [List.take_of_length_le (by rw [HS.out]; exact Nat.le_refl _)] at Hb
      have hR := Hb.out.rows g 0 rfl
      obtain ⟨Ar, cr, hv4, _, _, _⟩ := id hR
      subst hv4
      obtain ⟨b0, o0, A9, c9, hA, hc0, -⟩ := hR.at (i := 0) (by rw [HS.out]; omega)
      subst hA
      rw [Nat.add_zero] at hc0
      have hl0 : (S[0]'(by rw [HS.out]; omega)).length = m2 := by
        rw [rowOf_eq (by rw [HS.out]; omega)]
        exact (HW.out 0 (by rw [HS.out]; omega)).1
      rw [hl0] at hc0
      have HR := Lib.hid hR
      rw [HS.out] at HR ⊢
      have y0 := g.box1 2 rfl
      have y1 := (g.fact 3 rfl).1
      rw [Nat.zero_mul, Nat.add_zero] at y1
      clear hR hl0
      go_wp2_with fail
      refine (HNb.out _ _ HR.out).mono ?_
      rintro (e : Ending) w6 ⟨vr, vp, us4, rfl, hul4, hst4⟩
      have g5 := g.pushBas hst4
      obtain ⟨A4, n4, c4, rfl⟩ := g5.rowsSlice 1 rfl hul4
      obtain ⟨A5, n5, c5, rfl⟩ := (g5.own 0 rfl).slice
      have g6 := g5.box [.bool fr, .int .i64 p, .int .i64 m2, .int .i64 i, .slice A4 n4 c4, .slice A5 n5 c5] 52
      clear y0 y1 hc0 g g5 hst4 HR
      obtain ⟨z0, z1, z2, z3, z4, z5⟩ := g6.box6 0 rfl
      have g7 := g6.box [.bool fr] 4
      have y0 := g7.box1 6 rfl
      go_wp2_with fail
      simp only [World.size_alloc] at g7
      have g8 := g7.re [0, 1, 2, 3, 6, 5] (L' := [_, _, _, _, _, _]) (by decide) (fun j => by rcases j with _ | _ | _ | _ | _ | _ | j <;> simp <;> rfl)
      clear z0 z1 z2 z3 z4 z5 y0 g6 g7 HNb
      have HTT := Lib.hid (HTb.out _ _ _ _ _ _ _ _ _ g8 hul4)
      clear HTb g8
      refine HTT.out.mono ?_
      rintro (e : Ending) w8 ⟨u8, rfl, g9⟩
      obtain ⟨A8, n8, c8, rfl⟩ := (g9.own 0 rfl).slice
      have g10 := g9.box [.int .i64 p, .int .i64 i, .slice A8 n8 c8] 28
      clear HTT g9
      obtain ⟨x0, x1, x2⟩ := g10.box3 0 rfl
      have y0 := g10.box1 2 rfl
      cases fi with
      | false =>
        have HF := Lib.hid (show Po = RetAlgB w 0 0 [] false by rw [HPo.out]; rfl)
        obtain ⟨p0, p1, p2⟩ := g10.box3 7 rfl
        have f0 := g10.free 7 rfl 0
        have f1 := g10.free 7 rfl 1
        have f2 := g10.free 7 rfl 2
        have g11 := ((g10.setBox 7 rfl 0 (.int .i64 0)).setBox 7 rfl 1 (.int .i64 0)).setBox 7 rfl 2 (.slice none 0 0)
        obtain ⟨r0, r1, r2⟩ := g11.box3 7 rfl
        go_wp2
        refine bodyPost_ret (v := .tuple #[.agg #[.int .i64 0, .int .i64 0, .slice none 0 0], .bool false]) (by simp [results, Try.results6, go_sem, r0, r1, r2]) rfl ?_
        rw [HF.out]
        exact ⟨_, rfl, Own.nil, g11.below⟩
      | true =>
        have HF := Lib.hid (show Po = RetAlgB w p i T true by rw [HPo.out]; rfl)
        obtain ⟨p0, p1, p2⟩ := g10.box3 7 rfl
        have f0 := g10.free 7 rfl 0
        have f1 := g10.free 7 rfl 1
        have f2 := g10.free 7 rfl 2
        have g11 := ((g10.setBox 7 rfl 0 (.int .i64 p)).setBox 7 rfl 1 (.int .i64 i)).setBox 7 rfl 2 (.slice A8 n8 c8)
        obtain ⟨r0, r1, r2⟩ := g11.box3 7 rfl
        go_wp2
        refine bodyPost_ret (v := .tuple #[.agg #[.int .i64 p, .int .i64 i, .slice A8 n8 c8], .bool true]) (by simp [results, Try.results6, go_sem, r0, r1, r2]) rfl ?_
        rw [HF.out]
        exact ⟨_, rfl, g11.own 1 rfl, g11.below⟩
end Mx
end
end Go.Proofs.Ytbnefjhljfbecaa
