/- The program's closures. -/
import Derived.Test.YtechjmckfedblaaCloS
namespace Go.Proofs.Ytechjmckfedblaa
set_option maxRecDepth 100000
open Go.RowKit

/-- append of rows to rows: the new slice can be read; the rows stay where they were. -/
theorem run_append_rows (ty : Nat) {w0 w : World} {L : List It} (h : St w0 w L) (i j : Nat) {v u : Value} {us us2 : List Value} {ll ll2 : List (List Int)} (hi : L[i]? = some (rowsIt v us ll)) (hj : L[j]? = some (rowsIt u us2 ll2)) (hij : i ≠ j) (hul : us.length = ll.length) (hul2 : us2.length = ll2.length) (hlen : ll.length + ll2.length ≤ 1099511627776) :
    ∃ v' w' x, (Builtin.append_ #[70, 70] ty #[v, u]).run Try.prog w = .ok v' w' ∧ St w0 w' (L.set i x) ∧ IntRows w' v' (ll ++ ll2) := by
  obtain ⟨ti, h1, h2, h3, h4⟩ := info_parts infoR
  have hsl : Try.prog.underlying 70 = some (.slice 22) := Try.underlying70
  have hil : i < L.length := (List.getElem?_eq_some_iff.1 hi).1
  obtain ⟨hv, hvs⟩ := h.at i hi
  obtain ⟨hu, hus⟩ := h.at j hj
  by_cases hy : ll2.length = 0
  · obtain rfl : ll2 = [] := List.eq_nil_of_length_eq_zero hy
    have hr : (Builtin.append_ #[70, 70] ty #[v, u]).run Try.prog w = .ok v w := by
      have hu0 : ∃ A c, u = .slice A 0 c := by
        rcases hu.2 with ⟨rfl, _⟩ | ⟨g, cap, cur, rfl, _⟩
        · exact ⟨none, 0, rfl⟩
        · exact ⟨_, cap, rfl⟩
      obtain ⟨A, c, rfl⟩ := hu0
      have hi' : Try.prog.info? 22 = some ti := h1
      rcases hv.2 with ⟨rfl, h0⟩ | ⟨g, cap, cur, rfl, _, _, hnc, _⟩
      · obtain rfl : ll = [] := List.eq_nil_of_length_eq_zero h0
        cases A <;> simp [Builtin.append_, run_underlying hsl, sizeOf, typeInfo, hi', Builtin.lenOf, Builtin.firstCells, loadCells, loadCellsFrom]
      · cases A <;> simp [Builtin.append_, run_underlying hsl, sizeOf, typeInfo, hi', Builtin.lenOf, Builtin.firstCells, hnc, storeCells, loadCells, loadCellsFrom]
    refine ⟨v, w, rowsIt v us ll, hr, ?_, by rw [List.append_nil]; exact h.rowsR i hi hul⟩
    rw [← (List.getElem?_eq_some_iff.1 hi).2, List.set_getElem_self]
    exact h
  · rcases id hu.2 with ⟨_, h0⟩ | ⟨g, cap, cur, rfl, _⟩
    · exact absurd h0 hy
    · obtain ⟨v', w', hr, k1, k2, _, k4⟩ := run_append_own_at (P := Try.prog) w w0.heap.size 70 ty 22 ti (.slice none 0 0) 1 24 hsl h1 h2 h3 h4 rfl (by decide) v ll.length us hv ⟨g, 0, none⟩ ll2.length cap us2 (by rw [hul2]; omega)
        (fun k x hk => by rw [add_zero_spot, Nat.zero_add]; exact h.vecCell j hj k hk) (fun x hx => by
          obtain ⟨k, hk⟩ := List.getElem?_of_mem hx
          have hkl := (List.getElem?_eq_some_iff.1 hk).1
          exact (hus (x, ll2[k]'(by omega)) (List.mem_of_getElem? (zip_get hk (List.getElem?_eq_getElem _)))).one) (by simp only [maxLen]; omega) (by omega) h.size
      have hst := h.updVec i hi k2 (fun b hb => by
        rcases k4 with e | e
        · exact .inl (by rw [← e]; exact hb)
        · right
          rw [e] at hb
          simp only [Option.some.injEq] at hb
          omega) k1
      refine ⟨v', w', _, hr, hst, ?_⟩
      have hj' : (L.set i (.vec v' 22 1 (ll.length + ll2.length) (us ++ us2) (us.zip ll)))[j]? = some (rowsIt (.slice (some ⟨g, 0, none⟩) ll2.length cap) us2 ll2) := by
        rw [List.getElem?_set_ne hij]; exact hj
      have hi' : (L.set i (.vec v' 22 1 (ll.length + ll2.length) (us ++ us2) (us.zip ll)))[i]? = some (.vec v' 22 1 (ll.length + ll2.length) (us ++ us2) (us.zip ll)) := by
        rw [List.getElem?_set_self hil]
      have a1 := hst.at i hi'
      have a2 := hst.at j hj'
      refine It.rows (B := w0.heap.size) (us := us ++ us2) ⟨by rw [List.length_append]; exact a1.1, fun s hs => ?_⟩ (by rw [List.length_append, List.length_append, hul, hul2])
      rw [List.zip_append hul] at hs
      rcases List.mem_append.1 hs with hs | hs
      · exact a1.2 s hs
      · exact a2.2 s hs
theorem step_append_rows {ops : Array Oper} {o : Oper} {a : Act} {K : Act → World → Prop} {Q : Exit → Act → World → Prop} {E : Prop} (hgd : o.guard = none) (s x : Operand)
    (ho : o.op = .call { callee := .builtin .append, args := #[s, x], argTypes := #[70, 70] }) {w0 w : World} {L : List It} (h : St w0 w L) (i j : Nat) {v u : Value} {us us2 : List Value} {ll ll2 : List (List Int)} (hi : L[i]? = some (rowsIt v us ll)) (hj : L[j]? = some (rowsIt u us2 ll2)) (hij : i ≠ j) (hul : us.length = ll.length) (hul2 : us2.length = ll2.length) (hlen : ll.length + ll2.length ≤ 1099511627776)
    (hs : a.eval s = v) (hx : a.eval x = u)
    (hk : ∀ v' w' y, St w0 w' (L.set i y) → IntRows w' v' (ll ++ ll2) → K (a.put o.dst v') w') :
    if Region.wanted o (yielded ops a.tmps) = true then Oper.wp Try.prog o a w K Q else E := by
  have hw : Region.wanted o (yielded ops a.tmps) = true := by simp [Region.wanted, hgd]
  rw [if_pos hw]
  obtain ⟨v', w', y, hr, k1, k2⟩ := run_append_rows o.type h i j hi hj hij hul hul2 hlen
  unfold Oper.wp execOp
  simp only [ho, resolve, invoke, builtin, Sem.run_bind, Sem.run_pure, Result.andThen_ok, List.map_toArray, List.map_cons, List.map_nil, hs, hx, hr]
  exact hk _ _ y k1 k2
theorem wp_append_rows {ops : Array Oper} {rest : List Oper} {o : Oper} {a : Act} {Q : Exit → Act → World → Prop} (hgd : o.guard = none) (s x : Operand)
    (ho : o.op = .call { callee := .builtin .append, args := #[s, x], argTypes := #[70, 70] }) {w0 w : World} {L : List It} (h : St w0 w L) (i j : Nat) {v u : Value} {us us2 : List Value} {ll ll2 : List (List Int)} (hi : L[i]? = some (rowsIt v us ll)) (hj : L[j]? = some (rowsIt u us2 ll2)) (hij : i ≠ j) (hul : us.length = ll.length) (hul2 : us2.length = ll2.length) (hlen : ll.length + ll2.length ≤ 1099511627776)
    (hs : a.eval s = v) (hx : a.eval x = u)
    (hk : ∀ v' w' y, St w0 w' (L.set i y) → IntRows w' v' (ll ++ ll2) → wpList Try.prog ops Q rest (a.put o.dst v') w') : wpList Try.prog ops Q (o :: rest) a w := by
  refine wpList_plain hgd fun K hK => ?_
  obtain ⟨v', w', y, hr, k1, k2⟩ := run_append_rows o.type h i j hi hj hij hul hul2 hlen
  unfold Oper.wp execOp
  simp only [ho, resolve, invoke, builtin, Sem.run_bind, Sem.run_pure, Result.andThen_ok, List.map_toArray, List.map_cons, List.map_nil, hs, hx, hr]
  exact hK _ _ (hk v' w' y k1 k2)

/-- A space of the call's own. -/
theorem join_rows {p : Int} (_hP : isPrime p = true) {n : Nat} {k : Bool} {T : List Int} {R : List (List Int)} : spanL p n (R ++ stepS k T n p R) = cloNext k T n p R := rfl

set_option maxHeartbeats 8000000 in
theorem closed0_st {w0 w : World} {L : List It} (p : Int) (n k : Nat) (v t : Value) (T : List Int) (R0 : List (List Int)) (h : St w0 w (.own v (flat n R0) :: L)) (hk : L[k]? = some (.ro t T)) (hT : T.length = n * n * n) (hn : n ≤ 28) (hP : isPrime p = true) (rT : resid p T = true) (hAn : AntiT p n T) {a0 : List Nat} (hR0 : Rf p n R0 a0) :
    Calls Try.prog 83 #[.agg #[.int .i64 p, .int .i64 n, t], .agg #[.int .i64 p, .int .i64 R0.length, .int .i64 n, v], .bool false] w
      fun e w' => ∃ u, e = .returned (.agg #[.int .i64 p, .int .i64 (cloL false T n p R0).length, .int .i64 n, u]) ∧ St w0 w' (.own u (flat n (cloL false T n p R0)) :: L) := by
  have b1 := (isPrime_bd hP).1
  have hs := CloRun.start (k := false) (T := T) hP hR0
  obtain ⟨G, hG⟩ : ∃ G, G = cloL false T n p R0 := ⟨_, rfl⟩
  rw [← hG] at hs ⊢
  obtain ⟨A, c0, rfl, _, _, _⟩ := id (h.ro (k + 1) (by simpa using hk)).ints
  obtain ⟨A1, c1, rfl, _, _, _⟩ := id (h.ownInts 0 rfl)
  have h1 := (((h.box [.int .i64 p, .int .i64 n, .slice A T.length c0] 76).box [.int .i64 p, .int .i64 R0.length, .int .i64 n, .slice A1 (flat n R0).length c1] 32).box [.int .i64 0, .int .i64 0, .int .i64 0, .slice none 0 0] 32).toFront 3 rfl
  simp only [World.size_alloc] at h1
  change St w0 _ (.own (.slice A1 (flat n R0).length c1) (flat n R0) :: .box (w.heap.size + 1 + 1) _ :: .box (w.heap.size + 1) _ :: .box w.heap.size _ :: L) at h1
  have HS : Hid (CloRun false T n p R0 G) := hs
  have HT := Lib.hid hT
  have HAn := Lib.hid hAn
  clear h hs hG hT hR0 hAn
  go_enter Try.func83, Try.ntmps83
  go_wp2
  go_loopg [] (n - R0.length) (fun gk wr => ∃ (R : List (List Int)) (Ad : Option Addr) (cd : Nat), Hid (n - R.length = gk) ∧ Hid (CloRun false T n p R G) ∧ St w0 wr (.own (.slice Ad (flat n R).length cd) (flat n R) :: .box (w.heap.size + 1 + 1) [.int .i64 0, .int .i64 0, .int .i64 0, .slice none 0 0] :: .box (w.heap.size + 1) [.int .i64 p, .int .i64 R.length, .int .i64 n, .slice Ad (flat n R).length cd] :: .box w.heap.size [.int .i64 p, .int .i64 n, .slice A T.length c0] :: L))
  case atStart => exact ⟨R0, A1, c1, rfl, HS, h1⟩
  case round =>
    clear h1 HS
    obtain ⟨R, Ad, cd, hlg, HR, h1⟩ := hrel
    obtain ⟨a, ha⟩ := HR.out.1
    have hRn := rf_le_n b1 ha
    have hRW := ha.wf
    have hle := cloNext_le (k := false) (T := T) hP ha
    obtain ⟨b, hb⟩ := cloNext_rf (k := false) (T := T) hP hRW
    have hN := rf_le_n b1 hb
    have hSW : Wf p n (stepS false T n p R) := Wf.stepS hP R
    have hSl : (stepS false T n p R).length ≤ n := rf_le_n b1 (spanL_rf hP (Wf_stepArg false T n b1 R))
    have hRfl := rowsM_flat hRW
    have hSfl := rowsM_flat hSW
    obtain ⟨S1, hS1⟩ : ∃ S1, S1 = stepS false T n p R := ⟨_, rfl⟩
    obtain ⟨R2, hR2⟩ : ∃ R2, R2 = cloNext false T n p R := ⟨_, rfl⟩
    have hst : R2 = spanL p n (R ++ S1) := by rw [hR2, hS1]; rfl
    rw [← hS1] at hSW hSl hSfl
    rw [← hR2] at hle hN
    obtain ⟨l1, hl1⟩ : ∃ l1, l1 = S1.length := ⟨_, rfl⟩
    obtain ⟨l2, hl2⟩ : ∃ l2, l2 = R2.length := ⟨_, rfl⟩
    obtain ⟨D, hD⟩ : ∃ D, D = flat n R := ⟨_, rfl⟩
    obtain ⟨r, hr⟩ : ∃ r, r = R.length := ⟨_, rfl⟩
    have hnn := mul_le hn hn
    have hrn := mul_le (show R.length ≤ 28 by omega) hn
    have hsn := mul_le (show S1.length ≤ 28 by omega) hn
    have HP := Lib.hid (show ∀ (W : World) (v1 v2 v3 : Value), Ints W v1 T → Ints W v2 D → Ints W v3 D → Calls Try.prog 90 #[.agg #[.int .i64 p, .int .i64 n, v1], .agg #[.int .i64 p, .int .i64 r, .int .i64 n, v2], .agg #[.int .i64 p, .int .i64 r, .int .i64 n, v3]] W (RetMat W p l1 n (flat n S1)) from fun W v1 v2 v3 x1 x2 x3 => by
      rw [hD] at x2 x3
      have := product_any p p p n R.length R.length v1 v2 v3 T (flat n R) (flat n R) W x1 x2 x3 HT.out (length_flat n R) (length_flat n R) hn (by omega) (by omega) hP rT (resid_flat (by omega) hRW) (resid_flat (by omega) hRW)
      rw [hl1, hS1, hr]
      exact this)
    have C1 := Lib.hid (show ∀ (W : World) (v1 : Value), Ints W v1 D → Calls Try.prog 73 #[.agg #[.int .i64 p, .int .i64 r, .int .i64 n, v1]] W (RetLL W R) from fun W v1 x1 => by
      rw [hD] at x1
      have := rowsOf_any p R.length n v1 (flat n R) W x1 (length_flat n R) (by omega) (by omega)
      rw [hRfl] at this
      rw [hr]
      exact this)
    have C2 := Lib.hid (show ∀ (W : World) (v1 : Value), Ints W v1 (flat n S1) → Calls Try.prog 73 #[.agg #[.int .i64 p, .int .i64 l1, .int .i64 n, v1]] W (RetLL W S1) from fun W v1 x1 => by
      have := rowsOf_any p S1.length n v1 (flat n S1) W x1 (length_flat n S1) (by omega) (by omega)
      rw [hSfl] at this
      rw [hl1]
      exact this)
    have C3 := Lib.hid (show ∀ (W : World) (v1 : Value), IntRows W v1 (R ++ S1) → Calls Try.prog 137 #[.agg #[.int .i64 p, .int .i64 n, .slice A T.length c0], v1] W (RetMat W p l2 n (flat n R2)) from fun W v1 x1 => by
      rw [hl2, hst]
      exact space_any p n A T.length c0 v1 (R ++ S1) W x1 (hRW.app hSW) (by rw [List.length_append, Nat.add_mul]; omega) (by rw [List.length_append]; omega) (by omega) hP)
    have HLen := Lib.hid (show R.length + S1.length ≤ 1099511627776 by omega)
    rw [← hD, ← hr] at h1
    have Hr := Lib.hid hr
    have HD := Lib.hid hD
    have HR2 := Lib.hid hR2
    have Hl2 := Lib.hid hl2
    have HLe := Lib.hid (show R.length ≤ R2.length from hle)
    have HN := Lib.hid hN
    clear ha hRW hb hSW hS1 hst hl1 hl2 hD hr hR2 hle hN a b hRfl hSfl
    obtain ⟨v0, v1, v2, v3⟩ := h1.box4 2 rfl
    have h2 := h1.box [.int .i64 p, .int .i64 r, .int .i64 n, .slice Ad D.length cd] 32
    go_upto_region 4 with fail
    clear v0 v1 v2 v3 h1
    generalize hBt : wr.heap.size = Bt at h2 ⊢
    clear hBt
    have g0 := h2.drew
    go_cut [8] (fun s8 wx => ∃ (B8 : Nat) (A9 : Option Addr) (n9 c9 : Nat), s8 = .pointer (some ⟨B8, 0, none⟩) ∧ St w0 wx (.box B8 [.int .i64 p, .int .i64 l2, .int .i64 n, .slice A9 n9 c9] :: .own (.slice A9 n9 c9) (flat n R2) :: .own (.slice Ad D.length cd) D :: .box (w.heap.size + 1 + 1) [.int .i64 0, .int .i64 0, .int .i64 0, .slice none 0 0] :: .box (w.heap.size + 1) [.int .i64 p, .int .i64 r, .int .i64 n, .slice Ad D.length cd] :: .box w.heap.size [.int .i64 p, .int .i64 n, .slice A T.length c0] :: L))
    case first =>
      refine wp_region_cut (S := fun w' => (w'.cell? ⟨Bt, 0, none⟩ = some (.int .i64 p) ∧ w'.cell? ⟨Bt, 1, none⟩ = some (.int .i64 r) ∧ w'.cell? ⟨Bt, 2, none⟩ = some (.int .i64 n) ∧ w'.cell? ⟨Bt, 3, none⟩ = some (.slice Ad D.length cd)) ∧ (w'.cell? ⟨w.heap.size + 1, 0, none⟩ = some (.int .i64 p) ∧ w'.cell? ⟨w.heap.size + 1, 1, none⟩ = some (.int .i64 r) ∧ w'.cell? ⟨w.heap.size + 1, 2, none⟩ = some (.int .i64 n) ∧ w'.cell? ⟨w.heap.size + 1, 3, none⟩ = some (.slice Ad D.length cd)) ∧ w'.cell? ⟨w.heap.size, 0, none⟩ = some (.int .i64 p) ∧ w'.cell? ⟨w.heap.size, 1, none⟩ = some (.int .i64 n) ∧ w'.cell? ⟨w.heap.size, 2, none⟩ = some (.slice A T.length c0)) 11 (by kernel_rfl) (by kernel_rfl) ⟨g0.box4 0 rfl, g0.box4 3 rfl, g0.box3 4 rfl⟩ (fun hHeld => ?_)
      simp only [List.take_succ_cons, List.take_zero]
      generalize hv0 : World.drew _ = v0 at g0 hHeld ⊢
      clear hv0 h2
      refine anyH_take (v := ?_) 0 rfl (by kernel_rfl) (by kernel_rfl) (by kernel_rfl) (fun _ _ _ h => h) rfl ?_ hHeld ?_
      rotate_left
      · intro w' hSw
        go_simp
        try with_reducible rfl
      try simp only [Act.put, List.setIfInBounds_toArray, List.set_cons_zero, List.set_cons_succ]
      refine anyH_take (v := ?_) 1 rfl (by kernel_rfl) (by kernel_rfl) (by kernel_rfl) (fun _ _ _ h => h) rfl ?_ hHeld ?_
      rotate_left
      · intro w' hSw
        go_simp
        try with_reducible rfl
      try simp only [Act.put, List.setIfInBounds_toArray, List.set_cons_zero, List.set_cons_succ]
      refine anyH_take (v := ?_) 3 rfl (by kernel_rfl) (by kernel_rfl) (by kernel_rfl) (fun _ _ _ h => h) rfl ?_ hHeld ?_
      rotate_left
      · intro w' hSw
        go_simp
        try with_reducible rfl
      try simp only [Act.put, List.setIfInBounds_toArray, List.set_cons_zero, List.set_cons_succ]
      refine anyH_take (v := ?_) 4 rfl (by kernel_rfl) (by kernel_rfl) (by kernel_rfl) (fun _ _ _ h => h) rfl ?_ hHeld ?_
      rotate_left
      · intro w' hSw
        go_simp
        try with_reducible rfl
      try simp only [Act.put, List.setIfInBounds_toArray, List.set_cons_zero, List.set_cons_succ]
      refine anyH_take (v := ?_) 5 rfl (by kernel_rfl) (by kernel_rfl) (by kernel_rfl) (fun _ _ _ h => h) rfl ?_ hHeld ?_
      rotate_left
      · intro w' hSw
        go_simp
        try with_reducible rfl
      try simp only [Act.put, List.setIfInBounds_toArray, List.set_cons_zero, List.set_cons_succ]
      refine wpAnyH_ready (rs := [2, 10]) (by kernel_rfl) (by simp) ?_
      refine ready_cons rfl (fun K hK => ?_) (ready_cons rfl (fun K hK => ?_) AllReadyH.nil)
      · go_simp
        refine (C1.out _ _ (g0.ownInts 1 rfl)).mono ?_
        rintro (e : Ending) v1 ⟨u1, us1, rfl, hul1, hok1, hnd1, hb1⟩
        have g1 := g0.pushRows hb1 hok1 hnd1
        have hulR1 := hul1
        show K _ _
        refine hK.out _ _ ?_ (fun hHeld => ?_)
        · exact ⟨g1.box4 1 rfl, g1.box4 4 rfl, g1.box3 5 rfl⟩
        clear hK K
        try simp only [Act.put, List.setIfInBounds_toArray, List.set_cons_zero, List.set_cons_succ]
        refine wpAnyH_ready (rs := [6, 10]) (by kernel_rfl) (by simp) ?_
        refine ready_cons rfl (fun K hK => ?_) (ready_cons rfl (fun K hK => ?_) AllReadyH.nil)
        · go_simp
          refine (HP.out _ _ _ _ (g1.ro (k + 6) (by simpa using hk)).ints (g1.ownInts 2 rfl) (g1.ownInts 2 rfl)).mono ?_
          rintro (e : Ending) v2 ⟨u2, rfl, ho2, hb2⟩
          obtain ⟨B2, m2, d2, rfl⟩ := ho2.slice
          have g2 := g1.pushOwn hb2 ho2
          show K _ _
          refine hK.out _ _ ?_ (fun hHeld => ?_)
          · exact ⟨g2.box4 2 rfl, g2.box4 5 rfl, g2.box3 6 rfl⟩
          clear hK K
          try simp only [Act.put, List.setIfInBounds_toArray, List.set_cons_zero, List.set_cons_succ]
          refine wpAnyH_ready (rs := [7, 10]) (by kernel_rfl) (by simp) ?_
          refine ready_cons rfl (fun K hK => ?_) (ready_cons rfl (fun K hK => ?_) AllReadyH.nil)
          · go_simp
            refine (C2.out _ _ (g2.ownInts 0 rfl)).mono ?_
            rintro (e : Ending) v3 ⟨u3, us3, rfl, hul3, hok3, hnd3, hb3⟩
            have g3 := g2.pushRows hb3 hok3 hnd3
            have hulR2 := hul3
            show K _ _
            refine hK.out _ _ ?_ (fun hHeld => ?_)
            · exact ⟨g3.box4 3 rfl, g3.box4 6 rfl, g3.box3 7 rfl⟩
            clear hK K
            try simp only [Act.put, List.setIfInBounds_toArray, List.set_cons_zero, List.set_cons_succ]
            refine wpAnyH_ready (rs := [8, 10]) (by kernel_rfl) (by simp) ?_
            refine ready_cons rfl (fun K hK => ?_) (ready_cons rfl (fun K hK => ?_) AllReadyH.nil)
            · refine step_append_rows rfl (.tmp 18) (.tmp 23) rfl g3 2 0 rfl rfl (by decide) hulR1 hulR2 HLen.out rfl rfl fun vA v4 yy g4 hAR => ?_
              simp only [List.set_cons_zero, List.set_cons_succ] at g4
              refine hK.out _ _ ?_ (fun hHeld => ?_)
              · exact ⟨g4.box4 3 rfl, g4.box4 6 rfl, g4.box3 7 rfl⟩
              clear hK K
              try simp only [Act.put, List.setIfInBounds_toArray, List.set_cons_zero, List.set_cons_succ]
              refine wpAnyH_ready (rs := [9, 10]) (by kernel_rfl) (by simp) ?_
              refine ready_cons rfl (fun K hK => ?_) (ready_cons rfl (fun K hK => ?_) AllReadyH.nil)
              · go_simp
                refine (C3.out _ _ hAR).mono ?_
                rintro (e : Ending) v5 ⟨u5, rfl, ho5, hb5⟩
                obtain ⟨A9, n9, c9, rfl⟩ := ho5.slice
                have g5 := g4.pushOwn hb5 ho5
                show K _ _
                refine hK.out _ _ ?_ (fun hHeld => ?_)
                · exact ⟨g5.box4 4 rfl, g5.box4 7 rfl, g5.box3 8 rfl⟩
                clear hK K
                try simp only [Act.put, List.setIfInBounds_toArray, List.set_cons_zero, List.set_cons_succ]
                refine wpAnyH_ready (rs := [10]) (by kernel_rfl) (by simp) ?_
                refine ready_cons rfl (fun K hK => ?_) AllReadyH.nil
                go_simp
                have g6 := g5.box [.int .i64 0, .int .i64 0, .int .i64 0, .slice none 0 0] 32
                refine hK.out _ _ ?_ (fun hHeld => ?_)
                · exact ⟨g6.box4 5 rfl, g6.box4 8 rfl, g6.box3 9 rfl⟩
                clear hK K
                generalize World.alloc v5 (.cells #[.int .i64 0, .int .i64 0, .int .i64 0, .slice none 0 0] 32) = v6 at g6 hHeld ⊢
                try simp only [Act.put, List.setIfInBounds_toArray, List.set_cons_zero, List.set_cons_succ]
                refine wpAnyH_done (by kernel_rfl) ?_ _
                show wpList _ _ _ _ _ _
                simp only [List.drop_succ_cons, List.drop_zero]
                clear hHeld
                obtain ⟨p0, p1, p2, p3⟩ := g6.box4 0 rfl
                have f0 := g6.free 0 rfl 0
                have f1 := g6.free 0 rfl 1
                have f2 := g6.free 0 rfl 2
                have f3 := g6.free 0 rfl 3
                have q1 := (((g6.setBox 0 rfl 0 (.int .i64 p)).setBox 0 rfl 1 (.int .i64 l2)).setBox 0 rfl 2 (.int .i64 n)).setBox 0 rfl 3 (.slice A9 n9 c9)
                go_wp2_with fail
                go_meet
                exact ⟨_, _, _, _, rfl, ((((((q1.rid 3).rid 4).rid 2).rid 2).toFront 1 rfl).toFront 1 rfl)⟩
              · go_simp
                have g5 := g4.box [.int .i64 0, .int .i64 0, .int .i64 0, .slice none 0 0] 32
                refine hK.out _ _ ?_ (fun hHeld => ?_)
                · exact ⟨g5.box4 4 rfl, g5.box4 7 rfl, g5.box3 8 rfl⟩
                clear hK K
                replace hAR := hAR.keep fun q hq => (((Below.refl _ _).alloc (Nat.le_refl _) (.cells #[.int .i64 0, .int .i64 0, .int .i64 0, .slice none 0 0] 32)).cell hq : (World.alloc v4 (.cells #[.int .i64 0, .int .i64 0, .int .i64 0, .slice none 0 0] 32)).cell? q = _)
                generalize World.alloc v4 (.cells #[.int .i64 0, .int .i64 0, .int .i64 0, .slice none 0 0] 32) = v5 at g5 hHeld hAR ⊢
                try simp only [Act.put, List.setIfInBounds_toArray, List.set_cons_zero, List.set_cons_succ]
                refine wpAnyH_ready (rs := [9]) (by kernel_rfl) (by simp) ?_
                refine ready_cons rfl (fun K hK => ?_) AllReadyH.nil
                go_simp
                refine (C3.out _ _ hAR).mono ?_
                rintro (e : Ending) v6 ⟨u6, rfl, ho6, hb6⟩
                obtain ⟨A9, n9, c9, rfl⟩ := ho6.slice
                have g6 := g5.pushOwn hb6 ho6
                show K _ _
                refine hK.out _ _ ?_ (fun hHeld => ?_)
                · exact ⟨g6.box4 5 rfl, g6.box4 8 rfl, g6.box3 9 rfl⟩
                clear hK K
                try simp only [Act.put, List.setIfInBounds_toArray, List.set_cons_zero, List.set_cons_succ]
                refine wpAnyH_done (by kernel_rfl) ?_ _
                show wpList _ _ _ _ _ _
                simp only [List.drop_succ_cons, List.drop_zero]
                clear hHeld
                obtain ⟨p0, p1, p2, p3⟩ := g6.box4 1 rfl
                have f0 := g6.free 1 rfl 0
                have f1 := g6.free 1 rfl 1
                have f2 := g6.free 1 rfl 2
                have f3 := g6.free 1 rfl 3
                have q1 := (((g6.setBox 1 rfl 0 (.int .i64 p)).setBox 1 rfl 1 (.int .i64 l2)).setBox 1 rfl 2 (.int .i64 n)).setBox 1 rfl 3 (.slice A9 n9 c9)
                go_wp2_with fail
                go_meet
                exact ⟨_, _, _, _, rfl, (((((q1.rid 3).rid 4).rid 2).rid 2).toFront 1 rfl)⟩
            · go_simp
              have g4 := g3.box [.int .i64 0, .int .i64 0, .int .i64 0, .slice none 0 0] 32
              refine hK.out _ _ ?_ (fun hHeld => ?_)
              · exact ⟨g4.box4 4 rfl, g4.box4 7 rfl, g4.box3 8 rfl⟩
              clear hK K
              generalize World.alloc v3 (.cells #[.int .i64 0, .int .i64 0, .int .i64 0, .slice none 0 0] 32) = v4 at g4 hHeld ⊢
              try simp only [Act.put, List.setIfInBounds_toArray, List.set_cons_zero, List.set_cons_succ]
              refine wpAnyH_ready (rs := [8]) (by kernel_rfl) (by simp) ?_
              refine ready_cons rfl (fun K hK => ?_) AllReadyH.nil
              refine step_append_rows rfl (.tmp 18) (.tmp 23) rfl g4 3 1 rfl rfl (by decide) hulR1 hulR2 HLen.out rfl rfl fun vA v5 yy g5 hAR => ?_
              simp only [List.set_cons_zero, List.set_cons_succ] at g5
              refine hK.out _ _ ?_ (fun hHeld => ?_)
              · exact ⟨g5.box4 4 rfl, g5.box4 7 rfl, g5.box3 8 rfl⟩
              clear hK K
              try simp only [Act.put, List.setIfInBounds_toArray, List.set_cons_zero, List.set_cons_succ]
              refine wpAnyH_ready (rs := [9]) (by kernel_rfl) (by simp) ?_
              refine ready_cons rfl (fun K hK => ?_) AllReadyH.nil
              go_simp
              refine (C3.out _ _ hAR).mono ?_
              rintro (e : Ending) v6 ⟨u6, rfl, ho6, hb6⟩
              obtain ⟨A9, n9, c9, rfl⟩ := ho6.slice
              have g6 := g5.pushOwn hb6 ho6
              show K _ _
              refine hK.out _ _ ?_ (fun hHeld => ?_)
              · exact ⟨g6.box4 5 rfl, g6.box4 8 rfl, g6.box3 9 rfl⟩
              clear hK K
              try simp only [Act.put, List.setIfInBounds_toArray, List.set_cons_zero, List.set_cons_succ]
              refine wpAnyH_done (by kernel_rfl) ?_ _
              show wpList _ _ _ _ _ _
              simp only [List.drop_succ_cons, List.drop_zero]
              clear hHeld
              obtain ⟨p0, p1, p2, p3⟩ := g6.box4 1 rfl
              have f0 := g6.free 1 rfl 0
              have f1 := g6.free 1 rfl 1
              have f2 := g6.free 1 rfl 2
              have f3 := g6.free 1 rfl 3
              have q1 := (((g6.setBox 1 rfl 0 (.int .i64 p)).setBox 1 rfl 1 (.int .i64 l2)).setBox 1 rfl 2 (.int .i64 n)).setBox 1 rfl 3 (.slice A9 n9 c9)
              go_wp2_with fail
              go_meet
              exact ⟨_, _, _, _, rfl, (((((q1.rid 3).rid 4).rid 2).rid 2).toFront 1 rfl)⟩
          · go_simp
            have g3 := g2.box [.int .i64 0, .int .i64 0, .int .i64 0, .slice none 0 0] 32
            refine hK.out _ _ ?_ (fun hHeld => ?_)
            · exact ⟨g3.box4 3 rfl, g3.box4 6 rfl, g3.box3 7 rfl⟩
            clear hK K
            generalize World.alloc v2 (.cells #[.int .i64 0, .int .i64 0, .int .i64 0, .slice none 0 0] 32) = v3 at g3 hHeld ⊢
            try simp only [Act.put, List.setIfInBounds_toArray, List.set_cons_zero, List.set_cons_succ]
            refine wpAnyH_ready (rs := [7]) (by kernel_rfl) (by simp) ?_
            refine ready_cons rfl (fun K hK => ?_) AllReadyH.nil
            go_simp
            refine (C2.out _ _ (g3.ownInts 1 rfl)).mono ?_
            rintro (e : Ending) v4 ⟨u4, us4, rfl, hul4, hok4, hnd4, hb4⟩
            have g4 := g3.pushRows hb4 hok4 hnd4
            have hulR2 := hul4
            show K _ _
            refine hK.out _ _ ?_ (fun hHeld => ?_)
            · exact ⟨g4.box4 4 rfl, g4.box4 7 rfl, g4.box3 8 rfl⟩
            clear hK K
            try simp only [Act.put, List.setIfInBounds_toArray, List.set_cons_zero, List.set_cons_succ]
            refine wpAnyH_ready (rs := [8]) (by kernel_rfl) (by simp) ?_
            refine ready_cons rfl (fun K hK => ?_) AllReadyH.nil
            refine step_append_rows rfl (.tmp 18) (.tmp 23) rfl g4 3 0 rfl rfl (by decide) hulR1 hulR2 HLen.out rfl rfl fun vA v5 yy g5 hAR => ?_
            simp only [List.set_cons_zero, List.set_cons_succ] at g5
            refine hK.out _ _ ?_ (fun hHeld => ?_)
            · exact ⟨g5.box4 4 rfl, g5.box4 7 rfl, g5.box3 8 rfl⟩
            clear hK K
            try simp only [Act.put, List.setIfInBounds_toArray, List.set_cons_zero, List.set_cons_succ]
            refine wpAnyH_ready (rs := [9]) (by kernel_rfl) (by simp) ?_
            refine ready_cons rfl (fun K hK => ?_) AllReadyH.nil
            go_simp
            refine (C3.out _ _ hAR).mono ?_
            rintro (e : Ending) v6 ⟨u6, rfl, ho6, hb6⟩
            obtain ⟨A9, n9, c9, rfl⟩ := ho6.slice
            have g6 := g5.pushOwn hb6 ho6
            show K _ _
            refine hK.out _ _ ?_ (fun hHeld => ?_)
            · exact ⟨g6.box4 5 rfl, g6.box4 8 rfl, g6.box3 9 rfl⟩
            clear hK K
            try simp only [Act.put, List.setIfInBounds_toArray, List.set_cons_zero, List.set_cons_succ]
            refine wpAnyH_done (by kernel_rfl) ?_ _
            show wpList _ _ _ _ _ _
            simp only [List.drop_succ_cons, List.drop_zero]
            clear hHeld
            obtain ⟨p0, p1, p2, p3⟩ := g6.box4 2 rfl
            have f0 := g6.free 2 rfl 0
            have f1 := g6.free 2 rfl 1
            have f2 := g6.free 2 rfl 2
            have f3 := g6.free 2 rfl 3
            have q1 := (((g6.setBox 2 rfl 0 (.int .i64 p)).setBox 2 rfl 1 (.int .i64 l2)).setBox 2 rfl 2 (.int .i64 n)).setBox 2 rfl 3 (.slice A9 n9 c9)
            go_wp2_with fail
            go_meet
            exact ⟨_, _, _, _, rfl, (((((q1.rid 3).rid 4).rid 1).rid 2).toFront 1 rfl)⟩
        · go_simp
          have g2 := g1.box [.int .i64 0, .int .i64 0, .int .i64 0, .slice none 0 0] 32
          refine hK.out _ _ ?_ (fun hHeld => ?_)
          · exact ⟨g2.box4 2 rfl, g2.box4 5 rfl, g2.box3 6 rfl⟩
          clear hK K
          generalize World.alloc v1 (.cells #[.int .i64 0, .int .i64 0, .int .i64 0, .slice none 0 0] 32) = v2 at g2 hHeld ⊢
          try simp only [Act.put, List.setIfInBounds_toArray, List.set_cons_zero, List.set_cons_succ]
          refine wpAnyH_ready (rs := [6]) (by kernel_rfl) (by simp) ?_
          refine ready_cons rfl (fun K hK => ?_) AllReadyH.nil
          go_simp
          refine (HP.out _ _ _ _ (g2.ro (k + 7) (by simpa using hk)).ints (g2.ownInts 3 rfl) (g2.ownInts 3 rfl)).mono ?_
          rintro (e : Ending) v3 ⟨u3, rfl, ho3, hb3⟩
          obtain ⟨B3, m3, d3, rfl⟩ := ho3.slice
          have g3 := g2.pushOwn hb3 ho3
          show K _ _
          refine hK.out _ _ ?_ (fun hHeld => ?_)
          · exact ⟨g3.box4 3 rfl, g3.box4 6 rfl, g3.box3 7 rfl⟩
          clear hK K
          try simp only [Act.put, List.setIfInBounds_toArray, List.set_cons_zero, List.set_cons_succ]
          refine wpAnyH_ready (rs := [7]) (by kernel_rfl) (by simp) ?_
          refine ready_cons rfl (fun K hK => ?_) AllReadyH.nil
          go_simp
          refine (C2.out _ _ (g3.ownInts 0 rfl)).mono ?_
          rintro (e : Ending) v4 ⟨u4, us4, rfl, hul4, hok4, hnd4, hb4⟩
          have g4 := g3.pushRows hb4 hok4 hnd4
          have hulR2 := hul4
          show K _ _
          refine hK.out _ _ ?_ (fun hHeld => ?_)
          · exact ⟨g4.box4 4 rfl, g4.box4 7 rfl, g4.box3 8 rfl⟩
          clear hK K
          try simp only [Act.put, List.setIfInBounds_toArray, List.set_cons_zero, List.set_cons_succ]
          refine wpAnyH_ready (rs := [8]) (by kernel_rfl) (by simp) ?_
          refine ready_cons rfl (fun K hK => ?_) AllReadyH.nil
          refine step_append_rows rfl (.tmp 18) (.tmp 23) rfl g4 3 0 rfl rfl (by decide) hulR1 hulR2 HLen.out rfl rfl fun vA v5 yy g5 hAR => ?_
          simp only [List.set_cons_zero, List.set_cons_succ] at g5
          refine hK.out _ _ ?_ (fun hHeld => ?_)
          · exact ⟨g5.box4 4 rfl, g5.box4 7 rfl, g5.box3 8 rfl⟩
          clear hK K
          try simp only [Act.put, List.setIfInBounds_toArray, List.set_cons_zero, List.set_cons_succ]
          refine wpAnyH_ready (rs := [9]) (by kernel_rfl) (by simp) ?_
          refine ready_cons rfl (fun K hK => ?_) AllReadyH.nil
          go_simp
          refine (C3.out _ _ hAR).mono ?_
          rintro (e : Ending) v6 ⟨u6, rfl, ho6, hb6⟩
          obtain ⟨A9, n9, c9, rfl⟩ := ho6.slice
          have g6 := g5.pushOwn hb6 ho6
          show K _ _
          refine hK.out _ _ ?_ (fun hHeld => ?_)
          · exact ⟨g6.box4 5 rfl, g6.box4 8 rfl, g6.box3 9 rfl⟩
          clear hK K
          try simp only [Act.put, List.setIfInBounds_toArray, List.set_cons_zero, List.set_cons_succ]
          refine wpAnyH_done (by kernel_rfl) ?_ _
          show wpList _ _ _ _ _ _
          simp only [List.drop_succ_cons, List.drop_zero]
          clear hHeld
          obtain ⟨p0, p1, p2, p3⟩ := g6.box4 3 rfl
          have f0 := g6.free 3 rfl 0
          have f1 := g6.free 3 rfl 1
          have f2 := g6.free 3 rfl 2
          have f3 := g6.free 3 rfl 3
          have q1 := (((g6.setBox 3 rfl 0 (.int .i64 p)).setBox 3 rfl 1 (.int .i64 l2)).setBox 3 rfl 2 (.int .i64 n)).setBox 3 rfl 3 (.slice A9 n9 c9)
          go_wp2_with fail
          go_meet
          exact ⟨_, _, _, _, rfl, (((((q1.rid 2).rid 4).rid 1).rid 2).toFront 1 rfl)⟩
      · go_simp
        have g1 := g0.box [.int .i64 0, .int .i64 0, .int .i64 0, .slice none 0 0] 32
        refine hK.out _ _ ?_ (fun hHeld => ?_)
        · exact ⟨g1.box4 1 rfl, g1.box4 4 rfl, g1.box3 5 rfl⟩
        clear hK K
        generalize World.alloc v0 (.cells #[.int .i64 0, .int .i64 0, .int .i64 0, .slice none 0 0] 32) = v1 at g1 hHeld ⊢
        try simp only [Act.put, List.setIfInBounds_toArray, List.set_cons_zero, List.set_cons_succ]
        refine wpAnyH_ready (rs := [2]) (by kernel_rfl) (by simp) ?_
        refine ready_cons rfl (fun K hK => ?_) AllReadyH.nil
        go_simp
        refine (C1.out _ _ (g1.ownInts 2 rfl)).mono ?_
        rintro (e : Ending) v2 ⟨u2, us2, rfl, hul2, hok2, hnd2, hb2⟩
        have g2 := g1.pushRows hb2 hok2 hnd2
        have hulR1 := hul2
        show K _ _
        refine hK.out _ _ ?_ (fun hHeld => ?_)
        · exact ⟨g2.box4 2 rfl, g2.box4 5 rfl, g2.box3 6 rfl⟩
        clear hK K
        try simp only [Act.put, List.setIfInBounds_toArray, List.set_cons_zero, List.set_cons_succ]
        refine wpAnyH_ready (rs := [6]) (by kernel_rfl) (by simp) ?_
        refine ready_cons rfl (fun K hK => ?_) AllReadyH.nil
        go_simp
        refine (HP.out _ _ _ _ (g2.ro (k + 7) (by simpa using hk)).ints (g2.ownInts 3 rfl) (g2.ownInts 3 rfl)).mono ?_
        rintro (e : Ending) v3 ⟨u3, rfl, ho3, hb3⟩
        obtain ⟨B3, m3, d3, rfl⟩ := ho3.slice
        have g3 := g2.pushOwn hb3 ho3
        show K _ _
        refine hK.out _ _ ?_ (fun hHeld => ?_)
        · exact ⟨g3.box4 3 rfl, g3.box4 6 rfl, g3.box3 7 rfl⟩
        clear hK K
        try simp only [Act.put, List.setIfInBounds_toArray, List.set_cons_zero, List.set_cons_succ]
        refine wpAnyH_ready (rs := [7]) (by kernel_rfl) (by simp) ?_
        refine ready_cons rfl (fun K hK => ?_) AllReadyH.nil
        go_simp
        refine (C2.out _ _ (g3.ownInts 0 rfl)).mono ?_
        rintro (e : Ending) v4 ⟨u4, us4, rfl, hul4, hok4, hnd4, hb4⟩
        have g4 := g3.pushRows hb4 hok4 hnd4
        have hulR2 := hul4
        show K _ _
        refine hK.out _ _ ?_ (fun hHeld => ?_)
        · exact ⟨g4.box4 4 rfl, g4.box4 7 rfl, g4.box3 8 rfl⟩
        clear hK K
        try simp only [Act.put, List.setIfInBounds_toArray, List.set_cons_zero, List.set_cons_succ]
        refine wpAnyH_ready (rs := [8]) (by kernel_rfl) (by simp) ?_
        refine ready_cons rfl (fun K hK => ?_) AllReadyH.nil
        refine step_append_rows rfl (.tmp 18) (.tmp 23) rfl g4 2 0 rfl rfl (by decide) hulR1 hulR2 HLen.out rfl rfl fun vA v5 yy g5 hAR => ?_
        simp only [List.set_cons_zero, List.set_cons_succ] at g5
        refine hK.out _ _ ?_ (fun hHeld => ?_)
        · exact ⟨g5.box4 4 rfl, g5.box4 7 rfl, g5.box3 8 rfl⟩
        clear hK K
        try simp only [Act.put, List.setIfInBounds_toArray, List.set_cons_zero, List.set_cons_succ]
        refine wpAnyH_ready (rs := [9]) (by kernel_rfl) (by simp) ?_
        refine ready_cons rfl (fun K hK => ?_) AllReadyH.nil
        go_simp
        refine (C3.out _ _ hAR).mono ?_
        rintro (e : Ending) v6 ⟨u6, rfl, ho6, hb6⟩
        obtain ⟨A9, n9, c9, rfl⟩ := ho6.slice
        have g6 := g5.pushOwn hb6 ho6
        show K _ _
        refine hK.out _ _ ?_ (fun hHeld => ?_)
        · exact ⟨g6.box4 5 rfl, g6.box4 8 rfl, g6.box3 9 rfl⟩
        clear hK K
        try simp only [Act.put, List.setIfInBounds_toArray, List.set_cons_zero, List.set_cons_succ]
        refine wpAnyH_done (by kernel_rfl) ?_ _
        show wpList _ _ _ _ _ _
        simp only [List.drop_succ_cons, List.drop_zero]
        clear hHeld
        obtain ⟨p0, p1, p2, p3⟩ := g6.box4 4 rfl
        have f0 := g6.free 4 rfl 0
        have f1 := g6.free 4 rfl 1
        have f2 := g6.free 4 rfl 2
        have f3 := g6.free 4 rfl 3
        have q1 := (((g6.setBox 4 rfl 0 (.int .i64 p)).setBox 4 rfl 1 (.int .i64 l2)).setBox 4 rfl 2 (.int .i64 n)).setBox 4 rfl 3 (.slice A9 n9 c9)
        go_wp2_with fail
        go_meet
        exact ⟨_, _, _, _, rfl, (((((q1.rid 2).rid 4).rid 1).rid 1).toFront 1 rfl)⟩
    case rest =>
    clear h2 g0
    obtain ⟨B8, A9, n9, c9, rfl, h5⟩ := hcut
    obtain ⟨x0, x1, x2, x3⟩ := h5.box4 0 rfl
    obtain ⟨z0, z1, z2, z3⟩ := h5.box4 4 rfl
    by_cases he : l2 = r
    · subst he
      obtain ⟨y0, y1, y2, y3⟩ := h5.box4 3 rfl
      have f0 := h5.free 3 rfl 0
      have f1 := h5.free 3 rfl 1
      have f2 := h5.free 3 rfl 2
      have f3 := h5.free 3 rfl 3
      have h6 := (((h5.setBox 3 rfl 0 (.int .i64 p)).setBox 3 rfl 1 (.int .i64 l2)).setBox 3 rfl 2 (.int .i64 n)).setBox 3 rfl 3 (.slice Ad D.length cd)
      obtain ⟨r0, r1, r2, r3⟩ := h6.box4 3 rfl
      go_wp2
      have hh := HR.out
      obtain ⟨a, ha⟩ := hh.1
      have hlen : (cloNext false T n p R).length = R.length := by rw [← HR2.out, ← Hl2.out, Hr.out]
      have e1 : R = G := hh.stop hlen
      rw [← e1, ← Hr.out, ← HD.out]
      refine bodyPost_ret (v := .agg #[.int .i64 p, .int .i64 l2, .int .i64 n, .slice Ad D.length cd]) (by simp [results, Try.results83, go_sem, r0, r1, r2, r3]) rfl ⟨_, rfl, ((((h6.rid 5).rid 4).rid 3).rid 1).rid 0⟩
    · have e1 : ((l2 : Int) == (r : Int)) = false := by rw [beq_eq_false_iff_ne]; omega
      have e2 : ¬ ((l2 : Int) = (r : Int)) := by omega
      have f0 := h5.free 4 rfl 0
      have f1 := h5.free 4 rfl 1
      have f2 := h5.free 4 rfl 2
      have f3 := h5.free 4 rfl 3
      have h6 := (((h5.setBox 4 rfl 0 (.int .i64 p)).setBox 4 rfl 1 (.int .i64 l2)).setBox 4 rfl 2 (.int .i64 n)).setBox 4 rfl 3 (.slice A9 n9 c9)
      go_wp2
      have hnx := HR.out.next hP (by rw [← HR2.out, ← Hl2.out, ← Hr.out]; exact he)
      rw [← HR2.out] at hnx
      have hn9 : n9 = (flat n R2).length := by
        obtain ⟨A', c', he', _⟩ := h5.ownInts 1 rfl
        simp only [Value.slice.injEq] at he'
        exact he'.2.1
      subst hn9
      go_roundg (n - R2.length)
      case measure => have := hlg.out; omega
      case rel => exact ⟨R2, A9, c9, rfl, hnx.1, by rw [← Hl2.out]; exact (h6.rid 2).rid 0⟩

set_option maxHeartbeats 8000000 in
theorem closed1_st {w0 w : World} {L : List It} (p : Int) (n k : Nat) (v t : Value) (T : List Int) (R0 : List (List Int)) (h : St w0 w (.own v (flat n R0) :: L)) (hk : L[k]? = some (.ro t T)) (hT : T.length = n * n * n) (hn : n ≤ 28) (hP : isPrime p = true) (rT : resid p T = true) (hAn : AntiT p n T) {a0 : List Nat} (hR0 : Rf p n R0 a0) :
    Calls Try.prog 83 #[.agg #[.int .i64 p, .int .i64 n, t], .agg #[.int .i64 p, .int .i64 R0.length, .int .i64 n, v], .bool true] w
      fun e w' => ∃ u, e = .returned (.agg #[.int .i64 p, .int .i64 (cloL true T n p R0).length, .int .i64 n, u]) ∧ St w0 w' (.own u (flat n (cloL true T n p R0)) :: L) := by
  have b1 := (isPrime_bd hP).1
  have hs := CloRun.start (k := true) (T := T) hP hR0
  obtain ⟨G, hG⟩ : ∃ G, G = cloL true T n p R0 := ⟨_, rfl⟩
  rw [← hG] at hs ⊢
  obtain ⟨A, c0, rfl, _, _, _⟩ := id (h.ro (k + 1) (by simpa using hk)).ints
  obtain ⟨A1, c1, rfl, _, _, _⟩ := id (h.ownInts 0 rfl)
  have h1 := (((h.box [.int .i64 p, .int .i64 n, .slice A T.length c0] 76).box [.int .i64 p, .int .i64 R0.length, .int .i64 n, .slice A1 (flat n R0).length c1] 32).box [.int .i64 0, .int .i64 0, .int .i64 0, .slice none 0 0] 32).toFront 3 rfl
  simp only [World.size_alloc] at h1
  change St w0 _ (.own (.slice A1 (flat n R0).length c1) (flat n R0) :: .box (w.heap.size + 1 + 1) _ :: .box (w.heap.size + 1) _ :: .box w.heap.size _ :: L) at h1
  have HS : Hid (CloRun true T n p R0 G) := hs
  have HT := Lib.hid hT
  have HAn := Lib.hid hAn
  clear h hs hG hT hR0 hAn
  go_enter Try.func83, Try.ntmps83
  go_wp2
  go_loopg [] (n - R0.length) (fun gk wr => ∃ (R : List (List Int)) (Ad : Option Addr) (cd : Nat), Hid (n - R.length = gk) ∧ Hid (CloRun true T n p R G) ∧ St w0 wr (.own (.slice Ad (flat n R).length cd) (flat n R) :: .box (w.heap.size + 1 + 1) [.int .i64 0, .int .i64 0, .int .i64 0, .slice none 0 0] :: .box (w.heap.size + 1) [.int .i64 p, .int .i64 R.length, .int .i64 n, .slice Ad (flat n R).length cd] :: .box w.heap.size [.int .i64 p, .int .i64 n, .slice A T.length c0] :: L))
  case atStart => exact ⟨R0, A1, c1, rfl, HS, h1⟩
  case round =>
    clear h1 HS
    obtain ⟨R, Ad, cd, hlg, HR, h1⟩ := hrel
    obtain ⟨a, ha⟩ := HR.out.1
    have hRn := rf_le_n b1 ha
    have hRW := ha.wf
    have hle := cloNext_le (k := true) (T := T) hP ha
    obtain ⟨b, hb⟩ := cloNext_rf (k := true) (T := T) hP hRW
    have hN := rf_le_n b1 hb
    have hSW : Wf p n (stepS true T n p R) := Wf.stepS hP R
    have hSl : (stepS true T n p R).length ≤ n := rf_le_n b1 (spanL_rf hP (Wf_stepArg true T n b1 R))
    have hRfl := rowsM_flat hRW
    have hSfl := rowsM_flat hSW
    obtain ⟨S1, hS1⟩ : ∃ S1, S1 = stepS true T n p R := ⟨_, rfl⟩
    obtain ⟨R2, hR2⟩ : ∃ R2, R2 = cloNext true T n p R := ⟨_, rfl⟩
    have hst : R2 = spanL p n (R ++ S1) := by rw [hR2, hS1]; rfl
    rw [← hS1] at hSW hSl hSfl
    rw [← hR2] at hle hN
    obtain ⟨l1, hl1⟩ : ∃ l1, l1 = S1.length := ⟨_, rfl⟩
    obtain ⟨l2, hl2⟩ : ∃ l2, l2 = R2.length := ⟨_, rfl⟩
    obtain ⟨D, hD⟩ : ∃ D, D = flat n R := ⟨_, rfl⟩
    obtain ⟨r, hr⟩ : ∃ r, r = R.length := ⟨_, rfl⟩
    have hnn := mul_le hn hn
    have hrn := mul_le (show R.length ≤ 28 by omega) hn
    have hsn := mul_le (show S1.length ≤ 28 by omega) hn
    have HU := Lib.hid (fun W => UnitMatrixI_any p n W hP (by omega))
    have HP := Lib.hid (show ∀ (W : World) (v1 v2 v3 : Value), Ints W v1 T → Ints W v2 D → Ints W v3 (unitD n) → Calls Try.prog 90 #[.agg #[.int .i64 p, .int .i64 n, v1], .agg #[.int .i64 p, .int .i64 r, .int .i64 n, v2], .agg #[.int .i64 p, .int .i64 n, .int .i64 n, v3]] W (RetMat W p l1 n (flat n S1)) from fun W v1 v2 v3 x1 x2 x3 => by
      rw [hD] at x2
      have := product_any p p p n R.length n v1 v2 v3 T (flat n R) (unitD n) W x1 x2 x3 HT.out (length_flat n R) (length_unitD n) hn (by omega) (by omega) hP rT (resid_flat (by omega) hRW) (resid_unitD b1 n)
      rw [hl1, hS1, hr]
      have e : stepS true T n p R = spanL p n (prodL T n p R.length (flat n R) n (unitD n)) := by
        rw [← stepS_swap hP HAn.out hRW, brR, length_uniR, flat_uniR]
      rw [e]
      exact this)
    have C1 := Lib.hid (show ∀ (W : World) (v1 : Value), Ints W v1 D → Calls Try.prog 73 #[.agg #[.int .i64 p, .int .i64 r, .int .i64 n, v1]] W (RetLL W R) from fun W v1 x1 => by
      rw [hD] at x1
      have := rowsOf_any p R.length n v1 (flat n R) W x1 (length_flat n R) (by omega) (by omega)
      rw [hRfl] at this
      rw [hr]
      exact this)
    have C2 := Lib.hid (show ∀ (W : World) (v1 : Value), Ints W v1 (flat n S1) → Calls Try.prog 73 #[.agg #[.int .i64 p, .int .i64 l1, .int .i64 n, v1]] W (RetLL W S1) from fun W v1 x1 => by
      have := rowsOf_any p S1.length n v1 (flat n S1) W x1 (length_flat n S1) (by omega) (by omega)
      rw [hSfl] at this
      rw [hl1]
      exact this)
    have C3 := Lib.hid (show ∀ (W : World) (v1 : Value), IntRows W v1 (R ++ S1) → Calls Try.prog 137 #[.agg #[.int .i64 p, .int .i64 n, .slice A T.length c0], v1] W (RetMat W p l2 n (flat n R2)) from fun W v1 x1 => by
      rw [hl2, hst]
      exact space_any p n A T.length c0 v1 (R ++ S1) W x1 (hRW.app hSW) (by rw [List.length_append, Nat.add_mul]; omega) (by rw [List.length_append]; omega) (by omega) hP)
    have HLen := Lib.hid (show R.length + S1.length ≤ 1099511627776 by omega)
    rw [← hD, ← hr] at h1
    have Hr := Lib.hid hr
    have HD := Lib.hid hD
    have HR2 := Lib.hid hR2
    have Hl2 := Lib.hid hl2
    have HLe := Lib.hid (show R.length ≤ R2.length from hle)
    have HN := Lib.hid hN
    clear ha hRW hb hSW hS1 hst hl1 hl2 hD hr hR2 hle hN a b hRfl hSfl
    obtain ⟨v0, v1, v2, v3⟩ := h1.box4 2 rfl
    have h2 := h1.box [.int .i64 p, .int .i64 r, .int .i64 n, .slice Ad D.length cd] 32
    obtain ⟨y0, y1, y2⟩ := h2.box3 4 rfl
    go_wp2_with fail
    refine (HU.out _).mono ?_
    rintro (e : Ending) w5 ⟨u, rfl, ho, hb5⟩
    obtain ⟨A7, n7, c7, rfl⟩ := ho.slice
    have h3 := h2.pushOwn hb5 ho
    obtain ⟨x0, x1, x2, x3⟩ := h3.box4 1 rfl
    have f0 := h3.free 1 rfl 0
    have f1 := h3.free 1 rfl 1
    have f2 := h3.free 1 rfl 2
    have f3 := h3.free 1 rfl 3
    have h4 := (((h3.setBox 1 rfl 0 (.int .i64 p)).setBox 1 rfl 1 (.int .i64 n)).setBox 1 rfl 2 (.int .i64 n)).setBox 1 rfl 3 (.slice A7 n7 c7)
    clear v0 v1 v2 v3 y0 y1 y2 ho hb5
    go_upto_region 4 with fail
    clear x0 x1 x2 x3 f0 f1 f2 f3 h1 h2 h3
    generalize hBt : wr.heap.size = Bt at h4 ⊢
    clear hBt
    have g0 := h4.drew
    go_cut [8] (fun s8 wx => ∃ (B8 : Nat) (A9 : Option Addr) (n9 c9 : Nat), s8 = .pointer (some ⟨B8, 0, none⟩) ∧ St w0 wx (.box B8 [.int .i64 p, .int .i64 l2, .int .i64 n, .slice A9 n9 c9] :: .own (.slice A9 n9 c9) (flat n R2) :: .own (.slice Ad D.length cd) D :: .box (w.heap.size + 1 + 1) [.int .i64 0, .int .i64 0, .int .i64 0, .slice none 0 0] :: .box (w.heap.size + 1) [.int .i64 p, .int .i64 r, .int .i64 n, .slice Ad D.length cd] :: .box w.heap.size [.int .i64 p, .int .i64 n, .slice A T.length c0] :: L))
    case first =>
      refine wp_region_cut (S := fun w' => (w'.cell? ⟨Bt, 0, none⟩ = some (.int .i64 p) ∧ w'.cell? ⟨Bt, 1, none⟩ = some (.int .i64 n) ∧ w'.cell? ⟨Bt, 2, none⟩ = some (.int .i64 n) ∧ w'.cell? ⟨Bt, 3, none⟩ = some (.slice A7 n7 c7)) ∧ (w'.cell? ⟨w.heap.size + 1, 0, none⟩ = some (.int .i64 p) ∧ w'.cell? ⟨w.heap.size + 1, 1, none⟩ = some (.int .i64 r) ∧ w'.cell? ⟨w.heap.size + 1, 2, none⟩ = some (.int .i64 n) ∧ w'.cell? ⟨w.heap.size + 1, 3, none⟩ = some (.slice Ad D.length cd)) ∧ w'.cell? ⟨w.heap.size, 0, none⟩ = some (.int .i64 p) ∧ w'.cell? ⟨w.heap.size, 1, none⟩ = some (.int .i64 n) ∧ w'.cell? ⟨w.heap.size, 2, none⟩ = some (.slice A T.length c0)) 11 (by kernel_rfl) (by kernel_rfl) ⟨g0.box4 1 rfl, g0.box4 4 rfl, g0.box3 5 rfl⟩ (fun hHeld => ?_)
      simp only [List.take_succ_cons, List.take_zero]
      generalize hv0 : World.drew _ = v0 at g0 hHeld ⊢
      clear hv0 h4
      refine anyH_take (v := ?_) 0 rfl (by kernel_rfl) (by kernel_rfl) (by kernel_rfl) (fun _ _ _ h => h) rfl ?_ hHeld ?_
      rotate_left
      · intro w' hSw
        go_simp
        try with_reducible rfl
      try simp only [Act.put, List.setIfInBounds_toArray, List.set_cons_zero, List.set_cons_succ]
      refine anyH_take (v := ?_) 1 rfl (by kernel_rfl) (by kernel_rfl) (by kernel_rfl) (fun _ _ _ h => h) rfl ?_ hHeld ?_
      rotate_left
      · intro w' hSw
        go_simp
        try with_reducible rfl
      try simp only [Act.put, List.setIfInBounds_toArray, List.set_cons_zero, List.set_cons_succ]
      refine anyH_take (v := ?_) 3 rfl (by kernel_rfl) (by kernel_rfl) (by kernel_rfl) (fun _ _ _ h => h) rfl ?_ hHeld ?_
      rotate_left
      · intro w' hSw
        go_simp
        try with_reducible rfl
      try simp only [Act.put, List.setIfInBounds_toArray, List.set_cons_zero, List.set_cons_succ]
      refine anyH_take (v := ?_) 4 rfl (by kernel_rfl) (by kernel_rfl) (by kernel_rfl) (fun _ _ _ h => h) rfl ?_ hHeld ?_
      rotate_left
      · intro w' hSw
        go_simp
        try with_reducible rfl
      try simp only [Act.put, List.setIfInBounds_toArray, List.set_cons_zero, List.set_cons_succ]
      refine anyH_take (v := ?_) 5 rfl (by kernel_rfl) (by kernel_rfl) (by kernel_rfl) (fun _ _ _ h => h) rfl ?_ hHeld ?_
      rotate_left
      · intro w' hSw
        go_simp
        try with_reducible rfl
      try simp only [Act.put, List.setIfInBounds_toArray, List.set_cons_zero, List.set_cons_succ]
      refine wpAnyH_ready (rs := [2, 10]) (by kernel_rfl) (by simp) ?_
      refine ready_cons rfl (fun K hK => ?_) (ready_cons rfl (fun K hK => ?_) AllReadyH.nil)
      · go_simp
        refine (C1.out _ _ (g0.ownInts 2 rfl)).mono ?_
        rintro (e : Ending) v1 ⟨u1, us1, rfl, hul1, hok1, hnd1, hb1⟩
        have g1 := g0.pushRows hb1 hok1 hnd1
        have hulR1 := hul1
        show K _ _
        refine hK.out _ _ ?_ (fun hHeld => ?_)
        · exact ⟨g1.box4 2 rfl, g1.box4 5 rfl, g1.box3 6 rfl⟩
        clear hK K
        try simp only [Act.put, List.setIfInBounds_toArray, List.set_cons_zero, List.set_cons_succ]
        refine wpAnyH_ready (rs := [6, 10]) (by kernel_rfl) (by simp) ?_
        refine ready_cons rfl (fun K hK => ?_) (ready_cons rfl (fun K hK => ?_) AllReadyH.nil)
        · go_simp
          refine (HP.out _ _ _ _ (g1.ro (k + 7) (by simpa using hk)).ints (g1.ownInts 3 rfl) (g1.ownInts 1 rfl)).mono ?_
          rintro (e : Ending) v2 ⟨u2, rfl, ho2, hb2⟩
          obtain ⟨B2, m2, d2, rfl⟩ := ho2.slice
          have g2 := g1.pushOwn hb2 ho2
          show K _ _
          refine hK.out _ _ ?_ (fun hHeld => ?_)
          · exact ⟨g2.box4 3 rfl, g2.box4 6 rfl, g2.box3 7 rfl⟩
          clear hK K
          try simp only [Act.put, List.setIfInBounds_toArray, List.set_cons_zero, List.set_cons_succ]
          refine wpAnyH_ready (rs := [7, 10]) (by kernel_rfl) (by simp) ?_
          refine ready_cons rfl (fun K hK => ?_) (ready_cons rfl (fun K hK => ?_) AllReadyH.nil)
          · go_simp
            refine (C2.out _ _ (g2.ownInts 0 rfl)).mono ?_
            rintro (e : Ending) v3 ⟨u3, us3, rfl, hul3, hok3, hnd3, hb3⟩
            have g3 := g2.pushRows hb3 hok3 hnd3
            have hulR2 := hul3
            show K _ _
            refine hK.out _ _ ?_ (fun hHeld => ?_)
            · exact ⟨g3.box4 4 rfl, g3.box4 7 rfl, g3.box3 8 rfl⟩
            clear hK K
            try simp only [Act.put, List.setIfInBounds_toArray, List.set_cons_zero, List.set_cons_succ]
            refine wpAnyH_ready (rs := [8, 10]) (by kernel_rfl) (by simp) ?_
            refine ready_cons rfl (fun K hK => ?_) (ready_cons rfl (fun K hK => ?_) AllReadyH.nil)
            · refine step_append_rows rfl (.tmp 18) (.tmp 23) rfl g3 2 0 rfl rfl (by decide) hulR1 hulR2 HLen.out rfl rfl fun vA v4 yy g4 hAR => ?_
              simp only [List.set_cons_zero, List.set_cons_succ] at g4
              refine hK.out _ _ ?_ (fun hHeld => ?_)
              · exact ⟨g4.box4 4 rfl, g4.box4 7 rfl, g4.box3 8 rfl⟩
              clear hK K
              try simp only [Act.put, List.setIfInBounds_toArray, List.set_cons_zero, List.set_cons_succ]
              refine wpAnyH_ready (rs := [9, 10]) (by kernel_rfl) (by simp) ?_
              refine ready_cons rfl (fun K hK => ?_) (ready_cons rfl (fun K hK => ?_) AllReadyH.nil)
              · go_simp
                refine (C3.out _ _ hAR).mono ?_
                rintro (e : Ending) v5 ⟨u5, rfl, ho5, hb5⟩
                obtain ⟨A9, n9, c9, rfl⟩ := ho5.slice
                have g5 := g4.pushOwn hb5 ho5
                show K _ _
                refine hK.out _ _ ?_ (fun hHeld => ?_)
                · exact ⟨g5.box4 5 rfl, g5.box4 8 rfl, g5.box3 9 rfl⟩
                clear hK K
                try simp only [Act.put, List.setIfInBounds_toArray, List.set_cons_zero, List.set_cons_succ]
                refine wpAnyH_ready (rs := [10]) (by kernel_rfl) (by simp) ?_
                refine ready_cons rfl (fun K hK => ?_) AllReadyH.nil
                go_simp
                have g6 := g5.box [.int .i64 0, .int .i64 0, .int .i64 0, .slice none 0 0] 32
                refine hK.out _ _ ?_ (fun hHeld => ?_)
                · exact ⟨g6.box4 6 rfl, g6.box4 9 rfl, g6.box3 10 rfl⟩
                clear hK K
                generalize World.alloc v5 (.cells #[.int .i64 0, .int .i64 0, .int .i64 0, .slice none 0 0] 32) = v6 at g6 hHeld ⊢
                try simp only [Act.put, List.setIfInBounds_toArray, List.set_cons_zero, List.set_cons_succ]
                refine wpAnyH_done (by kernel_rfl) ?_ _
                show wpList _ _ _ _ _ _
                simp only [List.drop_succ_cons, List.drop_zero]
                clear hHeld
                obtain ⟨p0, p1, p2, p3⟩ := g6.box4 0 rfl
                have f0 := g6.free 0 rfl 0
                have f1 := g6.free 0 rfl 1
                have f2 := g6.free 0 rfl 2
                have f3 := g6.free 0 rfl 3
                have q1 := (((g6.setBox 0 rfl 0 (.int .i64 p)).setBox 0 rfl 1 (.int .i64 l2)).setBox 0 rfl 2 (.int .i64 n)).setBox 0 rfl 3 (.slice A9 n9 c9)
                go_wp2_with fail
                go_meet
                exact ⟨_, _, _, _, rfl, (((((((q1.rid 3).rid 5).rid 2).rid 2).rid 2).toFront 1 rfl).toFront 1 rfl)⟩
              · go_simp
                have g5 := g4.box [.int .i64 0, .int .i64 0, .int .i64 0, .slice none 0 0] 32
                refine hK.out _ _ ?_ (fun hHeld => ?_)
                · exact ⟨g5.box4 5 rfl, g5.box4 8 rfl, g5.box3 9 rfl⟩
                clear hK K
                replace hAR := hAR.keep fun q hq => (((Below.refl _ _).alloc (Nat.le_refl _) (.cells #[.int .i64 0, .int .i64 0, .int .i64 0, .slice none 0 0] 32)).cell hq : (World.alloc v4 (.cells #[.int .i64 0, .int .i64 0, .int .i64 0, .slice none 0 0] 32)).cell? q = _)
                generalize World.alloc v4 (.cells #[.int .i64 0, .int .i64 0, .int .i64 0, .slice none 0 0] 32) = v5 at g5 hHeld hAR ⊢
                try simp only [Act.put, List.setIfInBounds_toArray, List.set_cons_zero, List.set_cons_succ]
                refine wpAnyH_ready (rs := [9]) (by kernel_rfl) (by simp) ?_
                refine ready_cons rfl (fun K hK => ?_) AllReadyH.nil
                go_simp
                refine (C3.out _ _ hAR).mono ?_
                rintro (e : Ending) v6 ⟨u6, rfl, ho6, hb6⟩
                obtain ⟨A9, n9, c9, rfl⟩ := ho6.slice
                have g6 := g5.pushOwn hb6 ho6
                show K _ _
                refine hK.out _ _ ?_ (fun hHeld => ?_)
                · exact ⟨g6.box4 6 rfl, g6.box4 9 rfl, g6.box3 10 rfl⟩
                clear hK K
                try simp only [Act.put, List.setIfInBounds_toArray, List.set_cons_zero, List.set_cons_succ]
                refine wpAnyH_done (by kernel_rfl) ?_ _
                show wpList _ _ _ _ _ _
                simp only [List.drop_succ_cons, List.drop_zero]
                clear hHeld
                obtain ⟨p0, p1, p2, p3⟩ := g6.box4 1 rfl
                have f0 := g6.free 1 rfl 0
                have f1 := g6.free 1 rfl 1
                have f2 := g6.free 1 rfl 2
                have f3 := g6.free 1 rfl 3
                have q1 := (((g6.setBox 1 rfl 0 (.int .i64 p)).setBox 1 rfl 1 (.int .i64 l2)).setBox 1 rfl 2 (.int .i64 n)).setBox 1 rfl 3 (.slice A9 n9 c9)
                go_wp2_with fail
                go_meet
                exact ⟨_, _, _, _, rfl, ((((((q1.rid 3).rid 5).rid 2).rid 2).rid 2).toFront 1 rfl)⟩
            · go_simp
              have g4 := g3.box [.int .i64 0, .int .i64 0, .int .i64 0, .slice none 0 0] 32
              refine hK.out _ _ ?_ (fun hHeld => ?_)
              · exact ⟨g4.box4 5 rfl, g4.box4 8 rfl, g4.box3 9 rfl⟩
              clear hK K
              generalize World.alloc v3 (.cells #[.int .i64 0, .int .i64 0, .int .i64 0, .slice none 0 0] 32) = v4 at g4 hHeld ⊢
              try simp only [Act.put, List.setIfInBounds_toArray, List.set_cons_zero, List.set_cons_succ]
              refine wpAnyH_ready (rs := [8]) (by kernel_rfl) (by simp) ?_
              refine ready_cons rfl (fun K hK => ?_) AllReadyH.nil
              refine step_append_rows rfl (.tmp 18) (.tmp 23) rfl g4 3 1 rfl rfl (by decide) hulR1 hulR2 HLen.out rfl rfl fun vA v5 yy g5 hAR => ?_
              simp only [List.set_cons_zero, List.set_cons_succ] at g5
              refine hK.out _ _ ?_ (fun hHeld => ?_)
              · exact ⟨g5.box4 5 rfl, g5.box4 8 rfl, g5.box3 9 rfl⟩
              clear hK K
              try simp only [Act.put, List.setIfInBounds_toArray, List.set_cons_zero, List.set_cons_succ]
              refine wpAnyH_ready (rs := [9]) (by kernel_rfl) (by simp) ?_
              refine ready_cons rfl (fun K hK => ?_) AllReadyH.nil
              go_simp
              refine (C3.out _ _ hAR).mono ?_
              rintro (e : Ending) v6 ⟨u6, rfl, ho6, hb6⟩
              obtain ⟨A9, n9, c9, rfl⟩ := ho6.slice
              have g6 := g5.pushOwn hb6 ho6
              show K _ _
              refine hK.out _ _ ?_ (fun hHeld => ?_)
              · exact ⟨g6.box4 6 rfl, g6.box4 9 rfl, g6.box3 10 rfl⟩
              clear hK K
              try simp only [Act.put, List.setIfInBounds_toArray, List.set_cons_zero, List.set_cons_succ]
              refine wpAnyH_done (by kernel_rfl) ?_ _
              show wpList _ _ _ _ _ _
              simp only [List.drop_succ_cons, List.drop_zero]
              clear hHeld
              obtain ⟨p0, p1, p2, p3⟩ := g6.box4 1 rfl
              have f0 := g6.free 1 rfl 0
              have f1 := g6.free 1 rfl 1
              have f2 := g6.free 1 rfl 2
              have f3 := g6.free 1 rfl 3
              have q1 := (((g6.setBox 1 rfl 0 (.int .i64 p)).setBox 1 rfl 1 (.int .i64 l2)).setBox 1 rfl 2 (.int .i64 n)).setBox 1 rfl 3 (.slice A9 n9 c9)
              go_wp2_with fail
              go_meet
              exact ⟨_, _, _, _, rfl, ((((((q1.rid 3).rid 5).rid 2).rid 2).rid 2).toFront 1 rfl)⟩
          · go_simp
            have g3 := g2.box [.int .i64 0, .int .i64 0, .int .i64 0, .slice none 0 0] 32
            refine hK.out _ _ ?_ (fun hHeld => ?_)
            · exact ⟨g3.box4 4 rfl, g3.box4 7 rfl, g3.box3 8 rfl⟩
            clear hK K
            generalize World.alloc v2 (.cells #[.int .i64 0, .int .i64 0, .int .i64 0, .slice none 0 0] 32) = v3 at g3 hHeld ⊢
            try simp only [Act.put, List.setIfInBounds_toArray, List.set_cons_zero, List.set_cons_succ]
            refine wpAnyH_ready (rs := [7]) (by kernel_rfl) (by simp) ?_
            refine ready_cons rfl (fun K hK => ?_) AllReadyH.nil
            go_simp
            refine (C2.out _ _ (g3.ownInts 1 rfl)).mono ?_
            rintro (e : Ending) v4 ⟨u4, us4, rfl, hul4, hok4, hnd4, hb4⟩
            have g4 := g3.pushRows hb4 hok4 hnd4
            have hulR2 := hul4
            show K _ _
            refine hK.out _ _ ?_ (fun hHeld => ?_)
            · exact ⟨g4.box4 5 rfl, g4.box4 8 rfl, g4.box3 9 rfl⟩
            clear hK K
            try simp only [Act.put, List.setIfInBounds_toArray, List.set_cons_zero, List.set_cons_succ]
            refine wpAnyH_ready (rs := [8]) (by kernel_rfl) (by simp) ?_
            refine ready_cons rfl (fun K hK => ?_) AllReadyH.nil
            refine step_append_rows rfl (.tmp 18) (.tmp 23) rfl g4 3 0 rfl rfl (by decide) hulR1 hulR2 HLen.out rfl rfl fun vA v5 yy g5 hAR => ?_
            simp only [List.set_cons_zero, List.set_cons_succ] at g5
            refine hK.out _ _ ?_ (fun hHeld => ?_)
            · exact ⟨g5.box4 5 rfl, g5.box4 8 rfl, g5.box3 9 rfl⟩
            clear hK K
            try simp only [Act.put, List.setIfInBounds_toArray, List.set_cons_zero, List.set_cons_succ]
            refine wpAnyH_ready (rs := [9]) (by kernel_rfl) (by simp) ?_
            refine ready_cons rfl (fun K hK => ?_) AllReadyH.nil
            go_simp
            refine (C3.out _ _ hAR).mono ?_
            rintro (e : Ending) v6 ⟨u6, rfl, ho6, hb6⟩
            obtain ⟨A9, n9, c9, rfl⟩ := ho6.slice
            have g6 := g5.pushOwn hb6 ho6
            show K _ _
            refine hK.out _ _ ?_ (fun hHeld => ?_)
            · exact ⟨g6.box4 6 rfl, g6.box4 9 rfl, g6.box3 10 rfl⟩
            clear hK K
            try simp only [Act.put, List.setIfInBounds_toArray, List.set_cons_zero, List.set_cons_succ]
            refine wpAnyH_done (by kernel_rfl) ?_ _
            show wpList _ _ _ _ _ _
            simp only [List.drop_succ_cons, List.drop_zero]
            clear hHeld
            obtain ⟨p0, p1, p2, p3⟩ := g6.box4 2 rfl
            have f0 := g6.free 2 rfl 0
            have f1 := g6.free 2 rfl 1
            have f2 := g6.free 2 rfl 2
            have f3 := g6.free 2 rfl 3
            have q1 := (((g6.setBox 2 rfl 0 (.int .i64 p)).setBox 2 rfl 1 (.int .i64 l2)).setBox 2 rfl 2 (.int .i64 n)).setBox 2 rfl 3 (.slice A9 n9 c9)
            go_wp2_with fail
            go_meet
            exact ⟨_, _, _, _, rfl, ((((((q1.rid 3).rid 5).rid 1).rid 2).rid 2).toFront 1 rfl)⟩
        · go_simp
          have g2 := g1.box [.int .i64 0, .int .i64 0, .int .i64 0, .slice none 0 0] 32
          refine hK.out _ _ ?_ (fun hHeld => ?_)
          · exact ⟨g2.box4 3 rfl, g2.box4 6 rfl, g2.box3 7 rfl⟩
          clear hK K
          generalize World.alloc v1 (.cells #[.int .i64 0, .int .i64 0, .int .i64 0, .slice none 0 0] 32) = v2 at g2 hHeld ⊢
          try simp only [Act.put, List.setIfInBounds_toArray, List.set_cons_zero, List.set_cons_succ]
          refine wpAnyH_ready (rs := [6]) (by kernel_rfl) (by simp) ?_
          refine ready_cons rfl (fun K hK => ?_) AllReadyH.nil
          go_simp
          refine (HP.out _ _ _ _ (g2.ro (k + 8) (by simpa using hk)).ints (g2.ownInts 4 rfl) (g2.ownInts 2 rfl)).mono ?_
          rintro (e : Ending) v3 ⟨u3, rfl, ho3, hb3⟩
          obtain ⟨B3, m3, d3, rfl⟩ := ho3.slice
          have g3 := g2.pushOwn hb3 ho3
          show K _ _
          refine hK.out _ _ ?_ (fun hHeld => ?_)
          · exact ⟨g3.box4 4 rfl, g3.box4 7 rfl, g3.box3 8 rfl⟩
          clear hK K
          try simp only [Act.put, List.setIfInBounds_toArray, List.set_cons_zero, List.set_cons_succ]
          refine wpAnyH_ready (rs := [7]) (by kernel_rfl) (by simp) ?_
          refine ready_cons rfl (fun K hK => ?_) AllReadyH.nil
          go_simp
          refine (C2.out _ _ (g3.ownInts 0 rfl)).mono ?_
          rintro (e : Ending) v4 ⟨u4, us4, rfl, hul4, hok4, hnd4, hb4⟩
          have g4 := g3.pushRows hb4 hok4 hnd4
          have hulR2 := hul4
          show K _ _
          refine hK.out _ _ ?_ (fun hHeld => ?_)
          · exact ⟨g4.box4 5 rfl, g4.box4 8 rfl, g4.box3 9 rfl⟩
          clear hK K
          try simp only [Act.put, List.setIfInBounds_toArray, List.set_cons_zero, List.set_cons_succ]
          refine wpAnyH_ready (rs := [8]) (by kernel_rfl) (by simp) ?_
          refine ready_cons rfl (fun K hK => ?_) AllReadyH.nil
          refine step_append_rows rfl (.tmp 18) (.tmp 23) rfl g4 3 0 rfl rfl (by decide) hulR1 hulR2 HLen.out rfl rfl fun vA v5 yy g5 hAR => ?_
          simp only [List.set_cons_zero, List.set_cons_succ] at g5
          refine hK.out _ _ ?_ (fun hHeld => ?_)
          · exact ⟨g5.box4 5 rfl, g5.box4 8 rfl, g5.box3 9 rfl⟩
          clear hK K
          try simp only [Act.put, List.setIfInBounds_toArray, List.set_cons_zero, List.set_cons_succ]
          refine wpAnyH_ready (rs := [9]) (by kernel_rfl) (by simp) ?_
          refine ready_cons rfl (fun K hK => ?_) AllReadyH.nil
          go_simp
          refine (C3.out _ _ hAR).mono ?_
          rintro (e : Ending) v6 ⟨u6, rfl, ho6, hb6⟩
          obtain ⟨A9, n9, c9, rfl⟩ := ho6.slice
          have g6 := g5.pushOwn hb6 ho6
          show K _ _
          refine hK.out _ _ ?_ (fun hHeld => ?_)
          · exact ⟨g6.box4 6 rfl, g6.box4 9 rfl, g6.box3 10 rfl⟩
          clear hK K
          try simp only [Act.put, List.setIfInBounds_toArray, List.set_cons_zero, List.set_cons_succ]
          refine wpAnyH_done (by kernel_rfl) ?_ _
          show wpList _ _ _ _ _ _
          simp only [List.drop_succ_cons, List.drop_zero]
          clear hHeld
          obtain ⟨p0, p1, p2, p3⟩ := g6.box4 3 rfl
          have f0 := g6.free 3 rfl 0
          have f1 := g6.free 3 rfl 1
          have f2 := g6.free 3 rfl 2
          have f3 := g6.free 3 rfl 3
          have q1 := (((g6.setBox 3 rfl 0 (.int .i64 p)).setBox 3 rfl 1 (.int .i64 l2)).setBox 3 rfl 2 (.int .i64 n)).setBox 3 rfl 3 (.slice A9 n9 c9)
          go_wp2_with fail
          go_meet
          exact ⟨_, _, _, _, rfl, ((((((q1.rid 2).rid 5).rid 1).rid 2).rid 2).toFront 1 rfl)⟩
      · go_simp
        have g1 := g0.box [.int .i64 0, .int .i64 0, .int .i64 0, .slice none 0 0] 32
        refine hK.out _ _ ?_ (fun hHeld => ?_)
        · exact ⟨g1.box4 2 rfl, g1.box4 5 rfl, g1.box3 6 rfl⟩
        clear hK K
        generalize World.alloc v0 (.cells #[.int .i64 0, .int .i64 0, .int .i64 0, .slice none 0 0] 32) = v1 at g1 hHeld ⊢
        try simp only [Act.put, List.setIfInBounds_toArray, List.set_cons_zero, List.set_cons_succ]
        refine wpAnyH_ready (rs := [2]) (by kernel_rfl) (by simp) ?_
        refine ready_cons rfl (fun K hK => ?_) AllReadyH.nil
        go_simp
        refine (C1.out _ _ (g1.ownInts 3 rfl)).mono ?_
        rintro (e : Ending) v2 ⟨u2, us2, rfl, hul2, hok2, hnd2, hb2⟩
        have g2 := g1.pushRows hb2 hok2 hnd2
        have hulR1 := hul2
        show K _ _
        refine hK.out _ _ ?_ (fun hHeld => ?_)
        · exact ⟨g2.box4 3 rfl, g2.box4 6 rfl, g2.box3 7 rfl⟩
        clear hK K
        try simp only [Act.put, List.setIfInBounds_toArray, List.set_cons_zero, List.set_cons_succ]
        refine wpAnyH_ready (rs := [6]) (by kernel_rfl) (by simp) ?_
        refine ready_cons rfl (fun K hK => ?_) AllReadyH.nil
        go_simp
        refine (HP.out _ _ _ _ (g2.ro (k + 8) (by simpa using hk)).ints (g2.ownInts 4 rfl) (g2.ownInts 2 rfl)).mono ?_
        rintro (e : Ending) v3 ⟨u3, rfl, ho3, hb3⟩
        obtain ⟨B3, m3, d3, rfl⟩ := ho3.slice
        have g3 := g2.pushOwn hb3 ho3
        show K _ _
        refine hK.out _ _ ?_ (fun hHeld => ?_)
        · exact ⟨g3.box4 4 rfl, g3.box4 7 rfl, g3.box3 8 rfl⟩
        clear hK K
        try simp only [Act.put, List.setIfInBounds_toArray, List.set_cons_zero, List.set_cons_succ]
        refine wpAnyH_ready (rs := [7]) (by kernel_rfl) (by simp) ?_
        refine ready_cons rfl (fun K hK => ?_) AllReadyH.nil
        go_simp
        refine (C2.out _ _ (g3.ownInts 0 rfl)).mono ?_
        rintro (e : Ending) v4 ⟨u4, us4, rfl, hul4, hok4, hnd4, hb4⟩
        have g4 := g3.pushRows hb4 hok4 hnd4
        have hulR2 := hul4
        show K _ _
        refine hK.out _ _ ?_ (fun hHeld => ?_)
        · exact ⟨g4.box4 5 rfl, g4.box4 8 rfl, g4.box3 9 rfl⟩
        clear hK K
        try simp only [Act.put, List.setIfInBounds_toArray, List.set_cons_zero, List.set_cons_succ]
        refine wpAnyH_ready (rs := [8]) (by kernel_rfl) (by simp) ?_
        refine ready_cons rfl (fun K hK => ?_) AllReadyH.nil
        refine step_append_rows rfl (.tmp 18) (.tmp 23) rfl g4 2 0 rfl rfl (by decide) hulR1 hulR2 HLen.out rfl rfl fun vA v5 yy g5 hAR => ?_
        simp only [List.set_cons_zero, List.set_cons_succ] at g5
        refine hK.out _ _ ?_ (fun hHeld => ?_)
        · exact ⟨g5.box4 5 rfl, g5.box4 8 rfl, g5.box3 9 rfl⟩
        clear hK K
        try simp only [Act.put, List.setIfInBounds_toArray, List.set_cons_zero, List.set_cons_succ]
        refine wpAnyH_ready (rs := [9]) (by kernel_rfl) (by simp) ?_
        refine ready_cons rfl (fun K hK => ?_) AllReadyH.nil
        go_simp
        refine (C3.out _ _ hAR).mono ?_
        rintro (e : Ending) v6 ⟨u6, rfl, ho6, hb6⟩
        obtain ⟨A9, n9, c9, rfl⟩ := ho6.slice
        have g6 := g5.pushOwn hb6 ho6
        show K _ _
        refine hK.out _ _ ?_ (fun hHeld => ?_)
        · exact ⟨g6.box4 6 rfl, g6.box4 9 rfl, g6.box3 10 rfl⟩
        clear hK K
        try simp only [Act.put, List.setIfInBounds_toArray, List.set_cons_zero, List.set_cons_succ]
        refine wpAnyH_done (by kernel_rfl) ?_ _
        show wpList _ _ _ _ _ _
        simp only [List.drop_succ_cons, List.drop_zero]
        clear hHeld
        obtain ⟨p0, p1, p2, p3⟩ := g6.box4 4 rfl
        have f0 := g6.free 4 rfl 0
        have f1 := g6.free 4 rfl 1
        have f2 := g6.free 4 rfl 2
        have f3 := g6.free 4 rfl 3
        have q1 := (((g6.setBox 4 rfl 0 (.int .i64 p)).setBox 4 rfl 1 (.int .i64 l2)).setBox 4 rfl 2 (.int .i64 n)).setBox 4 rfl 3 (.slice A9 n9 c9)
        go_wp2_with fail
        go_meet
        exact ⟨_, _, _, _, rfl, ((((((q1.rid 2).rid 5).rid 1).rid 1).rid 2).toFront 1 rfl)⟩
    case rest =>
    clear h4 g0
    obtain ⟨B8, A9, n9, c9, rfl, h5⟩ := hcut
    obtain ⟨x0, x1, x2, x3⟩ := h5.box4 0 rfl
    obtain ⟨z0, z1, z2, z3⟩ := h5.box4 4 rfl
    by_cases he : l2 = r
    · subst he
      obtain ⟨y0, y1, y2, y3⟩ := h5.box4 3 rfl
      have f0 := h5.free 3 rfl 0
      have f1 := h5.free 3 rfl 1
      have f2 := h5.free 3 rfl 2
      have f3 := h5.free 3 rfl 3
      have h6 := (((h5.setBox 3 rfl 0 (.int .i64 p)).setBox 3 rfl 1 (.int .i64 l2)).setBox 3 rfl 2 (.int .i64 n)).setBox 3 rfl 3 (.slice Ad D.length cd)
      obtain ⟨r0, r1, r2, r3⟩ := h6.box4 3 rfl
      go_wp2
      have hh := HR.out
      obtain ⟨a, ha⟩ := hh.1
      have hlen : (cloNext true T n p R).length = R.length := by rw [← HR2.out, ← Hl2.out, Hr.out]
      have e1 : R = G := hh.stop hlen
      rw [← e1, ← Hr.out, ← HD.out]
      refine bodyPost_ret (v := .agg #[.int .i64 p, .int .i64 l2, .int .i64 n, .slice Ad D.length cd]) (by simp [results, Try.results83, go_sem, r0, r1, r2, r3]) rfl ⟨_, rfl, ((((h6.rid 5).rid 4).rid 3).rid 1).rid 0⟩
    · have e1 : ((l2 : Int) == (r : Int)) = false := by rw [beq_eq_false_iff_ne]; omega
      have e2 : ¬ ((l2 : Int) = (r : Int)) := by omega
      have f0 := h5.free 4 rfl 0
      have f1 := h5.free 4 rfl 1
      have f2 := h5.free 4 rfl 2
      have f3 := h5.free 4 rfl 3
      have h6 := (((h5.setBox 4 rfl 0 (.int .i64 p)).setBox 4 rfl 1 (.int .i64 l2)).setBox 4 rfl 2 (.int .i64 n)).setBox 4 rfl 3 (.slice A9 n9 c9)
      go_wp2
      have hnx := HR.out.next hP (by rw [← HR2.out, ← Hl2.out, ← Hr.out]; exact he)
      rw [← HR2.out] at hnx
      have hn9 : n9 = (flat n R2).length := by
        obtain ⟨A', c', he', _⟩ := h5.ownInts 1 rfl
        simp only [Value.slice.injEq] at he'
        exact he'.2.1
      subst hn9
      go_roundg (n - R2.length)
      case measure => have := hlg.out; omega
      case rel => exact ⟨R2, A9, c9, rfl, hnx.1, by rw [← Hl2.out]; exact (h6.rid 2).rid 0⟩

end Go.Proofs.Ytechjmckfedblaa
