/- The reference's closures. The program's closures. SpanOf; SubalgebraBy and IdealBy of both programs. -/
import Derived.Test.YthiainhhaokjoaaGreatSpaceA
import Derived.Test.YthiainhhaokjoaaGreatMatO
import Derived.Test.YthiainhhaokjoaaGreatSmall0
import Derived.Test.YthiainhhaokjoaaGreatRegX
import Derived.Test.YthiainhhaokjoaaGreatSubSp
namespace Go.Proofs.YthiainhhaokjoaaGreat
set_option maxRecDepth 100000
section
open Go.RowKit

theorem St.rid {w0 w : World} {L : List It} (h : St w0 w L) (i : Nat) : St w0 w (L.eraseIdx i) := by
  by_cases hi : i < L.length
  · exact (h.toFront i (List.getElem?_eq_getElem hi)).drop 1
  · rw [List.eraseIdx_of_length_le (by omega)]; exact h
theorem flat_app {p : Int} {n : Nat} {R S : List (List Int)} (h1 : Wf p n R) (h2 : Wf p n S) : flat n (R ++ S) = flat n R ++ flat n S := by
  rw [flat_flatten (h1.app h2), flat_flatten h1, flat_flatten h2, List.flatten_append]
theorem rowsM_app {p : Int} {n : Nat} {R S : List (List Int)} (h1 : Wf p n R) (h2 : Wf p n S) : rowsM (R.length + S.length) n (flat n R ++ flat n S) = R ++ S := by
  rw [← flat_app h1 h2, ← List.length_append]; exact rowsM_flat (h1.app h2)
theorem resid_app {p : Int} {D E : List Int} (h1 : resid p D = true) (h2 : resid p E = true) : resid p (D ++ E) = true :=
  resid_iff.2 fun q hq => by
    rw [List.length_append] at hq
    by_cases h : q < D.length
    · rw [show vec (D ++ E) q = vec D q by simp [vec, List.getD_eq_getElem?_getD, List.getElem?_append_left h]]
      exact resid_vec h1 h
    · rw [show vec (D ++ E) q = vec E (q - D.length) by simp [vec, List.getD_eq_getElem?_getD, List.getElem?_append_right (show D.length ≤ q by omega)]]
      exact resid_vec h2 (by omega)

theorem step_append_ints {ops : Array Oper} {o : Oper} {a : Act} {K : Act → World → Prop} {Q : Exit → Act → World → Prop} {E : Prop} (hgd : o.guard = none) (s x : Operand)
    (ho : o.op = .call { callee := .builtin .append, args := #[s, x], argTypes := #[22, 22] }) {w0 w : World} {L : List It} (h : St w0 w L) (i : Nat) {v u : Value} {xs ys : List Int} (hi : L[i]? = some (.own v xs)) (hu : Ints w u ys) (hlen : xs.length + ys.length ≤ 17592186044416)
    (hs : a.eval s = v) (hx : a.eval x = u)
    (hk : ∀ v' w', St w0 w' (L.set i (.own v' (xs ++ ys))) → K (a.put o.dst v') w') :
    if Region.wanted o (yielded ops a.tmps) = true then Oper.wp Tryz.prog o a w K Q else E := by
  have hw : Region.wanted o (yielded ops a.tmps) = true := by simp [Region.wanted, hgd]
  rw [if_pos hw]
  obtain ⟨v', w', hr, k1, k2, k3⟩ := run_append_ints w0.heap.size o.type v u xs ys w (h.own i hi) hu hlen h.size
  unfold Oper.wp execOp
  simp only [ho, resolve, invoke, builtin, Sem.run_bind, Sem.run_pure, Result.andThen_ok, List.map_toArray, List.map_cons, List.map_nil, hs, hx, hr]
  exact hk _ _ (h.appended i hi k1 k2 k3)

set_option maxHeartbeats 2000000 in
theorem l1Join_any (p q c : Int) (n : Nat) (t u : Value) (R S : List (List Int)) (w : World) (ht : Ints w t (flat n R)) (hu : Ints w u (flat n S)) (hR : Wf p n R) (hS : Wf p n S) (hr : R.length ≤ 40) (hs : S.length ≤ 1600) (hn : n ≤ 40) (hP : isPrime p = true) :
    Calls Tryz.prog 174 #[.agg #[.int .i64 p, .int .i64 R.length, .int .i64 n, t], .agg #[.int .i64 q, .int .i64 S.length, .int .i64 c, u]] w (RetMat w p (spanL p n (R ++ S)).length n (flat n (spanL p n (R ++ S)))) := by
  have hp := (isPrime_bd hP).1
  have h1 := (((((St.start w).arg ht).arg hu).box [.int .i64 p, .int .i64 R.length, .int .i64 n, t] 35).box [.int .i64 q, .int .i64 S.length, .int .i64 c, u] 35).box [.int .i64 0, .int .i64 0, .int .i64 0, .slice none 0 0] 35
  simp only [World.size_alloc] at h1
  obtain ⟨A, k0, rfl, _, _, _⟩ := id ht
  obtain ⟨A2, k2, rfl, _, _, _⟩ := id hu
  obtain ⟨r, er⟩ : ∃ r, r = R.length := ⟨_, rfl⟩
  obtain ⟨s, es⟩ : ∃ s, s = S.length := ⟨_, rfl⟩
  have hb1 := mul_le hr hn
  have hb2 := mul_le hs hn
  have hDl := length_flat n R
  have hEl := length_flat n S
  have hlen : (flat n R ++ flat n S).length = (r + s) * n := by rw [List.length_append, hDl, hEl, er, es, Nat.add_mul]
  have hrows := rowsM_app hR hS
  have hres := resid_app (resid_flat (by omega) hR) (resid_flat (by omega) hS)
  rw [← er, ← es] at hrows
  rw [← er] at hDl hb1
  rw [← es] at hEl hb2
  obtain ⟨F, hF⟩ : ∃ F, F = flat n (spanL p n (R ++ S)) := ⟨_, rfl⟩
  obtain ⟨l, hl⟩ : ∃ l, l = (spanL p n (R ++ S)).length := ⟨_, rfl⟩
  have HSp := Lib.hid (show ∀ (W : World) (v : Value), Ints W v (flat n R ++ flat n S) → Calls Tryz.prog 144 #[.agg #[.int .i64 p, .int .i64 (r + s : Nat), .int .i64 n, v]] W (RetMat W p l n F) from fun W v hv => by
    have := l1Span_any p (r + s) n v _ W hv hlen (by rw [Nat.add_mul]; omega) (by omega) (by omega) hP hres
    rw [hrows] at this
    rw [hF, hl]
    exact this)
  rw [← hF, ← hl]
  rw [← er] at h1 hr ⊢
  rw [← es] at h1 hs ⊢
  obtain ⟨D, hD⟩ : ∃ D, D = flat n R := ⟨_, rfl⟩
  obtain ⟨E, hE⟩ : ∃ E, E = flat n S := ⟨_, rfl⟩
  rw [← hD] at h1 hDl HSp ⊢
  rw [← hE] at h1 hEl HSp ⊢
  obtain ⟨rs, hrs⟩ : ∃ rs, rs = r + s := ⟨_, rfl⟩
  rw [← hrs] at HSp
  have e1 : (r : Int) + (s : Int) = (rs : Int) := by omega
  have e2 : IntKind.i64.wrap (rs : Int) = rs := wrap_ok (by omega) (by omega)
  have HDl := Lib.hid hDl
  have HEl := Lib.hid hEl
  clear ht hu hR hS hF hl hD hE er es hDl hEl hlen hrows hres hrs
  go_enter Tryz.func174, Tryz.ntmps174
  go_upto_region 1 with fail
  have g0 := h1.drew
  refine wp_region_cut (S := fun w' => (w'.cell? ⟨w.heap.size, 0, none⟩ = some (.int .i64 p) ∧ w'.cell? ⟨w.heap.size, 1, none⟩ = some (.int .i64 r) ∧ w'.cell? ⟨w.heap.size, 2, none⟩ = some (.int .i64 n) ∧ w'.cell? ⟨w.heap.size, 3, none⟩ = some (.slice A D.length k0)) ∧ w'.cell? ⟨w.heap.size + 1, 0, none⟩ = some (.int .i64 q) ∧ w'.cell? ⟨w.heap.size + 1, 1, none⟩ = some (.int .i64 s) ∧ w'.cell? ⟨w.heap.size + 1, 2, none⟩ = some (.int .i64 c) ∧ w'.cell? ⟨w.heap.size + 1, 3, none⟩ = some (.slice A2 E.length k2)) 15 (by kernel_rfl) (by kernel_rfl) ⟨g0.box4 2 rfl, g0.box4 1 rfl⟩ (fun hHeld => ?_)
  simp only [List.take_succ_cons, List.take_zero]
  refine anyH_take (v := ?_) 0 rfl (by kernel_rfl) (by kernel_rfl) (by kernel_rfl) (fun _ _ _ h => h) rfl ?_ hHeld ?_
  rotate_left
  · intro w' hSw
    go_simp
    try with_reducible rfl
  try simp only [Act.put, List.setIfInBounds_toArray, List.set_cons_zero, List.set_cons_succ]
  refine anyH_take (v := ?_) 1 rfl (by kernel_rfl) (by kernel_rfl) (by kernel_rfl) (fun _ _ _ h => h) rfl ?_ hHeld ?_
  rotate_left
  · intro w' hSw
    go_simp
    try with_reducible rfl
  try simp only [Act.put, List.setIfInBounds_toArray, List.set_cons_zero, List.set_cons_succ]
  refine anyH_take (v := ?_) 2 rfl (by kernel_rfl) (by kernel_rfl) (by kernel_rfl) (fun _ _ _ h => h) rfl ?_ hHeld ?_
  rotate_left
  · intro w' hSw
    go_simp
    try with_reducible rfl
  try simp only [Act.put, List.setIfInBounds_toArray, List.set_cons_zero, List.set_cons_succ]
  refine anyH_take (v := ?_) 3 rfl (by kernel_rfl) (by kernel_rfl) (by kernel_rfl) (fun _ _ _ h => h) rfl ?_ hHeld ?_
  rotate_left
  · intro w' hSw
    go_simp
    try with_reducible rfl
  try simp only [Act.put, List.setIfInBounds_toArray, List.set_cons_zero, List.set_cons_succ]
  refine anyH_take (v := ?_) 4 rfl (by kernel_rfl) (by kernel_rfl) (by kernel_rfl) (fun _ _ _ h => h) rfl ?_ hHeld ?_
  rotate_left
  · intro w' hSw
    go_simp
    try with_reducible rfl
  try simp only [Act.put, List.setIfInBounds_toArray, List.set_cons_zero, List.set_cons_succ]
  refine anyH_take (v := ?_) 5 rfl (by kernel_rfl) (by kernel_rfl) (by kernel_rfl) (fun _ _ _ h => h) rfl ?_ hHeld ?_
  rotate_left
  · intro w' hSw
    go_simp
    try with_reducible rfl
  try simp only [Act.put, List.setIfInBounds_toArray, List.set_cons_zero, List.set_cons_succ]
  refine anyH_take (v := ?_) 6 rfl (by kernel_rfl) (by kernel_rfl) (by kernel_rfl) (fun _ _ _ h => h) rfl ?_ hHeld ?_
  rotate_left
  · intro w' hSw
    go_simp
    try with_reducible rfl
  try simp only [Act.put, List.setIfInBounds_toArray, List.set_cons_zero, List.set_cons_succ]
  refine anyH_take (v := ?_) 7 rfl (by kernel_rfl) (by kernel_rfl) (by kernel_rfl) (fun _ _ _ h => h) rfl ?_ hHeld ?_
  rotate_left
  · intro w' hSw
    go_simp
    try with_reducible rfl
  try simp only [Act.put, List.setIfInBounds_toArray, List.set_cons_zero, List.set_cons_succ]
  refine anyH_take (v := ?_) 8 rfl (by kernel_rfl) (by kernel_rfl) (by kernel_rfl) (fun _ _ _ h => h) rfl ?_ hHeld ?_
  rotate_left
  · intro w' hSw
    go_simp
    try with_reducible rfl
  try simp only [Act.put, List.setIfInBounds_toArray, List.set_cons_zero, List.set_cons_succ]
  refine anyH_take (v := ?_) 9 rfl (by kernel_rfl) (by kernel_rfl) (by kernel_rfl) (fun _ _ _ h => h) rfl ?_ hHeld ?_
  rotate_left
  · intro w' hSw
    go_simp
    try with_reducible rfl
  try simp only [Act.put, List.setIfInBounds_toArray, List.set_cons_zero, List.set_cons_succ]
  refine anyH_take (v := ?_) 10 rfl (by kernel_rfl) (by kernel_rfl) (by kernel_rfl) (fun _ _ _ h => h) rfl ?_ hHeld ?_
  rotate_left
  · intro w' hSw
    go_simp
    try with_reducible rfl
  try simp only [Act.put, List.setIfInBounds_toArray, List.set_cons_zero, List.set_cons_succ]
  refine anyH_take (v := ?_) 12 rfl (by kernel_rfl) (by kernel_rfl) (by kernel_rfl) (fun _ _ _ h => h) rfl ?_ hHeld ?_
  rotate_left
  · intro w' hSw
    go_simp
    try with_reducible rfl
  try simp only [Act.put, List.setIfInBounds_toArray, List.set_cons_zero, List.set_cons_succ]
  refine anyH_take (v := ?_) 13 rfl (by kernel_rfl) (by kernel_rfl) (by kernel_rfl) (fun _ _ _ h => h) rfl ?_ hHeld ?_
  rotate_left
  · intro w' hSw
    go_simp
    try with_reducible rfl
  try simp only [Act.put, List.setIfInBounds_toArray, List.set_cons_zero, List.set_cons_succ]
  refine wpAnyH_ready (rs := [11]) (by kernel_rfl) (by simp) ?_
  refine ready_cons rfl (fun K hK => ?_) AllReadyH.nil
  go_simp
  refine (l1Ints_any _ D _ (g0.roInts 4 rfl) (by rw [HDl.out]; omega)).mono ?_
  rintro (e : Ending) w1 ⟨u1, rfl, ho1, hb1⟩
  obtain ⟨A5, n5, c5, rfl⟩ := ho1.slice
  have g1 := g0.pushOwn hb1 ho1
  show K _ _
  refine hK.out _ _ ?_ (fun hHeld => ?_)
  · exact ⟨g1.box4 3 rfl, g1.box4 2 rfl⟩
  clear hK K
  try simp only [Act.put, List.setIfInBounds_toArray, List.set_cons_zero, List.set_cons_succ]
  refine wpAnyH_ready (rs := [14]) (by kernel_rfl) (by simp) ?_
  refine ready_cons rfl (fun K hK => ?_) AllReadyH.nil
  refine step_append_ints rfl (.tmp 16) (.tmp 18) rfl g1 0 rfl (g1.roInts 4 rfl) (by rw [HDl.out, HEl.out]; omega) rfl rfl fun vA w2 g2 => ?_
  simp only [List.set_cons_zero] at g2
  obtain ⟨A6, n6, c6, rfl⟩ := (g2.own 0 rfl).slice
  refine hK.out _ _ ?_ (fun hHeld => ?_)
  · exact ⟨g2.box4 3 rfl, g2.box4 2 rfl⟩
  clear hK K
  try simp only [Act.put, List.setIfInBounds_toArray, List.set_cons_zero, List.set_cons_succ]
  refine wpAnyH_done (by kernel_rfl) ?_ _
  show wpList _ _ _ _ _ _
  simp only [List.drop_succ_cons, List.drop_zero]
  clear hHeld
  go_wp2_with fail
  refine (HSp.out _ _ (g2.ownInts 0 rfl)).mono ?_
  rintro (e : Ending) w3 ⟨u3, rfl, ho3, hb3⟩
  obtain ⟨A7, n7, c7, rfl⟩ := ho3.slice
  have g3 := g2.pushOwn hb3 ho3
  obtain ⟨p0, p1, p2, p3⟩ := g3.box4 2 rfl
  have f0 := g3.free 2 rfl 0
  have f1 := g3.free 2 rfl 1
  have f2 := g3.free 2 rfl 2
  have f3 := g3.free 2 rfl 3
  have h5 := (((g3.setBox 2 rfl 0 (.int .i64 p)).setBox 2 rfl 1 (.int .i64 l)).setBox 2 rfl 2 (.int .i64 n)).setBox 2 rfl 3 (.slice A7 n7 c7)
  obtain ⟨r0, r1, r2, r3⟩ := h5.box4 2 rfl
  clear g0 g1 g2 g3 h1 ho1 ho3 hb1 hb3
  go_wp2
  refine bodyPost_ret (v := .agg #[.int .i64 p, .int .i64 l, .int .i64 n, .slice A7 n7 c7]) (by simp [results, Tryz.results174, go_sem, r0, r1, r2, r3]) rfl ⟨_, rfl, h5.own 0 rfl, h5.below⟩

end
section
open Go.RowKit

/-- append of rows to rows: the new slice can be read; the rows stay where they were. -/
theorem run_append_rows (ty : Nat) {w0 w : World} {L : List It} (h : St w0 w L) (i j : Nat) {v u : Value} {us us2 : List Value} {ll ll2 : List (List Int)} (hi : L[i]? = some (rowsIt v us ll)) (hj : L[j]? = some (rowsIt u us2 ll2)) (hij : i ≠ j) (hul : us.length = ll.length) (hul2 : us2.length = ll2.length) (hlen : ll.length + ll2.length ≤ 1099511627776) :
    ∃ v' w' x, (Builtin.append_ #[29, 29] ty #[v, u]).run Tryz.prog w = .ok v' w' ∧ St w0 w' (L.set i x) ∧ IntRows w' v' (ll ++ ll2) := by
  obtain ⟨ti, h1, h2, h3, h4⟩ := info_parts infoR
  have hsl : Tryz.prog.underlying 29 = some (.slice 22) := Tryz.underlying29
  have hil : i < L.length := (List.getElem?_eq_some_iff.1 hi).1
  obtain ⟨hv, hvs⟩ := h.at i hi
  obtain ⟨hu, hus⟩ := h.at j hj
  by_cases hy : ll2.length = 0
  · obtain rfl : ll2 = [] := List.eq_nil_of_length_eq_zero hy
    have hr : (Builtin.append_ #[29, 29] ty #[v, u]).run Tryz.prog w = .ok v w := by
      have hu0 : ∃ A c, u = .slice A 0 c := by
        rcases hu.2 with ⟨rfl, _⟩ | ⟨g, cap, cur, rfl, _⟩
        · exact ⟨none, 0, rfl⟩
        · exact ⟨_, cap, rfl⟩
      obtain ⟨A, c, rfl⟩ := hu0
      have hi' : Tryz.prog.info? 22 = some ti := h1
      rcases hv.2 with ⟨rfl, h0⟩ | ⟨g, cap, cur, rfl, _, _, hnc, _⟩
      · obtain rfl : ll = [] := List.eq_nil_of_length_eq_zero h0
        cases A <;> simp [Builtin.append_, run_underlying hsl, sizeOf, typeInfo, hi', Builtin.lenOf, Builtin.firstCells, loadCells, loadCellsFrom]
      · cases A <;> simp [Builtin.append_, run_underlying hsl, sizeOf, typeInfo, hi', Builtin.lenOf, Builtin.firstCells, hnc, storeCells, loadCells, loadCellsFrom]
    refine ⟨v, w, rowsIt v us ll, hr, ?_, by rw [List.append_nil]; exact h.rowsR i hi hul⟩
    rw [← (List.getElem?_eq_some_iff.1 hi).2, List.set_getElem_self]
    exact h
  · rcases id hu.2 with ⟨_, h0⟩ | ⟨g, cap, cur, rfl, _⟩
    · exact absurd h0 hy
    · obtain ⟨v', w', hr, k1, k2, _, k4⟩ := run_append_own_at (P := Tryz.prog) w w0.heap.size 29 ty 22 ti (.slice none 0 0) 1 24 hsl h1 h2 h3 h4 rfl (by decide) v ll.length us hv ⟨g, 0, none⟩ ll2.length cap us2 (by rw [hul2]; omega)
        (fun k x hk => by rw [add_zero_spot, Nat.zero_add]; exact h.vecCell j hj k hk) (fun x hx => by
          obtain ⟨k, hk⟩ := List.getElem?_of_mem hx
          have hkl := (List.getElem?_eq_some_iff.1 hk).1
          exact (hus (x, ll2[k]'(by omega)) (List.mem_of_getElem? (zip_get hk (List.getElem?_eq_getElem _)))).one) (by simp only [maxLen]; omega) (by omega) h.size
      have hst := h.updVec i hi k2 (fun b hb => by
        rcases k4 with e | e
        · exact .inl (by rw [← e]; exact hb)
        · right
          rw [e] at hb
          simp only [Option.some.injEq] at hb
          omega) k1
      refine ⟨v', w', _, hr, hst, ?_⟩
      have hj' : (L.set i (.vec v' 22 1 (ll.length + ll2.length) (us ++ us2) (us.zip ll)))[j]? = some (rowsIt (.slice (some ⟨g, 0, none⟩) ll2.length cap) us2 ll2) := by
        rw [List.getElem?_set_ne hij]; exact hj
      have hi' : (L.set i (.vec v' 22 1 (ll.length + ll2.length) (us ++ us2) (us.zip ll)))[i]? = some (.vec v' 22 1 (ll.length + ll2.length) (us ++ us2) (us.zip ll)) := by
        rw [List.getElem?_set_self hil]
      have a1 := hst.at i hi'
      have a2 := hst.at j hj'
      refine It.rows (B := w0.heap.size) (us := us ++ us2) ⟨by rw [List.length_append]; exact a1.1, fun s hs => ?_⟩ (by rw [List.length_append, List.length_append, hul, hul2])
      rw [List.zip_append hul] at hs
      rcases List.mem_append.1 hs with hs | hs
      · exact a1.2 s hs
      · exact a2.2 s hs
theorem step_append_rows {ops : Array Oper} {o : Oper} {a : Act} {K : Act → World → Prop} {Q : Exit → Act → World → Prop} {E : Prop} (hgd : o.guard = none) (s x : Operand)
    (ho : o.op = .call { callee := .builtin .append, args := #[s, x], argTypes := #[29, 29] }) {w0 w : World} {L : List It} (h : St w0 w L) (i j : Nat) {v u : Value} {us us2 : List Value} {ll ll2 : List (List Int)} (hi : L[i]? = some (rowsIt v us ll)) (hj : L[j]? = some (rowsIt u us2 ll2)) (hij : i ≠ j) (hul : us.length = ll.length) (hul2 : us2.length = ll2.length) (hlen : ll.length + ll2.length ≤ 1099511627776)
    (hs : a.eval s = v) (hx : a.eval x = u)
    (hk : ∀ v' w' y, St w0 w' (L.set i y) → IntRows w' v' (ll ++ ll2) → K (a.put o.dst v') w') :
    if Region.wanted o (yielded ops a.tmps) = true then Oper.wp Tryz.prog o a w K Q else E := by
  have hw : Region.wanted o (yielded ops a.tmps) = true := by simp [Region.wanted, hgd]
  rw [if_pos hw]
  obtain ⟨v', w', y, hr, k1, k2⟩ := run_append_rows o.type h i j hi hj hij hul hul2 hlen
  unfold Oper.wp execOp
  simp only [ho, resolve, invoke, builtin, Sem.run_bind, Sem.run_pure, Result.andThen_ok, List.map_toArray, List.map_cons, List.map_nil, hs, hx, hr]
  exact hk _ _ y k1 k2
theorem wp_append_rows {ops : Array Oper} {rest : List Oper} {o : Oper} {a : Act} {Q : Exit → Act → World → Prop} (hgd : o.guard = none) (s x : Operand)
    (ho : o.op = .call { callee := .builtin .append, args := #[s, x], argTypes := #[29, 29] }) {w0 w : World} {L : List It} (h : St w0 w L) (i j : Nat) {v u : Value} {us us2 : List Value} {ll ll2 : List (List Int)} (hi : L[i]? = some (rowsIt v us ll)) (hj : L[j]? = some (rowsIt u us2 ll2)) (hij : i ≠ j) (hul : us.length = ll.length) (hul2 : us2.length = ll2.length) (hlen : ll.length + ll2.length ≤ 1099511627776)
    (hs : a.eval s = v) (hx : a.eval x = u)
    (hk : ∀ v' w' y, St w0 w' (L.set i y) → IntRows w' v' (ll ++ ll2) → wpList Tryz.prog ops Q rest (a.put o.dst v') w') : wpList Tryz.prog ops Q (o :: rest) a w := by
  refine wpList_plain hgd fun K hK => ?_
  obtain ⟨v', w', y, hr, k1, k2⟩ := run_append_rows o.type h i j hi hj hij hul hul2 hlen
  unfold Oper.wp execOp
  simp only [ho, resolve, invoke, builtin, Sem.run_bind, Sem.run_pure, Result.andThen_ok, List.map_toArray, List.map_cons, List.map_nil, hs, hx, hr]
  exact hK _ _ (hk v' w' y k1 k2)

/-- A space of the call's own. -/
theorem join_rows {p : Int} (_hP : isPrime p = true) {n : Nat} {k : Bool} {T : List Int} {R : List (List Int)} : spanL p n (R ++ stepS k T n p R) = cloNext k T n p R := rfl

end
section
open Go.RowKit

def gbOk (p n : Int) (T : List Int) (q r c : Int) (D : List Int) : Bool := algOk p n T && matOk q r c D && decide (q = p) && decide (c = n)
theorem gbOk_spec {p n q r c : Int} {T D : List Int} (h : gbOk p n T q r c D = true) : algOk p n T = true ∧ matOk q r c D = true ∧ q = p ∧ c = n := by
  simp only [gbOk, Bool.and_eq_true, decide_eq_true_eq] at h
  exact ⟨h.1.1.1, h.1.1.2, h.1.2, h.2⟩

/-- What SubalgebraBy (false) and IdealBy (true) return. -/
def gbL (k : Bool) (p n : Int) (T : List Int) (r : Int) (D : List Int) : List (List Int) := cloL k T n.toNat p (spanL p n.toNat (rowsM r.toNat n.toNat D))
def gbP (p n : Int) (T : List Int) (q r c : Int) (D : List Int) : Int := if gbOk p n T q r c D then p else 0
def gbR (k : Bool) (p n : Int) (T : List Int) (q r c : Int) (D : List Int) : Int := if gbOk p n T q r c D then (gbL k p n T r D).length else 0
def gbC (p n : Int) (T : List Int) (q r c : Int) (D : List Int) : Int := if gbOk p n T q r c D then n else 0
def gbD (k : Bool) (p n : Int) (T : List Int) (q r c : Int) (D : List Int) : List Int := if gbOk p n T q r c D then flat n.toNat (gbL k p n T r D) else []
theorem gbD_bd (k : Bool) (p n : Int) (T : List Int) (q r c : Int) (D : List Int) : (gbD k p n T q r c D).length ≤ 784 := by
  unfold gbD
  split
  · rename_i h
    obtain ⟨h1, h2, e1, e2⟩ := gbOk_spec h
    subst e1
    obtain ⟨m, rfl, hm, _, _, h3, _, hP⟩ := algOk_spec h1
    obtain ⟨a, b, ea, eb, _, _, _, hr, _⟩ := matOk_spec h2
    rw [length_flat, Int.toNat_natCast]
    obtain ⟨z, hz⟩ := cloTo_rf (k := k) (T := T) hP m (spanL_rf hP (Wf_rowsM (p := q) (by omega) (r := r.toNat) (c := m) hr))
    have hl : (gbL k q m T r D).length ≤ m := by
      rw [gbL, Int.toNat_natCast]
      exact rf_le_n h3 hz
    exact mul_le (Nat.le_trans hl hm) hm
  · simp

end
end Go.Proofs.YthiainhhaokjoaaGreat
