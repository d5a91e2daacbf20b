/- The reference's closures. The program's closures. SpanOf; SubalgebraBy and IdealBy of both programs. -/
import Derived.Test.YtechjmckfedblaaSpaceA
import Derived.Test.YtechjmckfedblaaMatO
import Derived.Test.YtechjmckfedblaaSmall0
import Derived.Test.YtechjmckfedblaaRegX
import Derived.Test.YtechjmckfedblaaSubSp
namespace Go.Proofs.Ytechjmckfedblaa
set_option maxRecDepth 100000
section
open Go.RowKit

theorem St.rid {w0 w : World} {L : List It} (h : St w0 w L) (i : Nat) : St w0 w (L.eraseIdx i) := by
  by_cases hi : i < L.length
  · exact (h.toFront i (List.getElem?_eq_getElem hi)).drop 1
  · rw [List.eraseIdx_of_length_le (by omega)]; exact h
theorem flat_app {p : Int} {n : Nat} {R S : List (List Int)} (h1 : Wf p n R) (h2 : Wf p n S) : flat n (R ++ S) = flat n R ++ flat n S := by
  rw [flat_flatten (h1.app h2), flat_flatten h1, flat_flatten h2, List.flatten_append]
theorem rowsM_app {p : Int} {n : Nat} {R S : List (List Int)} (h1 : Wf p n R) (h2 : Wf p n S) : rowsM (R.length + S.length) n (flat n R ++ flat n S) = R ++ S := by
  rw [← flat_app h1 h2, ← List.length_append]; exact rowsM_flat (h1.app h2)
theorem resid_app {p : Int} {D E : List Int} (h1 : resid p D = true) (h2 : resid p E = true) : resid p (D ++ E) = true :=
  resid_iff.2 fun q hq => by
    rw [List.length_append] at hq
    by_cases h : q < D.length
    · rw [show vec (D ++ E) q = vec D q by simp [vec, List.getD_eq_getElem?_getD, List.getElem?_append_left h]]
      exact resid_vec h1 h
    · rw [show vec (D ++ E) q = vec E (q - D.length) by simp [vec, List.getD_eq_getElem?_getD, List.getElem?_append_right (show D.length ≤ q by omega)]]
      exact resid_vec h2 (by omega)

theorem step_append_ints {ops : Array Oper} {o : Oper} {a : Act} {K : Act → World → Prop} {Q : Exit → Act → World → Prop} {E : Prop} (hgd : o.guard = none) (s x : Operand)
    (ho : o.op = .call { callee := .builtin .append, args := #[s, x], argTypes := #[22, 22] }) {w0 w : World} {L : List It} (h : St w0 w L) (i : Nat) {v u : Value} {xs ys : List Int} (hi : L[i]? = some (.own v xs)) (hu : Ints w u ys) (hlen : xs.length + ys.length ≤ 17592186044416)
    (hs : a.eval s = v) (hx : a.eval x = u)
    (hk : ∀ v' w', St w0 w' (L.set i (.own v' (xs ++ ys))) → K (a.put o.dst v') w') :
    if Region.wanted o (yielded ops a.tmps) = true then Oper.wp Try.prog o a w K Q else E := by
  have hw : Region.wanted o (yielded ops a.tmps) = true := by simp [Region.wanted, hgd]
  rw [if_pos hw]
  obtain ⟨v', w', hr, k1, k2, k3⟩ := run_append_ints w0.heap.size o.type v u xs ys w (h.own i hi) hu hlen h.size
  unfold Oper.wp execOp
  simp only [ho, resolve, invoke, builtin, Sem.run_bind, Sem.run_pure, Result.andThen_ok, List.map_toArray, List.map_cons, List.map_nil, hs, hx, hr]
  exact hk _ _ (h.appended i hi k1 k2 k3)

set_option maxHeartbeats 2000000 in
theorem l1Join_any (p q c : Int) (n : Nat) (t u : Value) (R S : List (List Int)) (w : World) (ht : Ints w t (flat n R)) (hu : Ints w u (flat n S)) (hR : Wf p n R) (hS : Wf p n S) (hr : R.length ≤ 40) (hs : S.length ≤ 1600) (hn : n ≤ 40) (hP : isPrime p = true) :
    Calls Try.prog 136 #[.agg #[.int .i64 p, .int .i64 R.length, .int .i64 n, t], .agg #[.int .i64 q, .int .i64 S.length, .int .i64 c, u]] w (RetMat w p (spanL p n (R ++ S)).length n (flat n (spanL p n (R ++ S)))) := by
  have hp := (isPrime_bd hP).1
  have h1 := (((((St.start w).arg ht).arg hu).box [.int .i64 p, .int .i64 R.length, .int .i64 n, t] 32).box [.int .i64 q, .int .i64 S.length, .int .i64 c, u] 32).box [.int .i64 0, .int .i64 0, .int .i64 0, .slice none 0 0] 32
  simp only [World.size_alloc] at h1
  obtain ⟨A, k0, rfl, _, _, _⟩ := id ht
  obtain ⟨A2, k2, rfl, _, _, _⟩ := id hu
  obtain ⟨r, er⟩ : ∃ r, r = R.length := ⟨_, rfl⟩
  obtain ⟨s, es⟩ : ∃ s, s = S.length := ⟨_, rfl⟩
  have hb1 := mul_le hr hn
  have hb2 := mul_le hs hn
  have hDl := length_flat n R
  have hEl := length_flat n S
  have hlen : (flat n R ++ flat n S).length = (r + s) * n := by rw [List.length_append, hDl, hEl, er, es, Nat.add_mul]
  have hrows := rowsM_app hR hS
  have hres := resid_app (resid_flat (by omega) hR) (resid_flat (by omega) hS)
  rw [← er, ← es] at hrows
  rw [← er] at hDl hb1
  rw [← es] at hEl hb2
  obtain ⟨F, hF⟩ : ∃ F, F = flat n (spanL p n (R ++ S)) := ⟨_, rfl⟩
  obtain ⟨l, hl⟩ : ∃ l, l = (spanL p n (R ++ S)).length := ⟨_, rfl⟩
  have HSp := Lib.hid (show ∀ (W : World) (v : Value), Ints W v (flat n R ++ flat n S) → Calls Try.prog 82 #[.agg #[.int .i64 p, .int .i64 (r + s : Nat), .int .i64 n, v]] W (RetMat W p l n F) from fun W v hv => by
    have := l1Span_any p (r + s) n v _ W hv hlen (by rw [Nat.add_mul]; omega) (by omega) (by omega) hP hres
    rw [hrows] at this
    rw [hF, hl]
    exact this)
  rw [← hF, ← hl]
  rw [← er] at h1 hr ⊢
  rw [← es] at h1 hs ⊢
  obtain ⟨D, hD⟩ : ∃ D, D = flat n R := ⟨_, rfl⟩
  obtain ⟨E, hE⟩ : ∃ E, E = flat n S := ⟨_, rfl⟩
  rw [← hD] at h1 hDl HSp ⊢
  rw [← hE] at h1 hEl HSp ⊢
  obtain ⟨rs, hrs⟩ : ∃ rs, rs = r + s := ⟨_, rfl⟩
  rw [← hrs] at HSp
  have e1 : (r : Int) + (s : Int) = (rs : Int) := by omega
  have e2 : IntKind.i64.wrap (rs : Int) = rs := wrap_ok (by omega) (by omega)
  have HDl := Lib.hid hDl
  have HEl := Lib.hid hEl
  clear ht hu hR hS hF hl hD hE er es hDl hEl hlen hrows hres hrs
  go_enter Try.func136, Try.ntmps136
  go_upto_region 1 with fail
  have g0 := h1.drew
  refine wp_region_cut (S := fun w' => (w'.cell? ⟨w.heap.size, 0, none⟩ = some (.int .i64 p) ∧ w'.cell? ⟨w.heap.size, 1, none⟩ = some (.int .i64 r) ∧ w'.cell? ⟨w.heap.size, 2, none⟩ = some (.int .i64 n) ∧ w'.cell? ⟨w.heap.size, 3, none⟩ = some (.slice A D.length k0)) ∧ w'.cell? ⟨w.heap.size + 1, 0, none⟩ = some (.int .i64 q) ∧ w'.cell? ⟨w.heap.size + 1, 1, none⟩ = some (.int .i64 s) ∧ w'.cell? ⟨w.heap.size + 1, 2, none⟩ = some (.int .i64 c) ∧ w'.cell? ⟨w.heap.size + 1, 3, none⟩ = some (.slice A2 E.length k2)) 15 (by kernel_rfl) (by kernel_rfl) ⟨g0.box4 2 rfl, g0.box4 1 rfl⟩ (fun hHeld => ?_)
  simp only [List.take_succ_cons, List.take_zero]
  refine anyH_take (v := ?_) 0 rfl (by kernel_rfl) (by kernel_rfl) (by kernel_rfl) (fun _ _ _ h => h) rfl ?_ hHeld ?_
  rotate_left
  · intro w' hSw
    go_simp
    try with_reducible rfl
  try simp only [Act.put, List.setIfInBounds_toArray, List.set_cons_zero, List.set_cons_succ]
  refine anyH_take (v := ?_) 1 rfl (by kernel_rfl) (by kernel_rfl) (by kernel_rfl) (fun _ _ _ h => h) rfl ?_ hHeld ?_
  rotate_left
  · intro w' hSw
    go_simp
    try with_reducible rfl
  try simp only [Act.put, List.setIfInBounds_toArray, List.set_cons_zero, List.set_cons_succ]
  refine anyH_take (v := ?_) 2 rfl (by kernel_rfl) (by kernel_rfl) (by kernel_rfl) (fun _ _ _ h => h) rfl ?_ hHeld ?_
  rotate_left
  · intro w' hSw
    go_simp
    try with_reducible rfl
  try simp only [Act.put, List.setIfInBounds_toArray, List.set_cons_zero, List.set_cons_succ]
  refine anyH_take (v := ?_) 3 rfl (by kernel_rfl) (by kernel_rfl) (by kernel_rfl) (fun _ _ _ h => h) rfl ?_ hHeld ?_
  rotate_left
  · intro w' hSw
    go_simp
    try with_reducible rfl
  try simp only [Act.put, List.setIfInBounds_toArray, List.set_cons_zero, List.set_cons_succ]
  refine anyH_take (v := ?_) 4 rfl (by kernel_rfl) (by kernel_rfl) (by kernel_rfl) (fun _ _ _ h => h) rfl ?_ hHeld ?_
  rotate_left
  · intro w' hSw
    go_simp
    try with_reducible rfl
  try simp only [Act.put, List.setIfInBounds_toArray, List.set_cons_zero, List.set_cons_succ]
  refine anyH_take (v := ?_) 5 rfl (by kernel_rfl) (by kernel_rfl) (by kernel_rfl) (fun _ _ _ h => h) rfl ?_ hHeld ?_
  rotate_left
  · intro w' hSw
    go_simp
    try with_reducible rfl
  try simp only [Act.put, List.setIfInBounds_toArray, List.set_cons_zero, List.set_cons_succ]
  refine anyH_take (v := ?_) 6 rfl (by kernel_rfl) (by kernel_rfl) (by kernel_rfl) (fun _ _ _ h => h) rfl ?_ hHeld ?_
  rotate_left
  · intro w' hSw
    go_simp
    try with_reducible rfl
  try simp only [Act.put, List.setIfInBounds_toArray, List.set_cons_zero, List.set_cons_succ]
  refine anyH_take (v := ?_) 7 rfl (by kernel_rfl) (by kernel_rfl) (by kernel_rfl) (fun _ _ _ h => h) rfl ?_ hHeld ?_
  rotate_left
  · intro w' hSw
    go_simp
    try with_reducible rfl
  try simp only [Act.put, List.setIfInBounds_toArray, List.set_cons_zero, List.set_cons_succ]
  refine anyH_take (v := ?_) 8 rfl (by kernel_rfl) (by kernel_rfl) (by kernel_rfl) (fun _ _ _ h => h) rfl ?_ hHeld ?_
  rotate_left
  · intro w' hSw
    go_simp
    try with_reducible rfl
  try simp only [Act.put, List.setIfInBounds_toArray, List.set_cons_zero, List.set_cons_succ]
  refine anyH_take (v := ?_) 9 rfl (by kernel_rfl) (by kernel_rfl) (by kernel_rfl) (fun _ _ _ h => h) rfl ?_ hHeld ?_
  rotate_left
  · intro w' hSw
    go_simp
    try with_reducible rfl
  try simp only [Act.put, List.setIfInBounds_toArray, List.set_cons_zero, List.set_cons_succ]
  refine anyH_take (v := ?_) 10 rfl (by kernel_rfl) (by kernel_rfl) (by kernel_rfl) (fun _ _ _ h => h) rfl ?_ hHeld ?_
  rotate_left
  · intro w' hSw
    go_simp
    try with_reducible rfl
  try simp only [Act.put, List.setIfInBounds_toArray, List.set_cons_zero, List.set_cons_succ]
  refine anyH_take (v := ?_) 12 rfl (by kernel_rfl) (by kernel_rfl) (by kernel_rfl) (fun _ _ _ h => h) rfl ?_ hHeld ?_
  rotate_left
  · intro w' hSw
    go_simp
    try with_reducible rfl
  try simp only [Act.put, List.setIfInBounds_toArray, List.set_cons_zero, List.set_cons_succ]
  refine anyH_take (v := ?_) 13 rfl (by kernel_rfl) (by kernel_rfl) (by kernel_rfl) (fun _ _ _ h => h) rfl ?_ hHeld ?_
  rotate_left
  · intro w' hSw
    go_simp
    try with_reducible rfl
  try simp only [Act.put, List.setIfInBounds_toArray, List.set_cons_zero, List.set_cons_succ]
  refine wpAnyH_ready (rs := [11]) (by kernel_rfl) (by simp) ?_
  refine ready_cons rfl (fun K hK => ?_) AllReadyH.nil
  go_simp
  refine (l1Ints_any _ D _ (g0.roInts 4 rfl) (by rw [HDl.out]; omega)).mono ?_
  rintro (e : Ending) w1 ⟨u1, rfl, ho1, hb1⟩
  obtain ⟨A5, n5, c5, rfl⟩ := ho1.slice
  have g1 := g0.pushOwn hb1 ho1
  show K _ _
  refine hK.out _ _ ?_ (fun hHeld => ?_)
  · exact ⟨g1.box4 3 rfl, g1.box4 2 rfl⟩
  clear hK K
  try simp only [Act.put, List.setIfInBounds_toArray, List.set_cons_zero, List.set_cons_succ]
  refine wpAnyH_ready (rs := [14]) (by kernel_rfl) (by simp) ?_
  refine ready_cons rfl (fun K hK => ?_) AllReadyH.nil
  refine step_append_ints rfl (.tmp 16) (.tmp 18) rfl g1 0 rfl (g1.roInts 4 rfl) (by rw [HDl.out, HEl.out]; omega) rfl rfl fun vA w2 g2 => ?_
  simp only [List.set_cons_zero] at g2
  obtain ⟨A6, n6, c6, rfl⟩ := (g2.own 0 rfl).slice
  refine hK.out _ _ ?_ (fun hHeld => ?_)
  · exact ⟨g2.box4 3 rfl, g2.box4 2 rfl⟩
  clear hK K
  try simp only [Act.put, List.setIfInBounds_toArray, List.set_cons_zero, List.set_cons_succ]
  refine wpAnyH_done (by kernel_rfl) ?_ _
  show wpList _ _ _ _ _ _
  simp only [List.drop_succ_cons, List.drop_zero]
  clear hHeld
  go_wp2_with fail
  refine (HSp.out _ _ (g2.ownInts 0 rfl)).mono ?_
  rintro (e : Ending) w3 ⟨u3, rfl, ho3, hb3⟩
  obtain ⟨A7, n7, c7, rfl⟩ := ho3.slice
  have g3 := g2.pushOwn hb3 ho3
  obtain ⟨p0, p1, p2, p3⟩ := g3.box4 2 rfl
  have f0 := g3.free 2 rfl 0
  have f1 := g3.free 2 rfl 1
  have f2 := g3.free 2 rfl 2
  have f3 := g3.free 2 rfl 3
  have h5 := (((g3.setBox 2 rfl 0 (.int .i64 p)).setBox 2 rfl 1 (.int .i64 l)).setBox 2 rfl 2 (.int .i64 n)).setBox 2 rfl 3 (.slice A7 n7 c7)
  obtain ⟨r0, r1, r2, r3⟩ := h5.box4 2 rfl
  clear g0 g1 g2 g3 h1 ho1 ho3 hb1 hb3
  go_wp2
  refine bodyPost_ret (v := .agg #[.int .i64 p, .int .i64 l, .int .i64 n, .slice A7 n7 c7]) (by simp [results, Try.results136, go_sem, r0, r1, r2, r3]) rfl ⟨_, rfl, h5.own 0 rfl, h5.below⟩

set_option maxHeartbeats 4000000 in
theorem l2Closed0_st {w0 w : World} {L : List It} (p : Int) (n k : Nat) (v t : Value) (T : List Int) (R0 : List (List Int)) (h : St w0 w (.own v (flat n R0) :: L)) (hk : L[k]? = some (.ro t T)) (hT : T.length = n * n * n) (hn : n ≤ 28) (hP : isPrime p = true) (rT : resid p T = true) {a0 : List Nat} (hR0 : Rf p n R0 a0) :
    Calls Try.prog 81 #[.agg #[.int .i64 p, .int .i64 n, t], .agg #[.int .i64 p, .int .i64 R0.length, .int .i64 n, v], .bool false] w
      fun e w' => ∃ u, e = .returned (.agg #[.int .i64 p, .int .i64 (cloL false T n p R0).length, .int .i64 n, u]) ∧ St w0 w' (.own u (flat n (cloL false T n p R0)) :: L) := by
  have b1 := (isPrime_bd hP).1
  have hs := CloRun.start (k := false) (T := T) hP hR0
  obtain ⟨G, hG⟩ : ∃ G, G = cloL false T n p R0 := ⟨_, rfl⟩
  rw [← hG] at hs ⊢
  obtain ⟨A, c0, rfl, _, _, _⟩ := id (h.ro (k + 1) (by simpa using hk)).ints
  obtain ⟨A1, c1, rfl, _, _, _⟩ := id (h.ownInts 0 rfl)
  have h1 := (((h.box [.int .i64 p, .int .i64 n, .slice A T.length c0] 30).box [.int .i64 p, .int .i64 R0.length, .int .i64 n, .slice A1 (flat n R0).length c1] 32).box [.int .i64 0, .int .i64 0, .int .i64 0, .slice none 0 0] 32).toFront 3 rfl
  simp only [World.size_alloc] at h1
  change St w0 _ (.own (.slice A1 (flat n R0).length c1) (flat n R0) :: .box (w.heap.size + 1 + 1) _ :: .box (w.heap.size + 1) _ :: .box w.heap.size _ :: L) at h1
  have HS : Hid (CloRun false T n p R0 G) := hs
  have HT := Lib.hid hT
  clear h hs hG hT hR0
  go_enter Try.func81, Try.ntmps81
  go_wp2
  go_loopg [] (n - R0.length) (fun gk wr => ∃ (R : List (List Int)) (Ad : Option Addr) (cd : Nat), Hid (n - R.length = gk) ∧ Hid (CloRun false T n p R G) ∧ St w0 wr (.own (.slice Ad (flat n R).length cd) (flat n R) :: .box (w.heap.size + 1 + 1) [.int .i64 0, .int .i64 0, .int .i64 0, .slice none 0 0] :: .box (w.heap.size + 1) [.int .i64 p, .int .i64 R.length, .int .i64 n, .slice Ad (flat n R).length cd] :: .box w.heap.size [.int .i64 p, .int .i64 n, .slice A T.length c0] :: L))
  case atStart => exact ⟨R0, A1, c1, rfl, HS, h1⟩
  case round =>
    clear h1 HS
    obtain ⟨R, Ad, cd, hlg, HR, h1⟩ := hrel
    obtain ⟨a, ha⟩ := HR.out.1
    have hRn := rf_le_n b1 ha
    have hRW := ha.wf
    have hle := cloNext_le (k := false) (T := T) hP ha
    obtain ⟨b, hb⟩ := cloNext_rf (k := false) (T := T) hP hRW
    have hN := rf_le_n b1 hb
    have hSW : Wf p n (stepS false T n p R) := Wf.stepS hP R
    have hSl : (stepS false T n p R).length ≤ n := rf_le_n b1 (spanL_rf hP (Wf_stepArg false T n b1 R))
    obtain ⟨S1, hS1⟩ : ∃ S1, S1 = stepS false T n p R := ⟨_, rfl⟩
    obtain ⟨R2, hR2⟩ : ∃ R2, R2 = cloNext false T n p R := ⟨_, rfl⟩
    have hst : R2 = spanL p n (R ++ S1) := by rw [hR2, hS1]; rfl
    rw [← hS1] at hSW hSl
    rw [← hR2] at hle hN
    obtain ⟨l1, hl1⟩ : ∃ l1, l1 = S1.length := ⟨_, rfl⟩
    obtain ⟨l2, hl2⟩ : ∃ l2, l2 = R2.length := ⟨_, rfl⟩
    obtain ⟨D, hD⟩ : ∃ D, D = flat n R := ⟨_, rfl⟩
    obtain ⟨r, hr⟩ : ∃ r, r = R.length := ⟨_, rfl⟩
    have HP := Lib.hid (show ∀ (W : World) (v1 v2 v3 : Value), Ints W v1 T → Ints W v2 D → Ints W v3 D → Calls Try.prog 87 #[.agg #[.int .i64 p, .int .i64 n, v1], .agg #[.int .i64 p, .int .i64 r, .int .i64 n, v2], .agg #[.int .i64 p, .int .i64 r, .int .i64 n, v3]] W (RetMat W p l1 n (flat n S1)) from fun W v1 v2 v3 x1 x2 x3 => by
      rw [hD] at x2 x3
      have := l2Product_any p p p n R.length R.length v1 v2 v3 T (flat n R) (flat n R) W x1 x2 x3 HT.out (length_flat n R) (length_flat n R) hn (by omega) (by omega) hP rT (resid_flat (by omega) hRW) (resid_flat (by omega) hRW)
      rw [hl1, hS1, hr]
      exact this)
    have HJ := Lib.hid (show ∀ (W : World) (v1 v2 : Value), Ints W v1 D → Ints W v2 (flat n S1) → Calls Try.prog 136 #[.agg #[.int .i64 p, .int .i64 r, .int .i64 n, v1], .agg #[.int .i64 p, .int .i64 l1, .int .i64 n, v2]] W (RetMat W p l2 n (flat n R2)) from fun W v1 v2 x1 x2 => by
      rw [hD] at x1
      rw [hl2, hst, hl1, hr]
      exact l1Join_any p p n n v1 v2 R S1 W x1 x2 hRW hSW (by omega) (by omega) (by omega) hP)
    rw [← hD, ← hr] at h1
    have Hr := Lib.hid hr
    have HD := Lib.hid hD
    have HR2 := Lib.hid hR2
    have Hl2 := Lib.hid hl2
    have HLe := Lib.hid (show R.length ≤ R2.length from hle)
    have HN := Lib.hid hN
    have hti := (h1.ro (k + 4) (by simpa using hk)).ints
    have HTi := Lib.hid hti
    clear ha hRW hb hSW hS1 hst hl1 hl2 hD hr hR2 hle hN a b hti HTi
    obtain ⟨v0, v1, v2, v3⟩ := h1.box4 2 rfl
    have h2 := h1.box [.int .i64 p, .int .i64 r, .int .i64 n, .slice Ad D.length cd] 32
    go_upto_region 4 with fail
    clear v0 v1 v2 v3 h1
    generalize hBt : wr.heap.size = Bt at h2 ⊢
    clear hBt
    have g0 := h2.drew
    go_cut [8] (fun s8 wx => ∃ (B8 : Nat) (A9 : Option Addr) (n9 c9 : Nat), s8 = .pointer (some ⟨B8, 0, none⟩) ∧ St w0 wx (.box B8 [.int .i64 p, .int .i64 l2, .int .i64 n, .slice A9 n9 c9] :: .own (.slice A9 n9 c9) (flat n R2) :: .own (.slice Ad D.length cd) D :: .box (w.heap.size + 1 + 1) [.int .i64 0, .int .i64 0, .int .i64 0, .slice none 0 0] :: .box (w.heap.size + 1) [.int .i64 p, .int .i64 r, .int .i64 n, .slice Ad D.length cd] :: .box w.heap.size [.int .i64 p, .int .i64 n, .slice A T.length c0] :: L))
    case first =>
      refine wp_region_cut (S := fun w' => (w'.cell? ⟨Bt, 0, none⟩ = some (.int .i64 p) ∧ w'.cell? ⟨Bt, 1, none⟩ = some (.int .i64 r) ∧ w'.cell? ⟨Bt, 2, none⟩ = some (.int .i64 n) ∧ w'.cell? ⟨Bt, 3, none⟩ = some (.slice Ad D.length cd)) ∧ (w'.cell? ⟨w.heap.size + 1, 0, none⟩ = some (.int .i64 p) ∧ w'.cell? ⟨w.heap.size + 1, 1, none⟩ = some (.int .i64 r) ∧ w'.cell? ⟨w.heap.size + 1, 2, none⟩ = some (.int .i64 n) ∧ w'.cell? ⟨w.heap.size + 1, 3, none⟩ = some (.slice Ad D.length cd)) ∧ w'.cell? ⟨w.heap.size, 0, none⟩ = some (.int .i64 p) ∧ w'.cell? ⟨w.heap.size, 1, none⟩ = some (.int .i64 n) ∧ w'.cell? ⟨w.heap.size, 2, none⟩ = some (.slice A T.length c0)) 7 (by kernel_rfl) (by kernel_rfl) ⟨g0.box4 0 rfl, g0.box4 3 rfl, g0.box3 4 rfl⟩ (fun hHeld => ?_)
      simp only [List.take_succ_cons, List.take_zero]
      generalize hv0 : World.drew _ = v0 at g0 hHeld ⊢
      clear hv0 h2
      refine anyH_take (v := ?_) 0 rfl (by kernel_rfl) (by kernel_rfl) (by kernel_rfl) (fun _ _ _ h => h) rfl ?_ hHeld ?_
      rotate_left
      · intro w' hSw
        go_simp
        try with_reducible rfl
      try simp only [Act.put, List.setIfInBounds_toArray, List.set_cons_zero, List.set_cons_succ]
      refine anyH_take (v := ?_) 1 rfl (by kernel_rfl) (by kernel_rfl) (by kernel_rfl) (fun _ _ _ h => h) rfl ?_ hHeld ?_
      rotate_left
      · intro w' hSw
        go_simp
        try with_reducible rfl
      try simp only [Act.put, List.setIfInBounds_toArray, List.set_cons_zero, List.set_cons_succ]
      refine anyH_take (v := ?_) 2 rfl (by kernel_rfl) (by kernel_rfl) (by kernel_rfl) (fun _ _ _ h => h) rfl ?_ hHeld ?_
      rotate_left
      · intro w' hSw
        go_simp
        try with_reducible rfl
      try simp only [Act.put, List.setIfInBounds_toArray, List.set_cons_zero, List.set_cons_succ]
      refine anyH_take (v := ?_) 3 rfl (by kernel_rfl) (by kernel_rfl) (by kernel_rfl) (fun _ _ _ h => h) rfl ?_ hHeld ?_
      rotate_left
      · intro w' hSw
        go_simp
        try with_reducible rfl
      try simp only [Act.put, List.setIfInBounds_toArray, List.set_cons_zero, List.set_cons_succ]
      refine wpAnyH_ready (rs := [4, 6]) (by kernel_rfl) (by simp) ?_
      refine ready_cons rfl (fun K hK => ?_) (ready_cons rfl (fun K hK => ?_) AllReadyH.nil)
      · go_simp
        refine (HP.out _ _ _ _ (g0.ro (k + 5) (by simpa using hk)).ints (g0.ownInts 1 rfl) (g0.ownInts 1 rfl)).mono ?_
        rintro (e : Ending) v1 ⟨u1, rfl, ho1, hb1⟩
        obtain ⟨B1, m1, d1, rfl⟩ := ho1.slice
        have g1 := g0.pushOwn hb1 ho1
        show K _ _
        refine hK.out _ _ ?_ (fun hHeld => ?_)
        · exact ⟨g1.box4 1 rfl, g1.box4 4 rfl, g1.box3 5 rfl⟩
        clear hK K
        try simp only [Act.put, List.setIfInBounds_toArray, List.set_cons_zero, List.set_cons_succ]
        refine wpAnyH_ready (rs := [5, 6]) (by kernel_rfl) (by simp) ?_
        refine ready_cons rfl (fun K hK => ?_) (ready_cons rfl (fun K hK => ?_) AllReadyH.nil)
        · go_simp
          refine (HJ.out _ _ _ (g1.ownInts 2 rfl) (g1.ownInts 0 rfl)).mono ?_
          rintro (e : Ending) v2 ⟨u2, rfl, ho2, hb2⟩
          obtain ⟨A9, n9, c9, rfl⟩ := ho2.slice
          have g2 := g1.pushOwn hb2 ho2
          show K _ _
          refine hK.out _ _ ?_ (fun hHeld => ?_)
          · exact ⟨g2.box4 2 rfl, g2.box4 5 rfl, g2.box3 6 rfl⟩
          clear hK K
          try simp only [Act.put, List.setIfInBounds_toArray, List.set_cons_zero, List.set_cons_succ]
          refine wpAnyH_ready (rs := [6]) (by kernel_rfl) (by simp) ?_
          refine ready_cons rfl (fun K hK => ?_) AllReadyH.nil
          go_simp
          have g3 := g2.box [.int .i64 0, .int .i64 0, .int .i64 0, .slice none 0 0] 32
          refine hK.out _ _ ?_ (fun hHeld => ?_)
          · exact ⟨g3.box4 3 rfl, g3.box4 6 rfl, g3.box3 7 rfl⟩
          clear hK K
          generalize World.alloc v2 (.cells #[.int .i64 0, .int .i64 0, .int .i64 0, .slice none 0 0] 32) = v3 at g3 hHeld ⊢
          try simp only [Act.put, List.setIfInBounds_toArray, List.set_cons_zero, List.set_cons_succ]
          refine wpAnyH_done (by kernel_rfl) ?_ _
          show wpList _ _ _ _ _ _
          simp only [List.drop_succ_cons, List.drop_zero]
          clear hHeld
          obtain ⟨p0, p1, p2, p3⟩ := g3.box4 0 rfl
          have f0 := g3.free 0 rfl 0
          have f1 := g3.free 0 rfl 1
          have f2 := g3.free 0 rfl 2
          have f3 := g3.free 0 rfl 3
          have q1 := (((g3.setBox 0 rfl 0 (.int .i64 p)).setBox 0 rfl 1 (.int .i64 l2)).setBox 0 rfl 2 (.int .i64 n)).setBox 0 rfl 3 (.slice A9 n9 c9)
          go_wp2_with fail
          go_meet
          exact ⟨_, _, _, _, rfl, ((((q1.rid 2).rid 2).toFront 1 rfl).toFront 1 rfl)⟩
        · go_simp
          have g2 := g1.box [.int .i64 0, .int .i64 0, .int .i64 0, .slice none 0 0] 32
          refine hK.out _ _ ?_ (fun hHeld => ?_)
          · exact ⟨g2.box4 2 rfl, g2.box4 5 rfl, g2.box3 6 rfl⟩
          clear hK K
          generalize World.alloc v1 (.cells #[.int .i64 0, .int .i64 0, .int .i64 0, .slice none 0 0] 32) = v2 at g2 hHeld ⊢
          try simp only [Act.put, List.setIfInBounds_toArray, List.set_cons_zero, List.set_cons_succ]
          refine wpAnyH_ready (rs := [5]) (by kernel_rfl) (by simp) ?_
          refine ready_cons rfl (fun K hK => ?_) AllReadyH.nil
          go_simp
          refine (HJ.out _ _ _ (g2.ownInts 3 rfl) (g2.ownInts 1 rfl)).mono ?_
          rintro (e : Ending) v3 ⟨u3, rfl, ho3, hb3⟩
          obtain ⟨A9, n9, c9, rfl⟩ := ho3.slice
          have g3 := g2.pushOwn hb3 ho3
          show K _ _
          refine hK.out _ _ ?_ (fun hHeld => ?_)
          · exact ⟨g3.box4 3 rfl, g3.box4 6 rfl, g3.box3 7 rfl⟩
          clear hK K
          try simp only [Act.put, List.setIfInBounds_toArray, List.set_cons_zero, List.set_cons_succ]
          refine wpAnyH_done (by kernel_rfl) ?_ _
          show wpList _ _ _ _ _ _
          simp only [List.drop_succ_cons, List.drop_zero]
          clear hHeld
          obtain ⟨p0, p1, p2, p3⟩ := g3.box4 1 rfl
          have f0 := g3.free 1 rfl 0
          have f1 := g3.free 1 rfl 1
          have f2 := g3.free 1 rfl 2
          have f3 := g3.free 1 rfl 3
          have q1 := (((g3.setBox 1 rfl 0 (.int .i64 p)).setBox 1 rfl 1 (.int .i64 l2)).setBox 1 rfl 2 (.int .i64 n)).setBox 1 rfl 3 (.slice A9 n9 c9)
          go_wp2_with fail
          go_meet
          exact ⟨_, _, _, _, rfl, (((q1.rid 2).rid 2).toFront 1 rfl)⟩
      · go_simp
        have g1 := g0.box [.int .i64 0, .int .i64 0, .int .i64 0, .slice none 0 0] 32
        refine hK.out _ _ ?_ (fun hHeld => ?_)
        · exact ⟨g1.box4 1 rfl, g1.box4 4 rfl, g1.box3 5 rfl⟩
        clear hK K
        generalize World.alloc v0 (.cells #[.int .i64 0, .int .i64 0, .int .i64 0, .slice none 0 0] 32) = v1 at g1 hHeld ⊢
        try simp only [Act.put, List.setIfInBounds_toArray, List.set_cons_zero, List.set_cons_succ]
        refine wpAnyH_ready (rs := [4]) (by kernel_rfl) (by simp) ?_
        refine ready_cons rfl (fun K hK => ?_) AllReadyH.nil
        go_simp
        refine (HP.out _ _ _ _ (g1.ro (k + 6) (by simpa using hk)).ints (g1.ownInts 2 rfl) (g1.ownInts 2 rfl)).mono ?_
        rintro (e : Ending) v2 ⟨u2, rfl, ho2, hb2⟩
        obtain ⟨B2, m2, d2, rfl⟩ := ho2.slice
        have g2 := g1.pushOwn hb2 ho2
        show K _ _
        refine hK.out _ _ ?_ (fun hHeld => ?_)
        · exact ⟨g2.box4 2 rfl, g2.box4 5 rfl, g2.box3 6 rfl⟩
        clear hK K
        try simp only [Act.put, List.setIfInBounds_toArray, List.set_cons_zero, List.set_cons_succ]
        refine wpAnyH_ready (rs := [5]) (by kernel_rfl) (by simp) ?_
        refine ready_cons rfl (fun K hK => ?_) AllReadyH.nil
        go_simp
        refine (HJ.out _ _ _ (g2.ownInts 3 rfl) (g2.ownInts 0 rfl)).mono ?_
        rintro (e : Ending) v3 ⟨u3, rfl, ho3, hb3⟩
        obtain ⟨A9, n9, c9, rfl⟩ := ho3.slice
        have g3 := g2.pushOwn hb3 ho3
        show K _ _
        refine hK.out _ _ ?_ (fun hHeld => ?_)
        · exact ⟨g3.box4 3 rfl, g3.box4 6 rfl, g3.box3 7 rfl⟩
        clear hK K
        try simp only [Act.put, List.setIfInBounds_toArray, List.set_cons_zero, List.set_cons_succ]
        refine wpAnyH_done (by kernel_rfl) ?_ _
        show wpList _ _ _ _ _ _
        simp only [List.drop_succ_cons, List.drop_zero]
        clear hHeld
        obtain ⟨p0, p1, p2, p3⟩ := g3.box4 2 rfl
        have f0 := g3.free 2 rfl 0
        have f1 := g3.free 2 rfl 1
        have f2 := g3.free 2 rfl 2
        have f3 := g3.free 2 rfl 3
        have q1 := (((g3.setBox 2 rfl 0 (.int .i64 p)).setBox 2 rfl 1 (.int .i64 l2)).setBox 2 rfl 2 (.int .i64 n)).setBox 2 rfl 3 (.slice A9 n9 c9)
        go_wp2_with fail
        go_meet
        exact ⟨_, _, _, _, rfl, (((q1.rid 1).rid 2).toFront 1 rfl)⟩
    case rest =>
    clear h2 g0
    obtain ⟨B8, A9, n9, c9, rfl, h5⟩ := hcut
    obtain ⟨x0, x1, x2, x3⟩ := h5.box4 0 rfl
    obtain ⟨z0, z1, z2, z3⟩ := h5.box4 4 rfl
    by_cases he : l2 = r
    · subst he
      obtain ⟨y0, y1, y2, y3⟩ := h5.box4 3 rfl
      have f0 := h5.free 3 rfl 0
      have f1 := h5.free 3 rfl 1
      have f2 := h5.free 3 rfl 2
      have f3 := h5.free 3 rfl 3
      have h6 := (((h5.setBox 3 rfl 0 (.int .i64 p)).setBox 3 rfl 1 (.int .i64 l2)).setBox 3 rfl 2 (.int .i64 n)).setBox 3 rfl 3 (.slice A9 n9 c9)
      obtain ⟨r0, r1, r2, r3⟩ := h6.box4 3 rfl
      go_wp2
      have hh := HR.out
      obtain ⟨a, ha⟩ := hh.1
      have hlen : (cloNext false T n p R).length = R.length := by rw [← HR2.out, ← Hl2.out, Hr.out]
      have e1 : R2 = G := by rw [HR2.out, cloNext_same hP ha hlen]; exact hh.stop hlen
      rw [← e1, ← Hl2.out]
      refine bodyPost_ret (v := .agg #[.int .i64 p, .int .i64 l2, .int .i64 n, .slice A9 n9 c9]) (by simp [results, Try.results81, go_sem, r0, r1, r2, r3]) rfl ⟨_, rfl, ((((h6.rid 5).rid 4).rid 3).rid 2).rid 0⟩
    · have e1 : ((l2 : Int) == (r : Int)) = false := by rw [beq_eq_false_iff_ne]; omega
      have e2 : ¬ ((l2 : Int) = (r : Int)) := by omega
      have f0 := h5.free 4 rfl 0
      have f1 := h5.free 4 rfl 1
      have f2 := h5.free 4 rfl 2
      have f3 := h5.free 4 rfl 3
      have h6 := (((h5.setBox 4 rfl 0 (.int .i64 p)).setBox 4 rfl 1 (.int .i64 l2)).setBox 4 rfl 2 (.int .i64 n)).setBox 4 rfl 3 (.slice A9 n9 c9)
      go_wp2
      have hnx := HR.out.next hP (by rw [← HR2.out, ← Hl2.out, ← Hr.out]; exact he)
      rw [← HR2.out] at hnx
      have hn9 : n9 = (flat n R2).length := by
        obtain ⟨A', c', he', _⟩ := h5.ownInts 1 rfl
        simp only [Value.slice.injEq] at he'
        exact he'.2.1
      subst hn9
      go_roundg (n - R2.length)
      case measure => have := hlg.out; omega
      case rel => exact ⟨R2, A9, c9, rfl, hnx.1, by rw [← Hl2.out]; exact (h6.rid 2).rid 0⟩

set_option maxHeartbeats 4000000 in
theorem l2Closed1_st {w0 w : World} {L : List It} (p : Int) (n k : Nat) (v t : Value) (T : List Int) (R0 : List (List Int)) (h : St w0 w (.own v (flat n R0) :: L)) (hk : L[k]? = some (.ro t T)) (hT : T.length = n * n * n) (hn : n ≤ 28) (hP : isPrime p = true) (rT : resid p T = true) {a0 : List Nat} (hR0 : Rf p n R0 a0) :
    Calls Try.prog 81 #[.agg #[.int .i64 p, .int .i64 n, t], .agg #[.int .i64 p, .int .i64 R0.length, .int .i64 n, v], .bool true] w
      fun e w' => ∃ u, e = .returned (.agg #[.int .i64 p, .int .i64 (cloL true T n p R0).length, .int .i64 n, u]) ∧ St w0 w' (.own u (flat n (cloL true T n p R0)) :: L) := by
  have b1 := (isPrime_bd hP).1
  have hs := CloRun.start (k := true) (T := T) hP hR0
  obtain ⟨G, hG⟩ : ∃ G, G = cloL true T n p R0 := ⟨_, rfl⟩
  rw [← hG] at hs ⊢
  obtain ⟨A, c0, rfl, _, _, _⟩ := id (h.ro (k + 1) (by simpa using hk)).ints
  obtain ⟨A1, c1, rfl, _, _, _⟩ := id (h.ownInts 0 rfl)
  have h1 := (((h.box [.int .i64 p, .int .i64 n, .slice A T.length c0] 30).box [.int .i64 p, .int .i64 R0.length, .int .i64 n, .slice A1 (flat n R0).length c1] 32).box [.int .i64 0, .int .i64 0, .int .i64 0, .slice none 0 0] 32).toFront 3 rfl
  simp only [World.size_alloc] at h1
  change St w0 _ (.own (.slice A1 (flat n R0).length c1) (flat n R0) :: .box (w.heap.size + 1 + 1) _ :: .box (w.heap.size + 1) _ :: .box w.heap.size _ :: L) at h1
  have HS : Hid (CloRun true T n p R0 G) := hs
  have HT := Lib.hid hT
  clear h hs hG hT hR0
  go_enter Try.func81, Try.ntmps81
  go_wp2
  go_loopg [] (n - R0.length) (fun gk wr => ∃ (R : List (List Int)) (Ad : Option Addr) (cd : Nat), Hid (n - R.length = gk) ∧ Hid (CloRun true T n p R G) ∧ St w0 wr (.own (.slice Ad (flat n R).length cd) (flat n R) :: .box (w.heap.size + 1 + 1) [.int .i64 0, .int .i64 0, .int .i64 0, .slice none 0 0] :: .box (w.heap.size + 1) [.int .i64 p, .int .i64 R.length, .int .i64 n, .slice Ad (flat n R).length cd] :: .box w.heap.size [.int .i64 p, .int .i64 n, .slice A T.length c0] :: L))
  case atStart => exact ⟨R0, A1, c1, rfl, HS, h1⟩
  case round =>
    clear h1 HS
    obtain ⟨R, Ad, cd, hlg, HR, h1⟩ := hrel
    obtain ⟨a, ha⟩ := HR.out.1
    have hRn := rf_le_n b1 ha
    have hRW := ha.wf
    have hle := cloNext_le (k := true) (T := T) hP ha
    obtain ⟨b, hb⟩ := cloNext_rf (k := true) (T := T) hP hRW
    have hN := rf_le_n b1 hb
    have hSW : Wf p n (stepS true T n p R) := Wf.stepS hP R
    have hSl : (stepS true T n p R).length ≤ n := rf_le_n b1 (spanL_rf hP (Wf_stepArg true T n b1 R))
    obtain ⟨S1, hS1⟩ : ∃ S1, S1 = stepS true T n p R := ⟨_, rfl⟩
    obtain ⟨R2, hR2⟩ : ∃ R2, R2 = cloNext true T n p R := ⟨_, rfl⟩
    have hst : R2 = spanL p n (R ++ S1) := by rw [hR2, hS1]; rfl
    rw [← hS1] at hSW hSl
    rw [← hR2] at hle hN
    obtain ⟨l1, hl1⟩ : ∃ l1, l1 = S1.length := ⟨_, rfl⟩
    obtain ⟨l2, hl2⟩ : ∃ l2, l2 = R2.length := ⟨_, rfl⟩
    obtain ⟨D, hD⟩ : ∃ D, D = flat n R := ⟨_, rfl⟩
    obtain ⟨r, hr⟩ : ∃ r, r = R.length := ⟨_, rfl⟩
    have HU := Lib.hid (fun W => l2All_any p n A T.length c0 W hP (by omega))
    have HP := Lib.hid (show ∀ (W : World) (v1 v2 v3 : Value), Ints W v1 T → Ints W v2 (unitD n) → Ints W v3 D → Calls Try.prog 87 #[.agg #[.int .i64 p, .int .i64 n, v1], .agg #[.int .i64 p, .int .i64 n, .int .i64 n, v2], .agg #[.int .i64 p, .int .i64 r, .int .i64 n, v3]] W (RetMat W p l1 n (flat n S1)) from fun W v1 v2 v3 x1 x2 x3 => by
      rw [hD] at x3
      have := l2Product_any p p p n n R.length v1 v2 v3 T (unitD n) (flat n R) W x1 x2 x3 HT.out (length_unitD n) (length_flat n R) hn (by omega) (by omega) hP rT (resid_unitD b1 n) (resid_flat (by omega) hRW)
      rw [hl1, hS1, hr]
      have e : stepS true T n p R = spanL p n (prodL T n p n (unitD n) R.length (flat n R)) := by
        show spanL p n (brR T n p (uniR n) R) = _
        rw [brR, length_uniR, flat_uniR]
      rw [e]
      exact this)
    have HJ := Lib.hid (show ∀ (W : World) (v1 v2 : Value), Ints W v1 D → Ints W v2 (flat n S1) → Calls Try.prog 136 #[.agg #[.int .i64 p, .int .i64 r, .int .i64 n, v1], .agg #[.int .i64 p, .int .i64 l1, .int .i64 n, v2]] W (RetMat W p l2 n (flat n R2)) from fun W v1 v2 x1 x2 => by
      rw [hD] at x1
      rw [hl2, hst, hl1, hr]
      exact l1Join_any p p n n v1 v2 R S1 W x1 x2 hRW hSW (by omega) (by omega) (by omega) hP)
    rw [← hD, ← hr] at h1
    have Hr := Lib.hid hr
    have HD := Lib.hid hD
    have HR2 := Lib.hid hR2
    have Hl2 := Lib.hid hl2
    have HLe := Lib.hid (show R.length ≤ R2.length from hle)
    have HN := Lib.hid hN
    have hti := (h1.ro (k + 4) (by simpa using hk)).ints
    have HTi := Lib.hid hti
    clear ha hRW hb hSW hS1 hst hl1 hl2 hD hr hR2 hle hN a b hti HTi
    obtain ⟨v0, v1, v2, v3⟩ := h1.box4 2 rfl
    have h2 := h1.box [.int .i64 p, .int .i64 r, .int .i64 n, .slice Ad D.length cd] 32
    obtain ⟨y0, y1, y2⟩ := h2.box3 4 rfl
    go_wp2_with fail
    refine (HU.out _).mono ?_
    rintro (e : Ending) w5 ⟨u, rfl, ho, hb5⟩
    obtain ⟨A7, n7, c7, rfl⟩ := ho.slice
    have h3 := h2.pushOwn hb5 ho
    obtain ⟨x0, x1, x2, x3⟩ := h3.box4 1 rfl
    have f0 := h3.free 1 rfl 0
    have f1 := h3.free 1 rfl 1
    have f2 := h3.free 1 rfl 2
    have f3 := h3.free 1 rfl 3
    have h4 := (((h3.setBox 1 rfl 0 (.int .i64 p)).setBox 1 rfl 1 (.int .i64 n)).setBox 1 rfl 2 (.int .i64 n)).setBox 1 rfl 3 (.slice A7 n7 c7)
    clear v0 v1 v2 v3 y0 y1 y2 ho hb5
    go_upto_region 4 with fail
    clear x0 x1 x2 x3 f0 f1 f2 f3 h1 h2 h3
    generalize hBt : wr.heap.size = Bt at h4 ⊢
    clear hBt
    have g0 := h4.drew
    go_cut [8] (fun s8 wx => ∃ (B8 : Nat) (A9 : Option Addr) (n9 c9 : Nat), s8 = .pointer (some ⟨B8, 0, none⟩) ∧ St w0 wx (.box B8 [.int .i64 p, .int .i64 l2, .int .i64 n, .slice A9 n9 c9] :: .own (.slice A9 n9 c9) (flat n R2) :: .own (.slice Ad D.length cd) D :: .box (w.heap.size + 1 + 1) [.int .i64 0, .int .i64 0, .int .i64 0, .slice none 0 0] :: .box (w.heap.size + 1) [.int .i64 p, .int .i64 r, .int .i64 n, .slice Ad D.length cd] :: .box w.heap.size [.int .i64 p, .int .i64 n, .slice A T.length c0] :: L))
    case first =>
      refine wp_region_cut (S := fun w' => (w'.cell? ⟨Bt, 0, none⟩ = some (.int .i64 p) ∧ w'.cell? ⟨Bt, 1, none⟩ = some (.int .i64 n) ∧ w'.cell? ⟨Bt, 2, none⟩ = some (.int .i64 n) ∧ w'.cell? ⟨Bt, 3, none⟩ = some (.slice A7 n7 c7)) ∧ (w'.cell? ⟨w.heap.size + 1, 0, none⟩ = some (.int .i64 p) ∧ w'.cell? ⟨w.heap.size + 1, 1, none⟩ = some (.int .i64 r) ∧ w'.cell? ⟨w.heap.size + 1, 2, none⟩ = some (.int .i64 n) ∧ w'.cell? ⟨w.heap.size + 1, 3, none⟩ = some (.slice Ad D.length cd)) ∧ w'.cell? ⟨w.heap.size, 0, none⟩ = some (.int .i64 p) ∧ w'.cell? ⟨w.heap.size, 1, none⟩ = some (.int .i64 n) ∧ w'.cell? ⟨w.heap.size, 2, none⟩ = some (.slice A T.length c0)) 7 (by kernel_rfl) (by kernel_rfl) ⟨g0.box4 1 rfl, g0.box4 4 rfl, g0.box3 5 rfl⟩ (fun hHeld => ?_)
      simp only [List.take_succ_cons, List.take_zero]
      generalize hv0 : World.drew _ = v0 at g0 hHeld ⊢
      clear hv0 h4
      refine anyH_take (v := ?_) 0 rfl (by kernel_rfl) (by kernel_rfl) (by kernel_rfl) (fun _ _ _ h => h) rfl ?_ hHeld ?_
      rotate_left
      · intro w' hSw
        go_simp
        try with_reducible rfl
      try simp only [Act.put, List.setIfInBounds_toArray, List.set_cons_zero, List.set_cons_succ]
      refine anyH_take (v := ?_) 1 rfl (by kernel_rfl) (by kernel_rfl) (by kernel_rfl) (fun _ _ _ h => h) rfl ?_ hHeld ?_
      rotate_left
      · intro w' hSw
        go_simp
        try with_reducible rfl
      try simp only [Act.put, List.setIfInBounds_toArray, List.set_cons_zero, List.set_cons_succ]
      refine anyH_take (v := ?_) 2 rfl (by kernel_rfl) (by kernel_rfl) (by kernel_rfl) (fun _ _ _ h => h) rfl ?_ hHeld ?_
      rotate_left
      · intro w' hSw
        go_simp
        try with_reducible rfl
      try simp only [Act.put, List.setIfInBounds_toArray, List.set_cons_zero, List.set_cons_succ]
      refine anyH_take (v := ?_) 3 rfl (by kernel_rfl) (by kernel_rfl) (by kernel_rfl) (fun _ _ _ h => h) rfl ?_ hHeld ?_
      rotate_left
      · intro w' hSw
        go_simp
        try with_reducible rfl
      try simp only [Act.put, List.setIfInBounds_toArray, List.set_cons_zero, List.set_cons_succ]
      refine wpAnyH_ready (rs := [4, 6]) (by kernel_rfl) (by simp) ?_
      refine ready_cons rfl (fun K hK => ?_) (ready_cons rfl (fun K hK => ?_) AllReadyH.nil)
      · go_simp
        refine (HP.out _ _ _ _ (g0.ro (k + 6) (by simpa using hk)).ints (g0.ownInts 0 rfl) (g0.ownInts 2 rfl)).mono ?_
        rintro (e : Ending) v1 ⟨u1, rfl, ho1, hb1⟩
        obtain ⟨B1, m1, d1, rfl⟩ := ho1.slice
        have g1 := g0.pushOwn hb1 ho1
        show K _ _
        refine hK.out _ _ ?_ (fun hHeld => ?_)
        · exact ⟨g1.box4 2 rfl, g1.box4 5 rfl, g1.box3 6 rfl⟩
        clear hK K
        try simp only [Act.put, List.setIfInBounds_toArray, List.set_cons_zero, List.set_cons_succ]
        refine wpAnyH_ready (rs := [5, 6]) (by kernel_rfl) (by simp) ?_
        refine ready_cons rfl (fun K hK => ?_) (ready_cons rfl (fun K hK => ?_) AllReadyH.nil)
        · go_simp
          refine (HJ.out _ _ _ (g1.ownInts 3 rfl) (g1.ownInts 0 rfl)).mono ?_
          rintro (e : Ending) v2 ⟨u2, rfl, ho2, hb2⟩
          obtain ⟨A9, n9, c9, rfl⟩ := ho2.slice
          have g2 := g1.pushOwn hb2 ho2
          show K _ _
          refine hK.out _ _ ?_ (fun hHeld => ?_)
          · exact ⟨g2.box4 3 rfl, g2.box4 6 rfl, g2.box3 7 rfl⟩
          clear hK K
          try simp only [Act.put, List.setIfInBounds_toArray, List.set_cons_zero, List.set_cons_succ]
          refine wpAnyH_ready (rs := [6]) (by kernel_rfl) (by simp) ?_
          refine ready_cons rfl (fun K hK => ?_) AllReadyH.nil
          go_simp
          have g3 := g2.box [.int .i64 0, .int .i64 0, .int .i64 0, .slice none 0 0] 32
          refine hK.out _ _ ?_ (fun hHeld => ?_)
          · exact ⟨g3.box4 4 rfl, g3.box4 7 rfl, g3.box3 8 rfl⟩
          clear hK K
          generalize World.alloc v2 (.cells #[.int .i64 0, .int .i64 0, .int .i64 0, .slice none 0 0] 32) = v3 at g3 hHeld ⊢
          try simp only [Act.put, List.setIfInBounds_toArray, List.set_cons_zero, List.set_cons_succ]
          refine wpAnyH_done (by kernel_rfl) ?_ _
          show wpList _ _ _ _ _ _
          simp only [List.drop_succ_cons, List.drop_zero]
          clear hHeld
          obtain ⟨p0, p1, p2, p3⟩ := g3.box4 0 rfl
          have f0 := g3.free 0 rfl 0
          have f1 := g3.free 0 rfl 1
          have f2 := g3.free 0 rfl 2
          have f3 := g3.free 0 rfl 3
          have q1 := (((g3.setBox 0 rfl 0 (.int .i64 p)).setBox 0 rfl 1 (.int .i64 l2)).setBox 0 rfl 2 (.int .i64 n)).setBox 0 rfl 3 (.slice A9 n9 c9)
          go_wp2_with fail
          go_meet
          exact ⟨_, _, _, _, rfl, (((((q1.rid 2).rid 3).rid 2).toFront 1 rfl).toFront 1 rfl)⟩
        · go_simp
          have g2 := g1.box [.int .i64 0, .int .i64 0, .int .i64 0, .slice none 0 0] 32
          refine hK.out _ _ ?_ (fun hHeld => ?_)
          · exact ⟨g2.box4 3 rfl, g2.box4 6 rfl, g2.box3 7 rfl⟩
          clear hK K
          generalize World.alloc v1 (.cells #[.int .i64 0, .int .i64 0, .int .i64 0, .slice none 0 0] 32) = v2 at g2 hHeld ⊢
          try simp only [Act.put, List.setIfInBounds_toArray, List.set_cons_zero, List.set_cons_succ]
          refine wpAnyH_ready (rs := [5]) (by kernel_rfl) (by simp) ?_
          refine ready_cons rfl (fun K hK => ?_) AllReadyH.nil
          go_simp
          refine (HJ.out _ _ _ (g2.ownInts 4 rfl) (g2.ownInts 1 rfl)).mono ?_
          rintro (e : Ending) v3 ⟨u3, rfl, ho3, hb3⟩
          obtain ⟨A9, n9, c9, rfl⟩ := ho3.slice
          have g3 := g2.pushOwn hb3 ho3
          show K _ _
          refine hK.out _ _ ?_ (fun hHeld => ?_)
          · exact ⟨g3.box4 4 rfl, g3.box4 7 rfl, g3.box3 8 rfl⟩
          clear hK K
          try simp only [Act.put, List.setIfInBounds_toArray, List.set_cons_zero, List.set_cons_succ]
          refine wpAnyH_done (by kernel_rfl) ?_ _
          show wpList _ _ _ _ _ _
          simp only [List.drop_succ_cons, List.drop_zero]
          clear hHeld
          obtain ⟨p0, p1, p2, p3⟩ := g3.box4 1 rfl
          have f0 := g3.free 1 rfl 0
          have f1 := g3.free 1 rfl 1
          have f2 := g3.free 1 rfl 2
          have f3 := g3.free 1 rfl 3
          have q1 := (((g3.setBox 1 rfl 0 (.int .i64 p)).setBox 1 rfl 1 (.int .i64 l2)).setBox 1 rfl 2 (.int .i64 n)).setBox 1 rfl 3 (.slice A9 n9 c9)
          go_wp2_with fail
          go_meet
          exact ⟨_, _, _, _, rfl, ((((q1.rid 2).rid 3).rid 2).toFront 1 rfl)⟩
      · go_simp
        have g1 := g0.box [.int .i64 0, .int .i64 0, .int .i64 0, .slice none 0 0] 32
        refine hK.out _ _ ?_ (fun hHeld => ?_)
        · exact ⟨g1.box4 2 rfl, g1.box4 5 rfl, g1.box3 6 rfl⟩
        clear hK K
        generalize World.alloc v0 (.cells #[.int .i64 0, .int .i64 0, .int .i64 0, .slice none 0 0] 32) = v1 at g1 hHeld ⊢
        try simp only [Act.put, List.setIfInBounds_toArray, List.set_cons_zero, List.set_cons_succ]
        refine wpAnyH_ready (rs := [4]) (by kernel_rfl) (by simp) ?_
        refine ready_cons rfl (fun K hK => ?_) AllReadyH.nil
        go_simp
        refine (HP.out _ _ _ _ (g1.ro (k + 7) (by simpa using hk)).ints (g1.ownInts 1 rfl) (g1.ownInts 3 rfl)).mono ?_
        rintro (e : Ending) v2 ⟨u2, rfl, ho2, hb2⟩
        obtain ⟨B2, m2, d2, rfl⟩ := ho2.slice
        have g2 := g1.pushOwn hb2 ho2
        show K _ _
        refine hK.out _ _ ?_ (fun hHeld => ?_)
        · exact ⟨g2.box4 3 rfl, g2.box4 6 rfl, g2.box3 7 rfl⟩
        clear hK K
        try simp only [Act.put, List.setIfInBounds_toArray, List.set_cons_zero, List.set_cons_succ]
        refine wpAnyH_ready (rs := [5]) (by kernel_rfl) (by simp) ?_
        refine ready_cons rfl (fun K hK => ?_) AllReadyH.nil
        go_simp
        refine (HJ.out _ _ _ (g2.ownInts 4 rfl) (g2.ownInts 0 rfl)).mono ?_
        rintro (e : Ending) v3 ⟨u3, rfl, ho3, hb3⟩
        obtain ⟨A9, n9, c9, rfl⟩ := ho3.slice
        have g3 := g2.pushOwn hb3 ho3
        show K _ _
        refine hK.out _ _ ?_ (fun hHeld => ?_)
        · exact ⟨g3.box4 4 rfl, g3.box4 7 rfl, g3.box3 8 rfl⟩
        clear hK K
        try simp only [Act.put, List.setIfInBounds_toArray, List.set_cons_zero, List.set_cons_succ]
        refine wpAnyH_done (by kernel_rfl) ?_ _
        show wpList _ _ _ _ _ _
        simp only [List.drop_succ_cons, List.drop_zero]
        clear hHeld
        obtain ⟨p0, p1, p2, p3⟩ := g3.box4 2 rfl
        have f0 := g3.free 2 rfl 0
        have f1 := g3.free 2 rfl 1
        have f2 := g3.free 2 rfl 2
        have f3 := g3.free 2 rfl 3
        have q1 := (((g3.setBox 2 rfl 0 (.int .i64 p)).setBox 2 rfl 1 (.int .i64 l2)).setBox 2 rfl 2 (.int .i64 n)).setBox 2 rfl 3 (.slice A9 n9 c9)
        go_wp2_with fail
        go_meet
        exact ⟨_, _, _, _, rfl, ((((q1.rid 1).rid 3).rid 2).toFront 1 rfl)⟩
    case rest =>
    clear h4 g0
    obtain ⟨B8, A9, n9, c9, rfl, h5⟩ := hcut
    obtain ⟨x0, x1, x2, x3⟩ := h5.box4 0 rfl
    obtain ⟨z0, z1, z2, z3⟩ := h5.box4 4 rfl
    by_cases he : l2 = r
    · subst he
      obtain ⟨y0, y1, y2, y3⟩ := h5.box4 3 rfl
      have f0 := h5.free 3 rfl 0
      have f1 := h5.free 3 rfl 1
      have f2 := h5.free 3 rfl 2
      have f3 := h5.free 3 rfl 3
      have h6 := (((h5.setBox 3 rfl 0 (.int .i64 p)).setBox 3 rfl 1 (.int .i64 l2)).setBox 3 rfl 2 (.int .i64 n)).setBox 3 rfl 3 (.slice A9 n9 c9)
      obtain ⟨r0, r1, r2, r3⟩ := h6.box4 3 rfl
      go_wp2
      have hh := HR.out
      obtain ⟨a, ha⟩ := hh.1
      have hlen : (cloNext true T n p R).length = R.length := by rw [← HR2.out, ← Hl2.out, Hr.out]
      have e1 : R2 = G := by rw [HR2.out, cloNext_same hP ha hlen]; exact hh.stop hlen
      rw [← e1, ← Hl2.out]
      refine bodyPost_ret (v := .agg #[.int .i64 p, .int .i64 l2, .int .i64 n, .slice A9 n9 c9]) (by simp [results, Try.results81, go_sem, r0, r1, r2, r3]) rfl ⟨_, rfl, ((((h6.rid 5).rid 4).rid 3).rid 2).rid 0⟩
    · have e1 : ((l2 : Int) == (r : Int)) = false := by rw [beq_eq_false_iff_ne]; omega
      have e2 : ¬ ((l2 : Int) = (r : Int)) := by omega
      have f0 := h5.free 4 rfl 0
      have f1 := h5.free 4 rfl 1
      have f2 := h5.free 4 rfl 2
      have f3 := h5.free 4 rfl 3
      have h6 := (((h5.setBox 4 rfl 0 (.int .i64 p)).setBox 4 rfl 1 (.int .i64 l2)).setBox 4 rfl 2 (.int .i64 n)).setBox 4 rfl 3 (.slice A9 n9 c9)
      go_wp2
      have hnx := HR.out.next hP (by rw [← HR2.out, ← Hl2.out, ← Hr.out]; exact he)
      rw [← HR2.out] at hnx
      have hn9 : n9 = (flat n R2).length := by
        obtain ⟨A', c', he', _⟩ := h5.ownInts 1 rfl
        simp only [Value.slice.injEq] at he'
        exact he'.2.1
      subst hn9
      go_roundg (n - R2.length)
      case measure => have := hlg.out; omega
      case rel => exact ⟨R2, A9, c9, rfl, hnx.1, by rw [← Hl2.out]; exact (h6.rid 2).rid 0⟩
end
section
open Go.RowKit

/-- append of rows to rows: the new slice can be read; the rows stay where they were. -/
theorem run_append_rows (ty : Nat) {w0 w : World} {L : List It} (h : St w0 w L) (i j : Nat) {v u : Value} {us us2 : List Value} {ll ll2 : List (List Int)} (hi : L[i]? = some (rowsIt v us ll)) (hj : L[j]? = some (rowsIt u us2 ll2)) (hij : i ≠ j) (hul : us.length = ll.length) (hul2 : us2.length = ll2.length) (hlen : ll.length + ll2.length ≤ 1099511627776) :
    ∃ v' w' x, (Builtin.append_ #[70, 70] ty #[v, u]).run Try.prog w = .ok v' w' ∧ St w0 w' (L.set i x) ∧ IntRows w' v' (ll ++ ll2) := by
  obtain ⟨ti, h1, h2, h3, h4⟩ := info_parts infoR
  have hsl : Try.prog.underlying 70 = some (.slice 22) := Try.underlying70
  have hil : i < L.length := (List.getElem?_eq_some_iff.1 hi).1
  obtain ⟨hv, hvs⟩ := h.at i hi
  obtain ⟨hu, hus⟩ := h.at j hj
  by_cases hy : ll2.length = 0
  · obtain rfl : ll2 = [] := List.eq_nil_of_length_eq_zero hy
    have hr : (Builtin.append_ #[70, 70] ty #[v, u]).run Try.prog w = .ok v w := by
      have hu0 : ∃ A c, u = .slice A 0 c := by
        rcases hu.2 with ⟨rfl, _⟩ | ⟨g, cap, cur, rfl, _⟩
        · exact ⟨none, 0, rfl⟩
        · exact ⟨_, cap, rfl⟩
      obtain ⟨A, c, rfl⟩ := hu0
      have hi' : Try.prog.info? 22 = some ti := h1
      rcases hv.2 with ⟨rfl, h0⟩ | ⟨g, cap, cur, rfl, _, _, hnc, _⟩
      · obtain rfl : ll = [] := List.eq_nil_of_length_eq_zero h0
        cases A <;> simp [Builtin.append_, run_underlying hsl, sizeOf, typeInfo, hi', Builtin.lenOf, Builtin.firstCells, loadCells, loadCellsFrom]
      · cases A <;> simp [Builtin.append_, run_underlying hsl, sizeOf, typeInfo, hi', Builtin.lenOf, Builtin.firstCells, hnc, storeCells, loadCells, loadCellsFrom]
    refine ⟨v, w, rowsIt v us ll, hr, ?_, by rw [List.append_nil]; exact h.rowsR i hi hul⟩
    rw [← (List.getElem?_eq_some_iff.1 hi).2, List.set_getElem_self]
    exact h
  · rcases id hu.2 with ⟨_, h0⟩ | ⟨g, cap, cur, rfl, _⟩
    · exact absurd h0 hy
    · obtain ⟨v', w', hr, k1, k2, _, k4⟩ := run_append_own_at (P := Try.prog) w w0.heap.size 70 ty 22 ti (.slice none 0 0) 1 24 hsl h1 h2 h3 h4 rfl (by decide) v ll.length us hv ⟨g, 0, none⟩ ll2.length cap us2 (by rw [hul2]; omega)
        (fun k x hk => by rw [add_zero_spot, Nat.zero_add]; exact h.vecCell j hj k hk) (fun x hx => by
          obtain ⟨k, hk⟩ := List.getElem?_of_mem hx
          have hkl := (List.getElem?_eq_some_iff.1 hk).1
          exact (hus (x, ll2[k]'(by omega)) (List.mem_of_getElem? (zip_get hk (List.getElem?_eq_getElem _)))).one) (by simp only [maxLen]; omega) (by omega) h.size
      have hst := h.updVec i hi k2 (fun b hb => by
        rcases k4 with e | e
        · exact .inl (by rw [← e]; exact hb)
        · right
          rw [e] at hb
          simp only [Option.some.injEq] at hb
          omega) k1
      refine ⟨v', w', _, hr, hst, ?_⟩
      have hj' : (L.set i (.vec v' 22 1 (ll.length + ll2.length) (us ++ us2) (us.zip ll)))[j]? = some (rowsIt (.slice (some ⟨g, 0, none⟩) ll2.length cap) us2 ll2) := by
        rw [List.getElem?_set_ne hij]; exact hj
      have hi' : (L.set i (.vec v' 22 1 (ll.length + ll2.length) (us ++ us2) (us.zip ll)))[i]? = some (.vec v' 22 1 (ll.length + ll2.length) (us ++ us2) (us.zip ll)) := by
        rw [List.getElem?_set_self hil]
      have a1 := hst.at i hi'
      have a2 := hst.at j hj'
      refine It.rows (B := w0.heap.size) (us := us ++ us2) ⟨by rw [List.length_append]; exact a1.1, fun s hs => ?_⟩ (by rw [List.length_append, List.length_append, hul, hul2])
      rw [List.zip_append hul] at hs
      rcases List.mem_append.1 hs with hs | hs
      · exact a1.2 s hs
      · exact a2.2 s hs
theorem step_append_rows {ops : Array Oper} {o : Oper} {a : Act} {K : Act → World → Prop} {Q : Exit → Act → World → Prop} {E : Prop} (hgd : o.guard = none) (s x : Operand)
    (ho : o.op = .call { callee := .builtin .append, args := #[s, x], argTypes := #[70, 70] }) {w0 w : World} {L : List It} (h : St w0 w L) (i j : Nat) {v u : Value} {us us2 : List Value} {ll ll2 : List (List Int)} (hi : L[i]? = some (rowsIt v us ll)) (hj : L[j]? = some (rowsIt u us2 ll2)) (hij : i ≠ j) (hul : us.length = ll.length) (hul2 : us2.length = ll2.length) (hlen : ll.length + ll2.length ≤ 1099511627776)
    (hs : a.eval s = v) (hx : a.eval x = u)
    (hk : ∀ v' w' y, St w0 w' (L.set i y) → IntRows w' v' (ll ++ ll2) → K (a.put o.dst v') w') :
    if Region.wanted o (yielded ops a.tmps) = true then Oper.wp Try.prog o a w K Q else E := by
  have hw : Region.wanted o (yielded ops a.tmps) = true := by simp [Region.wanted, hgd]
  rw [if_pos hw]
  obtain ⟨v', w', y, hr, k1, k2⟩ := run_append_rows o.type h i j hi hj hij hul hul2 hlen
  unfold Oper.wp execOp
  simp only [ho, resolve, invoke, builtin, Sem.run_bind, Sem.run_pure, Result.andThen_ok, List.map_toArray, List.map_cons, List.map_nil, hs, hx, hr]
  exact hk _ _ y k1 k2
theorem wp_append_rows {ops : Array Oper} {rest : List Oper} {o : Oper} {a : Act} {Q : Exit → Act → World → Prop} (hgd : o.guard = none) (s x : Operand)
    (ho : o.op = .call { callee := .builtin .append, args := #[s, x], argTypes := #[70, 70] }) {w0 w : World} {L : List It} (h : St w0 w L) (i j : Nat) {v u : Value} {us us2 : List Value} {ll ll2 : List (List Int)} (hi : L[i]? = some (rowsIt v us ll)) (hj : L[j]? = some (rowsIt u us2 ll2)) (hij : i ≠ j) (hul : us.length = ll.length) (hul2 : us2.length = ll2.length) (hlen : ll.length + ll2.length ≤ 1099511627776)
    (hs : a.eval s = v) (hx : a.eval x = u)
    (hk : ∀ v' w' y, St w0 w' (L.set i y) → IntRows w' v' (ll ++ ll2) → wpList Try.prog ops Q rest (a.put o.dst v') w') : wpList Try.prog ops Q (o :: rest) a w := by
  refine wpList_plain hgd fun K hK => ?_
  obtain ⟨v', w', y, hr, k1, k2⟩ := run_append_rows o.type h i j hi hj hij hul hul2 hlen
  unfold Oper.wp execOp
  simp only [ho, resolve, invoke, builtin, Sem.run_bind, Sem.run_pure, Result.andThen_ok, List.map_toArray, List.map_cons, List.map_nil, hs, hx, hr]
  exact hK _ _ (hk v' w' y k1 k2)

/-- A space of the call's own. -/
theorem join_rows {p : Int} (_hP : isPrime p = true) {n : Nat} {k : Bool} {T : List Int} {R : List (List Int)} : spanL p n (R ++ stepS k T n p R) = cloNext k T n p R := rfl

set_option maxHeartbeats 8000000 in
theorem closed0_st {w0 w : World} {L : List It} (p : Int) (n k : Nat) (v t : Value) (T : List Int) (R0 : List (List Int)) (h : St w0 w (.own v (flat n R0) :: L)) (hk : L[k]? = some (.ro t T)) (hT : T.length = n * n * n) (hn : n ≤ 28) (hP : isPrime p = true) (rT : resid p T = true) (hAn : AntiT p n T) {a0 : List Nat} (hR0 : Rf p n R0 a0) :
    Calls Try.prog 83 #[.agg #[.int .i64 p, .int .i64 n, t], .agg #[.int .i64 p, .int .i64 R0.length, .int .i64 n, v], .bool false] w
      fun e w' => ∃ u, e = .returned (.agg #[.int .i64 p, .int .i64 (cloL false T n p R0).length, .int .i64 n, u]) ∧ St w0 w' (.own u (flat n (cloL false T n p R0)) :: L) := by
  have b1 := (isPrime_bd hP).1
  have hs := CloRun.start (k := false) (T := T) hP hR0
  obtain ⟨G, hG⟩ : ∃ G, G = cloL false T n p R0 := ⟨_, rfl⟩
  rw [← hG] at hs ⊢
  obtain ⟨A, c0, rfl, _, _, _⟩ := id (h.ro (k + 1) (by simpa using hk)).ints
  obtain ⟨A1, c1, rfl, _, _, _⟩ := id (h.ownInts 0 rfl)
  have h1 := (((h.box [.int .i64 p, .int .i64 n, .slice A T.length c0] 76).box [.int .i64 p, .int .i64 R0.length, .int .i64 n, .slice A1 (flat n R0).length c1] 32).box [.int .i64 0, .int .i64 0, .int .i64 0, .slice none 0 0] 32).toFront 3 rfl
  simp only [World.size_alloc] at h1
  change St w0 _ (.own (.slice A1 (flat n R0).length c1) (flat n R0) :: .box (w.heap.size + 1 + 1) _ :: .box (w.heap.size + 1) _ :: .box w.heap.size _ :: L) at h1
  have HS : Hid (CloRun false T n p R0 G) := hs
  have HT := Lib.hid hT
  have HAn := Lib.hid hAn
  clear h hs hG hT hR0 hAn
  go_enter Try.func83, Try.ntmps83
  go_wp2
  go_loopg [] (n - R0.length) (fun gk wr => ∃ (R : List (List Int)) (Ad : Option Addr) (cd : Nat), Hid (n - R.length = gk) ∧ Hid (CloRun false T n p R G) ∧ St w0 wr (.own (.slice Ad (flat n R).length cd) (flat n R) :: .box (w.heap.size + 1 + 1) [.int .i64 0, .int .i64 0, .int .i64 0, .slice none 0 0] :: .box (w.heap.size + 1) [.int .i64 p, .int .i64 R.length, .int .i64 n, .slice Ad (flat n R).length cd] :: .box w.heap.size [.int .i64 p, .int .i64 n, .slice A T.length c0] :: L))
  case atStart => exact ⟨R0, A1, c1, rfl, HS, h1⟩
  case round =>
    clear h1 HS
    obtain ⟨R, Ad, cd, hlg, HR, h1⟩ := hrel
    obtain ⟨a, ha⟩ := HR.out.1
    have hRn := rf_le_n b1 ha
    have hRW := ha.wf
    have hle := cloNext_le (k := false) (T := T) hP ha
    obtain ⟨b, hb⟩ := cloNext_rf (k := false) (T := T) hP hRW
    have hN := rf_le_n b1 hb
    have hSW : Wf p n (stepS false T n p R) := Wf.stepS hP R
    have hSl : (stepS false T n p R).length ≤ n := rf_le_n b1 (spanL_rf hP (Wf_stepArg false T n b1 R))
    have hRfl := rowsM_flat hRW
    have hSfl := rowsM_flat hSW
    obtain ⟨S1, hS1⟩ : ∃ S1, S1 = stepS false T n p R := ⟨_, rfl⟩
    obtain ⟨R2, hR2⟩ : ∃ R2, R2 = cloNext false T n p R := ⟨_, rfl⟩
    have hst : R2 = spanL p n (R ++ S1) := by rw [hR2, hS1]; rfl
    rw [← hS1] at hSW hSl hSfl
    rw [← hR2] at hle hN
    obtain ⟨l1, hl1⟩ : ∃ l1, l1 = S1.length := ⟨_, rfl⟩
    obtain ⟨l2, hl2⟩ : ∃ l2, l2 = R2.length := ⟨_, rfl⟩
    obtain ⟨D, hD⟩ : ∃ D, D = flat n R := ⟨_, rfl⟩
    obtain ⟨r, hr⟩ : ∃ r, r = R.length := ⟨_, rfl⟩
    have hnn := mul_le hn hn
    have hrn := mul_le (show R.length ≤ 28 by omega) hn
    have hsn := mul_le (show S1.length ≤ 28 by omega) hn
    have HP := Lib.hid (show ∀ (W : World) (v1 v2 v3 : Value), Ints W v1 T → Ints W v2 D → Ints W v3 D → Calls Try.prog 90 #[.agg #[.int .i64 p, .int .i64 n, v1], .agg #[.int .i64 p, .int .i64 r, .int .i64 n, v2], .agg #[.int .i64 p, .int .i64 r, .int .i64 n, v3]] W (RetMat W p l1 n (flat n S1)) from fun W v1 v2 v3 x1 x2 x3 => by
      rw [hD] at x2 x3
      have := product_any p p p n R.length R.length v1 v2 v3 T (flat n R) (flat n R) W x1 x2 x3 HT.out (length_flat n R) (length_flat n R) hn (by omega) (by omega) hP rT (resid_flat (by omega) hRW) (resid_flat (by omega) hRW)
      rw [hl1, hS1, hr]
      exact this)
    have C1 := Lib.hid (show ∀ (W : World) (v1 : Value), Ints W v1 D → Calls Try.prog 73 #[.agg #[.int .i64 p, .int .i64 r, .int .i64 n, v1]] W (RetLL W R) from fun W v1 x1 => by
      rw [hD] at x1
      have := rowsOf_any p R.length n v1 (flat n R) W x1 (length_flat n R) (by omega) (by omega)
      rw [hRfl] at this
      rw [hr]
      exact this)
    have C2 := Lib.hid (show ∀ (W : World) (v1 : Value), Ints W v1 (flat n S1) → Calls Try.prog 73 #[.agg #[.int .i64 p, .int .i64 l1, .int .i64 n, v1]] W (RetLL W S1) from fun W v1 x1 => by
      have := rowsOf_any p S1.length n v1 (flat n S1) W x1 (length_flat n S1) (by omega) (by omega)
      rw [hSfl] at this
      rw [hl1]
      exact this)
    have C3 := Lib.hid (show ∀ (W : World) (v1 : Value), IntRows W v1 (R ++ S1) → Calls Try.prog 137 #[.agg #[.int .i64 p, .int .i64 n, .slice A T.length c0], v1] W (RetMat W p l2 n (flat n R2)) from fun W v1 x1 => by
      rw [hl2, hst]
      exact space_any p n A T.length c0 v1 (R ++ S1) W x1 (hRW.app hSW) (by rw [List.length_append, Nat.add_mul]; omega) (by rw [List.length_append]; omega) (by omega) hP)
    have HLen := Lib.hid (show R.length + S1.length ≤ 1099511627776 by omega)
    rw [← hD, ← hr] at h1
    have Hr := Lib.hid hr
    have HD := Lib.hid hD
    have HR2 := Lib.hid hR2
    have Hl2 := Lib.hid hl2
    have HLe := Lib.hid (show R.length ≤ R2.length from hle)
    have HN := Lib.hid hN
    clear ha hRW hb hSW hS1 hst hl1 hl2 hD hr hR2 hle hN a b hRfl hSfl
    obtain ⟨v0, v1, v2, v3⟩ := h1.box4 2 rfl
    have h2 := h1.box [.int .i64 p, .int .i64 r, .int .i64 n, .slice Ad D.length cd] 32
    go_upto_region 4 with fail
    clear v0 v1 v2 v3 h1
    generalize hBt : wr.heap.size = Bt at h2 ⊢
    clear hBt
    have g0 := h2.drew
    go_cut [8] (fun s8 wx => ∃ (B8 : Nat) (A9 : Option Addr) (n9 c9 : Nat), s8 = .pointer (some ⟨B8, 0, none⟩) ∧ St w0 wx (.box B8 [.int .i64 p, .int .i64 l2, .int .i64 n, .slice A9 n9 c9] :: .own (.slice A9 n9 c9) (flat n R2) :: .own (.slice Ad D.length cd) D :: .box (w.heap.size + 1 + 1) [.int .i64 0, .int .i64 0, .int .i64 0, .slice none 0 0] :: .box (w.heap.size + 1) [.int .i64 p, .int .i64 r, .int .i64 n, .slice Ad D.length cd] :: .box w.heap.size [.int .i64 p, .int .i64 n, .slice A T.length c0] :: L))
    case first =>
      refine wp_region_cut (S := fun w' => (w'.cell? ⟨Bt, 0, none⟩ = some (.int .i64 p) ∧ w'.cell? ⟨Bt, 1, none⟩ = some (.int .i64 r) ∧ w'.cell? ⟨Bt, 2, none⟩ = some (.int .i64 n) ∧ w'.cell? ⟨Bt, 3, none⟩ = some (.slice Ad D.length cd)) ∧ (w'.cell? ⟨w.heap.size + 1, 0, none⟩ = some (.int .i64 p) ∧ w'.cell? ⟨w.heap.size + 1, 1, none⟩ = some (.int .i64 r) ∧ w'.cell? ⟨w.heap.size + 1, 2, none⟩ = some (.int .i64 n) ∧ w'.cell? ⟨w.heap.size + 1, 3, none⟩ = some (.slice Ad D.length cd)) ∧ w'.cell? ⟨w.heap.size, 0, none⟩ = some (.int .i64 p) ∧ w'.cell? ⟨w.heap.size, 1, none⟩ = some (.int .i64 n) ∧ w'.cell? ⟨w.heap.size, 2, none⟩ = some (.slice A T.length c0)) 11 (by kernel_rfl) (by kernel_rfl) ⟨g0.box4 0 rfl, g0.box4 3 rfl, g0.box3 4 rfl⟩ (fun hHeld => ?_)
      simp only [List.take_succ_cons, List.take_zero]
      generalize hv0 : World.drew _ = v0 at g0 hHeld ⊢
      clear hv0 h2
      refine anyH_take (v := ?_) 0 rfl (by kernel_rfl) (by kernel_rfl) (by kernel_rfl) (fun _ _ _ h => h) rfl ?_ hHeld ?_
      rotate_left
      · intro w' hSw
        go_simp
        try with_reducible rfl
      try simp only [Act.put, List.setIfInBounds_toArray, List.set_cons_zero, List.set_cons_succ]
      refine anyH_take (v := ?_) 1 rfl (by kernel_rfl) (by kernel_rfl) (by kernel_rfl) (fun _ _ _ h => h) rfl ?_ hHeld ?_
      rotate_left
      · intro w' hSw
        go_simp
        try with_reducible rfl
      try simp only [Act.put, List.setIfInBounds_toArray, List.set_cons_zero, List.set_cons_succ]
      refine anyH_take (v := ?_) 3 rfl (by kernel_rfl) (by kernel_rfl) (by kernel_rfl) (fun _ _ _ h => h) rfl ?_ hHeld ?_
      rotate_left
      · intro w' hSw
        go_simp
        try with_reducible rfl
      try simp only [Act.put, List.setIfInBounds_toArray, List.set_cons_zero, List.set_cons_succ]
      refine anyH_take (v := ?_) 4 rfl (by kernel_rfl) (by kernel_rfl) (by kernel_rfl) (fun _ _ _ h => h) rfl ?_ hHeld ?_
      rotate_left
      · intro w' hSw
        go_simp
        try with_reducible rfl
      try simp only [Act.put, List.setIfInBounds_toArray, List.set_cons_zero, List.set_cons_succ]
      refine anyH_take (v := ?_) 5 rfl (by kernel_rfl) (by kernel_rfl) (by kernel_rfl) (fun _ _ _ h => h) rfl ?_ hHeld ?_
      rotate_left
      · intro w' hSw
        go_simp
        try with_reducible rfl
      try simp only [Act.put, List.setIfInBounds_toArray, List.set_cons_zero, List.set_cons_succ]
      refine wpAnyH_ready (rs := [2, 10]) (by kernel_rfl) (by simp) ?_
      refine ready_cons rfl (fun K hK => ?_) (ready_cons rfl (fun K hK => ?_) AllReadyH.nil)
      · go_simp
        refine (C1.out _ _ (g0.ownInts 1 rfl)).mono ?_
        rintro (e : Ending) v1 ⟨u1, us1, rfl, hul1, hok1, hnd1, hb1⟩
        have g1 := g0.pushRows hb1 hok1 hnd1
        have hulR1 := hul1
        show K _ _
        refine hK.out _ _ ?_ (fun hHeld => ?_)
        · exact ⟨g1.box4 1 rfl, g1.box4 4 rfl, g1.box3 5 rfl⟩
        clear hK K
        try simp only [Act.put, List.setIfInBounds_toArray, List.set_cons_zero, List.set_cons_succ]
        refine wpAnyH_ready (rs := [6, 10]) (by kernel_rfl) (by simp) ?_
        refine ready_cons rfl (fun K hK => ?_) (ready_cons rfl (fun K hK => ?_) AllReadyH.nil)
        · go_simp
          refine (HP.out _ _ _ _ (g1.ro (k + 6) (by simpa using hk)).ints (g1.ownInts 2 rfl) (g1.ownInts 2 rfl)).mono ?_
          rintro (e : Ending) v2 ⟨u2, rfl, ho2, hb2⟩
          obtain ⟨B2, m2, d2, rfl⟩ := ho2.slice
          have g2 := g1.pushOwn hb2 ho2
          show K _ _
          refine hK.out _ _ ?_ (fun hHeld => ?_)
          · exact ⟨g2.box4 2 rfl, g2.box4 5 rfl, g2.box3 6 rfl⟩
          clear hK K
          try simp only [Act.put, List.setIfInBounds_toArray, List.set_cons_zero, List.set_cons_succ]
          refine wpAnyH_ready (rs := [7, 10]) (by kernel_rfl) (by simp) ?_
          refine ready_cons rfl (fun K hK => ?_) (ready_cons rfl (fun K hK => ?_) AllReadyH.nil)
          · go_simp
            refine (C2.out _ _ (g2.ownInts 0 rfl)).mono ?_
            rintro (e : Ending) v3 ⟨u3, us3, rfl, hul3, hok3, hnd3, hb3⟩
            have g3 := g2.pushRows hb3 hok3 hnd3
            have hulR2 := hul3
            show K _ _
            refine hK.out _ _ ?_ (fun hHeld => ?_)
            · exact ⟨g3.box4 3 rfl, g3.box4 6 rfl, g3.box3 7 rfl⟩
            clear hK K
            try simp only [Act.put, List.setIfInBounds_toArray, List.set_cons_zero, List.set_cons_succ]
            refine wpAnyH_ready (rs := [8, 10]) (by kernel_rfl) (by simp) ?_
            refine ready_cons rfl (fun K hK => ?_) (ready_cons rfl (fun K hK => ?_) AllReadyH.nil)
            · refine step_append_rows rfl (.tmp 18) (.tmp 23) rfl g3 2 0 rfl rfl (by decide) hulR1 hulR2 HLen.out rfl rfl fun vA v4 yy g4 hAR => ?_
              simp only [List.set_cons_zero, List.set_cons_succ] at g4
              refine hK.out _ _ ?_ (fun hHeld => ?_)
              · exact ⟨g4.box4 3 rfl, g4.box4 6 rfl, g4.box3 7 rfl⟩
              clear hK K
              try simp only [Act.put, List.setIfInBounds_toArray, List.set_cons_zero, List.set_cons_succ]
              refine wpAnyH_ready (rs := [9, 10]) (by kernel_rfl) (by simp) ?_
              refine ready_cons rfl (fun K hK => ?_) (ready_cons rfl (fun K hK => ?_) AllReadyH.nil)
              · go_simp
                refine (C3.out _ _ hAR).mono ?_
                rintro (e : Ending) v5 ⟨u5, rfl, ho5, hb5⟩
                obtain ⟨A9, n9, c9, rfl⟩ := ho5.slice
                have g5 := g4.pushOwn hb5 ho5
                show K _ _
                refine hK.out _ _ ?_ (fun hHeld => ?_)
                · exact ⟨g5.box4 4 rfl, g5.box4 7 rfl, g5.box3 8 rfl⟩
                clear hK K
                try simp only [Act.put, List.setIfInBounds_toArray, List.set_cons_zero, List.set_cons_succ]
                refine wpAnyH_ready (rs := [10]) (by kernel_rfl) (by simp) ?_
                refine ready_cons rfl (fun K hK => ?_) AllReadyH.nil
                go_simp
                have g6 := g5.box [.int .i64 0, .int .i64 0, .int .i64 0, .slice none 0 0] 32
                refine hK.out _ _ ?_ (fun hHeld => ?_)
                · exact ⟨g6.box4 5 rfl, g6.box4 8 rfl, g6.box3 9 rfl⟩
                clear hK K
                generalize World.alloc v5 (.cells #[.int .i64 0, .int .i64 0, .int .i64 0, .slice none 0 0] 32) = v6 at g6 hHeld ⊢
                try simp only [Act.put, List.setIfInBounds_toArray, List.set_cons_zero, List.set_cons_succ]
                refine wpAnyH_done (by kernel_rfl) ?_ _
                show wpList _ _ _ _ _ _
                simp only [List.drop_succ_cons, List.drop_zero]
                clear hHeld
                obtain ⟨p0, p1, p2, p3⟩ := g6.box4 0 rfl
                have f0 := g6.free 0 rfl 0
                have f1 := g6.free 0 rfl 1
                have f2 := g6.free 0 rfl 2
                have f3 := g6.free 0 rfl 3
                have q1 := (((g6.setBox 0 rfl 0 (.int .i64 p)).setBox 0 rfl 1 (.int .i64 l2)).setBox 0 rfl 2 (.int .i64 n)).setBox 0 rfl 3 (.slice A9 n9 c9)
                go_wp2_with fail
                go_meet
                exact ⟨_, _, _, _, rfl, ((((((q1.rid 3).rid 4).rid 2).rid 2).toFront 1 rfl).toFront 1 rfl)⟩
              · go_simp
                have g5 := g4.box [.int .i64 0, .int .i64 0, .int .i64 0, .slice none 0 0] 32
                refine hK.out _ _ ?_ (fun hHeld => ?_)
                · exact ⟨g5.box4 4 rfl, g5.box4 7 rfl, g5.box3 8 rfl⟩
                clear hK K
                replace hAR := hAR.keep fun q hq => (((Below.refl _ _).alloc (Nat.le_refl _) (.cells #[.int .i64 0, .int .i64 0, .int .i64 0, .slice none 0 0] 32)).cell hq : (World.alloc v4 (.cells #[.int .i64 0, .int .i64 0, .int .i64 0, .slice none 0 0] 32)).cell? q = _)
                generalize World.alloc v4 (.cells #[.int .i64 0, .int .i64 0, .int .i64 0, .slice none 0 0] 32) = v5 at g5 hHeld hAR ⊢
                try simp only [Act.put, List.setIfInBounds_toArray, List.set_cons_zero, List.set_cons_succ]
                refine wpAnyH_ready (rs := [9]) (by kernel_rfl) (by simp) ?_
                refine ready_cons rfl (fun K hK => ?_) AllReadyH.nil
                go_simp
                refine (C3.out _ _ hAR).mono ?_
                rintro (e : Ending) v6 ⟨u6, rfl, ho6, hb6⟩
                obtain ⟨A9, n9, c9, rfl⟩ := ho6.slice
                have g6 := g5.pushOwn hb6 ho6
                show K _ _
                refine hK.out _ _ ?_ (fun hHeld => ?_)
                · exact ⟨g6.box4 5 rfl, g6.box4 8 rfl, g6.box3 9 rfl⟩
                clear hK K
                try simp only [Act.put, List.setIfInBounds_toArray, List.set_cons_zero, List.set_cons_succ]
                refine wpAnyH_done (by kernel_rfl) ?_ _
                show wpList _ _ _ _ _ _
                simp only [List.drop_succ_cons, List.drop_zero]
                clear hHeld
                obtain ⟨p0, p1, p2, p3⟩ := g6.box4 1 rfl
                have f0 := g6.free 1 rfl 0
                have f1 := g6.free 1 rfl 1
                have f2 := g6.free 1 rfl 2
                have f3 := g6.free 1 rfl 3
                have q1 := (((g6.setBox 1 rfl 0 (.int .i64 p)).setBox 1 rfl 1 (.int .i64 l2)).setBox 1 rfl 2 (.int .i64 n)).setBox 1 rfl 3 (.slice A9 n9 c9)
                go_wp2_with fail
                go_meet
                exact ⟨_, _, _, _, rfl, (((((q1.rid 3).rid 4).rid 2).rid 2).toFront 1 rfl)⟩
            · go_simp
              have g4 := g3.box [.int .i64 0, .int .i64 0, .int .i64 0, .slice none 0 0] 32
              refine hK.out _ _ ?_ (fun hHeld => ?_)
              · exact ⟨g4.box4 4 rfl, g4.box4 7 rfl, g4.box3 8 rfl⟩
              clear hK K
              generalize World.alloc v3 (.cells #[.int .i64 0, .int .i64 0, .int .i64 0, .slice none 0 0] 32) = v4 at g4 hHeld ⊢
              try simp only [Act.put, List.setIfInBounds_toArray, List.set_cons_zero, List.set_cons_succ]
              refine wpAnyH_ready (rs := [8]) (by kernel_rfl) (by simp) ?_
              refine ready_cons rfl (fun K hK => ?_) AllReadyH.nil
              refine step_append_rows rfl (.tmp 18) (.tmp 23) rfl g4 3 1 rfl rfl (by decide) hulR1 hulR2 HLen.out rfl rfl fun vA v5 yy g5 hAR => ?_
              simp only [List.set_cons_zero, List.set_cons_succ] at g5
              refine hK.out _ _ ?_ (fun hHeld => ?_)
              · exact ⟨g5.box4 4 rfl, g5.box4 7 rfl, g5.box3 8 rfl⟩
              clear hK K
              try simp only [Act.put, List.setIfInBounds_toArray, List.set_cons_zero, List.set_cons_succ]
              refine wpAnyH_ready (rs := [9]) (by kernel_rfl) (by simp) ?_
              refine ready_cons rfl (fun K hK => ?_) AllReadyH.nil
              go_simp
              refine (C3.out _ _ hAR).mono ?_
              rintro (e : Ending) v6 ⟨u6, rfl, ho6, hb6⟩
              obtain ⟨A9, n9, c9, rfl⟩ := ho6.slice
              have g6 := g5.pushOwn hb6 ho6
              show K _ _
              refine hK.out _ _ ?_ (fun hHeld => ?_)
              · exact ⟨g6.box4 5 rfl, g6.box4 8 rfl, g6.box3 9 rfl⟩
              clear hK K
              try simp only [Act.put, List.setIfInBounds_toArray, List.set_cons_zero, List.set_cons_succ]
              refine wpAnyH_done (by kernel_rfl) ?_ _
              show wpList _ _ _ _ _ _
              simp only [List.drop_succ_cons, List.drop_zero]
              clear hHeld
              obtain ⟨p0, p1, p2, p3⟩ := g6.box4 1 rfl
              have f0 := g6.free 1 rfl 0
              have f1 := g6.free 1 rfl 1
              have f2 := g6.free 1 rfl 2
              have f3 := g6.free 1 rfl 3
              have q1 := (((g6.setBox 1 rfl 0 (.int .i64 p)).setBox 1 rfl 1 (.int .i64 l2)).setBox 1 rfl 2 (.int .i64 n)).setBox 1 rfl 3 (.slice A9 n9 c9)
              go_wp2_with fail
              go_meet
              exact ⟨_, _, _, _, rfl, (((((q1.rid 3).rid 4).rid 2).rid 2).toFront 1 rfl)⟩
          · go_simp
            have g3 := g2.box [.int .i64 0, .int .i64 0, .int .i64 0, .slice none 0 0] 32
            refine hK.out _ _ ?_ (fun hHeld => ?_)
            · exact ⟨g3.box4 3 rfl, g3.box4 6 rfl, g3.box3 7 rfl⟩
            clear hK K
            generalize World.alloc v2 (.cells #[.int .i64 0, .int .i64 0, .int .i64 0, .slice none 0 0] 32) = v3 at g3 hHeld ⊢
            try simp only [Act.put, List.setIfInBounds_toArray, List.set_cons_zero, List.set_cons_succ]
            refine wpAnyH_ready (rs := [7]) (by kernel_rfl) (by simp) ?_
            refine ready_cons rfl (fun K hK => ?_) AllReadyH.nil
            go_simp
            refine (C2.out _ _ (g3.ownInts 1 rfl)).mono ?_
            rintro (e : Ending) v4 ⟨u4, us4, rfl, hul4, hok4, hnd4, hb4⟩
            have g4 := g3.pushRows hb4 hok4 hnd4
            have hulR2 := hul4
            show K _ _
            refine hK.out _ _ ?_ (fun hHeld => ?_)
            · exact ⟨g4.box4 4 rfl, g4.box4 7 rfl, g4.box3 8 rfl⟩
            clear hK K
            try simp only [Act.put, List.setIfInBounds_toArray, List.set_cons_zero, List.set_cons_succ]
            refine wpAnyH_ready (rs := [8]) (by kernel_rfl) (by simp) ?_
            refine ready_cons rfl (fun K hK => ?_) AllReadyH.nil
            refine step_append_rows rfl (.tmp 18) (.tmp 23) rfl g4 3 0 rfl rfl (by decide) hulR1 hulR2 HLen.out rfl rfl fun vA v5 yy g5 hAR => ?_
            simp only [List.set_cons_zero, List.set_cons_succ] at g5
            refine hK.out _ _ ?_ (fun hHeld => ?_)
            · exact ⟨g5.box4 4 rfl, g5.box4 7 rfl, g5.box3 8 rfl⟩
            clear hK K
            try simp only [Act.put, List.setIfInBounds_toArray, List.set_cons_zero, List.set_cons_succ]
            refine wpAnyH_ready (rs := [9]) (by kernel_rfl) (by simp) ?_
            refine ready_cons rfl (fun K hK => ?_) AllReadyH.nil
            go_simp
            refine (C3.out _ _ hAR).mono ?_
            rintro (e : Ending) v6 ⟨u6, rfl, ho6, hb6⟩
            obtain ⟨A9, n9, c9, rfl⟩ := ho6.slice
            have g6 := g5.pushOwn hb6 ho6
            show K _ _
            refine hK.out _ _ ?_ (fun hHeld => ?_)
            · exact ⟨g6.box4 5 rfl, g6.box4 8 rfl, g6.box3 9 rfl⟩
            clear hK K
            try simp only [Act.put, List.setIfInBounds_toArray, List.set_cons_zero, List.set_cons_succ]
            refine wpAnyH_done (by kernel_rfl) ?_ _
            show wpList _ _ _ _ _ _
            simp only [List.drop_succ_cons, List.drop_zero]
            clear hHeld
            obtain ⟨p0, p1, p2, p3⟩ := g6.box4 2 rfl
            have f0 := g6.free 2 rfl 0
            have f1 := g6.free 2 rfl 1
            have f2 := g6.free 2 rfl 2
            have f3 := g6.free 2 rfl 3
            have q1 := (((g6.setBox 2 rfl 0 (.int .i64 p)).setBox 2 rfl 1 (.int .i64 l2)).setBox 2 rfl 2 (.int .i64 n)).setBox 2 rfl 3 (.slice A9 n9 c9)
            go_wp2_with fail
            go_meet
            exact ⟨_, _, _, _, rfl, (((((q1.rid 3).rid 4).rid 1).rid 2).toFront 1 rfl)⟩
        · go_simp
          have g2 := g1.box [.int .i64 0, .int .i64 0, .int .i64 0, .slice none 0 0] 32
          refine hK.out _ _ ?_ (fun hHeld => ?_)
          · exact ⟨g2.box4 2 rfl, g2.box4 5 rfl, g2.box3 6 rfl⟩
          clear hK K
          generalize World.alloc v1 (.cells #[.int .i64 0, .int .i64 0, .int .i64 0, .slice none 0 0] 32) = v2 at g2 hHeld ⊢
          try simp only [Act.put, List.setIfInBounds_toArray, List.set_cons_zero, List.set_cons_succ]
          refine wpAnyH_ready (rs := [6]) (by kernel_rfl) (by simp) ?_
          refine ready_cons rfl (fun K hK => ?_) AllReadyH.nil
          go_simp
          refine (HP.out _ _ _ _ (g2.ro (k + 7) (by simpa using hk)).ints (g2.ownInts 3 rfl) (g2.ownInts 3 rfl)).mono ?_
          rintro (e : Ending) v3 ⟨u3, rfl, ho3, hb3⟩
          obtain ⟨B3, m3, d3, rfl⟩ := ho3.slice
          have g3 := g2.pushOwn hb3 ho3
          show K _ _
          refine hK.out _ _ ?_ (fun hHeld => ?_)
          · exact ⟨g3.box4 3 rfl, g3.box4 6 rfl, g3.box3 7 rfl⟩
          clear hK K
          try simp only [Act.put, List.setIfInBounds_toArray, List.set_cons_zero, List.set_cons_succ]
          refine wpAnyH_ready (rs := [7]) (by kernel_rfl) (by simp) ?_
          refine ready_cons rfl (fun K hK => ?_) AllReadyH.nil
          go_simp
          refine (C2.out _ _ (g3.ownInts 0 rfl)).mono ?_
          rintro (e : Ending) v4 ⟨u4, us4, rfl, hul4, hok4, hnd4, hb4⟩
          have g4 := g3.pushRows hb4 hok4 hnd4
          have hulR2 := hul4
          show K _ _
          refine hK.out _ _ ?_ (fun hHeld => ?_)
          · exact ⟨g4.box4 4 rfl, g4.box4 7 rfl, g4.box3 8 rfl⟩
          clear hK K
          try simp only [Act.put, List.setIfInBounds_toArray, List.set_cons_zero, List.set_cons_succ]
          refine wpAnyH_ready (rs := [8]) (by kernel_rfl) (by simp) ?_
          refine ready_cons rfl (fun K hK => ?_) AllReadyH.nil
          refine step_append_rows rfl (.tmp 18) (.tmp 23) rfl g4 3 0 rfl rfl (by decide) hulR1 hulR2 HLen.out rfl rfl fun vA v5 yy g5 hAR => ?_
          simp only [List.set_cons_zero, List.set_cons_succ] at g5
          refine hK.out _ _ ?_ (fun hHeld => ?_)
          · exact ⟨g5.box4 4 rfl, g5.box4 7 rfl, g5.box3 8 rfl⟩
          clear hK K
          try simp only [Act.put, List.setIfInBounds_toArray, List.set_cons_zero, List.set_cons_succ]
          refine wpAnyH_ready (rs := [9]) (by kernel_rfl) (by simp) ?_
          refine ready_cons rfl (fun K hK => ?_) AllReadyH.nil
          go_simp
          refine (C3.out _ _ hAR).mono ?_
          rintro (e : Ending) v6 ⟨u6, rfl, ho6, hb6⟩
          obtain ⟨A9, n9, c9, rfl⟩ := ho6.slice
          have g6 := g5.pushOwn hb6 ho6
          show K _ _
          refine hK.out _ _ ?_ (fun hHeld => ?_)
          · exact ⟨g6.box4 5 rfl, g6.box4 8 rfl, g6.box3 9 rfl⟩
          clear hK K
          try simp only [Act.put, List.setIfInBounds_toArray, List.set_cons_zero, List.set_cons_succ]
          refine wpAnyH_done (by kernel_rfl) ?_ _
          show wpList _ _ _ _ _ _
          simp only [List.drop_succ_cons, List.drop_zero]
          clear hHeld
          obtain ⟨p0, p1, p2, p3⟩ := g6.box4 3 rfl
          have f0 := g6.free 3 rfl 0
          have f1 := g6.free 3 rfl 1
          have f2 := g6.free 3 rfl 2
          have f3 := g6.free 3 rfl 3
          have q1 := (((g6.setBox 3 rfl 0 (.int .i64 p)).setBox 3 rfl 1 (.int .i64 l2)).setBox 3 rfl 2 (.int .i64 n)).setBox 3 rfl 3 (.slice A9 n9 c9)
          go_wp2_with fail
          go_meet
          exact ⟨_, _, _, _, rfl, (((((q1.rid 2).rid 4).rid 1).rid 2).toFront 1 rfl)⟩
      · go_simp
        have g1 := g0.box [.int .i64 0, .int .i64 0, .int .i64 0, .slice none 0 0] 32
        refine hK.out _ _ ?_ (fun hHeld => ?_)
        · exact ⟨g1.box4 1 rfl, g1.box4 4 rfl, g1.box3 5 rfl⟩
        clear hK K
        generalize World.alloc v0 (.cells #[.int .i64 0, .int .i64 0, .int .i64 0, .slice none 0 0] 32) = v1 at g1 hHeld ⊢
        try simp only [Act.put, List.setIfInBounds_toArray, List.set_cons_zero, List.set_cons_succ]
        refine wpAnyH_ready (rs := [2]) (by kernel_rfl) (by simp) ?_
        refine ready_cons rfl (fun K hK => ?_) AllReadyH.nil
        go_simp
        refine (C1.out _ _ (g1.ownInts 2 rfl)).mono ?_
        rintro (e : Ending) v2 ⟨u2, us2, rfl, hul2, hok2, hnd2, hb2⟩
        have g2 := g1.pushRows hb2 hok2 hnd2
        have hulR1 := hul2
        show K _ _
        refine hK.out _ _ ?_ (fun hHeld => ?_)
        · exact ⟨g2.box4 2 rfl, g2.box4 5 rfl, g2.box3 6 rfl⟩
        clear hK K
        try simp only [Act.put, List.setIfInBounds_toArray, List.set_cons_zero, List.set_cons_succ]
        refine wpAnyH_ready (rs := [6]) (by kernel_rfl) (by simp) ?_
        refine ready_cons rfl (fun K hK => ?_) AllReadyH.nil
        go_simp
        refine (HP.out _ _ _ _ (g2.ro (k + 7) (by simpa using hk)).ints (g2.ownInts 3 rfl) (g2.ownInts 3 rfl)).mono ?_
        rintro (e : Ending) v3 ⟨u3, rfl, ho3, hb3⟩
        obtain ⟨B3, m3, d3, rfl⟩ := ho3.slice
        have g3 := g2.pushOwn hb3 ho3
        show K _ _
        refine hK.out _ _ ?_ (fun hHeld => ?_)
        · exact ⟨g3.box4 3 rfl, g3.box4 6 rfl, g3.box3 7 rfl⟩
        clear hK K
        try simp only [Act.put, List.setIfInBounds_toArray, List.set_cons_zero, List.set_cons_succ]
        refine wpAnyH_ready (rs := [7]) (by kernel_rfl) (by simp) ?_
        refine ready_cons rfl (fun K hK => ?_) AllReadyH.nil
        go_simp
        refine (C2.out _ _ (g3.ownInts 0 rfl)).mono ?_
        rintro (e : Ending) v4 ⟨u4, us4, rfl, hul4, hok4, hnd4, hb4⟩
        have g4 := g3.pushRows hb4 hok4 hnd4
        have hulR2 := hul4
        show K _ _
        refine hK.out _ _ ?_ (fun hHeld => ?_)
        · exact ⟨g4.box4 4 rfl, g4.box4 7 rfl, g4.box3 8 rfl⟩
        clear hK K
        try simp only [Act.put, List.setIfInBounds_toArray, List.set_cons_zero, List.set_cons_succ]
        refine wpAnyH_ready (rs := [8]) (by kernel_rfl) (by simp) ?_
        refine ready_cons rfl (fun K hK => ?_) AllReadyH.nil
        refine step_append_rows rfl (.tmp 18) (.tmp 23) rfl g4 2 0 rfl rfl (by decide) hulR1 hulR2 HLen.out rfl rfl fun vA v5 yy g5 hAR => ?_
        simp only [List.set_cons_zero, List.set_cons_succ] at g5
        refine hK.out _ _ ?_ (fun hHeld => ?_)
        · exact ⟨g5.box4 4 rfl, g5.box4 7 rfl, g5.box3 8 rfl⟩
        clear hK K
        try simp only [Act.put, List.setIfInBounds_toArray, List.set_cons_zero, List.set_cons_succ]
        refine wpAnyH_ready (rs := [9]) (by kernel_rfl) (by simp) ?_
        refine ready_cons rfl (fun K hK => ?_) AllReadyH.nil
        go_simp
        refine (C3.out _ _ hAR).mono ?_
        rintro (e : Ending) v6 ⟨u6, rfl, ho6, hb6⟩
        obtain ⟨A9, n9, c9, rfl⟩ := ho6.slice
        have g6 := g5.pushOwn hb6 ho6
        show K _ _
        refine hK.out _ _ ?_ (fun hHeld => ?_)
        · exact ⟨g6.box4 5 rfl, g6.box4 8 rfl, g6.box3 9 rfl⟩
        clear hK K
        try simp only [Act.put, List.setIfInBounds_toArray, List.set_cons_zero, List.set_cons_succ]
        refine wpAnyH_done (by kernel_rfl) ?_ _
        show wpList _ _ _ _ _ _
        simp only [List.drop_succ_cons, List.drop_zero]
        clear hHeld
        obtain ⟨p0, p1, p2, p3⟩ := g6.box4 4 rfl
        have f0 := g6.free 4 rfl 0
        have f1 := g6.free 4 rfl 1
        have f2 := g6.free 4 rfl 2
        have f3 := g6.free 4 rfl 3
        have q1 := (((g6.setBox 4 rfl 0 (.int .i64 p)).setBox 4 rfl 1 (.int .i64 l2)).setBox 4 rfl 2 (.int .i64 n)).setBox 4 rfl 3 (.slice A9 n9 c9)
        go_wp2_with fail
        go_meet
        exact ⟨_, _, _, _, rfl, (((((q1.rid 2).rid 4).rid 1).rid 1).toFront 1 rfl)⟩
    case rest =>
    clear h2 g0
    obtain ⟨B8, A9, n9, c9, rfl, h5⟩ := hcut
    obtain ⟨x0, x1, x2, x3⟩ := h5.box4 0 rfl
    obtain ⟨z0, z1, z2, z3⟩ := h5.box4 4 rfl
    by_cases he : l2 = r
    · subst he
      obtain ⟨y0, y1, y2, y3⟩ := h5.box4 3 rfl
      have f0 := h5.free 3 rfl 0
      have f1 := h5.free 3 rfl 1
      have f2 := h5.free 3 rfl 2
      have f3 := h5.free 3 rfl 3
      have h6 := (((h5.setBox 3 rfl 0 (.int .i64 p)).setBox 3 rfl 1 (.int .i64 l2)).setBox 3 rfl 2 (.int .i64 n)).setBox 3 rfl 3 (.slice Ad D.length cd)
      obtain ⟨r0, r1, r2, r3⟩ := h6.box4 3 rfl
      go_wp2
      have hh := HR.out
      obtain ⟨a, ha⟩ := hh.1
      have hlen : (cloNext false T n p R).length = R.length := by rw [← HR2.out, ← Hl2.out, Hr.out]
      have e1 : R = G := hh.stop hlen
      rw [← e1, ← Hr.out, ← HD.out]
      refine bodyPost_ret (v := .agg #[.int .i64 p, .int .i64 l2, .int .i64 n, .slice Ad D.length cd]) (by simp [results, Try.results83, go_sem, r0, r1, r2, r3]) rfl ⟨_, rfl, ((((h6.rid 5).rid 4).rid 3).rid 1).rid 0⟩
    · have e1 : ((l2 : Int) == (r : Int)) = false := by rw [beq_eq_false_iff_ne]; omega
      have e2 : ¬ ((l2 : Int) = (r : Int)) := by omega
      have f0 := h5.free 4 rfl 0
      have f1 := h5.free 4 rfl 1
      have f2 := h5.free 4 rfl 2
      have f3 := h5.free 4 rfl 3
      have h6 := (((h5.setBox 4 rfl 0 (.int .i64 p)).setBox 4 rfl 1 (.int .i64 l2)).setBox 4 rfl 2 (.int .i64 n)).setBox 4 rfl 3 (.slice A9 n9 c9)
      go_wp2
      have hnx := HR.out.next hP (by rw [← HR2.out, ← Hl2.out, ← Hr.out]; exact he)
      rw [← HR2.out] at hnx
      have hn9 : n9 = (flat n R2).length := by
        obtain ⟨A', c', he', _⟩ := h5.ownInts 1 rfl
        simp only [Value.slice.injEq] at he'
        exact he'.2.1
      subst hn9
      go_roundg (n - R2.length)
      case measure => have := hlg.out; omega
      case rel => exact ⟨R2, A9, c9, rfl, hnx.1, by rw [← Hl2.out]; exact (h6.rid 2).rid 0⟩

set_option maxHeartbeats 8000000 in
theorem closed1_st {w0 w : World} {L : List It} (p : Int) (n k : Nat) (v t : Value) (T : List Int) (R0 : List (List Int)) (h : St w0 w (.own v (flat n R0) :: L)) (hk : L[k]? = some (.ro t T)) (hT : T.length = n * n * n) (hn : n ≤ 28) (hP : isPrime p = true) (rT : resid p T = true) (hAn : AntiT p n T) {a0 : List Nat} (hR0 : Rf p n R0 a0) :
    Calls Try.prog 83 #[.agg #[.int .i64 p, .int .i64 n, t], .agg #[.int .i64 p, .int .i64 R0.length, .int .i64 n, v], .bool true] w
      fun e w' => ∃ u, e = .returned (.agg #[.int .i64 p, .int .i64 (cloL true T n p R0).length, .int .i64 n, u]) ∧ St w0 w' (.own u (flat n (cloL true T n p R0)) :: L) := by
  have b1 := (isPrime_bd hP).1
  have hs := CloRun.start (k := true) (T := T) hP hR0
  obtain ⟨G, hG⟩ : ∃ G, G = cloL true T n p R0 := ⟨_, rfl⟩
  rw [← hG] at hs ⊢
  obtain ⟨A, c0, rfl, _, _, _⟩ := id (h.ro (k + 1) (by simpa using hk)).ints
  obtain ⟨A1, c1, rfl, _, _, _⟩ := id (h.ownInts 0 rfl)
  have h1 := (((h.box [.int .i64 p, .int .i64 n, .slice A T.length c0] 76).box [.int .i64 p, .int .i64 R0.length, .int .i64 n, .slice A1 (flat n R0).length c1] 32).box [.int .i64 0, .int .i64 0, .int .i64 0, .slice none 0 0] 32).toFront 3 rfl
  simp only [World.size_alloc] at h1
  change St w0 _ (.own (.slice A1 (flat n R0).length c1) (flat n R0) :: .box (w.heap.size + 1 + 1) _ :: .box (w.heap.size + 1) _ :: .box w.heap.size _ :: L) at h1
  have HS : Hid (CloRun true T n p R0 G) := hs
  have HT := Lib.hid hT
  have HAn := Lib.hid hAn
  clear h hs hG hT hR0 hAn
  go_enter Try.func83, Try.ntmps83
  go_wp2
  go_loopg [] (n - R0.length) (fun gk wr => ∃ (R : List (List Int)) (Ad : Option Addr) (cd : Nat), Hid (n - R.length = gk) ∧ Hid (CloRun true T n p R G) ∧ St w0 wr (.own (.slice Ad (flat n R).length cd) (flat n R) :: .box (w.heap.size + 1 + 1) [.int .i64 0, .int .i64 0, .int .i64 0, .slice none 0 0] :: .box (w.heap.size + 1) [.int .i64 p, .int .i64 R.length, .int .i64 n, .slice Ad (flat n R).length cd] :: .box w.heap.size [.int .i64 p, .int .i64 n, .slice A T.length c0] :: L))
  case atStart => exact ⟨R0, A1, c1, rfl, HS, h1⟩
  case round =>
    clear h1 HS
    obtain ⟨R, Ad, cd, hlg, HR, h1⟩ := hrel
    obtain ⟨a, ha⟩ := HR.out.1
    have hRn := rf_le_n b1 ha
    have hRW := ha.wf
    have hle := cloNext_le (k := true) (T := T) hP ha
    obtain ⟨b, hb⟩ := cloNext_rf (k := true) (T := T) hP hRW
    have hN := rf_le_n b1 hb
    have hSW : Wf p n (stepS true T n p R) := Wf.stepS hP R
    have hSl : (stepS true T n p R).length ≤ n := rf_le_n b1 (spanL_rf hP (Wf_stepArg true T n b1 R))
    have hRfl := rowsM_flat hRW
    have hSfl := rowsM_flat hSW
    obtain ⟨S1, hS1⟩ : ∃ S1, S1 = stepS true T n p R := ⟨_, rfl⟩
    obtain ⟨R2, hR2⟩ : ∃ R2, R2 = cloNext true T n p R := ⟨_, rfl⟩
    have hst : R2 = spanL p n (R ++ S1) := by rw [hR2, hS1]; rfl
    rw [← hS1] at hSW hSl hSfl
    rw [← hR2] at hle hN
    obtain ⟨l1, hl1⟩ : ∃ l1, l1 = S1.length := ⟨_, rfl⟩
    obtain ⟨l2, hl2⟩ : ∃ l2, l2 = R2.length := ⟨_, rfl⟩
    obtain ⟨D, hD⟩ : ∃ D, D = flat n R := ⟨_, rfl⟩
    obtain ⟨r, hr⟩ : ∃ r, r = R.length := ⟨_, rfl⟩
    have hnn := mul_le hn hn
    have hrn := mul_le (show R.length ≤ 28 by omega) hn
    have hsn := mul_le (show S1.length ≤ 28 by omega) hn
    have HU := Lib.hid (fun W => UnitMatrixI_any p n W hP (by omega))
    have HP := Lib.hid (show ∀ (W : World) (v1 v2 v3 : Value), Ints W v1 T → Ints W v2 D → Ints W v3 (unitD n) → Calls Try.prog 90 #[.agg #[.int .i64 p, .int .i64 n, v1], .agg #[.int .i64 p, .int .i64 r, .int .i64 n, v2], .agg #[.int .i64 p, .int .i64 n, .int .i64 n, v3]] W (RetMat W p l1 n (flat n S1)) from fun W v1 v2 v3 x1 x2 x3 => by
      rw [hD] at x2
      have := product_any p p p n R.length n v1 v2 v3 T (flat n R) (unitD n) W x1 x2 x3 HT.out (length_flat n R) (length_unitD n) hn (by omega) (by omega) hP rT (resid_flat (by omega) hRW) (resid_unitD b1 n)
      rw [hl1, hS1, hr]
      have e : stepS true T n p R = spanL p n (prodL T n p R.length (flat n R) n (unitD n)) := by
        rw [← stepS_swap hP HAn.out hRW, brR, length_uniR, flat_uniR]
      rw [e]
      exact this)
    have C1 := Lib.hid (show ∀ (W : World) (v1 : Value), Ints W v1 D → Calls Try.prog 73 #[.agg #[.int .i64 p, .int .i64 r, .int .i64 n, v1]] W (RetLL W R) from fun W v1 x1 => by
      rw [hD] at x1
      have := rowsOf_any p R.length n v1 (flat n R) W x1 (length_flat n R) (by omega) (by omega)
      rw [hRfl] at this
      rw [hr]
      exact this)
    have C2 := Lib.hid (show ∀ (W : World) (v1 : Value), Ints W v1 (flat n S1) → Calls Try.prog 73 #[.agg #[.int .i64 p, .int .i64 l1, .int .i64 n, v1]] W (RetLL W S1) from fun W v1 x1 => by
      have := rowsOf_any p S1.length n v1 (flat n S1) W x1 (length_flat n S1) (by omega) (by omega)
      rw [hSfl] at this
      rw [hl1]
      exact this)
    have C3 := Lib.hid (show ∀ (W : World) (v1 : Value), IntRows W v1 (R ++ S1) → Calls Try.prog 137 #[.agg #[.int .i64 p, .int .i64 n, .slice A T.length c0], v1] W (RetMat W p l2 n (flat n R2)) from fun W v1 x1 => by
      rw [hl2, hst]
      exact space_any p n A T.length c0 v1 (R ++ S1) W x1 (hRW.app hSW) (by rw [List.length_append, Nat.add_mul]; omega) (by rw [List.length_append]; omega) (by omega) hP)
    have HLen := Lib.hid (show R.length + S1.length ≤ 1099511627776 by omega)
    rw [← hD, ← hr] at h1
    have Hr := Lib.hid hr
    have HD := Lib.hid hD
    have HR2 := Lib.hid hR2
    have Hl2 := Lib.hid hl2
    have HLe := Lib.hid (show R.length ≤ R2.length from hle)
    have HN := Lib.hid hN
    clear ha hRW hb hSW hS1 hst hl1 hl2 hD hr hR2 hle hN a b hRfl hSfl
    obtain ⟨v0, v1, v2, v3⟩ := h1.box4 2 rfl
    have h2 := h1.box [.int .i64 p, .int .i64 r, .int .i64 n, .slice Ad D.length cd] 32
    obtain ⟨y0, y1, y2⟩ := h2.box3 4 rfl
    go_wp2_with fail
    refine (HU.out _).mono ?_
    rintro (e : Ending) w5 ⟨u, rfl, ho, hb5⟩
    obtain ⟨A7, n7, c7, rfl⟩ := ho.slice
    have h3 := h2.pushOwn hb5 ho
    obtain ⟨x0, x1, x2, x3⟩ := h3.box4 1 rfl
    have f0 := h3.free 1 rfl 0
    have f1 := h3.free 1 rfl 1
    have f2 := h3.free 1 rfl 2
    have f3 := h3.free 1 rfl 3
    have h4 := (((h3.setBox 1 rfl 0 (.int .i64 p)).setBox 1 rfl 1 (.int .i64 n)).setBox 1 rfl 2 (.int .i64 n)).setBox 1 rfl 3 (.slice A7 n7 c7)
    clear v0 v1 v2 v3 y0 y1 y2 ho hb5
    go_upto_region 4 with fail
    clear x0 x1 x2 x3 f0 f1 f2 f3 h1 h2 h3
    generalize hBt : wr.heap.size = Bt at h4 ⊢
    clear hBt
    have g0 := h4.drew
    go_cut [8] (fun s8 wx => ∃ (B8 : Nat) (A9 : Option Addr) (n9 c9 : Nat), s8 = .pointer (some ⟨B8, 0, none⟩) ∧ St w0 wx (.box B8 [.int .i64 p, .int .i64 l2, .int .i64 n, .slice A9 n9 c9] :: .own (.slice A9 n9 c9) (flat n R2) :: .own (.slice Ad D.length cd) D :: .box (w.heap.size + 1 + 1) [.int .i64 0, .int .i64 0, .int .i64 0, .slice none 0 0] :: .box (w.heap.size + 1) [.int .i64 p, .int .i64 r, .int .i64 n, .slice Ad D.length cd] :: .box w.heap.size [.int .i64 p, .int .i64 n, .slice A T.length c0] :: L))
    case first =>
      refine wp_region_cut (S := fun w' => (w'.cell? ⟨Bt, 0, none⟩ = some (.int .i64 p) ∧ w'.cell? ⟨Bt, 1, none⟩ = some (.int .i64 n) ∧ w'.cell? ⟨Bt, 2, none⟩ = some (.int .i64 n) ∧ w'.cell? ⟨Bt, 3, none⟩ = some (.slice A7 n7 c7)) ∧ (w'.cell? ⟨w.heap.size + 1, 0, none⟩ = some (.int .i64 p) ∧ w'.cell? ⟨w.heap.size + 1, 1, none⟩ = some (.int .i64 r) ∧ w'.cell? ⟨w.heap.size + 1, 2, none⟩ = some (.int .i64 n) ∧ w'.cell? ⟨w.heap.size + 1, 3, none⟩ = some (.slice Ad D.length cd)) ∧ w'.cell? ⟨w.heap.size, 0, none⟩ = some (.int .i64 p) ∧ w'.cell? ⟨w.heap.size, 1, none⟩ = some (.int .i64 n) ∧ w'.cell? ⟨w.heap.size, 2, none⟩ = some (.slice A T.length c0)) 11 (by kernel_rfl) (by kernel_rfl) ⟨g0.box4 1 rfl, g0.box4 4 rfl, g0.box3 5 rfl⟩ (fun hHeld => ?_)
      simp only [List.take_succ_cons, List.take_zero]
      generalize hv0 : World.drew _ = v0 at g0 hHeld ⊢
      clear hv0 h4
      refine anyH_take (v := ?_) 0 rfl (by kernel_rfl) (by kernel_rfl) (by kernel_rfl) (fun _ _ _ h => h) rfl ?_ hHeld ?_
      rotate_left
      · intro w' hSw
        go_simp
        try with_reducible rfl
      try simp only [Act.put, List.setIfInBounds_toArray, List.set_cons_zero, List.set_cons_succ]
      refine anyH_take (v := ?_) 1 rfl (by kernel_rfl) (by kernel_rfl) (by kernel_rfl) (fun _ _ _ h => h) rfl ?_ hHeld ?_
      rotate_left
      · intro w' hSw
        go_simp
        try with_reducible rfl
      try simp only [Act.put, List.setIfInBounds_toArray, List.set_cons_zero, List.set_cons_succ]
      refine anyH_take (v := ?_) 3 rfl (by kernel_rfl) (by kernel_rfl) (by kernel_rfl) (fun _ _ _ h => h) rfl ?_ hHeld ?_
      rotate_left
      · intro w' hSw
        go_simp
        try with_reducible rfl
      try simp only [Act.put, List.setIfInBounds_toArray, List.set_cons_zero, List.set_cons_succ]
      refine anyH_take (v := ?_) 4 rfl (by kernel_rfl) (by kernel_rfl) (by kernel_rfl) (fun _ _ _ h => h) rfl ?_ hHeld ?_
      rotate_left
      · intro w' hSw
        go_simp
        try with_reducible rfl
      try simp only [Act.put, List.setIfInBounds_toArray, List.set_cons_zero, List.set_cons_succ]
      refine anyH_take (v := ?_) 5 rfl (by kernel_rfl) (by kernel_rfl) (by kernel_rfl) (fun _ _ _ h => h) rfl ?_ hHeld ?_
      rotate_left
      · intro w' hSw
        go_simp
        try with_reducible rfl
      try simp only [Act.put, List.setIfInBounds_toArray, List.set_cons_zero, List.set_cons_succ]
      refine wpAnyH_ready (rs := [2, 10]) (by kernel_rfl) (by simp) ?_
      refine ready_cons rfl (fun K hK => ?_) (ready_cons rfl (fun K hK => ?_) AllReadyH.nil)
      · go_simp
        refine (C1.out _ _ (g0.ownInts 2 rfl)).mono ?_
        rintro (e : Ending) v1 ⟨u1, us1, rfl, hul1, hok1, hnd1, hb1⟩
        have g1 := g0.pushRows hb1 hok1 hnd1
        have hulR1 := hul1
        show K _ _
        refine hK.out _ _ ?_ (fun hHeld => ?_)
        · exact ⟨g1.box4 2 rfl, g1.box4 5 rfl, g1.box3 6 rfl⟩
        clear hK K
        try simp only [Act.put, List.setIfInBounds_toArray, List.set_cons_zero, List.set_cons_succ]
        refine wpAnyH_ready (rs := [6, 10]) (by kernel_rfl) (by simp) ?_
        refine ready_cons rfl (fun K hK => ?_) (ready_cons rfl (fun K hK => ?_) AllReadyH.nil)
        · go_simp
          refine (HP.out _ _ _ _ (g1.ro (k + 7) (by simpa using hk)).ints (g1.ownInts 3 rfl) (g1.ownInts 1 rfl)).mono ?_
          rintro (e : Ending) v2 ⟨u2, rfl, ho2, hb2⟩
          obtain ⟨B2, m2, d2, rfl⟩ := ho2.slice
          have g2 := g1.pushOwn hb2 ho2
          show K _ _
          refine hK.out _ _ ?_ (fun hHeld => ?_)
          · exact ⟨g2.box4 3 rfl, g2.box4 6 rfl, g2.box3 7 rfl⟩
          clear hK K
          try simp only [Act.put, List.setIfInBounds_toArray, List.set_cons_zero, List.set_cons_succ]
          refine wpAnyH_ready (rs := [7, 10]) (by kernel_rfl) (by simp) ?_
          refine ready_cons rfl (fun K hK => ?_) (ready_cons rfl (fun K hK => ?_) AllReadyH.nil)
          · go_simp
            refine (C2.out _ _ (g2.ownInts 0 rfl)).mono ?_
            rintro (e : Ending) v3 ⟨u3, us3, rfl, hul3, hok3, hnd3, hb3⟩
            have g3 := g2.pushRows hb3 hok3 hnd3
            have hulR2 := hul3
            show K _ _
            refine hK.out _ _ ?_ (fun hHeld => ?_)
            · exact ⟨g3.box4 4 rfl, g3.box4 7 rfl, g3.box3 8 rfl⟩
            clear hK K
            try simp only [Act.put, List.setIfInBounds_toArray, List.set_cons_zero, List.set_cons_succ]
            refine wpAnyH_ready (rs := [8, 10]) (by kernel_rfl) (by simp) ?_
            refine ready_cons rfl (fun K hK => ?_) (ready_cons rfl (fun K hK => ?_) AllReadyH.nil)
            · refine step_append_rows rfl (.tmp 18) (.tmp 23) rfl g3 2 0 rfl rfl (by decide) hulR1 hulR2 HLen.out rfl rfl fun vA v4 yy g4 hAR => ?_
              simp only [List.set_cons_zero, List.set_cons_succ] at g4
              refine hK.out _ _ ?_ (fun hHeld => ?_)
              · exact ⟨g4.box4 4 rfl, g4.box4 7 rfl, g4.box3 8 rfl⟩
              clear hK K
              try simp only [Act.put, List.setIfInBounds_toArray, List.set_cons_zero, List.set_cons_succ]
              refine wpAnyH_ready (rs := [9, 10]) (by kernel_rfl) (by simp) ?_
              refine ready_cons rfl (fun K hK => ?_) (ready_cons rfl (fun K hK => ?_) AllReadyH.nil)
              · go_simp
                refine (C3.out _ _ hAR).mono ?_
                rintro (e : Ending) v5 ⟨u5, rfl, ho5, hb5⟩
                obtain ⟨A9, n9, c9, rfl⟩ := ho5.slice
                have g5 := g4.pushOwn hb5 ho5
                show K _ _
                refine hK.out _ _ ?_ (fun hHeld => ?_)
                · exact ⟨g5.box4 5 rfl, g5.box4 8 rfl, g5.box3 9 rfl⟩
                clear hK K
                try simp only [Act.put, List.setIfInBounds_toArray, List.set_cons_zero, List.set_cons_succ]
                refine wpAnyH_ready (rs := [10]) (by kernel_rfl) (by simp) ?_
                refine ready_cons rfl (fun K hK => ?_) AllReadyH.nil
                go_simp
                have g6 := g5.box [.int .i64 0, .int .i64 0, .int .i64 0, .slice none 0 0] 32
                refine hK.out _ _ ?_ (fun hHeld => ?_)
                · exact ⟨g6.box4 6 rfl, g6.box4 9 rfl, g6.box3 10 rfl⟩
                clear hK K
                generalize World.alloc v5 (.cells #[.int .i64 0, .int .i64 0, .int .i64 0, .slice none 0 0] 32) = v6 at g6 hHeld ⊢
                try simp only [Act.put, List.setIfInBounds_toArray, List.set_cons_zero, List.set_cons_succ]
                refine wpAnyH_done (by kernel_rfl) ?_ _
                show wpList _ _ _ _ _ _
                simp only [List.drop_succ_cons, List.drop_zero]
                clear hHeld
                obtain ⟨p0, p1, p2, p3⟩ := g6.box4 0 rfl
                have f0 := g6.free 0 rfl 0
                have f1 := g6.free 0 rfl 1
                have f2 := g6.free 0 rfl 2
                have f3 := g6.free 0 rfl 3
                have q1 := (((g6.setBox 0 rfl 0 (.int .i64 p)).setBox 0 rfl 1 (.int .i64 l2)).setBox 0 rfl 2 (.int .i64 n)).setBox 0 rfl 3 (.slice A9 n9 c9)
                go_wp2_with fail
                go_meet
                exact ⟨_, _, _, _, rfl, (((((((q1.rid 3).rid 5).rid 2).rid 2).rid 2).toFront 1 rfl).toFront 1 rfl)⟩
              · go_simp
                have g5 := g4.box [.int .i64 0, .int .i64 0, .int .i64 0, .slice none 0 0] 32
                refine hK.out _ _ ?_ (fun hHeld => ?_)
                · exact ⟨g5.box4 5 rfl, g5.box4 8 rfl, g5.box3 9 rfl⟩
                clear hK K
                replace hAR := hAR.keep fun q hq => (((Below.refl _ _).alloc (Nat.le_refl _) (.cells #[.int .i64 0, .int .i64 0, .int .i64 0, .slice none 0 0] 32)).cell hq : (World.alloc v4 (.cells #[.int .i64 0, .int .i64 0, .int .i64 0, .slice none 0 0] 32)).cell? q = _)
                generalize World.alloc v4 (.cells #[.int .i64 0, .int .i64 0, .int .i64 0, .slice none 0 0] 32) = v5 at g5 hHeld hAR ⊢
                try simp only [Act.put, List.setIfInBounds_toArray, List.set_cons_zero, List.set_cons_succ]
                refine wpAnyH_ready (rs := [9]) (by kernel_rfl) (by simp) ?_
                refine ready_cons rfl (fun K hK => ?_) AllReadyH.nil
                go_simp
                refine (C3.out _ _ hAR).mono ?_
                rintro (e : Ending) v6 ⟨u6, rfl, ho6, hb6⟩
                obtain ⟨A9, n9, c9, rfl⟩ := ho6.slice
                have g6 := g5.pushOwn hb6 ho6
                show K _ _
                refine hK.out _ _ ?_ (fun hHeld => ?_)
                · exact ⟨g6.box4 6 rfl, g6.box4 9 rfl, g6.box3 10 rfl⟩
                clear hK K
                try simp only [Act.put, List.setIfInBounds_toArray, List.set_cons_zero, List.set_cons_succ]
                refine wpAnyH_done (by kernel_rfl) ?_ _
                show wpList _ _ _ _ _ _
                simp only [List.drop_succ_cons, List.drop_zero]
                clear hHeld
                obtain ⟨p0, p1, p2, p3⟩ := g6.box4 1 rfl
                have f0 := g6.free 1 rfl 0
                have f1 := g6.free 1 rfl 1
                have f2 := g6.free 1 rfl 2
                have f3 := g6.free 1 rfl 3
                have q1 := (((g6.setBox 1 rfl 0 (.int .i64 p)).setBox 1 rfl 1 (.int .i64 l2)).setBox 1 rfl 2 (.int .i64 n)).setBox 1 rfl 3 (.slice A9 n9 c9)
                go_wp2_with fail
                go_meet
                exact ⟨_, _, _, _, rfl, ((((((q1.rid 3).rid 5).rid 2).rid 2).rid 2).toFront 1 rfl)⟩
            · go_simp
              have g4 := g3.box [.int .i64 0, .int .i64 0, .int .i64 0, .slice none 0 0] 32
              refine hK.out _ _ ?_ (fun hHeld => ?_)
              · exact ⟨g4.box4 5 rfl, g4.box4 8 rfl, g4.box3 9 rfl⟩
              clear hK K
              generalize World.alloc v3 (.cells #[.int .i64 0, .int .i64 0, .int .i64 0, .slice none 0 0] 32) = v4 at g4 hHeld ⊢
              try simp only [Act.put, List.setIfInBounds_toArray, List.set_cons_zero, List.set_cons_succ]
              refine wpAnyH_ready (rs := [8]) (by kernel_rfl) (by simp) ?_
              refine ready_cons rfl (fun K hK => ?_) AllReadyH.nil
              refine step_append_rows rfl (.tmp 18) (.tmp 23) rfl g4 3 1 rfl rfl (by decide) hulR1 hulR2 HLen.out rfl rfl fun vA v5 yy g5 hAR => ?_
              simp only [List.set_cons_zero, List.set_cons_succ] at g5
              refine hK.out _ _ ?_ (fun hHeld => ?_)
              · exact ⟨g5.box4 5 rfl, g5.box4 8 rfl, g5.box3 9 rfl⟩
              clear hK K
              try simp only [Act.put, List.setIfInBounds_toArray, List.set_cons_zero, List.set_cons_succ]
              refine wpAnyH_ready (rs := [9]) (by kernel_rfl) (by simp) ?_
              refine ready_cons rfl (fun K hK => ?_) AllReadyH.nil
              go_simp
              refine (C3.out _ _ hAR).mono ?_
              rintro (e : Ending) v6 ⟨u6, rfl, ho6, hb6⟩
              obtain ⟨A9, n9, c9, rfl⟩ := ho6.slice
              have g6 := g5.pushOwn hb6 ho6
              show K _ _
              refine hK.out _ _ ?_ (fun hHeld => ?_)
              · exact ⟨g6.box4 6 rfl, g6.box4 9 rfl, g6.box3 10 rfl⟩
              clear hK K
              try simp only [Act.put, List.setIfInBounds_toArray, List.set_cons_zero, List.set_cons_succ]
              refine wpAnyH_done (by kernel_rfl) ?_ _
              show wpList _ _ _ _ _ _
              simp only [List.drop_succ_cons, List.drop_zero]
              clear hHeld
              obtain ⟨p0, p1, p2, p3⟩ := g6.box4 1 rfl
              have f0 := g6.free 1 rfl 0
              have f1 := g6.free 1 rfl 1
              have f2 := g6.free 1 rfl 2
              have f3 := g6.free 1 rfl 3
              have q1 := (((g6.setBox 1 rfl 0 (.int .i64 p)).setBox 1 rfl 1 (.int .i64 l2)).setBox 1 rfl 2 (.int .i64 n)).setBox 1 rfl 3 (.slice A9 n9 c9)
              go_wp2_with fail
              go_meet
              exact ⟨_, _, _, _, rfl, ((((((q1.rid 3).rid 5).rid 2).rid 2).rid 2).toFront 1 rfl)⟩
          · go_simp
            have g3 := g2.box [.int .i64 0, .int .i64 0, .int .i64 0, .slice none 0 0] 32
            refine hK.out _ _ ?_ (fun hHeld => ?_)
            · exact ⟨g3.box4 4 rfl, g3.box4 7 rfl, g3.box3 8 rfl⟩
            clear hK K
            generalize World.alloc v2 (.cells #[.int .i64 0, .int .i64 0, .int .i64 0, .slice none 0 0] 32) = v3 at g3 hHeld ⊢
            try simp only [Act.put, List.setIfInBounds_toArray, List.set_cons_zero, List.set_cons_succ]
            refine wpAnyH_ready (rs := [7]) (by kernel_rfl) (by simp) ?_
            refine ready_cons rfl (fun K hK => ?_) AllReadyH.nil
            go_simp
            refine (C2.out _ _ (g3.ownInts 1 rfl)).mono ?_
            rintro (e : Ending) v4 ⟨u4, us4, rfl, hul4, hok4, hnd4, hb4⟩
            have g4 := g3.pushRows hb4 hok4 hnd4
            have hulR2 := hul4
            show K _ _
            refine hK.out _ _ ?_ (fun hHeld => ?_)
            · exact ⟨g4.box4 5 rfl, g4.box4 8 rfl, g4.box3 9 rfl⟩
            clear hK K
            try simp only [Act.put, List.setIfInBounds_toArray, List.set_cons_zero, List.set_cons_succ]
            refine wpAnyH_ready (rs := [8]) (by kernel_rfl) (by simp) ?_
            refine ready_cons rfl (fun K hK => ?_) AllReadyH.nil
            refine step_append_rows rfl (.tmp 18) (.tmp 23) rfl g4 3 0 rfl rfl (by decide) hulR1 hulR2 HLen.out rfl rfl fun vA v5 yy g5 hAR => ?_
            simp only [List.set_cons_zero, List.set_cons_succ] at g5
            refine hK.out _ _ ?_ (fun hHeld => ?_)
            · exact ⟨g5.box4 5 rfl, g5.box4 8 rfl, g5.box3 9 rfl⟩
            clear hK K
            try simp only [Act.put, List.setIfInBounds_toArray, List.set_cons_zero, List.set_cons_succ]
            refine wpAnyH_ready (rs := [9]) (by kernel_rfl) (by simp) ?_
            refine ready_cons rfl (fun K hK => ?_) AllReadyH.nil
            go_simp
            refine (C3.out _ _ hAR).mono ?_
            rintro (e : Ending) v6 ⟨u6, rfl, ho6, hb6⟩
            obtain ⟨A9, n9, c9, rfl⟩ := ho6.slice
            have g6 := g5.pushOwn hb6 ho6
            show K _ _
            refine hK.out _ _ ?_ (fun hHeld => ?_)
            · exact ⟨g6.box4 6 rfl, g6.box4 9 rfl, g6.box3 10 rfl⟩
            clear hK K
            try simp only [Act.put, List.setIfInBounds_toArray, List.set_cons_zero, List.set_cons_succ]
            refine wpAnyH_done (by kernel_rfl) ?_ _
            show wpList _ _ _ _ _ _
            simp only [List.drop_succ_cons, List.drop_zero]
            clear hHeld
            obtain ⟨p0, p1, p2, p3⟩ := g6.box4 2 rfl
            have f0 := g6.free 2 rfl 0
            have f1 := g6.free 2 rfl 1
            have f2 := g6.free 2 rfl 2
            have f3 := g6.free 2 rfl 3
            have q1 := (((g6.setBox 2 rfl 0 (.int .i64 p)).setBox 2 rfl 1 (.int .i64 l2)).setBox 2 rfl 2 (.int .i64 n)).setBox 2 rfl 3 (.slice A9 n9 c9)
            go_wp2_with fail
            go_meet
            exact ⟨_, _, _, _, rfl, ((((((q1.rid 3).rid 5).rid 1).rid 2).rid 2).toFront 1 rfl)⟩
        · go_simp
          have g2 := g1.box [.int .i64 0, .int .i64 0, .int .i64 0, .slice none 0 0] 32
          refine hK.out _ _ ?_ (fun hHeld => ?_)
          · exact ⟨g2.box4 3 rfl, g2.box4 6 rfl, g2.box3 7 rfl⟩
          clear hK K
          generalize World.alloc v1 (.cells #[.int .i64 0, .int .i64 0, .int .i64 0, .slice none 0 0] 32) = v2 at g2 hHeld ⊢
          try simp only [Act.put, List.setIfInBounds_toArray, List.set_cons_zero, List.set_cons_succ]
          refine wpAnyH_ready (rs := [6]) (by kernel_rfl) (by simp) ?_
          refine ready_cons rfl (fun K hK => ?_) AllReadyH.nil
          go_simp
          refine (HP.out _ _ _ _ (g2.ro (k + 8) (by simpa using hk)).ints (g2.ownInts 4 rfl) (g2.ownInts 2 rfl)).mono ?_
          rintro (e : Ending) v3 ⟨u3, rfl, ho3, hb3⟩
          obtain ⟨B3, m3, d3, rfl⟩ := ho3.slice
          have g3 := g2.pushOwn hb3 ho3
          show K _ _
          refine hK.out _ _ ?_ (fun hHeld => ?_)
          · exact ⟨g3.box4 4 rfl, g3.box4 7 rfl, g3.box3 8 rfl⟩
          clear hK K
          try simp only [Act.put, List.setIfInBounds_toArray, List.set_cons_zero, List.set_cons_succ]
          refine wpAnyH_ready (rs := [7]) (by kernel_rfl) (by simp) ?_
          refine ready_cons rfl (fun K hK => ?_) AllReadyH.nil
          go_simp
          refine (C2.out _ _ (g3.ownInts 0 rfl)).mono ?_
          rintro (e : Ending) v4 ⟨u4, us4, rfl, hul4, hok4, hnd4, hb4⟩
          have g4 := g3.pushRows hb4 hok4 hnd4
          have hulR2 := hul4
          show K _ _
          refine hK.out _ _ ?_ (fun hHeld => ?_)
          · exact ⟨g4.box4 5 rfl, g4.box4 8 rfl, g4.box3 9 rfl⟩
          clear hK K
          try simp only [Act.put, List.setIfInBounds_toArray, List.set_cons_zero, List.set_cons_succ]
          refine wpAnyH_ready (rs := [8]) (by kernel_rfl) (by simp) ?_
          refine ready_cons rfl (fun K hK => ?_) AllReadyH.nil
          refine step_append_rows rfl (.tmp 18) (.tmp 23) rfl g4 3 0 rfl rfl (by decide) hulR1 hulR2 HLen.out rfl rfl fun vA v5 yy g5 hAR => ?_
          simp only [List.set_cons_zero, List.set_cons_succ] at g5
          refine hK.out _ _ ?_ (fun hHeld => ?_)
          · exact ⟨g5.box4 5 rfl, g5.box4 8 rfl, g5.box3 9 rfl⟩
          clear hK K
          try simp only [Act.put, List.setIfInBounds_toArray, List.set_cons_zero, List.set_cons_succ]
          refine wpAnyH_ready (rs := [9]) (by kernel_rfl) (by simp) ?_
          refine ready_cons rfl (fun K hK => ?_) AllReadyH.nil
          go_simp
          refine (C3.out _ _ hAR).mono ?_
          rintro (e : Ending) v6 ⟨u6, rfl, ho6, hb6⟩
          obtain ⟨A9, n9, c9, rfl⟩ := ho6.slice
          have g6 := g5.pushOwn hb6 ho6
          show K _ _
          refine hK.out _ _ ?_ (fun hHeld => ?_)
          · exact ⟨g6.box4 6 rfl, g6.box4 9 rfl, g6.box3 10 rfl⟩
          clear hK K
          try simp only [Act.put, List.setIfInBounds_toArray, List.set_cons_zero, List.set_cons_succ]
          refine wpAnyH_done (by kernel_rfl) ?_ _
          show wpList _ _ _ _ _ _
          simp only [List.drop_succ_cons, List.drop_zero]
          clear hHeld
          obtain ⟨p0, p1, p2, p3⟩ := g6.box4 3 rfl
          have f0 := g6.free 3 rfl 0
          have f1 := g6.free 3 rfl 1
          have f2 := g6.free 3 rfl 2
          have f3 := g6.free 3 rfl 3
          have q1 := (((g6.setBox 3 rfl 0 (.int .i64 p)).setBox 3 rfl 1 (.int .i64 l2)).setBox 3 rfl 2 (.int .i64 n)).setBox 3 rfl 3 (.slice A9 n9 c9)
          go_wp2_with fail
          go_meet
          exact ⟨_, _, _, _, rfl, ((((((q1.rid 2).rid 5).rid 1).rid 2).rid 2).toFront 1 rfl)⟩
      · go_simp
        have g1 := g0.box [.int .i64 0, .int .i64 0, .int .i64 0, .slice none 0 0] 32
        refine hK.out _ _ ?_ (fun hHeld => ?_)
        · exact ⟨g1.box4 2 rfl, g1.box4 5 rfl, g1.box3 6 rfl⟩
        clear hK K
        generalize World.alloc v0 (.cells #[.int .i64 0, .int .i64 0, .int .i64 0, .slice none 0 0] 32) = v1 at g1 hHeld ⊢
        try simp only [Act.put, List.setIfInBounds_toArray, List.set_cons_zero, List.set_cons_succ]
        refine wpAnyH_ready (rs := [2]) (by kernel_rfl) (by simp) ?_
        refine ready_cons rfl (fun K hK => ?_) AllReadyH.nil
        go_simp
        refine (C1.out _ _ (g1.ownInts 3 rfl)).mono ?_
        rintro (e : Ending) v2 ⟨u2, us2, rfl, hul2, hok2, hnd2, hb2⟩
        have g2 := g1.pushRows hb2 hok2 hnd2
        have hulR1 := hul2
        show K _ _
        refine hK.out _ _ ?_ (fun hHeld => ?_)
        · exact ⟨g2.box4 3 rfl, g2.box4 6 rfl, g2.box3 7 rfl⟩
        clear hK K
        try simp only [Act.put, List.setIfInBounds_toArray, List.set_cons_zero, List.set_cons_succ]
        refine wpAnyH_ready (rs := [6]) (by kernel_rfl) (by simp) ?_
        refine ready_cons rfl (fun K hK => ?_) AllReadyH.nil
        go_simp
        refine (HP.out _ _ _ _ (g2.ro (k + 8) (by simpa using hk)).ints (g2.ownInts 4 rfl) (g2.ownInts 2 rfl)).mono ?_
        rintro (e : Ending) v3 ⟨u3, rfl, ho3, hb3⟩
        obtain ⟨B3, m3, d3, rfl⟩ := ho3.slice
        have g3 := g2.pushOwn hb3 ho3
        show K _ _
        refine hK.out _ _ ?_ (fun hHeld => ?_)
        · exact ⟨g3.box4 4 rfl, g3.box4 7 rfl, g3.box3 8 rfl⟩
        clear hK K
        try simp only [Act.put, List.setIfInBounds_toArray, List.set_cons_zero, List.set_cons_succ]
        refine wpAnyH_ready (rs := [7]) (by kernel_rfl) (by simp) ?_
        refine ready_cons rfl (fun K hK => ?_) AllReadyH.nil
        go_simp
        refine (C2.out _ _ (g3.ownInts 0 rfl)).mono ?_
        rintro (e : Ending) v4 ⟨u4, us4, rfl, hul4, hok4, hnd4, hb4⟩
        have g4 := g3.pushRows hb4 hok4 hnd4
        have hulR2 := hul4
        show K _ _
        refine hK.out _ _ ?_ (fun hHeld => ?_)
        · exact ⟨g4.box4 5 rfl, g4.box4 8 rfl, g4.box3 9 rfl⟩
        clear hK K
        try simp only [Act.put, List.setIfInBounds_toArray, List.set_cons_zero, List.set_cons_succ]
        refine wpAnyH_ready (rs := [8]) (by kernel_rfl) (by simp) ?_
        refine ready_cons rfl (fun K hK => ?_) AllReadyH.nil
        refine step_append_rows rfl (.tmp 18) (.tmp 23) rfl g4 2 0 rfl rfl (by decide) hulR1 hulR2 HLen.out rfl rfl fun vA v5 yy g5 hAR => ?_
        simp only [List.set_cons_zero, List.set_cons_succ] at g5
        refine hK.out _ _ ?_ (fun hHeld => ?_)
        · exact ⟨g5.box4 5 rfl, g5.box4 8 rfl, g5.box3 9 rfl⟩
        clear hK K
        try simp only [Act.put, List.setIfInBounds_toArray, List.set_cons_zero, List.set_cons_succ]
        refine wpAnyH_ready (rs := [9]) (by kernel_rfl) (by simp) ?_
        refine ready_cons rfl (fun K hK => ?_) AllReadyH.nil
        go_simp
        refine (C3.out _ _ hAR).mono ?_
        rintro (e : Ending) v6 ⟨u6, rfl, ho6, hb6⟩
        obtain ⟨A9, n9, c9, rfl⟩ := ho6.slice
        have g6 := g5.pushOwn hb6 ho6
        show K _ _
        refine hK.out _ _ ?_ (fun hHeld => ?_)
        · exact ⟨g6.box4 6 rfl, g6.box4 9 rfl, g6.box3 10 rfl⟩
        clear hK K
        try simp only [Act.put, List.setIfInBounds_toArray, List.set_cons_zero, List.set_cons_succ]
        refine wpAnyH_done (by kernel_rfl) ?_ _
        show wpList _ _ _ _ _ _
        simp only [List.drop_succ_cons, List.drop_zero]
        clear hHeld
        obtain ⟨p0, p1, p2, p3⟩ := g6.box4 4 rfl
        have f0 := g6.free 4 rfl 0
        have f1 := g6.free 4 rfl 1
        have f2 := g6.free 4 rfl 2
        have f3 := g6.free 4 rfl 3
        have q1 := (((g6.setBox 4 rfl 0 (.int .i64 p)).setBox 4 rfl 1 (.int .i64 l2)).setBox 4 rfl 2 (.int .i64 n)).setBox 4 rfl 3 (.slice A9 n9 c9)
        go_wp2_with fail
        go_meet
        exact ⟨_, _, _, _, rfl, ((((((q1.rid 2).rid 5).rid 1).rid 1).rid 2).toFront 1 rfl)⟩
    case rest =>
    clear h4 g0
    obtain ⟨B8, A9, n9, c9, rfl, h5⟩ := hcut
    obtain ⟨x0, x1, x2, x3⟩ := h5.box4 0 rfl
    obtain ⟨z0, z1, z2, z3⟩ := h5.box4 4 rfl
    by_cases he : l2 = r
    · subst he
      obtain ⟨y0, y1, y2, y3⟩ := h5.box4 3 rfl
      have f0 := h5.free 3 rfl 0
      have f1 := h5.free 3 rfl 1
      have f2 := h5.free 3 rfl 2
      have f3 := h5.free 3 rfl 3
      have h6 := (((h5.setBox 3 rfl 0 (.int .i64 p)).setBox 3 rfl 1 (.int .i64 l2)).setBox 3 rfl 2 (.int .i64 n)).setBox 3 rfl 3 (.slice Ad D.length cd)
      obtain ⟨r0, r1, r2, r3⟩ := h6.box4 3 rfl
      go_wp2
      have hh := HR.out
      obtain ⟨a, ha⟩ := hh.1
      have hlen : (cloNext true T n p R).length = R.length := by rw [← HR2.out, ← Hl2.out, Hr.out]
      have e1 : R = G := hh.stop hlen
      rw [← e1, ← Hr.out, ← HD.out]
      refine bodyPost_ret (v := .agg #[.int .i64 p, .int .i64 l2, .int .i64 n, .slice Ad D.length cd]) (by simp [results, Try.results83, go_sem, r0, r1, r2, r3]) rfl ⟨_, rfl, ((((h6.rid 5).rid 4).rid 3).rid 1).rid 0⟩
    · have e1 : ((l2 : Int) == (r : Int)) = false := by rw [beq_eq_false_iff_ne]; omega
      have e2 : ¬ ((l2 : Int) = (r : Int)) := by omega
      have f0 := h5.free 4 rfl 0
      have f1 := h5.free 4 rfl 1
      have f2 := h5.free 4 rfl 2
      have f3 := h5.free 4 rfl 3
      have h6 := (((h5.setBox 4 rfl 0 (.int .i64 p)).setBox 4 rfl 1 (.int .i64 l2)).setBox 4 rfl 2 (.int .i64 n)).setBox 4 rfl 3 (.slice A9 n9 c9)
      go_wp2
      have hnx := HR.out.next hP (by rw [← HR2.out, ← Hl2.out, ← Hr.out]; exact he)
      rw [← HR2.out] at hnx
      have hn9 : n9 = (flat n R2).length := by
        obtain ⟨A', c', he', _⟩ := h5.ownInts 1 rfl
        simp only [Value.slice.injEq] at he'
        exact he'.2.1
      subst hn9
      go_roundg (n - R2.length)
      case measure => have := hlg.out; omega
      case rel => exact ⟨R2, A9, c9, rfl, hnx.1, by rw [← Hl2.out]; exact (h6.rid 2).rid 0⟩
end
section
open Go.RowKit

set_option maxHeartbeats 2000000 in
theorem SpanOf_any (p : Int) (r n : Nat) (t : Value) (D : List Int) (w : World) (ht : Ints w t D) (hD : D.length = r * n) (hr : r ≤ 40) (hn : n ≤ 40) (hP : isPrime p = true) (rD : resid p D = true) :
    Calls Try.prog 84 #[.agg #[.int .i64 p, .int .i64 r, .int .i64 n, t]] w (RetMat w p (spanL p n (rowsM r n D)).length n (flat n (spanL p n (rowsM r n D)))) := by
  obtain ⟨b1, b2⟩ := isPrime_bd hP
  have h1 := (((St.start w).arg ht).box [.int .i64 p, .int .i64 r, .int .i64 n, t] 32).box [.int .i64 0, .int .i64 0, .int .i64 0, .slice none 0 0] 32
  simp only [World.size_alloc] at h1
  obtain ⟨A, k0, rfl, _, _, _⟩ := id ht
  have hok : matOk p r n D = true := by
    have e1 : (D.length : Int) = (r : Int) * n := by rw [hD]; simp
    have i1 : inR (r : Int) 0 40 = true := by simp [inR]; omega
    have i2 : inR (n : Int) 0 40 = true := by simp [inR]; omega
    simp only [matOk, hP, i1, i2, rD, decide_eq_true e1, Bool.and_self]
  have hrn := mul_le hr hn
  have hWr := Wf_rowsM (p := p) (by omega) (r := r) (c := n) rD
  have hSW := hWr.spanL hP
  have hsl := spanL_le hP hWr
  rw [length_rowsM] at hsl
  have hsn := mul_le (Nat.le_trans hsl hr) hn
  obtain ⟨R, hR⟩ : ∃ R, R = rowsM r n D := ⟨_, rfl⟩
  obtain ⟨Q, hQ⟩ : ∃ Q, Q = spanL p n R := ⟨_, rfl⟩
  rw [← hR] at hWr
  rw [← hR, ← hQ] at hSW hsl hsn ⊢
  have HM := Lib.hid (fun W (hi : Ints W (.slice A D.length k0) D) => MatrixOkI_any p r n _ D W hi (by omega))
  rw [hok] at HM
  have C1 := Lib.hid (show ∀ (W : World), Ints W (.slice A D.length k0) D → Calls Try.prog 73 #[.agg #[.int .i64 p, .int .i64 r, .int .i64 n, .slice A D.length k0]] W (RetLL W R) from fun W x1 => by rw [hR]; exact rowsOf_any p r n _ D W x1 hD (by omega) (by omega))
  have C2 := Lib.hid (show ∀ (W : World) (v1 : Value), IntRows W v1 R → Calls Try.prog 138 #[v1, .int .i64 n, .int .i64 p] W (RetLL W Q) from fun W v1 x1 => by rw [hQ]; exact span_any p n v1 R W x1 hWr (by rw [hR, length_rowsM]; omega) (by omega) hP)
  have C3 := Lib.hid (show ∀ (W : World) (v1 : Value), IntRows W v1 Q → Calls Try.prog 112 #[.int .i64 p, .int .i64 n, v1] W (RetMat W p Q.length n (flat n Q)) from fun W v1 x1 => by rw [flat_flatten hSW]; exact matrixOf_any p n v1 Q W x1 (by rw [total_wf hSW]; omega))
  clear ht hok hrn hWr hSW hsl hsn hR hQ hD
  obtain ⟨z0, z1, z2, z3⟩ := h1.box4 1 rfl
  go_enter Try.func84, Try.ntmps84
  go_wp2_with fail
  refine (HM.out _ (h1.roInts 2 rfl)).mono ?_
  rintro (e : Ending) w1 ⟨rfl, hb1⟩
  replace h1 := h1.on hb1
  clear hb1 z0 z1 z2 z3
  go_upto_region 3 with fail
  have g0 := h1.drew
  refine wp_region_cut (S := fun w' => w'.cell? ⟨w.heap.size, 0, none⟩ = some (.int .i64 p) ∧ w'.cell? ⟨w.heap.size, 1, none⟩ = some (.int .i64 r) ∧ w'.cell? ⟨w.heap.size, 2, none⟩ = some (.int .i64 n) ∧ w'.cell? ⟨w.heap.size, 3, none⟩ = some (.slice A D.length k0)) 12 (by kernel_rfl) (by kernel_rfl) (g0.box4 1 rfl) (fun hHeld => ?_)
  simp only [List.take_succ_cons, List.take_zero]
  refine anyH_take (v := ?_) 0 rfl (by kernel_rfl) (by kernel_rfl) (by kernel_rfl) (fun _ _ _ h => h) rfl ?_ hHeld ?_
  rotate_left
  · intro w' hSw
    go_simp
    try with_reducible rfl
  try simp only [Act.put, List.setIfInBounds_toArray, List.set_cons_zero, List.set_cons_succ]
  refine anyH_take (v := ?_) 1 rfl (by kernel_rfl) (by kernel_rfl) (by kernel_rfl) (fun _ _ _ h => h) rfl ?_ hHeld ?_
  rotate_left
  · intro w' hSw
    go_simp
    try with_reducible rfl
  try simp only [Act.put, List.setIfInBounds_toArray, List.set_cons_zero, List.set_cons_succ]
  refine anyH_take (v := ?_) 2 rfl (by kernel_rfl) (by kernel_rfl) (by kernel_rfl) (fun _ _ _ h => h) rfl ?_ hHeld ?_
  rotate_left
  · intro w' hSw
    go_simp
    try with_reducible rfl
  try simp only [Act.put, List.setIfInBounds_toArray, List.set_cons_zero, List.set_cons_succ]
  refine anyH_take (v := ?_) 3 rfl (by kernel_rfl) (by kernel_rfl) (by kernel_rfl) (fun _ _ _ h => h) rfl ?_ hHeld ?_
  rotate_left
  · intro w' hSw
    go_simp
    try with_reducible rfl
  try simp only [Act.put, List.setIfInBounds_toArray, List.set_cons_zero, List.set_cons_succ]
  refine anyH_take (v := ?_) 4 rfl (by kernel_rfl) (by kernel_rfl) (by kernel_rfl) (fun _ _ _ h => h) rfl ?_ hHeld ?_
  rotate_left
  · intro w' hSw
    go_simp
    try with_reducible rfl
  try simp only [Act.put, List.setIfInBounds_toArray, List.set_cons_zero, List.set_cons_succ]
  refine anyH_take (v := ?_) 6 rfl (by kernel_rfl) (by kernel_rfl) (by kernel_rfl) (fun _ _ _ h => h) rfl ?_ hHeld ?_
  rotate_left
  · intro w' hSw
    go_simp
    try with_reducible rfl
  try simp only [Act.put, List.setIfInBounds_toArray, List.set_cons_zero, List.set_cons_succ]
  refine anyH_take (v := ?_) 7 rfl (by kernel_rfl) (by kernel_rfl) (by kernel_rfl) (fun _ _ _ h => h) rfl ?_ hHeld ?_
  rotate_left
  · intro w' hSw
    go_simp
    try with_reducible rfl
  try simp only [Act.put, List.setIfInBounds_toArray, List.set_cons_zero, List.set_cons_succ]
  refine anyH_take (v := ?_) 8 rfl (by kernel_rfl) (by kernel_rfl) (by kernel_rfl) (fun _ _ _ h => h) rfl ?_ hHeld ?_
  rotate_left
  · intro w' hSw
    go_simp
    try with_reducible rfl
  try simp only [Act.put, List.setIfInBounds_toArray, List.set_cons_zero, List.set_cons_succ]
  refine anyH_take (v := ?_) 9 rfl (by kernel_rfl) (by kernel_rfl) (by kernel_rfl) (fun _ _ _ h => h) rfl ?_ hHeld ?_
  rotate_left
  · intro w' hSw
    go_simp
    try with_reducible rfl
  try simp only [Act.put, List.setIfInBounds_toArray, List.set_cons_zero, List.set_cons_succ]
  refine wpAnyH_ready (rs := [5]) (by kernel_rfl) (by simp) ?_
  refine ready_cons rfl (fun K hK => ?_) AllReadyH.nil
  go_simp
  refine (C1.out _ (g0.roInts 2 rfl)).mono ?_
  rintro (e : Ending) w2 ⟨u2, us2, rfl, hul2, hok2, hnd2, hb2⟩
  have g1 := g0.pushRows hb2 hok2 hnd2
  show K _ _
  refine hK.out _ _ ?_ (fun hHeld => ?_)
  · exact g1.box4 2 rfl
  clear hK K
  try simp only [Act.put, List.setIfInBounds_toArray, List.set_cons_zero, List.set_cons_succ]
  refine wpAnyH_ready (rs := [10]) (by kernel_rfl) (by simp) ?_
  refine ready_cons rfl (fun K hK => ?_) AllReadyH.nil
  go_simp
  refine (C2.out _ _ (g1.rowsR 0 rfl hul2)).mono ?_
  rintro (e : Ending) w3 ⟨u3, us3, rfl, hul3, hok3, hnd3, hb3⟩
  have g2 := g1.pushRows hb3 hok3 hnd3
  show K _ _
  refine hK.out _ _ ?_ (fun hHeld => ?_)
  · exact g2.box4 3 rfl
  clear hK K
  try simp only [Act.put, List.setIfInBounds_toArray, List.set_cons_zero, List.set_cons_succ]
  refine wpAnyH_ready (rs := [11]) (by kernel_rfl) (by simp) ?_
  refine ready_cons rfl (fun K hK => ?_) AllReadyH.nil
  go_simp
  refine (C3.out _ _ (g2.rowsR 0 rfl hul3)).mono ?_
  rintro (e : Ending) w4 ⟨u4, rfl, ho4, hb4⟩
  obtain ⟨A7, n7, c7, rfl⟩ := ho4.slice
  have g3 := g2.pushOwn hb4 ho4
  show K _ _
  refine hK.out _ _ ?_ (fun hHeld => ?_)
  · exact g3.box4 4 rfl
  clear hK K
  try simp only [Act.put, List.setIfInBounds_toArray, List.set_cons_zero, List.set_cons_succ]
  refine wpAnyH_done (by kernel_rfl) ?_ _
  show wpList _ _ _ _ _ _
  simp only [List.drop_succ_cons, List.drop_zero]
  clear hHeld
  obtain ⟨p0, p1, p2, p3⟩ := g3.box4 3 rfl
  have f0 := g3.free 3 rfl 0
  have f1 := g3.free 3 rfl 1
  have f2 := g3.free 3 rfl 2
  have f3 := g3.free 3 rfl 3
  have h5 := (((g3.setBox 3 rfl 0 (.int .i64 p)).setBox 3 rfl 1 (.int .i64 Q.length)).setBox 3 rfl 2 (.int .i64 n)).setBox 3 rfl 3 (.slice A7 n7 c7)
  obtain ⟨r0, r1, r2, r3⟩ := h5.box4 3 rfl
  clear g0 g1 g2 g3 h1 ho4 hb2 hb3 hb4
  go_wp2
  refine bodyPost_ret (v := .agg #[.int .i64 p, .int .i64 Q.length, .int .i64 n, .slice A7 n7 c7]) (by simp [results, Try.results84, go_sem, r0, r1, r2, r3]) rfl ⟨_, rfl, h5.own 0 rfl, h5.below⟩

def gbOk (p n : Int) (T : List Int) (q r c : Int) (D : List Int) : Bool := algOk p n T && matOk q r c D && decide (q = p) && decide (c = n)
theorem gbOk_spec {p n q r c : Int} {T D : List Int} (h : gbOk p n T q r c D = true) : algOk p n T = true ∧ matOk q r c D = true ∧ q = p ∧ c = n := by
  simp only [gbOk, Bool.and_eq_true, decide_eq_true_eq] at h
  exact ⟨h.1.1.1, h.1.1.2, h.1.2, h.2⟩

set_option maxHeartbeats 2000000 in
theorem l2Vectors_any (p n q r c : Int) (t u : Value) (T D : List Int) (w : World) (ht : Ints w t T) (hu : Ints w u D) (hp : p ≤ 9223372036854775807) (hq : q ≤ 9223372036854775807) :
    Calls Try.prog 80 #[.agg #[.int .i64 p, .int .i64 n, t], .agg #[.int .i64 q, .int .i64 r, .int .i64 c, u]] w (RetBool w (gbOk p n T q r c D)) := by
  have h1 := ((((St.start w).arg ht).arg hu).box [.int .i64 p, .int .i64 n, t] 30).box [.int .i64 q, .int .i64 r, .int .i64 c, u] 32
  simp only [World.size_alloc] at h1
  obtain ⟨A, k, rfl, _, _, _⟩ := id ht
  obtain ⟨A2, k2, rfl, _, _, _⟩ := id hu
  clear ht hu
  obtain ⟨y0, y1, y2⟩ := h1.box3 1 rfl
  by_cases b1 : algOk p n T = true
  · go_enter Try.func80, Try.ntmps80
    go_wp2_with fail
    refine (AlgebraOkS_any p n _ T _ (h1.roInts 3 rfl)).mono ?_
    rintro (e : Ending) w1 ⟨rfl, hb1⟩
    replace h1 := h1.on hb1
    clear hb1 y0 y1 y2
    obtain ⟨z0, z1, z2, z3⟩ := h1.box4 0 rfl
    go_wp2_with fail
    refine (MatrixOkS_any q r c _ D _ (h1.roInts 2 rfl) hq).mono ?_
    rintro (e : Ending) w2 ⟨rfl, hb1⟩
    replace h1 := h1.on hb1
    clear hb1 z0 z1 z2 z3
    obtain ⟨z0, z1, z2, z3⟩ := h1.box4 0 rfl
    obtain ⟨y0, y1, y2⟩ := h1.box3 1 rfl
    by_cases b2 : matOk q r c D = true
    · rw [b2]
      by_cases b3 : q = p
      · subst b3
        by_cases b4 : c = n
        · subst b4
          go_wp2
          go_ret
          exact ⟨ret_bool (by simp [gbOk, b1, b2]), h1.below⟩
        · have e4 : (c == n) = false := by rw [beq_eq_false_iff_ne]; exact b4
          go_wp2
          go_ret
          exact ⟨ret_bool (by simp [gbOk, b4]), h1.below⟩
      · have e3 : (q == p) = false := by rw [beq_eq_false_iff_ne]; exact b3
        go_wp2
        go_ret
        exact ⟨ret_bool (by simp [gbOk, b3]), h1.below⟩
    · have b2 : matOk q r c D = false := by simpa using b2
      rw [b2]
      go_wp2
      go_ret
      exact ⟨ret_bool (by simp [gbOk, b2]), h1.below⟩
  · have b1 : algOk p n T = false := by simpa using b1
    rw [show gbOk p n T q r c D = false by simp [gbOk, b1]]
    go_enter Try.func80, Try.ntmps80
    go_wp2_with fail
    refine (AlgebraOkS_any p n _ T _ (h1.roInts 3 rfl)).mono ?_
    rintro (e : Ending) w1 ⟨rfl, hb1⟩
    replace h1 := h1.on hb1
    clear hb1 y0 y1 y2
    go_wp2
    go_ret
    exact ⟨rfl, h1.below⟩

/-- What SubalgebraBy (false) and IdealBy (true) return. -/
def gbL (k : Bool) (p n : Int) (T : List Int) (r : Int) (D : List Int) : List (List Int) := cloL k T n.toNat p (spanL p n.toNat (rowsM r.toNat n.toNat D))
def gbP (p n : Int) (T : List Int) (q r c : Int) (D : List Int) : Int := if gbOk p n T q r c D then p else 0
def gbR (k : Bool) (p n : Int) (T : List Int) (q r c : Int) (D : List Int) : Int := if gbOk p n T q r c D then (gbL k p n T r D).length else 0
def gbC (p n : Int) (T : List Int) (q r c : Int) (D : List Int) : Int := if gbOk p n T q r c D then n else 0
def gbD (k : Bool) (p n : Int) (T : List Int) (q r c : Int) (D : List Int) : List Int := if gbOk p n T q r c D then flat n.toNat (gbL k p n T r D) else []
theorem gbD_bd (k : Bool) (p n : Int) (T : List Int) (q r c : Int) (D : List Int) : (gbD k p n T q r c D).length ≤ 784 := by
  unfold gbD
  split
  · rename_i h
    obtain ⟨h1, h2, e1, e2⟩ := gbOk_spec h
    subst e1
    obtain ⟨m, rfl, hm, _, _, h3, _, hP⟩ := algOk_spec h1
    obtain ⟨a, b, ea, eb, _, _, _, hr, _⟩ := matOk_spec h2
    rw [length_flat, Int.toNat_natCast]
    obtain ⟨z, hz⟩ := cloTo_rf (k := k) (T := T) hP m (spanL_rf hP (Wf_rowsM (p := q) (by omega) (r := r.toNat) (c := m) hr))
    have hl : (gbL k q m T r D).length ≤ m := by
      rw [gbL, Int.toNat_natCast]
      exact rf_le_n h3 hz
    exact mul_le (Nat.le_trans hl hm) hm
  · simp

set_option maxHeartbeats 4000000 in
theorem SubalgebraByS_any (p n q r c : Int) (t u : Value) (T D : List Int) (w : World) (ht : Ints w t T) (hu : Ints w u D) (hp : p ≤ 9223372036854775807) (hq : q ≤ 9223372036854775807) :
    Calls Try.prog 38 #[.agg #[.int .i64 p, .int .i64 n, t], .agg #[.int .i64 q, .int .i64 r, .int .i64 c, u]] w (RetMatB w (gbP p n T q r c D) (gbR false p n T q r c D) (gbC p n T q r c D) (gbD false p n T q r c D) (gbOk p n T q r c D)) := by
  by_cases b0 : gbOk p n T q r c D = true
  · obtain ⟨g1, g2, e1, e2⟩ := gbOk_spec b0
    subst q
    obtain ⟨m, rfl, k1, kT, k3, k4, k5, k6⟩ := algOk_spec g1
    subst c
    obtain ⟨rs, cs, rfl, ecs, i1, i2, iS, iR, _⟩ := matOk_spec g2
    have e5 : m = cs := by omega
    subst e5
    have hWr := Wf_rowsM (p := p) (by omega) (r := rs) (c := m) iR
    have hRf := spanL_rf k6 hWr
    have hL : gbL false p m T rs D = cloL false T m p (spanL p m (rowsM rs m D)) := by simp [gbL]
    obtain ⟨R0, hR0⟩ : ∃ R0, R0 = spanL p m (rowsM rs m D) := ⟨_, rfl⟩
    rw [← hR0] at hL hRf
    obtain ⟨G, hG⟩ : ∃ G, G = cloL false T m p R0 := ⟨_, rfl⟩
    rw [← hG] at hL
    rw [show gbP p m T p rs m D = p by simp [gbP, b0], show gbR false p m T p rs m D = G.length by rw [gbR, if_pos b0, hL], show gbC p m T p rs m D = m by simp [gbC, b0], show gbD false p m T p rs m D = flat m G by rw [gbD, if_pos b0, hL]; simp, b0]
    have h1 := (((((St.start w).arg ht).arg hu).box [.int .i64 p, .int .i64 m, t] 30).box [.int .i64 p, .int .i64 rs, .int .i64 m, u] 32).box [.int .i64 0, .int .i64 0, .int .i64 0, .slice none 0 0] 32
    simp only [World.size_alloc] at h1
    obtain ⟨A, k, rfl, _, _, _⟩ := id ht
    obtain ⟨A2, k2, rfl, _, _, _⟩ := id hu
    have HV := Lib.hid (fun W (v1 v2 : Value) (a1 : Ints W v1 T) (a2 : Ints W v2 D) => l2Vectors_any p m p rs m v1 v2 T D W a1 a2 hp hp)
    rw [b0] at HV
    have HSp := Lib.hid (show ∀ (W : World) (v1 : Value), Ints W v1 D → Calls Try.prog 82 #[.agg #[.int .i64 p, .int .i64 rs, .int .i64 m, v1]] W (RetMat W p R0.length m (flat m R0)) from fun W v1 x1 => by
      rw [hR0]
      exact l1Span_any p rs m v1 D W x1 iS (by have := mul_le i1 i2; omega) (by omega) (by omega) k6 iR)
    have HC := Lib.hid (show ∀ (W : World) (v1 : Value) (L : List It), St w W (.own v1 (flat m R0) :: L) → L[4]? = some (.ro (.slice A T.length k) T) → Calls Try.prog 81 #[.agg #[.int .i64 p, .int .i64 m, .slice A T.length k], .agg #[.int .i64 p, .int .i64 R0.length, .int .i64 m, v1], .bool false] W (fun e w' => ∃ u, e = .returned (.agg #[.int .i64 p, .int .i64 G.length, .int .i64 m, u]) ∧ St w w' (.own u (flat m G) :: L)) from fun W v1 L x1 x2 => by
      rw [hG]
      exact l2Closed0_st p m 4 v1 _ T R0 x1 x2 kT k1 k6 k3 hRf)
    clear ht hu kT k3 k4 k5 k6 iS iR hL b0 g1 g2 hWr hRf hR0 hG
    obtain ⟨y0, y1, y2⟩ := h1.box3 2 rfl
    obtain ⟨x0, x1, x2, x3⟩ := h1.box4 1 rfl
    go_enter Try.func38, Try.ntmps38
    go_wp2_with fail
    refine (HV.out _ _ _ (h1.roInts 4 rfl) (h1.roInts 3 rfl)).mono ?_
    rintro (e : Ending) w1 ⟨rfl, hb1⟩
    replace h1 := h1.on hb1
    clear hb1 y0 y1 y2 x0 x1 x2 x3
    go_upto_region 3 with fail
    have g0 := h1.drew
    refine wp_region_cut (S := fun w' => (w'.cell? ⟨w.heap.size, 0, none⟩ = some (.int .i64 p) ∧ w'.cell? ⟨w.heap.size, 1, none⟩ = some (.int .i64 m) ∧ w'.cell? ⟨w.heap.size, 2, none⟩ = some (.slice A T.length k)) ∧ w'.cell? ⟨w.heap.size + 1, 0, none⟩ = some (.int .i64 p) ∧ w'.cell? ⟨w.heap.size + 1, 1, none⟩ = some (.int .i64 rs) ∧ w'.cell? ⟨w.heap.size + 1, 2, none⟩ = some (.int .i64 m) ∧ w'.cell? ⟨w.heap.size + 1, 3, none⟩ = some (.slice A2 D.length k2)) 4 (by kernel_rfl) (by kernel_rfl) ⟨g0.box3 2 rfl, g0.box4 1 rfl⟩ (fun hHeld => ?_)
    simp only [List.take_succ_cons, List.take_zero]
    refine anyH_take (v := ?_) 0 rfl (by kernel_rfl) (by kernel_rfl) (by kernel_rfl) (fun _ _ _ h => h) rfl ?_ hHeld ?_
    rotate_left
    · intro w' hSw
      go_simp
      try with_reducible rfl
    try simp only [Act.put, List.setIfInBounds_toArray, List.set_cons_zero, List.set_cons_succ]
    refine anyH_take (v := ?_) 1 rfl (by kernel_rfl) (by kernel_rfl) (by kernel_rfl) (fun _ _ _ h => h) rfl ?_ hHeld ?_
    rotate_left
    · intro w' hSw
      go_simp
      try with_reducible rfl
    try simp only [Act.put, List.setIfInBounds_toArray, List.set_cons_zero, List.set_cons_succ]
    refine wpAnyH_ready (rs := [2]) (by kernel_rfl) (by simp) ?_
    refine ready_cons rfl (fun K hK => ?_) AllReadyH.nil
    go_simp
    refine (HSp.out _ _ (g0.roInts 3 rfl)).mono ?_
    rintro (e : Ending) w2 ⟨u2, rfl, ho2, hb2⟩
    obtain ⟨A6, n6, c6, rfl⟩ := ho2.slice
    have g1 := g0.pushOwn hb2 ho2
    show K _ _
    refine hK.out _ _ ?_ (fun hHeld => ?_)
    · exact ⟨g1.box3 3 rfl, g1.box4 2 rfl⟩
    clear hK K
    try simp only [Act.put, List.setIfInBounds_toArray, List.set_cons_zero, List.set_cons_succ]
    refine wpAnyH_ready (rs := [3]) (by kernel_rfl) (by simp) ?_
    refine ready_cons rfl (fun K hK => ?_) AllReadyH.nil
    go_simp
    refine (HC.out _ _ _ g1 rfl).mono ?_
    rintro (e : Ending) w3 ⟨u3, rfl, g2⟩
    obtain ⟨A7, n7, c7, rfl⟩ := (g2.own 0 rfl).slice
    show K _ _
    refine hK.out _ _ ?_ (fun hHeld => ?_)
    · exact ⟨g2.box3 3 rfl, g2.box4 2 rfl⟩
    clear hK K
    try simp only [Act.put, List.setIfInBounds_toArray, List.set_cons_zero, List.set_cons_succ]
    refine wpAnyH_done (by kernel_rfl) ?_ _
    show wpList _ _ _ _ _ _
    simp only [List.drop_succ_cons, List.drop_zero]
    clear hHeld
    obtain ⟨p0, p1, p2, p3⟩ := g2.box4 1 rfl
    have f0 := g2.free 1 rfl 0
    have f1 := g2.free 1 rfl 1
    have f2 := g2.free 1 rfl 2
    have f3 := g2.free 1 rfl 3
    have h5 := (((g2.setBox 1 rfl 0 (.int .i64 p)).setBox 1 rfl 1 (.int .i64 G.length)).setBox 1 rfl 2 (.int .i64 m)).setBox 1 rfl 3 (.slice A7 n7 c7)
    obtain ⟨r0, r1, r2, r3⟩ := h5.box4 1 rfl
    go_wp2
    refine bodyPost_ret (v := .tuple #[.agg #[.int .i64 p, .int .i64 G.length, .int .i64 m, .slice A7 n7 c7], .bool true]) (by simp [results, Try.results38, go_sem, r0, r1, r2, r3]) rfl ⟨_, rfl, h5.own 0 rfl, h5.below⟩
  · have b0 : gbOk p n T q r c D = false := by simpa using b0
    rw [show gbP p n T q r c D = 0 by simp [gbP, b0], show gbR false p n T q r c D = 0 by simp [gbR, b0], show gbC p n T q r c D = 0 by simp [gbC, b0], show gbD false p n T q r c D = [] by simp [gbD, b0], b0]
    have h1 := (((((St.start w).arg ht).arg hu).box [.int .i64 p, .int .i64 n, t] 30).box [.int .i64 q, .int .i64 r, .int .i64 c, u] 32).box [.int .i64 0, .int .i64 0, .int .i64 0, .slice none 0 0] 32
    simp only [World.size_alloc] at h1
    obtain ⟨A, k, rfl, _, _, _⟩ := id ht
    obtain ⟨A2, k2, rfl, _, _, _⟩ := id hu
    clear ht hu
    obtain ⟨y0, y1, y2⟩ := h1.box3 2 rfl
    obtain ⟨x0, x1, x2, x3⟩ := h1.box4 1 rfl
    go_enter Try.func38, Try.ntmps38
    go_wp2_with fail
    refine (l2Vectors_any p n q r c _ _ T D _ (h1.roInts 4 rfl) (h1.roInts 3 rfl) hp hq).mono ?_
    rintro (e : Ending) w1 ⟨rfl, hb1⟩
    replace h1 := h1.on hb1
    rw [b0]
    clear hb1 y0 y1 y2 x0 x1 x2 x3
    obtain ⟨v0, v1, v2, v3⟩ := h1.box4 0 rfl
    have f0 := h1.free 0 rfl 0
    have f1 := h1.free 0 rfl 1
    have f2 := h1.free 0 rfl 2
    have f3 := h1.free 0 rfl 3
    have h4 := (((h1.setBox 0 rfl 0 (.int .i64 0)).setBox 0 rfl 1 (.int .i64 0)).setBox 0 rfl 2 (.int .i64 0)).setBox 0 rfl 3 (.slice none 0 0)
    obtain ⟨r0, r1, r2, r3⟩ := h4.box4 0 rfl
    go_wp2
    refine bodyPost_ret (v := .tuple #[.agg #[.int .i64 0, .int .i64 0, .int .i64 0, .slice none 0 0], .bool false]) (by simp [results, Try.results38, go_sem, r0, r1, r2, r3]) rfl ⟨_, rfl, Own.nil, h4.below⟩

set_option maxHeartbeats 4000000 in
theorem IdealByS_any (p n q r c : Int) (t u : Value) (T D : List Int) (w : World) (ht : Ints w t T) (hu : Ints w u D) (hp : p ≤ 9223372036854775807) (hq : q ≤ 9223372036854775807) :
    Calls Try.prog 35 #[.agg #[.int .i64 p, .int .i64 n, t], .agg #[.int .i64 q, .int .i64 r, .int .i64 c, u]] w (RetMatB w (gbP p n T q r c D) (gbR true p n T q r c D) (gbC p n T q r c D) (gbD true p n T q r c D) (gbOk p n T q r c D)) := by
  by_cases b0 : gbOk p n T q r c D = true
  · obtain ⟨g1, g2, e1, e2⟩ := gbOk_spec b0
    subst q
    obtain ⟨m, rfl, k1, kT, k3, k4, k5, k6⟩ := algOk_spec g1
    subst c
    obtain ⟨rs, cs, rfl, ecs, i1, i2, iS, iR, _⟩ := matOk_spec g2
    have e5 : m = cs := by omega
    subst e5
    have hWr := Wf_rowsM (p := p) (by omega) (r := rs) (c := m) iR
    have hRf := spanL_rf k6 hWr
    have hL : gbL true p m T rs D = cloL true T m p (spanL p m (rowsM rs m D)) := by simp [gbL]
    obtain ⟨R0, hR0⟩ : ∃ R0, R0 = spanL p m (rowsM rs m D) := ⟨_, rfl⟩
    rw [← hR0] at hL hRf
    obtain ⟨G, hG⟩ : ∃ G, G = cloL true T m p R0 := ⟨_, rfl⟩
    rw [← hG] at hL
    rw [show gbP p m T p rs m D = p by simp [gbP, b0], show gbR true p m T p rs m D = G.length by rw [gbR, if_pos b0, hL], show gbC p m T p rs m D = m by simp [gbC, b0], show gbD true p m T p rs m D = flat m G by rw [gbD, if_pos b0, hL]; simp, b0]
    have h1 := (((((St.start w).arg ht).arg hu).box [.int .i64 p, .int .i64 m, t] 30).box [.int .i64 p, .int .i64 rs, .int .i64 m, u] 32).box [.int .i64 0, .int .i64 0, .int .i64 0, .slice none 0 0] 32
    simp only [World.size_alloc] at h1
    obtain ⟨A, k, rfl, _, _, _⟩ := id ht
    obtain ⟨A2, k2, rfl, _, _, _⟩ := id hu
    have HV := Lib.hid (fun W (v1 v2 : Value) (a1 : Ints W v1 T) (a2 : Ints W v2 D) => l2Vectors_any p m p rs m v1 v2 T D W a1 a2 hp hp)
    rw [b0] at HV
    have HSp := Lib.hid (show ∀ (W : World) (v1 : Value), Ints W v1 D → Calls Try.prog 82 #[.agg #[.int .i64 p, .int .i64 rs, .int .i64 m, v1]] W (RetMat W p R0.length m (flat m R0)) from fun W v1 x1 => by
      rw [hR0]
      exact l1Span_any p rs m v1 D W x1 iS (by have := mul_le i1 i2; omega) (by omega) (by omega) k6 iR)
    have HC := Lib.hid (show ∀ (W : World) (v1 : Value) (L : List It), St w W (.own v1 (flat m R0) :: L) → L[4]? = some (.ro (.slice A T.length k) T) → Calls Try.prog 81 #[.agg #[.int .i64 p, .int .i64 m, .slice A T.length k], .agg #[.int .i64 p, .int .i64 R0.length, .int .i64 m, v1], .bool true] W (fun e w' => ∃ u, e = .returned (.agg #[.int .i64 p, .int .i64 G.length, .int .i64 m, u]) ∧ St w w' (.own u (flat m G) :: L)) from fun W v1 L x1 x2 => by
      rw [hG]
      exact l2Closed1_st p m 4 v1 _ T R0 x1 x2 kT k1 k6 k3 hRf)
    clear ht hu kT k3 k4 k5 k6 iS iR hL b0 g1 g2 hWr hRf hR0 hG
    obtain ⟨y0, y1, y2⟩ := h1.box3 2 rfl
    obtain ⟨x0, x1, x2, x3⟩ := h1.box4 1 rfl
    go_enter Try.func35, Try.ntmps35
    go_wp2_with fail
    refine (HV.out _ _ _ (h1.roInts 4 rfl) (h1.roInts 3 rfl)).mono ?_
    rintro (e : Ending) w1 ⟨rfl, hb1⟩
    replace h1 := h1.on hb1
    clear hb1 y0 y1 y2 x0 x1 x2 x3
    go_upto_region 3 with fail
    have g0 := h1.drew
    refine wp_region_cut (S := fun w' => (w'.cell? ⟨w.heap.size, 0, none⟩ = some (.int .i64 p) ∧ w'.cell? ⟨w.heap.size, 1, none⟩ = some (.int .i64 m) ∧ w'.cell? ⟨w.heap.size, 2, none⟩ = some (.slice A T.length k)) ∧ w'.cell? ⟨w.heap.size + 1, 0, none⟩ = some (.int .i64 p) ∧ w'.cell? ⟨w.heap.size + 1, 1, none⟩ = some (.int .i64 rs) ∧ w'.cell? ⟨w.heap.size + 1, 2, none⟩ = some (.int .i64 m) ∧ w'.cell? ⟨w.heap.size + 1, 3, none⟩ = some (.slice A2 D.length k2)) 4 (by kernel_rfl) (by kernel_rfl) ⟨g0.box3 2 rfl, g0.box4 1 rfl⟩ (fun hHeld => ?_)
    simp only [List.take_succ_cons, List.take_zero]
    refine anyH_take (v := ?_) 0 rfl (by kernel_rfl) (by kernel_rfl) (by kernel_rfl) (fun _ _ _ h => h) rfl ?_ hHeld ?_
    rotate_left
    · intro w' hSw
      go_simp
      try with_reducible rfl
    try simp only [Act.put, List.setIfInBounds_toArray, List.set_cons_zero, List.set_cons_succ]
    refine anyH_take (v := ?_) 1 rfl (by kernel_rfl) (by kernel_rfl) (by kernel_rfl) (fun _ _ _ h => h) rfl ?_ hHeld ?_
    rotate_left
    · intro w' hSw
      go_simp
      try with_reducible rfl
    try simp only [Act.put, List.setIfInBounds_toArray, List.set_cons_zero, List.set_cons_succ]
    refine wpAnyH_ready (rs := [2]) (by kernel_rfl) (by simp) ?_
    refine ready_cons rfl (fun K hK => ?_) AllReadyH.nil
    go_simp
    refine (HSp.out _ _ (g0.roInts 3 rfl)).mono ?_
    rintro (e : Ending) w2 ⟨u2, rfl, ho2, hb2⟩
    obtain ⟨A6, n6, c6, rfl⟩ := ho2.slice
    have g1 := g0.pushOwn hb2 ho2
    show K _ _
    refine hK.out _ _ ?_ (fun hHeld => ?_)
    · exact ⟨g1.box3 3 rfl, g1.box4 2 rfl⟩
    clear hK K
    try simp only [Act.put, List.setIfInBounds_toArray, List.set_cons_zero, List.set_cons_succ]
    refine wpAnyH_ready (rs := [3]) (by kernel_rfl) (by simp) ?_
    refine ready_cons rfl (fun K hK => ?_) AllReadyH.nil
    go_simp
    refine (HC.out _ _ _ g1 rfl).mono ?_
    rintro (e : Ending) w3 ⟨u3, rfl, g2⟩
    obtain ⟨A7, n7, c7, rfl⟩ := (g2.own 0 rfl).slice
    show K _ _
    refine hK.out _ _ ?_ (fun hHeld => ?_)
    · exact ⟨g2.box3 3 rfl, g2.box4 2 rfl⟩
    clear hK K
    try simp only [Act.put, List.setIfInBounds_toArray, List.set_cons_zero, List.set_cons_succ]
    refine wpAnyH_done (by kernel_rfl) ?_ _
    show wpList _ _ _ _ _ _
    simp only [List.drop_succ_cons, List.drop_zero]
    clear hHeld
    obtain ⟨p0, p1, p2, p3⟩ := g2.box4 1 rfl
    have f0 := g2.free 1 rfl 0
    have f1 := g2.free 1 rfl 1
    have f2 := g2.free 1 rfl 2
    have f3 := g2.free 1 rfl 3
    have h5 := (((g2.setBox 1 rfl 0 (.int .i64 p)).setBox 1 rfl 1 (.int .i64 G.length)).setBox 1 rfl 2 (.int .i64 m)).setBox 1 rfl 3 (.slice A7 n7 c7)
    obtain ⟨r0, r1, r2, r3⟩ := h5.box4 1 rfl
    go_wp2
    refine bodyPost_ret (v := .tuple #[.agg #[.int .i64 p, .int .i64 G.length, .int .i64 m, .slice A7 n7 c7], .bool true]) (by simp [results, Try.results35, go_sem, r0, r1, r2, r3]) rfl ⟨_, rfl, h5.own 0 rfl, h5.below⟩
  · have b0 : gbOk p n T q r c D = false := by simpa using b0
    rw [show gbP p n T q r c D = 0 by simp [gbP, b0], show gbR true p n T q r c D = 0 by simp [gbR, b0], show gbC p n T q r c D = 0 by simp [gbC, b0], show gbD true p n T q r c D = [] by simp [gbD, b0], b0]
    have h1 := (((((St.start w).arg ht).arg hu).box [.int .i64 p, .int .i64 n, t] 30).box [.int .i64 q, .int .i64 r, .int .i64 c, u] 32).box [.int .i64 0, .int .i64 0, .int .i64 0, .slice none 0 0] 32
    simp only [World.size_alloc] at h1
    obtain ⟨A, k, rfl, _, _, _⟩ := id ht
    obtain ⟨A2, k2, rfl, _, _, _⟩ := id hu
    clear ht hu
    obtain ⟨y0, y1, y2⟩ := h1.box3 2 rfl
    obtain ⟨x0, x1, x2, x3⟩ := h1.box4 1 rfl
    go_enter Try.func35, Try.ntmps35
    go_wp2_with fail
    refine (l2Vectors_any p n q r c _ _ T D _ (h1.roInts 4 rfl) (h1.roInts 3 rfl) hp hq).mono ?_
    rintro (e : Ending) w1 ⟨rfl, hb1⟩
    replace h1 := h1.on hb1
    rw [b0]
    clear hb1 y0 y1 y2 x0 x1 x2 x3
    obtain ⟨v0, v1, v2, v3⟩ := h1.box4 0 rfl
    have f0 := h1.free 0 rfl 0
    have f1 := h1.free 0 rfl 1
    have f2 := h1.free 0 rfl 2
    have f3 := h1.free 0 rfl 3
    have h4 := (((h1.setBox 0 rfl 0 (.int .i64 0)).setBox 0 rfl 1 (.int .i64 0)).setBox 0 rfl 2 (.int .i64 0)).setBox 0 rfl 3 (.slice none 0 0)
    obtain ⟨r0, r1, r2, r3⟩ := h4.box4 0 rfl
    go_wp2
    refine bodyPost_ret (v := .tuple #[.agg #[.int .i64 0, .int .i64 0, .int .i64 0, .slice none 0 0], .bool false]) (by simp [results, Try.results35, go_sem, r0, r1, r2, r3]) rfl ⟨_, rfl, Own.nil, h4.below⟩

set_option maxHeartbeats 4000000 in
theorem SubalgebraByI_any (p n q r c : Int) (t u : Value) (T D : List Int) (w : World) (ht : Ints w t T) (hu : Ints w u D) (hp : p ≤ 9223372036854775807) (hq : q ≤ 9223372036854775807) :
    Calls Try.prog 39 #[.agg #[.int .i64 p, .int .i64 n, t], .agg #[.int .i64 q, .int .i64 r, .int .i64 c, u]] w (RetMatB w (gbP p n T q r c D) (gbR false p n T q r c D) (gbC p n T q r c D) (gbD false p n T q r c D) (gbOk p n T q r c D)) := by
  by_cases b0 : gbOk p n T q r c D = true
  · obtain ⟨g1, g2, e1, e2⟩ := gbOk_spec b0
    subst q
    obtain ⟨m, rfl, k1, kT, k3, k4, k5, k6⟩ := algOk_spec g1
    subst c
    obtain ⟨rs, cs, rfl, ecs, i1, i2, iS, iR, _⟩ := matOk_spec g2
    have e5 : m = cs := by omega
    subst e5
    have hWr := Wf_rowsM (p := p) (by omega) (r := rs) (c := m) iR
    have hRf := spanL_rf k6 hWr
    have hL : gbL false p m T rs D = cloL false T m p (spanL p m (rowsM rs m D)) := by simp [gbL]
    obtain ⟨R0, hR0⟩ : ∃ R0, R0 = spanL p m (rowsM rs m D) := ⟨_, rfl⟩
    rw [← hR0] at hL hRf
    obtain ⟨G, hG⟩ : ∃ G, G = cloL false T m p R0 := ⟨_, rfl⟩
    rw [← hG] at hL
    rw [show gbP p m T p rs m D = p by simp [gbP, b0], show gbR false p m T p rs m D = G.length by rw [gbR, if_pos b0, hL], show gbC p m T p rs m D = m by simp [gbC, b0], show gbD false p m T p rs m D = flat m G by rw [gbD, if_pos b0, hL]; simp, b0]
    have h1 := (((((St.start w).arg ht).arg hu).box [.int .i64 p, .int .i64 m, t] 30).box [.int .i64 p, .int .i64 rs, .int .i64 m, u] 32).box [.int .i64 0, .int .i64 0, .int .i64 0, .slice none 0 0] 32
    simp only [World.size_alloc] at h1
    obtain ⟨A, k, rfl, _, _, _⟩ := id ht
    obtain ⟨A2, k2, rfl, _, _, _⟩ := id hu
    have HA := Lib.hid (fun W (v1 : Value) (a1 : Ints W v1 T) => AlgebraOkI_any p m v1 T W a1 hp)
    rw [g1] at HA
    have HM := Lib.hid (fun W (v1 : Value) (a1 : Ints W v1 D) => MatrixOkI_any p rs m v1 D W a1 hp)
    rw [g2] at HM
    have HSp := Lib.hid (show ∀ (W : World) (v1 : Value), Ints W v1 D → Calls Try.prog 84 #[.agg #[.int .i64 p, .int .i64 rs, .int .i64 m, v1]] W (RetMat W p R0.length m (flat m R0)) from fun W v1 x1 => by
      rw [hR0]
      exact SpanOf_any p rs m v1 D W x1 iS i1 i2 k6 iR)
    have HC := Lib.hid (show ∀ (W : World) (v1 : Value) (L : List It), St w W (.own v1 (flat m R0) :: L) → L[4]? = some (.ro (.slice A T.length k) T) → Calls Try.prog 83 #[.agg #[.int .i64 p, .int .i64 m, .slice A T.length k], .agg #[.int .i64 p, .int .i64 R0.length, .int .i64 m, v1], .bool false] W (fun e w' => ∃ u, e = .returned (.agg #[.int .i64 p, .int .i64 G.length, .int .i64 m, u]) ∧ St w w' (.own u (flat m G) :: L)) from fun W v1 L x1 x2 => by
      rw [hG]
      exact closed0_st p m 4 v1 _ T R0 x1 x2 kT k1 k6 k3 (anti_of g1) hRf)
    clear ht hu kT k3 k4 k5 k6 iS iR hL b0 g1 g2 hWr hRf hR0 hG
    obtain ⟨y0, y1, y2⟩ := h1.box3 2 rfl
    go_enter Try.func39, Try.ntmps39
    go_wp2_with fail
    refine (HA.out _ _ (h1.roInts 4 rfl)).mono ?_
    rintro (e : Ending) w1 ⟨rfl, hb1⟩
    replace h1 := h1.on hb1
    clear hb1 y0 y1 y2
    obtain ⟨x0, x1, x2, x3⟩ := h1.box4 1 rfl
    go_wp2_with fail
    refine (HM.out _ _ (h1.roInts 3 rfl)).mono ?_
    rintro (e : Ending) w2 ⟨rfl, hb1⟩
    replace h1 := h1.on hb1
    clear hb1 x0 x1 x2 x3
    obtain ⟨y0, y1, y2⟩ := h1.box3 2 rfl
    obtain ⟨x0, x1, x2, x3⟩ := h1.box4 1 rfl
    go_upto_region 3 with fail
    clear y0 y1 y2 x0 x1 x2 x3
    have g0 := h1.drew
    refine wp_region_cut (S := fun w' => (w'.cell? ⟨w.heap.size, 0, none⟩ = some (.int .i64 p) ∧ w'.cell? ⟨w.heap.size, 1, none⟩ = some (.int .i64 m) ∧ w'.cell? ⟨w.heap.size, 2, none⟩ = some (.slice A T.length k)) ∧ w'.cell? ⟨w.heap.size + 1, 0, none⟩ = some (.int .i64 p) ∧ w'.cell? ⟨w.heap.size + 1, 1, none⟩ = some (.int .i64 rs) ∧ w'.cell? ⟨w.heap.size + 1, 2, none⟩ = some (.int .i64 m) ∧ w'.cell? ⟨w.heap.size + 1, 3, none⟩ = some (.slice A2 D.length k2)) 5 (by kernel_rfl) (by kernel_rfl) ⟨g0.box3 2 rfl, g0.box4 1 rfl⟩ (fun hHeld => ?_)
    simp only [List.take_succ_cons, List.take_zero]
    refine anyH_take (v := ?_) 0 rfl (by kernel_rfl) (by kernel_rfl) (by kernel_rfl) (fun _ _ _ h => h) rfl ?_ hHeld ?_
    rotate_left
    · intro w' hSw
      go_simp
      try with_reducible rfl
    try simp only [Act.put, List.setIfInBounds_toArray, List.set_cons_zero, List.set_cons_succ]
    refine anyH_take (v := ?_) 2 rfl (by kernel_rfl) (by kernel_rfl) (by kernel_rfl) (fun _ _ _ h => h) rfl ?_ hHeld ?_
    rotate_left
    · intro w' hSw
      go_simp
      try with_reducible rfl
    try simp only [Act.put, List.setIfInBounds_toArray, List.set_cons_zero, List.set_cons_succ]
    refine wpAnyH_ready (rs := [1]) (by kernel_rfl) (by simp) ?_
    refine ready_cons rfl (fun K hK => ?_) AllReadyH.nil
    go_simp
    refine (newLie_any p m (.slice A T.length k) A T.length k _ rfl).mono ?_
    rintro (e : Ending) w3 ⟨rfl, hb3⟩
    have g1 := g0.on hb3
    show K _ _
    refine hK.out _ _ ?_ (fun hHeld => ?_)
    · exact ⟨g1.box3 2 rfl, g1.box4 1 rfl⟩
    clear hK K
    try simp only [Act.put, List.setIfInBounds_toArray, List.set_cons_zero, List.set_cons_succ]
    refine wpAnyH_ready (rs := [3]) (by kernel_rfl) (by simp) ?_
    refine ready_cons rfl (fun K hK => ?_) AllReadyH.nil
    go_simp
    refine (HSp.out _ _ (g1.roInts 3 rfl)).mono ?_
    rintro (e : Ending) w4 ⟨u4, rfl, ho4, hb4⟩
    obtain ⟨A6, n6, c6, rfl⟩ := ho4.slice
    have g2 := g1.pushOwn hb4 ho4
    show K _ _
    refine hK.out _ _ ?_ (fun hHeld => ?_)
    · exact ⟨g2.box3 3 rfl, g2.box4 2 rfl⟩
    clear hK K
    try simp only [Act.put, List.setIfInBounds_toArray, List.set_cons_zero, List.set_cons_succ]
    refine wpAnyH_ready (rs := [4]) (by kernel_rfl) (by simp) ?_
    refine ready_cons rfl (fun K hK => ?_) AllReadyH.nil
    go_simp
    refine (HC.out _ _ _ g2 rfl).mono ?_
    rintro (e : Ending) w5 ⟨u5, rfl, g3⟩
    obtain ⟨A7, n7, c7, rfl⟩ := (g3.own 0 rfl).slice
    show K _ _
    refine hK.out _ _ ?_ (fun hHeld => ?_)
    · exact ⟨g3.box3 3 rfl, g3.box4 2 rfl⟩
    clear hK K
    try simp only [Act.put, List.setIfInBounds_toArray, List.set_cons_zero, List.set_cons_succ]
    refine wpAnyH_done (by kernel_rfl) ?_ _
    show wpList _ _ _ _ _ _
    simp only [List.drop_succ_cons, List.drop_zero]
    clear hHeld
    obtain ⟨p0, p1, p2, p3⟩ := g3.box4 1 rfl
    have f0 := g3.free 1 rfl 0
    have f1 := g3.free 1 rfl 1
    have f2 := g3.free 1 rfl 2
    have f3 := g3.free 1 rfl 3
    have h5 := (((g3.setBox 1 rfl 0 (.int .i64 p)).setBox 1 rfl 1 (.int .i64 G.length)).setBox 1 rfl 2 (.int .i64 m)).setBox 1 rfl 3 (.slice A7 n7 c7)
    obtain ⟨r0, r1, r2, r3⟩ := h5.box4 1 rfl
    go_wp2
    refine bodyPost_ret (v := .tuple #[.agg #[.int .i64 p, .int .i64 G.length, .int .i64 m, .slice A7 n7 c7], .bool true]) (by simp [results, Try.results39, go_sem, r0, r1, r2, r3]) rfl ⟨_, rfl, h5.own 0 rfl, h5.below⟩
  · have b0 : gbOk p n T q r c D = false := by simpa using b0
    rw [show gbP p n T q r c D = 0 by simp [gbP, b0], show gbR false p n T q r c D = 0 by simp [gbR, b0], show gbC p n T q r c D = 0 by simp [gbC, b0], show gbD false p n T q r c D = [] by simp [gbD, b0], b0]
    have h1 := (((((St.start w).arg ht).arg hu).box [.int .i64 p, .int .i64 n, t] 30).box [.int .i64 q, .int .i64 r, .int .i64 c, u] 32).box [.int .i64 0, .int .i64 0, .int .i64 0, .slice none 0 0] 32
    simp only [World.size_alloc] at h1
    obtain ⟨A, k, rfl, _, _, _⟩ := id ht
    obtain ⟨A2, k2, rfl, _, _, _⟩ := id hu
    clear ht hu
    obtain ⟨y0, y1, y2⟩ := h1.box3 2 rfl
    go_enter Try.func39, Try.ntmps39
    go_wp2_with fail
    refine (AlgebraOkI_any p n _ T _ (h1.roInts 4 rfl) hp).mono ?_
    rintro (e : Ending) w1 ⟨rfl, hb1⟩
    replace h1 := h1.on hb1
    clear hb1 y0 y1 y2
    by_cases b1 : algOk p n T = true
    · obtain ⟨x0, x1, x2, x3⟩ := h1.box4 1 rfl
      rw [b1]
      go_wp2_with fail
      refine (MatrixOkI_any q r c _ D _ (h1.roInts 3 rfl) hq).mono ?_
      rintro (e : Ending) w2 ⟨rfl, hb1⟩
      replace h1 := h1.on hb1
      clear hb1 x0 x1 x2 x3
      by_cases b2 : matOk q r c D = true
      · rw [b2]
        obtain ⟨y0, y1, y2⟩ := h1.box3 2 rfl
        obtain ⟨x0, x1, x2, x3⟩ := h1.box4 1 rfl
        obtain ⟨v0, v1, v2, v3⟩ := h1.box4 0 rfl
        by_cases b3 : q = p
        · subst b3
          have b4 : ¬ c = n := fun h => by subst h; simp [gbOk, b1, b2] at b0
          have e4 : (c == n) = false := by rw [beq_eq_false_iff_ne]; exact b4
          have e5 : (c != n) = true := by rw [bne, e4]; rfl
          clear b0
          have f0 := h1.free 0 rfl 0
          have f1 := h1.free 0 rfl 1
          have f2 := h1.free 0 rfl 2
          have f3 := h1.free 0 rfl 3
          have h4 := (((h1.setBox 0 rfl 0 (.int .i64 0)).setBox 0 rfl 1 (.int .i64 0)).setBox 0 rfl 2 (.int .i64 0)).setBox 0 rfl 3 (.slice none 0 0)
          obtain ⟨r0, r1, r2, r3⟩ := h4.box4 0 rfl
          go_wp2
          refine bodyPost_ret (v := .tuple #[.agg #[.int .i64 0, .int .i64 0, .int .i64 0, .slice none 0 0], .bool false]) (by simp [results, Try.results39, go_sem, r0, r1, r2, r3]) rfl ⟨_, rfl, Own.nil, h4.below⟩
        · have e4 : (q == p) = false := by rw [beq_eq_false_iff_ne]; exact b3
          have e5 : (q != p) = true := by rw [bne, e4]; rfl
          clear b0
          have f0 := h1.free 0 rfl 0
          have f1 := h1.free 0 rfl 1
          have f2 := h1.free 0 rfl 2
          have f3 := h1.free 0 rfl 3
          have h4 := (((h1.setBox 0 rfl 0 (.int .i64 0)).setBox 0 rfl 1 (.int .i64 0)).setBox 0 rfl 2 (.int .i64 0)).setBox 0 rfl 3 (.slice none 0 0)
          obtain ⟨r0, r1, r2, r3⟩ := h4.box4 0 rfl
          go_wp2
          refine bodyPost_ret (v := .tuple #[.agg #[.int .i64 0, .int .i64 0, .int .i64 0, .slice none 0 0], .bool false]) (by simp [results, Try.results39, go_sem, r0, r1, r2, r3]) rfl ⟨_, rfl, Own.nil, h4.below⟩
      · have b2 : matOk q r c D = false := by simpa using b2
        rw [b2]
        obtain ⟨v0, v1, v2, v3⟩ := h1.box4 0 rfl
        have f0 := h1.free 0 rfl 0
        have f1 := h1.free 0 rfl 1
        have f2 := h1.free 0 rfl 2
        have f3 := h1.free 0 rfl 3
        have h4 := (((h1.setBox 0 rfl 0 (.int .i64 0)).setBox 0 rfl 1 (.int .i64 0)).setBox 0 rfl 2 (.int .i64 0)).setBox 0 rfl 3 (.slice none 0 0)
        obtain ⟨r0, r1, r2, r3⟩ := h4.box4 0 rfl
        go_wp2
        refine bodyPost_ret (v := .tuple #[.agg #[.int .i64 0, .int .i64 0, .int .i64 0, .slice none 0 0], .bool false]) (by simp [results, Try.results39, go_sem, r0, r1, r2, r3]) rfl ⟨_, rfl, Own.nil, h4.below⟩
    · have b1 : algOk p n T = false := by simpa using b1
      rw [b1]
      obtain ⟨v0, v1, v2, v3⟩ := h1.box4 0 rfl
      have f0 := h1.free 0 rfl 0
      have f1 := h1.free 0 rfl 1
      have f2 := h1.free 0 rfl 2
      have f3 := h1.free 0 rfl 3
      have h4 := (((h1.setBox 0 rfl 0 (.int .i64 0)).setBox 0 rfl 1 (.int .i64 0)).setBox 0 rfl 2 (.int .i64 0)).setBox 0 rfl 3 (.slice none 0 0)
      obtain ⟨r0, r1, r2, r3⟩ := h4.box4 0 rfl
      go_wp2
      refine bodyPost_ret (v := .tuple #[.agg #[.int .i64 0, .int .i64 0, .int .i64 0, .slice none 0 0], .bool false]) (by simp [results, Try.results39, go_sem, r0, r1, r2, r3]) rfl ⟨_, rfl, Own.nil, h4.below⟩

set_option maxHeartbeats 4000000 in
theorem IdealByI_any (p n q r c : Int) (t u : Value) (T D : List Int) (w : World) (ht : Ints w t T) (hu : Ints w u D) (hp : p ≤ 9223372036854775807) (hq : q ≤ 9223372036854775807) :
    Calls Try.prog 36 #[.agg #[.int .i64 p, .int .i64 n, t], .agg #[.int .i64 q, .int .i64 r, .int .i64 c, u]] w (RetMatB w (gbP p n T q r c D) (gbR true p n T q r c D) (gbC p n T q r c D) (gbD true p n T q r c D) (gbOk p n T q r c D)) := by
  by_cases b0 : gbOk p n T q r c D = true
  · obtain ⟨g1, g2, e1, e2⟩ := gbOk_spec b0
    subst q
    obtain ⟨m, rfl, k1, kT, k3, k4, k5, k6⟩ := algOk_spec g1
    subst c
    obtain ⟨rs, cs, rfl, ecs, i1, i2, iS, iR, _⟩ := matOk_spec g2
    have e5 : m = cs := by omega
    subst e5
    have hWr := Wf_rowsM (p := p) (by omega) (r := rs) (c := m) iR
    have hRf := spanL_rf k6 hWr
    have hL : gbL true p m T rs D = cloL true T m p (spanL p m (rowsM rs m D)) := by simp [gbL]
    obtain ⟨R0, hR0⟩ : ∃ R0, R0 = spanL p m (rowsM rs m D) := ⟨_, rfl⟩
    rw [← hR0] at hL hRf
    obtain ⟨G, hG⟩ : ∃ G, G = cloL true T m p R0 := ⟨_, rfl⟩
    rw [← hG] at hL
    rw [show gbP p m T p rs m D = p by simp [gbP, b0], show gbR true p m T p rs m D = G.length by rw [gbR, if_pos b0, hL], show gbC p m T p rs m D = m by simp [gbC, b0], show gbD true p m T p rs m D = flat m G by rw [gbD, if_pos b0, hL]; simp, b0]
    have h1 := (((((St.start w).arg ht).arg hu).box [.int .i64 p, .int .i64 m, t] 30).box [.int .i64 p, .int .i64 rs, .int .i64 m, u] 32).box [.int .i64 0, .int .i64 0, .int .i64 0, .slice none 0 0] 32
    simp only [World.size_alloc] at h1
    obtain ⟨A, k, rfl, _, _, _⟩ := id ht
    obtain ⟨A2, k2, rfl, _, _, _⟩ := id hu
    have HA := Lib.hid (fun W (v1 : Value) (a1 : Ints W v1 T) => AlgebraOkI_any p m v1 T W a1 hp)
    rw [g1] at HA
    have HM := Lib.hid (fun W (v1 : Value) (a1 : Ints W v1 D) => MatrixOkI_any p rs m v1 D W a1 hp)
    rw [g2] at HM
    have HSp := Lib.hid (show ∀ (W : World) (v1 : Value), Ints W v1 D → Calls Try.prog 84 #[.agg #[.int .i64 p, .int .i64 rs, .int .i64 m, v1]] W (RetMat W p R0.length m (flat m R0)) from fun W v1 x1 => by
      rw [hR0]
      exact SpanOf_any p rs m v1 D W x1 iS i1 i2 k6 iR)
    have HC := Lib.hid (show ∀ (W : World) (v1 : Value) (L : List It), St w W (.own v1 (flat m R0) :: L) → L[4]? = some (.ro (.slice A T.length k) T) → Calls Try.prog 83 #[.agg #[.int .i64 p, .int .i64 m, .slice A T.length k], .agg #[.int .i64 p, .int .i64 R0.length, .int .i64 m, v1], .bool true] W (fun e w' => ∃ u, e = .returned (.agg #[.int .i64 p, .int .i64 G.length, .int .i64 m, u]) ∧ St w w' (.own u (flat m G) :: L)) from fun W v1 L x1 x2 => by
      rw [hG]
      exact closed1_st p m 4 v1 _ T R0 x1 x2 kT k1 k6 k3 (anti_of g1) hRf)
    clear ht hu kT k3 k4 k5 k6 iS iR hL b0 g1 g2 hWr hRf hR0 hG
    obtain ⟨y0, y1, y2⟩ := h1.box3 2 rfl
    go_enter Try.func36, Try.ntmps36
    go_wp2_with fail
    refine (HA.out _ _ (h1.roInts 4 rfl)).mono ?_
    rintro (e : Ending) w1 ⟨rfl, hb1⟩
    replace h1 := h1.on hb1
    clear hb1 y0 y1 y2
    obtain ⟨x0, x1, x2, x3⟩ := h1.box4 1 rfl
    go_wp2_with fail
    refine (HM.out _ _ (h1.roInts 3 rfl)).mono ?_
    rintro (e : Ending) w2 ⟨rfl, hb1⟩
    replace h1 := h1.on hb1
    clear hb1 x0 x1 x2 x3
    obtain ⟨y0, y1, y2⟩ := h1.box3 2 rfl
    obtain ⟨x0, x1, x2, x3⟩ := h1.box4 1 rfl
    go_upto_region 3 with fail
    clear y0 y1 y2 x0 x1 x2 x3
    have g0 := h1.drew
    refine wp_region_cut (S := fun w' => (w'.cell? ⟨w.heap.size, 0, none⟩ = some (.int .i64 p) ∧ w'.cell? ⟨w.heap.size, 1, none⟩ = some (.int .i64 m) ∧ w'.cell? ⟨w.heap.size, 2, none⟩ = some (.slice A T.length k)) ∧ w'.cell? ⟨w.heap.size + 1, 0, none⟩ = some (.int .i64 p) ∧ w'.cell? ⟨w.heap.size + 1, 1, none⟩ = some (.int .i64 rs) ∧ w'.cell? ⟨w.heap.size + 1, 2, none⟩ = some (.int .i64 m) ∧ w'.cell? ⟨w.heap.size + 1, 3, none⟩ = some (.slice A2 D.length k2)) 5 (by kernel_rfl) (by kernel_rfl) ⟨g0.box3 2 rfl, g0.box4 1 rfl⟩ (fun hHeld => ?_)
    simp only [List.take_succ_cons, List.take_zero]
    refine anyH_take (v := ?_) 0 rfl (by kernel_rfl) (by kernel_rfl) (by kernel_rfl) (fun _ _ _ h => h) rfl ?_ hHeld ?_
    rotate_left
    · intro w' hSw
      go_simp
      try with_reducible rfl
    try simp only [Act.put, List.setIfInBounds_toArray, List.set_cons_zero, List.set_cons_succ]
    refine anyH_take (v := ?_) 2 rfl (by kernel_rfl) (by kernel_rfl) (by kernel_rfl) (fun _ _ _ h => h) rfl ?_ hHeld ?_
    rotate_left
    · intro w' hSw
      go_simp
      try with_reducible rfl
    try simp only [Act.put, List.setIfInBounds_toArray, List.set_cons_zero, List.set_cons_succ]
    refine wpAnyH_ready (rs := [1]) (by kernel_rfl) (by simp) ?_
    refine ready_cons rfl (fun K hK => ?_) AllReadyH.nil
    go_simp
    refine (newLie_any p m (.slice A T.length k) A T.length k _ rfl).mono ?_
    rintro (e : Ending) w3 ⟨rfl, hb3⟩
    have g1 := g0.on hb3
    show K _ _
    refine hK.out _ _ ?_ (fun hHeld => ?_)
    · exact ⟨g1.box3 2 rfl, g1.box4 1 rfl⟩
    clear hK K
    try simp only [Act.put, List.setIfInBounds_toArray, List.set_cons_zero, List.set_cons_succ]
    refine wpAnyH_ready (rs := [3]) (by kernel_rfl) (by simp) ?_
    refine ready_cons rfl (fun K hK => ?_) AllReadyH.nil
    go_simp
    refine (HSp.out _ _ (g1.roInts 3 rfl)).mono ?_
    rintro (e : Ending) w4 ⟨u4, rfl, ho4, hb4⟩
    obtain ⟨A6, n6, c6, rfl⟩ := ho4.slice
    have g2 := g1.pushOwn hb4 ho4
    show K _ _
    refine hK.out _ _ ?_ (fun hHeld => ?_)
    · exact ⟨g2.box3 3 rfl, g2.box4 2 rfl⟩
    clear hK K
    try simp only [Act.put, List.setIfInBounds_toArray, List.set_cons_zero, List.set_cons_succ]
    refine wpAnyH_ready (rs := [4]) (by kernel_rfl) (by simp) ?_
    refine ready_cons rfl (fun K hK => ?_) AllReadyH.nil
    go_simp
    refine (HC.out _ _ _ g2 rfl).mono ?_
    rintro (e : Ending) w5 ⟨u5, rfl, g3⟩
    obtain ⟨A7, n7, c7, rfl⟩ := (g3.own 0 rfl).slice
    show K _ _
    refine hK.out _ _ ?_ (fun hHeld => ?_)
    · exact ⟨g3.box3 3 rfl, g3.box4 2 rfl⟩
    clear hK K
    try simp only [Act.put, List.setIfInBounds_toArray, List.set_cons_zero, List.set_cons_succ]
    refine wpAnyH_done (by kernel_rfl) ?_ _
    show wpList _ _ _ _ _ _
    simp only [List.drop_succ_cons, List.drop_zero]
    clear hHeld
    obtain ⟨p0, p1, p2, p3⟩ := g3.box4 1 rfl
    have f0 := g3.free 1 rfl 0
    have f1 := g3.free 1 rfl 1
    have f2 := g3.free 1 rfl 2
    have f3 := g3.free 1 rfl 3
    have h5 := (((g3.setBox 1 rfl 0 (.int .i64 p)).setBox 1 rfl 1 (.int .i64 G.length)).setBox 1 rfl 2 (.int .i64 m)).setBox 1 rfl 3 (.slice A7 n7 c7)
    obtain ⟨r0, r1, r2, r3⟩ := h5.box4 1 rfl
    go_wp2
    refine bodyPost_ret (v := .tuple #[.agg #[.int .i64 p, .int .i64 G.length, .int .i64 m, .slice A7 n7 c7], .bool true]) (by simp [results, Try.results36, go_sem, r0, r1, r2, r3]) rfl ⟨_, rfl, h5.own 0 rfl, h5.below⟩
  · have b0 : gbOk p n T q r c D = false := by simpa using b0
    rw [show gbP p n T q r c D = 0 by simp [gbP, b0], show gbR true p n T q r c D = 0 by simp [gbR, b0], show gbC p n T q r c D = 0 by simp [gbC, b0], show gbD true p n T q r c D = [] by simp [gbD, b0], b0]
    have h1 := (((((St.start w).arg ht).arg hu).box [.int .i64 p, .int .i64 n, t] 30).box [.int .i64 q, .int .i64 r, .int .i64 c, u] 32).box [.int .i64 0, .int .i64 0, .int .i64 0, .slice none 0 0] 32
    simp only [World.size_alloc] at h1
    obtain ⟨A, k, rfl, _, _, _⟩ := id ht
    obtain ⟨A2, k2, rfl, _, _, _⟩ := id hu
    clear ht hu
    obtain ⟨y0, y1, y2⟩ := h1.box3 2 rfl
    go_enter Try.func36, Try.ntmps36
    go_wp2_with fail
    refine (AlgebraOkI_any p n _ T _ (h1.roInts 4 rfl) hp).mono ?_
    rintro (e : Ending) w1 ⟨rfl, hb1⟩
    replace h1 := h1.on hb1
    clear hb1 y0 y1 y2
    by_cases b1 : algOk p n T = true
    · obtain ⟨x0, x1, x2, x3⟩ := h1.box4 1 rfl
      rw [b1]
      go_wp2_with fail
      refine (MatrixOkI_any q r c _ D _ (h1.roInts 3 rfl) hq).mono ?_
      rintro (e : Ending) w2 ⟨rfl, hb1⟩
      replace h1 := h1.on hb1
      clear hb1 x0 x1 x2 x3
      by_cases b2 : matOk q r c D = true
      · rw [b2]
        obtain ⟨y0, y1, y2⟩ := h1.box3 2 rfl
        obtain ⟨x0, x1, x2, x3⟩ := h1.box4 1 rfl
        obtain ⟨v0, v1, v2, v3⟩ := h1.box4 0 rfl
        by_cases b3 : q = p
        · subst b3
          have b4 : ¬ c = n := fun h => by subst h; simp [gbOk, b1, b2] at b0
          have e4 : (c == n) = false := by rw [beq_eq_false_iff_ne]; exact b4
          have e5 : (c != n) = true := by rw [bne, e4]; rfl
          clear b0
          have f0 := h1.free 0 rfl 0
          have f1 := h1.free 0 rfl 1
          have f2 := h1.free 0 rfl 2
          have f3 := h1.free 0 rfl 3
          have h4 := (((h1.setBox 0 rfl 0 (.int .i64 0)).setBox 0 rfl 1 (.int .i64 0)).setBox 0 rfl 2 (.int .i64 0)).setBox 0 rfl 3 (.slice none 0 0)
          obtain ⟨r0, r1, r2, r3⟩ := h4.box4 0 rfl
          go_wp2
          refine bodyPost_ret (v := .tuple #[.agg #[.int .i64 0, .int .i64 0, .int .i64 0, .slice none 0 0], .bool false]) (by simp [results, Try.results36, go_sem, r0, r1, r2, r3]) rfl ⟨_, rfl, Own.nil, h4.below⟩
        · have e4 : (q == p) = false := by rw [beq_eq_false_iff_ne]; exact b3
          have e5 : (q != p) = true := by rw [bne, e4]; rfl
          clear b0
          have f0 := h1.free 0 rfl 0
          have f1 := h1.free 0 rfl 1
          have f2 := h1.free 0 rfl 2
          have f3 := h1.free 0 rfl 3
          have h4 := (((h1.setBox 0 rfl 0 (.int .i64 0)).setBox 0 rfl 1 (.int .i64 0)).setBox 0 rfl 2 (.int .i64 0)).setBox 0 rfl 3 (.slice none 0 0)
          obtain ⟨r0, r1, r2, r3⟩ := h4.box4 0 rfl
          go_wp2
          refine bodyPost_ret (v := .tuple #[.agg #[.int .i64 0, .int .i64 0, .int .i64 0, .slice none 0 0], .bool false]) (by simp [results, Try.results36, go_sem, r0, r1, r2, r3]) rfl ⟨_, rfl, Own.nil, h4.below⟩
      · have b2 : matOk q r c D = false := by simpa using b2
        rw [b2]
        obtain ⟨v0, v1, v2, v3⟩ := h1.box4 0 rfl
        have f0 := h1.free 0 rfl 0
        have f1 := h1.free 0 rfl 1
        have f2 := h1.free 0 rfl 2
        have f3 := h1.free 0 rfl 3
        have h4 := (((h1.setBox 0 rfl 0 (.int .i64 0)).setBox 0 rfl 1 (.int .i64 0)).setBox 0 rfl 2 (.int .i64 0)).setBox 0 rfl 3 (.slice none 0 0)
        obtain ⟨r0, r1, r2, r3⟩ := h4.box4 0 rfl
        go_wp2
        refine bodyPost_ret (v := .tuple #[.agg #[.int .i64 0, .int .i64 0, .int .i64 0, .slice none 0 0], .bool false]) (by simp [results, Try.results36, go_sem, r0, r1, r2, r3]) rfl ⟨_, rfl, Own.nil, h4.below⟩
    · have b1 : algOk p n T = false := by simpa using b1
      rw [b1]
      obtain ⟨v0, v1, v2, v3⟩ := h1.box4 0 rfl
      have f0 := h1.free 0 rfl 0
      have f1 := h1.free 0 rfl 1
      have f2 := h1.free 0 rfl 2
      have f3 := h1.free 0 rfl 3
      have h4 := (((h1.setBox 0 rfl 0 (.int .i64 0)).setBox 0 rfl 1 (.int .i64 0)).setBox 0 rfl 2 (.int .i64 0)).setBox 0 rfl 3 (.slice none 0 0)
      obtain ⟨r0, r1, r2, r3⟩ := h4.box4 0 rfl
      go_wp2
      refine bodyPost_ret (v := .tuple #[.agg #[.int .i64 0, .int .i64 0, .int .i64 0, .slice none 0 0], .bool false]) (by simp [results, Try.results36, go_sem, r0, r1, r2, r3]) rfl ⟨_, rfl, Own.nil, h4.below⟩
end
end Go.Proofs.Ytechjmckfedblaa
