/- The reference's closures. -/
import Derived.Test.YtechjmckfedblaaClo
import Derived.Test.YtechjmckfedblaaL1Span
import Derived.Test.YtechjmckfedblaaMatOk
import Derived.Test.YtechjmckfedblaaClone
import Derived.Test.YtechjmckfedblaaStX
import Derived.Test.YtechjmckfedblaaRegH
namespace Go.Proofs.Ytechjmckfedblaa
set_option maxRecDepth 100000
open Go.RowKit

theorem St.rid {w0 w : World} {L : List It} (h : St w0 w L) (i : Nat) : St w0 w (L.eraseIdx i) := by
  by_cases hi : i < L.length
  · exact (h.toFront i (List.getElem?_eq_getElem hi)).drop 1
  · rw [List.eraseIdx_of_length_le (by omega)]; exact h
theorem flat_app {p : Int} {n : Nat} {R S : List (List Int)} (h1 : Wf p n R) (h2 : Wf p n S) : flat n (R ++ S) = flat n R ++ flat n S := by
  rw [flat_flatten (h1.app h2), flat_flatten h1, flat_flatten h2, List.flatten_append]
theorem rowsM_app {p : Int} {n : Nat} {R S : List (List Int)} (h1 : Wf p n R) (h2 : Wf p n S) : rowsM (R.length + S.length) n (flat n R ++ flat n S) = R ++ S := by
  rw [← flat_app h1 h2, ← List.length_append]; exact rowsM_flat (h1.app h2)
theorem resid_app {p : Int} {D E : List Int} (h1 : resid p D = true) (h2 : resid p E = true) : resid p (D ++ E) = true :=
  resid_iff.2 fun q hq => by
    rw [List.length_append] at hq
    by_cases h : q < D.length
    · rw [show vec (D ++ E) q = vec D q by simp [vec, List.getD_eq_getElem?_getD, List.getElem?_append_left h]]
      exact resid_vec h1 h
    · rw [show vec (D ++ E) q = vec E (q - D.length) by simp [vec, List.getD_eq_getElem?_getD, List.getElem?_append_right (show D.length ≤ q by omega)]]
      exact resid_vec h2 (by omega)

theorem step_append_ints {ops : Array Oper} {o : Oper} {a : Act} {K : Act → World → Prop} {Q : Exit → Act → World → Prop} {E : Prop} (hgd : o.guard = none) (s x : Operand)
    (ho : o.op = .call { callee := .builtin .append, args := #[s, x], argTypes := #[22, 22] }) {w0 w : World} {L : List It} (h : St w0 w L) (i : Nat) {v u : Value} {xs ys : List Int} (hi : L[i]? = some (.own v xs)) (hu : Ints w u ys) (hlen : xs.length + ys.length ≤ 17592186044416)
    (hs : a.eval s = v) (hx : a.eval x = u)
    (hk : ∀ v' w', St w0 w' (L.set i (.own v' (xs ++ ys))) → K (a.put o.dst v') w') :
    if Region.wanted o (yielded ops a.tmps) = true then Oper.wp Try.prog o a w K Q else E := by
  have hw : Region.wanted o (yielded ops a.tmps) = true := by simp [Region.wanted, hgd]
  rw [if_pos hw]
  obtain ⟨v', w', hr, k1, k2, k3⟩ := run_append_ints w0.heap.size o.type v u xs ys w (h.own i hi) hu hlen h.size
  unfold Oper.wp execOp
  simp only [ho, resolve, invoke, builtin, Sem.run_bind, Sem.run_pure, Result.andThen_ok, List.map_toArray, List.map_cons, List.map_nil, hs, hx, hr]
  exact hk _ _ (h.appended i hi k1 k2 k3)

set_option maxHeartbeats 2000000 in
theorem l1Join_any (p q c : Int) (n : Nat) (t u : Value) (R S : List (List Int)) (w : World) (ht : Ints w t (flat n R)) (hu : Ints w u (flat n S)) (hR : Wf p n R) (hS : Wf p n S) (hr : R.length ≤ 40) (hs : S.length ≤ 1600) (hn : n ≤ 40) (hP : isPrime p = true) :
    Calls Try.prog 136 #[.agg #[.int .i64 p, .int .i64 R.length, .int .i64 n, t], .agg #[.int .i64 q, .int .i64 S.length, .int .i64 c, u]] w (RetMat w p (spanL p n (R ++ S)).length n (flat n (spanL p n (R ++ S)))) := by
  have hp := (isPrime_bd hP).1
  have h1 := (((((St.start w).arg ht).arg hu).box [.int .i64 p, .int .i64 R.length, .int .i64 n, t] 32).box [.int .i64 q, .int .i64 S.length, .int .i64 c, u] 32).box [.int .i64 0, .int .i64 0, .int .i64 0, .slice none 0 0] 32
  simp only [World.size_alloc] at h1
  obtain ⟨A, k0, rfl, _, _, _⟩ := id ht
  obtain ⟨A2, k2, rfl, _, _, _⟩ := id hu
  obtain ⟨r, er⟩ : ∃ r, r = R.length := ⟨_, rfl⟩
  obtain ⟨s, es⟩ : ∃ s, s = S.length := ⟨_, rfl⟩
  have hb1 := mul_le hr hn
  have hb2 := mul_le hs hn
  have hDl := length_flat n R
  have hEl := length_flat n S
  have hlen : (flat n R ++ flat n S).length = (r + s) * n := by rw [List.length_append, hDl, hEl, er, es, Nat.add_mul]
  have hrows := rowsM_app hR hS
  have hres := resid_app (resid_flat (by omega) hR) (resid_flat (by omega) hS)
  rw [← er, ← es] at hrows
  rw [← er] at hDl hb1
  rw [← es] at hEl hb2
  obtain ⟨F, hF⟩ : ∃ F, F = flat n (spanL p n (R ++ S)) := ⟨_, rfl⟩
  obtain ⟨l, hl⟩ : ∃ l, l = (spanL p n (R ++ S)).length := ⟨_, rfl⟩
  have HSp := Lib.hid (show ∀ (W : World) (v : Value), Ints W v (flat n R ++ flat n S) → Calls Try.prog 82 #[.agg #[.int .i64 p, .int .i64 (r + s : Nat), .int .i64 n, v]] W (RetMat W p l n F) from fun W v hv => by
    have := l1Span_any p (r + s) n v _ W hv hlen (by rw [Nat.add_mul]; omega) (by omega) (by omega) hP hres
    rw [hrows] at this
    rw [hF, hl]
    exact this)
  rw [← hF, ← hl]
  rw [← er] at h1 hr ⊢
  rw [← es] at h1 hs ⊢
  obtain ⟨D, hD⟩ : ∃ D, D = flat n R := ⟨_, rfl⟩
  obtain ⟨E, hE⟩ : ∃ E, E = flat n S := ⟨_, rfl⟩
  rw [← hD] at h1 hDl HSp ⊢
  rw [← hE] at h1 hEl HSp ⊢
  obtain ⟨rs, hrs⟩ : ∃ rs, rs = r + s := ⟨_, rfl⟩
  rw [← hrs] at HSp
  have e1 : (r : Int) + (s : Int) = (rs : Int) := by omega
  have e2 : IntKind.i64.wrap (rs : Int) = rs := wrap_ok (by omega) (by omega)
  have HDl := Lib.hid hDl
  have HEl := Lib.hid hEl
  clear ht hu hR hS hF hl hD hE er es hDl hEl hlen hrows hres hrs
  go_enter Try.func136, Try.ntmps136
  go_upto_region 1 with fail
  have g0 := h1.drew
  refine wp_region_cut (S := fun w' => (w'.cell? ⟨w.heap.size, 0, none⟩ = some (.int .i64 p) ∧ w'.cell? ⟨w.heap.size, 1, none⟩ = some (.int .i64 r) ∧ w'.cell? ⟨w.heap.size, 2, none⟩ = some (.int .i64 n) ∧ w'.cell? ⟨w.heap.size, 3, none⟩ = some (.slice A D.length k0)) ∧ w'.cell? ⟨w.heap.size + 1, 0, none⟩ = some (.int .i64 q) ∧ w'.cell? ⟨w.heap.size + 1, 1, none⟩ = some (.int .i64 s) ∧ w'.cell? ⟨w.heap.size + 1, 2, none⟩ = some (.int .i64 c) ∧ w'.cell? ⟨w.heap.size + 1, 3, none⟩ = some (.slice A2 E.length k2)) 15 (by kernel_rfl) (by kernel_rfl) ⟨g0.box4 2 rfl, g0.box4 1 rfl⟩ (fun hHeld => ?_)
  simp only [List.take_succ_cons, List.take_zero]
  refine anyH_take (v := ?_) 0 rfl (by kernel_rfl) (by kernel_rfl) (by kernel_rfl) (fun _ _ _ h => h) rfl ?_ hHeld ?_
  rotate_left
  · intro w' hSw
    go_simp
    try with_reducible rfl
  try simp only [Act.put, List.setIfInBounds_toArray, List.set_cons_zero, List.set_cons_succ]
  refine anyH_take (v := ?_) 1 rfl (by kernel_rfl) (by kernel_rfl) (by kernel_rfl) (fun _ _ _ h => h) rfl ?_ hHeld ?_
  rotate_left
  · intro w' hSw
    go_simp
    try with_reducible rfl
  try simp only [Act.put, List.setIfInBounds_toArray, List.set_cons_zero, List.set_cons_succ]
  refine anyH_take (v := ?_) 2 rfl (by kernel_rfl) (by kernel_rfl) (by kernel_rfl) (fun _ _ _ h => h) rfl ?_ hHeld ?_
  rotate_left
  · intro w' hSw
    go_simp
    try with_reducible rfl
  try simp only [Act.put, List.setIfInBounds_toArray, List.set_cons_zero, List.set_cons_succ]
  refine anyH_take (v := ?_) 3 rfl (by kernel_rfl) (by kernel_rfl) (by kernel_rfl) (fun _ _ _ h => h) rfl ?_ hHeld ?_
  rotate_left
  · intro w' hSw
    go_simp
    try with_reducible rfl
  try simp only [Act.put, List.setIfInBounds_toArray, List.set_cons_zero, List.set_cons_succ]
  refine anyH_take (v := ?_) 4 rfl (by kernel_rfl) (by kernel_rfl) (by kernel_rfl) (fun _ _ _ h => h) rfl ?_ hHeld ?_
  rotate_left
  · intro w' hSw
    go_simp
    try with_reducible rfl
  try simp only [Act.put, List.setIfInBounds_toArray, List.set_cons_zero, List.set_cons_succ]
  refine anyH_take (v := ?_) 5 rfl (by kernel_rfl) (by kernel_rfl) (by kernel_rfl) (fun _ _ _ h => h) rfl ?_ hHeld ?_
  rotate_left
  · intro w' hSw
    go_simp
    try with_reducible rfl
  try simp only [Act.put, List.setIfInBounds_toArray, List.set_cons_zero, List.set_cons_succ]
  refine anyH_take (v := ?_) 6 rfl (by kernel_rfl) (by kernel_rfl) (by kernel_rfl) (fun _ _ _ h => h) rfl ?_ hHeld ?_
  rotate_left
  · intro w' hSw
    go_simp
    try with_reducible rfl
  try simp only [Act.put, List.setIfInBounds_toArray, List.set_cons_zero, List.set_cons_succ]
  refine anyH_take (v := ?_) 7 rfl (by kernel_rfl) (by kernel_rfl) (by kernel_rfl) (fun _ _ _ h => h) rfl ?_ hHeld ?_
  rotate_left
  · intro w' hSw
    go_simp
    try with_reducible rfl
  try simp only [Act.put, List.setIfInBounds_toArray, List.set_cons_zero, List.set_cons_succ]
  refine anyH_take (v := ?_) 8 rfl (by kernel_rfl) (by kernel_rfl) (by kernel_rfl) (fun _ _ _ h => h) rfl ?_ hHeld ?_
  rotate_left
  · intro w' hSw
    go_simp
    try with_reducible rfl
  try simp only [Act.put, List.setIfInBounds_toArray, List.set_cons_zero, List.set_cons_succ]
  refine anyH_take (v := ?_) 9 rfl (by kernel_rfl) (by kernel_rfl) (by kernel_rfl) (fun _ _ _ h => h) rfl ?_ hHeld ?_
  rotate_left
  · intro w' hSw
    go_simp
    try with_reducible rfl
  try simp only [Act.put, List.setIfInBounds_toArray, List.set_cons_zero, List.set_cons_succ]
  refine anyH_take (v := ?_) 10 rfl (by kernel_rfl) (by kernel_rfl) (by kernel_rfl) (fun _ _ _ h => h) rfl ?_ hHeld ?_
  rotate_left
  · intro w' hSw
    go_simp
    try with_reducible rfl
  try simp only [Act.put, List.setIfInBounds_toArray, List.set_cons_zero, List.set_cons_succ]
  refine anyH_take (v := ?_) 12 rfl (by kernel_rfl) (by kernel_rfl) (by kernel_rfl) (fun _ _ _ h => h) rfl ?_ hHeld ?_
  rotate_left
  · intro w' hSw
    go_simp
    try with_reducible rfl
  try simp only [Act.put, List.setIfInBounds_toArray, List.set_cons_zero, List.set_cons_succ]
  refine anyH_take (v := ?_) 13 rfl (by kernel_rfl) (by kernel_rfl) (by kernel_rfl) (fun _ _ _ h => h) rfl ?_ hHeld ?_
  rotate_left
  · intro w' hSw
    go_simp
    try with_reducible rfl
  try simp only [Act.put, List.setIfInBounds_toArray, List.set_cons_zero, List.set_cons_succ]
  refine wpAnyH_ready (rs := [11]) (by kernel_rfl) (by simp) ?_
  refine ready_cons rfl (fun K hK => ?_) AllReadyH.nil
  go_simp
  refine (l1Ints_any _ D _ (g0.roInts 4 rfl) (by rw [HDl.out]; omega)).mono ?_
  rintro (e : Ending) w1 ⟨u1, rfl, ho1, hb1⟩
  obtain ⟨A5, n5, c5, rfl⟩ := ho1.slice
  have g1 := g0.pushOwn hb1 ho1
  show K _ _
  refine hK.out _ _ ?_ (fun hHeld => ?_)
  · exact ⟨g1.box4 3 rfl, g1.box4 2 rfl⟩
  clear hK K
  try simp only [Act.put, List.setIfInBounds_toArray, List.set_cons_zero, List.set_cons_succ]
  refine wpAnyH_ready (rs := [14]) (by kernel_rfl) (by simp) ?_
  refine ready_cons rfl (fun K hK => ?_) AllReadyH.nil
  refine step_append_ints rfl (.tmp 16) (.tmp 18) rfl g1 0 rfl (g1.roInts 4 rfl) (by rw [HDl.out, HEl.out]; omega) rfl rfl fun vA w2 g2 => ?_
  simp only [List.set_cons_zero] at g2
  obtain ⟨A6, n6, c6, rfl⟩ := (g2.own 0 rfl).slice
  refine hK.out _ _ ?_ (fun hHeld => ?_)
  · exact ⟨g2.box4 3 rfl, g2.box4 2 rfl⟩
  clear hK K
  try simp only [Act.put, List.setIfInBounds_toArray, List.set_cons_zero, List.set_cons_succ]
  refine wpAnyH_done (by kernel_rfl) ?_ _
  show wpList _ _ _ _ _ _
  simp only [List.drop_succ_cons, List.drop_zero]
  clear hHeld
  go_wp2_with fail
  refine (HSp.out _ _ (g2.ownInts 0 rfl)).mono ?_
  rintro (e : Ending) w3 ⟨u3, rfl, ho3, hb3⟩
  obtain ⟨A7, n7, c7, rfl⟩ := ho3.slice
  have g3 := g2.pushOwn hb3 ho3
  obtain ⟨p0, p1, p2, p3⟩ := g3.box4 2 rfl
  have f0 := g3.free 2 rfl 0
  have f1 := g3.free 2 rfl 1
  have f2 := g3.free 2 rfl 2
  have f3 := g3.free 2 rfl 3
  have h5 := (((g3.setBox 2 rfl 0 (.int .i64 p)).setBox 2 rfl 1 (.int .i64 l)).setBox 2 rfl 2 (.int .i64 n)).setBox 2 rfl 3 (.slice A7 n7 c7)
  obtain ⟨r0, r1, r2, r3⟩ := h5.box4 2 rfl
  clear g0 g1 g2 g3 h1 ho1 ho3 hb1 hb3
  go_wp2
  refine bodyPost_ret (v := .agg #[.int .i64 p, .int .i64 l, .int .i64 n, .slice A7 n7 c7]) (by simp [results, Try.results136, go_sem, r0, r1, r2, r3]) rfl ⟨_, rfl, h5.own 0 rfl, h5.below⟩

set_option maxHeartbeats 4000000 in
theorem l2Closed0_st {w0 w : World} {L : List It} (p : Int) (n k : Nat) (v t : Value) (T : List Int) (R0 : List (List Int)) (h : St w0 w (.own v (flat n R0) :: L)) (hk : L[k]? = some (.ro t T)) (hT : T.length = n * n * n) (hn : n ≤ 28) (hP : isPrime p = true) (rT : resid p T = true) {a0 : List Nat} (hR0 : Rf p n R0 a0) :
    Calls Try.prog 81 #[.agg #[.int .i64 p, .int .i64 n, t], .agg #[.int .i64 p, .int .i64 R0.length, .int .i64 n, v], .bool false] w
      fun e w' => ∃ u, e = .returned (.agg #[.int .i64 p, .int .i64 (cloL false T n p R0).length, .int .i64 n, u]) ∧ St w0 w' (.own u (flat n (cloL false T n p R0)) :: L) := by
  have b1 := (isPrime_bd hP).1
  have hs := CloRun.start (k := false) (T := T) hP hR0
  obtain ⟨G, hG⟩ : ∃ G, G = cloL false T n p R0 := ⟨_, rfl⟩
  rw [← hG] at hs ⊢
  obtain ⟨A, c0, rfl, _, _, _⟩ := id (h.ro (k + 1) (by simpa using hk)).ints
  obtain ⟨A1, c1, rfl, _, _, _⟩ := id (h.ownInts 0 rfl)
  have h1 := (((h.box [.int .i64 p, .int .i64 n, .slice A T.length c0] 30).box [.int .i64 p, .int .i64 R0.length, .int .i64 n, .slice A1 (flat n R0).length c1] 32).box [.int .i64 0, .int .i64 0, .int .i64 0, .slice none 0 0] 32).toFront 3 rfl
  simp only [World.size_alloc] at h1
  change St w0 _ (.own (.slice A1 (flat n R0).length c1) (flat n R0) :: .box (w.heap.size + 1 + 1) _ :: .box (w.heap.size + 1) _ :: .box w.heap.size _ :: L) at h1
  have HS : Hid (CloRun false T n p R0 G) := hs
  have HT := Lib.hid hT
  clear h hs hG hT hR0
  go_enter Try.func81, Try.ntmps81
  go_wp2
  go_loopg [] (n - R0.length) (fun gk wr => ∃ (R : List (List Int)) (Ad : Option Addr) (cd : Nat), Hid (n - R.length = gk) ∧ Hid (CloRun false T n p R G) ∧ St w0 wr (.own (.slice Ad (flat n R).length cd) (flat n R) :: .box (w.heap.size + 1 + 1) [.int .i64 0, .int .i64 0, .int .i64 0, .slice none 0 0] :: .box (w.heap.size + 1) [.int .i64 p, .int .i64 R.length, .int .i64 n, .slice Ad (flat n R).length cd] :: .box w.heap.size [.int .i64 p, .int .i64 n, .slice A T.length c0] :: L))
  case atStart => exact ⟨R0, A1, c1, rfl, HS, h1⟩
  case round =>
    clear h1 HS
    obtain ⟨R, Ad, cd, hlg, HR, h1⟩ := hrel
    obtain ⟨a, ha⟩ := HR.out.1
    have hRn := rf_le_n b1 ha
    have hRW := ha.wf
    have hle := cloNext_le (k := false) (T := T) hP ha
    obtain ⟨b, hb⟩ := cloNext_rf (k := false) (T := T) hP hRW
    have hN := rf_le_n b1 hb
    have hSW : Wf p n (stepS false T n p R) := Wf.stepS hP R
    have hSl : (stepS false T n p R).length ≤ n := rf_le_n b1 (spanL_rf hP (Wf_stepArg false T n b1 R))
    obtain ⟨S1, hS1⟩ : ∃ S1, S1 = stepS false T n p R := ⟨_, rfl⟩
    obtain ⟨R2, hR2⟩ : ∃ R2, R2 = cloNext false T n p R := ⟨_, rfl⟩
    have hst : R2 = spanL p n (R ++ S1) := by rw [hR2, hS1]; rfl
    rw [← hS1] at hSW hSl
    rw [← hR2] at hle hN
    obtain ⟨l1, hl1⟩ : ∃ l1, l1 = S1.length := ⟨_, rfl⟩
    obtain ⟨l2, hl2⟩ : ∃ l2, l2 = R2.length := ⟨_, rfl⟩
    obtain ⟨D, hD⟩ : ∃ D, D = flat n R := ⟨_, rfl⟩
    obtain ⟨r, hr⟩ : ∃ r, r = R.length := ⟨_, rfl⟩
    have HP := Lib.hid (show ∀ (W : World) (v1 v2 v3 : Value), Ints W v1 T → Ints W v2 D → Ints W v3 D → Calls Try.prog 87 #[.agg #[.int .i64 p, .int .i64 n, v1], .agg #[.int .i64 p, .int .i64 r, .int .i64 n, v2], .agg #[.int .i64 p, .int .i64 r, .int .i64 n, v3]] W (RetMat W p l1 n (flat n S1)) from fun W v1 v2 v3 x1 x2 x3 => by
      rw [hD] at x2 x3
      have := l2Product_any p p p n R.length R.length v1 v2 v3 T (flat n R) (flat n R) W x1 x2 x3 HT.out (length_flat n R) (length_flat n R) hn (by omega) (by omega) hP rT (resid_flat (by omega) hRW) (resid_flat (by omega) hRW)
      rw [hl1, hS1, hr]
      exact this)
    have HJ := Lib.hid (show ∀ (W : World) (v1 v2 : Value), Ints W v1 D → Ints W v2 (flat n S1) → Calls Try.prog 136 #[.agg #[.int .i64 p, .int .i64 r, .int .i64 n, v1], .agg #[.int .i64 p, .int .i64 l1, .int .i64 n, v2]] W (RetMat W p l2 n (flat n R2)) from fun W v1 v2 x1 x2 => by
      rw [hD] at x1
      rw [hl2, hst, hl1, hr]
      exact l1Join_any p p n n v1 v2 R S1 W x1 x2 hRW hSW (by omega) (by omega) (by omega) hP)
    rw [← hD, ← hr] at h1
    have Hr := Lib.hid hr
    have HD := Lib.hid hD
    have HR2 := Lib.hid hR2
    have Hl2 := Lib.hid hl2
    have HLe := Lib.hid (show R.length ≤ R2.length from hle)
    have HN := Lib.hid hN
    have hti := (h1.ro (k + 4) (by simpa using hk)).ints
    have HTi := Lib.hid hti
    clear ha hRW hb hSW hS1 hst hl1 hl2 hD hr hR2 hle hN a b hti HTi
    obtain ⟨v0, v1, v2, v3⟩ := h1.box4 2 rfl
    have h2 := h1.box [.int .i64 p, .int .i64 r, .int .i64 n, .slice Ad D.length cd] 32
    go_upto_region 4 with fail
    clear v0 v1 v2 v3 h1
    generalize hBt : wr.heap.size = Bt at h2 ⊢
    clear hBt
    have g0 := h2.drew
    go_cut [8] (fun s8 wx => ∃ (B8 : Nat) (A9 : Option Addr) (n9 c9 : Nat), s8 = .pointer (some ⟨B8, 0, none⟩) ∧ St w0 wx (.box B8 [.int .i64 p, .int .i64 l2, .int .i64 n, .slice A9 n9 c9] :: .own (.slice A9 n9 c9) (flat n R2) :: .own (.slice Ad D.length cd) D :: .box (w.heap.size + 1 + 1) [.int .i64 0, .int .i64 0, .int .i64 0, .slice none 0 0] :: .box (w.heap.size + 1) [.int .i64 p, .int .i64 r, .int .i64 n, .slice Ad D.length cd] :: .box w.heap.size [.int .i64 p, .int .i64 n, .slice A T.length c0] :: L))
    case first =>
      refine wp_region_cut (S := fun w' => (w'.cell? ⟨Bt, 0, none⟩ = some (.int .i64 p) ∧ w'.cell? ⟨Bt, 1, none⟩ = some (.int .i64 r) ∧ w'.cell? ⟨Bt, 2, none⟩ = some (.int .i64 n) ∧ w'.cell? ⟨Bt, 3, none⟩ = some (.slice Ad D.length cd)) ∧ (w'.cell? ⟨w.heap.size + 1, 0, none⟩ = some (.int .i64 p) ∧ w'.cell? ⟨w.heap.size + 1, 1, none⟩ = some (.int .i64 r) ∧ w'.cell? ⟨w.heap.size + 1, 2, none⟩ = some (.int .i64 n) ∧ w'.cell? ⟨w.heap.size + 1, 3, none⟩ = some (.slice Ad D.length cd)) ∧ w'.cell? ⟨w.heap.size, 0, none⟩ = some (.int .i64 p) ∧ w'.cell? ⟨w.heap.size, 1, none⟩ = some (.int .i64 n) ∧ w'.cell? ⟨w.heap.size, 2, none⟩ = some (.slice A T.length c0)) 7 (by kernel_rfl) (by kernel_rfl) ⟨g0.box4 0 rfl, g0.box4 3 rfl, g0.box3 4 rfl⟩ (fun hHeld => ?_)
      simp only [List.take_succ_cons, List.take_zero]
      generalize hv0 : World.drew _ = v0 at g0 hHeld ⊢
      clear hv0 h2
      refine anyH_take (v := ?_) 0 rfl (by kernel_rfl) (by kernel_rfl) (by kernel_rfl) (fun _ _ _ h => h) rfl ?_ hHeld ?_
      rotate_left
      · intro w' hSw
        go_simp
        try with_reducible rfl
      try simp only [Act.put, List.setIfInBounds_toArray, List.set_cons_zero, List.set_cons_succ]
      refine anyH_take (v := ?_) 1 rfl (by kernel_rfl) (by kernel_rfl) (by kernel_rfl) (fun _ _ _ h => h) rfl ?_ hHeld ?_
      rotate_left
      · intro w' hSw
        go_simp
        try with_reducible rfl
      try simp only [Act.put, List.setIfInBounds_toArray, List.set_cons_zero, List.set_cons_succ]
      refine anyH_take (v := ?_) 2 rfl (by kernel_rfl) (by kernel_rfl) (by kernel_rfl) (fun _ _ _ h => h) rfl ?_ hHeld ?_
      rotate_left
      · intro w' hSw
        go_simp
        try with_reducible rfl
      try simp only [Act.put, List.setIfInBounds_toArray, List.set_cons_zero, List.set_cons_succ]
      refine anyH_take (v := ?_) 3 rfl (by kernel_rfl) (by kernel_rfl) (by kernel_rfl) (fun _ _ _ h => h) rfl ?_ hHeld ?_
      rotate_left
      · intro w' hSw
        go_simp
        try with_reducible rfl
      try simp only [Act.put, List.setIfInBounds_toArray, List.set_cons_zero, List.set_cons_succ]
      refine wpAnyH_ready (rs := [4, 6]) (by kernel_rfl) (by simp) ?_
      refine ready_cons rfl (fun K hK => ?_) (ready_cons rfl (fun K hK => ?_) AllReadyH.nil)
      · go_simp
        refine (HP.out _ _ _ _ (g0.ro (k + 5) (by simpa using hk)).ints (g0.ownInts 1 rfl) (g0.ownInts 1 rfl)).mono ?_
        rintro (e : Ending) v1 ⟨u1, rfl, ho1, hb1⟩
        obtain ⟨B1, m1, d1, rfl⟩ := ho1.slice
        have g1 := g0.pushOwn hb1 ho1
        show K _ _
        refine hK.out _ _ ?_ (fun hHeld => ?_)
        · exact ⟨g1.box4 1 rfl, g1.box4 4 rfl, g1.box3 5 rfl⟩
        clear hK K
        try simp only [Act.put, List.setIfInBounds_toArray, List.set_cons_zero, List.set_cons_succ]
        refine wpAnyH_ready (rs := [5, 6]) (by kernel_rfl) (by simp) ?_
        refine ready_cons rfl (fun K hK => ?_) (ready_cons rfl (fun K hK => ?_) AllReadyH.nil)
        · go_simp
          refine (HJ.out _ _ _ (g1.ownInts 2 rfl) (g1.ownInts 0 rfl)).mono ?_
          rintro (e : Ending) v2 ⟨u2, rfl, ho2, hb2⟩
          obtain ⟨A9, n9, c9, rfl⟩ := ho2.slice
          have g2 := g1.pushOwn hb2 ho2
          show K _ _
          refine hK.out _ _ ?_ (fun hHeld => ?_)
          · exact ⟨g2.box4 2 rfl, g2.box4 5 rfl, g2.box3 6 rfl⟩
          clear hK K
          try simp only [Act.put, List.setIfInBounds_toArray, List.set_cons_zero, List.set_cons_succ]
          refine wpAnyH_ready (rs := [6]) (by kernel_rfl) (by simp) ?_
          refine ready_cons rfl (fun K hK => ?_) AllReadyH.nil
          go_simp
          have g3 := g2.box [.int .i64 0, .int .i64 0, .int .i64 0, .slice none 0 0] 32
          refine hK.out _ _ ?_ (fun hHeld => ?_)
          · exact ⟨g3.box4 3 rfl, g3.box4 6 rfl, g3.box3 7 rfl⟩
          clear hK K
          generalize World.alloc v2 (.cells #[.int .i64 0, .int .i64 0, .int .i64 0, .slice none 0 0] 32) = v3 at g3 hHeld ⊢
          try simp only [Act.put, List.setIfInBounds_toArray, List.set_cons_zero, List.set_cons_succ]
          refine wpAnyH_done (by kernel_rfl) ?_ _
          show wpList _ _ _ _ _ _
          simp only [List.drop_succ_cons, List.drop_zero]
          clear hHeld
          obtain ⟨p0, p1, p2, p3⟩ := g3.box4 0 rfl
          have f0 := g3.free 0 rfl 0
          have f1 := g3.free 0 rfl 1
          have f2 := g3.free 0 rfl 2
          have f3 := g3.free 0 rfl 3
          have q1 := (((g3.setBox 0 rfl 0 (.int .i64 p)).setBox 0 rfl 1 (.int .i64 l2)).setBox 0 rfl 2 (.int .i64 n)).setBox 0 rfl 3 (.slice A9 n9 c9)
          go_wp2_with fail
          go_meet
          exact ⟨_, _, _, _, rfl, ((((q1.rid 2).rid 2).toFront 1 rfl).toFront 1 rfl)⟩
        · go_simp
          have g2 := g1.box [.int .i64 0, .int .i64 0, .int .i64 0, .slice none 0 0] 32
          refine hK.out _ _ ?_ (fun hHeld => ?_)
          · exact ⟨g2.box4 2 rfl, g2.box4 5 rfl, g2.box3 6 rfl⟩
          clear hK K
          generalize World.alloc v1 (.cells #[.int .i64 0, .int .i64 0, .int .i64 0, .slice none 0 0] 32) = v2 at g2 hHeld ⊢
          try simp only [Act.put, List.setIfInBounds_toArray, List.set_cons_zero, List.set_cons_succ]
          refine wpAnyH_ready (rs := [5]) (by kernel_rfl) (by simp) ?_
          refine ready_cons rfl (fun K hK => ?_) AllReadyH.nil
          go_simp
          refine (HJ.out _ _ _ (g2.ownInts 3 rfl) (g2.ownInts 1 rfl)).mono ?_
          rintro (e : Ending) v3 ⟨u3, rfl, ho3, hb3⟩
          obtain ⟨A9, n9, c9, rfl⟩ := ho3.slice
          have g3 := g2.pushOwn hb3 ho3
          show K _ _
          refine hK.out _ _ ?_ (fun hHeld => ?_)
          · exact ⟨g3.box4 3 rfl, g3.box4 6 rfl, g3.box3 7 rfl⟩
          clear hK K
          try simp only [Act.put, List.setIfInBounds_toArray, List.set_cons_zero, List.set_cons_succ]
          refine wpAnyH_done (by kernel_rfl) ?_ _
          show wpList _ _ _ _ _ _
          simp only [List.drop_succ_cons, List.drop_zero]
          clear hHeld
          obtain ⟨p0, p1, p2, p3⟩ := g3.box4 1 rfl
          have f0 := g3.free 1 rfl 0
          have f1 := g3.free 1 rfl 1
          have f2 := g3.free 1 rfl 2
          have f3 := g3.free 1 rfl 3
          have q1 := (((g3.setBox 1 rfl 0 (.int .i64 p)).setBox 1 rfl 1 (.int .i64 l2)).setBox 1 rfl 2 (.int .i64 n)).setBox 1 rfl 3 (.slice A9 n9 c9)
          go_wp2_with fail
          go_meet
          exact ⟨_, _, _, _, rfl, (((q1.rid 2).rid 2).toFront 1 rfl)⟩
      · go_simp
        have g1 := g0.box [.int .i64 0, .int .i64 0, .int .i64 0, .slice none 0 0] 32
        refine hK.out _ _ ?_ (fun hHeld => ?_)
        · exact ⟨g1.box4 1 rfl, g1.box4 4 rfl, g1.box3 5 rfl⟩
        clear hK K
        generalize World.alloc v0 (.cells #[.int .i64 0, .int .i64 0, .int .i64 0, .slice none 0 0] 32) = v1 at g1 hHeld ⊢
        try simp only [Act.put, List.setIfInBounds_toArray, List.set_cons_zero, List.set_cons_succ]
        refine wpAnyH_ready (rs := [4]) (by kernel_rfl) (by simp) ?_
        refine ready_cons rfl (fun K hK => ?_) AllReadyH.nil
        go_simp
        refine (HP.out _ _ _ _ (g1.ro (k + 6) (by simpa using hk)).ints (g1.ownInts 2 rfl) (g1.ownInts 2 rfl)).mono ?_
        rintro (e : Ending) v2 ⟨u2, rfl, ho2, hb2⟩
        obtain ⟨B2, m2, d2, rfl⟩ := ho2.slice
        have g2 := g1.pushOwn hb2 ho2
        show K _ _
        refine hK.out _ _ ?_ (fun hHeld => ?_)
        · exact ⟨g2.box4 2 rfl, g2.box4 5 rfl, g2.box3 6 rfl⟩
        clear hK K
        try simp only [Act.put, List.setIfInBounds_toArray, List.set_cons_zero, List.set_cons_succ]
        refine wpAnyH_ready (rs := [5]) (by kernel_rfl) (by simp) ?_
        refine ready_cons rfl (fun K hK => ?_) AllReadyH.nil
        go_simp
        refine (HJ.out _ _ _ (g2.ownInts 3 rfl) (g2.ownInts 0 rfl)).mono ?_
        rintro (e : Ending) v3 ⟨u3, rfl, ho3, hb3⟩
        obtain ⟨A9, n9, c9, rfl⟩ := ho3.slice
        have g3 := g2.pushOwn hb3 ho3
        show K _ _
        refine hK.out _ _ ?_ (fun hHeld => ?_)
        · exact ⟨g3.box4 3 rfl, g3.box4 6 rfl, g3.box3 7 rfl⟩
        clear hK K
        try simp only [Act.put, List.setIfInBounds_toArray, List.set_cons_zero, List.set_cons_succ]
        refine wpAnyH_done (by kernel_rfl) ?_ _
        show wpList _ _ _ _ _ _
        simp only [List.drop_succ_cons, List.drop_zero]
        clear hHeld
        obtain ⟨p0, p1, p2, p3⟩ := g3.box4 2 rfl
        have f0 := g3.free 2 rfl 0
        have f1 := g3.free 2 rfl 1
        have f2 := g3.free 2 rfl 2
        have f3 := g3.free 2 rfl 3
        have q1 := (((g3.setBox 2 rfl 0 (.int .i64 p)).setBox 2 rfl 1 (.int .i64 l2)).setBox 2 rfl 2 (.int .i64 n)).setBox 2 rfl 3 (.slice A9 n9 c9)
        go_wp2_with fail
        go_meet
        exact ⟨_, _, _, _, rfl, (((q1.rid 1).rid 2).toFront 1 rfl)⟩
    case rest =>
    clear h2 g0
    obtain ⟨B8, A9, n9, c9, rfl, h5⟩ := hcut
    obtain ⟨x0, x1, x2, x3⟩ := h5.box4 0 rfl
    obtain ⟨z0, z1, z2, z3⟩ := h5.box4 4 rfl
    by_cases he : l2 = r
    · subst he
      obtain ⟨y0, y1, y2, y3⟩ := h5.box4 3 rfl
      have f0 := h5.free 3 rfl 0
      have f1 := h5.free 3 rfl 1
      have f2 := h5.free 3 rfl 2
      have f3 := h5.free 3 rfl 3
      have h6 := (((h5.setBox 3 rfl 0 (.int .i64 p)).setBox 3 rfl 1 (.int .i64 l2)).setBox 3 rfl 2 (.int .i64 n)).setBox 3 rfl 3 (.slice A9 n9 c9)
      obtain ⟨r0, r1, r2, r3⟩ := h6.box4 3 rfl
      go_wp2
      have hh := HR.out
      obtain ⟨a, ha⟩ := hh.1
      have hlen : (cloNext false T n p R).length = R.length := by rw [← HR2.out, ← Hl2.out, Hr.out]
      have e1 : R2 = G := by rw [HR2.out, cloNext_same hP ha hlen]; exact hh.stop hlen
      rw [← e1, ← Hl2.out]
      refine bodyPost_ret (v := .agg #[.int .i64 p, .int .i64 l2, .int .i64 n, .slice A9 n9 c9]) (by simp [results, Try.results81, go_sem, r0, r1, r2, r3]) rfl ⟨_, rfl, ((((h6.rid 5).rid 4).rid 3).rid 2).rid 0⟩
    · have e1 : ((l2 : Int) == (r : Int)) = false := by rw [beq_eq_false_iff_ne]; omega
      have e2 : ¬ ((l2 : Int) = (r : Int)) := by omega
      have f0 := h5.free 4 rfl 0
      have f1 := h5.free 4 rfl 1
      have f2 := h5.free 4 rfl 2
      have f3 := h5.free 4 rfl 3
      have h6 := (((h5.setBox 4 rfl 0 (.int .i64 p)).setBox 4 rfl 1 (.int .i64 l2)).setBox 4 rfl 2 (.int .i64 n)).setBox 4 rfl 3 (.slice A9 n9 c9)
      go_wp2
      have hnx := HR.out.next hP (by rw [← HR2.out, ← Hl2.out, ← Hr.out]; exact he)
      rw [← HR2.out] at hnx
      have hn9 : n9 = (flat n R2).length := by
        obtain ⟨A', c', he', _⟩ := h5.ownInts 1 rfl
        simp only [Value.slice.injEq] at he'
        exact he'.2.1
      subst hn9
      go_roundg (n - R2.length)
      case measure => have := hlg.out; omega
      case rel => exact ⟨R2, A9, c9, rfl, hnx.1, by rw [← Hl2.out]; exact (h6.rid 2).rid 0⟩

set_option maxHeartbeats 4000000 in
theorem l2Closed1_st {w0 w : World} {L : List It} (p : Int) (n k : Nat) (v t : Value) (T : List Int) (R0 : List (List Int)) (h : St w0 w (.own v (flat n R0) :: L)) (hk : L[k]? = some (.ro t T)) (hT : T.length = n * n * n) (hn : n ≤ 28) (hP : isPrime p = true) (rT : resid p T = true) {a0 : List Nat} (hR0 : Rf p n R0 a0) :
    Calls Try.prog 81 #[.agg #[.int .i64 p, .int .i64 n, t], .agg #[.int .i64 p, .int .i64 R0.length, .int .i64 n, v], .bool true] w
      fun e w' => ∃ u, e = .returned (.agg #[.int .i64 p, .int .i64 (cloL true T n p R0).length, .int .i64 n, u]) ∧ St w0 w' (.own u (flat n (cloL true T n p R0)) :: L) := by
  have b1 := (isPrime_bd hP).1
  have hs := CloRun.start (k := true) (T := T) hP hR0
  obtain ⟨G, hG⟩ : ∃ G, G = cloL true T n p R0 := ⟨_, rfl⟩
  rw [← hG] at hs ⊢
  obtain ⟨A, c0, rfl, _, _, _⟩ := id (h.ro (k + 1) (by simpa using hk)).ints
  obtain ⟨A1, c1, rfl, _, _, _⟩ := id (h.ownInts 0 rfl)
  have h1 := (((h.box [.int .i64 p, .int .i64 n, .slice A T.length c0] 30).box [.int .i64 p, .int .i64 R0.length, .int .i64 n, .slice A1 (flat n R0).length c1] 32).box [.int .i64 0, .int .i64 0, .int .i64 0, .slice none 0 0] 32).toFront 3 rfl
  simp only [World.size_alloc] at h1
  change St w0 _ (.own (.slice A1 (flat n R0).length c1) (flat n R0) :: .box (w.heap.size + 1 + 1) _ :: .box (w.heap.size + 1) _ :: .box w.heap.size _ :: L) at h1
  have HS : Hid (CloRun true T n p R0 G) := hs
  have HT := Lib.hid hT
  clear h hs hG hT hR0
  go_enter Try.func81, Try.ntmps81
  go_wp2
  go_loopg [] (n - R0.length) (fun gk wr => ∃ (R : List (List Int)) (Ad : Option Addr) (cd : Nat), Hid (n - R.length = gk) ∧ Hid (CloRun true T n p R G) ∧ St w0 wr (.own (.slice Ad (flat n R).length cd) (flat n R) :: .box (w.heap.size + 1 + 1) [.int .i64 0, .int .i64 0, .int .i64 0, .slice none 0 0] :: .box (w.heap.size + 1) [.int .i64 p, .int .i64 R.length, .int .i64 n, .slice Ad (flat n R).length cd] :: .box w.heap.size [.int .i64 p, .int .i64 n, .slice A T.length c0] :: L))
  case atStart => exact ⟨R0, A1, c1, rfl, HS, h1⟩
  case round =>
    clear h1 HS
    obtain ⟨R, Ad, cd, hlg, HR, h1⟩ := hrel
    obtain ⟨a, ha⟩ := HR.out.1
    have hRn := rf_le_n b1 ha
    have hRW := ha.wf
    have hle := cloNext_le (k := true) (T := T) hP ha
    obtain ⟨b, hb⟩ := cloNext_rf (k := true) (T := T) hP hRW
    have hN := rf_le_n b1 hb
    have hSW : Wf p n (stepS true T n p R) := Wf.stepS hP R
    have hSl : (stepS true T n p R).length ≤ n := rf_le_n b1 (spanL_rf hP (Wf_stepArg true T n b1 R))
    obtain ⟨S1, hS1⟩ : ∃ S1, S1 = stepS true T n p R := ⟨_, rfl⟩
    obtain ⟨R2, hR2⟩ : ∃ R2, R2 = cloNext true T n p R := ⟨_, rfl⟩
    have hst : R2 = spanL p n (R ++ S1) := by rw [hR2, hS1]; rfl
    rw [← hS1] at hSW hSl
    rw [← hR2] at hle hN
    obtain ⟨l1, hl1⟩ : ∃ l1, l1 = S1.length := ⟨_, rfl⟩
    obtain ⟨l2, hl2⟩ : ∃ l2, l2 = R2.length := ⟨_, rfl⟩
    obtain ⟨D, hD⟩ : ∃ D, D = flat n R := ⟨_, rfl⟩
    obtain ⟨r, hr⟩ : ∃ r, r = R.length := ⟨_, rfl⟩
    have HU := Lib.hid (fun W => l2All_any p n A T.length c0 W hP (by omega))
    have HP := Lib.hid (show ∀ (W : World) (v1 v2 v3 : Value), Ints W v1 T → Ints W v2 (unitD n) → Ints W v3 D → Calls Try.prog 87 #[.agg #[.int .i64 p, .int .i64 n, v1], .agg #[.int .i64 p, .int .i64 n, .int .i64 n, v2], .agg #[.int .i64 p, .int .i64 r, .int .i64 n, v3]] W (RetMat W p l1 n (flat n S1)) from fun W v1 v2 v3 x1 x2 x3 => by
      rw [hD] at x3
      have := l2Product_any p p p n n R.length v1 v2 v3 T (unitD n) (flat n R) W x1 x2 x3 HT.out (length_unitD n) (length_flat n R) hn (by omega) (by omega) hP rT (resid_unitD b1 n) (resid_flat (by omega) hRW)
      rw [hl1, hS1, hr]
      have e : stepS true T n p R = spanL p n (prodL T n p n (unitD n) R.length (flat n R)) := by
        show spanL p n (brR T n p (uniR n) R) = _
        rw [brR, length_uniR, flat_uniR]
      rw [e]
      exact this)
    have HJ := Lib.hid (show ∀ (W : World) (v1 v2 : Value), Ints W v1 D → Ints W v2 (flat n S1) → Calls Try.prog 136 #[.agg #[.int .i64 p, .int .i64 r, .int .i64 n, v1], .agg #[.int .i64 p, .int .i64 l1, .int .i64 n, v2]] W (RetMat W p l2 n (flat n R2)) from fun W v1 v2 x1 x2 => by
      rw [hD] at x1
      rw [hl2, hst, hl1, hr]
      exact l1Join_any p p n n v1 v2 R S1 W x1 x2 hRW hSW (by omega) (by omega) (by omega) hP)
    rw [← hD, ← hr] at h1
    have Hr := Lib.hid hr
    have HD := Lib.hid hD
    have HR2 := Lib.hid hR2
    have Hl2 := Lib.hid hl2
    have HLe := Lib.hid (show R.length ≤ R2.length from hle)
    have HN := Lib.hid hN
    have hti := (h1.ro (k + 4) (by simpa using hk)).ints
    have HTi := Lib.hid hti
    clear ha hRW hb hSW hS1 hst hl1 hl2 hD hr hR2 hle hN a b hti HTi
    obtain ⟨v0, v1, v2, v3⟩ := h1.box4 2 rfl
    have h2 := h1.box [.int .i64 p, .int .i64 r, .int .i64 n, .slice Ad D.length cd] 32
    obtain ⟨y0, y1, y2⟩ := h2.box3 4 rfl
    go_wp2_with fail
    refine (HU.out _).mono ?_
    rintro (e : Ending) w5 ⟨u, rfl, ho, hb5⟩
    obtain ⟨A7, n7, c7, rfl⟩ := ho.slice
    have h3 := h2.pushOwn hb5 ho
    obtain ⟨x0, x1, x2, x3⟩ := h3.box4 1 rfl
    have f0 := h3.free 1 rfl 0
    have f1 := h3.free 1 rfl 1
    have f2 := h3.free 1 rfl 2
    have f3 := h3.free 1 rfl 3
    have h4 := (((h3.setBox 1 rfl 0 (.int .i64 p)).setBox 1 rfl 1 (.int .i64 n)).setBox 1 rfl 2 (.int .i64 n)).setBox 1 rfl 3 (.slice A7 n7 c7)
    clear v0 v1 v2 v3 y0 y1 y2 ho hb5
    go_upto_region 4 with fail
    clear x0 x1 x2 x3 f0 f1 f2 f3 h1 h2 h3
    generalize hBt : wr.heap.size = Bt at h4 ⊢
    clear hBt
    have g0 := h4.drew
    go_cut [8] (fun s8 wx => ∃ (B8 : Nat) (A9 : Option Addr) (n9 c9 : Nat), s8 = .pointer (some ⟨B8, 0, none⟩) ∧ St w0 wx (.box B8 [.int .i64 p, .int .i64 l2, .int .i64 n, .slice A9 n9 c9] :: .own (.slice A9 n9 c9) (flat n R2) :: .own (.slice Ad D.length cd) D :: .box (w.heap.size + 1 + 1) [.int .i64 0, .int .i64 0, .int .i64 0, .slice none 0 0] :: .box (w.heap.size + 1) [.int .i64 p, .int .i64 r, .int .i64 n, .slice Ad D.length cd] :: .box w.heap.size [.int .i64 p, .int .i64 n, .slice A T.length c0] :: L))
    case first =>
      refine wp_region_cut (S := fun w' => (w'.cell? ⟨Bt, 0, none⟩ = some (.int .i64 p) ∧ w'.cell? ⟨Bt, 1, none⟩ = some (.int .i64 n) ∧ w'.cell? ⟨Bt, 2, none⟩ = some (.int .i64 n) ∧ w'.cell? ⟨Bt, 3, none⟩ = some (.slice A7 n7 c7)) ∧ (w'.cell? ⟨w.heap.size + 1, 0, none⟩ = some (.int .i64 p) ∧ w'.cell? ⟨w.heap.size + 1, 1, none⟩ = some (.int .i64 r) ∧ w'.cell? ⟨w.heap.size + 1, 2, none⟩ = some (.int .i64 n) ∧ w'.cell? ⟨w.heap.size + 1, 3, none⟩ = some (.slice Ad D.length cd)) ∧ w'.cell? ⟨w.heap.size, 0, none⟩ = some (.int .i64 p) ∧ w'.cell? ⟨w.heap.size, 1, none⟩ = some (.int .i64 n) ∧ w'.cell? ⟨w.heap.size, 2, none⟩ = some (.slice A T.length c0)) 7 (by kernel_rfl) (by kernel_rfl) ⟨g0.box4 1 rfl, g0.box4 4 rfl, g0.box3 5 rfl⟩ (fun hHeld => ?_)
      simp only [List.take_succ_cons, List.take_zero]
      generalize hv0 : World.drew _ = v0 at g0 hHeld ⊢
      clear hv0 h4
      refine anyH_take (v := ?_) 0 rfl (by kernel_rfl) (by kernel_rfl) (by kernel_rfl) (fun _ _ _ h => h) rfl ?_ hHeld ?_
      rotate_left
      · intro w' hSw
        go_simp
        try with_reducible rfl
      try simp only [Act.put, List.setIfInBounds_toArray, List.set_cons_zero, List.set_cons_succ]
      refine anyH_take (v := ?_) 1 rfl (by kernel_rfl) (by kernel_rfl) (by kernel_rfl) (fun _ _ _ h => h) rfl ?_ hHeld ?_
      rotate_left
      · intro w' hSw
        go_simp
        try with_reducible rfl
      try simp only [Act.put, List.setIfInBounds_toArray, List.set_cons_zero, List.set_cons_succ]
      refine anyH_take (v := ?_) 2 rfl (by kernel_rfl) (by kernel_rfl) (by kernel_rfl) (fun _ _ _ h => h) rfl ?_ hHeld ?_
      rotate_left
      · intro w' hSw
        go_simp
        try with_reducible rfl
      try simp only [Act.put, List.setIfInBounds_toArray, List.set_cons_zero, List.set_cons_succ]
      refine anyH_take (v := ?_) 3 rfl (by kernel_rfl) (by kernel_rfl) (by kernel_rfl) (fun _ _ _ h => h) rfl ?_ hHeld ?_
      rotate_left
      · intro w' hSw
        go_simp
        try with_reducible rfl
      try simp only [Act.put, List.setIfInBounds_toArray, List.set_cons_zero, List.set_cons_succ]
      refine wpAnyH_ready (rs := [4, 6]) (by kernel_rfl) (by simp) ?_
      refine ready_cons rfl (fun K hK => ?_) (ready_cons rfl (fun K hK => ?_) AllReadyH.nil)
      · go_simp
        refine (HP.out _ _ _ _ (g0.ro (k + 6) (by simpa using hk)).ints (g0.ownInts 0 rfl) (g0.ownInts 2 rfl)).mono ?_
        rintro (e : Ending) v1 ⟨u1, rfl, ho1, hb1⟩
        obtain ⟨B1, m1, d1, rfl⟩ := ho1.slice
        have g1 := g0.pushOwn hb1 ho1
        show K _ _
        refine hK.out _ _ ?_ (fun hHeld => ?_)
        · exact ⟨g1.box4 2 rfl, g1.box4 5 rfl, g1.box3 6 rfl⟩
        clear hK K
        try simp only [Act.put, List.setIfInBounds_toArray, List.set_cons_zero, List.set_cons_succ]
        refine wpAnyH_ready (rs := [5, 6]) (by kernel_rfl) (by simp) ?_
        refine ready_cons rfl (fun K hK => ?_) (ready_cons rfl (fun K hK => ?_) AllReadyH.nil)
        · go_simp
          refine (HJ.out _ _ _ (g1.ownInts 3 rfl) (g1.ownInts 0 rfl)).mono ?_
          rintro (e : Ending) v2 ⟨u2, rfl, ho2, hb2⟩
          obtain ⟨A9, n9, c9, rfl⟩ := ho2.slice
          have g2 := g1.pushOwn hb2 ho2
          show K _ _
          refine hK.out _ _ ?_ (fun hHeld => ?_)
          · exact ⟨g2.box4 3 rfl, g2.box4 6 rfl, g2.box3 7 rfl⟩
          clear hK K
          try simp only [Act.put, List.setIfInBounds_toArray, List.set_cons_zero, List.set_cons_succ]
          refine wpAnyH_ready (rs := [6]) (by kernel_rfl) (by simp) ?_
          refine ready_cons rfl (fun K hK => ?_) AllReadyH.nil
          go_simp
          have g3 := g2.box [.int .i64 0, .int .i64 0, .int .i64 0, .slice none 0 0] 32
          refine hK.out _ _ ?_ (fun hHeld => ?_)
          · exact ⟨g3.box4 4 rfl, g3.box4 7 rfl, g3.box3 8 rfl⟩
          clear hK K
          generalize World.alloc v2 (.cells #[.int .i64 0, .int .i64 0, .int .i64 0, .slice none 0 0] 32) = v3 at g3 hHeld ⊢
          try simp only [Act.put, List.setIfInBounds_toArray, List.set_cons_zero, List.set_cons_succ]
          refine wpAnyH_done (by kernel_rfl) ?_ _
          show wpList _ _ _ _ _ _
          simp only [List.drop_succ_cons, List.drop_zero]
          clear hHeld
          obtain ⟨p0, p1, p2, p3⟩ := g3.box4 0 rfl
          have f0 := g3.free 0 rfl 0
          have f1 := g3.free 0 rfl 1
          have f2 := g3.free 0 rfl 2
          have f3 := g3.free 0 rfl 3
          have q1 := (((g3.setBox 0 rfl 0 (.int .i64 p)).setBox 0 rfl 1 (.int .i64 l2)).setBox 0 rfl 2 (.int .i64 n)).setBox 0 rfl 3 (.slice A9 n9 c9)
          go_wp2_with fail
          go_meet
          exact ⟨_, _, _, _, rfl, (((((q1.rid 2).rid 3).rid 2).toFront 1 rfl).toFront 1 rfl)⟩
        · go_simp
          have g2 := g1.box [.int .i64 0, .int .i64 0, .int .i64 0, .slice none 0 0] 32
          refine hK.out _ _ ?_ (fun hHeld => ?_)
          · exact ⟨g2.box4 3 rfl, g2.box4 6 rfl, g2.box3 7 rfl⟩
          clear hK K
          generalize World.alloc v1 (.cells #[.int .i64 0, .int .i64 0, .int .i64 0, .slice none 0 0] 32) = v2 at g2 hHeld ⊢
          try simp only [Act.put, List.setIfInBounds_toArray, List.set_cons_zero, List.set_cons_succ]
          refine wpAnyH_ready (rs := [5]) (by kernel_rfl) (by simp) ?_
          refine ready_cons rfl (fun K hK => ?_) AllReadyH.nil
          go_simp
          refine (HJ.out _ _ _ (g2.ownInts 4 rfl) (g2.ownInts 1 rfl)).mono ?_
          rintro (e : Ending) v3 ⟨u3, rfl, ho3, hb3⟩
          obtain ⟨A9, n9, c9, rfl⟩ := ho3.slice
          have g3 := g2.pushOwn hb3 ho3
          show K _ _
          refine hK.out _ _ ?_ (fun hHeld => ?_)
          · exact ⟨g3.box4 4 rfl, g3.box4 7 rfl, g3.box3 8 rfl⟩
          clear hK K
          try simp only [Act.put, List.setIfInBounds_toArray, List.set_cons_zero, List.set_cons_succ]
          refine wpAnyH_done (by kernel_rfl) ?_ _
          show wpList _ _ _ _ _ _
          simp only [List.drop_succ_cons, List.drop_zero]
          clear hHeld
          obtain ⟨p0, p1, p2, p3⟩ := g3.box4 1 rfl
          have f0 := g3.free 1 rfl 0
          have f1 := g3.free 1 rfl 1
          have f2 := g3.free 1 rfl 2
          have f3 := g3.free 1 rfl 3
          have q1 := (((g3.setBox 1 rfl 0 (.int .i64 p)).setBox 1 rfl 1 (.int .i64 l2)).setBox 1 rfl 2 (.int .i64 n)).setBox 1 rfl 3 (.slice A9 n9 c9)
          go_wp2_with fail
          go_meet
          exact ⟨_, _, _, _, rfl, ((((q1.rid 2).rid 3).rid 2).toFront 1 rfl)⟩
      · go_simp
        have g1 := g0.box [.int .i64 0, .int .i64 0, .int .i64 0, .slice none 0 0] 32
        refine hK.out _ _ ?_ (fun hHeld => ?_)
        · exact ⟨g1.box4 2 rfl, g1.box4 5 rfl, g1.box3 6 rfl⟩
        clear hK K
        generalize World.alloc v0 (.cells #[.int .i64 0, .int .i64 0, .int .i64 0, .slice none 0 0] 32) = v1 at g1 hHeld ⊢
        try simp only [Act.put, List.setIfInBounds_toArray, List.set_cons_zero, List.set_cons_succ]
        refine wpAnyH_ready (rs := [4]) (by kernel_rfl) (by simp) ?_
        refine ready_cons rfl (fun K hK => ?_) AllReadyH.nil
        go_simp
        refine (HP.out _ _ _ _ (g1.ro (k + 7) (by simpa using hk)).ints (g1.ownInts 1 rfl) (g1.ownInts 3 rfl)).mono ?_
        rintro (e : Ending) v2 ⟨u2, rfl, ho2, hb2⟩
        obtain ⟨B2, m2, d2, rfl⟩ := ho2.slice
        have g2 := g1.pushOwn hb2 ho2
        show K _ _
        refine hK.out _ _ ?_ (fun hHeld => ?_)
        · exact ⟨g2.box4 3 rfl, g2.box4 6 rfl, g2.box3 7 rfl⟩
        clear hK K
        try simp only [Act.put, List.setIfInBounds_toArray, List.set_cons_zero, List.set_cons_succ]
        refine wpAnyH_ready (rs := [5]) (by kernel_rfl) (by simp) ?_
        refine ready_cons rfl (fun K hK => ?_) AllReadyH.nil
        go_simp
        refine (HJ.out _ _ _ (g2.ownInts 4 rfl) (g2.ownInts 0 rfl)).mono ?_
        rintro (e : Ending) v3 ⟨u3, rfl, ho3, hb3⟩
        obtain ⟨A9, n9, c9, rfl⟩ := ho3.slice
        have g3 := g2.pushOwn hb3 ho3
        show K _ _
        refine hK.out _ _ ?_ (fun hHeld => ?_)
        · exact ⟨g3.box4 4 rfl, g3.box4 7 rfl, g3.box3 8 rfl⟩
        clear hK K
        try simp only [Act.put, List.setIfInBounds_toArray, List.set_cons_zero, List.set_cons_succ]
        refine wpAnyH_done (by kernel_rfl) ?_ _
        show wpList _ _ _ _ _ _
        simp only [List.drop_succ_cons, List.drop_zero]
        clear hHeld
        obtain ⟨p0, p1, p2, p3⟩ := g3.box4 2 rfl
        have f0 := g3.free 2 rfl 0
        have f1 := g3.free 2 rfl 1
        have f2 := g3.free 2 rfl 2
        have f3 := g3.free 2 rfl 3
        have q1 := (((g3.setBox 2 rfl 0 (.int .i64 p)).setBox 2 rfl 1 (.int .i64 l2)).setBox 2 rfl 2 (.int .i64 n)).setBox 2 rfl 3 (.slice A9 n9 c9)
        go_wp2_with fail
        go_meet
        exact ⟨_, _, _, _, rfl, ((((q1.rid 1).rid 3).rid 2).toFront 1 rfl)⟩
    case rest =>
    clear h4 g0
    obtain ⟨B8, A9, n9, c9, rfl, h5⟩ := hcut
    obtain ⟨x0, x1, x2, x3⟩ := h5.box4 0 rfl
    obtain ⟨z0, z1, z2, z3⟩ := h5.box4 4 rfl
    by_cases he : l2 = r
    · subst he
      obtain ⟨y0, y1, y2, y3⟩ := h5.box4 3 rfl
      have f0 := h5.free 3 rfl 0
      have f1 := h5.free 3 rfl 1
      have f2 := h5.free 3 rfl 2
      have f3 := h5.free 3 rfl 3
      have h6 := (((h5.setBox 3 rfl 0 (.int .i64 p)).setBox 3 rfl 1 (.int .i64 l2)).setBox 3 rfl 2 (.int .i64 n)).setBox 3 rfl 3 (.slice A9 n9 c9)
      obtain ⟨r0, r1, r2, r3⟩ := h6.box4 3 rfl
      go_wp2
      have hh := HR.out
      obtain ⟨a, ha⟩ := hh.1
      have hlen : (cloNext true T n p R).length = R.length := by rw [← HR2.out, ← Hl2.out, Hr.out]
      have e1 : R2 = G := by rw [HR2.out, cloNext_same hP ha hlen]; exact hh.stop hlen
      rw [← e1, ← Hl2.out]
      refine bodyPost_ret (v := .agg #[.int .i64 p, .int .i64 l2, .int .i64 n, .slice A9 n9 c9]) (by simp [results, Try.results81, go_sem, r0, r1, r2, r3]) rfl ⟨_, rfl, ((((h6.rid 5).rid 4).rid 3).rid 2).rid 0⟩
    · have e1 : ((l2 : Int) == (r : Int)) = false := by rw [beq_eq_false_iff_ne]; omega
      have e2 : ¬ ((l2 : Int) = (r : Int)) := by omega
      have f0 := h5.free 4 rfl 0
      have f1 := h5.free 4 rfl 1
      have f2 := h5.free 4 rfl 2
      have f3 := h5.free 4 rfl 3
      have h6 := (((h5.setBox 4 rfl 0 (.int .i64 p)).setBox 4 rfl 1 (.int .i64 l2)).setBox 4 rfl 2 (.int .i64 n)).setBox 4 rfl 3 (.slice A9 n9 c9)
      go_wp2
      have hnx := HR.out.next hP (by rw [← HR2.out, ← Hl2.out, ← Hr.out]; exact he)
      rw [← HR2.out] at hnx
      have hn9 : n9 = (flat n R2).length := by
        obtain ⟨A', c', he', _⟩ := h5.ownInts 1 rfl
        simp only [Value.slice.injEq] at he'
        exact he'.2.1
      subst hn9
      go_roundg (n - R2.length)
      case measure => have := hlg.out; omega
      case rel => exact ⟨R2, A9, c9, rfl, hnx.1, by rw [← Hl2.out]; exact (h6.rid 2).rid 0⟩
end Go.Proofs.Ytechjmckfedblaa
