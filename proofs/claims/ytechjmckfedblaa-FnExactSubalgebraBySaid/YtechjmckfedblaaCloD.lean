/- SpanOf; SubalgebraBy and IdealBy of both programs. -/
import Derived.Test.YtechjmckfedblaaCloI
import Derived.Test.YtechjmckfedblaaProdSp
namespace Go.Proofs.Ytechjmckfedblaa
set_option maxRecDepth 100000
open Go.RowKit

set_option maxHeartbeats 2000000 in
theorem SpanOf_any (p : Int) (r n : Nat) (t : Value) (D : List Int) (w : World) (ht : Ints w t D) (hD : D.length = r * n) (hr : r ≤ 40) (hn : n ≤ 40) (hP : isPrime p = true) (rD : resid p D = true) :
    Calls Try.prog 84 #[.agg #[.int .i64 p, .int .i64 r, .int .i64 n, t]] w (RetMat w p (spanL p n (rowsM r n D)).length n (flat n (spanL p n (rowsM r n D)))) := by
  obtain ⟨b1, b2⟩ := isPrime_bd hP
  have h1 := (((St.start w).arg ht).box [.int .i64 p, .int .i64 r, .int .i64 n, t] 32).box [.int .i64 0, .int .i64 0, .int .i64 0, .slice none 0 0] 32
  simp only [World.size_alloc] at h1
  obtain ⟨A, k0, rfl, _, _, _⟩ := id ht
  have hok : matOk p r n D = true := by
    have e1 : (D.length : Int) = (r : Int) * n := by rw [hD]; simp
    have i1 : inR (r : Int) 0 40 = true := by simp [inR]; omega
    have i2 : inR (n : Int) 0 40 = true := by simp [inR]; omega
    simp only [matOk, hP, i1, i2, rD, decide_eq_true e1, Bool.and_self]
  have hrn := mul_le hr hn
  have hWr := Wf_rowsM (p := p) (by omega) (r := r) (c := n) rD
  have hSW := hWr.spanL hP
  have hsl := spanL_le hP hWr
  rw [length_rowsM] at hsl
  have hsn := mul_le (Nat.le_trans hsl hr) hn
  obtain ⟨R, hR⟩ : ∃ R, R = rowsM r n D := ⟨_, rfl⟩
  obtain ⟨Q, hQ⟩ : ∃ Q, Q = spanL p n R := ⟨_, rfl⟩
  rw [← hR] at hWr
  rw [← hR, ← hQ] at hSW hsl hsn ⊢
  have HM := Lib.hid (fun W (hi : Ints W (.slice A D.length k0) D) => MatrixOkI_any p r n _ D W hi (by omega))
  rw [hok] at HM
  have C1 := Lib.hid (show ∀ (W : World), Ints W (.slice A D.length k0) D → Calls Try.prog 73 #[.agg #[.int .i64 p, .int .i64 r, .int .i64 n, .slice A D.length k0]] W (RetLL W R) from fun W x1 => by rw [hR]; exact rowsOf_any p r n _ D W x1 hD (by omega) (by omega))
  have C2 := Lib.hid (show ∀ (W : World) (v1 : Value), IntRows W v1 R → Calls Try.prog 138 #[v1, .int .i64 n, .int .i64 p] W (RetLL W Q) from fun W v1 x1 => by rw [hQ]; exact span_any p n v1 R W x1 hWr (by rw [hR, length_rowsM]; omega) (by omega) hP)
  have C3 := Lib.hid (show ∀ (W : World) (v1 : Value), IntRows W v1 Q → Calls Try.prog 112 #[.int .i64 p, .int .i64 n, v1] W (RetMat W p Q.length n (flat n Q)) from fun W v1 x1 => by rw [flat_flatten hSW]; exact matrixOf_any p n v1 Q W x1 (by rw [total_wf hSW]; omega))
  clear ht hok hrn hWr hSW hsl hsn hR hQ hD
  obtain ⟨z0, z1, z2, z3⟩ := h1.box4 1 rfl
  go_enter Try.func84, Try.ntmps84
  go_wp2_with fail
  refine (HM.out _ (h1.roInts 2 rfl)).mono ?_
  rintro (e : Ending) w1 ⟨rfl, hb1⟩
  replace h1 := h1.on hb1
  clear hb1 z0 z1 z2 z3
  go_upto_region 3 with fail
  have g0 := h1.drew
  refine wp_region_cut (S := fun w' => w'.cell? ⟨w.heap.size, 0, none⟩ = some (.int .i64 p) ∧ w'.cell? ⟨w.heap.size, 1, none⟩ = some (.int .i64 r) ∧ w'.cell? ⟨w.heap.size, 2, none⟩ = some (.int .i64 n) ∧ w'.cell? ⟨w.heap.size, 3, none⟩ = some (.slice A D.length k0)) 12 (by kernel_rfl) (by kernel_rfl) (g0.box4 1 rfl) (fun hHeld => ?_)
  simp only [List.take_succ_cons, List.take_zero]
  refine anyH_take (v := ?_) 0 rfl (by kernel_rfl) (by kernel_rfl) (by kernel_rfl) (fun _ _ _ h => h) rfl ?_ hHeld ?_
  rotate_left
  · intro w' hSw
    go_simp
    try with_reducible rfl
  try simp only [Act.put, List.setIfInBounds_toArray, List.set_cons_zero, List.set_cons_succ]
  refine anyH_take (v := ?_) 1 rfl (by kernel_rfl) (by kernel_rfl) (by kernel_rfl) (fun _ _ _ h => h) rfl ?_ hHeld ?_
  rotate_left
  · intro w' hSw
    go_simp
    try with_reducible rfl
  try simp only [Act.put, List.setIfInBounds_toArray, List.set_cons_zero, List.set_cons_succ]
  refine anyH_take (v := ?_) 2 rfl (by kernel_rfl) (by kernel_rfl) (by kernel_rfl) (fun _ _ _ h => h) rfl ?_ hHeld ?_
  rotate_left
  · intro w' hSw
    go_simp
    try with_reducible rfl
  try simp only [Act.put, List.setIfInBounds_toArray, List.set_cons_zero, List.set_cons_succ]
  refine anyH_take (v := ?_) 3 rfl (by kernel_rfl) (by kernel_rfl) (by kernel_rfl) (fun _ _ _ h => h) rfl ?_ hHeld ?_
  rotate_left
  · intro w' hSw
    go_simp
    try with_reducible rfl
  try simp only [Act.put, List.setIfInBounds_toArray, List.set_cons_zero, List.set_cons_succ]
  refine anyH_take (v := ?_) 4 rfl (by kernel_rfl) (by kernel_rfl) (by kernel_rfl) (fun _ _ _ h => h) rfl ?_ hHeld ?_
  rotate_left
  · intro w' hSw
    go_simp
    try with_reducible rfl
  try simp only [Act.put, List.setIfInBounds_toArray, List.set_cons_zero, List.set_cons_succ]
  refine anyH_take (v := ?_) 6 rfl (by kernel_rfl) (by kernel_rfl) (by kernel_rfl) (fun _ _ _ h => h) rfl ?_ hHeld ?_
  rotate_left
  · intro w' hSw
    go_simp
    try with_reducible rfl
  try simp only [Act.put, List.setIfInBounds_toArray, List.set_cons_zero, List.set_cons_succ]
  refine anyH_take (v := ?_) 7 rfl (by kernel_rfl) (by kernel_rfl) (by kernel_rfl) (fun _ _ _ h => h) rfl ?_ hHeld ?_
  rotate_left
  · intro w' hSw
    go_simp
    try with_reducible rfl
  try simp only [Act.put, List.setIfInBounds_toArray, List.set_cons_zero, List.set_cons_succ]
  refine anyH_take (v := ?_) 8 rfl (by kernel_rfl) (by kernel_rfl) (by kernel_rfl) (fun _ _ _ h => h) rfl ?_ hHeld ?_
  rotate_left
  · intro w' hSw
    go_simp
    try with_reducible rfl
  try simp only [Act.put, List.setIfInBounds_toArray, List.set_cons_zero, List.set_cons_succ]
  refine anyH_take (v := ?_) 9 rfl (by kernel_rfl) (by kernel_rfl) (by kernel_rfl) (fun _ _ _ h => h) rfl ?_ hHeld ?_
  rotate_left
  · intro w' hSw
    go_simp
    try with_reducible rfl
  try simp only [Act.put, List.setIfInBounds_toArray, List.set_cons_zero, List.set_cons_succ]
  refine wpAnyH_ready (rs := [5]) (by kernel_rfl) (by simp) ?_
  refine ready_cons rfl (fun K hK => ?_) AllReadyH.nil
  go_simp
  refine (C1.out _ (g0.roInts 2 rfl)).mono ?_
  rintro (e : Ending) w2 ⟨u2, us2, rfl, hul2, hok2, hnd2, hb2⟩
  have g1 := g0.pushRows hb2 hok2 hnd2
  show K _ _
  refine hK.out _ _ ?_ (fun hHeld => ?_)
  · exact g1.box4 2 rfl
  clear hK K
  try simp only [Act.put, List.setIfInBounds_toArray, List.set_cons_zero, List.set_cons_succ]
  refine wpAnyH_ready (rs := [10]) (by kernel_rfl) (by simp) ?_
  refine ready_cons rfl (fun K hK => ?_) AllReadyH.nil
  go_simp
  refine (C2.out _ _ (g1.rowsR 0 rfl hul2)).mono ?_
  rintro (e : Ending) w3 ⟨u3, us3, rfl, hul3, hok3, hnd3, hb3⟩
  have g2 := g1.pushRows hb3 hok3 hnd3
  show K _ _
  refine hK.out _ _ ?_ (fun hHeld => ?_)
  · exact g2.box4 3 rfl
  clear hK K
  try simp only [Act.put, List.setIfInBounds_toArray, List.set_cons_zero, List.set_cons_succ]
  refine wpAnyH_ready (rs := [11]) (by kernel_rfl) (by simp) ?_
  refine ready_cons rfl (fun K hK => ?_) AllReadyH.nil
  go_simp
  refine (C3.out _ _ (g2.rowsR 0 rfl hul3)).mono ?_
  rintro (e : Ending) w4 ⟨u4, rfl, ho4, hb4⟩
  obtain ⟨A7, n7, c7, rfl⟩ := ho4.slice
  have g3 := g2.pushOwn hb4 ho4
  show K _ _
  refine hK.out _ _ ?_ (fun hHeld => ?_)
  · exact g3.box4 4 rfl
  clear hK K
  try simp only [Act.put, List.setIfInBounds_toArray, List.set_cons_zero, List.set_cons_succ]
  refine wpAnyH_done (by kernel_rfl) ?_ _
  show wpList _ _ _ _ _ _
  simp only [List.drop_succ_cons, List.drop_zero]
  clear hHeld
  obtain ⟨p0, p1, p2, p3⟩ := g3.box4 3 rfl
  have f0 := g3.free 3 rfl 0
  have f1 := g3.free 3 rfl 1
  have f2 := g3.free 3 rfl 2
  have f3 := g3.free 3 rfl 3
  have h5 := (((g3.setBox 3 rfl 0 (.int .i64 p)).setBox 3 rfl 1 (.int .i64 Q.length)).setBox 3 rfl 2 (.int .i64 n)).setBox 3 rfl 3 (.slice A7 n7 c7)
  obtain ⟨r0, r1, r2, r3⟩ := h5.box4 3 rfl
  clear g0 g1 g2 g3 h1 ho4 hb2 hb3 hb4
  go_wp2
  refine bodyPost_ret (v := .agg #[.int .i64 p, .int .i64 Q.length, .int .i64 n, .slice A7 n7 c7]) (by simp [results, Try.results84, go_sem, r0, r1, r2, r3]) rfl ⟨_, rfl, h5.own 0 rfl, h5.below⟩

def gbOk (p n : Int) (T : List Int) (q r c : Int) (D : List Int) : Bool := algOk p n T && matOk q r c D && decide (q = p) && decide (c = n)
theorem gbOk_spec {p n q r c : Int} {T D : List Int} (h : gbOk p n T q r c D = true) : algOk p n T = true ∧ matOk q r c D = true ∧ q = p ∧ c = n := by
  simp only [gbOk, Bool.and_eq_true, decide_eq_true_eq] at h
  exact ⟨h.1.1.1, h.1.1.2, h.1.2, h.2⟩

set_option maxHeartbeats 2000000 in
theorem l2Vectors_any (p n q r c : Int) (t u : Value) (T D : List Int) (w : World) (ht : Ints w t T) (hu : Ints w u D) (hp : p ≤ 9223372036854775807) (hq : q ≤ 9223372036854775807) :
    Calls Try.prog 80 #[.agg #[.int .i64 p, .int .i64 n, t], .agg #[.int .i64 q, .int .i64 r, .int .i64 c, u]] w (RetBool w (gbOk p n T q r c D)) := by
  have h1 := ((((St.start w).arg ht).arg hu).box [.int .i64 p, .int .i64 n, t] 30).box [.int .i64 q, .int .i64 r, .int .i64 c, u] 32
  simp only [World.size_alloc] at h1
  obtain ⟨A, k, rfl, _, _, _⟩ := id ht
  obtain ⟨A2, k2, rfl, _, _, _⟩ := id hu
  clear ht hu
  obtain ⟨y0, y1, y2⟩ := h1.box3 1 rfl
  by_cases b1 : algOk p n T = true
  · go_enter Try.func80, Try.ntmps80
    go_wp2_with fail
    refine (AlgebraOkS_any p n _ T _ (h1.roInts 3 rfl)).mono ?_
    rintro (e : Ending) w1 ⟨rfl, hb1⟩
    replace h1 := h1.on hb1
    clear hb1 y0 y1 y2
    obtain ⟨z0, z1, z2, z3⟩ := h1.box4 0 rfl
    go_wp2_with fail
    refine (MatrixOkS_any q r c _ D _ (h1.roInts 2 rfl) hq).mono ?_
    rintro (e : Ending) w2 ⟨rfl, hb1⟩
    replace h1 := h1.on hb1
    clear hb1 z0 z1 z2 z3
    obtain ⟨z0, z1, z2, z3⟩ := h1.box4 0 rfl
    obtain ⟨y0, y1, y2⟩ := h1.box3 1 rfl
    by_cases b2 : matOk q r c D = true
    · rw [b2]
      by_cases b3 : q = p
      · subst b3
        by_cases b4 : c = n
        · subst b4
          go_wp2
          go_ret
          exact ⟨ret_bool (by simp [gbOk, b1, b2]), h1.below⟩
        · have e4 : (c == n) = false := by rw [beq_eq_false_iff_ne]; exact b4
          go_wp2
          go_ret
          exact ⟨ret_bool (by simp [gbOk, b4]), h1.below⟩
      · have e3 : (q == p) = false := by rw [beq_eq_false_iff_ne]; exact b3
        go_wp2
        go_ret
        exact ⟨ret_bool (by simp [gbOk, b3]), h1.below⟩
    · have b2 : matOk q r c D = false := by simpa using b2
      rw [b2]
      go_wp2
      go_ret
      exact ⟨ret_bool (by simp [gbOk, b2]), h1.below⟩
  · have b1 : algOk p n T = false := by simpa using b1
    rw [show gbOk p n T q r c D = false by simp [gbOk, b1]]
    go_enter Try.func80, Try.ntmps80
    go_wp2_with fail
    refine (AlgebraOkS_any p n _ T _ (h1.roInts 3 rfl)).mono ?_
    rintro (e : Ending) w1 ⟨rfl, hb1⟩
    replace h1 := h1.on hb1
    clear hb1 y0 y1 y2
    go_wp2
    go_ret
    exact ⟨rfl, h1.below⟩

/-- What SubalgebraBy (false) and IdealBy (true) return. -/
def gbL (k : Bool) (p n : Int) (T : List Int) (r : Int) (D : List Int) : List (List Int) := cloL k T n.toNat p (spanL p n.toNat (rowsM r.toNat n.toNat D))
def gbP (p n : Int) (T : List Int) (q r c : Int) (D : List Int) : Int := if gbOk p n T q r c D then p else 0
def gbR (k : Bool) (p n : Int) (T : List Int) (q r c : Int) (D : List Int) : Int := if gbOk p n T q r c D then (gbL k p n T r D).length else 0
def gbC (p n : Int) (T : List Int) (q r c : Int) (D : List Int) : Int := if gbOk p n T q r c D then n else 0
def gbD (k : Bool) (p n : Int) (T : List Int) (q r c : Int) (D : List Int) : List Int := if gbOk p n T q r c D then flat n.toNat (gbL k p n T r D) else []
theorem gbD_bd (k : Bool) (p n : Int) (T : List Int) (q r c : Int) (D : List Int) : (gbD k p n T q r c D).length ≤ 784 := by
  unfold gbD
  split
  · rename_i h
    obtain ⟨h1, h2, e1, e2⟩ := gbOk_spec h
    subst e1
    obtain ⟨m, rfl, hm, _, _, h3, _, hP⟩ := algOk_spec h1
    obtain ⟨a, b, ea, eb, _, _, _, hr, _⟩ := matOk_spec h2
    rw [length_flat, Int.toNat_natCast]
    obtain ⟨z, hz⟩ := cloTo_rf (k := k) (T := T) hP m (spanL_rf hP (Wf_rowsM (p := q) (by omega) (r := r.toNat) (c := m) hr))
    have hl : (gbL k q m T r D).length ≤ m := by
      rw [gbL, Int.toNat_natCast]
      exact rf_le_n h3 hz
    exact mul_le (Nat.le_trans hl hm) hm
  · simp

set_option maxHeartbeats 4000000 in
theorem SubalgebraByS_any (p n q r c : Int) (t u : Value) (T D : List Int) (w : World) (ht : Ints w t T) (hu : Ints w u D) (hp : p ≤ 9223372036854775807) (hq : q ≤ 9223372036854775807) :
    Calls Try.prog 38 #[.agg #[.int .i64 p, .int .i64 n, t], .agg #[.int .i64 q, .int .i64 r, .int .i64 c, u]] w (RetMatB w (gbP p n T q r c D) (gbR false p n T q r c D) (gbC p n T q r c D) (gbD false p n T q r c D) (gbOk p n T q r c D)) := by
  by_cases b0 : gbOk p n T q r c D = true
  · obtain ⟨g1, g2, e1, e2⟩ := gbOk_spec b0
    subst q
    obtain ⟨m, rfl, k1, kT, k3, k4, k5, k6⟩ := algOk_spec g1
    subst c
    obtain ⟨rs, cs, rfl, ecs, i1, i2, iS, iR, _⟩ := matOk_spec g2
    have e5 : m = cs := by omega
    subst e5
    have hWr := Wf_rowsM (p := p) (by omega) (r := rs) (c := m) iR
    have hRf := spanL_rf k6 hWr
    have hL : gbL false p m T rs D = cloL false T m p (spanL p m (rowsM rs m D)) := by simp [gbL]
    obtain ⟨R0, hR0⟩ : ∃ R0, R0 = spanL p m (rowsM rs m D) := ⟨_, rfl⟩
    rw [← hR0] at hL hRf
    obtain ⟨G, hG⟩ : ∃ G, G = cloL false T m p R0 := ⟨_, rfl⟩
    rw [← hG] at hL
    rw [show gbP p m T p rs m D = p by simp [gbP, b0], show gbR false p m T p rs m D = G.length by rw [gbR, if_pos b0, hL], show gbC p m T p rs m D = m by simp [gbC, b0], show gbD false p m T p rs m D = flat m G by rw [gbD, if_pos b0, hL]; simp, b0]
    have h1 := (((((St.start w).arg ht).arg hu).box [.int .i64 p, .int .i64 m, t] 30).box [.int .i64 p, .int .i64 rs, .int .i64 m, u] 32).box [.int .i64 0, .int .i64 0, .int .i64 0, .slice none 0 0] 32
    simp only [World.size_alloc] at h1
    obtain ⟨A, k, rfl, _, _, _⟩ := id ht
    obtain ⟨A2, k2, rfl, _, _, _⟩ := id hu
    have HV := Lib.hid (fun W (v1 v2 : Value) (a1 : Ints W v1 T) (a2 : Ints W v2 D) => l2Vectors_any p m p rs m v1 v2 T D W a1 a2 hp hp)
    rw [b0] at HV
    have HSp := Lib.hid (show ∀ (W : World) (v1 : Value), Ints W v1 D → Calls Try.prog 82 #[.agg #[.int .i64 p, .int .i64 rs, .int .i64 m, v1]] W (RetMat W p R0.length m (flat m R0)) from fun W v1 x1 => by
      rw [hR0]
      exact l1Span_any p rs m v1 D W x1 iS (by have := mul_le i1 i2; omega) (by omega) (by omega) k6 iR)
    have HC := Lib.hid (show ∀ (W : World) (v1 : Value) (L : List It), St w W (.own v1 (flat m R0) :: L) → L[4]? = some (.ro (.slice A T.length k) T) → Calls Try.prog 81 #[.agg #[.int .i64 p, .int .i64 m, .slice A T.length k], .agg #[.int .i64 p, .int .i64 R0.length, .int .i64 m, v1], .bool false] W (fun e w' => ∃ u, e = .returned (.agg #[.int .i64 p, .int .i64 G.length, .int .i64 m, u]) ∧ St w w' (.own u (flat m G) :: L)) from fun W v1 L x1 x2 => by
      rw [hG]
      exact l2Closed0_st p m 4 v1 _ T R0 x1 x2 kT k1 k6 k3 hRf)
    clear ht hu kT k3 k4 k5 k6 iS iR hL b0 g1 g2 hWr hRf hR0 hG
    obtain ⟨y0, y1, y2⟩ := h1.box3 2 rfl
    obtain ⟨x0, x1, x2, x3⟩ := h1.box4 1 rfl
    go_enter Try.func38, Try.ntmps38
    go_wp2_with fail
    refine (HV.out _ _ _ (h1.roInts 4 rfl) (h1.roInts 3 rfl)).mono ?_
    rintro (e : Ending) w1 ⟨rfl, hb1⟩
    replace h1 := h1.on hb1
    clear hb1 y0 y1 y2 x0 x1 x2 x3
    go_upto_region 3 with fail
    have g0 := h1.drew
    refine wp_region_cut (S := fun w' => (w'.cell? ⟨w.heap.size, 0, none⟩ = some (.int .i64 p) ∧ w'.cell? ⟨w.heap.size, 1, none⟩ = some (.int .i64 m) ∧ w'.cell? ⟨w.heap.size, 2, none⟩ = some (.slice A T.length k)) ∧ w'.cell? ⟨w.heap.size + 1, 0, none⟩ = some (.int .i64 p) ∧ w'.cell? ⟨w.heap.size + 1, 1, none⟩ = some (.int .i64 rs) ∧ w'.cell? ⟨w.heap.size + 1, 2, none⟩ = some (.int .i64 m) ∧ w'.cell? ⟨w.heap.size + 1, 3, none⟩ = some (.slice A2 D.length k2)) 4 (by kernel_rfl) (by kernel_rfl) ⟨g0.box3 2 rfl, g0.box4 1 rfl⟩ (fun hHeld => ?_)
    simp only [List.take_succ_cons, List.take_zero]
    refine anyH_take (v := ?_) 0 rfl (by kernel_rfl) (by kernel_rfl) (by kernel_rfl) (fun _ _ _ h => h) rfl ?_ hHeld ?_
    rotate_left
    · intro w' hSw
      go_simp
      try with_reducible rfl
    try simp only [Act.put, List.setIfInBounds_toArray, List.set_cons_zero, List.set_cons_succ]
    refine anyH_take (v := ?_) 1 rfl (by kernel_rfl) (by kernel_rfl) (by kernel_rfl) (fun _ _ _ h => h) rfl ?_ hHeld ?_
    rotate_left
    · intro w' hSw
      go_simp
      try with_reducible rfl
    try simp only [Act.put, List.setIfInBounds_toArray, List.set_cons_zero, List.set_cons_succ]
    refine wpAnyH_ready (rs := [2]) (by kernel_rfl) (by simp) ?_
    refine ready_cons rfl (fun K hK => ?_) AllReadyH.nil
    go_simp
    refine (HSp.out _ _ (g0.roInts 3 rfl)).mono ?_
    rintro (e : Ending) w2 ⟨u2, rfl, ho2, hb2⟩
    obtain ⟨A6, n6, c6, rfl⟩ := ho2.slice
    have g1 := g0.pushOwn hb2 ho2
    show K _ _
    refine hK.out _ _ ?_ (fun hHeld => ?_)
    · exact ⟨g1.box3 3 rfl, g1.box4 2 rfl⟩
    clear hK K
    try simp only [Act.put, List.setIfInBounds_toArray, List.set_cons_zero, List.set_cons_succ]
    refine wpAnyH_ready (rs := [3]) (by kernel_rfl) (by simp) ?_
    refine ready_cons rfl (fun K hK => ?_) AllReadyH.nil
    go_simp
    refine (HC.out _ _ _ g1 rfl).mono ?_
    rintro (e : Ending) w3 ⟨u3, rfl, g2⟩
    obtain ⟨A7, n7, c7, rfl⟩ := (g2.own 0 rfl).slice
    show K _ _
    refine hK.out _ _ ?_ (fun hHeld => ?_)
    · exact ⟨g2.box3 3 rfl, g2.box4 2 rfl⟩
    clear hK K
    try simp only [Act.put, List.setIfInBounds_toArray, List.set_cons_zero, List.set_cons_succ]
    refine wpAnyH_done (by kernel_rfl) ?_ _
    show wpList _ _ _ _ _ _
    simp only [List.drop_succ_cons, List.drop_zero]
    clear hHeld
    obtain ⟨p0, p1, p2, p3⟩ := g2.box4 1 rfl
    have f0 := g2.free 1 rfl 0
    have f1 := g2.free 1 rfl 1
    have f2 := g2.free 1 rfl 2
    have f3 := g2.free 1 rfl 3
    have h5 := (((g2.setBox 1 rfl 0 (.int .i64 p)).setBox 1 rfl 1 (.int .i64 G.length)).setBox 1 rfl 2 (.int .i64 m)).setBox 1 rfl 3 (.slice A7 n7 c7)
    obtain ⟨r0, r1, r2, r3⟩ := h5.box4 1 rfl
    go_wp2
    refine bodyPost_ret (v := .tuple #[.agg #[.int .i64 p, .int .i64 G.length, .int .i64 m, .slice A7 n7 c7], .bool true]) (by simp [results, Try.results38, go_sem, r0, r1, r2, r3]) rfl ⟨_, rfl, h5.own 0 rfl, h5.below⟩
  · have b0 : gbOk p n T q r c D = false := by simpa using b0
    rw [show gbP p n T q r c D = 0 by simp [gbP, b0], show gbR false p n T q r c D = 0 by simp [gbR, b0], show gbC p n T q r c D = 0 by simp [gbC, b0], show gbD false p n T q r c D = [] by simp [gbD, b0], b0]
    have h1 := (((((St.start w).arg ht).arg hu).box [.int .i64 p, .int .i64 n, t] 30).box [.int .i64 q, .int .i64 r, .int .i64 c, u] 32).box [.int .i64 0, .int .i64 0, .int .i64 0, .slice none 0 0] 32
    simp only [World.size_alloc] at h1
    obtain ⟨A, k, rfl, _, _, _⟩ := id ht
    obtain ⟨A2, k2, rfl, _, _, _⟩ := id hu
    clear ht hu
    obtain ⟨y0, y1, y2⟩ := h1.box3 2 rfl
    obtain ⟨x0, x1, x2, x3⟩ := h1.box4 1 rfl
    go_enter Try.func38, Try.ntmps38
    go_wp2_with fail
    refine (l2Vectors_any p n q r c _ _ T D _ (h1.roInts 4 rfl) (h1.roInts 3 rfl) hp hq).mono ?_
    rintro (e : Ending) w1 ⟨rfl, hb1⟩
    replace h1 := h1.on hb1
    rw [b0]
    clear hb1 y0 y1 y2 x0 x1 x2 x3
    obtain ⟨v0, v1, v2, v3⟩ := h1.box4 0 rfl
    have f0 := h1.free 0 rfl 0
    have f1 := h1.free 0 rfl 1
    have f2 := h1.free 0 rfl 2
    have f3 := h1.free 0 rfl 3
    have h4 := (((h1.setBox 0 rfl 0 (.int .i64 0)).setBox 0 rfl 1 (.int .i64 0)).setBox 0 rfl 2 (.int .i64 0)).setBox 0 rfl 3 (.slice none 0 0)
    obtain ⟨r0, r1, r2, r3⟩ := h4.box4 0 rfl
    go_wp2
    refine bodyPost_ret (v := .tuple #[.agg #[.int .i64 0, .int .i64 0, .int .i64 0, .slice none 0 0], .bool false]) (by simp [results, Try.results38, go_sem, r0, r1, r2, r3]) rfl ⟨_, rfl, Own.nil, h4.below⟩

set_option maxHeartbeats 4000000 in
theorem IdealByS_any (p n q r c : Int) (t u : Value) (T D : List Int) (w : World) (ht : Ints w t T) (hu : Ints w u D) (hp : p ≤ 9223372036854775807) (hq : q ≤ 9223372036854775807) :
    Calls Try.prog 35 #[.agg #[.int .i64 p, .int .i64 n, t], .agg #[.int .i64 q, .int .i64 r, .int .i64 c, u]] w (RetMatB w (gbP p n T q r c D) (gbR true p n T q r c D) (gbC p n T q r c D) (gbD true p n T q r c D) (gbOk p n T q r c D)) := by
  by_cases b0 : gbOk p n T q r c D = true
  · obtain ⟨g1, g2, e1, e2⟩ := gbOk_spec b0
    subst q
    obtain ⟨m, rfl, k1, kT, k3, k4, k5, k6⟩ := algOk_spec g1
    subst c
    obtain ⟨rs, cs, rfl, ecs, i1, i2, iS, iR, _⟩ := matOk_spec g2
    have e5 : m = cs := by omega
    subst e5
    have hWr := Wf_rowsM (p := p) (by omega) (r := rs) (c := m) iR
    have hRf := spanL_rf k6 hWr
    have hL : gbL true p m T rs D = cloL true T m p (spanL p m (rowsM rs m D)) := by simp [gbL]
    obtain ⟨R0, hR0⟩ : ∃ R0, R0 = spanL p m (rowsM rs m D) := ⟨_, rfl⟩
    rw [← hR0] at hL hRf
    obtain ⟨G, hG⟩ : ∃ G, G = cloL true T m p R0 := ⟨_, rfl⟩
    rw [← hG] at hL
    rw [show gbP p m T p rs m D = p by simp [gbP, b0], show gbR true p m T p rs m D = G.length by rw [gbR, if_pos b0, hL], show gbC p m T p rs m D = m by simp [gbC, b0], show gbD true p m T p rs m D = flat m G by rw [gbD, if_pos b0, hL]; simp, b0]
    have h1 := (((((St.start w).arg ht).arg hu).box [.int .i64 p, .int .i64 m, t] 30).box [.int .i64 p, .int .i64 rs, .int .i64 m, u] 32).box [.int .i64 0, .int .i64 0, .int .i64 0, .slice none 0 0] 32
    simp only [World.size_alloc] at h1
    obtain ⟨A, k, rfl, _, _, _⟩ := id ht
    obtain ⟨A2, k2, rfl, _, _, _⟩ := id hu
    have HV := Lib.hid (fun W (v1 v2 : Value) (a1 : Ints W v1 T) (a2 : Ints W v2 D) => l2Vectors_any p m p rs m v1 v2 T D W a1 a2 hp hp)
    rw [b0] at HV
    have HSp := Lib.hid (show ∀ (W : World) (v1 : Value), Ints W v1 D → Calls Try.prog 82 #[.agg #[.int .i64 p, .int .i64 rs, .int .i64 m, v1]] W (RetMat W p R0.length m (flat m R0)) from fun W v1 x1 => by
      rw [hR0]
      exact l1Span_any p rs m v1 D W x1 iS (by have := mul_le i1 i2; omega) (by omega) (by omega) k6 iR)
    have HC := Lib.hid (show ∀ (W : World) (v1 : Value) (L : List It), St w W (.own v1 (flat m R0) :: L) → L[4]? = some (.ro (.slice A T.length k) T) → Calls Try.prog 81 #[.agg #[.int .i64 p, .int .i64 m, .slice A T.length k], .agg #[.int .i64 p, .int .i64 R0.length, .int .i64 m, v1], .bool true] W (fun e w' => ∃ u, e = .returned (.agg #[.int .i64 p, .int .i64 G.length, .int .i64 m, u]) ∧ St w w' (.own u (flat m G) :: L)) from fun W v1 L x1 x2 => by
      rw [hG]
      exact l2Closed1_st p m 4 v1 _ T R0 x1 x2 kT k1 k6 k3 hRf)
    clear ht hu kT k3 k4 k5 k6 iS iR hL b0 g1 g2 hWr hRf hR0 hG
    obtain ⟨y0, y1, y2⟩ := h1.box3 2 rfl
    obtain ⟨x0, x1, x2, x3⟩ := h1.box4 1 rfl
    go_enter Try.func35, Try.ntmps35
    go_wp2_with fail
    refine (HV.out _ _ _ (h1.roInts 4 rfl) (h1.roInts 3 rfl)).mono ?_
    rintro (e : Ending) w1 ⟨rfl, hb1⟩
    replace h1 := h1.on hb1
    clear hb1 y0 y1 y2 x0 x1 x2 x3
    go_upto_region 3 with fail
    have g0 := h1.drew
    refine wp_region_cut (S := fun w' => (w'.cell? ⟨w.heap.size, 0, none⟩ = some (.int .i64 p) ∧ w'.cell? ⟨w.heap.size, 1, none⟩ = some (.int .i64 m) ∧ w'.cell? ⟨w.heap.size, 2, none⟩ = some (.slice A T.length k)) ∧ w'.cell? ⟨w.heap.size + 1, 0, none⟩ = some (.int .i64 p) ∧ w'.cell? ⟨w.heap.size + 1, 1, none⟩ = some (.int .i64 rs) ∧ w'.cell? ⟨w.heap.size + 1, 2, none⟩ = some (.int .i64 m) ∧ w'.cell? ⟨w.heap.size + 1, 3, none⟩ = some (.slice A2 D.length k2)) 4 (by kernel_rfl) (by kernel_rfl) ⟨g0.box3 2 rfl, g0.box4 1 rfl⟩ (fun hHeld => ?_)
    simp only [List.take_succ_cons, List.take_zero]
    refine anyH_take (v := ?_) 0 rfl (by kernel_rfl) (by kernel_rfl) (by kernel_rfl) (fun _ _ _ h => h) rfl ?_ hHeld ?_
    rotate_left
    · intro w' hSw
      go_simp
      try with_reducible rfl
    try simp only [Act.put, List.setIfInBounds_toArray, List.set_cons_zero, List.set_cons_succ]
    refine anyH_take (v := ?_) 1 rfl (by kernel_rfl) (by kernel_rfl) (by kernel_rfl) (fun _ _ _ h => h) rfl ?_ hHeld ?_
    rotate_left
    · intro w' hSw
      go_simp
      try with_reducible rfl
    try simp only [Act.put, List.setIfInBounds_toArray, List.set_cons_zero, List.set_cons_succ]
    refine wpAnyH_ready (rs := [2]) (by kernel_rfl) (by simp) ?_
    refine ready_cons rfl (fun K hK => ?_) AllReadyH.nil
    go_simp
    refine (HSp.out _ _ (g0.roInts 3 rfl)).mono ?_
    rintro (e : Ending) w2 ⟨u2, rfl, ho2, hb2⟩
    obtain ⟨A6, n6, c6, rfl⟩ := ho2.slice
    have g1 := g0.pushOwn hb2 ho2
    show K _ _
    refine hK.out _ _ ?_ (fun hHeld => ?_)
    · exact ⟨g1.box3 3 rfl, g1.box4 2 rfl⟩
    clear hK K
    try simp only [Act.put, List.setIfInBounds_toArray, List.set_cons_zero, List.set_cons_succ]
    refine wpAnyH_ready (rs := [3]) (by kernel_rfl) (by simp) ?_
    refine ready_cons rfl (fun K hK => ?_) AllReadyH.nil
    go_simp
    refine (HC.out _ _ _ g1 rfl).mono ?_
    rintro (e : Ending) w3 ⟨u3, rfl, g2⟩
    obtain ⟨A7, n7, c7, rfl⟩ := (g2.own 0 rfl).slice
    show K _ _
    refine hK.out _ _ ?_ (fun hHeld => ?_)
    · exact ⟨g2.box3 3 rfl, g2.box4 2 rfl⟩
    clear hK K
    try simp only [Act.put, List.setIfInBounds_toArray, List.set_cons_zero, List.set_cons_succ]
    refine wpAnyH_done (by kernel_rfl) ?_ _
    show wpList _ _ _ _ _ _
    simp only [List.drop_succ_cons, List.drop_zero]
    clear hHeld
    obtain ⟨p0, p1, p2, p3⟩ := g2.box4 1 rfl
    have f0 := g2.free 1 rfl 0
    have f1 := g2.free 1 rfl 1
    have f2 := g2.free 1 rfl 2
    have f3 := g2.free 1 rfl 3
    have h5 := (((g2.setBox 1 rfl 0 (.int .i64 p)).setBox 1 rfl 1 (.int .i64 G.length)).setBox 1 rfl 2 (.int .i64 m)).setBox 1 rfl 3 (.slice A7 n7 c7)
    obtain ⟨r0, r1, r2, r3⟩ := h5.box4 1 rfl
    go_wp2
    refine bodyPost_ret (v := .tuple #[.agg #[.int .i64 p, .int .i64 G.length, .int .i64 m, .slice A7 n7 c7], .bool true]) (by simp [results, Try.results35, go_sem, r0, r1, r2, r3]) rfl ⟨_, rfl, h5.own 0 rfl, h5.below⟩
  · have b0 : gbOk p n T q r c D = false := by simpa using b0
    rw [show gbP p n T q r c D = 0 by simp [gbP, b0], show gbR true p n T q r c D = 0 by simp [gbR, b0], show gbC p n T q r c D = 0 by simp [gbC, b0], show gbD true p n T q r c D = [] by simp [gbD, b0], b0]
    have h1 := (((((St.start w).arg ht).arg hu).box [.int .i64 p, .int .i64 n, t] 30).box [.int .i64 q, .int .i64 r, .int .i64 c, u] 32).box [.int .i64 0, .int .i64 0, .int .i64 0, .slice none 0 0] 32
    simp only [World.size_alloc] at h1
    obtain ⟨A, k, rfl, _, _, _⟩ := id ht
    obtain ⟨A2, k2, rfl, _, _, _⟩ := id hu
    clear ht hu
    obtain ⟨y0, y1, y2⟩ := h1.box3 2 rfl
    obtain ⟨x0, x1, x2, x3⟩ := h1.box4 1 rfl
    go_enter Try.func35, Try.ntmps35
    go_wp2_with fail
    refine (l2Vectors_any p n q r c _ _ T D _ (h1.roInts 4 rfl) (h1.roInts 3 rfl) hp hq).mono ?_
    rintro (e : Ending) w1 ⟨rfl, hb1⟩
    replace h1 := h1.on hb1
    rw [b0]
    clear hb1 y0 y1 y2 x0 x1 x2 x3
    obtain ⟨v0, v1, v2, v3⟩ := h1.box4 0 rfl
    have f0 := h1.free 0 rfl 0
    have f1 := h1.free 0 rfl 1
    have f2 := h1.free 0 rfl 2
    have f3 := h1.free 0 rfl 3
    have h4 := (((h1.setBox 0 rfl 0 (.int .i64 0)).setBox 0 rfl 1 (.int .i64 0)).setBox 0 rfl 2 (.int .i64 0)).setBox 0 rfl 3 (.slice none 0 0)
    obtain ⟨r0, r1, r2, r3⟩ := h4.box4 0 rfl
    go_wp2
    refine bodyPost_ret (v := .tuple #[.agg #[.int .i64 0, .int .i64 0, .int .i64 0, .slice none 0 0], .bool false]) (by simp [results, Try.results35, go_sem, r0, r1, r2, r3]) rfl ⟨_, rfl, Own.nil, h4.below⟩

set_option maxHeartbeats 4000000 in
theorem SubalgebraByI_any (p n q r c : Int) (t u : Value) (T D : List Int) (w : World) (ht : Ints w t T) (hu : Ints w u D) (hp : p ≤ 9223372036854775807) (hq : q ≤ 9223372036854775807) :
    Calls Try.prog 39 #[.agg #[.int .i64 p, .int .i64 n, t], .agg #[.int .i64 q, .int .i64 r, .int .i64 c, u]] w (RetMatB w (gbP p n T q r c D) (gbR false p n T q r c D) (gbC p n T q r c D) (gbD false p n T q r c D) (gbOk p n T q r c D)) := by
  by_cases b0 : gbOk p n T q r c D = true
  · obtain ⟨g1, g2, e1, e2⟩ := gbOk_spec b0
    subst q
    obtain ⟨m, rfl, k1, kT, k3, k4, k5, k6⟩ := algOk_spec g1
    subst c
    obtain ⟨rs, cs, rfl, ecs, i1, i2, iS, iR, _⟩ := matOk_spec g2
    have e5 : m = cs := by omega
    subst e5
    have hWr := Wf_rowsM (p := p) (by omega) (r := rs) (c := m) iR
    have hRf := spanL_rf k6 hWr
    have hL : gbL false p m T rs D = cloL false T m p (spanL p m (rowsM rs m D)) := by simp [gbL]
    obtain ⟨R0, hR0⟩ : ∃ R0, R0 = spanL p m (rowsM rs m D) := ⟨_, rfl⟩
    rw [← hR0] at hL hRf
    obtain ⟨G, hG⟩ : ∃ G, G = cloL false T m p R0 := ⟨_, rfl⟩
    rw [← hG] at hL
    rw [show gbP p m T p rs m D = p by simp [gbP, b0], show gbR false p m T p rs m D = G.length by rw [gbR, if_pos b0, hL], show gbC p m T p rs m D = m by simp [gbC, b0], show gbD false p m T p rs m D = flat m G by rw [gbD, if_pos b0, hL]; simp, b0]
    have h1 := (((((St.start w).arg ht).arg hu).box [.int .i64 p, .int .i64 m, t] 30).box [.int .i64 p, .int .i64 rs, .int .i64 m, u] 32).box [.int .i64 0, .int .i64 0, .int .i64 0, .slice none 0 0] 32
    simp only [World.size_alloc] at h1
    obtain ⟨A, k, rfl, _, _, _⟩ := id ht
    obtain ⟨A2, k2, rfl, _, _, _⟩ := id hu
    have HA := Lib.hid (fun W (v1 : Value) (a1 : Ints W v1 T) => AlgebraOkI_any p m v1 T W a1 hp)
    rw [g1] at HA
    have HM := Lib.hid (fun W (v1 : Value) (a1 : Ints W v1 D) => MatrixOkI_any p rs m v1 D W a1 hp)
    rw [g2] at HM
    have HSp := Lib.hid (show ∀ (W : World) (v1 : Value), Ints W v1 D → Calls Try.prog 84 #[.agg #[.int .i64 p, .int .i64 rs, .int .i64 m, v1]] W (RetMat W p R0.length m (flat m R0)) from fun W v1 x1 => by
      rw [hR0]
      exact SpanOf_any p rs m v1 D W x1 iS i1 i2 k6 iR)
    have HC := Lib.hid (show ∀ (W : World) (v1 : Value) (L : List It), St w W (.own v1 (flat m R0) :: L) → L[4]? = some (.ro (.slice A T.length k) T) → Calls Try.prog 83 #[.agg #[.int .i64 p, .int .i64 m, .slice A T.length k], .agg #[.int .i64 p, .int .i64 R0.length, .int .i64 m, v1], .bool false] W (fun e w' => ∃ u, e = .returned (.agg #[.int .i64 p, .int .i64 G.length, .int .i64 m, u]) ∧ St w w' (.own u (flat m G) :: L)) from fun W v1 L x1 x2 => by
      rw [hG]
      exact closed0_st p m 4 v1 _ T R0 x1 x2 kT k1 k6 k3 (anti_of g1) hRf)
    clear ht hu kT k3 k4 k5 k6 iS iR hL b0 g1 g2 hWr hRf hR0 hG
    obtain ⟨y0, y1, y2⟩ := h1.box3 2 rfl
    go_enter Try.func39, Try.ntmps39
    go_wp2_with fail
    refine (HA.out _ _ (h1.roInts 4 rfl)).mono ?_
    rintro (e : Ending) w1 ⟨rfl, hb1⟩
    replace h1 := h1.on hb1
    clear hb1 y0 y1 y2
    obtain ⟨x0, x1, x2, x3⟩ := h1.box4 1 rfl
    go_wp2_with fail
    refine (HM.out _ _ (h1.roInts 3 rfl)).mono ?_
    rintro (e : Ending) w2 ⟨rfl, hb1⟩
    replace h1 := h1.on hb1
    clear hb1 x0 x1 x2 x3
    obtain ⟨y0, y1, y2⟩ := h1.box3 2 rfl
    obtain ⟨x0, x1, x2, x3⟩ := h1.box4 1 rfl
    go_upto_region 3 with fail
    clear y0 y1 y2 x0 x1 x2 x3
    have g0 := h1.drew
    refine wp_region_cut (S := fun w' => (w'.cell? ⟨w.heap.size, 0, none⟩ = some (.int .i64 p) ∧ w'.cell? ⟨w.heap.size, 1, none⟩ = some (.int .i64 m) ∧ w'.cell? ⟨w.heap.size, 2, none⟩ = some (.slice A T.length k)) ∧ w'.cell? ⟨w.heap.size + 1, 0, none⟩ = some (.int .i64 p) ∧ w'.cell? ⟨w.heap.size + 1, 1, none⟩ = some (.int .i64 rs) ∧ w'.cell? ⟨w.heap.size + 1, 2, none⟩ = some (.int .i64 m) ∧ w'.cell? ⟨w.heap.size + 1, 3, none⟩ = some (.slice A2 D.length k2)) 5 (by kernel_rfl) (by kernel_rfl) ⟨g0.box3 2 rfl, g0.box4 1 rfl⟩ (fun hHeld => ?_)
    simp only [List.take_succ_cons, List.take_zero]
    refine anyH_take (v := ?_) 0 rfl (by kernel_rfl) (by kernel_rfl) (by kernel_rfl) (fun _ _ _ h => h) rfl ?_ hHeld ?_
    rotate_left
    · intro w' hSw
      go_simp
      try with_reducible rfl
    try simp only [Act.put, List.setIfInBounds_toArray, List.set_cons_zero, List.set_cons_succ]
    refine anyH_take (v := ?_) 2 rfl (by kernel_rfl) (by kernel_rfl) (by kernel_rfl) (fun _ _ _ h => h) rfl ?_ hHeld ?_
    rotate_left
    · intro w' hSw
      go_simp
      try with_reducible rfl
    try simp only [Act.put, List.setIfInBounds_toArray, List.set_cons_zero, List.set_cons_succ]
    refine wpAnyH_ready (rs := [1]) (by kernel_rfl) (by simp) ?_
    refine ready_cons rfl (fun K hK => ?_) AllReadyH.nil
    go_simp
    refine (newLie_any p m (.slice A T.length k) A T.length k _ rfl).mono ?_
    rintro (e : Ending) w3 ⟨rfl, hb3⟩
    have g1 := g0.on hb3
    show K _ _
    refine hK.out _ _ ?_ (fun hHeld => ?_)
    · exact ⟨g1.box3 2 rfl, g1.box4 1 rfl⟩
    clear hK K
    try simp only [Act.put, List.setIfInBounds_toArray, List.set_cons_zero, List.set_cons_succ]
    refine wpAnyH_ready (rs := [3]) (by kernel_rfl) (by simp) ?_
    refine ready_cons rfl (fun K hK => ?_) AllReadyH.nil
    go_simp
    refine (HSp.out _ _ (g1.roInts 3 rfl)).mono ?_
    rintro (e : Ending) w4 ⟨u4, rfl, ho4, hb4⟩
    obtain ⟨A6, n6, c6, rfl⟩ := ho4.slice
    have g2 := g1.pushOwn hb4 ho4
    show K _ _
    refine hK.out _ _ ?_ (fun hHeld => ?_)
    · exact ⟨g2.box3 3 rfl, g2.box4 2 rfl⟩
    clear hK K
    try simp only [Act.put, List.setIfInBounds_toArray, List.set_cons_zero, List.set_cons_succ]
    refine wpAnyH_ready (rs := [4]) (by kernel_rfl) (by simp) ?_
    refine ready_cons rfl (fun K hK => ?_) AllReadyH.nil
    go_simp
    refine (HC.out _ _ _ g2 rfl).mono ?_
    rintro (e : Ending) w5 ⟨u5, rfl, g3⟩
    obtain ⟨A7, n7, c7, rfl⟩ := (g3.own 0 rfl).slice
    show K _ _
    refine hK.out _ _ ?_ (fun hHeld => ?_)
    · exact ⟨g3.box3 3 rfl, g3.box4 2 rfl⟩
    clear hK K
    try simp only [Act.put, List.setIfInBounds_toArray, List.set_cons_zero, List.set_cons_succ]
    refine wpAnyH_done (by kernel_rfl) ?_ _
    show wpList _ _ _ _ _ _
    simp only [List.drop_succ_cons, List.drop_zero]
    clear hHeld
    obtain ⟨p0, p1, p2, p3⟩ := g3.box4 1 rfl
    have f0 := g3.free 1 rfl 0
    have f1 := g3.free 1 rfl 1
    have f2 := g3.free 1 rfl 2
    have f3 := g3.free 1 rfl 3
    have h5 := (((g3.setBox 1 rfl 0 (.int .i64 p)).setBox 1 rfl 1 (.int .i64 G.length)).setBox 1 rfl 2 (.int .i64 m)).setBox 1 rfl 3 (.slice A7 n7 c7)
    obtain ⟨r0, r1, r2, r3⟩ := h5.box4 1 rfl
    go_wp2
    refine bodyPost_ret (v := .tuple #[.agg #[.int .i64 p, .int .i64 G.length, .int .i64 m, .slice A7 n7 c7], .bool true]) (by simp [results, Try.results39, go_sem, r0, r1, r2, r3]) rfl ⟨_, rfl, h5.own 0 rfl, h5.below⟩
  · have b0 : gbOk p n T q r c D = false := by simpa using b0
    rw [show gbP p n T q r c D = 0 by simp [gbP, b0], show gbR false p n T q r c D = 0 by simp [gbR, b0], show gbC p n T q r c D = 0 by simp [gbC, b0], show gbD false p n T q r c D = [] by simp [gbD, b0], b0]
    have h1 := (((((St.start w).arg ht).arg hu).box [.int .i64 p, .int .i64 n, t] 30).box [.int .i64 q, .int .i64 r, .int .i64 c, u] 32).box [.int .i64 0, .int .i64 0, .int .i64 0, .slice none 0 0] 32
    simp only [World.size_alloc] at h1
    obtain ⟨A, k, rfl, _, _, _⟩ := id ht
    obtain ⟨A2, k2, rfl, _, _, _⟩ := id hu
    clear ht hu
    obtain ⟨y0, y1, y2⟩ := h1.box3 2 rfl
    go_enter Try.func39, Try.ntmps39
    go_wp2_with fail
    refine (AlgebraOkI_any p n _ T _ (h1.roInts 4 rfl) hp).mono ?_
    rintro (e : Ending) w1 ⟨rfl, hb1⟩
    replace h1 := h1.on hb1
    clear hb1 y0 y1 y2
    by_cases b1 : algOk p n T = true
    · obtain ⟨x0, x1, x2, x3⟩ := h1.box4 1 rfl
      rw [b1]
      go_wp2_with fail
      refine (MatrixOkI_any q r c _ D _ (h1.roInts 3 rfl) hq).mono ?_
      rintro (e : Ending) w2 ⟨rfl, hb1⟩
      replace h1 := h1.on hb1
      clear hb1 x0 x1 x2 x3
      by_cases b2 : matOk q r c D = true
      · rw [b2]
        obtain ⟨y0, y1, y2⟩ := h1.box3 2 rfl
        obtain ⟨x0, x1, x2, x3⟩ := h1.box4 1 rfl
        obtain ⟨v0, v1, v2, v3⟩ := h1.box4 0 rfl
        by_cases b3 : q = p
        · subst b3
          have b4 : ¬ c = n := fun h => by subst h; simp [gbOk, b1, b2] at b0
          have e4 : (c == n) = false := by rw [beq_eq_false_iff_ne]; exact b4
          have e5 : (c != n) = true := by rw [bne, e4]; rfl
          clear b0
          have f0 := h1.free 0 rfl 0
          have f1 := h1.free 0 rfl 1
          have f2 := h1.free 0 rfl 2
          have f3 := h1.free 0 rfl 3
          have h4 := (((h1.setBox 0 rfl 0 (.int .i64 0)).setBox 0 rfl 1 (.int .i64 0)).setBox 0 rfl 2 (.int .i64 0)).setBox 0 rfl 3 (.slice none 0 0)
          obtain ⟨r0, r1, r2, r3⟩ := h4.box4 0 rfl
          go_wp2
          refine bodyPost_ret (v := .tuple #[.agg #[.int .i64 0, .int .i64 0, .int .i64 0, .slice none 0 0], .bool false]) (by simp [results, Try.results39, go_sem, r0, r1, r2, r3]) rfl ⟨_, rfl, Own.nil, h4.below⟩
        · have e4 : (q == p) = false := by rw [beq_eq_false_iff_ne]; exact b3
          have e5 : (q != p) = true := by rw [bne, e4]; rfl
          clear b0
          have f0 := h1.free 0 rfl 0
          have f1 := h1.free 0 rfl 1
          have f2 := h1.free 0 rfl 2
          have f3 := h1.free 0 rfl 3
          have h4 := (((h1.setBox 0 rfl 0 (.int .i64 0)).setBox 0 rfl 1 (.int .i64 0)).setBox 0 rfl 2 (.int .i64 0)).setBox 0 rfl 3 (.slice none 0 0)
          obtain ⟨r0, r1, r2, r3⟩ := h4.box4 0 rfl
          go_wp2
          refine bodyPost_ret (v := .tuple #[.agg #[.int .i64 0, .int .i64 0, .int .i64 0, .slice none 0 0], .bool false]) (by simp [results, Try.results39, go_sem, r0, r1, r2, r3]) rfl ⟨_, rfl, Own.nil, h4.below⟩
      · have b2 : matOk q r c D = false := by simpa using b2
        rw [b2]
        obtain ⟨v0, v1, v2, v3⟩ := h1.box4 0 rfl
        have f0 := h1.free 0 rfl 0
        have f1 := h1.free 0 rfl 1
        have f2 := h1.free 0 rfl 2
        have f3 := h1.free 0 rfl 3
        have h4 := (((h1.setBox 0 rfl 0 (.int .i64 0)).setBox 0 rfl 1 (.int .i64 0)).setBox 0 rfl 2 (.int .i64 0)).setBox 0 rfl 3 (.slice none 0 0)
        obtain ⟨r0, r1, r2, r3⟩ := h4.box4 0 rfl
        go_wp2
        refine bodyPost_ret (v := .tuple #[.agg #[.int .i64 0, .int .i64 0, .int .i64 0, .slice none 0 0], .bool false]) (by simp [results, Try.results39, go_sem, r0, r1, r2, r3]) rfl ⟨_, rfl, Own.nil, h4.below⟩
    · have b1 : algOk p n T = false := by simpa using b1
      rw [b1]
      obtain ⟨v0, v1, v2, v3⟩ := h1.box4 0 rfl
      have f0 := h1.free 0 rfl 0
      have f1 := h1.free 0 rfl 1
      have f2 := h1.free 0 rfl 2
      have f3 := h1.free 0 rfl 3
      have h4 := (((h1.setBox 0 rfl 0 (.int .i64 0)).setBox 0 rfl 1 (.int .i64 0)).setBox 0 rfl 2 (.int .i64 0)).setBox 0 rfl 3 (.slice none 0 0)
      obtain ⟨r0, r1, r2, r3⟩ := h4.box4 0 rfl
      go_wp2
      refine bodyPost_ret (v := .tuple #[.agg #[.int .i64 0, .int .i64 0, .int .i64 0, .slice none 0 0], .bool false]) (by simp [results, Try.results39, go_sem, r0, r1, r2, r3]) rfl ⟨_, rfl, Own.nil, h4.below⟩

set_option maxHeartbeats 4000000 in
theorem IdealByI_any (p n q r c : Int) (t u : Value) (T D : List Int) (w : World) (ht : Ints w t T) (hu : Ints w u D) (hp : p ≤ 9223372036854775807) (hq : q ≤ 9223372036854775807) :
    Calls Try.prog 36 #[.agg #[.int .i64 p, .int .i64 n, t], .agg #[.int .i64 q, .int .i64 r, .int .i64 c, u]] w (RetMatB w (gbP p n T q r c D) (gbR true p n T q r c D) (gbC p n T q r c D) (gbD true p n T q r c D) (gbOk p n T q r c D)) := by
  by_cases b0 : gbOk p n T q r c D = true
  · obtain ⟨g1, g2, e1, e2⟩ := gbOk_spec b0
    subst q
    obtain ⟨m, rfl, k1, kT, k3, k4, k5, k6⟩ := algOk_spec g1
    subst c
    obtain ⟨rs, cs, rfl, ecs, i1, i2, iS, iR, _⟩ := matOk_spec g2
    have e5 : m = cs := by omega
    subst e5
    have hWr := Wf_rowsM (p := p) (by omega) (r := rs) (c := m) iR
    have hRf := spanL_rf k6 hWr
    have hL : gbL true p m T rs D = cloL true T m p (spanL p m (rowsM rs m D)) := by simp [gbL]
    obtain ⟨R0, hR0⟩ : ∃ R0, R0 = spanL p m (rowsM rs m D) := ⟨_, rfl⟩
    rw [← hR0] at hL hRf
    obtain ⟨G, hG⟩ : ∃ G, G = cloL true T m p R0 := ⟨_, rfl⟩
    rw [← hG] at hL
    rw [show gbP p m T p rs m D = p by simp [gbP, b0], show gbR true p m T p rs m D = G.length by rw [gbR, if_pos b0, hL], show gbC p m T p rs m D = m by simp [gbC, b0], show gbD true p m T p rs m D = flat m G by rw [gbD, if_pos b0, hL]; simp, b0]
    have h1 := (((((St.start w).arg ht).arg hu).box [.int .i64 p, .int .i64 m, t] 30).box [.int .i64 p, .int .i64 rs, .int .i64 m, u] 32).box [.int .i64 0, .int .i64 0, .int .i64 0, .slice none 0 0] 32
    simp only [World.size_alloc] at h1
    obtain ⟨A, k, rfl, _, _, _⟩ := id ht
    obtain ⟨A2, k2, rfl, _, _, _⟩ := id hu
    have HA := Lib.hid (fun W (v1 : Value) (a1 : Ints W v1 T) => AlgebraOkI_any p m v1 T W a1 hp)
    rw [g1] at HA
    have HM := Lib.hid (fun W (v1 : Value) (a1 : Ints W v1 D) => MatrixOkI_any p rs m v1 D W a1 hp)
    rw [g2] at HM
    have HSp := Lib.hid (show ∀ (W : World) (v1 : Value), Ints W v1 D → Calls Try.prog 84 #[.agg #[.int .i64 p, .int .i64 rs, .int .i64 m, v1]] W (RetMat W p R0.length m (flat m R0)) from fun W v1 x1 => by
      rw [hR0]
      exact SpanOf_any p rs m v1 D W x1 iS i1 i2 k6 iR)
    have HC := Lib.hid (show ∀ (W : World) (v1 : Value) (L : List It), St w W (.own v1 (flat m R0) :: L) → L[4]? = some (.ro (.slice A T.length k) T) → Calls Try.prog 83 #[.agg #[.int .i64 p, .int .i64 m, .slice A T.length k], .agg #[.int .i64 p, .int .i64 R0.length, .int .i64 m, v1], .bool true] W (fun e w' => ∃ u, e = .returned (.agg #[.int .i64 p, .int .i64 G.length, .int .i64 m, u]) ∧ St w w' (.own u (flat m G) :: L)) from fun W v1 L x1 x2 => by
      rw [hG]
      exact closed1_st p m 4 v1 _ T R0 x1 x2 kT k1 k6 k3 (anti_of g1) hRf)
    clear ht hu kT k3 k4 k5 k6 iS iR hL b0 g1 g2 hWr hRf hR0 hG
    obtain ⟨y0, y1, y2⟩ := h1.box3 2 rfl
    go_enter Try.func36, Try.ntmps36
    go_wp2_with fail
    refine (HA.out _ _ (h1.roInts 4 rfl)).mono ?_
    rintro (e : Ending) w1 ⟨rfl, hb1⟩
    replace h1 := h1.on hb1
    clear hb1 y0 y1 y2
    obtain ⟨x0, x1, x2, x3⟩ := h1.box4 1 rfl
    go_wp2_with fail
    refine (HM.out _ _ (h1.roInts 3 rfl)).mono ?_
    rintro (e : Ending) w2 ⟨rfl, hb1⟩
    replace h1 := h1.on hb1
    clear hb1 x0 x1 x2 x3
    obtain ⟨y0, y1, y2⟩ := h1.box3 2 rfl
    obtain ⟨x0, x1, x2, x3⟩ := h1.box4 1 rfl
    go_upto_region 3 with fail
    clear y0 y1 y2 x0 x1 x2 x3
    have g0 := h1.drew
    refine wp_region_cut (S := fun w' => (w'.cell? ⟨w.heap.size, 0, none⟩ = some (.int .i64 p) ∧ w'.cell? ⟨w.heap.size, 1, none⟩ = some (.int .i64 m) ∧ w'.cell? ⟨w.heap.size, 2, none⟩ = some (.slice A T.length k)) ∧ w'.cell? ⟨w.heap.size + 1, 0, none⟩ = some (.int .i64 p) ∧ w'.cell? ⟨w.heap.size + 1, 1, none⟩ = some (.int .i64 rs) ∧ w'.cell? ⟨w.heap.size + 1, 2, none⟩ = some (.int .i64 m) ∧ w'.cell? ⟨w.heap.size + 1, 3, none⟩ = some (.slice A2 D.length k2)) 5 (by kernel_rfl) (by kernel_rfl) ⟨g0.box3 2 rfl, g0.box4 1 rfl⟩ (fun hHeld => ?_)
    simp only [List.take_succ_cons, List.take_zero]
    refine anyH_take (v := ?_) 0 rfl (by kernel_rfl) (by kernel_rfl) (by kernel_rfl) (fun _ _ _ h => h) rfl ?_ hHeld ?_
    rotate_left
    · intro w' hSw
      go_simp
      try with_reducible rfl
    try simp only [Act.put, List.setIfInBounds_toArray, List.set_cons_zero, List.set_cons_succ]
    refine anyH_take (v := ?_) 2 rfl (by kernel_rfl) (by kernel_rfl) (by kernel_rfl) (fun _ _ _ h => h) rfl ?_ hHeld ?_
    rotate_left
    · intro w' hSw
      go_simp
      try with_reducible rfl
    try simp only [Act.put, List.setIfInBounds_toArray, List.set_cons_zero, List.set_cons_succ]
    refine wpAnyH_ready (rs := [1]) (by kernel_rfl) (by simp) ?_
    refine ready_cons rfl (fun K hK => ?_) AllReadyH.nil
    go_simp
    refine (newLie_any p m (.slice A T.length k) A T.length k _ rfl).mono ?_
    rintro (e : Ending) w3 ⟨rfl, hb3⟩
    have g1 := g0.on hb3
    show K _ _
    refine hK.out _ _ ?_ (fun hHeld => ?_)
    · exact ⟨g1.box3 2 rfl, g1.box4 1 rfl⟩
    clear hK K
    try simp only [Act.put, List.setIfInBounds_toArray, List.set_cons_zero, List.set_cons_succ]
    refine wpAnyH_ready (rs := [3]) (by kernel_rfl) (by simp) ?_
    refine ready_cons rfl (fun K hK => ?_) AllReadyH.nil
    go_simp
    refine (HSp.out _ _ (g1.roInts 3 rfl)).mono ?_
    rintro (e : Ending) w4 ⟨u4, rfl, ho4, hb4⟩
    obtain ⟨A6, n6, c6, rfl⟩ := ho4.slice
    have g2 := g1.pushOwn hb4 ho4
    show K _ _
    refine hK.out _ _ ?_ (fun hHeld => ?_)
    · exact ⟨g2.box3 3 rfl, g2.box4 2 rfl⟩
    clear hK K
    try simp only [Act.put, List.setIfInBounds_toArray, List.set_cons_zero, List.set_cons_succ]
    refine wpAnyH_ready (rs := [4]) (by kernel_rfl) (by simp) ?_
    refine ready_cons rfl (fun K hK => ?_) AllReadyH.nil
    go_simp
    refine (HC.out _ _ _ g2 rfl).mono ?_
    rintro (e : Ending) w5 ⟨u5, rfl, g3⟩
    obtain ⟨A7, n7, c7, rfl⟩ := (g3.own 0 rfl).slice
    show K _ _
    refine hK.out _ _ ?_ (fun hHeld => ?_)
    · exact ⟨g3.box3 3 rfl, g3.box4 2 rfl⟩
    clear hK K
    try simp only [Act.put, List.setIfInBounds_toArray, List.set_cons_zero, List.set_cons_succ]
    refine wpAnyH_done (by kernel_rfl) ?_ _
    show wpList _ _ _ _ _ _
    simp only [List.drop_succ_cons, List.drop_zero]
    clear hHeld
    obtain ⟨p0, p1, p2, p3⟩ := g3.box4 1 rfl
    have f0 := g3.free 1 rfl 0
    have f1 := g3.free 1 rfl 1
    have f2 := g3.free 1 rfl 2
    have f3 := g3.free 1 rfl 3
    have h5 := (((g3.setBox 1 rfl 0 (.int .i64 p)).setBox 1 rfl 1 (.int .i64 G.length)).setBox 1 rfl 2 (.int .i64 m)).setBox 1 rfl 3 (.slice A7 n7 c7)
    obtain ⟨r0, r1, r2, r3⟩ := h5.box4 1 rfl
    go_wp2
    refine bodyPost_ret (v := .tuple #[.agg #[.int .i64 p, .int .i64 G.length, .int .i64 m, .slice A7 n7 c7], .bool true]) (by simp [results, Try.results36, go_sem, r0, r1, r2, r3]) rfl ⟨_, rfl, h5.own 0 rfl, h5.below⟩
  · have b0 : gbOk p n T q r c D = false := by simpa using b0
    rw [show gbP p n T q r c D = 0 by simp [gbP, b0], show gbR true p n T q r c D = 0 by simp [gbR, b0], show gbC p n T q r c D = 0 by simp [gbC, b0], show gbD true p n T q r c D = [] by simp [gbD, b0], b0]
    have h1 := (((((St.start w).arg ht).arg hu).box [.int .i64 p, .int .i64 n, t] 30).box [.int .i64 q, .int .i64 r, .int .i64 c, u] 32).box [.int .i64 0, .int .i64 0, .int .i64 0, .slice none 0 0] 32
    simp only [World.size_alloc] at h1
    obtain ⟨A, k, rfl, _, _, _⟩ := id ht
    obtain ⟨A2, k2, rfl, _, _, _⟩ := id hu
    clear ht hu
    obtain ⟨y0, y1, y2⟩ := h1.box3 2 rfl
    go_enter Try.func36, Try.ntmps36
    go_wp2_with fail
    refine (AlgebraOkI_any p n _ T _ (h1.roInts 4 rfl) hp).mono ?_
    rintro (e : Ending) w1 ⟨rfl, hb1⟩
    replace h1 := h1.on hb1
    clear hb1 y0 y1 y2
    by_cases b1 : algOk p n T = true
    · obtain ⟨x0, x1, x2, x3⟩ := h1.box4 1 rfl
      rw [b1]
      go_wp2_with fail
      refine (MatrixOkI_any q r c _ D _ (h1.roInts 3 rfl) hq).mono ?_
      rintro (e : Ending) w2 ⟨rfl, hb1⟩
      replace h1 := h1.on hb1
      clear hb1 x0 x1 x2 x3
      by_cases b2 : matOk q r c D = true
      · rw [b2]
        obtain ⟨y0, y1, y2⟩ := h1.box3 2 rfl
        obtain ⟨x0, x1, x2, x3⟩ := h1.box4 1 rfl
        obtain ⟨v0, v1, v2, v3⟩ := h1.box4 0 rfl
        by_cases b3 : q = p
        · subst b3
          have b4 : ¬ c = n := fun h => by subst h; simp [gbOk, b1, b2] at b0
          have e4 : (c == n) = false := by rw [beq_eq_false_iff_ne]; exact b4
          have e5 : (c != n) = true := by rw [bne, e4]; rfl
          clear b0
          have f0 := h1.free 0 rfl 0
          have f1 := h1.free 0 rfl 1
          have f2 := h1.free 0 rfl 2
          have f3 := h1.free 0 rfl 3
          have h4 := (((h1.setBox 0 rfl 0 (.int .i64 0)).setBox 0 rfl 1 (.int .i64 0)).setBox 0 rfl 2 (.int .i64 0)).setBox 0 rfl 3 (.slice none 0 0)
          obtain ⟨r0, r1, r2, r3⟩ := h4.box4 0 rfl
          go_wp2
          refine bodyPost_ret (v := .tuple #[.agg #[.int .i64 0, .int .i64 0, .int .i64 0, .slice none 0 0], .bool false]) (by simp [results, Try.results36, go_sem, r0, r1, r2, r3]) rfl ⟨_, rfl, Own.nil, h4.below⟩
        · have e4 : (q == p) = false := by rw [beq_eq_false_iff_ne]; exact b3
          have e5 : (q != p) = true := by rw [bne, e4]; rfl
          clear b0
          have f0 := h1.free 0 rfl 0
          have f1 := h1.free 0 rfl 1
          have f2 := h1.free 0 rfl 2
          have f3 := h1.free 0 rfl 3
          have h4 := (((h1.setBox 0 rfl 0 (.int .i64 0)).setBox 0 rfl 1 (.int .i64 0)).setBox 0 rfl 2 (.int .i64 0)).setBox 0 rfl 3 (.slice none 0 0)
          obtain ⟨r0, r1, r2, r3⟩ := h4.box4 0 rfl
          go_wp2
          refine bodyPost_ret (v := .tuple #[.agg #[.int .i64 0, .int .i64 0, .int .i64 0, .slice none 0 0], .bool false]) (by simp [results, Try.results36, go_sem, r0, r1, r2, r3]) rfl ⟨_, rfl, Own.nil, h4.below⟩
      · have b2 : matOk q r c D = false := by simpa using b2
        rw [b2]
        obtain ⟨v0, v1, v2, v3⟩ := h1.box4 0 rfl
        have f0 := h1.free 0 rfl 0
        have f1 := h1.free 0 rfl 1
        have f2 := h1.free 0 rfl 2
        have f3 := h1.free 0 rfl 3
        have h4 := (((h1.setBox 0 rfl 0 (.int .i64 0)).setBox 0 rfl 1 (.int .i64 0)).setBox 0 rfl 2 (.int .i64 0)).setBox 0 rfl 3 (.slice none 0 0)
        obtain ⟨r0, r1, r2, r3⟩ := h4.box4 0 rfl
        go_wp2
        refine bodyPost_ret (v := .tuple #[.agg #[.int .i64 0, .int .i64 0, .int .i64 0, .slice none 0 0], .bool false]) (by simp [results, Try.results36, go_sem, r0, r1, r2, r3]) rfl ⟨_, rfl, Own.nil, h4.below⟩
    · have b1 : algOk p n T = false := by simpa using b1
      rw [b1]
      obtain ⟨v0, v1, v2, v3⟩ := h1.box4 0 rfl
      have f0 := h1.free 0 rfl 0
      have f1 := h1.free 0 rfl 1
      have f2 := h1.free 0 rfl 2
      have f3 := h1.free 0 rfl 3
      have h4 := (((h1.setBox 0 rfl 0 (.int .i64 0)).setBox 0 rfl 1 (.int .i64 0)).setBox 0 rfl 2 (.int .i64 0)).setBox 0 rfl 3 (.slice none 0 0)
      obtain ⟨r0, r1, r2, r3⟩ := h4.box4 0 rfl
      go_wp2
      refine bodyPost_ret (v := .tuple #[.agg #[.int .i64 0, .int .i64 0, .int .i64 0, .slice none 0 0], .bool false]) (by simp [results, Try.results36, go_sem, r0, r1, r2, r3]) rfl ⟨_, rfl, Own.nil, h4.below⟩
end Go.Proofs.Ytechjmckfedblaa
