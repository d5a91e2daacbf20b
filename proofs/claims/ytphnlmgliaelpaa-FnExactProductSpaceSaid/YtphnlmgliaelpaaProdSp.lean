/- Subspaces of an algebra; ProductSpace of both programs. -/
import Derived.Test.YtphnlmgliaelpaaSpaceOkI
import Derived.Test.YtphnlmgliaelpaaProduct2
import Derived.Test.YtphnlmgliaelpaaRegH
namespace Go.Proofs.Ytphnlmgliaelpaa
set_option maxRecDepth 100000
open Go.RowKit

def subOk (p n : Int) (T : List Int) (q r c : Int) (D : List Int) : Bool := algOk p n T && spaceOk q r c D && decide (q = p) && decide (c = n)
theorem subOk_spec {p n q r c : Int} {T D : List Int} (h : subOk p n T q r c D = true) : algOk p n T = true ∧ spaceOk q r c D = true ∧ q = p ∧ c = n := by
  simp only [subOk, Bool.and_eq_true, decide_eq_true_eq] at h
  exact ⟨h.1.1.1, h.1.1.2, h.1.2, h.2⟩
theorem spaceOk_mat {p r c : Int} {D : List Int} (h : spaceOk p r c D = true) : matOk p r c D = true := by
  simp only [spaceOk, Bool.and_eq_true] at h
  exact h.1

set_option maxHeartbeats 2000000 in
theorem l2Space_any (p n q r c : Int) (t u : Value) (T D : List Int) (w : World) (ht : Ints w t T) (hu : Ints w u D) (hp : p ≤ 9223372036854775807) (hq : q ≤ 9223372036854775807) :
    Calls Try.prog 82 #[.agg #[.int .i64 p, .int .i64 n, t], .agg #[.int .i64 q, .int .i64 r, .int .i64 c, u]] w (RetBool w (subOk p n T q r c D)) := by
  have h1 := ((((St.start w).arg ht).arg hu).box [.int .i64 p, .int .i64 n, t] 30).box [.int .i64 q, .int .i64 r, .int .i64 c, u] 32
  simp only [World.size_alloc] at h1
  obtain ⟨A, k, rfl, _, _, _⟩ := id ht
  obtain ⟨A2, k2, rfl, _, _, _⟩ := id hu
  clear ht hu
  obtain ⟨y0, y1, y2⟩ := h1.box3 1 rfl
  by_cases b1 : algOk p n T = true
  · go_enter Try.func82, Try.ntmps82
    go_wp2_with fail
    refine (AlgebraOkS_any p n _ T _ (h1.roInts 3 rfl)).mono ?_
    rintro (e : Ending) w1 ⟨rfl, hb1⟩
    replace h1 := h1.on hb1
    clear hb1 y0 y1 y2
    obtain ⟨z0, z1, z2, z3⟩ := h1.box4 0 rfl
    go_wp2_with fail
    refine (SpaceOkS_any q r c _ D _ (h1.roInts 2 rfl) hq).mono ?_
    rintro (e : Ending) w2 ⟨rfl, hb1⟩
    replace h1 := h1.on hb1
    clear hb1 z0 z1 z2 z3
    obtain ⟨z0, z1, z2, z3⟩ := h1.box4 0 rfl
    obtain ⟨y0, y1, y2⟩ := h1.box3 1 rfl
    by_cases b2 : spaceOk q r c D = true
    · rw [b2]
      by_cases b3 : q = p
      · subst b3
        by_cases b4 : c = n
        · subst b4
          go_wp2
          go_ret
          exact ⟨ret_bool (by simp [subOk, b1, b2]), h1.below⟩
        · have e4 : (c == n) = false := by rw [beq_eq_false_iff_ne]; exact b4
          go_wp2
          go_ret
          exact ⟨ret_bool (by simp [subOk, b4]), h1.below⟩
      · have e3 : (q == p) = false := by rw [beq_eq_false_iff_ne]; exact b3
        go_wp2
        go_ret
        exact ⟨ret_bool (by simp [subOk, b3]), h1.below⟩
    · have b2 : spaceOk q r c D = false := by simpa using b2
      rw [b2]
      go_wp2
      go_ret
      exact ⟨ret_bool (by simp [subOk, b2]), h1.below⟩
  · have b1 : algOk p n T = false := by simpa using b1
    rw [show subOk p n T q r c D = false by simp [subOk, b1]]
    go_enter Try.func82, Try.ntmps82
    go_wp2_with fail
    refine (AlgebraOkS_any p n _ T _ (h1.roInts 3 rfl)).mono ?_
    rintro (e : Ending) w1 ⟨rfl, hb1⟩
    replace h1 := h1.on hb1
    clear hb1 y0 y1 y2
    go_wp2
    go_ret
    exact ⟨rfl, h1.below⟩
set_option maxHeartbeats 2000000 in
theorem isSubspaceOf_any (p n q r c : Int) (t u : Value) (T D : List Int) (w : World) (ht : Ints w t T) (hu : Ints w u D) (hp : p ≤ 9223372036854775807) (hq : q ≤ 9223372036854775807) :
    Calls Try.prog 84 #[.agg #[.int .i64 p, .int .i64 n, t], .agg #[.int .i64 q, .int .i64 r, .int .i64 c, u]] w (RetBool w (subOk p n T q r c D)) := by
  have h1 := ((((St.start w).arg ht).arg hu).box [.int .i64 p, .int .i64 n, t] 30).box [.int .i64 q, .int .i64 r, .int .i64 c, u] 32
  simp only [World.size_alloc] at h1
  obtain ⟨A, k, rfl, _, _, _⟩ := id ht
  obtain ⟨A2, k2, rfl, _, _, _⟩ := id hu
  clear ht hu
  obtain ⟨y0, y1, y2⟩ := h1.box3 1 rfl
  by_cases b1 : algOk p n T = true
  · go_enter Try.func84, Try.ntmps84
    go_wp2_with fail
    refine (AlgebraOkI_any p n _ T _ (h1.roInts 3 rfl) hp).mono ?_
    rintro (e : Ending) w1 ⟨rfl, hb1⟩
    replace h1 := h1.on hb1
    clear hb1 y0 y1 y2
    obtain ⟨z0, z1, z2, z3⟩ := h1.box4 0 rfl
    go_wp2_with fail
    refine (SpaceOkI_any q r c _ D _ (h1.roInts 2 rfl) hq).mono ?_
    rintro (e : Ending) w2 ⟨rfl, hb1⟩
    replace h1 := h1.on hb1
    clear hb1 z0 z1 z2 z3
    obtain ⟨z0, z1, z2, z3⟩ := h1.box4 0 rfl
    obtain ⟨y0, y1, y2⟩ := h1.box3 1 rfl
    by_cases b2 : spaceOk q r c D = true
    · rw [b2]
      by_cases b3 : q = p
      · subst b3
        by_cases b4 : c = n
        · subst b4
          go_wp2
          go_ret
          exact ⟨ret_bool (by simp [subOk, b1, b2]), h1.below⟩
        · have e4 : (c == n) = false := by rw [beq_eq_false_iff_ne]; exact b4
          go_wp2
          go_ret
          exact ⟨ret_bool (by simp [subOk, b4]), h1.below⟩
      · have e3 : (q == p) = false := by rw [beq_eq_false_iff_ne]; exact b3
        go_wp2
        go_ret
        exact ⟨ret_bool (by simp [subOk, b3]), h1.below⟩
    · have b2 : spaceOk q r c D = false := by simpa using b2
      rw [b2]
      go_wp2
      go_ret
      exact ⟨ret_bool (by simp [subOk, b2]), h1.below⟩
  · have b1 : algOk p n T = false := by simpa using b1
    rw [show subOk p n T q r c D = false by simp [subOk, b1]]
    go_enter Try.func84, Try.ntmps84
    go_wp2_with fail
    refine (AlgebraOkI_any p n _ T _ (h1.roInts 3 rfl) hp).mono ?_
    rintro (e : Ending) w1 ⟨rfl, hb1⟩
    replace h1 := h1.on hb1
    clear hb1 y0 y1 y2
    go_wp2
    go_ret
    exact ⟨rfl, h1.below⟩

/-- What a function leaves that returns a matrix and a Bool. -/
def RetMatB (w : World) (a0 a1 a2 : Int) (l : List Int) (b : Bool) (e : Ending) (w' : World) : Prop := ∃ u, e = .returned (.tuple #[.agg #[.int .i64 a0, .int .i64 a1, .int .i64 a2, u], .bool b]) ∧ Own w' w.heap.size u l ∧ Below w.heap.size w w'

def psOk (p n : Int) (T : List Int) (q1 r1 c1 : Int) (S : List Int) (q2 r2 c2 : Int) (U : List Int) : Bool := subOk p n T q1 r1 c1 S && subOk p n T q2 r2 c2 U
def psL (p n : Int) (T : List Int) (r1 : Int) (S : List Int) (r2 : Int) (U : List Int) : List (List Int) := spanL p n.toNat (prodL T n.toNat p r1.toNat S r2.toNat U)
def psP (p n : Int) (T : List Int) (q1 r1 c1 : Int) (S : List Int) (q2 r2 c2 : Int) (U : List Int) : Int := if psOk p n T q1 r1 c1 S q2 r2 c2 U then p else 0
def psR (p n : Int) (T : List Int) (q1 r1 c1 : Int) (S : List Int) (q2 r2 c2 : Int) (U : List Int) : Int := if psOk p n T q1 r1 c1 S q2 r2 c2 U then (psL p n T r1 S r2 U).length else 0
def psC (p n : Int) (T : List Int) (q1 r1 c1 : Int) (S : List Int) (q2 r2 c2 : Int) (U : List Int) : Int := if psOk p n T q1 r1 c1 S q2 r2 c2 U then n else 0
def psD (p n : Int) (T : List Int) (q1 r1 c1 : Int) (S : List Int) (q2 r2 c2 : Int) (U : List Int) : List Int := if psOk p n T q1 r1 c1 S q2 r2 c2 U then flat n.toNat (psL p n T r1 S r2 U) else []
theorem spanL_le_n {p : Int} (hP : isPrime p = true) {n : Nat} {R : List (List Int)} (h : Wf p n R) : (spanL p n R).length ≤ n := by
  have hr := spanL_rf hP h
  rw [hr.len]
  rcases Nat.eq_zero_or_pos (pivL p n R).length with h0 | h0
  · omega
  · have hm : ∀ i, i < (pivL p n R).length → i ≤ pv (pivL p n R) i := by
      intro i
      induction i with
      | zero => intro _; omega
      | succ i ih => intro hi; have := ih (by omega); have := hr.mono i (i + 1) (by omega) hi; omega
    have h1 := hm ((pivL p n R).length - 1) (by omega)
    have h2 := hr.lt ((pivL p n R).length - 1) (by omega)
    omega
theorem psD_bd (p n : Int) (T : List Int) (q1 r1 c1 : Int) (S : List Int) (q2 r2 c2 : Int) (U : List Int) : (psD p n T q1 r1 c1 S q2 r2 c2 U).length ≤ 784 := by
  unfold psD
  split
  · rename_i h
    simp only [psOk, Bool.and_eq_true] at h
    obtain ⟨h1, _, _, _⟩ := subOk_spec h.1
    obtain ⟨m, rfl, hm, _, _, h2, _, hP⟩ := algOk_spec h1
    rw [length_flat, Int.toNat_natCast]
    exact mul_le (Nat.le_trans (spanL_le_n hP (Wf_prodTo h2 _ _ _ _ _)) hm) hm
  · simp


set_option maxHeartbeats 4000000 in
theorem ProductSpaceS_any (p n q1 r1 c1 q2 r2 c2 : Int) (t s u : Value) (T S U : List Int) (w : World) (ht : Ints w t T) (hs : Ints w s S) (hu : Ints w u U) (hp : p ≤ 9223372036854775807) (hq1 : q1 ≤ 9223372036854775807) (hq2 : q2 ≤ 9223372036854775807) :
    Calls Try.prog 37 #[.agg #[.int .i64 p, .int .i64 n, t], .agg #[.int .i64 q1, .int .i64 r1, .int .i64 c1, s], .agg #[.int .i64 q2, .int .i64 r2, .int .i64 c2, u]] w (RetMatB w (psP p n T q1 r1 c1 S q2 r2 c2 U) (psR p n T q1 r1 c1 S q2 r2 c2 U) (psC p n T q1 r1 c1 S q2 r2 c2 U) (psD p n T q1 r1 c1 S q2 r2 c2 U) (psOk p n T q1 r1 c1 S q2 r2 c2 U)) := by
  by_cases b0 : psOk p n T q1 r1 c1 S q2 r2 c2 U = true
  · obtain ⟨bs, bt⟩ : subOk p n T q1 r1 c1 S = true ∧ subOk p n T q2 r2 c2 U = true := by simpa [psOk] using b0
    obtain ⟨g1, g2, e1, e2⟩ := subOk_spec bs
    obtain ⟨_, g3, e3, e4⟩ := subOk_spec bt
    subst q1
    subst q2
    obtain ⟨m, rfl, k1, kT, k3, k4, k5, k6⟩ := algOk_spec g1
    subst c1
    subst c2
    obtain ⟨rs, cs, rfl, ecs, i1, i2, iS, iR, _⟩ := matOk_spec (spaceOk_mat g2)
    obtain ⟨rt, ct, rfl, ect, j1, j2, jS, jR, _⟩ := matOk_spec (spaceOk_mat g3)
    have e5 : m = cs := by omega
    subst e5
    have e6 : m = ct := by omega
    subst e6
    have hL : psL p m T rs S rt U = spanL p m (prodL T m p rs S rt U) := by simp [psL]
    obtain ⟨l, hl⟩ : ∃ l, l = (spanL p m (prodL T m p rs S rt U)).length := ⟨_, rfl⟩
    obtain ⟨E, hE⟩ : ∃ E, E = spanM p m (prodL T m p rs S rt U) := ⟨_, rfl⟩
    rw [show psP p m T p rs m S p rt m U = p by simp [psP, b0], show psR p m T p rs m S p rt m U = l by rw [psR, if_pos b0, hL, hl], show psC p m T p rs m S p rt m U = m by simp [psC, b0], show psD p m T p rs m S p rt m U = E by rw [psD, if_pos b0, hL, hE]; simp [spanM], b0]
    have HP := fun (W : World) (v1 v2 v3 : Value) (a1 : Ints W v1 T) (a2 : Ints W v2 S) (a3 : Ints W v3 U) => l2Product_any p p p m rs rt v1 v2 v3 T S U W a1 a2 a3 kT iS jS k1 i1 j1 k6 k3 iR jR
    rw [← hl, ← hE] at HP
    replace HP := Lib.hid HP
    have h1 := (((((((St.start w).arg ht).arg hs).arg hu).box [.int .i64 p, .int .i64 m, t] 30).box [.int .i64 p, .int .i64 rs, .int .i64 m, s] 32).box [.int .i64 p, .int .i64 rt, .int .i64 m, u] 32).box [.int .i64 0, .int .i64 0, .int .i64 0, .slice none 0 0] 32
    simp only [World.size_alloc] at h1
    obtain ⟨A, k, rfl, _, _, _⟩ := id ht
    obtain ⟨A1, kk1, rfl, _, _, _⟩ := id hs
    obtain ⟨A2, kk2, rfl, _, _, _⟩ := id hu
    have C1 := Lib.hid (fun W (v1 v2 : Value) (a1 : Ints W v1 T) (a2 : Ints W v2 S) => l2Space_any p m p rs m v1 v2 T S W a1 a2 hp hp)
    have C2 := Lib.hid (fun W (v1 v2 : Value) (a1 : Ints W v1 T) (a2 : Ints W v2 U) => l2Space_any p m p rt m v1 v2 T U W a1 a2 hp hp)
    rw [bs] at C1
    rw [bt] at C2
    clear ht hs hu kT k3 k4 k5 k6 iS iR jS jR hL hl hE b0 bs bt g1 g2 g3 ecs ect
    obtain ⟨y0, y1, y2⟩ := h1.box3 3 rfl
    obtain ⟨x0, x1, x2, x3⟩ := h1.box4 2 rfl
    go_enter Try.func37, Try.ntmps37
    go_wp2_with fail
    refine (C1.out _ _ _ (h1.roInts 6 rfl) (h1.roInts 5 rfl)).mono ?_
    rintro (e : Ending) w1 ⟨rfl, hb1⟩
    replace h1 := h1.on hb1
    clear hb1 y0 y1 y2 x0 x1 x2 x3
    obtain ⟨y0, y1, y2⟩ := h1.box3 3 rfl
    obtain ⟨v0, v1, v2, v3⟩ := h1.box4 1 rfl
    go_wp2_with fail
    refine (C2.out _ _ _ (h1.roInts 6 rfl) (h1.roInts 4 rfl)).mono ?_
    rintro (e : Ending) w2 ⟨rfl, hb1⟩
    replace h1 := h1.on hb1
    clear hb1 y0 y1 y2 v0 v1 v2 v3
    obtain ⟨y0, y1, y2⟩ := h1.box3 3 rfl
    obtain ⟨x0, x1, x2, x3⟩ := h1.box4 2 rfl
    obtain ⟨v0, v1, v2, v3⟩ := h1.box4 1 rfl
    go_wp2_with fail
    refine (HP.out _ _ _ _ (h1.roInts 6 rfl) (h1.roInts 5 rfl) (h1.roInts 4 rfl)).mono ?_
    rintro (e : Ending) w3 ⟨u3, rfl, ho, hb3⟩
    obtain ⟨A7, c7, rfl, _, _, _⟩ := id ho.ints
    have gg := h1
    clear y0 y1 y2 x0 x1 x2 x3 v0 v1 v2 v3
    have h2 := gg.pushOwn hb3 ho
    obtain ⟨z0, z1, z2, z3⟩ := h2.box4 1 rfl
    have f0 := h2.free 1 rfl 0
    have f1 := h2.free 1 rfl 1
    have f2 := h2.free 1 rfl 2
    have f3 := h2.free 1 rfl 3
    have h4 := (((h2.setBox 1 rfl 0 (.int .i64 p)).setBox 1 rfl 1 (.int .i64 l)).setBox 1 rfl 2 (.int .i64 m)).setBox 1 rfl 3 (.slice A7 E.length c7)
    obtain ⟨r0, r1, r2, r3⟩ := h4.box4 1 rfl
    go_wp2
    refine bodyPost_ret (v := .tuple #[.agg #[.int .i64 p, .int .i64 l, .int .i64 m, .slice A7 E.length c7], .bool true]) (by simp [results, Try.results37, go_sem, r0, r1, r2, r3]) rfl ⟨_, rfl, h4.own 0 rfl, h4.below⟩
  · skip
    have b0 : psOk p n T q1 r1 c1 S q2 r2 c2 U = false := by simpa using b0
    rw [show psP p n T q1 r1 c1 S q2 r2 c2 U = 0 by simp [psP, b0], show psR p n T q1 r1 c1 S q2 r2 c2 U = 0 by simp [psR, b0], show psC p n T q1 r1 c1 S q2 r2 c2 U = 0 by simp [psC, b0], show psD p n T q1 r1 c1 S q2 r2 c2 U = [] by simp [psD, b0], b0]
    have h1 := (((((((St.start w).arg ht).arg hs).arg hu).box [.int .i64 p, .int .i64 n, t] 30).box [.int .i64 q1, .int .i64 r1, .int .i64 c1, s] 32).box [.int .i64 q2, .int .i64 r2, .int .i64 c2, u] 32).box [.int .i64 0, .int .i64 0, .int .i64 0, .slice none 0 0] 32
    simp only [World.size_alloc] at h1
    obtain ⟨A, k, rfl, _, _, _⟩ := id ht
    obtain ⟨A1, k1, rfl, _, _, _⟩ := id hs
    obtain ⟨A2, k2, rfl, _, _, _⟩ := id hu
    clear ht hs hu
    obtain ⟨y0, y1, y2⟩ := h1.box3 3 rfl
    obtain ⟨x0, x1, x2, x3⟩ := h1.box4 2 rfl
    go_enter Try.func37, Try.ntmps37
    go_wp2_with fail
    refine (l2Space_any p n q1 r1 c1 _ _ T S _ (h1.roInts 6 rfl) (h1.roInts 5 rfl) hp hq1).mono ?_
    rintro (e : Ending) w1 ⟨rfl, hb1⟩
    replace h1 := h1.on hb1
    clear hb1 y0 y1 y2 x0 x1 x2 x3
    by_cases b1 : subOk p n T q1 r1 c1 S = true
    · have b2 : subOk p n T q2 r2 c2 U = false := by simpa [psOk, b1] using b0
      rw [b1]
      obtain ⟨y0, y1, y2⟩ := h1.box3 3 rfl
      obtain ⟨x0, x1, x2, x3⟩ := h1.box4 1 rfl
      go_wp2_with fail
      refine (l2Space_any p n q2 r2 c2 _ _ T U _ (h1.roInts 6 rfl) (h1.roInts 4 rfl) hp hq2).mono ?_
      rintro (e : Ending) w2 ⟨rfl, hb1⟩
      replace h1 := h1.on hb1
      rw [b2]
      clear hb1 y0 y1 y2 x0 x1 x2 x3
      obtain ⟨z0, z1, z2, z3⟩ := h1.box4 0 rfl
      have f0 := h1.free 0 rfl 0
      have f1 := h1.free 0 rfl 1
      have f2 := h1.free 0 rfl 2
      have f3 := h1.free 0 rfl 3
      have h4 := (((h1.setBox 0 rfl 0 (.int .i64 0)).setBox 0 rfl 1 (.int .i64 0)).setBox 0 rfl 2 (.int .i64 0)).setBox 0 rfl 3 (.slice none 0 0)
      obtain ⟨r0, r1, r2, r3⟩ := h4.box4 0 rfl
      go_wp2
      refine bodyPost_ret (v := .tuple #[.agg #[.int .i64 0, .int .i64 0, .int .i64 0, .slice none 0 0], .bool false]) (by simp [results, Try.results37, go_sem, r0, r1, r2, r3]) rfl ⟨_, rfl, Own.nil, h4.below⟩
    · have b1 : subOk p n T q1 r1 c1 S = false := by simpa using b1
      rw [b1]
      obtain ⟨z0, z1, z2, z3⟩ := h1.box4 0 rfl
      have f0 := h1.free 0 rfl 0
      have f1 := h1.free 0 rfl 1
      have f2 := h1.free 0 rfl 2
      have f3 := h1.free 0 rfl 3
      have h4 := (((h1.setBox 0 rfl 0 (.int .i64 0)).setBox 0 rfl 1 (.int .i64 0)).setBox 0 rfl 2 (.int .i64 0)).setBox 0 rfl 3 (.slice none 0 0)
      obtain ⟨r0, r1, r2, r3⟩ := h4.box4 0 rfl
      go_wp2
      refine bodyPost_ret (v := .tuple #[.agg #[.int .i64 0, .int .i64 0, .int .i64 0, .slice none 0 0], .bool false]) (by simp [results, Try.results37, go_sem, r0, r1, r2, r3]) rfl ⟨_, rfl, Own.nil, h4.below⟩

set_option maxHeartbeats 4000000 in
theorem ProductSpaceI_any (p n q1 r1 c1 q2 r2 c2 : Int) (t s u : Value) (T S U : List Int) (w : World) (ht : Ints w t T) (hs : Ints w s S) (hu : Ints w u U) (hp : p ≤ 9223372036854775807) (hq1 : q1 ≤ 9223372036854775807) (hq2 : q2 ≤ 9223372036854775807) :
    Calls Try.prog 38 #[.agg #[.int .i64 p, .int .i64 n, t], .agg #[.int .i64 q1, .int .i64 r1, .int .i64 c1, s], .agg #[.int .i64 q2, .int .i64 r2, .int .i64 c2, u]] w (RetMatB w (psP p n T q1 r1 c1 S q2 r2 c2 U) (psR p n T q1 r1 c1 S q2 r2 c2 U) (psC p n T q1 r1 c1 S q2 r2 c2 U) (psD p n T q1 r1 c1 S q2 r2 c2 U) (psOk p n T q1 r1 c1 S q2 r2 c2 U)) := by
  by_cases b0 : psOk p n T q1 r1 c1 S q2 r2 c2 U = true
  · obtain ⟨bs, bt⟩ : subOk p n T q1 r1 c1 S = true ∧ subOk p n T q2 r2 c2 U = true := by simpa [psOk] using b0
    obtain ⟨g1, g2, e1, e2⟩ := subOk_spec bs
    obtain ⟨_, g3, e3, e4⟩ := subOk_spec bt
    subst q1
    subst q2
    obtain ⟨m, rfl, k1, kT, k3, k4, k5, k6⟩ := algOk_spec g1
    subst c1
    subst c2
    obtain ⟨rs, cs, rfl, ecs, i1, i2, iS, iR, _⟩ := matOk_spec (spaceOk_mat g2)
    obtain ⟨rt, ct, rfl, ect, j1, j2, jS, jR, _⟩ := matOk_spec (spaceOk_mat g3)
    have e5 : m = cs := by omega
    subst e5
    have e6 : m = ct := by omega
    subst e6
    have hL : psL p m T rs S rt U = spanL p m (prodL T m p rs S rt U) := by simp [psL]
    obtain ⟨l, hl⟩ : ∃ l, l = (spanL p m (prodL T m p rs S rt U)).length := ⟨_, rfl⟩
    obtain ⟨E, hE⟩ : ∃ E, E = spanM p m (prodL T m p rs S rt U) := ⟨_, rfl⟩
    rw [show psP p m T p rs m S p rt m U = p by simp [psP, b0], show psR p m T p rs m S p rt m U = l by rw [psR, if_pos b0, hL, hl], show psC p m T p rs m S p rt m U = m by simp [psC, b0], show psD p m T p rs m S p rt m U = E by rw [psD, if_pos b0, hL, hE]; simp [spanM], b0]
    have HP := fun (W : World) (v1 v2 v3 : Value) (a1 : Ints W v1 T) (a2 : Ints W v2 S) (a3 : Ints W v3 U) => product_any p p p m rs rt v1 v2 v3 T S U W a1 a2 a3 kT iS jS k1 i1 j1 k6 k3 iR jR
    rw [← hl, ← hE] at HP
    replace HP := Lib.hid HP
    have h1 := (((((((St.start w).arg ht).arg hs).arg hu).box [.int .i64 p, .int .i64 m, t] 30).box [.int .i64 p, .int .i64 rs, .int .i64 m, s] 32).box [.int .i64 p, .int .i64 rt, .int .i64 m, u] 32).box [.int .i64 0, .int .i64 0, .int .i64 0, .slice none 0 0] 32
    simp only [World.size_alloc] at h1
    obtain ⟨A, k, rfl, _, _, _⟩ := id ht
    obtain ⟨A1, kk1, rfl, _, _, _⟩ := id hs
    obtain ⟨A2, kk2, rfl, _, _, _⟩ := id hu
    have C1 := Lib.hid (fun W (v1 v2 : Value) (a1 : Ints W v1 T) (a2 : Ints W v2 S) => isSubspaceOf_any p m p rs m v1 v2 T S W a1 a2 hp hp)
    have C2 := Lib.hid (fun W (v1 v2 : Value) (a1 : Ints W v1 T) (a2 : Ints W v2 U) => isSubspaceOf_any p m p rt m v1 v2 T U W a1 a2 hp hp)
    rw [bs] at C1
    rw [bt] at C2
    clear ht hs hu kT k3 k4 k5 k6 iS iR jS jR hL hl hE b0 bs bt g1 g2 g3 ecs ect
    obtain ⟨y0, y1, y2⟩ := h1.box3 3 rfl
    obtain ⟨x0, x1, x2, x3⟩ := h1.box4 2 rfl
    go_enter Try.func38, Try.ntmps38
    go_wp2_with fail
    refine (C1.out _ _ _ (h1.roInts 6 rfl) (h1.roInts 5 rfl)).mono ?_
    rintro (e : Ending) w1 ⟨rfl, hb1⟩
    replace h1 := h1.on hb1
    clear hb1 y0 y1 y2 x0 x1 x2 x3
    obtain ⟨y0, y1, y2⟩ := h1.box3 3 rfl
    obtain ⟨v0, v1, v2, v3⟩ := h1.box4 1 rfl
    go_wp2_with fail
    refine (C2.out _ _ _ (h1.roInts 6 rfl) (h1.roInts 4 rfl)).mono ?_
    rintro (e : Ending) w2 ⟨rfl, hb1⟩
    replace h1 := h1.on hb1
    clear hb1 y0 y1 y2 v0 v1 v2 v3
    obtain ⟨y0, y1, y2⟩ := h1.box3 3 rfl
    obtain ⟨x0, x1, x2, x3⟩ := h1.box4 2 rfl
    obtain ⟨v0, v1, v2, v3⟩ := h1.box4 1 rfl
    go_wp2_with fail
    have g0 := h1.drew
    refine wp_region_cut (S := fun w' => (w'.cell? ⟨w.heap.size, 0, none⟩ = some (.int .i64 p) ∧ w'.cell? ⟨w.heap.size, 1, none⟩ = some (.int .i64 m) ∧ w'.cell? ⟨w.heap.size, 2, none⟩ = some (.slice A T.length k)) ∧ (w'.cell? ⟨w.heap.size + 1, 0, none⟩ = some (.int .i64 p) ∧ w'.cell? ⟨w.heap.size + 1, 1, none⟩ = some (.int .i64 rs) ∧ w'.cell? ⟨w.heap.size + 1, 2, none⟩ = some (.int .i64 m) ∧ w'.cell? ⟨w.heap.size + 1, 3, none⟩ = some (.slice A1 S.length kk1)) ∧ w'.cell? ⟨w.heap.size + 1 + 1, 0, none⟩ = some (.int .i64 p) ∧ w'.cell? ⟨w.heap.size + 1 + 1, 1, none⟩ = some (.int .i64 rt) ∧ w'.cell? ⟨w.heap.size + 1 + 1, 2, none⟩ = some (.int .i64 m) ∧ w'.cell? ⟨w.heap.size + 1 + 1, 3, none⟩ = some (.slice A2 U.length kk2)) 5 (by kernel_rfl) (by kernel_rfl) ⟨g0.box3 3 rfl, g0.box4 2 rfl, g0.box4 1 rfl⟩ (fun hHeld => ?_)
    simp only [List.take_succ_cons, List.take_zero]
    clear y0 y1 y2 x0 x1 x2 x3 v0 v1 v2 v3
    refine anyH_take (v := ?_) 0 rfl (by kernel_rfl) (by kernel_rfl) (by kernel_rfl) (fun _ _ _ h => h) rfl ?_ hHeld ?_
    rotate_left
    · intro w' hSw
      go_simp
      try with_reducible rfl
    try simp only [Act.put, List.setIfInBounds_toArray, List.set_cons_zero, List.set_cons_succ]
    refine anyH_take (v := ?_) 2 rfl (by kernel_rfl) (by kernel_rfl) (by kernel_rfl) (fun _ _ _ h => h) rfl ?_ hHeld ?_
    rotate_left
    · intro w' hSw
      go_simp
      try with_reducible rfl
    try simp only [Act.put, List.setIfInBounds_toArray, List.set_cons_zero, List.set_cons_succ]
    refine anyH_take (v := ?_) 3 rfl (by kernel_rfl) (by kernel_rfl) (by kernel_rfl) (fun _ _ _ h => h) rfl ?_ hHeld ?_
    rotate_left
    · intro w' hSw
      go_simp
      try with_reducible rfl
    try simp only [Act.put, List.setIfInBounds_toArray, List.set_cons_zero, List.set_cons_succ]
    refine wpAnyH_ready (rs := [1]) (by kernel_rfl) (by simp) ?_
    refine ready_cons rfl (fun K hK => ?_) AllReadyH.nil
    go_simp
    refine (newLie_any p m (.slice A T.length k) A T.length k _ rfl).mono ?_
    rintro (e : Ending) w4 ⟨rfl, hb4⟩
    have gg := g0.on hb4
    show K _ _
    refine hK.out _ _ ?_ (fun hHeld => ?_)
    · exact ⟨gg.box3 3 rfl, gg.box4 2 rfl, gg.box4 1 rfl⟩
    clear hK K
    try simp only [Act.put, List.setIfInBounds_toArray, List.set_cons_zero, List.set_cons_succ]
    refine wpAnyH_ready (rs := [4]) (by kernel_rfl) (by simp) ?_
    refine ready_cons rfl (fun K hK => ?_) AllReadyH.nil
    go_simp
    refine (HP.out _ _ _ _ (gg.roInts 6 rfl) (gg.roInts 5 rfl) (gg.roInts 4 rfl)).mono ?_
    rintro (e : Ending) w3 ⟨u3, rfl, ho, hb3⟩
    obtain ⟨A7, c7, rfl, _, _, _⟩ := id ho.ints
    have h2 := gg.pushOwn hb3 ho
    obtain ⟨z0, z1, z2, z3⟩ := h2.box4 1 rfl
    have f0 := h2.free 1 rfl 0
    have f1 := h2.free 1 rfl 1
    have f2 := h2.free 1 rfl 2
    have f3 := h2.free 1 rfl 3
    have h4 := (((h2.setBox 1 rfl 0 (.int .i64 p)).setBox 1 rfl 1 (.int .i64 l)).setBox 1 rfl 2 (.int .i64 m)).setBox 1 rfl 3 (.slice A7 E.length c7)
    obtain ⟨r0, r1, r2, r3⟩ := h4.box4 1 rfl
    show K _ _
    refine hK.out _ _ ?_ (fun hHeld => ?_)
    · exact ⟨h2.box3 4 rfl, h2.box4 3 rfl, h2.box4 2 rfl⟩
    clear hK K
    try simp only [Act.put, List.setIfInBounds_toArray, List.set_cons_zero, List.set_cons_succ]
    refine wpAnyH_done (by kernel_rfl) ?_ _
    show wpList _ _ _ _ _ _
    simp only [List.drop_succ_cons, List.drop_zero]
    clear hHeld g0 gg h1 h2
    go_wp2
    refine bodyPost_ret (v := .tuple #[.agg #[.int .i64 p, .int .i64 l, .int .i64 m, .slice A7 E.length c7], .bool true]) (by simp [results, Try.results38, go_sem, r0, r1, r2, r3]) rfl ⟨_, rfl, h4.own 0 rfl, h4.below⟩
  · skip
    have b0 : psOk p n T q1 r1 c1 S q2 r2 c2 U = false := by simpa using b0
    rw [show psP p n T q1 r1 c1 S q2 r2 c2 U = 0 by simp [psP, b0], show psR p n T q1 r1 c1 S q2 r2 c2 U = 0 by simp [psR, b0], show psC p n T q1 r1 c1 S q2 r2 c2 U = 0 by simp [psC, b0], show psD p n T q1 r1 c1 S q2 r2 c2 U = [] by simp [psD, b0], b0]
    have h1 := (((((((St.start w).arg ht).arg hs).arg hu).box [.int .i64 p, .int .i64 n, t] 30).box [.int .i64 q1, .int .i64 r1, .int .i64 c1, s] 32).box [.int .i64 q2, .int .i64 r2, .int .i64 c2, u] 32).box [.int .i64 0, .int .i64 0, .int .i64 0, .slice none 0 0] 32
    simp only [World.size_alloc] at h1
    obtain ⟨A, k, rfl, _, _, _⟩ := id ht
    obtain ⟨A1, k1, rfl, _, _, _⟩ := id hs
    obtain ⟨A2, k2, rfl, _, _, _⟩ := id hu
    clear ht hs hu
    obtain ⟨y0, y1, y2⟩ := h1.box3 3 rfl
    obtain ⟨x0, x1, x2, x3⟩ := h1.box4 2 rfl
    go_enter Try.func38, Try.ntmps38
    go_wp2_with fail
    refine (isSubspaceOf_any p n q1 r1 c1 _ _ T S _ (h1.roInts 6 rfl) (h1.roInts 5 rfl) hp hq1).mono ?_
    rintro (e : Ending) w1 ⟨rfl, hb1⟩
    replace h1 := h1.on hb1
    clear hb1 y0 y1 y2 x0 x1 x2 x3
    by_cases b1 : subOk p n T q1 r1 c1 S = true
    · have b2 : subOk p n T q2 r2 c2 U = false := by simpa [psOk, b1] using b0
      rw [b1]
      obtain ⟨y0, y1, y2⟩ := h1.box3 3 rfl
      obtain ⟨x0, x1, x2, x3⟩ := h1.box4 1 rfl
      go_wp2_with fail
      refine (isSubspaceOf_any p n q2 r2 c2 _ _ T U _ (h1.roInts 6 rfl) (h1.roInts 4 rfl) hp hq2).mono ?_
      rintro (e : Ending) w2 ⟨rfl, hb1⟩
      replace h1 := h1.on hb1
      rw [b2]
      clear hb1 y0 y1 y2 x0 x1 x2 x3
      obtain ⟨z0, z1, z2, z3⟩ := h1.box4 0 rfl
      have f0 := h1.free 0 rfl 0
      have f1 := h1.free 0 rfl 1
      have f2 := h1.free 0 rfl 2
      have f3 := h1.free 0 rfl 3
      have h4 := (((h1.setBox 0 rfl 0 (.int .i64 0)).setBox 0 rfl 1 (.int .i64 0)).setBox 0 rfl 2 (.int .i64 0)).setBox 0 rfl 3 (.slice none 0 0)
      obtain ⟨r0, r1, r2, r3⟩ := h4.box4 0 rfl
      go_wp2
      refine bodyPost_ret (v := .tuple #[.agg #[.int .i64 0, .int .i64 0, .int .i64 0, .slice none 0 0], .bool false]) (by simp [results, Try.results38, go_sem, r0, r1, r2, r3]) rfl ⟨_, rfl, Own.nil, h4.below⟩
    · have b1 : subOk p n T q1 r1 c1 S = false := by simpa using b1
      rw [b1]
      obtain ⟨z0, z1, z2, z3⟩ := h1.box4 0 rfl
      have f0 := h1.free 0 rfl 0
      have f1 := h1.free 0 rfl 1
      have f2 := h1.free 0 rfl 2
      have f3 := h1.free 0 rfl 3
      have h4 := (((h1.setBox 0 rfl 0 (.int .i64 0)).setBox 0 rfl 1 (.int .i64 0)).setBox 0 rfl 2 (.int .i64 0)).setBox 0 rfl 3 (.slice none 0 0)
      obtain ⟨r0, r1, r2, r3⟩ := h4.box4 0 rfl
      go_wp2
      refine bodyPost_ret (v := .tuple #[.agg #[.int .i64 0, .int .i64 0, .int .i64 0, .slice none 0 0], .bool false]) (by simp [results, Try.results38, go_sem, r0, r1, r2, r3]) rfl ⟨_, rfl, Own.nil, h4.below⟩
end Go.Proofs.Ytphnlmgliaelpaa
