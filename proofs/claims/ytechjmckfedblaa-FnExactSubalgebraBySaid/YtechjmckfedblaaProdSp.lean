/- Subspaces of an algebra; ProductSpace of both programs. -/
import Derived.Test.YtechjmckfedblaaSpaceOkI
import Derived.Test.YtechjmckfedblaaProduct2
import Derived.Test.YtechjmckfedblaaRegH
namespace Go.Proofs.Ytechjmckfedblaa
set_option maxRecDepth 100000
open Go.RowKit

def subOk (p n : Int) (T : List Int) (q r c : Int) (D : List Int) : Bool := algOk p n T && spaceOk q r c D && decide (q = p) && decide (c = n)
theorem subOk_spec {p n q r c : Int} {T D : List Int} (h : subOk p n T q r c D = true) : algOk p n T = true ∧ spaceOk q r c D = true ∧ q = p ∧ c = n := by
  simp only [subOk, Bool.and_eq_true, decide_eq_true_eq] at h
  exact ⟨h.1.1.1, h.1.1.2, h.1.2, h.2⟩
theorem spaceOk_mat {p r c : Int} {D : List Int} (h : spaceOk p r c D = true) : matOk p r c D = true := by
  simp only [spaceOk, Bool.and_eq_true] at h
  exact h.1

set_option maxHeartbeats 2000000 in
theorem l2Space_any (p n q r c : Int) (t u : Value) (T D : List Int) (w : World) (ht : Ints w t T) (hu : Ints w u D) (hp : p ≤ 9223372036854775807) (hq : q ≤ 9223372036854775807) :
    Calls Try.prog 85 #[.agg #[.int .i64 p, .int .i64 n, t], .agg #[.int .i64 q, .int .i64 r, .int .i64 c, u]] w (RetBool w (subOk p n T q r c D)) := by
  have h1 := ((((St.start w).arg ht).arg hu).box [.int .i64 p, .int .i64 n, t] 30).box [.int .i64 q, .int .i64 r, .int .i64 c, u] 32
  simp only [World.size_alloc] at h1
  obtain ⟨A, k, rfl, _, _, _⟩ := id ht
  obtain ⟨A2, k2, rfl, _, _, _⟩ := id hu
  clear ht hu
  obtain ⟨y0, y1, y2⟩ := h1.box3 1 rfl
  by_cases b1 : algOk p n T = true
  · go_enter Try.func85, Try.ntmps85
    go_wp2_with fail
    refine (AlgebraOkS_any p n _ T _ (h1.roInts 3 rfl)).mono ?_
    rintro (e : Ending) w1 ⟨rfl, hb1⟩
    replace h1 := h1.on hb1
    clear hb1 y0 y1 y2
    obtain ⟨z0, z1, z2, z3⟩ := h1.box4 0 rfl
    go_wp2_with fail
    refine (SpaceOkS_any q r c _ D _ (h1.roInts 2 rfl) hq).mono ?_
    rintro (e : Ending) w2 ⟨rfl, hb1⟩
    replace h1 := h1.on hb1
    clear hb1 z0 z1 z2 z3
    obtain ⟨z0, z1, z2, z3⟩ := h1.box4 0 rfl
    obtain ⟨y0, y1, y2⟩ := h1.box3 1 rfl
    by_cases b2 : spaceOk q r c D = true
    · rw [b2]
      by_cases b3 : q = p
      · subst b3
        by_cases b4 : c = n
        · subst b4
          go_wp2
          go_ret
          exact ⟨ret_bool (by simp [subOk, b1, b2]), h1.below⟩
        · have e4 : (c == n) = false := by rw [beq_eq_false_iff_ne]; exact b4
          go_wp2
          go_ret
          exact ⟨ret_bool (by simp [subOk, b4]), h1.below⟩
      · have e3 : (q == p) = false := by rw [beq_eq_false_iff_ne]; exact b3
        go_wp2
        go_ret
        exact ⟨ret_bool (by simp [subOk, b3]), h1.below⟩
    · have b2 : spaceOk q r c D = false := by simpa using b2
      rw [b2]
      go_wp2
      go_ret
      exact ⟨ret_bool (by simp [subOk, b2]), h1.below⟩
  · have b1 : algOk p n T = false := by simpa using b1
    rw [show subOk p n T q r c D = false by simp [subOk, b1]]
    go_enter Try.func85, Try.ntmps85
    go_wp2_with fail
    refine (AlgebraOkS_any p n _ T _ (h1.roInts 3 rfl)).mono ?_
    rintro (e : Ending) w1 ⟨rfl, hb1⟩
    replace h1 := h1.on hb1
    clear hb1 y0 y1 y2
    go_wp2
    go_ret
    exact ⟨rfl, h1.below⟩
set_option maxHeartbeats 2000000 in
theorem isSubspaceOf_any (p n q r c : Int) (t u : Value) (T D : List Int) (w : World) (ht : Ints w t T) (hu : Ints w u D) (hp : p ≤ 9223372036854775807) (hq : q ≤ 9223372036854775807) :
    Calls Try.prog 88 #[.agg #[.int .i64 p, .int .i64 n, t], .agg #[.int .i64 q, .int .i64 r, .int .i64 c, u]] w (RetBool w (subOk p n T q r c D)) := by
  have h1 := ((((St.start w).arg ht).arg hu).box [.int .i64 p, .int .i64 n, t] 30).box [.int .i64 q, .int .i64 r, .int .i64 c, u] 32
  simp only [World.size_alloc] at h1
  obtain ⟨A, k, rfl, _, _, _⟩ := id ht
  obtain ⟨A2, k2, rfl, _, _, _⟩ := id hu
  clear ht hu
  obtain ⟨y0, y1, y2⟩ := h1.box3 1 rfl
  by_cases b1 : algOk p n T = true
  · go_enter Try.func88, Try.ntmps88
    go_wp2_with fail
    refine (AlgebraOkI_any p n _ T _ (h1.roInts 3 rfl) hp).mono ?_
    rintro (e : Ending) w1 ⟨rfl, hb1⟩
    replace h1 := h1.on hb1
    clear hb1 y0 y1 y2
    obtain ⟨z0, z1, z2, z3⟩ := h1.box4 0 rfl
    go_wp2_with fail
    refine (SpaceOkI_any q r c _ D _ (h1.roInts 2 rfl) hq).mono ?_
    rintro (e : Ending) w2 ⟨rfl, hb1⟩
    replace h1 := h1.on hb1
    clear hb1 z0 z1 z2 z3
    obtain ⟨z0, z1, z2, z3⟩ := h1.box4 0 rfl
    obtain ⟨y0, y1, y2⟩ := h1.box3 1 rfl
    by_cases b2 : spaceOk q r c D = true
    · rw [b2]
      by_cases b3 : q = p
      · subst b3
        by_cases b4 : c = n
        · subst b4
          go_wp2
          go_ret
          exact ⟨ret_bool (by simp [subOk, b1, b2]), h1.below⟩
        · have e4 : (c == n) = false := by rw [beq_eq_false_iff_ne]; exact b4
          go_wp2
          go_ret
          exact ⟨ret_bool (by simp [subOk, b4]), h1.below⟩
      · have e3 : (q == p) = false := by rw [beq_eq_false_iff_ne]; exact b3
        go_wp2
        go_ret
        exact ⟨ret_bool (by simp [subOk, b3]), h1.below⟩
    · have b2 : spaceOk q r c D = false := by simpa using b2
      rw [b2]
      go_wp2
      go_ret
      exact ⟨ret_bool (by simp [subOk, b2]), h1.below⟩
  · have b1 : algOk p n T = false := by simpa using b1
    rw [show subOk p n T q r c D = false by simp [subOk, b1]]
    go_enter Try.func88, Try.ntmps88
    go_wp2_with fail
    refine (AlgebraOkI_any p n _ T _ (h1.roInts 3 rfl) hp).mono ?_
    rintro (e : Ending) w1 ⟨rfl, hb1⟩
    replace h1 := h1.on hb1
    clear hb1 y0 y1 y2
    go_wp2
    go_ret
    exact ⟨rfl, h1.below⟩

/-- What a function leaves that returns a matrix and a Bool. -/
def RetMatB (w : World) (a0 a1 a2 : Int) (l : List Int) (b : Bool) (e : Ending) (w' : World) : Prop := ∃ u, e = .returned (.tuple #[.agg #[.int .i64 a0, .int .i64 a1, .int .i64 a2, u], .bool b]) ∧ Own w' w.heap.size u l ∧ Below w.heap.size w w'

def psOk (p n : Int) (T : List Int) (q1 r1 c1 : Int) (S : List Int) (q2 r2 c2 : Int) (U : List Int) : Bool := subOk p n T q1 r1 c1 S && subOk p n T q2 r2 c2 U
def psL (p n : Int) (T : List Int) (r1 : Int) (S : List Int) (r2 : Int) (U : List Int) : List (List Int) := spanL p n.toNat (prodL T n.toNat p r1.toNat S r2.toNat U)
def psP (p n : Int) (T : List Int) (q1 r1 c1 : Int) (S : List Int) (q2 r2 c2 : Int) (U : List Int) : Int := if psOk p n T q1 r1 c1 S q2 r2 c2 U then p else 0
def psR (p n : Int) (T : List Int) (q1 r1 c1 : Int) (S : List Int) (q2 r2 c2 : Int) (U : List Int) : Int := if psOk p n T q1 r1 c1 S q2 r2 c2 U then (psL p n T r1 S r2 U).length else 0
def psC (p n : Int) (T : List Int) (q1 r1 c1 : Int) (S : List Int) (q2 r2 c2 : Int) (U : List Int) : Int := if psOk p n T q1 r1 c1 S q2 r2 c2 U then n else 0
def psD (p n : Int) (T : List Int) (q1 r1 c1 : Int) (S : List Int) (q2 r2 c2 : Int) (U : List Int) : List Int := if psOk p n T q1 r1 c1 S q2 r2 c2 U then flat n.toNat (psL p n T r1 S r2 U) else []
theorem spanL_le_n {p : Int} (hP : isPrime p = true) {n : Nat} {R : List (List Int)} (h : Wf p n R) : (spanL p n R).length ≤ n := by
  have hr := spanL_rf hP h
  rw [hr.len]
  rcases Nat.eq_zero_or_pos (pivL p n R).length with h0 | h0
  · omega
  · have hm : ∀ i, i < (pivL p n R).length → i ≤ pv (pivL p n R) i := by
      intro i
      induction i with
      | zero => intro _; omega
      | succ i ih => intro hi; have := ih (by omega); have := hr.mono i (i + 1) (by omega) hi; omega
    have h1 := hm ((pivL p n R).length - 1) (by omega)
    have h2 := hr.lt ((pivL p n R).length - 1) (by omega)
    omega
theorem psD_bd (p n : Int) (T : List Int) (q1 r1 c1 : Int) (S : List Int) (q2 r2 c2 : Int) (U : List Int) : (psD p n T q1 r1 c1 S q2 r2 c2 U).length ≤ 784 := by
  unfold psD
  split
  · rename_i h
    simp only [psOk, Bool.and_eq_true] at h
    obtain ⟨h1, _, _, _⟩ := subOk_spec h.1
    obtain ⟨m, rfl, hm, _, _, h2, _, hP⟩ := algOk_spec h1
    rw [length_flat, Int.toNat_natCast]
    exact mul_le (Nat.le_trans (spanL_le_n hP (Wf_prodTo h2 _ _ _ _ _)) hm) hm
  · simp


end Go.Proofs.Ytechjmckfedblaa
