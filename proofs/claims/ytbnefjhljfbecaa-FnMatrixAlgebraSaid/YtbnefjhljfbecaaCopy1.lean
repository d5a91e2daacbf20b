/- The reference's l1Ints, l1Copy. -/
import Derived.Test.YtbnefjhljfbecaaRowsJ
import Derived.Test.YtbnefjhljfbecaaLawM
namespace Go.Proofs.Ytbnefjhljfbecaa
set_option maxRecDepth 100000
open Go.RowKit

set_option maxHeartbeats 1000000 in
theorem l1Copy_any (p r c : Int) (t : Value) (D : List Int) (w : World) (ht : Ints w t D) (hl : D.length ≤ 4194304) :
    Calls Try.prog 58 #[.agg #[.int .i64 p, .int .i64 r, .int .i64 c, t]] w (RetMat w p r c D) := by
  have h1 := (((St.start w).arg ht).box [.int .i64 p, .int .i64 r, .int .i64 c, t] 35).box [.int .i64 0, .int .i64 0, .int .i64 0, .slice none 0 0] 35
  simp only [World.size_alloc] at h1
  obtain ⟨A, k, rfl, _, _, _⟩ := id ht
  clear ht
  go_enter Try.func58, Try.ntmps58
  go_wp2
  obtain ⟨z0, z1, z2, z3⟩ := h1.box4 1 rfl
  go_region_held3 (fun w' => w'.cell? ⟨w.heap.size, 0, none⟩ = some (.int .i64 p) ∧ w'.cell? ⟨w.heap.size, 1, none⟩ = some (.int .i64 r) ∧ w'.cell? ⟨w.heap.size, 2, none⟩ = some (.int .i64 c) ∧ w'.cell? ⟨w.heap.size, 3, none⟩ = some (.slice A D.length k))
    (first | exact ⟨z0, z1, z2, z3⟩ | exact ⟨x0, x1, x2, x3⟩ | exact ⟨s0, s1, s2, s3⟩)
    (first
      | (go_at_call 70; refine (l1Ints_any _ D _ ?_ (by omega)).mono ?_; exact h1.drew.roInts 2 rfl; rintro (e : Ending) w1 ⟨u, rfl, ho, hb⟩; obtain ⟨A6, c6, rfl, _, _, _⟩ := id ho.ints; have h2 := h1.drew.pushOwn hb ho; obtain ⟨x0, x1, x2, x3⟩ := h2.box4 2 rfl; obtain ⟨v0, v1, v2, v3⟩ := h2.box4 1 rfl; have g0 := h2.free 1 rfl 0; have g1 := h2.free 1 rfl 1; have g2 := h2.free 1 rfl 2; have g3 := h2.free 1 rfl 3; have h4 := (((h2.setBox 1 rfl 0 (.int .i64 p)).setBox 1 rfl 1 (.int .i64 r)).setBox 1 rfl 2 (.int .i64 c)).setBox 1 rfl 3 (.slice A6 D.length c6); obtain ⟨s0, s1, s2, s3⟩ := h4.box4 2 rfl))
  obtain ⟨r0, r1, r2, r3⟩ := h4.box4 1 rfl
  go_wp2
  refine bodyPost_ret (v := .agg #[.int .i64 p, .int .i64 r, .int .i64 c, .slice A6 D.length c6]) (by simp [results, Try.results58, go_sem, r0, r1, r2, r3]) rfl ⟨_, rfl, h4.own 0 rfl, h4.below⟩
end Go.Proofs.Ytbnefjhljfbecaa
