/- isForm of the program, l3Form and l2Maps of the reference. -/
import Derived.Test.YtngmepodgbhbpaaMatOk
namespace Go.Proofs.Ytngmepodgbhbpaa
set_option maxRecDepth 100000
open Go.RowKit

set_option maxHeartbeats 2000000 in
theorem isForm_any (p n q r c : Int) (t u : Value) (T D : List Int) (w : World) (ht : Ints w t T) (hu : Ints w u D) (hq : q ≤ 9223372036854775807) :
    Calls Try.prog 82 #[.agg #[.int .i64 p, .int .i64 n, t], .agg #[.int .i64 q, .int .i64 r, .int .i64 c, u]] w (RetBool w (formOk p n q r c D)) := by
  have h1 := ((((St.start w).arg ht).arg hu).box [.int .i64 p, .int .i64 n, t] 27).box [.int .i64 q, .int .i64 r, .int .i64 c, u] 44
  simp only [World.size_alloc] at h1
  obtain ⟨A, k, rfl, _, _, _⟩ := id ht
  obtain ⟨A2, k2, rfl, _, _, _⟩ := id hu
  clear ht hu
  obtain ⟨z0, z1, z2, z3⟩ := h1.box4 0 rfl
  by_cases b1 : matOk q r c D = true
  · go_enter Try.func82, Try.ntmps82
    go_wp2_with fail
    refine (MatrixOkI_any q r c _ D _ (h1.roInts 2 rfl) hq).mono ?_
    rintro (e : Ending) w1 ⟨rfl, hb1⟩
    replace h1 := h1.on hb1
    clear hb1 z0 z1 z2 z3
    obtain ⟨z0, z1, z2, z3⟩ := h1.box4 0 rfl
    obtain ⟨y0, y1, y2⟩ := h1.box3 1 rfl
    go_wp2
    all_goals
      go_ret
      exact ⟨ret_bool (by simp_all [formOk] <;> rfl), h1.below⟩
  · have b1 : matOk q r c D = false := by simpa using b1
    rw [show formOk p n q r c D = false by simp [formOk, b1]]
    go_enter Try.func82, Try.ntmps82
    go_wp2_with fail
    refine (MatrixOkI_any q r c _ D _ (h1.roInts 2 rfl) hq).mono ?_
    rintro e wn ⟨rfl, hb1⟩
    replace h1 := h1.on hb1
    clear hb1
    go_wp2
    go_ret
    exact ⟨rfl, h1.below⟩
end Go.Proofs.Ytngmepodgbhbpaa
