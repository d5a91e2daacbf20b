/- The laws' helpers on Cartan matrices: a copy, a count, a comparison, marks. -/
import Derived.Test.YtcngijafnnmccaaGreatDoorLawB
import Derived.Test.YtcngijafnnmccaaGreatDoorCarS
namespace Go.Proofs.YtcngijafnnmccaaGreatDoor
set_option maxRecDepth 100000
open Go.RowKit

/-- A Cartan matrix with a new slice of numbers is returned. -/
def RetCa (w : World) (a0 : Int) (l : List Int) (e : Ending) (w' : World) : Prop := ∃ u, e = .returned (.agg #[.int .i64 a0, u]) ∧ Own w' w.heap.size u l ∧ Below w.heap.size w w'
set_option maxHeartbeats 400000 in
theorem toCartan_any (a0 : Int) (t : Value) (l : List Int) (w : World) (ht : Ints w t l) (hl : l.length ≤ 35184372088832) :
    Calls Tryz.prog 9 #[.agg #[.int .i64 a0, t]] w (RetCa w a0 l) := by
  have h0 := St.start1 ht
  have h1 := h0.box [.int .i64 a0, t] 26
  have h2 := (h1.box [.int .i64 0, .slice none 0 0] 34).box [.int .i64 a0, .slice none 0 0] 34
  simp only [World.size_alloc] at h2
  obtain ⟨A, c, rfl, _, _, _⟩ := id ht
  have hc := fun W (hi : Ints W (.slice A l.length c) l) => toIntS_any _ l W hi hl
  have Hc := Lib.hid hc
  clear hc ht hl
  obtain ⟨x0, x1⟩ := (h1.box2 0 rfl)
  go_enter Tryz.func9, Tryz.ntmps9
  go_wp2_with fail
  refine (Hc.out _ (h2.roInts 3 rfl)).mono ?_
  rintro e w1 ⟨u, rfl, ho, hb⟩
  obtain ⟨A1, c1, rfl, _, _, _⟩ := id ho.ints
  have h3 := h2.pushOwn hb ho
  obtain ⟨z0, z1⟩ := h3.box2 1 rfl
  have zf := h3.free 1 rfl 1
  have zl := (h3.boxLt 1 rfl).2
  obtain ⟨y0, y1⟩ := h3.box2 2 rfl
  have f0 := h3.free 2 rfl 0
  have f1 := h3.free 2 rfl 1
  have h4 := (h3.setBox 1 rfl 1 (.slice A1 l.length c1))
  replace h4 := h4.setBox 2 rfl 0 (.int .i64 a0)
  replace h4 := h4.setBox 2 rfl 1 (.slice A1 l.length c1)
  clear hb ho h3
  obtain ⟨r0, r1⟩ := h4.box2 2 rfl
  go_wp2
  refine bodyPost_ret (v := .agg #[.int .i64 a0, .slice A1 l.length c1]) (by simp [results, Tryz.results9, go_sem, r0, r1]) rfl ⟨_, rfl, h4.own 0 rfl, h4.below⟩

theorem szCartan_yes (a0 left : Int) (t : Value) (l : List Int) (w : World) (ht : Ints w t l) (h : (l.length : Int) ≤ left) (hl : left ≤ 1048576) :
    Calls Tryz.prog 5 #[.agg #[.int .i64 a0, t], .int .i64 left] w fun e w' => e = .returned (.int .i64 (left - l.length)) ∧ Below w.heap.size w w' := by
  have h1 := (St.start1 ht).box [.int .i64 a0, t] 26
  obtain ⟨A, c, rfl, _, _, _⟩ := id ht
  clear ht
  obtain ⟨c0, c1⟩ := h1.box2 0 rfl
  go_enter Tryz.func5, Tryz.ntmps5
  go_wp2_with (go_at_call 15; refine (szIntS_yes _ _ l _ (h1.roInts 1 rfl) h hl).mono ?_; rintro e wn ⟨rfl, rfl⟩)
  go_ret
  exact ⟨rfl, h1.below⟩
theorem szCartan_no (a0 left : Int) (t : Value) (l : List Int) (w : World) (ht : Ints w t l) (h : left < (l.length : Int)) (hl : left ≤ 1048576) (h0 : 0 ≤ left) :
    Calls Tryz.prog 5 #[.agg #[.int .i64 a0, t], .int .i64 left] w fun e w' => e = .returned (.int .i64 (-1)) ∧ Below w.heap.size w w' := by
  have h1 := (St.start1 ht).box [.int .i64 a0, t] 26
  obtain ⟨A, c, rfl, _, _, _⟩ := id ht
  clear ht
  obtain ⟨c0, c1⟩ := h1.box2 0 rfl
  go_enter Tryz.func5, Tryz.ntmps5
  go_wp2_with (go_at_call 15; refine (szIntS_no _ _ l _ (h1.roInts 1 rfl) h hl h0).mono ?_; rintro e wn ⟨rfl, rfl⟩)
  go_ret
  exact ⟨rfl, h1.below⟩
set_option maxHeartbeats 400000 in
theorem eqCartan_same (a0 : Int) (t u : Value) (l : List Int) (w : World) (ht : Ints w t l) (hu : Ints w u l) :
    Calls Tryz.prog 13 #[.agg #[.int .i64 a0, t], .agg #[.int .i64 a0, u]] w fun e w' => e = .returned (.bool true) ∧ Below w.heap.size w w' := by
  have h1 := ((((St.start w).arg ht).arg hu).box [.int .i64 a0, t] 34).box [.int .i64 a0, u] 34
  simp only [World.size_alloc] at h1
  obtain ⟨A, c, rfl, _, _, _⟩ := id ht
  obtain ⟨B, d, rfl, _, _, _⟩ := id hu
  clear ht hu
  obtain ⟨c0, c1⟩ := h1.box2 1 rfl
  obtain ⟨d0, d1⟩ := h1.box2 0 rfl
  have he : decide (l = l) = true := by simp
  go_enter Tryz.func13, Tryz.ntmps13
  go_wp2_with fail
  refine (eqIntS_any _ _ l l _ (h1.roInts 3 rfl) (h1.roInts 2 rfl)).mono ?_
  rintro e wn ⟨rfl, nd, rfl⟩
  replace h1 := h1.drewN nd
  go_wp2
  go_ret
  exact ⟨rfl, h1.below⟩
end Go.Proofs.YtcngijafnnmccaaGreatDoor
