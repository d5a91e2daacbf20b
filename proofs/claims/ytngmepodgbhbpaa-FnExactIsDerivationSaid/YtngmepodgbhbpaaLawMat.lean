/- The laws' helpers on Matrix. (Written by lawgen_struct.py.) -/
import Derived.Test.YtngmepodgbhbpaaLawAlg
namespace Go.Proofs.Ytngmepodgbhbpaa
set_option maxRecDepth 100000
open Go.RowKit

/-- A struct of numbers and a new slice of numbers is returned. -/
def RetMat (w : World) (a0 a1 a2 : Int) (l : List Int) (e : Ending) (w' : World) : Prop := ∃ u, e = .returned (.agg #[.int .i64 a0, .int .i64 a1, .int .i64 a2, u]) ∧ Own w' w.heap.size u l ∧ Below w.heap.size w w'

set_option maxHeartbeats 400000 in
theorem toMatrix_any (a0 a1 a2 : Int) (t : Value) (l : List Int) (w : World) (ht : Ints w t l) (hl : l.length ≤ 35184372088832) :
    Calls Try.prog 32 #[.agg #[.int .i64 a0, .int .i64 a1, .int .i64 a2, t]] w (RetMat w a0 a1 a2 l) := by
  have h0 := St.start1 ht
  have h1 := h0.box [.int .i64 a0, .int .i64 a1, .int .i64 a2, t] 41
  have h2 := (h1.box [.int .i64 0, .int .i64 0, .int .i64 0, .slice none 0 0] 44).box [.int .i64 a0, .int .i64 a1, .int .i64 a2, .slice none 0 0] 44
  simp only [World.size_alloc] at h2
  obtain ⟨A, c, rfl, _, _, _⟩ := id ht
  have hc := fun W (hi : Ints W (.slice A l.length c) l) => toIntS_any _ l W hi hl
  have Hc := Lib.hid hc
  clear hc ht hl
  obtain ⟨x0, x1, x2, x3⟩ := (h1.box4 0 rfl)
  go_enter Try.func32, Try.ntmps32
  go_wp2_with fail
  refine (Hc.out _ (h2.roInts 3 rfl)).mono ?_
  rintro e w1 ⟨u, rfl, ho, hb⟩
  obtain ⟨A1, c1, rfl, _, _, _⟩ := id ho.ints
  have h3 := h2.pushOwn hb ho
  obtain ⟨z0, z1, z2, z3⟩ := h3.box4 1 rfl
  have zf := h3.free 1 rfl 3
  have zl := (h3.boxLt 1 rfl).2
  obtain ⟨y0, y1, y2, y3⟩ := h3.box4 2 rfl
  have f0 := h3.free 2 rfl 0
  have f1 := h3.free 2 rfl 1
  have f2 := h3.free 2 rfl 2
  have f3 := h3.free 2 rfl 3
  have h4 := (h3.setBox 1 rfl 3 (.slice A1 l.length c1))
  replace h4 := h4.setBox 2 rfl 0 (.int .i64 a0)
  replace h4 := h4.setBox 2 rfl 1 (.int .i64 a1)
  replace h4 := h4.setBox 2 rfl 2 (.int .i64 a2)
  replace h4 := h4.setBox 2 rfl 3 (.slice A1 l.length c1)
  clear hb ho h3
  obtain ⟨r0, r1, r2, r3⟩ := h4.box4 2 rfl
  go_wp2
  refine bodyPost_ret (v := .agg #[.int .i64 a0, .int .i64 a1, .int .i64 a2, .slice A1 l.length c1]) (by simp [results, Try.results32, go_sem, r0, r1, r2, r3]) rfl ⟨_, rfl, h4.own 0 rfl, h4.below⟩

theorem szMatrix_yes (a0 a1 a2 left : Int) (t : Value) (l : List Int) (w : World) (ht : Ints w t l) (h : (l.length : Int) ≤ left) (hl : left ≤ 1048576) :
    Calls Try.prog 30 #[.agg #[.int .i64 a0, .int .i64 a1, .int .i64 a2, t], .int .i64 left] w fun e w' => e = .returned (.int .i64 (left - l.length)) ∧ Below w.heap.size w w' := by
  have h1 := (St.start1 ht).box [.int .i64 a0, .int .i64 a1, .int .i64 a2, t] 41
  obtain ⟨A, c, rfl, _, _, _⟩ := id ht
  clear ht
  obtain ⟨c0, c1, c2, c3⟩ := h1.box4 0 rfl
  go_enter Try.func30, Try.ntmps30
  go_wp2_with (go_at_call 58; refine (szIntS_yes _ _ l _ (h1.roInts 1 rfl) h hl).mono ?_; rintro e wn ⟨rfl, rfl⟩)
  go_ret
  exact ⟨rfl, h1.below⟩
theorem szMatrix_no (a0 a1 a2 left : Int) (t : Value) (l : List Int) (w : World) (ht : Ints w t l) (h : left < (l.length : Int)) (hl : left ≤ 1048576) (h0 : 0 ≤ left) :
    Calls Try.prog 30 #[.agg #[.int .i64 a0, .int .i64 a1, .int .i64 a2, t], .int .i64 left] w fun e w' => e = .returned (.int .i64 (-1)) ∧ Below w.heap.size w w' := by
  have h1 := (St.start1 ht).box [.int .i64 a0, .int .i64 a1, .int .i64 a2, t] 41
  obtain ⟨A, c, rfl, _, _, _⟩ := id ht
  clear ht
  obtain ⟨c0, c1, c2, c3⟩ := h1.box4 0 rfl
  go_enter Try.func30, Try.ntmps30
  go_wp2_with (go_at_call 58; refine (szIntS_no _ _ l _ (h1.roInts 1 rfl) h hl h0).mono ?_; rintro e wn ⟨rfl, rfl⟩)
  go_ret
  exact ⟨rfl, h1.below⟩
set_option maxHeartbeats 400000 in
theorem eqMatrix_same (a0 a1 a2 : Int) (t u : Value) (l : List Int) (w : World) (ht : Ints w t l) (hu : Ints w u l) :
    Calls Try.prog 34 #[.agg #[.int .i64 a0, .int .i64 a1, .int .i64 a2, t], .agg #[.int .i64 a0, .int .i64 a1, .int .i64 a2, u]] w fun e w' => e = .returned (.bool true) ∧ Below w.heap.size w w' := by
  have h1 := ((((St.start w).arg ht).arg hu).box [.int .i64 a0, .int .i64 a1, .int .i64 a2, t] 44).box [.int .i64 a0, .int .i64 a1, .int .i64 a2, u] 44
  simp only [World.size_alloc] at h1
  obtain ⟨A, c, rfl, _, _, _⟩ := id ht
  obtain ⟨B, d, rfl, _, _, _⟩ := id hu
  clear ht hu
  obtain ⟨c0, c1, c2, c3⟩ := h1.box4 1 rfl
  obtain ⟨d0, d1, d2, d3⟩ := h1.box4 0 rfl
  have he : decide (l = l) = true := by simp
  go_enter Try.func34, Try.ntmps34
  go_wp2_with fail
  refine (eqIntS_any _ _ l l _ (h1.roInts 3 rfl) (h1.roInts 2 rfl)).mono ?_
  rintro e wn ⟨rfl, nd, rfl⟩
  replace h1 := h1.drewN nd
  go_wp2
  go_ret
  exact ⟨rfl, h1.below⟩
/-- Marks, in a call whose memory is known. -/
theorem markMatrix_any {w0 w : World} {L : List It} (h : St w0 w L) (i : Nat) {t : Value} {l : List Int} (hi : L[i]? = some (.own t l)) (a0 a1 a2 k : Int) (hl : l.length ≤ 35184372088832) (hk : 0 ≤ k) (hk' : k ≤ 35184372088832000) :
    Calls Try.prog 47 #[.agg #[.int .i64 a0, .int .i64 a1, .int .i64 a2, t], .int .i64 k] w fun e w' => e = .returned (.int .i64 (k + l.length)) ∧ St w0 w' (L.set i (.own t (marks k l.length))) := by
  have h1 := h.box [.int .i64 a0, .int .i64 a1, .int .i64 a2, t] 44
  have hi' : (It.box w.heap.size [.int .i64 a0, .int .i64 a1, .int .i64 a2, t] :: L)[i + 1]? = some (.own t l) := by simpa using hi
  have HI := Lib.hid hi'
  obtain ⟨A, c, rfl, _, _, _⟩ := id (h.own i hi).ints
  clear hi hi'
  obtain ⟨c0, c1, c2, c3⟩ := h1.box4 0 rfl
  go_enter Try.func47, Try.ntmps47
  go_wp2_with fail
  refine (markIntS_any _ l k _ _ (h1.own (i + 1) HI.out) hl hk hk').mono ?_
  rintro e wn ⟨rfl, ho, hg⟩
  have h2 := h1.wrote (i + 1) HI.out ho hg
  go_wp2
  go_ret
  exact ⟨rfl, h2.drop 1⟩
theorem heldMatrix_any (a0 a1 a2 k : Int) (t : Value) (n : Nat) (w : World) (ht : Ints w t (marks k n)) (hl : n ≤ 35184372088832) (hk : 0 ≤ k) (hk' : k ≤ 35184372088832000) :
    Calls Try.prog 51 #[.agg #[.int .i64 a0, .int .i64 a1, .int .i64 a2, t], .int .i64 k] w fun e w' => e = .returned (.int .i64 (k + n)) ∧ Below w.heap.size w w' := by
  have h1 := (St.start1 ht).box [.int .i64 a0, .int .i64 a1, .int .i64 a2, t] 44
  obtain ⟨A, c, rfl, _, _, _⟩ := id ht
  clear ht
  obtain ⟨c0, c1, c2, c3⟩ := h1.box4 0 rfl
  go_enter Try.func51, Try.ntmps51
  go_wp2_with (go_at_call 24; refine (heldIntS_any _ n k _ (h1.roInts 1 rfl) hl hk hk').mono ?_; rintro e wn ⟨rfl, rfl⟩)
  go_ret
  exact ⟨rfl, h1.below⟩
end Go.Proofs.Ytngmepodgbhbpaa
