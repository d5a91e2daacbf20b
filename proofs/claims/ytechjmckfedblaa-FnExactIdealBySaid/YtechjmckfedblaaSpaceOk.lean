/- SpaceOk of the program and of the reference. -/
import Derived.Test.YtechjmckfedblaaL1Span
import Derived.Test.YtechjmckfedblaaRowsW2
namespace Go.Proofs.Ytechjmckfedblaa
set_option maxRecDepth 100000
open Go.RowKit

def spaceOk (p r c : Int) (D : List Int) : Bool := matOk p r c D && decide (spanM p c.toNat (rowsM r.toNat c.toNat D) = D ∧ (spanL p c.toNat (rowsM r.toNat c.toNat D)).length = r.toNat)

set_option maxHeartbeats 1000000 in
theorem l1Equal_any (p r c p' r' c' : Int) (t u : Value) (D E : List Int) (w : World) (ht : Ints w t D) (hu : Ints w u E) :
    Calls Try.prog 113 #[.agg #[.int .i64 p, .int .i64 r, .int .i64 c, t], .agg #[.int .i64 p', .int .i64 r', .int .i64 c', u]] w (RetBool w (decide (p = p' ∧ r = r' ∧ c = c' ∧ D = E))) := by
  obtain ⟨R, hR⟩ : ∃ R, R = decide (p = p' ∧ r = r' ∧ c = c' ∧ D = E) := ⟨_, rfl⟩
  rw [← hR]
  by_cases e1 : p = p'
  · by_cases e2 : r = r'
    · by_cases e3 : c = c'
      · subst e1 e2 e3
        have HR : Hid (R = decide (D = E)) := by show _ = _; rw [hR]; simp
        clear hR
        have h1 := ((((St.start w).arg ht).arg hu).box [.int .i64 p, .int .i64 r, .int .i64 c, t] 32).box [.int .i64 p, .int .i64 r, .int .i64 c, u] 32
        simp only [World.size_alloc] at h1
        obtain ⟨A, k, rfl, _, _, _⟩ := id ht
        obtain ⟨A2, k2, rfl, _, _, _⟩ := id hu
        clear ht hu
        obtain ⟨z0, z1, z2, z3⟩ := h1.box4 1 rfl
        obtain ⟨y0, y1, y2, y3⟩ := h1.box4 0 rfl
        go_enter Try.func113, Try.ntmps113
        go_wp2_with fail
        refine (l1Same_any _ _ D E _ (h1.roInts 3 rfl) (h1.roInts 2 rfl)).mono ?_
        rintro (e : Ending) w1 ⟨rfl, nd, rfl⟩
        rw [← HR.out]
        have h2 := h1.drewN nd
        go_wp2
        go_ret
        exact ⟨rfl, h2.below⟩
      · have hF : R = false := by rw [hR]; simp [e3]
        have t3 : (c == c') = false := by rw [beq_eq_false_iff_ne]; exact e3
        rw [hF]
        clear hR hF e3
        subst e1 e2
        have h1 := ((((St.start w).arg ht).arg hu).box [.int .i64 p, .int .i64 r, .int .i64 c, t] 32).box [.int .i64 p, .int .i64 r, .int .i64 c', u] 32
        simp only [World.size_alloc] at h1
        obtain ⟨A, k, rfl, _, _, _⟩ := id ht
        obtain ⟨A2, k2, rfl, _, _, _⟩ := id hu
        clear ht hu
        obtain ⟨z0, z1, z2, z3⟩ := h1.box4 1 rfl
        obtain ⟨y0, y1, y2, y3⟩ := h1.box4 0 rfl
        go_enter Try.func113, Try.ntmps113
        go_wp2
        go_ret
        exact ⟨rfl, h1.below⟩
    · have hF : R = false := by rw [hR]; simp [e2]
      have t3 : (r == r') = false := by rw [beq_eq_false_iff_ne]; exact e2
      rw [hF]
      clear hR hF e2
      subst e1
      have h1 := ((((St.start w).arg ht).arg hu).box [.int .i64 p, .int .i64 r, .int .i64 c, t] 32).box [.int .i64 p, .int .i64 r', .int .i64 c', u] 32
      simp only [World.size_alloc] at h1
      obtain ⟨A, k, rfl, _, _, _⟩ := id ht
      obtain ⟨A2, k2, rfl, _, _, _⟩ := id hu
      clear ht hu
      obtain ⟨z0, z1, z2, z3⟩ := h1.box4 1 rfl
      obtain ⟨y0, y1, y2, y3⟩ := h1.box4 0 rfl
      go_enter Try.func113, Try.ntmps113
      go_wp2
      go_ret
      exact ⟨rfl, h1.below⟩
  · have hF : R = false := by rw [hR]; simp [e1]
    have t3 : (p == p') = false := by rw [beq_eq_false_iff_ne]; exact e1
    rw [hF]
    clear hR hF e1
    have h1 := ((((St.start w).arg ht).arg hu).box [.int .i64 p, .int .i64 r, .int .i64 c, t] 32).box [.int .i64 p', .int .i64 r', .int .i64 c', u] 32
    simp only [World.size_alloc] at h1
    obtain ⟨A, k, rfl, _, _, _⟩ := id ht
    obtain ⟨A2, k2, rfl, _, _, _⟩ := id hu
    clear ht hu
    obtain ⟨z0, z1, z2, z3⟩ := h1.box4 1 rfl
    obtain ⟨y0, y1, y2, y3⟩ := h1.box4 0 rfl
    go_enter Try.func113, Try.ntmps113
    go_wp2
    go_ret
    exact ⟨rfl, h1.below⟩

set_option maxHeartbeats 4000000 in
theorem SpaceOkS_any (p r c : Int) (t : Value) (D : List Int) (w : World) (ht : Ints w t D) (hp : p ≤ 9223372036854775807) : Calls Try.prog 139 #[.agg #[.int .i64 p, .int .i64 r, .int .i64 c, t]] w (RetBool w (spaceOk p r c D)) := by
  have h1 := ((St.start w).arg ht).box [.int .i64 p, .int .i64 r, .int .i64 c, t] 32
  obtain ⟨A, k, rfl, _, _, _⟩ := id ht
  clear ht
  by_cases b0 : matOk p r c D = true
  · obtain ⟨a, b, rfl, rfl, k1, k2, kD, kR, k4, k5, k6⟩ := matOk_spec b0
    have hab := mul_le k1 k2
    obtain ⟨R, hR⟩ : ∃ R, R = spaceOk p a b D := ⟨_, rfl⟩
    rw [← hR]
    obtain ⟨l, hl⟩ : ∃ l, l = (spanL p b (rowsM a b D)).length := ⟨_, rfl⟩
    obtain ⟨E, hE⟩ : ∃ E, E = spanM p b (rowsM a b D) := ⟨_, rfl⟩
    have HR : Hid (R = decide (p = p ∧ (a : Int) = l ∧ (b : Int) = b ∧ D = E)) := by
      show _ = _
      rw [hR, spaceOk, b0, Bool.true_and, Int.toNat_natCast, Int.toNat_natCast, ← hl, ← hE]
      by_cases e1 : E = D
      · subst e1
        by_cases e2 : l = a
        · subst e2; simp
        · have e3 : ¬ (a : Int) = l := by omega
          simp [e2, e3]
      · have e3 : ¬ D = E := fun h => e1 h.symm
        simp [e1, e3]
    have HA := Lib.hid (fun W (hi : Ints W (.slice A D.length k) D) => b0 ▸ MatrixOkS_any p a b _ D W hi hp)
    have HS := Lib.hid (fun W (hi : Ints W (.slice A D.length k) D) => hl ▸ hE ▸ l1Span_any p a b _ D W hi kD (by omega) (by omega) (by omega) k6 kR)
    have HL := Lib.hid (show ∀ (W : World) (v u : Value), Ints W v D → Ints W u E → Calls Try.prog 113 #[.agg #[.int .i64 p, .int .i64 a, .int .i64 b, v], .agg #[.int .i64 p, .int .i64 l, .int .i64 b, u]] W (RetBool W R) from fun W v u hv hu => by have := l1Equal_any p a b p l b v u D E W hv hu; rwa [← HR.out] at this)
    clear hR b0 kD kR k4 k5 k6 hl hE hab k1 k2
    obtain ⟨z0, z1, z2, z3⟩ := h1.box4 0 rfl
    go_enter Try.func139, Try.ntmps139
    go_wp2
    go_region_held3 (fun w' => w'.cell? ⟨w.heap.size, 0, none⟩ = some (.int .i64 p) ∧ w'.cell? ⟨w.heap.size, 1, none⟩ = some (.int .i64 a) ∧ w'.cell? ⟨w.heap.size, 2, none⟩ = some (.int .i64 b) ∧ w'.cell? ⟨w.heap.size, 3, none⟩ = some (.slice A D.length k))
      (first | exact ⟨z0, z1, z2, z3⟩ | exact ⟨za0, za1, za2, za3⟩ | exact ⟨zb0, zb1, zb2, zb3⟩ | exact ⟨zc0, zc1, zc2, zc3⟩)
      (first
        | (go_at_call 69; refine (HA.out _ ?_).mono ?_; exact h1.drew.roInts 1 rfl; rintro (e : Ending) w1 ⟨rfl, hb1⟩; have h2 := h1.drew.on hb1; obtain ⟨za0, za1, za2, za3⟩ := h2.box4 0 rfl)
        | (go_at_call 82; refine (HS.out _ (h2.roInts 1 rfl)).mono ?_; rintro (e : Ending) w2 ⟨u, rfl, ho2, hb2⟩; obtain ⟨A6, n6, c6, rfl⟩ := ho2.slice; have h3 := h2.pushOwn hb2 ho2; obtain ⟨zb0, zb1, zb2, zb3⟩ := h3.box4 1 rfl)
        | (go_at_call 113; refine (HL.out _ _ _ (h3.roInts 2 rfl) (h3.ownInts 0 rfl)).mono ?_; rintro (e : Ending) w3 ⟨rfl, hb3⟩; have h4 := h3.on hb3; obtain ⟨zc0, zc1, zc2, zc3⟩ := h4.box4 1 rfl))
    go_wp2
    go_ret
    exact ⟨rfl, h4.below⟩
  · have b0 : matOk p r c D = false := by simpa using b0
    have HA := Lib.hid (show ∀ W, Ints W (.slice A D.length k) D → Calls Try.prog 69 #[.agg #[.int .i64 p, .int .i64 r, .int .i64 c, .slice A D.length k]] W (RetBool W false) from fun W hi => by have := MatrixOkS_any p r c _ D W hi hp; rwa [b0] at this)
    rw [show spaceOk p r c D = false by rw [spaceOk, b0, Bool.false_and]]
    clear b0
    obtain ⟨z0, z1, z2, z3⟩ := h1.box4 0 rfl
    go_enter Try.func139, Try.ntmps139
    go_wp2
    refine h1.region_all (by kernel_rfl) (by kernel_rfl) ?_
    iterate 1
      apply wpQuiet_op
      · exact rfl
      · intro w' hC
        obtain ⟨z0, z1, z2, z3⟩ := hC.box4 0 rfl
        unfold Oper.quietAt
        go_simp
        first | exact rfl | exact ⟨rfl, rfl⟩
      go_simp
    apply wpQuiet_op
    · exact rfl
    · intro w' hC
      unfold Oper.quietAt
      go_simp
      exact (HA.out w' (hC.roInts 1 rfl)).mono fun e w'' hh => ⟨hh.1, hC.on hh.2⟩
    go_simp
    repeat
      first
        | go_big_quiet_skip
        | (go_big_quiet_want; go_big_quiet_op; first | go_big_quiet_on | (refine ⟨_, fun _ _ => rfl, ?_⟩; go_big_quiet_on))
    refine wpQuiet_nil ?_
    intro wn hC
    go_wp2
    go_ret
    exact ⟨rfl, hC.below⟩

end Go.Proofs.Ytechjmckfedblaa
