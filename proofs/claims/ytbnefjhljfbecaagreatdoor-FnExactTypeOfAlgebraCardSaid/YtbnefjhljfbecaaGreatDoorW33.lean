import Derived.Test.YtbnefjhljfbecaaGreatDoorW06
import Derived.Test.YtbnefjhljfbecaaGreatDoorW07
import Derived.Test.YtbnefjhljfbecaaGreatDoorW21
import Derived.Test.YtbnefjhljfbecaaGreatDoorW24
import Derived.Test.YtbnefjhljfbecaaGreatDoorW32
namespace Go.Proofs.YtbnefjhljfbecaaGreatDoor
set_option maxRecDepth 100000
section
section
open Go.RowKit
def spaceOk (p r c : Int) (D : List Int) : Bool := matOk p r c D && decide (spanM p c.toNat (rowsM r.toNat c.toNat D) = D ∧ (spanL p c.toNat (rowsM r.toNat c.toNat D)).length = r.toNat)
set_option maxHeartbeats 1000000 in
theorem l1Equal_any (p r c p' r' c' : Int) (t u : Value) (D E : List Int) (w : World) (ht : Ints w t D) (hu : Ints w u E) :
  Calls Tryz.prog 16 #[.agg #[.int .i64 p, .int .i64 r, .int .i64 c, t], .agg #[.int .i64 p', .int .i64 r', .int .i64 c', u]] w (RetBool w (decide (p = p' ∧ r = r' ∧ c = c' ∧ D = E))) := by
 obtain ⟨R, hR⟩ : ∃ R, R = decide (p = p' ∧ r = r' ∧ c = c' ∧ D = E) := ⟨_, rfl⟩
 rw [← hR]
 by_cases e1 : p = p'
 ·by_cases e2 : r = r'
  ·by_cases e3 : c = c'
   ·subst e1 e2 e3
    have HR : Hid (R = decide (D = E)) := by show _ = _; rw [hR]; simp
    clear hR
    have h1 := ((((St.start w).arg ht).arg hu).box [.int .i64 p, .int .i64 r, .int .i64 c, t] 32).box [.int .i64 p, .int .i64 r, .int .i64 c, u] 32
    simp only [World.size_alloc] at h1
    obtain ⟨A, k, rfl, _, _, _⟩ := id ht
    obtain ⟨A2, k2, rfl, _, _, _⟩ := id hu
    clear ht hu
    obtain ⟨z0, z1, z2, z3⟩ := h1.box4 1 rfl
    obtain ⟨y0, y1, y2, y3⟩ := h1.box4 0 rfl
    go_enter Tryz.func16, Tryz.ntmps16
    go_wp2_with fail
    refine (l1Same_any _ _ D E _ (h1.roInts 3 rfl) (h1.roInts 2 rfl)).mono ?_
    rintro (e : Ending) w1 ⟨rfl, nd, rfl⟩
    rw [← HR.out]
    have h2 := h1.drewN nd
    go_wp2
    go_ret
    exact ⟨rfl, h2.below⟩
   ·have hF : R = false := by rw [hR]; simp [e3]
    have t3 : (c == c') = false := by rw [beq_eq_false_iff_ne]; exact e3
    rw [hF]
    clear hR hF e3
    subst e1 e2
    have h1 := ((((St.start w).arg ht).arg hu).box [.int .i64 p, .int .i64 r, .int .i64 c, t] 32).box [.int .i64 p, .int .i64 r, .int .i64 c', u] 32
    simp only [World.size_alloc] at h1
    obtain ⟨A, k, rfl, _, _, _⟩ := id ht
    obtain ⟨A2, k2, rfl, _, _, _⟩ := id hu
    clear ht hu
    obtain ⟨z0, z1, z2, z3⟩ := h1.box4 1 rfl
    obtain ⟨y0, y1, y2, y3⟩ := h1.box4 0 rfl
    go_enter Tryz.func16, Tryz.ntmps16
    go_wp2
    go_ret
    exact ⟨rfl, h1.below⟩
  ·have hF : R = false := by rw [hR]; simp [e2]
   have t3 : (r == r') = false := by rw [beq_eq_false_iff_ne]; exact e2
   rw [hF]
   clear hR hF e2
   subst e1
   have h1 := ((((St.start w).arg ht).arg hu).box [.int .i64 p, .int .i64 r, .int .i64 c, t] 32).box [.int .i64 p, .int .i64 r', .int .i64 c', u] 32
   simp only [World.size_alloc] at h1
   obtain ⟨A, k, rfl, _, _, _⟩ := id ht
   obtain ⟨A2, k2, rfl, _, _, _⟩ := id hu
   clear ht hu
   obtain ⟨z0, z1, z2, z3⟩ := h1.box4 1 rfl
   obtain ⟨y0, y1, y2, y3⟩ := h1.box4 0 rfl
   go_enter Tryz.func16, Tryz.ntmps16
   go_wp2
   go_ret
   exact ⟨rfl, h1.below⟩
 ·have hF : R = false := by rw [hR]; simp [e1]
  have t3 : (p == p') = false := by rw [beq_eq_false_iff_ne]; exact e1
  rw [hF]
  clear hR hF e1
  have h1 := ((((St.start w).arg ht).arg hu).box [.int .i64 p, .int .i64 r, .int .i64 c, t] 32).box [.int .i64 p', .int .i64 r', .int .i64 c', u] 32
  simp only [World.size_alloc] at h1
  obtain ⟨A, k, rfl, _, _, _⟩ := id ht
  obtain ⟨A2, k2, rfl, _, _, _⟩ := id hu
  clear ht hu
  obtain ⟨z0, z1, z2, z3⟩ := h1.box4 1 rfl
  obtain ⟨y0, y1, y2, y3⟩ := h1.box4 0 rfl
  go_enter Tryz.func16, Tryz.ntmps16
  go_wp2
  go_ret
  exact ⟨rfl, h1.below⟩
set_option maxHeartbeats 4000000 in
theorem SpaceOkS_any (p r c : Int) (t : Value) (D : List Int) (w : World) (ht : Ints w t D) (hp : p ≤ 9223372036854775807) : Calls Tryz.prog 59 #[.agg #[.int .i64 p, .int .i64 r, .int .i64 c, t]] w (RetBool w (spaceOk p r c D)) := by
  have h1 := ((St.start w).arg ht).box [.int .i64 p, .int .i64 r, .int .i64 c, t] 32
  obtain ⟨A, k, rfl, _, _, _⟩ := id ht
  clear ht
  by_cases b0 : matOk p r c D = true
  · obtain ⟨a, b, rfl, rfl, k1, k2, kD, kR, k4, k5, k6⟩ := matOk_spec b0
    have hab := mul_le k1 k2
    obtain ⟨R, hR⟩ : ∃ R, R = spaceOk p a b D := ⟨_, rfl⟩
    rw [← hR]
    obtain ⟨l, hl⟩ : ∃ l, l = (spanL p b (rowsM a b D)).length := ⟨_, rfl⟩
    obtain ⟨E, hE⟩ : ∃ E, E = spanM p b (rowsM a b D) := ⟨_, rfl⟩
    have HR : Hid (R = decide (p = p ∧ (a : Int) = l ∧ (b : Int) = b ∧ D = E)) := by
      show _ = _
      rw [hR, spaceOk, b0, Bool.true_and, Int.toNat_natCast, Int.toNat_natCast, ← hl, ← hE]
      by_cases e1 : E = D
      · subst e1
        by_cases e2 : l = a
        · subst e2; simp
        · have e3 : ¬ (a : Int) = l := by omega
          simp [e2, e3]
      · have e3 : ¬ D = E := fun h => e1 h.symm
        simp [e1, e3]
    have HA := Lib.hid (fun W (hi : Ints W (.slice A D.length k) D) => b0 ▸ MatrixOkS_any p a b _ D W hi hp)
    have HS := Lib.hid (fun W (hi : Ints W (.slice A D.length k) D) => hl ▸ hE ▸ l1Span_any p a b _ D W hi kD (by omega) (by omega) (by omega) k6 kR)
    have HL := Lib.hid (show ∀ (W : World) (v u : Value), Ints W v D → Ints W u E → Calls Tryz.prog 16 #[.agg #[.int .i64 p, .int .i64 a, .int .i64 b, v], .agg #[.int .i64 p, .int .i64 l, .int .i64 b, u]] W (RetBool W R) from fun W v u hv hu => by have := l1Equal_any p a b p l b v u D E W hv hu; rwa [← HR.out] at this)
    clear hR b0 kD kR k4 k5 k6 hl hE hab k1 k2
    obtain ⟨z0, z1, z2, z3⟩ := h1.box4 0 rfl
    go_enter Tryz.func59, Tryz.ntmps59
    go_wp2
    go_region_held3 (fun w' => w'.cell? ⟨w.heap.size, 0, none⟩ = some (.int .i64 p) ∧ w'.cell? ⟨w.heap.size, 1, none⟩ = some (.int .i64 a) ∧ w'.cell? ⟨w.heap.size, 2, none⟩ = some (.int .i64 b) ∧ w'.cell? ⟨w.heap.size, 3, none⟩ = some (.slice A D.length k))
      (first | exact ⟨z0, z1, z2, z3⟩ | exact ⟨za0, za1, za2, za3⟩ | exact ⟨zb0, zb1, zb2, zb3⟩ | exact ⟨zc0, zc1, zc2, zc3⟩)
      (first
        | (go_at_call 101; refine (HA.out _ ?_).mono ?_; exact h1.drew.roInts 1 rfl; rintro (e : Ending) w1 ⟨rfl, hb1⟩; have h2 := h1.drew.on hb1; obtain ⟨za0, za1, za2, za3⟩ := h2.box4 0 rfl)
        | (go_at_call 61; refine (HS.out _ (h2.roInts 1 rfl)).mono ?_; rintro (e : Ending) w2 ⟨u, rfl, ho2, hb2⟩; obtain ⟨A6, n6, c6, rfl⟩ := ho2.slice; have h3 := h2.pushOwn hb2 ho2; obtain ⟨zb0, zb1, zb2, zb3⟩ := h3.box4 1 rfl)
        | (go_at_call 16; refine (HL.out _ _ _ (h3.roInts 2 rfl) (h3.ownInts 0 rfl)).mono ?_; rintro (e : Ending) w3 ⟨rfl, hb3⟩; have h4 := h3.on hb3; obtain ⟨zc0, zc1, zc2, zc3⟩ := h4.box4 1 rfl))
    go_wp2
    go_ret
    exact ⟨rfl, h4.below⟩
  · have b0 : matOk p r c D = false := by simpa using b0
    have HA := Lib.hid (show ∀ W, Ints W (.slice A D.length k) D → Calls Tryz.prog 101 #[.agg #[.int .i64 p, .int .i64 r, .int .i64 c, .slice A D.length k]] W (RetBool W false) from fun W hi => by have := MatrixOkS_any p r c _ D W hi hp; rwa [b0] at this)
    rw [show spaceOk p r c D = false by rw [spaceOk, b0, Bool.false_and]]
    clear b0
    obtain ⟨z0, z1, z2, z3⟩ := h1.box4 0 rfl
    go_enter Tryz.func59, Tryz.ntmps59
    go_wp2
    refine h1.region_all (by kernel_rfl) (by kernel_rfl) ?_
    iterate 1
      apply wpQuiet_op
      · exact rfl
      · intro w' hC
        obtain ⟨z0, z1, z2, z3⟩ := hC.box4 0 rfl
        unfold Oper.quietAt
        go_simp
        first | exact rfl | exact ⟨rfl, rfl⟩
      go_simp
    apply wpQuiet_op
    · exact rfl
    · intro w' hC
      unfold Oper.quietAt
      go_simp
      exact (HA.out w' (hC.roInts 1 rfl)).mono fun e w'' hh => ⟨hh.1, hC.on hh.2⟩
    go_simp
    repeat
      first
        | go_big_quiet_skip
        | (go_big_quiet_want; go_big_quiet_op; first | go_big_quiet_on | (refine ⟨_, fun _ _ => rfl, ?_⟩; go_big_quiet_on))
    refine wpQuiet_nil ?_
    intro wn hC
    go_wp2
    go_ret
    exact ⟨rfl, hC.below⟩
end
section
open Go.RowKit
set_option maxHeartbeats 4000000 in
theorem SpaceOkI_any (p r c : Int) (t : Value) (D : List Int) (w : World) (ht : Ints w t D) (hp : p ≤ 9223372036854775807) : Calls Tryz.prog 77 #[.agg #[.int .i64 p, .int .i64 r, .int .i64 c, t]] w (RetBool w (spaceOk p r c D)) := by
  have h1 := ((St.start w).arg ht).box [.int .i64 p, .int .i64 r, .int .i64 c, t] 32
  obtain ⟨A, k, rfl, _, _, _⟩ := id ht
  clear ht
  by_cases b0 : matOk p r c D = true
  · obtain ⟨a, b, rfl, rfl, k1, k2, kD, kR, k4, k5, k6⟩ := matOk_spec b0
    have hab := mul_le k1 k2
    obtain ⟨R, hR⟩ : ∃ R, R = spaceOk p a b D := ⟨_, rfl⟩
    rw [← hR]
    have hWr := Wf_rowsM (p := p) (by omega) (r := a) (c := b) kR
    have hSW := hWr.spanL k6
    have hle := spanL_le k6 hWr
    rw [length_rowsM] at hle
    have hle2 := Nat.mul_le_mul_right b hle
    have hM := fun (W : World) (v : Value) (hi : IntRows W v (spanL p b (rowsM a b D))) => matrixOf_any p b v (spanL p b (rowsM a b D)) W hi (by rw [total_wf hSW]; omega)
    rw [show (spanL p b (rowsM a b D)).flatten = spanM p b (rowsM a b D) from (flat_flatten hSW).symm] at hM
    have hS := fun (W : World) (v : Value) (hi : IntRows W v (rowsM a b D)) => span_any p b v (rowsM a b D) W hi hWr (by rw [length_rowsM]; omega) (by omega) k6
    have hQ := fun (W : World) (hi : Ints W (.slice A D.length k) D) => rowsOf_any p a b _ D W hi kD (by omega) (by omega)
    obtain ⟨Q, hQe⟩ : ∃ Q, Q = spanL p b (rowsM a b D) := ⟨_, rfl⟩
    obtain ⟨E, hE⟩ : ∃ E, E = spanM p b (rowsM a b D) := ⟨_, rfl⟩
    have HR : Hid (R = decide (E = D ∧ Q.length = a)) := by
      show _ = _
      rw [hR, spaceOk, b0, Bool.true_and, Int.toNat_natCast, Int.toNat_natCast, ← hQe, ← hE]
    rw [← hQe] at hM hS
    rw [← hE] at hM
    have HM := Lib.hid hM
    have HS := Lib.hid hS
    have HQ := Lib.hid hQ
    have HA := Lib.hid (fun W (hi : Ints W (.slice A D.length k) D) => b0 ▸ MatrixOkI_any p a b _ D W hi hp)
    clear hM hS hQ hR b0 kD kR k4 k5 k6 hQe hE hab k1 k2 hWr hSW hle hle2
    obtain ⟨z0, z1, z2, z3⟩ := h1.box4 0 rfl
    have tk1 : True := trivial
    have tk2 : True := trivial
    by_cases he : E = D
    · have HEq := Lib.hid (fun W (v u : Value) (hv : Ints W v E) (hu : Ints W u D) => (decide_eq_true he) ▸ Equal_any v u E D W hv hu)
      go_enter Tryz.func77, Tryz.ntmps77
      go_wp2
      go_region_held3 (fun w' => w'.cell? ⟨w.heap.size, 0, none⟩ = some (.int .i64 p) ∧ w'.cell? ⟨w.heap.size, 1, none⟩ = some (.int .i64 a) ∧ w'.cell? ⟨w.heap.size, 2, none⟩ = some (.int .i64 b) ∧ w'.cell? ⟨w.heap.size, 3, none⟩ = some (.slice A D.length k))
        (first | exact ⟨z0, z1, z2, z3⟩ | exact ⟨za0, za1, za2, za3⟩ | exact ⟨zb0, zb1, zb2, zb3⟩ | exact ⟨zc0, zc1, zc2, zc3⟩ | exact ⟨zd0, zd1, zd2, zd3⟩ | exact ⟨ze0, ze1, ze2, ze3⟩ | exact ⟨zf0, zf1, zf2, zf3⟩ | exact ⟨zg0, zg1, zg2, zg3⟩)
        (first
          | (go_at_call 112; refine (HA.out _ ?_).mono ?_; exact h1.drew.roInts 1 rfl; rintro (e : Ending) w1 ⟨rfl, hb1⟩; have h2 := h1.drew.on hb1; obtain ⟨za0, za1, za2, za3⟩ := h2.box4 0 rfl)
          | (go_at_call 46; have _t := tk1; refine (HQ.out _ (h2.roInts 1 rfl)).mono ?_; rintro (e : Ending) w2 ⟨u, us2, rfl, hul2, hok2, hnd2, hb2⟩; have h3 := h2.pushRows hb2 hok2 hnd2; obtain ⟨zb0, zb1, zb2, zb3⟩ := h3.box4 1 rfl; clear tk1 _t)
          | (go_at_call 88; have _t := tk2; refine (HS.out _ _ (h3.rowsR 0 rfl hul2)).mono ?_; rintro (e : Ending) w3 ⟨u, us3, rfl, hul3, hok3, hnd3, hb3⟩; have h4 := h3.pushRows hb3 hok3 hnd3; obtain ⟨zc0, zc1, zc2, zc3⟩ := h4.box4 2 rfl; clear tk2 _t)
          | (go_at_call 82; refine (HM.out _ _ (h4.rowsR 0 rfl hul3)).mono ?_; rintro (e : Ending) w4 ⟨u, rfl, ho4, hb4⟩; obtain ⟨A5, n5, c5, rfl⟩ := ho4.slice; have hfd := fieldM3 p Q.length b A5 n5 c5; have h5 := h4.pushOwn hb4 ho4; obtain ⟨zd0, zd1, zd2, zd3⟩ := h5.box4 3 rfl)
          | (go_at_call 27; refine (HEq.out _ _ _ (h5.ownInts 0 rfl) (h5.roInts 4 rfl)).mono ?_; rintro (e : Ending) w5 ⟨rfl, nd, rfl⟩; have h6 := h5.drewN nd; obtain ⟨ze0, ze1, ze2, ze3⟩ := h6.box4 3 rfl)
          | (go_at_call 46; refine (HQ.out _ (h6.roInts 4 rfl)).mono ?_; rintro (e : Ending) w6 ⟨u, us6, rfl, hul6, hok6, hnd6, hb6⟩; have h7 := h6.pushRows hb6 hok6 hnd6; obtain ⟨zf0, zf1, zf2, zf3⟩ := h7.box4 4 rfl)
          | (go_at_call 88; refine (HS.out _ _ (h7.rowsR 0 rfl hul6)).mono ?_; rintro (e : Ending) w7 ⟨u, us7, rfl, hul7, hok7, hnd7, hb7⟩; obtain ⟨A7, c7, rfl, _, _, _⟩ := id (It.rows hok7 hul7); have h8 := h7.pushRows hb7 hok7 hnd7; obtain ⟨zg0, zg1, zg2, zg3⟩ := h8.box4 5 rfl))
      go_wp2
      go_ret
      exact ⟨ret_bool (by rw [HR.out]; by_cases e : Q.length = a <;> simp [e, he]; try omega), h8.below⟩
    · have HEq := Lib.hid (fun W (v u : Value) (hv : Ints W v E) (hu : Ints W u D) => show Calls Tryz.prog 27 #[v, u] W (fun e w' => e = .returned (.bool false) ∧ ∃ n, w' = W.drewN n) by have := Equal_any v u E D W hv hu; rwa [decide_eq_false he] at this)
      have HF := Lib.hid (show R = false by rw [HR.out]; simp [he])
      go_enter Tryz.func77, Tryz.ntmps77
      go_wp2
      refine wp_region_held_drew (S := fun w' => w'.cell? ⟨w.heap.size, 0, none⟩ = some (.int .i64 p) ∧ w'.cell? ⟨w.heap.size, 1, none⟩ = some (.int .i64 a) ∧ w'.cell? ⟨w.heap.size, 2, none⟩ = some (.int .i64 b) ∧ w'.cell? ⟨w.heap.size, 3, none⟩ = some (.slice A D.length k)) (by kernel_rfl) (h1.drew.box4 0 rfl) (fun hHeld => ?_)
      have g1 := h1.drew
      refine tkA 0 hHeld ?_
      refine rcA 1 fun K hK => ?_
      go_simp
      refine (HA.out _ (g1.roInts 1 rfl)).mono ?_
      rintro (e : Ending) w1 ⟨rfl, hb1⟩
      have h2 := g1.on hb1
      show K _ _
      refine outA hK ?_ fun hHeld => ?_
      · exact h2.box4 0 rfl
      clear hK K
      refine tkA 2 hHeld ?_
      refine tkA 3 hHeld ?_
      refine tkA 4 hHeld ?_
      refine tkA 5 hHeld ?_
      refine tkA 6 hHeld ?_
      refine tkA 7 hHeld ?_
      refine tkA 9 hHeld ?_
      refine tkA 10 hHeld ?_
      refine tkA 11 hHeld ?_
      refine tkA 12 hHeld ?_
      refine tkA 16 hHeld ?_
      refine tkA 17 hHeld ?_
      refine rcA 8 fun K hK => ?_
      go_simp
      refine (HQ.out _ (h2.roInts 1 rfl)).mono ?_
      rintro (e : Ending) w2 ⟨u, us2, rfl, hul2, hok2, hnd2, hb2⟩
      have h3 := h2.pushRows hb2 hok2 hnd2
      show K _ _
      refine outA hK ?_ fun hHeld => ?_
      · exact h3.box4 1 rfl
      clear hK K
      refine rcA 13 fun K hK => ?_
      go_simp
      refine (HS.out _ _ (h3.rowsR 0 rfl hul2)).mono ?_
      rintro (e : Ending) w3 ⟨u3, us3, rfl, hul3, hok3, hnd3, hb3⟩
      have h4 := h3.pushRows hb3 hok3 hnd3
      show K _ _
      refine outA hK ?_ fun hHeld => ?_
      · exact h4.box4 2 rfl
      clear hK K
      refine rcA 14 fun K hK => ?_
      go_simp
      refine (HM.out _ _ (h4.rowsR 0 rfl hul3)).mono ?_
      rintro (e : Ending) w4 ⟨u4, rfl, ho4, hb4⟩
      obtain ⟨A5, n5, c5, rfl⟩ := ho4.slice
      have hfd := fieldM3 p Q.length b A5 n5 c5
      have h5 := h4.pushOwn hb4 ho4
      show K _ _
      refine outA hK ?_ fun hHeld => ?_
      · exact h5.box4 3 rfl
      clear hK K
      refine tkA 15 hHeld ?_
      refine rcA 18 fun K hK => ?_
      go_simp
      refine (HEq.out _ _ _ (h5.ownInts 0 rfl) (h5.roInts 4 rfl)).mono ?_
      rintro (e : Ending) w5 ⟨rfl, nd, rfl⟩
      have h6 := h5.drewN nd
      show K _ _
      refine outA hK ?_ fun hHeld => ?_
      · exact h6.box4 3 rfl
      clear hK K
      refine tkA 19 hHeld ?_
      refine tkA 20 hHeld ?_
      refine skA 21 hHeld ?_
      refine skA 22 hHeld ?_
      refine skA 23 hHeld ?_
      refine skA 24 hHeld ?_
      refine skA 25 hHeld ?_
      refine skA 26 hHeld ?_
      refine skA 27 hHeld ?_
      refine skA 28 hHeld ?_
      refine skA 29 hHeld ?_
      refine skA 30 hHeld ?_
      refine skA 31 hHeld ?_
      refine tkA 32 hHeld ?_
      refine tkA 33 hHeld ?_
      refine wpAnyH_done (by kernel_rfl) ?_ _
      go_wp2
      go_ret
      exact ⟨ret_bool HF.out.symm, h6.below⟩
  · have b0 : matOk p r c D = false := by simpa using b0
    have HA := Lib.hid (show ∀ W, Ints W (.slice A D.length k) D → Calls Tryz.prog 112 #[.agg #[.int .i64 p, .int .i64 r, .int .i64 c, .slice A D.length k]] W (RetBool W false) from fun W hi => by have := MatrixOkI_any p r c _ D W hi hp; rwa [b0] at this)
    rw [show spaceOk p r c D = false by rw [spaceOk, b0, Bool.false_and]]
    clear b0
    obtain ⟨z0, z1, z2, z3⟩ := h1.box4 0 rfl
    go_enter Tryz.func77, Tryz.ntmps77
    go_wp2
    refine wp_region_held_drew (S := fun w' => w'.cell? ⟨w.heap.size, 0, none⟩ = some (.int .i64 p) ∧ w'.cell? ⟨w.heap.size, 1, none⟩ = some (.int .i64 r) ∧ w'.cell? ⟨w.heap.size, 2, none⟩ = some (.int .i64 c) ∧ w'.cell? ⟨w.heap.size, 3, none⟩ = some (.slice A D.length k)) (by kernel_rfl) (h1.drew.box4 0 rfl) (fun hHeld => ?_)
    have g1 := h1.drew
    refine tkA 0 hHeld ?_
    refine rcA 1 fun K hK => ?_
    go_simp
    refine (HA.out _ (g1.roInts 1 rfl)).mono ?_
    rintro (e : Ending) w1 ⟨rfl, hb1⟩
    have h2 := g1.on hb1
    show K _ _
    refine outA hK ?_ fun hHeld => ?_
    · exact h2.box4 0 rfl
    clear hK K
    refine tkA 2 hHeld ?_
    refine skA 3 hHeld ?_
    refine skA 4 hHeld ?_
    refine skA 5 hHeld ?_
    refine skA 6 hHeld ?_
    refine skA 7 hHeld ?_
    refine skA 8 hHeld ?_
    refine skA 9 hHeld ?_
    refine skA 10 hHeld ?_
    refine skA 11 hHeld ?_
    refine skA 12 hHeld ?_
    refine skA 13 hHeld ?_
    refine skA 14 hHeld ?_
    refine skA 15 hHeld ?_
    refine skA 16 hHeld ?_
    refine skA 17 hHeld ?_
    refine skA 18 hHeld ?_
    refine tkA 19 hHeld ?_
    refine tkA 20 hHeld ?_
    refine skA 21 hHeld ?_
    refine skA 22 hHeld ?_
    refine skA 23 hHeld ?_
    refine skA 24 hHeld ?_
    refine skA 25 hHeld ?_
    refine skA 26 hHeld ?_
    refine skA 27 hHeld ?_
    refine skA 28 hHeld ?_
    refine skA 29 hHeld ?_
    refine skA 30 hHeld ?_
    refine skA 31 hHeld ?_
    refine tkA 32 hHeld ?_
    refine tkA 33 hHeld ?_
    refine wpAnyH_done (by kernel_rfl) ?_ _
    go_wp2
    go_ret
    exact ⟨rfl, h2.below⟩
end
section
open Go.RowKit
def subOk (p n : Int) (T : List Int) (q r c : Int) (D : List Int) : Bool := algOk p n T && spaceOk q r c D && decide (q = p) && decide (c = n)
theorem subOk_spec {p n q r c : Int} {T D : List Int} (h : subOk p n T q r c D = true) : algOk p n T = true ∧ spaceOk q r c D = true ∧ q = p ∧ c = n := by
 simp only [subOk, Bool.and_eq_true, decide_eq_true_eq] at h
 exact ⟨h.1.1.1, h.1.1.2, h.1.2, h.2⟩
theorem spaceOk_mat {p r c : Int} {D : List Int} (h : spaceOk p r c D = true) : matOk p r c D = true := by
 simp only [spaceOk, Bool.and_eq_true] at h
 exact h.1
set_option maxHeartbeats 2000000 in
theorem l2Space_any (p n q r c : Int) (t u : Value) (T D : List Int) (w : World) (ht : Ints w t T) (hu : Ints w u D) (hp : p ≤ 9223372036854775807) (hq : q ≤ 9223372036854775807) :
  Calls Tryz.prog 30 #[.agg #[.int .i64 p, .int .i64 n, t], .agg #[.int .i64 q, .int .i64 r, .int .i64 c, u]] w (RetBool w (subOk p n T q r c D)) := by
 have h1 := ((((St.start w).arg ht).arg hu).box [.int .i64 p, .int .i64 n, t] 30).box [.int .i64 q, .int .i64 r, .int .i64 c, u] 32
 simp only [World.size_alloc] at h1
 obtain ⟨A, k, rfl, _, _, _⟩ := id ht
 obtain ⟨A2, k2, rfl, _, _, _⟩ := id hu
 clear ht hu
 obtain ⟨y0, y1, y2⟩ := h1.box3 1 rfl
 by_cases b1 : algOk p n T = true
 ·go_enter Tryz.func30, Tryz.ntmps30
  go_wp2_with fail
  refine (AlgebraOkS_any p n _ T _ (h1.roInts 3 rfl)).mono ?_
  rintro (e : Ending) w1 ⟨rfl, hb1⟩
  replace h1 := h1.on hb1
  clear hb1 y0 y1 y2
  obtain ⟨z0, z1, z2, z3⟩ := h1.box4 0 rfl
  go_wp2_with fail
  refine (SpaceOkS_any q r c _ D _ (h1.roInts 2 rfl) hq).mono ?_
  rintro (e : Ending) w2 ⟨rfl, hb1⟩
  replace h1 := h1.on hb1
  clear hb1 z0 z1 z2 z3
  obtain ⟨z0, z1, z2, z3⟩ := h1.box4 0 rfl
  obtain ⟨y0, y1, y2⟩ := h1.box3 1 rfl
  by_cases b2 : spaceOk q r c D = true
  ·rw [b2]
   by_cases b3 : q = p
   ·subst b3
    by_cases b4 : c = n
    ·subst b4
     go_wp2
     go_ret
     exact ⟨ret_bool (by simp [subOk, b1, b2]), h1.below⟩
    ·have e4 : (c == n) = false := by rw [beq_eq_false_iff_ne]; exact b4
     go_wp2
     go_ret
     exact ⟨ret_bool (by simp [subOk, b4]), h1.below⟩
   ·have e3 : (q == p) = false := by rw [beq_eq_false_iff_ne]; exact b3
    go_wp2
    go_ret
    exact ⟨ret_bool (by simp [subOk, b3]), h1.below⟩
  ·have b2 : spaceOk q r c D = false := by simpa using b2
   rw [b2]
   go_wp2
   go_ret
   exact ⟨ret_bool (by simp [subOk, b2]), h1.below⟩
 ·have b1 : algOk p n T = false := by simpa using b1
  rw [show subOk p n T q r c D = false by simp [subOk, b1]]
  go_enter Tryz.func30, Tryz.ntmps30
  go_wp2_with fail
  refine (AlgebraOkS_any p n _ T _ (h1.roInts 3 rfl)).mono ?_
  rintro (e : Ending) w1 ⟨rfl, hb1⟩
  replace h1 := h1.on hb1
  clear hb1 y0 y1 y2
  go_wp2
  go_ret
  exact ⟨rfl, h1.below⟩
set_option maxHeartbeats 2000000 in
theorem isSubspaceOf_any (p n q r c : Int) (t u : Value) (T D : List Int) (w : World) (ht : Ints w t T) (hu : Ints w u D) (hp : p ≤ 9223372036854775807) (hq : q ≤ 9223372036854775807) :
  Calls Tryz.prog 43 #[.agg #[.int .i64 p, .int .i64 n, t], .agg #[.int .i64 q, .int .i64 r, .int .i64 c, u]] w (RetBool w (subOk p n T q r c D)) := by
 have h1 := ((((St.start w).arg ht).arg hu).box [.int .i64 p, .int .i64 n, t] 30).box [.int .i64 q, .int .i64 r, .int .i64 c, u] 32
 simp only [World.size_alloc] at h1
 obtain ⟨A, k, rfl, _, _, _⟩ := id ht
 obtain ⟨A2, k2, rfl, _, _, _⟩ := id hu
 clear ht hu
 obtain ⟨y0, y1, y2⟩ := h1.box3 1 rfl
 by_cases b1 : algOk p n T = true
 ·go_enter Tryz.func43, Tryz.ntmps43
  go_wp2_with fail
  refine (AlgebraOkI_any p n _ T _ (h1.roInts 3 rfl) hp).mono ?_
  rintro (e : Ending) w1 ⟨rfl, hb1⟩
  replace h1 := h1.on hb1
  clear hb1 y0 y1 y2
  obtain ⟨z0, z1, z2, z3⟩ := h1.box4 0 rfl
  go_wp2_with fail
  refine (SpaceOkI_any q r c _ D _ (h1.roInts 2 rfl) hq).mono ?_
  rintro (e : Ending) w2 ⟨rfl, hb1⟩
  replace h1 := h1.on hb1
  clear hb1 z0 z1 z2 z3
  obtain ⟨z0, z1, z2, z3⟩ := h1.box4 0 rfl
  obtain ⟨y0, y1, y2⟩ := h1.box3 1 rfl
  by_cases b2 : spaceOk q r c D = true
  ·rw [b2]
   by_cases b3 : q = p
   ·subst b3
    by_cases b4 : c = n
    ·subst b4
     go_wp2
     go_ret
     exact ⟨ret_bool (by simp [subOk, b1, b2]), h1.below⟩
    ·have e4 : (c == n) = false := by rw [beq_eq_false_iff_ne]; exact b4
     go_wp2
     go_ret
     exact ⟨ret_bool (by simp [subOk, b4]), h1.below⟩
   ·have e3 : (q == p) = false := by rw [beq_eq_false_iff_ne]; exact b3
    go_wp2
    go_ret
    exact ⟨ret_bool (by simp [subOk, b3]), h1.below⟩
  ·have b2 : spaceOk q r c D = false := by simpa using b2
   rw [b2]
   go_wp2
   go_ret
   exact ⟨ret_bool (by simp [subOk, b2]), h1.below⟩
 ·have b1 : algOk p n T = false := by simpa using b1
  rw [show subOk p n T q r c D = false by simp [subOk, b1]]
  go_enter Tryz.func43, Tryz.ntmps43
  go_wp2_with fail
  refine (AlgebraOkI_any p n _ T _ (h1.roInts 3 rfl) hp).mono ?_
  rintro (e : Ending) w1 ⟨rfl, hb1⟩
  replace h1 := h1.on hb1
  clear hb1 y0 y1 y2
  go_wp2
  go_ret
  exact ⟨rfl, h1.below⟩
end
end
section
section
open Go.RowKit
theorem flat_app {p : Int} {n : Nat} {R S : List (List Int)} (h1 : Wf p n R) (h2 : Wf p n S) : flat n (R ++ S) = flat n R ++ flat n S := by
 rw [flat_flatten (h1.app h2), flat_flatten h1, flat_flatten h2, List.flatten_append]
theorem rowsM_app {p : Int} {n : Nat} {R S : List (List Int)} (h1 : Wf p n R) (h2 : Wf p n S) : rowsM (R.length + S.length) n (flat n R ++ flat n S) = R ++ S := by
 rw [← flat_app h1 h2, ← List.length_append]; exact rowsM_flat (h1.app h2)
theorem resid_app {p : Int} {D E : List Int} (h1 : resid p D = true) (h2 : resid p E = true) : resid p (D ++ E) = true :=
 resid_iff.2 fun q hq => by
  rw [List.length_append] at hq
  by_cases h : q < D.length
  ·rw [show vec (D ++ E) q = vec D q by simp [vec, List.getD_eq_getElem?_getD, List.getElem?_append_left h]]
   exact resid_vec h1 h
  ·rw [show vec (D ++ E) q = vec E (q - D.length) by simp [vec, List.getD_eq_getElem?_getD, List.getElem?_append_right (show D.length ≤ q by omega)]]
   exact resid_vec h2 (by omega)
theorem step_append_ints {ops : Array Oper} {o : Oper} {a : Act} {K : Act → World → Prop} {Q : Exit → Act → World → Prop} {E : Prop} (hgd : o.guard = none) (s x : Operand)
  (ho : o.op = .call { callee := .builtin .append, args := #[s, x], argTypes := #[22, 22] }) {w0 w : World} {L : List It} (h : St w0 w L) (i : Nat) {v u : Value} {xs ys : List Int} (hi : L[i]? = some (.own v xs)) (hu : Ints w u ys) (hlen : xs.length + ys.length ≤ 17592186044416)
  (hs : a.eval s = v) (hx : a.eval x = u)
  (hk : ∀ v' w', St w0 w' (L.set i (.own v' (xs ++ ys))) → K (a.put o.dst v') w') :
  if Region.wanted o (yielded ops a.tmps) = true then Oper.wp Tryz.prog o a w K Q else E := by
 have hw : Region.wanted o (yielded ops a.tmps) = true := by simp [Region.wanted, hgd]
 rw [if_pos hw]
 obtain ⟨v', w', hr, k1, k2, k3⟩ := run_append_ints w0.heap.size o.type v u xs ys w (h.own i hi) hu hlen h.size
 unfold Oper.wp execOp
 simp only [ho, resolve, invoke, builtin, Sem.run_bind, Sem.run_pure, Result.andThen_ok, List.map_toArray, List.map_cons, List.map_nil, hs, hx, hr]
 exact hk _ _ (h.appended i hi k1 k2 k3)
end
end
end Go.Proofs.YtbnefjhljfbecaaGreatDoor
