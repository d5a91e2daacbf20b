/- IsPerfect of the program and of the reference. IsPerfect of the program. -/
import Derived.Test.YtngmepodgbhbpaaProduct2
import Derived.Test.YtngmepodgbhbpaaUnitM
import Derived.Test.YtngmepodgbhbpaaRowsW2
namespace Go.Proofs.Ytngmepodgbhbpaa
set_option maxRecDepth 100000
section
open Go.RowKit

/-- The derived algebra's rows. -/
def derRows (p : Int) (n : Nat) (T : List Int) : List (List Int) := prodL T n p n (unitD n) n (unitD n)
def perfOk (p n : Int) (T : List Int) : Bool := algOk p n T && decide ((spanL p n.toNat (derRows p n.toNat T)).length = n.toNat)

set_option maxHeartbeats 4000000 in
theorem IsPerfectS_any (p n : Int) (t : Value) (T : List Int) (w : World) (ht : Ints w t T) : Calls Try.prog 43 #[.agg #[.int .i64 p, .int .i64 n, t]] w (RetBool w (perfOk p n T)) := by
  have h1 := ((St.start w).arg ht).box [.int .i64 p, .int .i64 n, t] 27
  obtain ⟨A, k, rfl, _, _, _⟩ := id ht
  clear ht
  by_cases b0 : algOk p n T = true
  · obtain ⟨m, rfl, k1, kT, k3, k4, k5, k6⟩ := algOk_spec b0
    obtain ⟨R, hR⟩ : ∃ R, R = perfOk p m T := ⟨_, rfl⟩
    rw [← hR]
    have HR : Hid (R = decide ((spanL p m (derRows p m T)).length = m)) := by show _ = _; rw [hR, perfOk, b0, Bool.true_and, Int.toNat_natCast]
    have HA := Lib.hid (fun W (hi : Ints W (.slice A T.length k) T) => b0 ▸ AlgebraOkS_any p m _ T W hi)
    have HU := Lib.hid (fun W => l2All_any p m A T.length k W k6 (by omega))
    have HP := Lib.hid (fun W (u v : Value) (hi : Ints W (.slice A T.length k) T) (hu : Ints W u (unitD m)) (hv : Ints W v (unitD m)) => l2Product_any p p p m m m _ u v T (unitD m) (unitD m) W hi hu hv kT (length_unitD m) (length_unitD m) k1 (by omega) (by omega) k6 k3 (resid_unitD k4 m) (resid_unitD k4 m))
    obtain ⟨l, hl⟩ : ∃ l, l = (spanL p m (derRows p m T)).length := ⟨_, rfl⟩
    change Hid (∀ W u v, Ints W (.slice A T.length k) T → Ints W u (unitD m) → Ints W v (unitD m) → Calls Try.prog 96 _ W (RetMat W p (spanL p m (derRows p m T)).length m (spanM p m (derRows p m T)))) at HP
    rw [← hl] at HR HP
    clear hR b0 kT k3 k4 k5 k6 hl
    obtain ⟨z0, z1, z2⟩ := h1.box3 0 rfl
    have tk1 : True := trivial
    go_enter Try.func43, Try.ntmps43
    go_wp2
    go_region_held3 (fun w' => w'.cell? ⟨w.heap.size, 0, none⟩ = some (.int .i64 p) ∧ w'.cell? ⟨w.heap.size, 1, none⟩ = some (.int .i64 m) ∧ w'.cell? ⟨w.heap.size, 2, none⟩ = some (.slice A T.length k))
      (first | exact ⟨z0, z1, z2⟩ | exact ⟨za0, za1, za2⟩ | exact ⟨zb0, zb1, zb2⟩ | exact ⟨zc0, zc1, zc2⟩ | exact ⟨zd0, zd1, zd2⟩)
      (first
        | (go_at_call 59; refine (HA.out _ ?_).mono ?_; exact h1.drew.roInts 1 rfl; rintro (e : Ending) w1 ⟨rfl, hb1⟩; have h2 := h1.drew.on hb1; obtain ⟨za0, za1, za2⟩ := h2.box3 0 rfl)
        | (go_at_call 97; have _t := tk1; refine (HU.out _).mono ?_; rintro (e : Ending) w2 ⟨u, rfl, ho2, hb2⟩; obtain ⟨A6, c6, rfl, _, _, _⟩ := id ho2.ints; have h3 := h2.pushOwn hb2 ho2; obtain ⟨zb0, zb1, zb2⟩ := h3.box3 1 rfl; clear tk1 _t)
        | (go_at_call 97; refine (HU.out _).mono ?_; rintro (e : Ending) w3 ⟨u, rfl, ho3, hb3⟩; obtain ⟨A7, c7, rfl, _, _, _⟩ := id ho3.ints; have h4 := h3.pushOwn hb3 ho3; obtain ⟨zc0, zc1, zc2⟩ := h4.box3 2 rfl)
        | (go_at_call 96; refine (HP.out _ _ _ (h4.roInts 3 rfl) (h4.ownInts 1 rfl) (h4.ownInts 0 rfl)).mono ?_; rintro (e : Ending) w4 ⟨u, rfl, ho4, hb4⟩; obtain ⟨A8, n8, c8, rfl⟩ := ho4.slice; have hfd := fieldM1 p l m A8 n8 c8; have h5 := h4.pushOwn hb4 ho4; obtain ⟨zd0, zd1, zd2⟩ := h5.box3 3 rfl))
    go_wp2
    go_ret
    exact ⟨ret_bool (by rw [HR.out]; by_cases e : l = m <;> simp [e]; try omega), h5.below⟩
  · have b0 : algOk p n T = false := by simpa using b0
    have HA := Lib.hid (show ∀ W, Ints W (.slice A T.length k) T → Calls Try.prog 59 #[.agg #[.int .i64 p, .int .i64 n, .slice A T.length k]] W (RetBool W false) from fun W hi => by have := AlgebraOkS_any p n _ T W hi; rwa [b0] at this)
    rw [show perfOk p n T = false by rw [perfOk, b0, Bool.false_and]]
    clear b0
    obtain ⟨z0, z1, z2⟩ := h1.box3 0 rfl
    go_enter Try.func43, Try.ntmps43
    go_wp2
    refine h1.region_all (by kernel_rfl) (by kernel_rfl) ?_
    iterate 1
      apply wpQuiet_op
      · exact rfl
      · intro w' hC
        obtain ⟨z0, z1, z2⟩ := hC.box3 0 rfl
        unfold Oper.quietAt
        go_simp
        first | exact rfl | exact ⟨rfl, rfl⟩
      go_simp
    apply wpQuiet_op
    · exact rfl
    · intro w' hC
      unfold Oper.quietAt
      go_simp
      exact (HA.out w' (hC.roInts 1 rfl)).mono fun e w'' hh => ⟨hh.1, hC.on hh.2⟩
    go_simp
    repeat
      first
        | go_big_quiet_skip
        | (go_big_quiet_want; go_big_quiet_op; first | go_big_quiet_on | (refine ⟨_, fun _ _ => rfl, ?_⟩; go_big_quiet_on))
    refine wpQuiet_nil ?_
    intro wn hC
    go_wp2
    go_ret
    exact ⟨rfl, hC.below⟩
end
section
open Go.RowKit

set_option maxHeartbeats 4000000 in
theorem IsPerfectI_any (p n : Int) (t : Value) (T : List Int) (w : World) (ht : Ints w t T) (hp : p ≤ 9223372036854775807) : Calls Try.prog 44 #[.agg #[.int .i64 p, .int .i64 n, t]] w (RetBool w (perfOk p n T)) := by
  have h1 := ((St.start w).arg ht).box [.int .i64 p, .int .i64 n, t] 27
  obtain ⟨A, k, rfl, _, _, _⟩ := id ht
  clear ht
  by_cases b0 : algOk p n T = true
  · obtain ⟨m, rfl, k1, kT, k3, k4, k5, k6⟩ := algOk_spec b0
    obtain ⟨R, hR⟩ : ∃ R, R = perfOk p m T := ⟨_, rfl⟩
    rw [← hR]
    have HR : Hid (R = decide ((spanL p m (derRows p m T)).length = m)) := by show _ = _; rw [hR, perfOk, b0, Bool.true_and, Int.toNat_natCast]
    have HA := Lib.hid (fun W (hi : Ints W (.slice A T.length k) T) => b0 ▸ AlgebraOkI_any p m _ T W hi hp)
    have HU := Lib.hid (fun W => UnitMatrixI_any p m W k6 (by omega))
    have HP := Lib.hid (fun W (u v : Value) (hi : Ints W (.slice A T.length k) T) (hu : Ints W u (unitD m)) (hv : Ints W v (unitD m)) => product_any p p p m m m _ u v T (unitD m) (unitD m) W hi hu hv kT (length_unitD m) (length_unitD m) k1 (by omega) (by omega) k6 k3 (resid_unitD k4 m) (resid_unitD k4 m))
    obtain ⟨l, hl⟩ : ∃ l, l = (spanL p m (derRows p m T)).length := ⟨_, rfl⟩
    change Hid (∀ W u v, Ints W (.slice A T.length k) T → Ints W u (unitD m) → Ints W v (unitD m) → Calls Try.prog 99 _ W (RetMat W p (spanL p m (derRows p m T)).length m (spanM p m (derRows p m T)))) at HP
    rw [← hl] at HR HP
    clear hR b0 kT k3 k4 k5 k6 hl
    obtain ⟨z0, z1, z2⟩ := h1.box3 0 rfl
    go_enter Try.func44, Try.ntmps44
    go_wp2_with fail
    refine (HA.out _ (h1.roInts 1 rfl)).mono ?_
    rintro e wn ⟨rfl, hb1⟩
    replace h1 := h1.on hb1
    clear hb1
    clear z0 z1 z2
    obtain ⟨z0, z1, z2⟩ := h1.box3 0 rfl
    go_wp2_with fail
    refine (HU.out _).mono ?_
    rintro (e : Ending) w2 ⟨u, rfl, ho2, hb2⟩
    obtain ⟨A6, c6, rfl, _, _, _⟩ := id ho2.ints
    replace h1 := (h1.pushOwn hb2 ho2).box [.int .i64 p, .int .i64 m, .int .i64 m, .slice A6 (unitD m).length c6] 44
    clear ho2 hb2 z0 z1 z2
    obtain ⟨z0, z1, z2⟩ := h1.box3 2 rfl
    obtain ⟨y0, y1, y2, y3⟩ := h1.box4 0 rfl
    go_wp2
    go_region_held3 (fun w' => w'.cell? ⟨w.heap.size, 0, none⟩ = some (.int .i64 p) ∧ w'.cell? ⟨w.heap.size, 1, none⟩ = some (.int .i64 m) ∧ w'.cell? ⟨w.heap.size, 2, none⟩ = some (.slice A T.length k) ∧ w'.cell? ⟨w2.heap.size, 0, none⟩ = some (.int .i64 p) ∧ w'.cell? ⟨w2.heap.size, 1, none⟩ = some (.int .i64 m) ∧ w'.cell? ⟨w2.heap.size, 2, none⟩ = some (.int .i64 m) ∧ w'.cell? ⟨w2.heap.size, 3, none⟩ = some (.slice A6 (unitD m).length c6))
      (first | exact ⟨z0, z1, z2, y0, y1, y2, y3⟩ | exact ⟨za0, za1, za2, ya0, ya1, ya2, ya3⟩ | exact ⟨zb0, zb1, zb2, yb0, yb1, yb2, yb3⟩)
      (first
        | (go_at_call 64; refine (newLie_any p m _ _ _ _ _ rfl).mono ?_; rintro (e : Ending) w3 ⟨rfl, hb3⟩; have h2 := h1.drew.on hb3; obtain ⟨za0, za1, za2⟩ := h2.box3 2 rfl; obtain ⟨ya0, ya1, ya2, ya3⟩ := h2.box4 0 rfl)
        | (go_at_call 99; refine (HP.out _ _ _ (h2.roInts 3 rfl) (h2.ownInts 1 rfl) (h2.ownInts 1 rfl)).mono ?_; rintro (e : Ending) w4 ⟨u, rfl, ho4, hb4⟩; obtain ⟨A8, n8, c8, rfl⟩ := ho4.slice; have hfd := fieldM1 p l m A8 n8 c8; have h3 := h2.pushOwn hb4 ho4; obtain ⟨zb0, zb1, zb2⟩ := h3.box3 3 rfl; obtain ⟨yb0, yb1, yb2, yb3⟩ := h3.box4 1 rfl))
    go_wp2
    go_ret
    exact ⟨ret_bool (by rw [HR.out]; by_cases e : l = m <;> simp [e]; try omega), h3.below⟩
  · have b0 : algOk p n T = false := by simpa using b0
    have HA := Lib.hid (show ∀ W, Ints W (.slice A T.length k) T → Calls Try.prog 62 #[.agg #[.int .i64 p, .int .i64 n, .slice A T.length k]] W (RetBool W false) from fun W hi => by have := AlgebraOkI_any p n _ T W hi hp; rwa [b0] at this)
    rw [show perfOk p n T = false by rw [perfOk, b0, Bool.false_and]]
    clear b0
    obtain ⟨z0, z1, z2⟩ := h1.box3 0 rfl
    go_enter Try.func44, Try.ntmps44
    go_wp2_with fail
    refine (HA.out _ (h1.roInts 1 rfl)).mono ?_
    rintro e wn ⟨rfl, hb1⟩
    replace h1 := h1.on hb1
    clear hb1
    go_wp2
    go_ret
    exact ⟨rfl, h1.below⟩
end
end Go.Proofs.Ytngmepodgbhbpaa
