/- The rank of a matrix, in the reference: RankOf. -/
import Derived.Test.YtechjmckfedblaaSolS
namespace Go.Proofs.Ytechjmckfedblaa
set_option maxRecDepth 100000
open Go.RowKit

/-- The rank. -/
def rankL (p : Int) (n : Nat) (S : List (List Int)) : Nat := (pivL p n S).length
set_option maxHeartbeats 1000000 in
theorem RankOf_any (p : Int) (r c : Nat) (t : Value) (D : List Int) (w : World) (ht : Ints w t D) (hM : matOk p r c D = true) :
    Calls Try.prog 56 #[.agg #[.int .i64 p, .int .i64 r, .int .i64 c, t]] w fun e w' => e = .returned (.int .i64 (rankL p c (rowsM r c D))) ∧ Below w.heap.size w w' := by
  obtain ⟨a, b, ea, eb, k1, k2, kD, kR, k3, k4, k5⟩ := matOk_spec hM
  have ea' : r = a := by omega
  have eb' : c = b := by omega
  subst ea' eb'
  have h1 := (St.start1 ht).box [.int .i64 p, .int .i64 r, .int .i64 c, t] 32
  have hp9 : p ≤ 9223372036854775807 := by omega
  obtain ⟨A, k0, rfl, _, _, _⟩ := id ht
  have hb := mul_le k1 k2
  have hRd := fun (W : World) (v : Value) (x1 : Ints W v D) => l1Reduce_any p r c v D W x1 kD (by omega) (by omega) (by omega) k5 kR
  obtain ⟨Rd, hRd'⟩ : ∃ Rd, Rd = (reduceL p c (rowsM r c D)).1 := ⟨_, rfl⟩
  obtain ⟨piv, hpiv⟩ : ∃ piv, piv = (reduceL p c (rowsM r c D)).2 := ⟨_, rfl⟩
  rw [← hRd', ← hpiv] at hRd
  rw [show rankL p c (rowsM r c D) = piv.length by rw [hpiv]; rfl]
  have HRd := Lib.hid hRd
  have HM := Lib.hid hM
  clear ht kD kR hb hRd hRd' hpiv ea eb hM
  obtain ⟨z0, z1, z2, z3⟩ := h1.box4 0 rfl
  go_enter Try.func56, Try.ntmps56
  go_wp2_with fail
  refine (MatrixOkS_any p r c _ D _ (h1.roInts 1 rfl) hp9).mono ?_
  rintro (e : Ending) w1 ⟨rfl, hb1⟩
  replace h1 := h1.on hb1
  rw [HM.out]
  clear hb1 z0 z1 z2 z3
  obtain ⟨z0, z1, z2, z3⟩ := h1.box4 0 rfl
  go_wp2_with fail
  refine (HRd.out _ _ (h1.roInts 1 rfl)).mono ?_
  rintro (e : Ending) w2 ⟨u, vp, det, rfl, h2⟩
  replace h1 := h1.pushTwo h2
  clear h2 z0 z1 z2 z3
  obtain ⟨A6, c6, rfl, _, _, _⟩ := id (h1.ownInts 0 rfl)
  obtain ⟨A7, c7, rfl, _, _, _⟩ := id (h1.ownInts 1 rfl)
  rw [length_pivI] at h1 ⊢
  have h3 := (h1.box [.int .i64 p, .int .i64 r, .int .i64 c, .slice A7 (flat c Rd).length c7] 32)
  clear h1
  go_wp2
  go_ret
  exact ⟨rfl, h3.below⟩

theorem sp_all {p : Int} (hP : isPrime p = true) {n : Nat} {S : List (List Int)} (hS : Wf p n S) (h : (pivL p n S).length = n) (f : Nat → Int) : Sp p n S f := by
  have hp := (isPrime_bd hP).1
  have hrf := spanL_rf hP hS
  have e := hrf.eq_len hp (Rf_uniR hp n) (fun _ _ => sp_uniR _ _ _) (by rw [length_uniR, hrf.len, h]; exact Nat.le_refl _)
  have h1 : Sp p n (spanL p n S) f := by rw [e]; exact sp_uniR _ _ _
  exact h1.trans (spanL_in hP hS)
theorem rankL_le {p : Int} (hP : isPrime p = true) {n : Nat} {S : List (List Int)} (hS : Wf p n S) : rankL p n S ≤ n := by
  have hrf := spanL_rf hP hS
  have := rf_le_n (isPrime_bd hP).1 hrf
  rw [hrf.len] at this
  exact this
end Go.Proofs.Ytechjmckfedblaa
