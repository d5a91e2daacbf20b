/- l2Image of the reference. -/
import Derived.Test.YtechjmckfedblaaRowsI
namespace Go.Proofs.Ytechjmckfedblaa
set_option maxRecDepth 100000
open Go.RowKit

def imM (X : List Int) (R : List (List Int)) (p : Int) (i q j : Nat) : Int := if j < q then combS X R p (i + 1) j else combS X R p i j
theorem imM_zero (X : List Int) (R : List (List Int)) (p : Int) (c i : Nat) : tab c (imM X R p i 0) = tab c (combS X R p i) := tab_congr fun j _ => by simp [imM]
theorem imM_end (X : List Int) (R : List (List Int)) (p : Int) (c i : Nat) : tab c (imM X R p i c) = tab c (combS X R p (i + 1)) := tab_congr fun j hj => by simp [imM, hj]
theorem imM_set (X : List Int) (R : List (List Int)) (p : Int) (c i q : Nat) : (tab c (imM X R p i q)).set q (combS X R p (i + 1) q) = tab c (imM X R p i (q + 1)) := by
  rw [tab_set]
  refine tab_congr fun k _ => ?_
  unfold imM
  by_cases e : k = q
  · subst e; rw [if_pos rfl, if_pos (by omega)]
  · rw [if_neg e]
    by_cases h : k < q
    · rw [if_pos h, if_pos (by omega)]
    · rw [if_neg h, if_neg (by omega)]
theorem imM_at (X : List Int) (R : List (List Int)) (p : Int) (i q : Nat) : imM X R p i q q = combS X R p i q := by simp [imM]
theorem combS_bd (X : List Int) (R : List (List Int)) {p : Int} (hp : 2 ≤ p) (i j : Nat) : 0 ≤ combS X R p i j ∧ combS X R p i j < p := ⟨Int.emod_nonneg _ (by omega), Int.emod_lt_of_pos _ (by omega)⟩
theorem vec_rowsM {r c : Nat} {D : List Int} {i j : Nat} (hi : i < r) (hj : j < c) : vec (rowOf (rowsM r c D) i) j = vec D (i * c + j) := by
  rw [rowOf_rowsM hi, rowM, vec_tab hj]

set_option maxHeartbeats 4000000 in
theorem l2Image_any (p : Int) (r c : Nat) (t x : Value) (D X : List Int) (w : World) (ht : Ints w t D) (hx : Ints w x X) (hD : D.length = r * c) (hX : X.length = r) (hr : r ≤ 40) (hc : c ≤ 40)
    (hp : 2 ≤ p) (hp' : p ≤ 10007) (rD : resid p D = true) (rX : resid p X = true) :
    Calls Try.prog 103 #[.agg #[.int .i64 p, .int .i64 r, .int .i64 c, t], x] w (RetOwn w (combL X (rowsM r c D) c p)) := by
  have hmk := makeI c (by omega)
  have h1 := ((((St.start w).arg ht).arg hx).box [.int .i64 p, .int .i64 r, .int .i64 c, t] 32).zeros c (by omega)
  simp only [World.size_alloc] at h1
  obtain ⟨A, k, rfl, _, _, _⟩ := id ht
  obtain ⟨A2, k2, rfl, _, _, _⟩ := id hx
  have hrc := mul_le hr hc
  have HD := Lib.hid hD
  have HX := Lib.hid hX
  have HrX := Lib.hid rX
  have HrD := Lib.hid rD
  have hRL : combL X (rowsM r c D) c p = tab c (combS X (rowsM r c D) p r) := by rw [combL, length_rowsM]
  rw [hRL]
  obtain ⟨R, hR⟩ : ∃ R, R = rowsM r c D := ⟨_, rfl⟩
  rw [← hR]
  have HR := Lib.hid hR
  clear hD hX ht hx rX rD hRL hR
  obtain ⟨z0, z1, z2, z3⟩ := h1.box4 1 rfl
  go_enter Try.func103, Try.ntmps103
  go_wp2
  clear z0 z1 z2 z3
  go_loopw [6, 7] (fun vi vj wr => ∃ i : Nat, vi = .int .i64 i ∧ i ≤ r ∧ St w wr [.own (.slice (some ⟨w.heap.size + 1, 0, none⟩) c c) (tab c (combS X R p i)), .box w.heap.size [.int .i64 p, .int .i64 r, .int .i64 c, .slice A D.length k], .ro (.slice A2 X.length k2) X, .ro (.slice A D.length k) D]) (fun vi _ _ => r - (intOf vi).toNat)
  case atStart => exact ⟨0, rfl, by omega, by rw [tab_congr (g := fun _ => 0) (fun q _ => by simp [combS, sumTo]), tab_zero]; exact h1⟩
  case round =>
    clear h1
    obtain ⟨i, rfl, a1, h1⟩ := hrel
    by_cases hi : i < r
    · have hx0 : 0 ≤ vec X i ∧ vec X i < p := resid_vec HrX.out (by rw [HX.out]; exact hi)
      have hxi : i < X.length := by rw [HX.out]; exact hi
      have hxi' : (i : Int) < X.length := by omega
      obtain ⟨W1, rfl⟩ : ∃ W1 : World, W1 = wr := ⟨_, rfl⟩
      have h0 : St w W1 [.own (.slice (some ⟨w.heap.size + 1, 0, none⟩) c c) (tab c (imM X R p i 0)), .box w.heap.size [.int .i64 p, .int .i64 r, .int .i64 c, .slice A D.length k], .ro (.slice A2 X.length k2) X, .ro (.slice A D.length k) D] := by rw [imM_zero]; exact h1
      clear h1
      obtain ⟨f, hf⟩ : ∃ f, f = vec X i := ⟨_, rfl⟩
      have HF := Lib.hid hf
      obtain ⟨f1, f2⟩ := hx0
      rw [← hf] at f1 f2
      clear hf
      obtain ⟨z0, z1, z2, z3⟩ := h0.box4 1 rfl
      go_wp2
      clear z0 z1 z2 z3
      go_loopw [7] (fun vj wr => ∃ j : Nat, vj = .int .i64 j ∧ j ≤ c ∧ St w wr [.own (.slice (some ⟨w.heap.size + 1, 0, none⟩) c c) (tab c (imM X R p i j)), .box w.heap.size [.int .i64 p, .int .i64 r, .int .i64 c, .slice A D.length k], .ro (.slice A2 X.length k2) X, .ro (.slice A D.length k) D]) (fun vj _ => c - (intOf vj).toNat)
      case atStart => exact ⟨0, rfl, by omega, h0⟩
      case round =>
        clear h0
        obtain ⟨j, rfl, a2, h1⟩ := hrel
        obtain ⟨z0, z1, z2, z3⟩ := h1.box4 1 rfl
        obtain ⟨bx, ox, rfl, _, e2⟩ := (h1.ro 2 rfl).cell hxi
        rw [← HF.out] at e2
        by_cases hj : j < c ∧ f ≠ 0
        · obtain ⟨hj, hf0⟩ := hj
          have t2 : (f != 0) = true := by simp [hf0]
          have Hf0 := Lib.hid hf0
          clear hf0
          have hjl : j < (tab c (imM X R p i j)).length := by rw [length_tab]; exact hj
          have hbd := row_bd (c := c) hi
          obtain ⟨g1, g2⟩ := combS_bd X R hp i j
          obtain ⟨g3, g4⟩ := resid_vec' HrD.out (by omega) (i * c + j)
          obtain ⟨g5, g6⟩ := mul_range f1 (Int.le_of_lt f2) g3 g4 hp'
          have hj' : (j : Int) < c := by omega
          obtain ⟨z, hz⟩ : ∃ z, z = (combS X R p i j + f * vec D (i * c + j)) % p := ⟨_, rfl⟩
          have hz' : combS X R p (i + 1) j = z := by
            rw [hz, ← combS_succ, HR.out, vec_rowsM hi hj, HF.out]
          have HZ := Lib.hid hz'
          have m0 : IntKind.i64.wrap (f * vec D (i * c + j)) = f * vec D (i * c + j) := IntWalk.i64_in _ (by omega)
          have m1 : IntKind.i64.wrap (combS X R p i j + f * vec D (i * c + j)) = combS X R p i j + f * vec D (i * c + j) := IntWalk.i64_in _ (by omega)
          have m2 : (combS X R p i j + f * vec D (i * c + j)).tmod p = z := by rw [hz]; exact Int.tmod_eq_emod_of_nonneg (by omega)
          have m3 : IntKind.i64.wrap z = z := by
            have := Int.emod_lt_of_pos (combS X R p i j + f * vec D (i * c + j)) (b := p) (by omega)
            have := Int.emod_nonneg (combS X R p i j + f * vec D (i * c + j)) (b := p) (by omega)
            rw [hz]; exact IntWalk.i64_in _ (by omega)
          have m4 : ¬ p = 0 := by omega
          clear hz hz'
          go_wp2
          clear z0 z1 z2 z3 e2
          refine h1.region_tail 20 (by kernel_rfl) (by kernel_rfl) ?_
          simp only [List.take_succ_cons, List.take_zero, List.drop_succ_cons, List.drop_zero]
          iterate 20
            apply wpQuiet_op
            · exact rfl
            · intro w' hC
              obtain ⟨z0, z1, z2, z3⟩ := hC.box4 1 rfl
              obtain ⟨y0, _⟩ := (hC.own 0 rfl).cell j hjl
              rw [vec_eq, vec_tab hj, imM_at] at y0
              obtain ⟨b', o', he, _, e2⟩ := (hC.ro 2 rfl).cell hxi
              simp only [Option.some.injEq, Addr.mk.injEq, and_true] at he
              obtain ⟨rfl, rfl⟩ := he
              rw [← HF.out] at e2
              unfold Oper.quietAt
              go_simp
              first
                | exact rfl
                | exact ⟨rfl, rfl⟩
                | exact (l1At_any p r c _ D i j _ (hC.roInts 3 rfl) HD.out (by omega) hi hj).mono fun e w'' h => ⟨h.1, hC.on h.2⟩
            go_simp
          refine wpQuiet_nil (fun w' hC => ?_)
          obtain ⟨y0, y1⟩ := (hC.own 0 rfl).cell j hjl
          have h2 := hC.set 0 rfl j z
          rw [← HZ.out, imM_set, HZ.out] at h2
          clear h1
          go_wp2
          go_roundw
          case rel => exact ⟨j + 1, by go_num, by omega, h2⟩
          case measure => simp [intOf]; omega
        · have hend : tab c (imM X R p i j) = tab c (combS X R p (i + 1)) := by
            by_cases hf0 : f = 0
            · refine tab_congr fun q _ => ?_
              unfold imM
              rw [combS_skip X R p i q (by rw [← HF.out]; exact hf0)]; split <;> rfl
            · obtain rfl : j = c := by omega
              exact imM_end X R p j i
          have Hk := Lib.hid hj
          clear hj
          rw [hend] at h1
          by_cases hj : j < c
          · have t2 : (f != 0) = false := by
              have := Hk.out
              simp; omega
            go_wp2
            go_roundw
            case rel => exact ⟨i + 1, by go_num, by omega, h1⟩
            case measure => simp [intOf]; omega
          · go_wp2
            go_roundw
            case rel => exact ⟨i + 1, by go_num, by omega, h1⟩
            case measure => simp [intOf]; omega
    · obtain rfl : i = r := by omega
      obtain ⟨z0, z1, z2, z3⟩ := h1.box4 1 rfl
      go_wp2
      go_ret
      exact ⟨_, rfl, h1.own 0 rfl, h1.below⟩
end Go.Proofs.Ytechjmckfedblaa
