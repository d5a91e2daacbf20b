/- Transposed matrices and multiples, of both programs. -/
import Derived.Test.YthiainhhaokjoaaGreatModA
namespace Go.Proofs.YthiainhhaokjoaaGreat
set_option maxRecDepth 100000
open Go.RowKit

def trTo (s : Nat) (D : List Int) (i j : Nat) : List Int := tab (s * s) fun q => if q % s < i ∨ (q % s = i ∧ q / s < j) then vec D ((q % s) * s + q / s) else 0
def trD (s : Nat) (D : List Int) : List Int := tab (s * s) fun q => vec D ((q % s) * s + q / s)
theorem length_trTo (s : Nat) (D : List Int) (i j : Nat) : (trTo s D i j).length = s * s := length_tab _ _
theorem length_trD (s : Nat) (D : List Int) : (trD s D).length = s * s := length_tab _ _
theorem trTo_zero (s : Nat) (D : List Int) : trTo s D 0 0 = List.replicate (s * s) 0 := by
  refine list_ext (by rw [length_trTo]; simp) fun q hq => ?_
  rw [length_trTo] at hq
  rw [trTo, vec_tab hq, if_neg (by rintro (h | ⟨_, h⟩) <;> exact absurd h (Nat.not_lt_zero _))]
  simp [vec, List.getD_eq_getElem?_getD, hq]
theorem pos_of {s q : Nat} (h : q < s * s) : 0 < s := by
  rcases Nat.eq_zero_or_pos s with e | e
  · subst e; simp at h
  · exact e
theorem trTo_set {s i j : Nat} (D : List Int) (hi : i < s) (_hj : j < s) : (trTo s D i j).set (j * s + i) (vec D (i * s + j)) = trTo s D i (j + 1) := by
  rw [trTo, tab_set, trTo]
  refine tab_congr fun q hq => ?_
  have hs := pos_of hq
  by_cases e : q = j * s + i
  · have h1 : q % s = i := by rw [e, Nat.add_comm, Nat.add_mul_mod_self_right, Nat.mod_eq_of_lt hi]
    have h2 : q / s = j := by rw [e, Nat.add_comm, Nat.add_mul_div_right _ _ hs, Nat.div_eq_of_lt hi, Nat.zero_add]
    rw [if_pos e, h1, h2, if_pos (by omega)]
  · rw [if_neg e]
    by_cases h : q % s < i ∨ (q % s = i ∧ q / s < j)
    · rw [if_pos h, if_pos (by omega)]
    · rw [if_neg h, if_neg]
      rintro (h1 | ⟨h1, h2⟩)
      · exact h (.inl h1)
      · rcases Nat.lt_or_ge (q / s) j with h3 | h3
        · exact h (.inr ⟨h1, h3⟩)
        · apply e
          have := Nat.div_add_mod q s
          rw [h1, show q / s = j by omega, Nat.mul_comm] at this
          exact this.symm
theorem trTo_row (s : Nat) (D : List Int) (i : Nat) : trTo s D i s = trTo s D (i + 1) 0 := by
  rw [trTo, trTo]
  refine tab_congr fun q hq => ?_
  have hs := pos_of hq
  have h1 : q / s < s := by rw [Nat.div_lt_iff_lt_mul hs]; exact hq
  have key : ∀ a b : Nat, b < s → ((a < i ∨ (a = i ∧ b < s)) ↔ (a < i + 1 ∨ (a = i + 1 ∧ b < 0))) := fun a b h => by omega
  simp only [key _ _ h1]
theorem trTo_end (s : Nat) (D : List Int) : trTo s D s 0 = trD s D := by
  rw [trTo, trD]
  refine tab_congr fun q hq => ?_
  rw [if_pos (.inl (Nat.mod_lt _ (pos_of hq)))]
theorem resid_trD {p : Int} (hp : 0 < p) {s : Nat} {D : List Int} (h : resid p D = true) : resid p (trD s D) = true := resid_tab fun _ _ => resid_vec' h hp _
theorem addL_zeros {p k : Int} {D : List Int} : addL (List.replicate D.length 0) k D p = scaleR p k D := by
  refine list_ext (by rw [length_addL _ _ _ _ (by simp), length_scaleR]; simp) fun q hq => ?_
  rw [length_addL _ _ _ _ (by simp), List.length_replicate] at hq
  rw [vec_addLq (by simp) (by simpa using hq), vec_scaleR hq, show vec (List.replicate D.length 0) q = 0 by simp [vec, List.getD_eq_getElem?_getD, hq], Int.zero_add, Int.mul_comm]

set_option maxHeartbeats 4000000 in
theorem l1Transpose_any (p : Int) (s : Nat) (t : Value) (D : List Int) (w : World) (ht : Ints w t D) (hD : D.length = s * s) (hs : s ≤ 30) (hP : isPrime p = true) (rD : resid p D = true) :
    Calls Tryz.prog 148 #[.agg #[.int .i64 p, .int .i64 s, .int .i64 s, t]] w (RetMat w p s s (trD s D)) := by
  obtain ⟨hp, hp'⟩ := isPrime_bd hP
  have h1 := (((St.start w).arg ht).box [.int .i64 p, .int .i64 s, .int .i64 s, t] 35).box [.int .i64 0, .int .i64 0, .int .i64 0, .slice none 0 0] 35
  simp only [World.size_alloc] at h1
  obtain ⟨A, k0, rfl, _, _, _⟩ := id ht
  have hss := mul_le hs hs
  have HDl := Lib.hid hD
  have hok : matOk p s s D = true := by
    simp only [matOk, Bool.and_eq_true, decide_eq_true_eq]
    exact ⟨hP, inR_true (by omega) (by omega), inR_true (by omega) (by omega), by rw [hD, Int.natCast_mul], rD⟩
  have HOk := Lib.hid hok
  clear ht hD hok
  obtain ⟨x0, x1, x2, x3⟩ := h1.box4 1 rfl
  go_enter Tryz.func148, Tryz.ntmps148
  go_wp2_with fail
  refine (l1Zero_any p s s _ (by omega)).mono ?_
  rintro (e : Ending) w1 ⟨u, rfl, ho, hb1⟩
  obtain ⟨A5, c5, rfl, _, _, _⟩ := id ho.ints
  rw [List.length_replicate] at ho ⊢
  replace h1 := (h1.pushOwn hb1 ho).box [.int .i64 p, .int .i64 s, .int .i64 s, .slice A5 (s * s) c5] 35
  clear ho hb1 x0 x1 x2 x3
  rw [← trTo_zero s D] at h1
  obtain ⟨x0, x1, x2, x3⟩ := h1.box4 3 rfl
  go_wp2
  clear x0 x1 x2 x3
  generalize w1.heap.size = B5 at h1 ⊢
  go_loopw [4] (fun v4 wr => ∃ i : Nat, v4 = .int .i64 i ∧ i ≤ s ∧ St w wr [.box B5 [.int .i64 p, .int .i64 s, .int .i64 s, .slice A5 (s * s) c5], .own (.slice A5 (s * s) c5) (trTo s D i 0), .box (w.heap.size + 1) [.int .i64 0, .int .i64 0, .int .i64 0, .slice none 0 0], .box w.heap.size [.int .i64 p, .int .i64 s, .int .i64 s, .slice A D.length k0], .ro (.slice A D.length k0) D]) (fun v4 _ => s - (intOf v4).toNat)
  case atStart => exact ⟨0, rfl, by omega, h1⟩
  case round =>
    clear h1
    obtain ⟨i, rfl, a1, h1⟩ := hrel
    obtain ⟨x0, x1, x2, x3⟩ := h1.box4 3 rfl
    by_cases hi : i < s
    · go_wp2
      clear x0 x1 x2 x3
      go_loopw [5] (fun v5 wr => ∃ j : Nat, v5 = .int .i64 j ∧ j ≤ s ∧ St w wr [.box B5 [.int .i64 p, .int .i64 s, .int .i64 s, .slice A5 (s * s) c5], .own (.slice A5 (s * s) c5) (trTo s D i j), .box (w.heap.size + 1) [.int .i64 0, .int .i64 0, .int .i64 0, .slice none 0 0], .box w.heap.size [.int .i64 p, .int .i64 s, .int .i64 s, .slice A D.length k0], .ro (.slice A D.length k0) D]) (fun v5 _ => s - (intOf v5).toNat)
      case atStart => exact ⟨0, rfl, by omega, h1⟩
      case round =>
        clear h1
        obtain ⟨j, rfl, a2, h1⟩ := hrel
        obtain ⟨x0, x1, x2, x3⟩ := h1.box4 3 rfl
        by_cases hj : j < s
        · have hbi := row_bd (c := s) hi
          have hbj := row_bd (c := s) hj
          obtain ⟨g, rfl, hn9⟩ := h1.ownSomeA 1 rfl (by rw [length_trTo]; omega)
          obtain ⟨b, off, rfl, _, e1⟩ := (h1.ro 4 rfl).cell (k := i * s + j) (by rw [HDl.out]; omega)
          have hlt : i * s + j < D.length := by rw [HDl.out]; omega
          have HLt := Lib.hid (show j * s + i < (trTo s D i j).length by rw [length_trTo]; omega)
          have HSet := Lib.hid (trTo_set D hi hj)
          obtain ⟨u1, u2, u3, u4⟩ := row_int (c := s) hi (show s * s ≤ 900 by omega)
          obtain ⟨v1, v2, v3, v4⟩ := row_int (c := s) hj (show s * s ≤ 900 by omega)
          have ha1 : (i : Int) * s + j = ((i * s + j : Nat) : Int) := by simp
          have ha2 : (j : Int) * s + i = ((j * s + i : Nat) : Int) := by simp
          obtain ⟨x, hx⟩ : ∃ x, x = vec D (i * s + j) := ⟨_, rfl⟩
          have HXv : Hid (vec D (i * s + j) = x) := hx.symm
          rw [← hx] at e1
          have HSet2 : Hid ((trTo s D i j).set (j * s + i) x = trTo s D i (j + 1)) := by show _ = _; rw [hx]; exact HSet.out
          obtain ⟨qi, hqi⟩ : ∃ qi, qi = i * s + j := ⟨_, rfl⟩
          obtain ⟨qj, hqj⟩ : ∃ qj, qj = j * s + i := ⟨_, rfl⟩
          rw [← hqi] at ha1 e1 hlt
          rw [← hqj] at ha2 HLt HSet2
          have iq : (qj : Int) < (s : Int) * s := by rw [← Int.natCast_mul]; omega
          have iq2 : (qj : Int) < ((s * s : Nat) : Int) := by omega
          have iq3 : (qi : Int) < (D.length : Nat) := by omega
          have hw1 : IntKind.i64.wrap ((i : Int) * s) = (i : Int) * s := wrap_ok (by omega) (by omega)
          have hw2 : IntKind.i64.wrap ((j : Int) * s) = (j : Int) * s := wrap_ok (by omega) (by omega)
          have hw3 : IntKind.i64.wrap ((qi : Nat) : Int) = qi := wrap_ok (by omega) (by omega)
          have hw4 : IntKind.i64.wrap ((qj : Nat) : Int) = qj := wrap_ok (by omega) (by omega)
          have HA := Lib.hid (show ∀ W, Ints W (.slice (some ⟨b, off, none⟩) D.length k0) D → Calls Tryz.prog 167 #[.agg #[.int .i64 p, .int .i64 s, .int .i64 s, .slice (some ⟨b, off, none⟩) D.length k0], .int .i64 i, .int .i64 j] W (fun e w' => e = .returned (.int .i64 x) ∧ Below W.heap.size W w') from fun W hW => by rw [hx]; exact l1At_any p s s _ D i j W hW HDl.out (by omega) hi hj)
          clear hx hqi hqj hn9 hbi hbj HSet
          go_wp2_with fail
          clear x0 x1 x2 x3 e1
          have g0 := h1.drew
          refine wp_region_cut (S := fun w' => (w'.cell? ⟨B5, 0, none⟩ = some (.int .i64 p) ∧ w'.cell? ⟨B5, 1, none⟩ = some (.int .i64 s) ∧ w'.cell? ⟨B5, 2, none⟩ = some (.int .i64 s) ∧ w'.cell? ⟨B5, 3, none⟩ = some (.slice (some ⟨g, 0, none⟩) (s * s) c5)) ∧ w'.cell? ⟨w.heap.size, 0, none⟩ = some (.int .i64 p) ∧ w'.cell? ⟨w.heap.size, 1, none⟩ = some (.int .i64 s) ∧ w'.cell? ⟨w.heap.size, 2, none⟩ = some (.int .i64 s) ∧ w'.cell? ⟨w.heap.size, 3, none⟩ = some (.slice (some ⟨b, off, none⟩) D.length k0)) 13 (by kernel_rfl) (by kernel_rfl) ⟨g0.box4 0 rfl, g0.box4 3 rfl⟩ (fun hHeld => ?_)
          simp only [List.take_succ_cons, List.take_zero]
          refine anyH_take (v := ?_) 0 rfl (by kernel_rfl) (by kernel_rfl) (by kernel_rfl) (fun _ _ _ h => h) rfl ?_ hHeld ?_
          rotate_left
          · intro w' hSw
            go_simp
            try with_reducible rfl
          try simp only [Act.put, List.setIfInBounds_toArray, List.set_cons_zero, List.set_cons_succ]
          refine anyH_take (v := ?_) 1 rfl (by kernel_rfl) (by kernel_rfl) (by kernel_rfl) (fun _ _ _ h => h) rfl ?_ hHeld ?_
          rotate_left
          · intro w' hSw
            go_simp
            try with_reducible rfl
          try simp only [Act.put, List.setIfInBounds_toArray, List.set_cons_zero, List.set_cons_succ]
          refine anyH_take (v := ?_) 2 rfl (by kernel_rfl) (by kernel_rfl) (by kernel_rfl) (fun _ _ _ h => h) rfl ?_ hHeld ?_
          rotate_left
          · intro w' hSw
            go_simp
            try with_reducible rfl
          try simp only [Act.put, List.setIfInBounds_toArray, List.set_cons_zero, List.set_cons_succ]
          refine anyH_take (v := ?_) 3 rfl (by kernel_rfl) (by kernel_rfl) (by kernel_rfl) (fun _ _ _ h => h) rfl ?_ hHeld ?_
          rotate_left
          · intro w' hSw
            go_simp
            try with_reducible rfl
          try simp only [Act.put, List.setIfInBounds_toArray, List.set_cons_zero, List.set_cons_succ]
          refine anyH_take (v := ?_) 4 rfl (by kernel_rfl) (by kernel_rfl) (by kernel_rfl) (fun _ _ _ h => h) rfl ?_ hHeld ?_
          rotate_left
          · intro w' hSw
            go_simp
            try with_reducible rfl
          try simp only [Act.put, List.setIfInBounds_toArray, List.set_cons_zero, List.set_cons_succ]
          refine anyH_take (v := ?_) 5 rfl (by kernel_rfl) (by kernel_rfl) (by kernel_rfl) (fun _ _ _ h => h) rfl ?_ hHeld ?_
          rotate_left
          · intro w' hSw
            go_simp
            try with_reducible rfl
          try simp only [Act.put, List.setIfInBounds_toArray, List.set_cons_zero, List.set_cons_succ]
          refine anyH_take (v := ?_) 6 rfl (by kernel_rfl) (by kernel_rfl) (by kernel_rfl) (fun _ _ _ h => h) rfl ?_ hHeld ?_
          rotate_left
          · intro w' hSw
            go_simp
            try with_reducible rfl
          try simp only [Act.put, List.setIfInBounds_toArray, List.set_cons_zero, List.set_cons_succ]
          refine anyH_take (v := ?_) 7 rfl (by kernel_rfl) (by kernel_rfl) (by kernel_rfl) (fun _ _ _ h => h) rfl ?_ hHeld ?_
          rotate_left
          · intro w' hSw
            go_simp
            try with_reducible rfl
          try simp only [Act.put, List.setIfInBounds_toArray, List.set_cons_zero, List.set_cons_succ]
          refine anyH_take (v := ?_) 8 rfl (by kernel_rfl) (by kernel_rfl) (by kernel_rfl) (fun _ _ _ h => h) rfl ?_ hHeld ?_
          rotate_left
          · intro w' hSw
            go_simp
            try with_reducible rfl
          try simp only [Act.put, List.setIfInBounds_toArray, List.set_cons_zero, List.set_cons_succ]
          refine anyH_take (v := ?_) 9 rfl (by kernel_rfl) (by kernel_rfl) (by kernel_rfl) (fun _ _ _ h => h) rfl ?_ hHeld ?_
          rotate_left
          · intro w' hSw
            go_simp
            try with_reducible rfl
          try simp only [Act.put, List.setIfInBounds_toArray, List.set_cons_zero, List.set_cons_succ]
          refine anyH_take (v := ?_) 10 rfl (by kernel_rfl) (by kernel_rfl) (by kernel_rfl) (fun _ _ _ h => h) rfl ?_ hHeld ?_
          rotate_left
          · intro w' hSw
            go_simp
            try with_reducible rfl
          try simp only [Act.put, List.setIfInBounds_toArray, List.set_cons_zero, List.set_cons_succ]
          refine wpAnyH_ready (rs := [11]) (by kernel_rfl) (by simp) ?_
          refine ready_cons rfl (fun K hK => ?_) AllReadyH.nil
          go_simp
          refine (HA.out _ (g0.roInts 4 rfl)).mono ?_
          rintro (e : Ending) w3 ⟨rfl, hb3⟩
          have g1 := g0.on hb3
          clear hb3
          show K _ _
          refine hK.out _ _ ?_ (fun hHeld => ?_)
          · exact ⟨g1.box4 0 rfl, g1.box4 3 rfl⟩
          clear hK K
          try simp only [Act.put, List.setIfInBounds_toArray, List.set_cons_zero, List.set_cons_succ]
          refine anyH_take (v := ?_) 12 rfl (by kernel_rfl) (by kernel_rfl) (by kernel_rfl) (fun _ _ _ h => h) rfl ?_ hHeld ?_
          rotate_left
          · intro w' hSw
            go_simp
            try with_reducible rfl
          try simp only [Act.put, List.setIfInBounds_toArray, List.set_cons_zero, List.set_cons_succ]
          refine wpAnyH_done (by kernel_rfl) ?_ _
          show wpList _ _ _ _ _ _
          simp only [List.drop_succ_cons, List.drop_zero]
          obtain ⟨v0, f0⟩ := g1.ownCellA 1 rfl HLt.out
          have h3 := g1.set 1 rfl qj x
          clear h1
          go_wp2
          go_roundw
          case rel => exact ⟨j + 1, by go_num, by omega, by rw [← HSet2.out]; exact h3⟩
          case measure => simp [intOf]; omega
        · obtain rfl : j = s := by omega
          rw [trTo_row] at h1
          go_wp2
          go_roundw
          case rel => exact ⟨i + 1, by go_num, by omega, h1⟩
          case measure => simp [intOf]; omega
    · obtain rfl : i = s := by omega
      rw [trTo_end] at h1
      have f0 := h1.free 2 rfl 0
      have f1 := h1.free 2 rfl 1
      have f2 := h1.free 2 rfl 2
      have f3 := h1.free 2 rfl 3
      obtain ⟨v0, v1, v2, v3⟩ := h1.box4 2 rfl
      obtain ⟨z0, z1, z2, z3⟩ := h1.box4 0 rfl
      have h2 := (((h1.setBox 2 rfl 0 (.int .i64 p)).setBox 2 rfl 1 (.int .i64 i)).setBox 2 rfl 2 (.int .i64 i)).setBox 2 rfl 3 (.slice A5 (i * i) c5)
      obtain ⟨r0, r1, r2, r3⟩ := h2.box4 2 rfl
      go_wp2
      refine bodyPost_ret (v := .agg #[.int .i64 p, .int .i64 i, .int .i64 i, .slice A5 (i * i) c5]) (by simp [results, Tryz.results148, go_sem, r0, r1, r2, r3]) rfl ⟨_, rfl, h2.own 1 rfl, h2.below⟩

end Go.Proofs.YthiainhhaokjoaaGreat
