/- Linear equations in the reference: l1Transpose, l1Find, l1Solve, l1Coordinates, l1Within. -/
import Derived.Test.YtcdbgcpccmcbeaaGreatSol
import Derived.Test.YtcdbgcpccmcbeaaGreatCloA
import Derived.Test.YtcdbgcpccmcbeaaGreatSubI
import Derived.Test.YtcdbgcpccmcbeaaGreatRegX
namespace Go.Proofs.YtcdbgcpccmcbeaaGreat
set_option maxRecDepth 100000
open Go.RowKit

set_option maxHeartbeats 4000000 in
theorem l1TransposeR_any (p : Int) (r c : Nat) (t : Value) (D : List Int) (w : World) (ht : Ints w t D) (hD : D.length = r * c) (hr : r ≤ 40) (hc : c ≤ 40) :
    Calls Tryz.prog 108 #[.agg #[.int .i64 p, .int .i64 r, .int .i64 c, t]] w (RetMat w p c r (tpD r c D)) := by
  have h1 := (((St.start w).arg ht).box [.int .i64 p, .int .i64 r, .int .i64 c, t] 37).box [.int .i64 0, .int .i64 0, .int .i64 0, .slice none 0 0] 37
  simp only [World.size_alloc] at h1
  obtain ⟨A, k0, rfl, _, _, _⟩ := id ht
  have hrc := mul_le hr hc
  have hcr := mul_le hc hr
  have HDl := Lib.hid hD
  clear ht hD
  obtain ⟨x0, x1, x2, x3⟩ := h1.box4 1 rfl
  go_enter Tryz.func108, Tryz.ntmps108
  go_wp2_with fail
  refine (l1Zero_any p c r _ (by omega)).mono ?_
  rintro (e : Ending) w1 ⟨u, rfl, ho, hb1⟩
  obtain ⟨A5, c5, rfl, _, _, _⟩ := id ho.ints
  rw [List.length_replicate] at ho ⊢
  replace h1 := (h1.pushOwn hb1 ho).box [.int .i64 p, .int .i64 c, .int .i64 r, .slice A5 (c * r) c5] 37
  clear ho hb1 x0 x1 x2 x3
  rw [← tpTo_zero r c D] at h1
  go_wp2
  generalize w1.heap.size = B5 at h1 ⊢
  go_loopw [4] (fun v4 wr => ∃ i : Nat, v4 = .int .i64 i ∧ i ≤ r ∧ St w wr [.box B5 [.int .i64 p, .int .i64 c, .int .i64 r, .slice A5 (c * r) c5], .own (.slice A5 (c * r) c5) (tpTo r c D i 0), .box (w.heap.size + 1) [.int .i64 0, .int .i64 0, .int .i64 0, .slice none 0 0], .box w.heap.size [.int .i64 p, .int .i64 r, .int .i64 c, .slice A D.length k0], .ro (.slice A D.length k0) D]) (fun v4 _ => r - (intOf v4).toNat)
  case atStart => exact ⟨0, rfl, by omega, h1⟩
  case round =>
    clear h1
    obtain ⟨i, rfl, a1, h1⟩ := hrel
    obtain ⟨x0, x1, x2, x3⟩ := h1.box4 3 rfl
    by_cases hi : i < r
    · go_wp2
      clear x0 x1 x2 x3
      go_loopw [5] (fun v5 wr => ∃ j : Nat, v5 = .int .i64 j ∧ j ≤ c ∧ St w wr [.box B5 [.int .i64 p, .int .i64 c, .int .i64 r, .slice A5 (c * r) c5], .own (.slice A5 (c * r) c5) (tpTo r c D i j), .box (w.heap.size + 1) [.int .i64 0, .int .i64 0, .int .i64 0, .slice none 0 0], .box w.heap.size [.int .i64 p, .int .i64 r, .int .i64 c, .slice A D.length k0], .ro (.slice A D.length k0) D]) (fun v5 _ => c - (intOf v5).toNat)
      case atStart => exact ⟨0, rfl, by omega, h1⟩
      case round =>
        clear h1
        obtain ⟨j, rfl, a2, h1⟩ := hrel
        obtain ⟨x0, x1, x2, x3⟩ := h1.box4 3 rfl
        by_cases hj : j < c
        · have hbi := row_bd (c := c) hi
          have hbj := row_bd (c := r) hj
          obtain ⟨g, rfl, hn9⟩ := h1.ownSomeA 1 rfl (by rw [length_tpTo]; omega)
          have HLt := Lib.hid (show j * r + i < (tpTo r c D i j).length by rw [length_tpTo]; omega)
          have hset := tpTo_set (c := c) (j := j) D hi
          obtain ⟨x, hx⟩ : ∃ x, x = vec D (i * c + j) := ⟨_, rfl⟩
          rw [← hx] at hset
          have HA := Lib.hid (show ∀ W, Ints W (.slice A D.length k0) D → Calls Tryz.prog 54 #[.agg #[.int .i64 p, .int .i64 r, .int .i64 c, .slice A D.length k0], .int .i64 i, .int .i64 j] W (fun e w' => e = .returned (.int .i64 x) ∧ Below W.heap.size W w') from fun W hW => by rw [hx]; exact l1At_any p r c _ D i j W hW HDl.out (by omega) hi hj)
          obtain ⟨z1, hz1⟩ : ∃ z1, z1 = j * r := ⟨_, rfl⟩
          obtain ⟨qi, hqi⟩ : ∃ qi, qi = z1 + i := ⟨_, rfl⟩
          have e1 : (j : Int) * (r : Int) = (z1 : Int) := by rw [hz1]; simp
          have e2 : (z1 : Int) + (i : Int) = (qi : Int) := by omega
          rw [← hz1, ← hqi] at hset HLt
          have w1 : IntKind.i64.wrap (z1 : Int) = z1 := wrap_ok (by omega) (by omega)
          have w2 : IntKind.i64.wrap (qi : Int) = qi := wrap_ok (by omega) (by omega)
          have iq : (qi : Int) < ((c * r : Nat) : Int) := by omega
          have iq2 : (qi : Int) < (c : Int) * r := by rw [← Int.natCast_mul]; exact iq
          have HSet := Lib.hid hset
          clear hset hx hz1 hqi hn9 hbi hbj
          go_upto_region 8 with fail
          clear x0 x1 x2 x3
          have g0 := h1.drew
          refine wp_region_cut (S := fun w' => (w'.cell? ⟨B5, 0, none⟩ = some (.int .i64 p) ∧ w'.cell? ⟨B5, 1, none⟩ = some (.int .i64 c) ∧ w'.cell? ⟨B5, 2, none⟩ = some (.int .i64 r) ∧ w'.cell? ⟨B5, 3, none⟩ = some (.slice (some ⟨g, 0, none⟩) (c * r) c5)) ∧ w'.cell? ⟨w.heap.size, 0, none⟩ = some (.int .i64 p) ∧ w'.cell? ⟨w.heap.size, 1, none⟩ = some (.int .i64 r) ∧ w'.cell? ⟨w.heap.size, 2, none⟩ = some (.int .i64 c) ∧ w'.cell? ⟨w.heap.size, 3, none⟩ = some (.slice A D.length k0)) 13 (by kernel_rfl) (by kernel_rfl) ⟨g0.box4 0 rfl, g0.box4 3 rfl⟩ (fun hHeld => ?_)
          simp only [List.take_succ_cons, List.take_zero]
          refine anyH_take (v := ?_) 0 rfl (by kernel_rfl) (by kernel_rfl) (by kernel_rfl) (fun _ _ _ h => h) rfl ?_ hHeld ?_
          rotate_left
          · intro w' hSw
            go_simp
            try with_reducible rfl
          try simp only [Act.put, List.setIfInBounds_toArray, List.set_cons_zero, List.set_cons_succ]
          refine anyH_take (v := ?_) 1 rfl (by kernel_rfl) (by kernel_rfl) (by kernel_rfl) (fun _ _ _ h => h) rfl ?_ hHeld ?_
          rotate_left
          · intro w' hSw
            go_simp
            try with_reducible rfl
          try simp only [Act.put, List.setIfInBounds_toArray, List.set_cons_zero, List.set_cons_succ]
          refine anyH_take (v := ?_) 2 rfl (by kernel_rfl) (by kernel_rfl) (by kernel_rfl) (fun _ _ _ h => h) rfl ?_ hHeld ?_
          rotate_left
          · intro w' hSw
            go_simp
            try with_reducible rfl
          try simp only [Act.put, List.setIfInBounds_toArray, List.set_cons_zero, List.set_cons_succ]
          refine anyH_take (v := ?_) 3 rfl (by kernel_rfl) (by kernel_rfl) (by kernel_rfl) (fun _ _ _ h => h) rfl ?_ hHeld ?_
          rotate_left
          · intro w' hSw
            go_simp
            try with_reducible rfl
          try simp only [Act.put, List.setIfInBounds_toArray, List.set_cons_zero, List.set_cons_succ]
          refine anyH_take (v := ?_) 4 rfl (by kernel_rfl) (by kernel_rfl) (by kernel_rfl) (fun _ _ _ h => h) rfl ?_ hHeld ?_
          rotate_left
          · intro w' hSw
            go_simp
            try with_reducible rfl
          try simp only [Act.put, List.setIfInBounds_toArray, List.set_cons_zero, List.set_cons_succ]
          refine anyH_take (v := ?_) 5 rfl (by kernel_rfl) (by kernel_rfl) (by kernel_rfl) (fun _ _ _ h => h) rfl ?_ hHeld ?_
          rotate_left
          · intro w' hSw
            go_simp
            try with_reducible rfl
          try simp only [Act.put, List.setIfInBounds_toArray, List.set_cons_zero, List.set_cons_succ]
          refine anyH_take (v := ?_) 6 rfl (by kernel_rfl) (by kernel_rfl) (by kernel_rfl) (fun _ _ _ h => h) rfl ?_ hHeld ?_
          rotate_left
          · intro w' hSw
            go_simp
            try with_reducible rfl
          try simp only [Act.put, List.setIfInBounds_toArray, List.set_cons_zero, List.set_cons_succ]
          refine anyH_take (v := ?_) 7 rfl (by kernel_rfl) (by kernel_rfl) (by kernel_rfl) (fun _ _ _ h => h) rfl ?_ hHeld ?_
          rotate_left
          · intro w' hSw
            go_simp
            try with_reducible rfl
          try simp only [Act.put, List.setIfInBounds_toArray, List.set_cons_zero, List.set_cons_succ]
          refine anyH_take (v := ?_) 8 rfl (by kernel_rfl) (by kernel_rfl) (by kernel_rfl) (fun _ _ _ h => h) rfl ?_ hHeld ?_
          rotate_left
          · intro w' hSw
            go_simp
            try with_reducible rfl
          try simp only [Act.put, List.setIfInBounds_toArray, List.set_cons_zero, List.set_cons_succ]
          refine anyH_take (v := ?_) 9 rfl (by kernel_rfl) (by kernel_rfl) (by kernel_rfl) (fun _ _ _ h => h) rfl ?_ hHeld ?_
          rotate_left
          · intro w' hSw
            go_simp
            try with_reducible rfl
          try simp only [Act.put, List.setIfInBounds_toArray, List.set_cons_zero, List.set_cons_succ]
          refine anyH_take (v := ?_) 10 rfl (by kernel_rfl) (by kernel_rfl) (by kernel_rfl) (fun _ _ _ h => h) rfl ?_ hHeld ?_
          rotate_left
          · intro w' hSw
            go_simp
            try with_reducible rfl
          try simp only [Act.put, List.setIfInBounds_toArray, List.set_cons_zero, List.set_cons_succ]
          refine wpAnyH_ready (rs := [11]) (by kernel_rfl) (by simp) ?_
          refine ready_cons rfl (fun K hK => ?_) AllReadyH.nil
          go_simp
          refine (HA.out _ (g0.roInts 4 rfl)).mono ?_
          rintro (e : Ending) w3 ⟨rfl, hb3⟩
          have g1 := g0.on hb3
          clear hb3
          show K _ _
          refine hK.out _ _ ?_ (fun hHeld => ?_)
          · exact ⟨g1.box4 0 rfl, g1.box4 3 rfl⟩
          clear hK K
          try simp only [Act.put, List.setIfInBounds_toArray, List.set_cons_zero, List.set_cons_succ]
          refine anyH_take (v := ?_) 12 rfl (by kernel_rfl) (by kernel_rfl) (by kernel_rfl) (fun _ _ _ h => h) rfl ?_ hHeld ?_
          rotate_left
          · intro w' hSw
            go_simp
            try with_reducible rfl
          try simp only [Act.put, List.setIfInBounds_toArray, List.set_cons_zero, List.set_cons_succ]
          refine wpAnyH_done (by kernel_rfl) ?_ _
          show wpList _ _ _ _ _ _
          simp only [List.drop_succ_cons, List.drop_zero]
          clear hHeld
          obtain ⟨v0, f0⟩ := g1.ownCellA 1 rfl HLt.out
          have h4 := g1.set 1 rfl qi x
          clear h1 g0
          go_wp2
          go_roundw
          case rel => exact ⟨j + 1, by go_num, by omega, by rw [← HSet.out]; exact h4⟩
          case measure => simp [intOf]; omega
        · obtain rfl : j = c := by omega
          rw [tpTo_row] at h1
          go_wp2
          go_roundw
          case rel => exact ⟨i + 1, by go_num, by omega, h1⟩
          case measure => simp [intOf]; omega
    · obtain rfl : i = r := by omega
      rw [tpTo_end] at h1
      obtain ⟨v0, v1, v2, v3⟩ := h1.box4 0 rfl
      obtain ⟨p0, p1, p2, p3⟩ := h1.box4 2 rfl
      have f0 := h1.free 2 rfl 0
      have f1 := h1.free 2 rfl 1
      have f2 := h1.free 2 rfl 2
      have f3 := h1.free 2 rfl 3
      have h5 := (((h1.setBox 2 rfl 0 (.int .i64 p)).setBox 2 rfl 1 (.int .i64 c)).setBox 2 rfl 2 (.int .i64 i)).setBox 2 rfl 3 (.slice A5 (c * i) c5)
      obtain ⟨r0, r1, r2, r3⟩ := h5.box4 2 rfl
      go_wp2
      refine bodyPost_ret (v := .agg #[.int .i64 p, .int .i64 c, .int .i64 i, .slice A5 (c * i) c5]) (by simp [results, Tryz.results108, go_sem, r0, r1, r2, r3]) rfl ⟨_, rfl, h5.own 1 rfl, h5.below⟩

set_option maxHeartbeats 400000 in
theorem l1Find_any (v : Value) (l : List Int) (x : Int) (w : World) (hv : Ints w v l) :
    Calls Tryz.prog 51 #[v, .int .i64 x] w fun e w' => e = .returned (.int .i64 (idx (fun y => y == x) l 0)) ∧ w = w' := by
  obtain ⟨A, c, rfl, h1, h2, h3⟩ := hv
  obtain ⟨R, hR⟩ : ∃ R, R = idx (fun y => y == x) l 0 := ⟨_, rfl⟩
  rw [← hR]
  have HR := Lib.hid hR
  clear hR
  go_enter Tryz.func51, Tryz.ntmps51
  go_wp2
  go_loop [5] (fun vi => ∃ k : Nat, vi = .int .i64 k ∧ Hid (R = idx (fun y => y == x) (l.drop k) k)) (fun vi => l.length - (intOf vi).toNat)
  case atStart => exact ⟨0, rfl, HR⟩
  case round =>
    obtain ⟨k, rfl, HM⟩ := hrel
    by_cases hk : k < l.length
    · obtain ⟨b, off, rfl, hc⟩ := h3 (by omega)
      have e1 := hc k l[k] (List.getElem?_eq_getElem hk)
      have HD := Lib.hid (idx_drop (fun y => y == x) l k hk)
      clear hc h3
      by_cases hx : l[k] = x
      · have HX := Lib.hid hx
        have e2 : (l[k] == x) = true := by rw [hx]; simp
        clear hx
        go_wp2
        go_ret
        exact ⟨ret_int (by rw [HM.out, HD.out, if_pos (by simp [HX.out])]), rfl⟩
      · have e2 : (l[k] == x) = false := by rw [beq_eq_false_iff_ne]; exact hx
        go_wp2
        go_round
        case rel => exact ⟨k + 1, by go_num, by rw [HM.out, HD.out, if_neg (by simp [hx])]; exact rfl⟩
        case measure => simp [intOf]; omega
    · have HE := Lib.hid (idx_end (fun y => y == x) l k (by omega))
      clear h3
      go_wp2
      go_ret
      exact ⟨ret_int (by rw [HM.out, HE.out]), rfl⟩

/-- What l1Solve returns. -/
def solM (r c : Nat) (D V : List Int) : List (List Int) := rowsM r (c + 1) (auD r c D V)
def solB (p : Int) (r c : Nat) (D V : List Int) : Bool := decide (c ∉ pivL p (c + 1) (solM r c D V))
def solL (p : Int) (r c : Nat) (D V : List Int) : List Int := if solB p r c D V then slTo c (pivL p (c + 1) (solM r c D V)) (fun i => vec (rowOf (reduceL p (c + 1) (solM r c D V)).1 i) c) (pivL p (c + 1) (solM r c D V)).length else []
def RetOwnB (w : World) (l : List Int) (b : Bool) (e : Ending) (w' : World) : Prop := ∃ u, e = .returned (.tuple #[u, .bool b]) ∧ Own w' w.heap.size u l ∧ Below w.heap.size w w'
theorem find_piv (piv : List Nat) (c : Nat) : decide (0 ≤ idx (fun y => y == (c : Int)) (pivI piv) 0) = decide (c ∈ piv) := by
  rw [idx_any _ _ 0 (Int.le_refl _), Bool.eq_iff_iff, List.any_eq_true, decide_eq_true_eq]
  constructor
  · rintro ⟨x, hx, hc⟩
    obtain ⟨a, ha, rfl⟩ := List.mem_map.1 hx
    simp only [beq_iff_eq] at hc
    have : a = c := by omega
    exact this ▸ ha
  · intro h
    exact ⟨(c : Int), List.mem_map.2 ⟨c, h, rfl⟩, by simp⟩

end Go.Proofs.YtcdbgcpccmcbeaaGreat
