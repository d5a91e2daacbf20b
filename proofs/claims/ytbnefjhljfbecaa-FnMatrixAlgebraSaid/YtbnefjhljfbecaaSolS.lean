/- Linear equations in the reference: l1Transpose, l1Find, l1Solve, l1Coordinates, l1Within. -/
import Derived.Test.YtbnefjhljfbecaaSol
import Derived.Test.YtbnefjhljfbecaaCloA
import Derived.Test.YtbnefjhljfbecaaSubI
import Derived.Test.YtbnefjhljfbecaaRegX
namespace Go.Proofs.Ytbnefjhljfbecaa
set_option maxRecDepth 100000
open Go.RowKit

set_option maxHeartbeats 4000000 in
theorem l1TransposeR_any (p : Int) (r c : Nat) (t : Value) (D : List Int) (w : World) (ht : Ints w t D) (hD : D.length = r * c) (hr : r ≤ 40) (hc : c ≤ 40) :
    Calls Try.prog 64 #[.agg #[.int .i64 p, .int .i64 r, .int .i64 c, t]] w (RetMat w p c r (tpD r c D)) := by
  have h1 := (((St.start w).arg ht).box [.int .i64 p, .int .i64 r, .int .i64 c, t] 35).box [.int .i64 0, .int .i64 0, .int .i64 0, .slice none 0 0] 35
  simp only [World.size_alloc] at h1
  obtain ⟨A, k0, rfl, _, _, _⟩ := id ht
  have hrc := mul_le hr hc
  have hcr := mul_le hc hr
  have HDl := Lib.hid hD
  clear ht hD
  obtain ⟨x0, x1, x2, x3⟩ := h1.box4 1 rfl
  go_enter Try.func64, Try.ntmps64
  go_wp2_with fail
  refine (l1Zero_any p c r _ (by omega)).mono ?_
  rintro (e : Ending) w1 ⟨u, rfl, ho, hb1⟩
  obtain ⟨A5, c5, rfl, _, _, _⟩ := id ho.ints
  rw [List.length_replicate] at ho ⊢
  replace h1 := (h1.pushOwn hb1 ho).box [.int .i64 p, .int .i64 c, .int .i64 r, .slice A5 (c * r) c5] 35
  clear ho hb1 x0 x1 x2 x3
  rw [← tpTo_zero r c D] at h1
  go_wp2
  generalize w1.heap.size = B5 at h1 ⊢
  go_loopw [4] (fun v4 wr => ∃ i : Nat, v4 = .int .i64 i ∧ i ≤ r ∧ St w wr [.box B5 [.int .i64 p, .int .i64 c, .int .i64 r, .slice A5 (c * r) c5], .own (.slice A5 (c * r) c5) (tpTo r c D i 0), .box (w.heap.size + 1) [.int .i64 0, .int .i64 0, .int .i64 0, .slice none 0 0], .box w.heap.size [.int .i64 p, .int .i64 r, .int .i64 c, .slice A D.length k0], .ro (.slice A D.length k0) D]) (fun v4 _ => r - (intOf v4).toNat)
  case atStart => exact ⟨0, rfl, by omega, h1⟩
  case round =>
    clear h1
    obtain ⟨i, rfl, a1, h1⟩ := hrel
    obtain ⟨x0, x1, x2, x3⟩ := h1.box4 3 rfl
    by_cases hi : i < r
    · go_wp2
      clear x0 x1 x2 x3
      go_loopw [5] (fun v5 wr => ∃ j : Nat, v5 = .int .i64 j ∧ j ≤ c ∧ St w wr [.box B5 [.int .i64 p, .int .i64 c, .int .i64 r, .slice A5 (c * r) c5], .own (.slice A5 (c * r) c5) (tpTo r c D i j), .box (w.heap.size + 1) [.int .i64 0, .int .i64 0, .int .i64 0, .slice none 0 0], .box w.heap.size [.int .i64 p, .int .i64 r, .int .i64 c, .slice A D.length k0], .ro (.slice A D.length k0) D]) (fun v5 _ => c - (intOf v5).toNat)
      case atStart => exact ⟨0, rfl, by omega, h1⟩
      case round =>
        clear h1
        obtain ⟨j, rfl, a2, h1⟩ := hrel
        obtain ⟨x0, x1, x2, x3⟩ := h1.box4 3 rfl
        by_cases hj : j < c
        · have hbi := row_bd (c := c) hi
          have hbj := row_bd (c := r) hj
          obtain ⟨g, rfl, hn9⟩ := h1.ownSomeA 1 rfl (by rw [length_tpTo]; omega)
          have HLt := Lib.hid (show j * r + i < (tpTo r c D i j).length by rw [length_tpTo]; omega)
          have hset := tpTo_set (c := c) (j := j) D hi
          obtain ⟨x, hx⟩ : ∃ x, x = vec D (i * c + j) := ⟨_, rfl⟩
          rw [← hx] at hset
          have HA := Lib.hid (show ∀ W, Ints W (.slice A D.length k0) D → Calls Try.prog 59 #[.agg #[.int .i64 p, .int .i64 r, .int .i64 c, .slice A D.length k0], .int .i64 i, .int .i64 j] W (fun e w' => e = .returned (.int .i64 x) ∧ Below W.heap.size W w') from fun W hW => by rw [hx]; exact l1At_any p r c _ D i j W hW HDl.out (by omega) hi hj)
          obtain ⟨z1, hz1⟩ : ∃ z1, z1 = j * r := ⟨_, rfl⟩
          obtain ⟨qi, hqi⟩ : ∃ qi, qi = z1 + i := ⟨_, rfl⟩
          have e1 : (j : Int) * (r : Int) = (z1 : Int) := by rw [hz1]; simp
          have e2 : (z1 : Int) + (i : Int) = (qi : Int) := by omega
          rw [← hz1, ← hqi] at hset HLt
          have w1 : IntKind.i64.wrap (z1 : Int) = z1 := wrap_ok (by omega) (by omega)
          have w2 : IntKind.i64.wrap (qi : Int) = qi := wrap_ok (by omega) (by omega)
          have iq : (qi : Int) < ((c * r : Nat) : Int) := by omega
          have iq2 : (qi : Int) < (c : Int) * r := by rw [← Int.natCast_mul]; exact iq
          have HSet := Lib.hid hset
          clear hset hx hz1 hqi hn9 hbi hbj
          go_upto_region 8 with fail
          clear x0 x1 x2 x3
          have g0 := h1.drew
          refine wp_region_cut (S := fun w' => (w'.cell? ⟨B5, 0, none⟩ = some (.int .i64 p) ∧ w'.cell? ⟨B5, 1, none⟩ = some (.int .i64 c) ∧ w'.cell? ⟨B5, 2, none⟩ = some (.int .i64 r) ∧ w'.cell? ⟨B5, 3, none⟩ = some (.slice (some ⟨g, 0, none⟩) (c * r) c5)) ∧ w'.cell? ⟨w.heap.size, 0, none⟩ = some (.int .i64 p) ∧ w'.cell? ⟨w.heap.size, 1, none⟩ = some (.int .i64 r) ∧ w'.cell? ⟨w.heap.size, 2, none⟩ = some (.int .i64 c) ∧ w'.cell? ⟨w.heap.size, 3, none⟩ = some (.slice A D.length k0)) 13 (by kernel_rfl) (by kernel_rfl) ⟨g0.box4 0 rfl, g0.box4 3 rfl⟩ (fun hHeld => ?_)
          simp only [List.take_succ_cons, List.take_zero]
          refine anyH_take (v := ?_) 0 rfl (by kernel_rfl) (by kernel_rfl) (by kernel_rfl) (fun _ _ _ h => h) rfl ?_ hHeld ?_
          rotate_left
          · intro w' hSw
            go_simp
            try with_reducible rfl
          try simp only [Act.put, List.setIfInBounds_toArray, List.set_cons_zero, List.set_cons_succ]
          refine anyH_take (v := ?_) 1 rfl (by kernel_rfl) (by kernel_rfl) (by kernel_rfl) (fun _ _ _ h => h) rfl ?_ hHeld ?_
          rotate_left
          · intro w' hSw
            go_simp
            try with_reducible rfl
          try simp only [Act.put, List.setIfInBounds_toArray, List.set_cons_zero, List.set_cons_succ]
          refine anyH_take (v := ?_) 2 rfl (by kernel_rfl) (by kernel_rfl) (by kernel_rfl) (fun _ _ _ h => h) rfl ?_ hHeld ?_
          rotate_left
          · intro w' hSw
            go_simp
            try with_reducible rfl
          try simp only [Act.put, List.setIfInBounds_toArray, List.set_cons_zero, List.set_cons_succ]
          refine anyH_take (v := ?_) 3 rfl (by kernel_rfl) (by kernel_rfl) (by kernel_rfl) (fun _ _ _ h => h) rfl ?_ hHeld ?_
          rotate_left
          · intro w' hSw
            go_simp
            try with_reducible rfl
          try simp only [Act.put, List.setIfInBounds_toArray, List.set_cons_zero, List.set_cons_succ]
          refine anyH_take (v := ?_) 4 rfl (by kernel_rfl) (by kernel_rfl) (by kernel_rfl) (fun _ _ _ h => h) rfl ?_ hHeld ?_
          rotate_left
          · intro w' hSw
            go_simp
            try with_reducible rfl
          try simp only [Act.put, List.setIfInBounds_toArray, List.set_cons_zero, List.set_cons_succ]
          refine anyH_take (v := ?_) 5 rfl (by kernel_rfl) (by kernel_rfl) (by kernel_rfl) (fun _ _ _ h => h) rfl ?_ hHeld ?_
          rotate_left
          · intro w' hSw
            go_simp
            try with_reducible rfl
          try simp only [Act.put, List.setIfInBounds_toArray, List.set_cons_zero, List.set_cons_succ]
          refine anyH_take (v := ?_) 6 rfl (by kernel_rfl) (by kernel_rfl) (by kernel_rfl) (fun _ _ _ h => h) rfl ?_ hHeld ?_
          rotate_left
          · intro w' hSw
            go_simp
            try with_reducible rfl
          try simp only [Act.put, List.setIfInBounds_toArray, List.set_cons_zero, List.set_cons_succ]
          refine anyH_take (v := ?_) 7 rfl (by kernel_rfl) (by kernel_rfl) (by kernel_rfl) (fun _ _ _ h => h) rfl ?_ hHeld ?_
          rotate_left
          · intro w' hSw
            go_simp
            try with_reducible rfl
          try simp only [Act.put, List.setIfInBounds_toArray, List.set_cons_zero, List.set_cons_succ]
          refine anyH_take (v := ?_) 8 rfl (by kernel_rfl) (by kernel_rfl) (by kernel_rfl) (fun _ _ _ h => h) rfl ?_ hHeld ?_
          rotate_left
          · intro w' hSw
            go_simp
            try with_reducible rfl
          try simp only [Act.put, List.setIfInBounds_toArray, List.set_cons_zero, List.set_cons_succ]
          refine anyH_take (v := ?_) 9 rfl (by kernel_rfl) (by kernel_rfl) (by kernel_rfl) (fun _ _ _ h => h) rfl ?_ hHeld ?_
          rotate_left
          · intro w' hSw
            go_simp
            try with_reducible rfl
          try simp only [Act.put, List.setIfInBounds_toArray, List.set_cons_zero, List.set_cons_succ]
          refine anyH_take (v := ?_) 10 rfl (by kernel_rfl) (by kernel_rfl) (by kernel_rfl) (fun _ _ _ h => h) rfl ?_ hHeld ?_
          rotate_left
          · intro w' hSw
            go_simp
            try with_reducible rfl
          try simp only [Act.put, List.setIfInBounds_toArray, List.set_cons_zero, List.set_cons_succ]
          refine wpAnyH_ready (rs := [11]) (by kernel_rfl) (by simp) ?_
          refine ready_cons rfl (fun K hK => ?_) AllReadyH.nil
          go_simp
          refine (HA.out _ (g0.roInts 4 rfl)).mono ?_
          rintro (e : Ending) w3 ⟨rfl, hb3⟩
          have g1 := g0.on hb3
          clear hb3
          show K _ _
          refine hK.out _ _ ?_ (fun hHeld => ?_)
          · exact ⟨g1.box4 0 rfl, g1.box4 3 rfl⟩
          clear hK K
          try simp only [Act.put, List.setIfInBounds_toArray, List.set_cons_zero, List.set_cons_succ]
          refine anyH_take (v := ?_) 12 rfl (by kernel_rfl) (by kernel_rfl) (by kernel_rfl) (fun _ _ _ h => h) rfl ?_ hHeld ?_
          rotate_left
          · intro w' hSw
            go_simp
            try with_reducible rfl
          try simp only [Act.put, List.setIfInBounds_toArray, List.set_cons_zero, List.set_cons_succ]
          refine wpAnyH_done (by kernel_rfl) ?_ _
          show wpList _ _ _ _ _ _
          simp only [List.drop_succ_cons, List.drop_zero]
          clear hHeld
          obtain ⟨v0, f0⟩ := g1.ownCellA 1 rfl HLt.out
          have h4 := g1.set 1 rfl qi x
          clear h1 g0
          go_wp2
          go_roundw
          case rel => exact ⟨j + 1, by go_num, by omega, by rw [← HSet.out]; exact h4⟩
          case measure => simp [intOf]; omega
        · obtain rfl : j = c := by omega
          rw [tpTo_row] at h1
          go_wp2
          go_roundw
          case rel => exact ⟨i + 1, by go_num, by omega, h1⟩
          case measure => simp [intOf]; omega
    · obtain rfl : i = r := by omega
      rw [tpTo_end] at h1
      obtain ⟨v0, v1, v2, v3⟩ := h1.box4 0 rfl
      obtain ⟨p0, p1, p2, p3⟩ := h1.box4 2 rfl
      have f0 := h1.free 2 rfl 0
      have f1 := h1.free 2 rfl 1
      have f2 := h1.free 2 rfl 2
      have f3 := h1.free 2 rfl 3
      have h5 := (((h1.setBox 2 rfl 0 (.int .i64 p)).setBox 2 rfl 1 (.int .i64 c)).setBox 2 rfl 2 (.int .i64 i)).setBox 2 rfl 3 (.slice A5 (c * i) c5)
      obtain ⟨r0, r1, r2, r3⟩ := h5.box4 2 rfl
      go_wp2
      refine bodyPost_ret (v := .agg #[.int .i64 p, .int .i64 c, .int .i64 i, .slice A5 (c * i) c5]) (by simp [results, Try.results64, go_sem, r0, r1, r2, r3]) rfl ⟨_, rfl, h5.own 1 rfl, h5.below⟩

set_option maxHeartbeats 400000 in
theorem l1Find_any (v : Value) (l : List Int) (x : Int) (w : World) (hv : Ints w v l) :
    Calls Try.prog 72 #[v, .int .i64 x] w fun e w' => e = .returned (.int .i64 (idx (fun y => y == x) l 0)) ∧ w = w' := by
  obtain ⟨A, c, rfl, h1, h2, h3⟩ := hv
  obtain ⟨R, hR⟩ : ∃ R, R = idx (fun y => y == x) l 0 := ⟨_, rfl⟩
  rw [← hR]
  have HR := Lib.hid hR
  clear hR
  go_enter Try.func72, Try.ntmps72
  go_wp2
  go_loop [5] (fun vi => ∃ k : Nat, vi = .int .i64 k ∧ Hid (R = idx (fun y => y == x) (l.drop k) k)) (fun vi => l.length - (intOf vi).toNat)
  case atStart => exact ⟨0, rfl, HR⟩
  case round =>
    obtain ⟨k, rfl, HM⟩ := hrel
    by_cases hk : k < l.length
    · obtain ⟨b, off, rfl, hc⟩ := h3 (by omega)
      have e1 := hc k l[k] (List.getElem?_eq_getElem hk)
      have HD := Lib.hid (idx_drop (fun y => y == x) l k hk)
      clear hc h3
      by_cases hx : l[k] = x
      · have HX := Lib.hid hx
        have e2 : (l[k] == x) = true := by rw [hx]; simp
        clear hx
        go_wp2
        go_ret
        exact ⟨ret_int (by rw [HM.out, HD.out, if_pos (by simp [HX.out])]), rfl⟩
      · have e2 : (l[k] == x) = false := by rw [beq_eq_false_iff_ne]; exact hx
        go_wp2
        go_round
        case rel => exact ⟨k + 1, by go_num, by rw [HM.out, HD.out, if_neg (by simp [hx])]; exact rfl⟩
        case measure => simp [intOf]; omega
    · have HE := Lib.hid (idx_end (fun y => y == x) l k (by omega))
      clear h3
      go_wp2
      go_ret
      exact ⟨ret_int (by rw [HM.out, HE.out]), rfl⟩

/-- What l1Solve returns. -/
def solM (r c : Nat) (D V : List Int) : List (List Int) := rowsM r (c + 1) (auD r c D V)
def solB (p : Int) (r c : Nat) (D V : List Int) : Bool := decide (c ∉ pivL p (c + 1) (solM r c D V))
def solL (p : Int) (r c : Nat) (D V : List Int) : List Int := if solB p r c D V then slTo c (pivL p (c + 1) (solM r c D V)) (fun i => vec (rowOf (reduceL p (c + 1) (solM r c D V)).1 i) c) (pivL p (c + 1) (solM r c D V)).length else []
def RetOwnB (w : World) (l : List Int) (b : Bool) (e : Ending) (w' : World) : Prop := ∃ u, e = .returned (.tuple #[u, .bool b]) ∧ Own w' w.heap.size u l ∧ Below w.heap.size w w'
theorem find_piv (piv : List Nat) (c : Nat) : decide (0 ≤ idx (fun y => y == (c : Int)) (pivI piv) 0) = decide (c ∈ piv) := by
  rw [idx_any _ _ 0 (Int.le_refl _), Bool.eq_iff_iff, List.any_eq_true, decide_eq_true_eq]
  constructor
  · rintro ⟨x, hx, hc⟩
    obtain ⟨a, ha, rfl⟩ := List.mem_map.1 hx
    simp only [beq_iff_eq] at hc
    have : a = c := by omega
    exact this ▸ ha
  · intro h
    exact ⟨(c : Int), List.mem_map.2 ⟨c, h, rfl⟩, by simp⟩

set_option maxHeartbeats 8000000 in
theorem l1Solve_any (p : Int) (r c : Nat) (t v : Value) (D V : List Int) (w : World) (ht : Ints w t D) (hv : Ints w v V) (hD : D.length = r * c) (hV : V.length = r) (hr : r ≤ 40) (hc : c ≤ 40) (hP : isPrime p = true) (rD : resid p D = true) (rV : resid p V = true) :
    Calls Try.prog 65 #[.agg #[.int .i64 p, .int .i64 r, .int .i64 c, t], v] w (RetOwnB w (solL p r c D V) (solB p r c D V)) := by
  obtain ⟨b1, b2⟩ := isPrime_bd hP
  have h1 := ((((St.start w).arg ht).arg hv).box [.int .i64 p, .int .i64 r, .int .i64 c, t] 35)
  obtain ⟨A, k0, rfl, _, _, _⟩ := id ht
  obtain ⟨A2, k2, rfl, _, _, _⟩ := id hv
  obtain ⟨c1, hc1⟩ : ∃ c1, c1 = c + 1 := ⟨_, rfl⟩
  have hrc := mul_le hr hc
  have hrc1 := mul_le hr (show c1 ≤ 41 by omega)
  have hWM : Wf p (c + 1) (solM r c D V) := Wf_rowsM (by omega) (resid_auD hD hV rD rV)
  have hMl : (solM r c D V).length = r := length_rowsM _ _ _
  have hMD : rowsM r (c + 1) (auD r c D V) = solM r c D V := rfl
  obtain ⟨M, hM⟩ : ∃ M, M = solM r c D V := ⟨_, rfl⟩
  have hlB : solB p r c D V = decide (c ∉ pivL p (c + 1) M) := by rw [hM]; rfl
  have hlL : solL p r c D V = if decide (c ∉ pivL p (c + 1) M) then slTo c (pivL p (c + 1) M) (fun i => vec (rowOf (reduceL p (c + 1) M).1 i) c) (pivL p (c + 1) M).length else [] := by rw [hM]; rfl
  rw [← hM] at hWM hMl hMD
  have hRd := fun (W : World) (v : Value) (hi : Ints W v (auD r c D V)) => l1Reduce_any p r (c + 1) v (auD r c D V) W hi (length_auD _ _ _ _) (by rw [← hc1]; omega) (by omega) (by omega) hP (resid_auD hD hV rD rV)
  rw [hMD] at hRd
  have hst := reduceL_st hP hWM
  have hok := hst.ok
  obtain ⟨F, hF⟩ : ∃ F, F = (reduceL p (c + 1) M).1 := ⟨_, rfl⟩
  obtain ⟨piv, hpiv⟩ : ∃ piv, piv = pivL p (c + 1) M := ⟨_, rfl⟩
  have hpiv2 : (reduceL p (c + 1) M).2 = piv := by rw [hpiv]; rfl
  rw [hlL, hlB]
  have hplen : piv.length ≤ r := by rw [hpiv, ← hMl]; exact hok.piv
  have hplt : ∀ i, i < piv.length → pv piv i < c + 1 := by rw [hpiv]; exact hst.lt
  have hFl : F.length = r := by rw [hF, hok.len, hMl]
  have hFr : ∀ i, i < r → (rowOf F i).length = c + 1 := fun i hi => by rw [hF]; exact (hok.wf i (by rw [hok.len, hMl]; exact hi)).1
  rw [← hF, hpiv2, ← hc1] at hRd
  rw [← hF, ← hpiv]
  obtain ⟨b, hb⟩ : ∃ b, b = decide (c ∉ piv) := ⟨_, rfl⟩
  rw [← hb]
  obtain ⟨Gf, hGf⟩ : ∃ Gf : Nat → Int, Gf = fun i => vec (rowOf F i) c := ⟨_, rfl⟩
  rw [← hGf]
  obtain ⟨L0, hL0⟩ : ∃ L0, L0 = (if b = true then slTo c piv Gf piv.length else []) := ⟨_, rfl⟩
  rw [← hL0]
  have HGf := Lib.hid hGf
  have HL0 := Lib.hid hL0
  clear hL0 hGf
  have HRd := Lib.hid hRd
  have HDl := Lib.hid hD
  have HVl := Lib.hid hV
  have HFl := Lib.hid hFl
  have HFr := Lib.hid hFr
  have Hplt := Lib.hid hplt
  have Hb := Lib.hid hb
  have Hc1 := Lib.hid hc1
  have e1 : (c : Int) + 1 = (c1 : Int) := by omega
  have e2 : IntKind.i64.wrap (c1 : Int) = c1 := wrap_ok (by omega) (by omega)
  have HEn := Lib.hid (show filTo (r * c1) (auF c D V) (r * c1) = auD r c D V by rw [filTo_end, hc1]; rfl)
  clear ht hv hD hV hWM hMl hMD hM hlB hlL hRd hst hok hF hpiv hpiv2 hFl hFr hplt hb hc1
  obtain ⟨x0, x1, x2, x3⟩ := h1.box4 0 rfl
  go_enter Try.func65, Try.ntmps65
  go_wp2_with fail
  refine (l1Zero_any p r c1 _ (by omega)).mono ?_
  rintro (e : Ending) w1 ⟨u, rfl, ho, hb1⟩
  obtain ⟨A5, c5, rfl, _, _, _⟩ := id ho.ints
  rw [List.length_replicate] at ho ⊢
  replace h1 := (h1.pushOwn hb1 ho).box [.int .i64 p, .int .i64 r, .int .i64 c1, .slice A5 (r * c1) c5] 35
  clear ho hb1 x0 x1 x2 x3
  rw [show List.replicate (r * c1) 0 = filTo (r * c1) (auF c D V) (0 * c1) by rw [Nat.zero_mul, filTo_zero]] at h1
  go_wp2
  generalize w1.heap.size = B5 at h1 ⊢
  go_loopw [7] (fun v4 wr => ∃ i : Nat, v4 = .int .i64 i ∧ i ≤ r ∧ St w wr [.box B5 [.int .i64 p, .int .i64 r, .int .i64 c1, .slice A5 (r * c1) c5], .own (.slice A5 (r * c1) c5) (filTo (r * c1) (auF c D V) (i * c1)), .box w.heap.size [.int .i64 p, .int .i64 r, .int .i64 c, .slice A D.length k0], .ro (.slice A2 V.length k2) V, .ro (.slice A D.length k0) D]) (fun v4 _ => r - (intOf v4).toNat)
  case atStart => exact ⟨0, rfl, by omega, h1⟩
  case round =>
    clear h1
    obtain ⟨i, rfl, a1, h1⟩ := hrel
    obtain ⟨x0, x1, x2, x3⟩ := h1.box4 2 rfl
    by_cases hi : i < r
    · go_wp2
      clear x0 x1 x2 x3
      go_loopw [8] (fun v5 wr => ∃ j : Nat, v5 = .int .i64 j ∧ j ≤ c ∧ St w wr [.box B5 [.int .i64 p, .int .i64 r, .int .i64 c1, .slice A5 (r * c1) c5], .own (.slice A5 (r * c1) c5) (filTo (r * c1) (auF c D V) (i * c1 + j)), .box w.heap.size [.int .i64 p, .int .i64 r, .int .i64 c, .slice A D.length k0], .ro (.slice A2 V.length k2) V, .ro (.slice A D.length k0) D]) (fun v5 _ => c - (intOf v5).toNat)
      case atStart => exact ⟨0, rfl, by omega, h1⟩
      case round =>
        clear h1
        obtain ⟨j, rfl, a2, h1⟩ := hrel
        obtain ⟨x0, x1, x2, x3⟩ := h1.box4 2 rfl
        have hbi := row_bd (c := c1) hi
        have hcc := Hc1.out
        obtain ⟨g, rfl, hn9⟩ := h1.ownSomeA 1 rfl (by rw [length_filTo]; omega)
        obtain ⟨z1, hz1⟩ : ∃ z1, z1 = i * c1 := ⟨_, rfl⟩
        have e3 : (i : Int) * (c1 : Int) = (z1 : Int) := by rw [hz1]; simp
        have w1 : IntKind.i64.wrap (z1 : Int) = z1 := wrap_ok (by omega) (by omega)
        have HLt := Lib.hid (show i * c1 + j < (filTo (r * c1) (auF c D V) (i * c1 + j)).length by rw [length_filTo]; omega)
        by_cases hj : j < c
        · obtain ⟨x, hx⟩ : ∃ x, x = vec D (i * c + j) := ⟨_, rfl⟩
          have hset := filTo_set (N := r * c1) (F := auF c D V) (q := i * c1 + j) (x := x) (by rw [hx, hcc, auF_in D V hj])
          have HA := Lib.hid (show ∀ W, Ints W (.slice A D.length k0) D → Calls Try.prog 59 #[.agg #[.int .i64 p, .int .i64 r, .int .i64 c, .slice A D.length k0], .int .i64 i, .int .i64 j] W (fun e w' => e = .returned (.int .i64 x) ∧ Below W.heap.size W w') from fun W hW => by rw [hx]; exact l1At_any p r c _ D i j W hW HDl.out (by omega) hi hj)
          obtain ⟨qi, hqi⟩ : ∃ qi, qi = z1 + j := ⟨_, rfl⟩
          have e4 : (z1 : Int) + (j : Int) = (qi : Int) := by omega
          rw [← hz1, ← hqi] at hset HLt h1
          have w2 : IntKind.i64.wrap (qi : Int) = qi := wrap_ok (by omega) (by omega)
          have iq : (qi : Int) < ((r * c1 : Nat) : Int) := by omega
          have iq2 : (qi : Int) < (r : Int) * c1 := by rw [← Int.natCast_mul]; exact iq
          have HSet := Lib.hid hset
          have HN := Lib.hid (show qi + 1 = i * c1 + (j + 1) by omega)
          clear hset hx hz1 hqi hn9 hbi hcc
          go_upto_region 8 with fail
          clear x0 x1 x2 x3
          have g0 := h1.drew
          refine wp_region_cut (S := fun w' => (w'.cell? ⟨B5, 0, none⟩ = some (.int .i64 p) ∧ w'.cell? ⟨B5, 1, none⟩ = some (.int .i64 r) ∧ w'.cell? ⟨B5, 2, none⟩ = some (.int .i64 c1) ∧ w'.cell? ⟨B5, 3, none⟩ = some (.slice (some ⟨g, 0, none⟩) (r * c1) c5)) ∧ w'.cell? ⟨w.heap.size, 0, none⟩ = some (.int .i64 p) ∧ w'.cell? ⟨w.heap.size, 1, none⟩ = some (.int .i64 r) ∧ w'.cell? ⟨w.heap.size, 2, none⟩ = some (.int .i64 c) ∧ w'.cell? ⟨w.heap.size, 3, none⟩ = some (.slice A D.length k0)) 13 (by kernel_rfl) (by kernel_rfl) ⟨g0.box4 0 rfl, g0.box4 2 rfl⟩ (fun hHeld => ?_)
          simp only [List.take_succ_cons, List.take_zero]
          refine anyH_take (v := ?_) 0 rfl (by kernel_rfl) (by kernel_rfl) (by kernel_rfl) (fun _ _ _ h => h) rfl ?_ hHeld ?_
          rotate_left
          · intro w' hSw
            go_simp
            try with_reducible rfl
          try simp only [Act.put, List.setIfInBounds_toArray, List.set_cons_zero, List.set_cons_succ]
          refine anyH_take (v := ?_) 1 rfl (by kernel_rfl) (by kernel_rfl) (by kernel_rfl) (fun _ _ _ h => h) rfl ?_ hHeld ?_
          rotate_left
          · intro w' hSw
            go_simp
            try with_reducible rfl
          try simp only [Act.put, List.setIfInBounds_toArray, List.set_cons_zero, List.set_cons_succ]
          refine anyH_take (v := ?_) 2 rfl (by kernel_rfl) (by kernel_rfl) (by kernel_rfl) (fun _ _ _ h => h) rfl ?_ hHeld ?_
          rotate_left
          · intro w' hSw
            go_simp
            try with_reducible rfl
          try simp only [Act.put, List.setIfInBounds_toArray, List.set_cons_zero, List.set_cons_succ]
          refine anyH_take (v := ?_) 3 rfl (by kernel_rfl) (by kernel_rfl) (by kernel_rfl) (fun _ _ _ h => h) rfl ?_ hHeld ?_
          rotate_left
          · intro w' hSw
            go_simp
            try with_reducible rfl
          try simp only [Act.put, List.setIfInBounds_toArray, List.set_cons_zero, List.set_cons_succ]
          refine anyH_take (v := ?_) 4 rfl (by kernel_rfl) (by kernel_rfl) (by kernel_rfl) (fun _ _ _ h => h) rfl ?_ hHeld ?_
          rotate_left
          · intro w' hSw
            go_simp
            try with_reducible rfl
          try simp only [Act.put, List.setIfInBounds_toArray, List.set_cons_zero, List.set_cons_succ]
          refine anyH_take (v := ?_) 5 rfl (by kernel_rfl) (by kernel_rfl) (by kernel_rfl) (fun _ _ _ h => h) rfl ?_ hHeld ?_
          rotate_left
          · intro w' hSw
            go_simp
            try with_reducible rfl
          try simp only [Act.put, List.setIfInBounds_toArray, List.set_cons_zero, List.set_cons_succ]
          refine anyH_take (v := ?_) 6 rfl (by kernel_rfl) (by kernel_rfl) (by kernel_rfl) (fun _ _ _ h => h) rfl ?_ hHeld ?_
          rotate_left
          · intro w' hSw
            go_simp
            try with_reducible rfl
          try simp only [Act.put, List.setIfInBounds_toArray, List.set_cons_zero, List.set_cons_succ]
          refine anyH_take (v := ?_) 7 rfl (by kernel_rfl) (by kernel_rfl) (by kernel_rfl) (fun _ _ _ h => h) rfl ?_ hHeld ?_
          rotate_left
          · intro w' hSw
            go_simp
            try with_reducible rfl
          try simp only [Act.put, List.setIfInBounds_toArray, List.set_cons_zero, List.set_cons_succ]
          refine anyH_take (v := ?_) 8 rfl (by kernel_rfl) (by kernel_rfl) (by kernel_rfl) (fun _ _ _ h => h) rfl ?_ hHeld ?_
          rotate_left
          · intro w' hSw
            go_simp
            try with_reducible rfl
          try simp only [Act.put, List.setIfInBounds_toArray, List.set_cons_zero, List.set_cons_succ]
          refine anyH_take (v := ?_) 9 rfl (by kernel_rfl) (by kernel_rfl) (by kernel_rfl) (fun _ _ _ h => h) rfl ?_ hHeld ?_
          rotate_left
          · intro w' hSw
            go_simp
            try with_reducible rfl
          try simp only [Act.put, List.setIfInBounds_toArray, List.set_cons_zero, List.set_cons_succ]
          refine anyH_take (v := ?_) 10 rfl (by kernel_rfl) (by kernel_rfl) (by kernel_rfl) (fun _ _ _ h => h) rfl ?_ hHeld ?_
          rotate_left
          · intro w' hSw
            go_simp
            try with_reducible rfl
          try simp only [Act.put, List.setIfInBounds_toArray, List.set_cons_zero, List.set_cons_succ]
          refine wpAnyH_ready (rs := [11]) (by kernel_rfl) (by simp) ?_
          refine ready_cons rfl (fun K hK => ?_) AllReadyH.nil
          go_simp
          refine (HA.out _ (g0.roInts 4 rfl)).mono ?_
          rintro (e : Ending) w3 ⟨rfl, hb3⟩
          have g1 := g0.on hb3
          clear hb3
          show K _ _
          refine hK.out _ _ ?_ (fun hHeld => ?_)
          · exact ⟨g1.box4 0 rfl, g1.box4 2 rfl⟩
          clear hK K
          try simp only [Act.put, List.setIfInBounds_toArray, List.set_cons_zero, List.set_cons_succ]
          refine anyH_take (v := ?_) 12 rfl (by kernel_rfl) (by kernel_rfl) (by kernel_rfl) (fun _ _ _ h => h) rfl ?_ hHeld ?_
          rotate_left
          · intro w' hSw
            go_simp
            try with_reducible rfl
          try simp only [Act.put, List.setIfInBounds_toArray, List.set_cons_zero, List.set_cons_succ]
          refine wpAnyH_done (by kernel_rfl) ?_ _
          show wpList _ _ _ _ _ _
          simp only [List.drop_succ_cons, List.drop_zero]
          clear hHeld
          obtain ⟨v0, f0⟩ := g1.ownCellA 1 rfl HLt.out
          have h4 := g1.set 1 rfl qi x
          clear h1 g0
          go_wp2
          go_roundw
          case rel => exact ⟨j + 1, by go_num, by omega, by rw [← HN.out, ← HSet.out]; exact h4⟩
          case measure => simp [intOf]; omega
        · obtain rfl : j = c := by omega
          obtain ⟨x, hx⟩ : ∃ x, x = vec V i := ⟨_, rfl⟩
          have hset := filTo_set (N := r * c1) (F := auF j D V) (q := i * c1 + j) (x := x) (by rw [hx, hcc, auF_last])
          obtain ⟨qi, hqi⟩ : ∃ qi, qi = z1 + j := ⟨_, rfl⟩
          have e4 : (z1 : Int) + (j : Int) = (qi : Int) := by omega
          rw [← hz1, ← hqi] at hset HLt h1
          have w2 : IntKind.i64.wrap (qi : Int) = qi := wrap_ok (by omega) (by omega)
          have iq : (qi : Int) < ((r * c1 : Nat) : Int) := by omega
          have iq2 : (qi : Int) < (r : Int) * c1 := by rw [← Int.natCast_mul]; exact iq
          have iV : (i : Int) < (V.length : Int) := by rw [HVl.out]; omega
          have HSet := Lib.hid hset
          have HN := Lib.hid (show qi + 1 = (i + 1) * c1 by rw [Nat.succ_mul]; omega)
          obtain ⟨bV, oV, rfl, _, xV⟩ := (h1.ro 3 rfl).cell (k := i) (by rw [HVl.out]; exact hi)
          rw [← hx] at xV
          clear hset hx hz1 hqi hn9 hbi hcc
          go_upto_region 9 with fail
          clear x0 x1 x2 x3
          have g0 := h1.drew
          have xV0 : wr.drew.cell? ⟨bV, oV + i, none⟩ = some (.int .i64 x) := xV
          refine wp_region_cut (S := fun w' => (w'.cell? ⟨B5, 0, none⟩ = some (.int .i64 p) ∧ w'.cell? ⟨B5, 1, none⟩ = some (.int .i64 r) ∧ w'.cell? ⟨B5, 2, none⟩ = some (.int .i64 c1) ∧ w'.cell? ⟨B5, 3, none⟩ = some (.slice (some ⟨g, 0, none⟩) (r * c1) c5)) ∧ (w'.cell? ⟨w.heap.size, 0, none⟩ = some (.int .i64 p) ∧ w'.cell? ⟨w.heap.size, 1, none⟩ = some (.int .i64 r) ∧ w'.cell? ⟨w.heap.size, 2, none⟩ = some (.int .i64 j) ∧ w'.cell? ⟨w.heap.size, 3, none⟩ = some (.slice A D.length k0)) ∧ w'.cell? ⟨bV, oV + i, none⟩ = some (.int .i64 x)) 14 (by kernel_rfl) (by kernel_rfl) ⟨g0.box4 0 rfl, g0.box4 2 rfl, xV0⟩ (fun hHeld => ?_)
          simp only [List.take_succ_cons, List.take_zero]
          clear xV
          refine anyH_take (v := ?_) 0 rfl (by kernel_rfl) (by kernel_rfl) (by kernel_rfl) (fun _ _ _ h => h) rfl ?_ hHeld ?_
          rotate_left
          · intro w' hSw
            go_simp
            try with_reducible rfl
          try simp only [Act.put, List.setIfInBounds_toArray, List.set_cons_zero, List.set_cons_succ]
          refine anyH_take (v := ?_) 1 rfl (by kernel_rfl) (by kernel_rfl) (by kernel_rfl) (fun _ _ _ h => h) rfl ?_ hHeld ?_
          rotate_left
          · intro w' hSw
            go_simp
            try with_reducible rfl
          try simp only [Act.put, List.setIfInBounds_toArray, List.set_cons_zero, List.set_cons_succ]
          refine anyH_take (v := ?_) 2 rfl (by kernel_rfl) (by kernel_rfl) (by kernel_rfl) (fun _ _ _ h => h) rfl ?_ hHeld ?_
          rotate_left
          · intro w' hSw
            go_simp
            try with_reducible rfl
          try simp only [Act.put, List.setIfInBounds_toArray, List.set_cons_zero, List.set_cons_succ]
          refine anyH_take (v := ?_) 3 rfl (by kernel_rfl) (by kernel_rfl) (by kernel_rfl) (fun _ _ _ h => h) rfl ?_ hHeld ?_
          rotate_left
          · intro w' hSw
            go_simp
            try with_reducible rfl
          try simp only [Act.put, List.setIfInBounds_toArray, List.set_cons_zero, List.set_cons_succ]
          refine anyH_take (v := ?_) 4 rfl (by kernel_rfl) (by kernel_rfl) (by kernel_rfl) (fun _ _ _ h => h) rfl ?_ hHeld ?_
          rotate_left
          · intro w' hSw
            go_simp
            try with_reducible rfl
          try simp only [Act.put, List.setIfInBounds_toArray, List.set_cons_zero, List.set_cons_succ]
          refine anyH_take (v := ?_) 5 rfl (by kernel_rfl) (by kernel_rfl) (by kernel_rfl) (fun _ _ _ h => h) rfl ?_ hHeld ?_
          rotate_left
          · intro w' hSw
            go_simp
            try with_reducible rfl
          try simp only [Act.put, List.setIfInBounds_toArray, List.set_cons_zero, List.set_cons_succ]
          refine anyH_take (v := ?_) 6 rfl (by kernel_rfl) (by kernel_rfl) (by kernel_rfl) (fun _ _ _ h => h) rfl ?_ hHeld ?_
          rotate_left
          · intro w' hSw
            go_simp
            try with_reducible rfl
          try simp only [Act.put, List.setIfInBounds_toArray, List.set_cons_zero, List.set_cons_succ]
          refine anyH_take (v := ?_) 7 rfl (by kernel_rfl) (by kernel_rfl) (by kernel_rfl) (fun _ _ _ h => h) rfl ?_ hHeld ?_
          rotate_left
          · intro w' hSw
            go_simp
            try with_reducible rfl
          try simp only [Act.put, List.setIfInBounds_toArray, List.set_cons_zero, List.set_cons_succ]
          refine anyH_take (v := ?_) 8 rfl (by kernel_rfl) (by kernel_rfl) (by kernel_rfl) (fun _ _ _ h => h) rfl ?_ hHeld ?_
          rotate_left
          · intro w' hSw
            go_simp
            try with_reducible rfl
          try simp only [Act.put, List.setIfInBounds_toArray, List.set_cons_zero, List.set_cons_succ]
          refine anyH_take (v := ?_) 9 rfl (by kernel_rfl) (by kernel_rfl) (by kernel_rfl) (fun _ _ _ h => h) rfl ?_ hHeld ?_
          rotate_left
          · intro w' hSw
            go_simp
            try with_reducible rfl
          try simp only [Act.put, List.setIfInBounds_toArray, List.set_cons_zero, List.set_cons_succ]
          refine anyH_take (v := ?_) 10 rfl (by kernel_rfl) (by kernel_rfl) (by kernel_rfl) (fun _ _ _ h => h) rfl ?_ hHeld ?_
          rotate_left
          · intro w' hSw
            go_simp
            try with_reducible rfl
          try simp only [Act.put, List.setIfInBounds_toArray, List.set_cons_zero, List.set_cons_succ]
          refine anyH_take (v := ?_) 11 rfl (by kernel_rfl) (by kernel_rfl) (by kernel_rfl) (fun _ _ _ h => h) rfl ?_ hHeld ?_
          rotate_left
          · intro w' hSw
            go_simp
            try with_reducible rfl
          try simp only [Act.put, List.setIfInBounds_toArray, List.set_cons_zero, List.set_cons_succ]
          refine anyH_take (v := ?_) 12 rfl (by kernel_rfl) (by kernel_rfl) (by kernel_rfl) (fun _ _ _ h => h) rfl ?_ hHeld ?_
          rotate_left
          · intro w' hSw
            go_simp
            try with_reducible rfl
          try simp only [Act.put, List.setIfInBounds_toArray, List.set_cons_zero, List.set_cons_succ]
          refine anyH_take (v := ?_) 13 rfl (by kernel_rfl) (by kernel_rfl) (by kernel_rfl) (fun _ _ _ h => h) rfl ?_ hHeld ?_
          rotate_left
          · intro w' hSw
            go_simp
            try with_reducible rfl
          try simp only [Act.put, List.setIfInBounds_toArray, List.set_cons_zero, List.set_cons_succ]
          refine wpAnyH_done (by kernel_rfl) ?_ _
          show wpList _ _ _ _ _ _
          simp only [List.drop_succ_cons, List.drop_zero]
          clear hHeld
          clear xV0
          obtain ⟨v0, f0⟩ := g0.ownCellA 1 rfl HLt.out
          have h4 := g0.set 1 rfl qi x
          clear h1 g0
          go_wp2
          go_roundw
          case rel => exact ⟨i + 1, by go_num, by omega, by rw [← HN.out, ← HSet.out]; exact h4⟩
          case measure => simp [intOf]; omega
    · obtain rfl : i = r := by omega
      rw [HEn.out] at h1
      clear x0 x1 x2 x3
      obtain ⟨x0, x1, x2, x3⟩ := h1.box4 0 rfl
      obtain ⟨z0, z1, z2, z3⟩ := h1.box4 2 rfl
      go_wp2_with fail
      refine (HRd.out _ _ (h1.ownInts 1 rfl)).mono ?_
      rintro (e : Ending) w2 ⟨u, vp, det, rfl, h2⟩
      replace h1 := h1.pushTwo h2
      clear h2 x0 x1 x2 x3 z0 z1 z2 z3
      obtain ⟨A6, c6, rfl, _, _, _⟩ := id (h1.ownInts 0 rfl)
      obtain ⟨A7, c7, rfl, _, _, _⟩ := id (h1.ownInts 1 rfl)
      rw [length_pivI] at h1 ⊢
      have h3 := h1.box [.int .i64 p, .int .i64 i, .int .i64 c1, .slice A7 (flat c1 F).length c7] 35
      clear h1
      obtain ⟨z0, z1, z2, z3⟩ := h3.box4 5 rfl
      obtain ⟨Z, hZ⟩ : ∃ Z, Z = idx (fun y => y == (c : Int)) (pivI piv) 0 := ⟨_, rfl⟩
      have hZb := find_piv piv c
      rw [← hZ] at hZb
      have HZ := Lib.hid hZ
      have HZb := Lib.hid hZb
      clear hZ hZb
      go_wp2_with fail
      refine (l1Find_any _ (pivI piv) c _ (h3.ownInts 1 rfl)).mono ?_
      rintro (e : Ending) w3 ⟨rfl, rfl⟩
      rw [← HZ.out]
      by_cases hm : c ∈ piv
      · have hz : 0 ≤ Z := by have := HZb.out; rw [decide_eq_true hm] at this; simpa using this
        have HB : Hid (b = false) := by show _ = _; rw [Hb.out]; simp [hm]
        clear hm
        go_wp2
        rw [HB.out, show L0 = [] by rw [HL0.out, HB.out]; simp]
        refine bodyPost_ret (v := .tuple #[.slice none 0 0, .bool false]) (by simp [results, Try.results65, go_sem]) rfl ⟨_, rfl, Own.nil, h3.below⟩
      · have hz : ¬ (0 ≤ Z) := fun h => by have := HZb.out; rw [decide_eq_true h, decide_eq_false hm] at this; cases this
        have HB : Hid (b = true) := by show _ = _; rw [Hb.out]; simp [hm]
        have HNe := Lib.hid (show ∀ k, k < piv.length → pv piv k < c from fun k hk => by
          have h9 := Hplt.out k hk
          have h8 : pv piv k ≠ c := fun e => hm (e ▸ pv_mem hk)
          omega)
        have hmk := makeI c (by omega)
        have h4 := h3.zeros c (by omega)
        clear hm h3
        simp only [World.size_alloc] at h4
        go_wp2
        try simp only [World.size_alloc]
        generalize hBr : w2.heap.size = Br at h4 ⊢
        clear hBr
        go_loopw [13] (fun v13 wr => ∃ k : Nat, v13 = .int .i64 k ∧ k ≤ piv.length ∧ St w wr [.own (.slice (some ⟨Br + 1, 0, none⟩) c c) (slTo c piv Gf k), .box Br [.int .i64 p, .int .i64 i, .int .i64 c1, .slice A7 (flat c1 F).length c7], .own (.slice A6 piv.length c6) (pivI piv), .own (.slice A7 (flat c1 F).length c7) (flat c1 F), .box B5 [.int .i64 p, .int .i64 i, .int .i64 c1, .slice A5 (i * c1) c5], .own (.slice A5 (i * c1) c5) (auD i c D V), .box w.heap.size [.int .i64 p, .int .i64 i, .int .i64 c, .slice A D.length k0], .ro (.slice A2 V.length k2) V, .ro (.slice A D.length k0) D]) (fun v13 _ => piv.length - (intOf v13).toNat)
        case atStart => exact ⟨0, rfl, by omega, h4⟩
        case round =>
          clear h4
          obtain ⟨k, rfl, a3, h4⟩ := hrel
          by_cases hk : k < piv.length
          · have hki : k < i := by omega
            have hcn := HNe.out k hk
            have hc1 := Hc1.out
            have hfl := length_flat c1 F
            rw [HFl.out] at hfl
            obtain ⟨x, hx⟩ : ∃ x, x = Gf k := ⟨_, rfl⟩
            have hxv : x = vec (flat c1 F) (k * c1 + c) := by rw [vec_flat (by rw [HFl.out]; exact hki) (by omega), hx, HGf.out]
            have hset : (slTo c piv Gf k).set (pv piv k) x = slTo c piv Gf (k + 1) := by rw [hx]; rfl
            have HA := Lib.hid (show ∀ W, Ints W (.slice A7 (flat c1 F).length c7) (flat c1 F) → Calls Try.prog 59 #[.agg #[.int .i64 p, .int .i64 i, .int .i64 c1, .slice A7 (flat c1 F).length c7], .int .i64 k, .int .i64 c] W (fun e w' => e = .returned (.int .i64 x) ∧ Below W.heap.size W w') from fun W hW => by rw [hxv]; exact l1At_any p i c1 _ (flat c1 F) k c W hW hfl (by omega) hki (by omega))
            obtain ⟨gp, rfl, hq9⟩ := h4.ownSomeA 2 rfl (by rw [length_pivI]; omega)
            have HP := Lib.hid (fun (W : World) (h : W.cell? ⟨gp, k, none⟩ = some (.int .i64 (vec (pivI piv) k))) => (show W.cell? ⟨gp, k, none⟩ = some (.int .i64 (pv piv k : Nat)) by rw [← vec_pivI hk]; exact h))
            obtain ⟨ck, hck⟩ : ∃ ck, ck = pv piv k := ⟨_, rfl⟩
            rw [← hck] at hset hcn HP
            have HLt := Lib.hid (show ck < (slTo c piv Gf k).length by rw [length_slTo]; exact hcn)
            have HLp := Lib.hid (show k < (pivI piv).length by rw [length_pivI]; exact hk)
            have ip : (k : Int) < (piv.length : Int) := by omega
            have ic : (ck : Int) < (c : Int) := by omega
            have HSet := Lib.hid hset
            clear hset hx hxv hck hq9 hfl hc1
            go_upto_region 17 with fail
            have g0 := h4.drew
            refine wp_region_cut (S := fun w' => (w'.cell? ⟨Br, 0, none⟩ = some (.int .i64 p) ∧ w'.cell? ⟨Br, 1, none⟩ = some (.int .i64 i) ∧ w'.cell? ⟨Br, 2, none⟩ = some (.int .i64 c1) ∧ w'.cell? ⟨Br, 3, none⟩ = some (.slice A7 (flat c1 F).length c7)) ∧ (w'.cell? ⟨w.heap.size, 0, none⟩ = some (.int .i64 p) ∧ w'.cell? ⟨w.heap.size, 1, none⟩ = some (.int .i64 i) ∧ w'.cell? ⟨w.heap.size, 2, none⟩ = some (.int .i64 c) ∧ w'.cell? ⟨w.heap.size, 3, none⟩ = some (.slice A D.length k0)) ∧ w'.cell? ⟨gp, k, none⟩ = some (.int .i64 (ck : Nat))) 11 (by kernel_rfl) (by kernel_rfl) ⟨g0.box4 1 rfl, g0.box4 6 rfl, HP.out _ (g0.ownCellA 2 rfl HLp.out).1⟩ (fun hHeld => ?_)
            simp only [List.take_succ_cons, List.take_zero]
            refine anyH_take (v := ?_) 0 rfl (by kernel_rfl) (by kernel_rfl) (by kernel_rfl) (fun _ _ _ h => h) rfl ?_ hHeld ?_
            rotate_left
            · intro w' hSw
              go_simp
              try with_reducible rfl
            try simp only [Act.put, List.setIfInBounds_toArray, List.set_cons_zero, List.set_cons_succ]
            refine anyH_take (v := ?_) 1 rfl (by kernel_rfl) (by kernel_rfl) (by kernel_rfl) (fun _ _ _ h => h) rfl ?_ hHeld ?_
            rotate_left
            · intro w' hSw
              go_simp
              try with_reducible rfl
            try simp only [Act.put, List.setIfInBounds_toArray, List.set_cons_zero, List.set_cons_succ]
            refine anyH_take (v := ?_) 2 rfl (by kernel_rfl) (by kernel_rfl) (by kernel_rfl) (fun _ _ _ h => h) rfl ?_ hHeld ?_
            rotate_left
            · intro w' hSw
              go_simp
              try with_reducible rfl
            try simp only [Act.put, List.setIfInBounds_toArray, List.set_cons_zero, List.set_cons_succ]
            refine anyH_take (v := ?_) 3 rfl (by kernel_rfl) (by kernel_rfl) (by kernel_rfl) (fun _ _ _ h => h) rfl ?_ hHeld ?_
            rotate_left
            · intro w' hSw
              go_simp
              try with_reducible rfl
            try simp only [Act.put, List.setIfInBounds_toArray, List.set_cons_zero, List.set_cons_succ]
            refine anyH_take (v := ?_) 4 rfl (by kernel_rfl) (by kernel_rfl) (by kernel_rfl) (fun _ _ _ h => h) rfl ?_ hHeld ?_
            rotate_left
            · intro w' hSw
              go_simp
              try with_reducible rfl
            try simp only [Act.put, List.setIfInBounds_toArray, List.set_cons_zero, List.set_cons_succ]
            refine anyH_take (v := ?_) 5 rfl (by kernel_rfl) (by kernel_rfl) (by kernel_rfl) (fun _ _ _ h => h) rfl ?_ hHeld ?_
            rotate_left
            · intro w' hSw
              go_simp
              try with_reducible rfl
            try simp only [Act.put, List.setIfInBounds_toArray, List.set_cons_zero, List.set_cons_succ]
            refine anyH_take (v := ?_) 6 rfl (by kernel_rfl) (by kernel_rfl) (by kernel_rfl) (fun _ _ _ h => h) rfl ?_ hHeld ?_
            rotate_left
            · intro w' hSw
              go_simp
              try with_reducible rfl
            try simp only [Act.put, List.setIfInBounds_toArray, List.set_cons_zero, List.set_cons_succ]
            refine anyH_take (v := ?_) 7 rfl (by kernel_rfl) (by kernel_rfl) (by kernel_rfl) (fun _ _ _ h => h) rfl ?_ hHeld ?_
            rotate_left
            · intro w' hSw
              go_simp
              try with_reducible rfl
            try simp only [Act.put, List.setIfInBounds_toArray, List.set_cons_zero, List.set_cons_succ]
            refine anyH_take (v := ?_) 8 rfl (by kernel_rfl) (by kernel_rfl) (by kernel_rfl) (fun _ _ _ h => h) rfl ?_ hHeld ?_
            rotate_left
            · intro w' hSw
              go_simp
              try with_reducible rfl
            try simp only [Act.put, List.setIfInBounds_toArray, List.set_cons_zero, List.set_cons_succ]
            refine wpAnyH_ready (rs := [9]) (by kernel_rfl) (by simp) ?_
            refine ready_cons rfl (fun K hK => ?_) AllReadyH.nil
            go_simp
            refine (HA.out _ (g0.ownInts 3 rfl)).mono ?_
            rintro (e : Ending) w4 ⟨rfl, hb4⟩
            have g1 := g0.on hb4
            clear hb4
            show K _ _
            refine hK.out _ _ ?_ (fun hHeld => ?_)
            · exact ⟨g1.box4 1 rfl, g1.box4 6 rfl, HP.out _ (g1.ownCellA 2 rfl HLp.out).1⟩
            clear hK K
            try simp only [Act.put, List.setIfInBounds_toArray, List.set_cons_zero, List.set_cons_succ]
            refine anyH_take (v := ?_) 10 rfl (by kernel_rfl) (by kernel_rfl) (by kernel_rfl) (fun _ _ _ h => h) rfl ?_ hHeld ?_
            rotate_left
            · intro w' hSw
              go_simp
              try with_reducible rfl
            try simp only [Act.put, List.setIfInBounds_toArray, List.set_cons_zero, List.set_cons_succ]
            refine wpAnyH_done (by kernel_rfl) ?_ _
            show wpList _ _ _ _ _ _
            simp only [List.drop_succ_cons, List.drop_zero]
            clear hHeld
            obtain ⟨v0, f0⟩ := g1.ownCellA 0 rfl HLt.out
            have h5 := g1.set 0 rfl ck x
            clear h4 g0
            go_wp2
            go_roundw
            case rel => exact ⟨k + 1, by go_num, by omega, by rw [← HSet.out]; exact h5⟩
            case measure => simp [intOf]; omega
          · obtain rfl : k = piv.length := by omega
            go_wp2
            rw [HB.out, show L0 = slTo c piv Gf piv.length by rw [HL0.out, HB.out]; simp]
            refine bodyPost_ret (v := .tuple #[.slice (some ⟨Br + 1, 0, none⟩) c c, .bool true]) (by simp [results, Try.results65, go_sem]) rfl ⟨_, rfl, h4.own 0 rfl, h4.below⟩

end Go.Proofs.Ytbnefjhljfbecaa
