/- IsHomomorphism of the program. -/
import Derived.Test.YtechjmckfedblaaHom
import Derived.Deep.DeepCutAuto
import Derived.Test.YtechjmckfedblaaRegX
import Derived.Test.YtechjmckfedblaaArith
namespace Go.Proofs.Ytechjmckfedblaa
set_option maxRecDepth 100000
open Go.RowKit

set_option maxHeartbeats 16000000 in
theorem IsHomomorphismI_in (p : Int) (n m : Nat) (t1 t2 u : Value) (T1 T2 D : List Int) (w : World) (g1 : Ints w t1 T1) (g2 : Ints w t2 T2) (g3 : Ints w u D) (b1 : algOk p n T1 = true) (b2 : algOk p m T2 = true) (b3 : matOk p n m D = true) (hT1 : T1.length = n * n * n) (hT2 : T2.length = m * m * m) (hD : D.length = n * m) (hn : n ≤ 28) (hm : m ≤ 28) (hp : 2 ≤ p) (hp2 : p ≤ 10007) (rT1 : resid p T1 = true) (rT2 : resid p T2 = true) (rD : resid p D = true) : Calls Try.prog 58 #[.agg #[.int .i64 p, .int .i64 n, t1], .agg #[.int .i64 p, .int .i64 m, t2], .agg #[.int .i64 p, .int .i64 n, .int .i64 m, u]] w (RetBool w (homOk T1 T2 n m p D)) := by
  have h1 := ((((((St.start w).arg g1).arg g2).arg g3).box [.int .i64 p, .int .i64 n, t1] 30).box [.int .i64 p, .int .i64 m, t2] 30).box [.int .i64 p, .int .i64 n, .int .i64 m, u] 32
  simp only [World.size_alloc] at h1
  obtain ⟨A1, k1, rfl, _, _, _⟩ := id g1
  obtain ⟨A2, k2, rfl, _, _, _⟩ := id g2
  obtain ⟨A3, k3, rfl, _, _, _⟩ := id g3
  clear g1 g2 g3
  have HT1 := Lib.hid hT1
  have HT2 := Lib.hid hT2
  have HD := Lib.hid hD
  have hnm := mul_le hn hm
  obtain ⟨R, hR⟩ : ∃ R, R = homOk T1 T2 n m p D := ⟨_, rfl⟩
  rw [← hR]
  have HR : Hid (R = allF (fun i => allF (homAt T1 T2 n m p D i) i 0) (n - 0) 0) := hR
  have HLen := Lib.hid (length_rowsM n m D)
  have HWf := Lib.hid (Wf_rowsM (p := p) (by omega) (r := n) (c := m) rD)
  have HRow := Lib.hid (fun (i : Nat) (hi : i < n) => rowOf_rowsM (r := n) (c := m) (D := D) hi)
  have B1 := Lib.hid b1
  have B2 := Lib.hid b2
  have B3 := Lib.hid b3
  clear hT1 hT2 hD hR b1 b2 b3
  obtain ⟨xa0, xa1, xa2⟩ := h1.box3 2 rfl
  go_enter Try.func58, Try.ntmps58
  go_wp2_with fail
  refine (AlgebraOkI_any p n _ T1 _ (h1.roInts 5 rfl) (by omega)).mono ?_
  rintro e wn ⟨rfl, hb1⟩
  replace h1 := h1.on hb1
  clear hb1
  rw [B1.out]
  clear xa0 xa1 xa2
  obtain ⟨xb0, xb1, xb2⟩ := h1.box3 1 rfl
  go_wp2_with fail
  refine (AlgebraOkI_any p m _ T2 _ (h1.roInts 4 rfl) (by omega)).mono ?_
  rintro e wn ⟨rfl, hb1⟩
  replace h1 := h1.on hb1
  clear hb1
  rw [B2.out]
  clear xb0 xb1 xb2
  obtain ⟨xm0, xm1, xm2, xm3⟩ := h1.box4 0 rfl
  go_wp2_with fail
  refine (MatrixOkI_any p n m _ D _ (h1.roInts 3 rfl) (by omega)).mono ?_
  rintro e wn ⟨rfl, hb1⟩
  replace h1 := h1.on hb1
  clear hb1
  rw [B3.out]
  clear xm0 xm1 xm2 xm3
  obtain ⟨xm0, xm1, xm2, xm3⟩ := h1.box4 0 rfl
  obtain ⟨xb0, xb1, xb2⟩ := h1.box3 1 rfl
  obtain ⟨xa0, xa1, xa2⟩ := h1.box3 2 rfl
  have tk1 : True := trivial
  have l0 := (h1.boxLt 0 rfl).2
  have l1 := (h1.boxLt 1 rfl).2
  have l2 := (h1.boxLt 2 rfl).2
  have n1 : wn.heap.size ≠ w.heap.size := (by omega)
  have n2 : wn.heap.size ≠ w.heap.size + 1 := (by omega)
  have n3 : wn.heap.size + 1 ≠ w.heap.size := (by omega)
  have n4 : wn.heap.size + 1 ≠ w.heap.size + 1 := (by omega)
  go_upto_region 3 with fail
  go_cut [7, 8] (fun s7 s8 wx => ∃ bx by1 : Nat, s7 = .pointer (some ⟨bx, 0, none⟩) ∧ s8 = .pointer (some ⟨by1, 0, none⟩) ∧ St w wx [.box bx [.int .i64 p, .int .i64 n, .slice A1 T1.length k1], .box by1 [.int .i64 p, .int .i64 m, .slice A2 T2.length k2], .box (w.heap.size + 1 + 1) [.int .i64 p, .int .i64 n, .int .i64 m, .slice A3 D.length k3], .box (w.heap.size + 1) [.int .i64 p, .int .i64 m, .slice A2 T2.length k2], .box w.heap.size [.int .i64 p, .int .i64 n, .slice A1 T1.length k1], .ro (.slice A3 D.length k3) D, .ro (.slice A2 T2.length k2) T2, .ro (.slice A1 T1.length k1) T1])
  case first =>
    refine wp_region_cut (S := fun w' => w'.cell? ⟨w.heap.size, 0, none⟩ = some (.int .i64 p) ∧ w'.cell? ⟨w.heap.size, 1, none⟩ = some (.int .i64 n) ∧ w'.cell? ⟨w.heap.size, 2, none⟩ = some (.slice A1 T1.length k1) ∧ w'.cell? ⟨w.heap.size + 1, 0, none⟩ = some (.int .i64 p) ∧ w'.cell? ⟨w.heap.size + 1, 1, none⟩ = some (.int .i64 m) ∧ w'.cell? ⟨w.heap.size + 1, 2, none⟩ = some (.slice A2 T2.length k2)) 6 (by kernel_rfl) (by kernel_rfl) ⟨xa0, xa1, xa2, xb0, xb1, xb2⟩ (fun hHeld => ?_)
    simp only [List.take_succ_cons, List.take_zero]
    have g0 := h1.drew
    generalize wn.drew = v0 at g0 hHeld ⊢
    clear h1 xa0 xa1 xa2 xb0 xb1 xb2 xm0 xm1 xm2 xm3
    refine anyH_take (v := ?_) 0 rfl (by kernel_rfl) (by kernel_rfl) (by kernel_rfl) (fun _ _ _ h => h) rfl ?_ hHeld ?_
    rotate_left
    · intro w' hSw
      go_simp
      try with_reducible rfl
    try simp only [Act.put, List.setIfInBounds_toArray, List.set_cons_zero, List.set_cons_succ]
    refine anyH_take (v := ?_) 2 rfl (by kernel_rfl) (by kernel_rfl) (by kernel_rfl) (fun _ _ _ h => h) rfl ?_ hHeld ?_
    rotate_left
    · intro w' hSw
      go_simp
      try with_reducible rfl
    try simp only [Act.put, List.setIfInBounds_toArray, List.set_cons_zero, List.set_cons_succ]
    refine wpAnyH_ready (rs := [1, 4, 5]) (by kernel_rfl) (by simp) ?_
    refine ready_cons rfl (fun K hK => ?_) (ready_cons rfl (fun K hK => ?_) (ready_cons rfl (fun K hK => ?_) AllReadyH.nil))
    · go_simp
      refine (newLie_any p n (.slice A1 T1.length k1) A1 T1.length k1 _ rfl).mono ?_
      rintro (e : Ending) v1 ⟨rfl, hb⟩
      have g1 := g0.on hb
      clear hb
      show K _ _
      refine hK.out _ _ ?_ (fun hHeld => ?_)
      · exact ⟨(g1.box3 2 rfl).1, (g1.box3 2 rfl).2.1, (g1.box3 2 rfl).2.2, (g1.box3 1 rfl).1, (g1.box3 1 rfl).2.1, (g1.box3 1 rfl).2.2⟩
      clear hK K
      try simp only [Act.put, List.setIfInBounds_toArray, List.set_cons_zero, List.set_cons_succ]
      refine wpAnyH_ready (rs := [3, 4, 5]) (by kernel_rfl) (by simp) ?_
      refine ready_cons rfl (fun K hK => ?_) (ready_cons rfl (fun K hK => ?_) (ready_cons rfl (fun K hK => ?_) AllReadyH.nil))
      · go_simp
        refine (newLie_any p m (.slice A2 T2.length k2) A2 T2.length k2 _ rfl).mono ?_
        rintro (e : Ending) v2 ⟨rfl, hb⟩
        have g2 := g1.on hb
        clear hb
        show K _ _
        refine hK.out _ _ ?_ (fun hHeld => ?_)
        · exact ⟨(g2.box3 2 rfl).1, (g2.box3 2 rfl).2.1, (g2.box3 2 rfl).2.2, (g2.box3 1 rfl).1, (g2.box3 1 rfl).2.1, (g2.box3 1 rfl).2.2⟩
        clear hK K
        try simp only [Act.put, List.setIfInBounds_toArray, List.set_cons_zero, List.set_cons_succ]
        refine wpAnyH_ready (rs := [4, 5]) (by kernel_rfl) (by simp) ?_
        refine ready_cons rfl (fun K hK => ?_) (ready_cons rfl (fun K hK => ?_) AllReadyH.nil)
        · go_simp
          have g3 := g2.box [.int .i64 0, .int .i64 0, .slice none 0 0] 76
          refine hK.out _ _ ?_ (fun hHeld => ?_)
          · exact ⟨(g3.box3 3 rfl).1, (g3.box3 3 rfl).2.1, (g3.box3 3 rfl).2.2, (g3.box3 2 rfl).1, (g3.box3 2 rfl).2.1, (g3.box3 2 rfl).2.2⟩
          clear hK K
          generalize v2.alloc (.cells #[.int .i64 0, .int .i64 0, .slice none 0 0] 76) = v3 at g3 hHeld ⊢
          try simp only [Act.put, List.setIfInBounds_toArray, List.set_cons_zero, List.set_cons_succ]
          refine wpAnyH_ready (rs := [5]) (by kernel_rfl) (by simp) ?_
          refine ready_cons rfl (fun K hK => ?_) AllReadyH.nil
          · go_simp
            have g4 := g3.box [.int .i64 0, .int .i64 0, .slice none 0 0] 76
            refine hK.out _ _ ?_ (fun hHeld => ?_)
            · exact ⟨(g4.box3 4 rfl).1, (g4.box3 4 rfl).2.1, (g4.box3 4 rfl).2.2, (g4.box3 3 rfl).1, (g4.box3 3 rfl).2.1, (g4.box3 3 rfl).2.2⟩
            clear hK K
            generalize v3.alloc (.cells #[.int .i64 0, .int .i64 0, .slice none 0 0] 76) = v4 at g4 hHeld ⊢
            try simp only [Act.put, List.setIfInBounds_toArray, List.set_cons_zero, List.set_cons_succ]
            refine wpAnyH_done (by kernel_rfl) ?_ _
            show wpList _ _ _ _ _ _
            simp only [List.drop_succ_cons, List.drop_zero]
            obtain ⟨p0, p1, p2⟩ := g4.box3 1 rfl
            have f0 := g4.free 1 rfl 0
            have f1 := g4.free 1 rfl 1
            have f2 := g4.free 1 rfl 2
            have q1 := ((g4.setBox 1 rfl 0 (.int .i64 p)).setBox 1 rfl 1 (.int .i64 n)).setBox 1 rfl 2 (.slice A1 T1.length k1)
            obtain ⟨r0, r1, r2⟩ := q1.box3 0 rfl
            have t0 := q1.free 0 rfl 0
            have t1 := q1.free 0 rfl 1
            have t2 := q1.free 0 rfl 2
            have q2 := ((q1.setBox 0 rfl 0 (.int .i64 p)).setBox 0 rfl 1 (.int .i64 m)).setBox 0 rfl 2 (.slice A2 T2.length k2)
            go_wp2_with fail
            go_meet
            exact ⟨_, _, rfl, rfl, St.swap2 q2⟩
        · go_simp
          have g3 := g2.box [.int .i64 0, .int .i64 0, .slice none 0 0] 76
          refine hK.out _ _ ?_ (fun hHeld => ?_)
          · exact ⟨(g3.box3 3 rfl).1, (g3.box3 3 rfl).2.1, (g3.box3 3 rfl).2.2, (g3.box3 2 rfl).1, (g3.box3 2 rfl).2.1, (g3.box3 2 rfl).2.2⟩
          clear hK K
          generalize v2.alloc (.cells #[.int .i64 0, .int .i64 0, .slice none 0 0] 76) = v3 at g3 hHeld ⊢
          try simp only [Act.put, List.setIfInBounds_toArray, List.set_cons_zero, List.set_cons_succ]
          refine wpAnyH_ready (rs := [4]) (by kernel_rfl) (by simp) ?_
          refine ready_cons rfl (fun K hK => ?_) AllReadyH.nil
          · go_simp
            have g4 := g3.box [.int .i64 0, .int .i64 0, .slice none 0 0] 76
            refine hK.out _ _ ?_ (fun hHeld => ?_)
            · exact ⟨(g4.box3 4 rfl).1, (g4.box3 4 rfl).2.1, (g4.box3 4 rfl).2.2, (g4.box3 3 rfl).1, (g4.box3 3 rfl).2.1, (g4.box3 3 rfl).2.2⟩
            clear hK K
            generalize v3.alloc (.cells #[.int .i64 0, .int .i64 0, .slice none 0 0] 76) = v4 at g4 hHeld ⊢
            try simp only [Act.put, List.setIfInBounds_toArray, List.set_cons_zero, List.set_cons_succ]
            refine wpAnyH_done (by kernel_rfl) ?_ _
            show wpList _ _ _ _ _ _
            simp only [List.drop_succ_cons, List.drop_zero]
            obtain ⟨p0, p1, p2⟩ := g4.box3 0 rfl
            have f0 := g4.free 0 rfl 0
            have f1 := g4.free 0 rfl 1
            have f2 := g4.free 0 rfl 2
            have q1 := ((g4.setBox 0 rfl 0 (.int .i64 p)).setBox 0 rfl 1 (.int .i64 n)).setBox 0 rfl 2 (.slice A1 T1.length k1)
            obtain ⟨r0, r1, r2⟩ := q1.box3 1 rfl
            have t0 := q1.free 1 rfl 0
            have t1 := q1.free 1 rfl 1
            have t2 := q1.free 1 rfl 2
            have q2 := ((q1.setBox 1 rfl 0 (.int .i64 p)).setBox 1 rfl 1 (.int .i64 m)).setBox 1 rfl 2 (.slice A2 T2.length k2)
            go_wp2_with fail
            go_meet
            exact ⟨_, _, rfl, rfl, q2⟩
      · go_simp
        have g2 := g1.box [.int .i64 0, .int .i64 0, .slice none 0 0] 76
        refine hK.out _ _ ?_ (fun hHeld => ?_)
        · exact ⟨(g2.box3 3 rfl).1, (g2.box3 3 rfl).2.1, (g2.box3 3 rfl).2.2, (g2.box3 2 rfl).1, (g2.box3 2 rfl).2.1, (g2.box3 2 rfl).2.2⟩
        clear hK K
        generalize v1.alloc (.cells #[.int .i64 0, .int .i64 0, .slice none 0 0] 76) = v2 at g2 hHeld ⊢
        try simp only [Act.put, List.setIfInBounds_toArray, List.set_cons_zero, List.set_cons_succ]
        refine wpAnyH_ready (rs := [3, 5]) (by kernel_rfl) (by simp) ?_
        refine ready_cons rfl (fun K hK => ?_) (ready_cons rfl (fun K hK => ?_) AllReadyH.nil)
        · go_simp
          refine (newLie_any p m (.slice A2 T2.length k2) A2 T2.length k2 _ rfl).mono ?_
          rintro (e : Ending) v3 ⟨rfl, hb⟩
          have g3 := g2.on hb
          clear hb
          show K _ _
          refine hK.out _ _ ?_ (fun hHeld => ?_)
          · exact ⟨(g3.box3 3 rfl).1, (g3.box3 3 rfl).2.1, (g3.box3 3 rfl).2.2, (g3.box3 2 rfl).1, (g3.box3 2 rfl).2.1, (g3.box3 2 rfl).2.2⟩
          clear hK K
          try simp only [Act.put, List.setIfInBounds_toArray, List.set_cons_zero, List.set_cons_succ]
          refine wpAnyH_ready (rs := [5]) (by kernel_rfl) (by simp) ?_
          refine ready_cons rfl (fun K hK => ?_) AllReadyH.nil
          · go_simp
            have g4 := g3.box [.int .i64 0, .int .i64 0, .slice none 0 0] 76
            refine hK.out _ _ ?_ (fun hHeld => ?_)
            · exact ⟨(g4.box3 4 rfl).1, (g4.box3 4 rfl).2.1, (g4.box3 4 rfl).2.2, (g4.box3 3 rfl).1, (g4.box3 3 rfl).2.1, (g4.box3 3 rfl).2.2⟩
            clear hK K
            generalize v3.alloc (.cells #[.int .i64 0, .int .i64 0, .slice none 0 0] 76) = v4 at g4 hHeld ⊢
            try simp only [Act.put, List.setIfInBounds_toArray, List.set_cons_zero, List.set_cons_succ]
            refine wpAnyH_done (by kernel_rfl) ?_ _
            show wpList _ _ _ _ _ _
            simp only [List.drop_succ_cons, List.drop_zero]
            obtain ⟨p0, p1, p2⟩ := g4.box3 1 rfl
            have f0 := g4.free 1 rfl 0
            have f1 := g4.free 1 rfl 1
            have f2 := g4.free 1 rfl 2
            have q1 := ((g4.setBox 1 rfl 0 (.int .i64 p)).setBox 1 rfl 1 (.int .i64 n)).setBox 1 rfl 2 (.slice A1 T1.length k1)
            obtain ⟨r0, r1, r2⟩ := q1.box3 0 rfl
            have t0 := q1.free 0 rfl 0
            have t1 := q1.free 0 rfl 1
            have t2 := q1.free 0 rfl 2
            have q2 := ((q1.setBox 0 rfl 0 (.int .i64 p)).setBox 0 rfl 1 (.int .i64 m)).setBox 0 rfl 2 (.slice A2 T2.length k2)
            go_wp2_with fail
            go_meet
            exact ⟨_, _, rfl, rfl, St.swap2 q2⟩
        · go_simp
          have g3 := g2.box [.int .i64 0, .int .i64 0, .slice none 0 0] 76
          refine hK.out _ _ ?_ (fun hHeld => ?_)
          · exact ⟨(g3.box3 4 rfl).1, (g3.box3 4 rfl).2.1, (g3.box3 4 rfl).2.2, (g3.box3 3 rfl).1, (g3.box3 3 rfl).2.1, (g3.box3 3 rfl).2.2⟩
          clear hK K
          generalize v2.alloc (.cells #[.int .i64 0, .int .i64 0, .slice none 0 0] 76) = v3 at g3 hHeld ⊢
          try simp only [Act.put, List.setIfInBounds_toArray, List.set_cons_zero, List.set_cons_succ]
          refine wpAnyH_ready (rs := [3]) (by kernel_rfl) (by simp) ?_
          refine ready_cons rfl (fun K hK => ?_) AllReadyH.nil
          · go_simp
            refine (newLie_any p m (.slice A2 T2.length k2) A2 T2.length k2 _ rfl).mono ?_
            rintro (e : Ending) v4 ⟨rfl, hb⟩
            have g4 := g3.on hb
            clear hb
            show K _ _
            refine hK.out _ _ ?_ (fun hHeld => ?_)
            · exact ⟨(g4.box3 4 rfl).1, (g4.box3 4 rfl).2.1, (g4.box3 4 rfl).2.2, (g4.box3 3 rfl).1, (g4.box3 3 rfl).2.1, (g4.box3 3 rfl).2.2⟩
            clear hK K
            try simp only [Act.put, List.setIfInBounds_toArray, List.set_cons_zero, List.set_cons_succ]
            refine wpAnyH_done (by kernel_rfl) ?_ _
            show wpList _ _ _ _ _ _
            simp only [List.drop_succ_cons, List.drop_zero]
            obtain ⟨p0, p1, p2⟩ := g4.box3 1 rfl
            have f0 := g4.free 1 rfl 0
            have f1 := g4.free 1 rfl 1
            have f2 := g4.free 1 rfl 2
            have q1 := ((g4.setBox 1 rfl 0 (.int .i64 p)).setBox 1 rfl 1 (.int .i64 n)).setBox 1 rfl 2 (.slice A1 T1.length k1)
            obtain ⟨r0, r1, r2⟩ := q1.box3 0 rfl
            have t0 := q1.free 0 rfl 0
            have t1 := q1.free 0 rfl 1
            have t2 := q1.free 0 rfl 2
            have q2 := ((q1.setBox 0 rfl 0 (.int .i64 p)).setBox 0 rfl 1 (.int .i64 m)).setBox 0 rfl 2 (.slice A2 T2.length k2)
            go_wp2_with fail
            go_meet
            exact ⟨_, _, rfl, rfl, St.swap2 q2⟩
      · go_simp
        have g2 := g1.box [.int .i64 0, .int .i64 0, .slice none 0 0] 76
        refine hK.out _ _ ?_ (fun hHeld => ?_)
        · exact ⟨(g2.box3 3 rfl).1, (g2.box3 3 rfl).2.1, (g2.box3 3 rfl).2.2, (g2.box3 2 rfl).1, (g2.box3 2 rfl).2.1, (g2.box3 2 rfl).2.2⟩
        clear hK K
        generalize v1.alloc (.cells #[.int .i64 0, .int .i64 0, .slice none 0 0] 76) = v2 at g2 hHeld ⊢
        try simp only [Act.put, List.setIfInBounds_toArray, List.set_cons_zero, List.set_cons_succ]
        refine wpAnyH_ready (rs := [3, 4]) (by kernel_rfl) (by simp) ?_
        refine ready_cons rfl (fun K hK => ?_) (ready_cons rfl (fun K hK => ?_) AllReadyH.nil)
        · go_simp
          refine (newLie_any p m (.slice A2 T2.length k2) A2 T2.length k2 _ rfl).mono ?_
          rintro (e : Ending) v3 ⟨rfl, hb⟩
          have g3 := g2.on hb
          clear hb
          show K _ _
          refine hK.out _ _ ?_ (fun hHeld => ?_)
          · exact ⟨(g3.box3 3 rfl).1, (g3.box3 3 rfl).2.1, (g3.box3 3 rfl).2.2, (g3.box3 2 rfl).1, (g3.box3 2 rfl).2.1, (g3.box3 2 rfl).2.2⟩
          clear hK K
          try simp only [Act.put, List.setIfInBounds_toArray, List.set_cons_zero, List.set_cons_succ]
          refine wpAnyH_ready (rs := [4]) (by kernel_rfl) (by simp) ?_
          refine ready_cons rfl (fun K hK => ?_) AllReadyH.nil
          · go_simp
            have g4 := g3.box [.int .i64 0, .int .i64 0, .slice none 0 0] 76
            refine hK.out _ _ ?_ (fun hHeld => ?_)
            · exact ⟨(g4.box3 4 rfl).1, (g4.box3 4 rfl).2.1, (g4.box3 4 rfl).2.2, (g4.box3 3 rfl).1, (g4.box3 3 rfl).2.1, (g4.box3 3 rfl).2.2⟩
            clear hK K
            generalize v3.alloc (.cells #[.int .i64 0, .int .i64 0, .slice none 0 0] 76) = v4 at g4 hHeld ⊢
            try simp only [Act.put, List.setIfInBounds_toArray, List.set_cons_zero, List.set_cons_succ]
            refine wpAnyH_done (by kernel_rfl) ?_ _
            show wpList _ _ _ _ _ _
            simp only [List.drop_succ_cons, List.drop_zero]
            obtain ⟨p0, p1, p2⟩ := g4.box3 0 rfl
            have f0 := g4.free 0 rfl 0
            have f1 := g4.free 0 rfl 1
            have f2 := g4.free 0 rfl 2
            have q1 := ((g4.setBox 0 rfl 0 (.int .i64 p)).setBox 0 rfl 1 (.int .i64 n)).setBox 0 rfl 2 (.slice A1 T1.length k1)
            obtain ⟨r0, r1, r2⟩ := q1.box3 1 rfl
            have t0 := q1.free 1 rfl 0
            have t1 := q1.free 1 rfl 1
            have t2 := q1.free 1 rfl 2
            have q2 := ((q1.setBox 1 rfl 0 (.int .i64 p)).setBox 1 rfl 1 (.int .i64 m)).setBox 1 rfl 2 (.slice A2 T2.length k2)
            go_wp2_with fail
            go_meet
            exact ⟨_, _, rfl, rfl, q2⟩
        · go_simp
          have g3 := g2.box [.int .i64 0, .int .i64 0, .slice none 0 0] 76
          refine hK.out _ _ ?_ (fun hHeld => ?_)
          · exact ⟨(g3.box3 4 rfl).1, (g3.box3 4 rfl).2.1, (g3.box3 4 rfl).2.2, (g3.box3 3 rfl).1, (g3.box3 3 rfl).2.1, (g3.box3 3 rfl).2.2⟩
          clear hK K
          generalize v2.alloc (.cells #[.int .i64 0, .int .i64 0, .slice none 0 0] 76) = v3 at g3 hHeld ⊢
          try simp only [Act.put, List.setIfInBounds_toArray, List.set_cons_zero, List.set_cons_succ]
          refine wpAnyH_ready (rs := [3]) (by kernel_rfl) (by simp) ?_
          refine ready_cons rfl (fun K hK => ?_) AllReadyH.nil
          · go_simp
            refine (newLie_any p m (.slice A2 T2.length k2) A2 T2.length k2 _ rfl).mono ?_
            rintro (e : Ending) v4 ⟨rfl, hb⟩
            have g4 := g3.on hb
            clear hb
            show K _ _
            refine hK.out _ _ ?_ (fun hHeld => ?_)
            · exact ⟨(g4.box3 4 rfl).1, (g4.box3 4 rfl).2.1, (g4.box3 4 rfl).2.2, (g4.box3 3 rfl).1, (g4.box3 3 rfl).2.1, (g4.box3 3 rfl).2.2⟩
            clear hK K
            try simp only [Act.put, List.setIfInBounds_toArray, List.set_cons_zero, List.set_cons_succ]
            refine wpAnyH_done (by kernel_rfl) ?_ _
            show wpList _ _ _ _ _ _
            simp only [List.drop_succ_cons, List.drop_zero]
            obtain ⟨p0, p1, p2⟩ := g4.box3 0 rfl
            have f0 := g4.free 0 rfl 0
            have f1 := g4.free 0 rfl 1
            have f2 := g4.free 0 rfl 2
            have q1 := ((g4.setBox 0 rfl 0 (.int .i64 p)).setBox 0 rfl 1 (.int .i64 n)).setBox 0 rfl 2 (.slice A1 T1.length k1)
            obtain ⟨r0, r1, r2⟩ := q1.box3 1 rfl
            have t0 := q1.free 1 rfl 0
            have t1 := q1.free 1 rfl 1
            have t2 := q1.free 1 rfl 2
            have q2 := ((q1.setBox 1 rfl 0 (.int .i64 p)).setBox 1 rfl 1 (.int .i64 m)).setBox 1 rfl 2 (.slice A2 T2.length k2)
            go_wp2_with fail
            go_meet
            exact ⟨_, _, rfl, rfl, q2⟩
    · go_simp
      have g1 := g0.box [.int .i64 0, .int .i64 0, .slice none 0 0] 76
      refine hK.out _ _ ?_ (fun hHeld => ?_)
      · exact ⟨(g1.box3 3 rfl).1, (g1.box3 3 rfl).2.1, (g1.box3 3 rfl).2.2, (g1.box3 2 rfl).1, (g1.box3 2 rfl).2.1, (g1.box3 2 rfl).2.2⟩
      clear hK K
      generalize v0.alloc (.cells #[.int .i64 0, .int .i64 0, .slice none 0 0] 76) = v1 at g1 hHeld ⊢
      try simp only [Act.put, List.setIfInBounds_toArray, List.set_cons_zero, List.set_cons_succ]
      refine wpAnyH_ready (rs := [1, 5]) (by kernel_rfl) (by simp) ?_
      refine ready_cons rfl (fun K hK => ?_) (ready_cons rfl (fun K hK => ?_) AllReadyH.nil)
      · go_simp
        refine (newLie_any p n (.slice A1 T1.length k1) A1 T1.length k1 _ rfl).mono ?_
        rintro (e : Ending) v2 ⟨rfl, hb⟩
        have g2 := g1.on hb
        clear hb
        show K _ _
        refine hK.out _ _ ?_ (fun hHeld => ?_)
        · exact ⟨(g2.box3 3 rfl).1, (g2.box3 3 rfl).2.1, (g2.box3 3 rfl).2.2, (g2.box3 2 rfl).1, (g2.box3 2 rfl).2.1, (g2.box3 2 rfl).2.2⟩
        clear hK K
        try simp only [Act.put, List.setIfInBounds_toArray, List.set_cons_zero, List.set_cons_succ]
        refine wpAnyH_ready (rs := [3, 5]) (by kernel_rfl) (by simp) ?_
        refine ready_cons rfl (fun K hK => ?_) (ready_cons rfl (fun K hK => ?_) AllReadyH.nil)
        · go_simp
          refine (newLie_any p m (.slice A2 T2.length k2) A2 T2.length k2 _ rfl).mono ?_
          rintro (e : Ending) v3 ⟨rfl, hb⟩
          have g3 := g2.on hb
          clear hb
          show K _ _
          refine hK.out _ _ ?_ (fun hHeld => ?_)
          · exact ⟨(g3.box3 3 rfl).1, (g3.box3 3 rfl).2.1, (g3.box3 3 rfl).2.2, (g3.box3 2 rfl).1, (g3.box3 2 rfl).2.1, (g3.box3 2 rfl).2.2⟩
          clear hK K
          try simp only [Act.put, List.setIfInBounds_toArray, List.set_cons_zero, List.set_cons_succ]
          refine wpAnyH_ready (rs := [5]) (by kernel_rfl) (by simp) ?_
          refine ready_cons rfl (fun K hK => ?_) AllReadyH.nil
          · go_simp
            have g4 := g3.box [.int .i64 0, .int .i64 0, .slice none 0 0] 76
            refine hK.out _ _ ?_ (fun hHeld => ?_)
            · exact ⟨(g4.box3 4 rfl).1, (g4.box3 4 rfl).2.1, (g4.box3 4 rfl).2.2, (g4.box3 3 rfl).1, (g4.box3 3 rfl).2.1, (g4.box3 3 rfl).2.2⟩
            clear hK K
            generalize v3.alloc (.cells #[.int .i64 0, .int .i64 0, .slice none 0 0] 76) = v4 at g4 hHeld ⊢
            try simp only [Act.put, List.setIfInBounds_toArray, List.set_cons_zero, List.set_cons_succ]
            refine wpAnyH_done (by kernel_rfl) ?_ _
            show wpList _ _ _ _ _ _
            simp only [List.drop_succ_cons, List.drop_zero]
            obtain ⟨p0, p1, p2⟩ := g4.box3 1 rfl
            have f0 := g4.free 1 rfl 0
            have f1 := g4.free 1 rfl 1
            have f2 := g4.free 1 rfl 2
            have q1 := ((g4.setBox 1 rfl 0 (.int .i64 p)).setBox 1 rfl 1 (.int .i64 n)).setBox 1 rfl 2 (.slice A1 T1.length k1)
            obtain ⟨r0, r1, r2⟩ := q1.box3 0 rfl
            have t0 := q1.free 0 rfl 0
            have t1 := q1.free 0 rfl 1
            have t2 := q1.free 0 rfl 2
            have q2 := ((q1.setBox 0 rfl 0 (.int .i64 p)).setBox 0 rfl 1 (.int .i64 m)).setBox 0 rfl 2 (.slice A2 T2.length k2)
            go_wp2_with fail
            go_meet
            exact ⟨_, _, rfl, rfl, St.swap2 q2⟩
        · go_simp
          have g3 := g2.box [.int .i64 0, .int .i64 0, .slice none 0 0] 76
          refine hK.out _ _ ?_ (fun hHeld => ?_)
          · exact ⟨(g3.box3 4 rfl).1, (g3.box3 4 rfl).2.1, (g3.box3 4 rfl).2.2, (g3.box3 3 rfl).1, (g3.box3 3 rfl).2.1, (g3.box3 3 rfl).2.2⟩
          clear hK K
          generalize v2.alloc (.cells #[.int .i64 0, .int .i64 0, .slice none 0 0] 76) = v3 at g3 hHeld ⊢
          try simp only [Act.put, List.setIfInBounds_toArray, List.set_cons_zero, List.set_cons_succ]
          refine wpAnyH_ready (rs := [3]) (by kernel_rfl) (by simp) ?_
          refine ready_cons rfl (fun K hK => ?_) AllReadyH.nil
          · go_simp
            refine (newLie_any p m (.slice A2 T2.length k2) A2 T2.length k2 _ rfl).mono ?_
            rintro (e : Ending) v4 ⟨rfl, hb⟩
            have g4 := g3.on hb
            clear hb
            show K _ _
            refine hK.out _ _ ?_ (fun hHeld => ?_)
            · exact ⟨(g4.box3 4 rfl).1, (g4.box3 4 rfl).2.1, (g4.box3 4 rfl).2.2, (g4.box3 3 rfl).1, (g4.box3 3 rfl).2.1, (g4.box3 3 rfl).2.2⟩
            clear hK K
            try simp only [Act.put, List.setIfInBounds_toArray, List.set_cons_zero, List.set_cons_succ]
            refine wpAnyH_done (by kernel_rfl) ?_ _
            show wpList _ _ _ _ _ _
            simp only [List.drop_succ_cons, List.drop_zero]
            obtain ⟨p0, p1, p2⟩ := g4.box3 1 rfl
            have f0 := g4.free 1 rfl 0
            have f1 := g4.free 1 rfl 1
            have f2 := g4.free 1 rfl 2
            have q1 := ((g4.setBox 1 rfl 0 (.int .i64 p)).setBox 1 rfl 1 (.int .i64 n)).setBox 1 rfl 2 (.slice A1 T1.length k1)
            obtain ⟨r0, r1, r2⟩ := q1.box3 0 rfl
            have t0 := q1.free 0 rfl 0
            have t1 := q1.free 0 rfl 1
            have t2 := q1.free 0 rfl 2
            have q2 := ((q1.setBox 0 rfl 0 (.int .i64 p)).setBox 0 rfl 1 (.int .i64 m)).setBox 0 rfl 2 (.slice A2 T2.length k2)
            go_wp2_with fail
            go_meet
            exact ⟨_, _, rfl, rfl, St.swap2 q2⟩
      · go_simp
        have g2 := g1.box [.int .i64 0, .int .i64 0, .slice none 0 0] 76
        refine hK.out _ _ ?_ (fun hHeld => ?_)
        · exact ⟨(g2.box3 4 rfl).1, (g2.box3 4 rfl).2.1, (g2.box3 4 rfl).2.2, (g2.box3 3 rfl).1, (g2.box3 3 rfl).2.1, (g2.box3 3 rfl).2.2⟩
        clear hK K
        generalize v1.alloc (.cells #[.int .i64 0, .int .i64 0, .slice none 0 0] 76) = v2 at g2 hHeld ⊢
        try simp only [Act.put, List.setIfInBounds_toArray, List.set_cons_zero, List.set_cons_succ]
        refine wpAnyH_ready (rs := [1]) (by kernel_rfl) (by simp) ?_
        refine ready_cons rfl (fun K hK => ?_) AllReadyH.nil
        · go_simp
          refine (newLie_any p n (.slice A1 T1.length k1) A1 T1.length k1 _ rfl).mono ?_
          rintro (e : Ending) v3 ⟨rfl, hb⟩
          have g3 := g2.on hb
          clear hb
          show K _ _
          refine hK.out _ _ ?_ (fun hHeld => ?_)
          · exact ⟨(g3.box3 4 rfl).1, (g3.box3 4 rfl).2.1, (g3.box3 4 rfl).2.2, (g3.box3 3 rfl).1, (g3.box3 3 rfl).2.1, (g3.box3 3 rfl).2.2⟩
          clear hK K
          try simp only [Act.put, List.setIfInBounds_toArray, List.set_cons_zero, List.set_cons_succ]
          refine wpAnyH_ready (rs := [3]) (by kernel_rfl) (by simp) ?_
          refine ready_cons rfl (fun K hK => ?_) AllReadyH.nil
          · go_simp
            refine (newLie_any p m (.slice A2 T2.length k2) A2 T2.length k2 _ rfl).mono ?_
            rintro (e : Ending) v4 ⟨rfl, hb⟩
            have g4 := g3.on hb
            clear hb
            show K _ _
            refine hK.out _ _ ?_ (fun hHeld => ?_)
            · exact ⟨(g4.box3 4 rfl).1, (g4.box3 4 rfl).2.1, (g4.box3 4 rfl).2.2, (g4.box3 3 rfl).1, (g4.box3 3 rfl).2.1, (g4.box3 3 rfl).2.2⟩
            clear hK K
            try simp only [Act.put, List.setIfInBounds_toArray, List.set_cons_zero, List.set_cons_succ]
            refine wpAnyH_done (by kernel_rfl) ?_ _
            show wpList _ _ _ _ _ _
            simp only [List.drop_succ_cons, List.drop_zero]
            obtain ⟨p0, p1, p2⟩ := g4.box3 1 rfl
            have f0 := g4.free 1 rfl 0
            have f1 := g4.free 1 rfl 1
            have f2 := g4.free 1 rfl 2
            have q1 := ((g4.setBox 1 rfl 0 (.int .i64 p)).setBox 1 rfl 1 (.int .i64 n)).setBox 1 rfl 2 (.slice A1 T1.length k1)
            obtain ⟨r0, r1, r2⟩ := q1.box3 0 rfl
            have t0 := q1.free 0 rfl 0
            have t1 := q1.free 0 rfl 1
            have t2 := q1.free 0 rfl 2
            have q2 := ((q1.setBox 0 rfl 0 (.int .i64 p)).setBox 0 rfl 1 (.int .i64 m)).setBox 0 rfl 2 (.slice A2 T2.length k2)
            go_wp2_with fail
            go_meet
            exact ⟨_, _, rfl, rfl, St.swap2 q2⟩
    · go_simp
      have g1 := g0.box [.int .i64 0, .int .i64 0, .slice none 0 0] 76
      refine hK.out _ _ ?_ (fun hHeld => ?_)
      · exact ⟨(g1.box3 3 rfl).1, (g1.box3 3 rfl).2.1, (g1.box3 3 rfl).2.2, (g1.box3 2 rfl).1, (g1.box3 2 rfl).2.1, (g1.box3 2 rfl).2.2⟩
      clear hK K
      generalize v0.alloc (.cells #[.int .i64 0, .int .i64 0, .slice none 0 0] 76) = v1 at g1 hHeld ⊢
      try simp only [Act.put, List.setIfInBounds_toArray, List.set_cons_zero, List.set_cons_succ]
      refine wpAnyH_ready (rs := [1, 4]) (by kernel_rfl) (by simp) ?_
      refine ready_cons rfl (fun K hK => ?_) (ready_cons rfl (fun K hK => ?_) AllReadyH.nil)
      · go_simp
        refine (newLie_any p n (.slice A1 T1.length k1) A1 T1.length k1 _ rfl).mono ?_
        rintro (e : Ending) v2 ⟨rfl, hb⟩
        have g2 := g1.on hb
        clear hb
        show K _ _
        refine hK.out _ _ ?_ (fun hHeld => ?_)
        · exact ⟨(g2.box3 3 rfl).1, (g2.box3 3 rfl).2.1, (g2.box3 3 rfl).2.2, (g2.box3 2 rfl).1, (g2.box3 2 rfl).2.1, (g2.box3 2 rfl).2.2⟩
        clear hK K
        try simp only [Act.put, List.setIfInBounds_toArray, List.set_cons_zero, List.set_cons_succ]
        refine wpAnyH_ready (rs := [3, 4]) (by kernel_rfl) (by simp) ?_
        refine ready_cons rfl (fun K hK => ?_) (ready_cons rfl (fun K hK => ?_) AllReadyH.nil)
        · go_simp
          refine (newLie_any p m (.slice A2 T2.length k2) A2 T2.length k2 _ rfl).mono ?_
          rintro (e : Ending) v3 ⟨rfl, hb⟩
          have g3 := g2.on hb
          clear hb
          show K _ _
          refine hK.out _ _ ?_ (fun hHeld => ?_)
          · exact ⟨(g3.box3 3 rfl).1, (g3.box3 3 rfl).2.1, (g3.box3 3 rfl).2.2, (g3.box3 2 rfl).1, (g3.box3 2 rfl).2.1, (g3.box3 2 rfl).2.2⟩
          clear hK K
          try simp only [Act.put, List.setIfInBounds_toArray, List.set_cons_zero, List.set_cons_succ]
          refine wpAnyH_ready (rs := [4]) (by kernel_rfl) (by simp) ?_
          refine ready_cons rfl (fun K hK => ?_) AllReadyH.nil
          · go_simp
            have g4 := g3.box [.int .i64 0, .int .i64 0, .slice none 0 0] 76
            refine hK.out _ _ ?_ (fun hHeld => ?_)
            · exact ⟨(g4.box3 4 rfl).1, (g4.box3 4 rfl).2.1, (g4.box3 4 rfl).2.2, (g4.box3 3 rfl).1, (g4.box3 3 rfl).2.1, (g4.box3 3 rfl).2.2⟩
            clear hK K
            generalize v3.alloc (.cells #[.int .i64 0, .int .i64 0, .slice none 0 0] 76) = v4 at g4 hHeld ⊢
            try simp only [Act.put, List.setIfInBounds_toArray, List.set_cons_zero, List.set_cons_succ]
            refine wpAnyH_done (by kernel_rfl) ?_ _
            show wpList _ _ _ _ _ _
            simp only [List.drop_succ_cons, List.drop_zero]
            obtain ⟨p0, p1, p2⟩ := g4.box3 0 rfl
            have f0 := g4.free 0 rfl 0
            have f1 := g4.free 0 rfl 1
            have f2 := g4.free 0 rfl 2
            have q1 := ((g4.setBox 0 rfl 0 (.int .i64 p)).setBox 0 rfl 1 (.int .i64 n)).setBox 0 rfl 2 (.slice A1 T1.length k1)
            obtain ⟨r0, r1, r2⟩ := q1.box3 1 rfl
            have t0 := q1.free 1 rfl 0
            have t1 := q1.free 1 rfl 1
            have t2 := q1.free 1 rfl 2
            have q2 := ((q1.setBox 1 rfl 0 (.int .i64 p)).setBox 1 rfl 1 (.int .i64 m)).setBox 1 rfl 2 (.slice A2 T2.length k2)
            go_wp2_with fail
            go_meet
            exact ⟨_, _, rfl, rfl, q2⟩
        · go_simp
          have g3 := g2.box [.int .i64 0, .int .i64 0, .slice none 0 0] 76
          refine hK.out _ _ ?_ (fun hHeld => ?_)
          · exact ⟨(g3.box3 4 rfl).1, (g3.box3 4 rfl).2.1, (g3.box3 4 rfl).2.2, (g3.box3 3 rfl).1, (g3.box3 3 rfl).2.1, (g3.box3 3 rfl).2.2⟩
          clear hK K
          generalize v2.alloc (.cells #[.int .i64 0, .int .i64 0, .slice none 0 0] 76) = v3 at g3 hHeld ⊢
          try simp only [Act.put, List.setIfInBounds_toArray, List.set_cons_zero, List.set_cons_succ]
          refine wpAnyH_ready (rs := [3]) (by kernel_rfl) (by simp) ?_
          refine ready_cons rfl (fun K hK => ?_) AllReadyH.nil
          · go_simp
            refine (newLie_any p m (.slice A2 T2.length k2) A2 T2.length k2 _ rfl).mono ?_
            rintro (e : Ending) v4 ⟨rfl, hb⟩
            have g4 := g3.on hb
            clear hb
            show K _ _
            refine hK.out _ _ ?_ (fun hHeld => ?_)
            · exact ⟨(g4.box3 4 rfl).1, (g4.box3 4 rfl).2.1, (g4.box3 4 rfl).2.2, (g4.box3 3 rfl).1, (g4.box3 3 rfl).2.1, (g4.box3 3 rfl).2.2⟩
            clear hK K
            try simp only [Act.put, List.setIfInBounds_toArray, List.set_cons_zero, List.set_cons_succ]
            refine wpAnyH_done (by kernel_rfl) ?_ _
            show wpList _ _ _ _ _ _
            simp only [List.drop_succ_cons, List.drop_zero]
            obtain ⟨p0, p1, p2⟩ := g4.box3 0 rfl
            have f0 := g4.free 0 rfl 0
            have f1 := g4.free 0 rfl 1
            have f2 := g4.free 0 rfl 2
            have q1 := ((g4.setBox 0 rfl 0 (.int .i64 p)).setBox 0 rfl 1 (.int .i64 n)).setBox 0 rfl 2 (.slice A1 T1.length k1)
            obtain ⟨r0, r1, r2⟩ := q1.box3 1 rfl
            have t0 := q1.free 1 rfl 0
            have t1 := q1.free 1 rfl 1
            have t2 := q1.free 1 rfl 2
            have q2 := ((q1.setBox 1 rfl 0 (.int .i64 p)).setBox 1 rfl 1 (.int .i64 m)).setBox 1 rfl 2 (.slice A2 T2.length k2)
            go_wp2_with fail
            go_meet
            exact ⟨_, _, rfl, rfl, q2⟩
      · go_simp
        have g2 := g1.box [.int .i64 0, .int .i64 0, .slice none 0 0] 76
        refine hK.out _ _ ?_ (fun hHeld => ?_)
        · exact ⟨(g2.box3 4 rfl).1, (g2.box3 4 rfl).2.1, (g2.box3 4 rfl).2.2, (g2.box3 3 rfl).1, (g2.box3 3 rfl).2.1, (g2.box3 3 rfl).2.2⟩
        clear hK K
        generalize v1.alloc (.cells #[.int .i64 0, .int .i64 0, .slice none 0 0] 76) = v2 at g2 hHeld ⊢
        try simp only [Act.put, List.setIfInBounds_toArray, List.set_cons_zero, List.set_cons_succ]
        refine wpAnyH_ready (rs := [1]) (by kernel_rfl) (by simp) ?_
        refine ready_cons rfl (fun K hK => ?_) AllReadyH.nil
        · go_simp
          refine (newLie_any p n (.slice A1 T1.length k1) A1 T1.length k1 _ rfl).mono ?_
          rintro (e : Ending) v3 ⟨rfl, hb⟩
          have g3 := g2.on hb
          clear hb
          show K _ _
          refine hK.out _ _ ?_ (fun hHeld => ?_)
          · exact ⟨(g3.box3 4 rfl).1, (g3.box3 4 rfl).2.1, (g3.box3 4 rfl).2.2, (g3.box3 3 rfl).1, (g3.box3 3 rfl).2.1, (g3.box3 3 rfl).2.2⟩
          clear hK K
          try simp only [Act.put, List.setIfInBounds_toArray, List.set_cons_zero, List.set_cons_succ]
          refine wpAnyH_ready (rs := [3]) (by kernel_rfl) (by simp) ?_
          refine ready_cons rfl (fun K hK => ?_) AllReadyH.nil
          · go_simp
            refine (newLie_any p m (.slice A2 T2.length k2) A2 T2.length k2 _ rfl).mono ?_
            rintro (e : Ending) v4 ⟨rfl, hb⟩
            have g4 := g3.on hb
            clear hb
            show K _ _
            refine hK.out _ _ ?_ (fun hHeld => ?_)
            · exact ⟨(g4.box3 4 rfl).1, (g4.box3 4 rfl).2.1, (g4.box3 4 rfl).2.2, (g4.box3 3 rfl).1, (g4.box3 3 rfl).2.1, (g4.box3 3 rfl).2.2⟩
            clear hK K
            try simp only [Act.put, List.setIfInBounds_toArray, List.set_cons_zero, List.set_cons_succ]
            refine wpAnyH_done (by kernel_rfl) ?_ _
            show wpList _ _ _ _ _ _
            simp only [List.drop_succ_cons, List.drop_zero]
            obtain ⟨p0, p1, p2⟩ := g4.box3 0 rfl
            have f0 := g4.free 0 rfl 0
            have f1 := g4.free 0 rfl 1
            have f2 := g4.free 0 rfl 2
            have q1 := ((g4.setBox 0 rfl 0 (.int .i64 p)).setBox 0 rfl 1 (.int .i64 n)).setBox 0 rfl 2 (.slice A1 T1.length k1)
            obtain ⟨r0, r1, r2⟩ := q1.box3 1 rfl
            have t0 := q1.free 1 rfl 0
            have t1 := q1.free 1 rfl 1
            have t2 := q1.free 1 rfl 2
            have q2 := ((q1.setBox 1 rfl 0 (.int .i64 p)).setBox 1 rfl 1 (.int .i64 m)).setBox 1 rfl 2 (.slice A2 T2.length k2)
            go_wp2_with fail
            go_meet
            exact ⟨_, _, rfl, rfl, q2⟩
  case rest =>
  clear h1 xm0 xm1 xm2 xm3 xb0 xb1 xb2 xa0 xa1 xa2
  obtain ⟨bx, by1, rfl, rfl, h1⟩ := hcut
  obtain ⟨xm0, xm1, xm2, xm3⟩ := h1.box4 2 rfl
  go_wp2_with fail
  refine (rowsOf_any p n m _ D _ (h1.roInts 5 rfl) HD.out (by omega) (by omega)).mono ?_
  rintro (e : Ending) w8 ⟨vr, us, rfl, hul, hok, hnd, hb1⟩
  obtain ⟨Ar, cr, rfl, _, _, _⟩ := id (It.rows hok hul)
  replace h1 := h1.pushRows hb1 hok hnd
  have Hul := Lib.hid hul
  clear hok hnd hb1 xm0 xm1 xm2 xm3 hul
  obtain ⟨xa0, xa1, xa2⟩ := h1.box3 5 rfl
  rw [HLen.out] at h1 ⊢
  go_wp2
  clear xa0 xa1 xa2
  go_loopw [10, 11, 61] (fun va vb vi wr => ∃ i : Nat, vi = .int .i64 i ∧ i ≤ n ∧ St w wr [rowsIt (.slice Ar n cr) us (rowsM n m D), .box bx [.int .i64 p, .int .i64 n, .slice A1 T1.length k1], .box by1 [.int .i64 p, .int .i64 m, .slice A2 T2.length k2], .box (w.heap.size + 1 + 1) [.int .i64 p, .int .i64 n, .int .i64 m, .slice A3 D.length k3], .box (w.heap.size + 1) [.int .i64 p, .int .i64 m, .slice A2 T2.length k2], .box w.heap.size [.int .i64 p, .int .i64 n, .slice A1 T1.length k1], .ro (.slice A3 D.length k3) D, .ro (.slice A2 T2.length k2) T2, .ro (.slice A1 T1.length k1) T1] ∧ Hid (R = allF (fun i => allF (homAt T1 T2 n m p D i) i 0) (n - i) i)) (fun _ _ vi _ => n - (intOf vi).toNat)
  case atStart => exact ⟨0, rfl, by omega, h1, HR⟩
  case round =>
    clear h1 HR
    obtain ⟨i, rfl, a1, h1, HR⟩ := hrel
    by_cases hi : i < n
    · skip
      obtain ⟨K1, hK1⟩ : ∃ K1, K1 = allF (fun i => allF (homAt T1 T2 n m p D i) i 0) (n - (i + 1)) (i + 1) := ⟨_, rfl⟩
      have HM1 : Hid (R = (allF (homAt T1 T2 n m p D i) (i - 0) 0 && K1)) := by
        have := HR.out
        rw [allF_step hi, ← hK1] at this
        exact this
      have HK1 := Lib.hid hK1
      clear hK1 HR
      obtain ⟨gr, rfl⟩ := h1.vecSome 0 rfl (by rw [HLen.out]; omega)
      obtain ⟨Ai, ci, hui, _, _⟩ := h1.row 0 rfl (by rw [HLen.out]; exact Hul.out.trans HLen.out) HLen.out.symm (k := i) (by rw [HLen.out]; exact hi)
      obtain ⟨W1, rfl⟩ : ∃ W1 : World, W1 = wr := ⟨_, rfl⟩
      go_wp2
      go_loopw [11, 65] (fun vb vj wr => ∃ j : Nat, vj = .int .i64 j ∧ j ≤ i ∧ St w wr [rowsIt (.slice (some ⟨gr, 0, none⟩) n cr) us (rowsM n m D), .box bx [.int .i64 p, .int .i64 n, .slice A1 T1.length k1], .box by1 [.int .i64 p, .int .i64 m, .slice A2 T2.length k2], .box (w.heap.size + 1 + 1) [.int .i64 p, .int .i64 n, .int .i64 m, .slice A3 D.length k3], .box (w.heap.size + 1) [.int .i64 p, .int .i64 m, .slice A2 T2.length k2], .box w.heap.size [.int .i64 p, .int .i64 n, .slice A1 T1.length k1], .ro (.slice A3 D.length k3) D, .ro (.slice A2 T2.length k2) T2, .ro (.slice A1 T1.length k1) T1] ∧ Hid (R = (allF (homAt T1 T2 n m p D i) (i - j) j && K1))) (fun _ vj _ => i - (intOf vj).toNat)
      case atStart => exact ⟨0, rfl, by omega, h1, HM1⟩
      case round =>
        clear h1 HM1
        obtain ⟨j, rfl, a2, h1, HM2⟩ := hrel
        by_cases hj : j < i
        · have HM3 : Hid (R = (homAt T1 T2 n m p D i j && (allF (homAt T1 T2 n m p D i) (i - (j + 1)) (j + 1) && K1))) := by
            have := HM2.out
            rw [allF_step hj, Bool.and_assoc] at this
            exact this
          obtain ⟨bb, hbb⟩ : ∃ bb, bb = homAt T1 T2 n m p D i j := ⟨_, rfl⟩
          rw [← hbb] at HM3
          have HB : Hid (bb = decide (combL (rowT T1 n i j) (rowsM n m D) m p = braL T2 (rowM m D i) (rowM m D j) m p)) := hbb
          clear HM2 hbb
          obtain ⟨Aj, cj, huj, _, _⟩ := h1.row 0 rfl (by rw [HLen.out]; exact Hul.out.trans HLen.out) HLen.out.symm (k := j) (by rw [HLen.out]; omega)
          have i1 : (i : Int) < n := by omega
          have i2 : (j : Int) < n := by omega
          obtain ⟨qi1, qi2⟩ := HWf.out i (by rw [HLen.out]; exact hi)
          obtain ⟨qj1, qj2⟩ := HWf.out j (by rw [HLen.out]; omega)
          have Qi := Lib.hid qi1
          have Qj := Lib.hid qj1
          clear qi1 qj1
          obtain ⟨j0x0, j0x1, j0x2⟩ := h1.box3 1 rfl
          obtain ⟨j0y0, j0y1, j0y2⟩ := h1.box3 2 rfl
          obtain ⟨_, j0b1, _⟩ := h1.box3 4 rfl
          obtain ⟨j0a0, _, _⟩ := h1.box3 5 rfl
          have j0r0 := (h1.rowAt 0 rfl HLen.out.symm hui (by rw [HLen.out]; omega)).1
          have j0r1 := (h1.rowAt 0 rfl HLen.out.symm huj (by rw [HLen.out]; omega)).1
          go_wp2
          go_region_held3 (fun w' => w'.cell? ⟨bx, 0, none⟩ = some (.int .i64 p) ∧ w'.cell? ⟨bx, 1, none⟩ = some (.int .i64 n) ∧ w'.cell? ⟨bx, 2, none⟩ = some (.slice A1 T1.length k1) ∧ w'.cell? ⟨by1, 0, none⟩ = some (.int .i64 p) ∧ w'.cell? ⟨by1, 1, none⟩ = some (.int .i64 m) ∧ w'.cell? ⟨by1, 2, none⟩ = some (.slice A2 T2.length k2) ∧ w'.cell? ⟨w.heap.size + 1, 1, none⟩ = some (.int .i64 m) ∧ w'.cell? ⟨w.heap.size, 0, none⟩ = some (.int .i64 p) ∧ w'.cell? ⟨gr, i, none⟩ = some (.slice Ai (rowOf (rowsM n m D) i).length ci) ∧ w'.cell? ⟨gr, j, none⟩ = some (.slice Aj (rowOf (rowsM n m D) j).length cj))
            (first | exact ⟨j0x0, j0x1, j0x2, j0y0, j0y1, j0y2, j0b1, j0a0, j0r0, j0r1⟩ | exact ⟨j1x0, j1x1, j1x2, j1y0, j1y1, j1y2, j1b1, j1a0, j1r0, j1r1⟩ | exact ⟨j2x0, j2x1, j2x2, j2y0, j2y1, j2y2, j2b1, j2a0, j2r0, j2r1⟩ | exact ⟨j3x0, j3x1, j3x2, j3y0, j3y1, j3y2, j3b1, j3a0, j3r0, j3r1⟩ | exact ⟨j4x0, j4x1, j4x2, j4y0, j4y1, j4y2, j4b1, j4a0, j4r0, j4r1⟩)
            (first
              | (go_at_call 110; refine (pair_any p n _ T1 i j w.heap.size _ ?_ ?_ HT1.out (by omega) (by omega) hn).mono ?_; exact h1.drew.ro 8 rfl; exact h1.drew.size; rintro (e : Ending) w1 ⟨A4, c4, rfl, hr1, hb1⟩; have h2 := (h1.drew.on hb1).pushRo hr1; obtain ⟨j1x0, j1x1, j1x2⟩ := h2.box3 2 rfl; obtain ⟨j1y0, j1y1, j1y2⟩ := h2.box3 3 rfl; obtain ⟨_, j1b1, _⟩ := h2.box3 5 rfl; obtain ⟨j1a0, _, _⟩ := h2.box3 6 rfl; have j1r0 := (h2.rowAt 1 rfl HLen.out.symm hui (by rw [HLen.out]; omega)).1; have j1r1 := (h2.rowAt 1 rfl HLen.out.symm huj (by rw [HLen.out]; omega)).1)
              | (go_at_call 109; refine (combine_any p m _ _ (rowT T1 n i j) (rowsM n m D) _ (h2.roInts 0 rfl) (h2.rowsR 1 rfl Hul.out) (by rw [HLen.out, rowT, length_tab]) (by rw [HLen.out]; omega) (by omega) HWf.out hp hp2 (resid_rowT rT1 (by omega) n i j)).mono ?_; rintro (e : Ending) w2 ⟨q, rfl, ho2, hb2⟩; obtain ⟨A5, n5, c5, rfl⟩ := ho2.slice; have h3 := h2.pushOwn hb2 ho2; obtain ⟨j2x0, j2x1, j2x2⟩ := h3.box3 3 rfl; obtain ⟨j2y0, j2y1, j2y2⟩ := h3.box3 4 rfl; obtain ⟨_, j2b1, _⟩ := h3.box3 6 rfl; obtain ⟨j2a0, _, _⟩ := h3.box3 7 rfl; have j2r0 := (h3.rowAt 2 rfl HLen.out.symm hui (by rw [HLen.out]; omega)).1; have j2r1 := (h3.rowAt 2 rfl HLen.out.symm huj (by rw [HLen.out]; omega)).1)
              | (go_at_call 79; refine (bracket_any p m _ _ _ T2 (rowOf (rowsM n m D) i) (rowOf (rowsM n m D) j) _ _ (h3.roUp 9 rfl) (h3.rowAt 2 rfl HLen.out.symm hui (by rw [HLen.out]; omega)).2.toB (h3.rowAt 2 rfl HLen.out.symm huj (by rw [HLen.out]; omega)).2.toB (Nat.le_refl _) HT2.out Qi.out Qj.out hm hp hp2 rT2 qi2 qj2).mono ?_; rintro (e : Ending) w3 ⟨q, rfl, ho3, hb3⟩; obtain ⟨A6, n6, c6, rfl⟩ := ho3.slice; have h4 := h3.pushOwn hb3 ho3; obtain ⟨j3x0, j3x1, j3x2⟩ := h4.box3 4 rfl; obtain ⟨j3y0, j3y1, j3y2⟩ := h4.box3 5 rfl; obtain ⟨_, j3b1, _⟩ := h4.box3 7 rfl; obtain ⟨j3a0, _, _⟩ := h4.box3 8 rfl; have j3r0 := (h4.rowAt 3 rfl HLen.out.symm hui (by rw [HLen.out]; omega)).1; have j3r1 := (h4.rowAt 3 rfl HLen.out.symm huj (by rw [HLen.out]; omega)).1)
              | (go_at_call 108; refine (Equal_any _ _ (combL (rowT T1 n i j) (rowsM n m D) m p) (bracketL T2 (rowOf (rowsM n m D) i) (rowOf (rowsM n m D) j) m p) _ (h4.ownInts 1 rfl) (h4.ownInts 0 rfl)).mono ?_; rintro (e : Ending) w4 ⟨rfl, nd, rfl⟩; rw [bracketL_eq, HRow.out i hi, HRow.out j (by omega), ← HB.out]; have h5 := h4.drewN nd; obtain ⟨j4x0, j4x1, j4x2⟩ := h5.box3 4 rfl; obtain ⟨j4y0, j4y1, j4y2⟩ := h5.box3 5 rfl; obtain ⟨_, j4b1, _⟩ := h5.box3 7 rfl; obtain ⟨j4a0, _, _⟩ := h5.box3 8 rfl; have j4r0 := (h5.rowAt 3 rfl HLen.out.symm hui (by rw [HLen.out]; omega)).1; have j4r1 := (h5.rowAt 3 rfl HLen.out.symm huj (by rw [HLen.out]; omega)).1))
          have h12 := h5.drop 3
          clear h1 h2 h3 h4 h5 hr1 hb1 hb2 hb3 ho2 ho3 j0x0 j0x1 j0x2 j0y0 j0y1 j0y2 j0b1 j0a0 j0r0 j0r1 j1x0 j1x1 j1x2 j1y0 j1y1 j1y2 j1b1 j1a0 j1r0 j1r1 j2x0 j2x1 j2x2 j2y0 j2y1 j2y2 j2b1 j2a0 j2r0 j2r1 j3x0 j3x1 j3x2 j3y0 j3y1 j3y2 j3b1 j3a0 j3r0 j3r1 j4x0 j4x1 j4x2 j4y0 j4y1 j4y2 j4b1 j4a0 j4r0 j4r1
          by_cases hd : bb = true
          · have HM4 : Hid (R = (allF (homAt T1 T2 n m p D i) (i - (j + 1)) (j + 1) && K1)) := by have := HM3.out; rw [hd, Bool.true_and] at this; exact this
            subst hd
            clear HM3 HB
            go_wp2
            go_roundw
            case rel => exact ⟨j + 1, by go_num, by omega, h12, HM4⟩
            case measure => simp [intOf]; omega
          · have hd : bb = false := by simpa using hd
            have HM4 : Hid (R = false) := by have := HM3.out; rw [hd, Bool.false_and] at this; exact this
            subst hd
            clear HM3 HB
            go_wp2
            go_ret
            exact ⟨ret_bool HM4.out.symm, h12.below⟩
        · obtain rfl : j = i := by omega
          have HM3 : Hid (R = K1) := by have := HM2.out; rw [Nat.sub_self, allF, Bool.true_and] at this; exact this
          go_wp2
          go_roundw
          case rel => exact ⟨j + 1, by go_num, by omega, h1, by show R = _; rw [HM3.out, HK1.out]⟩
          case measure => simp [intOf]; omega
    · obtain rfl : n = i := by omega
      have HR5 : Hid (R = true) := by have := HR.out; rw [Nat.sub_self, allF] at this; exact this
      go_wp2
      go_ret
      exact ⟨ret_bool HR5.out.symm, h1.below⟩

set_option maxHeartbeats 4000000 in
theorem IsHomomorphismI_any (p1 n1 p2 n2 q r c : Int) (t1 t2 u : Value) (T1 T2 D : List Int) (w : World) (g1 : Ints w t1 T1) (g2 : Ints w t2 T2) (g3 : Ints w u D) (hp1 : p1 ≤ 9223372036854775807) (hp2 : p2 ≤ 9223372036854775807) (hq : q ≤ 9223372036854775807) : Calls Try.prog 58 #[.agg #[.int .i64 p1, .int .i64 n1, t1], .agg #[.int .i64 p2, .int .i64 n2, t2], .agg #[.int .i64 q, .int .i64 r, .int .i64 c, u]] w (RetBool w (isHom p1 n1 T1 p2 n2 T2 q r c D)) := by
  by_cases b0 : mapsOk p1 n1 T1 p2 n2 T2 q r c D = true
  · obtain ⟨b1, b2, b3, rfl, rfl, rfl, rfl⟩ := mapsOk_spec b0
    obtain ⟨n, rfl, k1, kT, k3, k4, k5, k6⟩ := algOk_spec b1
    obtain ⟨m, rfl, j1, jT, j3, _, _, _⟩ := algOk_spec b2
    obtain ⟨a, b, e1, e2, _, _, kD, kR, _, _, _⟩ := matOk_spec b3
    obtain rfl : n = a := by omega
    obtain rfl : m = b := by omega
    rw [isHom, b0, Bool.true_and, Int.toNat_natCast, Int.toNat_natCast]
    exact IsHomomorphismI_in _ n m t1 t2 u T1 T2 D w g1 g2 g3 b1 b2 b3 kT jT kD k1 j1 k4 k5 k3 j3 kR
  · have b0 : mapsOk p1 n1 T1 p2 n2 T2 q r c D = false := by simpa using b0
    rw [show isHom p1 n1 T1 p2 n2 T2 q r c D = false by rw [isHom, b0, Bool.false_and]]
    have h1 := ((((((St.start w).arg g1).arg g2).arg g3).box [.int .i64 p1, .int .i64 n1, t1] 30).box [.int .i64 p2, .int .i64 n2, t2] 30).box [.int .i64 q, .int .i64 r, .int .i64 c, u] 32
    simp only [World.size_alloc] at h1
    obtain ⟨A1, k1, rfl, _, _, _⟩ := id g1
    obtain ⟨A2, k2, rfl, _, _, _⟩ := id g2
    obtain ⟨A3, k3, rfl, _, _, _⟩ := id g3
    clear g1 g2 g3
    obtain ⟨xa0, xa1, xa2⟩ := h1.box3 2 rfl
    by_cases c1 : algOk p1 n1 T1 = true
    · by_cases c2 : algOk p2 n2 T2 = true
      · by_cases c3 : matOk q r c D = true
        · have hne : ¬ (q = p1 ∧ p2 = p1 ∧ r = n1 ∧ c = n2) := by
            rintro ⟨rfl, rfl, rfl, rfl⟩
            simp [mapsOk, c1, c2, c3] at b0
          clear b0
          go_enter Try.func58, Try.ntmps58
          go_wp2_with fail
          refine (AlgebraOkI_any p1 n1 _ T1 _ (h1.roInts 5 rfl) hp1).mono ?_
          rintro e wn ⟨rfl, hb1⟩
          replace h1 := h1.on hb1
          clear hb1
          rw [c1]
          clear xa0 xa1 xa2
          obtain ⟨xb0, xb1, xb2⟩ := h1.box3 1 rfl
          go_wp2_with fail
          refine (AlgebraOkI_any p2 n2 _ T2 _ (h1.roInts 4 rfl) hp2).mono ?_
          rintro e wn ⟨rfl, hb1⟩
          replace h1 := h1.on hb1
          clear hb1
          rw [c2]
          clear xb0 xb1 xb2
          obtain ⟨xm0, xm1, xm2, xm3⟩ := h1.box4 0 rfl
          go_wp2_with fail
          refine (MatrixOkI_any q r c _ D _ (h1.roInts 3 rfl) hq).mono ?_
          rintro e wn ⟨rfl, hb1⟩
          replace h1 := h1.on hb1
          clear hb1
          rw [c3]
          clear xm0 xm1 xm2 xm3
          obtain ⟨xm0, xm1, xm2, xm3⟩ := h1.box4 0 rfl
          obtain ⟨xb0, xb1, xb2⟩ := h1.box3 1 rfl
          obtain ⟨xa0, xa1, xa2⟩ := h1.box3 2 rfl
          by_cases e1 : p1 = p2
          · subst e1
            by_cases e2 : q = p1
            · subst e2
              by_cases e3 : r = n1
              · subst e3
                have e4 : ¬ c = n2 := fun e => hne ⟨rfl, rfl, rfl, e⟩
                have t4 : (c != n2) = true := by simp [e4]
                clear hne e4
                go_wp2
                go_ret
                exact ⟨rfl, h1.below⟩
              · have t4 : (r != n1) = true := by simp [e3]
                clear hne e3
                go_wp2
                go_ret
                exact ⟨rfl, h1.below⟩
            · have t4 : (q != p1) = true := by simp [e2]
              clear hne e2
              go_wp2
              go_ret
              exact ⟨rfl, h1.below⟩
          · have t4 : (p1 != p2) = true := by simp [e1]
            clear hne e1
            go_wp2
            go_ret
            exact ⟨rfl, h1.below⟩
        · have c3 : matOk q r c D = false := by simpa using c3
          go_enter Try.func58, Try.ntmps58
          go_wp2_with fail
          refine (AlgebraOkI_any p1 n1 _ T1 _ (h1.roInts 5 rfl) hp1).mono ?_
          rintro e wn ⟨rfl, hb1⟩
          replace h1 := h1.on hb1
          clear hb1
          rw [c1]
          clear xa0 xa1 xa2
          obtain ⟨xb0, xb1, xb2⟩ := h1.box3 1 rfl
          go_wp2_with fail
          refine (AlgebraOkI_any p2 n2 _ T2 _ (h1.roInts 4 rfl) hp2).mono ?_
          rintro e wn ⟨rfl, hb1⟩
          replace h1 := h1.on hb1
          clear hb1
          rw [c2]
          clear xb0 xb1 xb2
          obtain ⟨xm0, xm1, xm2, xm3⟩ := h1.box4 0 rfl
          go_wp2_with fail
          refine (MatrixOkI_any q r c _ D _ (h1.roInts 3 rfl) hq).mono ?_
          rintro e wn ⟨rfl, hb1⟩
          replace h1 := h1.on hb1
          clear hb1
          rw [c3]
          go_wp2
          go_ret
          exact ⟨rfl, h1.below⟩
      · have c2 : algOk p2 n2 T2 = false := by simpa using c2
        go_enter Try.func58, Try.ntmps58
        go_wp2_with fail
        refine (AlgebraOkI_any p1 n1 _ T1 _ (h1.roInts 5 rfl) hp1).mono ?_
        rintro e wn ⟨rfl, hb1⟩
        replace h1 := h1.on hb1
        clear hb1
        rw [c1]
        clear xa0 xa1 xa2
        obtain ⟨xb0, xb1, xb2⟩ := h1.box3 1 rfl
        go_wp2_with fail
        refine (AlgebraOkI_any p2 n2 _ T2 _ (h1.roInts 4 rfl) hp2).mono ?_
        rintro e wn ⟨rfl, hb1⟩
        replace h1 := h1.on hb1
        clear hb1
        rw [c2]
        go_wp2
        go_ret
        exact ⟨rfl, h1.below⟩
    · have c1 : algOk p1 n1 T1 = false := by simpa using c1
      go_enter Try.func58, Try.ntmps58
      go_wp2_with fail
      refine (AlgebraOkI_any p1 n1 _ T1 _ (h1.roInts 5 rfl) hp1).mono ?_
      rintro e wn ⟨rfl, hb1⟩
      replace h1 := h1.on hb1
      clear hb1
      rw [c1]
      go_wp2
      go_ret
      exact ⟨rfl, h1.below⟩
end Go.Proofs.Ytechjmckfedblaa
