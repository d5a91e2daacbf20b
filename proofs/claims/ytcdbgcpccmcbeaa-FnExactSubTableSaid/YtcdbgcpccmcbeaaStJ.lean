/- SubTable of the program: the walk. -/
import Derived.Test.YtcdbgcpccmcbeaaStI
namespace Go.Proofs.Ytcdbgcpccmcbeaa
set_option maxRecDepth 100000
open Go.RowKit

set_option maxHeartbeats 2000000 in
theorem SubTableI_any (p n q r c : Int) (t u : Value) (T D : List Int) (w : World) (ht : Ints w t T) (hu : Ints w u D) (hp : p ≤ 9223372036854775807) (hq : q ≤ 9223372036854775807) :
    Calls Try.prog 26 #[.agg #[.int .i64 p, .int .i64 n, t], .agg #[.int .i64 q, .int .i64 r, .int .i64 c, u]] w (RetAlgB w (stP p n T q r c D) (stN p n T q r c D) (stT p n T q r c D) (isaOk false p n T q r c D)) := by
  have h1 := (((((St.start w).arg ht).arg hu).box [.int .i64 p, .int .i64 n, t] 29).box [.int .i64 q, .int .i64 r, .int .i64 c, u] 33).box [.int .i64 0, .int .i64 0, .slice none 0 0] 29
  simp only [World.size_alloc] at h1
  obtain ⟨A, k, rfl, _, _, _⟩ := id ht
  obtain ⟨A1, k1, rfl, _, _, _⟩ := id hu
  have HI := Lib.hid (fun (W : World) (x1 : Ints W (.slice A T.length k) T) (x2 : Ints W (.slice A1 D.length k1) D) => IsSubalgebraI_any p n q r c _ _ T D W x1 x2 hp hq)
  clear ht hu
  obtain ⟨Po, hPo⟩ : ∃ Po : Ending → World → Prop, Po = RetAlgB w (stP p n T q r c D) (stN p n T q r c D) (stT p n T q r c D) (isaOk false p n T q r c D) := ⟨_, rfl⟩
  rw [← hPo]
  obtain ⟨x0, x1, x2⟩ := h1.box3 2 rfl
  obtain ⟨y0, y1, y2, y3⟩ := h1.box4 1 rfl
  by_cases b1 : isaOk false p n T q r c D = true
  case neg =>
    have b1 : isaOk false p n T q r c D = false := by simpa using b1
    have HF := Lib.hid (show Po = RetAlgB w 0 0 [] false by rw [hPo, stP, stN, stT, b1]; rfl)
    have B1 := Lib.hid b1
    clear b1 hPo
    go_enter Try.func26, Try.ntmps26
    go_wp2_with fail
    refine (HI.out _ (h1.roInts 4 rfl) (h1.roInts 3 rfl)).mono ?_
    rintro (e : Ending) w3 ⟨rfl, hb3⟩
    have g1 := h1.on hb3
    rw [B1.out]
    clear x0 x1 x2 y0 y1 y2 y3 hb3 h1
    obtain ⟨p0, p1, p2⟩ := g1.box3 0 rfl
    have f0 := g1.free 0 rfl 0
    have f1 := g1.free 0 rfl 1
    have f2 := g1.free 0 rfl 2
    have g9 := ((g1.setBox 0 rfl 0 (.int .i64 0)).setBox 0 rfl 1 (.int .i64 0)).setBox 0 rfl 2 (.slice none 0 0)
    obtain ⟨r0, r1, r2⟩ := g9.box3 0 rfl
    go_wp2
    refine bodyPost_ret (v := .tuple #[.agg #[.int .i64 0, .int .i64 0, .slice none 0 0], .bool false]) (by simp [results, Try.results26, go_sem, r0, r1, r2]) rfl ?_
    rw [HF.out]
    exact ⟨_, rfl, Own.nil, g9.below⟩
  case pos =>
    obtain ⟨m, R, piv, rfl, rfl, rfl, rfl, hD, h2, h3, h4, h5, h6, h7, h8, h9⟩ := isa_spec b1
    have hDl : D.length = R.length * m := by rw [hD]; exact length_flat _ _
    have hb := st_both h3 h6 h2 h9
    rw [← hD] at hb
    have HF0 : Po = RetAlgB w q R.length (tbL q R.length (stF q m T R piv)) true := by rw [hPo, stP, stN, stT, b1, ← hb.2]; simp
    have hRb := mul_le (show R.length ≤ 28 by omega) h4
    have hRw := fun (W : World) (x1 : Ints W (.slice A1 D.length k1) D) => rowsOf_any q R.length m _ D W x1 hDl (by omega) (by omega)
    have hrm : rowsM R.length m D = R := by rw [hD]; exact rowsM_flat h2.wf
    rw [hrm] at hRw
    have hPv : ∀ (W : World) (x1 : Ints W (.slice A1 D.length k1) D), Calls Try.prog 78 #[.agg #[.int .i64 q, .int .i64 R.length, .int .i64 m, .slice A1 D.length k1]] W (RetOwn W (pivI piv)) := fun W x1 => pivotsOf_any q m R piv _ W (by rw [← hD]; exact x1) h2 (by omega) (by omega)
    have hTab := fun (bx by' bz : Nat) (vp t v : Value) (W : World) hx hy hz hq ht hv => stTable_any q m T R piv bx by' bz vp t v W hx hy hz hq ht hv h7 h2 h4 h6 h8
    obtain ⟨X, hX⟩ : ∃ X, X = tbL q R.length (stF q m T R piv) := ⟨_, rfl⟩
    rw [← hX] at HF0 hTab
    obtain ⟨l, hl⟩ : ∃ l, l = R.length := ⟨_, rfl⟩
    rw [← hl] at hRw hPv hTab HF0 h1 HI b1 y1 ⊢
    have HF := Lib.hid HF0
    have HRw := Lib.hid hRw
    have HPv := Lib.hid hPv
    have HTab := Lib.hid hTab
    have Hl := Lib.hid hl
    have B1 := Lib.hid b1
    clear b1 hPo hD h2 h3 h4 h5 h6 h7 h8 h9 hDl hb HF0 hRb hRw hrm hPv hTab hX hl
    go_enter Try.func26, Try.ntmps26
    go_wp2_with fail
    refine (HI.out _ (h1.roInts 4 rfl) (h1.roInts 3 rfl)).mono ?_
    rintro (e : Ending) w3 ⟨rfl, hb3⟩
    have g1 := h1.on hb3
    rw [B1.out]
    clear x0 x1 x2 y0 y1 y2 y3 hb3 h1
    obtain ⟨x0, x1, x2⟩ := g1.box3 2 rfl
    go_wp2_with fail
    refine (newLie_any q m (.slice A T.length k) A T.length k _ rfl).mono ?_
    rintro (e : Ending) w4 ⟨rfl, hb4⟩
    have g2 := (g1.on hb4).box [.int .i64 q, .int .i64 m, .slice A T.length k] 69
    clear x0 x1 x2 g1 hb4
    go_upto_region 4 with fail
    generalize hB6 : w4.heap.size = B6 at g2 ⊢
    clear hB6
    go_cut [7, 8] (fun s7 s8 wx => ∃ (B7 B8 : Nat) (us4 : List Value) (A4 : Option Addr) (n4 c4 : Nat) (A5 : Option Addr) (c5 : Nat), s7 = .pointer (some ⟨B7, 0, none⟩) ∧ s8 = .pointer (some ⟨B8, 0, none⟩) ∧ Hid (us4.length = R.length) ∧ St w wx [.own (.slice A5 piv.length c5) (pivI piv), rowsIt (.slice A4 n4 c4) us4 R, .box B6 [.int .i64 q, .int .i64 m, .slice A T.length k], .box (w.heap.size + 1 + 1) [.int .i64 0, .int .i64 0, .slice none 0 0], .box (w.heap.size + 1) [.int .i64 q, .int .i64 l, .int .i64 m, .slice A1 D.length k1], .box w.heap.size [.int .i64 q, .int .i64 m, .slice A T.length k], .ro (.slice A1 D.length k1) D, .ro (.slice A T.length k) T, .box B7 [.slice A4 n4 c4], .box B8 [.slice A5 piv.length c5]])
    case first =>
      have g := g2.drew
      clear g2
      refine wp_region_cut (S := fun w' => (w'.cell? ⟨w.heap.size + 1, 0, none⟩ = some (.int .i64 q) ∧ w'.cell? ⟨w.heap.size + 1, 1, none⟩ = some (.int .i64 l) ∧ w'.cell? ⟨w.heap.size + 1, 2, none⟩ = some (.int .i64 m) ∧ w'.cell? ⟨w.heap.size + 1, 3, none⟩ = some (.slice A1 D.length k1))) 6 (by kernel_rfl) (by kernel_rfl) (g.box4 2 rfl) (fun hHeld => ?_)
      simp only [List.take_succ_cons, List.take_zero]
      generalize (w4.alloc (.cells #[.int .i64 q, .int .i64 m, .slice A T.length k] 69)).drew = v0 at g hHeld ⊢
      refine anyH_take (v := ?_) 0 rfl (by kernel_rfl) (by kernel_rfl) (by kernel_rfl) (fun _ _ _ h => h) rfl ?_ hHeld ?_
      rotate_left
      · intro w' hSw
        go_simp
        try with_reducible rfl
      try simp only [Act.put, List.setIfInBounds_toArray, List.set_cons_zero, List.set_cons_succ]
      refine anyH_take (v := ?_) 2 rfl (by kernel_rfl) (by kernel_rfl) (by kernel_rfl) (fun _ _ _ h => h) rfl ?_ hHeld ?_
      rotate_left
      · intro w' hSw
        go_simp
        try with_reducible rfl
      try simp only [Act.put, List.setIfInBounds_toArray, List.set_cons_zero, List.set_cons_succ]
      refine wpAnyH_ready (rs := [1, 4, 5]) (by kernel_rfl) (by simp) ?_
      refine ready_cons rfl (fun K hK => ?_) (ready_cons rfl (fun K hK => ?_) (ready_cons rfl (fun K hK => ?_) AllReadyH.nil))
      · go_simp
        refine (HRw.out _ (g.roInts 4 rfl)).mono ?_
        rintro (e : Ending) w5 ⟨u4, us4, rfl, hul4, hok4, hnd4, hb5⟩
        replace g := g.pushRows hb5 hok4 hnd4
        obtain ⟨A4, n4, c4, rfl⟩ := g.rowsSlice 0 rfl hul4
        show K _ _
        refine hK.out _ _ ?_ (fun hHeld => ?_)
        · exact (g.box4 3 rfl)
        clear hK K
        try simp only [Act.put, List.setIfInBounds_toArray, List.set_cons_zero, List.set_cons_succ]
        refine wpAnyH_ready (rs := [3, 4, 5]) (by kernel_rfl) (by simp) ?_
        refine ready_cons rfl (fun K hK => ?_) (ready_cons rfl (fun K hK => ?_) (ready_cons rfl (fun K hK => ?_) AllReadyH.nil))
        · go_simp
          refine (HPv.out _ (g.roInts 5 rfl)).mono ?_
          rintro (e : Ending) w6 ⟨u5, rfl, ho5, hb6⟩
          obtain ⟨A5, c5, rfl, _, _, _⟩ := id ho5.ints
          rw [length_pivI] at ho5 ⊢
          replace g := g.pushOwn hb6 ho5
          show K _ _
          refine hK.out _ _ ?_ (fun hHeld => ?_)
          · exact (g.box4 4 rfl)
          clear hK K
          try simp only [Act.put, List.setIfInBounds_toArray, List.set_cons_zero, List.set_cons_succ]
          refine wpAnyH_ready (rs := [4, 5]) (by kernel_rfl) (by simp) ?_
          refine ready_cons rfl (fun K hK => ?_) (ready_cons rfl (fun K hK => ?_) AllReadyH.nil)
          · go_simp
            replace g := (g.box [.slice none 0 0] 48).toBack
            simp only [List.cons_append, List.nil_append] at g
            refine hK.out _ _ ?_ (fun hHeld => ?_)
            · exact (g.box4 4 rfl)
            clear hK K
            generalize w6.alloc (.cells #[.slice none 0 0] 48) = va4 at g hHeld ⊢
            try simp only [Act.put, List.setIfInBounds_toArray, List.set_cons_zero, List.set_cons_succ]
            refine wpAnyH_ready (rs := [5]) (by kernel_rfl) (by simp) ?_
            refine ready_cons rfl (fun K hK => ?_) AllReadyH.nil
            · go_simp
              replace g := (g.box [.slice none 0 0] 22).toBack
              simp only [List.cons_append, List.nil_append] at g
              refine hK.out _ _ ?_ (fun hHeld => ?_)
              · exact (g.box4 4 rfl)
              clear hK K
              generalize va4.alloc (.cells #[.slice none 0 0] 22) = va5 at g hHeld ⊢
              try simp only [Act.put, List.setIfInBounds_toArray, List.set_cons_zero, List.set_cons_succ]
              refine wpAnyH_done (by kernel_rfl) ?_ _
              show wpList _ _ _ _ _ _
              simp only [List.drop_succ_cons, List.drop_zero]
              clear hHeld
              have p0 := g.cell 8 rfl 0 rfl
              have f0 := g.free 8 rfl 0
              have g8 := g.setBox 8 rfl 0 (.slice A4 n4 c4)
              have r0 := g8.cell 8 rfl 0 rfl
              have p0 := g8.cell 9 rfl 0 rfl
              have f0 := g8.free 9 rfl 0
              have g9 := g8.setBox 9 rfl 0 (.slice A5 piv.length c5)
              have r0 := g9.cell 9 rfl 0 rfl
              go_wp2
              go_meet
              exact ⟨_, _, us4, A4, n4, c4, A5, c5, rfl, rfl, Lib.hid hul4, g9⟩
          · go_simp
            replace g := (g.box [.slice none 0 0] 22).toBack
            simp only [List.cons_append, List.nil_append] at g
            refine hK.out _ _ ?_ (fun hHeld => ?_)
            · exact (g.box4 4 rfl)
            clear hK K
            generalize w6.alloc (.cells #[.slice none 0 0] 22) = va5 at g hHeld ⊢
            try simp only [Act.put, List.setIfInBounds_toArray, List.set_cons_zero, List.set_cons_succ]
            refine wpAnyH_ready (rs := [4]) (by kernel_rfl) (by simp) ?_
            refine ready_cons rfl (fun K hK => ?_) AllReadyH.nil
            · go_simp
              replace g := (g.box [.slice none 0 0] 48).toBack
              simp only [List.cons_append, List.nil_append] at g
              replace g := (g.toFront 8 rfl).toBack
              simp only [List.eraseIdx_cons_succ, List.eraseIdx_cons_zero, List.cons_append, List.nil_append] at g
              refine hK.out _ _ ?_ (fun hHeld => ?_)
              · exact (g.box4 4 rfl)
              clear hK K
              generalize va5.alloc (.cells #[.slice none 0 0] 48) = va4 at g hHeld ⊢
              try simp only [Act.put, List.setIfInBounds_toArray, List.set_cons_zero, List.set_cons_succ]
              refine wpAnyH_done (by kernel_rfl) ?_ _
              show wpList _ _ _ _ _ _
              simp only [List.drop_succ_cons, List.drop_zero]
              clear hHeld
              have p0 := g.cell 8 rfl 0 rfl
              have f0 := g.free 8 rfl 0
              have g8 := g.setBox 8 rfl 0 (.slice A4 n4 c4)
              have r0 := g8.cell 8 rfl 0 rfl
              have p0 := g8.cell 9 rfl 0 rfl
              have f0 := g8.free 9 rfl 0
              have g9 := g8.setBox 9 rfl 0 (.slice A5 piv.length c5)
              have r0 := g9.cell 9 rfl 0 rfl
              go_wp2
              go_meet
              exact ⟨_, _, us4, A4, n4, c4, A5, c5, rfl, rfl, Lib.hid hul4, g9⟩
        · go_simp
          replace g := (g.box [.slice none 0 0] 48).toBack
          simp only [List.cons_append, List.nil_append] at g
          refine hK.out _ _ ?_ (fun hHeld => ?_)
          · exact (g.box4 3 rfl)
          clear hK K
          generalize w5.alloc (.cells #[.slice none 0 0] 48) = va4 at g hHeld ⊢
          try simp only [Act.put, List.setIfInBounds_toArray, List.set_cons_zero, List.set_cons_succ]
          refine wpAnyH_ready (rs := [3, 5]) (by kernel_rfl) (by simp) ?_
          refine ready_cons rfl (fun K hK => ?_) (ready_cons rfl (fun K hK => ?_) AllReadyH.nil)
          · go_simp
            refine (HPv.out _ (g.roInts 5 rfl)).mono ?_
            rintro (e : Ending) w6 ⟨u5, rfl, ho5, hb6⟩
            obtain ⟨A5, c5, rfl, _, _, _⟩ := id ho5.ints
            rw [length_pivI] at ho5 ⊢
            replace g := g.pushOwn hb6 ho5
            show K _ _
            refine hK.out _ _ ?_ (fun hHeld => ?_)
            · exact (g.box4 4 rfl)
            clear hK K
            try simp only [Act.put, List.setIfInBounds_toArray, List.set_cons_zero, List.set_cons_succ]
            refine wpAnyH_ready (rs := [5]) (by kernel_rfl) (by simp) ?_
            refine ready_cons rfl (fun K hK => ?_) AllReadyH.nil
            · go_simp
              replace g := (g.box [.slice none 0 0] 22).toBack
              simp only [List.cons_append, List.nil_append] at g
              refine hK.out _ _ ?_ (fun hHeld => ?_)
              · exact (g.box4 4 rfl)
              clear hK K
              generalize w6.alloc (.cells #[.slice none 0 0] 22) = va5 at g hHeld ⊢
              try simp only [Act.put, List.setIfInBounds_toArray, List.set_cons_zero, List.set_cons_succ]
              refine wpAnyH_done (by kernel_rfl) ?_ _
              show wpList _ _ _ _ _ _
              simp only [List.drop_succ_cons, List.drop_zero]
              clear hHeld
              have p0 := g.cell 8 rfl 0 rfl
              have f0 := g.free 8 rfl 0
              have g8 := g.setBox 8 rfl 0 (.slice A4 n4 c4)
              have r0 := g8.cell 8 rfl 0 rfl
              have p0 := g8.cell 9 rfl 0 rfl
              have f0 := g8.free 9 rfl 0
              have g9 := g8.setBox 9 rfl 0 (.slice A5 piv.length c5)
              have r0 := g9.cell 9 rfl 0 rfl
              go_wp2
              go_meet
              exact ⟨_, _, us4, A4, n4, c4, A5, c5, rfl, rfl, Lib.hid hul4, g9⟩
          · go_simp
            replace g := (g.box [.slice none 0 0] 22).toBack
            simp only [List.cons_append, List.nil_append] at g
            refine hK.out _ _ ?_ (fun hHeld => ?_)
            · exact (g.box4 3 rfl)
            clear hK K
            generalize va4.alloc (.cells #[.slice none 0 0] 22) = va5 at g hHeld ⊢
            try simp only [Act.put, List.setIfInBounds_toArray, List.set_cons_zero, List.set_cons_succ]
            refine wpAnyH_ready (rs := [3]) (by kernel_rfl) (by simp) ?_
            refine ready_cons rfl (fun K hK => ?_) AllReadyH.nil
            · go_simp
              refine (HPv.out _ (g.roInts 5 rfl)).mono ?_
              rintro (e : Ending) w6 ⟨u5, rfl, ho5, hb6⟩
              obtain ⟨A5, c5, rfl, _, _, _⟩ := id ho5.ints
              rw [length_pivI] at ho5 ⊢
              replace g := g.pushOwn hb6 ho5
              show K _ _
              refine hK.out _ _ ?_ (fun hHeld => ?_)
              · exact (g.box4 4 rfl)
              clear hK K
              try simp only [Act.put, List.setIfInBounds_toArray, List.set_cons_zero, List.set_cons_succ]
              refine wpAnyH_done (by kernel_rfl) ?_ _
              show wpList _ _ _ _ _ _
              simp only [List.drop_succ_cons, List.drop_zero]
              clear hHeld
              have p0 := g.cell 8 rfl 0 rfl
              have f0 := g.free 8 rfl 0
              have g8 := g.setBox 8 rfl 0 (.slice A4 n4 c4)
              have r0 := g8.cell 8 rfl 0 rfl
              have p0 := g8.cell 9 rfl 0 rfl
              have f0 := g8.free 9 rfl 0
              have g9 := g8.setBox 9 rfl 0 (.slice A5 piv.length c5)
              have r0 := g9.cell 9 rfl 0 rfl
              go_wp2
              go_meet
              exact ⟨_, _, us4, A4, n4, c4, A5, c5, rfl, rfl, Lib.hid hul4, g9⟩
        · go_simp
          replace g := (g.box [.slice none 0 0] 22).toBack
          simp only [List.cons_append, List.nil_append] at g
          refine hK.out _ _ ?_ (fun hHeld => ?_)
          · exact (g.box4 3 rfl)
          clear hK K
          generalize w5.alloc (.cells #[.slice none 0 0] 22) = va5 at g hHeld ⊢
          try simp only [Act.put, List.setIfInBounds_toArray, List.set_cons_zero, List.set_cons_succ]
          refine wpAnyH_ready (rs := [3, 4]) (by kernel_rfl) (by simp) ?_
          refine ready_cons rfl (fun K hK => ?_) (ready_cons rfl (fun K hK => ?_) AllReadyH.nil)
          · go_simp
            refine (HPv.out _ (g.roInts 5 rfl)).mono ?_
            rintro (e : Ending) w6 ⟨u5, rfl, ho5, hb6⟩
            obtain ⟨A5, c5, rfl, _, _, _⟩ := id ho5.ints
            rw [length_pivI] at ho5 ⊢
            replace g := g.pushOwn hb6 ho5
            show K _ _
            refine hK.out _ _ ?_ (fun hHeld => ?_)
            · exact (g.box4 4 rfl)
            clear hK K
            try simp only [Act.put, List.setIfInBounds_toArray, List.set_cons_zero, List.set_cons_succ]
            refine wpAnyH_ready (rs := [4]) (by kernel_rfl) (by simp) ?_
            refine ready_cons rfl (fun K hK => ?_) AllReadyH.nil
            · go_simp
              replace g := (g.box [.slice none 0 0] 48).toBack
              simp only [List.cons_append, List.nil_append] at g
              replace g := (g.toFront 8 rfl).toBack
              simp only [List.eraseIdx_cons_succ, List.eraseIdx_cons_zero, List.cons_append, List.nil_append] at g
              refine hK.out _ _ ?_ (fun hHeld => ?_)
              · exact (g.box4 4 rfl)
              clear hK K
              generalize w6.alloc (.cells #[.slice none 0 0] 48) = va4 at g hHeld ⊢
              try simp only [Act.put, List.setIfInBounds_toArray, List.set_cons_zero, List.set_cons_succ]
              refine wpAnyH_done (by kernel_rfl) ?_ _
              show wpList _ _ _ _ _ _
              simp only [List.drop_succ_cons, List.drop_zero]
              clear hHeld
              have p0 := g.cell 8 rfl 0 rfl
              have f0 := g.free 8 rfl 0
              have g8 := g.setBox 8 rfl 0 (.slice A4 n4 c4)
              have r0 := g8.cell 8 rfl 0 rfl
              have p0 := g8.cell 9 rfl 0 rfl
              have f0 := g8.free 9 rfl 0
              have g9 := g8.setBox 9 rfl 0 (.slice A5 piv.length c5)
              have r0 := g9.cell 9 rfl 0 rfl
              go_wp2
              go_meet
              exact ⟨_, _, us4, A4, n4, c4, A5, c5, rfl, rfl, Lib.hid hul4, g9⟩
          · go_simp
            replace g := (g.box [.slice none 0 0] 48).toBack
            simp only [List.cons_append, List.nil_append] at g
            replace g := (g.toFront 7 rfl).toBack
            simp only [List.eraseIdx_cons_succ, List.eraseIdx_cons_zero, List.cons_append, List.nil_append] at g
            refine hK.out _ _ ?_ (fun hHeld => ?_)
            · exact (g.box4 3 rfl)
            clear hK K
            generalize va5.alloc (.cells #[.slice none 0 0] 48) = va4 at g hHeld ⊢
            try simp only [Act.put, List.setIfInBounds_toArray, List.set_cons_zero, List.set_cons_succ]
            refine wpAnyH_ready (rs := [3]) (by kernel_rfl) (by simp) ?_
            refine ready_cons rfl (fun K hK => ?_) AllReadyH.nil
            · go_simp
              refine (HPv.out _ (g.roInts 5 rfl)).mono ?_
              rintro (e : Ending) w6 ⟨u5, rfl, ho5, hb6⟩
              obtain ⟨A5, c5, rfl, _, _, _⟩ := id ho5.ints
              rw [length_pivI] at ho5 ⊢
              replace g := g.pushOwn hb6 ho5
              show K _ _
              refine hK.out _ _ ?_ (fun hHeld => ?_)
              · exact (g.box4 4 rfl)
              clear hK K
              try simp only [Act.put, List.setIfInBounds_toArray, List.set_cons_zero, List.set_cons_succ]
              refine wpAnyH_done (by kernel_rfl) ?_ _
              show wpList _ _ _ _ _ _
              simp only [List.drop_succ_cons, List.drop_zero]
              clear hHeld
              have p0 := g.cell 8 rfl 0 rfl
              have f0 := g.free 8 rfl 0
              have g8 := g.setBox 8 rfl 0 (.slice A4 n4 c4)
              have r0 := g8.cell 8 rfl 0 rfl
              have p0 := g8.cell 9 rfl 0 rfl
              have f0 := g8.free 9 rfl 0
              have g9 := g8.setBox 9 rfl 0 (.slice A5 piv.length c5)
              have r0 := g9.cell 9 rfl 0 rfl
              go_wp2
              go_meet
              exact ⟨_, _, us4, A4, n4, c4, A5, c5, rfl, rfl, Lib.hid hul4, g9⟩
      · go_simp
        replace g := (g.box [.slice none 0 0] 48).toBack
        simp only [List.cons_append, List.nil_append] at g
        refine hK.out _ _ ?_ (fun hHeld => ?_)
        · exact (g.box4 2 rfl)
        clear hK K
        generalize v0.alloc (.cells #[.slice none 0 0] 48) = va4 at g hHeld ⊢
        try simp only [Act.put, List.setIfInBounds_toArray, List.set_cons_zero, List.set_cons_succ]
        refine wpAnyH_ready (rs := [1, 5]) (by kernel_rfl) (by simp) ?_
        refine ready_cons rfl (fun K hK => ?_) (ready_cons rfl (fun K hK => ?_) AllReadyH.nil)
        · go_simp
          refine (HRw.out _ (g.roInts 4 rfl)).mono ?_
          rintro (e : Ending) w5 ⟨u4, us4, rfl, hul4, hok4, hnd4, hb5⟩
          replace g := g.pushRows hb5 hok4 hnd4
          obtain ⟨A4, n4, c4, rfl⟩ := g.rowsSlice 0 rfl hul4
          show K _ _
          refine hK.out _ _ ?_ (fun hHeld => ?_)
          · exact (g.box4 3 rfl)
          clear hK K
          try simp only [Act.put, List.setIfInBounds_toArray, List.set_cons_zero, List.set_cons_succ]
          refine wpAnyH_ready (rs := [3, 5]) (by kernel_rfl) (by simp) ?_
          refine ready_cons rfl (fun K hK => ?_) (ready_cons rfl (fun K hK => ?_) AllReadyH.nil)
          · go_simp
            refine (HPv.out _ (g.roInts 5 rfl)).mono ?_
            rintro (e : Ending) w6 ⟨u5, rfl, ho5, hb6⟩
            obtain ⟨A5, c5, rfl, _, _, _⟩ := id ho5.ints
            rw [length_pivI] at ho5 ⊢
            replace g := g.pushOwn hb6 ho5
            show K _ _
            refine hK.out _ _ ?_ (fun hHeld => ?_)
            · exact (g.box4 4 rfl)
            clear hK K
            try simp only [Act.put, List.setIfInBounds_toArray, List.set_cons_zero, List.set_cons_succ]
            refine wpAnyH_ready (rs := [5]) (by kernel_rfl) (by simp) ?_
            refine ready_cons rfl (fun K hK => ?_) AllReadyH.nil
            · go_simp
              replace g := (g.box [.slice none 0 0] 22).toBack
              simp only [List.cons_append, List.nil_append] at g
              refine hK.out _ _ ?_ (fun hHeld => ?_)
              · exact (g.box4 4 rfl)
              clear hK K
              generalize w6.alloc (.cells #[.slice none 0 0] 22) = va5 at g hHeld ⊢
              try simp only [Act.put, List.setIfInBounds_toArray, List.set_cons_zero, List.set_cons_succ]
              refine wpAnyH_done (by kernel_rfl) ?_ _
              show wpList _ _ _ _ _ _
              simp only [List.drop_succ_cons, List.drop_zero]
              clear hHeld
              have p0 := g.cell 8 rfl 0 rfl
              have f0 := g.free 8 rfl 0
              have g8 := g.setBox 8 rfl 0 (.slice A4 n4 c4)
              have r0 := g8.cell 8 rfl 0 rfl
              have p0 := g8.cell 9 rfl 0 rfl
              have f0 := g8.free 9 rfl 0
              have g9 := g8.setBox 9 rfl 0 (.slice A5 piv.length c5)
              have r0 := g9.cell 9 rfl 0 rfl
              go_wp2
              go_meet
              exact ⟨_, _, us4, A4, n4, c4, A5, c5, rfl, rfl, Lib.hid hul4, g9⟩
          · go_simp
            replace g := (g.box [.slice none 0 0] 22).toBack
            simp only [List.cons_append, List.nil_append] at g
            refine hK.out _ _ ?_ (fun hHeld => ?_)
            · exact (g.box4 3 rfl)
            clear hK K
            generalize w5.alloc (.cells #[.slice none 0 0] 22) = va5 at g hHeld ⊢
            try simp only [Act.put, List.setIfInBounds_toArray, List.set_cons_zero, List.set_cons_succ]
            refine wpAnyH_ready (rs := [3]) (by kernel_rfl) (by simp) ?_
            refine ready_cons rfl (fun K hK => ?_) AllReadyH.nil
            · go_simp
              refine (HPv.out _ (g.roInts 5 rfl)).mono ?_
              rintro (e : Ending) w6 ⟨u5, rfl, ho5, hb6⟩
              obtain ⟨A5, c5, rfl, _, _, _⟩ := id ho5.ints
              rw [length_pivI] at ho5 ⊢
              replace g := g.pushOwn hb6 ho5
              show K _ _
              refine hK.out _ _ ?_ (fun hHeld => ?_)
              · exact (g.box4 4 rfl)
              clear hK K
              try simp only [Act.put, List.setIfInBounds_toArray, List.set_cons_zero, List.set_cons_succ]
              refine wpAnyH_done (by kernel_rfl) ?_ _
              show wpList _ _ _ _ _ _
              simp only [List.drop_succ_cons, List.drop_zero]
              clear hHeld
              have p0 := g.cell 8 rfl 0 rfl
              have f0 := g.free 8 rfl 0
              have g8 := g.setBox 8 rfl 0 (.slice A4 n4 c4)
              have r0 := g8.cell 8 rfl 0 rfl
              have p0 := g8.cell 9 rfl 0 rfl
              have f0 := g8.free 9 rfl 0
              have g9 := g8.setBox 9 rfl 0 (.slice A5 piv.length c5)
              have r0 := g9.cell 9 rfl 0 rfl
              go_wp2
              go_meet
              exact ⟨_, _, us4, A4, n4, c4, A5, c5, rfl, rfl, Lib.hid hul4, g9⟩
        · go_simp
          replace g := (g.box [.slice none 0 0] 22).toBack
          simp only [List.cons_append, List.nil_append] at g
          refine hK.out _ _ ?_ (fun hHeld => ?_)
          · exact (g.box4 2 rfl)
          clear hK K
          generalize va4.alloc (.cells #[.slice none 0 0] 22) = va5 at g hHeld ⊢
          try simp only [Act.put, List.setIfInBounds_toArray, List.set_cons_zero, List.set_cons_succ]
          refine wpAnyH_ready (rs := [1]) (by kernel_rfl) (by simp) ?_
          refine ready_cons rfl (fun K hK => ?_) AllReadyH.nil
          · go_simp
            refine (HRw.out _ (g.roInts 4 rfl)).mono ?_
            rintro (e : Ending) w5 ⟨u4, us4, rfl, hul4, hok4, hnd4, hb5⟩
            replace g := g.pushRows hb5 hok4 hnd4
            obtain ⟨A4, n4, c4, rfl⟩ := g.rowsSlice 0 rfl hul4
            show K _ _
            refine hK.out _ _ ?_ (fun hHeld => ?_)
            · exact (g.box4 3 rfl)
            clear hK K
            try simp only [Act.put, List.setIfInBounds_toArray, List.set_cons_zero, List.set_cons_succ]
            refine wpAnyH_ready (rs := [3]) (by kernel_rfl) (by simp) ?_
            refine ready_cons rfl (fun K hK => ?_) AllReadyH.nil
            · go_simp
              refine (HPv.out _ (g.roInts 5 rfl)).mono ?_
              rintro (e : Ending) w6 ⟨u5, rfl, ho5, hb6⟩
              obtain ⟨A5, c5, rfl, _, _, _⟩ := id ho5.ints
              rw [length_pivI] at ho5 ⊢
              replace g := g.pushOwn hb6 ho5
              show K _ _
              refine hK.out _ _ ?_ (fun hHeld => ?_)
              · exact (g.box4 4 rfl)
              clear hK K
              try simp only [Act.put, List.setIfInBounds_toArray, List.set_cons_zero, List.set_cons_succ]
              refine wpAnyH_done (by kernel_rfl) ?_ _
              show wpList _ _ _ _ _ _
              simp only [List.drop_succ_cons, List.drop_zero]
              clear hHeld
              have p0 := g.cell 8 rfl 0 rfl
              have f0 := g.free 8 rfl 0
              have g8 := g.setBox 8 rfl 0 (.slice A4 n4 c4)
              have r0 := g8.cell 8 rfl 0 rfl
              have p0 := g8.cell 9 rfl 0 rfl
              have f0 := g8.free 9 rfl 0
              have g9 := g8.setBox 9 rfl 0 (.slice A5 piv.length c5)
              have r0 := g9.cell 9 rfl 0 rfl
              go_wp2
              go_meet
              exact ⟨_, _, us4, A4, n4, c4, A5, c5, rfl, rfl, Lib.hid hul4, g9⟩
      · go_simp
        replace g := (g.box [.slice none 0 0] 22).toBack
        simp only [List.cons_append, List.nil_append] at g
        refine hK.out _ _ ?_ (fun hHeld => ?_)
        · exact (g.box4 2 rfl)
        clear hK K
        generalize v0.alloc (.cells #[.slice none 0 0] 22) = va5 at g hHeld ⊢
        try simp only [Act.put, List.setIfInBounds_toArray, List.set_cons_zero, List.set_cons_succ]
        refine wpAnyH_ready (rs := [1, 4]) (by kernel_rfl) (by simp) ?_
        refine ready_cons rfl (fun K hK => ?_) (ready_cons rfl (fun K hK => ?_) AllReadyH.nil)
        · go_simp
          refine (HRw.out _ (g.roInts 4 rfl)).mono ?_
          rintro (e : Ending) w5 ⟨u4, us4, rfl, hul4, hok4, hnd4, hb5⟩
          replace g := g.pushRows hb5 hok4 hnd4
          obtain ⟨A4, n4, c4, rfl⟩ := g.rowsSlice 0 rfl hul4
          show K _ _
          refine hK.out _ _ ?_ (fun hHeld => ?_)
          · exact (g.box4 3 rfl)
          clear hK K
          try simp only [Act.put, List.setIfInBounds_toArray, List.set_cons_zero, List.set_cons_succ]
          refine wpAnyH_ready (rs := [3, 4]) (by kernel_rfl) (by simp) ?_
          refine ready_cons rfl (fun K hK => ?_) (ready_cons rfl (fun K hK => ?_) AllReadyH.nil)
          · go_simp
            refine (HPv.out _ (g.roInts 5 rfl)).mono ?_
            rintro (e : Ending) w6 ⟨u5, rfl, ho5, hb6⟩
            obtain ⟨A5, c5, rfl, _, _, _⟩ := id ho5.ints
            rw [length_pivI] at ho5 ⊢
            replace g := g.pushOwn hb6 ho5
            show K _ _
            refine hK.out _ _ ?_ (fun hHeld => ?_)
            · exact (g.box4 4 rfl)
            clear hK K
            try simp only [Act.put, List.setIfInBounds_toArray, List.set_cons_zero, List.set_cons_succ]
            refine wpAnyH_ready (rs := [4]) (by kernel_rfl) (by simp) ?_
            refine ready_cons rfl (fun K hK => ?_) AllReadyH.nil
            · go_simp
              replace g := (g.box [.slice none 0 0] 48).toBack
              simp only [List.cons_append, List.nil_append] at g
              replace g := (g.toFront 8 rfl).toBack
              simp only [List.eraseIdx_cons_succ, List.eraseIdx_cons_zero, List.cons_append, List.nil_append] at g
              refine hK.out _ _ ?_ (fun hHeld => ?_)
              · exact (g.box4 4 rfl)
              clear hK K
              generalize w6.alloc (.cells #[.slice none 0 0] 48) = va4 at g hHeld ⊢
              try simp only [Act.put, List.setIfInBounds_toArray, List.set_cons_zero, List.set_cons_succ]
              refine wpAnyH_done (by kernel_rfl) ?_ _
              show wpList _ _ _ _ _ _
              simp only [List.drop_succ_cons, List.drop_zero]
              clear hHeld
              have p0 := g.cell 8 rfl 0 rfl
              have f0 := g.free 8 rfl 0
              have g8 := g.setBox 8 rfl 0 (.slice A4 n4 c4)
              have r0 := g8.cell 8 rfl 0 rfl
              have p0 := g8.cell 9 rfl 0 rfl
              have f0 := g8.free 9 rfl 0
              have g9 := g8.setBox 9 rfl 0 (.slice A5 piv.length c5)
              have r0 := g9.cell 9 rfl 0 rfl
              go_wp2
              go_meet
              exact ⟨_, _, us4, A4, n4, c4, A5, c5, rfl, rfl, Lib.hid hul4, g9⟩
          · go_simp
            replace g := (g.box [.slice none 0 0] 48).toBack
            simp only [List.cons_append, List.nil_append] at g
            replace g := (g.toFront 7 rfl).toBack
            simp only [List.eraseIdx_cons_succ, List.eraseIdx_cons_zero, List.cons_append, List.nil_append] at g
            refine hK.out _ _ ?_ (fun hHeld => ?_)
            · exact (g.box4 3 rfl)
            clear hK K
            generalize w5.alloc (.cells #[.slice none 0 0] 48) = va4 at g hHeld ⊢
            try simp only [Act.put, List.setIfInBounds_toArray, List.set_cons_zero, List.set_cons_succ]
            refine wpAnyH_ready (rs := [3]) (by kernel_rfl) (by simp) ?_
            refine ready_cons rfl (fun K hK => ?_) AllReadyH.nil
            · go_simp
              refine (HPv.out _ (g.roInts 5 rfl)).mono ?_
              rintro (e : Ending) w6 ⟨u5, rfl, ho5, hb6⟩
              obtain ⟨A5, c5, rfl, _, _, _⟩ := id ho5.ints
              rw [length_pivI] at ho5 ⊢
              replace g := g.pushOwn hb6 ho5
              show K _ _
              refine hK.out _ _ ?_ (fun hHeld => ?_)
              · exact (g.box4 4 rfl)
              clear hK K
              try simp only [Act.put, List.setIfInBounds_toArray, List.set_cons_zero, List.set_cons_succ]
              refine wpAnyH_done (by kernel_rfl) ?_ _
              show wpList _ _ _ _ _ _
              simp only [List.drop_succ_cons, List.drop_zero]
              clear hHeld
              have p0 := g.cell 8 rfl 0 rfl
              have f0 := g.free 8 rfl 0
              have g8 := g.setBox 8 rfl 0 (.slice A4 n4 c4)
              have r0 := g8.cell 8 rfl 0 rfl
              have p0 := g8.cell 9 rfl 0 rfl
              have f0 := g8.free 9 rfl 0
              have g9 := g8.setBox 9 rfl 0 (.slice A5 piv.length c5)
              have r0 := g9.cell 9 rfl 0 rfl
              go_wp2
              go_meet
              exact ⟨_, _, us4, A4, n4, c4, A5, c5, rfl, rfl, Lib.hid hul4, g9⟩
        · go_simp
          replace g := (g.box [.slice none 0 0] 48).toBack
          simp only [List.cons_append, List.nil_append] at g
          replace g := (g.toFront 6 rfl).toBack
          simp only [List.eraseIdx_cons_succ, List.eraseIdx_cons_zero, List.cons_append, List.nil_append] at g
          refine hK.out _ _ ?_ (fun hHeld => ?_)
          · exact (g.box4 2 rfl)
          clear hK K
          generalize va5.alloc (.cells #[.slice none 0 0] 48) = va4 at g hHeld ⊢
          try simp only [Act.put, List.setIfInBounds_toArray, List.set_cons_zero, List.set_cons_succ]
          refine wpAnyH_ready (rs := [1]) (by kernel_rfl) (by simp) ?_
          refine ready_cons rfl (fun K hK => ?_) AllReadyH.nil
          · go_simp
            refine (HRw.out _ (g.roInts 4 rfl)).mono ?_
            rintro (e : Ending) w5 ⟨u4, us4, rfl, hul4, hok4, hnd4, hb5⟩
            replace g := g.pushRows hb5 hok4 hnd4
            obtain ⟨A4, n4, c4, rfl⟩ := g.rowsSlice 0 rfl hul4
            show K _ _
            refine hK.out _ _ ?_ (fun hHeld => ?_)
            · exact (g.box4 3 rfl)
            clear hK K
            try simp only [Act.put, List.setIfInBounds_toArray, List.set_cons_zero, List.set_cons_succ]
            refine wpAnyH_ready (rs := [3]) (by kernel_rfl) (by simp) ?_
            refine ready_cons rfl (fun K hK => ?_) AllReadyH.nil
            · go_simp
              refine (HPv.out _ (g.roInts 5 rfl)).mono ?_
              rintro (e : Ending) w6 ⟨u5, rfl, ho5, hb6⟩
              obtain ⟨A5, c5, rfl, _, _, _⟩ := id ho5.ints
              rw [length_pivI] at ho5 ⊢
              replace g := g.pushOwn hb6 ho5
              show K _ _
              refine hK.out _ _ ?_ (fun hHeld => ?_)
              · exact (g.box4 4 rfl)
              clear hK K
              try simp only [Act.put, List.setIfInBounds_toArray, List.set_cons_zero, List.set_cons_succ]
              refine wpAnyH_done (by kernel_rfl) ?_ _
              show wpList _ _ _ _ _ _
              simp only [List.drop_succ_cons, List.drop_zero]
              clear hHeld
              have p0 := g.cell 8 rfl 0 rfl
              have f0 := g.free 8 rfl 0
              have g8 := g.setBox 8 rfl 0 (.slice A4 n4 c4)
              have r0 := g8.cell 8 rfl 0 rfl
              have p0 := g8.cell 9 rfl 0 rfl
              have f0 := g8.free 9 rfl 0
              have g9 := g8.setBox 9 rfl 0 (.slice A5 piv.length c5)
              have r0 := g9.cell 9 rfl 0 rfl
              go_wp2
              go_meet
              exact ⟨_, _, us4, A4, n4, c4, A5, c5, rfl, rfl, Lib.hid hul4, g9⟩
    case rest =>
      obtain ⟨B7, B8, us4, A4, n4, c4, A5, c5, rfl, rfl, Hul, g⟩ := hcut
      obtain ⟨x0, x1, x2⟩ := g.box3 5 rfl
      obtain ⟨y0, y1, y2, y3⟩ := g.box4 4 rfl
      have ct := HTab.out _ _ _ _ _ _ _ (g.atL 2 rfl) (g.atL 8 rfl) (g.atL 9 rfl) (g.ownInts 0 rfl) (g.roInts 7 rfl) (g.rowsR 1 rfl Hul.out)
      clear HTab
      have Hct := Lib.hid ct
      clear ct
      go_wp2_with fail
      refine Hct.out.mono ?_
      rintro (e : Ending) w8 ⟨u8, rfl, ho8, hb8⟩
      obtain ⟨A8, n8, c8, rfl⟩ := ho8.slice
      have g8 := g.pushOwn hb8 ho8
      clear x0 x1 x2 y0 y1 y2 y3 hb8 ho8 g
      obtain ⟨p0, p1, p2⟩ := g8.box3 4 rfl
      have f0 := g8.free 4 rfl 0
      have f1 := g8.free 4 rfl 1
      have f2 := g8.free 4 rfl 2
      have g9 := ((g8.setBox 4 rfl 0 (.int .i64 q)).setBox 4 rfl 1 (.int .i64 l)).setBox 4 rfl 2 (.slice A8 n8 c8)
      obtain ⟨r0, r1, r2⟩ := g9.box3 4 rfl
      clear g8
      go_wp2
      refine bodyPost_ret (v := .tuple #[.agg #[.int .i64 q, .int .i64 l, .slice A8 n8 c8], .bool true]) (by simp [results, Try.results26, go_sem, r0, r1, r2]) rfl ?_
      rw [HF.out]
      exact ⟨_, rfl, g9.own 0 rfl, g9.below⟩
end Go.Proofs.Ytcdbgcpccmcbeaa
