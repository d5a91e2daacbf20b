/- ChangeBasis of the program: the walk. -/
import Derived.Test.YtechjmckfedblaaChgI
namespace Go.Proofs.Ytechjmckfedblaa
set_option maxRecDepth 100000
open Go.RowKit

set_option maxHeartbeats 2000000 in
theorem ChangeBasisI_any (p n q r c : Int) (t u : Value) (T D : List Int) (w : World) (ht : Ints w t T) (hu : Ints w u D) (hp : p ≤ 9223372036854775807) (hq : q ≤ 9223372036854775807) :
    Calls Try.prog 32 #[.agg #[.int .i64 p, .int .i64 n, t], .agg #[.int .i64 q, .int .i64 r, .int .i64 c, u]] w (RetAlgB w (cbP p n T q r c D) (cbN p n T q r c D) (cbT p n T q r c D) (cbOk p n T q r c D)) := by
  have h1 := (((((St.start w).arg ht).arg hu).box [.int .i64 p, .int .i64 n, t] 30).box [.int .i64 q, .int .i64 r, .int .i64 c, u] 32).box [.int .i64 0, .int .i64 0, .slice none 0 0] 30
  simp only [World.size_alloc] at h1
  obtain ⟨A, k, rfl, _, _, _⟩ := id ht
  obtain ⟨A1, k1, rfl, _, _, _⟩ := id hu
  have HA := Lib.hid (fun (W : World) (x1 : Ints W (.slice A T.length k) T) => AlgebraOkI_any p n _ T W x1 hp)
  have HM := Lib.hid (fun (W : World) (x1 : Ints W (.slice A1 D.length k1) D) => MatrixOkI_any q r c _ D W x1 hq)
  clear ht hu
  obtain ⟨Po, hPo⟩ : ∃ Po : Ending → World → Prop, Po = RetAlgB w (cbP p n T q r c D) (cbN p n T q r c D) (cbT p n T q r c D) (cbOk p n T q r c D) := ⟨_, rfl⟩
  rw [← hPo]
  have HPo := Lib.hid hPo
  clear hPo
  obtain ⟨x0, x1, x2⟩ := h1.box3 2 rfl
  obtain ⟨y0, y1, y2, y3⟩ := h1.box4 1 rfl
  by_cases b1 : algOk p n T = true
  case neg =>
    have b1 : algOk p n T = false := by simpa using b1
    have HF := Lib.hid (show cbOk p n T q r c D = false by rw [cbOk, b1]; rfl)
    have B1 := Lib.hid b1
    clear b1
    go_enter Try.func32, Try.ntmps32
    go_wp2_with fail
    refine (HA.out _ (h1.roInts 4 rfl)).mono ?_
    rintro (e : Ending) w3 ⟨rfl, hb3⟩
    have g1 := h1.on hb3
    rw [B1.out]
    clear x0 x1 x2 y0 y1 y2 y3 hb3 h1
    obtain ⟨x0, x1, x2⟩ := g1.box3 2 rfl
    obtain ⟨y0, y1, y2, y3⟩ := g1.box4 1 rfl
    obtain ⟨p0, p1, p2⟩ := g1.box3 0 rfl
    have f0 := g1.free 0 rfl 0
    have f1 := g1.free 0 rfl 1
    have f2 := g1.free 0 rfl 2
    have g9 := ((g1.setBox 0 rfl 0 (.int .i64 0)).setBox 0 rfl 1 (.int .i64 0)).setBox 0 rfl 2 (.slice none 0 0)
    obtain ⟨r0, r1, r2⟩ := g9.box3 0 rfl
    go_wp2
    refine bodyPost_ret (v := .tuple #[.agg #[.int .i64 0, .int .i64 0, .slice none 0 0], .bool false]) (by simp [results, Try.results32, go_sem, r0, r1, r2]) rfl ?_
    rw [HPo.out, cbP, cbN, cbT, HF.out]
    exact ⟨_, rfl, Own.nil, g9.below⟩
  case pos =>
    by_cases b2 : matOk q r c D = true
    case neg =>
      have b2 : matOk q r c D = false := by simpa using b2
      have HF := Lib.hid (show cbOk p n T q r c D = false by rw [cbOk, b1, b2]; rfl)
      have B1 := Lib.hid b1
      have B2 := Lib.hid b2
      clear b1 b2
      go_enter Try.func32, Try.ntmps32
      go_wp2_with fail
      refine (HA.out _ (h1.roInts 4 rfl)).mono ?_
      rintro (e : Ending) w3 ⟨rfl, hb3⟩
      have g1 := h1.on hb3
      rw [B1.out]
      clear x0 x1 x2 y0 y1 y2 y3 hb3 h1
      obtain ⟨x0, x1, x2⟩ := g1.box3 2 rfl
      obtain ⟨y0, y1, y2, y3⟩ := g1.box4 1 rfl
      go_wp2_with fail
      refine (HM.out _ (g1.roInts 3 rfl)).mono ?_
      rintro (e : Ending) w4 ⟨rfl, hb4⟩
      have g2 := g1.on hb4
      rw [B2.out]
      clear x0 x1 x2 y0 y1 y2 y3 hb4 g1
      obtain ⟨x0, x1, x2⟩ := g2.box3 2 rfl
      obtain ⟨y0, y1, y2, y3⟩ := g2.box4 1 rfl
      obtain ⟨p0, p1, p2⟩ := g2.box3 0 rfl
      have f0 := g2.free 0 rfl 0
      have f1 := g2.free 0 rfl 1
      have f2 := g2.free 0 rfl 2
      have g9 := ((g2.setBox 0 rfl 0 (.int .i64 0)).setBox 0 rfl 1 (.int .i64 0)).setBox 0 rfl 2 (.slice none 0 0)
      obtain ⟨r0, r1, r2⟩ := g9.box3 0 rfl
      go_wp2
      refine bodyPost_ret (v := .tuple #[.agg #[.int .i64 0, .int .i64 0, .slice none 0 0], .bool false]) (by simp [results, Try.results32, go_sem, r0, r1, r2]) rfl ?_
      rw [HPo.out, cbP, cbN, cbT, HF.out]
      exact ⟨_, rfl, Own.nil, g9.below⟩
    case pos =>
      by_cases b3 : q = p
      case neg =>
        have HF := Lib.hid (show cbOk p n T q r c D = false by rw [cbOk, decide_eq_false b3]; simp)
        have t3 : (q != p) = true := by rw [bne_iff_ne]; exact b3
        have B1 := Lib.hid b1
        have B2 := Lib.hid b2
        clear b1 b2 b3
        go_enter Try.func32, Try.ntmps32
        go_wp2_with fail
        refine (HA.out _ (h1.roInts 4 rfl)).mono ?_
        rintro (e : Ending) w3 ⟨rfl, hb3⟩
        have g1 := h1.on hb3
        rw [B1.out]
        clear x0 x1 x2 y0 y1 y2 y3 hb3 h1
        obtain ⟨x0, x1, x2⟩ := g1.box3 2 rfl
        obtain ⟨y0, y1, y2, y3⟩ := g1.box4 1 rfl
        go_wp2_with fail
        refine (HM.out _ (g1.roInts 3 rfl)).mono ?_
        rintro (e : Ending) w4 ⟨rfl, hb4⟩
        have g2 := g1.on hb4
        rw [B2.out]
        clear x0 x1 x2 y0 y1 y2 y3 hb4 g1
        obtain ⟨x0, x1, x2⟩ := g2.box3 2 rfl
        obtain ⟨y0, y1, y2, y3⟩ := g2.box4 1 rfl
        obtain ⟨p0, p1, p2⟩ := g2.box3 0 rfl
        have f0 := g2.free 0 rfl 0
        have f1 := g2.free 0 rfl 1
        have f2 := g2.free 0 rfl 2
        have g9 := ((g2.setBox 0 rfl 0 (.int .i64 0)).setBox 0 rfl 1 (.int .i64 0)).setBox 0 rfl 2 (.slice none 0 0)
        obtain ⟨r0, r1, r2⟩ := g9.box3 0 rfl
        go_wp2
        refine bodyPost_ret (v := .tuple #[.agg #[.int .i64 0, .int .i64 0, .slice none 0 0], .bool false]) (by simp [results, Try.results32, go_sem, r0, r1, r2]) rfl ?_
        rw [HPo.out, cbP, cbN, cbT, HF.out]
        exact ⟨_, rfl, Own.nil, g9.below⟩
      case pos =>
        subst b3
        by_cases b4 : r = n
        case neg =>
          have HF := Lib.hid (show cbOk q n T q r c D = false by rw [cbOk, decide_eq_false b4]; simp)
          have t3 : (r != n) = true := by rw [bne_iff_ne]; exact b4
          have B1 := Lib.hid b1
          have B2 := Lib.hid b2
          clear b1 b2 b4
          go_enter Try.func32, Try.ntmps32
          go_wp2_with fail
          refine (HA.out _ (h1.roInts 4 rfl)).mono ?_
          rintro (e : Ending) w3 ⟨rfl, hb3⟩
          have g1 := h1.on hb3
          rw [B1.out]
          clear x0 x1 x2 y0 y1 y2 y3 hb3 h1
          obtain ⟨x0, x1, x2⟩ := g1.box3 2 rfl
          obtain ⟨y0, y1, y2, y3⟩ := g1.box4 1 rfl
          go_wp2_with fail
          refine (HM.out _ (g1.roInts 3 rfl)).mono ?_
          rintro (e : Ending) w4 ⟨rfl, hb4⟩
          have g2 := g1.on hb4
          rw [B2.out]
          clear x0 x1 x2 y0 y1 y2 y3 hb4 g1
          obtain ⟨x0, x1, x2⟩ := g2.box3 2 rfl
          obtain ⟨y0, y1, y2, y3⟩ := g2.box4 1 rfl
          obtain ⟨p0, p1, p2⟩ := g2.box3 0 rfl
          have f0 := g2.free 0 rfl 0
          have f1 := g2.free 0 rfl 1
          have f2 := g2.free 0 rfl 2
          have g9 := ((g2.setBox 0 rfl 0 (.int .i64 0)).setBox 0 rfl 1 (.int .i64 0)).setBox 0 rfl 2 (.slice none 0 0)
          obtain ⟨r0, r1, r2⟩ := g9.box3 0 rfl
          go_wp2
          refine bodyPost_ret (v := .tuple #[.agg #[.int .i64 0, .int .i64 0, .slice none 0 0], .bool false]) (by simp [results, Try.results32, go_sem, r0, r1, r2]) rfl ?_
          rw [HPo.out, cbP, cbN, cbT, HF.out]
          exact ⟨_, rfl, Own.nil, g9.below⟩
        case pos =>
          subst b4
          by_cases b5 : c = r
          case neg =>
            have HF := Lib.hid (show cbOk q r T q r c D = false by rw [cbOk, decide_eq_false b5]; simp)
            have t3 : (c != r) = true := by rw [bne_iff_ne]; exact b5
            have B1 := Lib.hid b1
            have B2 := Lib.hid b2
            clear b1 b2 b5
            go_enter Try.func32, Try.ntmps32
            go_wp2_with fail
            refine (HA.out _ (h1.roInts 4 rfl)).mono ?_
            rintro (e : Ending) w3 ⟨rfl, hb3⟩
            have g1 := h1.on hb3
            rw [B1.out]
            clear x0 x1 x2 y0 y1 y2 y3 hb3 h1
            obtain ⟨x0, x1, x2⟩ := g1.box3 2 rfl
            obtain ⟨y0, y1, y2, y3⟩ := g1.box4 1 rfl
            go_wp2_with fail
            refine (HM.out _ (g1.roInts 3 rfl)).mono ?_
            rintro (e : Ending) w4 ⟨rfl, hb4⟩
            have g2 := g1.on hb4
            rw [B2.out]
            clear x0 x1 x2 y0 y1 y2 y3 hb4 g1
            obtain ⟨x0, x1, x2⟩ := g2.box3 2 rfl
            obtain ⟨y0, y1, y2, y3⟩ := g2.box4 1 rfl
            obtain ⟨p0, p1, p2⟩ := g2.box3 0 rfl
            have f0 := g2.free 0 rfl 0
            have f1 := g2.free 0 rfl 1
            have f2 := g2.free 0 rfl 2
            have g9 := ((g2.setBox 0 rfl 0 (.int .i64 0)).setBox 0 rfl 1 (.int .i64 0)).setBox 0 rfl 2 (.slice none 0 0)
            obtain ⟨r0, r1, r2⟩ := g9.box3 0 rfl
            go_wp2
            refine bodyPost_ret (v := .tuple #[.agg #[.int .i64 0, .int .i64 0, .slice none 0 0], .bool false]) (by simp [results, Try.results32, go_sem, r0, r1, r2]) rfl ?_
            rw [HPo.out, cbP, cbN, cbT, HF.out]
            exact ⟨_, rfl, Own.nil, g9.below⟩
          case pos =>
            subst b5
            obtain ⟨m, rfl, m1, m2, m3, m4, m5, m6⟩ := algOk_spec b1
            obtain ⟨_, _, -, -, -, -, -, m8, -⟩ := matOk_spec b2
            have mD : D.length = m * m := by
              obtain ⟨a, b, ea, eb, _, _, m7, _⟩ := matOk_spec b2
              rw [m7]; rw [show a = m by omega, show b = m by omega]
            have hmm := mul_le (show m ≤ 40 by omega) (show m ≤ 40 by omega)
            have hRw := fun (W : World) (v : Value) (x1 : Ints W v D) => rowsOf_any q m m v D W x1 mD (by omega) (by omega)
            have hcb : cbOk q m T q m m D = decide (rankL q m (rowsM m m D) = m) := by
              rw [cbOk, b1, b2, Int.toNat_natCast]; simp
            have hcl := fun h => (cb_both b1 m6 mD m8 h).2
            have hSl := length_rowsM m m D
            have hSw : Wf q m (rowsM m m D) := Wf_rowsM (by omega) m8
            obtain ⟨S, hS⟩ : ∃ S, S = rowsM m m D := ⟨_, rfl⟩
            rw [← hS] at hRw hSl hSw hcb hcl
            have hNb := fun (W : World) (v : Value) (x1 : IntRows W v S) => newBasis_any q m v S W x1 hSw (by omega) (by omega) m6
            unfold RetBas at hNb
            have hfr : decide ((pivL q m S).length = S.length) = decide (rankL q m S = m) := by rw [hSl]; rfl
            rw [hfr, hSl] at hNb
            have hTab := fun (bx by' bz : Nat) (fr : Bool) (vr vp t v : Value) (W : World) hx hy hz hr hq ht hv hrk => chgTable_any q m T S bx by' bz fr vr vp t v W hx hy hz hr hq ht hv m2 hSw hSl m1 m6 m3 hrk
            rw [hSl] at hTab
            obtain ⟨Rd, hRd⟩ : ∃ Rd, Rd = (reduceL q (m + m) (besL S)).1 := ⟨_, rfl⟩
            rw [← hRd] at hNb hTab
            obtain ⟨fr, hfr2⟩ : ∃ fr, fr = decide (rankL q m S = m) := ⟨_, rfl⟩
            rw [← hfr2] at hNb hcb
            have HRw := Lib.hid hRw
            have HNb := Lib.hid hNb
            have HTab := Lib.hid hTab
            have Hcb := Lib.hid hcb
            have Hcl := Lib.hid hcl
            have Hfr := Lib.hid hfr2
            have B1 := Lib.hid b1
            have B2 := Lib.hid b2
            clear hRw hNb hTab hcb hcl hfr hfr2 hSl hSw hS hRd b1 b2 m2 m3 m6 m8 mD hmm
            go_enter Try.func32, Try.ntmps32
            go_wp2_with fail
            refine (HA.out _ (h1.roInts 4 rfl)).mono ?_
            rintro (e : Ending) w3 ⟨rfl, hb3⟩
            have g1 := h1.on hb3
            rw [B1.out]
            clear x0 x1 x2 y0 y1 y2 y3 hb3 h1
            obtain ⟨x0, x1, x2⟩ := g1.box3 2 rfl
            obtain ⟨y0, y1, y2, y3⟩ := g1.box4 1 rfl
            go_wp2_with fail
            refine (HM.out _ (g1.roInts 3 rfl)).mono ?_
            rintro (e : Ending) w4 ⟨rfl, hb4⟩
            have g2 := g1.on hb4
            rw [B2.out]
            clear x0 x1 x2 y0 y1 y2 y3 hb4 g1
            obtain ⟨x0, x1, x2⟩ := g2.box3 2 rfl
            obtain ⟨y0, y1, y2, y3⟩ := g2.box4 1 rfl
            go_wp2_with fail
            refine (HRw.out _ _ (g2.roInts 3 rfl)).mono ?_
            rintro (e : Ending) w5 ⟨u3, us3, rfl, hul3, hok3, hnd3, hb5⟩
            have g3 := g2.pushRows hb5 hok3 hnd3
            obtain ⟨A3, n3, c3, rfl⟩ := g3.rowsSlice 0 rfl hul3
            have g4 := g3.box [.slice A3 n3 c3] 70
            clear x0 x1 x2 y0 y1 y2 y3 g2 g3 hok3 hnd3 hb5
            obtain ⟨x0, x1, x2⟩ := g4.box3 4 rfl
            have z0 := g4.cell 0 rfl 0 rfl
            go_wp2_with fail
            refine (HNb.out _ _ (g4.rowsR 1 rfl hul3)).mono ?_
            rintro (e : Ending) w6 ⟨vr, vp, us4, rfl, hul4, hst4⟩
            have g5 := g4.pushBas hst4
            obtain ⟨A4, n4, c4, rfl⟩ := g5.rowsSlice 1 rfl hul4
            obtain ⟨A5, n5, c5, rfl⟩ := (g5.own 0 rfl).slice
            have g6 := g5.box [.bool fr, .int .i64 q, .int .i64 m, .int .i64 m, .slice A4 n4 c4, .slice A5 n5 c5] 73
            clear x0 x1 x2 z0 g4 g5 hst4
            obtain ⟨x0, x1, x2⟩ := g6.box3 7 rfl
            obtain ⟨z0, z1, z2, z3, z4, z5⟩ := g6.box6 0 rfl
            cases fr with
            | false =>
              have HF := Lib.hid (show Po = RetAlgB w 0 0 [] false by rw [HPo.out, cbP, cbN, cbT, Hcb.out]; rfl)
              clear HPo Hcb Hcl Hfr HTab
              obtain ⟨y0, y1, y2⟩ := g6.box3 5 rfl
              obtain ⟨p0, p1, p2⟩ := g6.box3 5 rfl
              have f0 := g6.free 5 rfl 0
              have f1 := g6.free 5 rfl 1
              have f2 := g6.free 5 rfl 2
              have g9 := ((g6.setBox 5 rfl 0 (.int .i64 0)).setBox 5 rfl 1 (.int .i64 0)).setBox 5 rfl 2 (.slice none 0 0)
              obtain ⟨r0, r1, r2⟩ := g9.box3 5 rfl
              go_wp2
              refine bodyPost_ret (v := .tuple #[.agg #[.int .i64 0, .int .i64 0, .slice none 0 0], .bool false]) (by simp [results, Try.results32, go_sem, r0, r1, r2]) rfl ?_
              rw [HF.out]
              exact ⟨_, rfl, Own.nil, g9.below⟩
            | true =>
              have HF := Lib.hid (show Po = RetAlgB w q m (tbL q m (cbF q m T S)) true by rw [HPo.out, cbP, cbN, cbT, Hcb.out, Int.toNat_natCast, Hcl.out (by have := Hfr.out; exact of_decide_eq_true this.symm)]; rfl)
              have HT := Lib.hid (fun bx by' bz fr vr vp t v W hx hy hz hr hq ht hv => HTab.out bx by' bz fr vr vp t v W hx hy hz hr hq ht hv (of_decide_eq_true Hfr.out.symm))
              clear HPo Hcb Hcl Hfr HTab
              go_wp2_with fail
              refine (newLie_any q m (.slice A T.length k) A T.length k _ rfl).mono ?_
              rintro (e : Ending) w7 ⟨rfl, hb7⟩
              have g7 := (g6.on hb7).box [.int .i64 q, .int .i64 m, .slice A T.length k] 76
              clear x0 x1 x2 z0 z1 z2 z3 z4 z5 g6 hb7
              obtain ⟨x0, x1, x2⟩ := g7.box3 8 rfl
              have ct := HT.out _ _ _ _ _ _ _ _ _ (g7.atL 1 rfl) (g7.atL 0 rfl) (g7.atL 4 rfl) (g7.rowsR 3 rfl hul4) (g7.ownInts 2 rfl) (g7.roInts 10 rfl) (g7.rowsR 5 rfl hul3)
              clear HT
              have Hct := Lib.hid ct
              clear ct
              go_wp2_with fail
              refine Hct.out.mono ?_
              rintro (e : Ending) w8 ⟨u8, rfl, ho8, hb8⟩
              obtain ⟨A8, n8, c8, rfl⟩ := ho8.slice
              have g8 := g7.pushOwn hb8 ho8
              clear x0 x1 x2 g7 hb8 ho8
              obtain ⟨p0, p1, p2⟩ := g8.box3 7 rfl
              have f0 := g8.free 7 rfl 0
              have f1 := g8.free 7 rfl 1
              have f2 := g8.free 7 rfl 2
              have g9 := ((g8.setBox 7 rfl 0 (.int .i64 q)).setBox 7 rfl 1 (.int .i64 m)).setBox 7 rfl 2 (.slice A8 n8 c8)
              obtain ⟨r0, r1, r2⟩ := g9.box3 7 rfl
              clear g8
              go_wp2
              refine bodyPost_ret (v := .tuple #[.agg #[.int .i64 q, .int .i64 m, .slice A8 n8 c8], .bool true]) (by simp [results, Try.results32, go_sem, r0, r1, r2]) rfl ?_
              rw [HF.out]
              exact ⟨_, rfl, g9.own 0 rfl, g9.below⟩
end Go.Proofs.Ytechjmckfedblaa
