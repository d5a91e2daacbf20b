/- QuotientTable of the program: the walk. -/
import Derived.Test.YtcdbgcpccmcbeaaQuoI
namespace Go.Proofs.Ytcdbgcpccmcbeaa
set_option maxRecDepth 100000
open Go.RowKit

set_option maxHeartbeats 2000000 in
theorem QuotientTableI_any (p n q r c : Int) (t u : Value) (T D : List Int) (w : World) (ht : Ints w t T) (hu : Ints w u D) (hp : p ≤ 9223372036854775807) (hq : q ≤ 9223372036854775807) :
    Calls Try.prog 33 #[.agg #[.int .i64 p, .int .i64 n, t], .agg #[.int .i64 q, .int .i64 r, .int .i64 c, u]] w (RetAlgB w (qtP p n T q r c D) (qtN p n T q r c D) (qtT p n T q r c D) (isaOk true p n T q r c D)) := by
  have h1 := (((((St.start w).arg ht).arg hu).box [.int .i64 p, .int .i64 n, t] 29).box [.int .i64 q, .int .i64 r, .int .i64 c, u] 33).box [.int .i64 0, .int .i64 0, .slice none 0 0] 29
  simp only [World.size_alloc] at h1
  obtain ⟨A, k, rfl, _, _, _⟩ := id ht
  obtain ⟨A1, k1, rfl, _, _, _⟩ := id hu
  have HI := Lib.hid (fun (W : World) (x1 : Ints W (.slice A T.length k) T) (x2 : Ints W (.slice A1 D.length k1) D) => IsIdealI_any p n q r c _ _ T D W x1 x2 hp hq)
  clear ht hu
  obtain ⟨Po, hPo⟩ : ∃ Po : Ending → World → Prop, Po = RetAlgB w (qtP p n T q r c D) (qtN p n T q r c D) (qtT p n T q r c D) (isaOk true p n T q r c D) := ⟨_, rfl⟩
  rw [← hPo]
  obtain ⟨x0, x1, x2⟩ := h1.box3 2 rfl
  obtain ⟨y0, y1, y2, y3⟩ := h1.box4 1 rfl
  by_cases b1 : isaOk true p n T q r c D = true
  case neg =>
    have b1 : isaOk true p n T q r c D = false := by simpa using b1
    have HF := Lib.hid (show Po = RetAlgB w 0 0 [] false by rw [hPo, qtP, qtN, qtT, b1]; rfl)
    have B1 := Lib.hid b1
    clear b1 hPo
    go_enter Try.func33, Try.ntmps33
    go_wp2_with fail
    refine (HI.out _ (h1.roInts 4 rfl) (h1.roInts 3 rfl)).mono ?_
    rintro (e : Ending) w3 ⟨rfl, hb3⟩
    have g1 := h1.on hb3
    rw [B1.out]
    clear x0 x1 x2 y0 y1 y2 y3 hb3 h1
    obtain ⟨p0, p1, p2⟩ := g1.box3 0 rfl
    have f0 := g1.free 0 rfl 0
    have f1 := g1.free 0 rfl 1
    have f2 := g1.free 0 rfl 2
    have g9 := ((g1.setBox 0 rfl 0 (.int .i64 0)).setBox 0 rfl 1 (.int .i64 0)).setBox 0 rfl 2 (.slice none 0 0)
    obtain ⟨r0, r1, r2⟩ := g9.box3 0 rfl
    go_wp2
    refine bodyPost_ret (v := .tuple #[.agg #[.int .i64 0, .int .i64 0, .slice none 0 0], .bool false]) (by simp [results, Try.results33, go_sem, r0, r1, r2]) rfl ?_
    rw [HF.out]
    exact ⟨_, rfl, Own.nil, g9.below⟩
  case pos =>
    obtain ⟨m, R, piv, rfl, rfl, rfl, rfl, hD, h2, h3, h4, h5, h6, h7, h8, h9, h10⟩ := isa_spec2 b1
    obtain ⟨hq1, hq2⟩ := qt_piv h2 h10
    rw [← hD] at hq1 hq2
    have HF0 : Po = RetAlgB w q (freeTo piv m).length (tbL q (freeTo piv m).length (qtF q m T R piv)) true := by rw [hPo, qtP, qtN, qtT, b1, hq2, hq1]; simp
    have hWp : ∀ (W : World) (x1 : Ints W (.slice A1 D.length k1) D), Calls Try.prog 94 #[.agg #[.int .i64 q, .int .i64 R.length, .int .i64 m, .slice A1 D.length k1]] W (RetOwn W (pivI (freeTo piv m))) := fun W x1 => withoutPivots_any q m R piv _ W (by rw [← hD]; exact x1) h2 (by omega) (by omega)
    have hTab := fun (bs bx bz : Nat) (vp t v : Value) (W : World) hs hx hz hq ht hv => qtTable_any q m T R piv bs bx bz vp t v W hs hx hz hq ht hv h7 h2 h4 h6 h8
    rw [← hD] at hTab
    obtain ⟨Fr, hFr⟩ : ∃ Fr, Fr = freeTo piv m := ⟨_, rfl⟩
    rw [← hFr] at HF0 hTab hWp
    obtain ⟨X, hX⟩ : ∃ X, X = tbL q Fr.length (qtF q m T R piv) := ⟨_, rfl⟩
    rw [← hX] at HF0 hTab
    obtain ⟨l, hl⟩ : ∃ l, l = R.length := ⟨_, rfl⟩
    rw [← hl] at hWp hTab h1 HI b1 y1 ⊢
    have HF := Lib.hid HF0
    have HWp := Lib.hid hWp
    have HTab := Lib.hid hTab
    have B1 := Lib.hid b1
    clear b1 hPo hD h2 h3 h4 h5 h6 h7 h8 h9 h10 hq1 hq2 HF0 hWp hTab hX hl hFr
    go_enter Try.func33, Try.ntmps33
    go_wp2_with fail
    refine (HI.out _ (h1.roInts 4 rfl) (h1.roInts 3 rfl)).mono ?_
    rintro (e : Ending) w3 ⟨rfl, hb3⟩
    have g1 := h1.on hb3
    rw [B1.out]
    clear x0 x1 x2 y0 y1 y2 y3 hb3 h1
    obtain ⟨x0, x1, x2⟩ := g1.box3 2 rfl
    go_wp2_with fail
    refine (newLie_any q m (.slice A T.length k) A T.length k _ rfl).mono ?_
    rintro (e : Ending) w4 ⟨rfl, hb4⟩
    have g2 := (g1.on hb4).box [.int .i64 q, .int .i64 m, .slice A T.length k] 69
    clear x0 x1 x2 g1 hb4
    obtain ⟨y0, y1, y2, y3⟩ := g2.box4 2 rfl
    go_wp2_with fail
    refine (HWp.out _ (g2.roInts 4 rfl)).mono ?_
    rintro (e : Ending) w5 ⟨u5, rfl, ho5, hb5⟩
    obtain ⟨A5, c5, rfl, _, _, _⟩ := id ho5.ints
    rw [length_pivI] at ho5 ⊢
    have g3 := (g2.pushOwn hb5 ho5).box [.slice A5 Fr.length c5] 22
    clear y0 y1 y2 y3 g2 hb5 ho5
    generalize hB6 : w4.heap.size = B6 at g3 ⊢
    clear hB6
    obtain ⟨x0, x1, x2⟩ := g3.box3 5 rfl
    have ct := HTab.out _ _ _ _ _ _ _ (g3.atL 4 rfl) (g3.atL 2 rfl) (g3.atL 0 rfl) (g3.ownInts 1 rfl) (g3.roInts 7 rfl) (g3.roInts 6 rfl)
    have y0 := g3.cell 0 rfl 0 rfl
    clear HTab
    have Hct := Lib.hid ct
    clear ct
    go_wp2_with fail
    refine Hct.out.mono ?_
    rintro (e : Ending) w8 ⟨u8, rfl, ho8, hb8⟩
    obtain ⟨A8, n8, c8, rfl⟩ := ho8.slice
    have g8 := g3.pushOwn hb8 ho8
    clear x0 x1 x2 y0 hb8 ho8 g3
    obtain ⟨p0, p1, p2⟩ := g8.box3 4 rfl
    have f0 := g8.free 4 rfl 0
    have f1 := g8.free 4 rfl 1
    have f2 := g8.free 4 rfl 2
    have g9 := ((g8.setBox 4 rfl 0 (.int .i64 q)).setBox 4 rfl 1 (.int .i64 Fr.length)).setBox 4 rfl 2 (.slice A8 n8 c8)
    obtain ⟨r0, r1, r2⟩ := g9.box3 4 rfl
    clear g8
    go_wp2
    refine bodyPost_ret (v := .tuple #[.agg #[.int .i64 q, .int .i64 Fr.length, .slice A8 n8 c8], .bool true]) (by simp [results, Try.results33, go_sem, r0, r1, r2]) rfl ?_
    rw [HF.out]
    exact ⟨_, rfl, g9.own 0 rfl, g9.below⟩
end Go.Proofs.Ytcdbgcpccmcbeaa
