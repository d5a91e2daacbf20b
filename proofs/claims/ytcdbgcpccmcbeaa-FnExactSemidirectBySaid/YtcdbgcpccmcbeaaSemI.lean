/- SemidirectBy of the program: the closure, the walk. -/
import Derived.Test.YtcdbgcpccmcbeaaSemP
import Derived.Test.YtcdbgcpccmcbeaaTabI
import Derived.Test.YtcdbgcpccmcbeaaChgS
import Derived.Test.YtcdbgcpccmcbeaaAtL
import Derived.Test.YtcdbgcpccmcbeaaFlt
namespace Go.Proofs.Ytcdbgcpccmcbeaa
set_option maxRecDepth 100000
open Go.RowKit

set_option maxHeartbeats 1000000 in
theorem semFn_any (p : Int) (n : Nat) (T D : List Int) (ba br bx i j : Nat) (t v : Value) (w0 w : World) (hk : ∀ b, b < w0.heap.size → w.heap[b]? = w0.heap[b]?) (hs : w0.heap.size ≤ w.heap.size)
    (ha : AtL w0 ba [.int .i64 p, .int .i64 n, t]) (hr : AtL w0 br [v]) (hx : AtL w0 bx [.int .i64 p, .int .i64 n, t]) (ht : Ints w0 t T) (hv : IntRows w0 v (rowsM n n D)) (hT : T.length = n * n * n) (hn : n ≤ 28) (hj : j < i) (hi : i < n + 1) :
    Calls Try.prog 60 #[.int .i64 i, .int .i64 j, .pointer (some ⟨ba, 0, none⟩), .pointer (some ⟨br, 0, none⟩), .pointer (some ⟨bx, 0, none⟩)] w (RetRead w0 w (sdF n T D i j)) := by
  have hk2 : ∀ q : Addr, q.block < w0.heap.size → w.cell? q = w0.cell? q := fun q hq => World.cell?_of_block (hk q.block hq)
  obtain ⟨x0, x1, x2⟩ := (ha.keep hk).c3
  obtain ⟨z0, z1, z2⟩ := (hx.keep hk).c3
  have y0 := (hr.keep hk).c1
  by_cases hin : i = n
  · subst hin
    obtain ⟨A, k0, rfl, _, _, _⟩ := id hv
    obtain ⟨bb, off, A9, c9, hA, hmf, hmi⟩ := hv.at (i := j) (by rw [length_rowsM]; exact hj)
    rw [show (rowsM i i D)[j]'(by rw [length_rowsM]; exact hj) = rowM i D j by rw [rowOf_eq (by rw [length_rowsM]; exact hj), rowOf_rowsM hj]] at hmf hmi
    have hrd := (hmi.toB).keep hk2
    have y1 : w.cell? ⟨bb, off + j, none⟩ = some (.slice A9 (rowM i D j).length c9) := (hk2 _ (World.block_lt_of_cell? w0 _ hmf)).trans hmf
    rw [show sdF i T D i j = rowM i D j by rw [sdF, if_pos rfl]]
    rw [length_rowsM] at y0
    rw [length_rowM] at y1 hrd
    subst hA
    have i1 : (j : Int) < i := by omega
    clear ha hr hx ht hv hT hmf hmi z0 z1 z2 hk hk2
    go_enter Try.func60, Try.ntmps60
    go_wp2
    go_ret
    exact ⟨_, rfl, .inl hrd, Below.refl _ _⟩
  · have hP := pair_any p n t T i j w0.heap.size w (ht.toB.keep hk2) hs hT (by omega) (by omega) hn
    rw [show sdF n T D i j = rowT T n i j by rw [sdF, if_neg hin]]
    obtain ⟨A, k0, rfl, _, _, _⟩ := id ht
    have i1 : (i : Int) < n := by omega
    clear ha hr hx ht hv hT hk hk2 y0 x0 x2
    go_enter Try.func60, Try.ntmps60
    go_wp2_with fail
    refine hP.mono ?_
    rintro (e : Ending) w3 ⟨A4, c4, rfl, hr3, hb3⟩
    go_wp2
    go_ret
    exact ⟨_, rfl, .inl hr3, hb3⟩
theorem semTable_any (p : Int) (n : Nat) (T D : List Int) (ba br bx : Nat) (t v : Value) (w : World) (ha : AtL w ba [.int .i64 p, .int .i64 n, t]) (hr : AtL w br [v]) (hx : AtL w bx [.int .i64 p, .int .i64 n, t]) (ht : Ints w t T) (hv : IntRows w v (rowsM n n D))
    (hT : T.length = n * n * n) (_hD : D.length = n * n) (hn : n ≤ 27) (hP : isPrime p = true) (rT : resid p T = true) (rD : resid p D = true) :
    Calls Try.prog 59 #[.int .i64 p, .int .i64 (n + 1 : Nat), .func (.func 60) #[] #[.pointer (some ⟨ba, 0, none⟩), .pointer (some ⟨br, 0, none⟩), .pointer (some ⟨bx, 0, none⟩)]] w (RetAlg w p (n + 1 : Nat) (tbL p (n + 1) (sdF n T D))) := by
  obtain ⟨b1, b2⟩ := isPrime_bd hP
  refine tableBy_any p (n + 1) (sdF n T D) _ _ (fun _ _ => rfl) w (fun W i j hj hi hk hs9 => ?_) (fun i j hj hi => ?_) (by omega) b1 b2
  · exact semFn_any p n T D ba br bx i j t v w W hk hs9 ha hr hx ht hv hT (by omega) hj hi
  · rw [sdF]
    split
    · exact ⟨by rw [length_rowM]; omega, resid_rowM (by omega) rD _ _⟩
    · exact ⟨by rw [rowT, length_tab]; omega, resid_rowT rT (by omega) _ _ _⟩

set_option maxHeartbeats 4000000 in
theorem SemidirectByI_any (p n q r c : Int) (t u : Value) (T D : List Int) (w : World) (ht : Ints w t T) (hu : Ints w u D) (hp : p ≤ 9223372036854775807) (hq : q ≤ 9223372036854775807) :
    Calls Try.prog 17 #[.agg #[.int .i64 p, .int .i64 n, t], .agg #[.int .i64 q, .int .i64 r, .int .i64 c, u]] w (RetAlgB w (sdP p n T q r c D) (sdN p n T q r c D) (sdT p n T q r c D) (sdOk p n T q r c D)) := by
  have h1 := (((((St.start w).arg ht).arg hu).box [.int .i64 p, .int .i64 n, t] 29).box [.int .i64 q, .int .i64 r, .int .i64 c, u] 33).box [.int .i64 0, .int .i64 0, .slice none 0 0] 29
  simp only [World.size_alloc] at h1
  obtain ⟨A, k, rfl, _, _, _⟩ := id ht
  obtain ⟨A1, k1, rfl, _, _, _⟩ := id hu
  have HI := Lib.hid (fun (W : World) (x1 : Ints W (.slice A T.length k) T) (x2 : Ints W (.slice A1 D.length k1) D) => IsDerivationI_any p n q r c _ _ T D W x1 x2 hp hq)
  clear ht hu
  obtain ⟨Po, hPo⟩ : ∃ Po : Ending → World → Prop, Po = RetAlgB w (sdP p n T q r c D) (sdN p n T q r c D) (sdT p n T q r c D) (sdOk p n T q r c D) := ⟨_, rfl⟩
  rw [← hPo]
  obtain ⟨x0, x1, x2⟩ := h1.box3 2 rfl
  obtain ⟨y0, y1, y2, y3⟩ := h1.box4 1 rfl
  by_cases b1 : isDer p n T q r c D = true
  case neg =>
    have b1 : isDer p n T q r c D = false := by simpa using b1
    have HF := Lib.hid (show Po = RetAlgB w 0 0 [] false by rw [hPo, sdP, sdN, sdT, show sdOk p n T q r c D = false by rw [sdOk, b1, Bool.false_and]]; rfl)
    have B1 := Lib.hid b1
    clear b1 hPo
    go_enter Try.func17, Try.ntmps17
    go_wp2_with fail
    refine (HI.out _ (h1.roInts 4 rfl) (h1.roInts 3 rfl)).mono ?_
    rintro (e : Ending) w3 ⟨rfl, hb3⟩
    have g1 := h1.on hb3
    rw [B1.out]
    clear x0 x1 x2 y0 y1 y2 y3 hb3 h1
    obtain ⟨p0, p1, p2⟩ := g1.box3 0 rfl
    have f0 := g1.free 0 rfl 0
    have f1 := g1.free 0 rfl 1
    have f2 := g1.free 0 rfl 2
    have g9 := ((g1.setBox 0 rfl 0 (.int .i64 0)).setBox 0 rfl 1 (.int .i64 0)).setBox 0 rfl 2 (.slice none 0 0)
    obtain ⟨r0, r1, r2⟩ := g9.box3 0 rfl
    go_wp2
    refine bodyPost_ret (v := .tuple #[.agg #[.int .i64 0, .int .i64 0, .slice none 0 0], .bool false]) (by simp [results, Try.results17, go_sem, r0, r1, r2]) rfl ?_
    rw [HF.out]
    exact ⟨_, rfl, Own.nil, g9.below⟩
  case pos =>
    obtain ⟨m, rfl, h2, rfl, rfl, rfl, h3, h4, h5, h6, h7, h8, h9, hP⟩ := sd_spec b1
    obtain ⟨m1, hm1⟩ : ∃ m1, m1 = m + 1 := ⟨_, rfl⟩
    have e0 : (m : Int) + 1 = (m1 : Int) := by omega
    have w0 : IntKind.i64.wrap (m1 : Int) = m1 := wrap_ok (by omega) (by omega)
    by_cases b2 : m1 ≤ 28
    case neg =>
      have HF := Lib.hid (show Po = RetAlgB w 0 0 [] false by rw [hPo, sdP, sdN, sdT, show sdOk q m T q m m D = false by rw [sdOk, b1, Bool.true_and, decide_eq_false (by omega)]]; rfl)
      have B1 := Lib.hid b1
      have b3 : (28 : Int) < (m1 : Int) := by omega
      clear b1 b2 hPo h2 h3 h4 h5 h6 h7 h8 h9 hP hm1
      go_enter Try.func17, Try.ntmps17
      go_wp2_with fail
      refine (HI.out _ (h1.roInts 4 rfl) (h1.roInts 3 rfl)).mono ?_
      rintro (e : Ending) w3 ⟨rfl, hb3⟩
      have g1 := h1.on hb3
      rw [B1.out]
      clear x0 x1 x2 y0 y1 y2 y3 hb3 h1
      obtain ⟨x0, x1, x2⟩ := g1.box3 2 rfl
      obtain ⟨p0, p1, p2⟩ := g1.box3 0 rfl
      have f0 := g1.free 0 rfl 0
      have f1 := g1.free 0 rfl 1
      have f2 := g1.free 0 rfl 2
      have g9 := ((g1.setBox 0 rfl 0 (.int .i64 0)).setBox 0 rfl 1 (.int .i64 0)).setBox 0 rfl 2 (.slice none 0 0)
      obtain ⟨r0, r1, r2⟩ := g9.box3 0 rfl
      go_wp2
      refine bodyPost_ret (v := .tuple #[.agg #[.int .i64 0, .int .i64 0, .slice none 0 0], .bool false]) (by simp [results, Try.results17, go_sem, r0, r1, r2]) rfl ?_
      rw [HF.out]
      exact ⟨_, rfl, Own.nil, g9.below⟩
    case pos =>
      have HF0 : Po = RetAlgB w q m1 (tbL q m1 (sdF m T D)) true := by rw [hPo, sdP, sdN, sdT, show sdOk q m T q m m D = true by rw [sdOk, b1, Bool.true_and, decide_eq_true (by omega)], if_pos rfl, if_pos rfl, if_pos rfl, Int.toNat_natCast, e0, hm1]
      have hTab := fun (ba br bx : Nat) (t v : Value) (W : World) ha hr hx ht hv => semTable_any q m T D ba br bx t v W ha hr hx ht hv h4 h6 (by omega) hP h5 h7
      rw [← hm1] at hTab
      have hRw := fun (W : World) (x1 : Ints W (.slice A1 D.length k1) D) => rowsOf_any q m m _ D W x1 h6 (by have := mul_le h2 h2; omega) (by omega)
      obtain ⟨X, hX⟩ : ∃ X, X = tbL q m1 (sdF m T D) := ⟨_, rfl⟩
      rw [← hX] at HF0 hTab
      obtain ⟨R, hR⟩ : ∃ R, R = rowsM m m D := ⟨_, rfl⟩
      rw [← hR] at hRw hTab
      have HF := Lib.hid HF0
      have HTab := Lib.hid hTab
      have HRw := Lib.hid hRw
      have B1 := Lib.hid b1
      have b3 : (m1 : Int) ≤ 28 := by omega
      clear b1 hPo h3 h4 h5 h6 h7 hP hm1 hX hR HF0 hTab hRw
      go_enter Try.func17, Try.ntmps17
      go_wp2_with fail
      refine (HI.out _ (h1.roInts 4 rfl) (h1.roInts 3 rfl)).mono ?_
      rintro (e : Ending) w3 ⟨rfl, hb3⟩
      have g1 := h1.on hb3
      rw [B1.out]
      clear x0 x1 x2 y0 y1 y2 y3 hb3 h1
      obtain ⟨x0, x1, x2⟩ := g1.box3 2 rfl
      go_wp2_with fail
      refine (newLie_any q m (.slice A T.length k) A T.length k _ rfl).mono ?_
      rintro (e : Ending) w4 ⟨rfl, hb4⟩
      have g2 := (g1.on hb4).box [.int .i64 q, .int .i64 m, .slice A T.length k] 69
      clear x0 x1 x2 g1 hb4
      obtain ⟨y0, y1, y2, y3⟩ := g2.box4 2 rfl
      go_wp2_with fail
      refine (HRw.out _ (g2.roInts 4 rfl)).mono ?_
      rintro (e : Ending) w5 ⟨u5, us5, rfl, hul5, hok5, hnd5, hb5⟩
      have g3a := g2.pushRows hb5 hok5 hnd5
      obtain ⟨A5, n5, c5, rfl⟩ := g3a.rowsSlice 0 rfl hul5
      have g3 := g3a.box [.slice A5 n5 c5] 48
      clear y0 y1 y2 y3 g2 g3a hb5 hok5 hnd5
      generalize hB6 : w4.heap.size = B6 at g3 ⊢
      clear hB6
      obtain ⟨x0, x1, x2⟩ := g3.box3 5 rfl
      have ct := HTab.out _ _ _ _ _ _ (g3.atL 5 rfl) (g3.atL 0 rfl) (g3.atL 2 rfl) (g3.roInts 7 rfl) (g3.rowsR 1 rfl hul5)
      clear HTab
      have Hct := Lib.hid ct
      clear ct
      go_wp2_with fail
      refine Hct.out.mono ?_
      rintro (e : Ending) w8 ⟨u8, rfl, ho8, hb8⟩
      obtain ⟨A8, n8, c8, rfl⟩ := ho8.slice
      have g8 := g3.pushOwn hb8 ho8
      clear x0 x1 x2 hb8 ho8 g3
      obtain ⟨p0, p1, p2⟩ := g8.box3 4 rfl
      have f0 := g8.free 4 rfl 0
      have f1 := g8.free 4 rfl 1
      have f2 := g8.free 4 rfl 2
      have g9 := ((g8.setBox 4 rfl 0 (.int .i64 q)).setBox 4 rfl 1 (.int .i64 m1)).setBox 4 rfl 2 (.slice A8 n8 c8)
      obtain ⟨r0, r1, r2⟩ := g9.box3 4 rfl
      clear g8
      go_wp2
      refine bodyPost_ret (v := .tuple #[.agg #[.int .i64 q, .int .i64 m1, .slice A8 n8 c8], .bool true]) (by simp [results, Try.results17, go_sem, r0, r1, r2]) rfl ?_
      rw [HF.out]
      exact ⟨_, rfl, g9.own 0 rfl, g9.below⟩
end Go.Proofs.Ytcdbgcpccmcbeaa
