/- QuotientTable of the reference. -/
import Derived.Test.YtcdbgcpccmcbeaaQuoP
import Derived.Test.YtcdbgcpccmcbeaaIntoS
namespace Go.Proofs.Ytcdbgcpccmcbeaa
set_option maxRecDepth 100000
open Go.RowKit

theorem atPiv_take0 {piv : List Nat} {V : List Int} {k : Nat} (h : k < piv.length) : atPiv (piv.take (k + 1)) V = atPiv (piv.take k) V ++ [vec V (pv piv k)] := by
  rw [take_piv h, atPiv, List.map_append]; rfl
theorem St.pivCell {w0 w : World} {L : List It} (h : St w0 w L) (i : Nat) {g n c : Nat} {P : List Nat} (hi : L[i]? = some (.own (.slice (some ⟨g, 0, none⟩) n c) (pivI P))) {q : Nat} (hq : q < P.length) : w.cell? ⟨g, q, none⟩ = some (.int .i64 (pv P q)) := by
  have h9 := (h.ownCellA i hi (q := q) (by rw [length_pivI]; exact hq)).1
  rwa [vec_pivI hq] at h9

set_option maxHeartbeats 2000000 in
theorem QuotientTableS_any (p n q r c : Int) (t u : Value) (T D : List Int) (w : World) (ht : Ints w t T) (hu : Ints w u D) (hp : p ≤ 9223372036854775807) (hq : q ≤ 9223372036854775807) :
    Calls Try.prog 32 #[.agg #[.int .i64 p, .int .i64 n, t], .agg #[.int .i64 q, .int .i64 r, .int .i64 c, u]] w (RetAlgB w (qtP p n T q r c D) (qtN p n T q r c D) (qtT p n T q r c D) (isaOk true p n T q r c D)) := by
  have h1 := (((((St.start w).arg ht).arg hu).box [.int .i64 p, .int .i64 n, t] 29).box [.int .i64 q, .int .i64 r, .int .i64 c, u] 33).box [.int .i64 0, .int .i64 0, .slice none 0 0] 29
  simp only [World.size_alloc] at h1
  obtain ⟨A, k, rfl, _, _, _⟩ := id ht
  obtain ⟨A1, k1, rfl, _, _, _⟩ := id hu
  have HI := Lib.hid (fun (W : World) (x1 : Ints W (.slice A T.length k) T) (x2 : Ints W (.slice A1 D.length k1) D) => IsIdealS_any p n q r c _ _ T D W x1 x2 hp hq)
  clear ht hu
  obtain ⟨Po, hPo⟩ : ∃ Po : Ending → World → Prop, Po = RetAlgB w (qtP p n T q r c D) (qtN p n T q r c D) (qtT p n T q r c D) (isaOk true p n T q r c D) := ⟨_, rfl⟩
  rw [← hPo]
  obtain ⟨x0, x1, x2⟩ := h1.box3 2 rfl
  obtain ⟨y0, y1, y2, y3⟩ := h1.box4 1 rfl
  by_cases b1 : isaOk true p n T q r c D = true
  case neg =>
    have b1 : isaOk true p n T q r c D = false := by simpa using b1
    have HF := Lib.hid (show Po = RetAlgB w 0 0 [] false by rw [hPo, qtP, qtN, qtT, b1]; rfl)
    have B1 := Lib.hid b1
    clear b1 hPo
    go_enter Try.func32, Try.ntmps32
    go_wp2_with fail
    refine (HI.out _ (h1.roInts 4 rfl) (h1.roInts 3 rfl)).mono ?_
    rintro (e : Ending) w3 ⟨rfl, hb3⟩
    have g1 := h1.on hb3
    rw [B1.out]
    clear x0 x1 x2 y0 y1 y2 y3 hb3 h1
    obtain ⟨p0, p1, p2⟩ := g1.box3 0 rfl
    have f0 := g1.free 0 rfl 0
    have f1 := g1.free 0 rfl 1
    have f2 := g1.free 0 rfl 2
    have g9 := ((g1.setBox 0 rfl 0 (.int .i64 0)).setBox 0 rfl 1 (.int .i64 0)).setBox 0 rfl 2 (.slice none 0 0)
    obtain ⟨r0, r1, r2⟩ := g9.box3 0 rfl
    go_wp2
    refine bodyPost_ret (v := .tuple #[.agg #[.int .i64 0, .int .i64 0, .slice none 0 0], .bool false]) (by simp [results, Try.results32, go_sem, r0, r1, r2]) rfl ?_
    rw [HF.out]
    exact ⟨_, rfl, Own.nil, g9.below⟩
  case pos =>
    obtain ⟨m, R, piv, rfl, rfl, rfl, rfl, hD, h2, h3, h4, h5, h6, h7, h8, h9, h10⟩ := isa_spec2 b1
    obtain ⟨b1p, b2p⟩ := isPrime_bd h6
    obtain ⟨hq1, hq2⟩ := qt_piv h2 h10
    rw [← hD] at hq1 hq2
    have HF0 : Po = RetAlgB w q (freeTo piv m).length (rowsT (freeTo piv m).length (qtF q m T R piv) ((freeTo piv m).length * (freeTo piv m).length)) true := by rw [hPo, qtP, qtN, qtT, b1, hq2, qt_both h3 h6 h8 h2, hq1]; simp
    have hFr0 : ∀ (W : World) (x1 : Ints W (.slice A1 D.length k1) D), Calls Try.prog 90 #[.agg #[.int .i64 q, .int .i64 R.length, .int .i64 m, .slice A1 D.length k1]] W (RetOwn W (pivI (freeTo piv m))) := fun W x1 => l2Free_any q m R piv _ W (by rw [← hD]; exact x1) h2 (by omega) (by omega) h6
    have hMo : ∀ (W : World) (v2 : Value) (a b : Nat) (x1 : Ints W (.slice A1 D.length k1) D) (x2 : Ints W v2 (rowT T m a b)), Calls Try.prog 91 #[.agg #[.int .i64 q, .int .i64 R.length, .int .i64 m, .slice A1 D.length k1], v2] W (RetOwn W (redV q R piv (rowT T m a b))) := fun W v2 a b x1 x2 => l2Modulo_any q m R piv _ v2 _ W (by rw [← hD]; exact x1) x2 h2 (length_tab _ _) (resid_rowT h8 (by omega) _ _ _) (by omega) h6
    have hRow := fun (W : World) (v0 : Value) (a b B : Nat) (x0 : IntsB W B v0 T) (x1 : B ≤ W.heap.size) (x2 : a < m) (x3 : b < m) => l2Row_any q m v0 T a b B W x0 x1 h7 x2 x3 h4
    have hRl := fun (a b : Nat) => (redV_ok b1p h2 (v := rowT T m a b) (length_tab _ _) (resid_rowT h8 (by omega) _ _ _)).1
    have hFl := length_freeTo piv m
    have hFb : ∀ i, i < (freeTo piv m).length → pv (freeTo piv m) i < m := fun i hi => pv_free hi
    have hXd : ∀ i j, qtF q m T R piv i j = atPiv (freeTo piv m) (redV q R piv (rowT T m (pv (freeTo piv m) i) (pv (freeTo piv m) j))) := fun _ _ => rfl
    have hSn := fun (i j : Nat) (hj : j < (freeTo piv m).length) => rowsT_snoc (X := qtF q m T R piv) (i := i) hj (by rw [hXd, length_atPiv])
    obtain ⟨Fr, hFr⟩ : ∃ Fr, Fr = freeTo piv m := ⟨_, rfl⟩
    obtain ⟨X, hX⟩ : ∃ X, X = qtF q m T R piv := ⟨_, rfl⟩
    rw [← hFr] at HF0 hFr0 hFl hFb hXd hSn
    rw [← hX] at HF0 hXd hSn
    obtain ⟨l, hl⟩ : ∃ l, l = R.length := ⟨_, rfl⟩
    rw [← hl] at hFr0 hMo h1 HI b1 y1 ⊢
    have HRT := Lib.hid (length_rowsT Fr.length X)
    obtain ⟨nf, hnf⟩ : ∃ nf, nf = Fr.length := ⟨_, rfl⟩
    rw [← hnf] at HF0 hFl hFb hSn HRT
    have HF := Lib.hid HF0
    have HFr0 := Lib.hid hFr0
    have HMo := Lib.hid hMo
    have HRow := Lib.hid hRow
    have HRl := Lib.hid hRl
    have HFb := Lib.hid hFb
    have HXd := Lib.hid hXd
    have HSn := Lib.hid hSn
    have Hnf := Lib.hid hnf
    have B1 := Lib.hid b1
    have nf28 : nf ≤ 28 := by omega
    clear b1 hPo hD h2 h3 h4 h5 h6 h7 h8 h9 h10 hq1 hq2 HF0 hFr0 hMo hRow hRl hFl hFb hXd hSn hX hl hFr hnf b1p b2p
    go_enter Try.func32, Try.ntmps32
    go_wp2_with fail
    refine (HI.out _ (h1.roInts 4 rfl) (h1.roInts 3 rfl)).mono ?_
    rintro (e : Ending) w3 ⟨rfl, hb3⟩
    have g1 := h1.on hb3
    rw [B1.out]
    clear x0 x1 x2 y0 y1 y2 y3 hb3 h1
    obtain ⟨x0, x1, x2⟩ := g1.box3 2 rfl
    obtain ⟨y0, y1, y2, y3⟩ := g1.box4 1 rfl
    go_wp2_with fail
    refine (HFr0.out _ (g1.roInts 3 rfl)).mono ?_
    rintro (e : Ending) w4 ⟨u4, rfl, ho4, hb4⟩
    obtain ⟨Af, cf, rfl, _, _, _⟩ := id ho4.ints
    rw [length_pivI, ← Hnf.out] at ho4 ⊢
    have ga := g1.pushOwn hb4 ho4
    have g2 := (ga.empty).box [.int .i64 q, .int .i64 nf, .slice (some ⟨w4.heap.size, 0, none⟩) 0 0] 29
    simp only [World.size_alloc] at g2
    clear x0 x1 x2 y0 y1 y2 y3 g1 hb4 ho4
    obtain ⟨x0, x1, x2⟩ := ga.box3 3 rfl
    go_wp2
    clear x0 x1 x2 ga
    try simp only [World.size_alloc]
    generalize hB8 : w4.heap.size + 1 = B8 at g2 ⊢
    clear hB8
    go_loopw [9, 10, 11, 12] (fun v9 _ _ _ wr => ∃ (i : Nat) (vd : Value), v9 = .int .i64 i ∧ i ≤ nf ∧ St w wr [.box B8 [.int .i64 q, .int .i64 nf, vd], .own vd (rowsT nf X (i * nf)), .own (.slice Af nf cf) (pivI Fr), .box (w.heap.size + 1 + 1) [.int .i64 0, .int .i64 0, .slice none 0 0], .box (w.heap.size + 1) [.int .i64 q, .int .i64 l, .int .i64 m, .slice A1 D.length k1], .box w.heap.size [.int .i64 q, .int .i64 m, .slice A T.length k], .ro (.slice A1 D.length k1) D, .ro (.slice A T.length k) T]) (fun v9 _ _ _ _ => nf - (intOf v9).toNat)
    case atStart => exact ⟨0, _, rfl, by omega, by rw [Nat.zero_mul, rowsT_zero]; exact g2⟩
    case round =>
      clear g2
      obtain ⟨i, vd, rfl, a1, g⟩ := hrel
      by_cases hi : i < nf
      · have Hi9 := Lib.hid (show i < Fr.length by rw [← Hnf.out]; exact hi)
        go_wp2
        go_loopw [10, 11, 12] (fun v10 _ _ wr => ∃ (j : Nat) (vd : Value), v10 = .int .i64 j ∧ j ≤ nf ∧ St w wr [.box B8 [.int .i64 q, .int .i64 nf, vd], .own vd (rowsT nf X (i * nf + j)), .own (.slice Af nf cf) (pivI Fr), .box (w.heap.size + 1 + 1) [.int .i64 0, .int .i64 0, .slice none 0 0], .box (w.heap.size + 1) [.int .i64 q, .int .i64 l, .int .i64 m, .slice A1 D.length k1], .box w.heap.size [.int .i64 q, .int .i64 m, .slice A T.length k], .ro (.slice A1 D.length k1) D, .ro (.slice A T.length k) T]) (fun v10 _ _ _ => nf - (intOf v10).toNat)
        case atStart => exact ⟨0, vd, rfl, by omega, g⟩
        case round =>
          clear g
          obtain ⟨j, vd, rfl, a2, g⟩ := hrel
          by_cases hj : j < nf
          · have Hj9 := Lib.hid (show j < Fr.length by rw [← Hnf.out]; exact hj)
            obtain ⟨gf, rfl, hq9⟩ := g.ownSomeA 2 rfl (by rw [length_pivI]; exact Nat.lt_of_le_of_lt (Nat.zero_le _) Hj9.out)
            clear hq9
            have i1 : (i : Int) < nf := by omega
            have i2 : (j : Int) < nf := by omega
            go_upto_region 12 with fail
            have g0 := g.drew
            refine wp_region_held_drew (S := fun w' => (w'.cell? ⟨w.heap.size + 1, 0, none⟩ = some (.int .i64 q) ∧ w'.cell? ⟨w.heap.size + 1, 1, none⟩ = some (.int .i64 l) ∧ w'.cell? ⟨w.heap.size + 1, 2, none⟩ = some (.int .i64 m) ∧ w'.cell? ⟨w.heap.size + 1, 3, none⟩ = some (.slice A1 D.length k1)) ∧ (w'.cell? ⟨w.heap.size, 0, none⟩ = some (.int .i64 q) ∧ w'.cell? ⟨w.heap.size, 1, none⟩ = some (.int .i64 m) ∧ w'.cell? ⟨w.heap.size, 2, none⟩ = some (.slice A T.length k)) ∧ w'.cell? ⟨gf, i, none⟩ = some (.int .i64 (pv Fr i)) ∧ w'.cell? ⟨gf, j, none⟩ = some (.int .i64 (pv Fr j))) (by kernel_rfl) ⟨g0.box4 4 rfl, g0.box3 5 rfl, g0.pivCell 2 rfl Hi9.out, g0.pivCell 2 rfl Hj9.out⟩ (fun hHeld => ?_)
            refine anyH_take (v := ?_) 0 rfl (by kernel_rfl) (by kernel_rfl) (by kernel_rfl) (fun _ _ _ h => h) rfl ?_ hHeld ?_
            rotate_left
            · intro w' hSw
              go_simp
              try with_reducible rfl
            try simp only [Act.put, List.setIfInBounds_toArray, List.set_cons_zero, List.set_cons_succ]
            refine anyH_take (v := ?_) 1 rfl (by kernel_rfl) (by kernel_rfl) (by kernel_rfl) (fun _ _ _ h => h) rfl ?_ hHeld ?_
            rotate_left
            · intro w' hSw
              go_simp
              try with_reducible rfl
            try simp only [Act.put, List.setIfInBounds_toArray, List.set_cons_zero, List.set_cons_succ]
            refine anyH_take (v := ?_) 2 rfl (by kernel_rfl) (by kernel_rfl) (by kernel_rfl) (fun _ _ _ h => h) rfl ?_ hHeld ?_
            rotate_left
            · intro w' hSw
              go_simp
              try with_reducible rfl
            try simp only [Act.put, List.setIfInBounds_toArray, List.set_cons_zero, List.set_cons_succ]
            refine anyH_take (v := ?_) 3 rfl (by kernel_rfl) (by kernel_rfl) (by kernel_rfl) (fun _ _ _ h => h) rfl ?_ hHeld ?_
            rotate_left
            · intro w' hSw
              go_simp
              try with_reducible rfl
            try simp only [Act.put, List.setIfInBounds_toArray, List.set_cons_zero, List.set_cons_succ]
            refine anyH_take (v := ?_) 4 rfl (by kernel_rfl) (by kernel_rfl) (by kernel_rfl) (fun _ _ _ h => h) rfl ?_ hHeld ?_
            rotate_left
            · intro w' hSw
              go_simp
              try with_reducible rfl
            try simp only [Act.put, List.setIfInBounds_toArray, List.set_cons_zero, List.set_cons_succ]
            refine anyH_take (v := ?_) 5 rfl (by kernel_rfl) (by kernel_rfl) (by kernel_rfl) (fun _ _ _ h => h) rfl ?_ hHeld ?_
            rotate_left
            · intro w' hSw
              go_simp
              try with_reducible rfl
            try simp only [Act.put, List.setIfInBounds_toArray, List.set_cons_zero, List.set_cons_succ]
            refine anyH_take (v := ?_) 6 rfl (by kernel_rfl) (by kernel_rfl) (by kernel_rfl) (fun _ _ _ h => h) rfl ?_ hHeld ?_
            rotate_left
            · intro w' hSw
              go_simp
              try with_reducible rfl
            try simp only [Act.put, List.setIfInBounds_toArray, List.set_cons_zero, List.set_cons_succ]
            refine anyH_take (v := ?_) 7 rfl (by kernel_rfl) (by kernel_rfl) (by kernel_rfl) (fun _ _ _ h => h) rfl ?_ hHeld ?_
            rotate_left
            · intro w' hSw
              go_simp
              try with_reducible rfl
            try simp only [Act.put, List.setIfInBounds_toArray, List.set_cons_zero, List.set_cons_succ]
            refine anyH_take (v := ?_) 8 rfl (by kernel_rfl) (by kernel_rfl) (by kernel_rfl) (fun _ _ _ h => h) rfl ?_ hHeld ?_
            rotate_left
            · intro w' hSw
              go_simp
              try with_reducible rfl
            try simp only [Act.put, List.setIfInBounds_toArray, List.set_cons_zero, List.set_cons_succ]
            refine anyH_take (v := ?_) 9 rfl (by kernel_rfl) (by kernel_rfl) (by kernel_rfl) (fun _ _ _ h => h) rfl ?_ hHeld ?_
            rotate_left
            · intro w' hSw
              go_simp
              try with_reducible rfl
            try simp only [Act.put, List.setIfInBounds_toArray, List.set_cons_zero, List.set_cons_succ]
            refine wpAnyH_ready (rs := [10]) (by kernel_rfl) (by simp) ?_
            refine ready_cons rfl (fun K hK => ?_) AllReadyH.nil
            go_simp
            refine (HRow.out _ _ _ _ _ (g0.ro 7 rfl) g0.size (HFb.out i hi) (HFb.out j hj)).mono ?_
            rintro (e : Ending) w5 ⟨A5, c5, rfl, hr5, hb5⟩
            have g1 := (g0.on hb5).pushRo hr5
            show K _ _
            refine hK.out _ _ ?_ (fun hHeld => ?_)
            · exact ⟨g1.box4 5 rfl, g1.box3 6 rfl, g1.pivCell 3 rfl Hi9.out, g1.pivCell 3 rfl Hj9.out⟩
            clear hK K
            try simp only [Act.put, List.setIfInBounds_toArray, List.set_cons_zero, List.set_cons_succ]
            refine wpAnyH_ready (rs := [11]) (by kernel_rfl) (by simp) ?_
            refine ready_cons rfl (fun K hK => ?_) AllReadyH.nil
            go_simp
            refine (HMo.out _ _ _ _ (g1.roInts 7 rfl) (g1.roInts 0 rfl)).mono ?_
            rintro (e : Ending) w6 ⟨u6, rfl, ho6, hb6⟩
            obtain ⟨A7, c7, rfl, _, _, _⟩ := id ho6.ints
            have g2 := g1.pushOwn hb6 ho6
            show K _ _
            refine hK.out _ _ ?_ (fun hHeld => ?_)
            · exact ⟨g2.box4 6 rfl, g2.box3 7 rfl, g2.pivCell 4 rfl Hi9.out, g2.pivCell 4 rfl Hj9.out⟩
            clear hK K
            try simp only [Act.put, List.setIfInBounds_toArray, List.set_cons_zero, List.set_cons_succ]
            refine anyH_take (v := ?_) 12 rfl (by kernel_rfl) (by kernel_rfl) (by kernel_rfl) (fun _ _ _ h => h) rfl ?_ hHeld ?_
            rotate_left
            · intro w' hSw
              go_simp
              try with_reducible rfl
            try simp only [Act.put, List.setIfInBounds_toArray, List.set_cons_zero, List.set_cons_succ]
            refine wpAnyH_done (by kernel_rfl) ?_ _
            clear hHeld
            clear g0 g1 g hb5 hr5 hb6 ho6
            have HXij := Lib.hid (HXd.out i j)
            have HVl := Lib.hid (HRl.out (pv Fr i) (pv Fr j))
            obtain ⟨V, hV⟩ : ∃ V, V = redV q R piv (rowT T m (pv Fr i) (pv Fr j)) := ⟨_, rfl⟩
            rw [← hV] at g2 HXij HVl ⊢
            clear hV
            rw [HVl.out] at g2 ⊢
            replace g2 := (g2.toFront 1 rfl).drop 1
            simp only [List.eraseIdx_cons_succ, List.eraseIdx_cons_zero, List.drop_succ_cons, List.drop_zero] at g2
            go_wp2
            go_loopw [12] (fun v12 wr => ∃ (c : Nat) (vd : Value), v12 = .int .i64 c ∧ c ≤ nf ∧ St w wr [.own (.slice A7 m c7) V, .box B8 [.int .i64 q, .int .i64 nf, vd], .own vd (rowsT nf X (i * nf + j) ++ atPiv (Fr.take c) V), .own (.slice (some ⟨gf, 0, none⟩) nf cf) (pivI Fr), .box (w.heap.size + 1 + 1) [.int .i64 0, .int .i64 0, .slice none 0 0], .box (w.heap.size + 1) [.int .i64 q, .int .i64 l, .int .i64 m, .slice A1 D.length k1], .box w.heap.size [.int .i64 q, .int .i64 m, .slice A T.length k], .ro (.slice A1 D.length k1) D, .ro (.slice A T.length k) T]) (fun v12 _ => nf - (intOf v12).toNat)
            case atStart => exact ⟨0, vd, rfl, by omega, by simpa only [atPiv, List.take_zero, List.map_nil, List.append_nil] using g2⟩
            case round =>
              clear g2
              obtain ⟨c, vd, rfl, a3, g⟩ := hrel
              by_cases hc : c < nf
              · have Hc9 := Lib.hid (show c < Fr.length by rw [← Hnf.out]; exact hc)
                have hcm := HFb.out c hc
                have HN := Lib.hid (atPiv_take0 (V := V) Hc9.out)
                have Hx9 := Lib.hid (show pv Fr c < V.length by rw [HVl.out]; exact hcm)
                obtain ⟨gx, rfl, hq9⟩ := g.ownSomeA 0 rfl (Nat.lt_of_le_of_lt (Nat.zero_le _) Hx9.out)
                clear hq9
                obtain ⟨z, hz⟩ : ∃ z, z = vec V (pv Fr c) := ⟨_, rfl⟩
                have Hz := Lib.hid hz.symm
                rw [← hz] at HN
                clear hz
                have i3 : (c : Int) < nf := by omega
                have i4 : (pv Fr c : Int) < m := by omega
                have HL1 := Lib.hid (show (rowsT nf X (i * nf + j) ++ atPiv (Fr.take c) V).length + 1 ≤ 17592186044416 by
                  rw [List.length_append, HRT.out, length_atPiv, List.length_take]
                  have h1 := row_bd (c := nf) hi
                  have h2 := Nat.mul_le_mul (show i * nf + j ≤ nf * nf by omega) nf28
                  have h3 := Nat.mul_le_mul nf28 nf28
                  have h4 : nf * nf * 28 ≤ 28 * 28 * 28 := Nat.mul_le_mul_right 28 h3
                  omega)
                go_upto_region 16 with fail
                have g0 := g.drew
                refine wp_region_cut (S := fun w' => (w'.cell? ⟨B8, 0, none⟩ = some (.int .i64 q) ∧ w'.cell? ⟨B8, 1, none⟩ = some (.int .i64 nf) ∧ w'.cell? ⟨B8, 2, none⟩ = some (vd)) ∧ w'.cell? ⟨gf, c, none⟩ = some (.int .i64 (pv Fr c)) ∧ w'.cell? ⟨gx, pv Fr c, none⟩ = some (.int .i64 z)) 10 (by kernel_rfl) (by kernel_rfl) ⟨g0.box3 1 rfl, g0.pivCell 3 rfl Hc9.out, by have h9 := (g0.ownCellA 0 rfl (q := pv Fr c) Hx9.out).1; rwa [Hz.out] at h9⟩ (fun hHeld => ?_)
                simp only [List.take_succ_cons, List.take_zero]
                refine anyH_take (v := ?_) 0 rfl (by kernel_rfl) (by kernel_rfl) (by kernel_rfl) (fun _ _ _ h => h) rfl ?_ hHeld ?_
                rotate_left
                · intro w' hSw
                  go_simp
                  try with_reducible rfl
                try simp only [Act.put, List.setIfInBounds_toArray, List.set_cons_zero, List.set_cons_succ]
                refine anyH_take (v := ?_) 1 rfl (by kernel_rfl) (by kernel_rfl) (by kernel_rfl) (fun _ _ _ h => h) rfl ?_ hHeld ?_
                rotate_left
                · intro w' hSw
                  go_simp
                  try with_reducible rfl
                try simp only [Act.put, List.setIfInBounds_toArray, List.set_cons_zero, List.set_cons_succ]
                refine anyH_take (v := ?_) 2 rfl (by kernel_rfl) (by kernel_rfl) (by kernel_rfl) (fun _ _ _ h => h) rfl ?_ hHeld ?_
                rotate_left
                · intro w' hSw
                  go_simp
                  try with_reducible rfl
                try simp only [Act.put, List.setIfInBounds_toArray, List.set_cons_zero, List.set_cons_succ]
                refine anyH_take (v := ?_) 3 rfl (by kernel_rfl) (by kernel_rfl) (by kernel_rfl) (fun _ _ _ h => h) rfl ?_ hHeld ?_
                rotate_left
                · intro w' hSw
                  go_simp
                  try with_reducible rfl
                try simp only [Act.put, List.setIfInBounds_toArray, List.set_cons_zero, List.set_cons_succ]
                refine anyH_take (v := ?_) 4 rfl (by kernel_rfl) (by kernel_rfl) (by kernel_rfl) (fun _ _ _ h => h) rfl ?_ hHeld ?_
                rotate_left
                · intro w' hSw
                  go_simp
                  try with_reducible rfl
                try simp only [Act.put, List.setIfInBounds_toArray, List.set_cons_zero, List.set_cons_succ]
                refine anyH_take (v := ?_) 5 rfl (by kernel_rfl) (by kernel_rfl) (by kernel_rfl) (fun _ _ _ h => h) rfl ?_ hHeld ?_
                rotate_left
                · intro w' hSw
                  go_simp
                  try with_reducible rfl
                try simp only [Act.put, List.setIfInBounds_toArray, List.set_cons_zero, List.set_cons_succ]
                refine anyH_take (v := ?_) 6 rfl (by kernel_rfl) (by kernel_rfl) (by kernel_rfl) (fun _ _ _ h => h) rfl ?_ hHeld ?_
                rotate_left
                · intro w' hSw
                  go_simp
                  try with_reducible rfl
                try simp only [Act.put, List.setIfInBounds_toArray, List.set_cons_zero, List.set_cons_succ]
                refine anyH_take (v := ?_) 7 rfl (by kernel_rfl) (by kernel_rfl) (by kernel_rfl) (fun _ _ _ h => h) rfl ?_ hHeld ?_
                rotate_left
                · intro w' hSw
                  go_simp
                  try with_reducible rfl
                try simp only [Act.put, List.setIfInBounds_toArray, List.set_cons_zero, List.set_cons_succ]
                refine anyH_take (v := ?_) 8 rfl (by kernel_rfl) (by kernel_rfl) (by kernel_rfl) (fun _ _ _ h => h) rfl ?_ hHeld ?_
                rotate_left
                · intro w' hSw
                  go_simp
                  try with_reducible rfl
                try simp only [Act.put, List.setIfInBounds_toArray, List.set_cons_zero, List.set_cons_succ]
                refine wpAnyH_ready (rs := [9]) (by kernel_rfl) (by simp) ?_
                refine ready_cons rfl (fun K hK => ?_) AllReadyH.nil
                go_simp
                have ga := g0.alloc' (.cells #[.int .i64 z] 3)
                refine hK.out _ _ ?_ (fun hHeld => ?_)
                · exact ⟨ga.box3 1 rfl, ga.pivCell 3 rfl Hc9.out, by have h9 := (ga.ownCellA 0 rfl (q := pv Fr c) Hx9.out).1; rwa [Hz.out] at h9⟩
                clear hK K
                try simp only [Act.put, List.setIfInBounds_toArray, List.set_cons_zero, List.set_cons_succ]
                refine wpAnyH_done (by kernel_rfl) ?_ _
                show wpList _ _ _ _ _ _
                simp only [List.drop_succ_cons, List.drop_zero]
                clear hHeld
                clear g g0
                obtain ⟨y0, y1, y2⟩ := ga.box3 1 rfl
                have f2 := ga.free 1 rfl 2
                go_wp2_with (at_builtin; refine wp_append_ints rfl (.tmp 55) (.tmp 63) rfl w.heap.size _ _ (rowsT nf X (i * nf + j) ++ atPiv (Fr.take c) V) [z] rfl rfl (ga.own 2 rfl) Ints.one HL1.out ga.size ?_; intro v1 w7 ho1 hg1 hb1; have h3 := ga.appended 2 rfl ho1 hg1 hb1; obtain ⟨A8, n8, k8, rfl⟩ := ho1.slice; obtain ⟨x0, x1, x2⟩ := h3.box3 1 rfl; have g3 := h3.free 1 rfl 2; clear y0 y1 y2 f2)
                have h4 := h3.setBox 1 rfl 2 (.slice A8 n8 k8)
                go_roundw
                case rel =>
                  refine ⟨c + 1, .slice A8 n8 k8, by go_num, by omega, ?_⟩
                  rw [HN.out, ← List.append_assoc]
                  exact h4
                case measure => simp [intOf]; omega
              · obtain rfl : c = nf := by omega
                have HSn2 := Lib.hid (HSn.out i j hj)
                have HT := Lib.hid (show Fr.take c = Fr by rw [Hnf.out]; exact List.take_length)
                rw [HT.out, ← HXij.out, HSn2.out] at g
                go_wp2
                go_roundw
                case rel => exact ⟨j + 1, vd, by go_num, by omega, g.drop 1⟩
                case measure => simp [intOf]; omega
          · obtain rfl : j = nf := by omega
            go_wp2
            go_roundw
            case rel => exact ⟨i + 1, vd, by go_num, by omega, by rw [Nat.add_mul, Nat.one_mul]; exact g⟩
            case measure => simp [intOf]; omega
      · obtain rfl : i = nf := by omega
        obtain ⟨A8, n8, c8, rfl⟩ := (g.own 1 rfl).slice
        obtain ⟨y0, y1, y2⟩ := g.box3 0 rfl
        obtain ⟨p0, p1, p2⟩ := g.box3 3 rfl
        have f0 := g.free 3 rfl 0
        have f1 := g.free 3 rfl 1
        have f2 := g.free 3 rfl 2
        have g2 := ((g.setBox 3 rfl 0 (.int .i64 q)).setBox 3 rfl 1 (.int .i64 i)).setBox 3 rfl 2 (.slice A8 n8 c8)
        obtain ⟨r0, r1, r2⟩ := g2.box3 3 rfl
        go_wp2
        refine bodyPost_ret (v := .tuple #[.agg #[.int .i64 q, .int .i64 i, .slice A8 n8 c8], .bool true]) (by simp [results, Try.results32, go_sem, r0, r1, r2]) rfl ?_
        rw [HF.out]
        exact ⟨_, rfl, g2.own 1 rfl, g2.below⟩
end Go.Proofs.Ytcdbgcpccmcbeaa
