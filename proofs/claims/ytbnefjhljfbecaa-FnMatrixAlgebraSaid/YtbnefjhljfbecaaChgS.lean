/- Tables in another basis, in the reference: l2Brackets, l2Table. -/
import Derived.Test.YtbnefjhljfbecaaSolS
import Derived.Test.YtbnefjhljfbecaaTbl
namespace Go.Proofs.Ytbnefjhljfbecaa
set_option maxRecDepth 100000
open Go.RowKit

def RetAlgB (w : World) (a0 a1 : Int) (l : List Int) (b : Bool) (e : Ending) (w' : World) : Prop := ∃ u, e = .returned (.tuple #[.agg #[.int .i64 a0, .int .i64 a1, u], .bool b]) ∧ Own w' w.heap.size u l ∧ Below w.heap.size w w'

/-- The table of a space's brackets, solved one after the other. -/
def tabX (p : Int) (r n : Nat) (D : List Int) (Q : List (List Int)) (i j : Nat) : List Int := solL p n r (tpD r n D) (rowOf Q (i * r + j))
def tabOk (p : Int) (r n : Nat) (D : List Int) (Q : List (List Int)) : Bool := (List.range (r * r)).all fun q => solB p n r (tpD r n D) (rowOf Q q)
theorem tabOk_iff {p : Int} {r n : Nat} {D : List Int} {Q : List (List Int)} : tabOk p r n D Q = true ↔ ∀ q, q < r * r → solB p n r (tpD r n D) (rowOf Q q) = true := by
  simp [tabOk, List.all_eq_true]
set_option maxHeartbeats 1000000 in
theorem l2Table_any (p : Int) (r n : Nat) (t v : Value) (D : List Int) (Q : List (List Int)) (w : World) (ht : Ints w t D) (hv : IntRows w v Q) (hD : D.length = r * n) (hQ : Wf p n Q) (hQl : Q.length = r * r) (hr : r ≤ 40) (hn : n ≤ 40) (hP : isPrime p = true) (rD : resid p D = true) :
    Calls Try.prog 33 #[.agg #[.int .i64 p, .int .i64 r, .int .i64 n, t], v] w (if tabOk p r n D Q = true then RetAlgB w p r (rowsT r (tabX p r n D Q) (r * r)) true else RetAlgB w 0 0 [] false) := by
  obtain ⟨b1, b2⟩ := isPrime_bd hP
  have h1 := (((St.start w).pushFact hv.fact).arg ht).box [.int .i64 p, .int .i64 r, .int .i64 n, t] 35
  replace h1 := (h1.box [.int .i64 0, .int .i64 0, .slice none 0 0] 28).empty
  simp only [World.size_alloc] at h1
  obtain ⟨A, k, rfl, _, _, _⟩ := id ht
  obtain ⟨A1, k1, rfl, _, _, _⟩ := id hv
  have hrr := mul_le hr hr
  have hrrr := mul_le hrr hr
  have hTp := fun (W : World) (x1 : Ints W (.slice A D.length k) D) => l1TransposeR_any p r n _ D W x1 hD hr hn
  have hSo := fun (W : World) (v1 v2 : Value) (V : List Int) (x1 : Ints W v1 (tpD r n D)) (x2 : Ints W v2 V) (x3 : V.length = n) (x4 : resid p V = true) => l1Solve_any p n r v1 v2 (tpD r n D) V W x1 x2 (length_tpD _ _ _) x3 hn hr hP (resid_tpD hD rD) x4
  have hXl : ∀ i j, solB p n r (tpD r n D) (rowOf Q (i * r + j)) = true → (tabX p r n D Q i j).length = r := fun i j h => by rw [tabX, solL, if_pos h, length_slTo]
  have hXd : ∀ i j, tabX p r n D Q i j = solL p n r (tpD r n D) (rowOf Q (i * r + j)) := fun _ _ => rfl
  have hOi := tabOk_iff (p := p) (r := r) (n := n) (D := D) (Q := Q)
  have hRw := fun i j (hj : j < r) (h : solB p n r (tpD r n D) (rowOf Q (i * r + j)) = true) => rowsT_snoc (X := tabX p r n D Q) (i := i) hj (hXl i j h)
  obtain ⟨E, hE⟩ : ∃ E, E = tpD r n D := ⟨_, rfl⟩
  obtain ⟨X, hX⟩ : ∃ X, X = tabX p r n D Q := ⟨_, rfl⟩
  obtain ⟨ok, hok⟩ : ∃ ok, ok = tabOk p r n D Q := ⟨_, rfl⟩
  have hEl : E.length = n * r := by rw [hE]; exact length_tpD _ _ _
  rw [← hE] at hTp hSo hXd hOi hXl hRw
  rw [← hX] at hXl hXd hRw ⊢
  rw [← hok] at hOi ⊢
  obtain ⟨m, hm⟩ : ∃ m, m = Q.length := ⟨_, rfl⟩
  rw [← hm] at h1 hQl ⊢
  obtain ⟨Po, hPo⟩ : ∃ Po : Ending → World → Prop, Po = (if ok = true then RetAlgB w p r (rowsT r X (r * r)) true else RetAlgB w 0 0 [] false) := ⟨_, rfl⟩
  rw [← hPo]
  have HPo := Lib.hid hPo
  clear hPo
  have HTp := Lib.hid hTp
  have HSo := Lib.hid hSo
  have HX := Lib.hid (And.intro hXl hXd)
  have HOi := Lib.hid hOi
  have HRw := Lib.hid hRw
  have HEl := Lib.hid hEl
  have HQl := Lib.hid hQl
  have HV := Lib.hid hv
  have HQ := Lib.hid hQ
  have Hm := Lib.hid hm
  clear ht hv hD hQ hQl hP rD hTp hSo hXl hXd hOi hRw hE hX hok hEl hm
  obtain ⟨z0, z1, z2, z3⟩ := h1.box4 2 rfl
  go_enter Try.func33, Try.ntmps33
  replace h1 := h1.box [.int .i64 p, .int .i64 r, .slice (some ⟨w.heap.size + 1 + 1, 0, none⟩) 0 0] 28
  obtain ⟨y0, y1, y2, y3⟩ := h1.box4 3 rfl
  simp only [World.size_alloc] at h1
  go_wp2_with fail
  refine (HTp.out _ (h1.roInts 4 rfl)).mono ?_
  rintro (e : Ending) w1 ⟨u1, rfl, ho, hb1⟩
  obtain ⟨A5, c5, rfl, _, _, _⟩ := id ho.ints
  rw [HEl.out] at ho ⊢
  replace h1 := (h1.pushOwn hb1 ho).box [.int .i64 p, .int .i64 n, .int .i64 r, .slice A5 (n * r) c5] 35
  clear ho hb1 z0 z1 z2 z3 y0 y1 y2 y3
  go_wp2
  generalize w1.heap.size = B5 at h1 ⊢
  have HRl := Lib.hid (length_rowsT r X)
  go_loopw [9, 10, 11, 12] (fun v9 _ _ _ wr => ∃ (i : Nat) (vd : Value), v9 = .int .i64 i ∧ i ≤ r ∧ Hid (∀ q, q < i * r → solB p n r E (rowOf Q q) = true) ∧ St w wr [.box B5 [.int .i64 p, .int .i64 n, .int .i64 r, .slice A5 (n * r) c5], .own (.slice A5 (n * r) c5) E, .box (w.heap.size + 1 + 1 + 1) [.int .i64 p, .int .i64 r, vd], .own vd (rowsT r X (i * r)), .box (w.heap.size + 1) [.int .i64 0, .int .i64 0, .slice none 0 0], .box w.heap.size [.int .i64 p, .int .i64 r, .int .i64 n, .slice A D.length k], .ro (.slice A D.length k) D, .fact fun w' => IntRows w' (.slice A1 m k1) Q]) (fun v9 _ _ _ _ => r - (intOf v9).toNat)
  case atStart => exact ⟨0, _, rfl, by omega, Lib.hid (fun q hq => by omega), by rw [Nat.zero_mul, rowsT_zero]; exact h1⟩
  case round =>
    clear h1
    obtain ⟨i, vd, rfl, a1, Hok, h1⟩ := hrel
    by_cases hi : i < r
    · go_wp2
      go_loopw [10, 11, 12] (fun v10 _ _ wr => ∃ (j : Nat) (vd : Value), v10 = .int .i64 j ∧ j ≤ r ∧ Hid (∀ q, q < i * r + j → solB p n r E (rowOf Q q) = true) ∧ St w wr [.box B5 [.int .i64 p, .int .i64 n, .int .i64 r, .slice A5 (n * r) c5], .own (.slice A5 (n * r) c5) E, .box (w.heap.size + 1 + 1 + 1) [.int .i64 p, .int .i64 r, vd], .own vd (rowsT r X (i * r + j)), .box (w.heap.size + 1) [.int .i64 0, .int .i64 0, .slice none 0 0], .box w.heap.size [.int .i64 p, .int .i64 r, .int .i64 n, .slice A D.length k], .ro (.slice A D.length k) D, .fact fun w' => IntRows w' (.slice A1 m k1) Q]) (fun v10 _ _ _ => r - (intOf v10).toNat)
      case atStart => exact ⟨0, vd, rfl, by omega, Hok, h1⟩
      case round =>
        clear h1 Hok
        obtain ⟨j, vd, rfl, a2, Hok, h1⟩ := hrel
        by_cases hj : j < r
        · have hbi := row_bd (c := r) hi
          have hRq := HRw.out i j hj
          have hXq := HX.out.2 i j
          obtain ⟨z1, hz1⟩ : ∃ z1, z1 = i * r := ⟨_, rfl⟩
          obtain ⟨qi, hqi⟩ : ∃ qi, qi = z1 + j := ⟨_, rfl⟩
          have e1 : (i : Int) * (r : Int) = (z1 : Int) := by rw [hz1]; simp
          have e2 : (z1 : Int) + (j : Int) = (qi : Int) := by omega
          have hm9 : m ≤ 1600 := by rw [HQl.out]; exact hrr
          have hq9 : qi < m := by rw [HQl.out]; omega
          rw [← hz1, ← hqi] at hRq hXq h1 Hok
          have HE2 := Lib.hid (show z1 + (j + 1) = qi + 1 by omega)
          have hqL : qi < Q.length := by rw [← Hm.out]; exact hq9
          have hwf := HQ.out qi hqL
          obtain ⟨bb, off, A9, c9, hAA, hmf⟩ := HV.out.at (i := qi) hqL
          rw [rowOf_eq hqL, hwf.1] at hmf
          subst hAA
          replace h1 := h1.pushOld hmf.fact
          obtain ⟨sb, hsb⟩ : ∃ sb, sb = solB p n r E (rowOf Q qi) := ⟨_, rfl⟩
          have hs := fun (W : World) (v1 v2 : Value) (x1 : Ints W v1 E) (x2 : Ints W v2 (rowOf Q qi)) => HSo.out W v1 v2 (rowOf Q qi) x1 x2 hwf.1 hwf.2
          rw [← hsb, ← hXq] at hs
          rw [← hsb] at hRq
          have HSq := Lib.hid hs
          have HRq := Lib.hid hRq
          have Hsb := Lib.hid hsb
          have Hz1 := Lib.hid hz1
          have Hqi := Lib.hid hqi
          have Hq9 := Lib.hid (show qi < r * r by rw [← HQl.out]; exact hq9)
          have w1 : IntKind.i64.wrap (z1 : Int) = z1 := wrap_ok (by omega) (by omega)
          have w2 : IntKind.i64.wrap (qi : Int) = qi := wrap_ok (by omega) (by omega)
          have iq : (qi : Int) < m := by omega
          clear hbi hRq hXq hqi hqL hwf hmf hsb hs hz1
          go_upto_region 10 with fail
          have g0 := h1.drew
          refine wp_region_held_drew (S := fun w' => (w'.cell? ⟨B5, 0, none⟩ = some (.int .i64 p) ∧ w'.cell? ⟨B5, 1, none⟩ = some (.int .i64 n) ∧ w'.cell? ⟨B5, 2, none⟩ = some (.int .i64 r) ∧ w'.cell? ⟨B5, 3, none⟩ = some (.slice A5 (n * r) c5)) ∧ w'.cell? ⟨bb, off + qi, none⟩ = some (.slice A9 n c9)) (by kernel_rfl) ⟨g0.box4 1 rfl, (g0.fact 0 rfl).1⟩ (fun hHeld => ?_)
          refine anyH_take (v := ?_) 0 rfl (by kernel_rfl) (by kernel_rfl) (by kernel_rfl) (fun _ _ _ h => h) rfl ?_ hHeld ?_
          rotate_left
          · intro w' hSw
            go_simp
            try with_reducible rfl
          try simp only [Act.put, List.setIfInBounds_toArray, List.set_cons_zero, List.set_cons_succ]
          refine anyH_take (v := ?_) 1 rfl (by kernel_rfl) (by kernel_rfl) (by kernel_rfl) (fun _ _ _ h => h) rfl ?_ hHeld ?_
          rotate_left
          · intro w' hSw
            go_simp
            try with_reducible rfl
          try simp only [Act.put, List.setIfInBounds_toArray, List.set_cons_zero, List.set_cons_succ]
          refine anyH_take (v := ?_) 2 rfl (by kernel_rfl) (by kernel_rfl) (by kernel_rfl) (fun _ _ _ h => h) rfl ?_ hHeld ?_
          rotate_left
          · intro w' hSw
            go_simp
            try with_reducible rfl
          try simp only [Act.put, List.setIfInBounds_toArray, List.set_cons_zero, List.set_cons_succ]
          refine anyH_take (v := ?_) 3 rfl (by kernel_rfl) (by kernel_rfl) (by kernel_rfl) (fun _ _ _ h => h) rfl ?_ hHeld ?_
          rotate_left
          · intro w' hSw
            go_simp
            try with_reducible rfl
          try simp only [Act.put, List.setIfInBounds_toArray, List.set_cons_zero, List.set_cons_succ]
          refine anyH_take (v := ?_) 4 rfl (by kernel_rfl) (by kernel_rfl) (by kernel_rfl) (fun _ _ _ h => h) rfl ?_ hHeld ?_
          rotate_left
          · intro w' hSw
            go_simp
            try with_reducible rfl
          try simp only [Act.put, List.setIfInBounds_toArray, List.set_cons_zero, List.set_cons_succ]
          refine anyH_take (v := ?_) 5 rfl (by kernel_rfl) (by kernel_rfl) (by kernel_rfl) (fun _ _ _ h => h) rfl ?_ hHeld ?_
          rotate_left
          · intro w' hSw
            go_simp
            try with_reducible rfl
          try simp only [Act.put, List.setIfInBounds_toArray, List.set_cons_zero, List.set_cons_succ]
          refine anyH_take (v := ?_) 6 rfl (by kernel_rfl) (by kernel_rfl) (by kernel_rfl) (fun _ _ _ h => h) rfl ?_ hHeld ?_
          rotate_left
          · intro w' hSw
            go_simp
            try with_reducible rfl
          try simp only [Act.put, List.setIfInBounds_toArray, List.set_cons_zero, List.set_cons_succ]
          refine anyH_take (v := ?_) 7 rfl (by kernel_rfl) (by kernel_rfl) (by kernel_rfl) (fun _ _ _ h => h) rfl ?_ hHeld ?_
          rotate_left
          · intro w' hSw
            go_simp
            try with_reducible rfl
          try simp only [Act.put, List.setIfInBounds_toArray, List.set_cons_zero, List.set_cons_succ]
          refine anyH_take (v := ?_) 8 rfl (by kernel_rfl) (by kernel_rfl) (by kernel_rfl) (fun _ _ _ h => h) rfl ?_ hHeld ?_
          rotate_left
          · intro w' hSw
            go_simp
            try with_reducible rfl
          try simp only [Act.put, List.setIfInBounds_toArray, List.set_cons_zero, List.set_cons_succ]
          refine wpAnyH_ready (rs := [9]) (by kernel_rfl) (by simp) ?_
          refine ready_cons rfl (fun K hK => ?_) AllReadyH.nil
          go_simp
          refine (HSq.out _ _ _ (g0.ownInts 2 rfl) (g0.fact 0 rfl).2).mono ?_
          rintro (e : Ending) w5 ⟨u5, rfl, ho5, hb5⟩
          obtain ⟨A7, n7, c7, rfl⟩ := ho5.slice
          have g1 := g0.pushOwn hb5 ho5
          show K _ _
          refine hK.out _ _ ?_ (fun hHeld => ?_)
          · exact ⟨g1.box4 2 rfl, (g1.fact 1 rfl).1⟩
          clear hK K
          try simp only [Act.put, List.setIfInBounds_toArray, List.set_cons_zero, List.set_cons_succ]
          refine anyH_take (v := ?_) 10 rfl (by kernel_rfl) (by kernel_rfl) (by kernel_rfl) (fun _ _ _ h => h) rfl ?_ hHeld ?_
          rotate_left
          · intro w' hSw
            go_simp
            try with_reducible rfl
          try simp only [Act.put, List.setIfInBounds_toArray, List.set_cons_zero, List.set_cons_succ]
          refine anyH_take (v := ?_) 11 rfl (by kernel_rfl) (by kernel_rfl) (by kernel_rfl) (fun _ _ _ h => h) rfl ?_ hHeld ?_
          rotate_left
          · intro w' hSw
            go_simp
            try with_reducible rfl
          try simp only [Act.put, List.setIfInBounds_toArray, List.set_cons_zero, List.set_cons_succ]
          refine anyH_take (v := ?_) 12 rfl (by kernel_rfl) (by kernel_rfl) (by kernel_rfl) (fun _ _ _ h => h) rfl ?_ hHeld ?_
          rotate_left
          · intro w' hSw
            go_simp
            try with_reducible rfl
          try simp only [Act.put, List.setIfInBounds_toArray, List.set_cons_zero, List.set_cons_succ]
          refine anyH_take (v := ?_) 13 rfl (by kernel_rfl) (by kernel_rfl) (by kernel_rfl) (fun _ _ _ h => h) rfl ?_ hHeld ?_
          rotate_left
          · intro w' hSw
            go_simp
            try with_reducible rfl
          try simp only [Act.put, List.setIfInBounds_toArray, List.set_cons_zero, List.set_cons_succ]
          refine anyH_take (v := ?_) 14 rfl (by kernel_rfl) (by kernel_rfl) (by kernel_rfl) (fun _ _ _ h => h) rfl ?_ hHeld ?_
          rotate_left
          · intro w' hSw
            go_simp
            try with_reducible rfl
          try simp only [Act.put, List.setIfInBounds_toArray, List.set_cons_zero, List.set_cons_succ]
          refine wpAnyH_done (by kernel_rfl) ?_ _
          clear hHeld
          clear g0 h1 ho5 hb5
          cases sb with
          | false =>
            obtain ⟨p0, p1, p2⟩ := g1.box3 6 rfl
            have f0 := g1.free 6 rfl 0
            have f1 := g1.free 6 rfl 1
            have f2 := g1.free 6 rfl 2
            have g2 := ((g1.setBox 6 rfl 0 (.int .i64 0)).setBox 6 rfl 1 (.int .i64 0)).setBox 6 rfl 2 (.slice none 0 0)
            obtain ⟨r0, r1, r2⟩ := g2.box3 6 rfl
            have HF := Lib.hid (show ok = false by
              cases ok with
              | false => rfl
              | true => exact absurd (HOi.out.1 rfl qi Hq9.out) (by rw [← Hsb.out]; exact Bool.noConfusion))
            clear g1 HSq
            go_wp2
            refine bodyPost_ret (v := .tuple #[.agg #[.int .i64 0, .int .i64 0, .slice none 0 0], .bool false]) (by simp [results, Try.results33, go_sem, r0, r1, r2]) rfl ?_
            rw [HPo.out, HF.out, if_neg (by simp)]
            exact ⟨_, rfl, Own.nil, g2.below⟩
          | true =>
            obtain ⟨y0, y1, y2⟩ := g1.box3 4 rfl
            have f2 := g1.free 4 rfl 2
            have HL1 := Lib.hid (show (rowsT r X qi).length + (X i j).length ≤ 17592186044416 by
              have := congrArg List.length (HRq.out rfl)
              rw [List.length_append, HRl.out, HRl.out] at this
              rw [HRl.out]
              have h9 := Nat.mul_le_mul (show qi + 1 ≤ 1600 by omega) hr
              omega)
            go_wp2_with (at_builtin; refine wp_append_ints rfl (.tmp 49) (.tmp 50) rfl w.heap.size _ _ (rowsT r X qi) (X i j) rfl rfl (g1.own 5 rfl) (g1.ownInts 0 rfl) HL1.out g1.size ?_; intro v1 w7 ho1 hg1 hb1; have h3 := g1.appended 5 rfl ho1 hg1 hb1; obtain ⟨A8, n8, k8, rfl⟩ := ho1.slice; obtain ⟨x0, x1, x2⟩ := h3.box3 4 rfl; have g3 := h3.free 4 rfl 2; clear y0 y1 y2 f2)
            have h4 := h3.setBox 4 rfl 2 (.slice A8 n8 k8)
            go_roundw
            case rel =>
              refine ⟨j + 1, .slice A8 n8 k8, by go_num, by omega, Lib.hid ?_, ?_⟩
              · intro q hq
                rw [← Hz1.out, HE2.out] at hq
                by_cases e : q = qi
                · rw [e]; exact Hsb.out.symm
                · exact Hok.out q (by omega)
              · rw [← Hz1.out, HE2.out, ← HRq.out rfl]
                exact h4.drop 2
            case measure => simp [intOf]; omega
        · obtain rfl : j = r := by omega
          go_wp2
          go_roundw
          case rel => exact ⟨i + 1, vd, by go_num, by omega, by rw [Nat.add_mul, Nat.one_mul]; exact Hok, by rw [Nat.add_mul, Nat.one_mul]; exact h1⟩
          case measure => simp [intOf]; omega
    · obtain rfl : i = r := by omega
      have HF := Lib.hid (show ok = true from HOi.out.2 Hok.out)
      obtain ⟨A8, n8, c8, rfl⟩ := (h1.own 3 rfl).slice
      obtain ⟨y0, y1, y2⟩ := h1.box3 2 rfl
      obtain ⟨p0, p1, p2⟩ := h1.box3 4 rfl
      have f0 := h1.free 4 rfl 0
      have f1 := h1.free 4 rfl 1
      have f2 := h1.free 4 rfl 2
      have g2 := ((h1.setBox 4 rfl 0 (.int .i64 p)).setBox 4 rfl 1 (.int .i64 i)).setBox 4 rfl 2 (.slice A8 n8 c8)
      obtain ⟨r0, r1, r2⟩ := g2.box3 4 rfl
      go_wp2
      refine bodyPost_ret (v := .tuple #[.agg #[.int .i64 p, .int .i64 i, .slice A8 n8 c8], .bool true]) (by simp [results, Try.results33, go_sem, r0, r1, r2]) rfl ?_
      rw [HPo.out, HF.out, if_pos rfl]
      exact ⟨_, rfl, g2.own 3 rfl, g2.below⟩
end Go.Proofs.Ytbnefjhljfbecaa
