/- The law FnMatrixAlgebra, walked. -/
import Derived.Test.YtbnefjhljfbecaaMatS
import Derived.Test.YtbnefjhljfbecaaComW
import Derived.Test.YtbnefjhljfbecaaDrwW
import Derived.Test.YtbnefjhljfbecaaAdjA
namespace Go.Proofs.Ytbnefjhljfbecaa
set_option maxRecDepth 100000
open Go.RowKit
namespace Mx

/-- A basis vector. -/
def ev (n i : Nat) : List Int := (List.replicate n 0).set i 1
theorem vecOk_ev {q : Int} (hq : 2 ≤ q) (n i : Nat) : vecOk q n (ev n i) = true := by
  unfold vecOk ev
  rw [List.length_set, List.length_replicate, decide_eq_true rfl, Bool.true_and]
  exact resid_set (resid_zeros (by omega) _) (by omega) (by omega)
set_option maxHeartbeats 16000000 in
theorem lawMatrixAlgebra {w : World} (v : Value) (n0 : Nat) (hv : Dw.BytesR w v n0) :
    Calls Try.prog 3 #[v] w fun e w' => e = .returned (.bool true) ∧ Below w.heap.size w w' := by
  have h1 := (St.start w).pushFact hv.fact
  have hB := Dw.bigL_any v n0 w hv
  by_cases hn : 1048576 < n0
  · rw [decide_eq_true hn] at hB
    have HB := Lib.hid hB
    clear hB hv
    go_enter Try.func3, Try.ntmps3
    go_wp2_with fail
    refine HB.out.mono ?_
    rintro (e : Ending) w1 ⟨rfl, hb1⟩
    go_wp2
    go_ret
    exact ⟨rfl, (h1.on hb1).below⟩
  rw [decide_eq_false hn] at hB
  have HB := Lib.hid hB
  clear hB hv
  go_enter Try.func3, Try.ntmps3
  go_wp2_with fail
  refine HB.out.mono ?_
  rintro (e : Ending) w1 ⟨rfl, hb1⟩
  replace h1 := h1.on hb1
  have HDr := Lib.hid (Dw.DrawMatrixAlgebra_any v n0 w1 (by omega) (h1.fact 0 rfl))
  clear HB hn
  go_wp2_with fail
  refine HDr.out.mono ?_
  rintro (e : Ending) w2 ⟨v2, us, ms, p, s, hul, hD, m1, m9, s2, s3, p2, p101, hP, rfl, h2⟩
  have hbl := h1.on h2.below
  have hv2 := h2.mats 0 rfl hul
  obtain ⟨q, hq⟩ : ∃ q : Int, q = (p : Int) := ⟨_, rfl⟩
  have hG : GoodMs q s ms := by rw [hq]; exact hD
  rw [← hq] at hP
  have q2 : 2 ≤ q := by omega
  have q101 : q ≤ 101 := by omega
  clear hq hD HDr h1 h2 p2 p101 hb1
  obtain ⟨A, k0, rfl, _, _, _⟩ := id hv2
  have h0m : 0 < ms.length := by omega
  obtain ⟨bb, off, A0, c0, rfl, hm0⟩ := hv2.at (i := 0) h0m
  have hI := AlgebraOfMatricesI_any q s _ ms w2 hv2 hP s3 hG m1 (by omega)
  have g := (St.start w2).pushFact hv2.fact
  by_cases hf : fine q s (ms.map Mt.d) = true
  case neg =>
    have hf : fine q s (ms.map Mt.d) = false := by simpa using hf
    have hS := fun (W : World) (x : MatsR W (.slice (some ⟨bb, off, none⟩) ms.length k0) ms) => AlgebraOfMatricesS_any q s _ ms W x hP s3 hG m1 (by omega) hf
    rw [hf] at hI
    have HI := Lib.hid (hI.mono fun e w' h => (show RetAlgB w2 0 0 [] false e w' by simpa [RetAM] using h))
    have HS := Lib.hid hS
    obtain ⟨n, hn⟩ : ∃ n, n = ms.length := ⟨_, rfl⟩
    rw [← hn] at HI HS g ⊢
    clear hI hS hf hm0 hv2 hG hul hn h0m m1 m9
    go_wp2_with fail
    refine HI.out.mono ?_
    rintro (e : Ending) w3 ⟨u3, rfl, ho3, hb3⟩
    obtain ⟨A3, n3, c3, rfl⟩ := ho3.slice
    have g1 := (g.pushOwn hb3 ho3).box [.int .i64 0, .int .i64 0, .slice A3 n3 c3] 28
    clear g ho3 hb3 HI
    go_wp2_with fail
    refine (HS.out _ (g1.fact 2 rfl)).mono ?_
    rintro (e : Ending) w4 ⟨u4, rfl, ho4, hb4⟩
    obtain ⟨A4, n4, c4, rfl⟩ := ho4.slice
    have g2 := (g1.pushOwn hb4 ho4).box [.int .i64 0, .int .i64 0, .slice A4 n4 c4] 28
    clear g1 ho4 hb4 HS
    obtain ⟨x0, x1, x2⟩ := g2.box3 0 rfl
    go_wp2
    go_ret
    exact ⟨rfl, (hbl.on g2.below).below⟩
  case pos =>
    rw [hf] at hI
    have HI := Lib.hid (hI.mono fun e w' h => (show RetAlgB w2 q ms.length (maT q s (ms.map Mt.d)) true e w' by simpa [RetAM] using h))
    have hSl : (ms.map Mt.d).length = ms.length := List.length_map _
    have hS := hG.wf
    have hM := hG.get
    have hle := fun i j (hi : i < (ms.map Mt.d).length) (hj : j < (ms.map Mt.d).length) => law_eq hP hS hf hi hj
    have hok := fine_ok hP hS hf (by omega)
    obtain ⟨S, hSd⟩ : ∃ S, S = ms.map Mt.d := ⟨_, rfl⟩
    rw [← hSd] at HI hSl hS hM hle hok
    have hsm := fun x k (hk : k ≤ S.length) => sumM_ok q2 hS x k hk
    obtain ⟨T, hT⟩ : ∃ T, T = maT q s S := ⟨_, rfl⟩
    rw [← hT] at HI hle hok
    obtain ⟨n, hn⟩ : ∃ n, n = ms.length := ⟨_, rfl⟩
    rw [← hn] at HI hSl g m1 m9 h0m ⊢
    rw [hSl] at hle hok hsm
    have HA := Lib.hid (fun (W : World) (u : Value) (x : Ints W u T) => (show Calls Try.prog 8 #[.agg #[.int .i64 q, .int .i64 n, u]] W (RetBool W true) by
      have := AlgebraOkI_any q n u T W x (by omega)
      rwa [hok] at this))
    obtain ⟨Xf, hXf⟩ : ∃ Xf : Nat → Nat → List Int, Xf = fun i j => braL T (ev n i) (ev n j) n q := ⟨_, rfl⟩
    have HBr := Lib.hid (fun (W : World) (u x y : Value) (i j : Nat) (h1 : Ints W u T) (h2 : Ints W x (ev n i)) (h3 : Ints W y (ev n j)) => (show Calls Try.prog 9 #[.agg #[.int .i64 q, .int .i64 n, u], x, y] W (RetOwn W (Xf i j)) by
      have := BracketOfI_any q n u x y T (ev n i) (ev n j) W h1 h2 h3 (by omega)
      rw [brOf, hok, vecOk_ev q2, vecOk_ev q2, Int.toNat_natCast] at this
      rw [hXf]
      exact this))
    have hXl : ∀ i j, (Xf i j).length = n := fun i j => by rw [hXf]; exact length_braL _ _ _ _ _
    have hXr : ∀ i j, resid q (Xf i j) = true := fun i j => by rw [hXf]; exact resid_braL _ _ _ _ q2
    have HLe := Lib.hid (fun i j (hi : i < n) (hj : j < n) => (show sumM q s S (Xf i j) n = comD q s (rowOf S i) (rowOf S j) by rw [hXf]; exact hle i j hi hj))
    have HU := Lib.hid (fun (W : World) (i : Nat) (hi : i < n) => (show Calls Try.prog 10 #[.int .i64 n, .int .i64 i] W fun e w' => ∃ v, e = .returned v ∧ Own w' W.heap.size v (ev n i) ∧ Below W.heap.size W w' from unitL_any n i W (by omega) hi))
    have HZ := Lib.hid (fun W => ZeroMatrixS_any q s W hP (by omega))
    have hrw := fun k (hk : k < n) => hS k (by rw [hSl]; exact hk)
    have HSc := Lib.hid (fun (W : World) (t : Value) (k : Nat) (z : Int) (hk : k < n) (ht : Ints W t (rowOf S k)) (z0 : 0 ≤ z) (z1 : z < q) => ScaleMatrixS_any q z s t (rowOf S k) W ht hP (by omega) (hrw k hk).1 (hrw k hk).2 z0 z1)
    have HPl := Lib.hid (fun (W : World) (t u : Value) (i j k : Nat) (hk : k < n) (ht : Ints W t (sumM q s S (Xf i j) k)) (hu : Ints W u (scaleR q (Go.Proofs.Ytbnefjhljfbecaa.vec (Xf i j) k % q) (rowOf S k))) => (show Calls Try.prog 12 #[.agg #[.int .i64 q, .int .i64 s, .int .i64 s, t], .agg #[.int .i64 q, .int .i64 s, .int .i64 s, u]] W (RetMat W q s s (sumM q s S (Xf i j) (k + 1))) from
      plusL_any q s t u _ _ W ht hu hP (by omega) (hsm (Xf i j) k (by omega)).1 (by rw [length_scaleR]; exact (hrw k hk).1) (hsm (Xf i j) k (by omega)).2.1 (resid_scaleR (by omega) _ _)))
    have HCm := Lib.hid (fun (W : World) (t u : Value) (i j : Nat) (hi : i < n) (hj : j < n) (ht : Ints W t (rowOf S i)) (hu : Ints W u (rowOf S j)) => CommutatorS_any q s t u (rowOf S i) (rowOf S j) W ht hu hP (by omega) (hrw i hi).1 (hrw j hj).1 (hrw i hi).2 (hrw j hj).2)
    have HEq := Lib.hid (fun (W : World) (t u : Value) (D : List Int) (ht : Ints W t D) (hu : Ints W u D) => equalL_any q s t u D W ht hu)
    have HV := Lib.hid hv2
    have HM := Lib.hid hM
    have HRw := Lib.hid hrw
    have Hnn := Lib.hid hn
    have HX := Lib.hid (And.intro hXl hXr)
    obtain ⟨m2, hm2⟩ : ∃ m2, m2 = s * s := ⟨_, rfl⟩
    rw [← hm2] at HRw
    rw [hM 0 (by omega)] at hm0
    rw [show (Mt.mk q s s (rowOf S 0)).d.length = m2 by rw [hm2]; exact (hrw 0 h0m).1] at hm0
    replace g := g.pushOld hm0.fact
    have i00 : 0 < n := h0m
    have i01 : (0 : Int) < (n : Int) := by omega
    have t2 : ((n : Int) != (n : Int)) = false := by simp
    clear hI hf hm0 hv2 hG hul hn h0m m1 hle hok hsm hSl hS hM hrw hXl hXr hXf hT hSd hm2 hP
    go_wp2_with fail
    refine HI.out.mono ?_
    rintro (e : Ending) w3 ⟨u3, rfl, ho3, hb3⟩
    obtain ⟨A3, n3, c3, rfl⟩ := ho3.slice
    have g1 := (g.pushOwn hb3 ho3).box [.int .i64 q, .int .i64 n, .slice A3 n3 c3] 28
    clear g ho3 hb3 HI
    obtain ⟨x0, x1, x2⟩ := g1.box3 0 rfl
    go_wp2_with fail
    refine (HA.out _ _ (g1.ownInts 1 rfl)).mono ?_
    rintro (e : Ending) w4 ⟨rfl, hb4⟩
    have g2 := g1.on hb4
    clear x0 x1 x2 g1 hb4 HA
    generalize w3.heap.size = Ba at g2 ⊢
    obtain ⟨x0, x1, x2⟩ := g2.box3 0 rfl
    go_wp2
    clear x0 x1 x2
    go_loopw [8, 9, 10, 11, 12, 13, 14] (fun v8 _ _ _ _ _ _ wr => ∃ i : Nat, v8 = .int .i64 i ∧ i ≤ n ∧ St w2 wr [.box Ba [.int .i64 q, .int .i64 n, .slice A3 n3 c3], .own (.slice A3 n3 c3) T, .fact fun w' => MtAt w' bb (off + 0 * 4) ⟨q, s, s, rowOf S 0⟩ (.slice A0 m2 c0), .fact fun w' => MatsR w' (.slice (some ⟨bb, off, none⟩) n k0) ms]) (fun v8 _ _ _ _ _ _ _ => n - (intOf v8).toNat)
    case atStart => exact ⟨0, rfl, by omega, g2⟩
    case round =>
      clear g2
      obtain ⟨i, rfl, a1, g⟩ := hrel
      obtain ⟨x0, x1, x2⟩ := g.box3 0 rfl
      by_cases hi : i < n
      · have i1 : (i : Int) < (n : Int) := by omega
        have him : i < ms.length := by rw [← Hnn.out]; exact hi
        obtain ⟨bb2, off2, A9, c9, hA, hmf⟩ := HV.out.at (i := i) him
        simp only [Option.some.injEq, Addr.mk.injEq, and_true] at hA
        obtain ⟨rfl, rfl⟩ := hA
        rw [HM.out i him] at hmf
        rw [show (Mt.mk q s s (rowOf S i)).d.length = m2 from (HRw.out i hi).1] at hmf
        have HF1 := Lib.hid hmf.fact
        clear hmf him
        go_wp2
        clear x0 x1 x2
        go_loopw [9, 10, 11, 12, 13, 14] (fun v9 _ _ _ _ _ wr => ∃ j : Nat, v9 = .int .i64 j ∧ j ≤ n ∧ St w2 wr [.box Ba [.int .i64 q, .int .i64 n, .slice A3 n3 c3], .own (.slice A3 n3 c3) T, .fact fun w' => MtAt w' bb (off + 0 * 4) ⟨q, s, s, rowOf S 0⟩ (.slice A0 m2 c0), .fact fun w' => MatsR w' (.slice (some ⟨bb, off, none⟩) n k0) ms]) (fun v9 _ _ _ _ _ _ => n - (intOf v9).toNat)
        case atStart => exact ⟨0, rfl, by omega, g⟩
        case round =>
          clear g
          obtain ⟨j, rfl, a2, g⟩ := hrel
          obtain ⟨x0, x1, x2⟩ := g.box3 0 rfl
          by_cases hj : j < n
          · have j1 : (j : Int) < (n : Int) := by omega
            have hjm : j < ms.length := by rw [← Hnn.out]; exact hj
            obtain ⟨bb2, off2, A10, c10, hA, hmf⟩ := HV.out.at (i := j) hjm
            simp only [Option.some.injEq, Addr.mk.injEq, and_true] at hA
            obtain ⟨rfl, rfl⟩ := hA
            rw [HM.out j hjm] at hmf
            rw [show (Mt.mk q s s (rowOf S j)).d.length = m2 from (HRw.out j hj).1] at hmf
            have HF2 := Lib.hid hmf.fact
            clear hmf hjm
            go_upto_region 16 with fail
            replace g := g.drew
            clear x0 x1 x2
            refine wp_region_held_drew (S := fun w' => (w'.cell? ⟨Ba, 0, none⟩ = some (.int .i64 q) ∧ w'.cell? ⟨Ba, 1, none⟩ = some (.int .i64 n) ∧ w'.cell? ⟨Ba, 2, none⟩ = some (.slice A3 n3 c3))) (by kernel_rfl) (g.box3 0 rfl) (fun hHeld => ?_)
            refine anyH_take (v := ?_) 0 rfl (by kernel_rfl) (by kernel_rfl) (by kernel_rfl) (fun _ _ _ h => h) rfl ?_ hHeld ?_
            rotate_left
            · intro w' hSw
              go_simp
              try with_reducible rfl
            try simp only [Act.put, List.setIfInBounds_toArray, List.set_cons_zero, List.set_cons_succ]
            refine anyH_take (v := ?_) 1 rfl (by kernel_rfl) (by kernel_rfl) (by kernel_rfl) (fun _ _ _ h => h) rfl ?_ hHeld ?_
            rotate_left
            · intro w' hSw
              go_simp
              try with_reducible rfl
            try simp only [Act.put, List.setIfInBounds_toArray, List.set_cons_zero, List.set_cons_succ]
            refine anyH_take (v := ?_) 2 rfl (by kernel_rfl) (by kernel_rfl) (by kernel_rfl) (fun _ _ _ h => h) rfl ?_ hHeld ?_
            rotate_left
            · intro w' hSw
              go_simp
              try with_reducible rfl
            try simp only [Act.put, List.setIfInBounds_toArray, List.set_cons_zero, List.set_cons_succ]
            refine anyH_take (v := ?_) 3 rfl (by kernel_rfl) (by kernel_rfl) (by kernel_rfl) (fun _ _ _ h => h) rfl ?_ hHeld ?_
            rotate_left
            · intro w' hSw
              go_simp
              try with_reducible rfl
            try simp only [Act.put, List.setIfInBounds_toArray, List.set_cons_zero, List.set_cons_succ]
            refine anyH_take (v := ?_) 5 rfl (by kernel_rfl) (by kernel_rfl) (by kernel_rfl) (fun _ _ _ h => h) rfl ?_ hHeld ?_
            rotate_left
            · intro w' hSw
              go_simp
              try with_reducible rfl
            try simp only [Act.put, List.setIfInBounds_toArray, List.set_cons_zero, List.set_cons_succ]
            refine anyH_take (v := ?_) 6 rfl (by kernel_rfl) (by kernel_rfl) (by kernel_rfl) (fun _ _ _ h => h) rfl ?_ hHeld ?_
            rotate_left
            · intro w' hSw
              go_simp
              try with_reducible rfl
            try simp only [Act.put, List.setIfInBounds_toArray, List.set_cons_zero, List.set_cons_succ]
            refine anyH_take (v := ?_) 7 rfl (by kernel_rfl) (by kernel_rfl) (by kernel_rfl) (fun _ _ _ h => h) rfl ?_ hHeld ?_
            rotate_left
            · intro w' hSw
              go_simp
              try with_reducible rfl
            try simp only [Act.put, List.setIfInBounds_toArray, List.set_cons_zero, List.set_cons_succ]
            refine wpAnyH_ready (rs := [4]) (by kernel_rfl) (by simp) ?_
            refine ready_cons rfl (fun K hK => ?_) AllReadyH.nil
            go_simp
            refine (HU.out _ i hi).mono ?_
            rintro (e : Ending) w5 ⟨u5, rfl, ho5, hb5⟩
            obtain ⟨A5, n5, c5, rfl⟩ := ho5.slice
            replace g := g.pushOwn hb5 ho5
            show K _ _
            refine hK.out _ _ ?_ (fun hHeld => ?_)
            · exact (g.box3 1 rfl)
            clear hK K
            try simp only [Act.put, List.setIfInBounds_toArray, List.set_cons_zero, List.set_cons_succ]
            refine wpAnyH_ready (rs := [8]) (by kernel_rfl) (by simp) ?_
            refine ready_cons rfl (fun K hK => ?_) AllReadyH.nil
            go_simp
            refine (HU.out _ j hj).mono ?_
            rintro (e : Ending) w6 ⟨u6, rfl, ho6, hb6⟩
            obtain ⟨A6, n6, c6, rfl⟩ := ho6.slice
            replace g := g.pushOwn hb6 ho6
            show K _ _
            refine hK.out _ _ ?_ (fun hHeld => ?_)
            · exact (g.box3 2 rfl)
            clear hK K
            try simp only [Act.put, List.setIfInBounds_toArray, List.set_cons_zero, List.set_cons_succ]
            refine wpAnyH_ready (rs := [9]) (by kernel_rfl) (by simp) ?_
            refine ready_cons rfl (fun K hK => ?_) AllReadyH.nil
            go_simp
            refine (HBr.out _ _ _ _ i j (g.ownInts 3 rfl) (g.ownInts 1 rfl) (g.ownInts 0 rfl)).mono ?_
            rintro (e : Ending) w7 ⟨u7, rfl, ho7, hb7⟩
            obtain ⟨A7, n7, c7, rfl⟩ := ho7.slice
            replace g := g.pushOwn hb7 ho7
            show K _ _
            refine hK.out _ _ ?_ (fun hHeld => ?_)
            · exact (g.box3 3 rfl)
            clear hK K
            try simp only [Act.put, List.setIfInBounds_toArray, List.set_cons_zero, List.set_cons_succ]
            refine anyH_take (v := ?_) 10 rfl (by kernel_rfl) (by kernel_rfl) (by kernel_rfl) (fun _ _ _ h => h) rfl ?_ hHeld ?_
            rotate_left
            · intro w' hSw
              go_simp
              try with_reducible rfl
            try simp only [Act.put, List.setIfInBounds_toArray, List.set_cons_zero, List.set_cons_succ]
            refine wpAnyH_done (by kernel_rfl) ?_ _
            clear hHeld
            replace g := (g.erase 1).erase 1
            simp only [List.eraseIdx_cons_succ, List.eraseIdx_cons_zero] at g
            clear ho5 hb5 ho6 hb6 ho7 hb7
            obtain ⟨X, hX⟩ : ∃ X, X = Xf i j := ⟨_, rfl⟩
            have HXl := Lib.hid (show X.length = n ∧ resid q X = true by rw [hX]; exact ⟨HX.out.1 i j, HX.out.2 i j⟩)
            have HP2 := Lib.hid (fun (W : World) (t u : Value) (k : Nat) (hk : k < n) => HPl.out W t u i j k hk)
            have HL2 := Lib.hid (HLe.out i j hi hj)
            rw [← hX] at g HP2 HL2
            obtain ⟨b7, rfl, hn7⟩ := g.ownSomeA 0 rfl (by rw [HXl.out.1]; exact i00)
            rw [HXl.out.1] at hn7
            obtain rfl : n = n7 := hn7.symm
            clear hX
            go_upto_region 17 with fail
            go_cut [11] (fun s11 wx => ∃ (Bx : Nat) (A5 : Option Addr) (n5 c5 : Nat), s11 = .pointer (some ⟨Bx, 0, none⟩) ∧ St w2 wx [.own (.slice A5 n5 c5) (List.replicate (s * s) 0), .own (.slice (some ⟨b7, 0, none⟩) n c7) X, .box Ba [.int .i64 q, .int .i64 n, .slice A3 n3 c3], .own (.slice A3 n3 c3) T, .fact fun w' => MtAt w' bb (off + 0 * 4) ⟨q, s, s, rowOf S 0⟩ (.slice A0 m2 c0), .fact fun w' => MatsR w' (.slice (some ⟨bb, off, none⟩) n k0) ms, .box Bx [.int .i64 q, .int .i64 s, .int .i64 s, .slice A5 n5 c5]])
            case first =>
              replace g := g.drew
              refine wp_region_cut (S := fun w' => (w'.cell? ⟨Ba, 0, none⟩ = some (.int .i64 q) ∧ w'.cell? ⟨Ba, 1, none⟩ = some (.int .i64 n) ∧ w'.cell? ⟨Ba, 2, none⟩ = some (.slice A3 n3 c3)) ∧ w'.cell? ⟨bb, off + 1, none⟩ = some (.int .i64 s)) 12 (by kernel_rfl) (by kernel_rfl) ⟨g.box3 1 rfl, (g.fact 3 rfl).2.1⟩ (fun hHeld => ?_)
              simp only [List.take_succ_cons, List.take_zero]
              generalize World.drew _ = v0 at g hHeld ⊢
              refine anyH_take (v := ?_) 0 rfl (by kernel_rfl) (by kernel_rfl) (by kernel_rfl) (fun _ _ _ h => h) rfl ?_ hHeld ?_
              rotate_left
              · intro w' hSw
                go_simp
                try with_reducible rfl
              try simp only [Act.put, List.setIfInBounds_toArray, List.set_cons_zero, List.set_cons_succ]
              refine anyH_take (v := ?_) 1 rfl (by kernel_rfl) (by kernel_rfl) (by kernel_rfl) (fun _ _ _ h => h) rfl ?_ hHeld ?_
              rotate_left
              · intro w' hSw
                go_simp
                try with_reducible rfl
              try simp only [Act.put, List.setIfInBounds_toArray, List.set_cons_zero, List.set_cons_succ]
              refine anyH_take (v := ?_) 2 rfl (by kernel_rfl) (by kernel_rfl) (by kernel_rfl) (fun _ _ _ h => h) rfl ?_ hHeld ?_
              rotate_left
              · intro w' hSw
                go_simp
                try with_reducible rfl
              try simp only [Act.put, List.setIfInBounds_toArray, List.set_cons_zero, List.set_cons_succ]
              refine anyH_take (v := ?_) 3 rfl (by kernel_rfl) (by kernel_rfl) (by kernel_rfl) (fun _ _ _ h => h) rfl ?_ hHeld ?_
              rotate_left
              · intro w' hSw
                go_simp
                try with_reducible rfl
              try simp only [Act.put, List.setIfInBounds_toArray, List.set_cons_zero, List.set_cons_succ]
              refine anyH_take (v := ?_) 4 rfl (by kernel_rfl) (by kernel_rfl) (by kernel_rfl) (fun _ _ _ h => h) rfl ?_ hHeld ?_
              rotate_left
              · intro w' hSw
                go_simp
                try with_reducible rfl
              try simp only [Act.put, List.setIfInBounds_toArray, List.set_cons_zero, List.set_cons_succ]
              refine anyH_take (v := ?_) 5 rfl (by kernel_rfl) (by kernel_rfl) (by kernel_rfl) (fun _ _ _ h => h) rfl ?_ hHeld ?_
              rotate_left
              · intro w' hSw
                go_simp
                try with_reducible rfl
              try simp only [Act.put, List.setIfInBounds_toArray, List.set_cons_zero, List.set_cons_succ]
              refine anyH_take (v := ?_) 6 rfl (by kernel_rfl) (by kernel_rfl) (by kernel_rfl) (fun _ _ _ h => h) rfl ?_ hHeld ?_
              rotate_left
              · intro w' hSw
                go_simp
                try with_reducible rfl
              try simp only [Act.put, List.setIfInBounds_toArray, List.set_cons_zero, List.set_cons_succ]
              refine anyH_take (v := ?_) 7 rfl (by kernel_rfl) (by kernel_rfl) (by kernel_rfl) (fun _ _ _ h => h) rfl ?_ hHeld ?_
              rotate_left
              · intro w' hSw
                go_simp
                try with_reducible rfl
              try simp only [Act.put, List.setIfInBounds_toArray, List.set_cons_zero, List.set_cons_succ]
              refine anyH_take (v := ?_) 8 rfl (by kernel_rfl) (by kernel_rfl) (by kernel_rfl) (fun _ _ _ h => h) rfl ?_ hHeld ?_
              rotate_left
              · intro w' hSw
                go_simp
                try with_reducible rfl
              try simp only [Act.put, List.setIfInBounds_toArray, List.set_cons_zero, List.set_cons_succ]
              refine anyH_take (v := ?_) 9 rfl (by kernel_rfl) (by kernel_rfl) (by kernel_rfl) (fun _ _ _ h => h) rfl ?_ hHeld ?_
              rotate_left
              · intro w' hSw
                go_simp
                try with_reducible rfl
              try simp only [Act.put, List.setIfInBounds_toArray, List.set_cons_zero, List.set_cons_succ]
              refine wpAnyH_ready (rs := [10, 11]) (by kernel_rfl) (by simp) ?_
              refine ready_cons rfl (fun K hK => ?_) (ready_cons rfl (fun K hK => ?_) AllReadyH.nil)
              · go_simp
                refine (HZ.out _).mono ?_
                rintro (e : Ending) w8 ⟨u5, rfl, ho5, hb5⟩
                obtain ⟨A5, n5, c5, rfl⟩ := ho5.slice
                replace g := g.pushOwn hb5 ho5
                show K _ _
                refine hK.out _ _ ?_ (fun hHeld => ?_)
                · exact ⟨g.box3 2 rfl, (g.fact 4 rfl).2.1⟩
                clear hK K
                try simp only [Act.put, List.setIfInBounds_toArray, List.set_cons_zero, List.set_cons_succ]
                refine wpAnyH_ready (rs := [11]) (by kernel_rfl) (by simp) ?_
                refine ready_cons rfl (fun K hK => ?_) AllReadyH.nil
                · go_simp
                  replace g := (g.box [.int .i64 0, .int .i64 0, .int .i64 0, .slice none 0 0] 35).toBack
                  simp only [List.cons_append, List.nil_append] at g
                  refine hK.out _ _ ?_ (fun hHeld => ?_)
                  · exact ⟨g.box3 2 rfl, (g.fact 4 rfl).2.1⟩
                  clear hK K
                  generalize w8.alloc (.cells #[.int .i64 0, .int .i64 0, .int .i64 0, .slice none 0 0] 35) = va at g hHeld ⊢
                  try simp only [Act.put, List.setIfInBounds_toArray, List.set_cons_zero, List.set_cons_succ]
                  refine wpAnyH_done (by kernel_rfl) ?_ _
                  show wpList _ _ _ _ _ _
                  simp only [List.drop_succ_cons, List.drop_zero]
                  clear hHeld
                  obtain ⟨p0, p1, p2, p3⟩ := g.box4 6 rfl
                  have f0 := g.free 6 rfl 0
                  have f1 := g.free 6 rfl 1
                  have f2 := g.free 6 rfl 2
                  have f3 := g.free 6 rfl 3
                  have g4 := (((g.setBox 6 rfl 0 (.int .i64 q)).setBox 6 rfl 1 (.int .i64 s)).setBox 6 rfl 2 (.int .i64 s)).setBox 6 rfl 3 (.slice A5 n5 c5)
                  obtain ⟨r0, r1, r2, r3⟩ := g4.box4 6 rfl
                  go_wp2
                  go_meet
                  exact ⟨_, A5, n5, c5, rfl, g4⟩
              · go_simp
                replace g := (g.box [.int .i64 0, .int .i64 0, .int .i64 0, .slice none 0 0] 35).toBack
                simp only [List.cons_append, List.nil_append] at g
                refine hK.out _ _ ?_ (fun hHeld => ?_)
                · exact ⟨g.box3 1 rfl, (g.fact 3 rfl).2.1⟩
                clear hK K
                generalize v0.alloc (.cells #[.int .i64 0, .int .i64 0, .int .i64 0, .slice none 0 0] 35) = va at g hHeld ⊢
                try simp only [Act.put, List.setIfInBounds_toArray, List.set_cons_zero, List.set_cons_succ]
                refine wpAnyH_ready (rs := [10]) (by kernel_rfl) (by simp) ?_
                refine ready_cons rfl (fun K hK => ?_) AllReadyH.nil
                · go_simp
                  refine (HZ.out _).mono ?_
                  rintro (e : Ending) w8 ⟨u5, rfl, ho5, hb5⟩
                  obtain ⟨A5, n5, c5, rfl⟩ := ho5.slice
                  replace g := g.pushOwn hb5 ho5
                  show K _ _
                  refine hK.out _ _ ?_ (fun hHeld => ?_)
                  · exact ⟨g.box3 2 rfl, (g.fact 4 rfl).2.1⟩
                  clear hK K
                  try simp only [Act.put, List.setIfInBounds_toArray, List.set_cons_zero, List.set_cons_succ]
                  refine wpAnyH_done (by kernel_rfl) ?_ _
                  show wpList _ _ _ _ _ _
                  simp only [List.drop_succ_cons, List.drop_zero]
                  clear hHeld
                  obtain ⟨p0, p1, p2, p3⟩ := g.box4 6 rfl
                  have f0 := g.free 6 rfl 0
                  have f1 := g.free 6 rfl 1
                  have f2 := g.free 6 rfl 2
                  have f3 := g.free 6 rfl 3
                  have g4 := (((g.setBox 6 rfl 0 (.int .i64 q)).setBox 6 rfl 1 (.int .i64 s)).setBox 6 rfl 2 (.int .i64 s)).setBox 6 rfl 3 (.slice A5 n5 c5)
                  obtain ⟨r0, r1, r2, r3⟩ := g4.box4 6 rfl
                  go_wp2
                  go_meet
                  exact ⟨_, A5, n5, c5, rfl, g4⟩
            clear g
            obtain ⟨Bx, A5, n5, c5, rfl, g⟩ := hcut
            obtain ⟨x0, x1, x2⟩ := g.box3 2 rfl
            go_wp2
            clear x0 x1 x2
            go_loopw [12] (fun v12 wr => ∃ (k : Nat) (A5 : Option Addr) (n5 c5 : Nat), v12 = .int .i64 k ∧ k ≤ n ∧ St w2 wr [.own (.slice A5 n5 c5) (sumM q s S X k), .own (.slice (some ⟨b7, 0, none⟩) n c7) X, .box Ba [.int .i64 q, .int .i64 n, .slice A3 n3 c3], .own (.slice A3 n3 c3) T, .fact fun w' => MtAt w' bb (off + 0 * 4) ⟨q, s, s, rowOf S 0⟩ (.slice A0 m2 c0), .fact fun w' => MatsR w' (.slice (some ⟨bb, off, none⟩) n k0) ms, .box Bx [.int .i64 q, .int .i64 s, .int .i64 s, .slice A5 n5 c5]]) (fun v12 _ => n - (intOf v12).toNat)
            case atStart => exact ⟨0, A5, n5, c5, rfl, by omega, g⟩
            case round =>
              clear g
              obtain ⟨k, A5, n5, c5, rfl, a3, g⟩ := hrel
              by_cases hk : k < n
              · obtain ⟨x0, x1, x2⟩ := g.box3 2 rfl
                have k1 : (k : Int) < (n : Int) := by omega
                have hkm : k < ms.length := by rw [← Hnn.out]; exact hk
                obtain ⟨bb2, off2, A11, c11, hA, hmf⟩ := HV.out.at (i := k) hkm
                simp only [Option.some.injEq, Addr.mk.injEq, and_true] at hA
                obtain ⟨rfl, rfl⟩ := hA
                rw [HM.out k hkm] at hmf
                rw [show (Mt.mk q s s (rowOf S k)).d.length = m2 from (HRw.out k hk).1] at hmf
                have hzb := resid_vec HXl.out.2 (i := k) (by rw [HXl.out.1]; exact hk)
                have hx := (g.ownCellA 1 rfl (q := k) (by rw [HXl.out.1]; exact hk)).1
                obtain ⟨z, hz⟩ : ∃ z, z = Go.Proofs.Ytbnefjhljfbecaa.vec X k := ⟨_, rfl⟩
                have HP3 := Lib.hid (fun (W : World) (t u : Value) => HP2.out W t u k hk)
                rw [← hz] at hzb hx HP3
                have HS3 := Lib.hid (fun (W : World) (t : Value) (ht : Ints W t (rowOf S k)) => HSc.out W t k z hk ht hzb.1 hzb.2)
                have g0 := (g.pushOld hmf.fact).drew
                have hx' : (World.drew wr).cell? ⟨b7, k, none⟩ = some (.int .i64 z) := hx
                have HCx := Lib.hid (fun (W : World) (L : List It) (i : Nat) (h : St w2 W L) (hi : L[i]? = some (.own (.slice (some ⟨b7, 0, none⟩) n c7) X)) => (show W.cell? ⟨b7, k, none⟩ = some (.int .i64 z) by rw [hz]; exact (h.ownCellA i hi (q := k) (by rw [HXl.out.1]; exact hk)).1))
                clear hmf hkm hzb hz hx g
                go_upto_region 21 with fail
                clear x0 x1 x2
                refine wp_region_cut (S := fun w' => (w'.cell? ⟨Bx, 0, none⟩ = some (.int .i64 q) ∧ w'.cell? ⟨Bx, 1, none⟩ = some (.int .i64 s) ∧ w'.cell? ⟨Bx, 2, none⟩ = some (.int .i64 s) ∧ w'.cell? ⟨Bx, 3, none⟩ = some (.slice A5 n5 c5)) ∧ (w'.cell? ⟨bb, off + k * 4, none⟩ = some (.int .i64 q) ∧ w'.cell? ⟨bb, off + k * 4 + 1, none⟩ = some (.int .i64 s) ∧ w'.cell? ⟨bb, off + k * 4 + 2, none⟩ = some (.int .i64 s) ∧ w'.cell? ⟨bb, off + k * 4 + 3, none⟩ = some (.slice A11 m2 c11)) ∧ w'.cell? ⟨b7, k, none⟩ = some (.int .i64 z)) 11 (by kernel_rfl) (by kernel_rfl) ⟨g0.box4 7 rfl, MtAt.four (g0.fact 0 rfl), hx'⟩ (fun hHeld => ?_)
                simp only [List.take_succ_cons, List.take_zero]
                refine anyH_take (v := ?_) 0 rfl (by kernel_rfl) (by kernel_rfl) (by kernel_rfl) (fun _ _ _ h => h) rfl ?_ hHeld ?_
                rotate_left
                · intro w' hSw
                  go_simp
                  try with_reducible rfl
                try simp only [Act.put, List.setIfInBounds_toArray, List.set_cons_zero, List.set_cons_succ]
                refine anyH_take (v := ?_) 1 rfl (by kernel_rfl) (by kernel_rfl) (by kernel_rfl) (fun _ _ _ h => h) rfl ?_ hHeld ?_
                rotate_left
                · intro w' hSw
                  go_simp
                  try with_reducible rfl
                try simp only [Act.put, List.setIfInBounds_toArray, List.set_cons_zero, List.set_cons_succ]
                refine anyH_take (v := ?_) 2 rfl (by kernel_rfl) (by kernel_rfl) (by kernel_rfl) (fun _ _ _ h => h) rfl ?_ hHeld ?_
                rotate_left
                · intro w' hSw
                  go_simp
                  try with_reducible rfl
                try simp only [Act.put, List.setIfInBounds_toArray, List.set_cons_zero, List.set_cons_succ]
                refine anyH_take (v := ?_) 3 rfl (by kernel_rfl) (by kernel_rfl) (by kernel_rfl) (fun _ _ _ h => h) rfl ?_ hHeld ?_
                rotate_left
                · intro w' hSw
                  go_simp
                  try with_reducible rfl
                try simp only [Act.put, List.setIfInBounds_toArray, List.set_cons_zero, List.set_cons_succ]
                refine anyH_take (v := ?_) 4 rfl (by kernel_rfl) (by kernel_rfl) (by kernel_rfl) (fun _ _ _ h => h) rfl ?_ hHeld ?_
                rotate_left
                · intro w' hSw
                  go_simp
                  try with_reducible rfl
                try simp only [Act.put, List.setIfInBounds_toArray, List.set_cons_zero, List.set_cons_succ]
                refine anyH_take (v := ?_) 5 rfl (by kernel_rfl) (by kernel_rfl) (by kernel_rfl) (fun _ _ _ h => h) rfl ?_ hHeld ?_
                rotate_left
                · intro w' hSw
                  go_simp
                  try with_reducible rfl
                try simp only [Act.put, List.setIfInBounds_toArray, List.set_cons_zero, List.set_cons_succ]
                refine anyH_take (v := ?_) 6 rfl (by kernel_rfl) (by kernel_rfl) (by kernel_rfl) (fun _ _ _ h => h) rfl ?_ hHeld ?_
                rotate_left
                · intro w' hSw
                  go_simp
                  try with_reducible rfl
                try simp only [Act.put, List.setIfInBounds_toArray, List.set_cons_zero, List.set_cons_succ]
                refine anyH_take (v := ?_) 7 rfl (by kernel_rfl) (by kernel_rfl) (by kernel_rfl) (fun _ _ _ h => h) rfl ?_ hHeld ?_
                rotate_left
                · intro w' hSw
                  go_simp
                  try with_reducible rfl
                try simp only [Act.put, List.setIfInBounds_toArray, List.set_cons_zero, List.set_cons_succ]
                refine anyH_take (v := ?_) 8 rfl (by kernel_rfl) (by kernel_rfl) (by kernel_rfl) (fun _ _ _ h => h) rfl ?_ hHeld ?_
                rotate_left
                · intro w' hSw
                  go_simp
                  try with_reducible rfl
                try simp only [Act.put, List.setIfInBounds_toArray, List.set_cons_zero, List.set_cons_succ]
                refine wpAnyH_ready (rs := [9]) (by kernel_rfl) (by simp) ?_
                refine ready_cons rfl (fun K hK => ?_) AllReadyH.nil
                go_simp
                refine (HS3.out _ _ (g0.fact 0 rfl).2.2.2.2).mono ?_
                rintro (e : Ending) w9 ⟨u9, rfl, ho9, hb9⟩
                obtain ⟨A12, n12, c12, rfl⟩ := ho9.slice
                have g1 := g0.pushOwn hb9 ho9
                show K _ _
                refine hK.out _ _ ?_ (fun hHeld => ?_)
                · exact ⟨g1.box4 8 rfl, MtAt.four (g1.fact 1 rfl), HCx.out _ _ 3 g1 rfl⟩
                clear hK K
                try simp only [Act.put, List.setIfInBounds_toArray, List.set_cons_zero, List.set_cons_succ]
                refine wpAnyH_ready (rs := [10]) (by kernel_rfl) (by simp) ?_
                refine ready_cons rfl (fun K hK => ?_) AllReadyH.nil
                go_simp
                refine (HP3.out _ _ _ (g1.ownInts 2 rfl) (g1.ownInts 0 rfl)).mono ?_
                rintro (e : Ending) w10 ⟨u10, rfl, ho10, hb10⟩
                obtain ⟨A13, n13, c13, rfl⟩ := ho10.slice
                have g2 := g1.pushOwn hb10 ho10
                show K _ _
                refine hK.out _ _ ?_ (fun hHeld => ?_)
                · exact ⟨g2.box4 9 rfl, MtAt.four (g2.fact 2 rfl), HCx.out _ _ 4 g2 rfl⟩
                clear hK K
                try simp only [Act.put, List.setIfInBounds_toArray, List.set_cons_zero, List.set_cons_succ]
                refine wpAnyH_done (by kernel_rfl) ?_ _
                show wpList _ _ _ _ _ _
                simp only [List.drop_succ_cons, List.drop_zero]
                clear hHeld
                obtain ⟨p0, p1, p2, p3⟩ := g2.box4 9 rfl
                have f0 := g2.free 9 rfl 0
                have f1 := g2.free 9 rfl 1
                have f2 := g2.free 9 rfl 2
                have f3 := g2.free 9 rfl 3
                have g3 := (((g2.setBox 9 rfl 0 (.int .i64 q)).setBox 9 rfl 1 (.int .i64 s)).setBox 9 rfl 2 (.int .i64 s)).setBox 9 rfl 3 (.slice A13 n13 c13)
                obtain ⟨r0, r1, r2, r3⟩ := g3.box4 9 rfl
                have g4 := ((g3.erase 1).erase 1).erase 1

                clear g0 g1 g2 g3 ho9 hb9 ho10 hb10 hx'
                go_wp2
                go_roundw
                case rel => exact ⟨k + 1, A13, n13, c13, by go_num, by omega, g4⟩
                case measure => simp [intOf]; omega
              · obtain rfl : k = n := by omega
                obtain ⟨x0, x1, x2⟩ := g.box3 2 rfl
                rw [HL2.out] at g
                obtain ⟨E, hE⟩ : ∃ E, E = comD q s (rowOf S i) (rowOf S j) := ⟨_, rfl⟩
                have HC2 := Lib.hid (fun (W : World) (t u : Value) (ht : Ints W t (rowOf S i)) (hu : Ints W u (rowOf S j)) => HCm.out W t u i j hi hj ht hu)
                rw [← hE] at g HC2
                clear hE
                replace g := ((g.pushOld HF1.out).pushOld HF2.out)
                go_upto_region 22 with fail
                clear x0 x1 x2
                go_cut [13, 14] (fun s13 s14 wx => ∃ (B : Nat) (A7 : Option Addr) (n7 c7 : Nat), s13 = .pointer (some ⟨B, 0, none⟩) ∧ s14 = .bool true ∧ St w2 wx [.box B [.int .i64 q, .int .i64 s, .int .i64 s, .slice A7 n7 c7], .own (.slice A7 n7 c7) E, .own (.slice A5 n5 c5) E, .box Ba [.int .i64 q, .int .i64 k, .slice A3 n3 c3], .own (.slice A3 n3 c3) T, .fact fun w' => MtAt w' bb (off + 0 * 4) ⟨q, s, s, rowOf S 0⟩ (.slice A0 m2 c0), .fact fun w' => MatsR w' (.slice (some ⟨bb, off, none⟩) k k0) ms, .box Bx [.int .i64 q, .int .i64 s, .int .i64 s, .slice A5 n5 c5]])
                case first =>
                  replace g := g.drew
                  refine wp_region_cut (S := fun w' => (w'.cell? ⟨bb, off + i * 4, none⟩ = some (.int .i64 q) ∧ w'.cell? ⟨bb, off + i * 4 + 1, none⟩ = some (.int .i64 s) ∧ w'.cell? ⟨bb, off + i * 4 + 2, none⟩ = some (.int .i64 s) ∧ w'.cell? ⟨bb, off + i * 4 + 3, none⟩ = some (.slice A9 m2 c9)) ∧ (w'.cell? ⟨bb, off + j * 4, none⟩ = some (.int .i64 q) ∧ w'.cell? ⟨bb, off + j * 4 + 1, none⟩ = some (.int .i64 s) ∧ w'.cell? ⟨bb, off + j * 4 + 2, none⟩ = some (.int .i64 s) ∧ w'.cell? ⟨bb, off + j * 4 + 3, none⟩ = some (.slice A10 m2 c10))) 14 (by kernel_rfl) (by kernel_rfl) ⟨MtAt.four (g.fact 1 rfl), MtAt.four (g.fact 0 rfl)⟩ (fun hHeld => ?_)
                  simp only [List.take_succ_cons, List.take_zero]
                  generalize World.drew _ = v0 at g hHeld ⊢
                  refine anyH_take (v := ?_) 0 rfl (by kernel_rfl) (by kernel_rfl) (by kernel_rfl) (fun _ _ _ h => h) rfl ?_ hHeld ?_
                  rotate_left
                  · intro w' hSw
                    go_simp
                    try with_reducible rfl
                  try simp only [Act.put, List.setIfInBounds_toArray, List.set_cons_zero, List.set_cons_succ]
                  refine anyH_take (v := ?_) 1 rfl (by kernel_rfl) (by kernel_rfl) (by kernel_rfl) (fun _ _ _ h => h) rfl ?_ hHeld ?_
                  rotate_left
                  · intro w' hSw
                    go_simp
                    try with_reducible rfl
                  try simp only [Act.put, List.setIfInBounds_toArray, List.set_cons_zero, List.set_cons_succ]
                  refine anyH_take (v := ?_) 2 rfl (by kernel_rfl) (by kernel_rfl) (by kernel_rfl) (fun _ _ _ h => h) rfl ?_ hHeld ?_
                  rotate_left
                  · intro w' hSw
                    go_simp
                    try with_reducible rfl
                  try simp only [Act.put, List.setIfInBounds_toArray, List.set_cons_zero, List.set_cons_succ]
                  refine anyH_take (v := ?_) 3 rfl (by kernel_rfl) (by kernel_rfl) (by kernel_rfl) (fun _ _ _ h => h) rfl ?_ hHeld ?_
                  rotate_left
                  · intro w' hSw
                    go_simp
                    try with_reducible rfl
                  try simp only [Act.put, List.setIfInBounds_toArray, List.set_cons_zero, List.set_cons_succ]
                  refine anyH_take (v := ?_) 4 rfl (by kernel_rfl) (by kernel_rfl) (by kernel_rfl) (fun _ _ _ h => h) rfl ?_ hHeld ?_
                  rotate_left
                  · intro w' hSw
                    go_simp
                    try with_reducible rfl
                  try simp only [Act.put, List.setIfInBounds_toArray, List.set_cons_zero, List.set_cons_succ]
                  refine anyH_take (v := ?_) 5 rfl (by kernel_rfl) (by kernel_rfl) (by kernel_rfl) (fun _ _ _ h => h) rfl ?_ hHeld ?_
                  rotate_left
                  · intro w' hSw
                    go_simp
                    try with_reducible rfl
                  try simp only [Act.put, List.setIfInBounds_toArray, List.set_cons_zero, List.set_cons_succ]
                  refine anyH_take (v := ?_) 6 rfl (by kernel_rfl) (by kernel_rfl) (by kernel_rfl) (fun _ _ _ h => h) rfl ?_ hHeld ?_
                  rotate_left
                  · intro w' hSw
                    go_simp
                    try with_reducible rfl
                  try simp only [Act.put, List.setIfInBounds_toArray, List.set_cons_zero, List.set_cons_succ]
                  refine anyH_take (v := ?_) 7 rfl (by kernel_rfl) (by kernel_rfl) (by kernel_rfl) (fun _ _ _ h => h) rfl ?_ hHeld ?_
                  rotate_left
                  · intro w' hSw
                    go_simp
                    try with_reducible rfl
                  try simp only [Act.put, List.setIfInBounds_toArray, List.set_cons_zero, List.set_cons_succ]
                  refine wpAnyH_ready (rs := [8, 12]) (by kernel_rfl) (by simp) ?_
                  refine ready_cons rfl (fun K hK => ?_) (ready_cons rfl (fun K hK => ?_) AllReadyH.nil)
                  · go_simp
                    refine (HC2.out _ _ _ (g.fact 1 rfl).2.2.2.2 (g.fact 0 rfl).2.2.2.2).mono ?_
                    rintro (e : Ending) w9 ⟨u3, rfl, ho3, hb3⟩
                    obtain ⟨A7, n7, c8, rfl⟩ := ho3.slice
                    replace g := g.pushOwn hb3 ho3
                    show K _ _
                    refine hK.out _ _ ?_ (fun hHeld => ?_)
                    · exact ⟨MtAt.four (g.fact 2 rfl), MtAt.four (g.fact 1 rfl)⟩
                    clear hK K
                    try simp only [Act.put, List.setIfInBounds_toArray, List.set_cons_zero, List.set_cons_succ]
                    refine anyH_take (v := ?_) 9 rfl (by kernel_rfl) (by kernel_rfl) (by kernel_rfl) (fun _ _ _ h => h) rfl ?_ hHeld ?_
                    rotate_left
                    · intro w' hSw
                      go_simp
                      try with_reducible rfl
                    try simp only [Act.put, List.setIfInBounds_toArray, List.set_cons_zero, List.set_cons_succ]
                    refine anyH_take (v := ?_) 10 rfl (by kernel_rfl) (by kernel_rfl) (by kernel_rfl) (fun _ _ _ h => h) rfl ?_ hHeld ?_
                    rotate_left
                    · intro w' hSw
                      go_simp
                      try with_reducible rfl
                    try simp only [Act.put, List.setIfInBounds_toArray, List.set_cons_zero, List.set_cons_succ]
                    refine anyH_take (v := ?_) 11 rfl (by kernel_rfl) (by kernel_rfl) (by kernel_rfl) (fun _ _ _ h => h) rfl ?_ hHeld ?_
                    rotate_left
                    · intro w' hSw
                      go_simp
                      try with_reducible rfl
                    try simp only [Act.put, List.setIfInBounds_toArray, List.set_cons_zero, List.set_cons_succ]
                    refine wpAnyH_ready (rs := [12]) (by kernel_rfl) (by simp) ?_
                    refine ready_cons rfl (fun K hK => ?_) AllReadyH.nil
                    go_simp
                    have g1 := g.box [.int .i64 0, .int .i64 0, .int .i64 0, .slice none 0 0] 35
                    refine hK.out _ _ ?_ (fun hHeld => ?_)
                    · exact ⟨MtAt.four (g1.fact 3 rfl), MtAt.four (g1.fact 2 rfl)⟩
                    clear hK K
                    try simp only [Act.put, List.setIfInBounds_toArray, List.set_cons_zero, List.set_cons_succ]
                    generalize World.alloc _ _ = va at g1 hHeld ⊢
                    obtain ⟨p0, p1, p2, p3⟩ := g1.box4 0 rfl
                    have f0 := g1.free 0 rfl 0
                    have f1 := g1.free 0 rfl 1
                    have f2 := g1.free 0 rfl 2
                    have f3 := g1.free 0 rfl 3
                    have g4 := (((g1.setBox 0 rfl 0 (.int .i64 q)).setBox 0 rfl 1 (.int .i64 s)).setBox 0 rfl 2 (.int .i64 s)).setBox 0 rfl 3 (.slice A7 n7 c8)
                    obtain ⟨r0, r1, r2, r3⟩ := g4.box4 0 rfl
                    refine wpAnyH_ready (rs := [13]) (by kernel_rfl) (by simp) ?_
                    refine ready_cons rfl (fun K hK => ?_) AllReadyH.nil
                    go_simp
                    refine hK.out _ _ ?_ (fun hHeld => ?_)
                    · exact ⟨MtAt.four (g4.fact 3 rfl), MtAt.four (g4.fact 2 rfl)⟩
                    clear hK K
                    try simp only [Act.put, List.setIfInBounds_toArray, List.set_cons_zero, List.set_cons_succ]
                    refine wpAnyH_done (by kernel_rfl) ?_ _
                    show wpList _ _ _ _ _ _
                    simp only [List.drop_succ_cons, List.drop_zero]
                    clear hHeld
                    go_wp2
                    go_meet
                    exact ⟨_, A7, n7, c8, rfl, rfl, ((g4.erase 2).erase 2).erase 3⟩
                  · go_simp
                    replace g := g.box [.int .i64 0, .int .i64 0, .int .i64 0, .slice none 0 0] 35
                    refine hK.out _ _ ?_ (fun hHeld => ?_)
                    · exact ⟨MtAt.four (g.fact 2 rfl), MtAt.four (g.fact 1 rfl)⟩
                    clear hK K
                    generalize World.alloc _ _ = va at g hHeld ⊢
                    try simp only [Act.put, List.setIfInBounds_toArray, List.set_cons_zero, List.set_cons_succ]
                    refine wpAnyH_ready (rs := [8]) (by kernel_rfl) (by simp) ?_
                    refine ready_cons rfl (fun K hK => ?_) AllReadyH.nil
                    go_simp
                    refine (HC2.out _ _ _ (g.fact 2 rfl).2.2.2.2 (g.fact 1 rfl).2.2.2.2).mono ?_
                    rintro (e : Ending) w9 ⟨u3, rfl, ho3, hb3⟩
                    obtain ⟨A7, n7, c8, rfl⟩ := ho3.slice
                    have g1 := g.pushOwn hb3 ho3
                    show K _ _
                    refine hK.out _ _ ?_ (fun hHeld => ?_)
                    · exact ⟨MtAt.four (g1.fact 3 rfl), MtAt.four (g1.fact 2 rfl)⟩
                    clear hK K
                    try simp only [Act.put, List.setIfInBounds_toArray, List.set_cons_zero, List.set_cons_succ]
                    refine anyH_take (v := ?_) 9 rfl (by kernel_rfl) (by kernel_rfl) (by kernel_rfl) (fun _ _ _ h => h) rfl ?_ hHeld ?_
                    rotate_left
                    · intro w' hSw
                      go_simp
                      try with_reducible rfl
                    try simp only [Act.put, List.setIfInBounds_toArray, List.set_cons_zero, List.set_cons_succ]
                    refine anyH_take (v := ?_) 10 rfl (by kernel_rfl) (by kernel_rfl) (by kernel_rfl) (fun _ _ _ h => h) rfl ?_ hHeld ?_
                    rotate_left
                    · intro w' hSw
                      go_simp
                      try with_reducible rfl
                    try simp only [Act.put, List.setIfInBounds_toArray, List.set_cons_zero, List.set_cons_succ]
                    refine anyH_take (v := ?_) 11 rfl (by kernel_rfl) (by kernel_rfl) (by kernel_rfl) (fun _ _ _ h => h) rfl ?_ hHeld ?_
                    rotate_left
                    · intro w' hSw
                      go_simp
                      try with_reducible rfl
                    try simp only [Act.put, List.setIfInBounds_toArray, List.set_cons_zero, List.set_cons_succ]
                    obtain ⟨p0, p1, p2, p3⟩ := g1.box4 1 rfl
                    have f0 := g1.free 1 rfl 0
                    have f1 := g1.free 1 rfl 1
                    have f2 := g1.free 1 rfl 2
                    have f3 := g1.free 1 rfl 3
                    have g4 := (((g1.setBox 1 rfl 0 (.int .i64 q)).setBox 1 rfl 1 (.int .i64 s)).setBox 1 rfl 2 (.int .i64 s)).setBox 1 rfl 3 (.slice A7 n7 c8)
                    obtain ⟨r0, r1, r2, r3⟩ := g4.box4 1 rfl
                    refine wpAnyH_ready (rs := [13]) (by kernel_rfl) (by simp) ?_
                    refine ready_cons rfl (fun K hK => ?_) AllReadyH.nil
                    go_simp
                    refine hK.out _ _ ?_ (fun hHeld => ?_)
                    · exact ⟨MtAt.four (g4.fact 3 rfl), MtAt.four (g4.fact 2 rfl)⟩
                    clear hK K
                    try simp only [Act.put, List.setIfInBounds_toArray, List.set_cons_zero, List.set_cons_succ]
                    refine wpAnyH_done (by kernel_rfl) ?_ _
                    show wpList _ _ _ _ _ _
                    simp only [List.drop_succ_cons, List.drop_zero]
                    clear hHeld
                    go_wp2
                    go_meet
                    exact ⟨_, A7, n7, c8, rfl, rfl, (((g4.toFront 1 rfl).erase 2).erase 2).erase 3⟩
                clear g
                obtain ⟨B, A7, n7, c8, rfl, rfl, g⟩ := hcut
                obtain ⟨x0, x1, x2, x3⟩ := g.box4 0 rfl
                obtain ⟨y0, y1, y2, y3⟩ := g.box4 7 rfl
                go_wp2_with fail
                refine (HEq.out _ _ _ E (g.ownInts 2 rfl) (g.ownInts 1 rfl)).mono ?_
                rintro (e : Ending) w9 ⟨rfl, hb9⟩
                have g1 := (((g.on hb9).drop 3).erase 4)

                clear x0 x1 x2 x3 y0 y1 y2 y3 hb9 g
                go_wp2
                go_roundw
                case rel => exact ⟨j + 1, by go_num, by omega, g1⟩
                case measure => simp [intOf]; omega
          · obtain rfl : j = n := by omega
            go_wp2
            go_roundw
            case rel => exact ⟨i + 1, by go_num, by omega, g⟩
            case measure => simp [intOf]; omega
      · obtain rfl : i = n := by omega
        go_wp2
        go_ret
        exact ⟨rfl, (hbl.on g.below).below⟩
end Mx
end Go.Proofs.Ytbnefjhljfbecaa
