/- Relations of Serre, the program: serre. -/
import Derived.Test.YtcngijafnnmccaaGreatDoorSrrD
import Derived.Test.YtcngijafnnmccaaGreatDoorStB
namespace Go.Proofs.YtcngijafnnmccaaGreatDoor
set_option maxRecDepth 100000
open Go.RowKit
namespace Srr
open Stp Car

def fP (p : Int) (n : Nat) (T : List Int) (r : Nat) (D : List Int) (E F : List (List Int)) (i : Nat) : Bool := (List.range' 0 (r - 0)).all fun j => sP p n T r D E F i j
theorem env' {w W : World} {p : Int} {n r : Nat} {T D : List Int} {E F : List (List Int)} {t d v9 : Value} {us : List Value} {bc ba : Nat} {A A' : Option Addr} {c c' : Nat}
    (g : St w W [rowsIt v9 us (HH p n T E F r), .box bc [.int .i64 r, d], .box ba [.int .i64 p, .int .i64 n, t], .ro t T, .ro d D])
    (hul : us.length = (HH p n T E F r).length) (hE : E.length = r) (hF' : F.length = r) (hv : IntRows w (.slice A r c) E) (hu : IntRows w (.slice A' r c') F) {i j : Nat} (hi : i < r) (hj : j < r)
    (hEv : ∀ i, i < r → (rowOf E i).length = n) (hFv : ∀ i, i < r → (rowOf F i).length = n) :
    ∃ gh ch A1 c1 A2 c2 be oe A3 c3 A4 c4 bf of_ A5 c5 A6 c6, v9 = .slice (some ⟨gh, 0, none⟩) r ch ∧ A = some ⟨be, oe, none⟩ ∧ A' = some ⟨bf, of_, none⟩ ∧
      Hid (∀ (W' : World) (L : List It) (k : Nat), St w W' L → L.drop k = [rowsIt v9 us (HH p n T E F r), .box bc [.int .i64 r, d], .box ba [.int .i64 p, .int .i64 n, t], .ro t T, .ro d D] →
        Fx ba gh be oe bf of_ p n i j t d (.slice A1 n c1) (.slice A2 n c2) (.slice A3 n c3) (.slice A4 n c4) (.slice A5 n c5) (.slice A6 n c6) T D (hF p n T E F i) (hF p n T E F j) (rowOf E i) (rowOf E j) (rowOf F i) (rowOf F j) W') ∧ Ints w (.slice A4 n c4) (rowOf E j) ∧ Ints w (.slice A6 n c6) (rowOf F j) := by
  have hl := length_HH p n T E F r
  rcases id (g.vec 0 rfl).1.2 with ⟨rfl, h0⟩ | ⟨gh, cap, cur, rfl, _, _, _, _, _⟩
  · omega
  rw [hl]
  have hiE : i < E.length := by omega
  have hjE : j < E.length := by omega
  have hiF : i < F.length := by omega
  have hjF : j < F.length := by omega
  obtain ⟨be, oe, A3, c3, rfl, m3⟩ := hv.at (i := i) hiE
  obtain ⟨b1, o1, A4, c4, hA, m4⟩ := hv.at (i := j) hjE
  simp only [Option.some.injEq, Addr.mk.injEq, and_true] at hA
  obtain ⟨rfl, rfl⟩ := hA
  obtain ⟨bf, of_, A5, c5, rfl, m5⟩ := hu.at (i := i) hiF
  obtain ⟨b1, o1, A6, c6, hA, m6⟩ := hu.at (i := j) hjF
  simp only [Option.some.injEq, Addr.mk.injEq, and_true] at hA
  obtain ⟨rfl, rfl⟩ := hA
  rw [rowOf_eq hiE, hEv i hi] at m3
  rw [rowOf_eq hjE, hEv j hj] at m4
  rw [rowOf_eq hiF, hFv i hi] at m5
  rw [rowOf_eq hjF, hFv j hj] at m6
  obtain ⟨u1, hu1⟩ : ∃ u, us[i]? = some u := ⟨us[i]'(by omega), List.getElem?_eq_getElem _⟩
  obtain ⟨u2, hu2⟩ : ∃ u, us[j]? = some u := ⟨us[j]'(by omega), List.getElem?_eq_getElem _⟩
  have r1 := g.rowAtU 0 rfl hul rfl hu1 (HH_get hi)
  have r2 := g.rowAtU 0 rfl hul rfl hu2 (HH_get hj)
  obtain ⟨A1, c1, rfl, _⟩ := id r1.2
  obtain ⟨A2, c2, rfl, _⟩ := id r2.2
  rw [show (hF p n T E F i).length = n from length_braL _ _ _ _ _] at hu1
  rw [show (hF p n T E F j).length = n from length_braL _ _ _ _ _] at hu2
  refine ⟨gh, cap, A1, c1, A2, c2, be, oe, A3, c3, A4, c4, bf, of_, A5, c5, A6, c6, rfl, rfl, rfl, fun W' L k h hk => ?_, m4.2, m6.2⟩
  have h9 := h.drop k
  rw [hk] at h9
  have q1 := h9.rowAtU 0 rfl hul hl.symm hu1 (HH_get hi)
  have q2 := h9.rowAtU 0 rfl hul hl.symm hu2 (HH_get hj)
  have q3 := m3.fact W' (fun b hb => h9.below.block b hb)
  have q4 := m4.fact W' (fun b hb => h9.below.block b hb)
  have q5 := m5.fact W' (fun b hb => h9.below.block b hb)
  have q6 := m6.fact W' (fun b hb => h9.below.block b hb)
  exact ⟨⟨h9.box3 2 rfl, q1.1, q2.1, q3.1, q4.1, q5.1, q6.1⟩, h9.roInts 3 rfl, h9.roInts 4 rfl, q1.2, q2.2, q3.2, q4.2, q5.2, q6.2⟩

set_option maxHeartbeats 16000000 in
theorem serre_any (p : Int) (n m : Nat) (T D : List Int) (E F : List (List Int)) (t d ve vf : Value) (w : World) (ht : Ints w t T) (hd : Ints w d D) (hv : IntRows w ve E) (hu : IntRows w vf F) (hE : E.length = m) (hF' : F.length = m) (hD : D.length = m * m) (m1 : 1 ≤ m) (m4 : m ≤ 4)
    (hen : ∀ i j, i < m → j < m → -3 ≤ en m D i j ∧ en m D i j ≤ 2) (hT : T.length = n * n * n) (hn : n ≤ 28) (hp : 2 ≤ p) (hp' : p ≤ 10007) (rT : resid p T = true) (hEv : ∀ i, i < m → (rowOf E i).length = n ∧ resid p (rowOf E i) = true) (hFv : ∀ i, i < m → (rowOf F i).length = n ∧ resid p (rowOf F i) = true) :
    Calls Tryz.prog 29 #[.agg #[.int .i64 p, .int .i64 n, t], .agg #[.int .i64 m, d], ve, vf] w (RetBool w (serP p n T m D E F)) := by
  have g := (((((St.start w).arg hd).arg ht).box [.int .i64 p, .int .i64 n, t] 54).box [.int .i64 m, d] 34).emptyRows
  simp only [World.size_alloc] at g
  obtain ⟨A, c, rfl, _, _, _⟩ := id hv
  obtain ⟨A', c', rfl, _, _, _⟩ := id hu
  obtain ⟨X, hX⟩ : ∃ X, X = serP p n T m D E F := ⟨_, rfl⟩
  rw [← hX]
  have HX : Hid (X = (List.range' 0 (m - 0)).all (fP p n T m D E F)) := hX
  rw [hE] at hv ⊢
  rw [hF'] at hu ⊢
  have Hv := Lib.hid hv
  have Hu := Lib.hid hu
  have HlE := Lib.hid hE
  have HlF := Lib.hid hF'
  have Hen := Lib.hid hen
  have HEv := Lib.hid hEv
  have HFv := Lib.hid hFv
  have hB := fun (X Y : List Int) (hX : X.length = n ∧ resid p X = true) (hY : Y.length = n ∧ resid p Y = true) (W : World) (x y : Value) (x0 : Ints W t T) (x1 : Ints W x X) (x2 : Ints W y Y) => bracket_any p n t x y T X Y _ W x0.toB x1.toB x2.toB (Nat.le_refl _) hT hX.1 hY.1 hn hp hp' rT hX.2 hY.2
  simp only [bracketL_eq] at hB
  have HB := Lib.hid hB
  have Hb := Lib.hid (fun (X Y : List Int) => (⟨length_braL T X Y n p, resid_braL T X Y n hp⟩ : (braL T X Y n p).length = n ∧ resid p (braL T X Y n p) = true))
  have HAt := Lib.hid (fun (i j : Nat) (hi : i < m) (hj : j < m) (W : World) (x : Ints W d D) => at_any m d D i j W x hD m4 hi hj)
  have HMu := Lib.hid (fun (k : Int) (Z : List Int) (hZ : Z.length = n ∧ resid p Z = true) (hk : -1000 ≤ k ∧ k ≤ 1000) (W : World) (z : Value) (hb : AtL W w.heap.size [.int .i64 p, .int .i64 n, t]) (x : Ints W z Z) => scaled_any p k n Z w.heap.size t z W hb x hZ.1 hn hp hp' hZ.2 hk)
  have HI := Lib.hid (fun (G : List (List Int)) (i j k : Nat) (hG : (rowOf G j).length = n ∧ resid p (rowOf G j) = true) => (⟨length_itB hG.1 k, resid_itB hp hG.2 k⟩ : (itB p n T (rowOf G i) (rowOf G j) k).length = n ∧ resid p (itB p n T (rowOf G i) (rowOf G j) k) = true))
  have z := (((((St.start w).arg hd).arg ht).box [.int .i64 p, .int .i64 n, t] 54).box [.int .i64 m, d] 34).box2 0 rfl
  clear hE hF' hX hv hu ht hd hT hD hen rT hEv hFv hB z
  go_enter Tryz.func29, Tryz.ntmps29
  go_wp2
  go_loopw [9, 20] (fun v9 v20 wr => ∃ (i : Nat) (us : List Value), v20 = .int .i64 i ∧ i ≤ m ∧ St w wr [rowsIt v9 us (HH p n T E F i), .box (w.heap.size + 1) [.int .i64 m, d], .box w.heap.size [.int .i64 p, .int .i64 n, t], .ro t T, .ro d D] ∧ Hid (us.length = i)) (fun _ v20 _ => m - (intOf v20).toNat)
  case atStart => exact ⟨0, [], rfl, by omega, g, rfl⟩
  case round =>
    clear g
    obtain ⟨i, us, rfl, a1, g, Hul⟩ := hrel
    by_cases hi : i < m
    · have ii : (i : Int) < (m : Int) := by omega
      have hiE : i < E.length := by rw [HlE.out]; exact hi
      have hiF : i < F.length := by rw [HlF.out]; exact hi
      obtain ⟨be, oe, A1, c1, rfl, m1'⟩ := Hv.out.at (i := i) hiE
      obtain ⟨bf, of_, A2, c2, rfl, m2'⟩ := Hu.out.at (i := i) hiF
      rw [rowOf_eq hiE, (HEv.out i hi).1] at m1'
      rw [rowOf_eq hiF, (HFv.out i hi).1] at m2'
      have g2 := (g.pushOld m1'.fact).pushOld m2'.fact
      have HBr2 := Lib.hid (HB.out (rowOf E i) (rowOf F i) (HEv.out i hi) (HFv.out i hi))
      have HhF := Lib.hid (show hF p n T E F i = braL T (rowOf E i) (rowOf F i) n p from rfl)
      rw [← HhF.out] at HBr2
      have HHs := Lib.hid (show HH p n T E F (i + 1) = HH p n T E F i ++ [hF p n T E F i] from HH_succ p n T E F i)
      have Hul2 := Lib.hid (show us.length = (HH p n T E F i).length by rw [length_HH]; exact Hul.out)
      have Hl3 := Lib.hid (show (HH p n T E F i).length + 1 ≤ 1099511627776 by rw [length_HH]; omega)
      obtain ⟨HL, hHL⟩ : ∃ HL, HL = HH p n T E F i := ⟨_, rfl⟩
      rw [← hHL] at g2 HHs Hul2 Hl3
      clear g m1' m2' hHL
      go_upto_region 5 with fail
      have g0 := g2.drew
      clear g2
      refine wp_region_cut (S := fun w' => (w'.cell? ⟨w.heap.size, 0, none⟩ = some (.int .i64 p) ∧ w'.cell? ⟨w.heap.size, 1, none⟩ = some (.int .i64 n) ∧ w'.cell? ⟨w.heap.size, 2, none⟩ = some (t)) ∧ w'.cell? ⟨be, oe + i, none⟩ = some (.slice A1 n c1) ∧ w'.cell? ⟨bf, of_ + i, none⟩ = some (.slice A2 n c2)) 12 (by kernel_rfl) (by kernel_rfl) ⟨g0.box3 4 rfl, (g0.fact 1 rfl).1, (g0.fact 0 rfl).1⟩ (fun hHeld => ?_)
      simp only [List.take_succ_cons, List.take_zero]
      obtain ⟨v0, hv0, g8⟩ : ∃ v0, v0 = wr.drew ∧ St w v0 _ := ⟨_, rfl, g0⟩
      rw [← hv0] at g0 hHeld ⊢
      clear hv0 g8
      refine anyH_take (v := ?_) 0 rfl (by kernel_rfl) (by kernel_rfl) (by kernel_rfl) (fun _ _ _ h => h) rfl ?_ hHeld ?_
      rotate_left
      · intro w' hSw
        go_simp
        try with_reducible rfl
      try simp only [Act.put, List.setIfInBounds_toArray, List.set_cons_zero, List.set_cons_succ]
      refine anyH_take (v := ?_) 1 rfl (by kernel_rfl) (by kernel_rfl) (by kernel_rfl) (fun _ _ _ h => h) rfl ?_ hHeld ?_
      rotate_left
      · intro w' hSw
        go_simp
        try with_reducible rfl
      try simp only [Act.put, List.setIfInBounds_toArray, List.set_cons_zero, List.set_cons_succ]
      refine anyH_take (v := ?_) 2 rfl (by kernel_rfl) (by kernel_rfl) (by kernel_rfl) (fun _ _ _ h => h) rfl ?_ hHeld ?_
      rotate_left
      · intro w' hSw
        go_simp
        try with_reducible rfl
      try simp only [Act.put, List.setIfInBounds_toArray, List.set_cons_zero, List.set_cons_succ]
      refine anyH_take (v := ?_) 3 rfl (by kernel_rfl) (by kernel_rfl) (by kernel_rfl) (fun _ _ _ h => h) rfl ?_ hHeld ?_
      rotate_left
      · intro w' hSw
        go_simp
        try with_reducible rfl
      try simp only [Act.put, List.setIfInBounds_toArray, List.set_cons_zero, List.set_cons_succ]
      refine anyH_take (v := ?_) 4 rfl (by kernel_rfl) (by kernel_rfl) (by kernel_rfl) (fun _ _ _ h => h) rfl ?_ hHeld ?_
      rotate_left
      · intro w' hSw
        go_simp
        try with_reducible rfl
      try simp only [Act.put, List.setIfInBounds_toArray, List.set_cons_zero, List.set_cons_succ]
      refine anyH_take (v := ?_) 5 rfl (by kernel_rfl) (by kernel_rfl) (by kernel_rfl) (fun _ _ _ h => h) rfl ?_ hHeld ?_
      rotate_left
      · intro w' hSw
        go_simp
        try with_reducible rfl
      try simp only [Act.put, List.setIfInBounds_toArray, List.set_cons_zero, List.set_cons_succ]
      refine anyH_take (v := ?_) 6 rfl (by kernel_rfl) (by kernel_rfl) (by kernel_rfl) (fun _ _ _ h => h) rfl ?_ hHeld ?_
      rotate_left
      · intro w' hSw
        go_simp
        try with_reducible rfl
      try simp only [Act.put, List.setIfInBounds_toArray, List.set_cons_zero, List.set_cons_succ]
      refine anyH_take (v := ?_) 7 rfl (by kernel_rfl) (by kernel_rfl) (by kernel_rfl) (fun _ _ _ h => h) rfl ?_ hHeld ?_
      rotate_left
      · intro w' hSw
        go_simp
        try with_reducible rfl
      try simp only [Act.put, List.setIfInBounds_toArray, List.set_cons_zero, List.set_cons_succ]
      refine anyH_take (v := ?_) 8 rfl (by kernel_rfl) (by kernel_rfl) (by kernel_rfl) (fun _ _ _ h => h) rfl ?_ hHeld ?_
      rotate_left
      · intro w' hSw
        go_simp
        try with_reducible rfl
      try simp only [Act.put, List.setIfInBounds_toArray, List.set_cons_zero, List.set_cons_succ]
      refine anyH_take (v := ?_) 9 rfl (by kernel_rfl) (by kernel_rfl) (by kernel_rfl) (fun _ _ _ h => h) rfl ?_ hHeld ?_
      rotate_left
      · intro w' hSw
        go_simp
        try with_reducible rfl
      try simp only [Act.put, List.setIfInBounds_toArray, List.set_cons_zero, List.set_cons_succ]
      refine wpAnyH_ready (rs := [10]) (by kernel_rfl) (by simp) ?_
      refine ready_cons rfl (fun K hK => ?_) AllReadyH.nil
      go_simp
      refine (HBr2.out _ _ _ (g0.roInts 5 rfl) (g0.fact 1 rfl).2 (g0.fact 0 rfl).2).mono ?_
      rintro (e : Ending) w7 ⟨u7, rfl, ho7, hb7⟩
      obtain ⟨A7, l7, c7, rfl⟩ := ho7.slice
      have g1 := g0.pushOwn hb7 ho7
      show K _ _
      refine hK.out _ _ ?_ (fun hHeld => ?_)
      · exact ⟨g1.box3 5 rfl, (g1.fact 2 rfl).1, (g1.fact 1 rfl).1⟩
      clear hK K
      try simp only [Act.put, List.setIfInBounds_toArray, List.set_cons_zero, List.set_cons_succ]
      refine wpAnyH_ready (rs := [11]) (by kernel_rfl) (by simp) ?_
      refine ready_cons rfl (fun K hK => ?_) AllReadyH.nil
      go_simp
      have g2 := g1.alloc' (.cells #[.slice A7 l7 c7] 22)
      refine hK.out _ _ ?_ (fun hHeld => ?_)
      · exact ⟨g2.box3 5 rfl, (g2.fact 2 rfl).1, (g2.fact 1 rfl).1⟩
      clear hK K
      try simp only [Act.put, List.setIfInBounds_toArray, List.set_cons_zero, List.set_cons_succ]
      refine wpAnyH_done (by kernel_rfl) ?_ _
      show wpList _ _ _ _ _ _
      simp only [List.drop_succ_cons, List.drop_zero]
      clear hHeld
      have h5 := g1.re [0, 3, 4, 5, 6, 7] (L' := [_, _, _, _, _, _]) (by decide) (fun j => by rcases j with _ | _ | _ | _ | _ | _ | j <;> rfl)
      clear g0 g1 g2 ho7 hb7
      go_wp2_with (at_builtin; refine wp_append_row' rfl (.tmp 23) (.tmp 34) rfl h5 0 rfl Hul2.out rfl rfl Hl3.out ?_; intro v1 w8 h6)
      go_roundw
      case rel => exact ⟨i + 1, us ++ [Value.slice A7 l7 c7], by go_num, by omega, by rw [HHs.out]; exact h6, by show _ = _; simp [Hul.out]⟩
      case measure => simp [intOf]; omega
    · obtain rfl : m = i := by omega
      have Hul2 := Lib.hid (show us.length = (HH p n T E F m).length by rw [length_HH]; exact Hul.out)
      clear Hul
      go_wp2
      go_loopw [40] (fun v40 wr => ∃ i : Nat, v40 = .int .i64 i ∧ i ≤ m ∧ St w wr [rowsIt u9 us (HH p n T E F m), .box (w.heap.size + 1) [.int .i64 m, d], .box w.heap.size [.int .i64 p, .int .i64 n, t], .ro t T, .ro d D] ∧ Hid (X = (List.range' i (m - i)).all (fP p n T m D E F))) (fun v40 _ => m - (intOf v40).toNat)
      case atStart => exact ⟨0, rfl, by omega, g, HX⟩
      case round =>
        clear g HX
        obtain ⟨i, rfl, a1, g, HX⟩ := hrel
        by_cases hi : i < m
        · have ii : (i : Int) < (m : Int) := by omega
          have HXi : Hid (X = ((List.range' 0 (m - 0)).all (sP p n T m D E F i) && (List.range' (i + 1) (m - (i + 1))).all (fP p n T m D E F))) := by
            show X = _
            rw [HX.out, all_cons _ hi]
            rfl
          go_wp2
          go_loopw [45] (fun v45 wr => ∃ j : Nat, v45 = .int .i64 j ∧ j ≤ m ∧ St w wr [rowsIt u9 us (HH p n T E F m), .box (w.heap.size + 1) [.int .i64 m, d], .box w.heap.size [.int .i64 p, .int .i64 n, t], .ro t T, .ro d D] ∧ Hid (X = ((List.range' j (m - j)).all (sP p n T m D E F i) && (List.range' (i + 1) (m - (i + 1))).all (fP p n T m D E F)))) (fun v45 _ => m - (intOf v45).toNat)
          case atStart => exact ⟨0, rfl, by omega, g, HXi⟩
          case round =>
            clear g HXi HX
            obtain ⟨j, rfl, a2, g, HX⟩ := hrel
            by_cases hj : j < m
            · have jj : (j : Int) < (m : Int) := by omega
              have HXs : Hid (X = ((sP p n T m D E F i j && (List.range' (j + 1) (m - (j + 1))).all (sP p n T m D E F i)) && (List.range' (i + 1) (m - (i + 1))).all (fP p n T m D E F))) := by
                show X = _
                rw [HX.out, all_cons _ hj]
              obtain ⟨gh, ch, A1, c1, A2, c2, be, oe, A3, c3, A4, c4, bf, of_, A5, c5, A6, c6, rfl, rfl, rfl, HF, hej, hfj⟩ := env' g Hul2.out HlE.out HlF.out Hv.out Hu.out hi hj (fun i hi => (HEv.out i hi).1) (fun i hi => (HFv.out i hi).1)
              have Hej := Lib.hid (Ints.factS hej)
              have Hfj := Lib.hid (Ints.factS hfj)
              clear hej hfj
              have C1 := Lib.hid (HB.out (hF p n T E F i) (hF p n T E F j) (Hb.out _ _) (Hb.out _ _))
              have C3 := Lib.hid (HB.out (rowOf E i) (rowOf F j) (HEv.out i hi) (HFv.out j hj))
              have C5 := Lib.hid (HB.out (hF p n T E F i) (rowOf E j) (Hb.out _ _) (HEv.out j hj))
              have C8 := Lib.hid (HB.out (hF p n T E F i) (rowOf F j) (Hb.out _ _) (HFv.out j hj))
              have C11 := Lib.hid (fun k => HB.out _ _ (HEv.out i hi) (HI.out E i j k (HEv.out j hj)))
              have C12 := Lib.hid (fun k => HB.out _ _ (HFv.out i hi) (HI.out F i j k (HFv.out j hj)))
              obtain ⟨e1, e2⟩ := Hen.out i j hi hj
              have C6 := Lib.hid (HMu.out (en m D i j) (rowOf E j) (HEv.out j hj) (by omega))
              have C9 := Lib.hid (HMu.out (0 - en m D i j) (rowOf F j) (HFv.out j hj) (by omega))
              have hs : sP p n T m D E F i j = ((zeroL (braL T (hF p n T E F i) (hF p n T E F j) n p) && (decide (braL T (hF p n T E F i) (rowOf E j) n p = mulL p (en m D i j) (rowOf E j)) && decide (braL T (hF p n T E F i) (rowOf F j) n p = mulL p (0 - en m D i j) (rowOf F j)))) && (i == j || (zeroL (braL T (rowOf E i) (rowOf F j) n p) && (zeroL (itB p n T (rowOf E i) (rowOf E j) (1 - en m D i j).toNat) && zeroL (itB p n T (rowOf F i) (rowOf F j) (1 - en m D i j).toNat))))) := rfl
              have HAt1 := Lib.hid (HAt.out i j hi hj)
              obtain ⟨B1, hB1⟩ : ∃ B1, B1 = braL T (hF p n T E F i) (hF p n T E F j) n p := ⟨_, rfl⟩
              obtain ⟨B2, hB2⟩ : ∃ B2, B2 = braL T (rowOf E i) (rowOf F j) n p := ⟨_, rfl⟩
              obtain ⟨B3, hB3⟩ : ∃ B3, B3 = braL T (hF p n T E F i) (rowOf E j) n p := ⟨_, rfl⟩
              obtain ⟨B4, hB4⟩ : ∃ B4, B4 = braL T (hF p n T E F i) (rowOf F j) n p := ⟨_, rfl⟩
              obtain ⟨q, hq⟩ : ∃ q, q = en m D i j := ⟨_, rfl⟩
              rw [← hB1] at C1 hs
              rw [← hB2] at C3 hs
              rw [← hB3] at C5 hs
              rw [← hB4] at C8 hs
              rw [← hq] at e1 e2 C6 C9 hs HAt1
              obtain ⟨M3, hM3⟩ : ∃ M3, M3 = mulL p q (rowOf E j) := ⟨_, rfl⟩
              obtain ⟨qn, hqn⟩ : ∃ qn, qn = 0 - q := ⟨_, rfl⟩
              rw [← hqn] at C9 hs
              obtain ⟨M4, hM4⟩ : ∃ M4, M4 = mulL p qn (rowOf F j) := ⟨_, rfl⟩
              rw [← hM3] at C6 hs
              rw [← hM4] at C9 hs
              obtain ⟨NN, hNN⟩ : ∃ NN, NN = (1 - q).toNat := ⟨_, rfl⟩
              rw [← hNN] at hs
              have HNN := Lib.hid hNN
              have C2 := Lib.hid (fun W x (h : Ints W x B1) => isZero_any x B1 W h)
              have C4 := Lib.hid (fun W x (h : Ints W x B2) => isZero_any x B2 W h)
              have C7 := Lib.hid (fun W x y (h : Ints W x B3) (h' : Ints W y M3) => Equal_any x y B3 M3 W h h')
              have C10 := Lib.hid (fun W x y (h : Ints W x B4) (h' : Ints W y M4) => Equal_any x y B4 M4 W h h')
              have C13 := Lib.hid (fun W x (h : Ints W x (itB p n T (rowOf E i) (rowOf E j) NN)) => isZero_any x _ W h)
              have C14 := Lib.hid (fun W x (h : Ints W x (itB p n T (rowOf F i) (rowOf F j) NN)) => isZero_any x _ W h)
              obtain ⟨p1, hp1⟩ : ∃ p1, p1 = zeroL B1 := ⟨_, rfl⟩
              obtain ⟨p2, hp2⟩ : ∃ p2, p2 = zeroL B2 := ⟨_, rfl⟩
              obtain ⟨q1, hq1⟩ : ∃ q1, q1 = decide (B3 = M3) := ⟨_, rfl⟩
              obtain ⟨q2, hq2⟩ : ∃ q2, q2 = decide (B4 = M4) := ⟨_, rfl⟩
              obtain ⟨s1, hs1⟩ : ∃ s1, s1 = zeroL (itB p n T (rowOf E i) (rowOf E j) NN) := ⟨_, rfl⟩
              obtain ⟨s2, hs2⟩ : ∃ s2, s2 = zeroL (itB p n T (rowOf F i) (rowOf F j) NN) := ⟨_, rfl⟩
              rw [← hp1] at C2 hs
              rw [← hp2] at C4 hs
              rw [← hq1] at C7 hs
              rw [← hq2] at C10 hs
              rw [← hs1] at C13 hs
              rw [← hs2] at C14 hs
              have x1 : IntKind.i64.wrap (0 - q) = qn := by rw [hqn]; exact wrap_ok (by omega) (by omega)
              have x2 : wrap64 (0 - q) = qn := by rw [hqn]; unfold wrap64; omega
              have x3 : wrap64 (-q) = qn := by rw [hqn]; unfold wrap64; omega
              have x4 : IntKind.i64.wrap (-q) = qn := by rw [hqn, wrap_ok (by omega) (by omega)]; omega
              have x5 : IntKind.i64.wrap (1 - q) = 1 - q := wrap_ok (by omega) (by omega)
              have x6 : wrap64 (1 - q) = 1 - q := by unfold wrap64; omega
              replace HXs : Hid (X = ((((p1 && (q1 && q2)) && (i == j || (p2 && (s1 && s2)))) && (List.range' (j + 1) (m - (j + 1))).all (sP p n T m D E F i)) && (List.range' (i + 1) (m - (i + 1))).all (fP p n T m D E F))) := by
                show X = _
                rw [HXs.out, hs]
              have HI1 := Lib.hid (fun k => show itB p n T (rowOf E i) (rowOf E j) (k + 1) = braL T (rowOf E i) (itB p n T (rowOf E i) (rowOf E j) k) n p from rfl)
              have HI2 := Lib.hid (fun k => show itB p n T (rowOf F i) (rowOf F j) (k + 1) = braL T (rowOf F i) (itB p n T (rowOf F i) (rowOf F j) k) n p from rfl)
              have HJ1 : Hid (itB p n T (rowOf E i) (rowOf E j) 0 = rowOf E j) := rfl
              have HJ2 : Hid (itB p n T (rowOf F i) (rowOf F j) 0 = rowOf F j) := rfl
              clear hB1 hB2 hB3 hB4 hq hM3 hM4 hqn hp1 hp2 hq1 hq2 hs hs1 hs2 hNN HX
              obtain ⟨z0, z1⟩ := g.box2 1 rfl
              go_wp2_with fail
              refine (HAt1.out _ (g.roInts 4 rfl)).mono ?_
              rintro (e : Ending) w6 ⟨rfl, hb6⟩
              have g1 := g.on hb6
              clear g hb6 z0 z1
              go_upto_region 15 with fail
              go_cut [45, 106] from 45 to 159 (fun v45 v106 wx => v45 = .int .i64 j ∧ v106 = .bool (!(p1 && (q1 && q2))) ∧ St w wx [rowsIt (.slice (some ⟨gh, 0, none⟩) m ch) us (HH p n T E F m), .box (w.heap.size + 1) [.int .i64 m, d], .box w.heap.size [.int .i64 p, .int .i64 n, t], .ro t T, .ro d D])
              case first =>
                as_aux_lemma =>
                  cases p1 with
                  | false =>
                    have g0 := g1.drew
                    refine wp_region_held_drew (S := fun w' => (w'.cell? ⟨w.heap.size, 0, none⟩ = some (.int .i64 p) ∧ w'.cell? ⟨w.heap.size, 1, none⟩ = some (.int .i64 n) ∧ w'.cell? ⟨w.heap.size, 2, none⟩ = some (t)) ∧ w'.cell? ⟨gh, i, none⟩ = some (.slice A1 n c1) ∧ w'.cell? ⟨gh, j, none⟩ = some (.slice A2 n c2) ∧ w'.cell? ⟨be, oe + i, none⟩ = some (.slice A3 n c3) ∧ w'.cell? ⟨be, oe + j, none⟩ = some (.slice A4 n c4) ∧ w'.cell? ⟨bf, of_ + i, none⟩ = some (.slice A5 n c5) ∧ w'.cell? ⟨bf, of_ + j, none⟩ = some (.slice A6 n c6)) (by kernel_rfl) (HF.out _ _ 0 g0 rfl).s (fun hHeld => ?_)
                    obtain ⟨v0, hv0, g8⟩ : ∃ v0, v0 = w6.drew ∧ St w v0 _ := ⟨_, rfl, g0⟩
                    rw [← hv0] at g0 hHeld ⊢
                    clear hv0 g8 g1
                    refine anyH_take (v := ?_) 0 rfl (by kernel_rfl) (by kernel_rfl) (by kernel_rfl) (fun _ _ _ h => h) rfl ?_ hHeld ?_
                    rotate_left
                    · intro w' hSw
                      go_simp
                      try with_reducible rfl
                    try simp only [Act.put, List.setIfInBounds_toArray, List.set_cons_zero, List.set_cons_succ]
                    refine anyH_take (v := ?_) 1 rfl (by kernel_rfl) (by kernel_rfl) (by kernel_rfl) (fun _ _ _ h => h) rfl ?_ hHeld ?_
                    rotate_left
                    · intro w' hSw
                      go_simp
                      try with_reducible rfl
                    try simp only [Act.put, List.setIfInBounds_toArray, List.set_cons_zero, List.set_cons_succ]
                    refine anyH_take (v := ?_) 2 rfl (by kernel_rfl) (by kernel_rfl) (by kernel_rfl) (fun _ _ _ h => h) rfl ?_ hHeld ?_
                    rotate_left
                    · intro w' hSw
                      go_simp
                      try with_reducible rfl
                    try simp only [Act.put, List.setIfInBounds_toArray, List.set_cons_zero, List.set_cons_succ]
                    refine anyH_take (v := ?_) 3 rfl (by kernel_rfl) (by kernel_rfl) (by kernel_rfl) (fun _ _ _ h => h) rfl ?_ hHeld ?_
                    rotate_left
                    · intro w' hSw
                      go_simp
                      try with_reducible rfl
                    try simp only [Act.put, List.setIfInBounds_toArray, List.set_cons_zero, List.set_cons_succ]
                    refine anyH_take (v := ?_) 4 rfl (by kernel_rfl) (by kernel_rfl) (by kernel_rfl) (fun _ _ _ h => h) rfl ?_ hHeld ?_
                    rotate_left
                    · intro w' hSw
                      go_simp
                      try with_reducible rfl
                    try simp only [Act.put, List.setIfInBounds_toArray, List.set_cons_zero, List.set_cons_succ]
                    refine anyH_take (v := ?_) 5 rfl (by kernel_rfl) (by kernel_rfl) (by kernel_rfl) (fun _ _ _ h => h) rfl ?_ hHeld ?_
                    rotate_left
                    · intro w' hSw
                      go_simp
                      try with_reducible rfl
                    try simp only [Act.put, List.setIfInBounds_toArray, List.set_cons_zero, List.set_cons_succ]
                    refine anyH_take (v := ?_) 6 rfl (by kernel_rfl) (by kernel_rfl) (by kernel_rfl) (fun _ _ _ h => h) rfl ?_ hHeld ?_
                    rotate_left
                    · intro w' hSw
                      go_simp
                      try with_reducible rfl
                    try simp only [Act.put, List.setIfInBounds_toArray, List.set_cons_zero, List.set_cons_succ]
                    refine anyH_take (v := ?_) 7 rfl (by kernel_rfl) (by kernel_rfl) (by kernel_rfl) (fun _ _ _ h => h) rfl ?_ hHeld ?_
                    rotate_left
                    · intro w' hSw
                      go_simp
                      try with_reducible rfl
                    try simp only [Act.put, List.setIfInBounds_toArray, List.set_cons_zero, List.set_cons_succ]
                    refine anyH_take (v := ?_) 8 rfl (by kernel_rfl) (by kernel_rfl) (by kernel_rfl) (fun _ _ _ h => h) rfl ?_ hHeld ?_
                    rotate_left
                    · intro w' hSw
                      go_simp
                      try with_reducible rfl
                    try simp only [Act.put, List.setIfInBounds_toArray, List.set_cons_zero, List.set_cons_succ]
                    refine wpAnyH_ready (rs := [9]) (by kernel_rfl) (by simp) ?_
                    refine ready_cons rfl (fun K hK => ?_) AllReadyH.nil
                    go_simp
                    refine (C1.out _ _ _ (HF.out _ _ 0 g0 rfl).t (HF.out _ _ 0 g0 rfl).hi (HF.out _ _ 0 g0 rfl).hj).mono ?_
                    rintro (e : Ending) w7 ⟨u7, rfl, ho7, hb7⟩
                    have g2 := g0.pushOwn hb7 ho7
                    show K _ _
                    refine hK.out _ _ ?_ (fun hHeld => ?_)
                    · exact (HF.out _ _ 1 g2 rfl).s
                    clear hK K
                    try simp only [Act.put, List.setIfInBounds_toArray, List.set_cons_zero, List.set_cons_succ]
                    refine wpAnyH_ready (rs := [10]) (by kernel_rfl) (by simp) ?_
                    refine ready_cons rfl (fun K hK => ?_) AllReadyH.nil
                    go_simp
                    refine (C2.out _ _ (g2.ownInts 0 rfl)).mono ?_
                    rintro (e : Ending) w8 ⟨rfl, rfl⟩
                    show K _ _
                    refine hK.out _ _ ?_ (fun hHeld => ?_)
                    · exact (HF.out _ _ 1 g2 rfl).s
                    clear hK K
                    try simp only [Act.put, List.setIfInBounds_toArray, List.set_cons_zero, List.set_cons_succ]
                    refine anyH_take (v := ?_) 11 rfl (by kernel_rfl) (by kernel_rfl) (by kernel_rfl) (fun _ _ _ h => h) rfl ?_ hHeld ?_
                    rotate_left
                    · intro w' hSw
                      go_simp
                      try with_reducible rfl
                    try simp only [Act.put, List.setIfInBounds_toArray, List.set_cons_zero, List.set_cons_succ]
                    refine anyH_take (v := ?_) 12 rfl (by kernel_rfl) (by kernel_rfl) (by kernel_rfl) (fun _ _ _ h => h) rfl ?_ hHeld ?_
                    rotate_left
                    · intro w' hSw
                      go_simp
                      try with_reducible rfl
                    try simp only [Act.put, List.setIfInBounds_toArray, List.set_cons_zero, List.set_cons_succ]
                    refine anyH_skip 13 rfl (by kernel_rfl) (by kernel_rfl) (by kernel_rfl) (fun _ _ _ h => h) rfl hHeld ?_
                    try simp only [Act.put, List.setIfInBounds_toArray, List.set_cons_zero, List.set_cons_succ]
                    refine anyH_skip 14 rfl (by kernel_rfl) (by kernel_rfl) (by kernel_rfl) (fun _ _ _ h => h) rfl hHeld ?_
                    try simp only [Act.put, List.setIfInBounds_toArray, List.set_cons_zero, List.set_cons_succ]
                    refine anyH_skip 15 rfl (by kernel_rfl) (by kernel_rfl) (by kernel_rfl) (fun _ _ _ h => h) rfl hHeld ?_
                    try simp only [Act.put, List.setIfInBounds_toArray, List.set_cons_zero, List.set_cons_succ]
                    refine anyH_skip 16 rfl (by kernel_rfl) (by kernel_rfl) (by kernel_rfl) (fun _ _ _ h => h) rfl hHeld ?_
                    try simp only [Act.put, List.setIfInBounds_toArray, List.set_cons_zero, List.set_cons_succ]
                    refine anyH_skip 17 rfl (by kernel_rfl) (by kernel_rfl) (by kernel_rfl) (fun _ _ _ h => h) rfl hHeld ?_
                    try simp only [Act.put, List.setIfInBounds_toArray, List.set_cons_zero, List.set_cons_succ]
                    refine anyH_skip 18 rfl (by kernel_rfl) (by kernel_rfl) (by kernel_rfl) (fun _ _ _ h => h) rfl hHeld ?_
                    try simp only [Act.put, List.setIfInBounds_toArray, List.set_cons_zero, List.set_cons_succ]
                    refine anyH_skip 19 rfl (by kernel_rfl) (by kernel_rfl) (by kernel_rfl) (fun _ _ _ h => h) rfl hHeld ?_
                    try simp only [Act.put, List.setIfInBounds_toArray, List.set_cons_zero, List.set_cons_succ]
                    refine anyH_skip 20 rfl (by kernel_rfl) (by kernel_rfl) (by kernel_rfl) (fun _ _ _ h => h) rfl hHeld ?_
                    try simp only [Act.put, List.setIfInBounds_toArray, List.set_cons_zero, List.set_cons_succ]
                    refine anyH_skip 21 rfl (by kernel_rfl) (by kernel_rfl) (by kernel_rfl) (fun _ _ _ h => h) rfl hHeld ?_
                    try simp only [Act.put, List.setIfInBounds_toArray, List.set_cons_zero, List.set_cons_succ]
                    refine anyH_skip 22 rfl (by kernel_rfl) (by kernel_rfl) (by kernel_rfl) (fun _ _ _ h => h) rfl hHeld ?_
                    try simp only [Act.put, List.setIfInBounds_toArray, List.set_cons_zero, List.set_cons_succ]
                    refine anyH_skip 23 rfl (by kernel_rfl) (by kernel_rfl) (by kernel_rfl) (fun _ _ _ h => h) rfl hHeld ?_
                    try simp only [Act.put, List.setIfInBounds_toArray, List.set_cons_zero, List.set_cons_succ]
                    refine anyH_skip 24 rfl (by kernel_rfl) (by kernel_rfl) (by kernel_rfl) (fun _ _ _ h => h) rfl hHeld ?_
                    try simp only [Act.put, List.setIfInBounds_toArray, List.set_cons_zero, List.set_cons_succ]
                    refine anyH_skip 25 rfl (by kernel_rfl) (by kernel_rfl) (by kernel_rfl) (fun _ _ _ h => h) rfl hHeld ?_
                    try simp only [Act.put, List.setIfInBounds_toArray, List.set_cons_zero, List.set_cons_succ]
                    refine anyH_skip 26 rfl (by kernel_rfl) (by kernel_rfl) (by kernel_rfl) (fun _ _ _ h => h) rfl hHeld ?_
                    try simp only [Act.put, List.setIfInBounds_toArray, List.set_cons_zero, List.set_cons_succ]
                    refine anyH_skip 27 rfl (by kernel_rfl) (by kernel_rfl) (by kernel_rfl) (fun _ _ _ h => h) rfl hHeld ?_
                    try simp only [Act.put, List.setIfInBounds_toArray, List.set_cons_zero, List.set_cons_succ]
                    refine anyH_skip 28 rfl (by kernel_rfl) (by kernel_rfl) (by kernel_rfl) (fun _ _ _ h => h) rfl hHeld ?_
                    try simp only [Act.put, List.setIfInBounds_toArray, List.set_cons_zero, List.set_cons_succ]
                    refine anyH_skip 29 rfl (by kernel_rfl) (by kernel_rfl) (by kernel_rfl) (fun _ _ _ h => h) rfl hHeld ?_
                    try simp only [Act.put, List.setIfInBounds_toArray, List.set_cons_zero, List.set_cons_succ]
                    refine anyH_skip 30 rfl (by kernel_rfl) (by kernel_rfl) (by kernel_rfl) (fun _ _ _ h => h) rfl hHeld ?_
                    try simp only [Act.put, List.setIfInBounds_toArray, List.set_cons_zero, List.set_cons_succ]
                    refine anyH_skip 31 rfl (by kernel_rfl) (by kernel_rfl) (by kernel_rfl) (fun _ _ _ h => h) rfl hHeld ?_
                    try simp only [Act.put, List.setIfInBounds_toArray, List.set_cons_zero, List.set_cons_succ]
                    refine anyH_take (v := ?_) 32 rfl (by kernel_rfl) (by kernel_rfl) (by kernel_rfl) (fun _ _ _ h => h) rfl ?_ hHeld ?_
                    rotate_left
                    · intro w' hSw
                      go_simp
                      try with_reducible rfl
                    try simp only [Act.put, List.setIfInBounds_toArray, List.set_cons_zero, List.set_cons_succ]
                    refine anyH_take (v := ?_) 33 rfl (by kernel_rfl) (by kernel_rfl) (by kernel_rfl) (fun _ _ _ h => h) rfl ?_ hHeld ?_
                    rotate_left
                    · intro w' hSw
                      go_simp
                      try with_reducible rfl
                    try simp only [Act.put, List.setIfInBounds_toArray, List.set_cons_zero, List.set_cons_succ]
                    refine anyH_skip 34 rfl (by kernel_rfl) (by kernel_rfl) (by kernel_rfl) (fun _ _ _ h => h) rfl hHeld ?_
                    try simp only [Act.put, List.setIfInBounds_toArray, List.set_cons_zero, List.set_cons_succ]
                    refine anyH_skip 35 rfl (by kernel_rfl) (by kernel_rfl) (by kernel_rfl) (fun _ _ _ h => h) rfl hHeld ?_
                    try simp only [Act.put, List.setIfInBounds_toArray, List.set_cons_zero, List.set_cons_succ]
                    refine anyH_skip 36 rfl (by kernel_rfl) (by kernel_rfl) (by kernel_rfl) (fun _ _ _ h => h) rfl hHeld ?_
                    try simp only [Act.put, List.setIfInBounds_toArray, List.set_cons_zero, List.set_cons_succ]
                    refine anyH_skip 37 rfl (by kernel_rfl) (by kernel_rfl) (by kernel_rfl) (fun _ _ _ h => h) rfl hHeld ?_
                    try simp only [Act.put, List.setIfInBounds_toArray, List.set_cons_zero, List.set_cons_succ]
                    refine anyH_skip 38 rfl (by kernel_rfl) (by kernel_rfl) (by kernel_rfl) (fun _ _ _ h => h) rfl hHeld ?_
                    try simp only [Act.put, List.setIfInBounds_toArray, List.set_cons_zero, List.set_cons_succ]
                    refine anyH_skip 39 rfl (by kernel_rfl) (by kernel_rfl) (by kernel_rfl) (fun _ _ _ h => h) rfl hHeld ?_
                    try simp only [Act.put, List.setIfInBounds_toArray, List.set_cons_zero, List.set_cons_succ]
                    refine anyH_skip 40 rfl (by kernel_rfl) (by kernel_rfl) (by kernel_rfl) (fun _ _ _ h => h) rfl hHeld ?_
                    try simp only [Act.put, List.setIfInBounds_toArray, List.set_cons_zero, List.set_cons_succ]
                    refine anyH_skip 41 rfl (by kernel_rfl) (by kernel_rfl) (by kernel_rfl) (fun _ _ _ h => h) rfl hHeld ?_
                    try simp only [Act.put, List.setIfInBounds_toArray, List.set_cons_zero, List.set_cons_succ]
                    refine anyH_skip 42 rfl (by kernel_rfl) (by kernel_rfl) (by kernel_rfl) (fun _ _ _ h => h) rfl hHeld ?_
                    try simp only [Act.put, List.setIfInBounds_toArray, List.set_cons_zero, List.set_cons_succ]
                    refine anyH_skip 43 rfl (by kernel_rfl) (by kernel_rfl) (by kernel_rfl) (fun _ _ _ h => h) rfl hHeld ?_
                    try simp only [Act.put, List.setIfInBounds_toArray, List.set_cons_zero, List.set_cons_succ]
                    refine anyH_skip 44 rfl (by kernel_rfl) (by kernel_rfl) (by kernel_rfl) (fun _ _ _ h => h) rfl hHeld ?_
                    try simp only [Act.put, List.setIfInBounds_toArray, List.set_cons_zero, List.set_cons_succ]
                    refine anyH_skip 45 rfl (by kernel_rfl) (by kernel_rfl) (by kernel_rfl) (fun _ _ _ h => h) rfl hHeld ?_
                    try simp only [Act.put, List.setIfInBounds_toArray, List.set_cons_zero, List.set_cons_succ]
                    refine anyH_skip 46 rfl (by kernel_rfl) (by kernel_rfl) (by kernel_rfl) (fun _ _ _ h => h) rfl hHeld ?_
                    try simp only [Act.put, List.setIfInBounds_toArray, List.set_cons_zero, List.set_cons_succ]
                    refine anyH_skip 47 rfl (by kernel_rfl) (by kernel_rfl) (by kernel_rfl) (fun _ _ _ h => h) rfl hHeld ?_
                    try simp only [Act.put, List.setIfInBounds_toArray, List.set_cons_zero, List.set_cons_succ]
                    refine anyH_skip 48 rfl (by kernel_rfl) (by kernel_rfl) (by kernel_rfl) (fun _ _ _ h => h) rfl hHeld ?_
                    try simp only [Act.put, List.setIfInBounds_toArray, List.set_cons_zero, List.set_cons_succ]
                    refine anyH_skip 49 rfl (by kernel_rfl) (by kernel_rfl) (by kernel_rfl) (fun _ _ _ h => h) rfl hHeld ?_
                    try simp only [Act.put, List.setIfInBounds_toArray, List.set_cons_zero, List.set_cons_succ]
                    refine anyH_skip 50 rfl (by kernel_rfl) (by kernel_rfl) (by kernel_rfl) (fun _ _ _ h => h) rfl hHeld ?_
                    try simp only [Act.put, List.setIfInBounds_toArray, List.set_cons_zero, List.set_cons_succ]
                    refine anyH_skip 51 rfl (by kernel_rfl) (by kernel_rfl) (by kernel_rfl) (fun _ _ _ h => h) rfl hHeld ?_
                    try simp only [Act.put, List.setIfInBounds_toArray, List.set_cons_zero, List.set_cons_succ]
                    refine anyH_skip 52 rfl (by kernel_rfl) (by kernel_rfl) (by kernel_rfl) (fun _ _ _ h => h) rfl hHeld ?_
                    try simp only [Act.put, List.setIfInBounds_toArray, List.set_cons_zero, List.set_cons_succ]
                    refine anyH_skip 53 rfl (by kernel_rfl) (by kernel_rfl) (by kernel_rfl) (fun _ _ _ h => h) rfl hHeld ?_
                    try simp only [Act.put, List.setIfInBounds_toArray, List.set_cons_zero, List.set_cons_succ]
                    refine anyH_take (v := ?_) 54 rfl (by kernel_rfl) (by kernel_rfl) (by kernel_rfl) (fun _ _ _ h => h) rfl ?_ hHeld ?_
                    rotate_left
                    · intro w' hSw
                      go_simp
                      try with_reducible rfl
                    try simp only [Act.put, List.setIfInBounds_toArray, List.set_cons_zero, List.set_cons_succ]
                    refine wpAnyH_done (by kernel_rfl) ?_ _
                    clear hHeld
                    go_wp2_with fail
                    go_meet
                    exact ⟨rfl, rfl, g2.drop 1⟩
                  | true =>
                  cases q1 with
                  | false =>
                    have g0 := g1.drew
                    refine wp_region_held_drew (S := fun w' => (w'.cell? ⟨w.heap.size, 0, none⟩ = some (.int .i64 p) ∧ w'.cell? ⟨w.heap.size, 1, none⟩ = some (.int .i64 n) ∧ w'.cell? ⟨w.heap.size, 2, none⟩ = some (t)) ∧ w'.cell? ⟨gh, i, none⟩ = some (.slice A1 n c1) ∧ w'.cell? ⟨gh, j, none⟩ = some (.slice A2 n c2) ∧ w'.cell? ⟨be, oe + i, none⟩ = some (.slice A3 n c3) ∧ w'.cell? ⟨be, oe + j, none⟩ = some (.slice A4 n c4) ∧ w'.cell? ⟨bf, of_ + i, none⟩ = some (.slice A5 n c5) ∧ w'.cell? ⟨bf, of_ + j, none⟩ = some (.slice A6 n c6)) (by kernel_rfl) (HF.out _ _ 0 g0 rfl).s (fun hHeld => ?_)
                    obtain ⟨v0, hv0, g8⟩ : ∃ v0, v0 = w6.drew ∧ St w v0 _ := ⟨_, rfl, g0⟩
                    rw [← hv0] at g0 hHeld ⊢
                    clear hv0 g8 g1
                    refine anyH_take (v := ?_) 0 rfl (by kernel_rfl) (by kernel_rfl) (by kernel_rfl) (fun _ _ _ h => h) rfl ?_ hHeld ?_
                    rotate_left
                    · intro w' hSw
                      go_simp
                      try with_reducible rfl
                    try simp only [Act.put, List.setIfInBounds_toArray, List.set_cons_zero, List.set_cons_succ]
                    refine anyH_take (v := ?_) 1 rfl (by kernel_rfl) (by kernel_rfl) (by kernel_rfl) (fun _ _ _ h => h) rfl ?_ hHeld ?_
                    rotate_left
                    · intro w' hSw
                      go_simp
                      try with_reducible rfl
                    try simp only [Act.put, List.setIfInBounds_toArray, List.set_cons_zero, List.set_cons_succ]
                    refine anyH_take (v := ?_) 2 rfl (by kernel_rfl) (by kernel_rfl) (by kernel_rfl) (fun _ _ _ h => h) rfl ?_ hHeld ?_
                    rotate_left
                    · intro w' hSw
                      go_simp
                      try with_reducible rfl
                    try simp only [Act.put, List.setIfInBounds_toArray, List.set_cons_zero, List.set_cons_succ]
                    refine anyH_take (v := ?_) 3 rfl (by kernel_rfl) (by kernel_rfl) (by kernel_rfl) (fun _ _ _ h => h) rfl ?_ hHeld ?_
                    rotate_left
                    · intro w' hSw
                      go_simp
                      try with_reducible rfl
                    try simp only [Act.put, List.setIfInBounds_toArray, List.set_cons_zero, List.set_cons_succ]
                    refine anyH_take (v := ?_) 4 rfl (by kernel_rfl) (by kernel_rfl) (by kernel_rfl) (fun _ _ _ h => h) rfl ?_ hHeld ?_
                    rotate_left
                    · intro w' hSw
                      go_simp
                      try with_reducible rfl
                    try simp only [Act.put, List.setIfInBounds_toArray, List.set_cons_zero, List.set_cons_succ]
                    refine anyH_take (v := ?_) 5 rfl (by kernel_rfl) (by kernel_rfl) (by kernel_rfl) (fun _ _ _ h => h) rfl ?_ hHeld ?_
                    rotate_left
                    · intro w' hSw
                      go_simp
                      try with_reducible rfl
                    try simp only [Act.put, List.setIfInBounds_toArray, List.set_cons_zero, List.set_cons_succ]
                    refine anyH_take (v := ?_) 6 rfl (by kernel_rfl) (by kernel_rfl) (by kernel_rfl) (fun _ _ _ h => h) rfl ?_ hHeld ?_
                    rotate_left
                    · intro w' hSw
                      go_simp
                      try with_reducible rfl
                    try simp only [Act.put, List.setIfInBounds_toArray, List.set_cons_zero, List.set_cons_succ]
                    refine anyH_take (v := ?_) 7 rfl (by kernel_rfl) (by kernel_rfl) (by kernel_rfl) (fun _ _ _ h => h) rfl ?_ hHeld ?_
                    rotate_left
                    · intro w' hSw
                      go_simp
                      try with_reducible rfl
                    try simp only [Act.put, List.setIfInBounds_toArray, List.set_cons_zero, List.set_cons_succ]
                    refine anyH_take (v := ?_) 8 rfl (by kernel_rfl) (by kernel_rfl) (by kernel_rfl) (fun _ _ _ h => h) rfl ?_ hHeld ?_
                    rotate_left
                    · intro w' hSw
                      go_simp
                      try with_reducible rfl
                    try simp only [Act.put, List.setIfInBounds_toArray, List.set_cons_zero, List.set_cons_succ]
                    refine wpAnyH_ready (rs := [9]) (by kernel_rfl) (by simp) ?_
                    refine ready_cons rfl (fun K hK => ?_) AllReadyH.nil
                    go_simp
                    refine (C1.out _ _ _ (HF.out _ _ 0 g0 rfl).t (HF.out _ _ 0 g0 rfl).hi (HF.out _ _ 0 g0 rfl).hj).mono ?_
                    rintro (e : Ending) w7 ⟨u7, rfl, ho7, hb7⟩
                    have g2 := g0.pushOwn hb7 ho7
                    show K _ _
                    refine hK.out _ _ ?_ (fun hHeld => ?_)
                    · exact (HF.out _ _ 1 g2 rfl).s
                    clear hK K
                    try simp only [Act.put, List.setIfInBounds_toArray, List.set_cons_zero, List.set_cons_succ]
                    refine wpAnyH_ready (rs := [10]) (by kernel_rfl) (by simp) ?_
                    refine ready_cons rfl (fun K hK => ?_) AllReadyH.nil
                    go_simp
                    refine (C2.out _ _ (g2.ownInts 0 rfl)).mono ?_
                    rintro (e : Ending) w8 ⟨rfl, rfl⟩
                    show K _ _
                    refine hK.out _ _ ?_ (fun hHeld => ?_)
                    · exact (HF.out _ _ 1 g2 rfl).s
                    clear hK K
                    try simp only [Act.put, List.setIfInBounds_toArray, List.set_cons_zero, List.set_cons_succ]
                    refine anyH_take (v := ?_) 11 rfl (by kernel_rfl) (by kernel_rfl) (by kernel_rfl) (fun _ _ _ h => h) rfl ?_ hHeld ?_
                    rotate_left
                    · intro w' hSw
                      go_simp
                      try with_reducible rfl
                    try simp only [Act.put, List.setIfInBounds_toArray, List.set_cons_zero, List.set_cons_succ]
                    refine anyH_take (v := ?_) 12 rfl (by kernel_rfl) (by kernel_rfl) (by kernel_rfl) (fun _ _ _ h => h) rfl ?_ hHeld ?_
                    rotate_left
                    · intro w' hSw
                      go_simp
                      try with_reducible rfl
                    try simp only [Act.put, List.setIfInBounds_toArray, List.set_cons_zero, List.set_cons_succ]
                    refine anyH_take (v := ?_) 13 rfl (by kernel_rfl) (by kernel_rfl) (by kernel_rfl) (fun _ _ _ h => h) rfl ?_ hHeld ?_
                    rotate_left
                    · intro w' hSw
                      go_simp
                      try with_reducible rfl
                    try simp only [Act.put, List.setIfInBounds_toArray, List.set_cons_zero, List.set_cons_succ]
                    refine anyH_take (v := ?_) 14 rfl (by kernel_rfl) (by kernel_rfl) (by kernel_rfl) (fun _ _ _ h => h) rfl ?_ hHeld ?_
                    rotate_left
                    · intro w' hSw
                      go_simp
                      try with_reducible rfl
                    try simp only [Act.put, List.setIfInBounds_toArray, List.set_cons_zero, List.set_cons_succ]
                    refine anyH_take (v := ?_) 15 rfl (by kernel_rfl) (by kernel_rfl) (by kernel_rfl) (fun _ _ _ h => h) rfl ?_ hHeld ?_
                    rotate_left
                    · intro w' hSw
                      go_simp
                      try with_reducible rfl
                    try simp only [Act.put, List.setIfInBounds_toArray, List.set_cons_zero, List.set_cons_succ]
                    refine anyH_take (v := ?_) 16 rfl (by kernel_rfl) (by kernel_rfl) (by kernel_rfl) (fun _ _ _ h => h) rfl ?_ hHeld ?_
                    rotate_left
                    · intro w' hSw
                      go_simp
                      try with_reducible rfl
                    try simp only [Act.put, List.setIfInBounds_toArray, List.set_cons_zero, List.set_cons_succ]
                    refine anyH_take (v := ?_) 17 rfl (by kernel_rfl) (by kernel_rfl) (by kernel_rfl) (fun _ _ _ h => h) rfl ?_ hHeld ?_
                    rotate_left
                    · intro w' hSw
                      go_simp
                      try with_reducible rfl
                    try simp only [Act.put, List.setIfInBounds_toArray, List.set_cons_zero, List.set_cons_succ]
                    refine anyH_take (v := ?_) 18 rfl (by kernel_rfl) (by kernel_rfl) (by kernel_rfl) (fun _ _ _ h => h) rfl ?_ hHeld ?_
                    rotate_left
                    · intro w' hSw
                      go_simp
                      try with_reducible rfl
                    try simp only [Act.put, List.setIfInBounds_toArray, List.set_cons_zero, List.set_cons_succ]
                    refine anyH_take (v := ?_) 19 rfl (by kernel_rfl) (by kernel_rfl) (by kernel_rfl) (fun _ _ _ h => h) rfl ?_ hHeld ?_
                    rotate_left
                    · intro w' hSw
                      go_simp
                      try with_reducible rfl
                    try simp only [Act.put, List.setIfInBounds_toArray, List.set_cons_zero, List.set_cons_succ]
                    refine anyH_take (v := ?_) 20 rfl (by kernel_rfl) (by kernel_rfl) (by kernel_rfl) (fun _ _ _ h => h) rfl ?_ hHeld ?_
                    rotate_left
                    · intro w' hSw
                      go_simp
                      try with_reducible rfl
                    try simp only [Act.put, List.setIfInBounds_toArray, List.set_cons_zero, List.set_cons_succ]
                    refine anyH_take (v := ?_) 21 rfl (by kernel_rfl) (by kernel_rfl) (by kernel_rfl) (fun _ _ _ h => h) rfl ?_ hHeld ?_
                    rotate_left
                    · intro w' hSw
                      go_simp
                      try with_reducible rfl
                    try simp only [Act.put, List.setIfInBounds_toArray, List.set_cons_zero, List.set_cons_succ]
                    refine anyH_take (v := ?_) 23 rfl (by kernel_rfl) (by kernel_rfl) (by kernel_rfl) (fun _ _ _ h => h) rfl ?_ hHeld ?_
                    rotate_left
                    · intro w' hSw
                      go_simp
                      try with_reducible rfl
                    try simp only [Act.put, List.setIfInBounds_toArray, List.set_cons_zero, List.set_cons_succ]
                    refine anyH_take (v := ?_) 24 rfl (by kernel_rfl) (by kernel_rfl) (by kernel_rfl) (fun _ _ _ h => h) rfl ?_ hHeld ?_
                    rotate_left
                    · intro w' hSw
                      go_simp
                      try with_reducible rfl
                    try simp only [Act.put, List.setIfInBounds_toArray, List.set_cons_zero, List.set_cons_succ]
                    refine anyH_take (v := ?_) 25 rfl (by kernel_rfl) (by kernel_rfl) (by kernel_rfl) (fun _ _ _ h => h) rfl ?_ hHeld ?_
                    rotate_left
                    · intro w' hSw
                      go_simp
                      try with_reducible rfl
                    try simp only [Act.put, List.setIfInBounds_toArray, List.set_cons_zero, List.set_cons_succ]
                    refine anyH_take (v := ?_) 26 rfl (by kernel_rfl) (by kernel_rfl) (by kernel_rfl) (fun _ _ _ h => h) rfl ?_ hHeld ?_
                    rotate_left
                    · intro w' hSw
                      go_simp
                      try with_reducible rfl
                    try simp only [Act.put, List.setIfInBounds_toArray, List.set_cons_zero, List.set_cons_succ]
                    refine anyH_take (v := ?_) 27 rfl (by kernel_rfl) (by kernel_rfl) (by kernel_rfl) (fun _ _ _ h => h) rfl ?_ hHeld ?_
                    rotate_left
                    · intro w' hSw
                      go_simp
                      try with_reducible rfl
                    try simp only [Act.put, List.setIfInBounds_toArray, List.set_cons_zero, List.set_cons_succ]
                    refine anyH_take (v := ?_) 28 rfl (by kernel_rfl) (by kernel_rfl) (by kernel_rfl) (fun _ _ _ h => h) rfl ?_ hHeld ?_
                    rotate_left
                    · intro w' hSw
                      go_simp
                      try with_reducible rfl
                    try simp only [Act.put, List.setIfInBounds_toArray, List.set_cons_zero, List.set_cons_succ]
                    refine wpAnyH_ready (rs := [22]) (by kernel_rfl) (by simp) ?_
                    refine ready_cons rfl (fun K hK => ?_) AllReadyH.nil
                    go_simp
                    refine (C5.out _ _ _ (HF.out _ _ 1 g2 rfl).t (HF.out _ _ 1 g2 rfl).hi (HF.out _ _ 1 g2 rfl).ej).mono ?_
                    rintro (e : Ending) w10 ⟨u10', rfl, ho10, hb10⟩
                    have g3 := g2.pushOwn hb10 ho10
                    show K _ _
                    refine hK.out _ _ ?_ (fun hHeld => ?_)
                    · exact (HF.out _ _ 2 g3 rfl).s
                    clear hK K
                    try simp only [Act.put, List.setIfInBounds_toArray, List.set_cons_zero, List.set_cons_succ]
                    refine wpAnyH_ready (rs := [29]) (by kernel_rfl) (by simp) ?_
                    refine ready_cons rfl (fun K hK => ?_) AllReadyH.nil
                    go_simp
                    refine (C6.out _ _ (g3.atL 4 rfl) (HF.out _ _ 2 g3 rfl).ej).mono ?_
                    rintro (e : Ending) w11 ⟨u11', rfl, ho11, hb11⟩
                    have g4 := g3.pushOwn hb11 ho11
                    show K _ _
                    refine hK.out _ _ ?_ (fun hHeld => ?_)
                    · exact (HF.out _ _ 3 g4 rfl).s
                    clear hK K
                    try simp only [Act.put, List.setIfInBounds_toArray, List.set_cons_zero, List.set_cons_succ]
                    refine wpAnyH_ready (rs := [30]) (by kernel_rfl) (by simp) ?_
                    refine ready_cons rfl (fun K hK => ?_) AllReadyH.nil
                    go_simp
                    refine (C7.out _ _ _ (g4.ownInts 1 rfl) (g4.ownInts 0 rfl)).mono ?_
                    rintro (e : Ending) w12 ⟨rfl, nd, rfl⟩
                    have g5 := g4.drewN nd
                    show K _ _
                    refine hK.out _ _ ?_ (fun hHeld => ?_)
                    · exact (HF.out _ _ 3 g5 rfl).s
                    clear hK K
                    try simp only [Act.put, List.setIfInBounds_toArray, List.set_cons_zero, List.set_cons_succ]
                    refine anyH_take (v := ?_) 31 rfl (by kernel_rfl) (by kernel_rfl) (by kernel_rfl) (fun _ _ _ h => h) rfl ?_ hHeld ?_
                    rotate_left
                    · intro w' hSw
                      go_simp
                      try with_reducible rfl
                    try simp only [Act.put, List.setIfInBounds_toArray, List.set_cons_zero, List.set_cons_succ]
                    refine anyH_take (v := ?_) 32 rfl (by kernel_rfl) (by kernel_rfl) (by kernel_rfl) (fun _ _ _ h => h) rfl ?_ hHeld ?_
                    rotate_left
                    · intro w' hSw
                      go_simp
                      try with_reducible rfl
                    try simp only [Act.put, List.setIfInBounds_toArray, List.set_cons_zero, List.set_cons_succ]
                    refine anyH_take (v := ?_) 33 rfl (by kernel_rfl) (by kernel_rfl) (by kernel_rfl) (fun _ _ _ h => h) rfl ?_ hHeld ?_
                    rotate_left
                    · intro w' hSw
                      go_simp
                      try with_reducible rfl
                    try simp only [Act.put, List.setIfInBounds_toArray, List.set_cons_zero, List.set_cons_succ]
                    refine anyH_skip 34 rfl (by kernel_rfl) (by kernel_rfl) (by kernel_rfl) (fun _ _ _ h => h) rfl hHeld ?_
                    try simp only [Act.put, List.setIfInBounds_toArray, List.set_cons_zero, List.set_cons_succ]
                    refine anyH_skip 35 rfl (by kernel_rfl) (by kernel_rfl) (by kernel_rfl) (fun _ _ _ h => h) rfl hHeld ?_
                    try simp only [Act.put, List.setIfInBounds_toArray, List.set_cons_zero, List.set_cons_succ]
                    refine anyH_skip 36 rfl (by kernel_rfl) (by kernel_rfl) (by kernel_rfl) (fun _ _ _ h => h) rfl hHeld ?_
                    try simp only [Act.put, List.setIfInBounds_toArray, List.set_cons_zero, List.set_cons_succ]
                    refine anyH_skip 37 rfl (by kernel_rfl) (by kernel_rfl) (by kernel_rfl) (fun _ _ _ h => h) rfl hHeld ?_
                    try simp only [Act.put, List.setIfInBounds_toArray, List.set_cons_zero, List.set_cons_succ]
                    refine anyH_skip 38 rfl (by kernel_rfl) (by kernel_rfl) (by kernel_rfl) (fun _ _ _ h => h) rfl hHeld ?_
                    try simp only [Act.put, List.setIfInBounds_toArray, List.set_cons_zero, List.set_cons_succ]
                    refine anyH_skip 39 rfl (by kernel_rfl) (by kernel_rfl) (by kernel_rfl) (fun _ _ _ h => h) rfl hHeld ?_
                    try simp only [Act.put, List.setIfInBounds_toArray, List.set_cons_zero, List.set_cons_succ]
                    refine anyH_skip 40 rfl (by kernel_rfl) (by kernel_rfl) (by kernel_rfl) (fun _ _ _ h => h) rfl hHeld ?_
                    try simp only [Act.put, List.setIfInBounds_toArray, List.set_cons_zero, List.set_cons_succ]
                    refine anyH_skip 41 rfl (by kernel_rfl) (by kernel_rfl) (by kernel_rfl) (fun _ _ _ h => h) rfl hHeld ?_
                    try simp only [Act.put, List.setIfInBounds_toArray, List.set_cons_zero, List.set_cons_succ]
                    refine anyH_skip 42 rfl (by kernel_rfl) (by kernel_rfl) (by kernel_rfl) (fun _ _ _ h => h) rfl hHeld ?_
                    try simp only [Act.put, List.setIfInBounds_toArray, List.set_cons_zero, List.set_cons_succ]
                    refine anyH_skip 43 rfl (by kernel_rfl) (by kernel_rfl) (by kernel_rfl) (fun _ _ _ h => h) rfl hHeld ?_
                    try simp only [Act.put, List.setIfInBounds_toArray, List.set_cons_zero, List.set_cons_succ]
                    refine anyH_skip 44 rfl (by kernel_rfl) (by kernel_rfl) (by kernel_rfl) (fun _ _ _ h => h) rfl hHeld ?_
                    try simp only [Act.put, List.setIfInBounds_toArray, List.set_cons_zero, List.set_cons_succ]
                    refine anyH_skip 45 rfl (by kernel_rfl) (by kernel_rfl) (by kernel_rfl) (fun _ _ _ h => h) rfl hHeld ?_
                    try simp only [Act.put, List.setIfInBounds_toArray, List.set_cons_zero, List.set_cons_succ]
                    refine anyH_skip 46 rfl (by kernel_rfl) (by kernel_rfl) (by kernel_rfl) (fun _ _ _ h => h) rfl hHeld ?_
                    try simp only [Act.put, List.setIfInBounds_toArray, List.set_cons_zero, List.set_cons_succ]
                    refine anyH_skip 47 rfl (by kernel_rfl) (by kernel_rfl) (by kernel_rfl) (fun _ _ _ h => h) rfl hHeld ?_
                    try simp only [Act.put, List.setIfInBounds_toArray, List.set_cons_zero, List.set_cons_succ]
                    refine anyH_skip 48 rfl (by kernel_rfl) (by kernel_rfl) (by kernel_rfl) (fun _ _ _ h => h) rfl hHeld ?_
                    try simp only [Act.put, List.setIfInBounds_toArray, List.set_cons_zero, List.set_cons_succ]
                    refine anyH_skip 49 rfl (by kernel_rfl) (by kernel_rfl) (by kernel_rfl) (fun _ _ _ h => h) rfl hHeld ?_
                    try simp only [Act.put, List.setIfInBounds_toArray, List.set_cons_zero, List.set_cons_succ]
                    refine anyH_skip 50 rfl (by kernel_rfl) (by kernel_rfl) (by kernel_rfl) (fun _ _ _ h => h) rfl hHeld ?_
                    try simp only [Act.put, List.setIfInBounds_toArray, List.set_cons_zero, List.set_cons_succ]
                    refine anyH_skip 51 rfl (by kernel_rfl) (by kernel_rfl) (by kernel_rfl) (fun _ _ _ h => h) rfl hHeld ?_
                    try simp only [Act.put, List.setIfInBounds_toArray, List.set_cons_zero, List.set_cons_succ]
                    refine anyH_skip 52 rfl (by kernel_rfl) (by kernel_rfl) (by kernel_rfl) (fun _ _ _ h => h) rfl hHeld ?_
                    try simp only [Act.put, List.setIfInBounds_toArray, List.set_cons_zero, List.set_cons_succ]
                    refine anyH_skip 53 rfl (by kernel_rfl) (by kernel_rfl) (by kernel_rfl) (fun _ _ _ h => h) rfl hHeld ?_
                    try simp only [Act.put, List.setIfInBounds_toArray, List.set_cons_zero, List.set_cons_succ]
                    refine anyH_take (v := ?_) 54 rfl (by kernel_rfl) (by kernel_rfl) (by kernel_rfl) (fun _ _ _ h => h) rfl ?_ hHeld ?_
                    rotate_left
                    · intro w' hSw
                      go_simp
                      try with_reducible rfl
                    try simp only [Act.put, List.setIfInBounds_toArray, List.set_cons_zero, List.set_cons_succ]
                    refine wpAnyH_done (by kernel_rfl) ?_ _
                    clear hHeld
                    go_wp2_with fail
                    go_meet
                    exact ⟨rfl, rfl, g5.drop 3⟩
                  | true =>
                    have g0 := g1.drew
                    refine wp_region_held_drew (S := fun w' => (w'.cell? ⟨w.heap.size, 0, none⟩ = some (.int .i64 p) ∧ w'.cell? ⟨w.heap.size, 1, none⟩ = some (.int .i64 n) ∧ w'.cell? ⟨w.heap.size, 2, none⟩ = some (t)) ∧ w'.cell? ⟨gh, i, none⟩ = some (.slice A1 n c1) ∧ w'.cell? ⟨gh, j, none⟩ = some (.slice A2 n c2) ∧ w'.cell? ⟨be, oe + i, none⟩ = some (.slice A3 n c3) ∧ w'.cell? ⟨be, oe + j, none⟩ = some (.slice A4 n c4) ∧ w'.cell? ⟨bf, of_ + i, none⟩ = some (.slice A5 n c5) ∧ w'.cell? ⟨bf, of_ + j, none⟩ = some (.slice A6 n c6)) (by kernel_rfl) (HF.out _ _ 0 g0 rfl).s (fun hHeld => ?_)
                    obtain ⟨v0, hv0, g8⟩ : ∃ v0, v0 = w6.drew ∧ St w v0 _ := ⟨_, rfl, g0⟩
                    rw [← hv0] at g0 hHeld ⊢
                    clear hv0 g8 g1
                    refine anyH_take (v := ?_) 0 rfl (by kernel_rfl) (by kernel_rfl) (by kernel_rfl) (fun _ _ _ h => h) rfl ?_ hHeld ?_
                    rotate_left
                    · intro w' hSw
                      go_simp
                      try with_reducible rfl
                    try simp only [Act.put, List.setIfInBounds_toArray, List.set_cons_zero, List.set_cons_succ]
                    refine anyH_take (v := ?_) 1 rfl (by kernel_rfl) (by kernel_rfl) (by kernel_rfl) (fun _ _ _ h => h) rfl ?_ hHeld ?_
                    rotate_left
                    · intro w' hSw
                      go_simp
                      try with_reducible rfl
                    try simp only [Act.put, List.setIfInBounds_toArray, List.set_cons_zero, List.set_cons_succ]
                    refine anyH_take (v := ?_) 2 rfl (by kernel_rfl) (by kernel_rfl) (by kernel_rfl) (fun _ _ _ h => h) rfl ?_ hHeld ?_
                    rotate_left
                    · intro w' hSw
                      go_simp
                      try with_reducible rfl
                    try simp only [Act.put, List.setIfInBounds_toArray, List.set_cons_zero, List.set_cons_succ]
                    refine anyH_take (v := ?_) 3 rfl (by kernel_rfl) (by kernel_rfl) (by kernel_rfl) (fun _ _ _ h => h) rfl ?_ hHeld ?_
                    rotate_left
                    · intro w' hSw
                      go_simp
                      try with_reducible rfl
                    try simp only [Act.put, List.setIfInBounds_toArray, List.set_cons_zero, List.set_cons_succ]
                    refine anyH_take (v := ?_) 4 rfl (by kernel_rfl) (by kernel_rfl) (by kernel_rfl) (fun _ _ _ h => h) rfl ?_ hHeld ?_
                    rotate_left
                    · intro w' hSw
                      go_simp
                      try with_reducible rfl
                    try simp only [Act.put, List.setIfInBounds_toArray, List.set_cons_zero, List.set_cons_succ]
                    refine anyH_take (v := ?_) 5 rfl (by kernel_rfl) (by kernel_rfl) (by kernel_rfl) (fun _ _ _ h => h) rfl ?_ hHeld ?_
                    rotate_left
                    · intro w' hSw
                      go_simp
                      try with_reducible rfl
                    try simp only [Act.put, List.setIfInBounds_toArray, List.set_cons_zero, List.set_cons_succ]
                    refine anyH_take (v := ?_) 6 rfl (by kernel_rfl) (by kernel_rfl) (by kernel_rfl) (fun _ _ _ h => h) rfl ?_ hHeld ?_
                    rotate_left
                    · intro w' hSw
                      go_simp
                      try with_reducible rfl
                    try simp only [Act.put, List.setIfInBounds_toArray, List.set_cons_zero, List.set_cons_succ]
                    refine anyH_take (v := ?_) 7 rfl (by kernel_rfl) (by kernel_rfl) (by kernel_rfl) (fun _ _ _ h => h) rfl ?_ hHeld ?_
                    rotate_left
                    · intro w' hSw
                      go_simp
                      try with_reducible rfl
                    try simp only [Act.put, List.setIfInBounds_toArray, List.set_cons_zero, List.set_cons_succ]
                    refine anyH_take (v := ?_) 8 rfl (by kernel_rfl) (by kernel_rfl) (by kernel_rfl) (fun _ _ _ h => h) rfl ?_ hHeld ?_
                    rotate_left
                    · intro w' hSw
                      go_simp
                      try with_reducible rfl
                    try simp only [Act.put, List.setIfInBounds_toArray, List.set_cons_zero, List.set_cons_succ]
                    refine wpAnyH_ready (rs := [9]) (by kernel_rfl) (by simp) ?_
                    refine ready_cons rfl (fun K hK => ?_) AllReadyH.nil
                    go_simp
                    refine (C1.out _ _ _ (HF.out _ _ 0 g0 rfl).t (HF.out _ _ 0 g0 rfl).hi (HF.out _ _ 0 g0 rfl).hj).mono ?_
                    rintro (e : Ending) w7 ⟨u7, rfl, ho7, hb7⟩
                    have g2 := g0.pushOwn hb7 ho7
                    show K _ _
                    refine hK.out _ _ ?_ (fun hHeld => ?_)
                    · exact (HF.out _ _ 1 g2 rfl).s
                    clear hK K
                    try simp only [Act.put, List.setIfInBounds_toArray, List.set_cons_zero, List.set_cons_succ]
                    refine wpAnyH_ready (rs := [10]) (by kernel_rfl) (by simp) ?_
                    refine ready_cons rfl (fun K hK => ?_) AllReadyH.nil
                    go_simp
                    refine (C2.out _ _ (g2.ownInts 0 rfl)).mono ?_
                    rintro (e : Ending) w8 ⟨rfl, rfl⟩
                    show K _ _
                    refine hK.out _ _ ?_ (fun hHeld => ?_)
                    · exact (HF.out _ _ 1 g2 rfl).s
                    clear hK K
                    try simp only [Act.put, List.setIfInBounds_toArray, List.set_cons_zero, List.set_cons_succ]
                    refine anyH_take (v := ?_) 11 rfl (by kernel_rfl) (by kernel_rfl) (by kernel_rfl) (fun _ _ _ h => h) rfl ?_ hHeld ?_
                    rotate_left
                    · intro w' hSw
                      go_simp
                      try with_reducible rfl
                    try simp only [Act.put, List.setIfInBounds_toArray, List.set_cons_zero, List.set_cons_succ]
                    refine anyH_take (v := ?_) 12 rfl (by kernel_rfl) (by kernel_rfl) (by kernel_rfl) (fun _ _ _ h => h) rfl ?_ hHeld ?_
                    rotate_left
                    · intro w' hSw
                      go_simp
                      try with_reducible rfl
                    try simp only [Act.put, List.setIfInBounds_toArray, List.set_cons_zero, List.set_cons_succ]
                    refine anyH_take (v := ?_) 13 rfl (by kernel_rfl) (by kernel_rfl) (by kernel_rfl) (fun _ _ _ h => h) rfl ?_ hHeld ?_
                    rotate_left
                    · intro w' hSw
                      go_simp
                      try with_reducible rfl
                    try simp only [Act.put, List.setIfInBounds_toArray, List.set_cons_zero, List.set_cons_succ]
                    refine anyH_take (v := ?_) 14 rfl (by kernel_rfl) (by kernel_rfl) (by kernel_rfl) (fun _ _ _ h => h) rfl ?_ hHeld ?_
                    rotate_left
                    · intro w' hSw
                      go_simp
                      try with_reducible rfl
                    try simp only [Act.put, List.setIfInBounds_toArray, List.set_cons_zero, List.set_cons_succ]
                    refine anyH_take (v := ?_) 15 rfl (by kernel_rfl) (by kernel_rfl) (by kernel_rfl) (fun _ _ _ h => h) rfl ?_ hHeld ?_
                    rotate_left
                    · intro w' hSw
                      go_simp
                      try with_reducible rfl
                    try simp only [Act.put, List.setIfInBounds_toArray, List.set_cons_zero, List.set_cons_succ]
                    refine anyH_take (v := ?_) 16 rfl (by kernel_rfl) (by kernel_rfl) (by kernel_rfl) (fun _ _ _ h => h) rfl ?_ hHeld ?_
                    rotate_left
                    · intro w' hSw
                      go_simp
                      try with_reducible rfl
                    try simp only [Act.put, List.setIfInBounds_toArray, List.set_cons_zero, List.set_cons_succ]
                    refine anyH_take (v := ?_) 17 rfl (by kernel_rfl) (by kernel_rfl) (by kernel_rfl) (fun _ _ _ h => h) rfl ?_ hHeld ?_
                    rotate_left
                    · intro w' hSw
                      go_simp
                      try with_reducible rfl
                    try simp only [Act.put, List.setIfInBounds_toArray, List.set_cons_zero, List.set_cons_succ]
                    refine anyH_take (v := ?_) 18 rfl (by kernel_rfl) (by kernel_rfl) (by kernel_rfl) (fun _ _ _ h => h) rfl ?_ hHeld ?_
                    rotate_left
                    · intro w' hSw
                      go_simp
                      try with_reducible rfl
                    try simp only [Act.put, List.setIfInBounds_toArray, List.set_cons_zero, List.set_cons_succ]
                    refine anyH_take (v := ?_) 19 rfl (by kernel_rfl) (by kernel_rfl) (by kernel_rfl) (fun _ _ _ h => h) rfl ?_ hHeld ?_
                    rotate_left
                    · intro w' hSw
                      go_simp
                      try with_reducible rfl
                    try simp only [Act.put, List.setIfInBounds_toArray, List.set_cons_zero, List.set_cons_succ]
                    refine anyH_take (v := ?_) 20 rfl (by kernel_rfl) (by kernel_rfl) (by kernel_rfl) (fun _ _ _ h => h) rfl ?_ hHeld ?_
                    rotate_left
                    · intro w' hSw
                      go_simp
                      try with_reducible rfl
                    try simp only [Act.put, List.setIfInBounds_toArray, List.set_cons_zero, List.set_cons_succ]
                    refine anyH_take (v := ?_) 21 rfl (by kernel_rfl) (by kernel_rfl) (by kernel_rfl) (fun _ _ _ h => h) rfl ?_ hHeld ?_
                    rotate_left
                    · intro w' hSw
                      go_simp
                      try with_reducible rfl
                    try simp only [Act.put, List.setIfInBounds_toArray, List.set_cons_zero, List.set_cons_succ]
                    refine anyH_take (v := ?_) 23 rfl (by kernel_rfl) (by kernel_rfl) (by kernel_rfl) (fun _ _ _ h => h) rfl ?_ hHeld ?_
                    rotate_left
                    · intro w' hSw
                      go_simp
                      try with_reducible rfl
                    try simp only [Act.put, List.setIfInBounds_toArray, List.set_cons_zero, List.set_cons_succ]
                    refine anyH_take (v := ?_) 24 rfl (by kernel_rfl) (by kernel_rfl) (by kernel_rfl) (fun _ _ _ h => h) rfl ?_ hHeld ?_
                    rotate_left
                    · intro w' hSw
                      go_simp
                      try with_reducible rfl
                    try simp only [Act.put, List.setIfInBounds_toArray, List.set_cons_zero, List.set_cons_succ]
                    refine anyH_take (v := ?_) 25 rfl (by kernel_rfl) (by kernel_rfl) (by kernel_rfl) (fun _ _ _ h => h) rfl ?_ hHeld ?_
                    rotate_left
                    · intro w' hSw
                      go_simp
                      try with_reducible rfl
                    try simp only [Act.put, List.setIfInBounds_toArray, List.set_cons_zero, List.set_cons_succ]
                    refine anyH_take (v := ?_) 26 rfl (by kernel_rfl) (by kernel_rfl) (by kernel_rfl) (fun _ _ _ h => h) rfl ?_ hHeld ?_
                    rotate_left
                    · intro w' hSw
                      go_simp
                      try with_reducible rfl
                    try simp only [Act.put, List.setIfInBounds_toArray, List.set_cons_zero, List.set_cons_succ]
                    refine anyH_take (v := ?_) 27 rfl (by kernel_rfl) (by kernel_rfl) (by kernel_rfl) (fun _ _ _ h => h) rfl ?_ hHeld ?_
                    rotate_left
                    · intro w' hSw
                      go_simp
                      try with_reducible rfl
                    try simp only [Act.put, List.setIfInBounds_toArray, List.set_cons_zero, List.set_cons_succ]
                    refine anyH_take (v := ?_) 28 rfl (by kernel_rfl) (by kernel_rfl) (by kernel_rfl) (fun _ _ _ h => h) rfl ?_ hHeld ?_
                    rotate_left
                    · intro w' hSw
                      go_simp
                      try with_reducible rfl
                    try simp only [Act.put, List.setIfInBounds_toArray, List.set_cons_zero, List.set_cons_succ]
                    refine wpAnyH_ready (rs := [22]) (by kernel_rfl) (by simp) ?_
                    refine ready_cons rfl (fun K hK => ?_) AllReadyH.nil
                    go_simp
                    refine (C5.out _ _ _ (HF.out _ _ 1 g2 rfl).t (HF.out _ _ 1 g2 rfl).hi (HF.out _ _ 1 g2 rfl).ej).mono ?_
                    rintro (e : Ending) w10 ⟨u10', rfl, ho10, hb10⟩
                    have g3 := g2.pushOwn hb10 ho10
                    show K _ _
                    refine hK.out _ _ ?_ (fun hHeld => ?_)
                    · exact (HF.out _ _ 2 g3 rfl).s
                    clear hK K
                    try simp only [Act.put, List.setIfInBounds_toArray, List.set_cons_zero, List.set_cons_succ]
                    refine wpAnyH_ready (rs := [29]) (by kernel_rfl) (by simp) ?_
                    refine ready_cons rfl (fun K hK => ?_) AllReadyH.nil
                    go_simp
                    refine (C6.out _ _ (g3.atL 4 rfl) (HF.out _ _ 2 g3 rfl).ej).mono ?_
                    rintro (e : Ending) w11 ⟨u11', rfl, ho11, hb11⟩
                    have g4 := g3.pushOwn hb11 ho11
                    show K _ _
                    refine hK.out _ _ ?_ (fun hHeld => ?_)
                    · exact (HF.out _ _ 3 g4 rfl).s
                    clear hK K
                    try simp only [Act.put, List.setIfInBounds_toArray, List.set_cons_zero, List.set_cons_succ]
                    refine wpAnyH_ready (rs := [30]) (by kernel_rfl) (by simp) ?_
                    refine ready_cons rfl (fun K hK => ?_) AllReadyH.nil
                    go_simp
                    refine (C7.out _ _ _ (g4.ownInts 1 rfl) (g4.ownInts 0 rfl)).mono ?_
                    rintro (e : Ending) w12 ⟨rfl, nd, rfl⟩
                    have g5 := g4.drewN nd
                    show K _ _
                    refine hK.out _ _ ?_ (fun hHeld => ?_)
                    · exact (HF.out _ _ 3 g5 rfl).s
                    clear hK K
                    try simp only [Act.put, List.setIfInBounds_toArray, List.set_cons_zero, List.set_cons_succ]
                    refine anyH_take (v := ?_) 31 rfl (by kernel_rfl) (by kernel_rfl) (by kernel_rfl) (fun _ _ _ h => h) rfl ?_ hHeld ?_
                    rotate_left
                    · intro w' hSw
                      go_simp
                      try with_reducible rfl
                    try simp only [Act.put, List.setIfInBounds_toArray, List.set_cons_zero, List.set_cons_succ]
                    refine anyH_take (v := ?_) 32 rfl (by kernel_rfl) (by kernel_rfl) (by kernel_rfl) (fun _ _ _ h => h) rfl ?_ hHeld ?_
                    rotate_left
                    · intro w' hSw
                      go_simp
                      try with_reducible rfl
                    try simp only [Act.put, List.setIfInBounds_toArray, List.set_cons_zero, List.set_cons_succ]
                    refine anyH_take (v := ?_) 33 rfl (by kernel_rfl) (by kernel_rfl) (by kernel_rfl) (fun _ _ _ h => h) rfl ?_ hHeld ?_
                    rotate_left
                    · intro w' hSw
                      go_simp
                      try with_reducible rfl
                    try simp only [Act.put, List.setIfInBounds_toArray, List.set_cons_zero, List.set_cons_succ]
                    refine anyH_take (v := ?_) 34 rfl (by kernel_rfl) (by kernel_rfl) (by kernel_rfl) (fun _ _ _ h => h) rfl ?_ hHeld ?_
                    rotate_left
                    · intro w' hSw
                      go_simp
                      try with_reducible rfl
                    try simp only [Act.put, List.setIfInBounds_toArray, List.set_cons_zero, List.set_cons_succ]
                    refine anyH_take (v := ?_) 35 rfl (by kernel_rfl) (by kernel_rfl) (by kernel_rfl) (fun _ _ _ h => h) rfl ?_ hHeld ?_
                    rotate_left
                    · intro w' hSw
                      go_simp
                      try with_reducible rfl
                    try simp only [Act.put, List.setIfInBounds_toArray, List.set_cons_zero, List.set_cons_succ]
                    refine anyH_take (v := ?_) 36 rfl (by kernel_rfl) (by kernel_rfl) (by kernel_rfl) (fun _ _ _ h => h) rfl ?_ hHeld ?_
                    rotate_left
                    · intro w' hSw
                      go_simp
                      try with_reducible rfl
                    try simp only [Act.put, List.setIfInBounds_toArray, List.set_cons_zero, List.set_cons_succ]
                    refine anyH_take (v := ?_) 37 rfl (by kernel_rfl) (by kernel_rfl) (by kernel_rfl) (fun _ _ _ h => h) rfl ?_ hHeld ?_
                    rotate_left
                    · intro w' hSw
                      go_simp
                      try with_reducible rfl
                    try simp only [Act.put, List.setIfInBounds_toArray, List.set_cons_zero, List.set_cons_succ]
                    refine anyH_take (v := ?_) 38 rfl (by kernel_rfl) (by kernel_rfl) (by kernel_rfl) (fun _ _ _ h => h) rfl ?_ hHeld ?_
                    rotate_left
                    · intro w' hSw
                      go_simp
                      try with_reducible rfl
                    try simp only [Act.put, List.setIfInBounds_toArray, List.set_cons_zero, List.set_cons_succ]
                    refine anyH_take (v := ?_) 39 rfl (by kernel_rfl) (by kernel_rfl) (by kernel_rfl) (fun _ _ _ h => h) rfl ?_ hHeld ?_
                    rotate_left
                    · intro w' hSw
                      go_simp
                      try with_reducible rfl
                    try simp only [Act.put, List.setIfInBounds_toArray, List.set_cons_zero, List.set_cons_succ]
                    refine anyH_take (v := ?_) 40 rfl (by kernel_rfl) (by kernel_rfl) (by kernel_rfl) (fun _ _ _ h => h) rfl ?_ hHeld ?_
                    rotate_left
                    · intro w' hSw
                      go_simp
                      try with_reducible rfl
                    try simp only [Act.put, List.setIfInBounds_toArray, List.set_cons_zero, List.set_cons_succ]
                    refine anyH_take (v := ?_) 41 rfl (by kernel_rfl) (by kernel_rfl) (by kernel_rfl) (fun _ _ _ h => h) rfl ?_ hHeld ?_
                    rotate_left
                    · intro w' hSw
                      go_simp
                      try with_reducible rfl
                    try simp only [Act.put, List.setIfInBounds_toArray, List.set_cons_zero, List.set_cons_succ]
                    refine anyH_take (v := ?_) 42 rfl (by kernel_rfl) (by kernel_rfl) (by kernel_rfl) (fun _ _ _ h => h) rfl ?_ hHeld ?_
                    rotate_left
                    · intro w' hSw
                      go_simp
                      try with_reducible rfl
                    try simp only [Act.put, List.setIfInBounds_toArray, List.set_cons_zero, List.set_cons_succ]
                    refine anyH_take (v := ?_) 44 rfl (by kernel_rfl) (by kernel_rfl) (by kernel_rfl) (fun _ _ _ h => h) rfl ?_ hHeld ?_
                    rotate_left
                    · intro w' hSw
                      go_simp
                      try with_reducible rfl
                    try simp only [Act.put, List.setIfInBounds_toArray, List.set_cons_zero, List.set_cons_succ]
                    refine anyH_take (v := ?_) 45 rfl (by kernel_rfl) (by kernel_rfl) (by kernel_rfl) (fun _ _ _ h => h) rfl ?_ hHeld ?_
                    rotate_left
                    · intro w' hSw
                      go_simp
                      try with_reducible rfl
                    try simp only [Act.put, List.setIfInBounds_toArray, List.set_cons_zero, List.set_cons_succ]
                    refine anyH_take (v := ?_) 46 rfl (by kernel_rfl) (by kernel_rfl) (by kernel_rfl) (fun _ _ _ h => h) rfl ?_ hHeld ?_
                    rotate_left
                    · intro w' hSw
                      go_simp
                      try with_reducible rfl
                    try simp only [Act.put, List.setIfInBounds_toArray, List.set_cons_zero, List.set_cons_succ]
                    refine anyH_take (v := ?_) 47 rfl (by kernel_rfl) (by kernel_rfl) (by kernel_rfl) (fun _ _ _ h => h) rfl ?_ hHeld ?_
                    rotate_left
                    · intro w' hSw
                      go_simp
                      try with_reducible rfl
                    try simp only [Act.put, List.setIfInBounds_toArray, List.set_cons_zero, List.set_cons_succ]
                    refine anyH_take (v := ?_) 48 rfl (by kernel_rfl) (by kernel_rfl) (by kernel_rfl) (fun _ _ _ h => h) rfl ?_ hHeld ?_
                    rotate_left
                    · intro w' hSw
                      go_simp
                      try with_reducible rfl
                    try simp only [Act.put, List.setIfInBounds_toArray, List.set_cons_zero, List.set_cons_succ]
                    refine anyH_take (v := ?_) 49 rfl (by kernel_rfl) (by kernel_rfl) (by kernel_rfl) (fun _ _ _ h => h) rfl ?_ hHeld ?_
                    rotate_left
                    · intro w' hSw
                      go_simp
                      try with_reducible rfl
                    try simp only [Act.put, List.setIfInBounds_toArray, List.set_cons_zero, List.set_cons_succ]
                    refine anyH_take (v := ?_) 50 rfl (by kernel_rfl) (by kernel_rfl) (by kernel_rfl) (fun _ _ _ h => h) rfl ?_ hHeld ?_
                    rotate_left
                    · intro w' hSw
                      go_simp
                      try with_reducible rfl
                    try simp only [Act.put, List.setIfInBounds_toArray, List.set_cons_zero, List.set_cons_succ]
                    refine wpAnyH_ready (rs := [43]) (by kernel_rfl) (by simp) ?_
                    refine ready_cons rfl (fun K hK => ?_) AllReadyH.nil
                    go_simp
                    refine (C8.out _ _ _ (HF.out _ _ 3 g5 rfl).t (HF.out _ _ 3 g5 rfl).hi (HF.out _ _ 3 g5 rfl).fj).mono ?_
                    rintro (e : Ending) w13 ⟨u13', rfl, ho13, hb13⟩
                    have g6 := g5.pushOwn hb13 ho13
                    show K _ _
                    refine hK.out _ _ ?_ (fun hHeld => ?_)
                    · exact (HF.out _ _ 4 g6 rfl).s
                    clear hK K
                    try simp only [Act.put, List.setIfInBounds_toArray, List.set_cons_zero, List.set_cons_succ]
                    refine wpAnyH_ready (rs := [51]) (by kernel_rfl) (by simp) ?_
                    refine ready_cons rfl (fun K hK => ?_) AllReadyH.nil
                    go_simp
                    refine (C9.out _ _ (g6.atL 6 rfl) (HF.out _ _ 4 g6 rfl).fj).mono ?_
                    rintro (e : Ending) w14 ⟨u14', rfl, ho14, hb14⟩
                    have g7 := g6.pushOwn hb14 ho14
                    show K _ _
                    refine hK.out _ _ ?_ (fun hHeld => ?_)
                    · exact (HF.out _ _ 5 g7 rfl).s
                    clear hK K
                    try simp only [Act.put, List.setIfInBounds_toArray, List.set_cons_zero, List.set_cons_succ]
                    refine wpAnyH_ready (rs := [52]) (by kernel_rfl) (by simp) ?_
                    refine ready_cons rfl (fun K hK => ?_) AllReadyH.nil
                    go_simp
                    refine (C10.out _ _ _ (g7.ownInts 1 rfl) (g7.ownInts 0 rfl)).mono ?_
                    rintro (e : Ending) w15 ⟨rfl, nd2, rfl⟩
                    have g8 := g7.drewN nd2
                    show K _ _
                    refine hK.out _ _ ?_ (fun hHeld => ?_)
                    · exact (HF.out _ _ 5 g8 rfl).s
                    clear hK K
                    try simp only [Act.put, List.setIfInBounds_toArray, List.set_cons_zero, List.set_cons_succ]
                    refine anyH_take (v := ?_) 53 rfl (by kernel_rfl) (by kernel_rfl) (by kernel_rfl) (fun _ _ _ h => h) rfl ?_ hHeld ?_
                    rotate_left
                    · intro w' hSw
                      go_simp
                      try with_reducible rfl
                    try simp only [Act.put, List.setIfInBounds_toArray, List.set_cons_zero, List.set_cons_succ]
                    refine anyH_take (v := ?_) 54 rfl (by kernel_rfl) (by kernel_rfl) (by kernel_rfl) (fun _ _ _ h => h) rfl ?_ hHeld ?_
                    rotate_left
                    · intro w' hSw
                      go_simp
                      try with_reducible rfl
                    try simp only [Act.put, List.setIfInBounds_toArray, List.set_cons_zero, List.set_cons_succ]
                    refine wpAnyH_done (by kernel_rfl) ?_ _
                    clear hHeld
                    go_wp2_with fail
                    go_meet
                    exact ⟨rfl, rfl, g8.drop 5⟩
              case rest =>
                clear g1
                obtain ⟨rfl, rfl, gB⟩ := hcut
                obtain ⟨pp, hpp⟩ : ∃ pp, pp = (p1 && (q1 && q2)) := ⟨_, rfl⟩
                rw [← hpp] at HXs
                rw [← hpp]
                clear hpp
                cases pp with
                | false =>
                  have HF9 := Lib.hid (show X = false by rw [HXs.out]; simp)
                  go_wp2
                  go_ret
                  exact ⟨ret_bool HF9.out.symm, gB.below⟩
                | true =>
                  by_cases hij : i = j
                  · subst hij
                    have HX2 := Lib.hid (show X = ((List.range' (i + 1) (m - (i + 1))).all (sP p n T m D E F i) && (List.range' (i + 1) (m - (i + 1))).all (fP p n T m D E F)) by rw [HXs.out]; simp)
                    go_wp2
                    go_roundw
                    case rel => first | exact ⟨i + 1, by go_num, by omega, gB, HX2⟩ | ((repeat apply Exists.intro); exact ⟨⟨i + 1, by go_num, by omega, gB, HX2⟩, rfl⟩)
                    case measure => simp [intOf]; omega
                  · have hne2 : ¬ (i : Int) = (j : Int) := by omega
                    have hne3 : ((i : Int) == (j : Int)) = false := by simpa using hne2
                    have hne4 : ((i : Int) != (j : Int)) = true := by simpa using hne2
                    have Hb9 := Lib.hid (show (i == j) = false by simpa using hij)
                    replace HXs : Hid (X = (((p2 && (s1 && s2)) && (List.range' (j + 1) (m - (j + 1))).all (sP p n T m D E F i)) && (List.range' (i + 1) (m - (i + 1))).all (fP p n T m D E F))) := by
                      show X = _
                      rw [HXs.out, Hb9.out]
                      simp
                    clear hij
                    go_upto_region 18 with fail
                    have g0 := gB.drew
                    refine wp_region_held_drew (S := fun w' => (w'.cell? ⟨w.heap.size, 0, none⟩ = some (.int .i64 p) ∧ w'.cell? ⟨w.heap.size, 1, none⟩ = some (.int .i64 n) ∧ w'.cell? ⟨w.heap.size, 2, none⟩ = some (t)) ∧ w'.cell? ⟨gh, i, none⟩ = some (.slice A1 n c1) ∧ w'.cell? ⟨gh, j, none⟩ = some (.slice A2 n c2) ∧ w'.cell? ⟨be, oe + i, none⟩ = some (.slice A3 n c3) ∧ w'.cell? ⟨be, oe + j, none⟩ = some (.slice A4 n c4) ∧ w'.cell? ⟨bf, of_ + i, none⟩ = some (.slice A5 n c5) ∧ w'.cell? ⟨bf, of_ + j, none⟩ = some (.slice A6 n c6)) (by kernel_rfl) (HF.out _ _ 0 g0 rfl).s (fun hHeld => ?_)
                    obtain ⟨v0, hv0, g8⟩ : ∃ v0, v0 = World.drew _ ∧ St w v0 _ := ⟨_, rfl, g0⟩
                    rw [← hv0] at g0 hHeld ⊢
                    clear hv0 g8 gB
                    refine anyH_take (v := ?_) 0 rfl (by kernel_rfl) (by kernel_rfl) (by kernel_rfl) (fun _ _ _ h => h) rfl ?_ hHeld ?_
                    rotate_left
                    · intro w' hSw
                      go_simp
                      try with_reducible rfl
                    try simp only [Act.put, List.setIfInBounds_toArray, List.set_cons_zero, List.set_cons_succ]
                    refine anyH_take (v := ?_) 1 rfl (by kernel_rfl) (by kernel_rfl) (by kernel_rfl) (fun _ _ _ h => h) rfl ?_ hHeld ?_
                    rotate_left
                    · intro w' hSw
                      go_simp
                      try with_reducible rfl
                    try simp only [Act.put, List.setIfInBounds_toArray, List.set_cons_zero, List.set_cons_succ]
                    refine anyH_take (v := ?_) 2 rfl (by kernel_rfl) (by kernel_rfl) (by kernel_rfl) (fun _ _ _ h => h) rfl ?_ hHeld ?_
                    rotate_left
                    · intro w' hSw
                      go_simp
                      try with_reducible rfl
                    try simp only [Act.put, List.setIfInBounds_toArray, List.set_cons_zero, List.set_cons_succ]
                    refine anyH_take (v := ?_) 3 rfl (by kernel_rfl) (by kernel_rfl) (by kernel_rfl) (fun _ _ _ h => h) rfl ?_ hHeld ?_
                    rotate_left
                    · intro w' hSw
                      go_simp
                      try with_reducible rfl
                    try simp only [Act.put, List.setIfInBounds_toArray, List.set_cons_zero, List.set_cons_succ]
                    refine anyH_take (v := ?_) 4 rfl (by kernel_rfl) (by kernel_rfl) (by kernel_rfl) (fun _ _ _ h => h) rfl ?_ hHeld ?_
                    rotate_left
                    · intro w' hSw
                      go_simp
                      try with_reducible rfl
                    try simp only [Act.put, List.setIfInBounds_toArray, List.set_cons_zero, List.set_cons_succ]
                    refine anyH_take (v := ?_) 5 rfl (by kernel_rfl) (by kernel_rfl) (by kernel_rfl) (fun _ _ _ h => h) rfl ?_ hHeld ?_
                    rotate_left
                    · intro w' hSw
                      go_simp
                      try with_reducible rfl
                    try simp only [Act.put, List.setIfInBounds_toArray, List.set_cons_zero, List.set_cons_succ]
                    refine anyH_take (v := ?_) 6 rfl (by kernel_rfl) (by kernel_rfl) (by kernel_rfl) (fun _ _ _ h => h) rfl ?_ hHeld ?_
                    rotate_left
                    · intro w' hSw
                      go_simp
                      try with_reducible rfl
                    try simp only [Act.put, List.setIfInBounds_toArray, List.set_cons_zero, List.set_cons_succ]
                    refine anyH_take (v := ?_) 7 rfl (by kernel_rfl) (by kernel_rfl) (by kernel_rfl) (fun _ _ _ h => h) rfl ?_ hHeld ?_
                    rotate_left
                    · intro w' hSw
                      go_simp
                      try with_reducible rfl
                    try simp only [Act.put, List.setIfInBounds_toArray, List.set_cons_zero, List.set_cons_succ]
                    refine anyH_take (v := ?_) 8 rfl (by kernel_rfl) (by kernel_rfl) (by kernel_rfl) (fun _ _ _ h => h) rfl ?_ hHeld ?_
                    rotate_left
                    · intro w' hSw
                      go_simp
                      try with_reducible rfl
                    try simp only [Act.put, List.setIfInBounds_toArray, List.set_cons_zero, List.set_cons_succ]
                    refine anyH_take (v := ?_) 9 rfl (by kernel_rfl) (by kernel_rfl) (by kernel_rfl) (fun _ _ _ h => h) rfl ?_ hHeld ?_
                    rotate_left
                    · intro w' hSw
                      go_simp
                      try with_reducible rfl
                    try simp only [Act.put, List.setIfInBounds_toArray, List.set_cons_zero, List.set_cons_succ]
                    refine wpAnyH_done (by kernel_rfl) ?_ _
                    clear hHeld
                    have gD := (g0.pushOld Hfj.out).pushOld Hej.out
                    clear g0
                    go_wp2
                    go_loopw [15, 16, 120] (fun v15 v16 v120 wr => ∃ (k : Nat) (b1 b2 : Bool), v120 = .int .i64 k ∧ k ≤ NN ∧ St w wr [anyIt b1 v15 (itB p n T (rowOf E i) (rowOf E j) k), anyIt b2 v16 (itB p n T (rowOf F i) (rowOf F j) k), rowsIt (.slice (some ⟨gh, 0, none⟩) m ch) us (HH p n T E F m), .box (w.heap.size + 1) [.int .i64 m, d], .box w.heap.size [.int .i64 p, .int .i64 n, t], .ro t T, .ro d D]) (fun _ _ v120 _ => NN - (intOf v120).toNat)
                    case atStart => exact ⟨0, false, false, rfl, by omega, by rw [HJ1.out, HJ2.out]; exact gD⟩
                    case round =>
                      clear gD
                      obtain ⟨k, b1, b2, rfl, a3, gC⟩ := hrel
                      by_cases hk : k < NN
                      · as_aux_lemma =>
                          have hkq : (k : Int) < 1 - q := by have := HNN.out; omega
                          have HC11 := Lib.hid (C11.out k)
                          have HC12 := Lib.hid (C12.out k)
                          rw [← HI1.out k] at HC11
                          rw [← HI2.out k] at HC12
                          go_upto_region 21 with fail
                          have g0 := gC.drew
                          refine wp_region_held_drew (S := fun w' => (w'.cell? ⟨w.heap.size, 0, none⟩ = some (.int .i64 p) ∧ w'.cell? ⟨w.heap.size, 1, none⟩ = some (.int .i64 n) ∧ w'.cell? ⟨w.heap.size, 2, none⟩ = some (t)) ∧ w'.cell? ⟨gh, i, none⟩ = some (.slice A1 n c1) ∧ w'.cell? ⟨gh, j, none⟩ = some (.slice A2 n c2) ∧ w'.cell? ⟨be, oe + i, none⟩ = some (.slice A3 n c3) ∧ w'.cell? ⟨be, oe + j, none⟩ = some (.slice A4 n c4) ∧ w'.cell? ⟨bf, of_ + i, none⟩ = some (.slice A5 n c5) ∧ w'.cell? ⟨bf, of_ + j, none⟩ = some (.slice A6 n c6)) (by kernel_rfl) (HF.out _ _ 2 g0 rfl).s (fun hHeld => ?_)
                          obtain ⟨v0, hv0, g8⟩ : ∃ v0, v0 = World.drew _ ∧ St w v0 _ := ⟨_, rfl, g0⟩
                          rw [← hv0] at g0 hHeld ⊢
                          clear hv0 g8 gC
                          refine anyH_take (v := ?_) 0 rfl (by kernel_rfl) (by kernel_rfl) (by kernel_rfl) (fun _ _ _ h => h) rfl ?_ hHeld ?_
                          rotate_left
                          · intro w' hSw
                            go_simp
                            try with_reducible rfl
                          try simp only [Act.put, List.setIfInBounds_toArray, List.set_cons_zero, List.set_cons_succ]
                          refine anyH_take (v := ?_) 1 rfl (by kernel_rfl) (by kernel_rfl) (by kernel_rfl) (fun _ _ _ h => h) rfl ?_ hHeld ?_
                          rotate_left
                          · intro w' hSw
                            go_simp
                            try with_reducible rfl
                          try simp only [Act.put, List.setIfInBounds_toArray, List.set_cons_zero, List.set_cons_succ]
                          refine anyH_take (v := ?_) 2 rfl (by kernel_rfl) (by kernel_rfl) (by kernel_rfl) (fun _ _ _ h => h) rfl ?_ hHeld ?_
                          rotate_left
                          · intro w' hSw
                            go_simp
                            try with_reducible rfl
                          try simp only [Act.put, List.setIfInBounds_toArray, List.set_cons_zero, List.set_cons_succ]
                          refine anyH_take (v := ?_) 3 rfl (by kernel_rfl) (by kernel_rfl) (by kernel_rfl) (fun _ _ _ h => h) rfl ?_ hHeld ?_
                          rotate_left
                          · intro w' hSw
                            go_simp
                            try with_reducible rfl
                          try simp only [Act.put, List.setIfInBounds_toArray, List.set_cons_zero, List.set_cons_succ]
                          refine anyH_take (v := ?_) 4 rfl (by kernel_rfl) (by kernel_rfl) (by kernel_rfl) (fun _ _ _ h => h) rfl ?_ hHeld ?_
                          rotate_left
                          · intro w' hSw
                            go_simp
                            try with_reducible rfl
                          try simp only [Act.put, List.setIfInBounds_toArray, List.set_cons_zero, List.set_cons_succ]
                          refine anyH_take (v := ?_) 5 rfl (by kernel_rfl) (by kernel_rfl) (by kernel_rfl) (fun _ _ _ h => h) rfl ?_ hHeld ?_
                          rotate_left
                          · intro w' hSw
                            go_simp
                            try with_reducible rfl
                          try simp only [Act.put, List.setIfInBounds_toArray, List.set_cons_zero, List.set_cons_succ]
                          refine anyH_take (v := ?_) 7 rfl (by kernel_rfl) (by kernel_rfl) (by kernel_rfl) (fun _ _ _ h => h) rfl ?_ hHeld ?_
                          rotate_left
                          · intro w' hSw
                            go_simp
                            try with_reducible rfl
                          try simp only [Act.put, List.setIfInBounds_toArray, List.set_cons_zero, List.set_cons_succ]
                          refine anyH_take (v := ?_) 8 rfl (by kernel_rfl) (by kernel_rfl) (by kernel_rfl) (fun _ _ _ h => h) rfl ?_ hHeld ?_
                          rotate_left
                          · intro w' hSw
                            go_simp
                            try with_reducible rfl
                          try simp only [Act.put, List.setIfInBounds_toArray, List.set_cons_zero, List.set_cons_succ]
                          refine anyH_take (v := ?_) 9 rfl (by kernel_rfl) (by kernel_rfl) (by kernel_rfl) (fun _ _ _ h => h) rfl ?_ hHeld ?_
                          rotate_left
                          · intro w' hSw
                            go_simp
                            try with_reducible rfl
                          try simp only [Act.put, List.setIfInBounds_toArray, List.set_cons_zero, List.set_cons_succ]
                          refine anyH_take (v := ?_) 10 rfl (by kernel_rfl) (by kernel_rfl) (by kernel_rfl) (fun _ _ _ h => h) rfl ?_ hHeld ?_
                          rotate_left
                          · intro w' hSw
                            go_simp
                            try with_reducible rfl
                          try simp only [Act.put, List.setIfInBounds_toArray, List.set_cons_zero, List.set_cons_succ]
                          refine anyH_take (v := ?_) 11 rfl (by kernel_rfl) (by kernel_rfl) (by kernel_rfl) (fun _ _ _ h => h) rfl ?_ hHeld ?_
                          rotate_left
                          · intro w' hSw
                            go_simp
                            try with_reducible rfl
                          try simp only [Act.put, List.setIfInBounds_toArray, List.set_cons_zero, List.set_cons_succ]
                          refine anyH_take (v := ?_) 12 rfl (by kernel_rfl) (by kernel_rfl) (by kernel_rfl) (fun _ _ _ h => h) rfl ?_ hHeld ?_
                          rotate_left
                          · intro w' hSw
                            go_simp
                            try with_reducible rfl
                          try simp only [Act.put, List.setIfInBounds_toArray, List.set_cons_zero, List.set_cons_succ]
                          refine wpAnyH_ready (rs := [6]) (by kernel_rfl) (by simp) ?_
                          refine ready_cons rfl (fun K hK => ?_) AllReadyH.nil
                          go_simp
                          refine (HC11.out _ _ _ (HF.out _ _ 2 g0 rfl).t (HF.out _ _ 2 g0 rfl).ei (g0.anyInts 0 rfl)).mono ?_
                          rintro (e : Ending) w7 ⟨u7, rfl, ho7, hb7⟩
                          have g2 := g0.pushOwn hb7 ho7
                          show K _ _
                          refine hK.out _ _ ?_ (fun hHeld => ?_)
                          · exact (HF.out _ _ 3 g2 rfl).s
                          clear hK K
                          try simp only [Act.put, List.setIfInBounds_toArray, List.set_cons_zero, List.set_cons_succ]
                          refine wpAnyH_ready (rs := [13]) (by kernel_rfl) (by simp) ?_
                          refine ready_cons rfl (fun K hK => ?_) AllReadyH.nil
                          go_simp
                          refine (HC12.out _ _ _ (HF.out _ _ 3 g2 rfl).t (HF.out _ _ 3 g2 rfl).fi (g2.anyInts 2 rfl)).mono ?_
                          rintro (e : Ending) w8 ⟨u8', rfl, ho8, hb8⟩
                          have g3 := g2.pushOwn hb8 ho8
                          show K _ _
                          refine hK.out _ _ ?_ (fun hHeld => ?_)
                          · exact (HF.out _ _ 4 g3 rfl).s
                          clear hK K
                          try simp only [Act.put, List.setIfInBounds_toArray, List.set_cons_zero, List.set_cons_succ]
                          refine anyH_take (v := ?_) 14 rfl (by kernel_rfl) (by kernel_rfl) (by kernel_rfl) (fun _ _ _ h => h) rfl ?_ hHeld ?_
                          rotate_left
                          · intro w' hSw
                            go_simp
                            try with_reducible rfl
                          try simp only [Act.put, List.setIfInBounds_toArray, List.set_cons_zero, List.set_cons_succ]
                          refine anyH_take (v := ?_) 15 rfl (by kernel_rfl) (by kernel_rfl) (by kernel_rfl) (fun _ _ _ h => h) rfl ?_ hHeld ?_
                          rotate_left
                          · intro w' hSw
                            go_simp
                            try with_reducible rfl
                          try simp only [Act.put, List.setIfInBounds_toArray, List.set_cons_zero, List.set_cons_succ]
                          refine wpAnyH_done (by kernel_rfl) ?_ _
                          clear hHeld
                          have g6 := g3.re [1, 0, 4, 5, 6, 7, 8] (L' := [anyIt true u7 _, anyIt true u8' _, _, _, _, _, _]) (by decide) (fun j => by rcases j with _ | _ | _ | _ | _ | _ | _ | j <;> rfl)
                          clear g0 g2 g3 ho7 hb7 ho8 hb8
                          go_wp2
                          go_roundw
                          case rel => first | exact ⟨k + 1, true, true, by go_num, by omega, g6⟩ | ((repeat apply Exists.intro); exact ⟨⟨k + 1, true, true, by go_num, by omega, g6⟩, rfl⟩)
                          case measure => simp [intOf]; omega
                      · obtain rfl : NN = k := by omega
                        have hkq : ¬ (NN : Int) < 1 - q := by have := HNN.out; omega
                        go_upto_region 23 with fail
                        go_cut [45, 158] from 45 to 159 (fun v45 v158 wx => v45 = .int .i64 j ∧ v158 = .bool (!(p2 && (s1 && s2))) ∧ St w wx [rowsIt (.slice (some ⟨gh, 0, none⟩) m ch) us (HH p n T E F m), .box (w.heap.size + 1) [.int .i64 m, d], .box w.heap.size [.int .i64 p, .int .i64 n, t], .ro t T, .ro d D])
                        case first =>
                          as_aux_lemma =>
                            cases p2 with
                            | false =>
                              have g0 := gC.drew
                              refine wp_region_held_drew (S := fun w' => (w'.cell? ⟨w.heap.size, 0, none⟩ = some (.int .i64 p) ∧ w'.cell? ⟨w.heap.size, 1, none⟩ = some (.int .i64 n) ∧ w'.cell? ⟨w.heap.size, 2, none⟩ = some (t)) ∧ w'.cell? ⟨gh, i, none⟩ = some (.slice A1 n c1) ∧ w'.cell? ⟨gh, j, none⟩ = some (.slice A2 n c2) ∧ w'.cell? ⟨be, oe + i, none⟩ = some (.slice A3 n c3) ∧ w'.cell? ⟨be, oe + j, none⟩ = some (.slice A4 n c4) ∧ w'.cell? ⟨bf, of_ + i, none⟩ = some (.slice A5 n c5) ∧ w'.cell? ⟨bf, of_ + j, none⟩ = some (.slice A6 n c6)) (by kernel_rfl) (HF.out _ _ 2 g0 rfl).s (fun hHeld => ?_)
                              obtain ⟨v0, hv0, g8⟩ : ∃ v0, v0 = wr.drew ∧ St w v0 _ := ⟨_, rfl, g0⟩
                              rw [← hv0] at g0 hHeld ⊢
                              clear hv0 g8 gC
                              refine anyH_take (v := ?_) 0 rfl (by kernel_rfl) (by kernel_rfl) (by kernel_rfl) (fun _ _ _ h => h) rfl ?_ hHeld ?_
                              rotate_left
                              · intro w' hSw
                                go_simp
                                try with_reducible rfl
                              try simp only [Act.put, List.setIfInBounds_toArray, List.set_cons_zero, List.set_cons_succ]
                              refine anyH_take (v := ?_) 1 rfl (by kernel_rfl) (by kernel_rfl) (by kernel_rfl) (fun _ _ _ h => h) rfl ?_ hHeld ?_
                              rotate_left
                              · intro w' hSw
                                go_simp
                                try with_reducible rfl
                              try simp only [Act.put, List.setIfInBounds_toArray, List.set_cons_zero, List.set_cons_succ]
                              refine anyH_take (v := ?_) 2 rfl (by kernel_rfl) (by kernel_rfl) (by kernel_rfl) (fun _ _ _ h => h) rfl ?_ hHeld ?_
                              rotate_left
                              · intro w' hSw
                                go_simp
                                try with_reducible rfl
                              try simp only [Act.put, List.setIfInBounds_toArray, List.set_cons_zero, List.set_cons_succ]
                              refine anyH_take (v := ?_) 3 rfl (by kernel_rfl) (by kernel_rfl) (by kernel_rfl) (fun _ _ _ h => h) rfl ?_ hHeld ?_
                              rotate_left
                              · intro w' hSw
                                go_simp
                                try with_reducible rfl
                              try simp only [Act.put, List.setIfInBounds_toArray, List.set_cons_zero, List.set_cons_succ]
                              refine anyH_take (v := ?_) 4 rfl (by kernel_rfl) (by kernel_rfl) (by kernel_rfl) (fun _ _ _ h => h) rfl ?_ hHeld ?_
                              rotate_left
                              · intro w' hSw
                                go_simp
                                try with_reducible rfl
                              try simp only [Act.put, List.setIfInBounds_toArray, List.set_cons_zero, List.set_cons_succ]
                              refine anyH_take (v := ?_) 5 rfl (by kernel_rfl) (by kernel_rfl) (by kernel_rfl) (fun _ _ _ h => h) rfl ?_ hHeld ?_
                              rotate_left
                              · intro w' hSw
                                go_simp
                                try with_reducible rfl
                              try simp only [Act.put, List.setIfInBounds_toArray, List.set_cons_zero, List.set_cons_succ]
                              refine anyH_take (v := ?_) 6 rfl (by kernel_rfl) (by kernel_rfl) (by kernel_rfl) (fun _ _ _ h => h) rfl ?_ hHeld ?_
                              rotate_left
                              · intro w' hSw
                                go_simp
                                try with_reducible rfl
                              try simp only [Act.put, List.setIfInBounds_toArray, List.set_cons_zero, List.set_cons_succ]
                              refine anyH_take (v := ?_) 7 rfl (by kernel_rfl) (by kernel_rfl) (by kernel_rfl) (fun _ _ _ h => h) rfl ?_ hHeld ?_
                              rotate_left
                              · intro w' hSw
                                go_simp
                                try with_reducible rfl
                              try simp only [Act.put, List.setIfInBounds_toArray, List.set_cons_zero, List.set_cons_succ]
                              refine anyH_take (v := ?_) 8 rfl (by kernel_rfl) (by kernel_rfl) (by kernel_rfl) (fun _ _ _ h => h) rfl ?_ hHeld ?_
                              rotate_left
                              · intro w' hSw
                                go_simp
                                try with_reducible rfl
                              try simp only [Act.put, List.setIfInBounds_toArray, List.set_cons_zero, List.set_cons_succ]
                              refine wpAnyH_ready (rs := [9]) (by kernel_rfl) (by simp) ?_
                              refine ready_cons rfl (fun K hK => ?_) AllReadyH.nil
                              go_simp
                              refine (C3.out _ _ _ (HF.out _ _ 2 g0 rfl).t (HF.out _ _ 2 g0 rfl).ei (HF.out _ _ 2 g0 rfl).fj).mono ?_
                              rintro (e : Ending) w7 ⟨u7, rfl, ho7, hb7⟩
                              have g2 := g0.pushOwn hb7 ho7
                              show K _ _
                              refine hK.out _ _ ?_ (fun hHeld => ?_)
                              · exact (HF.out _ _ 3 g2 rfl).s
                              clear hK K
                              try simp only [Act.put, List.setIfInBounds_toArray, List.set_cons_zero, List.set_cons_succ]
                              refine wpAnyH_ready (rs := [10]) (by kernel_rfl) (by simp) ?_
                              refine ready_cons rfl (fun K hK => ?_) AllReadyH.nil
                              go_simp
                              refine (C4.out _ _ (g2.ownInts 0 rfl)).mono ?_
                              rintro (e : Ending) w8 ⟨rfl, rfl⟩
                              show K _ _
                              refine hK.out _ _ ?_ (fun hHeld => ?_)
                              · exact (HF.out _ _ 3 g2 rfl).s
                              clear hK K
                              try simp only [Act.put, List.setIfInBounds_toArray, List.set_cons_zero, List.set_cons_succ]
                              refine anyH_take (v := ?_) 11 rfl (by kernel_rfl) (by kernel_rfl) (by kernel_rfl) (fun _ _ _ h => h) rfl ?_ hHeld ?_
                              rotate_left
                              · intro w' hSw
                                go_simp
                                try with_reducible rfl
                              try simp only [Act.put, List.setIfInBounds_toArray, List.set_cons_zero, List.set_cons_succ]
                              refine anyH_take (v := ?_) 12 rfl (by kernel_rfl) (by kernel_rfl) (by kernel_rfl) (fun _ _ _ h => h) rfl ?_ hHeld ?_
                              rotate_left
                              · intro w' hSw
                                go_simp
                                try with_reducible rfl
                              try simp only [Act.put, List.setIfInBounds_toArray, List.set_cons_zero, List.set_cons_succ]
                              refine anyH_skip 13 rfl (by kernel_rfl) (by kernel_rfl) (by kernel_rfl) (fun _ _ _ h => h) rfl hHeld ?_
                              try simp only [Act.put, List.setIfInBounds_toArray, List.set_cons_zero, List.set_cons_succ]
                              refine anyH_skip 14 rfl (by kernel_rfl) (by kernel_rfl) (by kernel_rfl) (fun _ _ _ h => h) rfl hHeld ?_
                              try simp only [Act.put, List.setIfInBounds_toArray, List.set_cons_zero, List.set_cons_succ]
                              refine anyH_skip 15 rfl (by kernel_rfl) (by kernel_rfl) (by kernel_rfl) (fun _ _ _ h => h) rfl hHeld ?_
                              try simp only [Act.put, List.setIfInBounds_toArray, List.set_cons_zero, List.set_cons_succ]
                              refine anyH_take (v := ?_) 16 rfl (by kernel_rfl) (by kernel_rfl) (by kernel_rfl) (fun _ _ _ h => h) rfl ?_ hHeld ?_
                              rotate_left
                              · intro w' hSw
                                go_simp
                                try with_reducible rfl
                              try simp only [Act.put, List.setIfInBounds_toArray, List.set_cons_zero, List.set_cons_succ]
                              refine anyH_take (v := ?_) 17 rfl (by kernel_rfl) (by kernel_rfl) (by kernel_rfl) (fun _ _ _ h => h) rfl ?_ hHeld ?_
                              rotate_left
                              · intro w' hSw
                                go_simp
                                try with_reducible rfl
                              try simp only [Act.put, List.setIfInBounds_toArray, List.set_cons_zero, List.set_cons_succ]
                              refine anyH_skip 18 rfl (by kernel_rfl) (by kernel_rfl) (by kernel_rfl) (fun _ _ _ h => h) rfl hHeld ?_
                              try simp only [Act.put, List.setIfInBounds_toArray, List.set_cons_zero, List.set_cons_succ]
                              refine anyH_skip 19 rfl (by kernel_rfl) (by kernel_rfl) (by kernel_rfl) (fun _ _ _ h => h) rfl hHeld ?_
                              try simp only [Act.put, List.setIfInBounds_toArray, List.set_cons_zero, List.set_cons_succ]
                              refine anyH_skip 20 rfl (by kernel_rfl) (by kernel_rfl) (by kernel_rfl) (fun _ _ _ h => h) rfl hHeld ?_
                              try simp only [Act.put, List.setIfInBounds_toArray, List.set_cons_zero, List.set_cons_succ]
                              refine anyH_take (v := ?_) 21 rfl (by kernel_rfl) (by kernel_rfl) (by kernel_rfl) (fun _ _ _ h => h) rfl ?_ hHeld ?_
                              rotate_left
                              · intro w' hSw
                                go_simp
                                try with_reducible rfl
                              try simp only [Act.put, List.setIfInBounds_toArray, List.set_cons_zero, List.set_cons_succ]
                              refine wpAnyH_done (by kernel_rfl) ?_ _
                              clear hHeld
                              go_wp2_with fail
                              go_meet
                              exact ⟨rfl, rfl, g2.drop 3⟩
                            | true =>
                            cases s1 with
                            | false =>
                              have g0 := gC.drew
                              refine wp_region_held_drew (S := fun w' => (w'.cell? ⟨w.heap.size, 0, none⟩ = some (.int .i64 p) ∧ w'.cell? ⟨w.heap.size, 1, none⟩ = some (.int .i64 n) ∧ w'.cell? ⟨w.heap.size, 2, none⟩ = some (t)) ∧ w'.cell? ⟨gh, i, none⟩ = some (.slice A1 n c1) ∧ w'.cell? ⟨gh, j, none⟩ = some (.slice A2 n c2) ∧ w'.cell? ⟨be, oe + i, none⟩ = some (.slice A3 n c3) ∧ w'.cell? ⟨be, oe + j, none⟩ = some (.slice A4 n c4) ∧ w'.cell? ⟨bf, of_ + i, none⟩ = some (.slice A5 n c5) ∧ w'.cell? ⟨bf, of_ + j, none⟩ = some (.slice A6 n c6)) (by kernel_rfl) (HF.out _ _ 2 g0 rfl).s (fun hHeld => ?_)
                              obtain ⟨v0, hv0, g8⟩ : ∃ v0, v0 = wr.drew ∧ St w v0 _ := ⟨_, rfl, g0⟩
                              rw [← hv0] at g0 hHeld ⊢
                              clear hv0 g8 gC
                              refine anyH_take (v := ?_) 0 rfl (by kernel_rfl) (by kernel_rfl) (by kernel_rfl) (fun _ _ _ h => h) rfl ?_ hHeld ?_
                              rotate_left
                              · intro w' hSw
                                go_simp
                                try with_reducible rfl
                              try simp only [Act.put, List.setIfInBounds_toArray, List.set_cons_zero, List.set_cons_succ]
                              refine anyH_take (v := ?_) 1 rfl (by kernel_rfl) (by kernel_rfl) (by kernel_rfl) (fun _ _ _ h => h) rfl ?_ hHeld ?_
                              rotate_left
                              · intro w' hSw
                                go_simp
                                try with_reducible rfl
                              try simp only [Act.put, List.setIfInBounds_toArray, List.set_cons_zero, List.set_cons_succ]
                              refine anyH_take (v := ?_) 2 rfl (by kernel_rfl) (by kernel_rfl) (by kernel_rfl) (fun _ _ _ h => h) rfl ?_ hHeld ?_
                              rotate_left
                              · intro w' hSw
                                go_simp
                                try with_reducible rfl
                              try simp only [Act.put, List.setIfInBounds_toArray, List.set_cons_zero, List.set_cons_succ]
                              refine anyH_take (v := ?_) 3 rfl (by kernel_rfl) (by kernel_rfl) (by kernel_rfl) (fun _ _ _ h => h) rfl ?_ hHeld ?_
                              rotate_left
                              · intro w' hSw
                                go_simp
                                try with_reducible rfl
                              try simp only [Act.put, List.setIfInBounds_toArray, List.set_cons_zero, List.set_cons_succ]
                              refine anyH_take (v := ?_) 4 rfl (by kernel_rfl) (by kernel_rfl) (by kernel_rfl) (fun _ _ _ h => h) rfl ?_ hHeld ?_
                              rotate_left
                              · intro w' hSw
                                go_simp
                                try with_reducible rfl
                              try simp only [Act.put, List.setIfInBounds_toArray, List.set_cons_zero, List.set_cons_succ]
                              refine anyH_take (v := ?_) 5 rfl (by kernel_rfl) (by kernel_rfl) (by kernel_rfl) (fun _ _ _ h => h) rfl ?_ hHeld ?_
                              rotate_left
                              · intro w' hSw
                                go_simp
                                try with_reducible rfl
                              try simp only [Act.put, List.setIfInBounds_toArray, List.set_cons_zero, List.set_cons_succ]
                              refine anyH_take (v := ?_) 6 rfl (by kernel_rfl) (by kernel_rfl) (by kernel_rfl) (fun _ _ _ h => h) rfl ?_ hHeld ?_
                              rotate_left
                              · intro w' hSw
                                go_simp
                                try with_reducible rfl
                              try simp only [Act.put, List.setIfInBounds_toArray, List.set_cons_zero, List.set_cons_succ]
                              refine anyH_take (v := ?_) 7 rfl (by kernel_rfl) (by kernel_rfl) (by kernel_rfl) (fun _ _ _ h => h) rfl ?_ hHeld ?_
                              rotate_left
                              · intro w' hSw
                                go_simp
                                try with_reducible rfl
                              try simp only [Act.put, List.setIfInBounds_toArray, List.set_cons_zero, List.set_cons_succ]
                              refine anyH_take (v := ?_) 8 rfl (by kernel_rfl) (by kernel_rfl) (by kernel_rfl) (fun _ _ _ h => h) rfl ?_ hHeld ?_
                              rotate_left
                              · intro w' hSw
                                go_simp
                                try with_reducible rfl
                              try simp only [Act.put, List.setIfInBounds_toArray, List.set_cons_zero, List.set_cons_succ]
                              refine wpAnyH_ready (rs := [9]) (by kernel_rfl) (by simp) ?_
                              refine ready_cons rfl (fun K hK => ?_) AllReadyH.nil
                              go_simp
                              refine (C3.out _ _ _ (HF.out _ _ 2 g0 rfl).t (HF.out _ _ 2 g0 rfl).ei (HF.out _ _ 2 g0 rfl).fj).mono ?_
                              rintro (e : Ending) w7 ⟨u7, rfl, ho7, hb7⟩
                              have g2 := g0.pushOwn hb7 ho7
                              show K _ _
                              refine hK.out _ _ ?_ (fun hHeld => ?_)
                              · exact (HF.out _ _ 3 g2 rfl).s
                              clear hK K
                              try simp only [Act.put, List.setIfInBounds_toArray, List.set_cons_zero, List.set_cons_succ]
                              refine wpAnyH_ready (rs := [10]) (by kernel_rfl) (by simp) ?_
                              refine ready_cons rfl (fun K hK => ?_) AllReadyH.nil
                              go_simp
                              refine (C4.out _ _ (g2.ownInts 0 rfl)).mono ?_
                              rintro (e : Ending) w8 ⟨rfl, rfl⟩
                              show K _ _
                              refine hK.out _ _ ?_ (fun hHeld => ?_)
                              · exact (HF.out _ _ 3 g2 rfl).s
                              clear hK K
                              try simp only [Act.put, List.setIfInBounds_toArray, List.set_cons_zero, List.set_cons_succ]
                              refine anyH_take (v := ?_) 11 rfl (by kernel_rfl) (by kernel_rfl) (by kernel_rfl) (fun _ _ _ h => h) rfl ?_ hHeld ?_
                              rotate_left
                              · intro w' hSw
                                go_simp
                                try with_reducible rfl
                              try simp only [Act.put, List.setIfInBounds_toArray, List.set_cons_zero, List.set_cons_succ]
                              refine anyH_take (v := ?_) 12 rfl (by kernel_rfl) (by kernel_rfl) (by kernel_rfl) (fun _ _ _ h => h) rfl ?_ hHeld ?_
                              rotate_left
                              · intro w' hSw
                                go_simp
                                try with_reducible rfl
                              try simp only [Act.put, List.setIfInBounds_toArray, List.set_cons_zero, List.set_cons_succ]
                              refine anyH_take (v := ?_) 13 rfl (by kernel_rfl) (by kernel_rfl) (by kernel_rfl) (fun _ _ _ h => h) rfl ?_ hHeld ?_
                              rotate_left
                              · intro w' hSw
                                go_simp
                                try with_reducible rfl
                              try simp only [Act.put, List.setIfInBounds_toArray, List.set_cons_zero, List.set_cons_succ]
                              refine wpAnyH_ready (rs := [14]) (by kernel_rfl) (by simp) ?_
                              refine ready_cons rfl (fun K hK => ?_) AllReadyH.nil
                              go_simp
                              refine (C13.out _ _ (g2.anyInts 1 rfl)).mono ?_
                              rintro (e : Ending) w9 ⟨rfl, rfl⟩
                              show K _ _
                              refine hK.out _ _ ?_ (fun hHeld => ?_)
                              · exact (HF.out _ _ 3 g2 rfl).s
                              clear hK K
                              try simp only [Act.put, List.setIfInBounds_toArray, List.set_cons_zero, List.set_cons_succ]
                              refine anyH_take (v := ?_) 15 rfl (by kernel_rfl) (by kernel_rfl) (by kernel_rfl) (fun _ _ _ h => h) rfl ?_ hHeld ?_
                              rotate_left
                              · intro w' hSw
                                go_simp
                                try with_reducible rfl
                              try simp only [Act.put, List.setIfInBounds_toArray, List.set_cons_zero, List.set_cons_succ]
                              refine anyH_take (v := ?_) 16 rfl (by kernel_rfl) (by kernel_rfl) (by kernel_rfl) (fun _ _ _ h => h) rfl ?_ hHeld ?_
                              rotate_left
                              · intro w' hSw
                                go_simp
                                try with_reducible rfl
                              try simp only [Act.put, List.setIfInBounds_toArray, List.set_cons_zero, List.set_cons_succ]
                              refine anyH_take (v := ?_) 17 rfl (by kernel_rfl) (by kernel_rfl) (by kernel_rfl) (fun _ _ _ h => h) rfl ?_ hHeld ?_
                              rotate_left
                              · intro w' hSw
                                go_simp
                                try with_reducible rfl
                              try simp only [Act.put, List.setIfInBounds_toArray, List.set_cons_zero, List.set_cons_succ]
                              refine anyH_skip 18 rfl (by kernel_rfl) (by kernel_rfl) (by kernel_rfl) (fun _ _ _ h => h) rfl hHeld ?_
                              try simp only [Act.put, List.setIfInBounds_toArray, List.set_cons_zero, List.set_cons_succ]
                              refine anyH_skip 19 rfl (by kernel_rfl) (by kernel_rfl) (by kernel_rfl) (fun _ _ _ h => h) rfl hHeld ?_
                              try simp only [Act.put, List.setIfInBounds_toArray, List.set_cons_zero, List.set_cons_succ]
                              refine anyH_skip 20 rfl (by kernel_rfl) (by kernel_rfl) (by kernel_rfl) (fun _ _ _ h => h) rfl hHeld ?_
                              try simp only [Act.put, List.setIfInBounds_toArray, List.set_cons_zero, List.set_cons_succ]
                              refine anyH_take (v := ?_) 21 rfl (by kernel_rfl) (by kernel_rfl) (by kernel_rfl) (fun _ _ _ h => h) rfl ?_ hHeld ?_
                              rotate_left
                              · intro w' hSw
                                go_simp
                                try with_reducible rfl
                              try simp only [Act.put, List.setIfInBounds_toArray, List.set_cons_zero, List.set_cons_succ]
                              refine wpAnyH_done (by kernel_rfl) ?_ _
                              clear hHeld
                              go_wp2_with fail
                              go_meet
                              exact ⟨rfl, rfl, g2.drop 3⟩
                            | true =>
                              have g0 := gC.drew
                              refine wp_region_held_drew (S := fun w' => (w'.cell? ⟨w.heap.size, 0, none⟩ = some (.int .i64 p) ∧ w'.cell? ⟨w.heap.size, 1, none⟩ = some (.int .i64 n) ∧ w'.cell? ⟨w.heap.size, 2, none⟩ = some (t)) ∧ w'.cell? ⟨gh, i, none⟩ = some (.slice A1 n c1) ∧ w'.cell? ⟨gh, j, none⟩ = some (.slice A2 n c2) ∧ w'.cell? ⟨be, oe + i, none⟩ = some (.slice A3 n c3) ∧ w'.cell? ⟨be, oe + j, none⟩ = some (.slice A4 n c4) ∧ w'.cell? ⟨bf, of_ + i, none⟩ = some (.slice A5 n c5) ∧ w'.cell? ⟨bf, of_ + j, none⟩ = some (.slice A6 n c6)) (by kernel_rfl) (HF.out _ _ 2 g0 rfl).s (fun hHeld => ?_)
                              obtain ⟨v0, hv0, g8⟩ : ∃ v0, v0 = wr.drew ∧ St w v0 _ := ⟨_, rfl, g0⟩
                              rw [← hv0] at g0 hHeld ⊢
                              clear hv0 g8 gC
                              refine anyH_take (v := ?_) 0 rfl (by kernel_rfl) (by kernel_rfl) (by kernel_rfl) (fun _ _ _ h => h) rfl ?_ hHeld ?_
                              rotate_left
                              · intro w' hSw
                                go_simp
                                try with_reducible rfl
                              try simp only [Act.put, List.setIfInBounds_toArray, List.set_cons_zero, List.set_cons_succ]
                              refine anyH_take (v := ?_) 1 rfl (by kernel_rfl) (by kernel_rfl) (by kernel_rfl) (fun _ _ _ h => h) rfl ?_ hHeld ?_
                              rotate_left
                              · intro w' hSw
                                go_simp
                                try with_reducible rfl
                              try simp only [Act.put, List.setIfInBounds_toArray, List.set_cons_zero, List.set_cons_succ]
                              refine anyH_take (v := ?_) 2 rfl (by kernel_rfl) (by kernel_rfl) (by kernel_rfl) (fun _ _ _ h => h) rfl ?_ hHeld ?_
                              rotate_left
                              · intro w' hSw
                                go_simp
                                try with_reducible rfl
                              try simp only [Act.put, List.setIfInBounds_toArray, List.set_cons_zero, List.set_cons_succ]
                              refine anyH_take (v := ?_) 3 rfl (by kernel_rfl) (by kernel_rfl) (by kernel_rfl) (fun _ _ _ h => h) rfl ?_ hHeld ?_
                              rotate_left
                              · intro w' hSw
                                go_simp
                                try with_reducible rfl
                              try simp only [Act.put, List.setIfInBounds_toArray, List.set_cons_zero, List.set_cons_succ]
                              refine anyH_take (v := ?_) 4 rfl (by kernel_rfl) (by kernel_rfl) (by kernel_rfl) (fun _ _ _ h => h) rfl ?_ hHeld ?_
                              rotate_left
                              · intro w' hSw
                                go_simp
                                try with_reducible rfl
                              try simp only [Act.put, List.setIfInBounds_toArray, List.set_cons_zero, List.set_cons_succ]
                              refine anyH_take (v := ?_) 5 rfl (by kernel_rfl) (by kernel_rfl) (by kernel_rfl) (fun _ _ _ h => h) rfl ?_ hHeld ?_
                              rotate_left
                              · intro w' hSw
                                go_simp
                                try with_reducible rfl
                              try simp only [Act.put, List.setIfInBounds_toArray, List.set_cons_zero, List.set_cons_succ]
                              refine anyH_take (v := ?_) 6 rfl (by kernel_rfl) (by kernel_rfl) (by kernel_rfl) (fun _ _ _ h => h) rfl ?_ hHeld ?_
                              rotate_left
                              · intro w' hSw
                                go_simp
                                try with_reducible rfl
                              try simp only [Act.put, List.setIfInBounds_toArray, List.set_cons_zero, List.set_cons_succ]
                              refine anyH_take (v := ?_) 7 rfl (by kernel_rfl) (by kernel_rfl) (by kernel_rfl) (fun _ _ _ h => h) rfl ?_ hHeld ?_
                              rotate_left
                              · intro w' hSw
                                go_simp
                                try with_reducible rfl
                              try simp only [Act.put, List.setIfInBounds_toArray, List.set_cons_zero, List.set_cons_succ]
                              refine anyH_take (v := ?_) 8 rfl (by kernel_rfl) (by kernel_rfl) (by kernel_rfl) (fun _ _ _ h => h) rfl ?_ hHeld ?_
                              rotate_left
                              · intro w' hSw
                                go_simp
                                try with_reducible rfl
                              try simp only [Act.put, List.setIfInBounds_toArray, List.set_cons_zero, List.set_cons_succ]
                              refine wpAnyH_ready (rs := [9]) (by kernel_rfl) (by simp) ?_
                              refine ready_cons rfl (fun K hK => ?_) AllReadyH.nil
                              go_simp
                              refine (C3.out _ _ _ (HF.out _ _ 2 g0 rfl).t (HF.out _ _ 2 g0 rfl).ei (HF.out _ _ 2 g0 rfl).fj).mono ?_
                              rintro (e : Ending) w7 ⟨u7, rfl, ho7, hb7⟩
                              have g2 := g0.pushOwn hb7 ho7
                              show K _ _
                              refine hK.out _ _ ?_ (fun hHeld => ?_)
                              · exact (HF.out _ _ 3 g2 rfl).s
                              clear hK K
                              try simp only [Act.put, List.setIfInBounds_toArray, List.set_cons_zero, List.set_cons_succ]
                              refine wpAnyH_ready (rs := [10]) (by kernel_rfl) (by simp) ?_
                              refine ready_cons rfl (fun K hK => ?_) AllReadyH.nil
                              go_simp
                              refine (C4.out _ _ (g2.ownInts 0 rfl)).mono ?_
                              rintro (e : Ending) w8 ⟨rfl, rfl⟩
                              show K _ _
                              refine hK.out _ _ ?_ (fun hHeld => ?_)
                              · exact (HF.out _ _ 3 g2 rfl).s
                              clear hK K
                              try simp only [Act.put, List.setIfInBounds_toArray, List.set_cons_zero, List.set_cons_succ]
                              refine anyH_take (v := ?_) 11 rfl (by kernel_rfl) (by kernel_rfl) (by kernel_rfl) (fun _ _ _ h => h) rfl ?_ hHeld ?_
                              rotate_left
                              · intro w' hSw
                                go_simp
                                try with_reducible rfl
                              try simp only [Act.put, List.setIfInBounds_toArray, List.set_cons_zero, List.set_cons_succ]
                              refine anyH_take (v := ?_) 12 rfl (by kernel_rfl) (by kernel_rfl) (by kernel_rfl) (fun _ _ _ h => h) rfl ?_ hHeld ?_
                              rotate_left
                              · intro w' hSw
                                go_simp
                                try with_reducible rfl
                              try simp only [Act.put, List.setIfInBounds_toArray, List.set_cons_zero, List.set_cons_succ]
                              refine anyH_take (v := ?_) 13 rfl (by kernel_rfl) (by kernel_rfl) (by kernel_rfl) (fun _ _ _ h => h) rfl ?_ hHeld ?_
                              rotate_left
                              · intro w' hSw
                                go_simp
                                try with_reducible rfl
                              try simp only [Act.put, List.setIfInBounds_toArray, List.set_cons_zero, List.set_cons_succ]
                              refine wpAnyH_ready (rs := [14]) (by kernel_rfl) (by simp) ?_
                              refine ready_cons rfl (fun K hK => ?_) AllReadyH.nil
                              go_simp
                              refine (C13.out _ _ (g2.anyInts 1 rfl)).mono ?_
                              rintro (e : Ending) w9 ⟨rfl, rfl⟩
                              show K _ _
                              refine hK.out _ _ ?_ (fun hHeld => ?_)
                              · exact (HF.out _ _ 3 g2 rfl).s
                              clear hK K
                              try simp only [Act.put, List.setIfInBounds_toArray, List.set_cons_zero, List.set_cons_succ]
                              refine anyH_take (v := ?_) 15 rfl (by kernel_rfl) (by kernel_rfl) (by kernel_rfl) (fun _ _ _ h => h) rfl ?_ hHeld ?_
                              rotate_left
                              · intro w' hSw
                                go_simp
                                try with_reducible rfl
                              try simp only [Act.put, List.setIfInBounds_toArray, List.set_cons_zero, List.set_cons_succ]
                              refine anyH_take (v := ?_) 16 rfl (by kernel_rfl) (by kernel_rfl) (by kernel_rfl) (fun _ _ _ h => h) rfl ?_ hHeld ?_
                              rotate_left
                              · intro w' hSw
                                go_simp
                                try with_reducible rfl
                              try simp only [Act.put, List.setIfInBounds_toArray, List.set_cons_zero, List.set_cons_succ]
                              refine anyH_take (v := ?_) 17 rfl (by kernel_rfl) (by kernel_rfl) (by kernel_rfl) (fun _ _ _ h => h) rfl ?_ hHeld ?_
                              rotate_left
                              · intro w' hSw
                                go_simp
                                try with_reducible rfl
                              try simp only [Act.put, List.setIfInBounds_toArray, List.set_cons_zero, List.set_cons_succ]
                              refine anyH_take (v := ?_) 18 rfl (by kernel_rfl) (by kernel_rfl) (by kernel_rfl) (fun _ _ _ h => h) rfl ?_ hHeld ?_
                              rotate_left
                              · intro w' hSw
                                go_simp
                                try with_reducible rfl
                              try simp only [Act.put, List.setIfInBounds_toArray, List.set_cons_zero, List.set_cons_succ]
                              refine wpAnyH_ready (rs := [19]) (by kernel_rfl) (by simp) ?_
                              refine ready_cons rfl (fun K hK => ?_) AllReadyH.nil
                              go_simp
                              refine (C14.out _ _ (g2.anyInts 2 rfl)).mono ?_
                              rintro (e : Ending) w10 ⟨rfl, rfl⟩
                              show K _ _
                              refine hK.out _ _ ?_ (fun hHeld => ?_)
                              · exact (HF.out _ _ 3 g2 rfl).s
                              clear hK K
                              try simp only [Act.put, List.setIfInBounds_toArray, List.set_cons_zero, List.set_cons_succ]
                              refine anyH_take (v := ?_) 20 rfl (by kernel_rfl) (by kernel_rfl) (by kernel_rfl) (fun _ _ _ h => h) rfl ?_ hHeld ?_
                              rotate_left
                              · intro w' hSw
                                go_simp
                                try with_reducible rfl
                              try simp only [Act.put, List.setIfInBounds_toArray, List.set_cons_zero, List.set_cons_succ]
                              refine anyH_take (v := ?_) 21 rfl (by kernel_rfl) (by kernel_rfl) (by kernel_rfl) (fun _ _ _ h => h) rfl ?_ hHeld ?_
                              rotate_left
                              · intro w' hSw
                                go_simp
                                try with_reducible rfl
                              try simp only [Act.put, List.setIfInBounds_toArray, List.set_cons_zero, List.set_cons_succ]
                              refine wpAnyH_done (by kernel_rfl) ?_ _
                              clear hHeld
                              go_wp2_with fail
                              go_meet
                              exact ⟨rfl, rfl, g2.drop 3⟩
                        case rest =>
                          clear gC
                          obtain ⟨rfl, rfl, gB⟩ := hcut
                          obtain ⟨pp, hpp⟩ : ∃ pp, pp = (p2 && (s1 && s2)) := ⟨_, rfl⟩
                          rw [← hpp] at HXs
                          rw [← hpp]
                          clear hpp
                          cases pp with
                          | false =>
                            have HF9 := Lib.hid (show X = false by rw [HXs.out]; simp)
                            go_wp2
                            go_ret
                            exact ⟨ret_bool HF9.out.symm, gB.below⟩
                          | true =>
                            have HX2 := Lib.hid (show X = ((List.range' (j + 1) (m - (j + 1))).all (sP p n T m D E F i) && (List.range' (i + 1) (m - (i + 1))).all (fP p n T m D E F)) by rw [HXs.out]; simp)
                            go_wp2
                            go_roundw
                            case rel => first | exact ⟨j + 1, by go_num, by omega, gB, HX2⟩ | ((repeat apply Exists.intro); exact ⟨⟨j + 1, by go_num, by omega, gB, HX2⟩, rfl⟩)
                            case measure => simp [intOf]; omega
            · obtain rfl : m = j := by omega
              have HX2 : Hid (X = (List.range' (i + 1) (m - (i + 1))).all (fP p n T m D E F)) := by
                show X = _
                rw [HX.out, Nat.sub_self]
                rfl
              go_wp2
              go_roundw
              case rel => exact ⟨i + 1, by go_num, by omega, g, HX2⟩
              case measure => simp [intOf]; omega
        · obtain rfl : m = i := by omega
          have HX2 : Hid (X = true) := by
            show X = _
            rw [HX.out, Nat.sub_self]
            rfl
          go_wp2
          go_ret
          exact ⟨ret_bool HX2.out.symm, g.below⟩

end Srr
end Go.Proofs.YtcngijafnnmccaaGreatDoor
