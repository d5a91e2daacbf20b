/- Relations of Serre, the reference: l7Serre. -/
import Derived.Test.YtcngijafnnmccaaGreatDoorSrrB
import Derived.Test.YtcngijafnnmccaaGreatDoorCarU
namespace Go.Proofs.YtcngijafnnmccaaGreatDoor
set_option maxRecDepth 100000
open Go.RowKit
namespace Srr
open Stp Car

theorem ite_lt {i j k c : Nat} (h : k < if i = j then 0 else c) : i ≠ j ∧ k < c := by
  by_cases e : i = j
  · rw [if_pos e] at h; omega
  · rw [if_neg e] at h; exact ⟨e, h⟩
def gS (p : Int) (n : Nat) (T : List Int) (r : Nat) (D : List Int) (E : List (List Int)) (i j : Nat) : Bool := i == j || sv p n T r D E i j
def fS (p : Int) (n : Nat) (T : List Int) (r : Nat) (D : List Int) (E : List (List Int)) (i : Nat) : Bool := (List.range' 0 (r - 0)).all (gS p n T r D E i)
set_option maxHeartbeats 4000000 in
theorem l7Serre_any (p : Int) (n r : Nat) (T D : List Int) (E : List (List Int)) (t d v : Value) (w : World) (ht : Ints w t T) (hd : Ints w d D) (hv : IntRows w v E) (hE : E.length = r) (hD : D.length = r * r) (hr : r ≤ 4)
    (hen : ∀ i j, i < r → j < r → -3 ≤ en r D i j ∧ en r D i j ≤ 2) (hT : T.length = n * n * n) (hn : n ≤ 28) (hp : 2 ≤ p) (hp' : p ≤ 10007) (rT : resid p T = true) (hEv : ∀ i, i < r → (rowOf E i).length = n ∧ resid p (rowOf E i) = true) :
    Calls Tryz.prog 24 #[.agg #[.int .i64 p, .int .i64 n, t], .agg #[.int .i64 r, d], v] w (RetBool w (serV p n T r D E)) := by
  have g := ((((((St.start w).arg hd).arg ht).pushFact hv.fact).box [.int .i64 p, .int .i64 n, t] 32).box [.int .i64 r, d] 34)
  simp only [World.size_alloc] at g
  obtain ⟨A, c, rfl, _, _, _⟩ := id hv
  have HV := Lib.hid hv
  have HEv := Lib.hid hEv
  have Hen := Lib.hid hen
  have HE := Lib.hid hE
  have HAt := Lib.hid (fun (i j : Nat) (hi : i < r) (hj : j < r) (W : World) (x : Ints W d D) => l5At_any r d D i j W x hD hr hi hj)
  have HB := Lib.hid (fun (X Y : List Int) (hX : X.length = n ∧ resid p X = true) (hY : Y.length = n ∧ resid p Y = true) (W : World) (x y : Value) (x0 : Ints W t T) (x1 : Ints W x X) (x2 : Ints W y Y) => l2Bracket_any p n t x y T X Y _ W x0.toB x1.toB x2.toB (Nat.le_refl _) hT hX.1 hY.1 hn hp hp' rT hX.2 hY.2)
  have HI := Lib.hid (fun (i j k : Nat) (hi : i < r) (hj : j < r) => (⟨length_itB (hEv j hj).1 k, resid_itB hp (hEv j hj).2 k⟩ : (itB p n T (rowOf E i) (rowOf E j) k).length = n ∧ resid p (itB p n T (rowOf E i) (rowOf E j) k) = true))
  obtain ⟨R, hR⟩ : ∃ R, R = serV p n T r D E := ⟨_, rfl⟩
  rw [← hR]
  have HR : Hid (R = (List.range' 0 (r - 0)).all (fS p n T r D E)) := hR
  obtain ⟨z0, z1⟩ := g.box2 0 rfl
  rw [hE] at g HV ⊢
  clear hE hv hEv hen hR hD hT hd ht rT
  go_enter Tryz.func24, Tryz.ntmps24
  go_wp2
  clear z0 z1
  go_loopw [7] (fun v7 wr => ∃ i : Nat, v7 = .int .i64 i ∧ i ≤ r ∧ St w wr [.box (w.heap.size + 1) [.int .i64 r, d], .box w.heap.size [.int .i64 p, .int .i64 n, t], .fact (fun w' => IntRows w' (.slice A r c) E), .ro t T, .ro d D] ∧ Hid (R = (List.range' i (r - i)).all (fS p n T r D E))) (fun v7 _ => r - (intOf v7).toNat)
  case atStart => exact ⟨0, rfl, by omega, g, HR⟩
  case round =>
    clear g HR
    obtain ⟨i, rfl, a1, g, HR⟩ := hrel
    obtain ⟨z0, z1⟩ := g.box2 0 rfl
    by_cases hi : i < r
    · have ii : (i : Int) < (r : Int) := by omega
      have HRi : Hid (R = ((List.range' 0 (r - 0)).all (gS p n T r D E i) && (List.range' (i + 1) (r - (i + 1))).all (fS p n T r D E))) := HR.out.trans (all_cons _ hi)
      go_wp2
      clear z0 z1
      go_loopw [8] (fun v8 wr => ∃ j : Nat, v8 = .int .i64 j ∧ j ≤ r ∧ St w wr [.box (w.heap.size + 1) [.int .i64 r, d], .box w.heap.size [.int .i64 p, .int .i64 n, t], .fact (fun w' => IntRows w' (.slice A r c) E), .ro t T, .ro d D] ∧ Hid (R = ((List.range' j (r - j)).all (gS p n T r D E i) && (List.range' (i + 1) (r - (i + 1))).all (fS p n T r D E)))) (fun v8 _ => r - (intOf v8).toNat)
      case atStart => exact ⟨0, rfl, by omega, g, HRi⟩
      case round =>
        clear g HR HRi
        obtain ⟨j, rfl, a2, g, HR⟩ := hrel
        obtain ⟨z0, z1⟩ := g.box2 0 rfl
        by_cases hj : j < r
        · have jj : (j : Int) < (r : Int) := by omega
          have HRs := Lib.hid (show R = ((gS p n T r D E i j && (List.range' (j + 1) (r - (j + 1))).all (gS p n T r D E i)) && (List.range' (i + 1) (r - (i + 1))).all (fS p n T r D E)) by rw [HR.out, all_cons _ hj])
          have hiE : i < E.length := by rw [HE.out]; exact hi
          have hjE : j < E.length := by rw [HE.out]; exact hj
          obtain ⟨b, off, A1, c1, rfl, hm1⟩ := HV.out.at (i := i) hiE
          obtain ⟨b', off', A2, c2, hA, hm2⟩ := HV.out.at (i := j) hjE
          simp only [Option.some.injEq, Addr.mk.injEq, and_true] at hA
          obtain ⟨rfl, rfl⟩ := hA
          rw [rowOf_eq hiE, (HEv.out i hi).1] at hm1
          rw [rowOf_eq hjE, (HEv.out j hj).1] at hm2
          have HAt1 := Lib.hid (HAt.out i j hi hj)
          have HB1 := Lib.hid (fun k => HB.out _ _ (HEv.out i hi) (HI.out i j k hi hj))
          obtain ⟨e1, e2⟩ := Hen.out i j hi hj
          have Hc := Lib.hid (show cnt r D i j = (1 - en r D i j).toNat from rfl)
          obtain ⟨q, hq⟩ : ∃ q, q = en r D i j := ⟨_, rfl⟩
          rw [← hq] at HAt1 e1 e2 Hc
          obtain ⟨N, hN⟩ : ∃ N, N = if i = j then 0 else cnt r D i j := ⟨_, rfl⟩
          have HN := Lib.hid hN
          have w1 : IntKind.i64.wrap (1 - q) = 1 - q := wrap_ok (by omega) (by omega)
          have w3 : wrap64 (1 - q) = 1 - q := by unfold wrap64; omega
          have h20 := g.pushOld hm1.fact
          have h2 := (h20.pushOld hm2.fact).pushOld (Ints.factS hm2.2)
          have y0 := (h2.fact 1 rfl).1
          have Hm0 : Hid (itB p n T (rowOf E i) (rowOf E j) 0 = rowOf E j) := rfl
          have HIt := Lib.hid (fun k => show itB p n T (rowOf E i) (rowOf E j) (k + 1) = braL T (rowOf E i) (itB p n T (rowOf E i) (rowOf E j) k) n p from rfl)
          clear hm1 hm2 h20 hq hN
          go_wp2
          clear z0 z1 y0
          go_loopw [9, 10] (fun v9 v10 wr => ∃ (k : Nat) (b0 : Bool), v10 = .int .i64 k ∧ k ≤ N ∧ St w wr [anyIt b0 v9 (itB p n T (rowOf E i) (rowOf E j) k), .fact (fun w' => RowAt w' b (off + i) (rowOf E i) (.slice A1 n c1)), .box (w.heap.size + 1) [.int .i64 r, d], .box w.heap.size [.int .i64 p, .int .i64 n, t], .fact (fun w' => IntRows w' (.slice (some ⟨b, off, none⟩) r c) E), .ro t T, .ro d D]) (fun _ v10 _ => N - (intOf v10).toNat)
          case atStart => exact ⟨0, false, rfl, by omega, by rw [Hm0.out]; exact h2.re [0, 2, 3, 4, 5, 6, 7] (L' := [_, _, _, _, _, _, _]) (by decide) (fun j => by rcases j with _ | _ | _ | _ | _ | _ | _ | j <;> rfl)⟩
          case round =>
            clear h2 g HR
            obtain ⟨k, b0, rfl, a3, g⟩ := hrel
            obtain ⟨z0, z1⟩ := g.box2 2 rfl
            by_cases hk : k < N
            · obtain ⟨hne, hkc⟩ := ite_lt (show k < if i = j then 0 else cnt r D i j by rw [← HN.out]; exact hk)
              rw [Hc.out] at hkc
              have hne2 : ¬ (i : Int) = (j : Int) := by omega
              have hkq : (k : Int) < 1 - q := by omega
              have HB2 := Lib.hid (HB1.out k)
              rw [← HIt.out k] at HB2
              clear hkc
              go_wp2_with fail
              refine (HAt1.out _ (g.roInts 6 rfl)).mono ?_
              rintro (e : Ending) w3 ⟨rfl, hb3⟩
              have g3 := g.on hb3
              clear z0 z1 g hb3
              go_upto_region 11 with fail
              have g0 := g3.drew
              clear g3
              refine wp_region_held_drew (S := fun w' => w'.cell? ⟨b, off + i, none⟩ = some (.slice A1 n c1) ∧ (w'.cell? ⟨w.heap.size, 0, none⟩ = some (.int .i64 p) ∧ w'.cell? ⟨w.heap.size, 1, none⟩ = some (.int .i64 n) ∧ w'.cell? ⟨w.heap.size, 2, none⟩ = some (t))) (by kernel_rfl) ⟨(g0.fact 1 rfl).1, g0.box3 3 rfl⟩ (fun hHeld => ?_)
              obtain ⟨v0, hv0, g8⟩ : ∃ v0, v0 = w3.drew ∧ St w v0 _ := ⟨_, rfl, g0⟩
              rw [← hv0] at g0 hHeld ⊢
              clear hv0 g8
              refine anyH_take (v := ?_) 0 rfl (by kernel_rfl) (by kernel_rfl) (by kernel_rfl) (fun _ _ _ h => h) rfl ?_ hHeld ?_
              rotate_left
              · intro w' hSw
                go_simp
                try with_reducible rfl
              try simp only [Act.put, List.setIfInBounds_toArray, List.set_cons_zero, List.set_cons_succ]
              refine anyH_take (v := ?_) 1 rfl (by kernel_rfl) (by kernel_rfl) (by kernel_rfl) (fun _ _ _ h => h) rfl ?_ hHeld ?_
              rotate_left
              · intro w' hSw
                go_simp
                try with_reducible rfl
              try simp only [Act.put, List.setIfInBounds_toArray, List.set_cons_zero, List.set_cons_succ]
              refine anyH_take (v := ?_) 2 rfl (by kernel_rfl) (by kernel_rfl) (by kernel_rfl) (fun _ _ _ h => h) rfl ?_ hHeld ?_
              rotate_left
              · intro w' hSw
                go_simp
                try with_reducible rfl
              try simp only [Act.put, List.setIfInBounds_toArray, List.set_cons_zero, List.set_cons_succ]
              refine anyH_take (v := ?_) 3 rfl (by kernel_rfl) (by kernel_rfl) (by kernel_rfl) (fun _ _ _ h => h) rfl ?_ hHeld ?_
              rotate_left
              · intro w' hSw
                go_simp
                try with_reducible rfl
              try simp only [Act.put, List.setIfInBounds_toArray, List.set_cons_zero, List.set_cons_succ]
              refine anyH_take (v := ?_) 4 rfl (by kernel_rfl) (by kernel_rfl) (by kernel_rfl) (fun _ _ _ h => h) rfl ?_ hHeld ?_
              rotate_left
              · intro w' hSw
                go_simp
                try with_reducible rfl
              try simp only [Act.put, List.setIfInBounds_toArray, List.set_cons_zero, List.set_cons_succ]
              refine anyH_take (v := ?_) 5 rfl (by kernel_rfl) (by kernel_rfl) (by kernel_rfl) (fun _ _ _ h => h) rfl ?_ hHeld ?_
              rotate_left
              · intro w' hSw
                go_simp
                try with_reducible rfl
              try simp only [Act.put, List.setIfInBounds_toArray, List.set_cons_zero, List.set_cons_succ]
              refine wpAnyH_ready (rs := [6]) (by kernel_rfl) (by simp) ?_
              refine ready_cons rfl (fun K hK => ?_) AllReadyH.nil
              go_simp
              refine (HB2.out _ _ _ (g0.roInts 5 rfl) (g0.fact 1 rfl).2 (g0.anyInts 0 rfl)).mono ?_
              rintro (e : Ending) w5 ⟨u5, rfl, ho5, hb5⟩
              have g5 := g0.pushOwn hb5 ho5
              show K _ _
              refine hK.out _ _ ?_ (fun hHeld => ?_)
              · exact ⟨(g5.fact 2 rfl).1, g5.box3 4 rfl⟩
              clear hK K
              try simp only [Act.put, List.setIfInBounds_toArray, List.set_cons_zero, List.set_cons_succ]
              refine anyH_take (v := ?_) 7 rfl (by kernel_rfl) (by kernel_rfl) (by kernel_rfl) (fun _ _ _ h => h) rfl ?_ hHeld ?_
              rotate_left
              · intro w' hSw
                go_simp
                try with_reducible rfl
              try simp only [Act.put, List.setIfInBounds_toArray, List.set_cons_zero, List.set_cons_succ]
              refine wpAnyH_done (by kernel_rfl) ?_ _
              clear hHeld
              have g6 := g5.re [0, 2, 3, 4, 5, 6, 7] (L' := [anyIt true u5 _, _, _, _, _, _, _]) (by decide) (fun j => by rcases j with _ | _ | _ | _ | _ | _ | _ | j <;> rfl)
              clear g0 g5 ho5 hb5
              go_wp2
              go_roundw
              case rel => exact ⟨k + 1, true, by go_num, by omega, g6⟩
              case measure => simp [intOf]; omega
            · obtain rfl : N = k := by omega
              by_cases hij : i = j
              · subst hij
                have HG := Lib.hid (show gS p n T r D E i i = true by unfold gS; simp)
                by_cases hlt : (N : Int) < 1 - q
                · go_wp2_with fail
                  refine (HAt1.out _ (g.roInts 6 rfl)).mono ?_
                  rintro (e : Ending) w3 ⟨rfl, hb3⟩
                  have g9 := (g.on hb3).drop 2
                  clear z0 z1 g hb3
                  go_wp2
                  have HR2 := Lib.hid (show R = ((List.range' (i + 1) (r - (i + 1))).all (gS p n T r D E i) && (List.range' (i + 1) (r - (i + 1))).all (fS p n T r D E)) by rw [HRs.out, HG.out]; rfl)
                  go_roundw
                  case rel => exact ⟨i + 1, by go_num, by omega, g9, HR2⟩
                  case measure => simp [intOf]; omega
                · go_wp2_with fail
                  refine (HAt1.out _ (g.roInts 6 rfl)).mono ?_
                  rintro (e : Ending) w3 ⟨rfl, hb3⟩
                  have g9 := (g.on hb3).drop 2
                  clear z0 z1 g hb3
                  go_wp2
                  have HR2 := Lib.hid (show R = ((List.range' (i + 1) (r - (i + 1))).all (gS p n T r D E i) && (List.range' (i + 1) (r - (i + 1))).all (fS p n T r D E)) by rw [HRs.out, HG.out]; rfl)
                  go_roundw
                  case rel => exact ⟨i + 1, by go_num, by omega, g9, HR2⟩
                  case measure => simp [intOf]; omega
              · have hne2 : ¬ (i : Int) = (j : Int) := by omega
                have hlt : ¬ (N : Int) < 1 - q := by
                  have := HN.out
                  rw [if_neg hij, Hc.out] at this
                  omega
                have HZ := Lib.hid (fun W (x : Ints W u9 (itB p n T (rowOf E i) (rowOf E j) N)) => l1IsZero_any u9 _ W x)
                have HG0 := Lib.hid (show gS p n T r D E i j = zeroL (itB p n T (rowOf E i) (rowOf E j) N) by
                  unfold gS sv
                  have := HN.out
                  rw [if_neg hij] at this
                  rw [← this, show (i == j) = false by simpa using hij, Bool.false_or])
                obtain ⟨z, hz⟩ : ∃ z, z = zeroL (itB p n T (rowOf E i) (rowOf E j) N) := ⟨_, rfl⟩
                rw [← hz] at HZ HG0
                clear hz hij
                go_wp2_with fail
                refine (HAt1.out _ (g.roInts 6 rfl)).mono ?_
                rintro (e : Ending) w3 ⟨rfl, hb3⟩
                have g3 := g.on hb3
                clear z0 z1 g hb3
                cases z with
                | true =>
                  have HG := Lib.hid HG0.out
                  go_wp2_with fail
                  refine (HZ.out _ (g3.anyInts 0 rfl)).mono ?_
                  rintro (e : Ending) w4 ⟨rfl, rfl⟩
                  have g9 := g3.drop 2
                  go_wp2
                  have HR2 := Lib.hid (show R = ((List.range' (j + 1) (r - (j + 1))).all (gS p n T r D E i) && (List.range' (i + 1) (r - (i + 1))).all (fS p n T r D E)) by rw [HRs.out, HG.out]; rfl)
                  go_roundw
                  case rel => exact ⟨j + 1, by go_num, by omega, g9, HR2⟩
                  case measure => simp [intOf]; omega
                | false =>
                  have HR2 := Lib.hid (show R = false by rw [HRs.out, HG0.out]; rfl)
                  go_wp2_with fail
                  refine (HZ.out _ (g3.anyInts 0 rfl)).mono ?_
                  rintro (e : Ending) w4 ⟨rfl, rfl⟩
                  go_wp2
                  go_ret
                  exact ⟨ret_bool HR2.out.symm, g3.below⟩
        · obtain rfl : r = j := by omega
          have HR2 : Hid (R = (List.range' (i + 1) (r - (i + 1))).all (fS p n T r D E)) := by rw [HR.out, Nat.sub_self]; rfl
          go_wp2
          go_roundw
          case rel => exact ⟨i + 1, by go_num, by omega, g, HR2⟩
          case measure => simp [intOf]; omega
    · obtain rfl : r = i := by omega
      have HR2 := Lib.hid (show R = true by rw [HR.out, Nat.sub_self]; rfl)
      go_wp2
      go_ret
      exact ⟨ret_bool HR2.out.symm, g.below⟩

end Srr
end Go.Proofs.YtcngijafnnmccaaGreatDoor
