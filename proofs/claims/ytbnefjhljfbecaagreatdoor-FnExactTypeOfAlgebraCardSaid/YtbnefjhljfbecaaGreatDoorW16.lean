import Derived.Test.YtbnefjhljfbecaaGreatDoorW15
namespace Go.Proofs.YtbnefjhljfbecaaGreatDoor
set_option maxRecDepth 100000
open Go.RowKit
namespace Car
def RetParts (w : World) (o : Option (List Nat)) (e : Ending) (w' : World) : Prop := Below w.heap.size w w' ∧ ((o = none ∧ e = .returned (.tuple #[.slice none 0 0, .bool false])) ∨ ∃ t v, o = some t ∧ e = .returned (.tuple #[v, .bool true]) ∧ StrsAt w' w.heap.size w'.heap.size v (t.map nmB))
def frq (n : Nat) (D : List Int) (i : Nat) : Bool := inR (vec D i) (-3) 2 && (vec D i == 0 || vec D ((i % n) * n + i / n) != 0)
theorem fair_frq (n : Nat) (D : List Int) : fair n D = (List.range' 0 (D.length - 0)).all (frq n D) := by
 unfold fair
 rw [List.range_eq_range', Nat.sub_zero]
 congr 1
 funext i
 unfold frq
 congr 1
 unfold inR vec
 simp
theorem tposE {n i : Nat} (hn : n ≤ 4) (h1 : 1 ≤ n) (hi : i < n * n) : (i : Int).tmod (n : Int) = ((i % n : Nat) : Int) ∧ IntKind.i64.wrap ((i : Int) / (n : Int)) = ((i / n : Nat) : Int) ∧ IntKind.i64.wrap (IntKind.i64.wrap (((i % n : Nat) : Int) * (n : Int)) + ((i / n : Nat) : Int)) = (((i % n) * n + i / n : Nat) : Int) ∧ (i % n) * n + i / n < n * n := by
 have hb : n * n ≤ 16 := Nat.mul_le_mul hn hn
 have e1 : i / n < n := Nat.div_lt_of_lt_mul hi
 have e2 : i % n < n := Nat.mod_lt _ h1
 have h3 : (i % n + 1) * n ≤ n * n := Nat.mul_le_mul_right n (by omega)
 rw [Nat.add_mul, Nat.one_mul] at h3
 have t1 : (i : Int).tmod (n : Int) = ((i % n : Nat) : Int) := by rw [Int.tmod_eq_emod_of_nonneg (by omega)]; simp
 have t2 : (i : Int) / (n : Int) = ((i / n : Nat) : Int) := by simp
 refine ⟨t1, ?_, ?_⟩
 ·rw [t2]
  generalize i / n = b at *
  rw [wrap_ok (by omega) (by omega)]
 clear t1 t2
 generalize i % n = a at *
 generalize i / n = b at *
 have t3 : ((a * n : Nat) : Int) = (a : Int) * n := Int.natCast_mul _ _
 refine ⟨?_, by omega⟩
 rw [wrap_ok (x := (a : Int) * n) (by omega) (by omega), wrap_ok (by omega) (by omega)]
 omega
set_option maxHeartbeats 8000000 in
theorem l5Parts_good (n : Nat) (v : Value) (D : List Int) (w : World) (hv : Ints w v D) (hD : D.length = n * n) (h1 : 1 ≤ n) (h4 : n ≤ 4) :
  Calls Tryz.prog 42 #[.agg #[.int .i64 n, v]] w (RetParts w (parts n D)) := by
 obtain ⟨X, hX⟩ : ∃ X, X = parts n D := ⟨_, rfl⟩
 rw [← hX]
 obtain ⟨FR, hFR⟩ : ∃ FR, FR = fair n D := ⟨_, rfl⟩
 have HX := Lib.hid (show X = if FR = true then partsF n D n 0 [] [] else none by rw [hX, hFR]; rfl)
 obtain ⟨A, c, rfl, _, _, _⟩ := id hv
 have g := (((St.start w).arg hv).box [.int .i64 n, .slice A D.length c] 49)
 have hnn : n * n ≤ 16 := Nat.mul_le_mul h4 h4
 have HPt := Lib.hid (fun (W : World) (i : Nat) (hi : i < n) (x : Ints W (.slice A D.length c) D) => l5Part_any n _ D i W x hD h1 h4 hi)
 have HPo := Lib.hid (fun (i : Nat) (hi : i < n) => (part_ok h1 h4 D (fun _ => True) (fun _ _ _ _ _ _ => trivial) hi trivial).1)
 have HFi := Lib.hid (fun (rows : List Nat) (k : Nat) (hk : k < 12) (hr : rows.length = rk k) (hb : ∀ x, x ∈ rows → x < n) => fits_all n D (rk k) (mx k) rows hD (by
  have hd : ((List.range 12).all fun k => decide ((mx k).length = rk k * rk k)) = true := by decide +kernel
  exact of_decide_eq_true (List.all_eq_true.1 hd k (List.mem_range.2 hk))) h4 (rk_pos hk).2 hr hb (rk k) [])
 obtain ⟨dl, hdl⟩ : ∃ dl, dl = D.length := ⟨_, rfl⟩
 have HFR := Lib.hid (show FR = (List.range' 0 (dl - 0)).all (frq n D) by rw [hFR, hdl]; exact fair_frq n D)
 have HTp := Lib.hid (fun (i : Nat) (hi : i < dl) => tposE h4 h1 (show i < n * n by omega))
 have Hdl := Lib.hid hdl
 have hdl16 : dl ≤ 16 := by omega
 have wq : wrap64 ((n : Int) * (n : Int)) = (dl : Int) := by
  rw [hdl, hD, Int.natCast_mul]
  rw [← Int.natCast_mul, w64_ok (by omega) (by omega)]
 have hin : inR (n : Int) 1 4 = true := by simp [inR]; omega
 have HDn := Lib.hid (show dl = n * n by rw [hdl, hD])
 rw [← hdl] at g HPt ⊢
 obtain ⟨z0, z1⟩ := g.box2 0 rfl
 have hn0 : ¬ (n = 0) := by omega
 clear hX hFR hv hD hdl hnn
 go_enter Tryz.func42, Tryz.ntmps42
 go_wp2_with (go_at_call 20; refine (l1In_any _ _ _ _).mono ?_; rintro e w' ⟨rfl, rfl⟩)
 clear z0 z1 wq hin
 go_loopw [4] (fun v4 wr => ∃ i : Nat, v4 = .int .i64 i ∧ i ≤ dl ∧ St w wr [.box w.heap.size [.int .i64 n, .slice A dl c], .ro (.slice A dl c) D] ∧ Hid (FR = (List.range' i (dl - i)).all (frq n D))) (fun v4 _ => dl - (intOf v4).toNat)
 case atStart => exact ⟨0, rfl, by omega, g, HFR⟩
 case round =>
  clear g HFR
  obtain ⟨i, rfl, a1, g, HF⟩ := hrel
  obtain ⟨z0, z1⟩ := g.box2 0 rfl
  by_cases hi : i < dl
  ·have ii : (i : Int) < (dl : Int) := by omega
   have HF2 := Lib.hid (HF.out.trans (all_cons _ hi))
   obtain ⟨er, ev, e1, e2⟩ := HTp.out i hi
   rw [← HDn.out] at e2
   obtain ⟨b, o, rfl, _, x0⟩ := (g.ro 1 rfl).cell (k := i) (by rw [← Hdl.out]; exact hi)
   have x1 := g.roCell 1 rfl (q := (i % n) * n + i / n) (by rw [← Hdl.out]; exact e2)
   obtain ⟨d1, hd1⟩ : ∃ d1, d1 = vec D i := ⟨_, rfl⟩
   obtain ⟨d2, hd2⟩ : ∃ d2, d2 = vec D ((i % n) * n + i / n) := ⟨_, rfl⟩
   have hfq : frq n D i = (inR d1 (-3) 2 && (d1 == 0 || d2 != 0)) := by rw [hd1, hd2]; rfl
   rw [← hd1] at x0
   rw [← hd2] at x1
   obtain ⟨q, hq⟩ : ∃ q, q = (i % n) * n + i / n := ⟨_, rfl⟩
   rw [← hq] at e1 e2 x1
   obtain ⟨rm, hrm⟩ : ∃ rm, rm = i % n := ⟨_, rfl⟩
   obtain ⟨dv, hdv⟩ : ∃ dv, dv = i / n := ⟨_, rfl⟩
   rw [← hrm] at er e1
   rw [← hdv] at ev e1
   have HF3 := Lib.hid (show FR = ((inR d1 (-3) 2 && (d1 == 0 || d2 != 0)) && (List.range' (i + 1) (dl - (i + 1))).all (frq n D)) by rw [HF2.out, hfq])
   have iq : (q : Int) < (dl : Int) := by omega
   clear hfq hd1 hd2 hq hrm hdv HF HF2 e2
   have g0 := g.drew
   have x0' : wr.drew.cell? ⟨b, o + i, none⟩ = some (.int .i64 d1) := x0
   have x1' : wr.drew.cell? ⟨b, o + q, none⟩ = some (.int .i64 d2) := x1
   obtain ⟨ib, hib⟩ : ∃ ib, ib = inR d1 (-3) 2 := ⟨_, rfl⟩
   have HIn := Lib.hid (fun W => l1In_any d1 (-3) 2 W)
   rw [← hib] at HIn HF3
   clear hib
   cases ib with
   | false =>
    have HFf := Lib.hid (show FR = false by rw [HF3.out]; rfl)
    go_upto_region 6 with fail
    refine wp_region_held_drew (S := fun w' => (w'.cell? ⟨w.heap.size, 0, none⟩ = some (.int .i64 n) ∧ w'.cell? ⟨w.heap.size, 1, none⟩ = some (.slice (some ⟨b, o, none⟩) dl c)) ∧ w'.cell? ⟨b, o + i, none⟩ = some (.int .i64 d1)) (by kernel_rfl) ⟨g0.box2 0 rfl, x0'⟩ (fun hHeld => ?_)
    clear z0 z1
    obtain ⟨v0, hv0, g8⟩ : ∃ v0, v0 = wr.drew ∧ St w v0 _ := ⟨_, rfl, g0⟩
    rw [← hv0] at g0 x0' hHeld ⊢
    clear hv0 g8 x1' x0 x1 g
    refine tkA 0 hHeld ?_
    refine tkA 1 hHeld ?_
    refine tkA 2 hHeld ?_
    refine tkA 3 hHeld ?_
    refine tkA 4 hHeld ?_
    refine rcA 5 fun K hK => ?_
    go_simp
    refine (HIn.out _).mono ?_
    rintro (e : Ending) w4 ⟨rfl, rfl⟩
    show K _ _
    refine outA hK ?_ fun hHeld => ?_
    ·exact ⟨g0.box2 0 rfl, x0'⟩
    clear hK K
    refine tkA 6 hHeld ?_
    refine tkA 7 hHeld ?_
    refine skA 8 hHeld ?_
    refine skA 9 hHeld ?_
    refine skA 10 hHeld ?_
    refine skA 11 hHeld ?_
    refine skA 12 hHeld ?_
    refine skA 13 hHeld ?_
    refine skA 14 hHeld ?_
    refine skA 15 hHeld ?_
    refine skA 16 hHeld ?_
    refine skA 17 hHeld ?_
    refine skA 18 hHeld ?_
    refine skA 19 hHeld ?_
    refine skA 20 hHeld ?_
    refine skA 21 hHeld ?_
    refine skA 22 hHeld ?_
    refine skA 23 hHeld ?_
    refine skA 24 hHeld ?_
    refine skA 25 hHeld ?_
    refine skA 26 hHeld ?_
    refine skA 27 hHeld ?_
    refine skA 28 hHeld ?_
    refine skA 29 hHeld ?_
    refine skA 30 hHeld ?_
    refine skA 31 hHeld ?_
    refine skA 32 hHeld ?_
    refine tkA 33 hHeld ?_
    refine wpAnyH_done (by kernel_rfl) ?_ _
    clear hHeld
    have HXn := Lib.hid (show X = none by rw [HX.out, HFf.out]; rfl)
    go_wp2
    go_ret2
    exact ⟨g0.below, .inl ⟨HXn.out, rfl⟩⟩
   | true =>
    by_cases h0 : d1 = 0
    ·subst h0
     have HF4 := Lib.hid (show FR = (List.range' (i + 1) (dl - (i + 1))).all (frq n D) by rw [HF3.out]; simp)
     go_upto_region 6 with fail
     refine wp_region_held_drew (S := fun w' => (w'.cell? ⟨w.heap.size, 0, none⟩ = some (.int .i64 n) ∧ w'.cell? ⟨w.heap.size, 1, none⟩ = some (.slice (some ⟨b, o, none⟩) dl c)) ∧ w'.cell? ⟨b, o + i, none⟩ = some (.int .i64 0)) (by kernel_rfl) ⟨g0.box2 0 rfl, x0'⟩ (fun hHeld => ?_)
     clear z0 z1
     obtain ⟨v0, hv0, g8⟩ : ∃ v0, v0 = wr.drew ∧ St w v0 _ := ⟨_, rfl, g0⟩
     rw [← hv0] at g0 x0' hHeld ⊢
     clear hv0 g8 x1' x0 x1 g
     refine tkA 0 hHeld ?_
     refine tkA 1 hHeld ?_
     refine tkA 2 hHeld ?_
     refine tkA 3 hHeld ?_
     refine tkA 4 hHeld ?_
     refine rcA 5 fun K hK => ?_
     go_simp
     refine (HIn.out _).mono ?_
     rintro (e : Ending) w4 ⟨rfl, rfl⟩
     show K _ _
     refine outA hK ?_ fun hHeld => ?_
     ·exact ⟨g0.box2 0 rfl, x0'⟩
     clear hK K
     refine tkA 6 hHeld ?_
     refine tkA 7 hHeld ?_
     refine tkA 8 hHeld ?_
     refine tkA 9 hHeld ?_
     refine tkA 10 hHeld ?_
     refine tkA 11 hHeld ?_
     refine tkA 12 hHeld ?_
     refine tkA 13 hHeld ?_
     refine tkA 14 hHeld ?_
     refine skA 15 hHeld ?_
     refine skA 16 hHeld ?_
     refine skA 17 hHeld ?_
     refine skA 18 hHeld ?_
     refine skA 19 hHeld ?_
     refine skA 20 hHeld ?_
     refine skA 21 hHeld ?_
     refine skA 22 hHeld ?_
     refine skA 23 hHeld ?_
     refine skA 24 hHeld ?_
     refine skA 25 hHeld ?_
     refine skA 26 hHeld ?_
     refine skA 27 hHeld ?_
     refine skA 28 hHeld ?_
     refine skA 29 hHeld ?_
     refine skA 30 hHeld ?_
     refine skA 31 hHeld ?_
     refine tkA 32 hHeld ?_
     refine tkA 33 hHeld ?_
     refine wpAnyH_done (by kernel_rfl) ?_ _
     clear hHeld
     clear x0'
     go_wp2
     go_roundw
     case rel => exact ⟨i + 1, by go_num, by omega, g0, HF4⟩
     case measure => simp [intOf]; omega
    ·have t0 : (d1 != 0) = true := by simpa using h0
     have t0' : (d1 == 0) = false := by rw [beq_eq_false_iff_ne]; exact h0
     go_upto_region 6 with fail
     refine wp_region_held_drew (S := fun w' => (w'.cell? ⟨w.heap.size, 0, none⟩ = some (.int .i64 n) ∧ w'.cell? ⟨w.heap.size, 1, none⟩ = some (.slice (some ⟨b, o, none⟩) dl c)) ∧ w'.cell? ⟨b, o + i, none⟩ = some (.int .i64 d1) ∧ w'.cell? ⟨b, o + q, none⟩ = some (.int .i64 d2)) (by kernel_rfl) ⟨g0.box2 0 rfl, x0', x1'⟩ (fun hHeld => ?_)
     clear z0 z1
     obtain ⟨v0, hv0, g8⟩ : ∃ v0, v0 = wr.drew ∧ St w v0 _ := ⟨_, rfl, g0⟩
     rw [← hv0] at g0 x0' x1' hHeld ⊢
     clear hv0 g8 x0 x1 g
     refine tkA 0 hHeld ?_
     refine tkA 1 hHeld ?_
     refine tkA 2 hHeld ?_
     refine tkA 3 hHeld ?_
     refine tkA 4 hHeld ?_
     refine rcA 5 fun K hK => ?_
     go_simp
     refine (HIn.out _).mono ?_
     rintro (e : Ending) w4 ⟨rfl, rfl⟩
     show K _ _
     refine outA hK ?_ fun hHeld => ?_
     ·exact ⟨g0.box2 0 rfl, x0', x1'⟩
     clear hK K
     by_cases h2 : d2 = 0
     ·subst h2
      have HFf := Lib.hid (show FR = false by rw [HF3.out, t0']; rfl)
      have HXn := Lib.hid (show X = none by rw [HX.out, HFf.out]; rfl)
      refine tkA 6 hHeld ?_
      refine tkA 7 hHeld ?_
      refine tkA 8 hHeld ?_
      refine tkA 9 hHeld ?_
      refine tkA 10 hHeld ?_
      refine tkA 11 hHeld ?_
      refine tkA 12 hHeld ?_
      refine tkA 13 hHeld ?_
      refine tkA 14 hHeld ?_
      refine tkA 15 hHeld ?_
      refine tkA 16 hHeld ?_
      refine tkA 17 hHeld ?_
      refine tkA 18 hHeld ?_
      refine tkA 19 hHeld ?_
      refine tkA 20 hHeld ?_
      refine tkA 21 hHeld ?_
      refine tkA 22 hHeld ?_
      refine tkA 23 hHeld ?_
      refine tkA 24 hHeld ?_
      refine tkA 25 hHeld ?_
      refine tkA 26 hHeld ?_
      refine tkA 27 hHeld ?_
      refine tkA 28 hHeld ?_
      refine tkA 29 hHeld ?_
      refine tkA 30 hHeld ?_
      refine tkA 31 hHeld ?_
      refine tkA 32 hHeld ?_
      refine tkA 33 hHeld ?_
      refine wpAnyH_done (by kernel_rfl) ?_ _
      clear hHeld
      clear x0' x1' t0 t0' h0
      go_wp2
      go_ret2
      exact ⟨g0.below, .inl ⟨HXn.out, rfl⟩⟩
     ·have t2 : (d2 == 0) = false := by rw [beq_eq_false_iff_ne]; exact h2
      have HF4 := Lib.hid (show FR = (List.range' (i + 1) (dl - (i + 1))).all (frq n D) by rw [HF3.out, show (d2 != 0) = true by simpa using h2]; simp)
      refine tkA 6 hHeld ?_
      refine tkA 7 hHeld ?_
      refine tkA 8 hHeld ?_
      refine tkA 9 hHeld ?_
      refine tkA 10 hHeld ?_
      refine tkA 11 hHeld ?_
      refine tkA 12 hHeld ?_
      refine tkA 13 hHeld ?_
      refine tkA 14 hHeld ?_
      refine tkA 15 hHeld ?_
      refine tkA 16 hHeld ?_
      refine tkA 17 hHeld ?_
      refine tkA 18 hHeld ?_
      refine tkA 19 hHeld ?_
      refine tkA 20 hHeld ?_
      refine tkA 21 hHeld ?_
      refine tkA 22 hHeld ?_
      refine tkA 23 hHeld ?_
      refine tkA 24 hHeld ?_
      refine tkA 25 hHeld ?_
      refine tkA 26 hHeld ?_
      refine tkA 27 hHeld ?_
      refine tkA 28 hHeld ?_
      refine tkA 29 hHeld ?_
      refine tkA 30 hHeld ?_
      refine tkA 31 hHeld ?_
      refine tkA 32 hHeld ?_
      refine tkA 33 hHeld ?_
      refine wpAnyH_done (by kernel_rfl) ?_ _
      clear hHeld
      clear x0' x1' t0 t0' t2 h0 h2
      go_wp2
      go_roundw
      case rel => exact ⟨i + 1, by go_num, by omega, g0, HF4⟩
      case measure => simp [intOf]; omega
  ·obtain rfl : dl = i := by omega
   have hFt : FR = true := by rw [HF.out, Nat.sub_self]; rfl
   have HX2 := Lib.hid (show X = partsF n D n 0 [] [] by rw [HX.out, hFt]; rfl)
   have ii : ¬ ((dl : Int) < (dl : Int)) := by omega
   have g2 := (g.emptyStrs).empty
   simp only [World.size_alloc] at g2
   have g3 := g2.toFront 1 rfl
   simp only [List.eraseIdx_cons_succ, List.eraseIdx_cons_zero] at g3
   clear HF HX hFt g g2
   go_wp2
   clear z0 z1
   go_loopw [5, 6, 7] (fun v5 v6 v7 wr => ∃ (i f : Nat) (out done : List Nat), v7 = .int .i64 i ∧ f + i = n ∧ St w wr [strIt v5 (out.map nmB), .own v6 (done.map Int.ofNat), .box w.heap.size [.int .i64 n, .slice A dl c], .ro (.slice A dl c) D] ∧ Hid (X = partsF n D f i out done) ∧ Hid (out.Pairwise (· ≤ ·)) ∧ Hid (∀ k, k ∈ out → k < 12) ∧ Hid (out.length ≤ i) ∧ Hid (done.length ≤ 4 * i)) (fun _ _ v7 _ => n - (intOf v7).toNat)
   case atStart => exact ⟨0, n, [], [], rfl, by omega, g3, HX2, Lib.hid .nil, Lib.hid (fun k hk => absurd hk (by simp)), Lib.hid (by simp), Lib.hid (by simp)⟩
   case round =>
    clear g3 HX2
    obtain ⟨i, f, out, done, rfl, hf, g, HXp, HSo, HK, HOl, HDl⟩ := hrel
    obtain ⟨z0, z1⟩ := g.box2 2 rfl
    by_cases hi : i < n
    ·obtain ⟨f, rfl⟩ : ∃ q, f = q + 1 := ⟨f - 1, by omega⟩
     have ij : (i : Int) < (n : Int) := by omega
     obtain ⟨DI, hDI⟩ : ∃ DI, DI = done.map Int.ofNat := ⟨_, rfl⟩
     have hDIl : DI.length ≤ 16 := by rw [hDI, List.length_map]; have := HDl.out; omega
     have hfn := found_nat done i
     rw [← hDI] at g hfn
     have HDI := Lib.hid hDI
     obtain ⟨F, hF⟩ : ∃ F, F = found DI (i : Int) := ⟨_, rfl⟩
     have HFd := Lib.hid (fun (v : Value) (W : World) (x1 : Ints W v DI) => find_any v DI (i : Int) W x1)
     rw [← hF] at hfn HFd
     clear hF hDI
     go_wp2_with fail
     refine (HFd.out _ _ (g.ownInts 1 rfl)).mono ?_
     rintro (e : Ending) w3 ⟨rfl, rfl⟩
     by_cases hd : i ∈ done
     ·have hF0 := hfn.2 hd
      have HX3 := Lib.hid (show X = partsF n D f (i + 1) out done by rw [HXp.out]; exact if_pos hd)
      rw [HDI.out] at g
      clear hfn hd HXp
      go_wp2
      go_roundw
      case rel => exact ⟨i + 1, f, out, done, by go_num, by omega, g, HX3, HSo, HK, Lib.hid (by have := HOl.out; omega), Lib.hid (by have := HDl.out; omega)⟩
      case measure => simp [intOf]; omega
     ·have hF0 : ¬ (0 ≤ F) := fun h => hd (hfn.1 h)
      obtain ⟨P, hP⟩ : ∃ P, P = part n D i := ⟨_, rfl⟩
      have HX3 := Lib.hid (show X = match fnd n D P with | none => none | some k => partsF n D f (i + 1) (ins k out) (done ++ P) by rw [HXp.out, hP]; exact if_neg hd)
      have hPo := HPo.out i hi
      rw [← hP] at hPo
      have hPl := len_le h1 h4 (fun x hx => (hPo.2.1 x hx).1) hPo.1
      have HPb := Lib.hid (fun x hx => (hPo.2.1 x hx).1)
      have HPt1 := Lib.hid (fun W x => HPt.out W i hi x)
      rw [← hP] at HPt1
      clear hfn hd HXp hP hPo
      go_wp2_with fail
      refine (HPt1.out _ (g.roInts 3 rfl)).mono ?_
      rintro (e : Ending) w3 ⟨u3, rfl, ho3, hb3⟩
      obtain ⟨A3, n3, c3, rfl⟩ := ho3.slice
      have g3 := g.pushOwn hb3 ho3
      obtain ⟨PI, hPI⟩ : ∃ PI, PI = P.map Int.ofNat := ⟨_, rfl⟩
      rw [← hPI] at g3
      have hPIl : PI.length = P.length := by rw [hPI, List.length_map]
      have Hlen := Lib.hid (show DI.length + PI.length ≤ 17592186044416 by omega)
      have HPI := Lib.hid hPI
      have hn3 : n3 = P.length := by
       obtain ⟨A9, c9, e9, _⟩ := id (g3.ownInts 0 rfl)
       simp only [Value.slice.injEq] at e9
       rw [e9.2.1, hPIl]
      have HDP := Lib.hid (show (done ++ P).map Int.ofNat = DI ++ PI by rw [List.map_append, ← HDI.out, ← hPI])
      have Hn3 := Lib.hid hn3
      clear g z0 z1 hb3 ho3 hPI hPIl hn3
      go_wp2_with (at_builtin; refine wp_append_ints rfl (.tmp 84) (.tmp 85) rfl w.heap.size _ _ DI PI rfl rfl (g3.own 2 rfl) (g3.ownInts 0 rfl) Hlen.out g3.size ?_; intro v1 w7 ho1 hg1 hb1; have h5 := g3.appended 2 rfl ho1 hg1 hb1)
      refine (l5Names_any _).mono ?_
      rintro (e : Ending) w8 ⟨B8, rfl, hN8, hlo8, hhi8, hb8⟩
      simp only [List.set_cons_zero, List.set_cons_succ] at h5
      have h6 := h5.hold hb8 (fun W => NamesAt W B8) (fun W hk k hk12 => (World.cell?_of_block (hk B8 hlo8 hhi8)).trans (hN8 k hk12))
      obtain ⟨bs, hbs⟩ : ∃ bs, bs = List.range' w7.heap.size (w8.heap.size - w7.heap.size) := ⟨_, rfl⟩
      rw [← hbs, ← HDP.out] at h6
      obtain ⟨FD, hFD⟩ : ∃ FD, FD = fnd n D P := ⟨_, rfl⟩
      have HFD := Lib.hid (show FD = (List.range' 0 (12 - 0)).foldl (stF n D P) none by rw [hFD, fnd_stF])
      rw [← hFD] at HX3
      have HFi1 := Lib.hid (fun (k : Nat) (hk : k < 12) (hr : P.length = rk k) => HFi.out P k hk hr HPb.out)
      clear g3 ho1 hg1 hb1 h5 hN8 hlo8 hhi8 hb8 hbs hFD
      go_wp2
      go_loopw [9, 11] (fun v9 v11 wr => ∃ (k : Nat) (fo : Option Nat), v11 = .int .i64 k ∧ v9 = .string (fnm fo) ∧ k ≤ 12 ∧ Hid (FD = (List.range' k (12 - k)).foldl (stF n D P) fo) ∧ Hid (∀ q, fo = some q → q < 12) ∧ St w wr [.held bs (fun W => NamesAt W B8), .own (.slice A3 n3 c3) PI, strIt u5 (out.map nmB), .own v1 ((done ++ P).map Int.ofNat), .box w.heap.size [.int .i64 n, .slice A dl c], .ro (.slice A dl c) D]) (fun _ v11 _ => 12 - (intOf v11).toNat)
      case atStart => exact ⟨0, none, rfl, rfl, by omega, HFD, Lib.hid (fun q hq => by cases hq), h6⟩
      case round =>
       clear h6 HFD
       obtain ⟨k, fo, rfl, rfl, b1, HFo, HF12, g⟩ := hrel
       by_cases hk : k < 12
       ·have HFs := Lib.hid (HFo.out.trans (stF_cons n D P fo hk))
        have HX8 := Lib.hid (fun (W : World) (h : NamesAt W B8) => h k hk)
        have hix := nm_index hk
        have hr12 := rk_pos hk
        have HOne := Lib.hid (fun W => l5One_any k W hk)
        have ik : (k : Int) < 12 := by omega
        have g0 := g.drew
        by_cases hr : rk k = P.length
        ·have HFi2 := Lib.hid (HFi1.out k hk hr.symm)
         obtain ⟨bb, hbb⟩ : ∃ bb, bb = bt n D (rk k) (mx k) P (rk k) [] := ⟨_, rfl⟩
         have hst : stF n D P fo k = if bb = true then some k else fo := by
          unfold stF
          rw [← hbb]
          by_cases hb : bb = true
          ·rw [if_pos ⟨hr, hb⟩, if_pos hb]
          ·rw [if_neg (fun h => hb h.2), if_neg hb]
         have HF3 := Lib.hid (show FD = (List.range' (k + 1) (12 - (k + 1))).foldl (stF n D P) (if bb = true then some k else fo) by rw [HFs.out, hst])
         have HFi3 := Lib.hid (fun (W : World) (b' : Value) (x1 : Ints W (.slice A dl c) D) (x2 : Ints W b' (mx k)) (x3 : Ints W (.slice A3 n3 c3) PI) => (show Calls Tryz.prog 74 #[.agg #[.int .i64 n, .slice A dl c], .slice A3 n3 c3, .slice none 0 0, .agg #[.int .i64 (rk k), b']] W (fun e w' => e = .returned (.bool bb) ∧ Below W.heap.size W w') by
          rw [hbb]
          exact HFi2.out _ b' (.slice none 0 0) _ W (by simp) (fun x hx => absurd hx (by simp)) x1 x2 ⟨none, 0, rfl, by simp, by simp, fun h => absurd h (by simp)⟩ (by rw [← HPI.out]; exact x3)))
         obtain ⟨nm, hnm⟩ : ∃ nm, nm = nmB k := ⟨_, rfl⟩
         obtain ⟨r, hrk⟩ : ∃ r, r = rk k := ⟨_, rfl⟩
         rw [← hnm] at hix HX8 HOne
         rw [← hrk] at hix hr12 hr HFi3
         have hrn : r = n3 := by rw [Hn3.out, hr]
         have HRk := Lib.hid hrk
         have wu : IntKind.u8.wrap (48 + (r : Int) - 48) = (r : Int) := by rw [show (48 + (r : Int) - 48) = r by omega]; exact u8_ok (by omega)
         have wi : IntKind.i64.wrap (r : Int) = (r : Int) := wrap_ok (by omega) (by omega)
         have Hnm := Lib.hid hnm
         have x8 := HX8.out _ (g0.heldR 0 rfl)
         subst hrn
         clear hbb hst HFs HFo hnm hrk hr
         go_upto_region 21 with fail
         refine wp_region_held_drew (S := fun w' => (w'.cell? ⟨w.heap.size, 0, none⟩ = some (.int .i64 n) ∧ w'.cell? ⟨w.heap.size, 1, none⟩ = some (.slice A dl c)) ∧ w'.cell? ⟨B8, k, none⟩ = some (.string nm)) (by kernel_rfl) ⟨g0.box2 4 rfl, x8⟩ (fun hHeld => ?_)
         obtain ⟨v0, hv0, g8⟩ : ∃ v0, v0 = wr.drew ∧ St w v0 _ := ⟨_, rfl, g0⟩
         rw [← hv0] at g0 x8 hHeld ⊢
         clear hv0 g8 g
         refine tkA 0 hHeld ?_
         refine tkA 1 hHeld ?_
         refine tkA 2 hHeld ?_
         refine tkA 3 hHeld ?_
         refine tkA 4 hHeld ?_
         refine tkA 5 hHeld ?_
         refine tkA 6 hHeld ?_
         refine tkA 7 hHeld ?_
         refine tkA 8 hHeld ?_
         refine tkA 9 hHeld ?_
         refine tkA 10 hHeld ?_
         refine tkA 11 hHeld ?_
         refine tkA 12 hHeld ?_
         refine tkA 13 hHeld ?_
         refine tkA 14 hHeld ?_
         refine tkA 15 hHeld ?_
         refine tkA 16 hHeld ?_
         refine rcA 17 fun K hK => ?_
         go_simp
         refine (HOne.out _).mono ?_
         rintro (e : Ending) w4 ⟨u9, rfl, ho9, hb9⟩
         obtain ⟨A9, n9, c9, rfl⟩ := ho9.slice
         have g1 := g0.pushOwn hb9 ho9
         show K _ _
         refine outA hK ?_ fun hHeld => ?_
         ·exact ⟨g1.box2 5 rfl, HX8.out _ (g1.heldR 1 rfl)⟩
         clear hK K
         rw [← HRk.out]
         refine rcA 18 fun K hK => ?_
         go_simp
         refine (HFi3.out _ _ (g1.roInts 6 rfl) (g1.ownInts 0 rfl) (g1.ownInts 2 rfl)).mono ?_
         rintro (e : Ending) w5 ⟨rfl, hb5⟩
         have g2 := g1.on hb5
         show K _ _
         refine outA hK ?_ fun hHeld => ?_
         ·exact ⟨g2.box2 5 rfl, HX8.out _ (g2.heldR 1 rfl)⟩
         clear hK K
         refine tkA 19 hHeld ?_
         refine wpAnyH_done (by kernel_rfl) ?_ _
         clear hHeld
         have g3 := g2.drop 1
         simp only [List.drop_succ_cons, List.drop_zero] at g3
         have x9 := HX8.out _ (g3.heldR 0 rfl)
         clear g0 g1 g2 x8 hb5 ho9 hb9
         cases bb with
         | true =>
          have HF4 := Lib.hid (show FD = (List.range' (k + 1) (12 - (k + 1))).foldl (stF n D P) (some k) by rw [HF3.out, if_pos rfl])
          go_wp2
          go_roundw
          case rel => exact ⟨k + 1, some k, by go_num, by rw [Hnm.out]; rfl, by omega, HF4, Lib.hid (fun q hq => by cases hq; exact hk), g3⟩
          case measure => simp [intOf]; omega
         | false =>
          have HF4 := Lib.hid (show FD = (List.range' (k + 1) (12 - (k + 1))).foldl (stF n D P) fo by rw [HF3.out, if_neg (by decide)])
          go_wp2
          go_roundw
          case rel => exact ⟨k + 1, fo, by go_num, rfl, by omega, HF4, HF12, g3⟩
          case measure => simp [intOf]; omega
        ·have hst : stF n D P fo k = fo := by unfold stF; rw [if_neg (fun h => hr h.1)]
         have HF4 := Lib.hid (show FD = (List.range' (k + 1) (12 - (k + 1))).foldl (stF n D P) fo by rw [HFs.out, hst])
         obtain ⟨nm, hnm⟩ : ∃ nm, nm = nmB k := ⟨_, rfl⟩
         obtain ⟨r, hrk⟩ : ∃ r, r = rk k := ⟨_, rfl⟩
         rw [← hnm] at hix HX8
         rw [← hrk] at hix hr12 hr
         have hrn : ((r : Int) == (n3 : Int)) = false := by rw [beq_eq_false_iff_ne]; have := Hn3.out; omega
         have wu : IntKind.u8.wrap (48 + (r : Int) - 48) = (r : Int) := by rw [show (48 + (r : Int) - 48) = r by omega]; exact u8_ok (by omega)
         have wi : IntKind.i64.wrap (r : Int) = (r : Int) := wrap_ok (by omega) (by omega)
         have x8 := HX8.out _ (g0.heldR 0 rfl)
         clear hst HFs HFo hnm hrk hr HOne
         go_upto_region 21 with fail
         refine wp_region_held_drew (S := fun w' => w'.cell? ⟨B8, k, none⟩ = some (.string nm)) (by kernel_rfl) x8 (fun hHeld => ?_)
         refine tkA 0 hHeld ?_
         refine tkA 1 hHeld ?_
         refine tkA 2 hHeld ?_
         refine tkA 3 hHeld ?_
         refine tkA 4 hHeld ?_
         refine tkA 5 hHeld ?_
         refine tkA 6 hHeld ?_
         refine tkA 7 hHeld ?_
         refine tkA 8 hHeld ?_
         refine tkA 9 hHeld ?_
         refine tkA 10 hHeld ?_
         refine skA 11 hHeld ?_
         refine skA 12 hHeld ?_
         refine skA 13 hHeld ?_
         refine skA 14 hHeld ?_
         refine skA 15 hHeld ?_
         refine skA 16 hHeld ?_
         refine skA 17 hHeld ?_
         refine skA 18 hHeld ?_
         refine tkA 19 hHeld ?_
         refine wpAnyH_done (by kernel_rfl) ?_ _
         clear hHeld
         clear g x8
         go_wp2
         go_roundw
         case rel => exact ⟨k + 1, fo, by go_num, rfl, by omega, HF4, HF12, g0⟩
         case measure => simp [intOf]; omega
       ·obtain rfl : k = 12 := by omega
        have hFf : FD = fo := HFo.out
        subst hFf
        have g3 := g.drop 2
        simp only [List.drop_succ_cons, List.drop_zero] at g3
        clear HFo g
        cases FD with
        | none =>
         have HXn := Lib.hid (show X = none from HX3.out)
         simp only [fnm]
         go_wp2
         go_ret2
         exact ⟨g3.below, .inl ⟨HXn.out, rfl⟩⟩
        | some q =>
         have HX5 := Lib.hid (show X = partsF n D f (i + 1) (ins q out) (done ++ P) from HX3.out)
         have hq := HF12.out q rfl
         have hfull := nm_full hq
         have HGt := Lib.hid (fun (j : Nat) (hj : j < out.length) => (nm_gtr (HK.out (out.getD j 0) (getD_mem hj)) hq))
         obtain ⟨Ao, co, rfl, -, -⟩ := g3.strVal 0 rfl
         obtain ⟨nmq, hnq⟩ : ∃ nmq, nmq = nmB q := ⟨_, rfl⟩
         obtain ⟨LL, hLL⟩ : ∃ LL, LL = out.map nmB := ⟨_, rfl⟩
         have hLl : LL.length = out.length := by rw [hLL, List.length_map]
         obtain ⟨ol, hol⟩ : ∃ ol, ol = LL.length := ⟨_, rfl⟩
         have HLl := Lib.hid hol
         have ho4 : ol ≤ 4 := by have := HOl.out; omega
         have HOut := Lib.hid (show out.length = ol by omega)
         simp only [fnm]
         rw [← hLL] at g3 ⊢
         rw [← hol] at g3 ⊢
         rw [← hnq] at hfull ⊢
         have HLg := Lib.hid (fun (j : Nat) (hj : j < ol) => show LL[j]? = some (nmB (out.getD j 0)) by
          have hj2 : j < out.length := by omega
          rw [hLL, List.getElem?_map, List.getElem?_eq_getElem hj2]
          simp [List.getD, List.getElem?_eq_getElem hj2])
         rw [← hnq] at HGt
         have HS2 := Lib.hid (ins_sorted q out HSo.out)
         have HK2 := Lib.hid (show ∀ k, k ∈ ins q out → k < 12 from fun k hk => (ins_mem hk).elim (fun e => e ▸ hq) (HK.out k))
         have HO2 := Lib.hid (show (ins q out).length ≤ i + 1 by rw [ins_len]; have := HOl.out; omega)
         have HD2 := Lib.hid (show (done ++ P).length ≤ 4 * (i + 1) by rw [List.length_append]; have := HDl.out; omega)
         have HEs := Lib.hid (fun (p : Nat) (hp : p ≤ ol) (hgt : ∀ j, p ≤ j → j < out.length → q < out.getD j 0) (hle : p = 0 ∨ out.getD (p - 1) 0 ≤ q) => show (([] ++ LL.take p) ++ [nmq]) ++ LL.drop p = (ins q out).map nmB by
          rw [ins_at q out p HSo.out (by omega) hgt hle, hLL, hnq, List.map_append, List.map_cons, List.map_take, List.map_drop]
          simp)
         have HX4 := HX5
         clear hLL hLl hol hnq HX3 HX5
         go_wp2
         go_loopw [12] (fun v12 wr => ∃ p : Nat, v12 = .int .i64 p ∧ p ≤ ol ∧ St w wr [strIt (.slice Ao ol co) LL, .own v1 ((done ++ P).map Int.ofNat), .box w.heap.size [.int .i64 n, .slice A dl c], .ro (.slice A dl c) D] ∧ Hid (∀ j, p ≤ j → j < out.length → q < out.getD j 0)) (fun v12 _ => (intOf v12).toNat)
         case atStart => exact ⟨ol, rfl, Nat.le_refl _, g3, Lib.hid (fun j h1 h2 => absurd h2 (by have := HOut.out; omega))⟩
         case round =>
          clear g3
          obtain ⟨p, rfl, a2, g, HQ⟩ := hrel
          by_cases hp : 0 < p
          ·have ip : (0 : Int) < (p : Int) := by omega
           obtain ⟨p1, hp1⟩ : ∃ p', p' + 1 = p := ⟨p - 1, by omega⟩
           have hsub : (p : Int) - 1 = (p1 : Int) := by omega
           have hpo : p1 < ol := by omega
           have hgr := HGt.out p1 (by rw [HOut.out]; omega)
           have x0 := HLg.out p1 hpo
           obtain ⟨nmp, hnp⟩ : ∃ nmp, nmp = nmB (out.getD p1 0) := ⟨_, rfl⟩
           rw [← hnp] at hgr x0
           rw [Bool.not_or] at hgr
           clear hnp
           have Hp1 := Lib.hid hp1
           obtain ⟨A0, c0, e0, _, h0⟩ := g.strs 0 rfl
           simp only [Value.slice.injEq] at e0
           obtain ⟨b0, o0, eA, _, _, hc0⟩ := h0 (by rw [← HLl.out]; omega)
           obtain ⟨rfl, -, -⟩ := e0
           subst eA
           have x1 := hc0 p1 nmp x0
           have ipo : (p1 : Int) < (ol : Int) := by omega
           clear hc0 h0 x0 hp1
           by_cases hlt : q < out.getD p1 0
           ·have hg1 := hgr.trans (decide_eq_true hlt)
            obtain ⟨hg2, hg3⟩ := (Bool.and_eq_true _ _).mp hg1
            rw [Bool.not_eq_true'] at hg2 hg3
            have HQ2 := Lib.hid (show ∀ j, p1 ≤ j → j < out.length → q < out.getD j 0 from fun j h1 h2 => by
             by_cases hjp : j = p1
             ·rw [hjp]; exact hlt
             ·exact HQ.out j (by have := Hp1.out; omega) h2)
            clear hgr HQ hlt hg1
            go_wp2
            go_roundw
            case rel => exact ⟨p1, by go_num, by omega, g, HQ2⟩
            case measure => simp [intOf]; try omega
           ·have hg1 := hgr.trans (decide_eq_false hlt)
            have HEq := Lib.hid (HEs.out p a2 HQ.out (.inr (by rw [← Hp1.out, Nat.add_sub_cancel]; omega)))
            clear hgr HQ hlt
            obtain ⟨hs0⟩ : Nonempty (StrsAt _ _ _ _ _) := ⟨g.strs 0 rfl⟩
            have hr1 := (cutToS hs0 p a2).1
            have hr2 := (cutFromS hs0 p a2).1
            clear hs0
            go_upto_region 28 with fail
            have g0 := g.drew
            refine wp_region_held_drew (S := fun w' => True) (by kernel_rfl) trivial (fun hHeld => ?_)
            clear g
            refine tkA 1 hHeld ?_
            refine tkA 2 hHeld ?_
            refine tkA 3 hHeld ?_
            refine tkA 5 hHeld ?_
            refine tkA 8 hHeld ?_
            refine tkA 9 hHeld ?_
            refine tkA 10 hHeld ?_
            refine wpAnyH_ready (rs := [0, 6]) (by kernel_rfl) (by simp) ?_
            refine ready_cons rfl (fun K hK => ?_) (ready_cons rfl (fun K hK => ?_) AllReadyH.nil)
            ·go_simp
             have g5 := g0.emptyStrs
             refine outA hK ?_ fun hHeld => ?_
             ·exact trivial
             clear hK K
             clear g0
             refine wpAnyH_ready (rs := [4, 6]) (by kernel_rfl) (by simp) ?_
             refine ready_cons rfl (fun K hK => ?_) (ready_cons rfl (fun K hK => ?_) AllReadyH.nil)
             ·refine step_append_strs rfl (.tmp 135) (.tmp 138) rfl g5 0 rfl (cutToS (g5.strs 1 rfl) p a2).2 (by have := HLl.out; simp only [List.length_take, List.length_nil]; omega) (by first | rfl | (rw [World.size_alloc]; rfl)) (by first | rfl | (rw [World.size_alloc]; rfl)) fun vA w6 g6 => ?_
              simp only [List.set_cons_zero] at g6
              refine outA hK ?_ fun hHeld => ?_
              ·exact trivial
              clear hK K g5
              refine rcA 6 fun K hK => ?_
              go_simp
              have g7 := g6.litStr nmq
              refine outA hK ?_ fun hHeld => ?_
              ·exact trivial
              clear hK K
              clear g6
              refine rcA 7 fun K hK => ?_
              refine step_append_strs rfl (.tmp 139) (.tmp 141) rfl g7 1 rfl (g7.strs 0 rfl) (by have := HLl.out; simp only [List.length_append, List.length_take, List.length_nil, List.length_cons]; omega) (by first | rfl | (rw [World.size_alloc]; rfl)) (by first | rfl | (rw [World.size_alloc]; rfl)) fun vB w7 g8 => ?_
              simp only [List.set_cons_zero, List.set_cons_succ] at g8
              refine outA hK ?_ fun hHeld => ?_
              ·exact trivial
              clear hK K
              refine rcA 11 fun K hK => ?_
              refine step_append_strs rfl (.tmp 142) (.tmp 145) rfl g8 1 rfl (cutFromS (g8.strs 2 rfl) p a2).2 (by have := HLl.out; simp only [List.length_append, List.length_take, List.length_drop, List.length_nil, List.length_cons]; omega) (by first | rfl | (rw [World.size_alloc]; rfl)) (by first | rfl | (rw [World.size_alloc]; rfl)) fun vC w8 g9 => ?_
              simp only [List.set_cons_zero, List.set_cons_succ] at g9
              rw [HEq.out] at g9
              refine outA hK ?_ fun hHeld => ?_
              ·exact trivial
              clear hK K
              refine tkA 12 hHeld ?_
              refine wpAnyH_done (by kernel_rfl) ?_ _
              clear hHeld
              have g10 := (((g9.drop 1).toFront 1 rfl).drop 1)
              simp only [List.drop_succ_cons, List.drop_zero, List.eraseIdx_cons_succ, List.eraseIdx_cons_zero] at g10
              clear g8 g9 g7 hr1 hr2
              go_wp2
              go_roundw
              case rel => exact ⟨i + 1, f, _, _, by go_num, by omega, g10, HX4, HS2, HK2, HO2, HD2⟩
              case measure => simp [intOf]; omega
             ·go_simp
              have g6 := g5.litStr nmq
              refine outA hK ?_ fun hHeld => ?_
              ·exact trivial
              clear hK K
              clear g5
              refine rcA 4 fun K hK => ?_
              refine step_append_strs rfl (.tmp 135) (.tmp 138) rfl g6 1 rfl (cutToS (g6.strs 2 rfl) p a2).2 (by have := HLl.out; simp only [List.length_take, List.length_nil]; omega) (by first | rfl | (rw [World.size_alloc]; rfl)) (by first | rfl | (rw [World.size_alloc]; rfl)) fun vA w6 g7 => ?_
              simp only [List.set_cons_zero, List.set_cons_succ] at g7
              refine outA hK ?_ fun hHeld => ?_
              ·exact trivial
              clear hK K g6
              refine rcA 7 fun K hK => ?_
              refine step_append_strs rfl (.tmp 139) (.tmp 141) rfl g7 1 rfl (g7.strs 0 rfl) (by have := HLl.out; simp only [List.length_append, List.length_take, List.length_nil, List.length_cons]; omega) (by first | rfl | (rw [World.size_alloc]; rfl)) (by first | rfl | (rw [World.size_alloc]; rfl)) fun vB w7 g8 => ?_
              simp only [List.set_cons_zero, List.set_cons_succ] at g8
              refine outA hK ?_ fun hHeld => ?_
              ·exact trivial
              clear hK K
              refine rcA 11 fun K hK => ?_
              refine step_append_strs rfl (.tmp 142) (.tmp 145) rfl g8 1 rfl (cutFromS (g8.strs 2 rfl) p a2).2 (by have := HLl.out; simp only [List.length_append, List.length_take, List.length_drop, List.length_nil, List.length_cons]; omega) (by first | rfl | (rw [World.size_alloc]; rfl)) (by first | rfl | (rw [World.size_alloc]; rfl)) fun vC w8 g9 => ?_
              simp only [List.set_cons_zero, List.set_cons_succ] at g9
              rw [HEq.out] at g9
              refine outA hK ?_ fun hHeld => ?_
              ·exact trivial
              clear hK K
              refine tkA 12 hHeld ?_
              refine wpAnyH_done (by kernel_rfl) ?_ _
              clear hHeld
              have g10 := (((g9.drop 1).toFront 1 rfl).drop 1)
              simp only [List.drop_succ_cons, List.drop_zero, List.eraseIdx_cons_succ, List.eraseIdx_cons_zero] at g10
              clear g8 g9 g7 hr1 hr2
              go_wp2
              go_roundw
              case rel => exact ⟨i + 1, f, _, _, by go_num, by omega, g10, HX4, HS2, HK2, HO2, HD2⟩
              case measure => simp [intOf]; omega
            ·go_simp
             have g5 := g0.litStr nmq
             refine outA hK ?_ fun hHeld => ?_
             ·exact trivial
             clear hK K
             clear g0
             refine rcA 0 fun K hK => ?_
             go_simp
             have g6 := g5.emptyStrs
             refine outA hK ?_ fun hHeld => ?_
             ·exact trivial
             clear hK K
             clear g5
             refine rcA 4 fun K hK => ?_
             refine step_append_strs rfl (.tmp 135) (.tmp 138) rfl g6 0 rfl (cutToS (g6.strs 2 rfl) p a2).2 (by have := HLl.out; simp only [List.length_take, List.length_nil]; omega) (by first | rfl | (rw [World.size_alloc]; rfl)) (by first | rfl | (rw [World.size_alloc]; rfl)) fun vA w6 g8 => ?_
             simp only [List.set_cons_zero] at g8
             have g7 := g8.toFront 1 rfl
             simp only [List.eraseIdx_cons_succ, List.eraseIdx_cons_zero] at g7
             refine outA hK ?_ fun hHeld => ?_
             ·exact trivial
             clear hK K g6 g8
             refine rcA 7 fun K hK => ?_
             refine step_append_strs rfl (.tmp 139) (.tmp 141) rfl g7 1 rfl (g7.strs 0 rfl) (by have := HLl.out; simp only [List.length_append, List.length_take, List.length_nil, List.length_cons]; omega) (by first | rfl | (rw [World.size_alloc]; rfl)) (by first | rfl | (rw [World.size_alloc]; rfl)) fun vB w7 g8 => ?_
             simp only [List.set_cons_zero, List.set_cons_succ] at g8
             refine outA hK ?_ fun hHeld => ?_
             ·exact trivial
             clear hK K
             refine rcA 11 fun K hK => ?_
             refine step_append_strs rfl (.tmp 142) (.tmp 145) rfl g8 1 rfl (cutFromS (g8.strs 2 rfl) p a2).2 (by have := HLl.out; simp only [List.length_append, List.length_take, List.length_drop, List.length_nil, List.length_cons]; omega) (by first | rfl | (rw [World.size_alloc]; rfl)) (by first | rfl | (rw [World.size_alloc]; rfl)) fun vC w8 g9 => ?_
             simp only [List.set_cons_zero, List.set_cons_succ] at g9
             rw [HEq.out] at g9
             refine outA hK ?_ fun hHeld => ?_
             ·exact trivial
             clear hK K
             refine tkA 12 hHeld ?_
             refine wpAnyH_done (by kernel_rfl) ?_ _
             clear hHeld
             have g10 := (((g9.drop 1).toFront 1 rfl).drop 1)
             simp only [List.drop_succ_cons, List.drop_zero, List.eraseIdx_cons_succ, List.eraseIdx_cons_zero] at g10
             clear g8 g9 g7 hr1 hr2
             go_wp2
             go_roundw
             case rel => exact ⟨i + 1, f, _, _, by go_num, by omega, g10, HX4, HS2, HK2, HO2, HD2⟩
             case measure => simp [intOf]; omega
          ·have ip : ¬ (0 : Int) < (p : Int) := by omega
           have HEq := Lib.hid (HEs.out p a2 HQ.out (.inl (by omega)))
           obtain ⟨hs0⟩ : Nonempty (StrsAt _ _ _ _ _) := ⟨g.strs 0 rfl⟩
           have hr1 := (cutToS hs0 p a2).1
           have hr2 := (cutFromS hs0 p a2).1
           clear hs0
           go_upto_region 28 with fail
           have g0 := g.drew
           refine wp_region_held_drew (S := fun w' => True) (by kernel_rfl) trivial (fun hHeld => ?_)
           clear g
           refine tkA 1 hHeld ?_
           refine tkA 2 hHeld ?_
           refine tkA 3 hHeld ?_
           refine tkA 5 hHeld ?_
           refine tkA 8 hHeld ?_
           refine tkA 9 hHeld ?_
           refine tkA 10 hHeld ?_
           refine wpAnyH_ready (rs := [0, 6]) (by kernel_rfl) (by simp) ?_
           refine ready_cons rfl (fun K hK => ?_) (ready_cons rfl (fun K hK => ?_) AllReadyH.nil)
           ·go_simp
            have g5 := g0.emptyStrs
            refine outA hK ?_ fun hHeld => ?_
            ·exact trivial
            clear hK K
            clear g0
            refine wpAnyH_ready (rs := [4, 6]) (by kernel_rfl) (by simp) ?_
            refine ready_cons rfl (fun K hK => ?_) (ready_cons rfl (fun K hK => ?_) AllReadyH.nil)
            ·refine step_append_strs rfl (.tmp 135) (.tmp 138) rfl g5 0 rfl (cutToS (g5.strs 1 rfl) p a2).2 (by have := HLl.out; simp only [List.length_take, List.length_nil]; omega) (by first | rfl | (rw [World.size_alloc]; rfl)) (by first | rfl | (rw [World.size_alloc]; rfl)) fun vA w6 g6 => ?_
             simp only [List.set_cons_zero] at g6
             refine outA hK ?_ fun hHeld => ?_
             ·exact trivial
             clear hK K g5
             refine rcA 6 fun K hK => ?_
             go_simp
             have g7 := g6.litStr nmq
             refine outA hK ?_ fun hHeld => ?_
             ·exact trivial
             clear hK K
             clear g6
             refine rcA 7 fun K hK => ?_
             refine step_append_strs rfl (.tmp 139) (.tmp 141) rfl g7 1 rfl (g7.strs 0 rfl) (by have := HLl.out; simp only [List.length_append, List.length_take, List.length_nil, List.length_cons]; omega) (by first | rfl | (rw [World.size_alloc]; rfl)) (by first | rfl | (rw [World.size_alloc]; rfl)) fun vB w7 g8 => ?_
             simp only [List.set_cons_zero, List.set_cons_succ] at g8
             refine outA hK ?_ fun hHeld => ?_
             ·exact trivial
             clear hK K
             refine rcA 11 fun K hK => ?_
             refine step_append_strs rfl (.tmp 142) (.tmp 145) rfl g8 1 rfl (cutFromS (g8.strs 2 rfl) p a2).2 (by have := HLl.out; simp only [List.length_append, List.length_take, List.length_drop, List.length_nil, List.length_cons]; omega) (by first | rfl | (rw [World.size_alloc]; rfl)) (by first | rfl | (rw [World.size_alloc]; rfl)) fun vC w8 g9 => ?_
             simp only [List.set_cons_zero, List.set_cons_succ] at g9
             rw [HEq.out] at g9
             refine outA hK ?_ fun hHeld => ?_
             ·exact trivial
             clear hK K
             refine tkA 12 hHeld ?_
             refine wpAnyH_done (by kernel_rfl) ?_ _
             clear hHeld
             have g10 := (((g9.drop 1).toFront 1 rfl).drop 1)
             simp only [List.drop_succ_cons, List.drop_zero, List.eraseIdx_cons_succ, List.eraseIdx_cons_zero] at g10
             clear g8 g9 g7 hr1 hr2
             go_wp2
             go_roundw
             case rel => exact ⟨i + 1, f, _, _, by go_num, by omega, g10, HX4, HS2, HK2, HO2, HD2⟩
             case measure => simp [intOf]; omega
            ·go_simp
             have g6 := g5.litStr nmq
             refine outA hK ?_ fun hHeld => ?_
             ·exact trivial
             clear hK K
             clear g5
             refine rcA 4 fun K hK => ?_
             refine step_append_strs rfl (.tmp 135) (.tmp 138) rfl g6 1 rfl (cutToS (g6.strs 2 rfl) p a2).2 (by have := HLl.out; simp only [List.length_take, List.length_nil]; omega) (by first | rfl | (rw [World.size_alloc]; rfl)) (by first | rfl | (rw [World.size_alloc]; rfl)) fun vA w6 g7 => ?_
             simp only [List.set_cons_zero, List.set_cons_succ] at g7
             refine outA hK ?_ fun hHeld => ?_
             ·exact trivial
             clear hK K g6
             refine rcA 7 fun K hK => ?_
             refine step_append_strs rfl (.tmp 139) (.tmp 141) rfl g7 1 rfl (g7.strs 0 rfl) (by have := HLl.out; simp only [List.length_append, List.length_take, List.length_nil, List.length_cons]; omega) (by first | rfl | (rw [World.size_alloc]; rfl)) (by first | rfl | (rw [World.size_alloc]; rfl)) fun vB w7 g8 => ?_
             simp only [List.set_cons_zero, List.set_cons_succ] at g8
             refine outA hK ?_ fun hHeld => ?_
             ·exact trivial
             clear hK K
             refine rcA 11 fun K hK => ?_
             refine step_append_strs rfl (.tmp 142) (.tmp 145) rfl g8 1 rfl (cutFromS (g8.strs 2 rfl) p a2).2 (by have := HLl.out; simp only [List.length_append, List.length_take, List.length_drop, List.length_nil, List.length_cons]; omega) (by first | rfl | (rw [World.size_alloc]; rfl)) (by first | rfl | (rw [World.size_alloc]; rfl)) fun vC w8 g9 => ?_
             simp only [List.set_cons_zero, List.set_cons_succ] at g9
             rw [HEq.out] at g9
             refine outA hK ?_ fun hHeld => ?_
             ·exact trivial
             clear hK K
             refine tkA 12 hHeld ?_
             refine wpAnyH_done (by kernel_rfl) ?_ _
             clear hHeld
             have g10 := (((g9.drop 1).toFront 1 rfl).drop 1)
             simp only [List.drop_succ_cons, List.drop_zero, List.eraseIdx_cons_succ, List.eraseIdx_cons_zero] at g10
             clear g8 g9 g7 hr1 hr2
             go_wp2
             go_roundw
             case rel => exact ⟨i + 1, f, _, _, by go_num, by omega, g10, HX4, HS2, HK2, HO2, HD2⟩
             case measure => simp [intOf]; omega
           ·go_simp
            have g5 := g0.litStr nmq
            refine outA hK ?_ fun hHeld => ?_
            ·exact trivial
            clear hK K
            clear g0
            refine rcA 0 fun K hK => ?_
            go_simp
            have g6 := g5.emptyStrs
            refine outA hK ?_ fun hHeld => ?_
            ·exact trivial
            clear hK K
            clear g5
            refine rcA 4 fun K hK => ?_
            refine step_append_strs rfl (.tmp 135) (.tmp 138) rfl g6 0 rfl (cutToS (g6.strs 2 rfl) p a2).2 (by have := HLl.out; simp only [List.length_take, List.length_nil]; omega) (by first | rfl | (rw [World.size_alloc]; rfl)) (by first | rfl | (rw [World.size_alloc]; rfl)) fun vA w6 g8 => ?_
            simp only [List.set_cons_zero] at g8
            have g7 := g8.toFront 1 rfl
            simp only [List.eraseIdx_cons_succ, List.eraseIdx_cons_zero] at g7
            refine outA hK ?_ fun hHeld => ?_
            ·exact trivial
            clear hK K g6 g8
            refine rcA 7 fun K hK => ?_
            refine step_append_strs rfl (.tmp 139) (.tmp 141) rfl g7 1 rfl (g7.strs 0 rfl) (by have := HLl.out; simp only [List.length_append, List.length_take, List.length_nil, List.length_cons]; omega) (by first | rfl | (rw [World.size_alloc]; rfl)) (by first | rfl | (rw [World.size_alloc]; rfl)) fun vB w7 g8 => ?_
            simp only [List.set_cons_zero, List.set_cons_succ] at g8
            refine outA hK ?_ fun hHeld => ?_
            ·exact trivial
            clear hK K
            refine rcA 11 fun K hK => ?_
            refine step_append_strs rfl (.tmp 142) (.tmp 145) rfl g8 1 rfl (cutFromS (g8.strs 2 rfl) p a2).2 (by have := HLl.out; simp only [List.length_append, List.length_take, List.length_drop, List.length_nil, List.length_cons]; omega) (by first | rfl | (rw [World.size_alloc]; rfl)) (by first | rfl | (rw [World.size_alloc]; rfl)) fun vC w8 g9 => ?_
            simp only [List.set_cons_zero, List.set_cons_succ] at g9
            rw [HEq.out] at g9
            refine outA hK ?_ fun hHeld => ?_
            ·exact trivial
            clear hK K
            refine tkA 12 hHeld ?_
            refine wpAnyH_done (by kernel_rfl) ?_ _
            clear hHeld
            have g10 := (((g9.drop 1).toFront 1 rfl).drop 1)
            simp only [List.drop_succ_cons, List.drop_zero, List.eraseIdx_cons_succ, List.eraseIdx_cons_zero] at g10
            clear g8 g9 g7 hr1 hr2
            go_wp2
            go_roundw
            case rel => exact ⟨i + 1, f, _, _, by go_num, by omega, g10, HX4, HS2, HK2, HO2, HD2⟩
            case measure => simp [intOf]; omega
    ·obtain rfl : n = i := by omega
     have HXe := Lib.hid (show X = some out by rw [HXp.out, show f = 0 by omega]; rfl)
     have hs := g.strs 0 rfl
     obtain ⟨Ao, co, rfl, -, -⟩ := g.strVal 0 rfl
     have ij : ¬ ((n : Int) < (n : Int)) := by omega
     obtain ⟨z0, z1⟩ := g.box2 2 rfl
     obtain ⟨ol, hol⟩ : ∃ ol, ol = (out.map nmB).length := ⟨_, rfl⟩
     have gb := g.below
     rw [← hol] at hs ⊢
     clear hol g
     go_wp2
     go_ret2
     exact ⟨gb, .inr ⟨out, _, HXe.out, rfl, hs⟩⟩
end Car
end Go.Proofs.YtbnefjhljfbecaaGreatDoor
