import Derived.Test.YtbnefjhljfbecaaGreatDoorW23
import Derived.Test.YtbnefjhljfbecaaGreatDoorW33
import Derived.Test.YtbnefjhljfbecaaGreatDoorW38
import Derived.Test.YtbnefjhljfbecaaGreatDoorW39
import Derived.Test.YtbnefjhljfbecaaGreatDoorW41
import Derived.Test.YtbnefjhljfbecaaGreatDoorW42
namespace Go.Proofs.YtbnefjhljfbecaaGreatDoor
set_option maxRecDepth 100000
section
open Go.RowKit
def emL (L : List (Int × List (List Int))) : List Int := L.map Prod.fst
def emM (p : Int) (n : Nat) (L : List (Int × List (List Int))) : List Mt := L.map fun x => rsM p n x.2
def RetEM (w : World) (p : Int) (n : Nat) (L : List (Int × List (List Int))) (e : Ending) (w' : World) : Prop := ∃ v v2 us2, e = .returned (.tuple #[v, v2]) ∧ us2.length = L.length ∧ St w w' [.own v (emL L), matsIt v2 us2 (emM p n L)]
theorem eigP_len {p : Int} {n : Nat} {A : List Int} {S : List (List Int)} (k : Nat) : (eigP p n A S k).length ≤ k := by
 rw [eigP]
 exact Nat.le_trans (List.length_filter_le _ _) (by simp)
set_option maxHeartbeats 4000000 in
theorem l7Eigen_any (p : Int) (n : Nat) (t u v : Value) (T A : List Int) (S : List (List Int)) (a : List Nat) (w : World) (ht : Ints w t T) (hu : Ints w u A) (hv : Ints w v (flat n S)) (hA : A.length = n * n) (rA : resid p A = true) (hS : Rf p n S a) (hn : n ≤ 28) (hP : isPrime p = true) :
  Calls Tryz.prog 36 #[.agg #[.int .i64 p, .int .i64 n, t], .agg #[.int .i64 p, .int .i64 n, .int .i64 n, u], .agg #[.int .i64 p, .int .i64 S.length, .int .i64 n, v]] w (RetEM w p n (eigP p n A S p.toNat)) := by
 obtain ⟨hp, hp'⟩ := isPrime_bd hP
 have h1 := ((((((St.start w).arg ht).arg hu).arg hv).box [.int .i64 p, .int .i64 n, t] 30).box [.int .i64 p, .int .i64 n, .int .i64 n, u] 32).box [.int .i64 p, .int .i64 S.length, .int .i64 n, v] 32
 replace h1 := h1.empty.emptyMats
 simp only [World.size_alloc] at h1
 obtain ⟨A0, k0, rfl, _, _, _⟩ := id ht
 obtain ⟨A1, k1, rfl, _, _, _⟩ := id hu
 obtain ⟨A2, k2, rfl, _, _, _⟩ := id hv
 have hnn := mul_le hn hn
 have hSl := rf_le_n hp hS
 have hW := hS.wf
 obtain ⟨P, hPn⟩ : ∃ P : Nat, p = P := ⟨p.toNat, by omega⟩
 have hFin : ∀ k : Nat, (k : Int) ≤ p → eigT p n A S k = S.length → eigP p n A S p.toNat = eigP p n A S k := fun k hk e => eigP_stop hP hS hA e p.toNat (by omega) (by omega)
 have hLe := fun (k : Nat) (hk : (k : Int) ≤ p) => eigT_le hP hS hA hk
 have hEw := fun (k : Nat) => eigS_wf hP n A S (k : Int)
 have HU := Lib.hid (fun W => l1Unit_any p n W hP (by omega))
 have HSc := Lib.hid (fun (W : World) (v1 : Value) (x : Int) (hx0 : -10007 ≤ x) (hx1 : x ≤ 0) (x1 : Ints W v1 (unitD n)) => l1Scale_any p n n x v1 _ W x1 (by rw [length_unitD]; omega) hp hp' (by omega) (by omega) (resid_unitD hp n))
 have HAd := Lib.hid (fun (W : World) (v1 v2 : Value) (x : Int) (x1 : Ints W v1 A) (x2 : Ints W v2 (scaleR p (x % p) (unitD n))) => l1Add_any p p n n n n v1 v2 _ _ W x1 x2 (by omega) (by rw [length_scaleR, length_unitD, hA]) hp hp' rA (resid_scaleR (by omega) _ _))
 have HTr := Lib.hid (fun (W : World) (v1 : Value) (k : Nat) (x1 : Ints W v1 (subD p n A k)) => l1Transpose_any p n v1 _ W x1 (length_subD _ hA) (by omega) hP (resid_subD (by omega) _ _ _))
 have HKe := Lib.hid (fun (W : World) (v1 : Value) (k : Nat) (x1 : Ints W v1 (trD n (subD p n A k))) => (show Calls Tryz.prog 67 #[.agg #[.int .i64 p, .int .i64 n, .int .i64 n, v1]] W (RetMat W p (kerL p n (colR n (subD p n A k))).length n (flat n (kerL p n (colR n (subD p n A k))))) from l1Kernel_any p n n v1 _ W x1 (length_trD _ _) (by omega) (by omega) (by omega) hP (resid_trD (by omega) (resid_subD (by omega) _ _ _))))
 have HMe := Lib.hid (fun (W : World) (v1 v2 : Value) (k : Nat) (x1 : Ints W v1 (flat n S)) (x2 : Ints W v2 (flat n (kerL p n (colR n (subD p n A k))))) => (show Calls Tryz.prog 66 #[.agg #[.int .i64 p, .int .i64 S.length, .int .i64 n, v1], .agg #[.int .i64 p, .int .i64 (kerL p n (colR n (subD p n A k))).length, .int .i64 n, v2]] W (RetMat W p (eigS p n A S k).length n (flat n (eigS p n A S k))) by
  obtain ⟨b, hb⟩ := kerL_rf hP n (colR n (subD p n A k))
  exact l1Meet_any p n v1 v2 S _ W x1 x2 hW hb.wf (by omega) (by have := rf_le_n hp hb; omega) (by omega) hP))
 have HFin := Lib.hid hFin
 have HLe := Lib.hid hLe
 have Hp' := Lib.hid hp'
 obtain ⟨Sl, hSle⟩ : ∃ Sl, Sl = S.length := ⟨_, rfl⟩
 obtain ⟨F2, hF2⟩ : ∃ F2, F2 = flat n S := ⟨_, rfl⟩
 rw [← hSle] at HMe HFin HLe h1 ⊢
 rw [← hF2] at HMe h1 ⊢
 have HSl := Lib.hid (show Sl ≤ 28 by omega)
 have HPn := Lib.hid hPn
 clear hPn ht hu hv hA rA hS hP hnn hSl hW hFin hLe hEw hSle hF2
 go_enter Tryz.func36, Tryz.ntmps36
 obtain ⟨z0, z1, z2, z3⟩ := h1.box4 2 rfl
 go_wp2
 clear z0 z1 z2 z3
 go_loopw [8, 9, 10, 11, 12] (fun v8 v9 v10 v11 _ wr => ∃ (k l : Nat) (A8 : Option Addr) (n8 c8 : Nat) (us : List Value), v8 = .slice A8 n8 c8 ∧ v11 = .int .i64 k ∧ v10 = .int .i64 l ∧ Hid (l + eigT p n A S k = Sl) ∧ k ≤ P ∧ Hid (us.length = (eigP p n A S k).length) ∧ St w wr [matsIt v9 us (emM p n (eigP p n A S k)), .own (.slice A8 n8 c8) (emL (eigP p n A S k)), .box (w.heap.size + 1 + 1) [.int .i64 p, .int .i64 Sl, .int .i64 n, .slice A2 F2.length k2], .box (w.heap.size + 1) [.int .i64 p, .int .i64 n, .int .i64 n, .slice A1 A.length k1], .box w.heap.size [.int .i64 p, .int .i64 n, .slice A0 T.length k0], .ro (.slice A2 F2.length k2) F2, .ro (.slice A1 A.length k1) A, .ro (.slice A0 T.length k0) T]) (fun _ _ _ v11 _ _ => P - (intOf v11).toNat)
 case atStart => exact ⟨0, Sl, _, _, _, [], rfl, rfl, rfl, Lib.hid (by simp [eigT]), by omega, Lib.hid rfl, h1⟩
 case round =>
  clear h1
  obtain ⟨k, l, A8, n8, c8, us, rfl, rfl, rfl, Hl, a1, Hul, h1⟩ := hrel
  obtain ⟨z0, z1, z2⟩ := h1.box3 4 rfl
  have hPn := HPn.out
  by_cases hk : k < P
  case neg =>
   have hkp : ¬ ((k : Int) < p) := by omega
   have HE := Lib.hid (show eigP p n A S k = eigP p n A S p.toNat by rw [show p.toNat = k by omega])
   clear hPn
   rw [HE.out] at h1 Hul
   obtain ⟨A9, n9, c9, hv9⟩ : ∃ A9 n9 c9, u9 = .slice A9 n9 c9 := by
    obtain ⟨A, c, e, _⟩ := h1.mats 0 rfl (by rw [emM, List.length_map]; exact Hul.out)
    exact ⟨A, _, c, e⟩
   subst hv9
   go_wp2
   refine bodyPost_ret (v := .tuple #[.slice A8 n8 c8, .slice A9 n9 c9]) (by simp [results, Tryz.results36, go_sem]) rfl ?_
   exact ⟨_, _, us, rfl, Hul.out, h1.re [1, 0] (by decide) (fun j => by rcases j with _ | _ | j <;> rfl)⟩
  case pos =>
   have hkp : (k : Int) < p := by omega
   by_cases hl0 : 0 < l
   case neg =>
    have hl0' : ¬ ((0 : Int) < (l : Int)) := by omega
    have HE := Lib.hid (show eigP p n A S k = eigP p n A S p.toNat from (HFin.out k (by omega) (by have := Hl.out; omega)).symm)
    clear hPn hl0
    rw [HE.out] at h1 Hul
    obtain ⟨A9, n9, c9, hv9⟩ : ∃ A9 n9 c9, u9 = .slice A9 n9 c9 := by
     obtain ⟨A, c, e, _⟩ := h1.mats 0 rfl (by rw [emM, List.length_map]; exact Hul.out)
     exact ⟨A, _, c, e⟩
    subst hv9
    go_wp2
    refine bodyPost_ret (v := .tuple #[.slice A8 n8 c8, .slice A9 n9 c9]) (by simp [results, Tryz.results36, go_sem]) rfl ?_
    exact ⟨_, _, us, rfl, Hul.out, h1.re [1, 0] (by decide) (fun j => by rcases j with _ | _ | j <;> rfl)⟩
   case pos =>
    have hl0' : (0 : Int) < (l : Int) := by omega
    have HSc1 := Lib.hid (fun W v1 x1 => HSc.out W v1 (-(k : Int)) (by have := Hp'.out; omega) (by omega) x1)
    have HAd1 := Lib.hid (fun W v1 v2 x1 x2 => (show Calls Tryz.prog 69 #[.agg #[.int .i64 p, .int .i64 n, .int .i64 n, v1], .agg #[.int .i64 p, .int .i64 n, .int .i64 n, v2]] W (RetMat W p n n (subD p n A k)) by
     have h9 := HAd.out W v1 v2 (-(k : Int)) x1 x2
     rwa [show addL A 1 (scaleR p ((-(k : Int)) % p) (unitD n)) p = subD p n A k by rw [subD, Int.zero_sub]] at h9))
    have HTr1 := Lib.hid (fun W v1 x1 => HTr.out W v1 k x1)
    have HKe1 := Lib.hid (fun W v1 x1 => HKe.out W v1 k x1)
    have HMe1 := Lib.hid (fun W v1 v2 x1 x2 => HMe.out W v1 v2 k x1 x2)
    have hT1 := HLe.out (k + 1) (by omega)
    rw [eigT] at hT1
    have HT := Lib.hid (show eigT p n A S (k + 1) = eigT p n A S k + (eigS p n A S k).length from rfl)
    have hYes := fun h => eigP_yes (p := p) (n := n) (A := A) (S := S) (k := k) h
    have hNo := fun h => eigP_no (p := p) (n := n) (A := A) (S := S) (k := k) h
    have Hpl := Lib.hid (eigP_len (p := p) (n := n) (A := A) (S := S) k)
    obtain ⟨E, hE⟩ : ∃ E, E = eigS p n A S k := ⟨_, rfl⟩
    rw [← hE] at HMe1 HT hT1 hYes hNo
    obtain ⟨El, hEl⟩ : ∃ El, El = E.length := ⟨_, rfl⟩
    rw [← hEl] at HMe1 HT hT1 hYes hNo
    have HYes := Lib.hid hYes
    have HNo := Lib.hid hNo
    have HEl := Lib.hid hEl
    obtain ⟨B9, hB9⟩ : ∃ B9, B9 = kerL p n (colR n (subD p n A k)) := ⟨_, rfl⟩
    rw [← hB9] at HKe1 HMe1
    obtain ⟨Bl, hBl⟩ : ∃ Bl, Bl = B9.length := ⟨_, rfl⟩
    rw [← hBl] at HKe1 HMe1
    have hle : El ≤ l := by have := Hl.out; omega
    have HL1 := Lib.hid (show (l - El) + eigT p n A S (k + 1) = Sl by rw [HT.out]; have := Hl.out; omega)
    have wk : IntKind.i64.wrap (-(k : Int)) = -(k : Int) := wrap_ok (by have := Hp'.out; omega) (by omega)
    have wl : IntKind.i64.wrap ((l : Int) - (El : Int)) = ((l - El : Nat) : Int) := by
     rw [show (l : Int) - (El : Int) = ((l - El : Nat) : Int) by omega]
     exact wrap_ok (by omega) (by have := HSl.out; have := Hl.out; omega)
    clear hE hEl hB9 hBl hT1 hYes hNo HSc HAd HTr HKe HMe hPn
    obtain ⟨y0, y1, y2, y3⟩ := h1.box4 2 rfl
    go_upto_region 7 with fail
    clear z0 z1 z2 y0 y1 y2 y3
    go_cut [12] (fun s12 wx => ∃ (B : Nat) (A9 : Option Addr) (n9 c9 : Nat), s12 = .pointer (some ⟨B, 0, none⟩) ∧ St w wx [.box B [.int .i64 p, .int .i64 El, .int .i64 n, .slice A9 n9 c9], .own (.slice A9 n9 c9) (flat n E), matsIt u9 us (emM p n (eigP p n A S k)), .own (.slice A8 n8 c8) (emL (eigP p n A S k)), .box (w.heap.size + 1 + 1) [.int .i64 p, .int .i64 Sl, .int .i64 n, .slice A2 F2.length k2], .box (w.heap.size + 1) [.int .i64 p, .int .i64 n, .int .i64 n, .slice A1 A.length k1], .box w.heap.size [.int .i64 p, .int .i64 n, .slice A0 T.length k0], .ro (.slice A2 F2.length k2) F2, .ro (.slice A1 A.length k1) A, .ro (.slice A0 T.length k0) T])
    case first =>
     have g := h1.drew
     clear h1
     refine wp_region_cut (S := fun w' => (w'.cell? ⟨w.heap.size + 1 + 1, 0, none⟩ = some (.int .i64 p) ∧ w'.cell? ⟨w.heap.size + 1 + 1, 1, none⟩ = some (.int .i64 Sl) ∧ w'.cell? ⟨w.heap.size + 1 + 1, 2, none⟩ = some (.int .i64 n) ∧ w'.cell? ⟨w.heap.size + 1 + 1, 3, none⟩ = some (.slice A2 F2.length k2)) ∧ (w'.cell? ⟨w.heap.size + 1, 0, none⟩ = some (.int .i64 p) ∧ w'.cell? ⟨w.heap.size + 1, 1, none⟩ = some (.int .i64 n) ∧ w'.cell? ⟨w.heap.size + 1, 2, none⟩ = some (.int .i64 n) ∧ w'.cell? ⟨w.heap.size + 1, 3, none⟩ = some (.slice A1 A.length k1)) ∧ (w'.cell? ⟨w.heap.size, 0, none⟩ = some (.int .i64 p) ∧ w'.cell? ⟨w.heap.size, 1, none⟩ = some (.int .i64 n) ∧ w'.cell? ⟨w.heap.size, 2, none⟩ = some (.slice A0 T.length k0))) 15 (by kernel_rfl) (by kernel_rfl) ⟨g.box4 2 rfl, g.box4 3 rfl, g.box3 4 rfl⟩ (fun hHeld => ?_)
     simp only [List.take_succ_cons, List.take_zero]
     generalize wr.drew = v0 at g hHeld ⊢
     refine tkA 0 hHeld ?_
     refine tkA 1 hHeld ?_
     refine tkA 2 hHeld ?_
     refine tkA 3 hHeld ?_
     refine tkA 4 hHeld ?_
     refine tkA 5 hHeld ?_
     refine tkA 7 hHeld ?_
     refine tkA 8 hHeld ?_
     refine wpAnyH_ready (rs := [6, 14]) (by kernel_rfl) (by simp) ?_
     refine ready_cons rfl (fun K hK => ?_) (ready_cons rfl (fun K hK => ?_) AllReadyH.nil)
     ·go_simp
      refine (HU.out _).mono ?_
      rintro (e : Ending) w4 ⟨u4, rfl, ho4, hb4⟩
      obtain ⟨A4, n4, c4, rfl⟩ := ho4.slice
      replace g := g.pushOwn hb4 ho4
      show K _ _
      refine outA hK ?_ fun hHeld => ?_
      ·exact ⟨g.box4 3 rfl, g.box4 4 rfl, g.box3 5 rfl⟩
      clear hK K
      refine wpAnyH_ready (rs := [9, 14]) (by kernel_rfl) (by simp) ?_
      refine ready_cons rfl (fun K hK => ?_) (ready_cons rfl (fun K hK => ?_) AllReadyH.nil)
      ·go_simp
       refine (HSc1.out _ _ (g.ownInts 0 rfl)).mono ?_
       rintro (e : Ending) w5 ⟨u5, rfl, ho5, hb5⟩
       obtain ⟨A5, n5, c5, rfl⟩ := ho5.slice
       replace g := g.pushOwn hb5 ho5
       show K _ _
       refine outA hK ?_ fun hHeld => ?_
       ·exact ⟨g.box4 4 rfl, g.box4 5 rfl, g.box3 6 rfl⟩
       clear hK K
       refine wpAnyH_ready (rs := [10, 14]) (by kernel_rfl) (by simp) ?_
       refine ready_cons rfl (fun K hK => ?_) (ready_cons rfl (fun K hK => ?_) AllReadyH.nil)
       ·go_simp
        refine (HAd1.out _ _ _ (g.roInts 8 rfl) (g.ownInts 0 rfl)).mono ?_
        rintro (e : Ending) w6 ⟨u6, rfl, ho6, hb6⟩
        obtain ⟨A6, n6, c6, rfl⟩ := ho6.slice
        replace g := g.pushOwn hb6 ho6
        show K _ _
        refine outA hK ?_ fun hHeld => ?_
        ·exact ⟨g.box4 5 rfl, g.box4 6 rfl, g.box3 7 rfl⟩
        clear hK K
        refine wpAnyH_ready (rs := [11, 14]) (by kernel_rfl) (by simp) ?_
        refine ready_cons rfl (fun K hK => ?_) (ready_cons rfl (fun K hK => ?_) AllReadyH.nil)
        ·go_simp
         refine (HTr1.out _ _ (g.ownInts 0 rfl)).mono ?_
         rintro (e : Ending) w7 ⟨u7, rfl, ho7, hb7⟩
         obtain ⟨A7, n7, c7, rfl⟩ := ho7.slice
         replace g := g.pushOwn hb7 ho7
         show K _ _
         refine outA hK ?_ fun hHeld => ?_
         ·exact ⟨g.box4 6 rfl, g.box4 7 rfl, g.box3 8 rfl⟩
         clear hK K
         refine wpAnyH_ready (rs := [12, 14]) (by kernel_rfl) (by simp) ?_
         refine ready_cons rfl (fun K hK => ?_) (ready_cons rfl (fun K hK => ?_) AllReadyH.nil)
         ·go_simp
          refine (HKe1.out _ _ (g.ownInts 0 rfl)).mono ?_
          rintro (e : Ending) w8 ⟨u8, rfl, ho8, hb8⟩
          obtain ⟨A3, n3, c3, rfl⟩ := ho8.slice
          replace g := g.pushOwn hb8 ho8
          show K _ _
          refine outA hK ?_ fun hHeld => ?_
          ·exact ⟨g.box4 7 rfl, g.box4 8 rfl, g.box3 9 rfl⟩
          clear hK K
          refine wpAnyH_ready (rs := [13, 14]) (by kernel_rfl) (by simp) ?_
          refine ready_cons rfl (fun K hK => ?_) (ready_cons rfl (fun K hK => ?_) AllReadyH.nil)
          ·go_simp
           refine (HMe1.out _ _ _ (g.roInts 10 rfl) (g.ownInts 0 rfl)).mono ?_
           rintro (e : Ending) w9 ⟨u9', rfl, ho9, hb9⟩
           obtain ⟨A9, n9, c9, rfl⟩ := ho9.slice
           replace g := g.pushOwn hb9 ho9
           show K _ _
           refine outA hK ?_ fun hHeld => ?_
           ·exact ⟨g.box4 8 rfl, g.box4 9 rfl, g.box3 10 rfl⟩
           clear hK K
           refine rcA 14 fun K hK => ?_
           ·go_simp
            replace g := (g.box [.int .i64 0, .int .i64 0, .int .i64 0, .slice none 0 0] 32).toBack
            simp only [List.cons_append, List.nil_append] at g
            refine hK.out _ _ ?_ (fun hHeld => ?_)
            ·exact ⟨g.box4 8 rfl, g.box4 9 rfl, g.box3 10 rfl⟩
            clear hK K
            generalize w9.alloc (.cells #[.int .i64 0, .int .i64 0, .int .i64 0, .slice none 0 0] 32) = va at g hHeld ⊢
            try simp only [Act.put, List.setIfInBounds_toArray, List.set_cons_zero, List.set_cons_succ]
            refine wpAnyH_done (by kernel_rfl) ?_ _
            show wpList _ _ _ _ _ _
            simp only [List.drop_succ_cons, List.drop_zero]
            clear hHeld
            obtain ⟨p0, p1, p2, p3⟩ := g.box4 14 rfl
            have f0 := g.free 14 rfl 0
            have f1 := g.free 14 rfl 1
            have f2 := g.free 14 rfl 2
            have f3 := g.free 14 rfl 3
            have g4 := (((g.setBox 14 rfl 0 (.int .i64 p)).setBox 14 rfl 1 (.int .i64 El)).setBox 14 rfl 2 (.int .i64 n)).setBox 14 rfl 3 (.slice A9 n9 c9)
            obtain ⟨r0, r1, r2, r3⟩ := g4.box4 14 rfl
            go_wp2
            go_meet
            exact ⟨_, A9, n9, c9, rfl, g4.re [14, 0, 6, 7, 8, 9, 10, 11, 12, 13] (by decide) (fun j => by rcases j with _ | _ | _ | _ | _ | _ | _ | _ | _ | _ | j <;> rfl)⟩
          ·go_simp
           replace g := (g.box [.int .i64 0, .int .i64 0, .int .i64 0, .slice none 0 0] 32).toBack
           simp only [List.cons_append, List.nil_append] at g
           refine hK.out _ _ ?_ (fun hHeld => ?_)
           ·exact ⟨g.box4 7 rfl, g.box4 8 rfl, g.box3 9 rfl⟩
           clear hK K
           generalize w8.alloc (.cells #[.int .i64 0, .int .i64 0, .int .i64 0, .slice none 0 0] 32) = va at g hHeld ⊢
           try simp only [Act.put, List.setIfInBounds_toArray, List.set_cons_zero, List.set_cons_succ]
           refine rcA 13 fun K hK => ?_
           ·go_simp
            refine (HMe1.out _ _ _ (g.roInts 10 rfl) (g.ownInts 0 rfl)).mono ?_
            rintro (e : Ending) w9 ⟨u9', rfl, ho9, hb9⟩
            obtain ⟨A9, n9, c9, rfl⟩ := ho9.slice
            replace g := g.pushOwn hb9 ho9
            show K _ _
            refine outA hK ?_ fun hHeld => ?_
            ·exact ⟨g.box4 8 rfl, g.box4 9 rfl, g.box3 10 rfl⟩
            clear hK K
            refine wpAnyH_done (by kernel_rfl) ?_ _
            show wpList _ _ _ _ _ _
            simp only [List.drop_succ_cons, List.drop_zero]
            clear hHeld
            obtain ⟨p0, p1, p2, p3⟩ := g.box4 14 rfl
            have f0 := g.free 14 rfl 0
            have f1 := g.free 14 rfl 1
            have f2 := g.free 14 rfl 2
            have f3 := g.free 14 rfl 3
            have g4 := (((g.setBox 14 rfl 0 (.int .i64 p)).setBox 14 rfl 1 (.int .i64 El)).setBox 14 rfl 2 (.int .i64 n)).setBox 14 rfl 3 (.slice A9 n9 c9)
            obtain ⟨r0, r1, r2, r3⟩ := g4.box4 14 rfl
            go_wp2
            go_meet
            exact ⟨_, A9, n9, c9, rfl, g4.re [14, 0, 6, 7, 8, 9, 10, 11, 12, 13] (by decide) (fun j => by rcases j with _ | _ | _ | _ | _ | _ | _ | _ | _ | _ | j <;> rfl)⟩
         ·go_simp
          replace g := (g.box [.int .i64 0, .int .i64 0, .int .i64 0, .slice none 0 0] 32).toBack
          simp only [List.cons_append, List.nil_append] at g
          refine hK.out _ _ ?_ (fun hHeld => ?_)
          ·exact ⟨g.box4 6 rfl, g.box4 7 rfl, g.box3 8 rfl⟩
          clear hK K
          generalize w7.alloc (.cells #[.int .i64 0, .int .i64 0, .int .i64 0, .slice none 0 0] 32) = va at g hHeld ⊢
          try simp only [Act.put, List.setIfInBounds_toArray, List.set_cons_zero, List.set_cons_succ]
          refine rcA 12 fun K hK => ?_
          ·go_simp
           refine (HKe1.out _ _ (g.ownInts 0 rfl)).mono ?_
           rintro (e : Ending) w8 ⟨u8, rfl, ho8, hb8⟩
           obtain ⟨A3, n3, c3, rfl⟩ := ho8.slice
           replace g := g.pushOwn hb8 ho8
           show K _ _
           refine outA hK ?_ fun hHeld => ?_
           ·exact ⟨g.box4 7 rfl, g.box4 8 rfl, g.box3 9 rfl⟩
           clear hK K
           refine rcA 13 fun K hK => ?_
           ·go_simp
            refine (HMe1.out _ _ _ (g.roInts 10 rfl) (g.ownInts 0 rfl)).mono ?_
            rintro (e : Ending) w9 ⟨u9', rfl, ho9, hb9⟩
            obtain ⟨A9, n9, c9, rfl⟩ := ho9.slice
            replace g := g.pushOwn hb9 ho9
            show K _ _
            refine outA hK ?_ fun hHeld => ?_
            ·exact ⟨g.box4 8 rfl, g.box4 9 rfl, g.box3 10 rfl⟩
            clear hK K
            refine wpAnyH_done (by kernel_rfl) ?_ _
            show wpList _ _ _ _ _ _
            simp only [List.drop_succ_cons, List.drop_zero]
            clear hHeld
            obtain ⟨p0, p1, p2, p3⟩ := g.box4 14 rfl
            have f0 := g.free 14 rfl 0
            have f1 := g.free 14 rfl 1
            have f2 := g.free 14 rfl 2
            have f3 := g.free 14 rfl 3
            have g4 := (((g.setBox 14 rfl 0 (.int .i64 p)).setBox 14 rfl 1 (.int .i64 El)).setBox 14 rfl 2 (.int .i64 n)).setBox 14 rfl 3 (.slice A9 n9 c9)
            obtain ⟨r0, r1, r2, r3⟩ := g4.box4 14 rfl
            go_wp2
            go_meet
            exact ⟨_, A9, n9, c9, rfl, g4.re [14, 0, 6, 7, 8, 9, 10, 11, 12, 13] (by decide) (fun j => by rcases j with _ | _ | _ | _ | _ | _ | _ | _ | _ | _ | j <;> rfl)⟩
        ·go_simp
         replace g := (g.box [.int .i64 0, .int .i64 0, .int .i64 0, .slice none 0 0] 32).toBack
         simp only [List.cons_append, List.nil_append] at g
         refine hK.out _ _ ?_ (fun hHeld => ?_)
         ·exact ⟨g.box4 5 rfl, g.box4 6 rfl, g.box3 7 rfl⟩
         clear hK K
         generalize w6.alloc (.cells #[.int .i64 0, .int .i64 0, .int .i64 0, .slice none 0 0] 32) = va at g hHeld ⊢
         try simp only [Act.put, List.setIfInBounds_toArray, List.set_cons_zero, List.set_cons_succ]
         refine rcA 11 fun K hK => ?_
         ·go_simp
          refine (HTr1.out _ _ (g.ownInts 0 rfl)).mono ?_
          rintro (e : Ending) w7 ⟨u7, rfl, ho7, hb7⟩
          obtain ⟨A7, n7, c7, rfl⟩ := ho7.slice
          replace g := g.pushOwn hb7 ho7
          show K _ _
          refine outA hK ?_ fun hHeld => ?_
          ·exact ⟨g.box4 6 rfl, g.box4 7 rfl, g.box3 8 rfl⟩
          clear hK K
          refine rcA 12 fun K hK => ?_
          ·go_simp
           refine (HKe1.out _ _ (g.ownInts 0 rfl)).mono ?_
           rintro (e : Ending) w8 ⟨u8, rfl, ho8, hb8⟩
           obtain ⟨A3, n3, c3, rfl⟩ := ho8.slice
           replace g := g.pushOwn hb8 ho8
           show K _ _
           refine outA hK ?_ fun hHeld => ?_
           ·exact ⟨g.box4 7 rfl, g.box4 8 rfl, g.box3 9 rfl⟩
           clear hK K
           refine rcA 13 fun K hK => ?_
           ·go_simp
            refine (HMe1.out _ _ _ (g.roInts 10 rfl) (g.ownInts 0 rfl)).mono ?_
            rintro (e : Ending) w9 ⟨u9', rfl, ho9, hb9⟩
            obtain ⟨A9, n9, c9, rfl⟩ := ho9.slice
            replace g := g.pushOwn hb9 ho9
            show K _ _
            refine outA hK ?_ fun hHeld => ?_
            ·exact ⟨g.box4 8 rfl, g.box4 9 rfl, g.box3 10 rfl⟩
            clear hK K
            refine wpAnyH_done (by kernel_rfl) ?_ _
            show wpList _ _ _ _ _ _
            simp only [List.drop_succ_cons, List.drop_zero]
            clear hHeld
            obtain ⟨p0, p1, p2, p3⟩ := g.box4 14 rfl
            have f0 := g.free 14 rfl 0
            have f1 := g.free 14 rfl 1
            have f2 := g.free 14 rfl 2
            have f3 := g.free 14 rfl 3
            have g4 := (((g.setBox 14 rfl 0 (.int .i64 p)).setBox 14 rfl 1 (.int .i64 El)).setBox 14 rfl 2 (.int .i64 n)).setBox 14 rfl 3 (.slice A9 n9 c9)
            obtain ⟨r0, r1, r2, r3⟩ := g4.box4 14 rfl
            go_wp2
            go_meet
            exact ⟨_, A9, n9, c9, rfl, g4.re [14, 0, 6, 7, 8, 9, 10, 11, 12, 13] (by decide) (fun j => by rcases j with _ | _ | _ | _ | _ | _ | _ | _ | _ | _ | j <;> rfl)⟩
       ·go_simp
        replace g := (g.box [.int .i64 0, .int .i64 0, .int .i64 0, .slice none 0 0] 32).toBack
        simp only [List.cons_append, List.nil_append] at g
        refine hK.out _ _ ?_ (fun hHeld => ?_)
        ·exact ⟨g.box4 4 rfl, g.box4 5 rfl, g.box3 6 rfl⟩
        clear hK K
        generalize w5.alloc (.cells #[.int .i64 0, .int .i64 0, .int .i64 0, .slice none 0 0] 32) = va at g hHeld ⊢
        try simp only [Act.put, List.setIfInBounds_toArray, List.set_cons_zero, List.set_cons_succ]
        refine rcA 10 fun K hK => ?_
        ·go_simp
         refine (HAd1.out _ _ _ (g.roInts 8 rfl) (g.ownInts 0 rfl)).mono ?_
         rintro (e : Ending) w6 ⟨u6, rfl, ho6, hb6⟩
         obtain ⟨A6, n6, c6, rfl⟩ := ho6.slice
         replace g := g.pushOwn hb6 ho6
         show K _ _
         refine outA hK ?_ fun hHeld => ?_
         ·exact ⟨g.box4 5 rfl, g.box4 6 rfl, g.box3 7 rfl⟩
         clear hK K
         refine rcA 11 fun K hK => ?_
         ·go_simp
          refine (HTr1.out _ _ (g.ownInts 0 rfl)).mono ?_
          rintro (e : Ending) w7 ⟨u7, rfl, ho7, hb7⟩
          obtain ⟨A7, n7, c7, rfl⟩ := ho7.slice
          replace g := g.pushOwn hb7 ho7
          show K _ _
          refine outA hK ?_ fun hHeld => ?_
          ·exact ⟨g.box4 6 rfl, g.box4 7 rfl, g.box3 8 rfl⟩
          clear hK K
          refine rcA 12 fun K hK => ?_
          ·go_simp
           refine (HKe1.out _ _ (g.ownInts 0 rfl)).mono ?_
           rintro (e : Ending) w8 ⟨u8, rfl, ho8, hb8⟩
           obtain ⟨A3, n3, c3, rfl⟩ := ho8.slice
           replace g := g.pushOwn hb8 ho8
           show K _ _
           refine outA hK ?_ fun hHeld => ?_
           ·exact ⟨g.box4 7 rfl, g.box4 8 rfl, g.box3 9 rfl⟩
           clear hK K
           refine rcA 13 fun K hK => ?_
           ·go_simp
            refine (HMe1.out _ _ _ (g.roInts 10 rfl) (g.ownInts 0 rfl)).mono ?_
            rintro (e : Ending) w9 ⟨u9', rfl, ho9, hb9⟩
            obtain ⟨A9, n9, c9, rfl⟩ := ho9.slice
            replace g := g.pushOwn hb9 ho9
            show K _ _
            refine outA hK ?_ fun hHeld => ?_
            ·exact ⟨g.box4 8 rfl, g.box4 9 rfl, g.box3 10 rfl⟩
            clear hK K
            refine wpAnyH_done (by kernel_rfl) ?_ _
            show wpList _ _ _ _ _ _
            simp only [List.drop_succ_cons, List.drop_zero]
            clear hHeld
            obtain ⟨p0, p1, p2, p3⟩ := g.box4 14 rfl
            have f0 := g.free 14 rfl 0
            have f1 := g.free 14 rfl 1
            have f2 := g.free 14 rfl 2
            have f3 := g.free 14 rfl 3
            have g4 := (((g.setBox 14 rfl 0 (.int .i64 p)).setBox 14 rfl 1 (.int .i64 El)).setBox 14 rfl 2 (.int .i64 n)).setBox 14 rfl 3 (.slice A9 n9 c9)
            obtain ⟨r0, r1, r2, r3⟩ := g4.box4 14 rfl
            go_wp2
            go_meet
            exact ⟨_, A9, n9, c9, rfl, g4.re [14, 0, 6, 7, 8, 9, 10, 11, 12, 13] (by decide) (fun j => by rcases j with _ | _ | _ | _ | _ | _ | _ | _ | _ | _ | j <;> rfl)⟩
      ·go_simp
       replace g := (g.box [.int .i64 0, .int .i64 0, .int .i64 0, .slice none 0 0] 32).toBack
       simp only [List.cons_append, List.nil_append] at g
       refine hK.out _ _ ?_ (fun hHeld => ?_)
       ·exact ⟨g.box4 3 rfl, g.box4 4 rfl, g.box3 5 rfl⟩
       clear hK K
       generalize w4.alloc (.cells #[.int .i64 0, .int .i64 0, .int .i64 0, .slice none 0 0] 32) = va at g hHeld ⊢
       try simp only [Act.put, List.setIfInBounds_toArray, List.set_cons_zero, List.set_cons_succ]
       refine rcA 9 fun K hK => ?_
       ·go_simp
        refine (HSc1.out _ _ (g.ownInts 0 rfl)).mono ?_
        rintro (e : Ending) w5 ⟨u5, rfl, ho5, hb5⟩
        obtain ⟨A5, n5, c5, rfl⟩ := ho5.slice
        replace g := g.pushOwn hb5 ho5
        show K _ _
        refine outA hK ?_ fun hHeld => ?_
        ·exact ⟨g.box4 4 rfl, g.box4 5 rfl, g.box3 6 rfl⟩
        clear hK K
        refine rcA 10 fun K hK => ?_
        ·go_simp
         refine (HAd1.out _ _ _ (g.roInts 8 rfl) (g.ownInts 0 rfl)).mono ?_
         rintro (e : Ending) w6 ⟨u6, rfl, ho6, hb6⟩
         obtain ⟨A6, n6, c6, rfl⟩ := ho6.slice
         replace g := g.pushOwn hb6 ho6
         show K _ _
         refine outA hK ?_ fun hHeld => ?_
         ·exact ⟨g.box4 5 rfl, g.box4 6 rfl, g.box3 7 rfl⟩
         clear hK K
         refine rcA 11 fun K hK => ?_
         ·go_simp
          refine (HTr1.out _ _ (g.ownInts 0 rfl)).mono ?_
          rintro (e : Ending) w7 ⟨u7, rfl, ho7, hb7⟩
          obtain ⟨A7, n7, c7, rfl⟩ := ho7.slice
          replace g := g.pushOwn hb7 ho7
          show K _ _
          refine outA hK ?_ fun hHeld => ?_
          ·exact ⟨g.box4 6 rfl, g.box4 7 rfl, g.box3 8 rfl⟩
          clear hK K
          refine rcA 12 fun K hK => ?_
          ·go_simp
           refine (HKe1.out _ _ (g.ownInts 0 rfl)).mono ?_
           rintro (e : Ending) w8 ⟨u8, rfl, ho8, hb8⟩
           obtain ⟨A3, n3, c3, rfl⟩ := ho8.slice
           replace g := g.pushOwn hb8 ho8
           show K _ _
           refine outA hK ?_ fun hHeld => ?_
           ·exact ⟨g.box4 7 rfl, g.box4 8 rfl, g.box3 9 rfl⟩
           clear hK K
           refine rcA 13 fun K hK => ?_
           ·go_simp
            refine (HMe1.out _ _ _ (g.roInts 10 rfl) (g.ownInts 0 rfl)).mono ?_
            rintro (e : Ending) w9 ⟨u9', rfl, ho9, hb9⟩
            obtain ⟨A9, n9, c9, rfl⟩ := ho9.slice
            replace g := g.pushOwn hb9 ho9
            show K _ _
            refine outA hK ?_ fun hHeld => ?_
            ·exact ⟨g.box4 8 rfl, g.box4 9 rfl, g.box3 10 rfl⟩
            clear hK K
            refine wpAnyH_done (by kernel_rfl) ?_ _
            show wpList _ _ _ _ _ _
            simp only [List.drop_succ_cons, List.drop_zero]
            clear hHeld
            obtain ⟨p0, p1, p2, p3⟩ := g.box4 14 rfl
            have f0 := g.free 14 rfl 0
            have f1 := g.free 14 rfl 1
            have f2 := g.free 14 rfl 2
            have f3 := g.free 14 rfl 3
            have g4 := (((g.setBox 14 rfl 0 (.int .i64 p)).setBox 14 rfl 1 (.int .i64 El)).setBox 14 rfl 2 (.int .i64 n)).setBox 14 rfl 3 (.slice A9 n9 c9)
            obtain ⟨r0, r1, r2, r3⟩ := g4.box4 14 rfl
            go_wp2
            go_meet
            exact ⟨_, A9, n9, c9, rfl, g4.re [14, 0, 6, 7, 8, 9, 10, 11, 12, 13] (by decide) (fun j => by rcases j with _ | _ | _ | _ | _ | _ | _ | _ | _ | _ | j <;> rfl)⟩
     ·go_simp
      replace g := (g.box [.int .i64 0, .int .i64 0, .int .i64 0, .slice none 0 0] 32).toBack
      simp only [List.cons_append, List.nil_append] at g
      refine hK.out _ _ ?_ (fun hHeld => ?_)
      ·exact ⟨g.box4 2 rfl, g.box4 3 rfl, g.box3 4 rfl⟩
      clear hK K
      generalize v0.alloc (.cells #[.int .i64 0, .int .i64 0, .int .i64 0, .slice none 0 0] 32) = va at g hHeld ⊢
      try simp only [Act.put, List.setIfInBounds_toArray, List.set_cons_zero, List.set_cons_succ]
      refine rcA 6 fun K hK => ?_
      ·go_simp
       refine (HU.out _).mono ?_
       rintro (e : Ending) w4 ⟨u4, rfl, ho4, hb4⟩
       obtain ⟨A4, n4, c4, rfl⟩ := ho4.slice
       replace g := g.pushOwn hb4 ho4
       show K _ _
       refine outA hK ?_ fun hHeld => ?_
       ·exact ⟨g.box4 3 rfl, g.box4 4 rfl, g.box3 5 rfl⟩
       clear hK K
       refine rcA 9 fun K hK => ?_
       ·go_simp
        refine (HSc1.out _ _ (g.ownInts 0 rfl)).mono ?_
        rintro (e : Ending) w5 ⟨u5, rfl, ho5, hb5⟩
        obtain ⟨A5, n5, c5, rfl⟩ := ho5.slice
        replace g := g.pushOwn hb5 ho5
        show K _ _
        refine outA hK ?_ fun hHeld => ?_
        ·exact ⟨g.box4 4 rfl, g.box4 5 rfl, g.box3 6 rfl⟩
        clear hK K
        refine rcA 10 fun K hK => ?_
        ·go_simp
         refine (HAd1.out _ _ _ (g.roInts 8 rfl) (g.ownInts 0 rfl)).mono ?_
         rintro (e : Ending) w6 ⟨u6, rfl, ho6, hb6⟩
         obtain ⟨A6, n6, c6, rfl⟩ := ho6.slice
         replace g := g.pushOwn hb6 ho6
         show K _ _
         refine outA hK ?_ fun hHeld => ?_
         ·exact ⟨g.box4 5 rfl, g.box4 6 rfl, g.box3 7 rfl⟩
         clear hK K
         refine rcA 11 fun K hK => ?_
         ·go_simp
          refine (HTr1.out _ _ (g.ownInts 0 rfl)).mono ?_
          rintro (e : Ending) w7 ⟨u7, rfl, ho7, hb7⟩
          obtain ⟨A7, n7, c7, rfl⟩ := ho7.slice
          replace g := g.pushOwn hb7 ho7
          show K _ _
          refine outA hK ?_ fun hHeld => ?_
          ·exact ⟨g.box4 6 rfl, g.box4 7 rfl, g.box3 8 rfl⟩
          clear hK K
          refine rcA 12 fun K hK => ?_
          ·go_simp
           refine (HKe1.out _ _ (g.ownInts 0 rfl)).mono ?_
           rintro (e : Ending) w8 ⟨u8, rfl, ho8, hb8⟩
           obtain ⟨A3, n3, c3, rfl⟩ := ho8.slice
           replace g := g.pushOwn hb8 ho8
           show K _ _
           refine outA hK ?_ fun hHeld => ?_
           ·exact ⟨g.box4 7 rfl, g.box4 8 rfl, g.box3 9 rfl⟩
           clear hK K
           refine rcA 13 fun K hK => ?_
           ·go_simp
            refine (HMe1.out _ _ _ (g.roInts 10 rfl) (g.ownInts 0 rfl)).mono ?_
            rintro (e : Ending) w9 ⟨u9', rfl, ho9, hb9⟩
            obtain ⟨A9, n9, c9, rfl⟩ := ho9.slice
            replace g := g.pushOwn hb9 ho9
            show K _ _
            refine outA hK ?_ fun hHeld => ?_
            ·exact ⟨g.box4 8 rfl, g.box4 9 rfl, g.box3 10 rfl⟩
            clear hK K
            refine wpAnyH_done (by kernel_rfl) ?_ _
            show wpList _ _ _ _ _ _
            simp only [List.drop_succ_cons, List.drop_zero]
            clear hHeld
            obtain ⟨p0, p1, p2, p3⟩ := g.box4 14 rfl
            have f0 := g.free 14 rfl 0
            have f1 := g.free 14 rfl 1
            have f2 := g.free 14 rfl 2
            have f3 := g.free 14 rfl 3
            have g4 := (((g.setBox 14 rfl 0 (.int .i64 p)).setBox 14 rfl 1 (.int .i64 El)).setBox 14 rfl 2 (.int .i64 n)).setBox 14 rfl 3 (.slice A9 n9 c9)
            obtain ⟨r0, r1, r2, r3⟩ := g4.box4 14 rfl
            go_wp2
            go_meet
            exact ⟨_, A9, n9, c9, rfl, g4.re [14, 0, 6, 7, 8, 9, 10, 11, 12, 13] (by decide) (fun j => by rcases j with _ | _ | _ | _ | _ | _ | _ | _ | _ | _ | j <;> rfl)⟩
    obtain ⟨B12, A9, n9, c9, rfl, g4⟩ := hcut
    obtain ⟨y0, y1, y2, y3⟩ := g4.box4 0 rfl
    by_cases hE0 : 0 < El
    case neg =>
     have hE0' : ¬ ((0 : Int) < (El : Int)) := by omega
     have HEq := HNo.out hE0
     have HL0 := Lib.hid (show l + eigT p n A S (k + 1) = Sl by have h1 := HL1.out; have h2 := Hl.out; have h3 := HT.out; omega)
     clear hE0
     go_wp2
     go_roundw
     case rel => exact ⟨k + 1, l, A8, n8, c8, us, rfl, by go_num, rfl, HL0, by omega, by show _ = _; rw [HEq]; exact Hul.out, by rw [HEq]; exact g4.drop 2⟩
     case measure => simp [intOf]; omega
    case pos =>
     have hE0' : (0 : Int) < (El : Int) := by omega
     have HEq := Lib.hid (HYes.out hE0)
     have hEL : emL (eigP p n A S (k + 1)) = emL (eigP p n A S k) ++ [(k : Int)] := by rw [HEq.out, emL, List.map_append]; rfl
     have hEM : emM p n (eigP p n A S (k + 1)) = emM p n (eigP p n A S k) ++ [⟨p, El, n, flat n E⟩] := by rw [HEq.out, emM, List.map_append, HEl.out]; rfl
     have hLL : us.length + 1 = (eigP p n A S (k + 1)).length := by rw [HEq.out, List.length_append, ← Hul.out]; rfl
     have HEL := Lib.hid hEL
     have HEM := Lib.hid hEM
     have HLL := Lib.hid hLL
     have Hl1 := Lib.hid (show (emL (eigP p n A S k)).length + 1 ≤ 17592186044416 by rw [emL, List.length_map]; have := Hpl.out; have := Hp'.out; omega)
     have Hl2 := Lib.hid (show us.length = (emM p n (eigP p n A S k)).length by rw [emM, List.length_map]; exact Hul.out)
     have Hl3 := Lib.hid (show (emM p n (eigP p n A S k)).length + 1 ≤ 1099511627776 by rw [emM, List.length_map]; have := Hpl.out; have := Hp'.out; omega)
     clear hE0 hEL hEM hLL
     go_wp2_with (first
      | (at_builtin; refine wp_append_ints rfl (.tmp 44) (.tmp 46) rfl w.heap.size _ _ (emL (eigP p n A S k)) [(k : Int)] rfl rfl ((g4.alloc' _).own 3 rfl) Ints.one Hl1.out (g4.alloc' _).size ?_; intro v1 w7 ho1 hg1 hb1; have h4 := (g4.alloc' _).appended 3 rfl ho1 hg1 hb1; obtain ⟨q0, q1, q2, q3⟩ := h4.box4 0 rfl; have h5 := h4.toFront 1 rfl; simp only [List.set_cons_succ, List.set_cons_zero, List.eraseIdx_cons_succ, List.eraseIdx_cons_zero] at h5)
      | (at_builtin; refine wp_append_mat rfl (.tmp 48) (.tmp 50) rfl ⟨p, El, n, flat n E⟩ h5 1 rfl Hl2.out rfl rfl Hl3.out ?_; intro v2 w8 h6; obtain ⟨x0, x1, x2, x3⟩ := h6.box4 0 rfl))
     obtain ⟨A7, n7, c7, rfl⟩ := (h6.own 2 rfl).slice
     clear x0 x1 x2 x3 h5 h4 g4 ho1 hg1 hb1 y0 y1 y2 y3 q0 q1 q2 q3
     go_roundw
     case rel => exact ⟨k + 1, l - El, A7, n7, c7, us ++ [_], rfl, by go_num, rfl, HL1, by omega, by show _ = _; rw [List.length_append, ← HLL.out]; rfl, by rw [HEL.out, HEM.out]; exact h6.drop 1⟩
     case measure => simp [intOf]; omega
end
section
open Go.RowKit
def rotStep (p : Int) (n : Nat) (A : List Int) (L : List (List Int × List (List Int))) : List (List Int × List (List Int)) := L.flatMap fun x => (eigP p n A x.2 p.toNat).map fun y => (x.1 ++ [y.1], y.2)
theorem rotF_snoc (p : Int) (n : Nat) (A : List Int) : ∀ (As : List (List Int)) (L : List (List Int × List (List Int))), rotF p n (As ++ [A]) L = rotStep p n A (rotF p n As L)
 | [], _ => rfl
 | B :: As, L => by rw [List.cons_append, rotF, rotF_snoc p n A As, rotF]
def spOf (L : List (List Int × List (List Int))) (i : Nat) : List (List Int) := (L.getD i ([], [])).2
def lsOf (L : List (List Int × List (List Int))) (i : Nat) : List Int := (L.getD i ([], [])).1
theorem lm_get {L : List (List Int × List (List Int))} {i : Nat} (h : i < L.length) : L[i]? = some (lsOf L i, spOf L i) := by
 simp [lsOf, spOf, List.getD_eq_getElem?_getD, h]
def rsT (p : Int) (n : Nat) (A : List Int) (L : List (List Int × List (List Int))) (i j : Nat) : List (List Int × List (List Int)) := rotStep p n A (L.take i) ++ ((eigP p n A (spOf L i) p.toNat).take j).map fun y => (lsOf L i ++ [y.1], y.2)
theorem rsT_zero (p : Int) (n : Nat) (A : List Int) (L : List (List Int × List (List Int))) : rsT p n A L 0 0 = [] := by simp [rsT, rotStep]
theorem rsT_row {p : Int} {n : Nat} {A : List Int} {L : List (List Int × List (List Int))} {i : Nat} (h : i < L.length) : rsT p n A L i (eigP p n A (spOf L i) p.toNat).length = rsT p n A L (i + 1) 0 := by
 have h2 : L.take (i + 1) = L.take i ++ [(lsOf L i, spOf L i)] := by
  rw [List.take_succ_eq_append_getElem h]
  have := lm_get h
  rw [List.getElem?_eq_getElem h] at this
  rw [Option.some.inj this]
 rw [rsT, rsT, List.take_length, h2, rotStep, rotStep, List.flatMap_append]
 simp
theorem rsT_end (p : Int) (n : Nat) (A : List Int) (L : List (List Int × List (List Int))) : rsT p n A L L.length 0 = rotStep p n A L := by
 rw [rsT, List.take_length]; simp
theorem rsT_succ {p : Int} {n : Nat} {A : List Int} {L : List (List Int × List (List Int))} {i j : Nat} {q : Int × List (List Int)} (h : (eigP p n A (spOf L i) p.toNat)[j]? = some q) : rsT p n A L i (j + 1) = rsT p n A L i j ++ [(lsOf L i ++ [q.1], q.2)] := by
 obtain ⟨hj, e⟩ := List.getElem?_eq_some_iff.1 h
 rw [rsT, List.take_succ_eq_append_getElem hj, List.map_append, e, rsT, List.append_assoc]
 rfl
theorem rotStep_app (p : Int) (n : Nat) (A : List Int) (L M : List (List Int × List (List Int))) : rotStep p n A (L ++ M) = rotStep p n A L ++ rotStep p n A M := List.flatMap_append
theorem rsT_le {p : Int} {n : Nat} {A : List Int} {L : List (List Int × List (List Int))} {i : Nat} (h : i < L.length) (j : Nat) : (rsT p n A L i j).length ≤ (rotStep p n A L).length := by
 have h1 : (rsT p n A L i j).length ≤ (rsT p n A L i (eigP p n A (spOf L i) p.toNat).length).length := by
  simp only [rsT, List.length_append, List.length_map, List.length_take, Nat.min_self]
  omega
 rw [rsT_row h] at h1
 refine Nat.le_trans h1 ?_
 have h2 : rotStep p n A L = rotStep p n A (L.take (i + 1)) ++ rotStep p n A (L.drop (i + 1)) := by rw [← rotStep_app, List.take_append_drop]
 rw [h2, rsT, List.take_zero, List.map_nil, List.append_nil, List.length_append]
 omega
theorem rotF_ok {p : Int} (hP : isPrime p = true) {n : Nat} (h0 : 0 < n) {As : List (List Int)} (hA : ∀ A ∈ As, A.length = n * n) : rotF p n As [([], uniR n)] = rotR p n As (uniR n) ∧ (rotR p n As (uniR n)).length ≤ n ∧ ∀ x ∈ rotR p n As (uniR n), (∃ a, Rf p n x.2 a) ∧ x.1.length = As.length := by
 have hp := (isPrime_bd hP).1
 have hrf := Rf_uniR hp n
 have h1 := rot_eq hP As [([], uniR n)] hA (fun x hx => by
  obtain rfl : x = ([], uniR n) := by simpa using hx
  exact ⟨hrf.wf, by show (uniR n).length ≠ 0; rw [length_uniR]; omega⟩)
 have h2 := length_rotR hP hA hrf
 rw [length_uniR] at h2
 refine ⟨?_, h2, fun x hx => ?_⟩
 ·rw [h1]
  simp
 ·obtain ⟨_, g2, g3⟩ := (rotR_ok hP As (uniR n) _ hA hrf).2 x hx
  exact ⟨g2, g3⟩
theorem St.litRow {w0 w : World} {L : List It} {u : Value} {D : List Int} (h : St w0 w (.own u D :: L)) : St w0 (w.alloc (.cells #[u] 22)) (rowsIt (.slice (some ⟨w.heap.size, 0, none⟩) 1 1) [u] [D] :: L) := by
 have h2 : St w0 (w.alloc (.cells #[u] 22)) (.vec (.slice (some ⟨w.heap.size, 0, none⟩) 1 1) 22 1 1 [u] [] :: .own u D :: L) :=
  h.push ((Below.refl _ _).alloc (Nat.le_refl _) _) ⟨World.ownsRow_lit (base := w0.heap.size) (e := 22) (size := 1) w #[u] 1 h.size (by simp [maxLen]) rfl, fun s hs => by cases hs⟩ (fun b hb => by simp [It.fp, Value.ownBlock] at hb; omega) (by simp [It.fp, Value.ownBlock])
 exact h2.swap2.absorb 0 rfl
theorem St.one {w0 w : World} {L : List It} (h : St w0 w L) (x : Int) : St w0 (w.alloc (.cells #[.int .i64 x] 3)) (.own (.slice (some ⟨w.heap.size, 0, none⟩) 1 1) [x] :: L) :=
 h.push (x := .own (.slice (some ⟨w.heap.size, 0, none⟩) 1 1) [x]) ((Below.refl _ _).alloc (Nat.le_refl _) _) (World.ownsRow_lit (base := w0.heap.size) (e := 3) (size := 1) w #[.int .i64 x] 1 h.size (by simp [maxLen]) rfl) (fun b hb => by simp [It.fp, Value.ownBlock] at hb; omega) (by simp [It.fp, Value.ownBlock])
theorem St.matLit {w0 w : World} {L : List It} {u : Value} {D : List Int} (h : St w0 w (.own u D :: L)) (p r c : Int) :
  St w0 (w.alloc (.cells #[.int .i64 p, .int .i64 r, .int .i64 c, u] 32)) (matsIt (.slice (some ⟨w.heap.size, 0, none⟩) 1 1) [u] [⟨p, r, c, D⟩] :: L) := by
 have h2 : St w0 (w.alloc (.cells #[.int .i64 p, .int .i64 r, .int .i64 c, u] 32)) (.vec (.slice (some ⟨w.heap.size, 0, none⟩) 1 1) 32 4 1 [.int .i64 p, .int .i64 r, .int .i64 c, u] [] :: .own u D :: L) :=
  h.push ((Below.refl _ _).alloc (Nat.le_refl _) _) ⟨World.ownsRow_lit (base := w0.heap.size) (e := 32) (size := 4) w #[.int .i64 p, .int .i64 r, .int .i64 c, u] 1 h.size (by simp [maxLen]) rfl, fun s hs => by cases hs⟩ (fun b hb => by simp [It.fp, Value.ownBlock] at hb; omega) (by simp [It.fp, Value.ownBlock])
 exact h2.swap2.absorb 0 rfl
theorem St.pushEM {w0 w w' : World} {L : List It} (h : St w0 w L) {v v2 : Value} {us2 : List Value} {l : List Int} {ms : List Mt} (h2 : St w w' [.own v l, matsIt v2 us2 ms]) : St w0 w' (.own v l :: matsIt v2 us2 ms :: L) :=
 h.join h2 fun x hx => by
  simp only [List.mem_cons, List.not_mem_nil, or_false] at hx
  rcases hx with rfl | rfl
  ·exact Own.mono (h2.own 0 rfl) h.size
  ·exact It.vec_mono (h2.at 1 rfl) h.size
theorem adsR_len {T : List Int} {n : Nat} {p : Int} (R : List (List Int)) : ∀ A ∈ R.map (fun r => adM T r n p), A.length = n * n := fun A hA => by
 obtain ⟨r, _, rfl⟩ := List.mem_map.1 hA
 exact length_adM _ _ _ _
set_option maxHeartbeats 8000000 in
theorem l7RootSpaces_any (p : Int) (n : Nat) (t v : Value) (T : List Int) (S : List (List Int)) (a : List Nat) (w : World) (ht : Ints w t T) (hv : Ints w v (flat n S)) (hT : T.length = n * n * n) (rT : resid p T = true) (hS : Rf p n S a) (hn : n ≤ 28) (hP : isPrime p = true) :
  Calls Tryz.prog 14 #[.agg #[.int .i64 p, .int .i64 n, t], .agg #[.int .i64 p, .int .i64 S.length, .int .i64 n, v]] w (RetLM w p n (rotR p n (S.map fun r => adM T r n p) (uniR n))) := by
 obtain ⟨hp, hp'⟩ := isPrime_bd hP
 have h1 := ((((St.start w).arg ht).arg hv).box [.int .i64 p, .int .i64 n, t] 30).box [.int .i64 p, .int .i64 S.length, .int .i64 n, v] 32
 replace h1 := h1.empty.litRow
 simp only [World.size_alloc] at h1
 obtain ⟨A0, k0, rfl, _, _, _⟩ := id ht
 obtain ⟨A2, k2, rfl, _, _, _⟩ := id hv
 have hSl := rf_le_n hp hS
 have hW := hS.wf
 obtain ⟨As, hAs⟩ : ∃ As, As = S.map fun r => adM T r n p := ⟨_, rfl⟩
 have hAl : ∀ A ∈ As, A.length = n * n := by rw [hAs]; exact adsR_len S
 have hAk : ∀ k, k < S.length → As[k]? = some (adM T (rowOf S k) n p) := fun k hk => by
  rw [hAs, List.getElem?_map, List.getElem?_eq_getElem hk, rowOf_eq hk]; rfl
 have hAn : As.length = S.length := by rw [hAs, List.length_map]
 have hStep : ∀ k, k < S.length → rotF p n (As.take (k + 1)) [([], uniR n)] = rotStep p n (adM T (rowOf S k) n p) (rotF p n (As.take k) [([], uniR n)]) := fun k hk => by
  have hkA : k < As.length := by rw [hAn]; exact hk
  rw [List.take_succ_eq_append_getElem hkA, rotF_snoc]
  have := hAk k hk
  rw [List.getElem?_eq_getElem hkA] at this
  rw [Option.some.inj this]
 have hOk : 0 < n → ∀ k, k ≤ S.length → (rotF p n (As.take k) [([], uniR n)]).length ≤ n ∧ ∀ x ∈ rotF p n (As.take k) [([], uniR n)], (∃ a, Rf p n x.2 a) ∧ x.1.length = k := fun h0 k hk => by
  obtain ⟨e1, e2, e3⟩ := rotF_ok hP h0 (As := As.take k) fun A hA => hAl A (List.mem_of_mem_take hA)
  rw [e1]
  refine ⟨e2, fun x hx => ?_⟩
  obtain ⟨g1, g2⟩ := e3 x hx
  exact ⟨g1, by rw [g2, List.length_take, hAn]; omega⟩
 have hEnd : n ≠ 0 → rotR p n As (uniR n) = rotF p n (As.take S.length) [([], uniR n)] := fun h0 => by
  rw [show As.take S.length = As from List.take_of_length_le (by omega), (rotF_ok hP (by omega) hAl).1]
 have hEnd0 : n = 0 → rotR p n As (uniR n) = [] := fun h0 => rotR_nil p n As (by rw [length_uniR]; exact h0)
 have hRow := fun (W : World) (k : Nat) (hk : k < S.length) (x1 : IntsB W w.heap.size (.slice A2 (flat n S).length k2) (flat n S)) (x2 : w.heap.size ≤ W.heap.size) => (show Calls Tryz.prog 33 #[.agg #[.int .i64 p, .int .i64 S.length, .int .i64 n, .slice A2 (flat n S).length k2], .int .i64 k] W (RetB W w.heap.size n (rowOf S k)) by
  have h9 := l1Row_any p S.length n _ (flat n S) k w.heap.size W x1 x2 (length_flat n S) (by have := mul_le (show S.length ≤ 28 by omega) hn; omega) (by omega) hk
  rwa [show rowM n (flat n S) k = rowOf S k by rw [← rowOf_rowsM hk, rowsM_flat hW]] at h9)
 have hAd := fun (W : World) (v1 : Value) (k : Nat) (hk : k < S.length) (x1 : Ints W (.slice A0 T.length k0) T) (x2 : Ints W v1 (rowOf S k)) => l2Adjoint_any p n _ v1 T (rowOf S k) W x1 x2 hT (hW k hk).1 hn hp hp' rT (hW k hk).2
 have hEig := fun (W : World) (v1 v2 : Value) (A : List Int) (E : List (List Int)) (x1 : Ints W (.slice A0 T.length k0) T) (x2 : Ints W v1 A) (x3 : Ints W v2 (flat n E)) (hA : A.length = n * n) (rA : resid p A = true) (hE : ∃ a, Rf p n E a) => (show Calls Tryz.prog 36 #[.agg #[.int .i64 p, .int .i64 n, .slice A0 T.length k0], .agg #[.int .i64 p, .int .i64 n, .int .i64 n, v1], .agg #[.int .i64 p, .int .i64 E.length, .int .i64 n, v2]] W (RetEM W p n (eigP p n A E p.toNat)) by
  obtain ⟨a, ha⟩ := hE
  exact l7Eigen_any p n _ v1 v2 T A E a W x1 x2 x3 hA rA ha hn hP)
 have hAll := fun W => l2All_any p n A0 T.length k0 W hP (by omega)
 have hLit : ([([], uniR n)] : List (List Int × List (List Int))) = rotF p n (As.take 0) [([], uniR n)] := by rw [List.take_zero]; rfl
 have hLit2 : [⟨p, n, n, unitD n⟩] = lmM p n [([], uniR n)] := by rw [lmM, List.map_cons, List.map_nil, rsM, length_uniR, flat_uniR]
 obtain ⟨Lk, hLk⟩ : ∃ Lk : Nat → List (List Int × List (List Int)), Lk = fun k => rotF p n (As.take k) [([], uniR n)] := ⟨_, rfl⟩
 have hLk' : ∀ k, rotF p n (As.take k) [([], uniR n)] = Lk k := fun k => by rw [hLk]
 simp only [hLk'] at hStep hOk hEnd hLit
 obtain ⟨Sl, hSle⟩ : ∃ Sl, Sl = S.length := ⟨_, rfl⟩
 obtain ⟨F2, hF2⟩ : ∃ F2, F2 = flat n S := ⟨_, rfl⟩
 obtain ⟨X, hX⟩ : ∃ X, X = rotR p n As (uniR n) := ⟨_, rfl⟩
 rw [← hX] at hEnd hEnd0
 rw [← hAs, ← hX]
 rw [← hSle] at hStep hOk hEnd hRow hAd h1 hSl ⊢
 rw [← hF2] at hRow h1 ⊢
 have HStep := Lib.hid hStep
 have HOk := Lib.hid hOk
 have HEnd := Lib.hid hEnd
 have HEnd0 := Lib.hid hEnd0
 have HRow := Lib.hid hRow
 have HAd := Lib.hid hAd
 have HEig := Lib.hid hEig
 have HAll := Lib.hid hAll
 have HLit := Lib.hid hLit
 have HLit2 := Lib.hid hLit2
 have Hp := Lib.hid hp
 have Hp' := Lib.hid hp'
 have HSl := Lib.hid hSl
 have hSl28 : Sl ≤ 28 := by omega
 have HSe := Lib.hid hSle
 have HP := Lib.hid hP
 have HnS := Lib.hid hn
 clear ht hv hT rT hS hW hAl hAk hAn hStep hOk hEnd hEnd0 hRow hAd hEig hAll hLit hLit2 hLk hLk' hF2 hX hAs hSle hP hSl hp'
 obtain ⟨z0, z1, z2⟩ := h1.box3 2 rfl
 go_enter Tryz.func14, Tryz.ntmps14
 go_wp2_with fail
 refine (HAll.out _).mono ?_
 rintro (e : Ending) w2 ⟨u2, rfl, ho2, hb2⟩
 obtain ⟨A4, n4, c4, rfl⟩ := ho2.slice
 have h2 := ((h1.pushOwn hb2 ho2).matLit p n n).swap2
 rw [HLit2.out] at h2
 have hL0 : [([] : List Int)] = lmL [([], uniR n)] := rfl
 rw [hL0, HLit.out] at h2
 clear z0 z1 z2 h1 hb2 ho2 hL0
 go_wp2
 go_loopw [6, 7, 8, 9, 10, 11, 12, 13, 14, 15] (fun v6 v7 v8 _ _ _ _ _ _ _ wr => ∃ (k : Nat) (us us2 : List Value), v8 = .int .i64 k ∧ k ≤ Sl ∧ Hid (us.length = (Lk k).length) ∧ Hid (us2.length = (Lk k).length) ∧ St w wr [rowsIt v6 us (lmL (Lk k)), matsIt v7 us2 (lmM p n (Lk k)), .box (w.heap.size + 1) [.int .i64 p, .int .i64 Sl, .int .i64 n, .slice A2 F2.length k2], .box w.heap.size [.int .i64 p, .int .i64 n, .slice A0 T.length k0], .ro (.slice A2 F2.length k2) F2, .ro (.slice A0 T.length k0) T]) (fun _ _ v8 _ _ _ _ _ _ _ _ => Sl - (intOf v8).toNat)
 case atStart => exact ⟨0, _, _, rfl, by omega, by show _ = _; rw [← HLit.out]; rfl, by show _ = _; rw [← HLit.out]; rfl, h2⟩
 case round =>
  clear h2
  obtain ⟨k, us, us2, rfl, a1, Hul, Hul2, h1⟩ := hrel
  obtain ⟨y0, y1, y2, y3⟩ := h1.box4 2 rfl
  by_cases hk : k < Sl
  case neg =>
   obtain rfl : k = Sl := by omega
   obtain ⟨z0, z1, z2⟩ := h1.box3 3 rfl
   by_cases hn0 : n = 0
   case pos =>
    have hn0' : (n : Int) = 0 := by omega
    have HX := Lib.hid (HEnd0.out hn0)
    have h3 := (h1.emptyRows).emptyMats
    simp only [World.size_alloc] at h3
    clear hn0
    go_wp2
    refine bodyPost_ret (v := .tuple #[.slice (some ⟨wr.heap.size, 0, none⟩) 0 0, .slice (some ⟨wr.heap.size + 1, 0, none⟩) 0 0]) (by simp [results, Tryz.results14, go_sem]) rfl ?_
    rw [HX.out]
    exact ⟨_, [], _, [], rfl, rfl, rfl, h3.re [1, 0] (by decide) (fun j => by rcases j with _ | _ | j <;> rfl)⟩
   case neg =>
    have hn0' : ¬ ((n : Int) = 0) := by omega
    have HX := Lib.hid (HEnd.out hn0)
    clear hn0
    obtain ⟨A6, n6, c6, rfl⟩ := h1.rowsSlice 0 rfl (by rw [length_lmL]; exact Hul.out)
    obtain ⟨A7, n7, c7, rfl⟩ : ∃ A n c, u7 = .slice A n c := by
     obtain ⟨A, c, e, _⟩ := h1.mats 1 rfl (by rw [length_lmM]; exact Hul2.out)
     exact ⟨A, _, c, e⟩
    go_wp2
    refine bodyPost_ret (v := .tuple #[.slice A6 n6 c6, .slice A7 n7 c7]) (by simp [results, Tryz.results14, go_sem]) rfl ?_
    rw [HX.out]
    exact ⟨_, us, _, us2, rfl, Hul.out, Hul2.out, h1.re [0, 1] (by decide) (fun j => by rcases j with _ | _ | j <;> rfl)⟩
  case pos =>
   have hn0 : 0 < n := by have := HSl.out; omega
   have ik : (k : Int) < (Sl : Int) := by omega
   obtain ⟨hL1, hL2⟩ := HOk.out hn0 k (by omega)
   obtain ⟨hL3, -⟩ := HOk.out hn0 (k + 1) (by omega)
   have hSt := HStep.out k hk
   have HRow1 := Lib.hid (fun W x1 x2 => HRow.out W k hk x1 x2)
   have HAd1 := Lib.hid (fun W v1 x1 x2 => HAd.out W v1 k hk x1 x2)
   obtain ⟨L, hLe⟩ : ∃ L, L = Lk k := ⟨_, rfl⟩
   obtain ⟨Rk, hRk⟩ : ∃ Rk, Rk = rowOf S k := ⟨_, rfl⟩
   rw [← hLe] at hL1 hL2 hSt h1 Hul Hul2
   rw [← hRk] at HRow1 HAd1 hSt
   obtain ⟨A, hAe⟩ : ∃ A, A = adM T Rk n p := ⟨_, rfl⟩
   rw [← hAe] at HAd1 hSt
   have hAl : A.length = n * n := by rw [hAe, length_adM]
   have hAr : resid p A = true := by rw [hAe]; exact resid_adM Hp.out _ _ _
   have HEig1 := Lib.hid (fun W v1 v2 E x1 x2 x3 hE => HEig.out W v1 v2 A E x1 x2 x3 hAl hAr hE)
   have HL1 := Lib.hid hL1
   have HL2 := Lib.hid hL2
   rw [hSt] at hL3
   have HL3 := Lib.hid hL3
   have HSt := Lib.hid hSt
   obtain ⟨Ll, hLl⟩ : ∃ Ll, Ll = L.length := ⟨_, rfl⟩
   have HLl := Lib.hid hLl
   have hLl28 : Ll ≤ 28 := by omega
   obtain ⟨A6, c6, rfl, _, _, _⟩ := id (h1.rowsR 0 rfl (by rw [length_lmL]; exact Hul.out))
   obtain ⟨A7, c7, rfl, _, _, _⟩ := id (h1.mats 1 rfl (by rw [length_lmM]; exact Hul2.out))
   rw [length_lmL, ← hLl] at h1 ⊢
   rw [length_lmM, ← hLl] at h1 ⊢
   clear hL1 hL2 hL3 hSt hLe hRk hAe hAl hAr hLl hn0
   go_upto_region 6 with fail
   clear y0 y1 y2 y3
   go_cut [9] (fun s9 wx => ∃ (B : Nat) (A9 : Option Addr) (n9 c9 : Nat), s9 = .pointer (some ⟨B, 0, none⟩) ∧ St w wx [.box B [.int .i64 p, .int .i64 n, .int .i64 n, .slice A9 n9 c9], .own (.slice A9 n9 c9) A, rowsIt (.slice A6 Ll c6) us (lmL L), matsIt (.slice A7 Ll c7) us2 (lmM p n L), .box (w.heap.size + 1) [.int .i64 p, .int .i64 Sl, .int .i64 n, .slice A2 F2.length k2], .box w.heap.size [.int .i64 p, .int .i64 n, .slice A0 T.length k0], .ro (.slice A2 F2.length k2) F2, .ro (.slice A0 T.length k0) T])
   case first =>
    have g := h1.drew
    clear h1
    refine wp_region_cut (S := fun w' => (w'.cell? ⟨w.heap.size + 1, 0, none⟩ = some (.int .i64 p) ∧ w'.cell? ⟨w.heap.size + 1, 1, none⟩ = some (.int .i64 Sl) ∧ w'.cell? ⟨w.heap.size + 1, 2, none⟩ = some (.int .i64 n) ∧ w'.cell? ⟨w.heap.size + 1, 3, none⟩ = some (.slice A2 F2.length k2)) ∧ (w'.cell? ⟨w.heap.size, 0, none⟩ = some (.int .i64 p) ∧ w'.cell? ⟨w.heap.size, 1, none⟩ = some (.int .i64 n) ∧ w'.cell? ⟨w.heap.size, 2, none⟩ = some (.slice A0 T.length k0))) 6 (by kernel_rfl) (by kernel_rfl) ⟨g.box4 2 rfl, g.box3 3 rfl⟩ (fun hHeld => ?_)
    simp only [List.take_succ_cons, List.take_zero]
    generalize wr.drew = v0 at g hHeld ⊢
    refine tkA 0 hHeld ?_
    refine tkA 1 hHeld ?_
    refine tkA 2 hHeld ?_
    refine wpAnyH_ready (rs := [3, 5]) (by kernel_rfl) (by simp) ?_
    refine ready_cons rfl (fun K hK => ?_) (ready_cons rfl (fun K hK => ?_) AllReadyH.nil)
    ·go_simp
     refine (HRow1.out _ (g.ro 4 rfl) g.size).mono ?_
     rintro (e : Ending) w4 ⟨A5, c5, rfl, hi4, hb4⟩
     replace g := (g.on hb4).pushRo hi4
     show K _ _
     refine outA hK ?_ fun hHeld => ?_
     ·exact ⟨g.box4 3 rfl, g.box3 4 rfl⟩
     clear hK K
     refine wpAnyH_ready (rs := [4, 5]) (by kernel_rfl) (by simp) ?_
     refine ready_cons rfl (fun K hK => ?_) (ready_cons rfl (fun K hK => ?_) AllReadyH.nil)
     ·go_simp
      refine (HAd1.out _ _ (g.roInts 6 rfl) (g.roInts 0 rfl)).mono ?_
      rintro (e : Ending) w5 ⟨u5, rfl, ho5, hb5⟩
      obtain ⟨A9, n9, c9, rfl⟩ := ho5.slice
      replace g := g.pushOwn hb5 ho5
      show K _ _
      refine outA hK ?_ fun hHeld => ?_
      ·exact ⟨g.box4 4 rfl, g.box3 5 rfl⟩
      clear hK K
      refine rcA 5 fun K hK => ?_
      ·go_simp
       replace g := (g.box [.int .i64 0, .int .i64 0, .int .i64 0, .slice none 0 0] 32).toBack
       simp only [List.cons_append, List.nil_append] at g
       refine hK.out _ _ ?_ (fun hHeld => ?_)
       ·exact ⟨g.box4 4 rfl, g.box3 5 rfl⟩
       clear hK K
       generalize w5.alloc (.cells #[.int .i64 0, .int .i64 0, .int .i64 0, .slice none 0 0] 32) = va at g hHeld ⊢
       try simp only [Act.put, List.setIfInBounds_toArray, List.set_cons_zero, List.set_cons_succ]
       refine wpAnyH_done (by kernel_rfl) ?_ _
       show wpList _ _ _ _ _ _
       simp only [List.drop_succ_cons, List.drop_zero]
       clear hHeld
       obtain ⟨p0, p1, p2, p3⟩ := g.box4 8 rfl
       have f0 := g.free 8 rfl 0
       have f1 := g.free 8 rfl 1
       have f2 := g.free 8 rfl 2
       have f3 := g.free 8 rfl 3
       have g4 := (((g.setBox 8 rfl 0 (.int .i64 p)).setBox 8 rfl 1 (.int .i64 n)).setBox 8 rfl 2 (.int .i64 n)).setBox 8 rfl 3 (.slice A9 n9 c9)
       obtain ⟨r0, r1, r2, r3⟩ := g4.box4 8 rfl
       go_wp2
       go_meet
       exact ⟨_, A9, n9, c9, rfl, g4.re [8, 0, 2, 3, 4, 5, 6, 7] (by decide) (fun j => by rcases j with _ | _ | _ | _ | _ | _ | _ | _ | j <;> rfl)⟩
     ·go_simp
      replace g := (g.box [.int .i64 0, .int .i64 0, .int .i64 0, .slice none 0 0] 32).toBack
      simp only [List.cons_append, List.nil_append] at g
      refine hK.out _ _ ?_ (fun hHeld => ?_)
      ·exact ⟨g.box4 3 rfl, g.box3 4 rfl⟩
      clear hK K
      generalize w4.alloc (.cells #[.int .i64 0, .int .i64 0, .int .i64 0, .slice none 0 0] 32) = va at g hHeld ⊢
      try simp only [Act.put, List.setIfInBounds_toArray, List.set_cons_zero, List.set_cons_succ]
      refine rcA 4 fun K hK => ?_
      ·go_simp
       refine (HAd1.out _ _ (g.roInts 6 rfl) (g.roInts 0 rfl)).mono ?_
       rintro (e : Ending) w5 ⟨u5, rfl, ho5, hb5⟩
       obtain ⟨A9, n9, c9, rfl⟩ := ho5.slice
       replace g := g.pushOwn hb5 ho5
       show K _ _
       refine outA hK ?_ fun hHeld => ?_
       ·exact ⟨g.box4 4 rfl, g.box3 5 rfl⟩
       clear hK K
       refine wpAnyH_done (by kernel_rfl) ?_ _
       show wpList _ _ _ _ _ _
       simp only [List.drop_succ_cons, List.drop_zero]
       clear hHeld
       obtain ⟨p0, p1, p2, p3⟩ := g.box4 8 rfl
       have f0 := g.free 8 rfl 0
       have f1 := g.free 8 rfl 1
       have f2 := g.free 8 rfl 2
       have f3 := g.free 8 rfl 3
       have g4 := (((g.setBox 8 rfl 0 (.int .i64 p)).setBox 8 rfl 1 (.int .i64 n)).setBox 8 rfl 2 (.int .i64 n)).setBox 8 rfl 3 (.slice A9 n9 c9)
       obtain ⟨r0, r1, r2, r3⟩ := g4.box4 8 rfl
       go_wp2
       go_meet
       exact ⟨_, A9, n9, c9, rfl, g4.re [8, 0, 2, 3, 4, 5, 6, 7] (by decide) (fun j => by rcases j with _ | _ | _ | _ | _ | _ | _ | _ | j <;> rfl)⟩
    ·go_simp
     replace g := (g.box [.int .i64 0, .int .i64 0, .int .i64 0, .slice none 0 0] 32).toBack
     simp only [List.cons_append, List.nil_append] at g
     refine hK.out _ _ ?_ (fun hHeld => ?_)
     ·exact ⟨g.box4 2 rfl, g.box3 3 rfl⟩
     clear hK K
     generalize v0.alloc (.cells #[.int .i64 0, .int .i64 0, .int .i64 0, .slice none 0 0] 32) = va at g hHeld ⊢
     try simp only [Act.put, List.setIfInBounds_toArray, List.set_cons_zero, List.set_cons_succ]
     refine rcA 3 fun K hK => ?_
     ·go_simp
      refine (HRow1.out _ (g.ro 4 rfl) g.size).mono ?_
      rintro (e : Ending) w4 ⟨A5, c5, rfl, hi4, hb4⟩
      replace g := (g.on hb4).pushRo hi4
      show K _ _
      refine outA hK ?_ fun hHeld => ?_
      ·exact ⟨g.box4 3 rfl, g.box3 4 rfl⟩
      clear hK K
      refine rcA 4 fun K hK => ?_
      ·go_simp
       refine (HAd1.out _ _ (g.roInts 6 rfl) (g.roInts 0 rfl)).mono ?_
       rintro (e : Ending) w5 ⟨u5, rfl, ho5, hb5⟩
       obtain ⟨A9, n9, c9, rfl⟩ := ho5.slice
       replace g := g.pushOwn hb5 ho5
       show K _ _
       refine outA hK ?_ fun hHeld => ?_
       ·exact ⟨g.box4 4 rfl, g.box3 5 rfl⟩
       clear hK K
       refine wpAnyH_done (by kernel_rfl) ?_ _
       show wpList _ _ _ _ _ _
       simp only [List.drop_succ_cons, List.drop_zero]
       clear hHeld
       obtain ⟨p0, p1, p2, p3⟩ := g.box4 8 rfl
       have f0 := g.free 8 rfl 0
       have f1 := g.free 8 rfl 1
       have f2 := g.free 8 rfl 2
       have f3 := g.free 8 rfl 3
       have g4 := (((g.setBox 8 rfl 0 (.int .i64 p)).setBox 8 rfl 1 (.int .i64 n)).setBox 8 rfl 2 (.int .i64 n)).setBox 8 rfl 3 (.slice A9 n9 c9)
       obtain ⟨r0, r1, r2, r3⟩ := g4.box4 8 rfl
       go_wp2
       go_meet
       exact ⟨_, A9, n9, c9, rfl, g4.re [8, 0, 2, 3, 4, 5, 6, 7] (by decide) (fun j => by rcases j with _ | _ | _ | _ | _ | _ | _ | _ | j <;> rfl)⟩
   obtain ⟨B9, A9, n9, c9, rfl, g4⟩ := hcut
   have g5 := (g4.emptyRows.emptyMats).swap2
   simp only [World.size_alloc] at g5
   clear g4
   obtain ⟨OM, hOM, h3⟩ : ∃ OM, OM = _ ∧ St w _ (rowsIt _ [] [] :: matsIt _ [] [] :: OM) := ⟨_, rfl, g5⟩
   clear g5
   go_wp2
   go_loopw [10, 11, 12, 13, 14, 15] (fun v10 v11 v12 _ _ _ wr => ∃ (i : Nat) (us5 us6 : List Value), v12 = .int .i64 i ∧ i ≤ Ll ∧ Hid (us5.length = (rsT p n A L i 0).length) ∧ Hid (us6.length = (rsT p n A L i 0).length) ∧ St w wr (rowsIt v10 us5 (lmL (rsT p n A L i 0)) :: matsIt v11 us6 (lmM p n (rsT p n A L i 0)) :: OM)) (fun _ _ v12 _ _ _ _ => Ll - (intOf v12).toNat)
   case atStart => exact ⟨0, [], [], rfl, by omega, by show _ = _; rw [rsT_zero]; rfl, by show _ = _; rw [rsT_zero]; rfl, by rw [rsT_zero]; exact h3⟩
   case round =>
    clear h3
    obtain ⟨i, us5, us6, rfl, a2, Hu5, Hu6, h3⟩ := hrel
    by_cases hi : i < Ll
    case neg =>
     obtain rfl : i = Ll := by omega
     have HE := Lib.hid (show rsT p n A L i 0 = Lk (k + 1) by rw [HLl.out, rsT_end, ← HSt.out])
     rw [HE.out] at Hu5 Hu6 h3
     subst hOM
     go_wp2
     go_roundw
     case rel => exact ⟨k + 1, us5, us6, by go_num, by omega, Hu5, Hu6, h3.re [0, 1, 6, 7, 8, 9] (by decide) (fun j => by rcases j with _ | _ | _ | _ | _ | _ | j <;> rfl)⟩
     case measure => simp [intOf]; omega
    case pos =>
     subst hOM
     have ii : (i : Int) < (Ll : Int) := by omega
     have hiL : i < L.length := by rw [← HLl.out]; exact hi
     obtain ⟨gr, rfl⟩ := h3.vecSome 4 rfl (by rw [length_lmL]; omega)
     obtain ⟨gm, rfl⟩ := h3.vecSome 5 rfl (by rw [length_lmM]; omega)
     have hmem := HL2.out _ (List.mem_of_getElem? (lm_get hiL))
     have hgl : (lmL L)[i]? = some (lsOf L i) := by rw [lmL, List.getElem?_map, lm_get hiL]; rfl
     have hgm : (lmM p n L)[i]? = some (rsM p n (spOf L i)) := by rw [lmM, List.getElem?_map, lm_get hiL]; rfl
     have hrl : rowOf (lmL L) i = lsOf L i := by rw [rowOf, List.getD_eq_getElem?_getD, hgl]; rfl
     have hLll : (lmL L).length = Ll := by rw [length_lmL, ← HLl.out]
     have hLml : (lmM p n L).length = Ll := by rw [length_lmM, ← HLl.out]
     obtain ⟨Ar, cr, hur, -, -⟩ := h3.row 4 rfl (Hul.out.trans (length_lmL L).symm) hLll.symm (k := i) (by omega)
     obtain ⟨Am, cm, hum⟩ := h3.matVR 5 rfl (Hul2.out.trans (length_lmM p n L).symm) hgm
     rw [hrl] at hur
     have HRt := Lib.hid (fun (W : World) (M : List It) (q : Nat) (h : St w W M) (hq : M[q]? = some (rowsIt (.slice (some ⟨gr, 0, none⟩) Ll c6) us (lmL L))) => (show W.cell? ⟨gr, i, none⟩ = some (.slice Ar (lsOf L i).length cr) ∧ Ints W (.slice Ar (lsOf L i).length cr) (lsOf L i) by
      have h9 := h.rowAt q hq hLll.symm hur (by omega)
      rwa [hrl] at h9))
     have HMt := Lib.hid (fun (W : World) (M : List It) (q : Nat) (h : St w W M) (hq : M[q]? = some (matsIt (.slice (some ⟨gm, 0, none⟩) Ll c7) us2 (lmM p n L))) => h.matGR q hq hLml i hum hgm)
     have HNr := Lib.hid (rsT_row (p := p) (n := n) (A := A) hiL)
     have HLe9 := Lib.hid (fun j => rsT_le (p := p) (n := n) (A := A) hiL j)
     have HSc := Lib.hid (fun (j : Nat) (q : Int × List (List Int)) h => rsT_succ (p := p) (n := n) (A := A) (L := L) (i := i) (j := j) (q := q) h)
     have HRf := Lib.hid hmem.1
     have HXl := Lib.hid (show (lsOf L i).length = k from hmem.2)
     obtain ⟨Sp, hSp⟩ : ∃ Sp, Sp = spOf L i := ⟨_, rfl⟩
     obtain ⟨Ls, hLs⟩ : ∃ Ls, Ls = lsOf L i := ⟨_, rfl⟩
     simp only [rsM] at HMt hum
     have HEg := Lib.hid (fun W v1 v2 x1 x2 x3 => HEig1.out W v1 v2 (spOf L i) x1 x2 x3 HRf.out)
     rw [← hSp] at HMt HNr HSc HRf HEg hum
     rw [← hLs] at HRt HSc HXl hur
     obtain ⟨Q, hQ⟩ : ∃ Q, Q = eigP p n A Sp p.toNat := ⟨_, rfl⟩
     rw [← hQ] at HNr HSc HEg
     have hQ7 : Q.length ≤ 10007 := by
      rw [hQ]
      have h8 := eigP_len (p := p) (n := n) (A := A) (S := Sp) p.toNat
      have h9 := Hp'.out
      omega
     have HQm := Lib.hid (show ∀ x ∈ Q, ∃ a, Rf p n x.2 a from fun x hx => by rw [hQ] at hx; exact (eigP_mem HP.out hx).2.1)
     obtain ⟨Fs, hFs⟩ : ∃ Fs, Fs = (flat n Sp).length := ⟨_, rfl⟩
     rw [← hFs] at HMt hum
     obtain ⟨Ssl, hSsl⟩ : ∃ Ssl, Ssl = Sp.length := ⟨_, rfl⟩
     rw [← hSsl] at HMt HEg
     clear hmem hgl hgm hrl hLll hLml hSp hLs hQ hFs hSsl hur hum HEig1
     go_upto_region 12 with fail
     have g0 := h3.drew
     refine wp_region_held_drew (S := fun w' => (w'.cell? ⟨w.heap.size, 0, none⟩ = some (.int .i64 p) ∧ w'.cell? ⟨w.heap.size, 1, none⟩ = some (.int .i64 n) ∧ w'.cell? ⟨w.heap.size, 2, none⟩ = some (.slice A0 T.length k0)) ∧ (w'.cell? ⟨B9, 0, none⟩ = some (.int .i64 p) ∧ w'.cell? ⟨B9, 1, none⟩ = some (.int .i64 n) ∧ w'.cell? ⟨B9, 2, none⟩ = some (.int .i64 n) ∧ w'.cell? ⟨B9, 3, none⟩ = some (.slice A9 n9 c9)) ∧ (w'.cell? ⟨gm, i * 4, none⟩ = some (.int .i64 p) ∧ w'.cell? ⟨gm, i * 4 + 1, none⟩ = some (.int .i64 Ssl) ∧ w'.cell? ⟨gm, i * 4 + 2, none⟩ = some (.int .i64 n) ∧ w'.cell? ⟨gm, i * 4 + 3, none⟩ = some (.slice Am Fs cm))) (by kernel_rfl) ⟨g0.box3 7 rfl, g0.box4 2 rfl, (HMt.out _ _ 5 g0 rfl).1⟩ (fun hHeld => ?_)
     refine tkA 0 hHeld ?_
     refine tkA 1 hHeld ?_
     refine tkA 2 hHeld ?_
     refine tkA 3 hHeld ?_
     refine tkA 4 hHeld ?_
     refine tkA 5 hHeld ?_
     refine rcA 6 fun K hK => ?_
     go_simp
     refine (HEg.out _ _ _ (g0.roInts 9 rfl) (g0.ownInts 3 rfl) (HMt.out _ _ 5 g0 rfl).2).mono ?_
     rintro (e : Ending) w7 ⟨v7, v8, us8, rfl, hul8, hst8⟩
     have g1 := g0.pushEM hst8
     show K _ _
     refine outA hK ?_ fun hHeld => ?_
     ·exact ⟨g1.box3 9 rfl, g1.box4 4 rfl, (HMt.out _ _ 7 g1 rfl).1⟩
     clear hK K
     refine tkA 7 hHeld ?_
     refine tkA 8 hHeld ?_
     refine tkA 9 hHeld ?_
     refine tkA 10 hHeld ?_
     refine tkA 11 hHeld ?_
     refine wpAnyH_done (by kernel_rfl) ?_ _
     clear hHeld
     clear g0 h3 hst8 HEg
     obtain ⟨A13, c13, rfl, _, _, _⟩ := id (g1.ownInts 0 rfl)
     obtain ⟨A14, c14, rfl, _, _, _⟩ := id (g1.mats 1 rfl (by rw [emM, List.length_map]; exact hul8))
     obtain ⟨Ql, hQl⟩ : ∃ Ql, Ql = Q.length := ⟨_, rfl⟩
     have hE1 : (emL Q).length = Ql := by rw [emL, List.length_map, hQl]
     have hE2 : (emM p n Q).length = Ql := by rw [emM, List.length_map, hQl]
     rw [hE1] at g1 ⊢
     rw [hE2] at g1 ⊢
     have HE1 := Lib.hid hE1
     have HEm := Lib.hid hE2
     have HQl := Lib.hid hQl
     have hQl7 : Ql ≤ 10007 := by omega
     have Hul8 := Lib.hid hul8
     have g2 := g1.re [2, 3, 0, 1, 4, 5, 6, 7, 8, 9, 10, 11] (by decide) (L' := [rowsIt u10 us5 (lmL (rsT p n A L i 0)), matsIt u11 us6 (lmM p n (rsT p n A L i 0)), .own (.slice A13 Ql c13) (emL Q), ptIt (.slice A14 Ql c14) us8 (emM p n Q) 0, .box B9 [.int .i64 p, .int .i64 n, .int .i64 n, .slice A9 n9 c9], .own (.slice A9 n9 c9) A, rowsIt (.slice (some ⟨gr, 0, none⟩) Ll c6) us (lmL L), matsIt (.slice (some ⟨gm, 0, none⟩) Ll c7) us2 (lmM p n L), .box (w.heap.size + 1) [.int .i64 p, .int .i64 Sl, .int .i64 n, .slice A2 F2.length k2], .box w.heap.size [.int .i64 p, .int .i64 n, .slice A0 T.length k0], .ro (.slice A2 F2.length k2) F2, .ro (.slice A0 T.length k0) T]) (fun j => by rcases j with _ | _ | _ | _ | _ | _ | _ | _ | _ | _ | _ | _ | j <;> rfl)
     clear g1 hE1 hE2 hQl hul8 hQ7
     obtain ⟨OL, hOL, h4⟩ : ∃ OL, OL = _ ∧ St w _ (rowsIt _ _ _ :: matsIt _ _ _ :: .own _ _ :: ptIt _ _ _ _ :: OL) := ⟨_, rfl, g2⟩
     clear g2
     go_wp2
     go_loopw [10, 11, 15] (fun v10 v11 v15 wr => ∃ (j : Nat) (us5 us6 : List Value), v15 = .int .i64 j ∧ j ≤ Ql ∧ Hid (us5.length = (rsT p n A L i j).length) ∧ Hid (us6.length = (rsT p n A L i j).length) ∧ St w wr (rowsIt v10 us5 (lmL (rsT p n A L i j)) :: matsIt v11 us6 (lmM p n (rsT p n A L i j)) :: .own (.slice A13 Ql c13) (emL Q) :: ptIt (.slice A14 Ql c14) us8 (emM p n Q) j :: OL)) (fun _ _ v15 _ => Ql - (intOf v15).toNat)
     case atStart => exact ⟨0, us5, us6, rfl, by omega, Hu5, Hu6, h4⟩
     case round =>
      clear h4 Hu5 Hu6
      obtain ⟨j, us5, us6, rfl, a3, Hu5, Hu6, h4⟩ := hrel
      by_cases hj : j < Ql
      case neg =>
       obtain rfl : j = Ql := by omega
       rw [HQl.out, HNr.out] at Hu5 Hu6
       have hj9 : rsT p n A L i j = rsT p n A L (i + 1) 0 := by rw [HQl.out]; exact HNr.out
       rw [hj9] at h4
       clear hj9
       subst hOL
       go_wp2
       go_roundw
       case rel => exact ⟨i + 1, us5, us6, by go_num, by omega, Hu5, Hu6, h4.re [0, 1, 4, 5, 6, 7, 8, 9, 10, 11] (by decide) (fun j => by rcases j with _ | _ | _ | _ | _ | _ | _ | _ | _ | _ | j <;> rfl)⟩
       case measure => simp [intOf]; omega
      case pos =>
       have hjQ : j < Q.length := by rw [← HQl.out]; exact hj
       have hq : Q[j]? = some Q[j] := List.getElem?_eq_getElem hjQ
       have hNx := HSc.out j _ hq
       obtain ⟨x, hx⟩ : ∃ x, x = Q[j].1 := ⟨_, rfl⟩
       obtain ⟨E, hE⟩ : ∃ E, E = Q[j].2 := ⟨_, rfl⟩
       rw [← hx, ← hE] at hNx
       have hgx : (emL Q)[j]? = some x := by rw [emL, List.getElem?_map, hq, hx]; rfl
       have hgE : (emM p n Q)[j]? = some (rsM p n E) := by rw [emM, List.getElem?_map, hq, hE]; rfl
       have HNx := Lib.hid hNx
       have Hm8 := Lib.hid hgE
       obtain ⟨A15, c15, hu8⟩ := h4.ptV 3 rfl (by rw [emM, List.length_map]; exact Hul8.out) hgE
       have Hu8 := Lib.hid hu8
       have hb9 := HLe9.out j
       have hb8 := HL3.out
       have HLen := Lib.hid (show Ls.length + [x].length ≤ 17592186044416 by rw [HXl.out]; have := HSl.out; have := HnS.out; simp; omega)
       have Hl2 := Lib.hid (show us5.length = (lmL (rsT p n A L i j)).length by rw [length_lmL]; exact Hu5.out)
       have Hl3 := Lib.hid (show (lmL (rsT p n A L i j)).length + 1 ≤ 1099511627776 by rw [length_lmL]; have := HnS.out; omega)
       have Hl4 := Lib.hid (show us6.length = (lmM p n (rsT p n A L i j)).length by rw [length_lmM]; exact Hu6.out)
       have Hl5 := Lib.hid (show (lmM p n (rsT p n A L i j)).length + 1 ≤ 1099511627776 by rw [length_lmM]; have := HnS.out; omega)
       have HLi := Lib.hid (fun (W : World) (x1 : Ints W (.slice Ar Ls.length cr) Ls) => l1Ints_any _ Ls W x1 (by rw [HXl.out]; have := HSl.out; have := HnS.out; omega))
       obtain ⟨gv, rfl, -⟩ := h4.ownSomeA 2 rfl (by rw [HE1.out]; omega)
       obtain ⟨gp, rfl⟩ := h4.vecSome 3 rfl (by rw [HEm.out]; omega)
       have hvx : Go.Proofs.YtbnefjhljfbecaaGreatDoor.vec (emL Q) j = x := by rw [Go.Proofs.YtbnefjhljfbecaaGreatDoor.vec, List.getD_eq_getElem?_getD, hgx]; rfl
       have HVx := Lib.hid (fun (W : World) (M : List It) (q : Nat) (h : St w W M) (hq : M[q]? = some (.own (.slice (some ⟨gv, 0, none⟩) Ql c13) (emL Q))) => (show W.cell? ⟨gv, j, none⟩ = some (.int .i64 x) by
        have h9 := (h.ownCellA q hq (q := j) (by rw [HE1.out]; exact hj)).1
        rwa [hvx] at h9))
       have ij : (j : Int) < (Ql : Int) := by omega
       have hA15 : (rsM p n E).d.length = (flat n E).length := rfl
       clear hq hNx hx hE hgx hgE hu8 hb9 hb8 hvx hjQ hA15
       subst hOL
       go_upto_region 16 with fail
       have g := h4.drew
       refine wp_region_cut (S := fun w' => w'.cell? ⟨gr, i, none⟩ = some (.slice Ar Ls.length cr) ∧ w'.cell? ⟨gv, j, none⟩ = some (.int .i64 x)) 13 (by kernel_rfl) (by kernel_rfl) ⟨(HRt.out _ _ 6 g rfl).1, HVx.out _ _ 2 g rfl⟩ (fun hHeld => ?_)
       simp only [List.take_succ_cons, List.take_zero]
       clear h4
       generalize wr.drew = v0 at g hHeld ⊢
       refine tkA 0 hHeld ?_
       refine tkA 1 hHeld ?_
       refine tkA 2 hHeld ?_
       refine tkA 3 hHeld ?_
       refine tkA 4 hHeld ?_
       refine tkA 6 hHeld ?_
       refine tkA 7 hHeld ?_
       refine tkA 8 hHeld ?_
       refine tkA 9 hHeld ?_
       refine wpAnyH_ready (rs := [5, 10]) (by kernel_rfl) (by simp) ?_
       refine ready_cons rfl (fun K hK => ?_) (ready_cons rfl (fun K hK => ?_) AllReadyH.nil)
       ·go_simp
        refine (HLi.out _ (HRt.out _ _ 6 g rfl).2).mono ?_
        rintro (e : Ending) w4 ⟨u4, rfl, ho4, hb4⟩
        obtain ⟨A4, n4, c4, rfl⟩ := ho4.slice
        replace g := g.pushOwn hb4 ho4
        show K _ _
        refine outA hK ?_ fun hHeld => ?_
        ·exact ⟨(HRt.out _ _ 7 g rfl).1, HVx.out _ _ 3 g rfl⟩
        clear hK K
        refine rcA 10 fun K hK => ?_
        go_simp
        replace g := g.one x
        refine outA hK ?_ fun hHeld => ?_
        ·exact ⟨(HRt.out _ _ 8 g rfl).1, HVx.out _ _ 4 g rfl⟩
        clear hK K
        refine rcA 11 fun K hK => ?_
        refine step_append_ints rfl (.tmp 61) (.tmp 66) rfl g 1 rfl (g.ownInts 0 rfl) HLen.out rfl rfl fun vA wa g5 => ?_
        simp only [List.set_cons_zero, List.set_cons_succ] at g5
        obtain ⟨A7, n7, c7, rfl⟩ := (g5.own 1 rfl).slice
        refine outA hK ?_ fun hHeld => ?_
        ·exact ⟨(HRt.out _ _ 8 g5 rfl).1, HVx.out _ _ 4 g5 rfl⟩
        clear hK K
        have g6 := g5.drop 1
        simp only [List.drop_succ_cons, List.drop_zero] at g6
        refine rcA 12 fun K hK => ?_
        go_simp
        have ga := g6.alloc' (.cells #[.slice A7 n7 c7] 22)
        refine outA hK ?_ fun hHeld => ?_
        ·exact ⟨(HRt.out _ _ 7 ga rfl).1, HVx.out _ _ 3 ga rfl⟩
        clear hK K
        refine wpAnyH_done (by kernel_rfl) ?_ _
        show wpList _ _ _ _ _ _
        simp only [List.drop_succ_cons, List.drop_zero]
        clear hHeld
        clear ga g5 g
        go_wp2_with (first
         | (at_builtin; refine wp_append_row' rfl (.tmp 56) (.tmp 68) rfl g6 0 rfl Hl2.out rfl rfl Hl3.out ?_; intro v1 w9 h9; have hq := h9.ptOff 3 rfl Hu8.out Hm8.out; obtain ⟨x0, x1, x2, x3⟩ := h9.ptCells 3 rfl HEm.out j Hu8.out Hm8.out; simp only [List.set_cons_zero, List.set_cons_succ] at hq)
         | (at_builtin; refine wp_append_mat rfl (.tmp 70) (.tmp 75) rfl (rsM p n E) hq 1 rfl Hl4.out rfl rfl Hl5.out ?_; intro v2 w10 h10))
        clear g6 x0 x1 x2 x3 hq h9
        simp only [List.set_cons_zero, List.set_cons_succ] at h10
        go_roundw
        case rel => exact ⟨j + 1, us5 ++ [_], us6 ++ [_], by go_num, by omega, by show _ = _; rw [List.length_append, Hu5.out, HNx.out, List.length_append]; rfl, by show _ = _; rw [List.length_append, Hu6.out, HNx.out, List.length_append]; rfl, by rw [HNx.out, lmL_app, lmM_app]; exact h10⟩
        case measure => simp [intOf]; omega
       ·go_simp
        replace g := g.one x
        refine outA hK ?_ fun hHeld => ?_
        ·exact ⟨(HRt.out _ _ 7 g rfl).1, HVx.out _ _ 3 g rfl⟩
        clear hK K
        refine rcA 5 fun K hK => ?_
        go_simp
        refine (HLi.out _ (HRt.out _ _ 7 g rfl).2).mono ?_
        rintro (e : Ending) w4 ⟨u4, rfl, ho4, hb4⟩
        obtain ⟨A4, n4, c4, rfl⟩ := ho4.slice
        replace g := (g.pushOwn hb4 ho4).swap2
        show K _ _
        refine outA hK ?_ fun hHeld => ?_
        ·exact ⟨(HRt.out _ _ 8 g rfl).1, HVx.out _ _ 4 g rfl⟩
        clear hK K
        refine rcA 11 fun K hK => ?_
        refine step_append_ints rfl (.tmp 61) (.tmp 66) rfl g 1 rfl (g.ownInts 0 rfl) HLen.out rfl rfl fun vA wa g5 => ?_
        simp only [List.set_cons_zero, List.set_cons_succ] at g5
        obtain ⟨A7, n7, c7, rfl⟩ := (g5.own 1 rfl).slice
        refine outA hK ?_ fun hHeld => ?_
        ·exact ⟨(HRt.out _ _ 8 g5 rfl).1, HVx.out _ _ 4 g5 rfl⟩
        clear hK K
        have g6 := g5.drop 1
        simp only [List.drop_succ_cons, List.drop_zero] at g6
        refine rcA 12 fun K hK => ?_
        go_simp
        have ga := g6.alloc' (.cells #[.slice A7 n7 c7] 22)
        refine outA hK ?_ fun hHeld => ?_
        ·exact ⟨(HRt.out _ _ 7 ga rfl).1, HVx.out _ _ 3 ga rfl⟩
        clear hK K
        refine wpAnyH_done (by kernel_rfl) ?_ _
        show wpList _ _ _ _ _ _
        simp only [List.drop_succ_cons, List.drop_zero]
        clear hHeld
        clear ga g5 g
        go_wp2_with (first
         | (at_builtin; refine wp_append_row' rfl (.tmp 56) (.tmp 68) rfl g6 0 rfl Hl2.out rfl rfl Hl3.out ?_; intro v1 w9 h9; have hq := h9.ptOff 3 rfl Hu8.out Hm8.out; obtain ⟨x0, x1, x2, x3⟩ := h9.ptCells 3 rfl HEm.out j Hu8.out Hm8.out; simp only [List.set_cons_zero, List.set_cons_succ] at hq)
         | (at_builtin; refine wp_append_mat rfl (.tmp 70) (.tmp 75) rfl (rsM p n E) hq 1 rfl Hl4.out rfl rfl Hl5.out ?_; intro v2 w10 h10))
        clear g6 x0 x1 x2 x3 hq h9
        simp only [List.set_cons_zero, List.set_cons_succ] at h10
        go_roundw
        case rel => exact ⟨j + 1, us5 ++ [_], us6 ++ [_], by go_num, by omega, by show _ = _; rw [List.length_append, Hu5.out, HNx.out, List.length_append]; rfl, by show _ = _; rw [List.length_append, Hu6.out, HNx.out, List.length_append]; rfl, by rw [HNx.out, lmL_app, lmM_app]; exact h10⟩
        case measure => simp [intOf]; omega
end
end Go.Proofs.YtbnefjhljfbecaaGreatDoor
