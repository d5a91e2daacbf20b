import Derived.Test.YtbnefjhljfbecaaGreatDoorW07
import Derived.Test.YtbnefjhljfbecaaGreatDoorW22
import Derived.Test.YtbnefjhljfbecaaGreatDoorW33
import Derived.Test.YtbnefjhljfbecaaGreatDoorW35
import Derived.Test.YtbnefjhljfbecaaGreatDoorW39
namespace Go.Proofs.YtbnefjhljfbecaaGreatDoor
set_option maxRecDepth 100000
section
open Go.RowKit
set_option maxHeartbeats 2000000 in
theorem l1Join_big (p q c : Int) (n : Nat) (t u : Value) (R S : List (List Int)) (w : World) (ht : Ints w t (flat n R)) (hu : Ints w u (flat n S)) (hR : Wf p n R) (hS : Wf p n S) (hr : R.length ≤ 64) (hs : S.length ≤ 1600) (hn : n ≤ 64) (hP : isPrime p = true) :
  Calls Tryz.prog 105 #[.agg #[.int .i64 p, .int .i64 R.length, .int .i64 n, t], .agg #[.int .i64 q, .int .i64 S.length, .int .i64 c, u]] w (RetMat w p (spanL p n (R ++ S)).length n (flat n (spanL p n (R ++ S)))) := by
 have hp := (isPrime_bd hP).1
 have h1 := (((((St.start w).arg ht).arg hu).box [.int .i64 p, .int .i64 R.length, .int .i64 n, t] 32).box [.int .i64 q, .int .i64 S.length, .int .i64 c, u] 32).box [.int .i64 0, .int .i64 0, .int .i64 0, .slice none 0 0] 32
 simp only [World.size_alloc] at h1
 obtain ⟨A, k0, rfl, _, _, _⟩ := id ht
 obtain ⟨A2, k2, rfl, _, _, _⟩ := id hu
 obtain ⟨r, er⟩ : ∃ r, r = R.length := ⟨_, rfl⟩
 obtain ⟨s, es⟩ : ∃ s, s = S.length := ⟨_, rfl⟩
 have hb1 := mul_le hr hn
 have hb2 := mul_le hs hn
 have hDl := length_flat n R
 have hEl := length_flat n S
 have hlen : (flat n R ++ flat n S).length = (r + s) * n := by rw [List.length_append, hDl, hEl, er, es, Nat.add_mul]
 have hrows := rowsM_app hR hS
 have hres := resid_app (resid_flat (by omega) hR) (resid_flat (by omega) hS)
 rw [← er, ← es] at hrows
 rw [← er] at hDl hb1
 rw [← es] at hEl hb2
 obtain ⟨F, hF⟩ : ∃ F, F = flat n (spanL p n (R ++ S)) := ⟨_, rfl⟩
 obtain ⟨l, hl⟩ : ∃ l, l = (spanL p n (R ++ S)).length := ⟨_, rfl⟩
 have HSp := Lib.hid (show ∀ (W : World) (v : Value), Ints W v (flat n R ++ flat n S) → Calls Tryz.prog 61 #[.agg #[.int .i64 p, .int .i64 (r + s : Nat), .int .i64 n, v]] W (RetMat W p l n F) from fun W v hv => by
  have := l1Span_any p (r + s) n v _ W hv hlen (by rw [Nat.add_mul]; omega) (by omega) (by omega) hP hres
  rw [hrows] at this
  rw [hF, hl]
  exact this)
 rw [← hF, ← hl]
 rw [← er] at h1 hr ⊢
 rw [← es] at h1 hs ⊢
 obtain ⟨D, hD⟩ : ∃ D, D = flat n R := ⟨_, rfl⟩
 obtain ⟨E, hE⟩ : ∃ E, E = flat n S := ⟨_, rfl⟩
 rw [← hD] at h1 hDl HSp ⊢
 rw [← hE] at h1 hEl HSp ⊢
 obtain ⟨rs, hrs⟩ : ∃ rs, rs = r + s := ⟨_, rfl⟩
 rw [← hrs] at HSp
 have e1 : (r : Int) + (s : Int) = (rs : Int) := by omega
 have e2 : IntKind.i64.wrap (rs : Int) = rs := wrap_ok (by omega) (by omega)
 have HDl := Lib.hid hDl
 have HEl := Lib.hid hEl
 clear ht hu hR hS hF hl hD hE er es hDl hEl hlen hrows hres hrs
 go_enter Tryz.func105, Tryz.ntmps105
 go_upto_region 1 with fail
 have g0 := h1.drew
 refine wp_region_cut (S := fun w' => (w'.cell? ⟨w.heap.size, 0, none⟩ = some (.int .i64 p) ∧ w'.cell? ⟨w.heap.size, 1, none⟩ = some (.int .i64 r) ∧ w'.cell? ⟨w.heap.size, 2, none⟩ = some (.int .i64 n) ∧ w'.cell? ⟨w.heap.size, 3, none⟩ = some (.slice A D.length k0)) ∧ w'.cell? ⟨w.heap.size + 1, 0, none⟩ = some (.int .i64 q) ∧ w'.cell? ⟨w.heap.size + 1, 1, none⟩ = some (.int .i64 s) ∧ w'.cell? ⟨w.heap.size + 1, 2, none⟩ = some (.int .i64 c) ∧ w'.cell? ⟨w.heap.size + 1, 3, none⟩ = some (.slice A2 E.length k2)) 15 (by kernel_rfl) (by kernel_rfl) ⟨g0.box4 2 rfl, g0.box4 1 rfl⟩ (fun hHeld => ?_)
 simp only [List.take_succ_cons, List.take_zero]
 refine tkA 0 hHeld ?_
 refine tkA 1 hHeld ?_
 refine tkA 2 hHeld ?_
 refine tkA 3 hHeld ?_
 refine tkA 4 hHeld ?_
 refine tkA 5 hHeld ?_
 refine tkA 6 hHeld ?_
 refine tkA 7 hHeld ?_
 refine tkA 8 hHeld ?_
 refine tkA 9 hHeld ?_
 refine tkA 10 hHeld ?_
 refine tkA 12 hHeld ?_
 refine tkA 13 hHeld ?_
 refine rcA 11 fun K hK => ?_
 go_simp
 refine (l1Ints_any _ D _ (g0.roInts 4 rfl) (by rw [HDl.out]; omega)).mono ?_
 rintro (e : Ending) w1 ⟨u1, rfl, ho1, hb1⟩
 obtain ⟨A5, n5, c5, rfl⟩ := ho1.slice
 have g1 := g0.pushOwn hb1 ho1
 show K _ _
 refine outA hK ?_ fun hHeld => ?_
 ·exact ⟨g1.box4 3 rfl, g1.box4 2 rfl⟩
 clear hK K
 refine rcA 14 fun K hK => ?_
 refine step_append_ints rfl (.tmp 16) (.tmp 18) rfl g1 0 rfl (g1.roInts 4 rfl) (by rw [HDl.out, HEl.out]; omega) rfl rfl fun vA w2 g2 => ?_
 simp only [List.set_cons_zero] at g2
 obtain ⟨A6, n6, c6, rfl⟩ := (g2.own 0 rfl).slice
 refine outA hK ?_ fun hHeld => ?_
 ·exact ⟨g2.box4 3 rfl, g2.box4 2 rfl⟩
 clear hK K
 refine wpAnyH_done (by kernel_rfl) ?_ _
 show wpList _ _ _ _ _ _
 simp only [List.drop_succ_cons, List.drop_zero]
 clear hHeld
 go_wp2_with fail
 refine (HSp.out _ _ (g2.ownInts 0 rfl)).mono ?_
 rintro (e : Ending) w3 ⟨u3, rfl, ho3, hb3⟩
 obtain ⟨A7, n7, c7, rfl⟩ := ho3.slice
 have g3 := g2.pushOwn hb3 ho3
 obtain ⟨p0, p1, p2, p3⟩ := g3.box4 2 rfl
 have f0 := g3.free 2 rfl 0
 have f1 := g3.free 2 rfl 1
 have f2 := g3.free 2 rfl 2
 have f3 := g3.free 2 rfl 3
 have h5 := (((g3.setBox 2 rfl 0 (.int .i64 p)).setBox 2 rfl 1 (.int .i64 l)).setBox 2 rfl 2 (.int .i64 n)).setBox 2 rfl 3 (.slice A7 n7 c7)
 obtain ⟨r0, r1, r2, r3⟩ := h5.box4 2 rfl
 clear g0 g1 g2 g3 h1 ho1 ho3 hb1 hb3
 go_wp2
 refine bodyPost_ret (v := .agg #[.int .i64 p, .int .i64 l, .int .i64 n, .slice A7 n7 c7]) (by simp [results, Tryz.results105, go_sem, r0, r1, r2, r3]) rfl ⟨_, rfl, h5.own 0 rfl, h5.below⟩
end
section
open Go.RowKit
set_option maxHeartbeats 1000000 in
theorem l1Kernel_any (p : Int) (r n : Nat) (t : Value) (D : List Int) (w : World) (ht : Ints w t D) (hD : D.length = r * n) (hb : r * n ≤ 4194304) (hr : r ≤ 4194304) (hn : n ≤ 2048) (hP : isPrime p = true) (rD : resid p D = true) :
  Calls Tryz.prog 67 #[.agg #[.int .i64 p, .int .i64 r, .int .i64 n, t]] w (RetMat w p (kerL p n (rowsM r n D)).length n (flat n (kerL p n (rowsM r n D)))) := by
 obtain ⟨b1, b2⟩ := isPrime_bd hP
 have h1 := ((St.start1 ht).box [.int .i64 p, .int .i64 r, .int .i64 n, t] 32).box [.int .i64 0, .int .i64 0, .int .i64 0, .slice none 0 0] 32
 simp only [World.size_alloc] at h1
 obtain ⟨A, k0, rfl, _, _, _⟩ := id ht
 have hW : Wf p n (rowsM r n D) := Wf_rowsM (by omega) rD
 have hok := reduceL_ok (p := p) (by omega) hW
 have hst := reduceL_st hP hW
 have hRd := fun (W : World) (v : Value) (x1 : Ints W v D) => l1Reduce_any p r n v D W x1 hD hb hr (by omega) hP rD
 have hK : kerL p n (rowsM r n D) = spanL p n (kerTab p n (reduceL p n (rowsM r n D)).1 (reduceL p n (rowsM r n D)).2 n) := rfl
 have hpl := hok.piv
 have hrl := hok.len
 have hwf := hok.wf
 have hlt := hst.lt
 rw [length_rowsM] at hpl hrl
 obtain ⟨Rd, hRd'⟩ : ∃ Rd, Rd = (reduceL p n (rowsM r n D)).1 := ⟨_, rfl⟩
 obtain ⟨piv, hpiv⟩ : ∃ piv, piv = (reduceL p n (rowsM r n D)).2 := ⟨_, rfl⟩
 rw [← hRd', ← hpiv] at hK hRd
 rw [← hRd'] at hrl hwf
 rw [← hpiv] at hpl hlt
 obtain ⟨K, hK2⟩ : ∃ K, K = kerL p n (rowsM r n D) := ⟨_, rfl⟩
 rw [← hK2] at hK ⊢
 have HRd := Lib.hid hRd
 have HK := Lib.hid hK
 have Hrl := Lib.hid hrl
 have Hwf := Lib.hid hwf
 have Hlt := Lib.hid hlt
 have HP := Lib.hid hP
 have hpm : piv.length ≤ 4194304 := by omega
 have hmk := makeI n (by omega)
 clear ht hD hW hok hst hRd hRd' hpiv hK hK2 hrl hwf hlt hP rD
 obtain ⟨z0, z1, z2, z3⟩ := h1.box4 1 rfl
 go_enter Tryz.func67, Tryz.ntmps67
 go_wp2_with fail
 refine (HRd.out _ _ (h1.roInts 2 rfl)).mono ?_
 rintro (e : Ending) w2 ⟨u, vp, det, rfl, h2⟩
 replace h1 := h1.pushTwo h2
 clear h2 z0 z1 z2 z3
 obtain ⟨A6, c6, rfl, _, _, _⟩ := id (h1.ownInts 0 rfl)
 obtain ⟨A7, c7, rfl, _, _, _⟩ := id (h1.ownInts 1 rfl)
 rw [length_pivI] at h1 ⊢
 have h3 := (h1.box [.int .i64 p, .int .i64 r, .int .i64 n, .slice A7 (flat n Rd).length c7] 32).emptyRows
 simp only [World.size_alloc] at h3
 clear h1
 go_wp2
 try simp only [World.size_alloc]
 generalize hBr : w2.heap.size = Br at h3 ⊢
 clear hBr
 go_loopw [6, 7, 8, 9, 10] (fun v6 v7 _ _ _ wr => ∃ (c : Nat) (us : List Value), v7 = .int .i64 c ∧ c ≤ n ∧ Hid (us.length = (kerTab p n Rd piv c).length) ∧ St w wr [rowsIt v6 us (kerTab p n Rd piv c), .box Br [.int .i64 p, .int .i64 r, .int .i64 n, .slice A7 (flat n Rd).length c7], .own (.slice A6 piv.length c6) (pivI piv), .own (.slice A7 (flat n Rd).length c7) (flat n Rd), .box (w.heap.size + 1) [.int .i64 0, .int .i64 0, .int .i64 0, .slice none 0 0], .box w.heap.size [.int .i64 p, .int .i64 r, .int .i64 n, .slice A D.length k0], .ro (.slice A D.length k0) D]) (fun _ v7 _ _ _ _ => n - (intOf v7).toNat)
 case atStart => exact ⟨0, [], rfl, by omega, rfl, h3⟩
 case round =>
  clear h3
  obtain ⟨c, us, rfl, a1, Hu, h3⟩ := hrel
  obtain ⟨x0, x1, x2, x3⟩ := h3.box4 5 rfl
  by_cases hc : c < n
  ·obtain ⟨Z, hZ⟩ : ∃ Z, Z = idx (fun y => y == (c : Int)) (pivI piv) 0 := ⟨_, rfl⟩
   have hZb := find_piv piv c
   rw [← hZ] at hZb
   have HZ := Lib.hid hZ
   have HZb := Lib.hid hZb
   clear hZ hZb
   go_wp2_with fail
   refine (l1Find_any _ (pivI piv) c _ (h3.ownInts 2 rfl)).mono ?_
   rintro (e : Ending) w3 ⟨rfl, rfl⟩
   rw [← HZ.out]
   by_cases hm : c ∈ piv
   ·have hz : 0 ≤ Z := by have := HZb.out; rw [decide_eq_true hm] at this; simpa using this
    have HN := Lib.hid (kerTab_no (p := p) (n := n) (S := Rd) hm)
    clear hm
    go_wp2
    go_roundw
    case rel => exact ⟨c + 1, us, by go_num, by omega, by show _ = _; rw [HN.out]; exact Hu.out, by rw [HN.out]; exact h3⟩
    case measure => simp [intOf]; omega
   ·have hz : ¬ (0 ≤ Z) := fun h => by have := HZb.out; rw [decide_eq_true h, decide_eq_false hm] at this; cases this
    have HN := Lib.hid (kerTab_yes (p := p) (n := n) (S := Rd) hm)
    clear hm
    have h4 := h3.zeros n (by omega)
    have h5 := h4.set 0 rfl c 1
    have hu1 : (List.replicate n 0).set c 1 = unitL n c := by rw [← tab_zero, tab_set]; rfl
    rw [hu1] at h5
    simp only [List.set_cons_zero] at h5
    rw [World.setCell_alloc_new] at h5
    obtain ⟨e1, e2⟩ := h4.ownCellA 0 rfl (q := c) (by simpa using hc)
    have HE := Lib.hid (And.intro e1 e2)
    clear e1 e2 hu1
    obtain ⟨e1, e2⟩ := HE.out
    go_wp2
    clear x0 x1 x2 x3 h3 h4 e1 e2 HE
    generalize hBx : wr.heap.size = Bx at h5 ⊢
    clear hBx
    go_loopw [10] (fun v10 wr => ∃ i : Nat, v10 = .int .i64 i ∧ i ≤ piv.length ∧ St w wr [.own (.slice (some ⟨Bx, 0, none⟩) n n) (kerTo p n Rd piv c i), rowsIt u6 us (kerTab p n Rd piv c), .box Br [.int .i64 p, .int .i64 r, .int .i64 n, .slice A7 (flat n Rd).length c7], .own (.slice A6 piv.length c6) (pivI piv), .own (.slice A7 (flat n Rd).length c7) (flat n Rd), .box (w.heap.size + 1) [.int .i64 0, .int .i64 0, .int .i64 0, .slice none 0 0], .box w.heap.size [.int .i64 p, .int .i64 r, .int .i64 n, .slice A D.length k0], .ro (.slice A D.length k0) D]) (fun v10 _ => piv.length - (intOf v10).toNat)
    case atStart => exact ⟨0, rfl, by omega, h5⟩
    case round =>
     clear h5
     obtain ⟨i, rfl, a3, h5⟩ := hrel
     by_cases hi3 : i < piv.length
     ·have him : i < Rd.length := by rw [Hrl.out]; omega
      have hir : i < r := by omega
      have hq := Hlt.out i hi3
      have hfl := length_flat n Rd
      rw [Hrl.out] at hfl
      obtain ⟨gp, rfl, hq8⟩ := h5.ownSomeA 3 rfl (by rw [length_pivI]; omega)
      clear hq8
      have hbd := resid_vec (Hwf.out i him).2 (i := c) (by rw [(Hwf.out i him).1]; exact hc)
      obtain ⟨x, hx⟩ : ∃ x, x = vec (rowOf Rd i) c := ⟨_, rfl⟩
      have hxv : x = vec (flat n Rd) (i * n + c) := by rw [vec_flat him hc, hx]
      have HA := Lib.hid (show ∀ W, Ints W (.slice A7 (flat n Rd).length c7) (flat n Rd) → Calls Tryz.prog 104 #[.agg #[.int .i64 p, .int .i64 r, .int .i64 n, .slice A7 (flat n Rd).length c7], .int .i64 i, .int .i64 c] W (fun e w' => e = .returned (.int .i64 x) ∧ Below W.heap.size W w') from fun W hW => by rw [hxv]; exact l1At_any p r n _ (flat n Rd) i c W hW hfl hb hir hc)
      have HPc := Lib.hid (fun (W : World) (h : W.cell? ⟨gp, i, none⟩ = some (.int .i64 (vec (pivI piv) i))) => (show W.cell? ⟨gp, i, none⟩ = some (.int .i64 (pv piv i : Nat)) by rw [← vec_pivI hi3]; exact h))
      obtain ⟨q, hqq⟩ : ∃ q, q = pv piv i := ⟨_, rfl⟩
      have HSt := Lib.hid (show (kerTo p n Rd piv c i).set q ((-x) % p) = kerTo p n Rd piv c (i + 1) by rw [hx, hqq]; rfl)
      rw [← hqq] at hq HPc
      rw [← hx] at hbd
      have HM := Lib.hid (fun W => l1Mod_any (-x) p W (by omega) (by omega) (by omega) b2)
      have wn := neg_wrap (x := x) (by omega) (by omega)
      have HLt := Lib.hid (show q < (kerTo p n Rd piv c i).length by rw [length_kerTo]; exact hq)
      have HLp := Lib.hid (show i < (pivI piv).length by rw [length_pivI]; exact hi3)
      have i3 : (i : Int) < piv.length := by omega
      have i5 : (q : Int) < n := by omega
      clear hx hxv hqq hfl
      go_upto_region 15 with fail
      have g0 := h5.drew
      refine wp_region_cut (S := fun w' => (w'.cell? ⟨Br, 0, none⟩ = some (.int .i64 p) ∧ w'.cell? ⟨Br, 1, none⟩ = some (.int .i64 r) ∧ w'.cell? ⟨Br, 2, none⟩ = some (.int .i64 n) ∧ w'.cell? ⟨Br, 3, none⟩ = some (.slice A7 (flat n Rd).length c7)) ∧ (w'.cell? ⟨w.heap.size, 0, none⟩ = some (.int .i64 p) ∧ w'.cell? ⟨w.heap.size, 1, none⟩ = some (.int .i64 r) ∧ w'.cell? ⟨w.heap.size, 2, none⟩ = some (.int .i64 n) ∧ w'.cell? ⟨w.heap.size, 3, none⟩ = some (.slice A D.length k0)) ∧ w'.cell? ⟨gp, i, none⟩ = some (.int .i64 (q : Nat))) 13 (by kernel_rfl) (by kernel_rfl) ⟨g0.box4 2 rfl, g0.box4 6 rfl, HPc.out _ (g0.ownCellA 3 rfl HLp.out).1⟩ (fun hHeld => ?_)
      simp only [List.take_succ_cons, List.take_zero]
      refine tkA 0 hHeld ?_
      refine tkA 1 hHeld ?_
      refine tkA 2 hHeld ?_
      refine tkA 3 hHeld ?_
      refine tkA 4 hHeld ?_
      refine tkA 5 hHeld ?_
      refine tkA 6 hHeld ?_
      refine tkA 7 hHeld ?_
      refine tkA 10 hHeld ?_
      refine tkA 11 hHeld ?_
      refine rcA 8 fun K hK => ?_
      go_simp
      refine (HA.out _ (g0.ownInts 4 rfl)).mono ?_
      rintro (e : Ending) w4 ⟨rfl, hb4⟩
      have g1 := g0.on hb4
      clear hb4
      show K _ _
      refine outA hK ?_ fun hHeld => ?_
      ·exact ⟨g1.box4 2 rfl, g1.box4 6 rfl, HPc.out _ (g1.ownCellA 3 rfl HLp.out).1⟩
      clear hK K
      refine tkA 9 hHeld ?_
      refine rcA 12 fun K hK => ?_
      go_simp
      refine (HM.out _).mono ?_
      rintro (e : Ending) w5 ⟨rfl, rfl⟩
      show K _ _
      refine outA hK ?_ fun hHeld => ?_
      ·exact hHeld
      clear hK K
      refine wpAnyH_done (by kernel_rfl) ?_ _
      show wpList _ _ _ _ _ _
      simp only [List.drop_succ_cons, List.drop_zero]
      clear hHeld
      obtain ⟨v0, f0⟩ := g1.ownCellA 0 rfl HLt.out
      have h6 := g1.set 0 rfl q ((-x) % p)
      clear h5 g0
      go_wp2
      go_roundw
      case rel => exact ⟨i + 1, by go_num, by omega, by rw [← HSt.out]; exact h6⟩
      case measure => simp [intOf]; omega
     ·obtain rfl : i = piv.length := by omega
      have Hl1 := Lib.hid (show (kerTab p n Rd piv c).length + 1 ≤ 1099511627776 by have := length_kerTab p n Rd piv c; omega)
      go_wp2_with (at_builtin; refine wp_append_row' rfl (.tmp 55) (.tmp 57) rfl h5 0 rfl Hu.out rfl rfl Hl1.out ?_; intro v1 w1 h6)
      go_roundw
      case rel => exact ⟨c + 1, us ++ [_], by go_num, by omega, by show _ = _; rw [HN.out, List.length_append, List.length_append, Hu.out]; rfl, by rw [HN.out]; exact h6⟩
      case measure => simp [intOf]; omega
  ·obtain rfl : c = n := by omega
   have hWk := Wf_kerTab b1 c Rd piv c
   have hq := h3.rowsR 0 rfl Hu.out
   obtain ⟨A5, c5, rfl, _, _, _⟩ := id hq
   have hlk := length_kerTab p c Rd piv c
   have hfl := length_flat c (kerTab p c Rd piv c)
   have hsz : (kerTab p c Rd piv c).length * c ≤ 4194304 := Nat.le_trans (Nat.mul_le_mul hlk (Nat.le_refl c)) (Nat.le_trans (Nat.mul_le_mul hn hn) (by omega))
   obtain ⟨R1, hR1⟩ : ∃ R1, R1 = kerTab p c Rd piv c := ⟨_, rfl⟩
   rw [← hR1] at hWk hq hlk hfl hsz h3 ⊢
   have HR := Lib.hid (show ∀ W, IntRows W (.slice A5 R1.length c5) R1 → Calls Tryz.prog 62 #[.int .i64 p, .int .i64 c, .slice A5 R1.length c5] W (RetMat W p R1.length c (flat c R1)) from fun W hW => by
    have := l1Rows_any p c _ R1 W hW (by rw [total_wf hWk]; exact hsz)
    rwa [← flat_flatten hWk] at this)
   have HS := Lib.hid (show ∀ W v1, Ints W v1 (flat c R1) → Calls Tryz.prog 61 #[.agg #[.int .i64 p, .int .i64 R1.length, .int .i64 c, v1]] W (RetMat W p K.length c (flat c K)) from fun W v1 hW => by
    have := l1Span_any p R1.length c v1 (flat c R1) W hW hfl hsz (by omega) (by omega) HP.out (resid_flat (by omega) hWk)
    rw [rowsM_flat hWk] at this
    rw [HK.out, ← hR1]
    exact this)
   have Hu1 := Lib.hid (show us.length = R1.length by rw [hR1]; exact Hu.out)
   clear hWk hq hlk hfl hsz hR1
   go_wp2_with fail
   refine (HR.out _ (h3.rowsR 0 rfl Hu1.out)).mono ?_
   rintro (e : Ending) w7 ⟨u7, rfl, ho7, hb7⟩
   have h4 := h3.pushOwn hb7 ho7
   clear ho7 hb7 h3
   go_wp2_with fail
   refine (HS.out _ _ (h4.ownInts 0 rfl)).mono ?_
   rintro (e : Ending) w8 ⟨u8, rfl, ho8, hb8⟩
   obtain ⟨A8, c8, rfl, _, _, _⟩ := id ho8.ints
   have h5 := h4.pushOwn hb8 ho8
   clear ho8 hb8 h4 x0 x1 x2 x3
   obtain ⟨p0, p1, p2, p3⟩ := h5.box4 6 rfl
   have f0 := h5.free 6 rfl 0
   have f1 := h5.free 6 rfl 1
   have f2 := h5.free 6 rfl 2
   have f3 := h5.free 6 rfl 3
   have h6 := (((h5.setBox 6 rfl 0 (.int .i64 p)).setBox 6 rfl 1 (.int .i64 K.length)).setBox 6 rfl 2 (.int .i64 c)).setBox 6 rfl 3 (.slice A8 (flat c K).length c8)
   obtain ⟨r0, r1, r2, r3⟩ := h6.box4 6 rfl
   go_wp2
   refine bodyPost_ret (v := .agg #[.int .i64 p, .int .i64 K.length, .int .i64 c, .slice A8 (flat c K).length c8]) (by simp [results, Tryz.results67, go_sem, r0, r1, r2, r3]) rfl ⟨_, rfl, h6.own 0 rfl, h6.below⟩
end
section
open Go.RowKit
set_option maxHeartbeats 1000000 in
theorem l1Meet_any (p : Int) (n : Nat) (t u : Value) (R S : List (List Int)) (w : World) (ht : Ints w t (flat n R)) (hu : Ints w u (flat n S)) (hR : Wf p n R) (hS : Wf p n S) (hr : R.length ≤ 64) (hs : S.length ≤ 64) (hn : n ≤ 64) (hP : isPrime p = true) :
  Calls Tryz.prog 66 #[.agg #[.int .i64 p, .int .i64 R.length, .int .i64 n, t], .agg #[.int .i64 p, .int .i64 S.length, .int .i64 n, u]] w (RetMat w p (meetL p n R S).length n (flat n (meetL p n R S))) := by
 have hp := (isPrime_bd hP).1
 have h1 := (((((St.start w).arg ht).arg hu).box [.int .i64 p, .int .i64 R.length, .int .i64 n, t] 32).box [.int .i64 p, .int .i64 S.length, .int .i64 n, u] 32).box [.int .i64 0, .int .i64 0, .int .i64 0, .slice none 0 0] 32
 simp only [World.size_alloc] at h1
 obtain ⟨A, k0, rfl, _, _, _⟩ := id ht
 obtain ⟨A2, k2, rfl, _, _, _⟩ := id hu
 have hK := fun (X : List (List Int)) (hX : Wf p n X) (hl : X.length ≤ 128) (W : World) (v : Value) (x1 : Ints W v (flat n X)) => (show Calls Tryz.prog 67 #[.agg #[.int .i64 p, .int .i64 X.length, .int .i64 n, v]] W (RetMat W p (kerL p n X).length n (flat n (kerL p n X))) by
  have h9 := l1Kernel_any p X.length n v (flat n X) W x1 (length_flat _ _) (by have := Nat.mul_le_mul hl hn; omega) (by omega) (by omega) hP (resid_flat (by omega) hX)
  rw [rowsM_flat hX] at h9
  exact h9)
 have hKl := fun (X : List (List Int)) => (show (kerL p n X).length ≤ n by obtain ⟨a, ha⟩ := kerL_rf hP n X; exact rf_le_n hp ha)
 have HKR := Lib.hid (hK R hR (by omega))
 have HKS := Lib.hid (hK S hS (by omega))
 have w1 := Wf_kerL hP n R
 have w2 := Wf_kerL hP n S
 have hJ := fun (W : World) (v1 v2 : Value) (x1 : Ints W v1 (flat n (kerL p n R))) (x2 : Ints W v2 (flat n (kerL p n S))) => l1Join_big p p n n v1 v2 (kerL p n R) (kerL p n S) W x1 x2 w1 w2 (by have := hKl R; omega) (by have := hKl S; omega) hn hP
 have hrf := spanL_rf hP (w1.app w2)
 have HKJ := Lib.hid (hK (spanL p n (kerL p n R ++ kerL p n S)) hrf.wf (by have := rf_le_n hp hrf; omega))
 have HJ := Lib.hid hJ
 have hM : kerL p n (spanL p n (kerL p n R ++ kerL p n S)) = meetL p n R S := rfl
 rw [hM] at HKJ
 obtain ⟨M, hM2⟩ : ∃ M, M = meetL p n R S := ⟨_, rfl⟩
 rw [← hM2] at HKJ ⊢
 obtain ⟨J, hJ2⟩ : ∃ J, J = spanL p n (kerL p n R ++ kerL p n S) := ⟨_, rfl⟩
 rw [← hJ2] at HJ HKJ
 obtain ⟨KR, hKR⟩ : ∃ KR, KR = kerL p n R := ⟨_, rfl⟩
 obtain ⟨KS, hKS⟩ : ∃ KS, KS = kerL p n S := ⟨_, rfl⟩
 rw [← hKR] at HKR HJ
 rw [← hKS] at HKS HJ
 obtain ⟨D, hD⟩ : ∃ D, D = flat n R := ⟨_, rfl⟩
 obtain ⟨E, hE⟩ : ∃ E, E = flat n S := ⟨_, rfl⟩
 obtain ⟨r, hr9⟩ : ∃ r, r = R.length := ⟨_, rfl⟩
 obtain ⟨s, hs9⟩ : ∃ s, s = S.length := ⟨_, rfl⟩
 rw [← hD, ← hr9] at HKR
 rw [← hE, ← hs9] at HKS
 rw [← hD, ← hE, ← hr9, ← hs9] at h1
 rw [← hD, ← hE, ← hr9, ← hs9]
 obtain ⟨ml, hml⟩ : ∃ ml, ml = M.length := ⟨_, rfl⟩
 rw [← hml] at HKJ ⊢
 clear ht hu hR hS hr hs hK hKl w1 w2 hJ hrf hM hM2 hJ2 hKR hKS hD hE hr9 hs9 hml
 go_enter Tryz.func66, Tryz.ntmps66
 go_upto_region 1 with fail
 have g0 := h1.drew
 refine wp_region_held_drew (S := fun w' => (w'.cell? ⟨w.heap.size, 0, none⟩ = some (.int .i64 p) ∧ w'.cell? ⟨w.heap.size, 1, none⟩ = some (.int .i64 r) ∧ w'.cell? ⟨w.heap.size, 2, none⟩ = some (.int .i64 n) ∧ w'.cell? ⟨w.heap.size, 3, none⟩ = some (.slice A D.length k0)) ∧ (w'.cell? ⟨w.heap.size + 1, 0, none⟩ = some (.int .i64 p) ∧ w'.cell? ⟨w.heap.size + 1, 1, none⟩ = some (.int .i64 s) ∧ w'.cell? ⟨w.heap.size + 1, 2, none⟩ = some (.int .i64 n) ∧ w'.cell? ⟨w.heap.size + 1, 3, none⟩ = some (.slice A2 E.length k2))) (by kernel_rfl) ⟨g0.box4 2 rfl, g0.box4 1 rfl⟩ (fun hHeld => ?_)
 refine tkA 0 hHeld ?_
 refine tkA 2 hHeld ?_
 refine rcA 1 fun K hK => ?_
 go_simp
 refine (HKR.out _ _ (g0.roInts 4 rfl)).mono ?_
 rintro (e : Ending) w3 ⟨u3, rfl, ho3, hb3⟩
 obtain ⟨A3, n3, c3, rfl⟩ := ho3.slice
 have g1 := g0.pushOwn hb3 ho3
 show K _ _
 refine outA hK ?_ fun hHeld => ?_
 ·exact ⟨g1.box4 3 rfl, g1.box4 2 rfl⟩
 clear hK K
 refine rcA 3 fun K hK => ?_
 go_simp
 refine (HKS.out _ _ (g1.roInts 4 rfl)).mono ?_
 rintro (e : Ending) w4 ⟨u4, rfl, ho4, hb4⟩
 obtain ⟨A4, n4, c4, rfl⟩ := ho4.slice
 have g2 := g1.pushOwn hb4 ho4
 show K _ _
 refine outA hK ?_ fun hHeld => ?_
 ·exact ⟨g2.box4 4 rfl, g2.box4 3 rfl⟩
 clear hK K
 refine rcA 4 fun K hK => ?_
 go_simp
 refine (HJ.out _ _ _ (g2.ownInts 1 rfl) (g2.ownInts 0 rfl)).mono ?_
 rintro (e : Ending) w5 ⟨u5, rfl, ho5, hb5⟩
 obtain ⟨A5, n5, c5, rfl⟩ := ho5.slice
 have g3 := g2.pushOwn hb5 ho5
 show K _ _
 refine outA hK ?_ fun hHeld => ?_
 ·exact ⟨g3.box4 5 rfl, g3.box4 4 rfl⟩
 clear hK K
 refine rcA 5 fun K hK => ?_
 go_simp
 refine (HKJ.out _ _ (g3.ownInts 0 rfl)).mono ?_
 rintro (e : Ending) w6 ⟨u6, rfl, ho6, hb6⟩
 obtain ⟨A6, n6, c6, rfl⟩ := ho6.slice
 have g4 := g3.pushOwn hb6 ho6
 show K _ _
 refine outA hK ?_ fun hHeld => ?_
 ·exact ⟨g4.box4 6 rfl, g4.box4 5 rfl⟩
 clear hK K
 obtain ⟨p0, p1, p2, p3⟩ := g4.box4 4 rfl
 have f0 := g4.free 4 rfl 0
 have f1 := g4.free 4 rfl 1
 have f2 := g4.free 4 rfl 2
 have f3 := g4.free 4 rfl 3
 have g5 := (((g4.setBox 4 rfl 0 (.int .i64 p)).setBox 4 rfl 1 (.int .i64 ml)).setBox 4 rfl 2 (.int .i64 n)).setBox 4 rfl 3 (.slice A6 n6 c6)
 obtain ⟨r0, r1, r2, r3⟩ := g5.box4 4 rfl
 refine rcA 6 fun K hK => ?_
 go_simp
 refine outA hK ?_ fun hHeld => ?_
 ·exact ⟨g5.box4 6 rfl, g5.box4 5 rfl⟩
 clear hK K
 refine wpAnyH_done (by kernel_rfl) ?_ _
 clear hHeld
 go_wp2
 refine bodyPost_ret (v := .agg #[.int .i64 p, .int .i64 ml, .int .i64 n, .slice A6 n6 c6]) (by simp [results, Tryz.results66, go_sem, r0, r1, r2, r3]) rfl ⟨_, rfl, g5.own 0 rfl, g5.below⟩
end
end Go.Proofs.YtbnefjhljfbecaaGreatDoor
