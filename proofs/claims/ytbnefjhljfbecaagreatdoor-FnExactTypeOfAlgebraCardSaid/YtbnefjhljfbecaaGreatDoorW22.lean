import Derived.Test.YtbnefjhljfbecaaGreatDoorW02
import Derived.Test.YtbnefjhljfbecaaGreatDoorW07
import Derived.Test.YtbnefjhljfbecaaGreatDoorW21
namespace Go.Proofs.YtbnefjhljfbecaaGreatDoor
set_option maxRecDepth 100000
section
open Go.RowKit
def rowM (c : Nat) (D : List Int) (i : Nat) : List Int := tab c fun j => vec D (i * c + j)
theorem length_rowM (c : Nat) (D : List Int) (i : Nat) : (rowM c D i).length = c := length_tab _ _
theorem rowM_cut {r c i : Nat} {D : List Int} (hD : D.length = r * c) (hi : i < r) : (D.take (i * c + c)).drop (i * c) = rowM c D i := by
 have hb := row_bd (c := c) hi
 refine list_ext (by simp [length_rowM]; omega) fun k hk => ?_
 simp at hk
 rw [rowM, vec_tab (by omega)]
 simp only [vec, List.getD_eq_getElem?_getD, List.getElem?_drop, List.getElem?_take]
 rw [if_pos (by omega)]
theorem resid_rowM {p : Int} (hp : 0 < p) {D : List Int} (h : resid p D = true) (c i : Nat) : resid p (rowM c D i) = true := resid_tab fun _ _ => resid_vec' h hp _
def rowsM (r c : Nat) (D : List Int) : List (List Int) := (List.range r).map (rowM c D)
theorem length_rowsM (r c : Nat) (D : List Int) : (rowsM r c D).length = r := by simp [rowsM]
theorem rowsM_take (r c : Nat) (D : List Int) (i : Nat) (h : i < r) : (rowsM r c D).take (i + 1) = (rowsM r c D).take i ++ [rowM c D i] := by
 rw [List.take_succ_eq_append_getElem (by rw [length_rowsM]; exact h)]
 simp [rowsM]
theorem rowOf_rowsM {r c : Nat} {D : List Int} {i : Nat} (h : i < r) : rowOf (rowsM r c D) i = rowM c D i := by
 simp [rowOf, rowsM, List.getD_eq_getElem?_getD, h]
theorem Wf_rowsM {p : Int} (hp : 0 < p) {r c : Nat} {D : List Int} (h : resid p D = true) : Wf p c (rowsM r c D) := fun i hi => by
 rw [length_rowsM] at hi
 rw [rowOf_rowsM hi]
 exact ⟨length_rowM _ _ _, resid_rowM hp h _ _⟩
theorem cutRow {w : World} {B : Nat} {A : Option Addr} {k : Nat} {D : List Int} (h : IntsB w B (.slice A D.length k) D) {r c i : Nat} (hD : D.length = r * c) (hi : i < r) :
  ∃ A' k', (∀ W : World, (Instr.sliceAt 22 (.slice A D.length k) (some (.int .i64 ((i : Int) * c))) (some (.int .i64 (((i : Int) + 1) * c))) none).run Tryz.prog W = .ok (.slice A' c k') W) ∧ IntsB w B (.slice A' c k') (rowM c D i) := by
 have hb := row_bd (c := c) hi
 obtain ⟨A', hrun, hA'⟩ := cutMidB h (i * c) (i * c + c) (by omega) (by omega)
 rw [rowM_cut hD hi, show i * c + c - i * c = c from by omega] at hA'
 refine ⟨A', k - i * c, fun W => ?_, hA'⟩
 have := hrun W
 rw [show i * c + c - i * c = c from by omega] at this
 rw [show ((i : Int) + 1) * c = ((i * c + c : Nat) : Int) from by rw [Int.add_mul, Int.one_mul]; simp, show (i : Int) * c = ((i * c : Nat) : Int) from by simp]
 exact this
set_option maxHeartbeats 1000000 in
theorem rowsOf_any (p : Int) (r c : Nat) (t : Value) (D : List Int) (w : World) (ht : Ints w t D) (hD : D.length = r * c) (hb : r * c ≤ 4194304) (hr : r ≤ 4194304) :
  Calls Tryz.prog 46 #[.agg #[.int .i64 p, .int .i64 r, .int .i64 c, t]] w (RetLL w (rowsM r c D)) := by
 have h1 := ((St.start1 ht).box [.int .i64 p, .int .i64 r, .int .i64 c, t] 32).emptyRows
 simp only [World.size_alloc] at h1
 obtain ⟨A, k, rfl, hk1, hk2, _⟩ := id ht
 have HD := Lib.hid hD
 have HLen := Lib.hid (length_rowsM r c D)
 have hDl : D.length ≤ 4194304 := by omega
 clear ht hD
 obtain ⟨z0, z1, z2, z3⟩ := h1.box4 1 rfl
 go_enter Tryz.func46, Tryz.ntmps46
 go_wp2
 clear z0 z1 z2 z3
 go_loopw [3, 4, 8] (fun vo vj vi wr => ∃ (i : Nat) (us : List Value), vi = .int .i64 i ∧ i ≤ r ∧ us.length = i ∧ St w wr [rowsIt vo us ((rowsM r c D).take i), .box w.heap.size [.int .i64 p, .int .i64 r, .int .i64 c, .slice A D.length k], .ro (.slice A D.length k) D]) (fun _ _ vi _ => r - (intOf vi).toNat)
 case atStart => exact ⟨0, [], rfl, by omega, rfl, h1⟩
 case round =>
  clear h1
  obtain ⟨i, us, rfl, a1, hul, h1⟩ := hrel
  have Hul := Lib.hid hul
  clear hul
  by_cases hi : i < r
  ·have hl : us.length = ((rowsM r c D).take i).length := by rw [Hul.out, List.length_take, HLen.out]; omega
   have Hl := Lib.hid hl
   have ht1 : ((rowsM r c D).take i).length + 1 ≤ 1099511627776 := by rw [List.length_take, HLen.out]; omega
   have Ht1 := Lib.hid ht1
   have HS := Lib.hid (rowsM_take r c D i hi)
   clear hl ht1
   obtain ⟨A5, k5, hrun, hA5⟩ := cutRow (h1.ro 2 rfl) HD.out hi
   obtain ⟨n1, n2, n3, n4⟩ := row_int (c := c) hi hb
   obtain ⟨z0, z1, z2, z3⟩ := h1.box4 1 rfl
   go_wp2_with fail
   refine (Clone_any _ (rowM c D i) _ hA5.ints (by have := row_bd (c := c) hi; rw [length_rowM]; omega)).mono ?_
   rintro e wn ⟨u, rfl, ho, hb1⟩
   obtain ⟨A6, c6, rfl, _, _, _⟩ := id ho.ints
   replace h1 := h1.pushOwn hb1 ho
   clear ho hb1
   clear hA5 hrun z0 z1 z2 z3
   go_wp2_with (at_builtin; refine wp_append_row' rfl (.tmp 11) (.tmp 25) rfl h1 0 rfl Hl.out rfl rfl Ht1.out ?_; intro v1 w1 h2)
   go_roundw
   case rel => exact ⟨i + 1, us ++ [_], by go_num, by omega, by rw [List.length_append, Hul.out]; rfl, by rw [HS.out]; exact h2⟩
   case measure => simp [intOf]; omega
  ·obtain rfl : i = r := by omega
   rw [List.take_of_length_le (by rw [HLen.out]; exact Nat.le_refl _)] at h1
   go_wp2
   go_ret
   exact ⟨_, us, rfl, by rw [HLen.out]; exact Hul.out, h1.at 0 rfl, h1.vecNodup 0 rfl, h1.below⟩
def combS (K : List Int) (R : List (List Int)) (p : Int) (i c : Nat) : Int := sumTo i (fun a => vec K a * vec (rowOf R a) c) % p
theorem combS_succ (K : List Int) (R : List (List Int)) (p : Int) (i c : Nat) : (combS K R p i c + vec K i * vec (rowOf R i) c) % p = combS K R p (i + 1) c := by
 unfold combS
 rw [add_mul_mod]
 rfl
theorem combS_skip (K : List Int) (R : List (List Int)) (p : Int) (i c : Nat) (h : vec K i = 0) : combS K R p (i + 1) c = combS K R p i c := by
 unfold combS
 simp only [sumTo, h, Int.zero_mul, Int.add_zero]
def combL (K : List Int) (R : List (List Int)) (n : Nat) (p : Int) : List Int := tab n (combS K R p R.length)
set_option maxHeartbeats 1000000 in
theorem combine_any (p : Int) (n : Nat) (v u : Value) (K : List Int) (R : List (List Int)) (w : World) (hv : Ints w v K) (hu : IntRows w u R) (hK : K.length = R.length) (hR : R.length ≤ 4194304) (hn : n ≤ 4194304) (hW : Wf p n R)
  (hp : 2 ≤ p) (hp' : p ≤ 10007) (rK : resid p K = true) :
  Calls Tryz.prog 87 #[v, u, .int .i64 n, .int .i64 p] w (RetOwn w (combL K R n p)) := by
 have hmk := makeI n (by omega)
 have h1 := ((St.start w).arg hv).zeros n (by omega)
 obtain ⟨A, c, rfl, _, _, _⟩ := id hv
 obtain ⟨A2, c2, rfl, _, _, _⟩ := id hu
 have HU := Lib.hid hu
 have HK := Lib.hid hK
 have HW := Lib.hid hW
 clear hv hu hK hW
 go_enter Tryz.func87, Tryz.ntmps87
 go_wp2
 go_loopw [10, 11, 16] (fun va vb vi wr => ∃ i : Nat, vi = .int .i64 i ∧ i ≤ R.length ∧ St w wr [.own (.slice (some ⟨w.heap.size, 0, none⟩) n n) (tab n (combS K R p i)), .ro (.slice A K.length c) K]) (fun _ _ vi _ => R.length - (intOf vi).toNat)
 case atStart => exact ⟨0, rfl, by omega, by rw [tab_congr (g := fun _ => 0) (fun q _ => by simp [combS, sumTo]), tab_zero]; exact h1⟩
 case round =>
  clear h1
  obtain ⟨i, rfl, a1, h1⟩ := hrel
  by_cases hi : i < R.length
  ·obtain ⟨b, off, A9, c9, rfl, hm⟩ := HU.out.at (i := i) hi
   have hBr := hm.2.toB
   have h2 := (h1.pushOld hm.fact).pushRo (hBr.below h1.below (Nat.le_refl _))
   obtain ⟨z0, z1⟩ := h2.fact 1 rfl
   obtain ⟨bk, ok, rfl, hbk, e1⟩ := (h1.ro 1 rfl).cell (k := i) (by rw [HK.out]; exact hi)
   have hrv := resid_vec rK (i := i) (by rw [HK.out]; exact hi)
   obtain ⟨w1, w2⟩ := HW.out i hi
   have hre : R[i] = rowOf R i := rowOf_eq hi
   have hki : (i : Int) < K.length := by rw [HK.out]; omega
   rw [hre] at h2 z0 z1
   have hlen : (rowOf R i).length = n := w1
   have Hlen := Lib.hid hlen
   clear hBr hm w1 hre hlen
   by_cases hx : vec K i = 0
   ·have t1 : (vec K i != 0) = false := by simp [hx]
    have Hx := Lib.hid hx
    clear hx
    go_wp2
    go_roundw
    case rel => exact ⟨i + 1, by go_num, by omega, by rw [tab_congr (fun q _ => combS_skip K R p i q Hx.out)]; exact h1⟩
    case measure => simp [intOf]; omega
   ·have t1 : (vec K i != 0) = true := by simp [hx]
    have Hx := Lib.hid hx
    clear hx
    go_wp2_with fail
    refine (addTo_own _ _ (tab n (combS K R p i)) (rowOf R i) (vec K i) p w.heap.size w.heap.size _ (h2.own 2 rfl) (h2.ro 0 rfl) (Nat.le_refl _) (by rw [Hlen.out, length_tab]) (by rw [length_tab]; omega) hp hp' hrv.1 (Int.le_of_lt hrv.2) (resid_mod (by omega)) w2).mono ?_
    rintro (e : Ending) wn ⟨rfl, ho, hg⟩
    have h3 := h2.wrote 2 rfl ho hg
    have e1' := tab_vec (rowOf R i)
    rw [Hlen.out] at e1'
    have hT : addL (tab n (combS K R p i)) (vec K i) (tab n (vec (rowOf R i))) p = tab n (combS K R p (i + 1)) := by
     rw [addL_tab]
     exact tab_congr fun q _ => combS_succ K R p i q
    rw [e1'] at hT
    rw [hT] at h3
    have h4 := h3.drop 2
    clear h1 h2 h3 ho hg hT z0 z1 e1 e1'
    go_wp2
    go_roundw
    case rel => exact ⟨i + 1, by go_num, by omega, h4⟩
    case measure => simp [intOf]; omega
  ·obtain rfl : i = R.length := by omega
   go_wp2
   go_ret
   exact ⟨_, rfl, h1.own 0 rfl, h1.below⟩
set_option maxHeartbeats 400000 in
theorem l1At_any (p : Int) (r c : Nat) (t : Value) (D : List Int) (i j : Nat) (w : World) (ht : Ints w t D) (hD : D.length = r * c) (hb : r * c ≤ 4194304) (hi : i < r) (hj : j < c) :
  Calls Tryz.prog 104 #[.agg #[.int .i64 p, .int .i64 r, .int .i64 c, t], .int .i64 i, .int .i64 j] w fun e w' => e = .returned (.int .i64 (vec D (i * c + j))) ∧ Below w.heap.size w w' := by
 have h1 := (St.start1 ht).box [.int .i64 p, .int .i64 r, .int .i64 c, t] 32
 obtain ⟨A, k, rfl, hk1, hk2, _⟩ := id ht
 have hbd := row_bd (c := c) hi
 obtain ⟨n1, n2, n3, n4⟩ := row_int (c := c) hi hb
 have hlt : i * c + j < D.length := by omega
 obtain ⟨b, off, rfl, _, e1⟩ := (h1.ro 1 rfl).cell hlt
 have hat : (i : Int) * c + j = ((i * c + j : Nat) : Int) := by simp
 obtain ⟨q, hq⟩ : ∃ q, q = i * c + j := ⟨_, rfl⟩
 rw [← hq] at hat hlt e1 ⊢
 have HQ := Lib.hid hq
 have hDl : D.length ≤ 4194304 := by omega
 clear ht hD hq hbd
 obtain ⟨z0, z1, z2, z3⟩ := h1.box4 0 rfl
 go_enter Tryz.func104, Tryz.ntmps104
 go_wp2
 go_ret
 exact ⟨rfl, h1.below⟩
set_option maxHeartbeats 400000 in
theorem l1Row_any (p : Int) (r c : Nat) (t : Value) (D : List Int) (i B : Nat) (w : World) (ht : IntsB w B t D) (hB : B ≤ w.heap.size) (hD : D.length = r * c) (hb : r * c ≤ 4194304) (hr : r ≤ 4194304) (hi : i < r) :
  Calls Tryz.prog 33 #[.agg #[.int .i64 p, .int .i64 r, .int .i64 c, t], .int .i64 i] w (RetB w B c (rowM c D i)) := by
 obtain ⟨A, k, rfl, hk1, hk2, _⟩ := id ht.1
 have h1 := (St.start w).box [.int .i64 p, .int .i64 r, .int .i64 c, .slice A D.length k] 32
 obtain ⟨A5, k5, hrun, hA5⟩ := cutRow ht hD hi
 obtain ⟨n1, n2, n3, n4⟩ := row_int (c := c) hi hb
 have hDl : D.length ≤ 4194304 := by omega
 have HD := Lib.hid hD
 clear hD
 obtain ⟨z0, z1, z2, z3⟩ := h1.box4 0 rfl
 go_enter Tryz.func33, Tryz.ntmps33
 go_wp2
 go_ret
 exact ⟨A5, k5, rfl, hA5.below ((Below.refl B w).alloc hB _) (Nat.le_refl _), h1.below⟩
end
section
open Go.RowKit
set_option maxHeartbeats 1000000 in
theorem l1Rows_any (p : Int) (c : Nat) (v : Value) (ll : List (List Int)) (w : World) (hv : IntRows w v ll) (hl : total ll ≤ 4194304) :
  Calls Tryz.prog 62 #[.int .i64 p, .int .i64 c, v] w (RetMat w p ll.length c ll.flatten) := by
 have h1 := ((((St.start w).box [.int .i64 0, .int .i64 0, .int .i64 0, .slice none 0 0] 32).empty).box [.int .i64 p, .int .i64 ll.length, .int .i64 c, .slice (some ⟨w.heap.size + 1, 0, none⟩) 0 0] 32)
 simp only [World.size_alloc] at h1
 obtain ⟨A, c1, rfl, _, hc1, g3⟩ := id hv
 have HV := Lib.hid hv
 clear g3 hv
 obtain ⟨F, hF⟩ : ∃ F, F = ll.flatten := ⟨_, rfl⟩
 rw [← hF]
 have HF0 := Lib.hid hF
 clear hF
 go_enter Tryz.func62, Tryz.ntmps62
 go_wp2
 go_loopw [8] (fun vi wr => ∃ (i : Nat) (vd : Value), vi = .int .i64 i ∧ i ≤ ll.length ∧ St w wr [.box (w.heap.size + 1 + 1) [.int .i64 p, .int .i64 ll.length, .int .i64 c, vd], .own vd (ll.take i).flatten, .box w.heap.size [.int .i64 0, .int .i64 0, .int .i64 0, .slice none 0 0]]) (fun vi _ => ll.length - (intOf vi).toNat)
 case atStart => exact ⟨0, _, rfl, by omega, by simpa using h1⟩
 case round =>
  clear h1
  obtain ⟨i, vd, rfl, a1, h1⟩ := hrel
  by_cases hi : i < ll.length
  ·obtain ⟨b, off, A9, c9, rfl, hm⟩ := HV.out.at (i := i) hi
   have h2 := h1.pushOld hm.fact
   have t1 := total_mem ll i hi
   have HT := Lib.hid (flatten_take ll i hi)
   have HF := Lib.hid (length_flatten' (ll.take i))
   have i1 : (i : Int) < ll.length := by omega
   clear hm
   go_wp2
   refine h2.region_tail 6 (by kernel_rfl) (by kernel_rfl) ?_
   simp only [List.take_succ_cons, List.take_zero, List.drop_succ_cons, List.drop_zero]
   iterate 6
    apply wpQuiet_op
    ·exact rfl
    ·intro w' hC
     obtain ⟨z0, z1, z2, z3⟩ := hC.box4 1 rfl
     obtain ⟨y0, y1⟩ := hC.fact 0 rfl
     unfold Oper.quietAt
     go_simp
     first | exact rfl | exact ⟨rfl, rfl⟩
    go_simp
   refine wpQuiet_nil (fun wn hC => ?_)
   obtain ⟨z0, z1, z2, z3⟩ := hC.box4 1 rfl
   have f3 := hC.free 1 rfl 3
   have y1 := (hC.fact 0 rfl).2
   have hlt := (hC.boxLt 1 rfl).2
   clear h1 h2
   go_wp2_with (at_builtin; refine wp_append_ints rfl (.tmp 22) (.tmp 26) rfl w.heap.size _ _ (ll.take i).flatten ll[i] rfl rfl (hC.own 2 rfl) y1 (by rw [HF.out]; omega) hC.size ?_; intro v1 w1 ho1 hg1 hb1; have h3 := hC.appended 2 rfl ho1 hg1 hb1; obtain ⟨A8, n8, k8, rfl⟩ := ho1.slice; obtain ⟨x0, x1, x2, x3⟩ := h3.box4 1 rfl; have g3 := h3.free 1 rfl 3; have hlt3 := (h3.boxLt 1 rfl).2; clear z0 z1 z2 z3 f3 hlt)
   have h4 := h3.setBox 1 rfl 3 (.slice A8 n8 k8)
   go_roundw
   case rel => exact ⟨i + 1, _, by go_num, by omega, by rw [HT.out]; exact h4.drop 1⟩
   case measure => simp [intOf]; omega
  ·obtain rfl : i = ll.length := by omega
   rw [List.take_length, ← HF0.out] at h1
   obtain ⟨A8, k8, rfl, _, _, _⟩ := id (h1.own 1 rfl).ints
   obtain ⟨z0, z1, z2, z3⟩ := h1.box4 0 rfl
   obtain ⟨y0, y1, y2, y3⟩ := h1.box4 2 rfl
   have f0 := h1.free 2 rfl 0
   have f1 := h1.free 2 rfl 1
   have f2 := h1.free 2 rfl 2
   have f3 := h1.free 2 rfl 3
   have h2 := (((h1.setBox 2 rfl 0 (.int .i64 p)).setBox 2 rfl 1 (.int .i64 ll.length)).setBox 2 rfl 2 (.int .i64 c)).setBox 2 rfl 3 (.slice A8 F.length k8)
   obtain ⟨r0, r1, r2, r3⟩ := h2.box4 2 rfl
   go_wp2
   refine bodyPost_ret (v := .agg #[.int .i64 p, .int .i64 ll.length, .int .i64 c, .slice A8 F.length k8]) (by simp [results, Tryz.results62, go_sem, r0, r1, r2, r3]) rfl ⟨_, rfl, h2.own 1 rfl, h2.below⟩
end
end Go.Proofs.YtbnefjhljfbecaaGreatDoor
