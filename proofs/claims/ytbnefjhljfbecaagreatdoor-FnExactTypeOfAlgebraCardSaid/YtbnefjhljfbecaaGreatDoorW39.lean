import Derived.Test.YtbnefjhljfbecaaGreatDoorW07
import Derived.Test.YtbnefjhljfbecaaGreatDoorW35
namespace Go.Proofs.YtbnefjhljfbecaaGreatDoor
set_option maxRecDepth 100000
section
open Go.RowKit
theorem Contains_piv (v : Value) (piv : List Nat) (c : Nat) (w : World) (hv : Ints w v (pivI piv)) :
  Calls Tryz.prog 115 #[v, .int .i64 c] w fun e w' => e = .returned (.bool (decide (c ∈ piv))) ∧ w = w' := by
 have := Contains_any v (pivI piv) c w hv
 rwa [find_piv] at this
theorem neg_wrap {x : Int} (h1 : -1000000 ≤ x) (h2 : x ≤ 1000000) : IntKind.i64.wrap (-x) = -x := wrap_ok (by omega) (by omega)
set_option maxHeartbeats 4000000 in
theorem kernel_any (p : Int) (n : Nat) (v : Value) (ll : List (List Int)) (w : World) (hv : IntRows w v ll) (hW : Wf p n ll) (hm : ll.length ≤ 33554432) (hn : n ≤ 1048576) (hP : isPrime p = true) :
  Calls Tryz.prog 86 #[v, .int .i64 n, .int .i64 p] w (RetLL w (kerL p n ll)) := by
 obtain ⟨b1, b2⟩ := isPrime_bd hP
 have h1 := ((St.start w).pushFact hv.fact).emptyRows
 obtain ⟨A, c1, rfl, _, hc1, g3⟩ := id hv
 have HV := Lib.hid hv
 have HW := Lib.hid hW
 have HP := Lib.hid hP
 have HLen := Lib.hid (show ∀ i, i < ll.length → ll[i]!.length = n from fun i hi => by
  have := (hW i hi).1
  rw [← rowOf_eq hi] at this
  simpa [hi] using this)
 obtain ⟨K, hK⟩ : ∃ K, K = kerL p n ll := ⟨_, rfl⟩
 rw [← hK]
 have HK := Lib.hid hK
 clear g3 hv hW hP hK
 go_enter Tryz.func86, Tryz.ntmps86
 go_wp2
 go_loopw [7, 9, 19] (fun vo vr vi wr => ∃ (i : Nat) (us : List Value), vi = .int .i64 i ∧ i ≤ ll.length ∧ us.length = i ∧ St w wr [rowsIt vo us (ll.take i), .fact fun w' => IntRows w' (.slice A ll.length c1) ll]) (fun _ _ vi _ => ll.length - (intOf vi).toNat)
 case atStart => exact ⟨0, [], rfl, by omega, rfl, h1⟩
 case round =>
  clear h1
  obtain ⟨i, us, rfl, a1, hul, h1⟩ := hrel
  have Hul := Lib.hid hul
  clear hul
  by_cases hi : i < ll.length
  ·obtain ⟨b, off, A9, c9, rfl, hmf⟩ := HV.out.at (i := i) hi
   have hl : us.length = (ll.take i).length := by rw [Hul.out, List.length_take]; omega
   have ht1 : (ll.take i).length + 1 ≤ 1099511627776 := by rw [List.length_take]; omega
   have Hl := Lib.hid hl
   have Ht1 := Lib.hid ht1
   have HS := Lib.hid (List.take_succ_eq_append_getElem hi)
   replace h1 := h1.pushOld hmf.fact
   obtain ⟨y0, y1⟩ := h1.fact 0 rfl
   have i1 : (i : Int) < ll.length := by omega
   clear hl ht1 hmf
   go_wp2_with fail
   refine (Clone_any _ ll[i] _ y1 (by have := HLen.out i hi; simp [hi] at this; omega)).mono ?_
   rintro e wn ⟨u, rfl, ho, hb1⟩
   obtain ⟨A6, c6, rfl, _, _, _⟩ := id ho.ints
   replace h1 := h1.pushOwn hb1 ho
   clear ho hb1
   clear y0 y1
   go_wp2_with (at_builtin; refine wp_append_row' rfl (.tmp 23) (.tmp 26) rfl h1 1 rfl Hl.out rfl rfl Ht1.out ?_; intro v1 w1 h2)
   go_roundw
   case rel => exact ⟨i + 1, us ++ [_], by go_num, by omega, by rw [List.length_append, Hul.out]; rfl, by rw [HS.out]; exact h2.drop 1⟩
   case measure => simp [intOf]; omega
  ·obtain rfl : i = ll.length := by omega
   rw [List.take_of_length_le (Nat.le_refl _)] at h1
   obtain ⟨A8, c8, rfl, hc8, _, _⟩ := id (It.rows (h1.at 0 rfl) Hul.out)
   go_wp2_with fail
   refine (reduce_st p n _ us ll h1 Hul.out HW.out hm (by omega) HP.out).mono ?_
   rintro (e : Ending) w5 ⟨u, us', rfl, hul', h3⟩
   obtain ⟨A9, c9, rfl, _, _, _⟩ := id (h3.ownInts 0 rfl)
   have hok := reduceL_ok (p := p) (by omega) HW.out
   have hst := reduceL_st HP.out HW.out
   have hpl := hok.piv
   have hrl := hok.len
   have hwf := hok.wf
   have hlt := hst.lt
   have HKe := Lib.hid (show K = spanL p n (kerTab p n (reduceL p n ll).1 (reduceL p n ll).2 n) by rw [HK.out]; rfl)
   obtain ⟨Rd, hRd⟩ : ∃ Rd, Rd = (reduceL p n ll).1 := ⟨_, rfl⟩
   obtain ⟨piv, hpiv⟩ : ∃ piv, piv = (reduceL p n ll).2 := ⟨_, rfl⟩
   rw [← hRd, ← hpiv] at h3 HKe
   rw [← hpiv] at hpl hlt ⊢
   rw [← hRd] at hrl hwf
   rw [length_pivI] at h3 ⊢
   obtain ⟨m, hm2⟩ : ∃ m, m = ll.length := ⟨_, rfl⟩
   rw [← hm2] at h3 hul' hrl hpl ⊢
   have hpm : piv.length ≤ 33554432 := by omega
   have HUl := Lib.hid (hul'.trans hrl.symm)
   have Hrl := Lib.hid hrl
   have Hwf := Lib.hid hwf
   have Hlt := Lib.hid hlt
   have h4 := h3.emptyRows
   clear hul' hrl hwf hlt hok hst hRd hpiv h1 h3 hm2
   go_wp2
   go_loopw [11, 12, 13, 14, 15, 35] (fun v11 _ _ _ _ vi wr => ∃ (c : Nat) (us : List Value), vi = .int .i64 c ∧ c ≤ n ∧ Hid (us.length = (kerTab p n Rd piv c).length) ∧ St w wr [rowsIt v11 us (kerTab p n Rd piv c), .own (.slice A9 piv.length c9) (pivI piv), rowsIt (.slice A8 m c8) us' Rd, .fact fun w' => IntRows w' (.slice A m c1) ll]) (fun _ _ _ _ _ vi _ => n - (intOf vi).toNat)
   case atStart => exact ⟨0, [], rfl, by omega, rfl, h4⟩
   case round =>
    clear h4
    obtain ⟨c, us2, rfl, a2, Hu2, h4⟩ := hrel
    by_cases hc : c < n
    ·have ic : (c : Int) < n := by omega
     have hpv := h4.ownInts 1 rfl
     by_cases hcp : c ∈ piv
     ·have HN := Lib.hid (kerTab_no (p := p) (n := n) (S := Rd) hcp)
      have HC := Lib.hid (show ∀ W, Ints W (.slice A9 piv.length c9) (pivI piv) → Calls Tryz.prog 115 #[.slice A9 piv.length c9, .int .i64 c] W fun e w' => e = .returned (.bool true) ∧ W = w' from fun W hW => by
       have := Contains_piv _ piv c W hW
       rwa [decide_eq_true hcp] at this)
      clear hcp
      go_wp2_with fail
      refine (HC.out _ hpv).mono ?_
      rintro (e : Ending) w6 ⟨rfl, rfl⟩
      clear hpv
      go_wp2
      go_roundw
      case rel => exact ⟨c + 1, us2, by go_num, by omega, by show _ = _; rw [HN.out]; exact Hu2.out, by rw [HN.out]; exact h4⟩
      case measure => simp [intOf]; omega
     ·have HN := Lib.hid (kerTab_yes (p := p) (n := n) (S := Rd) hcp)
      have HC := Lib.hid (show ∀ W, Ints W (.slice A9 piv.length c9) (pivI piv) → Calls Tryz.prog 115 #[.slice A9 piv.length c9, .int .i64 c] W fun e w' => e = .returned (.bool false) ∧ W = w' from fun W hW => by
       have := Contains_piv _ piv c W hW
       rwa [decide_eq_false hcp] at this)
      clear hcp
      go_wp2_with fail
      refine (HC.out _ hpv).mono ?_
      rintro (e : Ending) w6 ⟨rfl, rfl⟩
      clear hpv
      go_wp2_with fail
      refine (unit_any n c _ hn hc).mono ?_
      rintro (e : Ending) w7 ⟨u7, rfl, ho, hb7⟩
      obtain ⟨A7, k7, rfl, _, _, _⟩ := id ho.ints
      have h5 := h4.pushOwn hb7 ho
      rw [length_unitL] at h5 ⊢
      clear ho hb7 h4
      go_wp2
      go_loopw [14, 15, 46] (fun _ _ vi wr => ∃ i : Nat, vi = .int .i64 i ∧ i ≤ piv.length ∧ St w wr [.own (.slice A7 n k7) (kerTo p n Rd piv c i), rowsIt u11 us2 (kerTab p n Rd piv c), .own (.slice A9 piv.length c9) (pivI piv), rowsIt (.slice A8 m c8) us' Rd, .fact fun w' => IntRows w' (.slice A m c1) ll]) (fun _ _ vi _ => piv.length - (intOf vi).toNat)
      case atStart => exact ⟨0, rfl, by omega, h5⟩
      case round =>
       clear h5
       obtain ⟨i, rfl, a3, h5⟩ := hrel
       by_cases hi3 : i < piv.length
       ·have him : i < Rd.length := by rw [Hrl.out]; omega
        have hq := Hlt.out i hi3
        obtain ⟨gp, rfl, hq8⟩ := h5.ownSomeA 2 rfl (by rw [length_pivI]; omega)
        obtain ⟨gx, rfl, hq9⟩ := h5.ownSomeA 0 rfl (by rw [length_kerTo]; omega)
        obtain ⟨gr, rfl⟩ := h5.vecSome 3 rfl (by omega)
        clear hq8 hq9
        have pc := (h5.ownCellA 2 rfl (q := i) (by rw [length_pivI]; exact hi3)).1
        rw [vec_pivI hi3] at pc
        have xf := (h5.ownCellA 0 rfl (q := pv piv i) (by rw [length_kerTo]; exact hq)).2
        have xc := (h5.ownCellA 0 rfl (q := pv piv i) (by rw [length_kerTo]; exact hq)).1
        obtain ⟨b, d, hus, rc, rcell, _, _⟩ := h5.rowG 3 rfl HUl.out Hrl.out.symm him (Hwf.out i him).1 (by omega)
        have rv := rcell c hc
        have hbd := resid_vec (Hwf.out i him).2 (i := c) (by rw [(Hwf.out i him).1]; exact hc)
        obtain ⟨x, hx⟩ : ∃ x, x = vec (rowOf Rd i) c := ⟨_, rfl⟩
        obtain ⟨q, hqq⟩ : ∃ q, q = pv piv i := ⟨_, rfl⟩
        have HSt := Lib.hid (show (kerTo p n Rd piv c i).set q ((-x) % p) = kerTo p n Rd piv c (i + 1) by rw [hx, hqq]; rfl)
        obtain ⟨y, hy⟩ : ∃ y, y = vec (kerTo p n Rd piv c i) q := ⟨_, rfl⟩
        rw [← hx] at rv hbd
        rw [← hqq, ← hy] at xc
        rw [← hqq] at xf hq pc
        have wn := neg_wrap (x := x) (by omega) (by omega)
        have i3 : (i : Int) < piv.length := by omega
        have i4 : (i : Int) < m := by omega
        have i5 : (q : Int) < n := by omega
        have HM := Lib.hid (fun W => mod_any (-x) p W (by omega) (by omega) (by omega) b2)
        clear rcell hx hqq hy hus
        go_wp2_with fail
        refine (HM.out _).mono ?_
        rintro (e : Ending) w8 ⟨rfl, rfl⟩
        have h6 := h5.set 0 rfl q ((-x) % p)
        go_wp2
        go_roundw
        case rel => exact ⟨i + 1, by go_num, by omega, by rw [← HSt.out]; exact h6⟩
        case measure => simp [intOf]; omega
       ·obtain rfl : i = piv.length := by omega
        have Hl1 := Lib.hid (show (kerTab p n Rd piv c).length + 1 ≤ 1099511627776 by have := length_kerTab p n Rd piv c; omega)
        go_wp2_with (at_builtin; refine wp_append_row' rfl (.tmp 65) (.tmp 67) rfl h5 0 rfl Hu2.out rfl rfl Hl1.out ?_; intro v1 w1 h6)
        go_roundw
        case rel => exact ⟨c + 1, us2 ++ [_], by go_num, by omega, by show _ = _; rw [HN.out, List.length_append, List.length_append, Hu2.out]; rfl, by rw [HN.out]; exact h6⟩
        case measure => simp [intOf]; omega
    ·obtain rfl : c = n := by omega
     have hq := h4.rowsR 0 rfl Hu2.out
     obtain ⟨A5, c5, rfl, _, _, _⟩ := id hq
     have hlk := length_kerTab p c Rd piv c
     have HS := Lib.hid (span_any p c _ _ _ hq (Wf_kerTab b1 c Rd piv c) (by omega) (by omega) HP.out)
     rw [← HKe.out] at HS
     clear hq hlk
     go_wp2_with fail
     refine HS.out.mono ?_
     rintro (e : Ending) w9 ⟨u9, us9, rfl, hul9, hok9, hnd9, hb9⟩
     obtain ⟨A10, c10, rfl, _, _, _⟩ := id (It.rows hok9 hul9)
     have h7 := h4.pushRows hb9 hok9 hnd9
     clear h4 hb9 hok9 hnd9
     go_wp2
     go_ret
     exact ⟨_, us9, rfl, hul9, h7.at 0 rfl, h7.vecNodup 0 rfl, h7.below⟩
end
section
open Go.RowKit
theorem St.toBack {w0 w : World} {x : It} {L : List It} (h : St w0 w (x :: L)) : St w0 w (L ++ [x]) := by
 refine h.re ((List.range L.length).map (· + 1) ++ [0]) ?_ ?_
 ·refine List.nodup_append.2 ⟨?_, by simp, ?_⟩
  ·exact List.Pairwise.map _ (fun a b h9 => by omega) List.nodup_range
  ·intro a ha b hb
   simp only [List.mem_map, List.mem_range, List.mem_singleton] at ha hb
   omega
 ·intro j
  by_cases hj : j < L.length
  ·simp [List.getElem?_append, hj]
  ·by_cases he : j = L.length
   ·subst he
    simp
   ·simp only [List.getElem?_append, List.length_map, List.length_range, if_neg hj]
    have h9 : ¬ j - L.length < 1 := by omega
    rw [List.getElem?_eq_none (by simpa using by omega), List.getElem?_eq_none (by simpa using by omega)]
    rfl
theorem St.rowsSlice {w0 w : World} {L : List It} (h : St w0 w L) (i : Nat) {v : Value} {us : List Value} {ll : List (List Int)} (hi : L[i]? = some (rowsIt v us ll)) (hl : us.length = ll.length) : ∃ A n c, v = .slice A n c := by
 obtain ⟨A, c, e, _⟩ := h.rowsR i hi hl
 exact ⟨A, _, c, e⟩
end
end Go.Proofs.YtbnefjhljfbecaaGreatDoor
