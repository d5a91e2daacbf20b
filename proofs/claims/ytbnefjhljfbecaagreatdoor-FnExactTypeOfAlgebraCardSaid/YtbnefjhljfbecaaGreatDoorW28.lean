import Derived.Test.YtbnefjhljfbecaaGreatDoorW07
import Derived.Test.YtbnefjhljfbecaaGreatDoorW22
import Derived.Test.YtbnefjhljfbecaaGreatDoorW23
import Derived.Test.YtbnefjhljfbecaaGreatDoorW24
namespace Go.Proofs.YtbnefjhljfbecaaGreatDoor
set_option maxRecDepth 100000
section
open Go.RowKit
def pivI (l : List Nat) : List Int := l.map fun (x : Nat) => (x : Int)
theorem length_pivI (l : List Nat) : (pivI l).length = l.length := by simp [pivI]
theorem pivI_snoc (l : List Nat) (c : Nat) : pivI (l ++ [c]) = pivI l ++ [(c : Int)] := by simp [pivI]
theorem findR_step {ls : List (List Int)} {c m r : Nat} (h : r < m) (h0 : vec (rowOf ls r) c = 0) : findR ls c (m - r) r = findR ls c (m - (r + 1)) (r + 1) := by
 rw [show m - r = (m - (r + 1)) + 1 from by omega]
 conv => lhs; unfold findR
 rw [if_pos h0]
theorem findR_here {ls : List (List Int)} {c m r : Nat} (h : r < m) (h0 : vec (rowOf ls r) c ≠ 0) : findR ls c (m - r) r = r := by
 rw [show m - r = (m - (r + 1)) + 1 from by omega]
 unfold findR
 rw [if_neg h0]
theorem redR_step {p : Int} {n c : Nat} {s : List (List Int) × List Nat} (h : c < n) : redR p (n - c) c s = redR p (n - (c + 1)) (c + 1) (redCol p c s) := by
 rw [show n - c = (n - (c + 1)) + 1 from by omega]
 rfl
theorem rem_ok {x p : Int} (h : 0 ≤ x) : x.tmod p = x % p := Int.tmod_eq_emod_of_nonneg h
theorem cell_over {w : World} {g r a : Nat} {u : Value} (h : w.cell? ⟨g, a, none⟩ = some u) (hr : ∃ cs t, w.heap[g]? = some (.cells cs t (0, 0))) : (w.setCell ⟨g, r, none⟩ u).cell? ⟨g, a, none⟩ = some u := by
 obtain ⟨cs, t, hh⟩ := hr
 by_cases e : r = a
 ·subst e
  have hlt : r < cs.size := by
   rw [cell_of_row w g r cs t _ hh] at h
   exact (Array.getElem?_eq_some_iff.1 h).1
  rw [cell_of_row _ g r _ t (0, 0) (heap_setCell_same w g r cs t u hh)]
  simp [hlt]
 ·rw [cell_of_row _ g a _ t (0, 0) (heap_setCell_same w g r cs t u hh)]
  rw [cell_of_row w g a cs t _ hh] at h
  rw [Array.getElem?_setIfInBounds]
  rw [if_neg e]; exact h
theorem St.vecBlock {w0 w : World} {L : List It} (h : St w0 w L) (i : Nat) {g n c : Nat} {us : List Value} {ll : List (List Int)} (hi : L[i]? = some (rowsIt (.slice (some ⟨g, 0, none⟩) n c) us ll)) : ∃ cs t, w.heap[g]? = some (.cells cs t (0, 0)) := by
 rcases (h.vec i hi).1.2 with ⟨h0, _⟩ | ⟨g', cap, cur, hv, _, hh, _⟩
 ·simp at h0
 ·simp only [Value.slice.injEq, Option.some.injEq, Addr.mk.injEq] at hv
  obtain ⟨⟨rfl, _⟩, _⟩ := hv
  exact ⟨cur, _, hh⟩
theorem scale_rows_step {p k : Int} {l1 : List (List Int)} {a j n : Nat} (ha : a < l1.length) (hl : (rowOf l1 a).length = n) (hj : j < n) :
  (l1.set a (scaleTo p k (rowOf l1 a) j)).set a ((rowOf (l1.set a (scaleTo p k (rowOf l1 a) j)) a).set j (vec (rowOf l1 a) j * k % p)) = l1.set a (scaleTo p k (rowOf l1 a) (j + 1)) := by
 rw [rowOf_set ha, if_pos rfl, List.set_set, scaleTo_set p k _ j (by omega)]
theorem redCol_hit {p : Int} {c r : Nat} {ls : List (List Int)} {piv : List Nat} {m : Nat} (hm : ls.length = m) (hr : r < m) (hK : findR ls c (m - piv.length) piv.length = r) (l1 l2 : List (List Int)) (h1 : l1 = swapR ls r piv.length) (h2 : l2 = l1.set piv.length (scaleR p (invE p (vec (rowOf l1 piv.length) c)) (rowOf l1 piv.length))) :
  redCol p c (ls, piv) = (elimTo p c piv.length l2 m, piv ++ [c]) := by
 subst h2 h1 hm
 unfold redCol
 simp only [hK]
 rw [if_pos hr, elimR]
 simp only [List.length_set, length_swapR]
theorem elim_rows_step {p : Int} {c a i : Nat} {l2 : List (List Int)} (ha : a < l2.length) (hi : i < l2.length) (hia : i ≠ a) (h0 : vec (rowOf l2 i) c ≠ 0) :
  (elimTo p c a l2 i).set i (addL (rowOf (elimTo p c a l2 i) i) (p - vec (rowOf l2 i) c) (rowOf (elimTo p c a l2 i) a) p) = elimTo p c a l2 (i + 1) := by
 rw [← elimTo_set hi, rowOf_elimTo hi, rowOf_elimTo ha, if_neg (Nat.lt_irrefl i)]
 congr 1
 have : (if a < i then elimRow p c a l2 a else rowOf l2 a) = rowOf l2 a := by
  split
  ·rw [elimRow, if_pos (.inl rfl)]
  ·rfl
 rw [this, elimRow, if_neg (by rintro (e | e); exact hia e; exact h0 e)]
theorem elim_here {p : Int} {c a i : Nat} {l2 : List (List Int)} (hi : i < l2.length) : rowOf (elimTo p c a l2 i) i = rowOf l2 i := by rw [rowOf_elimTo hi, if_neg (Nat.lt_irrefl i)]
set_option maxHeartbeats 16000000 in
theorem reduce_st {w0 w : World} {L : List It} (p : Int) (n : Nat) (v : Value) (us : List Value) (ll : List (List Int)) (h : St w0 w (rowsIt v us ll :: L)) (hul : us.length = ll.length) (hW : Wf p n ll) (hm : ll.length ≤ 33554432) (hn : n ≤ 4194304) (hP : isPrime p = true) :
  Calls Tryz.prog 114 #[v, .int .i64 n, .int .i64 p] w fun e w' => ∃ u us', e = .returned u ∧ us'.length = ll.length ∧ St w0 w' (.own u (pivI (reduceL p n ll).2) :: rowsIt v us' (reduceL p n ll).1 :: L) := by
 obtain ⟨b1, b2⟩ := isPrime_bd hP
 have hv := It.rows (h.at 0 rfl) hul
 obtain ⟨A, c0, rfl, _, _, _⟩ := id hv
 clear hv
 obtain ⟨m, hml⟩ : ∃ m, m = ll.length := ⟨_, rfl⟩
 obtain ⟨R, hR⟩ : ∃ R, R = reduceL p n ll := ⟨_, rfl⟩
 have hok := RedOk.start hW
 rw [← hR]
 rw [← hml] at hok h hul hm ⊢
 have HR : Hid (R = redR p (n - 0) 0 (ll, [])) := hR
 have h1 := h.empty
 have Hul := Lib.hid hul
 have Hok := Lib.hid hok
 have HP := Lib.hid hP
 clear h hR hul hW hml hok hP
 go_enter Tryz.func114, Tryz.ntmps114
 go_wp2
 go_loopw [7, 8, 9, 10, 11, 12, 13, 14, 17] (fun v7 v8 v9 v10 v11 v12 v13 v14 v17 wr => ∃ (c : Nat) (ls : List (List Int)) (piv : List Nat) (us : List Value), v17 = .int .i64 c ∧ c ≤ n ∧ Hid (us.length = m) ∧ Hid (RedOk p n m (ls, piv)) ∧ St w0 wr (.own v7 (pivI piv) :: rowsIt (.slice A m c0) us ls :: L) ∧ Hid (R = redR p (n - c) c (ls, piv))) (fun _ _ _ _ _ _ _ _ v17 _ => n - (intOf v17).toNat)
 case atStart => exact ⟨0, ll, [], us, rfl, by omega, Hul, Hok, h1, HR⟩
 case round =>
  clear h1 HR Hul Hok
  obtain ⟨c, ls, piv, us, rfl, a1, Hul, Hok, h1, HR⟩ := hrel
  have hpl : piv.length ≤ m := Hok.out.piv
  obtain ⟨A7, c7, rfl, _, _, _⟩ := id (h1.ownInts 0 rfl)
  rw [length_pivI] at h1 ⊢
  by_cases hc : c < n
  ·have HS := Lib.hid (HR.out.trans (redR_step hc))
   have HLs := Lib.hid Hok.out.len
   have HWf := Lib.hid Hok.out.wf
   obtain ⟨K, hK⟩ : ∃ K, K = findR ls c (m - piv.length) piv.length := ⟨_, rfl⟩
   have HK0 := Lib.hid hK
   have HK := Lib.hid hK
   obtain ⟨W1, rfl⟩ : ∃ W1 : World, W1 = wr := ⟨_, rfl⟩
   clear hK HR
   go_wp2
   go_loopw [10] (fun v10 wr => ∃ r : Nat, v10 = .int .i64 r ∧ piv.length ≤ r ∧ r ≤ m ∧ wr = W1 ∧ Hid (K = findR ls c (m - r) r)) (fun v10 _ => m - (intOf v10).toNat)
   case atStart => exact ⟨piv.length, rfl, by omega, by omega, rfl, HK⟩
   case round =>
    clear HK
    obtain ⟨r, rfl, a2, a3, rfl, HK⟩ := hrel
    by_cases hr : r < m
    ·obtain ⟨g, rfl⟩ := h1.vecSome 1 rfl (by rw [HLs.out]; omega)
     obtain ⟨b, d, hu, e1, e2, _, _⟩ := h1.rowG 1 rfl (by rw [HLs.out]; exact Hul.out) HLs.out.symm (k := r) (by rw [HLs.out]; exact hr) (HWf.out r (by rw [HLs.out]; exact hr)).1 (by omega)
     have e3 := e2 c hc
     obtain ⟨x, hx⟩ : ∃ x, x = vec (rowOf ls r) c := ⟨_, rfl⟩
     rw [← hx] at e3
     clear e2
     by_cases hz : x = 0
     ·have HK' := Lib.hid (HK.out.trans (findR_step hr (hx ▸ hz)))
      have t1 : (x == 0) = true := by simp [hz]
      clear hx hz HK
      go_wp2
      go_roundw
      case rel => exact ⟨r + 1, by go_num, by omega, by omega, by first | rfl | trivial, HK'⟩
      case measure => simp [intOf]; omega
     ·have HK' := Lib.hid (HK.out.trans (findR_here hr (hx ▸ hz)))
      have t1 : (x == 0) = false := by simp [hz]
      have hla : piv.length < m := by omega
      obtain ⟨b', d', hu', e1', e2', _, _⟩ := h1.rowG 1 rfl (by rw [HLs.out]; exact Hul.out) HLs.out.symm (k := piv.length) (by rw [HLs.out]; exact hla) (HWf.out piv.length (by rw [HLs.out]; exact hla)).1 (by omega)
      have f1 := h1.rowFree 1 rfl HLs.out.symm r
      have f2 := h1.rowFree 1 rfl HLs.out.symm piv.length
      have e4 : (wr.setCell ⟨g, r, none⟩ (.slice (some ⟨b', 0, none⟩) n d')).cell? ⟨g, piv.length, none⟩ = some (.slice (some ⟨b', 0, none⟩) n d') := cell_over e1' (h1.vecBlock 1 rfl)
      have e5 : (wr.drew.setCell ⟨g, r, none⟩ (.slice (some ⟨b', 0, none⟩) n d')).cell? ⟨g, piv.length, none⟩ = some (.slice (some ⟨b', 0, none⟩) n d') := e4
      clear e2'
      go_wp2
      go_region
      have h2 := (h1.swapRows 1 rfl (by rw [HLs.out]; exact Hul.out) HLs.out.symm (r := r) (a := piv.length) (by rw [HLs.out]; exact hr) (by rw [HLs.out]; exact hla) hu hu').drew
      obtain ⟨l1, hl1⟩ : ∃ l1, l1 = swapR ls r piv.length := ⟨_, rfl⟩
      obtain ⟨us2, hus2⟩ : ∃ us2, us2 = (us.set r (.slice (some ⟨b', 0, none⟩) n d')).set piv.length (.slice (some ⟨b, 0, none⟩) n d) := ⟨_, rfl⟩
      rw [← hl1, ← hus2] at h2
      change St w0 _ (.own (.slice A7 piv.length c7) (pivI piv) :: rowsIt (.slice (some ⟨g, 0, none⟩) m c0) us2 l1 :: L) at h2
      have Hul2 : Hid (us2.length = m) := by show _ = _; rw [hus2, List.length_set, List.length_set]; exact Hul.out
      have hl1m : l1.length = m := by rw [hl1, length_swapR]; exact HLs.out
      have hW1 : Wf p n l1 := by rw [hl1]; exact HWf.out.swap (by rw [HLs.out]; exact hr) (by rw [HLs.out]; exact hla)
      have hx1 : vec (rowOf l1 piv.length) c = x := by rw [hl1, rowOf_swapR (by rw [HLs.out]; exact hr) (by rw [HLs.out]; exact hla), if_pos rfl, hx]
      obtain ⟨l2, hl2⟩ : ∃ l2, l2 = l1.set piv.length (scaleR p (invE p x) (rowOf l1 piv.length)) := ⟨_, rfl⟩
      have HC := Lib.hid (redCol_hit (p := p) HLs.out hr (HK0.out.symm.trans HK'.out) l1 l2 hl1 (by rw [hx1]; exact hl2))
      have HL1 := Lib.hid hl1m
      have HX1 := Lib.hid hx1
      obtain ⟨ha1, ha2⟩ := hW1 piv.length (by rw [hl1m]; exact hla)
      have hxr := resid_vec ha2 (i := c) (by rw [ha1]; exact hc)
      rw [hx1] at hxr
      have HW2 : Wf p n l2 := by rw [hl2]; exact hW1.set (by rw [hl1m]; exact hla) (by rw [length_scaleR]; exact ha1) (resid_scaleR (by omega) _ _)
      have HL2 : l2.length = m := by rw [hl2, List.length_set]; exact hl1m
      have Ha1 := Lib.hid ha1
      have Ha2 := Lib.hid ha2
      have HW1 := Lib.hid hW1
      replace HW2 := Lib.hid HW2
      replace HL2 := Lib.hid HL2
      replace hl2 := Lib.hid hl2
      clear hus2 hl1 hl1m hx1 ha1 ha2 hW1 hx h1 hu hu' e1 e1' e3 e4 e5 f1 f2 HK HK' HK0 t1 HLs HWf Hok Hul
      generalize World.drew _ = W2 at h2 ⊢
      obtain ⟨bk, d2, hu2, g1, g2, _, _⟩ := h2.rowG 1 rfl (by rw [HL1.out]; exact Hul2.out) HL1.out.symm (k := piv.length) (by rw [HL1.out]; exact hla) Ha1.out (by omega)
      have g3 := g2 c hc
      rw [HX1.out] at g3
      have Hu2 := Lib.hid hu2
      clear hu2 g2
      go_wp2_with fail
      refine (inverse_any x p _ HP.out (by omega) (by omega)).mono ?_
      rintro (e : Ending) W3 ⟨rfl, dn, rfl⟩
      replace h2 := h2.drewN dn
      generalize World.drewN _ _ = W3 at h2 ⊢
      clear g1 g3
      obtain ⟨k, hk⟩ : ∃ k, k = invE p x := ⟨_, rfl⟩
      have hkr := invE_range x b1
      rw [← hk] at hkr ⊢
      have Hk := Lib.hid hk
      clear hk
      obtain ⟨g1, _, _⟩ := h2.rowK 1 rfl (by rw [HL1.out]; exact Hul2.out) HL1.out.symm (k := piv.length) (by rw [HL1.out]; exact hla) Ha1.out (by omega) Hu2.out
      go_wp2
      clear g1
      go_loopw [12, 71] (fun v12 v71 wr => ∃ j : Nat, v71 = .int .i64 j ∧ j ≤ n ∧ St w0 wr (.own (.slice A7 piv.length c7) (pivI piv) :: rowsIt (.slice (some ⟨g, 0, none⟩) m c0) us2 (l1.set piv.length (scaleTo p k (rowOf l1 piv.length) j)) :: L)) (fun _ v71 _ => n - (intOf v71).toNat)
      case atStart => exact ⟨0, rfl, by omega, by rw [scaleTo_zero, set_rowOf (by rw [HL1.out]; exact hla)]; exact h2⟩
      case round =>
       clear h2
       obtain ⟨j, rfl, a4, h2⟩ := hrel
       by_cases hj : j < n
       ·have HLj : Hid ((l1.set piv.length (scaleTo p k (rowOf l1 piv.length) j)).length = m) := by show _ = _; rw [List.length_set]; exact HL1.out
        have HRj : Hid (rowOf (l1.set piv.length (scaleTo p k (rowOf l1 piv.length) j)) piv.length = scaleTo p k (rowOf l1 piv.length) j) := by show _ = _; rw [rowOf_set (by rw [HL1.out]; exact hla), if_pos rfl]
        have HNj : Hid ((rowOf (l1.set piv.length (scaleTo p k (rowOf l1 piv.length) j)) piv.length).length = n) := by show _ = _; rw [HRj.out, length_scaleTo _ _ _ _ (by rw [Ha1.out]; exact a4)]; exact Ha1.out
        obtain ⟨y, hy⟩ : ∃ y, y = vec (rowOf l1 piv.length) j := ⟨_, rfl⟩
        have HYj : Hid (vec (rowOf (l1.set piv.length (scaleTo p k (rowOf l1 piv.length) j)) piv.length) j = y) := by show _ = _; rw [HRj.out, vec_scaleTo (by rw [Ha1.out]; exact a4) (by rw [Ha1.out]; exact hj), if_neg (by omega), hy]
        have hyr := resid_vec Ha2.out (i := j) (by rw [Ha1.out]; exact hj)
        rw [← hy] at hyr
        obtain ⟨m1, m2⟩ := mul_range (k := y) (y := k) (p := p) (by omega) (by omega) (by omega) (by omega) (by omega)
        have Hy := Lib.hid hy
        clear hy
        have q1 := wrap_ok (x := y * k) (by omega) (by omega)
        have q2 := rem_ok (x := y * k) (p := p) (by omega)
        have q3 : ¬ p = 0 := by omega
        have j1 : (j : Int) < n := by omega
        have j2 : (piv.length : Int) < m := by omega
        go_wp2
        refine h2.region_tail 17 (by kernel_rfl) (by kernel_rfl) ?_
        simp only [List.take_succ_cons, List.take_zero, List.drop_succ_cons, List.drop_zero]
        iterate 17
         apply wpQuiet_op
         ·exact rfl
         ·intro w' hC
          obtain ⟨z0, z1, z2⟩ := hC.rowK 1 rfl (by rw [HLj.out]; exact Hul2.out) HLj.out.symm (k := piv.length) (by rw [HLj.out]; exact hla) HNj.out (by omega) Hu2.out
          have z3 := z1 j hj
          rw [HYj.out] at z3
          clear z1
          unfold Oper.quietAt
          go_simp
          first | exact rfl | exact ⟨rfl, rfl⟩
         go_simp
        refine wpQuiet_nil (fun wn hC => ?_)
        obtain ⟨z0, z1, z2⟩ := hC.rowK 1 rfl (by rw [HLj.out]; exact Hul2.out) HLj.out.symm (k := piv.length) (by rw [HLj.out]; exact hla) HNj.out (by omega) Hu2.out
        have z3 := z1 j hj
        have z4 := z2 j
        rw [HYj.out] at z3
        have h3 := hC.setRowCell 1 rfl (by rw [HLj.out]; exact Hul2.out) (k := piv.length) (by rw [HLj.out]; exact hla) Hu2.out j (y * k % p)
        clear z1 z2
        go_wp2
        go_roundw
        case rel => exact ⟨j + 1, by go_num, by omega, by rw [← scale_rows_step (by rw [HL1.out]; exact hla) Ha1.out hj, ← Hy.out]; exact h3⟩
        case measure => simp [intOf]; omega
       ·obtain rfl : n = j := by omega
        have hse := scaleTo_end p k (rowOf l1 piv.length)
        rw [Ha1.out] at hse
        rw [hse, Hk.out, ← hl2.out] at h2
        clear hse
        clear a4
        go_wp2
        go_loopw [13, 14, 94] (fun v13 v14 v94 wr => ∃ i : Nat, v94 = .int .i64 i ∧ i ≤ m ∧ St w0 wr (.own (.slice A7 piv.length c7) (pivI piv) :: rowsIt (.slice (some ⟨g, 0, none⟩) m c0) us2 (elimTo p c piv.length l2 i) :: L)) (fun _ _ v94 _ => m - (intOf v94).toNat)
        case atStart => exact ⟨0, rfl, by omega, by rw [elimTo_zero]; exact h2⟩
        case round =>
         clear h2
         obtain ⟨i, rfl, a4, h2⟩ := hrel
         have HLi : Hid ((elimTo p c piv.length l2 i).length = m) := by show _ = _; rw [length_elimTo]; exact HL2.out
         by_cases hi : i < m
         ·have HNi : Hid (∀ q, q < m → (rowOf (elimTo p c piv.length l2 i) q).length = n ∧ resid p (rowOf (elimTo p c piv.length l2 i) q) = true) := by
           show ∀ _, _
           intro q hq
           exact HW2.out.elimTo (by omega) (by rw [HL2.out]; exact hla) i q (by rw [HLi.out]; exact hq)
          obtain ⟨b3, d3, hu3, k1, k2, _, _⟩ := h2.rowG 1 rfl (by rw [HLi.out]; exact Hul2.out) HLi.out.symm (k := i) (by rw [HLi.out]; exact hi) (HNi.out i hi).1 (by omega)
          have k3 := k2 c hc
          rw [elim_here (by rw [HL2.out]; exact hi)] at k3
          obtain ⟨y, hy⟩ : ∃ y, y = vec (rowOf l2 i) c := ⟨_, rfl⟩
          have hyr := resid_vec' (HW2.out i (by rw [HL2.out]; exact hi)).2 (by omega : 0 < p) c
          rw [← hy] at k3 hyr
          have Hu3 := Lib.hid hu3
          have Hy := Lib.hid hy
          clear hu3 k2 hy
          by_cases hia : i = piv.length
          ·have HE := Lib.hid (elimTo_keep (p := p) (c := c) (a := piv.length) (rows := l2) (k := i) (by rw [HL2.out]; exact hi) (by rw [elimRow, if_pos (.inl hia)]))
           have t2 : ((i : Int) != (piv.length : Int)) = false := by simp [hia]
           have Hia := Lib.hid hia
           clear hia
           go_wp2
           go_roundw
           case rel => exact ⟨i + 1, by go_num, by omega, by rw [HE.out]; exact h2⟩
           case measure => simp [intOf]; omega
          ·have t2 : ((i : Int) != (piv.length : Int)) = true := by simp; omega
           by_cases hy0 : y = 0
           ·have HE := Lib.hid (elimTo_keep (p := p) (c := c) (a := piv.length) (rows := l2) (k := i) (by rw [HL2.out]; exact hi) (by rw [elimRow, if_pos (.inr (Hy.out ▸ hy0))]))
            have t3 : (y != 0) = false := by simp [hy0]
            clear hy0
            go_wp2
            go_roundw
            case rel => exact ⟨i + 1, by go_num, by omega, by rw [HE.out]; exact h2⟩
            case measure => simp [intOf]; omega
           ·have HE := Lib.hid (elim_rows_step (p := p) (c := c) (a := piv.length) (l2 := l2) (i := i) (by rw [HL2.out]; exact hla) (by rw [HL2.out]; exact hi) hia (by rw [← Hy.out]; exact hy0))
            have t3 : (y != 0) = true := by simp [hy0]
            have j1 : (c : Int) < n := by omega
            have j2 : (piv.length : Int) < m := by omega
            go_wp2
            refine h2.region_tail 12 (by kernel_rfl) (by kernel_rfl) ?_
            simp only [List.take_succ_cons, List.take_zero, List.drop_succ_cons, List.drop_zero]
            clear k1 k3
            iterate 12
             apply wpQuiet_op
             ·exact rfl
             ·intro w' hC
              obtain ⟨z0, _, _⟩ := hC.rowK 1 rfl (by rw [HLi.out]; exact Hul2.out) HLi.out.symm (k := piv.length) (by rw [HLi.out]; exact hla) (HNi.out _ hla).1 (by omega) Hu2.out
              obtain ⟨_, z1, _⟩ := hC.rowK 1 rfl (by rw [HLi.out]; exact Hul2.out) HLi.out.symm (k := i) (by rw [HLi.out]; exact hi) (HNi.out i hi).1 (by omega) Hu3.out
              have z3 := z1 c hc
              rw [elim_here (by rw [HL2.out]; exact hi), ← Hy.out] at z3
              clear z1
              unfold Oper.quietAt
              go_simp
              first | exact rfl | exact ⟨rfl, rfl⟩
             go_simp
            refine wpQuiet_nil (fun wn hC => ?_)
            clear h2
            go_wp2_with fail
            refine (addTo_rows hC 1 rfl (by rw [HLi.out]; exact Hul2.out) (k := i) (a := piv.length) (by rw [HLi.out]; exact hi) (by rw [HLi.out]; exact hla) hia Hu3.out Hu2.out (p - y) p (by rw [(HNi.out i hi).1, (HNi.out _ hla).1]) (by rw [(HNi.out i hi).1]; omega) b1 b2 (by omega) (by omega) (HNi.out i hi).2 (HNi.out _ hla).2).mono ?_
            rintro (e : Ending) W5 ⟨rfl, h3⟩
            go_wp2
            go_roundw
            case rel => exact ⟨i + 1, by go_num, by omega, by rw [← HE.out, ← Hy.out]; exact h3⟩
            case measure => simp [intOf]; omega
         ·obtain rfl : m = i := by omega
          have HS' := Lib.hid (HS.out.trans (by rw [HC.out]))
          have hpk : (pivI piv).length + 1 ≤ 17592186044416 := by rw [length_pivI]; omega
          have HOk : Hid (RedOk p n m (elimTo p c piv.length l2 m, piv ++ [c])) := by
           show RedOk _ _ _ _
           exact ⟨HW2.out.elimTo (by omega) (by rw [HL2.out]; exact hla) m, HLi.out, by simp; omega⟩
          go_wp2_with (at_builtin; refine wp_append_ints rfl (.tmp 123) (.tmp 125) rfl w0.heap.size _ _ (pivI piv) [(c : Int)] rfl rfl ((h2.alloc' _).own 0 rfl) Ints.one hpk (h2.alloc' _).size ?_; intro v1 w1 ho1 hg1 hb1; have h3 := (h2.alloc' _).appended 0 rfl ho1 hg1 hb1)
          go_roundw
          case rel => exact ⟨c + 1, _, _, us2, by go_num, by omega, Hul2, HOk, by rw [pivI_snoc]; exact h3, HS'⟩
          case measure => simp [intOf]; omega
    ·obtain rfl : r = m := by omega
     have hK2 : K = r := by rw [HK.out, Nat.sub_self, findR]
     have HS' := Lib.hid (HS.out.trans (by rw [redCol_no (s := (ls, piv)) (by show findR ls c (ls.length - piv.length) piv.length = ls.length; rw [HLs.out, ← HK0.out]; exact hK2)]))
     clear HK HK0 hK2
     go_wp2
     go_roundw
     case rel => exact ⟨c + 1, ls, piv, us, by go_num, by omega, Hul, Hok, h1, HS'⟩
     case measure => simp [intOf]; omega
  ·obtain rfl : n = c := by omega
   have HE : Hid (R = (ls, piv)) := by have := HR.out; rw [Nat.sub_self, redR] at this; exact this
   go_wp2
   go_ret
   exact ⟨_, us, rfl, Hul.out, by rw [HE.out]; exact h1⟩
end
section
open Go.RowKit
set_option maxHeartbeats 1000000 in
theorem l1Copy_any (p r c : Int) (t : Value) (D : List Int) (w : World) (ht : Ints w t D) (hl : D.length ≤ 4194304) :
    Calls Tryz.prog 106 #[.agg #[.int .i64 p, .int .i64 r, .int .i64 c, t]] w (RetMat w p r c D) := by
  have h1 := (((St.start w).arg ht).box [.int .i64 p, .int .i64 r, .int .i64 c, t] 32).box [.int .i64 0, .int .i64 0, .int .i64 0, .slice none 0 0] 32
  simp only [World.size_alloc] at h1
  obtain ⟨A, k, rfl, _, _, _⟩ := id ht
  clear ht
  go_enter Tryz.func106, Tryz.ntmps106
  go_wp2
  obtain ⟨z0, z1, z2, z3⟩ := h1.box4 1 rfl
  go_region_held3 (fun w' => w'.cell? ⟨w.heap.size, 0, none⟩ = some (.int .i64 p) ∧ w'.cell? ⟨w.heap.size, 1, none⟩ = some (.int .i64 r) ∧ w'.cell? ⟨w.heap.size, 2, none⟩ = some (.int .i64 c) ∧ w'.cell? ⟨w.heap.size, 3, none⟩ = some (.slice A D.length k))
    (first | exact ⟨z0, z1, z2, z3⟩ | exact ⟨x0, x1, x2, x3⟩ | exact ⟨s0, s1, s2, s3⟩)
    (first
      | (go_at_call 37; refine (l1Ints_any _ D _ ?_ (by omega)).mono ?_; exact h1.drew.roInts 2 rfl; rintro (e : Ending) w1 ⟨u, rfl, ho, hb⟩; obtain ⟨A6, c6, rfl, _, _, _⟩ := id ho.ints; have h2 := h1.drew.pushOwn hb ho; obtain ⟨x0, x1, x2, x3⟩ := h2.box4 2 rfl; obtain ⟨v0, v1, v2, v3⟩ := h2.box4 1 rfl; have g0 := h2.free 1 rfl 0; have g1 := h2.free 1 rfl 1; have g2 := h2.free 1 rfl 2; have g3 := h2.free 1 rfl 3; have h4 := (((h2.setBox 1 rfl 0 (.int .i64 p)).setBox 1 rfl 1 (.int .i64 r)).setBox 1 rfl 2 (.int .i64 c)).setBox 1 rfl 3 (.slice A6 D.length c6); obtain ⟨s0, s1, s2, s3⟩ := h4.box4 2 rfl))
  obtain ⟨r0, r1, r2, r3⟩ := h4.box4 1 rfl
  go_wp2
  refine bodyPost_ret (v := .agg #[.int .i64 p, .int .i64 r, .int .i64 c, .slice A6 D.length c6]) (by simp [results, Tryz.results106, go_sem, r0, r1, r2, r3]) rfl ⟨_, rfl, h4.own 0 rfl, h4.below⟩
end
end Go.Proofs.YtbnefjhljfbecaaGreatDoor
