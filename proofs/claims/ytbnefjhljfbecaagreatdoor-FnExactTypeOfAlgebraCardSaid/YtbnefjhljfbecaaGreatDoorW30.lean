import Derived.Test.YtbnefjhljfbecaaGreatDoorW02
import Derived.Test.YtbnefjhljfbecaaGreatDoorW21
import Derived.Test.YtbnefjhljfbecaaGreatDoorW28
namespace Go.Proofs.YtbnefjhljfbecaaGreatDoor
set_option maxRecDepth 100000
section
open Go.RowKit
theorem owns_take {w : World} {B e sz n c k : Nat} {A : Option Addr} {xs : List Value} (h : w.ownsRow B e sz (.slice A n c) n xs) (hk : k ≤ n) : w.ownsRow B e sz (.slice A k c) k (xs.take (k * sz)) := by
 obtain ⟨h1, h2⟩ := h
 have hm := Nat.mul_le_mul_right sz hk
 refine ⟨by rw [List.length_take, h1]; omega, ?_⟩
 rcases h2 with ⟨he, h0⟩ | ⟨g, cap, cur, he, hb, hh, hn, hM, hs, ht⟩
 ·simp only [Value.slice.injEq] at he
  obtain ⟨rfl, _, rfl⟩ := he
  obtain rfl : k = 0 := by omega
  exact .inl ⟨rfl, rfl⟩
 ·simp only [Value.slice.injEq] at he
  obtain ⟨rfl, _, rfl⟩ := he
  refine .inr ⟨g, c, cur, rfl, hb, hh, by omega, hM, hs, ?_⟩
  rw [← ht, List.take_take, Nat.min_eq_left hm]
section
variable {w0 w : World} {L : List It}
theorem St.takeOwn (h : St w0 w L) (i : Nat) {A : Option Addr} {n c : Nat} {l : List Int} (hi : L[i]? = some (.own (.slice A n c) l)) (hn : n = l.length) (k : Nat) (hk : k ≤ n) : St w0 w (L.set i (.own (.slice A k c) (l.take k))) := by
 subst hn
 have ho := h.own i hi
 have h2 : Own w w0.heap.size (.slice A k c) (l.take k) := by
  have := owns_take (k := k) (show w.ownsRow w0.heap.size 3 1 (.slice A l.length c) l.length (l.map (Value.int .i64)) from ho) hk
  show w.ownsRow w0.heap.size 3 1 (.slice A k c) (l.take k).length ((l.take k).map (Value.int .i64))
  rw [List.length_take, Nat.min_eq_left hk, List.map_take]
  rwa [Nat.mul_one] at this
 have e : (Value.slice A k c).ownBlock = (Value.slice A l.length c).ownBlock := by cases A <;> rfl
 exact h.upd i hi (Nat.le_refl _) rfl rfl rfl (fun _ _ _ => rfl) h2 (fun b hb => .inl (by simpa [It.fp, e] using hb)) (nodup_own _)
theorem St.takeRows (h : St w0 w L) (i : Nat) {A : Option Addr} {n c : Nat} {us : List Value} {ll : List (List Int)} (hi : L[i]? = some (rowsIt (.slice A n c) us ll)) (_hul : us.length = ll.length) (hn : n = ll.length) (k : Nat) (hk : k ≤ n) : St w0 w (L.set i (rowsIt (.slice A k c) (us.take k) (ll.take k))) := by
 subst hn
 obtain ⟨h1, h2⟩ := h.vec i hi
 have hnd := h.vecNodup i hi
 have e : (Value.slice A k c).ownBlock = (Value.slice A ll.length c).ownBlock := by cases A <;> rfl
 have hz : (us.take k).zip (ll.take k) = (us.zip ll).take k := by simp [List.zip, List.take_zipWith]
 have hlt : (ll.take k).length = k := by rw [List.length_take, Nat.min_eq_left hk]
 have hsub : ((us.zip ll).take k).flatMap (fun s => s.1.ownBlock.toList) |>.Sublist ((us.zip ll).flatMap fun s => s.1.ownBlock.toList) := by
  conv => rhs; rw [← List.take_append_drop k (us.zip ll)]
  rw [List.flatMap_append]
  exact List.sublist_append_left _ _
 refine h.upd i hi (Nat.le_refl _) rfl rfl rfl (fun _ _ _ => rfl) ?_ (fun b hb => .inl ?_) ?_
 ·rw [rowsIt, hlt, hz]
  have := owns_take h1 hk
  rw [Nat.mul_one] at this
  exact ⟨this, fun s hs => h2 s (List.mem_of_mem_take hs)⟩
 ·unfold rowsIt at hb ⊢
  rw [hz] at hb
  simp only [It.fp, List.mem_append, e] at hb ⊢
  exact hb.imp id fun h => hsub.subset h
 ·unfold rowsIt at hnd ⊢
  rw [hz]
  simp only [It.fp, e] at hnd ⊢
  exact hnd.sublist ((List.Sublist.refl _).append hsub)
end
theorem sliceR : Tryz.prog.underlying 39 = some (.slice (Tryz.prog.elem 39)) := by kernel_rfl
theorem infoRR : (Tryz.prog.info? (Tryz.prog.elem 39)).map (fun i => (i.zero, i.size, i.bytes)) = some (some (.slice none 0 0), 1, 24) := by kernel_rfl
theorem cutRows (A : Option Addr) (n c k : Nat) (hk : k ≤ n) (hc : n ≤ c) (W : World) : (Instr.sliceAt 39 (.slice A n c) none (some (.int .i64 (k : Int))) none).run Tryz.prog W = .ok (.slice A k c) W := by
 obtain ⟨i, h1, _, h3, _⟩ := info_parts infoRR
 rw [run_sliceAt_slice W _ _ _ _ _ sliceR, run_slice_h W _ A n c sliceR .i64 k (by omega) (by omega)]
 cases A <;> simp [sizeOf, typeInfo, h1, h3, sliced, Result.andThen, Addr.add]
set_option maxHeartbeats 2000000 in
theorem span_any (p : Int) (n : Nat) (v : Value) (ll : List (List Int)) (w : World) (hv : IntRows w v ll) (hW : Wf p n ll) (hm : ll.length ≤ 4194304) (hn : n ≤ 4194304) (hP : isPrime p = true) :
  Calls Tryz.prog 88 #[v, .int .i64 n, .int .i64 p] w (RetLL w (spanL p n ll)) := by
 have h1 := ((St.start w).pushFact hv.fact).emptyRows
 obtain ⟨A, c1, rfl, _, hc1, g3⟩ := id hv
 have HV := Lib.hid hv
 have HW := Lib.hid hW
 have HP := Lib.hid hP
 have HLen := Lib.hid (show ∀ i, i < ll.length → ll[i]!.length = n from fun i hi => by
  have := (hW i hi).1
  rw [← rowOf_eq hi] at this
  simpa [hi] using this)
 clear g3 hv hW hP
 go_enter Tryz.func88, Tryz.ntmps88
 go_wp2
 go_loopw [7, 9, 13] (fun vo vr vi wr => ∃ (i : Nat) (us : List Value), vi = .int .i64 i ∧ i ≤ ll.length ∧ us.length = i ∧ St w wr [rowsIt vo us (ll.take i), .fact fun w' => IntRows w' (.slice A ll.length c1) ll]) (fun _ _ vi _ => ll.length - (intOf vi).toNat)
 case atStart => exact ⟨0, [], rfl, by omega, rfl, h1⟩
 case round =>
  clear h1
  obtain ⟨i, us, rfl, a1, hul, h1⟩ := hrel
  have Hul := Lib.hid hul
  clear hul
  by_cases hi : i < ll.length
  ·obtain ⟨b, off, A9, c9, rfl, hmf⟩ := HV.out.at (i := i) hi
   have hl : us.length = (ll.take i).length := by rw [Hul.out, List.length_take]; omega
   have ht1 : (ll.take i).length + 1 ≤ 1099511627776 := by rw [List.length_take]; omega
   have Hl := Lib.hid hl
   have Ht1 := Lib.hid ht1
   have HS := Lib.hid (List.take_succ_eq_append_getElem hi)
   replace h1 := h1.pushOld hmf.fact
   obtain ⟨y0, y1⟩ := h1.fact 0 rfl
   have i1 : (i : Int) < ll.length := by omega
   clear hl ht1 hmf
   go_wp2_with fail
   refine (Clone_any _ ll[i] _ y1 (by have := HLen.out i hi; simp [hi] at this; omega)).mono ?_
   rintro e wn ⟨u, rfl, ho, hb1⟩
   obtain ⟨A6, c6, rfl, _, _, _⟩ := id ho.ints
   replace h1 := h1.pushOwn hb1 ho
   clear ho hb1
   clear y0 y1
   go_wp2_with (at_builtin; refine wp_append_row' rfl (.tmp 17) (.tmp 20) rfl h1 1 rfl Hl.out rfl rfl Ht1.out ?_; intro v1 w1 h2)
   go_roundw
   case rel => exact ⟨i + 1, us ++ [_], by go_num, by omega, by rw [List.length_append, Hul.out]; rfl, by rw [HS.out]; exact h2.drop 1⟩
   case measure => simp [intOf]; omega
  ·obtain rfl : i = ll.length := by omega
   rw [List.take_of_length_le (Nat.le_refl _)] at h1
   obtain ⟨A8, c8, rfl, hc8, _, _⟩ := id (It.rows (h1.at 0 rfl) Hul.out)
   go_wp2_with fail
   refine (reduce_st p n _ us ll h1 Hul.out HW.out (by omega) hn HP.out).mono ?_
   rintro (e : Ending) w5 ⟨u, us', rfl, hul', h3⟩
   obtain ⟨A9, c9, rfl, _, _, _⟩ := id (h3.ownInts 0 rfl)
   have hok := reduceL_ok (p := p) (by have := isPrime_bd HP.out; omega) HW.out
   have hpl := hok.piv
   have hrl := hok.len
   rw [length_pivI] at h3 ⊢
   obtain ⟨k, hk⟩ : ∃ k, k = (reduceL p n ll).2.length := ⟨_, rfl⟩
   rw [← hk] at h3 hpl ⊢
   have h4 := h3.takeRows 1 rfl (by rw [hrl]; exact hul') hrl.symm k hpl
   have hrun := cutRows A8 ll.length c8 k hpl hc8
   have HE := Lib.hid (show spanL p n ll = (reduceL p n ll).1.take k by rw [spanL, hk])
   have HL : Hid ((us'.take k).length = ((reduceL p n ll).1.take k).length) := by show _ = _; rw [List.length_take, List.length_take, hul', hrl]
   clear hk hok hrl hul' h3 h1
   go_wp2
   go_ret
   exact ⟨_, _, rfl, by rw [HE.out]; exact HL.out, by rw [HE.out]; exact h4.at 1 rfl, by rw [HE.out]; exact h4.vecNodup 1 rfl, h4.below⟩
end
section
open Go.RowKit
theorem Wf.spanL {p : Int} (hp : isPrime p = true) {n : Nat} {ll : List (List Int)} (h : Wf p n ll) : Wf p n (spanL p n ll) := by
 intro i hi
 have hok := reduceL_ok (p := p) (by have := isPrime_bd hp; omega) h
 have hk : i < (reduceL p n ll).2.length := by
  have := hi
  unfold Go.Proofs.YtbnefjhljfbecaaGreatDoor.spanL at this
  rw [List.length_take] at this
  omega
 have e : rowOf (Go.Proofs.YtbnefjhljfbecaaGreatDoor.spanL p n ll) i = rowOf (reduceL p n ll).1 i := by
  simp only [Go.Proofs.YtbnefjhljfbecaaGreatDoor.spanL, rowOf, List.getD_eq_getElem?_getD, List.getElem?_take, if_pos hk]
 rw [e]
 refine hok.wf i ?_
 have := hok.len
 have := hok.piv
 omega
theorem spanL_le {p : Int} (hp : isPrime p = true) {n : Nat} {ll : List (List Int)} (h : Wf p n ll) : (spanL p n ll).length ≤ ll.length := by
 have hok := reduceL_ok (p := p) (by have := isPrime_bd hp; omega) h
 unfold spanL
 rw [List.length_take]
 have := hok.piv
 omega
def spanM (p : Int) (n : Nat) (ll : List (List Int)) : List Int := flat n (spanL p n ll)
theorem total_wf {p : Int} {n : Nat} {ll : List (List Int)} (h : Wf p n ll) : total ll = ll.length * n := by
 rw [← length_flatten', ← flat_flatten h, length_flat]
set_option maxHeartbeats 2000000 in
theorem space_any (p : Int) (n : Nat) (A : Option Addr) (l c : Nat) (v : Value) (ll : List (List Int)) (w : World) (hv : IntRows w v ll) (hW : Wf p n ll) (hm : ll.length * n ≤ 4194304) (hm2 : ll.length ≤ 4194304) (hn : n ≤ 4194304) (hP : isPrime p = true) :
    Calls Tryz.prog 79 #[.agg #[.int .i64 p, .int .i64 n, .slice A l c], v] w (RetMat w p (spanL p n ll).length n (spanM p n ll)) := by
  have h1 := (((St.start w).pushFact hv.fact).box [.int .i64 p, .int .i64 n, .slice A l c] 69).box [.int .i64 0, .int .i64 0, .int .i64 0, .slice none 0 0] 32
  simp only [World.size_alloc] at h1
  have hSW := hW.spanL hP
  have hle := Nat.mul_le_mul_right n (spanL_le hP hW)
  have hM := fun (W : World) (v : Value) (hi : IntRows W v (spanL p n ll)) => matrixOf_any p n v (spanL p n ll) W hi (by rw [total_wf hSW]; omega)
  have e : (spanL p n ll).flatten = spanM p n ll := (flat_flatten hSW).symm
  rw [e] at hM
  obtain ⟨R, hR⟩ : ∃ R, R = spanM p n ll := ⟨_, rfl⟩
  obtain ⟨Q, hQ⟩ : ∃ Q, Q = spanL p n ll := ⟨_, rfl⟩
  obtain ⟨A1, c1, rfl, _, _, _⟩ := id hv
  have hS := fun (W : World) (hi : IntRows W (.slice A1 ll.length c1) ll) => span_any p n _ ll W hi hW hm2 hn hP
  rw [← hR, ← hQ] at hM ⊢
  rw [← hQ] at hS
  have HM := Lib.hid hM
  have HS := Lib.hid hS
  clear hM hS e hR hQ hle hSW hv hW hP
  obtain ⟨z0, z1, z2⟩ := h1.box3 1 rfl
  go_enter Tryz.func79, Tryz.ntmps79
  go_wp2
  go_region_held3 (fun w' => w'.cell? ⟨w.heap.size, 0, none⟩ = some (.int .i64 p) ∧ w'.cell? ⟨w.heap.size, 1, none⟩ = some (.int .i64 n))
    (first | exact ⟨z0, z1⟩ | exact ⟨x0, x1⟩ | exact ⟨y0, y1⟩ | exact ⟨s0, s1⟩)
    (first
      | (go_at_call 88; refine (HS.out _ ?_).mono ?_; exact h1.drew.fact 2 rfl; rintro (e : Ending) w1 ⟨u, us, rfl, hul, hok, hnd, hb1⟩; obtain ⟨A6, c6, rfl, _, _, _⟩ := id (It.rows hok hul); have h2 := h1.drew.pushRows hb1 hok hnd; obtain ⟨x0, x1, _⟩ := h2.box3 2 rfl)
      | (go_at_call 82; refine (HM.out _ _ (h2.rowsR 0 rfl hul)).mono ?_; rintro (e : Ending) w2 ⟨u, rfl, ho2, hb2⟩; obtain ⟨A7, c7, rfl, _, _, _⟩ := id ho2.ints; have h3 := h2.pushOwn hb2 ho2; obtain ⟨y0, y1, _⟩ := h3.box3 3 rfl; obtain ⟨v0, v1, v2, v3⟩ := h3.box4 2 rfl; have g0 := h3.free 2 rfl 0; have g1 := h3.free 2 rfl 1; have g2 := h3.free 2 rfl 2; have g3 := h3.free 2 rfl 3; have h4 := (((h3.setBox 2 rfl 0 (.int .i64 p)).setBox 2 rfl 1 (.int .i64 Q.length)).setBox 2 rfl 2 (.int .i64 n)).setBox 2 rfl 3 (.slice A7 R.length c7); obtain ⟨s0, s1, _⟩ := h4.box3 3 rfl))
  obtain ⟨r0, r1, r2, r3⟩ := h4.box4 2 rfl
  go_wp2
  refine bodyPost_ret (v := .agg #[.int .i64 p, .int .i64 Q.length, .int .i64 n, .slice A7 R.length c7]) (by simp [results, Tryz.results79, go_sem, r0, r1, r2, r3]) rfl ⟨_, rfl, h4.own 0 rfl, h4.below⟩
end
end Go.Proofs.YtbnefjhljfbecaaGreatDoor
