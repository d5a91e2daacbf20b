import Derived.Deep.RegionHeld3
import Derived.Test.YtbnefjhljfbecaaGreatDoorW05
import Derived.Test.YtbnefjhljfbecaaGreatDoorW06
import Derived.Test.YtbnefjhljfbecaaGreatDoorW07
import Derived.Test.YtbnefjhljfbecaaGreatDoorW20
import Derived.Test.YtbnefjhljfbecaaGreatDoorW21
import Derived.Test.YtbnefjhljfbecaaGreatDoorW22
namespace Go.Proofs.YtbnefjhljfbecaaGreatDoor
set_option maxRecDepth 100000
section
section
open Go.RowKit
def dLen : List Mt → Nat
 | [] => 0
 | m :: ms => m.d.length + dLen ms
def markMsLen (ms : List Mt) : Nat := 3 * ms.length + dLen ms
end
end
section
section
open Go.RowKit
theorem wf_le {x : Int} (h : (Lit.int .i64 x).wf = true) : x ≤ 9223372036854775807 := by
 simp [Lit.wf, IntKind.min, IntKind.max, IntKind.signed, IntKind.bits] at h; omega
end
section
open Go.RowKit
def adRows (T U : List Int) (n : Nat) (p : Int) : List (List Int) := (List.range n).map fun j => braL T U (unitL n j) n p
theorem length_adRows (T U : List Int) (n : Nat) (p : Int) : (adRows T U n p).length = n := by simp [adRows]
theorem adRows_take (T U : List Int) (n : Nat) (p : Int) (i : Nat) (h : i < n) : (adRows T U n p).take (i + 1) = (adRows T U n p).take i ++ [braL T U (unitL n i) n p] := by
 rw [List.take_succ_eq_append_getElem (by rw [length_adRows]; exact h)]
 simp [adRows]
theorem total_adRows (T U : List Int) (n : Nat) (p : Int) : total (adRows T U n p) = n * n := by
 rw [total_const _ n (fun l hl => by
  obtain ⟨j, _, rfl⟩ := List.mem_map.1 hl
  exact length_braL _ _ _ _ _), length_adRows]
def adM (T U : List Int) (n : Nat) (p : Int) : List Int := (adRows T U n p).flatten
theorem length_adM (T U : List Int) (n : Nat) (p : Int) : (adM T U n p).length = n * n := by rw [adM, length_flatten', total_adRows]
set_option maxHeartbeats 1000000 in
theorem adjoint_any (p : Int) (n : Nat) (t u : Value) (T U : List Int) (w : World) (ht : Ints w t T) (hu : Ints w u U) (hT : T.length = n * n * n) (hU : U.length = n) (hn : n ≤ 28)
  (hp : 2 ≤ p) (hp' : p ≤ 10007) (rT : resid p T = true) (rU : resid p U = true) :
  Calls Tryz.prog 47 #[.agg #[.int .i64 p, .int .i64 n, t], u] w (RetMat w p n n (adM T U n p)) := by
 have h1 := ((((St.start w).arg ht).arg hu).box [.int .i64 p, .int .i64 n, t] 69).box [.int .i64 0, .int .i64 0, .int .i64 0, .slice none 0 0] 32
 replace h1 := h1.emptyRows
 simp only [World.size_alloc] at h1
 obtain ⟨A, c, rfl, _, _, _⟩ := id ht
 obtain ⟨A2, c2, rfl, _, _, _⟩ := id hu
 have HT := Lib.hid hT
 have HU := Lib.hid hU
 have hlen := length_adRows T U n p
 have HLen := Lib.hid hlen
 have htot := total_adRows T U n p
 have hnn := mul_le hn hn
 have HTot := Lib.hid htot
 have hM := fun (W : World) (v : Value) (hi : IntRows W v (adRows T U n p)) => matrixOf_any p n v (adRows T U n p) W hi (by rw [htot]; omega)
 rw [hlen] at hM
 obtain ⟨R, hR⟩ : ∃ R, R = adM T U n p := ⟨_, rfl⟩
 change ∀ (W : World) (v : Value) (_ : IntRows W v (adRows T U n p)), Calls Tryz.prog 82 #[.int .i64 p, .int .i64 n, v] W (RetMat W p n n (adM T U n p)) at hM
 rw [← hR] at hM ⊢
 have HM := Lib.hid hM
 have HR := Lib.hid hR
 clear hT hU ht hu hlen htot hM hR
 obtain ⟨z0, z1, z2⟩ := h1.box3 2 rfl
 go_enter Tryz.func47, Tryz.ntmps47
 go_wp2
 clear z0 z1 z2
 go_loopw [5, 6, 10] (fun vo vj vi wr => ∃ (i : Nat) (us : List Value), vi = .int .i64 i ∧ i ≤ n ∧ us.length = i ∧ St w wr [rowsIt vo us ((adRows T U n p).take i), .box (w.heap.size + 1) [.int .i64 0, .int .i64 0, .int .i64 0, .slice none 0 0], .box w.heap.size [.int .i64 p, .int .i64 n, .slice A T.length c], .ro (.slice A2 U.length c2) U, .ro (.slice A T.length c) T]) (fun _ _ vi _ => n - (intOf vi).toNat)
 case atStart => exact ⟨0, [], rfl, by omega, rfl, h1⟩
 case round =>
  clear h1
  obtain ⟨i, us, rfl, a1, hul, h1⟩ := hrel
  have Hul := Lib.hid hul
  clear hul
  by_cases hi : i < n
  ·have hl : us.length = ((adRows T U n p).take i).length := by rw [Hul.out, List.length_take, HLen.out]; omega
   have Hl := Lib.hid hl
   have ht1 : ((adRows T U n p).take i).length + 1 ≤ 1099511627776 := by rw [List.length_take, HLen.out]; omega
   have Ht1 := Lib.hid ht1
   have HS := Lib.hid (adRows_take T U n p i hi)
   clear hl ht1
   obtain ⟨z0, z1, z2⟩ := h1.box3 2 rfl
   go_wp2_with fail
   refine (right_any p n _ _ T U i _ _ (h1.roUp 4 rfl) (h1.roUp 3 rfl) (Nat.le_refl _) HT.out HU.out hi hn hp hp' rT rU).mono ?_
   rintro e wn ⟨u, rfl, ho, hb1⟩
   obtain ⟨A6, c6, rfl, _, _, _⟩ := id ho.ints
   replace h1 := h1.pushOwn hb1 ho
   clear ho hb1
   clear z0 z1 z2
   go_wp2_with (at_builtin; refine wp_append_row' rfl (.tmp 13) (.tmp 18) rfl h1 0 rfl Hl.out rfl rfl Ht1.out ?_; intro v1 w1 h2)
   go_roundw
   case rel => exact ⟨i + 1, us ++ [_], by go_num, by omega, by rw [List.length_append, Hul.out]; rfl, by rw [HS.out, ← rightL_eq T U n p hi]; exact h2⟩
   case measure => simp [intOf]; omega
  ·obtain rfl : i = n := by omega
   rw [List.take_of_length_le (by rw [HLen.out]; exact Nat.le_refl _)] at h1
   obtain ⟨z0, z1, z2⟩ := h1.box3 2 rfl
   go_wp2_with fail
   refine (HM.out _ _ (h1.rowsR 0 rfl (by rw [Hul.out, HLen.out]))).mono ?_
   rintro e wn ⟨u, rfl, ho, hb1⟩
   obtain ⟨A7, c7, rfl, _, _, _⟩ := id ho.ints
   replace h1 := h1.pushOwn hb1 ho
   clear ho hb1
   clear z0 z1 z2
   obtain ⟨z0, z1, z2, z3⟩ := h1.box4 2 rfl
   have f0 := h1.free 2 rfl 0
   have f1 := h1.free 2 rfl 1
   have f2 := h1.free 2 rfl 2
   have f3 := h1.free 2 rfl 3
   have h2 := (((h1.setBox 2 rfl 0 (.int .i64 p)).setBox 2 rfl 1 (.int .i64 i)).setBox 2 rfl 2 (.int .i64 i)).setBox 2 rfl 3 (.slice A7 R.length c7)
   obtain ⟨r0, r1, r2, r3⟩ := h2.box4 2 rfl
   go_wp2
   refine bodyPost_ret (v := .agg #[.int .i64 p, .int .i64 i, .int .i64 i, .slice A7 R.length c7]) (by simp [results, Tryz.results47, go_sem, r0, r1, r2, r3]) rfl ⟨_, rfl, h2.own 0 rfl, h2.below⟩
end
section
open Go.RowKit
set_option maxHeartbeats 2000000 in
theorem l2Adjoint_any (p : Int) (n : Nat) (t u : Value) (T U : List Int) (w : World) (ht : Ints w t T) (hu : Ints w u U) (hT : T.length = n * n * n) (hU : U.length = n) (hn : n ≤ 28)
    (hp : 2 ≤ p) (hp' : p ≤ 10007) (rT : resid p T = true) (rU : resid p U = true) :
    Calls Tryz.prog 32 #[.agg #[.int .i64 p, .int .i64 n, t], u] w (RetMat w p n n (adM T U n p)) := by
  have h1 := ((((St.start w).arg ht).arg hu).box [.int .i64 p, .int .i64 n, t] 30).box [.int .i64 0, .int .i64 0, .int .i64 0, .slice none 0 0] 32
  replace h1 := h1.emptyRows
  simp only [World.size_alloc] at h1
  obtain ⟨A, c, rfl, _, _, _⟩ := id ht
  obtain ⟨A2, c2, rfl, _, _, _⟩ := id hu
  have HT := Lib.hid hT
  have HU := Lib.hid hU
  have hlen := length_adRows T U n p
  have HLen := Lib.hid hlen
  have htot := total_adRows T U n p
  have hnn := mul_le hn hn
  have hM := fun (W : World) (v : Value) (hi : IntRows W v (adRows T U n p)) => l1Rows_any p n v (adRows T U n p) W hi (by rw [htot]; omega)
  rw [hlen] at hM
  obtain ⟨R, hR⟩ : ∃ R, R = adM T U n p := ⟨_, rfl⟩
  change ∀ (W : World) (v : Value) (_ : IntRows W v (adRows T U n p)), Calls Tryz.prog 62 #[.int .i64 p, .int .i64 n, v] W (RetMat W p n n (adM T U n p)) at hM
  rw [← hR] at hM ⊢
  have HM := Lib.hid hM
  clear hT hU ht hu hlen htot hM hR
  obtain ⟨z0, z1, z2⟩ := h1.box3 2 rfl
  go_enter Tryz.func32, Tryz.ntmps32
  go_wp2
  clear z0 z1 z2
  go_loopw [5, 6] (fun vo vi wr => ∃ (i : Nat) (us : List Value), vi = .int .i64 i ∧ i ≤ n ∧ us.length = i ∧ St w wr [rowsIt vo us ((adRows T U n p).take i), .box (w.heap.size + 1) [.int .i64 0, .int .i64 0, .int .i64 0, .slice none 0 0], .box w.heap.size [.int .i64 p, .int .i64 n, .slice A T.length c], .ro (.slice A2 U.length c2) U, .ro (.slice A T.length c) T]) (fun _ vi _ => n - (intOf vi).toNat)
  case atStart => exact ⟨0, [], rfl, by omega, rfl, h1⟩
  case round =>
    clear h1
    obtain ⟨i, us, rfl, a1, hul, h1⟩ := hrel
    have Hul := Lib.hid hul
    clear hul
    by_cases hi : i < n
    · have hl : us.length = ((adRows T U n p).take i).length := by rw [Hul.out, List.length_take, HLen.out]; omega
      have Hl := Lib.hid hl
      have ht1 : ((adRows T U n p).take i).length + 1 ≤ 1099511627776 := by rw [List.length_take, HLen.out]; omega
      have Ht1 := Lib.hid ht1
      have HS := Lib.hid (adRows_take T U n p i hi)
      clear hl ht1
      obtain ⟨z0, z1, z2⟩ := h1.box3 2 rfl
      go_wp2
      go_region_held3 (fun w' => w'.cell? ⟨w.heap.size, 0, none⟩ = some (.int .i64 p) ∧ w'.cell? ⟨w.heap.size, 1, none⟩ = some (.int .i64 n) ∧ w'.cell? ⟨w.heap.size, 2, none⟩ = some (.slice A T.length c))
        (first | exact ⟨z0, z1, z2⟩ | exact ⟨x0, x1, x2⟩ | exact ⟨y0, y1, y2⟩ | exact ⟨v0, v1, v2⟩ | exact ⟨q0, q1, q2⟩)
        (first
          | (go_at_call 63; refine (l2Basis_any n i _ (by omega) hi).mono ?_; rintro (e : Ending) w1 ⟨u, rfl, ho, hb1⟩; obtain ⟨A6, c6, rfl, _, _, _⟩ := id ho.ints; have h2 := h1.drew.pushOwn hb1 ho; obtain ⟨x0, x1, x2⟩ := h2.box3 3 rfl)
          | (go_at_call 60; refine (l2Bracket_any p n _ _ _ T U (unitL n i) _ _ (h2.roUp 5 rfl) (h2.roUp 4 rfl) (h2.ownInts 0 rfl).toB (Nat.le_refl _) HT.out HU.out (length_unitL _ _) hn hp hp' rT rU (resid_unitL hp n i)).mono ?_; rintro (e : Ending) w2 ⟨u, rfl, ho2, hb2⟩; obtain ⟨A7, n7, c7, rfl⟩ := ho2.slice; have h3 := h2.pushOwn hb2 ho2; obtain ⟨y0, y1, y2⟩ := h3.box3 4 rfl; obtain ⟨v0, v1, v2⟩ := (h3.alloc' (.cells #[.slice A7 n7 c7] 22)).box3 4 rfl)
          | (refine step_append_row rfl (.tmp 14) (.tmp 22) rfl h3 1 rfl Hl.out rfl rfl Ht1.out ?_; intro vv w3 h4; obtain ⟨q0, q1, q2⟩ := h4.box3 3 rfl))
      clear h1 h2 h3 z0 z1 z2 x0 x1 x2 y0 y1 y2 v0 v1 v2 q0 q1 q2
      go_wp2
      go_roundw
      case rel => exact ⟨i + 1, us ++ [_], by go_num, by omega, by rw [List.length_append, Hul.out]; rfl, by rw [HS.out]; exact h4.drop 1⟩
      case measure => simp [intOf]; omega
    · obtain rfl : i = n := by omega
      rw [List.take_of_length_le (by rw [HLen.out]; exact Nat.le_refl _)] at h1
      obtain ⟨z0, z1, z2⟩ := h1.box3 2 rfl
      go_wp2_with fail
      refine (HM.out _ _ (h1.rowsR 0 rfl (by rw [Hul.out, HLen.out]))).mono ?_
      rintro e wn ⟨u, rfl, ho, hb1⟩
      obtain ⟨A7, c7, rfl, _, _, _⟩ := id ho.ints
      replace h1 := h1.pushOwn hb1 ho
      clear ho hb1
      clear z0 z1 z2
      obtain ⟨z0, z1, z2, z3⟩ := h1.box4 2 rfl
      have f0 := h1.free 2 rfl 0
      have f1 := h1.free 2 rfl 1
      have f2 := h1.free 2 rfl 2
      have f3 := h1.free 2 rfl 3
      have h2 := (((h1.setBox 2 rfl 0 (.int .i64 p)).setBox 2 rfl 1 (.int .i64 i)).setBox 2 rfl 2 (.int .i64 i)).setBox 2 rfl 3 (.slice A7 R.length c7)
      obtain ⟨r0, r1, r2, r3⟩ := h2.box4 2 rfl
      go_wp2
      refine bodyPost_ret (v := .agg #[.int .i64 p, .int .i64 i, .int .i64 i, .slice A7 R.length c7]) (by simp [results, Tryz.results32, go_sem, r0, r1, r2, r3]) rfl ⟨_, rfl, h2.own 0 rfl, h2.below⟩
end
end
section
section
open Go.RowKit
theorem St.vecSome {w0 w : World} {L : List It} (h : St w0 w L) (i : Nat) {A : Option Addr} {n c e sz n' : Nat} {cs : List Value} {subs : List (Value × List Int)} (hi : L[i]? = some (.vec (.slice A n c) e sz n' cs subs)) (hn : 0 < n') : ∃ g, A = some ⟨g, 0, none⟩ := by
 rcases (h.vec i hi).1.2 with ⟨_, h0⟩ | ⟨g, cap, cur, hv, _⟩
 ·omega
 ·simp only [Value.slice.injEq] at hv
  exact ⟨g, hv.1⟩
theorem St.row {w0 w : World} {L : List It} (h : St w0 w L) (i : Nat) {g n c : Nat} {us : List Value} {ll : List (List Int)} (hi : L[i]? = some (rowsIt (.slice (some ⟨g, 0, none⟩) n c) us ll)) (hul : us.length = ll.length) (hn : n = ll.length) {k : Nat} (hk : k < ll.length) :
  ∃ A' c', us[k]? = some (.slice A' (rowOf ll k).length c') ∧ w.cell? ⟨g, k, none⟩ = some (.slice A' (rowOf ll k).length c') ∧ Ints w (.slice A' (rowOf ll k).length c') (rowOf ll k) := by
 subst hn
 have hu : us[k]? = some (us[k]'(by omega)) := List.getElem?_eq_getElem _
 have ho := h.sub i hi k (zip_get hu (rowOf_get hk))
 obtain ⟨A', c', he, _⟩ := ho.ints
 rw [he] at hu
 exact ⟨A', c', hu, h.vecCell i hi k hu, by rw [← he]; exact ho.ints⟩
theorem St.rowAt {w0 w : World} {L : List It} (h : St w0 w L) (i : Nat) {g n c : Nat} {us : List Value} {ll : List (List Int)} (hi : L[i]? = some (rowsIt (.slice (some ⟨g, 0, none⟩) n c) us ll)) (hn : n = ll.length) {k : Nat} {u : Value} (hu : us[k]? = some u) (hk : k < ll.length) :
  w.cell? ⟨g, k, none⟩ = some u ∧ Ints w u (rowOf ll k) := by
 subst hn
 exact ⟨h.vecCell i hi k hu, (h.sub i hi k (zip_get hu (rowOf_get hk))).ints⟩
end
end
end Go.Proofs.YtbnefjhljfbecaaGreatDoor
