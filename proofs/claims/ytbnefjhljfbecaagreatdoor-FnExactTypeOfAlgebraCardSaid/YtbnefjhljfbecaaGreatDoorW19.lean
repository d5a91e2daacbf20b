import Derived.Maps.OwnSet
import Derived.Test.YtbnefjhljfbecaaGreatDoorW04
import Derived.Test.YtbnefjhljfbecaaGreatDoorW05
import Derived.Test.YtbnefjhljfbecaaGreatDoorW09
import Derived.Test.YtbnefjhljfbecaaGreatDoorW16
import Derived.Test.YtbnefjhljfbecaaGreatDoorW18
namespace Go.Proofs.YtbnefjhljfbecaaGreatDoor
set_option maxRecDepth 100000
section
open Go.RowKit
namespace Car
set_option maxHeartbeats 1000000 in
theorem reordered_zero (n : Nat) (D E : List Int) : ReAt n D E 0 := by
 intro used a b u w hl hb ha hbE hu
 have h2 := ((St.start w).box [.int .i64 n, a] 49).box [.int .i64 n, b] 49
 obtain ⟨A0, c0, rfl, _, _, _⟩ := id ha
 obtain ⟨A1, c1, rfl, _, _, _⟩ := id hbE
 obtain ⟨A2, c2, rfl, _, _, _⟩ := id hu
 have hk : (used.map Int.ofNat).length = n := by rw [List.length_map]; omega
 rw [hk]
 obtain ⟨z0, z1⟩ := h2.box2 1 rfl
 show Calls _ _ _ _ fun e w' => e = .returned (.bool true) ∧ Below w.heap.size w w'
 clear ha hbE hu hk hl hb
 go_enter Tryz.func96, Tryz.ntmps96
 go_wp2
 go_ret
 exact ⟨rfl, h2.below⟩
theorem reordered_all (n : Nat) (D E : List Int) (hD : D.length = n * n) (hE : E.length = n * n) (hn1 : 1 ≤ n) (hn : n ≤ 4) : ∀ f, ReAt n D E f
 | 0 => reordered_zero n D E
 | f + 1 => reordered_step n D E hD hE hn1 hn f (reordered_all n D E hD hE hn1 hn f)
theorem typesOf_all : ∀ f, TyAt f
 | 0 => fun _ _ _ h => absurd h (by omega)
 | f + 1 => typesOf_step f (typesOf_all f)
def firstT (n : Nat) (D : List Int) : List (List Nat) → ByteArray
 | [] => ⟨#[]⟩
 | t :: ts => if bt n D n (due n t) (List.range n) n [] = true then nameT t else firstT n D ts
def typB (r : Int) (D : List Int) : ByteArray := if inR r 1 4 = true ∧ (D.length : Int) = r * r then firstT r.toNat D (tys r.toNat) else ⟨#[]⟩
theorem due_len (n : Nat) (t : List Nat) : (due n t).length = n * n := by unfold due; rw [List.length_map, List.length_range]
theorem MaxAt.fact {w : World} (h : MaxAt w) : It.ok w.heap.size w (.fact MaxAt) := fun _ hk => by
 obtain ⟨m, hm⟩ := h
 exact ⟨m, (World.cell?_of_block (hk _ (World.block_lt_of_cell? w _ hm))).trans hm⟩
set_option maxHeartbeats 4000000 in
theorem typeOf_good (n : Nat) (v : Value) (D : List Int) (w : World) (hv : Ints w v D) (hD : D.length = n * n) (h1 : 1 ≤ n) (h4 : n ≤ 4) (hM : MaxAt w) :
  Calls Tryz.prog 57 #[.agg #[.int .i64 n, v]] w fun e w' => e = .returned (.string (firstT n D (tys n))) ∧ Below w.heap.size w w' := by
 obtain ⟨X, hX⟩ : ∃ X, X = firstT n D (tys n) := ⟨_, rfl⟩
 rw [← hX]
 have HX := Lib.hid hX
 obtain ⟨A, c, rfl, _, _, _⟩ := id hv
 have g := ((((St.start w).arg hv).pushOld (MaxAt.fact hM)).box [.int .i64 n, .slice A D.length c] 49)
 have HTy := Lib.hid (fun (W : World) => typesOf_all 5 n 0 W (by omega) h4 (by omega))
 have HNm := Lib.hid (fun t (ht : t ∈ tys n) => And.intro (jn_ok h1 h4 ht).2.2.2.1 (name_ok h1 h4 ht))
 have HCo := Lib.hid (fun t (ht : t ∈ tys n) (W : World) (x : MaxAt W) => CartanOf_any n t W h1 h4 ht x)
 have HRe := Lib.hid (fun t (W : World) (b : Value) (x1 : Ints W (.slice A D.length c) D) (x2 : Ints W b (due n t)) => reordered_all n D (due n t) hD (due_len n t) h1 h4 n [] _ b (.slice none 0 0) W (by simp) (fun x hx => absurd hx (by simp)) x1 x2 ⟨none, 0, rfl, by simp, by simp, fun h => absurd h (by simp)⟩)
 obtain ⟨dl, hdl⟩ : ∃ dl, dl = D.length := ⟨_, rfl⟩
 rw [← hdl] at g HRe ⊢
 have wq : wrap64 ((n : Int) * (n : Int)) = (dl : Int) := by
  have h16 := Nat.mul_le_mul h4 h4
  rw [hdl, hD, Int.natCast_mul]
  rw [← Int.natCast_mul, w64_ok (by omega) (by omega)]
 have hin : inR (n : Int) 1 4 = true := by simp [inR]; omega
 have Hdl := Lib.hid hdl
 obtain ⟨z0, z1⟩ := g.box2 0 rfl
 clear hX hv hM hD hdl
 go_enter Tryz.func57, Tryz.ntmps57
 go_wp2_with (go_at_call 56; refine (inside_any _ _ _ _).mono ?_; rintro e w' ⟨rfl, rfl⟩)
 refine (HTy.out _).mono ?_
 rintro (e : Ending) w3 ⟨vr, rfl, hS, hb3⟩
 have hLL : tyB 5 n 0 = (tys n).map (List.map nmB) := rfl
 rw [hLL] at hS
 obtain ⟨m, hm⟩ : ∃ m, m = (tys n).length := ⟨_, rfl⟩
 obtain ⟨A7, c7, rfl⟩ := SSAt.val hS
 rw [List.length_map, ← hm] at hS ⊢
 have hm100 : m ≤ 100 := by rw [hm]; exact few (by omega) h4
 have Hm := Lib.hid hm
 have g2 := g.hold hb3 (fun W => SSAt W _ w3.heap.size (.slice A7 m c7) ((tys n).map (List.map nmB))) (fun W hk => hS.keep hk)
 obtain ⟨bs, hbs⟩ : ∃ bs, bs = List.range' (w.alloc (.cells #[.int .i64 n, .slice A dl c] 49)).heap.size (w3.heap.size - (w.alloc (.cells #[.int .i64 n, .slice A dl c] 49)).heap.size) := ⟨_, rfl⟩
 obtain ⟨lo, hlo⟩ : ∃ lo, lo = (w.alloc (.cells #[.int .i64 n, .slice A dl c] 49)).heap.size := ⟨_, rfl⟩
 obtain ⟨hi, hhi⟩ : ∃ hi, hi = w3.heap.size := ⟨_, rfl⟩
 have g3 : St w w3 [.held bs (fun W => SSAt W lo hi (.slice A7 m c7) ((tys n).map (List.map nmB))), .box w.heap.size [.int .i64 n, .slice A dl c], .fact MaxAt, .ro (.slice A dl c) D] := by rw [hbs, hlo, hhi]; exact g2
 clear g g2 hS hb3 hLL hm hbs hlo hhi z0 z1 HTy wq hin
 have HX0 : Hid (X = firstT n D ((tys n).drop 0)) := HX
 clear HX
 go_wp2
 go_loopw [27] (fun v27 wr => ∃ j : Nat, v27 = .int .i64 j ∧ j ≤ m ∧ Hid (X = firstT n D ((tys n).drop j)) ∧ St w wr [.held bs (fun W => SSAt W lo hi (.slice A7 m c7) ((tys n).map (List.map nmB))), .box w.heap.size [.int .i64 n, .slice A dl c], .fact MaxAt, .ro (.slice A dl c) D]) (fun v27 _ => m - (intOf v27).toNat)
 case atStart => exact ⟨0, rfl, by omega, HX0, g3⟩
 case round =>
  clear g3 HX0
  obtain ⟨j, rfl, a1, HX, g⟩ := hrel
  by_cases hj : j < m
  ·have hjt : j < (tys n).length := by rw [← Hm.out]; exact hj
   have hrow : ((tys n).map (List.map nmB))[j]? = some ((tys n)[j].map nmB) := by rw [List.getElem?_map, List.getElem?_eq_getElem hjt]; rfl
   obtain ⟨br, orr, ur, rfl, xr, hur⟩ := SSAt.row (g.heldR 0 rfl) hrow
   have htm := List.getElem_mem hjt
   have hXs := HX.out
   rw [List.drop_eq_getElem_cons hjt] at hXs
   obtain ⟨t, ht⟩ : ∃ t, t = (tys n)[j] := ⟨_, rfl⟩
   rw [← ht] at hur htm hXs
   obtain ⟨nk0, nk1, nk2, nk3, nk4⟩ := HNm.out t htm
   obtain ⟨Ar, cr, rfl, hcr, hrd⟩ := StrsAt.top hur
   obtain ⟨tl, htl⟩ : ∃ tl, tl = (t.map nmB).length := ⟨_, rfl⟩
   have htl1 : 0 < tl := by rw [htl, List.length_map]; omega
   obtain ⟨bq, oq, rfl, _, hbq, hcell⟩ := hrd (by rw [← htl]; exact htl1)
   have hJn : Lib.join ((t.map nmB).map (·.data.toList)) [43] = (nameT t).data.toList := by
    rw [List.map_map]; rfl
   have HJn := Lib.hid (show Calls Tryz.prog 92 #[.slice (some ⟨bq, oq, none⟩) tl cr, .string ⟨#[43]⟩] wr fun e w' => e = .returned (.string (nameT t)) ∧ Below wr.heap.size wr w' by
    rw [htl]
    refine (join_any bq oq cr (t.map nmB) wr hcell hbq (by rw [List.length_map]; omega) hcr (by rw [hJn]; show (nameT t).data.toList.length ≤ _; rw [Array.length_toList]; show (nameT t).size ≤ _; omega)).mono fun e w' ⟨h1, h2⟩ => ⟨h1.trans ?_, h2⟩
    rw [hJn])
   rw [← htl] at xr
   have HCo1 := Lib.hid (fun W x => HCo.out t htm W x)
   have HRe1 := Lib.hid (fun W b x1 x2 => HRe.out t W b x1 x2)
   obtain ⟨nm, hnm⟩ : ∃ nm, nm = nameT t := ⟨_, rfl⟩
   obtain ⟨bb, hbb⟩ : ∃ bb, bb = bt n D n (due n t) (List.range n) n [] := ⟨_, rfl⟩
   have hXb : X = if bb = true then nm else firstT n D ((tys n).drop (j + 1)) := by rw [hXs, hbb, hnm]; rfl
   rw [← hnm] at HJn HCo1
   rw [← hbb] at HRe1
   have HXb := Lib.hid hXb
   have ij : (j : Int) < (m : Int) := by omega
   clear hrow htm hXs ht nk0 nk1 nk2 nk3 nk4 hur hcr hrd hcell hJn htl hnm hbb hXb HX hbq
   go_wp2_with fail
   refine HJn.out.mono ?_
   rintro (e : Ending) w4 ⟨rfl, hb4⟩
   have g4 := g.on hb4
   clear g hb4 xr
   go_wp2_with fail
   refine (HCo1.out _ (g4.fact 2 rfl)).mono ?_
   rintro (e : Ending) w5 ⟨u, rfl, ho, hb5⟩
   obtain ⟨Au, nu, cu, rfl⟩ := ho.slice
   have g5 := (g4.pushOwn hb5 ho).box [.int .i64 n, .slice Au nu cu] 49
   obtain ⟨p0, p1⟩ := g5.box2 0 rfl
   obtain ⟨q0, q1⟩ := g5.box2 3 rfl
   have hi1 := g5.roInts 5 rfl
   have hi2 := g5.ownInts 1 rfl
   clear g4 ho hb5
   go_wp2_with fail
   refine (HRe1.out _ _ hi1 hi2).mono ?_
   rintro (e : Ending) w6 ⟨rfl, hb6⟩
   have g6 := (g5.on hb6).drop 2
   simp only [List.drop_succ_cons, List.drop_zero] at g6
   clear g5 p0 p1 q0 q1 hi1 hi2 hb6
   cases bb with
   | true =>
    have HXt := Lib.hid (show X = nm by rw [HXb.out, if_pos rfl])
    go_wp2
    go_ret
    exact ⟨by rw [HXt.out]; rfl, g6.below⟩
   | false =>
    have HXf := Lib.hid (show X = firstT n D ((tys n).drop (j + 1)) by rw [HXb.out, if_neg (by decide)])
    go_wp2
    go_roundw
    case rel => exact ⟨j + 1, by go_num, by omega, HXf, g6⟩
    case measure => simp [intOf]; omega
  ·obtain rfl : m = j := by omega
   have HXe := Lib.hid (show X = ⟨#[]⟩ by rw [HX.out, List.drop_eq_nil_of_le (by rw [← Hm.out]; exact Nat.le_refl _)]; rfl)
   go_wp2
   go_ret
   exact ⟨by rw [HXe.out]; rfl, g.below⟩
set_option maxHeartbeats 1000000 in
theorem TypeOf_any (r : Int) (v : Value) (D : List Int) (w : World) (hv : Ints w v D) (hM : MaxAt w) (hr : -9223372036854775808 ≤ r ∧ r ≤ 9223372036854775807) :
  Calls Tryz.prog 57 #[.agg #[.int .i64 r, v]] w fun e w' => e = .returned (.string (typB r D)) ∧ Below w.heap.size w w' := by
 by_cases hin : inR r 1 4 = true
 ·have hr2 := hin
  simp [inR] at hr2
  by_cases hD : (D.length : Int) = r * r
  ·obtain ⟨n, rfl⟩ : ∃ n : Nat, r = n := ⟨r.toNat, by omega⟩
   have e : typB (n : Int) D = firstT n D (tys n) := by unfold typB; rw [if_pos ⟨hin, hD⟩]; rfl
   rw [e]
   rw [← Int.natCast_mul] at hD
   exact typeOf_good n v D w hv (by omega) (by omega) (by omega) hM
  ·have e : typB r D = ⟨#[]⟩ := by unfold typB; rw [if_neg (fun h => hD h.2)]
   rw [e]
   have h16 : r * r ≤ 16 := by
    have h9 := Int.mul_le_mul (a := r) (b := r) (c := 4) (d := 4) (by omega) (by omega) (by omega) (by omega)
    omega
   have h0 : 0 ≤ r * r := Int.mul_nonneg (by omega) (by omega)
   have g := (St.start w).box [.int .i64 r, v] 49
   obtain ⟨A, c, rfl, _, _, _⟩ := id hv
   obtain ⟨dl, hdl⟩ : ∃ dl, dl = D.length := ⟨_, rfl⟩
   obtain ⟨rr, hrr⟩ : ∃ rr, rr = r * r := ⟨_, rfl⟩
   have wq : wrap64 (r * r) = rr := by rw [← hrr, w64_ok (by omega) (by omega)]
   rw [← hdl, ← hrr] at hD
   rw [← hdl] at g ⊢
   obtain ⟨z0, z1⟩ := g.box2 0 rfl
   have hne : ((dl : Int) != rr) = true := by simpa using hD
   clear hv hM hdl hrr e h16 h0 hr2 hr hD
   go_enter Tryz.func57, Tryz.ntmps57
   go_wp2_with (go_at_call 56; refine (inside_any _ _ _ _).mono ?_; rintro e w' ⟨rfl, rfl⟩)
   go_ret
   exact ⟨rfl, g.below⟩
 ·have e : typB r D = ⟨#[]⟩ := by unfold typB; rw [if_neg (fun h => hin h.1)]
  rw [e]
  have g := (St.start w).box [.int .i64 r, v] 49
  obtain ⟨A, c, rfl, _, _, _⟩ := id hv
  obtain ⟨dl, hdl⟩ : ∃ dl, dl = D.length := ⟨_, rfl⟩
  rw [← hdl] at g ⊢
  obtain ⟨z0, z1⟩ := g.box2 0 rfl
  have hin2 : inR r 1 4 = false := by simpa using hin
  clear hv hM hdl hin e hr
  go_enter Tryz.func57, Tryz.ntmps57
  go_wp2_with (go_at_call 56; refine (inside_any _ _ _ _).mono ?_; rintro e w' ⟨rfl, rfl⟩)
  go_ret
  exact ⟨rfl, g.below⟩
end Car
end
section
open Go.RowKit
namespace Car
set_option maxHeartbeats 2000000 in
theorem l5Parts_bad (r : Int) (v : Value) (D : List Int) (w : World) (hv : Ints w v D) (hb : inR r 1 4 = false ∨ (inR r 1 4 = true ∧ ¬ ((D.length : Int) = r * r))) :
  Calls Tryz.prog 42 #[.agg #[.int .i64 r, v]] w (RetParts w none) := by
 obtain ⟨A, c, rfl, _, _, _⟩ := id hv
 have g := ((St.start w).box [.int .i64 r, .slice A D.length c] 49)
 obtain ⟨dl, hdl⟩ : ∃ dl, dl = D.length := ⟨_, rfl⟩
 rw [← hdl] at g hb ⊢
 obtain ⟨z0, z1⟩ := g.box2 0 rfl
 clear hv hdl
 rcases hb with hb | ⟨hb, hl⟩
 ·go_enter Tryz.func42, Tryz.ntmps42
  go_wp2_with (go_at_call 20; refine (l1In_any _ _ _ _).mono ?_; rintro e w' ⟨rfl, rfl⟩)
  go_ret2
  exact ⟨g.below, .inl ⟨rfl, rfl⟩⟩
 ·obtain ⟨n, rfl⟩ : ∃ n : Nat, r = (n : Int) := ⟨r.toNat, by simp [inR] at hb; omega⟩
  have h4 : 1 ≤ n ∧ n ≤ 4 := by simp [inR] at hb; omega
  have hnn : n * n ≤ 16 := Nat.mul_le_mul h4.2 h4.2
  obtain ⟨nn, hq⟩ : ∃ nn, nn = n * n := ⟨_, rfl⟩
  have wq : wrap64 ((n : Int) * (n : Int)) = (nn : Int) := by
   rw [hq, ← Int.natCast_mul, w64_ok (by omega) (by omega)]
  have hne : ((dl : Int) == (nn : Int)) = false := by
   rw [beq_eq_false_iff_ne]
   intro e
   exact hl (by rw [e, hq, Int.natCast_mul])
  have hne2 : ((dl : Int) != (n : Int) * (n : Int)) = true := by rw [bne_iff_ne]; exact hl
  have hne3 : ((dl : Int) == (n : Int) * (n : Int)) = false := by rw [beq_eq_false_iff_ne]; exact hl
  clear hl hq
  go_enter Tryz.func42, Tryz.ntmps42
  go_wp2_with (go_at_call 20; refine (l1In_any _ _ _ _).mono ?_; rintro e w' ⟨rfl, rfl⟩)
  go_ret2
  exact ⟨g.below, .inl ⟨rfl, rfl⟩⟩
def partsB (r : Int) (D : List Int) : Option (List Nat) := if inR r 1 4 = true ∧ (D.length : Int) = r * r then parts r.toNat D else none
theorem l5Parts_any (r : Int) (v : Value) (D : List Int) (w : World) (hv : Ints w v D) :
  Calls Tryz.prog 42 #[.agg #[.int .i64 r, v]] w (RetParts w (partsB r D)) := by
 unfold partsB
 by_cases h : inR r 1 4 = true ∧ (D.length : Int) = r * r
 ·rw [if_pos h]
  obtain ⟨n, rfl⟩ : ∃ n : Nat, r = (n : Int) := ⟨r.toNat, by have := h.1; simp [inR] at this; omega⟩
  have h4 : 1 ≤ n ∧ n ≤ 4 := by have := h.1; simp [inR] at this; omega
  rw [Int.toNat_natCast]
  exact l5Parts_good n v D w hv (by have := h.2; rw [← Int.natCast_mul] at this; omega) h4.1 h4.2
 ·rw [if_neg h]
  refine l5Parts_bad r v D w hv ?_
  by_cases h1 : inR r 1 4 = true
  ·exact .inr ⟨h1, fun e => h ⟨h1, e⟩⟩
  ·exact .inl (by simpa using h1)
end Car
end
section
namespace Car
def takenT (n : Nat) : Bool := (tys n).all fun t => (orders n n).all fun o => parts n (perm n (due n t) o) == some t
set_option maxRecDepth 100000
theorem takenT_1 : takenT 1 = true := by decide +kernel
theorem takenT_2 : takenT 2 = true := by decide +kernel
theorem takenT_3 : takenT 3 = true := by decide +kernel
theorem takenT_4 : takenT 4 = true := by decide +kernel
theorem parts_of_bt {n : Nat} {D : List Int} (h1 : 1 ≤ n) (h4 : n ≤ 4) (hD : D.length = n * n) {t : List Nat} (ht : t ∈ tys n) (hb : bt n D n (due n t) (List.range n) n [] = true) : parts n D = some t := by
 obtain ⟨o, ho⟩ := (bt_iff _ _ _ _ _).1 hb
 have hp := perm_eq h1 h4 hD ho
 have htk : takenT n = true := by
  have : n = 1 ∨ n = 2 ∨ n = 3 ∨ n = 4 := by omega
  rcases this with rfl | rfl | rfl | rfl
  ·exact takenT_1
  ·exact takenT_2
  ·exact takenT_3
  ·exact takenT_4
 unfold takenT at htk
 rw [List.all_eq_true] at htk
 have h5 := List.all_eq_true.1 (htk t ht) o (by
  have := orders_mem n o (fun x hx => List.mem_range.1 (ho.2.1 x hx)) ho.2.2.1 n (by rw [ho.1]; exact Nat.le_refl _)
  rwa [List.take_of_length_le (by rw [ho.1]; exact Nat.le_refl _)] at this)
 rw [hp]; exact eq_of_beq h5
theorem firstT_cases (n : Nat) (D : List Int) : ∀ ts : List (List Nat), (∃ t ∈ ts, bt n D n (due n t) (List.range n) n [] = true ∧ firstT n D ts = nameT t) ∨ ((∀ t ∈ ts, bt n D n (due n t) (List.range n) n [] = false) ∧ firstT n D ts = ⟨#[]⟩)
 | [] => .inr ⟨fun t ht => by simp at ht, rfl⟩
 | t :: ts => by
  unfold firstT
  by_cases hb : bt n D n (due n t) (List.range n) n [] = true
  ·exact .inl ⟨t, by simp, hb, by rw [if_pos hb]⟩
  ·rw [if_neg hb]
   rcases firstT_cases n D ts with ⟨t', h1, h2, h3⟩ | ⟨h1, h2⟩
   ·exact .inl ⟨t', by simp [h1], h2, h3⟩
   ·refine .inr ⟨fun x hx => ?_, h2⟩
    rcases List.mem_cons.1 hx with rfl | hx
    ·simpa using hb
    ·exact h1 x hx
def typS (r : Int) (D : List Int) : ByteArray := match partsB r D with
 | none => ⟨#[]⟩
 | some t => nameT t
theorem typ_eq (r : Int) (D : List Int) : typS r D = typB r D := by
 unfold typS typB partsB
 by_cases h : inR r 1 4 = true ∧ (D.length : Int) = r * r
 ·rw [if_pos h, if_pos h]
  obtain ⟨n, rfl⟩ : ∃ n : Nat, r = (n : Int) := ⟨r.toNat, by have := h.1; simp [inR] at this; omega⟩
  have h4 : 1 ≤ n ∧ n ≤ 4 := by have := h.1; simp [inR] at this; omega
  have hD : D.length = n * n := by have := h.2; rw [← Int.natCast_mul] at this; omega
  rw [Int.toNat_natCast]
  rcases firstT_cases n D (tys n) with ⟨t, h1, h2, h3⟩ | ⟨h1, h2⟩
  ·rw [parts_of_bt h4.1 h4.2 hD h1 h2, h3]
  ·cases hp : parts n D with
   | none => rw [h2]
   | some res =>
    exfalso
    have hc := carI_of_parts h4.1 h4.2 hD hp
    unfold carI at hc
    obtain ⟨t, ht, hb⟩ := List.any_eq_true.1 hc
    rw [h1 t ht] at hb
    exact Bool.noConfusion hb
 ·rw [if_neg h, if_neg h]
end Car
end
section
open Go.RowKit
open Go.Maps (Keyed)
namespace Mp
structure MT (P : Program) (t k e : TypeId) (d : TypeDesc) : Prop where
 ht : P.underlying t = some (.map k e)
 hk : P.underlying k = some .string
 he : P.underlying e = some d
def SMap (P : Program) (k e : TypeId) (b n : Nat) (S : ByteArray → Bool) (w : World) : Prop :=
 ∃ D : DataW Unit, w.ownsMap P k (plainElem P e) b n D ∧ ∀ s : ByteArray, s.size ≤ maxLen → Maps.has D (.string s.data.toList) = S s ∧ D.atKey (.string s.data.toList) (.lit (.bool false)) = .lit (.bool (S s))
section
variable {P : Program} {t k e : TypeId} {b n : Nat} {w w' : World}
theorem owns_same' {H : Type} {R : Value → Option (DataW H × List MemPlace)} {D : DataW H} (h : w.ownsMap P k R b n D) (hb : w'.heap[b]? = w.heap[b]?) : w'.ownsMap P k R b n D := by
 obtain ⟨es, clock, h1, h2, h3, h4⟩ := h
 exact ⟨es, clock, hb.trans h1, h2, h3, h4⟩
theorem SMap.same {S : ByteArray → Bool} (h : SMap P k e b n S w) (hb : w'.heap[b]? = w.heap[b]?) : SMap P k e b n S w' := by
 obtain ⟨D, h1, h2⟩ := h
 exact ⟨D, owns_same' h1 hb, h2⟩
theorem SMap.lt {S : ByteArray → Bool} (h : SMap P k e b n S w) : b < w.heap.size := by
 obtain ⟨D, h1, _⟩ := h
 exact h1.lt
theorem plainElem_bool_inv {H : Type} (he : P.underlying e = some .bool) {v : Value} {z : DataW H × List MemPlace} (h : plainElem P e v = some z) : ∃ x, v = .bool x ∧ z = (.lit (.bool x), []) := by
 unfold plainElem at h
 rw [he] at h
 cases v with
 | bool x => exact ⟨x, rfl, by simpa using h.symm⟩
 | _ => simp at h
theorem SMap.look {S : ByteArray → Bool} (h : SMap P k e b n S w) (M : MT P t k e .bool) (hz : ∀ w, (zeroValue e).run P w = .ok (.bool false) w) {s : ByteArray} (hs : s.size ≤ maxLen) :
  (Instr.lookup t (.map (some b)) (.string s) false).run P w = .ok (.bool (S s)) w := by
 obtain ⟨D, h1, h2⟩ := h
 obtain ⟨v, ps, hr, hv⟩ := h1.lookup (Maps.string_keyed M.hk) M.ht (hz w) (plainElem_bool M.he false) (WideMaps.keyOf_string_mk M.hk hs)
 obtain ⟨x, rfl, hc⟩ := plainElem_bool_inv M.he hv
 rw [(h2 s hs).2] at hc
 rw [hr]
 have hc := congrArg Prod.fst hc
 injection hc with hc
 injection hc with hc
 rw [hc]
end
def upd {α : Type} (F : ByteArray → α) (s : ByteArray) (v : α) (x : ByteArray) : α := if x = s then v else F x
theorem key_ne {s x : ByteArray} (h : x ≠ s) : (Lit.string x.data.toList) ≠ .string s.data.toList := by
 intro e
 injection e with e
 apply h
 have : x.data = s.data := Array.toList_inj.1 e
 cases x; cases s; simp_all
theorem isKey (s : ByteArray) : WideAt.IsKeyLit (.string s.data.toList) := by trivial
def smapIt (P : Program) (k e : TypeId) (b n : Nat) (S : ByteArray → Bool) : It := .held [b] (SMap P k e b n S)
section
variable {P : Program} {t k e : TypeId} {b n : Nat} {w w0 : World} {L : List It}
theorem SMap.put {S : ByteArray → Bool} (h : SMap P k e b n S w) (M : MT P t k e .bool) (hn : n < maxLen) {s : ByteArray} (hs : s.size ≤ maxLen) :
  ∃ w', (Instr.mapUpdate t (.map (some b)) (.string s) (.bool true)).run P w = .ok () w' ∧ SMap P k e b (n + 1) (upd S s true) w' ∧ w.grownBy w' (some b) := by
 obtain ⟨D, h1, h2⟩ := h
 obtain ⟨w', hr, h3, h4⟩ := h1.update (Maps.string_keyed M.hk) M.ht hn (WideMaps.keyOf_string_mk M.hk hs) (plainElem_bool M.he true)
 refine ⟨w', hr, ⟨_, h3, fun x hx => ?_⟩, h4⟩
 unfold upd
 by_cases e : x = s
 ·subst e
  rw [if_pos rfl]
  exact ⟨Maps.has_put_same h1.isMap (isKey x) _, Maps.atKey_put_same h1.isMap (isKey x) _ _⟩
 ·rw [if_neg e, Maps.has_put_other (key_ne e), Maps.atKey_put_other (key_ne e)]
  exact h2 x hx
theorem SMap.made (w : World) : SMap P k e w.heap.size 0 (fun _ => false) (w.alloc (.map #[] 0)) :=
 ⟨.map [], World.ownsMap_made w P k _, fun _ _ => ⟨rfl, rfl⟩⟩
theorem smap_ok {B : Nat} {S : ByteArray → Bool} (h : SMap P k e b n S w) (hb : B ≤ b) : (smapIt P k e b n S).ok B w :=
 ⟨fun b' hb' => by rw [List.mem_singleton.1 hb']; exact ⟨hb, h.lt⟩, fun w' hw => h.same (hw b (.inr (List.mem_singleton.2 rfl)))⟩
theorem _root_.Go.Proofs.YtbnefjhljfbecaaGreatDoor.St.newS (P : Program) (k e : TypeId) (h : St w0 w L) : St w0 (w.alloc (.map #[] 0)) (smapIt P k e w.heap.size 0 (fun _ => false) :: L) :=
 h.push ((Below.refl _ _).alloc (Nat.le_refl _) _) (smap_ok (SMap.made w) h.size) (fun b hb => by rw [List.mem_singleton.1 hb]; exact Nat.le_refl _) (by simp [smapIt, It.fp])
theorem _root_.Go.Proofs.YtbnefjhljfbecaaGreatDoor.St.smap (h : St w0 w L) (i : Nat) {S : ByteArray → Bool} (hi : L[i]? = some (smapIt P k e b n S)) : SMap P k e b n S w := (h.at i hi).2 w fun _ _ => rfl
theorem upd_st {w' : World} (h : St w0 w L) (i : Nat) {R R' : World → Prop} (hi : L[i]? = some (.held [b] R)) (hg : w.grownBy w' (some b)) (hok : (It.held [b] R').ok w0.heap.size w') : St w0 w' (L.set i (.held [b] R')) :=
 h.upd i hi hg.size hg.os hg.tape hg.output (fun c hc hn => hg.block c hc fun e => hn (by injection e with e; rw [e]; exact List.mem_singleton.2 rfl)) hok (fun c hc => .inl hc) (by simp [It.fp])
theorem _root_.Go.Proofs.YtbnefjhljfbecaaGreatDoor.St.putS (h : St w0 w L) (i : Nat) {S : ByteArray → Bool} (hi : L[i]? = some (smapIt P k e b n S)) (M : MT P t k e .bool) (hn : n < maxLen) {s : ByteArray} (hs : s.size ≤ maxLen) :
  ∃ w', (Instr.mapUpdate t (.map (some b)) (.string s) (.bool true)).run P w = .ok () w' ∧ St w0 w' (L.set i (smapIt P k e b (n + 1) (upd S s true))) := by
 have hb := ((h.at i hi).1 b (List.mem_singleton.2 rfl)).1
 obtain ⟨w', hr, h1, hg⟩ := (h.smap i hi).put M hn hs
 exact ⟨w', hr, upd_st h i hi hg (smap_ok h1 hb)⟩
theorem wp_putS {ops : Array Oper} {rest : List Oper} {o : Oper} {a : Act} {Q : Exit → Act → World → Prop} (hg : o.guard = none) (m x v : Operand) (hop : o.op = Op.mapUpdate t m x v)
  (h : St w0 w L) (i : Nat) {S : ByteArray → Bool} (hi : L[i]? = some (smapIt P k e b n S)) (M : MT P t k e .bool) (hn : n < maxLen) {s : ByteArray} (hs : s.size ≤ maxLen)
  (hm : a.eval m = .map (some b)) (hx : a.eval x = .string s) (hv : a.eval v = .bool true)
  (hK : ∀ w', St w0 w' (L.set i (smapIt P k e b (n + 1) (upd S s true))) → wpList P ops Q rest (a.put o.dst undef) w') : wpList P ops Q (o :: rest) a w := by
 refine wpList_plain hg fun K' hK' => ?_
 obtain ⟨w', hrun, r1⟩ := h.putS i hi M hn hs
 unfold Oper.wp
 simp [execOp, hop, hm, hx, hv, hrun, Result.andThen]
 exact hK' _ _ (hK w' r1)
end
end Mp
end
end Go.Proofs.YtbnefjhljfbecaaGreatDoor
