/- Cartan matrices, the program's side: TypeOf, IsCartan. -/
import Derived.Test.YtcngijafnnmccaaGreatDoorCarU
import Derived.Test.YtcngijafnnmccaaGreatDoorCarX
namespace Go.Proofs.YtcngijafnnmccaaGreatDoor
set_option maxRecDepth 100000
open Go.RowKit
namespace Car

set_option maxHeartbeats 1000000 in
theorem reordered_zero (n : Nat) (D E : List Int) : ReAt n D E 0 := by
  intro used a b u w hl hb ha hbE hu
  have h2 := ((St.start w).box [.int .i64 n, a] 34).box [.int .i64 n, b] 34
  obtain ⟨A0, c0, rfl, _, _, _⟩ := id ha
  obtain ⟨A1, c1, rfl, _, _, _⟩ := id hbE
  obtain ⟨A2, c2, rfl, _, _, _⟩ := id hu
  have hk : (used.map Int.ofNat).length = n := by rw [List.length_map]; omega
  rw [hk]
  obtain ⟨z0, z1⟩ := h2.box2 1 rfl
  show Calls _ _ _ _ fun e w' => e = .returned (.bool true) ∧ Below w.heap.size w w'
  clear ha hbE hu hk hl hb
  go_enter Tryz.func69, Tryz.ntmps69
  go_wp2
  go_ret
  exact ⟨rfl, h2.below⟩
theorem reordered_all (n : Nat) (D E : List Int) (hD : D.length = n * n) (hE : E.length = n * n) (hn1 : 1 ≤ n) (hn : n ≤ 4) : ∀ f, ReAt n D E f
  | 0 => reordered_zero n D E
  | f + 1 => reordered_step n D E hD hE hn1 hn f (reordered_all n D E hD hE hn1 hn f)
theorem typesOf_all : ∀ f, TyAt f
  | 0 => fun _ _ _ h => absurd h (by omega)
  | f + 1 => typesOf_step f (typesOf_all f)

/-- The name of the first type that fits. -/
def firstT (n : Nat) (D : List Int) : List (List Nat) → ByteArray
  | [] => ⟨#[]⟩
  | t :: ts => if bt n D n (due n t) (List.range n) n [] = true then nameT t else firstT n D ts
def typB (r : Int) (D : List Int) : ByteArray := if inR r 1 4 = true ∧ (D.length : Int) = r * r then firstT r.toNat D (tys r.toNat) else ⟨#[]⟩
/-- Is it a Cartan matrix? -/
def carB (r : Int) (D : List Int) : Bool := inR r 1 4 && (decide ((D.length : Int) = r * r) && carI r.toNat D)
theorem firstT_size {n : Nat} (D : List Int) : ∀ ts : List (List Nat), (∀ t, t ∈ ts → 0 < (nameT t).size) → decide (0 < (firstT n D ts).size) = ts.any fun t => bt n D n (due n t) (List.range n) n []
  | [], _ => rfl
  | t :: ts, h => by
    unfold firstT
    rw [List.any_cons]
    cases hb : bt n D n (due n t) (List.range n) n [] with
    | true => rw [if_pos rfl, Bool.true_or, decide_eq_true (h t (by simp))]
    | false => rw [if_neg (by decide), Bool.false_or, firstT_size D ts fun x hx => h x (by simp [hx])]
theorem typB_size (r : Int) (D : List Int) : decide (0 < (typB r D).size) = carB r D := by
  unfold typB carB
  by_cases h : inR r 1 4 = true ∧ (D.length : Int) = r * r
  · rw [if_pos h, h.1, decide_eq_true h.2, Bool.true_and, Bool.true_and]
    have hr := h.1
    simp [inR] at hr
    exact firstT_size D _ fun t ht => (name_ok (by omega) (by omega) ht).2.2.2
  · rw [if_neg h]
    have : (inR r 1 4 && decide ((D.length : Int) = r * r)) = false := by
      cases h1 : inR r 1 4 with
      | false => rfl
      | true => rw [decide_eq_false (fun h2 => h ⟨h1, h2⟩)]; rfl
    rw [← Bool.and_assoc, this]
    rfl
theorem due_len (n : Nat) (t : List Nat) : (due n t).length = n * n := by unfold due; rw [List.length_map, List.length_range]

theorem MaxAt.fact {w : World} (h : MaxAt w) : It.ok w.heap.size w (.fact MaxAt) := fun _ hk => by
  obtain ⟨m, hm⟩ := h
  exact ⟨m, (World.cell?_of_block (hk _ (World.block_lt_of_cell? w _ hm))).trans hm⟩
set_option maxHeartbeats 4000000 in
theorem typeOf_good (n : Nat) (v : Value) (D : List Int) (w : World) (hv : Ints w v D) (hD : D.length = n * n) (h1 : 1 ≤ n) (h4 : n ≤ 4) (hM : MaxAt w) :
    Calls Tryz.prog 47 #[.agg #[.int .i64 n, v]] w fun e w' => e = .returned (.string (firstT n D (tys n))) ∧ Below w.heap.size w w' := by
  obtain ⟨X, hX⟩ : ∃ X, X = firstT n D (tys n) := ⟨_, rfl⟩
  rw [← hX]
  have HX := Lib.hid hX
  obtain ⟨A, c, rfl, _, _, _⟩ := id hv
  have g := ((((St.start w).arg hv).pushOld (MaxAt.fact hM)).box [.int .i64 n, .slice A D.length c] 34)
  have HTy := Lib.hid (fun (W : World) => typesOf_all 5 n 0 W (by omega) h4 (by omega))
  have HNm := Lib.hid (fun t (ht : t ∈ tys n) => And.intro (jn_ok h1 h4 ht).2.2.2.1 (name_ok h1 h4 ht))
  have HCo := Lib.hid (fun t (ht : t ∈ tys n) (W : World) (x : MaxAt W) => CartanOf_any n t W h1 h4 ht x)
  have HRe := Lib.hid (fun t (W : World) (b : Value) (x1 : Ints W (.slice A D.length c) D) (x2 : Ints W b (due n t)) => reordered_all n D (due n t) hD (due_len n t) h1 h4 n [] _ b (.slice none 0 0) W (by simp) (fun x hx => absurd hx (by simp)) x1 x2 ⟨none, 0, rfl, by simp, by simp, fun h => absurd h (by simp)⟩)
  obtain ⟨dl, hdl⟩ : ∃ dl, dl = D.length := ⟨_, rfl⟩
  rw [← hdl] at g HRe ⊢
  have wq : wrap64 ((n : Int) * (n : Int)) = (dl : Int) := by
    have h16 := Nat.mul_le_mul h4 h4
    rw [hdl, hD, Int.natCast_mul]
    rw [← Int.natCast_mul, w64_ok (by omega) (by omega)]
  have hin : inR (n : Int) 1 4 = true := by simp [inR]; omega
  have Hdl := Lib.hid hdl
  obtain ⟨z0, z1⟩ := g.box2 0 rfl
  clear hX hv hM hD hdl
  go_enter Tryz.func47, Tryz.ntmps47
  go_wp2_with (go_at_call 40; refine (inside_any _ _ _ _).mono ?_; rintro e w' ⟨rfl, rfl⟩)
  refine (HTy.out _).mono ?_
  rintro (e : Ending) w3 ⟨vr, rfl, hS, hb3⟩
  have hLL : tyB 5 n 0 = (tys n).map (List.map nmB) := rfl
  rw [hLL] at hS
  obtain ⟨m, hm⟩ : ∃ m, m = (tys n).length := ⟨_, rfl⟩
  obtain ⟨A7, c7, rfl⟩ := SSAt.val hS
  rw [List.length_map, ← hm] at hS ⊢
  have hm100 : m ≤ 100 := by rw [hm]; exact few (by omega) h4
  have Hm := Lib.hid hm
  have g2 := g.hold hb3 (fun W => SSAt W _ w3.heap.size (.slice A7 m c7) ((tys n).map (List.map nmB))) (fun W hk => hS.keep hk)
  obtain ⟨bs, hbs⟩ : ∃ bs, bs = List.range' (w.alloc (.cells #[.int .i64 n, .slice A dl c] 34)).heap.size (w3.heap.size - (w.alloc (.cells #[.int .i64 n, .slice A dl c] 34)).heap.size) := ⟨_, rfl⟩
  obtain ⟨lo, hlo⟩ : ∃ lo, lo = (w.alloc (.cells #[.int .i64 n, .slice A dl c] 34)).heap.size := ⟨_, rfl⟩
  obtain ⟨hi, hhi⟩ : ∃ hi, hi = w3.heap.size := ⟨_, rfl⟩
  have g3 : St w w3 [.held bs (fun W => SSAt W lo hi (.slice A7 m c7) ((tys n).map (List.map nmB))), .box w.heap.size [.int .i64 n, .slice A dl c], .fact MaxAt, .ro (.slice A dl c) D] := by rw [hbs, hlo, hhi]; exact g2
  clear g g2 hS hb3 hLL hm hbs hlo hhi z0 z1 HTy wq hin
  have HX0 : Hid (X = firstT n D ((tys n).drop 0)) := HX
  clear HX
  go_wp2
  go_loopw [27] (fun v27 wr => ∃ j : Nat, v27 = .int .i64 j ∧ j ≤ m ∧ Hid (X = firstT n D ((tys n).drop j)) ∧ St w wr [.held bs (fun W => SSAt W lo hi (.slice A7 m c7) ((tys n).map (List.map nmB))), .box w.heap.size [.int .i64 n, .slice A dl c], .fact MaxAt, .ro (.slice A dl c) D]) (fun v27 _ => m - (intOf v27).toNat)
  case atStart => exact ⟨0, rfl, by omega, HX0, g3⟩
  case round =>
    clear g3 HX0
    obtain ⟨j, rfl, a1, HX, g⟩ := hrel
    by_cases hj : j < m
    · have hjt : j < (tys n).length := by rw [← Hm.out]; exact hj
      have hrow : ((tys n).map (List.map nmB))[j]? = some ((tys n)[j].map nmB) := by rw [List.getElem?_map, List.getElem?_eq_getElem hjt]; rfl
      obtain ⟨br, orr, ur, rfl, xr, hur⟩ := SSAt.row (g.heldR 0 rfl) hrow
      have htm := List.getElem_mem hjt
      have hXs := HX.out
      rw [List.drop_eq_getElem_cons hjt] at hXs
      obtain ⟨t, ht⟩ : ∃ t, t = (tys n)[j] := ⟨_, rfl⟩
      rw [← ht] at hur htm hXs
      obtain ⟨nk0, nk1, nk2, nk3, nk4⟩ := HNm.out t htm
      obtain ⟨Ar, cr, rfl, hcr, hrd⟩ := StrsAt.top hur
      obtain ⟨tl, htl⟩ : ∃ tl, tl = (t.map nmB).length := ⟨_, rfl⟩
      have htl1 : 0 < tl := by rw [htl, List.length_map]; omega
      obtain ⟨bq, oq, rfl, _, hbq, hcell⟩ := hrd (by rw [← htl]; exact htl1)
      have hJn : Lib.join ((t.map nmB).map (·.data.toList)) [43] = (nameT t).data.toList := by
        rw [List.map_map]; rfl
      have HJn := Lib.hid (show Calls Tryz.prog 67 #[.slice (some ⟨bq, oq, none⟩) tl cr, .string ⟨#[43]⟩] wr fun e w' => e = .returned (.string (nameT t)) ∧ Below wr.heap.size wr w' by
        rw [htl]
        refine (join_any bq oq cr (t.map nmB) wr hcell hbq (by rw [List.length_map]; omega) hcr (by rw [hJn]; show (nameT t).data.toList.length ≤ _; rw [Array.length_toList]; show (nameT t).size ≤ _; omega)).mono fun e w' ⟨h1, h2⟩ => ⟨h1.trans ?_, h2⟩
        rw [hJn])
      rw [← htl] at xr
      have HCo1 := Lib.hid (fun W x => HCo.out t htm W x)
      have HRe1 := Lib.hid (fun W b x1 x2 => HRe.out t W b x1 x2)
      obtain ⟨nm, hnm⟩ : ∃ nm, nm = nameT t := ⟨_, rfl⟩
      obtain ⟨bb, hbb⟩ : ∃ bb, bb = bt n D n (due n t) (List.range n) n [] := ⟨_, rfl⟩
      have hXb : X = if bb = true then nm else firstT n D ((tys n).drop (j + 1)) := by rw [hXs, hbb, hnm]; rfl
      rw [← hnm] at HJn HCo1
      rw [← hbb] at HRe1
      have HXb := Lib.hid hXb
      have ij : (j : Int) < (m : Int) := by omega
      clear hrow htm hXs ht nk0 nk1 nk2 nk3 nk4 hur hcr hrd hcell hJn htl hnm hbb hXb HX hbq
      go_wp2_with fail
      refine HJn.out.mono ?_
      rintro (e : Ending) w4 ⟨rfl, hb4⟩
      have g4 := g.on hb4
      clear g hb4 xr
      go_wp2_with fail
      refine (HCo1.out _ (g4.fact 2 rfl)).mono ?_
      rintro (e : Ending) w5 ⟨u, rfl, ho, hb5⟩
      obtain ⟨Au, nu, cu, rfl⟩ := ho.slice
      have g5 := (g4.pushOwn hb5 ho).box [.int .i64 n, .slice Au nu cu] 34
      obtain ⟨p0, p1⟩ := g5.box2 0 rfl
      obtain ⟨q0, q1⟩ := g5.box2 3 rfl
      have hi1 := g5.roInts 5 rfl
      have hi2 := g5.ownInts 1 rfl
      clear g4 ho hb5
      go_wp2_with fail
      refine (HRe1.out _ _ hi1 hi2).mono ?_
      rintro (e : Ending) w6 ⟨rfl, hb6⟩
      have g6 := (g5.on hb6).drop 2
      simp only [List.drop_succ_cons, List.drop_zero] at g6
      clear g5 p0 p1 q0 q1 hi1 hi2 hb6
      cases bb with
      | true =>
        have HXt := Lib.hid (show X = nm by rw [HXb.out, if_pos rfl])
        go_wp2
        go_ret
        exact ⟨by rw [HXt.out]; rfl, g6.below⟩
      | false =>
        have HXf := Lib.hid (show X = firstT n D ((tys n).drop (j + 1)) by rw [HXb.out, if_neg (by decide)])
        go_wp2
        go_roundw
        case rel => exact ⟨j + 1, by go_num, by omega, HXf, g6⟩
        case measure => simp [intOf]; omega
    · obtain rfl : m = j := by omega
      have HXe := Lib.hid (show X = ⟨#[]⟩ by rw [HX.out, List.drop_eq_nil_of_le (by rw [← Hm.out]; exact Nat.le_refl _)]; rfl)
      go_wp2
      go_ret
      exact ⟨by rw [HXe.out]; rfl, g.below⟩
set_option maxHeartbeats 1000000 in
theorem TypeOf_any (r : Int) (v : Value) (D : List Int) (w : World) (hv : Ints w v D) (hM : MaxAt w) (hr : -9223372036854775808 ≤ r ∧ r ≤ 9223372036854775807) :
    Calls Tryz.prog 47 #[.agg #[.int .i64 r, v]] w fun e w' => e = .returned (.string (typB r D)) ∧ Below w.heap.size w w' := by
  by_cases hin : inR r 1 4 = true
  · have hr2 := hin
    simp [inR] at hr2
    by_cases hD : (D.length : Int) = r * r
    · obtain ⟨n, rfl⟩ : ∃ n : Nat, r = n := ⟨r.toNat, by omega⟩
      have e : typB (n : Int) D = firstT n D (tys n) := by unfold typB; rw [if_pos ⟨hin, hD⟩]; rfl
      rw [e]
      rw [← Int.natCast_mul] at hD
      exact typeOf_good n v D w hv (by omega) (by omega) (by omega) hM
    · have e : typB r D = ⟨#[]⟩ := by unfold typB; rw [if_neg (fun h => hD h.2)]
      rw [e]
      have h16 : r * r ≤ 16 := by
        have h9 := Int.mul_le_mul (a := r) (b := r) (c := 4) (d := 4) (by omega) (by omega) (by omega) (by omega)
        omega
      have h0 : 0 ≤ r * r := Int.mul_nonneg (by omega) (by omega)
      have g := (St.start w).box [.int .i64 r, v] 34
      obtain ⟨A, c, rfl, _, _, _⟩ := id hv
      obtain ⟨dl, hdl⟩ : ∃ dl, dl = D.length := ⟨_, rfl⟩
      obtain ⟨rr, hrr⟩ : ∃ rr, rr = r * r := ⟨_, rfl⟩
      have wq : wrap64 (r * r) = rr := by rw [← hrr, w64_ok (by omega) (by omega)]
      rw [← hdl, ← hrr] at hD
      rw [← hdl] at g ⊢
      obtain ⟨z0, z1⟩ := g.box2 0 rfl
      have hne : ((dl : Int) != rr) = true := by simpa using hD
      clear hv hM hdl hrr e h16 h0 hr2 hr hD
      go_enter Tryz.func47, Tryz.ntmps47
      go_wp2_with (go_at_call 40; refine (inside_any _ _ _ _).mono ?_; rintro e w' ⟨rfl, rfl⟩)
      go_ret
      exact ⟨rfl, g.below⟩
  · have e : typB r D = ⟨#[]⟩ := by unfold typB; rw [if_neg (fun h => hin h.1)]
    rw [e]
    have g := (St.start w).box [.int .i64 r, v] 34
    obtain ⟨A, c, rfl, _, _, _⟩ := id hv
    obtain ⟨dl, hdl⟩ : ∃ dl, dl = D.length := ⟨_, rfl⟩
    rw [← hdl] at g ⊢
    obtain ⟨z0, z1⟩ := g.box2 0 rfl
    have hin2 : inR r 1 4 = false := by simpa using hin
    clear hv hM hdl hin e hr
    go_enter Tryz.func47, Tryz.ntmps47
    go_wp2_with (go_at_call 40; refine (inside_any _ _ _ _).mono ?_; rintro e w' ⟨rfl, rfl⟩)
    go_ret
    exact ⟨rfl, g.below⟩
theorem size_toList (s : ByteArray) : (s.toList == []) = !decide (0 < s.size) := by
  rw [Lib.toList_data]
  obtain ⟨⟨l⟩⟩ := s
  cases l with
  | nil => rfl
  | cons x l => simp [ByteArray.size]
set_option maxHeartbeats 1000000 in
theorem IsCartanI_any (r : Int) (v : Value) (D : List Int) (w : World) (hv : Ints w v D) (hM : MaxAt w) (hr : -9223372036854775808 ≤ r ∧ r ≤ 9223372036854775807) :
    Calls Tryz.prog 27 #[.agg #[.int .i64 r, v]] w fun e w' => e = .returned (.bool (carB r D)) ∧ Below w.heap.size w w' := by
  have hx : Ints (w.alloc (.cells #[.int .i64 r, v] 34)) v D := hv.below ((Below.refl _ _).alloc (Nat.le_refl _) _)
  have hT := Lib.hid (TypeOf_any r v D _ hx (MaxAt.below hM ((Below.refl w.heap.size w).alloc (Nat.le_refl _) (.cells #[.int .i64 r, v] 34))) hr)
  have hs := typB_size r D
  have hl := size_toList (typB r D)
  rw [hs] at hl
  have g := (St.start w).box [.int .i64 r, v] 34
  obtain ⟨A, c, rfl, _, _, _⟩ := id hv
  obtain ⟨dl, hdl⟩ : ∃ dl, dl = D.length := ⟨_, rfl⟩
  obtain ⟨T, hTT⟩ : ∃ T, T = typB r D := ⟨_, rfl⟩
  obtain ⟨cb, hcb⟩ : ∃ cb, cb = carB r D := ⟨_, rfl⟩
  rw [← hTT] at hT hl
  rw [← hcb] at hl ⊢
  rw [← hdl] at g hT ⊢
  obtain ⟨z0, z1⟩ := g.box2 0 rfl
  clear hv hM hx hs hdl hTT hcb hr
  go_enter Tryz.func27, Tryz.ntmps27
  go_wp2_with fail
  refine hT.out.mono ?_
  rintro (e : Ending) w3 ⟨rfl, hb⟩
  have hb2 := (g.on hb).below
  cases cb with
  | true =>
    go_wp2
    go_ret
    exact ⟨rfl, hb2⟩
  | false =>
    go_wp2
    go_ret
    exact ⟨rfl, hb2⟩

end Car
end Go.Proofs.YtcngijafnnmccaaGreatDoor
