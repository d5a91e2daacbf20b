import Derived.Test.YtbnefjhljfbecaaGreatDoorW04
import Derived.Test.YtbnefjhljfbecaaGreatDoorW11
namespace Go.Proofs.YtbnefjhljfbecaaGreatDoor
set_option maxRecDepth 100000
open Go.RowKit
namespace Car
def names : List ByteArray := [⟨#[65, 49]⟩, ⟨#[65, 50]⟩, ⟨#[65, 51]⟩, ⟨#[65, 52]⟩, ⟨#[66, 50]⟩, ⟨#[66, 51]⟩, ⟨#[66, 52]⟩, ⟨#[67, 51]⟩, ⟨#[67, 52]⟩, ⟨#[68, 52]⟩, ⟨#[70, 52]⟩, ⟨#[71, 50]⟩]
def nmB (k : Nat) : ByteArray := names.getD k ⟨#[]⟩
theorem nm_size {k : Nat} (h : k < 12) : (nmB k).size = 2 := by
 have hd : ((List.range 12).all fun k => (nmB k).size == 2) = true := by decide +kernel
 have := List.all_eq_true.1 hd k (List.mem_range.2 h)
 simpa using this
theorem nm_byte {k : Nat} (h : k < 12) : (nmB k).data[1]? = some (UInt8.ofNat (48 + rk k)) := by
 have hd : ((List.range 12).all fun k => (nmB k).data[1]? == some (UInt8.ofNat (48 + rk k))) = true := by decide +kernel
 have := List.all_eq_true.1 hd k (List.mem_range.2 h)
 simpa using this
theorem nm_index {k : Nat} (h : k < 12) (W : World) : (Instr.index 9 (.string (nmB k)) (.int .i64 1)).run Tryz.prog W = .ok (.int .u8 (48 + (rk k : Int))) W := by
 have hs := nm_size h
 have hr := rk_pos h
 rw [run_index_string W 9 (nmB k) .i64 1 Tryz.underlying9, dif_pos (by omega)]
 have h1 := nm_byte h
 have h2 : 1 < (nmB k).data.size := by show 1 < (nmB k).size; omega
 rw [Array.getElem?_eq_getElem h2] at h1
 have e : (nmB k)[(1 : Int).toNat]'(by show 1 < (nmB k).size; omega) = (nmB k).data[1] := rfl
 rw [e, Option.some.inj h1]
 congr 2
 have : (UInt8.ofNat (48 + rk k)).toNat = 48 + rk k := by
  rw [UInt8.toNat_ofNat']
  exact Nat.mod_eq_of_lt (by omega)
 rw [this]; omega
theorem u8_ok {n : Nat} (h : n < 256) : IntKind.u8.wrap (n : Int) = (n : Int) := by
 have : n < 256 := h
 unfold IntKind.wrap
 simp [IntKind.bits, IntKind.signed]
 omega
def NamesAt (W : World) (B : Nat) : Prop := ∀ k, k < 12 → W.cell? ⟨B, k, none⟩ = some (.string (nmB k))
set_option maxHeartbeats 1000000 in
theorem partNames_any (w : World) : Calls Tryz.prog 121 #[] w fun e w' => ∃ B, e = .returned (.slice (some ⟨B, 0, none⟩) 12 12) ∧ NamesAt w' B ∧ Below w.heap.size w w' := by
 go_enter Tryz.func121, Tryz.ntmps121
 go_wp2
 go_ret
 refine ⟨w.heap.size, rfl, fun k hk => ?_, (Below.refl _ _).alloc (Nat.le_refl _) _⟩
 rw [World.cell?_alloc_new]
 have : k = 0 ∨ k = 1 ∨ k = 2 ∨ k = 3 ∨ k = 4 ∨ k = 5 ∨ k = 6 ∨ k = 7 ∨ k = 8 ∨ k = 9 ∨ k = 10 ∨ k = 11 := by omega
 rcases this with rfl | rfl | rfl | rfl | rfl | rfl | rfl | rfl | rfl | rfl | rfl | rfl <;> rfl
def tyR (f r _from_ i : Nat) : List (List Nat) := (List.range' i (12 - i)).flatMap fun k => if rk k ≤ r then (tyL f (r - rk k) k).map (fun t => k :: t) else []
theorem tyL_R (f r i : Nat) : tyL (f + 1) (r + 1) i = tyR f (r + 1) i i := rfl
theorem tyR_step (f r i : Nat) (h : i < 12) : tyR f r i i = (if rk i ≤ r then (tyL f (r - rk i) i).map (fun t => i :: t) else []) ++ tyR f r (i + 1) (i + 1) := by
 unfold tyR
 obtain ⟨d, hd⟩ : ∃ d, 12 - i = d + 1 := ⟨12 - i - 1, by omega⟩
 rw [hd, show 12 - (i + 1) = d from by omega]
 rfl
theorem tyR_end (f r i : Nat) (h : 12 ≤ i) : tyR f r i i = [] := by
 unfold tyR
 rw [show 12 - i = 0 from by omega]
 rfl
def tyB (f r i : Nat) : List (List ByteArray) := (tyL f r i).map (List.map nmB)
def Rd (W : World) (lo : Nat) (us : List Value) (ll : List (List ByteArray)) : Prop := us.length = ll.length ∧ ∀ (j : Nat) (u : Value) (l : List ByteArray), us[j]? = some u → ll[j]? = some l → ∃ hi, StrsAt W lo hi u l
theorem StrsAt.top {W : World} {lo hi : Nat} {v : Value} {l : List ByteArray} (h : StrsAt W lo hi v l) : StrsAt W lo W.heap.size v l := by
 obtain ⟨A, c, e, h1, h2⟩ := h
 refine ⟨A, c, e, h1, fun h0 => ?_⟩
 obtain ⟨b, o, eA, h3, h4, h5⟩ := h2 h0
 refine ⟨b, o, eA, h3, ?_, h5⟩
 exact World.block_lt_of_cell? W _ (h5 0 l[0] (List.getElem?_eq_getElem h0))
theorem ss_of_rd {w0 w : World} {L : List It} {v : Value} {us : List Value} {ll : List (List ByteArray)} (h : St w0 w L) (i : Nat) (hi : L[i]? = some (.vec v 65 1 us.length us [])) (hR : Rd w w0.heap.size us ll) : SSAt w w0.heap.size w.heap.size v ll := by
 obtain ⟨h1, _⟩ := h.vec i hi
 obtain ⟨e, hr⟩ := hR
 rw [e] at h1
 rcases id h1.2 with ⟨rfl, h0⟩ | ⟨g, cap, cur, rfl, hb, hg, hn, hm, _⟩
 ·obtain rfl : ll = [] := List.eq_nil_of_length_eq_zero h0
  exact ⟨none, 0, rfl, by simp, fun h => absurd h (by simp)⟩
 ·refine ⟨_, cap, rfl, hn, fun _ => ⟨g, 0, rfl, hb, (World.ownsRow.lt h1 g rfl).2, fun j l hl => ?_⟩⟩
  have hj := (List.getElem?_eq_some_iff.1 hl).1
  have hu : us[j]? = some us[j] := List.getElem?_eq_getElem (by omega)
  obtain ⟨hi', h9⟩ := hr j us[j] l hu hl
  refine ⟨us[j], ?_, StrsAt.top h9⟩
  rw [Nat.zero_add]
  exact (World.ownsRow.cellAt h1 j (by omega)).trans hu
def RetSS (w : World) (ll : List (List ByteArray)) (e : Ending) (w' : World) : Prop := ∃ v, e = .returned v ∧ SSAt w' w.heap.size w'.heap.size v ll ∧ Below w.heap.size w w'
theorem infoSS : (Tryz.prog.info? 65).map (fun i => (i.zero, i.size, i.bytes)) = some (some (.slice none 0 0), 1, 24) := by kernel_rfl
theorem emptySS {w0 w : World} {L : List It} (h : St w0 w L) : St w0 (w.alloc (.cells #[] 65)) (.vec (.slice (some ⟨w.heap.size, 0, none⟩) 0 0) 65 1 ([] : List Value).length [] [] :: L) :=
 h.push (x := .vec (.slice (some ⟨w.heap.size, 0, none⟩) 0 0) 65 1 0 [] []) ((Below.refl _ _).alloc (Nat.le_refl _) _) ⟨World.ownsRow_lit (base := w0.heap.size) (e := 65) (size := 1) w #[] 0 h.size (by simp) rfl, fun s hs => by cases hs⟩ (fun b hb => by simp [It.fp, Value.ownBlock] at hb; omega) (by simp [It.fp, Value.ownBlock])
theorem heldNil {w0 w : World} {L : List It} (h : St w0 w L) (lo : Nat) : St w0 w (.held [] (fun W => Rd W lo [] []) :: L) :=
 h.push (x := .held [] (fun W => Rd W lo [] [])) (Below.refl _ _) ⟨fun b hb => absurd hb List.not_mem_nil, fun _ _ => ⟨rfl, fun j u l hu => by rw [List.getElem?_nil] at hu; cases hu⟩⟩ (fun b hb => absurd hb List.not_mem_nil) List.nodup_nil
theorem St.heldTo {w0 w : World} {L : List It} {bs : List Nat} {R R' : World → Prop} (h : St w0 w (.held bs R :: L)) (hR : ∀ W, R W → R' W) : St w0 w (.held bs R' :: L) := by
 have := h.upd 0 (x := .held bs R) (x' := .held bs R') rfl (Nat.le_refl _) rfl rfl rfl (fun b _ _ => rfl) ⟨(h.at 0 (show (It.held bs R :: L)[0]? = some (.held bs R) from rfl) : It.ok _ _ (.held bs R)).1, fun w' hw => hR w' ((h.at 0 (show (It.held bs R :: L)[0]? = some (.held bs R) from rfl) : It.ok _ _ (.held bs R)).2 w' hw)⟩ (fun b hb => .inl hb) (h.nodup (.held bs R) List.mem_cons_self)
 exact this
theorem rd_snoc {W : World} {lo hi : Nat} {us : List Value} {ll : List (List ByteArray)} {u : Value} {l : List ByteArray} (h : Rd W lo us ll) (hu : StrsAt W lo hi u l) : Rd W lo (us ++ [u]) (ll ++ [l]) := by
 refine ⟨by rw [List.length_append, List.length_append, h.1]; rfl, fun j x y hx hy => ?_⟩
 by_cases hj : j < us.length
 ·rw [List.getElem?_append_left hj] at hx
  rw [List.getElem?_append_left (by have := h.1; omega)] at hy
  exact h.2 j x y hx hy
 ·rw [List.getElem?_append_right (by omega)] at hx
  rw [List.getElem?_append_right (by have := h.1; omega)] at hy
  have h1 : j - us.length < 1 := (List.getElem?_eq_some_iff.1 hx).1
  rw [show j - us.length = 0 by omega] at hx
  rw [show j - ll.length = 0 by have := h.1; omega] at hy
  obtain rfl : u = x := Option.some.inj hx
  obtain rfl : l = y := Option.some.inj hy
  exact ⟨hi, hu⟩
theorem SSAt.row {W : World} {lo hi m c : Nat} {A : Option Addr} {ll : List (List ByteArray)} (h : SSAt W lo hi (.slice A m c) ll) {j : Nat} {l : List ByteArray} (hl : ll[j]? = some l) : ∃ b o u, A = some ⟨b, o, none⟩ ∧ W.cell? ⟨b, o + j, none⟩ = some u ∧ StrsAt W lo hi u l := by
 obtain ⟨A', c', e, _, h2⟩ := h
 simp only [Value.slice.injEq] at e
 have hj := (List.getElem?_eq_some_iff.1 hl).1
 obtain ⟨b, o, e2, _, _, h3⟩ := h2 (by omega)
 obtain ⟨u, h4, h5⟩ := h3 j l hl
 exact ⟨b, o, u, e.1.trans e2, h4, h5⟩
theorem SSAt.val {W : World} {lo hi : Nat} {v : Value} {ll : List (List ByteArray)} (h : SSAt W lo hi v ll) : ∃ A c, v = .slice A ll.length c := by
 obtain ⟨A', c', e, _⟩ := h
 exact ⟨A', c', e⟩
theorem tyL_short : ∀ (f r i : Nat) (t : List Nat), t ∈ tyL f r i → r ≤ 4 → t.length ≤ r := by
 intro f
 induction f with
 | zero => intro r i t h; simp [tyL] at h
 | succ f ih =>
  intro r i t h h4
  cases r with
  | zero =>
   have : t ∈ [([] : List Nat)] := h
   rw [List.mem_singleton.1 this]; simp
  | succ r =>
   rw [tyL_R] at h
   obtain ⟨k, hk, h⟩ := List.mem_flatMap.1 h
   have hk12 : k < 12 := by
    obtain ⟨d, hd, e⟩ := List.mem_range'.1 hk
    omega
   have := rk_pos hk12
   split at h
   ·obtain ⟨t', ht, rfl⟩ := List.mem_map.1 h
    have := ih _ _ _ ht (by omega)
    rw [List.length_cons]; omega
   ·simp at h
theorem St.drop2 {w0 w : World} {x y z : It} (h : St w0 w [x, y, z]) : St w0 w [x, y] := (h.toFront 2 rfl).drop 1
def fewOk : Bool := (List.range 6).all fun f => (List.range 5).all fun r => (List.range 12).all fun i => decide ((tyL f r i).length ≤ 100)
theorem few {f r i : Nat} (h1 : f ≤ 5) (h2 : r ≤ 4) : (tyL f r i).length ≤ 100 := by
 by_cases hi : i < 12
 ·have hd : fewOk = true := by decide +kernel
  exact of_decide_eq_true (List.all_eq_true.1 (List.all_eq_true.1 (List.all_eq_true.1 hd f (List.mem_range.2 (by omega))) r (List.mem_range.2 (by omega))) i (List.mem_range.2 hi))
 ·cases f with
  | zero => simp [tyL]
  | succ f =>
   cases r with
   | zero => simp [tyL]
   | succ r =>
    rw [tyL_R, tyR_end _ _ _ (by omega)]; simp
def TyAt (f : Nat) : Prop := ∀ (r i : Nat) (w : World), r < f → r ≤ 4 → f ≤ 5 → Calls Tryz.prog 94 #[.int .i64 r, .int .i64 i] w (RetSS w (tyB f r i))
set_option maxHeartbeats 4000000 in
theorem typesOf_step (f : Nat) (ih : TyAt f) : TyAt (f + 1) := by
 intro r i0 w hf hr4 hf5
 cases r with
 | zero =>
  have hy : tyB (f + 1) 0 i0 = [[]] := rfl
  rw [hy]
  clear ih
  go_enter Tryz.func94, Tryz.ntmps94
  go_wp2
  go_ret
  refine ⟨_, rfl, ⟨_, _, rfl, by simp, fun _ => ⟨w.heap.size, 0, rfl, Nat.le_refl _, by rw [World.size_alloc]; omega, fun j l hl => ?_⟩⟩, (Below.refl _ _).alloc (Nat.le_refl _) _⟩
  have hj : j < 1 := (List.getElem?_eq_some_iff.1 hl).1
  obtain rfl : j = 0 := by omega
  obtain rfl : ([] : List ByteArray) = l := Option.some.inj hl
  exact ⟨.slice none 0 0, by rw [World.cell?_alloc_new]; rfl, StrsAt.nil _ _ _⟩
 | succ r =>
  have hXl : (tyL (f + 1) (r + 1) i0).length ≤ 100 := few hf5 hr4
  have hy : tyB (f + 1) (r + 1) i0 = (tyR f (r + 1) i0 i0).map (List.map nmB) := by unfold tyB; rw [tyL_R]
  rw [hy]
  rw [tyL_R] at hXl
  obtain ⟨X, hX⟩ : ∃ X, X = tyR f (r + 1) i0 i0 := ⟨_, rfl⟩
  rw [← hX] at hXl ⊢
  obtain ⟨R0, hR0⟩ : ∃ R0, R0 = r + 1 := ⟨_, rfl⟩
  rw [← hR0] at hX ⊢
  have HX := Lib.hid hX
  have HIh := Lib.hid (fun (q i : Nat) (W : World) (h : q < f) => ih q i W h (by omega) (by omega))
  have hR1 : 1 ≤ R0 := by omega
  have hR4 : R0 ≤ 4 := by omega
  have hRf : R0 ≤ f := by omega
  have hR00 : ((R0 : Int) == 0) = false := by rw [beq_eq_false_iff_ne]; omega
  have h2 := heldNil (emptySS (St.start w)) w.heap.size
  clear ih hX hy hR0 hf hr4 hf5
  go_enter Tryz.func94, Tryz.ntmps94
  go_wp2
  go_loopw [5, 6] (fun v5 v6 wr => ∃ (i : Nat) (us : List Value) (dn : List (List Nat)) (bs : List Nat), v6 = .int .i64 i ∧ St w wr [.held bs (fun W => Rd W w.heap.size us (dn.map (List.map nmB))), .vec v5 65 1 us.length us []] ∧ Hid (X = dn ++ tyR f R0 i i)) (fun _ v6 _ => 12 - (intOf v6).toNat)
  case atStart => exact ⟨i0, [], [], [], rfl, h2, HX⟩
  case round =>
   clear h2 HX
   obtain ⟨i, us, dn, bs, rfl, g, HX⟩ := hrel
   go_wp2_with fail
   refine (partNames_any _).mono ?_
   rintro (e : Ending) w3 ⟨B3, rfl, hN3, hb3⟩
   have g3 := g.on hb3
   clear g hb3 hN3
   by_cases hi : i < 12
   ·go_wp2_with fail
    refine (partNames_any _).mono ?_
    rintro (e : Ending) w4 ⟨B4, rfl, hN4, hb4⟩
    have g4 := g3.on hb4
    have x4 := hN4 i hi
    have hix := nm_index hi
    have hn14 := rk_pos hi
    have HXs := Lib.hid (HX.out.trans (congrArg (dn ++ ·) (tyR_step f R0 i hi)))
    have hRec := fun (q : Nat) (W : World) (h : q < f) => HIh.out q i W h
    obtain ⟨nm, hnm⟩ : ∃ nm, nm = nmB i := ⟨_, rfl⟩
    obtain ⟨n, hn⟩ : ∃ n, n = rk i := ⟨_, rfl⟩
    rw [← hnm] at x4 hix
    rw [← hn] at hix HXs hn14
    have Hnm := Lib.hid hnm
    have HRec := Lib.hid hRec
    have wu : IntKind.u8.wrap (48 + (n : Int) - 48) = (n : Int) := by rw [show (48 + (n : Int) - 48) = n by omega]; exact u8_ok (by omega)
    have ii : (i : Int) < 12 := by omega
    clear g3 hb4 hN4 hnm hn hRec HX
    by_cases hnr : n ≤ R0
    ·obtain ⟨q, hq⟩ : ∃ q : Nat, q = R0 - n := ⟨_, rfl⟩
     have w1 : (R0 : Int) - (n : Int) = (q : Int) := by omega
     have hqf : q < f := by omega
     rw [if_pos hnr, ← hq] at HXs
     have hnr' : ¬ ((n : Int) > (R0 : Int)) := by omega
     clear hq
     go_wp2_with fail
     refine (HRec.out q _ hqf).mono ?_
     rintro (e : Ending) w5 ⟨vr, rfl, hS5, hb5⟩
     obtain ⟨T, hT⟩ : ∃ T, T = tyL f q i := ⟨_, rfl⟩
     have hLL : tyB f q i = T.map (List.map nmB) := by rw [hT]; rfl
     have HT5 := Lib.hid (show ∀ t ∈ T, t.length ≤ 4 by rw [hT]; exact fun t ht => Nat.le_trans (tyL_short f q i t ht (by omega)) (by omega))
     rw [← hT] at HXs
     rw [hLL] at hS5
     obtain ⟨A7, c7, rfl⟩ := SSAt.val hS5
     rw [List.length_map] at hS5
     have hTl : T.length ≤ 100 := by
      have := congrArg List.length HXs.out
      rw [List.length_append, List.length_append, List.length_map] at this
      omega
     obtain ⟨m, hm⟩ : ∃ m, m = T.length := ⟨_, rfl⟩
     rw [← hm] at hS5 hTl
     rw [List.length_map, ← hm]
     have g5 := g4.hold hb5 (fun W => SSAt W w4.heap.size w5.heap.size (.slice A7 m c7) (T.map (List.map nmB))) (fun W hk => hS5.keep hk)
     obtain ⟨bs5, hbs5⟩ : ∃ bs5, bs5 = List.range' w4.heap.size (w5.heap.size - w4.heap.size) := ⟨_, rfl⟩
     rw [← hbs5] at g5
     obtain ⟨lo5, hlo5⟩ : ∃ lo5, lo5 = w4.heap.size := ⟨_, rfl⟩
     obtain ⟨hi5, hhi5⟩ : ∃ hi5, hi5 = w5.heap.size := ⟨_, rfl⟩
     rw [← hlo5, ← hhi5] at g5
     have g6 := (g5.toFront 1 rfl).toFront 2 rfl
     simp only [List.eraseIdx_cons_succ, List.eraseIdx_cons_zero] at g6
     have Hm := Lib.hid hm
     have g7 : St w w5 [.held bs (fun W => Rd W w.heap.size us ((dn ++ (T.take 0).map (fun t => i :: t)).map (List.map nmB))), .vec u5 65 1 us.length us [], .held bs5 (fun W => SSAt W lo5 hi5 (.slice A7 m c7) (T.map (List.map nmB)))] := by
      rw [List.take_zero, List.map_nil, List.append_nil]
      exact g6.toFront 1 rfl
     clear g4 g5 g6 hS5 hb5 hT hLL hm hbs5 hlo5 hhi5 hix
     go_wp2
     go_loopw [5, 10, 39] (fun v5 _ v39 wr => ∃ (j : Nat) (us : List Value) (bs : List Nat), v39 = .int .i64 j ∧ j ≤ m ∧ St w wr [.held bs (fun W => Rd W w.heap.size us ((dn ++ (T.take j).map (fun t => i :: t)).map (List.map nmB))), .vec v5 65 1 us.length us [], .held bs5 (fun W => SSAt W lo5 hi5 (.slice A7 m c7) (T.map (List.map nmB)))]) (fun _ _ v39 _ => m - (intOf v39).toNat)
     case atStart => exact ⟨0, us, bs, rfl, by omega, g7⟩
     case round =>
      clear g7
      obtain ⟨j, us, bs, rfl, a1, g⟩ := hrel
      by_cases hj : j < m
      ·have hjT : j < T.length := by rw [← Hm.out]; exact hj
       have hrow : (T.map (List.map nmB))[j]? = some (T[j].map nmB) := by rw [List.getElem?_map, List.getElem?_eq_getElem hjT]; rfl
       obtain ⟨br, orr, ur, rfl, xr, hur⟩ := SSAt.row (g.heldR 2 rfl) hrow
       have HTk := Lib.hid (show (dn ++ (T.take (j + 1)).map (fun t => i :: t)).map (List.map nmB) = (dn ++ (T.take j).map (fun t => i :: t)).map (List.map nmB) ++ [[nm] ++ T[j].map nmB] by
        rw [List.take_succ_eq_append_getElem hjT, Hnm.out]
        simp only [List.map_append, List.map_cons, List.map_nil, List.append_assoc, List.cons_append, List.nil_append])
       obtain ⟨l2, hl2⟩ : ∃ l2, l2 = T[j].map nmB := ⟨_, rfl⟩
       rw [← hl2] at hur HTk
       obtain ⟨P, hP⟩ : ∃ P, P = (dn ++ (T.take j).map (fun t => i :: t)).map (List.map nmB) := ⟨_, rfl⟩
       rw [← hP] at g HTk
       have hRd := g.heldR 0 rfl
       have Hul := Lib.hid (show us.length ≤ 100 by
        rw [hRd.1, hP, List.length_map, List.length_append, List.length_map, List.length_take]
        have := congrArg List.length HXs.out
        rw [List.length_append, List.length_append, List.length_map] at this
        omega)
       have Hl2 := Lib.hid (show ([nm] : List ByteArray).length + l2.length ≤ 8796093022208 by
        rw [hl2, List.length_map]
        have := HT5.out _ (List.getElem_mem hjT)
        simp only [List.length_cons, List.length_nil]
        omega)
       have ij : (j : Int) < (m : Int) := by omega
       clear hl2 hP hRd hrow
       have hur2 : StrsAt (wr.alloc (.cells #[.string nm] 9)) lo5 wr.heap.size ur l2 := (StrsAt.top hur).below ((Below.refl _ _).alloc (Nat.le_refl _) _) (Nat.le_refl _)
       have Hb1 := Lib.hid (show us.length + 1 ≤ maxLen ∧ (us.length + 1) * 24 ≤ 140737488355328 by have := Hul.out; simp only [maxLen]; omega)
       obtain ⟨iS, j1, j2, j3, j4⟩ := info_parts infoSS
       have g9 := g.litStr nm
       clear g
       go_wp2_with (first
        | (at_builtin; refine wp_append_strs rfl (.tmp 45) (.tmp 46) rfl g9 0 rfl hur2 Hl2.out rfl rfl ?_; intro v1 w7 q1; obtain ⟨Av, cv, rfl, -, -⟩ := q1.strVal 0 rfl)
        | (at_builtin; refine wp_append_vec rfl (.tmp 43) (.tmp 48) 104 65 1 24 iS _ rfl Tryz.underlying104 j1 j2 j3 j4 rfl (by decide) q1 2 rfl [_] rfl (fun u hu => by rw [List.mem_singleton.1 hu]; rfl) rfl rfl Hb1.out.1 Hb1.out.2 ?_; intro v2 w8 q2))
       have q3 := (q2.toFront 1 rfl).toFront 1 rfl
       simp only [List.eraseIdx_cons_succ] at q3
       have q4 := St.heldTo (St.freeze q3) (R' := fun W => Rd W w.heap.size (us ++ [_]) (P ++ [[nm] ++ l2])) (fun W hW => rd_snoc hW.1 hW.2)
       go_roundw
       case rel => exact ⟨j + 1, us ++ [_], _, by go_num, by omega, by rw [HTk.out, List.length_append]; exact q4⟩
       case measure => simp [intOf]; omega
      ·obtain rfl : j = m := by omega
       have HTm := Lib.hid (show T.take j = T from List.take_of_length_le (by rw [← Hm.out]; exact Nat.le_refl _))
       rw [HTm.out] at g
       have g2 := St.drop2 g
       go_wp2
       go_roundw
       case rel => exact ⟨i + 1, us, dn ++ T.map (fun t => i :: t), bs, by go_num, g2, by rw [List.append_assoc]; exact HXs⟩
       case measure => simp [intOf]; omega
    ·rw [if_neg hnr, List.nil_append] at HXs
     have hnr' : (n : Int) > (R0 : Int) := by omega
     go_wp2
     go_roundw
     case rel => exact ⟨i + 1, us, dn, bs, by go_num, g4, HXs⟩
     case measure => simp [intOf]; omega
   ·have HXe := Lib.hid (show X = dn by rw [HX.out, tyR_end _ _ _ (by omega), List.append_nil])
    have ii : ¬ ((i : Int) < 12) := by omega
    go_wp2
    go_ret
    exact ⟨_, rfl, by rw [HXe.out]; exact ss_of_rd g3 1 rfl (g3.heldR 0 rfl), g3.below⟩
end Car
end Go.Proofs.YtbnefjhljfbecaaGreatDoor
