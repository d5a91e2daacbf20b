import Derived.Lib.AppendIntMem
import Derived.Test.YtbnefjhljfbecaaGreatDoorW03
import Derived.Test.YtbnefjhljfbecaaGreatDoorW11
import Derived.Test.YtbnefjhljfbecaaGreatDoorW18
import Derived.Test.YtbnefjhljfbecaaGreatDoorW24
import Derived.Test.YtbnefjhljfbecaaGreatDoorW25
namespace Go.Proofs.YtbnefjhljfbecaaGreatDoor
set_option maxRecDepth 100000
open Go.RowKit
namespace Tya
def TabAt (w : World) : Prop := Lib.TabIs Tryz.prog w "internal/strconv.uint64pow10" .u64 Lib.pow10Tab
theorem TabAt.same {w w' : World} (h : TabAt w) (hk : ∀ b, b < w.heap.size → w'.heap[b]? = w.heap[b]?) : TabAt w' := by
 have hg : Tryz.prog.globalNamed "internal/strconv.uint64pow10" = some 1 := by kernel_rfl
 unfold TabAt Lib.TabIs World.var? at h ⊢
 rw [hg] at h ⊢
 simp only [Option.bind_some] at h ⊢
 have hlt : 1 < w.heap.size := by
  rcases Nat.lt_or_ge 1 w.heap.size with h' | h'
  ·exact h'
  ·rw [Array.getElem?_eq_none h'] at h
   cases h
 rw [hk _ hlt]
 exact h
theorem TabAt.fact {w : World} (h : TabAt w) : It.ok w.heap.size w (.fact TabAt) := fun _ hk => h.same hk
theorem TabAt.below {w w' : World} (h : TabAt w) (hb : Below w.heap.size w w') : TabAt w' := h.same fun b hb' => hb.block b hb'
def wd (n : Int) : ByteArray := ⟨(Lib.itoa n).toArray⟩
set_option maxHeartbeats 1000000 in
theorem FormatInt_any (n : Int) (w : World) (h0 : 0 ≤ n) (h1 : n ≤ 100) (hT : TabAt w) :
  Calls Tryz.prog 91 #[.int .i64 n] w fun e w' => e = .returned (.string (wd n)) ∧ Below w.heap.size w w' := by
 have HI := Lib.hid (show Calls Tryz.prog 117 #[.int .i64 n] w fun e w' => e = .returned (.string (wd n)) ∧ Below w.heap.size w w' from
  (Any.strconv_Itoa lays171 n (by omega) (by omega) w hT).mono fun e w' ⟨h1, k, os, h2⟩ => ⟨h1, by rw [h2]; exact Lib.below_grow _ w (Nat.le_refl _) k os⟩)
 clear hT
 go_enter Tryz.func91, Tryz.ntmps91
 go_wp2_with fail
 refine HI.out.mono ?_
 rintro (e : Ending) w1 ⟨rfl, hb⟩
 go_wp2
 go_ret
 exact ⟨rfl, hb⟩
theorem take_wd {l : List Int} {i : Nat} (hi : i < l.length) : (l.take (i + 1)).map wd = (l.take i).map wd ++ [wd (Go.Proofs.YtbnefjhljfbecaaGreatDoor.vec l i)] := by
 rw [List.take_succ_eq_append_getElem hi, List.map_append]
 simp [Go.Proofs.YtbnefjhljfbecaaGreatDoor.vec, List.getD_eq_getElem?_getD, hi]
set_option maxHeartbeats 2000000 in
theorem FormatInts_any (v : Value) (l : List Int) (w : World) (hv : Ints w v l) (hs : Sml l) (h0 : 0 < l.length) (hl : l.length ≤ 1000) (hT : TabAt w) :
  Calls Tryz.prog 53 #[v] w fun e w' => e = .returned (.string (encB l)) ∧ Below w.heap.size w w' := by
 have h1 := ((((St.start w).pushFact hT.fact).arg hv).emptyStrs)
 obtain ⟨A, k0, rfl, _, _, _⟩ := id hv
 have hb : ∀ i, i < l.length → 0 ≤ Go.Proofs.YtbnefjhljfbecaaGreatDoor.vec l i ∧ Go.Proofs.YtbnefjhljfbecaaGreatDoor.vec l i ≤ 100 := fun i hi => hs _ (by simp [Go.Proofs.YtbnefjhljfbecaaGreatDoor.vec, List.getD_eq_getElem?_getD, hi])
 have hjl : (Lib.join ((l.map wd).map (·.data.toList)) [32]) = encL l := by
  unfold encL
  rw [List.map_map]
  rfl
 have hel := encL_len hs
 have HJ := Lib.hid (fun (W : World) (v : Value) (lo hi : Nat) (hA : StrsAt W lo hi v (l.map wd)) (hh : hi ≤ W.heap.size) => (show Calls Tryz.prog 92 #[v, .string ⟨#[32]⟩] W fun e w' => e = .returned (.string (encB l)) ∧ Below W.heap.size W w' by
  obtain ⟨A9, c9, rfl, hc9, hA9⟩ := hA
  rw [List.length_map] at hA9 hc9
  obtain ⟨bq, oq, rfl, h2, h3, h4⟩ := hA9 h0
  refine (Any.strings_Join Car.lays156 Car.xtra156 bq oq c9 (l.map wd) ⟨#[32]⟩ W h4 (by omega) (by rw [List.length_map]; omega) (by rw [List.length_map]; exact hc9) (by show (Lib.join _ [32]).length ≤ _; rw [hjl]; omega)).mono fun e w' ⟨h1, h2⟩ => ⟨h1.trans ?_, h2⟩
  show Ending.returned (.string ⟨(Lib.join _ [32]).toArray⟩) = _
  rw [hjl]
  rfl))
 have HB := Lib.hid hb
 clear hv hs hb hjl hel hT h0
 go_enter Tryz.func53, Tryz.ntmps53
 go_wp2
 go_loopw [3, 5, 9] (fun v3 _ v9 wr => ∃ i : Nat, v9 = .int .i64 i ∧ i ≤ l.length ∧ St w wr [strIt v3 ((l.take i).map wd), .ro (.slice A l.length k0) l, .fact TabAt]) (fun _ _ v9 _ => l.length - (intOf v9).toNat)
 case atStart => exact ⟨0, rfl, by omega, by rw [List.take_zero]; exact h1⟩
 case round =>
  clear h1
  obtain ⟨i, rfl, a1, g⟩ := hrel
  by_cases hi : i < l.length
  ·obtain ⟨b, off, rfl, _, e1⟩ := (g.roInts 1 rfl).toB.cell hi
   have hbi := HB.out i hi
   have HT := Lib.hid (take_wd hi)
   obtain ⟨x, hx⟩ : ∃ x, x = Go.Proofs.YtbnefjhljfbecaaGreatDoor.vec l i := ⟨_, rfl⟩
   rw [← hx] at e1 hbi HT
   have HF := Lib.hid (fun (W : World) (h : TabAt W) => FormatInt_any x W hbi.1 hbi.2 h)
   have i1 : (i : Int) < (l.length : Int) := by omega
   have Hl := Lib.hid (show ((l.take i).map wd).length + [wd x].length ≤ 8796093022208 by rw [List.length_map, List.length_take, List.length_singleton]; omega)
   obtain ⟨s, hs⟩ : ∃ s, s = wd x := ⟨_, rfl⟩
   rw [← hs] at HF HT Hl
   clear hx hbi hs
   go_wp2_with fail
   refine (HF.out _ (g.fact 2 rfl)).mono ?_
   rintro (e : Ending) w2 ⟨rfl, hb2⟩
   have g2 := (g.on hb2).litStr s
   clear g hb2 e1
   go_wp2_with (at_builtin; refine wp_append_strs rfl (.tmp 13) (.tmp 16) rfl g2 1 rfl (g2.strs 0 rfl) Hl.out rfl rfl ?_; intro v1 w6 h6)
   go_roundw
   case rel => exact ⟨i + 1, by go_num, by omega, by rw [HT.out]; exact h6.drop 1⟩
   case measure => simp [intOf]; omega
  ·obtain rfl : i = l.length := by omega
   rw [List.take_length] at g
   go_wp2_with fail
   refine (HJ.out _ _ _ _ (g.strs 0 rfl) (Nat.le_refl _)).mono ?_
   rintro (e : Ending) w2 ⟨rfl, hb2⟩
   go_wp2
   go_ret
   exact ⟨rfl, (g.on hb2).below⟩
theorem addL_fill (p : Int) (X : List Int) (k : Int) (Y : List Int) (h : Y.length = X.length) : Stp.mapI X.length (fun i => (Go.Proofs.YtbnefjhljfbecaaGreatDoor.vec X i + k * Go.Proofs.YtbnefjhljfbecaaGreatDoor.vec Y i) % p) = addL X k Y p := by
 refine list_ext (by rw [Stp.length_mapI, length_addL _ _ _ _ h]) fun i hi => ?_
 rw [Stp.length_mapI] at hi
 rw [Stp.vec_mapI _ _ hi, vec_addL _ _ h hi]
set_option maxHeartbeats 4000000 in
theorem plusI_any (p k : Int) (m x y : Value) (X Y : List Int) (w : World) (hx : Ints w x X) (hy : Ints w y Y) (_hm : m.oneCell' = true) (hl : Y.length = X.length) (hn : X.length ≤ 100) (hp : 2 ≤ p) (hp' : p ≤ 101) (rX : resid p X = true) (rY : resid p Y = true) (hk : -10 ≤ k ∧ k ≤ 10) :
  Calls Tryz.prog 54 #[.agg #[.int .i64 p, m], x, .int .i64 k, y] w (RetOwn w (addL X k Y p)) := by
 have hX : ∀ i, 0 ≤ Go.Proofs.YtbnefjhljfbecaaGreatDoor.vec X i ∧ Go.Proofs.YtbnefjhljfbecaaGreatDoor.vec X i < p := fun i => resid_vec' rX (by omega) i
 have hY : ∀ i, 0 ≤ Go.Proofs.YtbnefjhljfbecaaGreatDoor.vec Y i ∧ Go.Proofs.YtbnefjhljfbecaaGreatDoor.vec Y i < p := fun i => resid_vec' rY (by omega) i
 have g := (((St.start w).arg hx).arg hy).box [.int .i64 p, m] 80
 obtain ⟨A, cx, rfl, _, _, _⟩ := id hx
 obtain ⟨A2, cy, rfl, _, _, _⟩ := id hy
 have hP := fun (W : World) (x1 : Ints W (.slice A X.length cx) X) (x2 : Ints W (.slice A2 Y.length cy) Y) => Stp.listPlus_any k _ _ X Y W x1 x2 hl hn (fun i _ => by have := hX i; omega) (fun i => by have := hY i; omega) (by omega)
 obtain ⟨Z, hZ⟩ : ∃ Z, Z = Stp.mapI X.length (Stp.pluF X k Y) := ⟨_, rfl⟩
 have hZl : Z.length = X.length := by rw [hZ, Stp.length_mapI]
 have hZb : ∀ i, i < X.length → Go.Proofs.YtbnefjhljfbecaaGreatDoor.vec Z i = Go.Proofs.YtbnefjhljfbecaaGreatDoor.vec X i + k * Go.Proofs.YtbnefjhljfbecaaGreatDoor.vec Y i ∧ -2000 ≤ Go.Proofs.YtbnefjhljfbecaaGreatDoor.vec Z i ∧ Go.Proofs.YtbnefjhljfbecaaGreatDoor.vec Z i ≤ 2000 := fun i hi => by
  have e : Go.Proofs.YtbnefjhljfbecaaGreatDoor.vec Z i = Go.Proofs.YtbnefjhljfbecaaGreatDoor.vec X i + k * Go.Proofs.YtbnefjhljfbecaaGreatDoor.vec Y i := by rw [hZ, Stp.vec_mapI _ _ hi]; rfl
  refine ⟨e, ?_⟩
  have h1 := hX i
  have h2 := hY i
  have h3 : -1010 ≤ k * Go.Proofs.YtbnefjhljfbecaaGreatDoor.vec Y i ∧ k * Go.Proofs.YtbnefjhljfbecaaGreatDoor.vec Y i ≤ 1010 := by
   have : (k * Go.Proofs.YtbnefjhljfbecaaGreatDoor.vec Y i).natAbs ≤ 10 * 101 := by
    rw [Int.natAbs_mul]
    exact Nat.mul_le_mul (by omega) (by omega)
   omega
  omega
 obtain ⟨F, hF⟩ : ∃ F : Nat → Int, F = fun i => (Go.Proofs.YtbnefjhljfbecaaGreatDoor.vec X i + k * Go.Proofs.YtbnefjhljfbecaaGreatDoor.vec Y i) % p := ⟨_, rfl⟩
 have hEnd : Stp.fillTo F Z Z.length = addL X k Y p := by
  rw [Stp.fillTo_end, hZl, hF]
  exact addL_fill p X k Y hl
 obtain ⟨R, hR⟩ : ∃ R, R = addL X k Y p := ⟨_, rfl⟩
 rw [← hR] at hEnd ⊢
 rw [← hZ] at hP
 have H0 := Lib.hid (Stp.fillTo_zero F Z)
 have HFl := Lib.hid (fun i => Stp.length_fillTo F Z i)
 have HFv := Lib.hid (fun i (h : i < Z.length) => Stp.vec_fillTo F Z i h)
 have HFs := Lib.hid (fun i (h : i < Z.length) => Stp.fillTo_set F Z i h)
 have HFz := Lib.hid (fun i (h : i < Z.length) => (show F i = Go.Proofs.YtbnefjhljfbecaaGreatDoor.vec Z i % p by rw [hF, (hZb i (by omega)).1]))
 have HZb := Lib.hid (fun i (h : i < Z.length) => (hZb i (by omega)).2)
 have HEnd := Lib.hid hEnd
 have HP := Lib.hid hP
 have hln : Z.length ≤ 100 := by omega
 obtain ⟨n, hnn⟩ : ∃ n, n = Z.length := ⟨_, rfl⟩
 have Hn := Lib.hid hnn
 rw [← hnn] at hln
 clear hx hy hl hn hX hY hZ hZl hZb hF hEnd hR hP hnn rX rY
 obtain ⟨z0, z1⟩ := g.box2 0 rfl
 go_enter Tryz.func54, Tryz.ntmps54
 go_wp2_with fail
 refine (HP.out _ (g.roInts 2 rfl) (g.roInts 1 rfl)).mono ?_
 rintro (e : Ending) w3 ⟨u3, rfl, ho3, hb3⟩
 obtain ⟨A5, c5, rfl, _, _, _⟩ := id ho3.ints
 have g2 := g.pushOwn hb3 ho3
 rw [← Hn.out] at g2 ⊢
 rw [← H0.out] at g2
 clear z0 z1 g ho3 hb3
 go_wp2
 go_loopw [10, 11, 18] (fun _ _ v18 wr => ∃ i : Nat, v18 = .int .i64 i ∧ i ≤ n ∧ St w wr [.own (.slice A5 n c5) (Stp.fillTo F Z i), .box w.heap.size [.int .i64 p, m], .ro (.slice A2 Y.length cy) Y, .ro (.slice A X.length cx) X]) (fun _ _ v18 _ => n - (intOf v18).toNat)
 case atStart => exact ⟨0, rfl, by omega, g2⟩
 case round =>
  clear g2
  obtain ⟨i, rfl, a1, g⟩ := hrel
  by_cases hi : i < n
  ·have hiz : i < Z.length := by rw [← Hn.out]; exact hi
   obtain ⟨gx, rfl, -⟩ := g.ownSome 0 rfl (by rw [HFl.out]; omega)
   have hc := g.ownCell 0 rfl (q := i) (by rw [HFl.out]; exact hiz)
   rw [HFv.out i hiz] at hc
   have hzb := HZb.out i hiz
   have HN := Lib.hid (HFs.out i hiz)
   have hfz := HFz.out i hiz
   obtain ⟨z, hz⟩ : ∃ z, z = Go.Proofs.YtbnefjhljfbecaaGreatDoor.vec Z i := ⟨_, rfl⟩
   rw [← hz] at hc hzb hfz
   rw [hfz] at HN
   obtain ⟨e1, f1⟩ := hc
   have HM := Lib.hid (fun W => mod_any z p W (by omega) (by omega) (by omega) (by omega))
   have i1 : (i : Int) < (n : Int) := by omega
   obtain ⟨z0, z1⟩ := g.box2 1 rfl
   clear hz hzb hfz hiz
   go_wp2_with fail
   refine (HM.out _).mono ?_
   rintro (e : Ending) w4 ⟨rfl, rfl⟩
   have g3 := g.set 0 rfl i (z % p)
   simp only [List.set_cons_zero] at g3
   rw [HN.out] at g3
   clear g
   go_wp2
   go_roundw
   case rel => exact ⟨i + 1, by go_num, by omega, g3⟩
   case measure => simp [intOf]; omega
  ·obtain rfl : i = n := by omega
   have HE2 := Lib.hid (show Stp.fillTo F Z i = R by rw [← HEnd.out, Hn.out])
   rw [HE2.out] at g
   go_wp2
   go_ret
   exact ⟨_, rfl, g.own 0 rfl, g.below⟩
end Tya
end Go.Proofs.YtbnefjhljfbecaaGreatDoor
