import Derived.Test.YtbnefjhljfbecaaGreatDoorW04
import Derived.Test.YtbnefjhljfbecaaGreatDoorW07
namespace Go.Proofs.YtbnefjhljfbecaaGreatDoor
set_option maxRecDepth 100000
open Go.RowKit
theorem St.box2 {w0 w : World} {L : List It} (h : St w0 w L) (i : Nat) {b : Nat} {x y : Value} (hi : L[i]? = some (.box b [x, y])) : w.cell? ⟨b, 0, none⟩ = some x ∧ w.cell? ⟨b, 1, none⟩ = some y := ⟨h.cell i hi 0 rfl, h.cell i hi 1 rfl⟩
theorem St.litInt {w0 w : World} {L : List It} (h : St w0 w L) (x : Int) : St w0 (w.alloc (.cells #[.int .i64 x] 3)) (.own (.slice (some ⟨w.heap.size, 0, none⟩) 1 1) [x] :: L) :=
 h.pushOwn ((Below.refl _ _).alloc (Nat.le_refl _) _) (World.ownsRow_lit (base := w.heap.size) (e := 3) (size := 1) w #[.int .i64 x] 1 (Nat.le_refl _) (by simp [maxLen]) rfl)
namespace Car
theorem vec_nat (l : List Nat) (i : Nat) : vec (l.map Int.ofNat) i = ((l.getD i 0 : Nat) : Int) := by
 unfold vec
 by_cases h : i < l.length
 ·simp [List.getD, List.getElem?_map, List.getElem?_eq_getElem h]
 ·simp [List.getD, List.getElem?_map, List.getElem?_eq_none (Nat.le_of_not_lt h)]
theorem en_vec (n : Nat) (D : List Int) (i j : Nat) : en n D i j = vec D (i * n + j) := rfl
set_option maxHeartbeats 1000000 in
theorem l5At_any (n : Nat) (t : Value) (D : List Int) (i j : Nat) (w : World) (ht : Ints w t D) (hD : D.length = n * n) (hn : n ≤ 4) (hi : i < n) (hj : j < n) :
  Calls Tryz.prog 107 #[.agg #[.int .i64 n, t], .int .i64 i, .int .i64 j] w fun e w' => e = .returned (.int .i64 (en n D i j)) ∧ Below w.heap.size w w' := by
 have h1 := (St.start1 ht).box [.int .i64 n, t] 49
 obtain ⟨A, k, rfl, hk1, hk2, _⟩ := id ht
 rw [en_vec]
 have hb : n * n ≤ 4194304 := by have := Nat.mul_le_mul hn hn; omega
 have hbd := row_bd (c := n) hi
 obtain ⟨n1, n2, n3, n4⟩ := row_int (c := n) hi hb
 have hlt : i * n + j < D.length := by omega
 obtain ⟨b, off, rfl, _, e1⟩ := (h1.ro 1 rfl).cell hlt
 have hat : (i : Int) * n + j = ((i * n + j : Nat) : Int) := by simp
 obtain ⟨q, hq⟩ : ∃ q, q = i * n + j := ⟨_, rfl⟩
 rw [← hq] at hat hlt e1 ⊢
 have HQ := Lib.hid hq
 have hDl : D.length ≤ 4194304 := by omega
 clear ht hD hq hbd
 obtain ⟨z0, z1⟩ := h1.box2 0 rfl
 go_enter Tryz.func107, Tryz.ntmps107
 go_wp2
 go_ret
 exact ⟨rfl, h1.below⟩
def found (l : List Int) (x : Int) : Int := idx (fun y => y == x) l 0
theorem idx_neg (p : Int → Bool) : ∀ (l : List Int) (k : Int), 0 ≤ k → (0 ≤ idx p l k ↔ l.any p = true)
 | [], k, _ => by simp [idx]
 | x :: xs, k, hk => by
  unfold idx
  cases h : p x with
  | true => simp [h, hk]
  | false => simpa [h] using idx_neg p xs (k + 1) (by omega)
theorem found_nat (l : List Nat) (x : Nat) : (0 ≤ found (l.map Int.ofNat) (x : Int)) ↔ x ∈ l := by
 unfold found
 rw [idx_neg _ _ _ (Int.le_refl _), List.any_map, List.any_eq_true]
 constructor
 ·rintro ⟨y, hy, h⟩
  have : (y : Int) = (x : Int) := by simpa using h
  have : y = x := by omega
  exact this ▸ hy
 ·intro h
  exact ⟨x, h, by simp⟩
set_option maxHeartbeats 400000 in
theorem find_any (v : Value) (l : List Int) (x : Int) (w : World) (hv : Ints w v l) :
  Calls Tryz.prog 71 #[v, .int .i64 x] w fun e w' => e = .returned (.int .i64 (found l x)) ∧ w = w' := by
 obtain ⟨A, c, rfl, h1, h2, h3⟩ := hv
 obtain ⟨R, hR⟩ : ∃ R, R = idx (fun y => y == x) l 0 := ⟨_, rfl⟩
 unfold found
 rw [← hR]
 have HR := Lib.hid hR
 clear hR
 go_enter Tryz.func71, Tryz.ntmps71
 go_wp2
 go_loop [5] (fun vi => ∃ k : Nat, vi = .int .i64 k ∧ Hid (R = idx (fun y => y == x) (l.drop k) k)) (fun vi => l.length - (intOf vi).toNat)
 case atStart => exact ⟨0, rfl, HR⟩
 case round =>
  obtain ⟨k, rfl, HM⟩ := hrel
  by_cases hk : k < l.length
  ·obtain ⟨b, off, rfl, hc⟩ := h3 (by omega)
   have e1 := hc k l[k] (List.getElem?_eq_getElem hk)
   have HD := Lib.hid (idx_drop (fun y => y == x) l k hk)
   clear hc h3
   by_cases hx : l[k] = x
   ·have HX := Lib.hid hx
    have e2 : (l[k] == x) = true := by rw [hx]; simp
    clear hx
    go_wp2
    go_ret
    exact ⟨ret_int (by rw [HM.out, HD.out, if_pos (by simp [HX.out])]), rfl⟩
   ·have e2 : (l[k] == x) = false := by rw [beq_eq_false_iff_ne]; exact hx
    go_wp2
    go_round
    case rel => exact ⟨k + 1, by go_num, by rw [HM.out, HD.out, if_neg (by simp [hx])]; exact rfl⟩
    case measure => simp [intOf]; omega
  ·have HE := Lib.hid (idx_end (fun y => y == x) l k (by omega))
   clear h3
   go_wp2
   go_ret
   exact ⟨ret_int (by rw [HM.out, HE.out]), rfl⟩
def stp (n : Nat) (D : List Int) (x : Nat) (o : List Nat) (j : Nat) : List Nat := if en n D x j ≠ 0 ∧ j ∉ o then o ++ [j] else o
theorem grow_stp (n : Nat) (D : List Int) (x : Nat) (out : List Nat) : grow n D x out = (List.range' 0 (n - 0)).foldl (stp n D x) out := by
 unfold grow
 rw [List.range_eq_range', Nat.sub_zero]
 rfl
theorem stp_cons (n : Nat) (D : List Int) (x : Nat) (out : List Nat) {j : Nat} (h : j < n) : (List.range' j (n - j)).foldl (stp n D x) out = (List.range' (j + 1) (n - (j + 1))).foldl (stp n D x) (stp n D x out j) := by
 obtain ⟨d, hd⟩ : ∃ d, n - j = d + 1 := ⟨n - j - 1, by omega⟩
 rw [hd, show n - (j + 1) = d from by omega]
 rfl
theorem stp_end (n : Nat) (D : List Int) (x : Nat) (out : List Nat) : (List.range' n (n - n)).foldl (stp n D x) out = out := by
 rw [Nat.sub_self]; rfl
theorem stp_len (n : Nat) (D : List Int) (x : Nat) (o : List Nat) (j : Nat) : o.length ≤ (stp n D x o j).length ∧ (stp n D x o j).length ≤ o.length + 1 ∧ ∀ k, k < o.length → (stp n D x o j).getD k 0 = o.getD k 0 := by
 unfold stp
 split
 ·refine ⟨by simp, by simp, fun k hk => ?_⟩
  rw [getD_app, if_pos hk]
 ·exact ⟨by omega, by omega, fun _ _ => rfl⟩
set_option maxHeartbeats 4000000 in
theorem l5Part_any (n : Nat) (t : Value) (D : List Int) (i : Nat) (w : World) (ht : Ints w t D) (hD : D.length = n * n) (h1 : 1 ≤ n) (hn : n ≤ 4) (hi : i < n) :
  Calls Tryz.prog 72 #[.agg #[.int .i64 n, t], .int .i64 i] w (RetOwn w ((part n D i).map Int.ofNat)) := by
 obtain ⟨R, hR⟩ : ∃ R, R = partF n D n 0 [i] := ⟨_, rfl⟩
 have eR : part n D i = R := by rw [hR]; rfl
 rw [eR]
 clear eR
 have HR := Lib.hid hR
 have hb := ((St.start1 ht).box [.int .i64 n, t] 49).litInt i
 obtain ⟨A, k0, rfl, _, _, _⟩ := id ht
 simp only [World.size_alloc] at hb
 have HAt := Lib.hid (fun (W : World) (x j : Nat) (hx : x < n) (hj : j < n) (h : Ints W (.slice A D.length k0) D) => l5At_any n _ D x j W h hD hn hx hj)
 have HLe := Lib.hid (fun (o : List Nat) => len_le (o := o) h1 hn)
 have HGr := Lib.hid (fun (x : Nat) (o : List Nat) => growL n D x (List.range n) o)
 have hDl : D.length ≤ 16 := by have := Nat.mul_le_mul hn hn; omega
 clear ht hR hD
 obtain ⟨z0, z1⟩ := hb.box2 1 rfl
 go_enter Tryz.func72, Tryz.ntmps72
 go_wp2
 clear z0 z1
 go_loopw [5, 6, 7] (fun v5 v6 _ wr => ∃ (k f : Nat) (out : List Nat), v6 = .int .i64 k ∧ f + k = n ∧ k ≤ out.length ∧ Hid (out.Nodup) ∧ Hid (∀ y, y ∈ out → y < n) ∧ Hid (R = partF n D f k out) ∧ St w wr [.own v5 (out.map Int.ofNat), .box w.heap.size [.int .i64 n, .slice A D.length k0], .ro (.slice A D.length k0) D]) (fun _ v6 _ _ => n - (intOf v6).toNat)
 case atStart => exact ⟨0, n, [i], rfl, by omega, by simp, Lib.hid (by simp), Lib.hid (fun y hy => by rw [List.mem_singleton.1 hy]; exact hi), HR, hb⟩
 case round =>
  clear hb HR
  obtain ⟨k, f, out, rfl, hf, hk, HN, HB, HM, g⟩ := hrel
  obtain ⟨A5, n5, c5, rfl⟩ := (g.own 0 rfl).slice
  obtain ⟨m, hm⟩ : ∃ m, m = out.length := ⟨_, rfl⟩
  have hml : (out.map Int.ofNat).length = m := by rw [List.length_map, hm]
  have hn5 : n5 = m := by
   obtain ⟨A9, c9, e9, _⟩ := id (g.ownInts 0 rfl)
   simp only [Value.slice.injEq] at e9
   rw [e9.2.1, hml]
  subst hn5
  have hle := HLe.out out HB.out HN.out
  rw [← hm] at hk hle
  by_cases hkm : k < n5
  ·obtain ⟨f, rfl⟩ : ∃ q, f = q + 1 := ⟨f - 1, by omega⟩
   obtain ⟨x, hx⟩ : ∃ x, x = out.getD k 0 := ⟨_, rfl⟩
   have hxn : x < n := by rw [hx]; exact HB.out _ (getD_mem (by omega))
   obtain ⟨G, hG⟩ : ∃ G, G = grow n D x out := ⟨_, rfl⟩
   have HM2 := Lib.hid (show R = partF n D f (k + 1) G by
    have := HM.out
    unfold partF at this
    rw [if_pos (by omega), ← hx, ← hG] at this
    exact this)
   obtain ⟨⟨tt, htt⟩, g2, g3, g4⟩ := HGr.out x out
   have hGe : G = out ++ tt := by rw [hG]; exact htt
   have HN2 := Lib.hid (show G.Nodup by rw [hG]; exact g2 HN.out)
   have HB2 := Lib.hid (show ∀ y, y ∈ G → y < n by
    intro y hy
    rw [hG] at hy
    rcases g3 y hy with hy | hy
    ·exact HB.out y hy
    ·exact List.mem_range.1 hy.1)
   have HL2 := Lib.hid (show k + 1 ≤ G.length by rw [hGe, List.length_append]; omega)
   have HS := Lib.hid (show G = (List.range' 0 (n - 0)).foldl (stp n D x) out by rw [hG, grow_stp])
   have HX0 := Lib.hid hx.symm
   have HAt1 := Lib.hid (fun W j hj h => HAt.out W x j hxn hj h)
   have Hm := Lib.hid hm
   have ikm : (k : Int) < (n5 : Int) := by omega
   clear htt g2 g3 g4 hGe hG hx hm hml
   go_wp2
   go_loopw [5, 7] (fun v5 v7 wr => ∃ (j : Nat) (cur : List Nat), v7 = .int .i64 j ∧ j ≤ n ∧ k < cur.length ∧ cur.length ≤ 4 + j ∧ Hid (cur.getD k 0 = x) ∧ Hid (G = (List.range' j (n - j)).foldl (stp n D x) cur) ∧ St w wr [.own v5 (cur.map Int.ofNat), .box w.heap.size [.int .i64 n, .slice A D.length k0], .ro (.slice A D.length k0) D]) (fun _ v7 _ => n - (intOf v7).toNat)
   case atStart => exact ⟨0, out, rfl, by omega, by rw [← Hm.out]; exact hkm, by rw [← Hm.out]; omega, HX0, HS, g⟩
   case round =>
    clear g HX0 HS
    obtain ⟨j, cur, rfl, a1, a2, a3, HX0, HS, g⟩ := hrel
    obtain ⟨z0, z1⟩ := g.box2 1 rfl
    by_cases hj : j < n
    ·have ij : (j : Int) < (n : Int) := by omega
     obtain ⟨l1, l2, l3⟩ := stp_len n D x cur j
     have HS2 := Lib.hid (HS.out.trans (stp_cons n D x cur hj))
     have HX2 := Lib.hid ((l3 k a2).trans HX0.out)
     have Hl2 := Lib.hid (show k < (stp n D x cur j).length by omega)
     have Hl3 := Lib.hid (show (stp n D x cur j).length ≤ 4 + (j + 1) by omega)
     clear l1 l2 l3
     obtain ⟨A6, n6, c6, rfl⟩ := (g.own 0 rfl).slice
     have hcl : (cur.map Int.ofNat).length = cur.length := List.length_map ..
     obtain ⟨g6, rfl, hn6⟩ := g.ownSome 0 rfl (by rw [hcl]; omega)
     rw [hcl] at hn6
     obtain ⟨pc, -⟩ := g.ownCell 0 rfl (q := k) (by rw [hcl]; exact a2)
     rw [vec_nat, HX0.out] at pc
     have Hcl := Lib.hid hcl
     have Hn6 := Lib.hid hn6
     have ik6 : (k : Int) < (n6 : Int) := by omega
     obtain ⟨e, he⟩ : ∃ e, e = en n D x j := ⟨_, rfl⟩
     have HA2 := Lib.hid (HAt1.out)
     have HA3 := Lib.hid (fun W h => HA2.out W j hj h)
     rw [← he] at HA3
     have hfd := found_nat cur j
     obtain ⟨F, hF⟩ : ∃ F, F = found (cur.map Int.ofNat) (j : Int) := ⟨_, rfl⟩
     have HFd := Lib.hid (fun W h => find_any (.slice (some ⟨g6, 0, none⟩) n6 c6) (cur.map Int.ofNat) (j : Int) W h)
     rw [← hF] at hfd HFd
     clear hcl hn6 hF
     have g0 := g.drew
     by_cases h0 : e = 0
     ·have hst : stp n D x cur j = cur := by unfold stp; rw [if_neg (fun h => h.1 (he ▸ h0))]
      rw [hst] at HS2 HX2 Hl2 Hl3
      clear he hst hfd
      go_upto_region 8 with fail
      clear z0 z1
      refine wp_region_held_drew (S := fun w' => (w'.cell? ⟨w.heap.size, 0, none⟩ = some (.int .i64 n) ∧ w'.cell? ⟨w.heap.size, 1, none⟩ = some (.slice A D.length k0)) ∧ w'.cell? ⟨g6, k, none⟩ = some (.int .i64 x)) (by kernel_rfl) ⟨g0.box2 1 rfl, pc⟩ (fun hHeld => ?_)
      refine tkA 0 hHeld ?_
      refine tkA 1 hHeld ?_
      refine tkA 2 hHeld ?_
      refine tkA 3 hHeld ?_
      refine tkA 4 hHeld ?_
      refine tkA 5 hHeld ?_
      refine rcA 6 fun K hK => ?_
      go_simp
      refine (HA3.out _ (g0.roInts 2 rfl)).mono ?_
      rintro (e : Ending) w4 ⟨rfl, hb4⟩
      have g1 := g0.on hb4
      show K _ _
      refine outA hK ?_ fun hHeld => ?_
      ·exact ⟨g1.box2 1 rfl, by have := (g1.ownCell 0 rfl (q := k) (by rw [Hcl.out]; exact a2)).1; rwa [vec_nat, HX0.out] at this⟩
      clear hK K
      subst h0
      refine tkA 7 hHeld ?_
      refine tkA 8 hHeld ?_
      refine skA 9 hHeld ?_
      refine skA 10 hHeld ?_
      refine skA 11 hHeld ?_
      refine skA 12 hHeld ?_
      refine tkA 13 hHeld ?_
      refine wpAnyH_done (by kernel_rfl) ?_ _
      clear hHeld
      clear g g0
      go_wp2
      go_roundw
      case rel => exact ⟨j + 1, cur, by go_num, by omega, Hl2.out, Hl3.out, HX2, HS2, g1⟩
      case measure => simp [intOf]; omega
     ·have hne : (e != 0) = true := by simpa using h0
      by_cases hm2 : j ∈ cur
      ·have hF0 := hfd.2 hm2
       have hst : stp n D x cur j = cur := by unfold stp; rw [if_neg (fun h => h.2 hm2)]
       rw [hst] at HS2 HX2 Hl2 Hl3
       clear he hst hfd hm2
       go_upto_region 8 with fail
       clear z0 z1
       refine wp_region_held_drew (S := fun w' => (w'.cell? ⟨w.heap.size, 0, none⟩ = some (.int .i64 n) ∧ w'.cell? ⟨w.heap.size, 1, none⟩ = some (.slice A D.length k0)) ∧ w'.cell? ⟨g6, k, none⟩ = some (.int .i64 x)) (by kernel_rfl) ⟨g0.box2 1 rfl, pc⟩ (fun hHeld => ?_)
       refine tkA 0 hHeld ?_
       refine tkA 1 hHeld ?_
       refine tkA 2 hHeld ?_
       refine tkA 3 hHeld ?_
       refine tkA 4 hHeld ?_
       refine tkA 5 hHeld ?_
       refine rcA 6 fun K hK => ?_
       go_simp
       refine (HA3.out _ (g0.roInts 2 rfl)).mono ?_
       rintro (e : Ending) w4 ⟨rfl, hb4⟩
       have g1 := g0.on hb4
       show K _ _
       refine outA hK ?_ fun hHeld => ?_
       ·exact ⟨g1.box2 1 rfl, by have := (g1.ownCell 0 rfl (q := k) (by rw [Hcl.out]; exact a2)).1; rwa [vec_nat, HX0.out] at this⟩
       clear hK K
       refine tkA 7 hHeld ?_
       refine tkA 8 hHeld ?_
       refine tkA 9 hHeld ?_
       refine tkA 10 hHeld ?_
       refine rcA 11 fun K hK => ?_
       go_simp
       refine (HFd.out _ (g1.ownInts 0 rfl)).mono ?_
       rintro (e : Ending) w5 ⟨rfl, rfl⟩
       show K _ _
       refine outA hK ?_ fun hHeld => ?_
       ·exact ⟨g1.box2 1 rfl, by have := (g1.ownCell 0 rfl (q := k) (by rw [Hcl.out]; exact a2)).1; rwa [vec_nat, HX0.out] at this⟩
       clear hK K
       refine tkA 12 hHeld ?_
       refine tkA 13 hHeld ?_
       refine wpAnyH_done (by kernel_rfl) ?_ _
       clear hHeld
       clear g g0
       go_wp2
       go_roundw
       case rel => exact ⟨j + 1, cur, by go_num, by omega, Hl2.out, Hl3.out, HX2, HS2, g1⟩
       case measure => simp [intOf]; omega
      ·have hF0 : F < 0 := Int.not_le.1 (fun h => hm2 (hfd.1 h))
       have hst : stp n D x cur j = cur ++ [j] := by unfold stp; rw [if_pos ⟨fun h => h0 (he.trans h), hm2⟩]
       rw [hst] at HS2 HX2 Hl2 Hl3
       have HSm := Lib.hid (show (cur ++ [j]).map Int.ofNat = cur.map Int.ofNat ++ [(j : Int)] by rw [List.map_append]; rfl)
       have Hl1 := Lib.hid (show (cur.map Int.ofNat).length + 1 ≤ 17592186044416 by rw [Hcl.out]; omega)
       clear he hst hfd hm2
       go_upto_region 8 with fail
       clear z0 z1
       refine wp_region_held_drew (S := fun w' => (w'.cell? ⟨w.heap.size, 0, none⟩ = some (.int .i64 n) ∧ w'.cell? ⟨w.heap.size, 1, none⟩ = some (.slice A D.length k0)) ∧ w'.cell? ⟨g6, k, none⟩ = some (.int .i64 x)) (by kernel_rfl) ⟨g0.box2 1 rfl, pc⟩ (fun hHeld => ?_)
       refine tkA 0 hHeld ?_
       refine tkA 1 hHeld ?_
       refine tkA 2 hHeld ?_
       refine tkA 3 hHeld ?_
       refine tkA 4 hHeld ?_
       refine tkA 5 hHeld ?_
       refine rcA 6 fun K hK => ?_
       go_simp
       refine (HA3.out _ (g0.roInts 2 rfl)).mono ?_
       rintro (e : Ending) w4 ⟨rfl, hb4⟩
       have g1 := g0.on hb4
       show K _ _
       refine outA hK ?_ fun hHeld => ?_
       ·exact ⟨g1.box2 1 rfl, by have := (g1.ownCell 0 rfl (q := k) (by rw [Hcl.out]; exact a2)).1; rwa [vec_nat, HX0.out] at this⟩
       clear hK K
       refine tkA 7 hHeld ?_
       refine tkA 8 hHeld ?_
       refine tkA 9 hHeld ?_
       refine tkA 10 hHeld ?_
       refine rcA 11 fun K hK => ?_
       go_simp
       refine (HFd.out _ (g1.ownInts 0 rfl)).mono ?_
       rintro (e : Ending) w5 ⟨rfl, rfl⟩
       show K _ _
       refine outA hK ?_ fun hHeld => ?_
       ·exact ⟨g1.box2 1 rfl, by have := (g1.ownCell 0 rfl (q := k) (by rw [Hcl.out]; exact a2)).1; rwa [vec_nat, HX0.out] at this⟩
       clear hK K
       refine tkA 12 hHeld ?_
       refine tkA 13 hHeld ?_
       refine wpAnyH_done (by kernel_rfl) ?_ _
       clear hHeld
       clear g g0
       obtain ⟨CI, hCI⟩ : ∃ CI, CI = cur.map Int.ofNat := ⟨_, rfl⟩
       rw [← hCI] at HSm Hl1 g1
       clear hCI
       go_wp2_with (at_builtin; refine wp_append_ints rfl (.tmp 36) (.tmp 38) rfl w.heap.size _ _ CI [(j : Int)] rfl rfl ((g1.alloc' _).own 0 rfl) Ints.one Hl1.out (g1.alloc' _).size ?_; intro v1 w7 ho1 hg1 hb1; have h4 := (g1.alloc' _).appended 0 rfl ho1 hg1 hb1)
       go_roundw
       case rel => exact ⟨j + 1, cur ++ [j], by go_num, by omega, Hl2.out, Hl3.out, HX2, HS2, by rw [HSm.out]; exact h4⟩
       case measure => simp [intOf]; omega
    ·obtain rfl : j = n := by omega
     have hGc := HS.out.trans (stp_end j D x cur)
     subst hGc
     go_wp2
     go_roundw
     case rel => exact ⟨k + 1, f, G, by go_num, by omega, HL2.out, HN2, HB2, HM2, g⟩
     case measure => simp [intOf]; omega
  ·have hRo : R = out := by
    have := HM.out
    cases f with
    | zero => exact this
    | succ f =>
     unfold partF at this
     rw [if_neg (by omega)] at this
     exact this
   have HRo := Lib.hid hRo
   clear hRo hm hml
   go_wp2
   go_ret
   exact ⟨_, rfl, by rw [HRo.out]; exact g.own 0 rfl, g.below⟩
end Car
end Go.Proofs.YtbnefjhljfbecaaGreatDoor
