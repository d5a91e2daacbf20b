import Derived.Test.YtbnefjhljfbecaaGreatDoorW07
import Derived.Test.YtbnefjhljfbecaaGreatDoorW24
import Derived.Test.YtbnefjhljfbecaaGreatDoorW31
namespace Go.Proofs.YtbnefjhljfbecaaGreatDoor
set_option maxRecDepth 100000
section
open Go.RowKit
def mulRow (p : Int) (m c : Nat) (D E : List Int) (a k : Nat) : List Int := sumMTo p c (rowM m D a) (rowsM m c E) k
def mulRows (p : Int) (r m c : Nat) (D E : List Int) (i k : Nat) : List (List Int) := (List.range r).map fun a => if a < i then mulRow p m c D E a m else if a = i then mulRow p m c D E a k else List.replicate c 0
def mulD (p : Int) (r m c : Nat) (D E : List Int) : List Int := flat c (mulRows p r m c D E r 0)
theorem length_mulRows (p : Int) (r m c : Nat) (D E : List Int) (i k : Nat) : (mulRows p r m c D E i k).length = r := by simp [mulRows]
theorem rowOf_mulRows {p : Int} {r m c : Nat} {D E : List Int} {i k a : Nat} (ha : a < r) : rowOf (mulRows p r m c D E i k) a = if a < i then mulRow p m c D E a m else if a = i then mulRow p m c D E a k else List.replicate c 0 := by
 simp [rowOf, mulRows, List.getD_eq_getElem?_getD, ha]
theorem mulRow_ok {p : Int} (hp : 2 ≤ p) (m c : Nat) (D E : List Int) (a : Nat) {k : Nat} (hk : k ≤ m) : (mulRow p m c D E a k).length = c ∧ resid p (mulRow p m c D E a k) = true :=
 sumMTo_ok hp (fun i hi => by rw [length_rowsM] at hi; rw [rowOf_rowsM hi]; exact length_rowM _ _ _) k (by rw [length_rowsM]; exact hk)
theorem resid_zeros {p : Int} (hp : 2 ≤ p) (c : Nat) : resid p (List.replicate c 0) = true := resid_iff.2 fun i hi => by
 have : vec (List.replicate c 0) i = 0 := by simp [vec, List.getD_eq_getElem?_getD, List.getElem?_replicate]; split <;> rfl
 rw [this]; omega
theorem Wf_mulRows {p : Int} (hp : 2 ≤ p) (r m c : Nat) (D E : List Int) (i : Nat) {k : Nat} (hk : k ≤ m) : Wf p c (mulRows p r m c D E i k) := fun a ha => by
 rw [length_mulRows] at ha
 rw [rowOf_mulRows ha]
 split
 ·exact mulRow_ok hp m c D E a (Nat.le_refl _)
 ·split
  ·exact mulRow_ok hp m c D E a hk
  ·exact ⟨by simp, resid_zeros hp c⟩
theorem mulRows_step {p : Int} {r m c : Nat} {D E : List Int} {i k : Nat} (hi : i < r) : (mulRows p r m c D E i k).set i (mulRow p m c D E i (k + 1)) = mulRows p r m c D E i (k + 1) := by
 refine rows_ext (by simp [length_mulRows]) fun a ha => ?_
 rw [List.length_set, length_mulRows] at ha
 rw [rowOf_set (by rw [length_mulRows]; exact hi), rowOf_mulRows ha, rowOf_mulRows ha]
 by_cases e : i = a
 ·subst e; simp
 ·rw [if_neg e]
  by_cases e1 : a < i
  ·rw [if_pos e1, if_pos e1]
  ·rw [if_neg e1, if_neg e1, if_neg (fun h => e h.symm), if_neg (fun h => e h.symm)]
theorem mulRows_row {p : Int} {r m c : Nat} {D E : List Int} (i : Nat) : mulRows p r m c D E i m = mulRows p r m c D E (i + 1) 0 := by
 refine rows_ext (by simp [length_mulRows]) fun a ha => ?_
 rw [length_mulRows] at ha
 rw [rowOf_mulRows ha, rowOf_mulRows ha]
 by_cases e1 : a < i
 ·rw [if_pos e1, if_pos (by omega)]
 ·rw [if_neg e1]
  by_cases e2 : a = i
  ·subst e2; rw [if_pos rfl, if_pos (by omega)]
  ·rw [if_neg e2, if_neg (by omega)]
   by_cases e3 : a = i + 1
   ·rw [if_pos e3]; rfl
   ·rw [if_neg e3]
theorem mulRows_same {p : Int} {r m c : Nat} {D E : List Int} {i k : Nat} (h : vec (rowM m D i) k = 0) : mulRows p r m c D E i (k + 1) = mulRows p r m c D E i k := by
 refine rows_ext (by simp [length_mulRows]) fun a ha => ?_
 rw [length_mulRows] at ha
 rw [rowOf_mulRows ha, rowOf_mulRows ha]
 by_cases e : a = i
 ·subst e
  simp [mulRow, sumMTo, h]
 ·rw [if_neg e, if_neg e]
theorem mulRow_next {p : Int} {m c : Nat} {D E : List Int} {i k : Nat} (hk : k < m) (h : vec (rowM m D i) k ≠ 0) : mulRow p m c D E i (k + 1) = addL (mulRow p m c D E i k) (vec (rowM m D i) k) (rowM c E k) p := by
 show (if vec (rowM m D i) k = 0 then _ else addL (sumMTo p c (rowM m D i) (rowsM m c E) k) (vec (rowM m D i) k) (rowOf (rowsM m c E) k) p) = _
 rw [if_neg h, rowOf_rowsM hk]
 rfl
theorem flat_mulRows_zero (p : Int) (r m c : Nat) (D E : List Int) : flat c (mulRows p r m c D E 0 0) = List.replicate (r * c) 0 := by
 refine list_ext (by rw [length_flat, length_mulRows]; simp) fun q hq => ?_
 rw [length_flat, length_mulRows] at hq
 have hc : 0 < c := by
  rcases Nat.eq_zero_or_pos c with h | h
  ·subst h; simp at hq
  ·exact h
 rw [flat, length_mulRows, vec_tab hq, rowOf_mulRows (by rw [Nat.div_lt_iff_lt_mul hc]; exact hq)]
 have z : ∀ (n j : Nat), vec (List.replicate n 0) j = 0 := fun n j => by simp [vec, List.getD_eq_getElem?_getD, List.getElem?_replicate]; split <;> rfl
 rw [if_neg (Nat.not_lt_zero _), z]
 split
 ·exact z _ _
 ·exact z _ _
theorem length_mulD (p : Int) (r m c : Nat) (D E : List Int) : (mulD p r m c D E).length = r * c := by rw [mulD, length_flat, length_mulRows]
theorem resid_mulD {p : Int} (hp : 2 ≤ p) (r m c : Nat) (D E : List Int) : resid p (mulD p r m c D E) = true := resid_flat (by omega) (Wf_mulRows hp r m c D E r (Nat.zero_le _))
def setPart (L : List Int) (o : Nat) (l : List Int) : List Int := L.take o ++ l ++ L.drop (o + l.length)
theorem flat_parts {p : Int} {C : Nat} {rows : List (List Int)} (h : Wf p C rows) {i : Nat} (hi : i < rows.length) :
  ((flat C rows).drop (i * C)).take C = rowOf rows i ∧ ∀ l : List Int, l.length = C → resid p l = true → setPart (flat C rows) (i * C) l = flat C (rows.set i l) := by
 have h1 : (rows.take i).flatten.length = i * C := by
  have hw : ∀ l ∈ rows.take i, l.length = C := fun l hl => by
   obtain ⟨j, hj, rfl⟩ := List.mem_iff_getElem.1 (List.mem_of_mem_take hl)
   rw [rowOf_eq hj]; exact (h j hj).1
  have key : ∀ ll : List (List Int), (∀ l ∈ ll, l.length = C) → ll.flatten.length = ll.length * C := fun ll => by
   induction ll with
   | nil => intro _; simp
   | cons x ll ih => intro hx; rw [List.flatten_cons, List.length_append, ih (fun l hl => hx l (by simp [hl])), hx x (by simp), List.length_cons, Nat.succ_mul]; omega
  rw [key _ hw, List.length_take, Nat.min_eq_left (by omega)]
 have hrow := (h i hi).1
 have hs : rows = rows.take i ++ (rowOf rows i :: rows.drop (i + 1)) := by
  rw [← rowOf_eq hi, List.getElem_cons_drop, List.take_append_drop]
 have hf : flat C rows = (rows.take i).flatten ++ (rowOf rows i ++ (rows.drop (i + 1)).flatten) := by
  rw [flat_flatten h]
  conv => lhs; rw [hs]
  rw [List.flatten_append, List.flatten_cons]
 refine ⟨?_, fun l hl hr => ?_⟩
 ·rw [hf, List.drop_left' h1, List.take_left' hrow]
 ·have hset : rows.set i l = rows.take i ++ (l :: rows.drop (i + 1)) := by rw [List.set_eq_take_append_cons_drop, if_pos hi]
  rw [flat_flatten (h.set hi hl hr), hset, List.flatten_append, List.flatten_cons, setPart, hf, hl]
  rw [List.take_left' h1, ← List.append_assoc (rows.take i).flatten (rowOf rows i), List.drop_left' (by rw [List.length_append, h1, hrow]), List.append_assoc]
theorem cutOwn {g cap r c i : Nat} (hcap : r * c ≤ cap) (hi : i < r) :
  ∃ A' k', (∀ W : World, (Instr.sliceAt 22 (.slice (some ⟨g, 0, none⟩) (r * c) cap) (some (.int .i64 ((i : Int) * c))) (some (.int .i64 (((i : Int) + 1) * c))) none).run Tryz.prog W = .ok (.slice A' c k') W) ∧ (0 < c → A' = some ⟨g, i * c, none⟩) := by
 have hb := row_bd (c := c) hi
 obtain ⟨t, h3, _, h4, _⟩ := info_parts infoI
 refine ⟨if cap = i * c then some ⟨g, 0, none⟩ else (some (⟨g, 0, none⟩ : Addr)).map (·.add (i * c)), cap - i * c, fun W => ?_, fun hc => ?_⟩
 ·rw [show ((i : Int) + 1) * c = ((i * c + c : Nat) : Int) from by rw [Int.add_mul, Int.one_mul]; simp, show (i : Int) * c = ((i * c : Nat) : Int) from by simp]
  rw [run_sliceAt_slice W 22 _ _ _ _ sliceI, run_slice_lh W 22 _ (r * c) cap sliceI .i64 .i64 ((i * c : Nat) : Int) ((i * c + c : Nat) : Int) (by omega) (by omega) (by omega)]
  have e1 : ((i : Int) * c).toNat = i * c := by rw [← Int.natCast_mul]; exact Int.toNat_natCast _
  have e2 : ((i : Int) * c + c).toNat = i * c + c := by rw [← Int.natCast_mul, ← Int.natCast_add]; exact Int.toNat_natCast _
  simp [sizeOf, typeInfo, h3, h4, sliced, Result.andThen, e1, e2]
 ·rw [if_neg (by omega)]
  simp only [Option.map_some, Addr.add, Nat.zero_add]
  try (split <;> simp_all)
set_option maxHeartbeats 1000000 in
theorem addTo_part (A' : Option Addr) (k' : Nat) (u : Value) (L ys : List Int) (k p : Int) (lo g cap o n : Nat) (w : World) (hv : Own w lo (.slice (some ⟨g, 0, none⟩) L.length cap) L) (hA : 0 < n → A' = some ⟨g, o, none⟩) (ho : o + n ≤ L.length)
  (hu : Ints w u ys) (hne : 0 < ys.length → u.ownBlock ≠ some g) (hlen : ys.length = n) (hln : n ≤ 1099511627776)
  (hp : 2 ≤ p) (hp' : p ≤ 10007) (hk : 0 ≤ k) (hk' : k ≤ p) (hl : resid p ((L.drop o).take n) = true) (hy : resid p ys = true) :
  Calls Tryz.prog 111 #[.slice A' n k', .int .i64 k, u, .int .i64 p] w fun e w' => e = .returned (.tuple #[]) ∧ Own w' lo (.slice (some ⟨g, 0, none⟩) L.length cap) (setPart L o (addL ((L.drop o).take n) k ys p)) ∧ w.grownBy w' (some g) := by
 have hln2 : ((L.drop o).take n).length = n := by rw [List.length_take, List.length_drop]; omega
 obtain ⟨l, hl2⟩ : ∃ l, l = (L.drop o).take n := ⟨_, rfl⟩
 rw [← hl2] at hln2 hl ⊢
 have hll := length_addL l k ys p (by rw [hlen, hln2])
 rcases id hv.2 with ⟨h0, _⟩ | ⟨g2, cap2, cur, he, hb, hg, hn, hm, hsz, htake⟩
 ·simp at h0
 ·simp only [Value.slice.injEq, Option.some.injEq, Addr.mk.injEq, and_true, true_and] at he
  obtain ⟨rfl, rfl⟩ := he
  have hcl : cur.toList.length = cap := by simpa using hsz
  rw [Nat.mul_one] at htake
  have e := addTo_sub A' k' u l ys k p w g o cur.toList (fun h => hA (by omega)) (fun h => ⟨hg, fun i x hx => ?_⟩) hu hne (by rw [hlen, hln2]) (by omega) hp hp' hk hk' hl hy
  ·rw [hln2] at e
   refine e.mono ?_
   rintro e w' ⟨rfl, hh, hgr, hsame⟩
   refine ⟨rfl, ?_, hgr⟩
   by_cases h0 : 0 < n
   ·have hlp : (setPart L o (addL l k ys p)).length = L.length := by
     rw [setPart, List.length_append, List.length_append, List.length_take, List.length_drop, hll, hln2]; omega
    refine ⟨by rw [List.length_map, hlp, Nat.mul_one], .inr ⟨g, cap, _, by rw [hlp], hb, hh (by omega), by rw [hlp]; omega, hm, ?_, ?_⟩⟩
    ·simp only [List.size_toArray, Nat.mul_one]
     rw [length_splice _ _ _ (by rw [List.length_map, hll, hln2]; omega), hcl]
    ·have hc2 : cur.toList = L.map (Value.int .i64) ++ cur.toList.drop L.length := by rw [← htake, List.take_append_drop]
     have hml : (L.map (Value.int IntKind.i64)).length = L.length := by simp
     rw [hlp, Nat.mul_one]
     show (splice cur.toList o ((addL l k ys p).map (Value.int .i64))).take L.length = _
     rw [hc2]
     simp only [splice, setPart, List.map_append, List.length_map]
     rw [show (L.map (Value.int IntKind.i64) ++ cur.toList.drop L.length).take o = (L.map (Value.int IntKind.i64)).take o from List.take_append_of_le_length (by rw [hml]; omega), show (L.map (Value.int IntKind.i64) ++ cur.toList.drop L.length).drop (o + (addL l k ys p).length) = (L.map (Value.int IntKind.i64)).drop (o + (addL l k ys p).length) ++ cur.toList.drop L.length from List.drop_append_of_le_length (by rw [hml, hll, hln2]; omega), ← List.append_assoc, ← List.append_assoc, List.take_left' (by simp only [List.length_append, List.length_take, List.length_drop, List.length_map, hll, hln2]; omega)]
     rw [List.map_take, List.map_drop]
   ·have e0 : addL l k ys p = [] := List.eq_nil_of_length_eq_zero (by omega)
    rw [hsame (by omega), e0, setPart, List.length_nil, Nat.add_zero, List.append_nil, List.take_append_drop]
    exact hv
  ·have hi := (List.getElem?_eq_some_iff.1 hx).1
   have h2 : (cur.toList.take L.length)[o + i]? = cur.toList[o + i]? := by rw [List.getElem?_take, if_pos (by omega)]
   rw [← h2, htake, List.getElem?_map]
   rw [hl2, List.getElem?_take, if_pos (by omega), List.getElem?_drop] at hx
   rw [hx]; rfl
set_option maxHeartbeats 4000000 in
theorem times_any (p q r2 : Int) (r m c : Nat) (t s : Value) (D E : List Int) (w : World) (ht : Ints w t D) (hs : Ints w s E) (hD : D.length = r * m) (hE : E.length = m * c) (hr : r ≤ 40) (hm : m ≤ 40) (hc : c ≤ 40) (hp : 2 ≤ p) (hp' : p ≤ 10007) (rD : resid p D = true) (rE : resid p E = true) :
  Calls Tryz.prog 83 #[.agg #[.int .i64 p, .int .i64 r, .int .i64 m, t], .agg #[.int .i64 q, .int .i64 r2, .int .i64 c, s]] w (RetMat w p r c (mulD p r m c D E)) := by
 have h1 := (((((St.start w).arg ht).arg hs).box [.int .i64 p, .int .i64 r, .int .i64 m, t] 32).box [.int .i64 q, .int .i64 r2, .int .i64 c, s] 32).box [.int .i64 0, .int .i64 0, .int .i64 0, .slice none 0 0] 32
 simp only [World.size_alloc] at h1
 obtain ⟨A, k0, rfl, _, _, _⟩ := id ht
 obtain ⟨A2, k2, rfl, _, _, _⟩ := id hs
 have hrc := mul_le hr hc
 have hrm := mul_le hr hm
 have hmc := mul_le hm hc
 have hmk := makeI2 r c (by omega)
 have n1 : 0 ≤ (r : Int) * c ∧ (r : Int) * c ≤ 1600 := by
  have : ((r * c : Nat) : Int) = (r : Int) * c := Int.natCast_mul _ _
  omega
 have HDl := Lib.hid hD
 have HEl := Lib.hid hE
 have HZ := Lib.hid (flat_mulRows_zero p r m c D E)
 clear ht hs hD hE
 go_enter Tryz.func83, Tryz.ntmps83
 go_upto_region 1 with fail
 generalize hW0 : (((w.alloc (.cells #[.int .i64 p, .int .i64 r, .int .i64 m, .slice A D.length k0] 32)).alloc (.cells #[.int .i64 q, .int .i64 r2, .int .i64 c, .slice A2 E.length k2] 32)).alloc (.cells #[.int .i64 0, .int .i64 0, .int .i64 0, .slice none 0 0] 32)) = W0 at h1 ⊢
 clear hW0
 go_cut [5] (fun s5 wx => ∃ (bx g : Nat), s5 = .pointer (some ⟨bx, 0, none⟩) ∧ St w wx [.box bx [.int .i64 p, .int .i64 r, .int .i64 c, .slice (some ⟨g, 0, none⟩) (r * c) (r * c)], .own (.slice (some ⟨g, 0, none⟩) (r * c) (r * c)) (List.replicate (r * c) 0), .box (w.heap.size + 1 + 1) [.int .i64 0, .int .i64 0, .int .i64 0, .slice none 0 0], .box (w.heap.size + 1) [.int .i64 q, .int .i64 r2, .int .i64 c, .slice A2 E.length k2], .box w.heap.size [.int .i64 p, .int .i64 r, .int .i64 m, .slice A D.length k0], .ro (.slice A2 E.length k2) E, .ro (.slice A D.length k0) D])
 case first =>
  have g0 := h1.drew
  refine wp_region_cut (S := fun w' => (w'.cell? ⟨w.heap.size, 0, none⟩ = some (.int .i64 p) ∧ w'.cell? ⟨w.heap.size, 1, none⟩ = some (.int .i64 r) ∧ w'.cell? ⟨w.heap.size, 2, none⟩ = some (.int .i64 m) ∧ w'.cell? ⟨w.heap.size, 3, none⟩ = some (.slice A D.length k0)) ∧ w'.cell? ⟨w.heap.size + 1, 0, none⟩ = some (.int .i64 q) ∧ w'.cell? ⟨w.heap.size + 1, 1, none⟩ = some (.int .i64 r2) ∧ w'.cell? ⟨w.heap.size + 1, 2, none⟩ = some (.int .i64 c) ∧ w'.cell? ⟨w.heap.size + 1, 3, none⟩ = some (.slice A2 E.length k2)) 14 (by kernel_rfl) (by kernel_rfl) ⟨g0.box4 2 rfl, g0.box4 1 rfl⟩ (fun hHeld => ?_)
  simp only [List.take_succ_cons, List.take_zero]
  generalize W0.drew = y0 at g0 hHeld ⊢
  clear h1
  have hwr : IntKind.i64.wrap ((r : Int) * c) = (r : Int) * c := wrap_ok (by omega) (by omega)
  refine tkA 0 hHeld ?_
  refine tkA 1 hHeld ?_
  refine tkA 2 hHeld ?_
  refine tkA 3 hHeld ?_
  refine tkA 4 hHeld ?_
  refine tkA 5 hHeld ?_
  refine tkA 6 hHeld ?_
  refine tkA 7 hHeld ?_
  refine tkA 8 hHeld ?_
  refine tkA 9 hHeld ?_
  refine tkA 10 hHeld ?_
  refine wpAnyH_ready (rs := [11, 13]) (by kernel_rfl) (by simp) ?_
  refine ready_cons rfl (fun K hK => ?_) (ready_cons rfl (fun K hK => ?_) AllReadyH.nil)
  ·go_simp
   have g1 := g0.zeros (r * c) (by omega)
   refine hK.out _ _ ?_ (fun hHeld => ?_)
   ·exact ⟨g1.box4 3 rfl, g1.box4 2 rfl⟩
   clear hK K
   generalize World.alloc y0 (.cells (zeros (r * c)) 3) = y1 at g1 hHeld ⊢
   try simp only [Act.put, List.setIfInBounds_toArray, List.set_cons_zero, List.set_cons_succ]
   refine tkA 12 hHeld ?_
   refine rcA 13 fun K hK => ?_
   ·go_simp
    have g2 := g1.box [.int .i64 0, .int .i64 0, .int .i64 0, .slice none 0 0] 32
    refine hK.out _ _ ?_ (fun hHeld => ?_)
    ·exact ⟨g2.box4 4 rfl, g2.box4 3 rfl⟩
    clear hK K
    generalize World.alloc y1 (.cells #[.int .i64 0, .int .i64 0, .int .i64 0, .slice none 0 0] 32) = y2 at g2 hHeld ⊢
    try simp only [Act.put, List.setIfInBounds_toArray, List.set_cons_zero, List.set_cons_succ]
    obtain ⟨p0, p1, p2, p3⟩ := g2.box4 0 rfl
    have f0 := g2.free 0 rfl 0
    have f1 := g2.free 0 rfl 1
    have f2 := g2.free 0 rfl 2
    have f3 := g2.free 0 rfl 3
    have q1 := (((g2.setBox 0 rfl 0 (.int .i64 p)).setBox 0 rfl 1 (.int .i64 r)).setBox 0 rfl 2 (.int .i64 c)).setBox 0 rfl 3 (.slice (some ⟨y0.heap.size, 0, none⟩) (r * c) (r * c))
    refine wpAnyH_done (by kernel_rfl) ?_ _
    show wpList _ _ _ _ _ _
    simp only [List.drop_succ_cons, List.drop_zero]
    go_wp2_with fail
    go_meet
    exact ⟨_, _, rfl, q1⟩
  ·go_simp
   have g1 := g0.box [.int .i64 0, .int .i64 0, .int .i64 0, .slice none 0 0] 32
   refine hK.out _ _ ?_ (fun hHeld => ?_)
   ·exact ⟨g1.box4 3 rfl, g1.box4 2 rfl⟩
   clear hK K
   generalize World.alloc y0 (.cells #[.int .i64 0, .int .i64 0, .int .i64 0, .slice none 0 0] 32) = y1 at g1 hHeld ⊢
   try simp only [Act.put, List.setIfInBounds_toArray, List.set_cons_zero, List.set_cons_succ]
   refine rcA 11 fun K hK => ?_
   ·go_simp
    have g2 := g1.zeros (r * c) (by omega)
    refine hK.out _ _ ?_ (fun hHeld => ?_)
    ·exact ⟨g2.box4 4 rfl, g2.box4 3 rfl⟩
    clear hK K
    generalize World.alloc y1 (.cells (zeros (r * c)) 3) = y2 at g2 hHeld ⊢
    try simp only [Act.put, List.setIfInBounds_toArray, List.set_cons_zero, List.set_cons_succ]
    refine tkA 12 hHeld ?_
    obtain ⟨p0, p1, p2, p3⟩ := g2.box4 1 rfl
    have f0 := g2.free 1 rfl 0
    have f1 := g2.free 1 rfl 1
    have f2 := g2.free 1 rfl 2
    have f3 := g2.free 1 rfl 3
    have q1 := (((g2.setBox 1 rfl 0 (.int .i64 p)).setBox 1 rfl 1 (.int .i64 r)).setBox 1 rfl 2 (.int .i64 c)).setBox 1 rfl 3 (.slice (some ⟨y1.heap.size, 0, none⟩) (r * c) (r * c))
    refine wpAnyH_done (by kernel_rfl) ?_ _
    show wpList _ _ _ _ _ _
    simp only [List.drop_succ_cons, List.drop_zero]
    go_wp2_with fail
    go_meet
    exact ⟨_, _, rfl, q1.toFront 1 rfl⟩
 case rest =>
 clear h1
 obtain ⟨bx, g, rfl, h1⟩ := hcut
 rw [← HZ.out] at h1
 obtain ⟨z0, z1, z2, z3⟩ := h1.box4 0 rfl
 obtain ⟨x0, x1, x2, x3⟩ := h1.box4 4 rfl
 go_wp2
 clear z0 z1 z2 z3 x0 x1 x2 x3
 go_loopw [25] (fun v25 wr => ∃ i : Nat, v25 = .int .i64 i ∧ i ≤ r ∧ St w wr [.box bx [.int .i64 p, .int .i64 r, .int .i64 c, .slice (some ⟨g, 0, none⟩) (r * c) (r * c)], .own (.slice (some ⟨g, 0, none⟩) (r * c) (r * c)) (flat c (mulRows p r m c D E i 0)), .box (w.heap.size + 1 + 1) [.int .i64 0, .int .i64 0, .int .i64 0, .slice none 0 0], .box (w.heap.size + 1) [.int .i64 q, .int .i64 r2, .int .i64 c, .slice A2 E.length k2], .box w.heap.size [.int .i64 p, .int .i64 r, .int .i64 m, .slice A D.length k0], .ro (.slice A2 E.length k2) E, .ro (.slice A D.length k0) D]) (fun v25 _ => r - (intOf v25).toNat)
 case atStart => exact ⟨0, rfl, by omega, h1⟩
 case round =>
  clear h1
  obtain ⟨i, rfl, a1, h1⟩ := hrel
  obtain ⟨z0, z1, z2, z3⟩ := h1.box4 0 rfl
  obtain ⟨x0, x1, x2, x3⟩ := h1.box4 4 rfl
  obtain ⟨y0, y1, y2, y3⟩ := h1.box4 3 rfl
  by_cases hi : i < r
  ·obtain ⟨A9, k9, hrun, hA9⟩ := cutOwn (g := g) (cap := r * c) (r := r) (c := c) (i := i) (Nat.le_refl _) hi
   obtain ⟨m1, m2, m3, m4⟩ := row_int (c := c) hi (show r * c ≤ 1600 by omega)
   go_wp2
   clear z0 z1 z2 z3 x0 x1 x2 x3 y0 y1 y2 y3
   go_loopw [42] (fun v42 wr => ∃ k : Nat, v42 = .int .i64 k ∧ k ≤ m ∧ St w wr [.box bx [.int .i64 p, .int .i64 r, .int .i64 c, .slice (some ⟨g, 0, none⟩) (r * c) (r * c)], .own (.slice (some ⟨g, 0, none⟩) (r * c) (r * c)) (flat c (mulRows p r m c D E i k)), .box (w.heap.size + 1 + 1) [.int .i64 0, .int .i64 0, .int .i64 0, .slice none 0 0], .box (w.heap.size + 1) [.int .i64 q, .int .i64 r2, .int .i64 c, .slice A2 E.length k2], .box w.heap.size [.int .i64 p, .int .i64 r, .int .i64 m, .slice A D.length k0], .ro (.slice A2 E.length k2) E, .ro (.slice A D.length k0) D]) (fun v42 _ => m - (intOf v42).toNat)
   case atStart => exact ⟨0, rfl, by omega, h1⟩
   case round =>
    clear h1
    obtain ⟨k, rfl, a2, h1⟩ := hrel
    obtain ⟨z0, z1, z2, z3⟩ := h1.box4 0 rfl
    obtain ⟨x0, x1, x2, x3⟩ := h1.box4 4 rfl
    obtain ⟨y0, y1, y2, y3⟩ := h1.box4 3 rfl
    by_cases hk : k < m
    ·have hbd := row_bd (c := m) hi
     have hlt : i * m + k < D.length := by rw [HDl.out]; omega
     obtain ⟨s1, s2, s3, s4⟩ := row_int (c := m) hi (show r * m ≤ 1600 by omega)
     obtain ⟨b, off, rfl, _, e1⟩ := (h1.ro 6 rfl).cell hlt
     have hat : (i : Int) * m + k = ((i * m + k : Nat) : Int) := by simp
     obtain ⟨x, hx⟩ : ∃ x, x = vec D (i * m + k) := ⟨_, rfl⟩
     have hxr : x = vec (rowM m D i) k := by rw [hx, rowM, vec_tab hk]
     have hxb := resid_vec rD hlt
     rw [← hx] at e1 hxb
     obtain ⟨qq, hqq⟩ : ∃ qq, qq = i * m + k := ⟨_, rfl⟩
     rw [← hqq] at hat hlt e1
     have HX := Lib.hid hxr
     clear hx hxr hqq hbd
     by_cases hx0 : x = 0
     ·have t1 : (x != 0) = false := by simp [hx0]
      have HM := Lib.hid (mulRows_same (p := p) (r := r) (c := c) (E := E) (show vec (rowM m D i) k = 0 by rw [← HX.out]; exact hx0))
      clear hx0
      go_wp2
      go_roundw
      case rel => exact ⟨k + 1, by go_num, by omega, by rw [HM.out]; exact h1⟩
      case measure => simp [intOf]; omega
     ·have t1 : (x != 0) = true := by simp [hx0]
      obtain ⟨A3, k3, hrun3, hA3⟩ := cutRow (h1.drew.ro 5 rfl) HEl.out hk
      obtain ⟨u1, u2, u3, u4⟩ := row_int (c := c) hk (show m * c ≤ 1600 by omega)
      have HM := Lib.hid (mulRow_next (p := p) (c := c) (E := E) hk (show vec (rowM m D i) k ≠ 0 by rw [← HX.out]; exact hx0))
      have HP := Lib.hid (flat_parts (Wf_mulRows hp r m c D E i (show k ≤ m by omega)) (i := i) (by rw [length_mulRows]; exact hi))
      have HR : Hid (rowOf (mulRows p r m c D E i k) i = mulRow p m c D E i k) := by
       show _ = _
       rw [rowOf_mulRows hi, if_neg (by omega), if_pos rfl]
      have HLn : Hid ((flat c (mulRows p r m c D E i k)).length = r * c) := by show _ = _; rw [length_flat, length_mulRows]
      have HA3 := Lib.hid hA3
      clear hA3
      go_upto_region 11 with fail
      clear z0 z1 z2 z3 x0 x1 x2 x3 y0 y1 y2 y3 e1
      have g0 := h1.drew
      have hw1 : IntKind.i64.wrap ((k : Int) * c) = (k : Int) * c := wrap_ok (by omega) (by omega)
      have hw2 : IntKind.i64.wrap ((k : Int) + 1) = (k : Int) + 1 := wrap_ok (by omega) (by omega)
      have hw3 : IntKind.i64.wrap (((k : Int) + 1) * c) = ((k : Int) + 1) * c := wrap_ok (by omega) (by omega)
      refine wp_region_cut (S := fun w' => (w'.cell? ⟨w.heap.size, 0, none⟩ = some (.int .i64 p) ∧ w'.cell? ⟨w.heap.size, 1, none⟩ = some (.int .i64 r) ∧ w'.cell? ⟨w.heap.size, 2, none⟩ = some (.int .i64 m) ∧ w'.cell? ⟨w.heap.size, 3, none⟩ = some (.slice (some ⟨b, off, none⟩) D.length k0)) ∧ w'.cell? ⟨w.heap.size + 1, 0, none⟩ = some (.int .i64 q) ∧ w'.cell? ⟨w.heap.size + 1, 1, none⟩ = some (.int .i64 r2) ∧ w'.cell? ⟨w.heap.size + 1, 2, none⟩ = some (.int .i64 c) ∧ w'.cell? ⟨w.heap.size + 1, 3, none⟩ = some (.slice A2 E.length k2)) 16 (by kernel_rfl) (by kernel_rfl) ⟨g0.box4 4 rfl, g0.box4 3 rfl⟩ (fun hHeld => ?_)
      simp only [List.take_succ_cons, List.take_zero]
      refine tkA 0 hHeld ?_
      refine tkA 1 hHeld ?_
      refine tkA 2 hHeld ?_
      refine tkA 3 hHeld ?_
      refine tkA 4 hHeld ?_
      refine tkA 5 hHeld ?_
      refine tkA 6 hHeld ?_
      refine tkA 7 hHeld ?_
      refine tkA 8 hHeld ?_
      refine tkA 9 hHeld ?_
      refine tkA 10 hHeld ?_
      refine tkA 11 hHeld ?_
      refine tkA 12 hHeld ?_
      refine tkA 13 hHeld ?_
      refine tkA 14 hHeld ?_
      refine tkA 15 hHeld ?_
      refine wpAnyH_done (by kernel_rfl) ?_ _
      show wpList _ _ _ _ _ _
      simp only [List.drop_succ_cons, List.drop_zero]
      clear hHeld
      have hrow := row_bd (c := c) hi
      have ho1 : Own _ w.heap.size (.slice (some ⟨g, 0, none⟩) (flat c (mulRows p r m c D E i k)).length (r * c)) (flat c (mulRows p r m c D E i k)) := (by rw [HLn.out]; exact g0.own 1 rfl)
      go_wp2_with fail
      refine (addTo_part A9 k9 (.slice A3 c k3) (flat c (mulRows p r m c D E i k)) (rowM c E k) x p w.heap.size g (r * c) (i * c) c _ ho1 hA9 (by rw [HLn.out]; omega) HA3.out.ints (fun h e => ?_) (length_rowM _ _ _) (by omega) hp hp' hxb.1 (by omega) (by rw [HP.out.1, HR.out]; exact (mulRow_ok hp m c D E i (by omega)).2) (resid_rowM (by omega) rE c k)).mono ?_
      ·obtain ⟨b', off', c', he, hbb⟩ := HA3.out.2 h
       have := (ho1.lt g rfl).1
       rw [he] at e
       simp [Value.ownBlock] at e
       omega
      rintro (e : Ending) w3 ⟨rfl, ho, hg⟩
      rw [HP.out.1, HR.out, HX.out, ← HM.out, HP.out.2 _ (mulRow_ok hp m c D E i (by omega)).1 (mulRow_ok hp m c D E i (by omega)).2, mulRows_step hi, HLn.out] at ho
      have h2 := g0.wrote 1 rfl ho hg
      clear g0 h1 ho hg ho1
      go_wp2
      go_roundw
      case rel => exact ⟨k + 1, by go_num, by omega, h2⟩
      case measure => simp [intOf]; omega
    ·obtain rfl : k = m := by omega
     rw [mulRows_row] at h1
     go_wp2
     go_roundw
     case rel => exact ⟨i + 1, by go_num, by omega, h1⟩
     case measure => simp [intOf]; omega
  ·obtain rfl : i = r := by omega
   have f0 := h1.free 2 rfl 0
   have f1 := h1.free 2 rfl 1
   have f2 := h1.free 2 rfl 2
   have f3 := h1.free 2 rfl 3
   obtain ⟨v0, v1, v2, v3⟩ := h1.box4 2 rfl
   have h2 := (((h1.setBox 2 rfl 0 (.int .i64 p)).setBox 2 rfl 1 (.int .i64 i)).setBox 2 rfl 2 (.int .i64 c)).setBox 2 rfl 3 (.slice (some ⟨g, 0, none⟩) (i * c) (i * c))
   obtain ⟨r0, r1, r2', r3⟩ := h2.box4 2 rfl
   go_wp2
   refine bodyPost_ret (v := .agg #[.int .i64 p, .int .i64 i, .int .i64 c, .slice (some ⟨g, 0, none⟩) (i * c) (i * c)]) (by simp [results, Tryz.results83, go_sem, r0, r1, r2', r3]) rfl ⟨_, rfl, h2.own 1 rfl, h2.below⟩
end
section
open Go.RowKit
theorem mul_rng {x y p : Int} (hx : 0 ≤ x ∧ x < p) (hy : 0 ≤ y ∧ y < p) (hp : p ≤ 10007) : 0 ≤ x * y ∧ x * y ≤ 100140049 := by
 refine ⟨Int.mul_nonneg hx.1 hy.1, ?_⟩
 have h1 : x * y ≤ 10007 * y := Int.mul_le_mul_of_nonneg_right (by omega) hy.1
 omega
set_option maxHeartbeats 4000000 in
theorem l1Mul_any (p q r2 : Int) (r m c : Nat) (t s : Value) (D E : List Int) (w : World) (ht : Ints w t D) (hs : Ints w s E) (hr2 : r2 = m) (hD : D.length = r * m) (hE : E.length = m * c) (hr : r ≤ 40) (hm : m ≤ 40) (hc : c ≤ 40) (hp : 2 ≤ p) (hp' : p ≤ 10007) (rD : resid p D = true) (rE : resid p E = true) :
  Calls Tryz.prog 65 #[.agg #[.int .i64 p, .int .i64 r, .int .i64 m, t], .agg #[.int .i64 q, .int .i64 r2, .int .i64 c, s]] w (RetMat w p r c (mulD p r m c D E)) := by
 subst hr2
 have h1 := (((((St.start w).arg ht).arg hs).box [.int .i64 p, .int .i64 r, .int .i64 m, t] 32).box [.int .i64 q, .int .i64 m, .int .i64 c, s] 32).box [.int .i64 0, .int .i64 0, .int .i64 0, .slice none 0 0] 32
 simp only [World.size_alloc] at h1
 obtain ⟨A, k0, rfl, _, _, _⟩ := id ht
 obtain ⟨A2, k2, rfl, _, _, _⟩ := id hs
 have hrc := mul_le hr hc
 have hrm := mul_le hr hm
 have hmc := mul_le hm hc
 have HDl := Lib.hid hD
 have HEl := Lib.hid hE
 have HZ := Lib.hid (flat_mulRows_zero p r m c D E)
 clear ht hs hD hE
 obtain ⟨x0, x1, x2, x3⟩ := h1.box4 2 rfl
 obtain ⟨y0, y1, y2, y3⟩ := h1.box4 1 rfl
 go_enter Tryz.func65, Tryz.ntmps65
 go_wp2_with fail
 refine (l1Zero_any p r c _ (by omega)).mono ?_
 rintro (e : Ending) w1 ⟨u, rfl, ho, hb1⟩
 obtain ⟨A5, c5, rfl, _, _, _⟩ := id ho.ints
 rw [List.length_replicate] at ho ⊢
 replace h1 := (h1.pushOwn hb1 ho).box [.int .i64 p, .int .i64 r, .int .i64 c, .slice A5 (r * c) c5] 32
 clear ho hb1 x0 x1 x2 x3 y0 y1 y2 y3
 rw [← HZ.out] at h1
 go_wp2
 generalize w1.heap.size = B5 at h1 ⊢
 go_loopw [6] (fun v6 wr => ∃ i : Nat, v6 = .int .i64 i ∧ i ≤ r ∧ St w wr [.box B5 [.int .i64 p, .int .i64 r, .int .i64 c, .slice A5 (r * c) c5], .own (.slice A5 (r * c) c5) (flat c (mulRows p r m c D E i 0)), .box (w.heap.size + 1 + 1) [.int .i64 0, .int .i64 0, .int .i64 0, .slice none 0 0], .box (w.heap.size + 1) [.int .i64 q, .int .i64 m, .int .i64 c, .slice A2 E.length k2], .box w.heap.size [.int .i64 p, .int .i64 r, .int .i64 m, .slice A D.length k0], .ro (.slice A2 E.length k2) E, .ro (.slice A D.length k0) D]) (fun v6 _ => r - (intOf v6).toNat)
 case atStart => exact ⟨0, rfl, by omega, h1⟩
 case round =>
  clear h1
  obtain ⟨i, rfl, a1, h1⟩ := hrel
  obtain ⟨x0, x1, x2, x3⟩ := h1.box4 4 rfl
  by_cases hi : i < r
  ·go_wp2
   clear x0 x1 x2 x3
   go_loopw [7] (fun v7 wr => ∃ k : Nat, v7 = .int .i64 k ∧ k ≤ m ∧ St w wr [.box B5 [.int .i64 p, .int .i64 r, .int .i64 c, .slice A5 (r * c) c5], .own (.slice A5 (r * c) c5) (flat c (mulRows p r m c D E i k)), .box (w.heap.size + 1 + 1) [.int .i64 0, .int .i64 0, .int .i64 0, .slice none 0 0], .box (w.heap.size + 1) [.int .i64 q, .int .i64 m, .int .i64 c, .slice A2 E.length k2], .box w.heap.size [.int .i64 p, .int .i64 r, .int .i64 m, .slice A D.length k0], .ro (.slice A2 E.length k2) E, .ro (.slice A D.length k0) D]) (fun v7 _ => m - (intOf v7).toNat)
   case atStart => exact ⟨0, rfl, by omega, h1⟩
   case round =>
    clear h1
    obtain ⟨k, rfl, a2, h1⟩ := hrel
    obtain ⟨x0, x1, x2, x3⟩ := h1.box4 4 rfl
    by_cases hk : k < m
    ·go_wp2_with fail
     refine (l1At_any p r m _ D i k _ (h1.roInts 6 rfl) HDl.out (by omega) hi hk).mono ?_
     rintro (e : Ending) w2 ⟨rfl, hb1⟩
     replace h1 := h1.on hb1
     clear hb1 x0 x1 x2 x3
     have hlt : i * m + k < D.length := by rw [HDl.out]; have := row_bd (c := m) hi; omega
     obtain ⟨x, hx⟩ : ∃ x, x = vec D (i * m + k) := ⟨_, rfl⟩
     have hxr : x = vec (rowM m D i) k := by rw [hx, rowM, vec_tab hk]
     have hxb := resid_vec rD hlt
     rw [← hx] at hxb ⊢
     have HX := Lib.hid hxr
     clear hx hxr hlt
     by_cases hx0 : x = 0
     ·have HM := Lib.hid (mulRows_same (p := p) (r := r) (c := c) (E := E) (show vec (rowM m D i) k = 0 by rw [← HX.out]; exact hx0))
      subst hx0
      go_wp2
      go_loopw [9] (fun v9 wr => v9 = .int .i64 0 ∧ St w wr [.box B5 [.int .i64 p, .int .i64 r, .int .i64 c, .slice A5 (r * c) c5], .own (.slice A5 (r * c) c5) (flat c (mulRows p r m c D E i k)), .box (w.heap.size + 1 + 1) [.int .i64 0, .int .i64 0, .int .i64 0, .slice none 0 0], .box (w.heap.size + 1) [.int .i64 q, .int .i64 m, .int .i64 c, .slice A2 E.length k2], .box w.heap.size [.int .i64 p, .int .i64 r, .int .i64 m, .slice A D.length k0], .ro (.slice A2 E.length k2) E, .ro (.slice A D.length k0) D]) (fun _ _ => 0)
      case atStart => exact ⟨rfl, h1⟩
      case round =>
       clear h1
       obtain ⟨rfl, h1⟩ := hrel
       obtain ⟨y0, y1, y2, y3⟩ := h1.box4 3 rfl
       by_cases hc0 : (0 : Int) < c
       ·go_wp2
        go_roundw
        case rel => exact ⟨k + 1, by go_num, by omega, by rw [HM.out]; exact h1⟩
        case measure => simp [intOf]; omega
       ·go_wp2
        go_roundw
        case rel => exact ⟨k + 1, by go_num, by omega, by rw [HM.out]; exact h1⟩
        case measure => simp [intOf]; omega
     ·have t1 : (x != 0) = true := by simp [hx0]
      obtain ⟨old, hold⟩ : ∃ old, old = mulRow p m c D E i k := ⟨_, rfl⟩
      obtain ⟨new, hnew⟩ : ∃ new, new = mulRow p m c D E i (k + 1) := ⟨_, rfl⟩
      have hM := mulRow_next (p := p) (c := c) (E := E) hk (show vec (rowM m D i) k ≠ 0 by rw [← HX.out]; exact hx0)
      obtain ⟨o1, o2⟩ := mulRow_ok hp m c D E i (show k ≤ m by omega)
      obtain ⟨o3, o4⟩ := mulRow_ok hp m c D E i (show k + 1 ≤ m by omega)
      rw [← hold] at o1 o2 hM
      rw [← hnew] at o3 o4 hM
      rw [← HX.out] at hM
      have HM := Lib.hid hM
      have O1 := Lib.hid o1
      have O2 := Lib.hid o2
      have O3 := Lib.hid o3
      have HRow : Hid (rowOf (mulRows p r m c D E i k) i = old) := by
       show _ = _
       rw [rowOf_mulRows hi, if_neg (by omega), if_pos rfl, hold]
      have h1s : (mulRows p r m c D E i k).set i (mixTo c old new 0) = mulRows p r m c D E i k := by
       rw [mixTo_zero o1]
       refine rows_ext (by simp) fun a ha => ?_
       rw [rowOf_set (by rw [length_mulRows]; exact hi)]
       split
       ·rename_i e; rw [← e, HRow.out]
       ·rfl
      have h1e : (mulRows p r m c D E i k).set i (mixTo c old new c) = mulRows p r m c D E i (k + 1) := by
       rw [mixTo_end o3, hnew, mulRows_step hi]
      have HS := Lib.hid h1s
      have HEnd := Lib.hid h1e
      clear h1s h1e hM o1 o2 o3 o4 hold hnew hx0
      go_wp2
      rw [← HS.out] at h1
      go_loopw [9] (fun v9 wr => ∃ j : Nat, v9 = .int .i64 j ∧ j ≤ c ∧ St w wr [.box B5 [.int .i64 p, .int .i64 r, .int .i64 c, .slice A5 (r * c) c5], .own (.slice A5 (r * c) c5) (flat c ((mulRows p r m c D E i k).set i (mixTo c old new j))), .box (w.heap.size + 1 + 1) [.int .i64 0, .int .i64 0, .int .i64 0, .slice none 0 0], .box (w.heap.size + 1) [.int .i64 q, .int .i64 m, .int .i64 c, .slice A2 E.length k2], .box w.heap.size [.int .i64 p, .int .i64 r, .int .i64 m, .slice A D.length k0], .ro (.slice A2 E.length k2) E, .ro (.slice A D.length k0) D]) (fun v9 _ => c - (intOf v9).toNat)
      case atStart => exact ⟨0, rfl, by omega, h1⟩
      case round =>
       clear h1
       obtain ⟨j, rfl, a3, h1⟩ := hrel
       obtain ⟨y0, y1, y2, y3⟩ := h1.box4 3 rfl
       by_cases hj : j < c
       ·have hbd := row_bd (c := c) hi
        have hrl : i < (mulRows p r m c D E i k).length := by rw [length_mulRows]; exact hi
        have hml := length_mixTo c old new j
        have hLl : (flat c ((mulRows p r m c D E i k).set i (mixTo c old new j))).length = r * c := by rw [length_flat, List.length_set, length_mulRows]
        have hlt : i * c + j < (flat c ((mulRows p r m c D E i k).set i (mixTo c old new j))).length := by rw [hLl]; omega
        obtain ⟨s1, s2, s3, s4⟩ := row_int (c := c) hi (show r * c ≤ 1600 by omega)
        obtain ⟨g, rfl, hn9⟩ := h1.ownSomeA 1 rfl (by rw [hLl]; omega)
        have hrow : rowOf ((mulRows p r m c D E i k).set i (mixTo c old new j)) i = mixTo c old new j := by rw [rowOf_set hrl, if_pos rfl]
        have hv : vec (flat c ((mulRows p r m c D E i k).set i (mixTo c old new j))) (i * c + j) = vec old j := by
         rw [vec_flat (by rw [List.length_set]; exact hrl) hj, hrow]
         exact mixTo_ge (Nat.le_refl j) hj
        have hset := flat_set (C := c) (rows := (mulRows p r m c D E i k).set i (mixTo c old new j)) (vec new j) (by rw [List.length_set]; exact hrl) hj (by rw [hrow]; exact hml)
        rw [hrow, mixTo_set, List.set_set] at hset
        have hnj : vec new j = (vec old j + x * vec (rowM c E k) j) % p := by rw [HM.out]; exact vec_addL x p (by rw [length_rowM, O1.out]) (by rw [O1.out]; exact hj)
        have hy : vec (rowM c E k) j = vec E (k * c + j) := by rw [rowM, vec_tab hj]
        have hor := resid_vec O2.out (i := j) (by rw [O1.out]; exact hj)
        have hel : k * c + j < E.length := by rw [HEl.out]; have := row_bd (c := c) hk; omega
        have hyr := resid_vec rE hel
        rw [hnj, hy] at hset
        obtain ⟨xo, hxo⟩ : ∃ xo, xo = vec old j := ⟨_, rfl⟩
        obtain ⟨y, hyy⟩ : ∃ y, y = vec E (k * c + j) := ⟨_, rfl⟩
        rw [← hxo] at hor hv hset
        rw [← hyy] at hyr hset
        have hat : (i : Int) * c + j = ((i * c + j : Nat) : Int) := by simp
        have hxy := mul_rng hxb hyr hp'
        have HA := Lib.hid (show (∀ W, Ints W (.slice A2 E.length k2) E → Calls Tryz.prog 104 #[.agg #[.int .i64 q, .int .i64 m, .int .i64 c, .slice A2 E.length k2], .int .i64 k, .int .i64 j] W (fun e w' => e = .returned (.int .i64 y) ∧ Below W.heap.size W w')) from fun W hW => by rw [hyy]; exact l1At_any q m c _ E k j W hW HEl.out (by omega) hk hj)
        obtain ⟨qq, hqq⟩ : ∃ qq, qq = i * c + j := ⟨_, rfl⟩
        rw [← hqq] at hat hlt hset hv
        have iq : (qq : Int) < ((r * c : Nat) : Int) := by rw [← hLl]; omega
        have iq2 : (qq : Int) < (r : Int) * c := by rw [← Int.natCast_mul]; exact iq
        have HSet := Lib.hid hset
        have HV := Lib.hid hv
        have HLt := Lib.hid hlt
        have hw1 : IntKind.i64.wrap ((i : Int) * c) = (i : Int) * c := wrap_ok (by omega) (by omega)
        have hw2 : IntKind.i64.wrap ((qq : Nat) : Int) = qq := wrap_ok (by omega) (by omega)
        have hw3 : IntKind.i64.wrap (x * y) = x * y := wrap_ok (by omega) (by omega)
        have hw4 : IntKind.i64.wrap (xo + x * y) = xo + x * y := wrap_ok (by omega) (by omega)
        have hw5 : (xo + x * y).tmod p = (xo + x * y) % p := rem_ok (by omega)
        have hp0 : ¬ p = 0 := by omega
        have HWs := Lib.hid (show _ ∧ _ ∧ _ from ⟨hw3, hw4, hw5⟩)
        clear hbd hrl hml hLl hn9 hrow hnj hy hor hel hyr hxo hyy hqq hset hv hlt hw3 hw4 hw5
        go_wp2_with fail
        clear y0 y1 y2 y3
        have g0 := h1.drew
        have HC := Lib.hid (fun (W : World) (h : W.cell? ⟨g, qq, none⟩ = some (.int .i64 (vec (flat c ((mulRows p r m c D E i k).set i (mixTo c old new j))) qq))) => (show W.cell? ⟨g, qq, none⟩ = some (.int .i64 xo) by rw [← HV.out]; exact h))
        refine wp_region_cut (S := fun w' => (w'.cell? ⟨B5, 0, none⟩ = some (.int .i64 p) ∧ w'.cell? ⟨B5, 1, none⟩ = some (.int .i64 r) ∧ w'.cell? ⟨B5, 2, none⟩ = some (.int .i64 c) ∧ w'.cell? ⟨B5, 3, none⟩ = some (.slice (some ⟨g, 0, none⟩) (r * c) c5)) ∧ (w'.cell? ⟨w.heap.size + 1, 0, none⟩ = some (.int .i64 q) ∧ w'.cell? ⟨w.heap.size + 1, 1, none⟩ = some (.int .i64 m) ∧ w'.cell? ⟨w.heap.size + 1, 2, none⟩ = some (.int .i64 c) ∧ w'.cell? ⟨w.heap.size + 1, 3, none⟩ = some (.slice A2 E.length k2)) ∧ (w'.cell? ⟨w.heap.size, 0, none⟩ = some (.int .i64 p) ∧ w'.cell? ⟨w.heap.size, 1, none⟩ = some (.int .i64 r) ∧ w'.cell? ⟨w.heap.size, 2, none⟩ = some (.int .i64 m) ∧ w'.cell? ⟨w.heap.size, 3, none⟩ = some (.slice A D.length k0)) ∧ w'.cell? ⟨g, qq, none⟩ = some (.int .i64 xo)) 29 (by kernel_rfl) (by kernel_rfl) ⟨g0.box4 0 rfl, g0.box4 3 rfl, g0.box4 4 rfl, HC.out _ (g0.ownCellA 1 rfl HLt.out).1⟩ (fun hHeld => ?_)
        simp only [List.take_succ_cons, List.take_zero]
        refine tkA 0 hHeld ?_
        refine tkA 1 hHeld ?_
        refine tkA 2 hHeld ?_
        refine tkA 3 hHeld ?_
        refine tkA 4 hHeld ?_
        refine tkA 5 hHeld ?_
        refine tkA 6 hHeld ?_
        refine tkA 7 hHeld ?_
        refine tkA 8 hHeld ?_
        refine tkA 9 hHeld ?_
        refine tkA 10 hHeld ?_
        refine tkA 11 hHeld ?_
        refine tkA 12 hHeld ?_
        refine tkA 13 hHeld ?_
        refine tkA 14 hHeld ?_
        refine tkA 15 hHeld ?_
        refine tkA 16 hHeld ?_
        refine tkA 17 hHeld ?_
        refine tkA 18 hHeld ?_
        refine tkA 19 hHeld ?_
        refine tkA 20 hHeld ?_
        refine tkA 21 hHeld ?_
        refine tkA 25 hHeld ?_
        refine tkA 26 hHeld ?_
        refine rcA 22 fun K hK => ?_
        go_simp
        refine (HA.out _ (g0.roInts 5 rfl)).mono ?_
        rintro (e : Ending) w4 ⟨rfl, hb4⟩
        have g1 := g0.on hb4
        clear hb4
        show K _ _
        refine outA hK ?_ fun hHeld => ?_
        ·exact ⟨g1.box4 0 rfl, g1.box4 3 rfl, g1.box4 4 rfl, HC.out _ (g1.ownCellA 1 rfl HLt.out).1⟩
        clear hK K
        obtain ⟨hw3, hw4, hw5⟩ := HWs.out
        refine tkA 23 hHeld ?_
        refine tkA 24 hHeld ?_
        refine tkA 27 hHeld ?_
        refine tkA 28 hHeld ?_
        refine wpAnyH_done (by kernel_rfl) ?_ _
        show wpList _ _ _ _ _ _
        simp only [List.drop_succ_cons, List.drop_zero]
        clear hw3 hw4 hw5
        obtain ⟨v0, f0⟩ := g1.ownCellA 1 rfl HLt.out
        have h3 := g1.set 1 rfl qq ((xo + x * y) % p)
        clear h1 g0
        go_wp2
        go_roundw
        case rel => exact ⟨j + 1, by go_num, by omega, by rw [← HSet.out]; exact h3⟩
        case measure => simp [intOf]; omega
       ·obtain rfl : j = c := by omega
        rw [HEnd.out] at h1
        go_wp2
        go_roundw
        case rel => exact ⟨k + 1, by go_num, by omega, h1⟩
        case measure => simp [intOf]; omega
    ·obtain rfl : k = m := by omega
     rw [mulRows_row] at h1
     go_wp2
     go_roundw
     case rel => exact ⟨i + 1, by go_num, by omega, h1⟩
     case measure => simp [intOf]; omega
  ·obtain rfl : i = r := by omega
   have f0 := h1.free 2 rfl 0
   have f1 := h1.free 2 rfl 1
   have f2 := h1.free 2 rfl 2
   have f3 := h1.free 2 rfl 3
   obtain ⟨v0, v1, v2, v3⟩ := h1.box4 2 rfl
   obtain ⟨z0, z1, z2, z3⟩ := h1.box4 0 rfl
   have h2 := (((h1.setBox 2 rfl 0 (.int .i64 p)).setBox 2 rfl 1 (.int .i64 i)).setBox 2 rfl 2 (.int .i64 c)).setBox 2 rfl 3 (.slice A5 (i * c) c5)
   obtain ⟨r0, r1, r2', r3⟩ := h2.box4 2 rfl
   go_wp2
   refine bodyPost_ret (v := .agg #[.int .i64 p, .int .i64 i, .int .i64 c, .slice A5 (i * c) c5]) (by simp [results, Tryz.results65, go_sem, r0, r1, r2', r3]) rfl ⟨_, rfl, ?_, h2.below⟩
   have := h2.own 1 rfl
   exact this
end
end Go.Proofs.YtbnefjhljfbecaaGreatDoor
