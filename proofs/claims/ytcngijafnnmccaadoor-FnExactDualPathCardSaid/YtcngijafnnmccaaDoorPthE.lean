/- Paths: sums of weights (l5Plus, listPlus) and ends (l9End). -/
import Derived.Test.YtcngijafnnmccaaDoorPthJ
namespace Go.Proofs.YtcngijafnnmccaaDoor
set_option maxRecDepth 100000
open Go.RowKit
namespace Stp
open Car

/-- The list of f's values. -/
def mapI (n : Nat) (f : Nat → Int) : List Int := (List.range n).map f
theorem length_mapI (n : Nat) (f : Nat → Int) : (mapI n f).length = n := by simp [mapI]
theorem vec_mapI (n : Nat) (f : Nat → Int) {i : Nat} (h : i < n) : vec (mapI n f) i = f i := by
  unfold mapI vec
  rw [List.getD_eq_getElem?_getD, List.getElem?_map, List.getElem?_range h]
  rfl
theorem mapI_congr {n : Nat} {f g : Nat → Int} (h : ∀ i, i < n → f i = g i) : mapI n f = mapI n g := by
  unfold mapI
  apply List.map_congr_left
  intro i hi
  exact h i (List.mem_range.1 hi)
/-- A list whose first k places are new. -/
def fillTo (f : Nat → Int) (X : List Int) (k : Nat) : List Int := mapI X.length fun i => if i < k then f i else vec X i
theorem length_fillTo (f : Nat → Int) (X : List Int) (k : Nat) : (fillTo f X k).length = X.length := length_mapI _ _
theorem mapI_vec (X : List Int) : mapI X.length (vec X) = X := by
  apply List.ext_getElem?
  intro i
  unfold mapI vec
  rw [List.getElem?_map]
  by_cases h : i < X.length
  · rw [List.getElem?_range h, List.getElem?_eq_getElem h]
    simp [List.getD, List.getElem?_eq_getElem h]
  · rw [List.getElem?_eq_none (by simp; omega), List.getElem?_eq_none (by omega)]
    rfl
theorem fillTo_zero (f : Nat → Int) (X : List Int) : fillTo f X 0 = X := by
  unfold fillTo
  rw [mapI_congr (g := vec X) (fun i _ => if_neg (by omega)), mapI_vec]
theorem fillTo_end (f : Nat → Int) (X : List Int) : fillTo f X X.length = mapI X.length f := by
  unfold fillTo
  exact mapI_congr fun i h => if_pos h
theorem vec_fillTo (f : Nat → Int) (X : List Int) (k : Nat) (h : k < X.length) : vec (fillTo f X k) k = vec X k := by
  unfold fillTo
  rw [vec_mapI _ _ h, if_neg (by omega)]
theorem fillTo_set (f : Nat → Int) (X : List Int) (k : Nat) (h : k < X.length) : (fillTo f X k).set k (f k) = fillTo f X (k + 1) := by
  apply List.ext_getElem?
  intro i
  rw [List.getElem?_set, length_fillTo]
  unfold fillTo mapI
  by_cases e : k = i
  · subst e
    rw [if_pos rfl, if_pos h, List.getElem?_map, List.getElem?_range h]
    simp
  · rw [if_neg e, List.getElem?_map, List.getElem?_map]
    by_cases hi : i < X.length
    · rw [List.getElem?_range hi]
      simp only [Option.map_some, Option.some.injEq]
      by_cases h1 : i < k
      · rw [if_pos h1, if_pos (by omega)]
      · rw [if_neg h1, if_neg (by omega)]
    · rw [List.getElem?_eq_none (by simp; omega)]
      rfl
theorem mul_bd2 {x y : Int} (h1 : -83160 ≤ x ∧ x ≤ 83160) (h2 : -1000 ≤ y ∧ y ≤ 1000) : -83160000 ≤ x * y ∧ x * y ≤ 83160000 := by
  have h : (x * y).natAbs ≤ 83160 * 1000 := by
    rw [Int.natAbs_mul]
    exact Nat.mul_le_mul (by omega) (by omega)
  omega
theorem vecAll {d : List Int} (h : ∀ x ∈ d, -1000 ≤ x ∧ x ≤ 1000) (i : Nat) : -1000 ≤ vec d i ∧ vec d i ≤ 1000 := by
  by_cases hi : i < d.length
  · exact vecIn hi h
  · unfold vec
    rw [List.getD_eq_getElem?_getD, List.getElem?_eq_none (by omega)]
    decide
/-- A multiple of one list is added to another. -/
def pluF (X : List Int) (c : Int) (Y : List Int) (i : Nat) : Int := vec X i + c * vec Y i

set_option maxHeartbeats 4000000 in
theorem l5Plus_any (c : Int) (x y : Value) (X Y : List Int) (w : World) (hx : Ints w x X) (hy : Ints w y Y) (hl : Y.length = X.length) (hn : X.length ≤ 100)
    (hX : ∀ i, i < X.length → -4989600000 ≤ vec X i ∧ vec X i ≤ 4989600000) (hY : ∀ i, -1000 ≤ vec Y i ∧ vec Y i ≤ 1000) (hc : -83160 ≤ c ∧ c ≤ 83160) :
    Calls Tryd.prog 69 #[x, .int .i64 c, y] w (RetOwn w (mapI X.length (pluF X c Y))) := by
  have g := ((St.start w).arg hx).arg hy
  obtain ⟨A, cx, rfl, _, _, _⟩ := id hx
  obtain ⟨A2, cy, rfl, _, _, _⟩ := id hy
  have HL := Lib.hid (fun W x => l1Ints_any (.slice A X.length cx) X W x (by omega))
  obtain ⟨R, hR⟩ : ∃ R, R = mapI X.length (pluF X c Y) := ⟨_, rfl⟩
  have HR := Lib.hid (hR.trans (fillTo_end _ _).symm)
  have H0 := Lib.hid (fillTo_zero (pluF X c Y) X)
  rw [← hR]
  obtain ⟨xl, hxl⟩ : ∃ xl, xl = X.length := ⟨_, rfl⟩
  have Hxl := Lib.hid hxl
  rw [hl]
  rw [hl] at g
  have Hyl := Lib.hid (show xl = Y.length by rw [hl, hxl])
  rw [← hxl] at g HL HR hX hn ⊢
  have HX := Lib.hid hX
  have HY := Lib.hid hY
  clear hx hy hl hX hY hR hxl
  go_enter Tryd.func69, Tryd.ntmps69
  go_wp2_with fail
  refine (HL.out _ (g.roInts 1 rfl)).mono ?_
  rintro (e : Ending) w3 ⟨u3, rfl, ho3, hb3⟩
  obtain ⟨Au, nu, cu, rfl⟩ := ho3.slice
  have g4 : St w w3 [.own (.slice Au nu cu) (fillTo (pluF X c Y) X 0), .ro (.slice A2 xl cy) Y, .ro (.slice A xl cx) X] := by
    rw [H0.out]
    exact g.pushOwn hb3 ho3
  clear ho3 hb3 g
  go_wp2
  go_loopw [8] (fun v8 wr => ∃ k : Nat, v8 = .int .i64 k ∧ k ≤ xl ∧ St w wr [.own (.slice Au nu cu) (fillTo (pluF X c Y) X k), .ro (.slice A2 xl cy) Y, .ro (.slice A xl cx) X]) (fun v8 _ => xl - (intOf v8).toNat)
  case atStart => exact ⟨0, rfl, by omega, g4⟩
  case round =>
    clear g4
    obtain ⟨k, rfl, a1, g⟩ := hrel
    by_cases hk : k < xl
    · have hXk := HX.out k hk
      have hYk := HY.out k
      have b6 := mul_bd2 hc hYk
      have HT2 := Lib.hid (show pluF X c Y k = vec X k + c * vec Y k from rfl)
      have hfs := fillTo_set (pluF X c Y) X k (by rw [← Hxl.out]; exact hk)
      have hvf := vec_fillTo (pluF X c Y) X k (by rw [← Hxl.out]; exact hk)
      have hlf := length_fillTo (pluF X c Y) X k
      obtain ⟨LL, hLL⟩ : ∃ LL, LL = fillTo (pluF X c Y) X k := ⟨_, rfl⟩
      rw [← hLL] at g hfs hvf hlf
      obtain ⟨T, hT⟩ : ∃ T, T = vec X k := ⟨_, rfl⟩
      obtain ⟨y, hy⟩ : ∃ y, y = vec Y k := ⟨_, rfl⟩
      obtain ⟨T2, hT2⟩ : ∃ T2, T2 = pluF X c Y k := ⟨_, rfl⟩
      rw [← hT] at hXk hvf HT2
      rw [← hy] at hYk b6 HT2
      rw [← hT2] at hfs HT2
      obtain ⟨z, hz⟩ : ∃ z, z = c * y := ⟨_, rfl⟩
      rw [← hz] at b6 HT2
      have hLk : k < LL.length := by rw [hlf, ← Hxl.out]; exact hk
      obtain ⟨gx, rfl, hnx⟩ := g.ownSome 0 rfl (by omega)
      rw [hlf, ← Hxl.out] at hnx
      obtain ⟨bq, oq, rfl, -, -⟩ := (g.ro 1 rfl).cell (k := k) (by rw [← Hyl.out]; exact hk)
      have HC := Lib.hid (fun (W : World) (L : List It) (h : St w W (.own (.slice (some ⟨gx, 0, none⟩) nu cu) LL :: L)) => show W.cell? ⟨gx, k, none⟩ = some (.int .i64 T) ∧ W.frozen? ⟨gx, k, none⟩ = false by
        have := h.ownCell 0 rfl (q := k) hLk
        rwa [hvf] at this)
      have HYc := Lib.hid (fun (W : World) (o1 : It) (L : List It) (h : St w W (o1 :: .ro (.slice (some ⟨bq, oq, none⟩) xl cy) Y :: L)) => show W.cell? ⟨bq, oq + k, none⟩ = some (.int .i64 y) by
        have := h.roCell 1 rfl (q := k) (by rw [← Hyl.out]; exact hk)
        rwa [← hy] at this)
      have ik : (k : Int) < (xl : Int) := by omega
      have ikn : (k : Int) < (nu : Int) := by omega
      have w1 : IntKind.i64.wrap (c * y) = z := by rw [← hz]; exact wrap_ok (by omega) (by omega)
      have w2 : IntKind.i64.wrap (T + z) = T2 := by rw [HT2.out]; exact wrap_ok (by omega) (by omega)
      have w3 : wrap64 (c * y) = z := by rw [← hz]; unfold wrap64; omega
      have w4 : T + z = T2 := HT2.out.symm
      have w5 : wrap64 T2 = T2 := by rw [HT2.out]; unfold wrap64; omega
      have Hfs := Lib.hid hfs
      clear hXk hYk hvf hlf hLL hT hy hT2 hz hLk hnx HT2 hfs
      go_upto_region 5 with fail
      have g0 := g.drew
      clear g
      refine wp_region_cut (S := fun w' => w'.cell? ⟨gx, k, none⟩ = some (.int .i64 T) ∧ w'.cell? ⟨bq, oq + k, none⟩ = some (.int .i64 y)) 14 (by kernel_rfl) (by kernel_rfl) ⟨(HC.out _ _ g0).1, HYc.out _ _ _ g0⟩ (fun hHeld => ?_)
      simp only [List.take_succ_cons, List.take_zero]
      obtain ⟨v0, hv0, g8⟩ : ∃ v0, v0 = wr.drew ∧ St w v0 _ := ⟨_, rfl, g0⟩
      rw [← hv0] at g0 hHeld ⊢
      clear hv0 g8
      refine anyH_take (v := ?_) 0 rfl (by kernel_rfl) (by kernel_rfl) (by kernel_rfl) (fun _ _ _ h => h) rfl ?_ hHeld ?_
      rotate_left
      · intro w' hSw
        go_simp
        try with_reducible rfl
      try simp only [Act.put, List.setIfInBounds_toArray, List.set_cons_zero, List.set_cons_succ]
      refine anyH_take (v := ?_) 1 rfl (by kernel_rfl) (by kernel_rfl) (by kernel_rfl) (fun _ _ _ h => h) rfl ?_ hHeld ?_
      rotate_left
      · intro w' hSw
        go_simp
        try with_reducible rfl
      try simp only [Act.put, List.setIfInBounds_toArray, List.set_cons_zero, List.set_cons_succ]
      refine anyH_take (v := ?_) 2 rfl (by kernel_rfl) (by kernel_rfl) (by kernel_rfl) (fun _ _ _ h => h) rfl ?_ hHeld ?_
      rotate_left
      · intro w' hSw
        go_simp
        try with_reducible rfl
      try simp only [Act.put, List.setIfInBounds_toArray, List.set_cons_zero, List.set_cons_succ]
      refine anyH_take (v := ?_) 3 rfl (by kernel_rfl) (by kernel_rfl) (by kernel_rfl) (fun _ _ _ h => h) rfl ?_ hHeld ?_
      rotate_left
      · intro w' hSw
        go_simp
        try with_reducible rfl
      try simp only [Act.put, List.setIfInBounds_toArray, List.set_cons_zero, List.set_cons_succ]
      refine anyH_take (v := ?_) 4 rfl (by kernel_rfl) (by kernel_rfl) (by kernel_rfl) (fun _ _ _ h => h) rfl ?_ hHeld ?_
      rotate_left
      · intro w' hSw
        go_simp
        try with_reducible rfl
      try simp only [Act.put, List.setIfInBounds_toArray, List.set_cons_zero, List.set_cons_succ]
      refine anyH_take (v := ?_) 5 rfl (by kernel_rfl) (by kernel_rfl) (by kernel_rfl) (fun _ _ _ h => h) rfl ?_ hHeld ?_
      rotate_left
      · intro w' hSw
        go_simp
        try with_reducible rfl
      try simp only [Act.put, List.setIfInBounds_toArray, List.set_cons_zero, List.set_cons_succ]
      refine anyH_take (v := ?_) 6 rfl (by kernel_rfl) (by kernel_rfl) (by kernel_rfl) (fun _ _ _ h => h) rfl ?_ hHeld ?_
      rotate_left
      · intro w' hSw
        go_simp
        try with_reducible rfl
      try simp only [Act.put, List.setIfInBounds_toArray, List.set_cons_zero, List.set_cons_succ]
      refine anyH_take (v := ?_) 7 rfl (by kernel_rfl) (by kernel_rfl) (by kernel_rfl) (fun _ _ _ h => h) rfl ?_ hHeld ?_
      rotate_left
      · intro w' hSw
        go_simp
        try with_reducible rfl
      try simp only [Act.put, List.setIfInBounds_toArray, List.set_cons_zero, List.set_cons_succ]
      refine anyH_take (v := ?_) 8 rfl (by kernel_rfl) (by kernel_rfl) (by kernel_rfl) (fun _ _ _ h => h) rfl ?_ hHeld ?_
      rotate_left
      · intro w' hSw
        go_simp
        try with_reducible rfl
      try simp only [Act.put, List.setIfInBounds_toArray, List.set_cons_zero, List.set_cons_succ]
      refine anyH_take (v := ?_) 9 rfl (by kernel_rfl) (by kernel_rfl) (by kernel_rfl) (fun _ _ _ h => h) rfl ?_ hHeld ?_
      rotate_left
      · intro w' hSw
        go_simp
        try with_reducible rfl
      try simp only [Act.put, List.setIfInBounds_toArray, List.set_cons_zero, List.set_cons_succ]
      refine anyH_take (v := ?_) 10 rfl (by kernel_rfl) (by kernel_rfl) (by kernel_rfl) (fun _ _ _ h => h) rfl ?_ hHeld ?_
      rotate_left
      · intro w' hSw
        go_simp
        try with_reducible rfl
      try simp only [Act.put, List.setIfInBounds_toArray, List.set_cons_zero, List.set_cons_succ]
      refine anyH_take (v := ?_) 11 rfl (by kernel_rfl) (by kernel_rfl) (by kernel_rfl) (fun _ _ _ h => h) rfl ?_ hHeld ?_
      rotate_left
      · intro w' hSw
        go_simp
        try with_reducible rfl
      try simp only [Act.put, List.setIfInBounds_toArray, List.set_cons_zero, List.set_cons_succ]
      refine anyH_take (v := ?_) 12 rfl (by kernel_rfl) (by kernel_rfl) (by kernel_rfl) (fun _ _ _ h => h) rfl ?_ hHeld ?_
      rotate_left
      · intro w' hSw
        go_simp
        try with_reducible rfl
      try simp only [Act.put, List.setIfInBounds_toArray, List.set_cons_zero, List.set_cons_succ]
      refine anyH_take (v := ?_) 13 rfl (by kernel_rfl) (by kernel_rfl) (by kernel_rfl) (fun _ _ _ h => h) rfl ?_ hHeld ?_
      rotate_left
      · intro w' hSw
        go_simp
        try with_reducible rfl
      try simp only [Act.put, List.setIfInBounds_toArray, List.set_cons_zero, List.set_cons_succ]
      refine wpAnyH_done (by kernel_rfl) ?_ _
      show wpList _ _ _ _ _ _
      simp only [List.drop_succ_cons, List.drop_zero]
      clear hHeld
      obtain ⟨q0, q1⟩ := HC.out _ _ g0
      go_wp2
      go_roundw
      case rel => exact ⟨k + 1, by go_num, by omega, by rw [← Hfs.out]; exact g0.set 0 rfl k T2⟩
      case measure => simp [intOf]; omega
    · obtain rfl : xl = k := by omega
      rw [← HR.out] at g
      go_wp2
      go_ret
      exact ⟨_, rfl, g.own 0 rfl, g.below⟩
set_option maxHeartbeats 4000000 in
theorem listPlus_any (c : Int) (x y : Value) (X Y : List Int) (w : World) (hx : Ints w x X) (hy : Ints w y Y) (hl : Y.length = X.length) (hn : X.length ≤ 100)
    (hX : ∀ i, i < X.length → -4989600000 ≤ vec X i ∧ vec X i ≤ 4989600000) (hY : ∀ i, -1000 ≤ vec Y i ∧ vec Y i ≤ 1000) (hc : -83160 ≤ c ∧ c ≤ 83160) :
    Calls Tryd.prog 70 #[x, .int .i64 c, y] w (RetOwn w (mapI X.length (pluF X c Y))) := by
  have g := ((St.start w).arg hx).arg hy
  obtain ⟨A, cx, rfl, _, _, _⟩ := id hx
  obtain ⟨A2, cy, rfl, _, _, _⟩ := id hy
  have HL := Lib.hid (fun W x => Clone_any (.slice A X.length cx) X W x (by omega))
  obtain ⟨R, hR⟩ : ∃ R, R = mapI X.length (pluF X c Y) := ⟨_, rfl⟩
  have HR := Lib.hid (hR.trans (fillTo_end _ _).symm)
  have H0 := Lib.hid (fillTo_zero (pluF X c Y) X)
  rw [← hR]
  obtain ⟨xl, hxl⟩ : ∃ xl, xl = X.length := ⟨_, rfl⟩
  have Hxl := Lib.hid hxl
  rw [hl]
  rw [hl] at g
  have Hyl := Lib.hid (show xl = Y.length by rw [hl, hxl])
  rw [← hxl] at g HL HR hX hn ⊢
  have HX := Lib.hid hX
  have HY := Lib.hid hY
  clear hx hy hl hX hY hR hxl
  go_enter Tryd.func70, Tryd.ntmps70
  go_wp2_with fail
  refine (HL.out _ (g.roInts 1 rfl)).mono ?_
  rintro (e : Ending) w3 ⟨u3, rfl, ho3, hb3⟩
  obtain ⟨Au, nu, cu, rfl⟩ := ho3.slice
  have g4 : St w w3 [.own (.slice Au nu cu) (fillTo (pluF X c Y) X 0), .ro (.slice A2 xl cy) Y, .ro (.slice A xl cx) X] := by
    rw [H0.out]
    exact g.pushOwn hb3 ho3
  clear ho3 hb3 g
  go_wp2
  go_loopw [14] (fun v8 wr => ∃ k : Nat, v8 = .int .i64 k ∧ k ≤ xl ∧ St w wr [.own (.slice Au nu cu) (fillTo (pluF X c Y) X k), .ro (.slice A2 xl cy) Y, .ro (.slice A xl cx) X]) (fun v8 _ => xl - (intOf v8).toNat)
  case atStart => exact ⟨0, rfl, by omega, g4⟩
  case round =>
    clear g4
    obtain ⟨k, rfl, a1, g⟩ := hrel
    by_cases hk : k < xl
    · have hXk := HX.out k hk
      have hYk := HY.out k
      have b6 := mul_bd2 hc hYk
      have HT2 := Lib.hid (show pluF X c Y k = vec X k + c * vec Y k from rfl)
      have hfs := fillTo_set (pluF X c Y) X k (by rw [← Hxl.out]; exact hk)
      have hvf := vec_fillTo (pluF X c Y) X k (by rw [← Hxl.out]; exact hk)
      have hlf := length_fillTo (pluF X c Y) X k
      obtain ⟨LL, hLL⟩ : ∃ LL, LL = fillTo (pluF X c Y) X k := ⟨_, rfl⟩
      rw [← hLL] at g hfs hvf hlf
      obtain ⟨T, hT⟩ : ∃ T, T = vec X k := ⟨_, rfl⟩
      obtain ⟨y, hy⟩ : ∃ y, y = vec Y k := ⟨_, rfl⟩
      obtain ⟨T2, hT2⟩ : ∃ T2, T2 = pluF X c Y k := ⟨_, rfl⟩
      rw [← hT] at hXk hvf HT2
      rw [← hy] at hYk b6 HT2
      rw [← hT2] at hfs HT2
      obtain ⟨z, hz⟩ : ∃ z, z = c * y := ⟨_, rfl⟩
      rw [← hz] at b6 HT2
      have hLk : k < LL.length := by rw [hlf, ← Hxl.out]; exact hk
      obtain ⟨gx, rfl, hnx⟩ := g.ownSome 0 rfl (by omega)
      rw [hlf, ← Hxl.out] at hnx
      obtain ⟨bq, oq, rfl, -, -⟩ := (g.ro 1 rfl).cell (k := k) (by rw [← Hyl.out]; exact hk)
      have HC := Lib.hid (fun (W : World) (L : List It) (h : St w W (.own (.slice (some ⟨gx, 0, none⟩) nu cu) LL :: L)) => show W.cell? ⟨gx, k, none⟩ = some (.int .i64 T) ∧ W.frozen? ⟨gx, k, none⟩ = false by
        have := h.ownCell 0 rfl (q := k) hLk
        rwa [hvf] at this)
      have HYc := Lib.hid (fun (W : World) (o1 : It) (L : List It) (h : St w W (o1 :: .ro (.slice (some ⟨bq, oq, none⟩) xl cy) Y :: L)) => show W.cell? ⟨bq, oq + k, none⟩ = some (.int .i64 y) by
        have := h.roCell 1 rfl (q := k) (by rw [← Hyl.out]; exact hk)
        rwa [← hy] at this)
      have ik : (k : Int) < (xl : Int) := by omega
      have ikn : (k : Int) < (nu : Int) := by omega
      have w1 : IntKind.i64.wrap (c * y) = z := by rw [← hz]; exact wrap_ok (by omega) (by omega)
      have w2 : IntKind.i64.wrap (T + z) = T2 := by rw [HT2.out]; exact wrap_ok (by omega) (by omega)
      have w3 : wrap64 (c * y) = z := by rw [← hz]; unfold wrap64; omega
      have w4 : T + z = T2 := HT2.out.symm
      have w5 : wrap64 T2 = T2 := by rw [HT2.out]; unfold wrap64; omega
      have Hfs := Lib.hid hfs
      clear hXk hYk hvf hlf hLL hT hy hT2 hz hLk hnx HT2 hfs
      obtain ⟨q0, q1⟩ := HC.out _ _ g
      have q2 := HYc.out _ _ _ g
      have g0 := g
      clear g
      go_wp2
      go_roundw
      case rel => exact ⟨k + 1, by go_num, by omega, by rw [← Hfs.out]; exact g0.set 0 rfl k T2⟩
      case measure => simp [intOf]; omega
    · obtain rfl : xl = k := by omega
      rw [← HR.out] at g
      go_wp2
      go_ret
      exact ⟨_, rfl, g.own 0 rfl, g.below⟩

end Stp
end Go.Proofs.YtcngijafnnmccaaDoor
