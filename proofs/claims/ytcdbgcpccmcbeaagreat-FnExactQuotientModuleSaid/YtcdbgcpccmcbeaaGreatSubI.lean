/- Elements of spaces in the program: pivotsOf, reduceBy, IsSubspace. -/
import Derived.Test.YtcdbgcpccmcbeaaGreatRedV
import Derived.Test.YtcdbgcpccmcbeaaGreatCloA
namespace Go.Proofs.YtcdbgcpccmcbeaaGreat
set_option maxRecDepth 100000
open Go.RowKit

theorem idx_first (p : Int → Bool) : ∀ (l : List Int) (c : Nat) (i : Int), c < l.length → (∀ d, d < c → p (vec l d) = false) → p (vec l c) = true → idx p l i = i + c
  | [], c, i, h, _, _ => absurd h (Nat.not_lt_zero _)
  | x :: xs, 0, i, _, _, h => by
    have h' : p x = true := h
    rw [idx, if_pos h']; simp
  | x :: xs, c + 1, i, h, h0, h1 => by
    have h' : p x = false := h0 0 (by omega)
    rw [idx, if_neg (by simp [h']), idx_first p xs c (i + 1) (by simpa using h) (fun d hd => h0 (d + 1) (by omega)) h1]
    omega
theorem vec_pivI {piv : List Nat} {k : Nat} (h : k < piv.length) : vec (pivI piv) k = (pv piv k : Int) := by
  simp [vec, pivI, pv, List.getD_eq_getElem?_getD, h]
theorem take_piv {piv : List Nat} {k : Nat} (h : k < piv.length) : piv.take (k + 1) = piv.take k ++ [pv piv k] := by
  rw [List.take_succ_eq_append_getElem h]
  simp [pv, List.getD_eq_getElem?_getD, h]
theorem Rf.idx {p : Int} {n : Nat} {S : List (List Int)} {piv : List Nat} (h : Rf p n S piv) {i : Nat} (hi : i < piv.length) : Go.Proofs.YtcdbgcpccmcbeaaGreat.idx not0 (rowOf S i) 0 = (pv piv i : Int) := by
  have hl := (h.wf i (by rw [h.len]; exact hi)).1
  have := idx_first not0 (rowOf S i) (pv piv i) 0 (by rw [hl]; exact h.lt i hi) (fun d hd => by rw [h.lead i d hi hd]; rfl) (by rw [h.one i hi]; rfl)
  rw [this]; omega
theorem piv1_any (x : Int) (w : World) : Calls Tryz.prog 97 (#[.int .i64 x] ++ #[]) w fun e w' => e = .returned (.bool (not0 x)) ∧ w = w' := by
  show Calls Tryz.prog 97 #[.int .i64 x] w _
  go_enter Tryz.func97, Tryz.ntmps97
  go_wp2
  go_ret
  exact ⟨rfl, rfl⟩

set_option maxHeartbeats 1000000 in
theorem pivotsOf_any (p : Int) (n : Nat) (S : List (List Int)) (piv : List Nat) (t : Value) (w : World) (ht : Ints w t (flat n S)) (hS : Rf p n S piv) (hr : S.length ≤ 40) (hn : n ≤ 40) :
    Calls Tryz.prog 61 #[.agg #[.int .i64 p, .int .i64 S.length, .int .i64 n, t]] w (RetOwn w (pivI piv)) := by
  have h1 := ((St.start1 ht).box [.int .i64 p, .int .i64 S.length, .int .i64 n, t] 37).empty
  simp only [World.size_alloc] at h1
  obtain ⟨A, k, rfl, _, _, _⟩ := id ht
  have hb := mul_le hr hn
  have hDl := length_flat n S
  obtain ⟨r, er⟩ : ∃ r, r = S.length := ⟨_, rfl⟩
  obtain ⟨D, hD⟩ : ∃ D, D = flat n S := ⟨_, rfl⟩
  rw [← hD, ← er] at hDl
  rw [← er] at hb hr
  rw [← hD, ← er] at h1 ⊢
  have HD := Lib.hid hDl
  have HF := Lib.hid hD
  have Hr := Lib.hid er
  have HS := Lib.hid hS
  have hrp := hS.len
  rw [← er] at hrp
  have Hrp := Lib.hid hrp
  clear ht hDl hD er hS hrp
  obtain ⟨z0, z1, z2, z3⟩ := h1.box4 1 rfl
  go_enter Tryz.func61, Tryz.ntmps61
  go_wp2
  clear z0 z1 z2 z3
  go_loopw [3, 8] (fun vo vi wr => ∃ i : Nat, vi = .int .i64 i ∧ i ≤ r ∧ St w wr [.own vo (pivI (piv.take i)), .box w.heap.size [.int .i64 p, .int .i64 r, .int .i64 n, .slice A D.length k], .ro (.slice A D.length k) D]) (fun _ vi _ => r - (intOf vi).toNat)
  case atStart => exact ⟨0, rfl, by omega, h1⟩
  case round =>
    clear h1
    obtain ⟨i, rfl, a1, h1⟩ := hrel
    by_cases hi : i < r
    · have hip : i < piv.length := by rw [← Hrp.out]; exact hi
      have hrow : rowM n D i = rowOf S i := by rw [HF.out]; exact rowM_flat (by rw [← Hr.out]; exact hi) (HS.out.wf i (by rw [← Hr.out]; exact hi)).1
      have HIx := Lib.hid (show idx not0 (rowM n D i) 0 = (pv piv i : Int) by rw [hrow]; exact HS.out.idx hip)
      have HT := Lib.hid (take_piv hip)
      have hpl : (pivI (piv.take i)).length + 1 ≤ 17592186044416 := by rw [length_pivI, List.length_take]; omega
      have Hpl := Lib.hid hpl
      obtain ⟨A5, k5, hrun, hA5⟩ := cutRow (h1.ro 2 rfl) HD.out hi
      obtain ⟨n1, n2, n3, n4⟩ := row_int (c := n) hi hb
      clear hrow hpl hip
      obtain ⟨z0, z1, z2, z3⟩ := h1.box4 1 rfl
      go_wp2_with fail
      refine (IndexFunc_any _ _ not0 Tryz.call97 _ (rowM n D i) _ (fun x => piv1_any x _) hA5.ints).mono ?_
      rintro (e : Ending) w' ⟨rfl, rfl⟩
      rw [HIx.out]
      clear hA5 hrun z0 z1 z2 z3
      go_wp2_with (at_builtin; refine wp_append_ints rfl (.tmp 11) (.tmp 25) rfl w.heap.size _ _ (pivI (piv.take i)) [((pv piv i : Nat) : Int)] rfl rfl ((h1.alloc' _).own 0 rfl) Ints.one Hpl.out (h1.alloc' _).size ?_; intro v1 w7 ho1 hg1 hb1; have h3 := (h1.alloc' _).appended 0 rfl ho1 hg1 hb1)
      go_roundw
      case rel => exact ⟨i + 1, by go_num, by omega, by rw [HT.out, pivI_snoc]; exact h3⟩
      case measure => simp [intOf]; omega
    · obtain rfl : i = r := by omega
      rw [List.take_of_length_le (by rw [Hrp.out]; exact Nat.le_refl _)] at h1
      go_wp2
      go_ret
      exact ⟨_, rfl, h1.own 0 rfl, h1.below⟩

set_option maxHeartbeats 2000000 in
theorem reduceBy_any (p : Int) (n : Nat) (S : List (List Int)) (piv : List Nat) (t v : Value) (X : List Int) (w : World) (ht : Ints w t (flat n S)) (hv : Ints w v X) (hS : Rf p n S piv) (hX : X.length = n) (rX : resid p X = true) (hn : n ≤ 40) (hp : 2 ≤ p) (hp' : p ≤ 10007) :
    Calls Tryz.prog 35 #[.agg #[.int .i64 p, .int .i64 S.length, .int .i64 n, t], v] w (RetOwn w (redV p S piv X)) := by
  have hrn := rf_le_n hp hS
  have hPv := fun (W : World) (v1 : Value) (x1 : Ints W v1 (flat n S)) => pivotsOf_any p n S piv v1 W x1 hS (by omega) hn
  have h1 := ((((St.start w).arg ht).arg hv).box [.int .i64 p, .int .i64 S.length, .int .i64 n, t] 37)
  obtain ⟨A, k, rfl, _, _, _⟩ := id ht
  obtain ⟨A2, k2, rfl, _, _, _⟩ := id hv
  have hb := mul_le (Nat.le_trans hrn hn) hn
  have hDl := length_flat n S
  obtain ⟨r, er⟩ : ∃ r, r = S.length := ⟨_, rfl⟩
  obtain ⟨D, hD⟩ : ∃ D, D = flat n S := ⟨_, rfl⟩
  rw [← hD, ← er] at hDl
  rw [← er] at hb
  rw [← hD, ← er] at h1 ⊢
  have HPv := Lib.hid (show ∀ (W : World) (v1 : Value), Ints W v1 D → Calls Tryz.prog 61 #[.agg #[.int .i64 p, .int .i64 r, .int .i64 n, v1]] W (RetOwn W (pivI piv)) from fun W v1 x1 => by rw [hD] at x1; rw [er]; exact hPv W v1 x1)
  have HDl := Lib.hid hDl
  have HF := Lib.hid hD
  have Hr := Lib.hid er
  have HS := Lib.hid hS
  have hrp := hS.len
  rw [← er] at hrp
  have Hrp := Lib.hid hrp
  have HX := Lib.hid hX
  have HrX := Lib.hid rX
  have HOk := Lib.hid (fun k hk => redTo_ok hp hS hX rX k hk)
  have hr40 : r ≤ 40 := by omega
  have hp40 : piv.length ≤ 40 := by omega
  clear ht hv hDl hD er hS hrp hX rX hPv hrn
  go_enter Tryz.func35, Tryz.ntmps35
  go_wp2_with fail
  refine (Clone_any _ X _ (h1.roInts 1 rfl) (by rw [HX.out]; omega)).mono ?_
  rintro (e : Ending) w1 ⟨u1, rfl, ho, hb1⟩
  obtain ⟨A5, n5, c5, rfl⟩ := ho.slice
  have hn5 : n5 = n := by
    obtain ⟨A', c', he', _⟩ := ho.ints
    simp only [Value.slice.injEq] at he'
    rw [he'.2.1, HX.out]
  subst hn5
  replace h1 := h1.pushOwn hb1 ho
  clear ho hb1
  obtain ⟨z0, z1, z2, z3⟩ := h1.box4 1 rfl
  go_wp2_with fail
  refine (HPv.out _ _ (h1.roInts 3 rfl)).mono ?_
  rintro (e : Ending) w2 ⟨u2, rfl, ho, hb1⟩
  obtain ⟨A6, c6, rfl, _, _, _⟩ := id ho.ints
  rw [length_pivI] at ho ⊢
  replace h1 := h1.pushOwn hb1 ho
  clear ho hb1 z0 z1 z2 z3
  go_wp2
  go_loopw [13] (fun vi wr => ∃ i : Nat, vi = .int .i64 i ∧ i ≤ piv.length ∧ St w wr [.own (.slice A6 piv.length c6) (pivI piv), .own (.slice A5 n5 c5) (redTo p S piv X i), .box w.heap.size [.int .i64 p, .int .i64 r, .int .i64 n5, .slice A D.length k], .ro (.slice A2 X.length k2) X, .ro (.slice A D.length k) D]) (fun vi _ => piv.length - (intOf vi).toNat)
  case atStart => exact ⟨0, rfl, by omega, h1⟩
  case round =>
    clear h1
    obtain ⟨i, rfl, a1, h1⟩ := hrel
    by_cases hi : i < piv.length
    · have hir : i < r := by rw [Hrp.out]; exact hi
      have hcn := HS.out.lt i hi
      obtain ⟨ol, or⟩ := HOk.out i (by omega)
      obtain ⟨gp, rfl, hq8⟩ := h1.ownSomeA 0 rfl (by rw [length_pivI]; omega)
      obtain ⟨go', rfl, hq9⟩ := h1.ownSomeA 1 rfl (by rw [ol]; omega)
      clear hq8 hq9
      have pc := (h1.ownCellA 0 rfl (q := i) (by rw [length_pivI]; exact hi)).1
      rw [vec_pivI hi] at pc
      have oc := (h1.ownCellA 1 rfl (q := pv piv i) (by rw [ol]; exact hcn)).1
      have hstp : redTo p S piv X (i + 1) = if vec (redTo p S piv X i) (pv piv i) = 0 then redTo p S piv X i else addL (redTo p S piv X i) (p - vec (redTo p S piv X i) (pv piv i)) (rowOf S i) p := rfl
      have hzb := resid_vec or (i := pv piv i) (by rw [ol]; exact hcn)
      have HO := Lib.hid (fun (W : World) (h : W.cell? ⟨go', pv piv i, none⟩ = some (.int .i64 (vec (redTo p S piv X i) (pv piv i)))) => h)
      obtain ⟨z, hz⟩ : ∃ z, z = vec (redTo p S piv X i) (pv piv i) := ⟨_, rfl⟩
      obtain ⟨ck, hck⟩ : ∃ ck, ck = pv piv i := ⟨_, rfl⟩
      rw [← hz] at hstp hzb oc
      rw [← hck] at hcn pc oc
      have hrow : rowM n5 D i = rowOf S i := by rw [HF.out]; exact rowM_flat (by rw [← Hr.out]; exact hir) (HS.out.wf i (by rw [← Hr.out]; exact hir)).1
      have ip : (i : Int) < (piv.length : Int) := by omega
      have ic : (ck : Int) < (n5 : Int) := by omega
      have Hz := Lib.hid hz
      have Hck := Lib.hid hck
      have Hol := Lib.hid ol
      have Hor := Lib.hid or
      by_cases hz0 : z = 0
      · rw [if_pos hz0] at hstp
        have HStp := Lib.hid hstp
        subst hz0
        clear hstp hz hck ol or hrow HO
        go_wp2
        go_roundw
        case rel => exact ⟨i + 1, by go_num, by omega, by rw [HStp.out]; exact h1⟩
        case measure => simp [intOf]; omega
      · rw [if_neg hz0, ← hrow] at hstp
        have HStp := Lib.hid hstp
        have t1 : (z != 0) = true := by simp [hz0]
        obtain ⟨A9, k9, hrun, hA9⟩ := cutRow (h1.drew.ro 4 rfl) HDl.out hir
        obtain ⟨n1, n2, n3, n4⟩ := row_int (c := n5) hir hb
        have hv1 : IntKind.i64.wrap ((i : Int) * n5) = (i : Int) * n5 := wrap_ok (by omega) (by omega)
        have hv2 : IntKind.i64.wrap ((i : Int) + 1) = (i : Int) + 1 := wrap_ok (by omega) (by omega)
        have hv3 : IntKind.i64.wrap (((i : Int) + 1) * n5) = ((i : Int) + 1) * n5 := wrap_ok (by omega) (by omega)
        have hv4 : IntKind.i64.wrap (p - z) = p - z := wrap_ok (by omega) (by omega)
        have hwf := HS.out.wf i (by rw [← Hr.out]; exact hir)
        rw [← hrow] at hwf
        have Hwf := Lib.hid hwf
        have HA9 := Lib.hid hA9
        have Hkz := Lib.hid (show 0 ≤ p - z ∧ p - z ≤ p by omega)
        clear hstp hz hck ol or hrow hz0 hA9 hwf hzb
        go_upto_region 6 with fail
        have g0 := h1.drew
        have oc0 : wr.drew.cell? ⟨go', ck, none⟩ = some (.int .i64 z) := oc
        refine wp_region_cut (S := fun w' => (w'.cell? ⟨w.heap.size, 0, none⟩ = some (.int .i64 p) ∧ w'.cell? ⟨w.heap.size, 1, none⟩ = some (.int .i64 r) ∧ w'.cell? ⟨w.heap.size, 2, none⟩ = some (.int .i64 n5) ∧ w'.cell? ⟨w.heap.size, 3, none⟩ = some (.slice A D.length k)) ∧ w'.cell? ⟨go', ck, none⟩ = some (.int .i64 z)) 22 (by kernel_rfl) (by kernel_rfl) ⟨g0.box4 2 rfl, oc0⟩ (fun hHeld => ?_)
        simp only [List.take_succ_cons, List.take_zero]
        clear pc oc
        refine anyH_take (v := ?_) 0 rfl (by kernel_rfl) (by kernel_rfl) (by kernel_rfl) (fun _ _ _ h => h) rfl ?_ hHeld ?_
        rotate_left
        · intro w' hSw
          go_simp
          try with_reducible rfl
        try simp only [Act.put, List.setIfInBounds_toArray, List.set_cons_zero, List.set_cons_succ]
        refine anyH_take (v := ?_) 1 rfl (by kernel_rfl) (by kernel_rfl) (by kernel_rfl) (fun _ _ _ h => h) rfl ?_ hHeld ?_
        rotate_left
        · intro w' hSw
          go_simp
          try with_reducible rfl
        try simp only [Act.put, List.setIfInBounds_toArray, List.set_cons_zero, List.set_cons_succ]
        refine anyH_take (v := ?_) 2 rfl (by kernel_rfl) (by kernel_rfl) (by kernel_rfl) (fun _ _ _ h => h) rfl ?_ hHeld ?_
        rotate_left
        · intro w' hSw
          go_simp
          try with_reducible rfl
        try simp only [Act.put, List.setIfInBounds_toArray, List.set_cons_zero, List.set_cons_succ]
        refine anyH_take (v := ?_) 3 rfl (by kernel_rfl) (by kernel_rfl) (by kernel_rfl) (fun _ _ _ h => h) rfl ?_ hHeld ?_
        rotate_left
        · intro w' hSw
          go_simp
          try with_reducible rfl
        try simp only [Act.put, List.setIfInBounds_toArray, List.set_cons_zero, List.set_cons_succ]
        refine anyH_take (v := ?_) 4 rfl (by kernel_rfl) (by kernel_rfl) (by kernel_rfl) (fun _ _ _ h => h) rfl ?_ hHeld ?_
        rotate_left
        · intro w' hSw
          go_simp
          try with_reducible rfl
        try simp only [Act.put, List.setIfInBounds_toArray, List.set_cons_zero, List.set_cons_succ]
        refine anyH_take (v := ?_) 5 rfl (by kernel_rfl) (by kernel_rfl) (by kernel_rfl) (fun _ _ _ h => h) rfl ?_ hHeld ?_
        rotate_left
        · intro w' hSw
          go_simp
          try with_reducible rfl
        try simp only [Act.put, List.setIfInBounds_toArray, List.set_cons_zero, List.set_cons_succ]
        refine anyH_take (v := ?_) 6 rfl (by kernel_rfl) (by kernel_rfl) (by kernel_rfl) (fun _ _ _ h => h) rfl ?_ hHeld ?_
        rotate_left
        · intro w' hSw
          go_simp
          try with_reducible rfl
        try simp only [Act.put, List.setIfInBounds_toArray, List.set_cons_zero, List.set_cons_succ]
        refine anyH_take (v := ?_) 7 rfl (by kernel_rfl) (by kernel_rfl) (by kernel_rfl) (fun _ _ _ h => h) rfl ?_ hHeld ?_
        rotate_left
        · intro w' hSw
          go_simp
          try with_reducible rfl
        try simp only [Act.put, List.setIfInBounds_toArray, List.set_cons_zero, List.set_cons_succ]
        refine anyH_take (v := ?_) 8 rfl (by kernel_rfl) (by kernel_rfl) (by kernel_rfl) (fun _ _ _ h => h) rfl ?_ hHeld ?_
        rotate_left
        · intro w' hSw
          go_simp
          try with_reducible rfl
        try simp only [Act.put, List.setIfInBounds_toArray, List.set_cons_zero, List.set_cons_succ]
        refine anyH_take (v := ?_) 9 rfl (by kernel_rfl) (by kernel_rfl) (by kernel_rfl) (fun _ _ _ h => h) rfl ?_ hHeld ?_
        rotate_left
        · intro w' hSw
          go_simp
          try with_reducible rfl
        try simp only [Act.put, List.setIfInBounds_toArray, List.set_cons_zero, List.set_cons_succ]
        refine anyH_take (v := ?_) 10 rfl (by kernel_rfl) (by kernel_rfl) (by kernel_rfl) (fun _ _ _ h => h) rfl ?_ hHeld ?_
        rotate_left
        · intro w' hSw
          go_simp
          try with_reducible rfl
        try simp only [Act.put, List.setIfInBounds_toArray, List.set_cons_zero, List.set_cons_succ]
        refine anyH_take (v := ?_) 11 rfl (by kernel_rfl) (by kernel_rfl) (by kernel_rfl) (fun _ _ _ h => h) rfl ?_ hHeld ?_
        rotate_left
        · intro w' hSw
          go_simp
          try with_reducible rfl
        try simp only [Act.put, List.setIfInBounds_toArray, List.set_cons_zero, List.set_cons_succ]
        refine anyH_take (v := ?_) 12 rfl (by kernel_rfl) (by kernel_rfl) (by kernel_rfl) (fun _ _ _ h => h) rfl ?_ hHeld ?_
        rotate_left
        · intro w' hSw
          go_simp
          try with_reducible rfl
        try simp only [Act.put, List.setIfInBounds_toArray, List.set_cons_zero, List.set_cons_succ]
        refine anyH_take (v := ?_) 13 rfl (by kernel_rfl) (by kernel_rfl) (by kernel_rfl) (fun _ _ _ h => h) rfl ?_ hHeld ?_
        rotate_left
        · intro w' hSw
          go_simp
          try with_reducible rfl
        try simp only [Act.put, List.setIfInBounds_toArray, List.set_cons_zero, List.set_cons_succ]
        refine anyH_take (v := ?_) 14 rfl (by kernel_rfl) (by kernel_rfl) (by kernel_rfl) (fun _ _ _ h => h) rfl ?_ hHeld ?_
        rotate_left
        · intro w' hSw
          go_simp
          try with_reducible rfl
        try simp only [Act.put, List.setIfInBounds_toArray, List.set_cons_zero, List.set_cons_succ]
        refine anyH_take (v := ?_) 15 rfl (by kernel_rfl) (by kernel_rfl) (by kernel_rfl) (fun _ _ _ h => h) rfl ?_ hHeld ?_
        rotate_left
        · intro w' hSw
          go_simp
          try with_reducible rfl
        try simp only [Act.put, List.setIfInBounds_toArray, List.set_cons_zero, List.set_cons_succ]
        refine anyH_take (v := ?_) 16 rfl (by kernel_rfl) (by kernel_rfl) (by kernel_rfl) (fun _ _ _ h => h) rfl ?_ hHeld ?_
        rotate_left
        · intro w' hSw
          go_simp
          try with_reducible rfl
        try simp only [Act.put, List.setIfInBounds_toArray, List.set_cons_zero, List.set_cons_succ]
        refine anyH_take (v := ?_) 17 rfl (by kernel_rfl) (by kernel_rfl) (by kernel_rfl) (fun _ _ _ h => h) rfl ?_ hHeld ?_
        rotate_left
        · intro w' hSw
          go_simp
          try with_reducible rfl
        try simp only [Act.put, List.setIfInBounds_toArray, List.set_cons_zero, List.set_cons_succ]
        refine anyH_take (v := ?_) 18 rfl (by kernel_rfl) (by kernel_rfl) (by kernel_rfl) (fun _ _ _ h => h) rfl ?_ hHeld ?_
        rotate_left
        · intro w' hSw
          go_simp
          try with_reducible rfl
        try simp only [Act.put, List.setIfInBounds_toArray, List.set_cons_zero, List.set_cons_succ]
        refine anyH_take (v := ?_) 19 rfl (by kernel_rfl) (by kernel_rfl) (by kernel_rfl) (fun _ _ _ h => h) rfl ?_ hHeld ?_
        rotate_left
        · intro w' hSw
          go_simp
          try with_reducible rfl
        try simp only [Act.put, List.setIfInBounds_toArray, List.set_cons_zero, List.set_cons_succ]
        refine anyH_take (v := ?_) 20 rfl (by kernel_rfl) (by kernel_rfl) (by kernel_rfl) (fun _ _ _ h => h) rfl ?_ hHeld ?_
        rotate_left
        · intro w' hSw
          go_simp
          try with_reducible rfl
        try simp only [Act.put, List.setIfInBounds_toArray, List.set_cons_zero, List.set_cons_succ]
        refine anyH_take (v := ?_) 21 rfl (by kernel_rfl) (by kernel_rfl) (by kernel_rfl) (fun _ _ _ h => h) rfl ?_ hHeld ?_
        rotate_left
        · intro w' hSw
          go_simp
          try with_reducible rfl
        try simp only [Act.put, List.setIfInBounds_toArray, List.set_cons_zero, List.set_cons_succ]
        refine wpAnyH_done (by kernel_rfl) ?_ _
        show wpList _ _ _ _ _ _
        simp only [List.drop_succ_cons, List.drop_zero]
        clear hHeld
        go_wp2_with fail
        refine (addTo_own _ _ (redTo p S piv X i) (rowM n5 D i) (p - z) p w.heap.size w.heap.size _ (g0.own 1 rfl) HA9.out (Nat.le_refl _) (by rw [Hwf.out.1, Hol.out]) (by rw [Hol.out]; omega) hp hp' Hkz.out.1 Hkz.out.2 Hor.out Hwf.out.2).mono ?_
        rintro (e : Ending) wn ⟨rfl, ho, hg⟩
        have h3 := g0.wrote 1 rfl ho hg
        clear h1 g0 ho hg oc0
        go_wp2
        go_roundw
        case rel => exact ⟨i + 1, by go_num, by omega, by rw [HStp.out]; exact h3⟩
        case measure => simp [intOf]; omega
    · obtain rfl : i = piv.length := by omega
      go_wp2
      go_ret
      exact ⟨_, rfl, h1.own 1 rfl, h1.below⟩

theorem subB_drop {p : Int} {S : List (List Int)} {piv : List Nat} {R : List (List Int)} {i : Nat} (hi : i < R.length) : subB p S piv (R.drop i) = (zeroL (redV p S piv (rowOf R i)) && subB p S piv (R.drop (i + 1))) := by
  rw [List.drop_eq_getElem_cons hi, subB, List.all_cons, rowOf_eq hi]; rfl
theorem subB_end {p : Int} {S : List (List Int)} {piv : List Nat} {R : List (List Int)} : subB p S piv (R.drop R.length) = true := by
  rw [List.drop_length]; rfl

set_option maxHeartbeats 2000000 in
theorem IsSubspace_any (p : Int) (n : Nat) (t u : Value) (R S : List (List Int)) (w : World) (ht : Ints w t (flat n R)) (hu : Ints w u (flat n S)) {a piv : List Nat} (hR : Rf p n R a) (hS : Rf p n S piv) (hn : n ≤ 40) (hP : isPrime p = true) :
    Calls Tryz.prog 57 #[.agg #[.int .i64 p, .int .i64 R.length, .int .i64 n, t], .agg #[.int .i64 p, .int .i64 S.length, .int .i64 n, u]] w (RetBool w (subB p S piv R)) := by
  obtain ⟨b1, b2⟩ := isPrime_bd hP
  have h1 := ((((St.start w).arg ht).arg hu).box [.int .i64 p, .int .i64 R.length, .int .i64 n, t] 37).box [.int .i64 p, .int .i64 S.length, .int .i64 n, u] 37
  simp only [World.size_alloc] at h1
  obtain ⟨A, k0, rfl, _, _, _⟩ := id ht
  obtain ⟨A2, k2, rfl, _, _, _⟩ := id hu
  have hRn := rf_le_n b1 hR
  have hSn := rf_le_n b1 hS
  have ok1 := spaceOk_flat hP hR (by omega) hn
  have ok2 := spaceOk_flat hP hS (by omega) hn
  have hRfl := rowsM_flat hR.wf
  have m1 := mul_le (Nat.le_trans hRn hn) hn
  obtain ⟨B, hB⟩ : ∃ B, B = subB p S piv R := ⟨_, rfl⟩
  obtain ⟨r, er⟩ : ∃ r, r = R.length := ⟨_, rfl⟩
  obtain ⟨s, es⟩ : ∃ s, s = S.length := ⟨_, rfl⟩
  obtain ⟨D, hD⟩ : ∃ D, D = flat n R := ⟨_, rfl⟩
  obtain ⟨E, hE⟩ : ∃ E, E = flat n S := ⟨_, rfl⟩
  have HA := Lib.hid (fun W (v : Value) (hi : Ints W v (flat n R)) => SpaceOkI_any p R.length n v _ W hi (by omega))
  rw [ok1, ← hD, ← er] at HA
  have HB := Lib.hid (fun W (v : Value) (hi : Ints W v (flat n S)) => SpaceOkI_any p S.length n v _ W hi (by omega))
  rw [ok2, ← hE, ← es] at HB
  have C1 := Lib.hid (show ∀ (W : World) (v1 : Value), Ints W v1 D → Calls Tryz.prog 44 #[.agg #[.int .i64 p, .int .i64 r, .int .i64 n, v1]] W (RetLL W R) from fun W v1 x1 => by
    rw [hD] at x1
    have := rowsOf_any p R.length n v1 (flat n R) W x1 (length_flat n R) (by omega) (by omega)
    rw [hRfl] at this
    rw [er]
    exact this)
  have C2 := Lib.hid (show ∀ (W : World) (v1 v2 : Value) (i : Nat), i < R.length → Ints W v1 E → Ints W v2 (rowOf R i) → Calls Tryz.prog 35 #[.agg #[.int .i64 p, .int .i64 s, .int .i64 n, v1], v2] W (RetOwn W (redV p S piv (rowOf R i))) from fun W v1 v2 i hi x1 x2 => by
    rw [hE] at x1
    rw [es]
    exact reduceBy_any p n S piv v1 v2 (rowOf R i) W x1 x2 hS (hR.wf i hi).1 (hR.wf i hi).2 hn b1 b2)
  have HRun : Hid (B = subB p S piv (R.drop 0)) := by show _ = _; rw [hB]; rfl
  have Hr := Lib.hid er
  rw [← hB]
  rw [← hD, ← hE, ← er, ← es] at h1 ⊢
  clear ht hu hRn hSn ok1 ok2 hRfl m1 er es hD hE hR hS hB
  obtain ⟨x0, x1, x2, x3⟩ := h1.box4 1 rfl
  go_enter Tryz.func57, Tryz.ntmps57
  go_wp2_with fail
  refine (HA.out _ _ (h1.roInts 3 rfl)).mono ?_
  rintro (e : Ending) w1 ⟨rfl, hb1⟩
  replace h1 := h1.on hb1
  clear hb1 x0 x1 x2 x3
  obtain ⟨y0, y1, y2, y3⟩ := h1.box4 0 rfl
  go_wp2_with fail
  refine (HB.out _ _ (h1.roInts 2 rfl)).mono ?_
  rintro (e : Ending) w2 ⟨rfl, hb1⟩
  replace h1 := h1.on hb1
  clear hb1 y0 y1 y2 y3
  obtain ⟨x0, x1, x2, x3⟩ := h1.box4 1 rfl
  obtain ⟨y0, y1, y2, y3⟩ := h1.box4 0 rfl
  go_wp2_with fail
  refine (C1.out _ _ (h1.roInts 3 rfl)).mono ?_
  rintro (e : Ending) w3 ⟨u3, us, rfl, hul, hok, hnd, hb3⟩
  obtain ⟨A6, c6, rfl, _, _, _⟩ := id (It.rows hok hul)
  have h2 := h1.pushRows hb3 hok hnd
  rw [← Hr.out] at h2 ⊢
  have Hul := Lib.hid hul
  clear x0 x1 x2 x3 y0 y1 y2 y3 hok hnd hb3 h1 hul
  go_wp2
  go_loopw [32] (fun vi wr => ∃ i : Nat, vi = .int .i64 i ∧ i ≤ r ∧ Hid (B = subB p S piv (R.drop i)) ∧ St w wr [rowsIt (.slice A6 r c6) us R, .box (w.heap.size + 1) [.int .i64 p, .int .i64 s, .int .i64 n, .slice A2 E.length k2], .box w.heap.size [.int .i64 p, .int .i64 r, .int .i64 n, .slice A D.length k0], .ro (.slice A2 E.length k2) E, .ro (.slice A D.length k0) D]) (fun vi _ => r - (intOf vi).toNat)
  case atStart => exact ⟨0, rfl, by omega, HRun, h2⟩
  case round =>
    clear h2 HRun
    obtain ⟨i, rfl, a1, HRun, h2⟩ := hrel
    by_cases hi : i < r
    · have hiR : i < R.length := by rw [← Hr.out]; exact hi
      have hir := h2.rowsR 0 rfl Hul.out
      obtain ⟨bb, off, A9, c9, hAA, hm⟩ := hir.at (i := i) hiR
      rw [rowOf_eq hiR] at hm
      have hm1 := hm.1
      have hm2 := hm.2
      have HDr := Lib.hid (subB_drop (p := p) (S := S) (piv := piv) hiR)
      have ir : (i : Int) < (r : Int) := by omega
      subst hAA
      clear hm hir
      obtain ⟨y0, y1, y2, y3⟩ := h2.box4 1 rfl
      go_wp2_with fail
      refine (C2.out _ _ _ i hiR (h2.roInts 3 rfl) hm2).mono ?_
      rintro (e : Ending) w5 ⟨u5, rfl, ho, hb5⟩
      obtain ⟨A8, n8, c8, rfl⟩ := ho.slice
      have h3 := h2.pushOwn hb5 ho
      clear ho hb5 hm1 hm2 y0 y1 y2 y3 h2
      obtain ⟨Z, hZ⟩ : ∃ Z, Z = zeroL (redV p S piv (rowOf R i)) := ⟨_, rfl⟩
      have HZ := Lib.hid hZ
      clear hZ
      go_wp2_with fail
      refine (isZero_any _ (redV p S piv (rowOf R i)) _ (h3.ownInts 0 rfl)).mono ?_
      rintro (e : Ending) w6 ⟨rfl, rfl⟩
      rw [← HZ.out]
      cases Z with
      | true =>
        have HN : Hid (B = subB p S piv (R.drop (i + 1))) := by show _ = _; rw [HRun.out, HDr.out, ← HZ.out, Bool.true_and]
        go_wp2
        go_roundw
        case rel => exact ⟨i + 1, by go_num, by omega, HN, h3.drop 1⟩
        case measure => simp [intOf]; omega
      | false =>
        have HN : Hid (B = false) := by show _ = _; rw [HRun.out, HDr.out, ← HZ.out, Bool.false_and]
        go_wp2
        go_ret
        exact ⟨ret_bool HN.out.symm, h3.below⟩
    · obtain rfl : i = r := by omega
      have HN : Hid (B = true) := by show _ = _; rw [HRun.out, Hr.out]; exact subB_end
      go_wp2
      go_ret
      exact ⟨ret_bool HN.out.symm, h2.below⟩
end Go.Proofs.YtcdbgcpccmcbeaaGreat
