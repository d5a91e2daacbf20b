/- The killing form of the reference. -/
import Derived.Test.YthiainhhaokjoaaTrc
import Derived.Test.YthiainhhaokjoaaAdjMod
namespace Go.Proofs.Ythiainhhaokjoaa
set_option maxRecDepth 100000
open Go.RowKit

/-- The cells and the numbers of one matrix of a slice of the call's own. -/
theorem St.matG {w0 w : World} {L : List It} (h : St w0 w L) (i : Nat) {g q c : Nat} {u : Value} {us : List Value} {ms : List Mt} {m : Mt} (hi : L[i]? = some (matsIt (.slice (some ⟨g, 0, none⟩) q c) us ms)) (hq : ms.length = q) (j : Nat) (hu : us[j]? = some u) (hm : ms[j]? = some m) :
    (w.cell? ⟨g, j * 4, none⟩ = some (.int .i64 m.p) ∧ w.cell? ⟨g, j * 4 + 1, none⟩ = some (.int .i64 m.r) ∧ w.cell? ⟨g, j * 4 + 2, none⟩ = some (.int .i64 m.c) ∧ w.cell? ⟨g, j * 4 + 3, none⟩ = some u) ∧ Ints w u m.d := by
  subst hq
  obtain ⟨k0, k1, k2, k3⟩ := matCells_get us ms j u m hu hm
  exact ⟨⟨h.vecCell i hi _ k0, h.vecCell i hi _ k1, h.vecCell i hi _ k2, h.vecCell i hi _ k3⟩, Own.ints ((h.at i hi).2 (u, m.d) (List.mem_of_getElem? (zip_get hu (by rw [List.getElem?_map, hm]; rfl))))⟩
/-- Its value. -/
theorem St.matV {w0 w : World} {L : List It} (h : St w0 w L) (i : Nat) {v : Value} {us : List Value} {ms : List Mt} {m : Mt} (hi : L[i]? = some (matsIt v us ms)) (hul : us.length = ms.length) {j : Nat} (hm : ms[j]? = some m) : ∃ A c, us[j]? = some (.slice A m.d.length c) := by
  have hj := (List.getElem?_eq_some_iff.1 hm).1
  have hu : us[j]? = some (us[j]'(by omega)) := List.getElem?_eq_getElem _
  obtain ⟨A, c, e, _⟩ := Own.ints ((h.at i hi).2 (us[j]'(by omega), m.d) (List.mem_of_getElem? (zip_get hu (by rw [List.getElem?_map, hm]; rfl))))
  exact ⟨A, c, by rw [hu]; exact congrArg some e⟩
theorem resid_appK {p : Int} {D E : List Int} (h1 : resid p D = true) (h2 : resid p E = true) : resid p (D ++ E) = true :=
  resid_iff.2 fun q hq => by
    rw [List.length_append] at hq
    by_cases h : q < D.length
    · rw [show vec (D ++ E) q = vec D q by simp [vec, List.getD_eq_getElem?_getD, List.getElem?_append_left h]]
      exact resid_vec h1 h
    · rw [show vec (D ++ E) q = vec E (q - D.length) by simp [vec, List.getD_eq_getElem?_getD, List.getElem?_append_right (show D.length ≤ q by omega)]]
      exact resid_vec h2 (by omega)

theorem resid_adMk {p : Int} (hp : 2 ≤ p) (T U : List Int) (n : Nat) : resid p (adM T U n p) = true := by
  have h : ∀ ll : List (List Int), (∀ l, l ∈ ll → resid p l = true) → resid p ll.flatten = true := fun ll => by
    induction ll with
    | nil => intro _; exact resid_iff.2 fun i hi => by simp at hi
    | cons l ll ih =>
      intro h
      rw [List.flatten_cons]
      exact resid_appK (h l (by simp)) (ih fun x hx => h x (by simp [hx]))
  refine h _ fun l hl => ?_
  obtain ⟨j, _, rfl⟩ := List.mem_map.1 hl
  exact resid_braL _ _ _ _ hp
theorem adMs_get {p : Int} {n : Nat} {T : List Int} {i : Nat} (h : i < n) : (adMs p n T)[i]? = some ⟨p, n, n, adM T (unitL n i) n p⟩ := by
  simp [adMs, h, adMt]

set_option maxHeartbeats 4000000 in
theorem l3Killing_any (p : Int) (n : Nat) (t : Value) (T : List Int) (w : World) (ht : Ints w t T) (hT : T.length = n * n * n) (hn : n ≤ 28) (hP : isPrime p = true) (rT : resid p T = true) :
    Calls Try.prog 89 #[.agg #[.int .i64 p, .int .i64 n, t]] w (RetMat w p n n (kfD p n T)) := by
  obtain ⟨hp, hp'⟩ := isPrime_bd hP
  have h1 := ((St.start1 ht).box [.int .i64 p, .int .i64 n, t] 33).box [.int .i64 0, .int .i64 0, .int .i64 0, .slice none 0 0] 40
  replace h1 := h1.emptyMats
  simp only [World.size_alloc] at h1
  obtain ⟨A, k, rfl, _, _, _⟩ := id ht
  have hnn := mul_le hn hn
  have HAd := Lib.hid (fun (W : World) (v : Value) (i : Nat) (x1 : Ints W (.slice A T.length k) T) (x2 : Ints W v (unitL n i)) => l2Adjoint_any p n _ v T (unitL n i) W x1 x2 hT (length_unitL _ _) hn hp hp' rT (resid_unitL hp n i))
  have HMu := Lib.hid (fun (W : World) (u v : Value) (i j : Nat) (x1 : Ints W u (adM T (unitL n i) n p)) (x2 : Ints W v (adM T (unitL n j) n p)) => l1Mul_any p p n n n n u v _ _ W x1 x2 rfl (length_adM _ _ _ _) (length_adM _ _ _ _) (by omega) (by omega) (by omega) hp hp' (resid_adMk hp _ _ _) (resid_adMk hp _ _ _))
  have HTr := Lib.hid (fun (W : World) (v : Value) (i j : Nat) (x1 : Ints W v (mulD p n n n (adM T (unitL n i) n p) (adM T (unitL n j) n p))) => l1Trace_any p n v _ W x1 (length_mulD _ _ _ _ _ _) (by omega) hp hp' (resid_mulD hp _ _ _ _ _))
  have HZ := Lib.hid (fun W => l1Zero_any p n n W (by omega))
  have HLen := Lib.hid (length_adMs p n T)
  have Hp := Lib.hid hp
  clear ht hT rT hP
  obtain ⟨z0, z1, z2⟩ := h1.box3 2 rfl
  go_enter Try.func89, Try.ntmps89
  go_wp2
  clear z0 z1 z2
  go_loopw [3, 4] (fun v3 v4 wr => ∃ (i : Nat) (us : List Value), v4 = .int .i64 i ∧ i ≤ n ∧ Hid (us.length = i) ∧ St w wr [matsIt v3 us ((adMs p n T).take i), .box (w.heap.size + 1) [.int .i64 0, .int .i64 0, .int .i64 0, .slice none 0 0], .box w.heap.size [.int .i64 p, .int .i64 n, .slice A T.length k], .ro (.slice A T.length k) T]) (fun _ v4 _ => n - (intOf v4).toNat)
  case atStart => exact ⟨0, [], rfl, by omega, rfl, h1⟩
  case round =>
    clear h1
    obtain ⟨i, us, rfl, a1, Hul, h1⟩ := hrel
    by_cases hi : i < n
    · have HB := Lib.hid (fun W => l2Basis_any n i W (by omega) hi)
      have HS := Lib.hid (adMs_take p n T i hi)
      have Hl := Lib.hid (show us.length = ((adMs p n T).take i).length by rw [Hul.out, List.length_take, HLen.out]; omega)
      have Ht1 := Lib.hid (show ((adMs p n T).take i).length + 1 ≤ 1099511627776 by rw [List.length_take, HLen.out]; omega)
      have ii : (i : Int) < (n : Int) := by omega
      obtain ⟨z0, z1, z2⟩ := h1.box3 2 rfl
      go_upto_region 5 with fail
      clear z0 z1 z2
      have g0 := h1.drew
      refine wp_region_cut (S := fun w' => (w'.cell? ⟨w.heap.size, 0, none⟩ = some (.int .i64 p) ∧ w'.cell? ⟨w.heap.size, 1, none⟩ = some (.int .i64 n) ∧ w'.cell? ⟨w.heap.size, 2, none⟩ = some (.slice A T.length k))) 8 (by kernel_rfl) (by kernel_rfl) (g0.box3 2 rfl) (fun hHeld => ?_)
      simp only [List.take_succ_cons, List.take_zero]
      refine anyH_take (v := ?_) 0 rfl (by kernel_rfl) (by kernel_rfl) (by kernel_rfl) (fun _ _ _ h => h) rfl ?_ hHeld ?_
      rotate_left
      · intro w' hSw
        go_simp
        try with_reducible rfl
      try simp only [Act.put, List.setIfInBounds_toArray, List.set_cons_zero, List.set_cons_succ]
      refine anyH_take (v := ?_) 1 rfl (by kernel_rfl) (by kernel_rfl) (by kernel_rfl) (fun _ _ _ h => h) rfl ?_ hHeld ?_
      rotate_left
      · intro w' hSw
        go_simp
        try with_reducible rfl
      try simp only [Act.put, List.setIfInBounds_toArray, List.set_cons_zero, List.set_cons_succ]
      refine anyH_take (v := ?_) 2 rfl (by kernel_rfl) (by kernel_rfl) (by kernel_rfl) (fun _ _ _ h => h) rfl ?_ hHeld ?_
      rotate_left
      · intro w' hSw
        go_simp
        try with_reducible rfl
      try simp only [Act.put, List.setIfInBounds_toArray, List.set_cons_zero, List.set_cons_succ]
      refine anyH_take (v := ?_) 3 rfl (by kernel_rfl) (by kernel_rfl) (by kernel_rfl) (fun _ _ _ h => h) rfl ?_ hHeld ?_
      rotate_left
      · intro w' hSw
        go_simp
        try with_reducible rfl
      try simp only [Act.put, List.setIfInBounds_toArray, List.set_cons_zero, List.set_cons_succ]
      refine anyH_take (v := ?_) 4 rfl (by kernel_rfl) (by kernel_rfl) (by kernel_rfl) (fun _ _ _ h => h) rfl ?_ hHeld ?_
      rotate_left
      · intro w' hSw
        go_simp
        try with_reducible rfl
      try simp only [Act.put, List.setIfInBounds_toArray, List.set_cons_zero, List.set_cons_succ]
      refine wpAnyH_ready (rs := [5]) (by kernel_rfl) (by simp) ?_
      refine ready_cons rfl (fun K hK => ?_) AllReadyH.nil
      go_simp
      refine (HB.out _).mono ?_
      rintro (e : Ending) w4 ⟨u4, rfl, ho4, hb4⟩
      obtain ⟨A4, n4, c4, rfl⟩ := ho4.slice
      have g1 := g0.pushOwn hb4 ho4
      show K _ _
      refine hK.out _ _ ?_ (fun hHeld => ?_)
      · exact (g1.box3 3 rfl)
      clear hK K
      try simp only [Act.put, List.setIfInBounds_toArray, List.set_cons_zero, List.set_cons_succ]
      refine wpAnyH_ready (rs := [6]) (by kernel_rfl) (by simp) ?_
      refine ready_cons rfl (fun K hK => ?_) AllReadyH.nil
      go_simp
      refine (HAd.out _ _ i (g1.roInts 4 rfl) (g1.ownInts 0 rfl)).mono ?_
      rintro (e : Ending) w5 ⟨u5, rfl, ho5, hb5⟩
      obtain ⟨A5, n5, c5, rfl⟩ := ho5.slice
      have g2 := g1.pushOwn hb5 ho5
      show K _ _
      refine hK.out _ _ ?_ (fun hHeld => ?_)
      · exact (g2.box3 4 rfl)
      clear hK K
      try simp only [Act.put, List.setIfInBounds_toArray, List.set_cons_zero, List.set_cons_succ]
      refine wpAnyH_ready (rs := [7]) (by kernel_rfl) (by simp) ?_
      refine ready_cons rfl (fun K hK => ?_) AllReadyH.nil
      go_simp
      have ga := g2.alloc' (.cells #[.int .i64 p, .int .i64 n, .int .i64 n, .slice A5 n5 c5] 40)
      refine hK.out _ _ ?_ (fun hHeld => ?_)
      · exact (ga.box3 4 rfl)
      clear hK K
      try simp only [Act.put, List.setIfInBounds_toArray, List.set_cons_zero, List.set_cons_succ]
      refine wpAnyH_done (by kernel_rfl) ?_ _
      show wpList _ _ _ _ _ _
      simp only [List.drop_succ_cons, List.drop_zero]
      clear hHeld
      clear g0 g1 ga ho4 hb4 ho5 hb5 h1
      go_wp2_with (at_builtin; refine wp_append_mat rfl (.tmp 16) (.tmp 23) rfl ⟨p, n, n, adM T (unitL n i) n p⟩ g2 1 rfl Hl.out rfl rfl Ht1.out ?_; intro v1 w6 h6)
      go_roundw
      case rel => exact ⟨i + 1, us ++ [_], by go_num, by omega, by show _ = _; rw [List.length_append, Hul.out]; rfl, by rw [HS.out]; exact h6.drop 1⟩
      case measure => simp [intOf]; omega
    · obtain rfl : i = n := by omega
      rw [List.take_of_length_le (by rw [HLen.out]; exact Nat.le_refl _)] at h1
      have Hul2 := Lib.hid (show us.length = (adMs p i T).length by rw [Hul.out, HLen.out])
      obtain ⟨A3, c3, rfl, _, _, _⟩ := id (h1.mats 0 rfl Hul2.out)
      rw [HLen.out] at h1 ⊢
      obtain ⟨z0, z1, z2⟩ := h1.box3 2 rfl
      go_wp2_with fail
      refine (HZ.out _).mono ?_
      rintro (e : Ending) w2 ⟨u2, rfl, ho2, hb2⟩
      rw [← kfB_zero p i T] at ho2
      obtain ⟨A6, c6, rfl, _, _, _⟩ := id ho2.ints
      have g1 := (h1.pushOwn hb2 ho2).box [.int .i64 p, .int .i64 i, .int .i64 i, .slice A6 (kfB p i T 0 0).length c6] 40
      rw [length_kfB] at g1 ⊢
      clear z0 z1 z2 h1 ho2 hb2
      go_wp2
      generalize hB5 : w2.heap.size = B5 at g1 ⊢
      clear hB5
      go_loopw [6, 7, 8] (fun v6 _ _ wr => ∃ (a : Nat), v6 = .int .i64 a ∧ a ≤ i ∧ St w wr [.box B5 [.int .i64 p, .int .i64 i, .int .i64 i, .slice A6 (i * i) c6], .own (.slice A6 (i * i) c6) (kfB p i T a 0), matsIt (.slice A3 i c3) us (adMs p i T), .box (w.heap.size + 1) [.int .i64 0, .int .i64 0, .int .i64 0, .slice none 0 0], .box w.heap.size [.int .i64 p, .int .i64 i, .slice A T.length k], .ro (.slice A T.length k) T]) (fun v6 _ _ _ => i - (intOf v6).toNat)
      case atStart => exact ⟨0, rfl, by omega, g1⟩
      case round =>
        clear g1
        obtain ⟨a, rfl, a2, g1⟩ := hrel
        by_cases ha : a < i
        · have ia : (a : Int) < (i : Int) := by omega
          obtain ⟨z0, z1, z2⟩ := g1.box3 4 rfl
          go_wp2
          clear z0 z1 z2
          go_loopw [7, 8] (fun v7 _ wr => ∃ (b : Nat), v7 = .int .i64 b ∧ b ≤ a + 1 ∧ St w wr [.box B5 [.int .i64 p, .int .i64 i, .int .i64 i, .slice A6 (i * i) c6], .own (.slice A6 (i * i) c6) (kfB p i T a b), matsIt (.slice A3 i c3) us (adMs p i T), .box (w.heap.size + 1) [.int .i64 0, .int .i64 0, .int .i64 0, .slice none 0 0], .box w.heap.size [.int .i64 p, .int .i64 i, .slice A T.length k], .ro (.slice A T.length k) T]) (fun v7 _ _ => a + 1 - (intOf v7).toNat)
          case atStart => exact ⟨0, rfl, by omega, g1⟩
          case round =>
            clear g1
            obtain ⟨b, rfl, a3, g1⟩ := hrel
            by_cases hb : b ≤ a
            · have ib : (b : Int) ≤ (a : Int) := by omega
              have ib2 : (b : Int) < (i : Int) := by omega
              have hbi : b < i := by omega
              obtain ⟨gm, rfl⟩ := g1.vecSome 2 rfl (by rw [HLen.out]; omega)
              obtain ⟨Aa, ca, hua⟩ := g1.matV 2 rfl Hul2.out (adMs_get (p := p) (T := T) ha)
              obtain ⟨Ab, cb, hub⟩ := g1.matV 2 rfl Hul2.out (adMs_get (p := p) (T := T) hbi)
              simp only [length_adM] at hua hub
              have Hua := Lib.hid (fun (W : World) (L : List It) (q : Nat) (h : St w W L) (hq : L[q]? = some (matsIt (.slice (some ⟨gm, 0, none⟩) i c3) us (adMs p i T))) => h.matG q hq HLen.out a hua (adMs_get (p := p) (T := T) ha))
              have Hub := Lib.hid (fun (W : World) (L : List It) (q : Nat) (h : St w W L) (hq : L[q]? = some (matsIt (.slice (some ⟨gm, 0, none⟩) i c3) us (adMs p i T))) => h.matG q hq HLen.out b hub (adMs_get (p := p) (T := T) hbi))
              have HTr1 := Lib.hid (fun W v x => HTr.out W v a b x)
              have hx0 := traD_bd (p := p) Hp.out i (mulD p i i i (adM T (unitL i a) i p) (adM T (unitL i b) i p))
              have HSet := Lib.hid (kfB_set (p := p) (T := T) Hp.out ha hb)
              have HG : kfG p i T a b = traD p i (mulD p i i i (adM T (unitL i a) i p) (adM T (unitL i b) i p)) := rfl
              rw [HG] at HSet
              obtain ⟨x, hx⟩ : ∃ x, x = traD p i (mulD p i i i (adM T (unitL i a) i p) (adM T (unitL i b) i p)) := ⟨_, rfl⟩
              rw [← hx] at HSet HTr1 hx0
              clear hx HG hua hub hx0
              go_upto_region 13 with fail
              have g0 := g1.drew
              refine wp_region_held_drew (S := fun w' => (w'.cell? ⟨gm, a * 4, none⟩ = some (.int .i64 p) ∧ w'.cell? ⟨gm, a * 4 + 1, none⟩ = some (.int .i64 i) ∧ w'.cell? ⟨gm, a * 4 + 2, none⟩ = some (.int .i64 i) ∧ w'.cell? ⟨gm, a * 4 + 3, none⟩ = some (.slice Aa (i * i) ca)) ∧ (w'.cell? ⟨gm, b * 4, none⟩ = some (.int .i64 p) ∧ w'.cell? ⟨gm, b * 4 + 1, none⟩ = some (.int .i64 i) ∧ w'.cell? ⟨gm, b * 4 + 2, none⟩ = some (.int .i64 i) ∧ w'.cell? ⟨gm, b * 4 + 3, none⟩ = some (.slice Ab (i * i) cb))) (by kernel_rfl) ⟨(Hua.out _ _ 2 g0 rfl).1, (Hub.out _ _ 2 g0 rfl).1⟩ (fun hHeld => ?_)
              refine anyH_take (v := ?_) 0 rfl (by kernel_rfl) (by kernel_rfl) (by kernel_rfl) (fun _ _ _ h => h) rfl ?_ hHeld ?_
              rotate_left
              · intro w' hSw
                go_simp
                try with_reducible rfl
              try simp only [Act.put, List.setIfInBounds_toArray, List.set_cons_zero, List.set_cons_succ]
              refine anyH_take (v := ?_) 1 rfl (by kernel_rfl) (by kernel_rfl) (by kernel_rfl) (fun _ _ _ h => h) rfl ?_ hHeld ?_
              rotate_left
              · intro w' hSw
                go_simp
                try with_reducible rfl
              try simp only [Act.put, List.setIfInBounds_toArray, List.set_cons_zero, List.set_cons_succ]
              refine anyH_take (v := ?_) 2 rfl (by kernel_rfl) (by kernel_rfl) (by kernel_rfl) (fun _ _ _ h => h) rfl ?_ hHeld ?_
              rotate_left
              · intro w' hSw
                go_simp
                try with_reducible rfl
              try simp only [Act.put, List.setIfInBounds_toArray, List.set_cons_zero, List.set_cons_succ]
              refine anyH_take (v := ?_) 3 rfl (by kernel_rfl) (by kernel_rfl) (by kernel_rfl) (fun _ _ _ h => h) rfl ?_ hHeld ?_
              rotate_left
              · intro w' hSw
                go_simp
                try with_reducible rfl
              try simp only [Act.put, List.setIfInBounds_toArray, List.set_cons_zero, List.set_cons_succ]
              refine anyH_take (v := ?_) 4 rfl (by kernel_rfl) (by kernel_rfl) (by kernel_rfl) (fun _ _ _ h => h) rfl ?_ hHeld ?_
              rotate_left
              · intro w' hSw
                go_simp
                try with_reducible rfl
              try simp only [Act.put, List.setIfInBounds_toArray, List.set_cons_zero, List.set_cons_succ]
              refine anyH_take (v := ?_) 5 rfl (by kernel_rfl) (by kernel_rfl) (by kernel_rfl) (fun _ _ _ h => h) rfl ?_ hHeld ?_
              rotate_left
              · intro w' hSw
                go_simp
                try with_reducible rfl
              try simp only [Act.put, List.setIfInBounds_toArray, List.set_cons_zero, List.set_cons_succ]
              refine anyH_take (v := ?_) 6 rfl (by kernel_rfl) (by kernel_rfl) (by kernel_rfl) (fun _ _ _ h => h) rfl ?_ hHeld ?_
              rotate_left
              · intro w' hSw
                go_simp
                try with_reducible rfl
              try simp only [Act.put, List.setIfInBounds_toArray, List.set_cons_zero, List.set_cons_succ]
              refine anyH_take (v := ?_) 7 rfl (by kernel_rfl) (by kernel_rfl) (by kernel_rfl) (fun _ _ _ h => h) rfl ?_ hHeld ?_
              rotate_left
              · intro w' hSw
                go_simp
                try with_reducible rfl
              try simp only [Act.put, List.setIfInBounds_toArray, List.set_cons_zero, List.set_cons_succ]
              refine wpAnyH_ready (rs := [8]) (by kernel_rfl) (by simp) ?_
              refine ready_cons rfl (fun K hK => ?_) AllReadyH.nil
              go_simp
              refine (HMu.out _ _ _ a b (Hua.out _ _ 2 g0 rfl).2 (Hub.out _ _ 2 g0 rfl).2).mono ?_
              rintro (e : Ending) w4 ⟨u4, rfl, ho4, hb4⟩
              obtain ⟨A4, n4, c4, rfl⟩ := ho4.slice
              have g2 := g0.pushOwn hb4 ho4
              show K _ _
              refine hK.out _ _ ?_ (fun hHeld => ?_)
              · exact ⟨(Hua.out _ _ 3 g2 rfl).1, (Hub.out _ _ 3 g2 rfl).1⟩
              clear hK K
              try simp only [Act.put, List.setIfInBounds_toArray, List.set_cons_zero, List.set_cons_succ]
              refine wpAnyH_ready (rs := [9]) (by kernel_rfl) (by simp) ?_
              refine ready_cons rfl (fun K hK => ?_) AllReadyH.nil
              go_simp
              refine (HTr1.out _ _ (g2.ownInts 0 rfl)).mono ?_
              rintro (e : Ending) w5 ⟨rfl, hb5⟩
              have g3 := g2.on hb5
              show K _ _
              refine hK.out _ _ ?_ (fun hHeld => ?_)
              · exact ⟨(Hua.out _ _ 3 g3 rfl).1, (Hub.out _ _ 3 g3 rfl).1⟩
              clear hK K
              try simp only [Act.put, List.setIfInBounds_toArray, List.set_cons_zero, List.set_cons_succ]
              refine anyH_take (v := ?_) 10 rfl (by kernel_rfl) (by kernel_rfl) (by kernel_rfl) (fun _ _ _ h => h) rfl ?_ hHeld ?_
              rotate_left
              · intro w' hSw
                go_simp
                try with_reducible rfl
              try simp only [Act.put, List.setIfInBounds_toArray, List.set_cons_zero, List.set_cons_succ]
              refine wpAnyH_done (by kernel_rfl) ?_ _
              clear hHeld
              clear g0 g1 g2 ho4 hb4 hb5 Hua Hub HTr1
              have g4 := g3.drop 1
              clear g3
              have hlt1 : a * i + b < i * i := spot_lt ha hbi
              have hlt2 : b * i + a < i * i := spot_lt hbi ha
              obtain ⟨gd, rfl, -⟩ := g4.ownSomeA 1 rfl (by rw [length_kfB]; omega)
              obtain ⟨m1, hm1⟩ : ∃ m1, m1 = a * i := ⟨_, rfl⟩
              obtain ⟨m2, hm2⟩ : ∃ m2, m2 = b * i := ⟨_, rfl⟩
              obtain ⟨q1, hq1⟩ : ∃ q1, q1 = m1 + b := ⟨_, rfl⟩
              obtain ⟨q2, hq2⟩ : ∃ q2, q2 = m2 + a := ⟨_, rfl⟩
              rw [← hm1, ← hq1] at hlt1
              rw [← hm2, ← hq2] at hlt2
              rw [← hm1, ← hm2, ← hq1, ← hq2] at HSet
              have t1 : (a : Int) * (i : Int) = (m1 : Int) := by rw [hm1]; simp
              have t2 : (b : Int) * (i : Int) = (m2 : Int) := by rw [hm2]; simp
              have t3 : (m1 : Int) + (b : Int) = (q1 : Int) := by omega
              have t4 : (m2 : Int) + (a : Int) = (q2 : Int) := by omega
              have hnn := mul_le hn hn
              have w1 : IntKind.i64.wrap (m1 : Int) = m1 := wrap_ok (by omega) (by omega)
              have w2 : IntKind.i64.wrap (m2 : Int) = m2 := wrap_ok (by omega) (by omega)
              have w3 : IntKind.i64.wrap (q1 : Int) = q1 := wrap_ok (by omega) (by omega)
              have w6 : IntKind.i64.wrap (q2 : Int) = q2 := wrap_ok (by omega) (by omega)
              have j1 : (q1 : Int) < ((i * i : Nat) : Int) := by omega
              have j2 : (q2 : Int) < ((i * i : Nat) : Int) := by omega
              obtain ⟨f1, f2⟩ := g4.ownCellA 1 rfl (q := q1) (by rw [length_kfB]; exact hlt1)
              have g5 := g4.set 1 rfl q1 x
              obtain ⟨f3, f4⟩ := g5.ownCellA 1 rfl (q := q2) (by rw [List.length_set, length_kfB]; exact hlt2)
              have g6 := g5.set 1 rfl q2 x
              obtain ⟨z0, z1, z2, z3⟩ := g4.box4 0 rfl
              obtain ⟨y0, y1, y2⟩ := g4.box3 4 rfl
              obtain ⟨x0, x1, x2, x3⟩ := g5.box4 0 rfl
              obtain ⟨p0, p1, p2⟩ := g5.box3 4 rfl
              clear g4 g5 hm1 hm2 hq1 hq2 hlt1 hlt2 hnn
              go_wp2
              go_roundw
              case rel => exact ⟨b + 1, by go_num, by omega, by rw [← HSet.out]; exact g6⟩
              case measure => simp [intOf]; omega
            · obtain rfl : b = a + 1 := by omega
              rw [kfB_row] at g1
              have ib : ¬ ((((a + 1 : Nat) : Int)) ≤ (a : Int)) := by omega
              go_wp2
              go_roundw
              case rel => exact ⟨a + 1, by go_num, by omega, g1⟩
              case measure => simp [intOf]; omega
        · obtain rfl : a = i := by omega
          rw [kfB_end] at g1
          obtain ⟨z0, z1, z2⟩ := g1.box3 4 rfl
          obtain ⟨y0, y1, y2, y3⟩ := g1.box4 0 rfl
          obtain ⟨p0, p1, p2, p3⟩ := g1.box4 3 rfl
          have f0 := g1.free 3 rfl 0
          have f1 := g1.free 3 rfl 1
          have f2 := g1.free 3 rfl 2
          have f3 := g1.free 3 rfl 3
          have g5 := (((g1.setBox 3 rfl 0 (.int .i64 p)).setBox 3 rfl 1 (.int .i64 a)).setBox 3 rfl 2 (.int .i64 a)).setBox 3 rfl 3 (.slice A6 (a * a) c6)
          obtain ⟨r0, r1, r2, r3⟩ := g5.box4 3 rfl
          go_wp2
          refine bodyPost_ret (v := .agg #[.int .i64 p, .int .i64 a, .int .i64 a, .slice A6 (a * a) c6]) (by simp [results, Try.results89, go_sem, r0, r1, r2, r3]) rfl ⟨_, rfl, g5.own 1 rfl, g5.below⟩
end Go.Proofs.Ythiainhhaokjoaa
