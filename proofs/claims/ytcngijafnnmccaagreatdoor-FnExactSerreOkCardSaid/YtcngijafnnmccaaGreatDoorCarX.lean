/- Cartan matrices, the program's side: CartanOf at the name of a type. -/
import Derived.Test.YtcngijafnnmccaaGreatDoorCarV
import Derived.Test.YtcngijafnnmccaaGreatDoorCarW
import Derived.Test.YtcngijafnnmccaaGreatDoorCarL
namespace Go.Proofs.YtcngijafnnmccaaGreatDoor
set_option maxRecDepth 100000
open Go.RowKit
namespace Car

/-- The name of a type. -/
def nameT (t : List Nat) : ByteArray := ⟨(Lib.join (t.map fun k => (nmB k).data.toList) [43]).toArray⟩
def nameOk (n : Nat) : Bool := (tys n).all fun t => (Lib.countB (nameT t) ⟨#[43]⟩ + 1 == t.length) && ((Lib.splitB ⟨#[43]⟩ 0 (Lib.countB (nameT t) ⟨#[43]⟩) (nameT t)).map (·.data.toList) == (t.map nmB).map (·.data.toList)) && decide ((nameT t).size ≤ 100) && decide (0 < (nameT t).size)
theorem nameOk_1 : nameOk 1 = true := by decide +kernel
theorem nameOk_2 : nameOk 2 = true := by decide +kernel
theorem nameOk_3 : nameOk 3 = true := by decide +kernel
theorem nameOk_4 : nameOk 4 = true := by decide +kernel
theorem name_ok {n : Nat} (h1 : 1 ≤ n) (h4 : n ≤ 4) {t : List Nat} (ht : t ∈ tys n) : Lib.countB (nameT t) ⟨#[43]⟩ + 1 = t.length ∧ Lib.splitB ⟨#[43]⟩ 0 (Lib.countB (nameT t) ⟨#[43]⟩) (nameT t) = t.map nmB ∧ (nameT t).size ≤ 100 ∧ 0 < (nameT t).size := by
  have hd : nameOk n = true := by
    have : n = 1 ∨ n = 2 ∨ n = 3 ∨ n = 4 := by omega
    rcases this with rfl | rfl | rfl | rfl
    · exact nameOk_1
    · exact nameOk_2
    · exact nameOk_3
    · exact nameOk_4
  have h := List.all_eq_true.1 hd t ht
  simp only [Bool.and_eq_true, decide_eq_true_eq, beq_iff_eq] at h
  refine ⟨h.1.1.1, ?_, h.1.2, h.2⟩
  have hinj : ∀ a b : List ByteArray, a.map (·.data.toList) = b.map (·.data.toList) → a = b := by
    intro a
    induction a with
    | nil => intro b hb; cases b with | nil => rfl | cons => cases hb
    | cons x a ih =>
      intro b hb
      cases b with
      | nil => cases hb
      | cons y b =>
        rw [List.map_cons, List.map_cons, List.cons.injEq] at hb
        rw [ih b hb.2]
        congr 1
        cases x; cases y
        congr 1
        exact Array.toList_inj.1 hb.1
  exact hinj _ _ h.1.1.2

/-- A slice of Cartan matrices of the call's own. -/
def carCells : List Value → List (Nat × List Int) → List Value
  | u :: us, m :: ms => .int .i64 m.1 :: u :: carCells us ms
  | _, _ => []
theorem carCells_get : ∀ (us : List Value) (ms : List (Nat × List Int)) (i : Nat) (u : Value) (m : Nat × List Int), us[i]? = some u → ms[i]? = some m → (carCells us ms)[i * 2]? = some (.int .i64 m.1) ∧ (carCells us ms)[i * 2 + 1]? = some u
  | [], _, _, _, _, h, _ => by simp at h
  | _ :: _, [], _, _, _, _, h => by simp at h
  | u :: us, m :: ms, 0, u', m', h, h' => by
    simp only [List.getElem?_cons_zero, Option.some.injEq] at h h'
    subst h; subst h'
    exact ⟨rfl, rfl⟩
  | u :: us, m :: ms, i + 1, u', m', h, h' => by
    have := carCells_get us ms i u' m' (by simpa using h) (by simpa using h')
    have e : (i + 1) * 2 = i * 2 + 2 := by omega
    simp only [carCells, e, Nat.add_right_comm _ 2, List.getElem?_cons_succ]
    exact this
theorem carCells_snoc : ∀ (us : List Value) (ms : List (Nat × List Int)) (u : Value) (m : Nat × List Int), us.length = ms.length → carCells (us ++ [u]) (ms ++ [m]) = carCells us ms ++ [.int .i64 m.1, u]
  | [], [], _, _, _ => rfl
  | a :: us, b :: ms, u, m, h => by simp only [List.cons_append, carCells]; rw [carCells_snoc us ms u m (by simpa using h)]
def carIt (v : Value) (us : List Value) (bl : List (Nat × List Int)) : It := .vec v 34 2 bl.length (carCells us bl) (us.zip (bl.map Prod.snd))
theorem infoC : (Tryz.prog.info? 34).map (fun i => (i.zero, i.size, i.bytes)) = some (some (.agg #[.int .i64 0, .slice none 0 0]), 2, 32) := by kernel_rfl
theorem St.emptyCars {w0 w : World} {L : List It} (h : St w0 w L) : St w0 (w.alloc (.cells #[] 34)) (carIt (.slice (some ⟨w.heap.size, 0, none⟩) 0 0) [] [] :: L) :=
  h.push (x := carIt (.slice (some ⟨w.heap.size, 0, none⟩) 0 0) [] []) ((Below.refl _ _).alloc (Nat.le_refl _) _) ⟨World.ownsRow_lit (base := w0.heap.size) (e := 34) (size := 2) w #[] 0 h.size (by simp) rfl, fun s hs => by cases hs⟩ (fun b hb => by simp [carIt, It.fp, Value.ownBlock] at hb; omega) (by simp [carIt, It.fp, Value.ownBlock])
theorem It.cars {B : Nat} {w : World} {v : Value} {us : List Value} {bl : List (Nat × List Int)} (h : (carIt v us bl).ok B w) (hl : us.length = bl.length) : CarsAt w v bl := by
  obtain ⟨h1, h2⟩ := h
  rcases id h1.2 with ⟨rfl, h0⟩ | ⟨g, cap, cur, rfl, hb, hg, hn, hm, _⟩
  · obtain rfl : bl = [] := List.eq_nil_of_length_eq_zero h0
    exact ⟨none, 0, rfl, by simp, fun h => absurd h (by simp)⟩
  · refine ⟨_, cap, rfl, hn, fun _ => ⟨g, 0, rfl, fun i m hi => ?_⟩⟩
    have hil := (List.getElem?_eq_some_iff.1 hi).1
    have hu : us[i]? = some (us[i]'(by omega)) := List.getElem?_eq_getElem _
    obtain ⟨k0, k1⟩ := carCells_get us bl i _ m hu hi
    have at_ : ∀ k, k < 2 → w.cell? ⟨g, 0 + i * 2 + k, none⟩ = (carCells us bl)[i * 2 + k]? := fun k hk => by
      rw [Nat.zero_add]; exact World.ownsRow.cellAt h1 _ (by omega)
    refine ⟨us[i]'(by omega), by rw [show 0 + i * 2 = 0 + i * 2 + 0 from rfl, at_ 0 (by omega)]; exact k0, (at_ 1 (by omega)).trans k1, ?_⟩
    exact Own.ints (h2 (us[i]'(by omega), m.2) (List.mem_of_getElem? (zip_get hu (by rw [List.getElem?_map, hi]; rfl))))
theorem wp_append_car {ops : Array Oper} {rest : List Oper} {o : Oper} {a : Act} {Q : Exit → Act → World → Prop} {w0 w : World} {L : List It} (hgd : o.guard = none) (s x : Operand)
    (ho : o.op = .call { callee := .builtin .append, args := #[s, x], argTypes := #[97, 97] }) {u v : Value} (m : Nat × List Int) {us : List Value} {ms : List (Nat × List Int)} (h : St w0 w (.own u m.2 :: L)) (j : Nat) (hj : L[j]? = some (carIt v us ms)) (hul : us.length = ms.length)
    (hs : a.eval s = v) (hx : a.eval x = .slice (some ⟨w.heap.size, 0, none⟩) 1 1) (hlen : ms.length + 1 ≤ 1099511627776)
    (hk : ∀ v' w', St w0 w' (L.set j (carIt v' (us ++ [u]) (ms ++ [m]))) → wpList Tryz.prog ops Q rest (a.put o.dst v') w') : wpList Tryz.prog ops Q (o :: rest) a (w.alloc (.cells #[.int .i64 m.1, u] 34)) := by
  obtain ⟨i, h1, h2, h3, h4⟩ := info_parts infoC
  have hab := h.absorb j hj
  have hil : j < L.length := (List.getElem?_eq_some_iff.1 hj).1
  have ho' : Own w w0.heap.size u m.2 := h.own 0 rfl
  refine wp_append_vec hgd s x 97 34 2 32 i _ ho Tryz.underlying97 h1 h2 h3 h4 rfl (by decide) hab j (by rw [List.getElem?_set_self hil]) [.int .i64 m.1, u] rfl (by
    intro y hy
    simp only [List.mem_cons, List.not_mem_nil, or_false] at hy
    rcases hy with rfl | rfl
    · rfl
    · exact ho'.one) hs hx (by simp only [maxLen]; omega) (by omega) fun v' w' hst => hk v' w' ?_
  rw [List.set_set] at hst
  have e : carIt v' (us ++ [u]) (ms ++ [m]) = .vec v' 34 2 (ms.length + 1) (carCells us ms ++ [.int .i64 m.1, u]) (us.zip (ms.map Prod.snd) ++ [(u, m.2)]) := by
    unfold carIt; rw [carCells_snoc us ms u m hul, List.map_append, List.zip_append (by simpa using hul)]; simp
  rw [e]; exact hst

/-- The blocks of a type. -/
def bks (t : List Nat) : List (Nat × List Int) := t.map fun k => (rk k, mx k)
theorem mx_len {k : Nat} (h : k < 12) : (mx k).length = rk k * rk k := by
  have hd : ((List.range 12).all fun k => decide ((mx k).length = rk k * rk k)) = true := by decide +kernel
  exact of_decide_eq_true (List.all_eq_true.1 hd k (List.mem_range.2 h))
/-- internal/bytealg.MaxLen holds some number. -/
def MaxAt (w : World) : Prop := ∃ m, w.cell? ⟨0, 0, none⟩ = some (.int .i64 m)
theorem MaxAt.below {w w' : World} (h : MaxAt w) (hb : Below w.heap.size w w') : MaxAt w' := by
  obtain ⟨m, hm⟩ := h
  exact ⟨m, (World.cell?_of_block (hb.block _ (World.block_lt_of_cell? w _ hm))).trans hm⟩
/-- What CartanOf returns. -/
def RetCo (w : World) (n : Nat) (D : List Int) (e : Ending) (w' : World) : Prop := ∃ u, e = .returned (.tuple #[.agg #[.int .i64 n, u], .bool true]) ∧ Own w' w.heap.size u D ∧ Below w.heap.size w w'
set_option maxHeartbeats 8000000 in
theorem CartanOf_any (n : Nat) (t : List Nat) (w : World) (h1 : 1 ≤ n) (h4 : n ≤ 4) (ht : t ∈ tys n) (hM : MaxAt w) : Calls Tryz.prog 68 #[.string (nameT t)] w (RetCo w n (due n t)) := by
  obtain ⟨k1, k2, k3, k4⟩ := name_ok h1 h4 ht
  obtain ⟨j1, j2, j3, j4, j5⟩ := jn_ok h1 h4 ht
  obtain ⟨mm, hmm⟩ := hM
  have hSp := fun (W : World) (hW : W.cell? ⟨0, 0, none⟩ = some (.int .i64 mm)) => split_any (nameT t) mm W (by omega) hW
  rw [k1, k2] at hSp
  have HSp := Lib.hid hSp
  obtain ⟨m, hm⟩ : ∃ m, m = t.length := ⟨_, rfl⟩
  obtain ⟨nm, hnm⟩ : ∃ nm, nm = nameT t := ⟨_, rfl⟩
  rw [← hm, ← hnm] at HSp
  rw [← hnm]
  obtain ⟨E, hE⟩ : ∃ E, E = due n t := ⟨_, rfl⟩
  rw [← hE] at j1 ⊢
  have HJ := Lib.hid (show jn (bks t) = E from j1)
  have HS := Lib.hid (show sumB (bks t) = n from j2)
  have HK := Lib.hid j5
  have Hm := Lib.hid hm
  have hm1 : 1 ≤ m := by omega
  have hm4 : m ≤ 4 := by omega
  have h5 := (St.start w).box [.int .i64 0, .slice none 0 0] 34
  have hx : (w.alloc (.cells #[.int .i64 0, .slice none 0 0] 34)).cell? ⟨0, 0, none⟩ = some (.int .i64 mm) := (World.cell?_of_block (((Below.refl w.heap.size w).alloc (Nat.le_refl _) _).block _ (World.block_lt_of_cell? w _ hmm))).trans hmm
  clear k1 k2 k3 k4 j1 j2 j3 j4 j5 hSp hm hnm hE ht hmm
  go_enter Tryz.func68, Tryz.ntmps68
  go_wp2_with fail
  refine (HSp.out _ hx).mono ?_
  rintro (e : Ending) w3 ⟨rfl, hw3⟩
  obtain ⟨Bs, hBs⟩ : ∃ Bs, Bs = (w.alloc (.cells #[.int .i64 0, .slice none 0 0] 34)).heap.size := ⟨_, rfl⟩
  have hcell : ∀ j k, t[j]? = some k → w3.cell? ⟨Bs, j, none⟩ = some (.string (nmB k)) := fun j k hj => by
    rw [hw3, hBs, World.cell?_alloc_new]
    simp [hj]
  have hb3 : Below (w.alloc (.cells #[.int .i64 0, .slice none 0 0] 34)).heap.size (w.alloc (.cells #[.int .i64 0, .slice none 0 0] 34)) w3 := by
    rw [hw3]; exact (Below.refl _ _).alloc (Nat.le_refl _) _
  have h6 := h5.hold hb3 (fun W => ∀ j k, t[j]? = some k → W.cell? ⟨Bs, j, none⟩ = some (.string (nmB k))) (fun W hk j k hj => by
    have h9 := hcell j k hj
    rw [← h9]
    refine World.cell?_of_block (hk Bs (by rw [hBs]; exact Nat.le_refl _) (World.block_lt_of_cell? w3 _ h9)))
  obtain ⟨bsl, hbsl⟩ : ∃ bsl, bsl = List.range' (w.alloc (.cells #[.int .i64 0, .slice none 0 0] 34)).heap.size (w3.heap.size - (w.alloc (.cells #[.int .i64 0, .slice none 0 0] 34)).heap.size) := ⟨_, rfl⟩
  rw [← hbsl] at h6
  have h7 := St.emptyCars h6
  rw [← hBs]
  clear h5 hx hw3 hcell hb3 hbsl hBs h6
  go_wp2
  go_loopw [5, 6, 16] (fun v5 v6 v16 wr => ∃ (i : Nat) (us : List Value), v16 = .int .i64 i ∧ v6 = .int .i64 (sumB ((bks t).take i) : Nat) ∧ i ≤ m ∧ Hid (us.length = ((bks t).take i).length) ∧ St w wr [carIt v5 us ((bks t).take i), .held bsl (fun W => ∀ j k, t[j]? = some k → W.cell? ⟨Bs, j, none⟩ = some (.string (nmB k))), .box w.heap.size [.int .i64 0, .slice none 0 0]]) (fun _ _ v16 _ => m - (intOf v16).toNat)
  case atStart => exact ⟨0, [], rfl, rfl, by omega, Lib.hid rfl, h7⟩
  case round =>
    clear h7
    obtain ⟨i, us, rfl, rfl, a1, Hu, g⟩ := hrel
    by_cases hi : i < m
    · have hit : i < t.length := by rw [← Hm.out]; exact hi
      have hc := (g.heldR 1 rfl) i t[i] (List.getElem?_eq_getElem hit)
      have hk12 := HK.out t[i] (List.getElem_mem hit)
      obtain ⟨k, hk⟩ : ∃ k, k = t[i] := ⟨_, rfl⟩
      rw [← hk] at hc hk12
      have hbl : i < (bks t).length := by unfold bks; rw [List.length_map]; exact hit
      have hbk : (bks t)[i] = (rk k, mx k) := by simp [bks, hk]
      have HT := Lib.hid (show (bks t).take (i + 1) = (bks t).take i ++ [(rk k, mx k)] by rw [take_snoc hbl, hbk])
      have hr := rk_pos hk12
      have HP := Lib.hid (fun W => partCartan_any k W hk12)
      have HSm := Lib.hid (show sumB ((bks t).take (i + 1)) = sumB ((bks t).take i) + rk k by rw [HT.out, sumB_snoc])
      have hS4 : sumB ((bks t).take i) + rk k ≤ 4 := by have := sumB_le (bks t) (i + 1); rw [HSm.out, HS.out] at this; omega
      obtain ⟨nk, hnk⟩ : ∃ nk, nk = nmB k := ⟨_, rfl⟩
      rw [← hnk] at hc HP
      obtain ⟨S, hS⟩ : ∃ S, S = sumB ((bks t).take i) := ⟨_, rfl⟩
      rw [← hS] at HSm hS4 ⊢
      obtain ⟨BL, hBL⟩ : ∃ BL, BL = (bks t).take i := ⟨_, rfl⟩
      rw [← hBL] at g HT Hu
      have hBLl : BL.length ≤ 4 := by rw [hBL, List.length_take]; omega
      have ii : (i : Int) < (m : Int) := by omega
      have Hlen := Lib.hid (show BL.length + 1 ≤ 1099511627776 by omega)
      clear hk hbl hbk hnk hS hBL hit
      go_wp2_with fail
      refine (HP.out _).mono ?_
      rintro (e : Ending) w5 ⟨u, rfl, ho, hb5⟩
      obtain ⟨Au, nu, cu, rfl⟩ := ho.slice
      obtain ⟨r, hrk⟩ : ∃ r, r = rk k := ⟨_, rfl⟩
      have g2 := g.pushOwn hb5 ho
      rw [← hrk] at HSm hS4 HT hr ⊢
      have wS : IntKind.i64.wrap ((S : Int) + (r : Int)) = ((S + r : Nat) : Int) := by rw [wrap_ok (by omega) (by omega)]; simp
      have wS2 : wrap64 ((S : Int) + (r : Int)) = ((S + r : Nat) : Int) := by rw [w64_ok (by omega) (by omega)]; simp
      have g3 := (g2.box [.int .i64 r, .slice Au nu cu] 34).toFront 1 rfl
      simp only [List.eraseIdx_cons_succ, List.eraseIdx_cons_zero] at g3
      obtain ⟨p0, p1⟩ := g3.box2 1 rfl
      have HSm2 := Lib.hid HSm.out.symm
      clear g g2 ho hb5 hrk hc HP HSm
      go_wp2_with (at_builtin; refine wp_append_car rfl (.tmp 32) (.tmp 34) rfl (r, mx k) g3 1 rfl Hu.out rfl (by rw [World.size_alloc]; rfl) Hlen.out ?_; intro v2 w8 q2)
      have q3 := (q2.drop 1)
      simp only [List.set_cons_zero, List.set_cons_succ, List.drop_succ_cons, List.drop_zero] at q3
      go_roundw
      case rel => exact ⟨i + 1, us ++ [_], by go_num, by rw [← HSm2.out]; simp, by omega, by show _ = _; rw [HT.out, List.length_append, List.length_append, Hu.out]; rfl, by rw [HT.out]; exact q3⟩
      case measure => simp [intOf]; omega
    · obtain rfl : m = i := by omega
      have hTk : (bks t).take m = bks t := List.take_of_length_le (by unfold bks; rw [List.length_map, ← Hm.out]; exact Nat.le_refl _)
      rw [hTk] at g Hu
      rw [hTk, HS.out]
      have hC := It.cars (g.at 0 rfl) Hu.out
      have HJo := Lib.hid (fun (W : World) (v : Value) (h : CarsAt W v (bks t)) => joined_any v (bks t) W h (fun b hb => by
        unfold bks at hb
        obtain ⟨k, hk, rfl⟩ := List.mem_map.1 hb
        exact ⟨(rk_pos (HK.out k hk)).1, mx_len (HK.out k hk)⟩) (by rw [HS.out]; exact h4) (by unfold bks; rw [List.length_map, ← Hm.out]; exact hm4))
      rw [HS.out, HJ.out] at HJo
      have hn4 : ¬ ((n : Int) > 4) := by omega
      clear hTk
      go_wp2_with fail
      refine (HJo.out _ _ hC).mono ?_
      rintro (e : Ending) w5 ⟨u, rfl, ho, hb5⟩
      obtain ⟨Au, nu, cu, rfl⟩ := ho.slice
      have g2 := g.pushOwn hb5 ho
      obtain ⟨z0, z1⟩ := g2.box2 3 rfl
      have f0 := g2.free 3 rfl 0
      have f1 := g2.free 3 rfl 1
      have g9 := (g2.setBox 3 rfl 0 (.int .i64 n)).setBox 3 rfl 1 (.slice Au nu cu)
      obtain ⟨s0, s1⟩ := g9.box2 3 rfl
      clear hC g
      go_wp2
      refine bodyPost_ret (v := .tuple #[.agg #[.int .i64 n, .slice Au nu cu], .bool true]) (by simp [results, Tryz.results68, go_sem, s0, s1]) rfl ⟨_, rfl, g9.own 0 rfl, g9.below⟩

end Car
end Go.Proofs.YtcngijafnnmccaaGreatDoor
