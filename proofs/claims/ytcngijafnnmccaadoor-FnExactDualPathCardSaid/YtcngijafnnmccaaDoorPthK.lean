/- Paths: slices.Insert of a step ahead of all steps. -/
import Derived.Test.YtcngijafnnmccaaDoorStpA
import Derived.Shelf.Spec.SlicesInsertGrow
namespace Go.Proofs.YtcngijafnnmccaaDoor
set_option maxRecDepth 100000
open Go.RowKit Go.Lib
namespace Stp

/-- copy, elements of some cells: all is read before anything is written. -/
theorem run_copy_elems (P : Program) (w : World) (dT sT ty elem : TypeId) (sz n g o dLen dCap : Nat) (a : Addr) (sLen sCap : Nat) (cur : Array Value) (t : TypeId) (cs : List Value)
    (hu : P.underlying dT = some (.slice elem)) (hs : (P.info? elem).map (·.size) = some sz)
    (hg : w.heap[g]? = some (.cells cur t (0, 0))) (hn : n = Nat.min sLen dLen) (hcl : cs.length = n * sz)
    (hsrc : ∀ j v, cs[j]? = some v → w.cell? (a.add j) = some v) (hfit : o + cs.length ≤ cur.size) (h1 : ∀ v ∈ cs, v.oneCell' = true) :
    (Builtin.copy_ #[dT, sT] ty #[.slice (some ⟨g, o, none⟩) dLen dCap, .slice (some a) sLen sCap]).run P w =
      .ok (goInt n) (w.setRow g (cur.toList.take o ++ cs ++ cur.toList.drop (o + cs.length)).toArray) := by
  have hl := run_loadCells_list (P := P) w a cs hsrc
  have hst := run_storeCells_at P g o t cs 0 cur w hg (by simpa using hfit) h1
  cases hq : P.info? elem with
  | none => simp [hq] at hs
  | some i =>
    have hi : i.size = sz := by simpa [hq] using hs
    rw [hcl] at hl
    simp [Builtin.copy_, run_underlying hu, Builtin.lenOf, Builtin.firstCells, sizeOf, typeInfo, hq, hi, ← hn, hl, hst]

section
variable {w0 w : World} {L : List It}
/-- The order of a slice's pieces does not matter. -/
theorem _root_.Go.Proofs.YtcngijafnnmccaaDoor.St.permVec (h : St w0 w L) (i : Nat) {v : Value} {e sz n : Nat} {cs : List Value} {subs subs' : List (Value × List Int)} (hi : L[i]? = some (.vec v e sz n cs subs)) (hp : subs'.Perm subs) : St w0 w (L.set i (.vec v e sz n cs subs')) := by
  have hv := h.vec i hi
  have hnd := h.vecNodup i hi
  have hpf : (It.fp (.vec v e sz n cs subs')).Perm (It.fp (.vec v e sz n cs subs)) := by
    unfold It.fp
    exact (List.Perm.refl _).append (List.Perm.flatMap_right _ hp)
  refine h.upd i hi (Nat.le_refl _) rfl rfl rfl (fun _ _ _ => rfl) ⟨hv.1, fun s hs => hv.2 s (hp.mem_iff.1 hs)⟩ (fun b hb => .inl (hpf.mem_iff.1 hb)) (hpf.nodup_iff.2 hnd)
end

theorem cells_cons (u : Value) (us : List Value) (m : Sg) (ms : List Sg) : cells (u :: us) (m :: ms) = [u, .int .i64 m.n] ++ cells us ms := rfl
theorem cells_one {us : List Value} {ms : List Sg} (h : ∀ u ∈ us, u.oneCell' = true) : ∀ x ∈ cells us ms, x.oneCell' = true := by
  induction us generalizing ms with
  | nil => intro x hx; cases ms <;> simp [cells] at hx
  | cons u us ih =>
    cases ms with
    | nil => intro x hx; simp [cells] at hx
    | cons m ms =>
      intro x hx
      simp only [cells, List.mem_cons] at hx
      rcases hx with rfl | rfl | hx
      · exact h _ (List.mem_cons_self ..)
      · rfl
      · exact ih (fun u hu => h u (List.mem_cons_of_mem _ hu)) x hx

theorem oneW (u : Value) (n : Int) (h : u.oneCell' = true) : ∀ x ∈ [u, .int .i64 n], x.oneCell' = true := by
  intro x hx
  simp only [List.mem_cons, List.not_mem_nil, or_false] at hx
  rcases hx with rfl | rfl
  · exact h
  · rfl
theorem sizeP (w : World) : (Go.sizeOf 55).run Tryd.prog w = .ok 2 w := by
  obtain ⟨i, h1, h2, h3, h4⟩ := info_parts infoP
  simp [Go.sizeOf, Go.typeInfo, h1, h3]
theorem sizeP' : (Tryd.prog.info? 55).map (·.size) = some 2 := by
  obtain ⟨i, h1, h2, h3, h4⟩ := info_parts infoP
  rw [h1]; simp [h3]
theorem belowRow {B : Nat} {a w : World} (h : Below B a w) (g : Nat) (hg : B ≤ g) (cs : Array Value) : Below B a (w.setRow g cs) :=
  ⟨h.os, h.tape, h.output, by simpa [World.setRow] using h.size, fun k hk => (setRow_other w g k cs (by omega)).trans (h.block k hk)⟩
set_option maxHeartbeats 4000000 in
theorem Insert_nil {w0 w : World} {L : List It} (m : Sg) {u v : Value} (h : St w0 w (.own u m.d :: L)) (j : Nat) (hj : L[j]? = some (stIt v [] [])) :
    Calls Tryd.prog 54 #[v, .int .i64 0, .slice (some ⟨w.heap.size, 0, none⟩) 1 1] (w.alloc (.cells #[u, .int .i64 m.n] 55)) fun e w' => ∃ v', e = .returned v' ∧ St w0 w' (L.set j (stIt v' [u] [m])) := by
  rcases id (h.vec (j + 1) (by rw [List.getElem?_cons_succ]; exact hj)).1.2 with ⟨rfl, h0⟩ | ⟨g, cap, cur, rfl, hb, hg, hn, hm, hcs, hct⟩
  · go_enter Tryd.func54, Tryd.ntmps54
    go_wp2_with (at_builtin; refine wp_append_step rfl (.tmp 23) (.tmp 24) rfl m h j hj rfl rfl rfl (by simp) ?_; intro v1 w7 h5)
    go_ret
    exact ⟨_, rfl, h5⟩
  · simp only [maxLen] at hm
    have hc9 : (0 : Int) ≤ (cap : Int) := by omega
    clear hb hg hn hcs hct
    go_enter Tryd.func54, Tryd.ntmps54
    go_wp2_with (at_builtin; refine wp_append_step rfl (.tmp 23) (.tmp 24) rfl m h j hj rfl rfl rfl (by simp) ?_; intro v1 w7 h5)
    go_ret
    exact ⟨_, rfl, h5⟩
set_option maxHeartbeats 4000000 in
theorem Insert_room (w : World) (u : Value) (x : Int) (hu : u.oneCell' = true) (g n cap : Nat) (cur : Array Value) (cs : List Value) (hgl : g < w.heap.size) (hg : w.heap[g]? = some (.cells cur 55 (0, 0))) (hn : 0 < n) (hroom : n + 1 ≤ cap) (hc63 : cap ≤ 9223372036854775807) (hcur : cur.size = cap * 2)
    (hcl : cs.length = n * 2) (htk : cur.toList.take (n * 2) = cs) (h1 : ∀ y ∈ cs, y.oneCell' = true) :
    Calls Tryd.prog 54 #[.slice (some ⟨g, 0, none⟩) n cap, .int .i64 0, .slice (some ⟨w.heap.size, 0, none⟩) 1 1] (w.alloc (.cells #[u, .int .i64 x] 55)) fun e w' =>
      e = .returned (.slice (some ⟨g, 0, none⟩) (n + 1) cap) ∧ w' = (w.alloc (.cells #[u, .int .i64 x] 55)).drew.setRow g ([u, .int .i64 x] ++ cs ++ cur.toList.drop (2 + cs.length)).toArray := by
  obtain ⟨W1, hW1⟩ : ∃ W1, W1 = w.alloc (.cells #[u, .int .i64 x] 55) := ⟨_, rfl⟩
  have hgW : W1.heap[g]? = some (.cells cur 55 (0, 0)) := by rw [hW1, ((Below.refl w.heap.size w).alloc (Nat.le_refl _) _).block g hgl]; exact hg
  have hBW : W1.heap[w.heap.size]? = some (.cells #[u, .int .i64 x] 55 (0, 0)) := by rw [hW1]; exact heap_alloc_new w _
  rw [← hW1]
  obtain ⟨B, hB⟩ : ∃ B, B = w.heap.size := ⟨_, rfl⟩
  rw [← hB] at hBW hgl ⊢
  have hne : B ≠ g := by omega
  have hov : ∀ lb cb, (callFunc 71 #[.slice (some ⟨B, 0, none⟩) 1 1, .slice (some ⟨g, 2, none⟩) lb cb]).run Tryd.prog W1 = .ok (.value (.bool false)) W1 := fun lb cb => by
    rw [run_callFunc_extern Tryd.func71 (by kernel_rfl) (by kernel_rfl) (by kernel_rfl) (e := Extern.SlicesOverlaps.overlaps #[35, 35] #[4]) (by kernel_rfl),
      Lib.run_overlaps_apart W1 35 4 55 Tryd.underlying35 2 sizeP ⟨B, 0, none⟩ ⟨g, 2, none⟩ 1 1 lb cb hne 55 55 2 (cap * 2) (by simp [World.shape?, hBW]) (by simp [World.shape?, hgW, hcur]) (by omega) (by simp [World.frozen?, hBW]) (by simp [World.frozen?, hBW])]
    rfl
  obtain ⟨R1, hR1⟩ : ∃ R1 : Array Value, R1 = (cur.toList.take 2 ++ cs ++ cur.toList.drop (2 + cs.length)).toArray := ⟨_, rfl⟩
  have hR1s : R1.size = cap * 2 := by rw [hR1]; simp [hcl, hcur]; omega
  have hcp1 : ∀ ty dc sc, (Builtin.copy_ #[35, 35] ty #[.slice (some ⟨g, 2, none⟩) n dc, .slice (some ⟨g, 0, none⟩) (n + 1) sc]).run Tryd.prog W1.drew = .ok (goInt n) (W1.drew.setRow g R1) := fun ty dc sc => by
    rw [hR1]
    exact run_copy_elems Tryd.prog W1.drew _ _ ty 55 2 n g 2 n dc ⟨g, 0, none⟩ (n + 1) sc cur 55 cs Tryd.underlying35 sizeP' hgW (by simp only [Nat.min_def]; split <;> omega) hcl (fun j v hj => by
      have hj2 : j < cs.length := (List.getElem?_eq_some_iff.1 hj).1
      rw [Addr.add_lit, Nat.zero_add]
      show World.cell? W1 _ = _
      simp only [World.cell?, hgW]
      rw [← htk, List.getElem?_take] at hj
      rw [if_pos (by omega)] at hj
      simpa using hj) (by omega) h1
  have hgD : (W1.drew.setRow g R1).heap[g]? = some (.cells R1 55 (0, 0)) := setRow_heap W1.drew g cur R1 _ _ hgW
  have hBD : (W1.drew.setRow g R1).heap[B]? = some (.cells #[u, .int .i64 x] 55 (0, 0)) := by
    rw [setRow_other W1.drew g B R1 (by omega)]; exact hBW
  have hend : (R1.toList.take 0 ++ [u, .int .i64 x] ++ R1.toList.drop (0 + [u, Value.int .i64 x].length)).toArray = ([u, .int .i64 x] ++ cs ++ cur.toList.drop (2 + cs.length)).toArray := by
    rw [hR1]
    have : (cur.toList.take 2).length = 2 := by rw [List.length_take, Array.length_toList, hcur]; omega
    simp only [List.take_zero, List.nil_append, List.length_cons, List.length_nil, Nat.zero_add, List.append_assoc]
    rw [show (0 + 1 + 1 : Nat) = (cur.toList.take 2).length by omega, List.drop_left]
  have hcp2 : ∀ (W : World), (∀ k : Nat, W.heap[k]? = (W1.drew.setRow g R1).heap[k]?) → ∀ ty dc, (Builtin.copy_ #[35, 35] ty #[.slice (some ⟨g, 0, none⟩) (n + 1) dc, .slice (some ⟨B, 0, none⟩) 1 1]).run Tryd.prog W = .ok (goInt 1) (W.setRow g ([u, .int .i64 x] ++ cs ++ cur.toList.drop (2 + cs.length)).toArray) := fun W hW ty dc => by
    rw [← hend]
    exact run_copy_elems Tryd.prog W _ _ ty 55 2 1 g 0 (n + 1) dc ⟨B, 0, none⟩ 1 1 R1 55 [u, .int .i64 x] Tryd.underlying35 sizeP' (by rw [hW]; exact hgD) (by simp only [Nat.min_def]; split <;> omega) rfl (fun j v hj => by
      rw [Addr.add_lit, Nat.zero_add]
      simp only [World.cell?, hW, hBD]
      simpa using hj) (by simp [hR1s]; omega) (oneW u x hu)
  have hz2 : ¬ ((0 : Int) = (n : Int)) := by omega
  have hz3 : (n : Int) + 1 ≤ (cap : Int) := by omega
  have hz4 : ¬ (cap : Int) < (n : Int) + 1 := by omega
  have hw1 : IntKind.i64.wrap ((n : Int) + 1) = (n : Int) + 1 := by rw [IntKind.wrap_i64]; omega
  have hw2 : IntKind.i64.wrap 1 = 1 := by rw [IntKind.wrap_i64]; omega
  have hb2 : ¬ (cap = 1) := by omega
  have hb1 : (1 : Int) ≤ (n : Int) + 1 := by omega
  have hb0 : (0 : Int) ≤ (n : Int) + 1 := by omega
  have mixed : Tryd.prog.follows Departure.mixedOrders = true := by kernel_rfl
  clear hcl htk h1 hcur hg hgl hW1 hB hR1 hR1s hend hgD hBD hgW hBW
  go_enter Tryd.func54, Tryd.ntmps54
  go_wp2_with (simp only [hov])
  go_region_law_o (refine step_copy_runI rfl _ _ 35 35 rfl _ _ (by simp [Act.eval, Act.put]) (by simp [Act.eval, Act.put]) (hcp1 _ _ _) ?_)
  go_wp2_with (at_builtin; refine wpList_copy_runI _ rfl _ _ 35 35 rfl _ _ rfl rfl (hcp2 _ (fun _ => rfl) _ _) ?_)
  go_ret
  exact ⟨rfl, by simp [setRow_setRow]⟩

set_option maxHeartbeats 4000000 in
theorem Insert_grow (w : World) (u : Value) (x : Int) (hu : u.oneCell' = true) (g n cap : Nat) (cur : Array Value) (cs : List Value) (hgl : g < w.heap.size) (hg : w.heap[g]? = some (.cells cur 55 (0, 0))) (hn : 0 < n) (hnc : n ≤ cap) (hroom : cap < n + 1) (hbig : n ≤ 1000)
    (hcl : cs.length = n * 2) (htk : cur.toList.take (n * 2) = cs) (h1 : ∀ y ∈ cs, y.oneCell' = true) :
    Calls Tryd.prog 54 #[.slice (some ⟨g, 0, none⟩) n cap, .int .i64 0, .slice (some ⟨w.heap.size, 0, none⟩) 1 1] (w.alloc (.cells #[u, .int .i64 x] 55)) fun e w' =>
      ∃ (G : Nat) (Z : List Value), n + 1 ≤ G ∧ G ≤ maxLen ∧ Z.length = (G - (n + 1)) * 2 ∧ e = .returned (.slice (some ⟨w.heap.size + 1, 0, none⟩) (n + 1) G) ∧ Below w.heap.size w w' ∧ w'.heap[w.heap.size + 1]? = some (.cells ([u, .int .i64 x] ++ cs ++ Z).toArray 55 (0, 0)) := by
  obtain ⟨W1, hW1⟩ : ∃ W1, W1 = w.alloc (.cells #[u, .int .i64 x] 55) := ⟨_, rfl⟩
  have hb1 : Below w.heap.size w W1 := by rw [hW1]; exact (Below.refl w.heap.size w).alloc (Nat.le_refl _) _
  have hgW : W1.heap[g]? = some (.cells cur 55 (0, 0)) := by rw [hb1.block g hgl]; exact hg
  have hBW : W1.heap[w.heap.size]? = some (.cells #[u, .int .i64 x] 55 (0, 0)) := by rw [hW1]; exact heap_alloc_new w _
  have hsz : W1.heap.size = w.heap.size + 1 := by rw [hW1]; simp [World.size_alloc]
  rw [← hW1]
  obtain ⟨B, hB⟩ : ∃ B, B = w.heap.size := ⟨_, rfl⟩
  rw [← hB] at hBW hgl hsz hb1 ⊢
  have hne : B ≠ g := by omega
  obtain ⟨i0, hi0, hz0, hzs, hzb⟩ := info_parts infoP
  have u3 := run_underlying (P := Tryd.prog) Tryd.underlying3
  have hold : (Builtin.firstCells i0.size 0 (.slice (some ⟨g, 0, none⟩) 0 cap)).run Tryd.prog W1.drew = .ok ([] : List Value).toArray W1.drew := by
    rw [hzs]
    exact run_firstCells_some (P := Tryd.prog) W1.drew 2 0 ⟨g, 0, none⟩ 0 cap [] rfl (fun j v hj => by simp at hj)
  obtain ⟨G, hG⟩ : ∃ G, G = grownCap W1 (n + 1) cap 55 := ⟨_, rfl⟩
  have hGn : n + 1 ≤ G := by rw [hG]; exact grownCap_ge W1 _ _ _
  have hG63 : G ≤ maxLen := by rw [hG]; exact grownCap_le_maxLen W1 (n + 1) cap 55 (by unfold maxLen; omega)
  obtain ⟨ROW, hROW⟩ : ∃ ROW : Array Value, ROW = ([] : List Value).toArray ++ Builtin.zeroCells (Value.agg #[.slice none 0 0, .int .i64 0]).cells (n + 1) ++ Builtin.zeroCells (Value.agg #[.slice none 0 0, .int .i64 0]).cells (G - (n + 1)) := ⟨_, rfl⟩
  have hrz : ∀ ty, (Builtin.append_ #[35, 3] ty #[.slice (some ⟨g, 0, none⟩) 0 cap, .int .i64 ((n : Int) + 1)]).run Tryd.prog W1 =
      .ok (.slice (some ⟨B + 1, 0, none⟩) (n + 1) G) (W1.drew.alloc (.cells ROW 55)) := fun ty => by
    have h := Lib.run_append_grow_zeros W1 35 3 ty 55 i0 _ .i64 .i64 Tryd.underlying35 Tryd.underlying3 hi0 hz0 (some ⟨g, 0, none⟩) 0 cap [] hold (n + 1) (by omega) (by omega) (by omega) (by omega) (by rw [hzb]; omega) (by rw [hzb, Nat.zero_add]; exact growslice_fits hroom (by omega))
    rw [Nat.zero_add, hsz, ← hG, ← hROW] at h
    exact h
  have hRs : ROW.size = G * 2 := by
    rw [hROW]
    simp [Builtin.zeroCells, Value.cells]
    omega
  obtain ⟨W2, hW2⟩ : ∃ W2, W2 = W1.drew.alloc (.cells ROW 55) := ⟨_, rfl⟩
  rw [← hW2] at hrz
  have hb2 : Below B w W2 := by rw [hW2]; exact hb1.drew.alloc (show B ≤ W1.heap.size by omega) _
  have hN2 : W2.heap[B + 1]? = some (.cells ROW 55 (0, 0)) := by rw [hW2, ← hsz]; exact heap_alloc_new W1.drew _
  have hlow : ∀ k, k < B + 1 → W2.heap[k]? = W1.heap[k]? := fun k hk => by rw [hW2]; exact Below.heap_alloc W1.drew _ k (by show k < W1.heap.size; omega)
  have hBW2 : W2.heap[B]? = some (.cells #[u, .int .i64 x] 55 (0, 0)) := by rw [hlow _ (by omega)]; exact hBW
  have hgW2 : W2.heap[g]? = some (.cells cur 55 (0, 0)) := by rw [hlow _ (by omega)]; exact hgW
  obtain ⟨RA, hRA⟩ : ∃ RA : Array Value, RA = (ROW.toList.take 0 ++ [u, .int .i64 x] ++ ROW.toList.drop (0 + [u, Value.int .i64 x].length)).toArray := ⟨_, rfl⟩
  have hcp1 : ∀ (W : World), (∀ k : Nat, W.heap[k]? = W2.heap[k]?) → ∀ ty dc, (Builtin.copy_ #[35, 35] ty #[.slice (some ⟨B + 1, 0, none⟩) (n + 1) dc, .slice (some ⟨B, 0, none⟩) 1 1]).run Tryd.prog W = .ok (goInt 1) (W.setRow (B + 1) RA) := fun W hW ty dc => by
    rw [hRA]
    exact run_copy_elems Tryd.prog W _ _ ty 55 2 1 (B + 1) 0 (n + 1) dc ⟨B, 0, none⟩ 1 1 ROW 55 [u, .int .i64 x] Tryd.underlying35 sizeP' (by rw [hW]; exact hN2) (by simp only [Nat.min_def]; split <;> omega) rfl (fun j v hj => by
      rw [Addr.add_lit, Nat.zero_add]
      simp only [World.cell?, hW, hBW2]
      simpa using hj) (by simp [hRs]; omega) (oneW u x hu)
  have hRAs : RA.size = G * 2 := by rw [hRA]; simp [hRs]; omega
  have hN3 : (W2.setRow (B + 1) RA).heap[B + 1]? = some (.cells RA 55 (0, 0)) := setRow_heap W2 (B + 1) ROW RA _ _ hN2
  have hgW3 : (W2.setRow (B + 1) RA).heap[g]? = some (.cells cur 55 (0, 0)) := by
    rw [setRow_other W2 (B + 1) g RA (by omega)]; exact hgW2
  obtain ⟨RB, hRB⟩ : ∃ RB : Array Value, RB = (RA.toList.take 2 ++ cs ++ RA.toList.drop (2 + cs.length)).toArray := ⟨_, rfl⟩
  have hcp2 : ∀ (W : World), (∀ k : Nat, W.heap[k]? = (W2.setRow (B + 1) RA).heap[k]?) → ∀ ty dc, (Builtin.copy_ #[35, 35] ty #[.slice (some ⟨B + 1, 2, none⟩) n dc, .slice (some ⟨g, 0, none⟩) n cap]).run Tryd.prog W = .ok (goInt n) (W.setRow (B + 1) RB) := fun W hW ty dc => by
    rw [hRB]
    exact run_copy_elems Tryd.prog W _ _ ty 55 2 n (B + 1) 2 n dc ⟨g, 0, none⟩ n cap RA 55 cs Tryd.underlying35 sizeP' (by rw [hW]; exact hN3) (by simp only [Nat.min_def]; split <;> omega) hcl (fun j v hj => by
      have hj2 : j < cs.length := (List.getElem?_eq_some_iff.1 hj).1
      rw [Addr.add_lit, Nat.zero_add]
      simp only [World.cell?, hW, hgW3]
      rw [← htk, List.getElem?_take] at hj
      rw [if_pos (by omega)] at hj
      simpa using hj) (by omega) h1
  have hcp3 := hcp2 (W2.setRow (B + 1) RA).drew (fun _ => rfl)
  have hend : RB = ([u, .int .i64 x] ++ cs ++ RA.toList.drop (2 + cs.length)).toArray := by
    rw [hRB]
    have : RA.toList.take 2 = [u, .int .i64 x] := by rw [hRA]; simp
    rw [this]
  have hZ : (RA.toList.drop (2 + cs.length)).length = (G - (n + 1)) * 2 := by rw [List.length_drop, Array.length_toList, hRAs, hcl]; omega
  have Hfin := Lib.hid (fun (W : World) (hW : ∀ k : Nat, W.heap[k]? = (W2.setRow (B + 1) RA).heap[k]?) (h0 : Below B w W) => show Below B w (W.setRow (B + 1) RB) ∧ (W.setRow (B + 1) RB).heap[B + 1]? = some (.cells ([u, .int .i64 x] ++ cs ++ RA.toList.drop (2 + cs.length)).toArray 55 (0, 0)) from
    ⟨belowRow h0 (B + 1) (by omega) RB, by rw [← hend]; exact setRow_heap W (B + 1) RA RB _ _ (by rw [hW]; exact hN3)⟩)
  have HB3 := Lib.hid (belowRow hb2 (B + 1) (by omega) RA)
  have HZ := Lib.hid hZ
  have HGn := Lib.hid hGn
  have HG63 := Lib.hid hG63
  have hGc : G ≤ 9223372036854775807 := by unfold maxLen at hG63; exact hG63
  have hG1 : ¬ G = 1 := by omega
  have hz2 : ¬ ((0 : Int) = (n : Int)) := by omega
  have hz4 : (cap : Int) < (n : Int) + 1 := by omega
  have hz5 : (0 : Int) ≤ (n : Int) + 1 := by omega
  have hz6 : (0 : Int) ≤ (n : Int) := by omega
  have hw1 : IntKind.i64.wrap ((n : Int) + 1) = (n : Int) + 1 := by rw [IntKind.wrap_i64]; omega
  have hw2 : IntKind.i64.wrap 1 = 1 := by rw [IntKind.wrap_i64]; omega
  have hb1' : (1 : Int) ≤ (n : Int) + 1 := by omega
  have mixed : Tryd.prog.follows Departure.mixedOrders = true := by kernel_rfl
  clear hcp2 hcl htk h1 hg hgl hW1 hW2 hB hRA hRAs hend hN2 hN3 hlow hBW hgW hBW2 hgW2 hgW3 hRB hZ hGn hG63 hb1 hb2 hsz hG hROW hRs hold hi0 hz0 hzs hzb
  go_enter Tryd.func54, Tryd.ntmps54
  go_wp2_with (first
    | (at_builtin; refine Lib.wpList_append_run _ rfl _ _ _ _ rfl _ _ rfl rfl _ _ (hrz _) ?_)
    | (at_builtin; refine wpList_copy_runI _ rfl _ _ 35 35 rfl _ _ rfl rfl (hcp1 _ (fun _ => rfl) _ _) ?_))
  go_region_law_o (refine step_copy_runI rfl _ _ 35 35 rfl (.slice (some ⟨B + 1, 2, none⟩) n (G - 1)) (.slice (some ⟨g, 0, none⟩) n cap) (by simp [Act.eval, Act.put]) (by simp [Act.eval, Act.put]) (hcp3 3 (G - 1)) ?_)
  go_wp2
  go_ret
  exact ⟨G, _, HGn.out, HG63.out, HZ.out, rfl, (Hfin.out (W2.setRow (B + 1) RA).drew (fun _ => rfl) HB3.out.drew).1, (Hfin.out (W2.setRow (B + 1) RA).drew (fun _ => rfl) HB3.out.drew).2⟩

/-- slices.Insert of a step ahead of all others. -/
theorem Insert_any {w0 w : World} {L : List It} (m : Sg) {u v : Value} {us : List Value} {ms : List Sg} (h : St w0 w (.own u m.d :: L)) (j : Nat) (hj : L[j]? = some (stIt v us ms)) (hul : us.length = ms.length) (hlen : ms.length ≤ 1000) :
    Calls Tryd.prog 54 #[v, .int .i64 0, .slice (some ⟨w.heap.size, 0, none⟩) 1 1] (w.alloc (.cells #[u, .int .i64 m.n] 55)) fun e w' => ∃ v', e = .returned v' ∧ St w0 w' (L.set j (stIt v' (u :: us) (m :: ms))) := by
  cases hms : ms with
  | nil =>
    subst hms
    obtain rfl : us = [] := List.eq_nil_of_length_eq_zero hul
    exact Insert_nil m h j hj
  | cons m1 ms1 =>
    have hn : 0 < ms.length := by rw [hms]; simp
    rw [← hms]
    clear hms
    have hil : j < L.length := (List.getElem?_eq_some_iff.1 hj).1
    have hu : u.oneCell' = true := (h.own 0 rfl).one
    have hv := h.vec (j + 1) (by rw [List.getElem?_cons_succ]; exact hj)
    have hone : ∀ y ∈ cells us ms, y.oneCell' = true := cells_one fun y hy => by
      obtain ⟨i, hi, rfl⟩ := List.getElem_of_mem hy
      exact (hv.2 (us[i], (ms[i]'(by omega)).d) (List.mem_of_getElem? (zipGet (List.getElem?_eq_getElem hi) (by rw [List.getElem?_map, List.getElem?_eq_getElem (by omega)]; rfl)))).one
    have hp := (h.absorb j hj).permVec j (List.getElem?_set_self hil) (subs' := (u, m.d) :: us.zip (ms.map Sg.d)) (List.perm_append_singleton _ _).symm
    rw [List.set_set] at hp
    have hj' : (L.set j (.vec v 55 2 ms.length (cells us ms) ((u, m.d) :: us.zip (ms.map Sg.d))))[j]? = some (.vec v 55 2 ms.length (cells us ms) ((u, m.d) :: us.zip (ms.map Sg.d))) := List.getElem?_set_self hil
    rcases id hv.1.2 with ⟨rfl, h0⟩ | ⟨g, cap, cur, rfl, hb, hg, hnc, hm, hcs, hct⟩
    · omega
    have hgl : g < w.heap.size := (Array.getElem?_eq_some_iff.1 hg).1
    have hcl := length_cells us ms hul
    have fin : ∀ (v' : Value) (w' : World), w.grownBy w' (some g) → (∀ b, v'.ownBlock = some b → some g = some b ∨ w.heap.size ≤ b) → w'.ownsRow w0.heap.size 55 2 v' (ms.length + 1) (cells (u :: us) (m :: ms)) → St w0 w' (L.set j (stIt v' (u :: us) (m :: ms))) := fun v' w' hg hv' hok => by
      have := hp.updVec j hj' hg hv' hok
      rw [List.set_set] at this
      exact this
    by_cases hroom : ms.length + 1 ≤ cap
    · refine (Insert_room w u m.n hu g ms.length cap cur (cells us ms) hgl hg hn hroom (by simpa [maxLen] using hm) hcs hcl hct hone).mono ?_
      rintro (e : Ending) w' ⟨rfl, rfl⟩
      refine ⟨_, rfl, fin _ _ ⟨rfl, rfl, rfl, ?_, ?_⟩ (fun b hb => .inl hb) ⟨?_, .inr ⟨g, cap, _, rfl, hb, setRow_heap _ g cur _ _ _ ?_, hroom, hm, ?_, ?_⟩⟩⟩
      · simp [World.setRow, World.size_alloc, World.drew]
      · intro k hk hne
        rw [setRow_other _ g k _ (fun e => hne (by rw [e]))]
        exact Below.heap_alloc w _ k hk
      · rw [length_cells _ _ (by simp [hul])]; simp
      · exact (Below.heap_alloc w _ g hgl).trans hg
      · simp [hcl, hcs]; omega
      · simp only [cells_cons]
        rw [List.take_append_of_le_length (by simp [hcl]; omega), List.take_of_length_le (by simp [hcl]; omega)]
    · refine (Insert_grow w u m.n hu g ms.length cap cur (cells us ms) hgl hg hn hnc (by omega) hlen hcl hct hone).mono ?_
      rintro (e : Ending) w' ⟨G, Z, hG, hG2, hZ, rfl, hbe, hN⟩
      refine ⟨_, rfl, fin _ _ ⟨hbe.os, hbe.tape, hbe.output, hbe.size, fun k hk _ => hbe.block k hk⟩ (fun b hb => .inr ?_) ⟨?_, .inr ⟨w.heap.size + 1, G, _, rfl, ?_, hN, hG, hG2, ?_, ?_⟩⟩⟩
      · simp only [Value.ownBlock, Option.some.injEq] at hb; omega
      · rw [length_cells _ _ (by simp [hul])]; simp
      · have := h.size; omega
      · simp [hcl, hZ]; omega
      · simp only [cells_cons]
        rw [List.take_append_of_le_length (by simp [hcl]; omega), List.take_of_length_le (by simp [hcl]; omega)]

end Stp
end Go.Proofs.YtcngijafnnmccaaDoor
