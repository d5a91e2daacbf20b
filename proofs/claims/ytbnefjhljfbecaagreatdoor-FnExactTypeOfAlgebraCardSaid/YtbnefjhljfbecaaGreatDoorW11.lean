import Derived.Test.YtbnefjhljfbecaaGreatDoorW05
import Derived.Test.YtbnefjhljfbecaaGreatDoorW07
namespace Go.Proofs.YtbnefjhljfbecaaGreatDoor
set_option maxRecDepth 100000
open Go.RowKit
theorem infoStr : (Tryz.prog.info? 9).map (fun i => (i.zero, i.size, i.bytes)) = some (some (.string ByteArray.empty), 1, 16) := by kernel_rfl
def StrsAt (w : World) (lo hi : Nat) (v : Value) (l : List ByteArray) : Prop :=
 ∃ A c, v = .slice A l.length c ∧ l.length ≤ c ∧ (0 < l.length → ∃ b o, A = some ⟨b, o, none⟩ ∧ lo ≤ b ∧ b < hi ∧ ∀ j x, l[j]? = some x → w.cell? ⟨b, o + j, none⟩ = some (.string x))
def SSAt (w : World) (lo hi : Nat) (v : Value) (ll : List (List ByteArray)) : Prop :=
 ∃ A c, v = .slice A ll.length c ∧ ll.length ≤ c ∧ (0 < ll.length → ∃ b o, A = some ⟨b, o, none⟩ ∧ lo ≤ b ∧ b < hi ∧ ∀ j l, ll[j]? = some l → ∃ u, w.cell? ⟨b, o + j, none⟩ = some u ∧ StrsAt w lo hi u l)
theorem StrsAt.keep {w w' : World} {lo hi : Nat} {v : Value} {l : List ByteArray} (h : StrsAt w lo hi v l) (hk : ∀ b, lo ≤ b → b < hi → w'.heap[b]? = w.heap[b]?) : StrsAt w' lo hi v l := by
 obtain ⟨A, c, rfl, h1, h2⟩ := h
 refine ⟨A, c, rfl, h1, fun h0 => ?_⟩
 obtain ⟨b, o, rfl, h3, h4, h5⟩ := h2 h0
 exact ⟨b, o, rfl, h3, h4, fun j x hx => (World.cell?_of_block (hk b h3 h4)).trans (h5 j x hx)⟩
theorem SSAt.keep {w w' : World} {lo hi : Nat} {v : Value} {ll : List (List ByteArray)} (h : SSAt w lo hi v ll) (hk : ∀ b, lo ≤ b → b < hi → w'.heap[b]? = w.heap[b]?) : SSAt w' lo hi v ll := by
 obtain ⟨A, c, rfl, h1, h2⟩ := h
 refine ⟨A, c, rfl, h1, fun h0 => ?_⟩
 obtain ⟨b, o, rfl, h3, h4, h5⟩ := h2 h0
 refine ⟨b, o, rfl, h3, h4, fun j l hl => ?_⟩
 obtain ⟨u, h6, h7⟩ := h5 j l hl
 exact ⟨u, (World.cell?_of_block (hk b h3 h4)).trans h6, h7.keep hk⟩
theorem StrsAt.below {w w' : World} {lo hi : Nat} {v : Value} {l : List ByteArray} (h : StrsAt w lo hi v l) (hb : Below w.heap.size w w') (hh : hi ≤ w.heap.size) : StrsAt w' lo hi v l := h.keep fun b _ h2 => hb.block b (by omega)
theorem StrsAt.nil (w : World) (lo hi : Nat) : StrsAt w lo hi (.slice none 0 0) [] := ⟨none, 0, rfl, by simp, fun h => absurd h (by simp)⟩
def strIt (v : Value) (l : List ByteArray) : It := .vec v 9 1 l.length (l.map Value.string) []
section
variable {w0 w : World} {L : List It}
theorem St.emptyStrs (h : St w0 w L) : St w0 (w.alloc (.cells #[] 9)) (strIt (.slice (some ⟨w.heap.size, 0, none⟩) 0 0) [] :: L) :=
 h.push (x := strIt (.slice (some ⟨w.heap.size, 0, none⟩) 0 0) []) ((Below.refl _ _).alloc (Nat.le_refl _) _) ⟨World.ownsRow_lit (base := w0.heap.size) (e := 9) (size := 1) w #[] 0 h.size (by simp) rfl, fun s hs => by cases hs⟩ (fun b hb => by simp [strIt, It.fp, Value.ownBlock] at hb; omega) (by simp [strIt, It.fp, Value.ownBlock])
theorem St.litStr (h : St w0 w L) (x : ByteArray) : St w0 (w.alloc (.cells #[.string x] 9)) (strIt (.slice (some ⟨w.heap.size, 0, none⟩) 1 1) [x] :: L) :=
 h.push (x := strIt (.slice (some ⟨w.heap.size, 0, none⟩) 1 1) [x]) ((Below.refl _ _).alloc (Nat.le_refl _) _) ⟨World.ownsRow_lit (base := w0.heap.size) (e := 9) (size := 1) w #[.string x] 1 h.size (by simp [maxLen]) rfl, fun s hs => by cases hs⟩ (fun b hb => by simp [strIt, It.fp, Value.ownBlock] at hb; omega) (by simp [strIt, It.fp, Value.ownBlock])
theorem St.strs (h : St w0 w L) (i : Nat) {v : Value} {l : List ByteArray} (hi : L[i]? = some (strIt v l)) : StrsAt w w0.heap.size w.heap.size v l := by
 obtain ⟨h1, _⟩ := h.vec i hi
 rcases id h1.2 with ⟨rfl, h0⟩ | ⟨g, cap, cur, rfl, hb, hg, hn, hm, _⟩
 ·obtain rfl : l = [] := List.eq_nil_of_length_eq_zero h0
  exact StrsAt.nil _ _ _
 ·refine ⟨_, cap, rfl, hn, fun _ => ⟨g, 0, rfl, hb, (World.ownsRow.lt h1 g rfl).2, fun j x hx => ?_⟩⟩
  have hj := (List.getElem?_eq_some_iff.1 hx).1
  rw [Nat.zero_add]
  exact (World.ownsRow.cellAt h1 j (by omega)).trans (by rw [List.getElem?_map, hx]; rfl)
theorem St.strVal (h : St w0 w L) (i : Nat) {v : Value} {l : List ByteArray} (hi : L[i]? = some (strIt v l)) : ∃ A c, v = .slice A l.length c ∧ l.length ≤ c ∧ c ≤ 9223372036854775807 := by
 obtain ⟨h1, _⟩ := h.vec i hi
 rcases id h1.2 with ⟨rfl, h0⟩ | ⟨g, cap, cur, rfl, hb, hg, hn, hm, _⟩
 ·obtain rfl : l = [] := List.eq_nil_of_length_eq_zero h0
  exact ⟨none, 0, rfl, by simp, by omega⟩
 ·exact ⟨_, cap, rfl, hn, by simpa [maxLen] using hm⟩
theorem run_append_strs (ty : Nat) (h : St w0 w L) (j : Nat) {v : Value} {l : List ByteArray} (hj : L[j]? = some (strIt v l)) {u : Value} {l2 : List ByteArray} {lo hi : Nat} (hu : StrsAt w lo hi u l2) (hlen : l.length + l2.length ≤ 8796093022208) :
    ∃ v' w', (Builtin.append_ #[65, 65] ty #[v, u]).run Tryz.prog w = .ok v' w' ∧ St w0 w' (L.set j (strIt v' (l ++ l2))) := by
  obtain ⟨i, h1, h2, h3, h4⟩ := info_parts infoStr
  have hsl : Tryz.prog.underlying 65 = some (.slice 9) := Tryz.underlying65
  have hinf : Tryz.prog.info? 9 = some i := h1
  obtain ⟨A, c, rfl, g1, g2⟩ := hu
  have hown := (h.vec j hj).1
  by_cases hy : l2.length = 0
  · obtain rfl : l2 = [] := List.eq_nil_of_length_eq_zero hy
    have hr : (Builtin.append_ #[65, 65] ty #[v, .slice A 0 c]).run Tryz.prog w = .ok v w := by
      rcases hown.2 with ⟨rfl, h0⟩ | ⟨g, cap, cur, rfl, _, _, hnc, _⟩
      · cases A <;> simp [Builtin.append_, run_underlying hsl, sizeOf, typeInfo, hinf, Builtin.lenOf, Builtin.firstCells, loadCells, loadCellsFrom]
      · cases A <;> simp [Builtin.append_, run_underlying hsl, sizeOf, typeInfo, hinf, Builtin.lenOf, Builtin.firstCells, hnc, storeCells, loadCells, loadCellsFrom]
    refine ⟨v, w, hr, ?_⟩
    rw [List.append_nil]
    have hil : j < L.length := (List.getElem?_eq_some_iff.1 hj).1
    have e : L.set j (strIt v l) = L := by
      rw [List.getElem?_eq_getElem hil] at hj
      rw [← Option.some.inj hj, List.set_getElem_self]
    rw [e]; exact h
  · obtain ⟨b, off, rfl, _, _, hc⟩ := g2 (by omega)
    obtain ⟨v', w', hr, k1, k2, _, k4⟩ := run_append_own_at (P := Tryz.prog) w w0.heap.size 65 ty 9 i (.string ByteArray.empty) 1 16 hsl hinf h2 h3 h4 rfl (by decide) v l.length (l.map Value.string) hown ⟨b, off, none⟩ l2.length c (l2.map Value.string) (by simp)
      (fun q u hq => by
        rw [List.getElem?_map] at hq
        obtain ⟨x, hx, rfl⟩ := Option.map_eq_some_iff.1 hq
        rw [add_zero_spot]
        exact hc q x hx) (fun u hu => by
        obtain ⟨x, _, rfl⟩ := List.mem_map.1 hu
        rfl) (by simp only [maxLen]; omega) (by omega) h.size
    refine ⟨v', w', hr, ?_⟩
    have := h.updVec j hj (cs' := l.map Value.string ++ l2.map Value.string) k2 (fun b hb => by
      rcases k4 with e | e
      · exact .inl (by rw [← e]; exact hb)
      · right
        rw [e] at hb
        simp only [Option.some.injEq] at hb
        omega) k1
    unfold strIt
    rw [List.map_append, List.length_append]
    exact this
theorem wp_append_strs {ops : Array Oper} {rest : List Oper} {o : Oper} {a : Act} {Q : Exit → Act → World → Prop} (hgd : o.guard = none) (s x : Operand)
  (ho : o.op = .call { callee := .builtin .append, args := #[s, x], argTypes := #[65, 65] }) (h : St w0 w L) (j : Nat) {v : Value} {l : List ByteArray} (hj : L[j]? = some (strIt v l)) {u : Value} {l2 : List ByteArray} {lo hi : Nat} (hu : StrsAt w lo hi u l2) (hlen : l.length + l2.length ≤ 8796093022208)
  (hs : a.eval s = v) (hx : a.eval x = u)
  (hk : ∀ v' w', St w0 w' (L.set j (strIt v' (l ++ l2))) → wpList Tryz.prog ops Q rest (a.put o.dst v') w') : wpList Tryz.prog ops Q (o :: rest) a w := by
 refine wpList_plain hgd fun K hK => ?_
 obtain ⟨v', w', hr, k1⟩ := run_append_strs o.type h j hj hu hlen
 unfold Oper.wp execOp
 simp only [ho, resolve, invoke, builtin, Sem.run_bind, Sem.run_pure, Result.andThen_ok, List.map_toArray, List.map_cons, List.map_nil, hs, hx, hr]
 exact hK _ _ (hk v' w' k1)
theorem step_append_strs {ops : Array Oper} {o : Oper} {a : Act} {K : Act → World → Prop} {Q : Exit → Act → World → Prop} {E : Prop} (hgd : o.guard = none) (s x : Operand)
  (ho : o.op = .call { callee := .builtin .append, args := #[s, x], argTypes := #[65, 65] }) (h : St w0 w L) (j : Nat) {v : Value} {l : List ByteArray} (hj : L[j]? = some (strIt v l)) {u : Value} {l2 : List ByteArray} {lo hi : Nat} (hu : StrsAt w lo hi u l2) (hlen : l.length + l2.length ≤ 8796093022208)
  (hs : a.eval s = v) (hx : a.eval x = u)
  (hk : ∀ v' w', St w0 w' (L.set j (strIt v' (l ++ l2))) → K (a.put o.dst v') w') :
  if Region.wanted o (yielded ops a.tmps) = true then Oper.wp Tryz.prog o a w K Q else E := by
 have hw : Region.wanted o (yielded ops a.tmps) = true := by simp [Region.wanted, hgd]
 rw [if_pos hw]
 obtain ⟨v', w', hr, k1⟩ := run_append_strs o.type h j hj hu hlen
 unfold Oper.wp execOp
 simp only [ho, resolve, invoke, builtin, Sem.run_bind, Sem.run_pure, Result.andThen_ok, List.map_toArray, List.map_cons, List.map_nil, hs, hx, hr]
 exact hk _ _ k1
theorem St.hold (h : St w0 w L) {w' : World} (hb : Below w.heap.size w w') (R : World → Prop) (hR : ∀ w'', (∀ b, w.heap.size ≤ b → b < w'.heap.size → w''.heap[b]? = w'.heap[b]?) → R w'') :
  St w0 w' (.held (List.range' w.heap.size (w'.heap.size - w.heap.size)) R :: L) := by
 have hs := hb.size
 have hm : ∀ b, b ∈ List.range' w.heap.size (w'.heap.size - w.heap.size) ↔ w.heap.size ≤ b ∧ b < w'.heap.size := fun b => by rw [List.mem_range'_1]; omega
 have h0 := h.size
 refine h.push hb ⟨fun b hb' => ?_, fun w'' hw => hR w'' fun b h1 h2 => hw b (.inr ((hm b).2 ⟨h1, h2⟩))⟩ (fun b hb' => ((hm b).1 hb').1) List.nodup_range'
 have := (hm b).1 hb'
 omega
theorem St.heldR (h : St w0 w L) (i : Nat) {bs : List Nat} {R : World → Prop} (hi : L[i]? = some (.held bs R)) : R w := (h.at i hi : It.ok _ _ (.held bs R)).2 w fun _ _ => rfl
theorem St.freeze {v : Value} {l : List ByteArray} {bs : List Nat} {R : World → Prop} (h : St w0 w (strIt v l :: .held bs R :: L)) :
  St w0 w (.held (v.ownBlock.toList ++ bs) (fun w' => R w' ∧ StrsAt w' w0.heap.size w.heap.size v l) :: L) := by
 have h1 := h.drop 2
 have hR := h.at 1 (show (strIt v l :: It.held bs R :: L)[1]? = some (.held bs R) from rfl)
 have hs := h.strs 0 rfl
 have hown := (h.vec 0 (show (strIt v l :: It.held bs R :: L)[0]? = some (strIt v l) from rfl)).1
 obtain ⟨r1, r2⟩ := (hR : It.ok _ _ (.held bs R))
 have hap := h.apart 0 1 (strIt v l) (.held bs R) rfl rfl
 have hfv : (strIt v l).fp = v.ownBlock.toList := by simp [strIt, It.fp]
 refine ⟨h.below, fun x hx => ?_, fun i j x y hx hy b hb1 hb2 => ?_, fun x hx => ?_⟩
 ·rcases List.mem_cons.1 hx with rfl | hx
  ·refine ⟨fun b hb => ?_, fun w' hw => ⟨r2 w' fun b hb => hw b (hb.elim .inl fun h => .inr (List.mem_append.2 (.inr h))), ?_⟩⟩
   ·rcases List.mem_append.1 hb with hb | hb
    ·exact World.ownsRow.lt hown b (by simpa using hb)
    ·exact r1 b hb
   ·obtain ⟨A, c, e, h3, h4⟩ := hs
    refine ⟨A, c, e, h3, fun h0 => ?_⟩
    obtain ⟨b, o, eA, h5, h6, h7⟩ := h4 h0
    refine ⟨b, o, eA, h5, h6, fun j x hx => (World.cell?_of_block ?_).trans (h7 j x hx)⟩
    refine hw b (.inr (List.mem_append.2 (.inl ?_)))
    rcases id hown.2 with ⟨e2, h00⟩ | ⟨g, cap, cur, e2, _⟩
    ·rw [e2] at e
     simp only [Value.slice.injEq] at e
     omega
    ·rw [e2] at e ⊢
     simp only [Value.slice.injEq] at e
     have := e.1.trans eA
     simp only [Option.some.injEq, Addr.mk.injEq] at this
     simp [Value.ownBlock, this.1]
  ·exact h.ok x (by simp [hx])
 ·have key : ∀ (k : Nat) (z : It), (It.held (v.ownBlock.toList ++ bs) (fun w' => R w' ∧ StrsAt w' w0.heap.size w.heap.size v l) :: L)[k]? = some z → b ∈ z.fp → ∃ k' z', (strIt v l :: It.held bs R :: L)[k']? = some z' ∧ b ∈ z'.fp ∧ (k' = k + 1 ∨ (k = 0 ∧ k' = 0)) := by
   intro k z hz hb
   cases k with
   | zero =>
    obtain rfl : _ = z := Option.some.inj hz
    rcases List.mem_append.1 hb with hb | hb
    ·exact ⟨0, _, rfl, by rw [hfv]; exact hb, .inr ⟨rfl, rfl⟩⟩
    ·exact ⟨1, _, rfl, hb, .inl rfl⟩
   | succ k => exact ⟨k + 2, z, hz, hb, .inl rfl⟩
  obtain ⟨i', x', a1, a2, a3⟩ := key i x hx hb1
  obtain ⟨j', y', b1, b2, b3⟩ := key j y hy hb2
  have := h.apart i' j' x' y' a1 b1 b a2 b2
  omega
 ·rcases List.mem_cons.1 hx with rfl | hx
  ·show (v.ownBlock.toList ++ bs).Nodup
   rw [List.nodup_append]
   refine ⟨by cases v.ownBlock <;> simp, h.nodup (.held bs R) (by simp), fun a ha b hb e => ?_⟩
   have := hap a (by rw [hfv]; exact ha) (e ▸ hb)
   omega
  ·exact h.nodup x (by simp [hx])
end
end Go.Proofs.YtbnefjhljfbecaaGreatDoor
