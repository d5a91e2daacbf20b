import Derived.BigQuiet
import Derived.Deep.Draws
import Derived.Deep.QuietTactic
import Derived.Laws.CopyOwn
import Derived.Lib.Hide
import Derived.Maps.AppendAt
import Derived.Test.YtbnefjhljfbecaaGreatDoorRows
import Derived.WalkKit
import Derived.WalkLawsBesides
import Derived.WalkSpells
namespace Go.Proofs.YtbnefjhljfbecaaGreatDoor
set_option maxRecDepth 100000
section
open Go.RowKit
def Draws (w w' : World) : Prop := ∃ m, w' = w.drewN m
theorem Draws.refl (w : World) : Draws w w := ⟨0, rfl⟩
theorem ret_int {k : IntKind} {a b : Int} (h : a = b) : Ending.returned (.int k a) = .returned (.int k b) := by rw [h]
theorem ret_bool {a b : Bool} (h : a = b) : Ending.returned (.bool a) = .returned (.bool b) := by rw [h]
def Ints (w : World) (v : Value) (l : List Int) : Prop :=
 ∃ A c, v = .slice A l.length c ∧ l.length ≤ c ∧ c ≤ 9223372036854775807 ∧
  (0 < l.length → ∃ b off, A = some ⟨b, off, none⟩ ∧ ∀ (i : Nat) (x : Int), l[i]? = some x → w.cell? ⟨b, off + i, none⟩ = some (.int .i64 x))
theorem Ints.keep {w w' : World} {v : Value} {l : List Int} (h : Ints w v l) (hk : ∀ p : Addr, p.block < w.heap.size → w'.cell? p = w.cell? p) : Ints w' v l := by
 obtain ⟨A, c, rfl, h1, h2, h3⟩ := h
 refine ⟨A, c, rfl, h1, h2, fun hl => ?_⟩
 obtain ⟨b, off, rfl, hc⟩ := h3 hl
 exact ⟨b, off, rfl, fun i x hx => (hk _ (World.block_lt_of_cell? w _ (hc i x hx))).trans (hc i x hx)⟩
theorem Ints.below {w w' : World} {v : Value} {l : List Int} (h : Ints w v l) (hb : Below w.heap.size w w') : Ints w' v l := h.keep fun _ hp => hb.cell hp
theorem Ints.take {w : World} {A : Option Addr} {n c : Nat} {l : List Int} (h : Ints w (.slice A n c) l) (k : Nat) (hk : k ≤ n) : Ints w (.slice A k c) (l.take k) := by
 obtain ⟨A', c', he, h1, h2, h3⟩ := h
 simp only [Value.slice.injEq] at he
 obtain ⟨rfl, rfl, rfl⟩ := he
 have hl : (l.take k).length = k := by rw [List.length_take]; omega
 refine ⟨A, c, by rw [hl], by omega, h2, fun hp => ?_⟩
 obtain ⟨b, off, rfl, hc⟩ := h3 (by omega)
 refine ⟨b, off, rfl, fun i x hx => hc i x ?_⟩
 rw [List.getElem?_take] at hx
 split at hx
 ·exact hx
 ·cases hx
theorem Ints.drop {w : World} {A : Option Addr} {n c : Nat} {l : List Int} (h : Ints w (.slice A n c) l) (k : Nat) (hk : k ≤ n) :
  Ints w (.slice (if c = k then A else A.map (·.add k)) (n - k) (c - k)) (l.drop k) := by
 obtain ⟨A', c', he, h1, h2, h3⟩ := h
 simp only [Value.slice.injEq] at he
 obtain ⟨rfl, rfl, rfl⟩ := he
 have hl : (l.drop k).length = l.length - k := List.length_drop
 refine ⟨_, _, by rw [hl], by omega, by omega, fun hp => ?_⟩
 obtain ⟨b, off, rfl, hc⟩ := h3 (by omega)
 rw [if_neg (by omega)]
 refine ⟨b, off + k, by by_cases h0 : k = 0 <;> simp [Addr.add, h0], fun i x hx => ?_⟩
 rw [Nat.add_assoc]
 exact hc (k + i) x (by rw [← hx, List.getElem?_drop])
theorem Ints.cut {w : World} {A : Option Addr} {n c : Nat} {l : List Int} (h : Ints w (.slice A n c) l) (lo hi : Nat) (h1 : lo ≤ hi) (h2 : hi ≤ n) :
  Ints w (.slice (if c = lo then A else A.map (·.add lo)) (hi - lo) (c - lo)) ((l.take hi).drop lo) := (h.take hi h2).drop lo h1
section
variable {P : Program}
theorem cut_to (t : TypeId) {i : TypeInfo} (ht : P.underlying t = some (.slice (P.elem t))) (hi : P.info? (P.elem t) = some i) (hsz : i.size = 1) {w : World} {A : Option Addr} {n c : Nat} {l : List Int}
  (h : Ints w (.slice A n c) l) (k : Nat) (hk : k ≤ n) :
  (∀ W : World, (Instr.sliceAt t (.slice A n c) none (some (.int .i64 (k : Int))) none).run P W = .ok (.slice A k c) W) ∧ Ints w (.slice A k c) (l.take k) := by
 have hc : n ≤ c := by
  obtain ⟨A', c', he, h1, _⟩ := h
  simp only [Value.slice.injEq] at he
  omega
 refine ⟨fun W => ?_, h.take k hk⟩
 rw [run_sliceAt_slice W t _ _ _ _ ht, run_slice_h W t A n c ht .i64 k (by omega) (by omega)]
 cases A <;> simp [sizeOf, typeInfo, hi, hsz, sliced, Result.andThen, Addr.add]
end
theorem sliceI : Tryz.prog.underlying 22 = some (.slice (Tryz.prog.elem 22)) := by kernel_rfl
theorem infoI : (Tryz.prog.info? (Tryz.prog.elem 22)).map (fun i => (i.zero, i.size, i.bytes)) = some (some (.int .i64 0), 1, 8) := by kernel_rfl
theorem cutTo {w : World} {A : Option Addr} {n c : Nat} {l : List Int} (h : Ints w (.slice A n c) l) (k : Nat) (hk : k ≤ n) :
  (∀ W : World, (Instr.sliceAt 22 (.slice A n c) none (some (.int .i64 (k : Int))) none).run Tryz.prog W = .ok (.slice A k c) W) ∧ Ints w (.slice A k c) (l.take k) := by
 obtain ⟨i, h1, _, h3, _⟩ := info_parts infoI
 exact cut_to _ sliceI h1 h3 h k hk
def Own (w : World) (lo : Nat) (v : Value) (l : List Int) : Prop := w.ownsRow lo 3 1 v l.length (l.map (Value.int .i64))
theorem Own.ints {w : World} {lo : Nat} {v : Value} {l : List Int} (h : Own w lo v l) : Ints w v l := by
 have hc := @World.ownsRow.cellAt w lo 3 1
 rcases id h.2 with ⟨rfl, h0⟩ | ⟨g, cap, cur, rfl, hb, hg, hn, hm, _⟩
 ·obtain rfl : l = [] := List.eq_nil_of_length_eq_zero h0
  exact ⟨none, 0, rfl, by simp, by simp, fun h => by simp at h⟩
 ·refine ⟨_, cap, rfl, hn, by simpa [maxLen] using hm, fun _ => ⟨g, 0, rfl, fun i x hx => ?_⟩⟩
  rw [Nat.zero_add, hc h i (by have := (List.getElem?_eq_some_iff.1 hx).1; omega)]
  simp [hx]
theorem Own.slice {w : World} {lo : Nat} {v : Value} {l : List Int} (h : Own w lo v l) : ∃ A n c, v = .slice A n c := by
 obtain ⟨A, c, rfl, _⟩ := h.ints
 exact ⟨_, _, _, rfl⟩
theorem Own.lt {w : World} {lo : Nat} {v : Value} {l : List Int} (h : Own w lo v l) : ∀ k, v.ownBlock = some k → lo ≤ k ∧ k < w.heap.size := World.ownsRow.lt h
theorem Own.below {w w' : World} {lo : Nat} {v : Value} {l : List Int} (h : Own w lo v l) (hb : Below w.heap.size w w') : Own w' lo v l :=
 World.ownsRow.kept (row := none) h ⟨hb.os, hb.tape, hb.output, hb.size, fun k hk _ => hb.block k hk⟩ (by cases hv : v.ownBlock <;> simp)
theorem Own.mono {w : World} {lo lo' : Nat} {v : Value} {l : List Int} (h : Own w lo v l) (hl : lo' ≤ lo) : Own w lo' v l := by
 refine ⟨h.1, ?_⟩
 rcases h.2 with hn | ⟨g, cap, cur, hv, hb, r⟩
 ·exact .inl hn
 ·exact .inr ⟨g, cap, cur, hv, Nat.le_trans hl hb, r⟩
theorem below_of_eq {w w' : World} (h : w = w') : Below w.heap.size w w' := by subst h; exact Below.refl _ _
def IntsB (w : World) (B : Nat) (v : Value) (l : List Int) : Prop := Ints w v l ∧ (0 < l.length → ∃ b off c, v = .slice (some ⟨b, off, none⟩) l.length c ∧ b < B)
theorem IntsB.ints {w : World} {B : Nat} {v : Value} {l : List Int} (h : IntsB w B v l) : Ints w v l := h.1
theorem Ints.toB {w : World} {v : Value} {l : List Int} (h : Ints w v l) : IntsB w w.heap.size v l := by
 refine ⟨h, fun hl => ?_⟩
 obtain ⟨A, c, rfl, h1, h2, h3⟩ := h
 obtain ⟨b, off, rfl, hc⟩ := h3 hl
 exact ⟨b, off, c, rfl, World.block_lt_of_cell? w _ (hc 0 l[0] (List.getElem?_eq_getElem hl))⟩
theorem IntsB.keep {w w' : World} {B : Nat} {v : Value} {l : List Int} (h : IntsB w B v l) (hk : ∀ p : Addr, p.block < B → w'.cell? p = w.cell? p) : IntsB w' B v l := by
 refine ⟨?_, h.2⟩
 obtain ⟨⟨A, c, rfl, h1, h2, h3⟩, h4⟩ := h
 refine ⟨A, c, rfl, h1, h2, fun hl => ?_⟩
 obtain ⟨b, off, rfl, hc⟩ := h3 hl
 obtain ⟨b', off', c', he, hb⟩ := h4 hl
 simp only [Value.slice.injEq, Option.some.injEq, Addr.mk.injEq, and_true, true_and] at he
 obtain ⟨⟨rfl, rfl⟩, rfl⟩ := he
 exact ⟨b, off, rfl, fun i x hx => (hk _ hb).trans (hc i x hx)⟩
theorem IntsB.below {w w' : World} {B B' : Nat} {v : Value} {l : List Int} (h : IntsB w B v l) (hb : Below B' w w') (hB : B ≤ B') : IntsB w' B v l := h.keep fun _ hp => hb.cell (Nat.lt_of_lt_of_le hp hB)
structure OwnIn (w : World) (lo hi : Nat) (v : Value) (l : List Int) : Prop where
 own : Own w lo v l
 top : ∀ k, v.ownBlock = some k → k < hi
theorem Own.toIn {w : World} {lo : Nat} {v : Value} {l : List Int} (h : Own w lo v l) : OwnIn w lo w.heap.size v l := ⟨h, fun k hk => (h.lt k hk).2⟩
theorem OwnIn.ints {w : World} {lo hi : Nat} {v : Value} {l : List Int} (h : OwnIn w lo hi v l) : Ints w v l := h.own.ints
theorem OwnIn.below {w w' : World} {lo hi B : Nat} {v : Value} {l : List Int} (h : OwnIn w lo hi v l) (hb : Below B w w') (hB : hi ≤ B) : OwnIn w' lo hi v l :=
 ⟨by
  refine ⟨h.own.1, ?_⟩
  rcases h.own.2 with hn | ⟨g, cap, cur, hv, hbg, hh, r⟩
  ·exact .inl hn
  ·have := h.top g (by rw [hv]; rfl)
   exact .inr ⟨g, cap, cur, hv, hbg, (hb.block g (by omega)).trans hh, r⟩, h.top⟩
structure Only (lo hi : Nat) (w w' : World) : Prop where
 os : w'.os = w.os
 tape : w'.tape = w.tape
 output : w'.output = w.output
 size : w.heap.size ≤ w'.heap.size
 block : ∀ b, b < w.heap.size → b < lo ∨ hi ≤ b → w'.heap[b]? = w.heap[b]?
theorem OwnIn.only {w w' : World} {lo hi : Nat} {u : Value} {m : List Int} (h : OwnIn w lo hi u m) (hg : w.grownBy w' u.ownBlock) : Only lo hi w w' :=
 ⟨hg.os, hg.tape, hg.output, hg.size, fun b hb ho => hg.block b hb (fun e => by
  have h1 := h.own.lt b e.symm
  have h2 := h.top b e.symm
  omega)⟩
theorem IntsB.drop {w : World} {B : Nat} {A : Option Addr} {n c : Nat} {l : List Int} (h : IntsB w B (.slice A n c) l) (k : Nat) (hk : k ≤ n) :
  IntsB w B (.slice (if c = k then A else A.map (·.add k)) (n - k) (c - k)) (l.drop k) := by
 refine ⟨h.1.drop k hk, fun hp => ?_⟩
 obtain ⟨b, off, c', he, hb⟩ := h.2 (by simp at hp; omega)
 simp only [Value.slice.injEq] at he
 obtain ⟨rfl, rfl, rfl⟩ := he
 by_cases e : c = k
 ·rw [if_pos e]; exact ⟨b, off, _, by rw [List.length_drop], hb⟩
 ·rw [if_neg e]; exact ⟨b, off + k, c - k, by rw [List.length_drop]; by_cases h0 : k = 0 <;> simp [Addr.add, h0], hb⟩
theorem IntsB.take {w : World} {B : Nat} {A : Option Addr} {n c : Nat} {l : List Int} (h : IntsB w B (.slice A n c) l) (k : Nat) (hk : k ≤ n) : IntsB w B (.slice A k c) (l.take k) := by
 refine ⟨h.1.take k hk, fun hp => ?_⟩
 obtain ⟨b, off, c', he, hb⟩ := h.2 (by simp at hp; omega)
 simp only [Value.slice.injEq] at he
 obtain ⟨rfl, he, rfl⟩ := he
 exact ⟨b, off, _, by rw [List.length_take, Nat.min_eq_left (by omega)], hb⟩
theorem IntsB.grownRow {w w' : World} {B : Nat} {v : Value} {l : List Int} {row : Option Nat} (h : IntsB w B v l) (hg : w.grownBy w' row) (hr : ∀ k, row = some k → B ≤ k) (hB' : B ≤ w.heap.size) : IntsB w' B v l :=
 h.keep fun p hp => World.cell?_of_block (hg.block p.block (by omega) (fun e => by have := hr _ e.symm; omega))
def zeros (n : Nat) : Array Value := (List.replicate n (Value.int .i64 0)).toArray
set_option maxRecDepth 100000 in
theorem makeI (n : Nat) (hn : n ≤ 35184372088832) (W : World) :
  (Instr.makeSlice 22 (.int .i64 (n : Int)) (.int .i64 (n : Int))).run Tryz.prog W = .ok (.slice (some ⟨W.heap.size, 0, none⟩) n n) (W.alloc (.cells (zeros n) 3)) := by
 obtain ⟨i, h1, h2, h3, h4⟩ := info_parts infoI
 have hr := run_make (P := Tryz.prog) W 22 _ i _ sliceI h1 h2 .i64 .i64 (n : Int) (n : Int) (by omega) (Int.le_refl _) (by rw [h4]; omega) (by omega)
 simp only [Int.toNat_natCast, h3, Nat.mul_one] at hr
 rw [hr]
 have : madeCells (Value.int .i64 0).cells n = zeros n := by
  apply Array.toList_inj.1
  rw [show (Value.int .i64 0).cells = #[Value.int .i64 0] from rfl, toList_madeCells_one]; rfl
 rw [this]; rfl
theorem Own.made {W : World} {n lo : Nat} (hn : n ≤ 35184372088832) (hlo : lo ≤ W.heap.size) : Own (W.alloc (.cells (zeros n) 3)) lo (.slice (some ⟨W.heap.size, 0, none⟩) n n) (List.replicate n 0) := by
 have := World.ownsRow_lit (base := lo) (e := 3) (size := 1) W (zeros n) n hlo (by simp [maxLen]; omega) (by simp [zeros])
 unfold Own
 simpa [zeros] using this
def fillTo (l : List Int) (k : Nat) : List Int := l.take k ++ List.replicate (l.length - k) 0
theorem fillTo_zero (l : List Int) : fillTo l 0 = List.replicate l.length 0 := by simp [fillTo]
theorem fillTo_end (l : List Int) : fillTo l l.length = l := by simp [fillTo]
theorem length_fillTo (l : List Int) (k : Nat) (h : k ≤ l.length) : (fillTo l k).length = l.length := by simp [fillTo]; omega
theorem fillTo_set (l : List Int) (k : Nat) (h : k < l.length) : (fillTo l k).set k l[k] = fillTo l (k + 1) := by
 unfold fillTo
 have h1 : (l.take k).length = k := by simp; omega
 rw [List.set_append_right _ _ (by omega), h1, Nat.sub_self, show l.length - k = (l.length - (k + 1)) + 1 from by omega, List.replicate_succ, List.set_cons_zero, List.take_succ_eq_append_getElem h, List.append_assoc]
 rfl
theorem Own.cell {w : World} {lo g n c : Nat} {l : List Int} (h : Own w lo (.slice (some ⟨g, 0, none⟩) n c) l) (k : Nat) (hk : k < l.length) :
  w.cell? ⟨g, k, none⟩ = some (.int .i64 l[k]) ∧ w.frozen? ⟨g, k, none⟩ = false := by
 have hn : n = l.length := by rcases h.2 with ⟨h', _⟩ | ⟨g', cap', cur, h', _⟩ <;> simp at h'; exact h'.2.1
 subst hn
 exact ⟨by rw [World.ownsRow.cellAt h k (by omega)]; simp [List.getElem?_eq_getElem hk], World.ownsRow.frozenAt h k⟩
theorem Own.set {w : World} {lo g n c : Nat} {l : List Int} (h : Own w lo (.slice (some ⟨g, 0, none⟩) n c) l) (k : Nat) (x : Int) :
  Own (w.setCell ⟨g, k, none⟩ (.int .i64 x)) lo (.slice (some ⟨g, 0, none⟩) n c) (l.set k x) ∧ w.grownBy (w.setCell ⟨g, k, none⟩ (.int .i64 x)) (some g) := by
 have hn : n = l.length := by rcases h.2 with ⟨h', _⟩ | ⟨g', cap', cur, h', _⟩ <;> simp at h'; exact h'.2.1
 subst hn
 have := World.ownsRow.stored h k (.int .i64 x)
 unfold Own
 simpa [List.map_set] using this
theorem oneCells (ys : List Int) : ∀ u ∈ ys.map (Value.int .i64), u.oneCell' = true := by
 intro u hu
 obtain ⟨x, _, rfl⟩ := List.mem_map.1 hu
 rfl
theorem add_zero_spot (b off j : Nat) : (Addr.mk b off none).add j = ⟨b, off + j, none⟩ := by by_cases h : j = 0 <;> simp [Addr.add, h]
set_option maxRecDepth 100000 in
theorem run_append_ints (lo ty : Nat) (v u : Value) (xs ys : List Int) (w : World) (hv : Own w lo v xs) (hu : Ints w u ys) (hlen : xs.length + ys.length ≤ 17592186044416) (hlo : lo ≤ w.heap.size) :
    ∃ v' w', (Builtin.append_ #[22, 22] ty #[v, u]).run Tryz.prog w = .ok v' w' ∧ Own w' lo v' (xs ++ ys) ∧ w.grownBy w' v.ownBlock ∧ (v'.ownBlock = v.ownBlock ∨ v'.ownBlock = some w.heap.size) := by
  obtain ⟨i, h1, h2, h3, h4⟩ := info_parts infoI
  have hsl : Tryz.prog.underlying 22 = some (.slice 3) := Tryz.underlying22
  have hi : Tryz.prog.info? 3 = some i := h1
  obtain ⟨A, c, rfl, g1, g2, g3⟩ := hu
  by_cases hy : ys.length = 0
  · obtain rfl : ys = [] := List.eq_nil_of_length_eq_zero hy
    have hr : (Builtin.append_ #[22, 22] ty #[v, .slice A 0 c]).run Tryz.prog w = .ok v w := by
      rcases hv.2 with ⟨rfl, h0⟩ | ⟨g, cap, cur, rfl, _, _, hnc, _⟩
      · obtain rfl : xs = [] := List.eq_nil_of_length_eq_zero h0
        cases A <;> simp [Builtin.append_, run_underlying hsl, sizeOf, typeInfo, hi, Builtin.lenOf, Builtin.firstCells, loadCells, loadCellsFrom]
      · cases A <;> simp [Builtin.append_, run_underlying hsl, sizeOf, typeInfo, hi, Builtin.lenOf, Builtin.firstCells, hnc, storeCells, loadCells, loadCellsFrom]
    exact ⟨v, w, hr, by rw [List.append_nil]; exact hv, World.grownBy.refl w _, .inl rfl⟩
  · obtain ⟨b, off, rfl, hc⟩ := g3 (by omega)
    obtain ⟨v', w', hr, k1, k2, _, k4⟩ := run_append_own_at (P := Tryz.prog) w lo 22 ty 3 i (.int .i64 0) 1 8 hsl hi h2 h3 h4 rfl (by decide) v xs.length (xs.map (Value.int .i64)) hv ⟨b, off, none⟩ ys.length c (ys.map (Value.int .i64)) (by simp)
      (fun j u hj => by
        rw [List.getElem?_map] at hj
        obtain ⟨x, hx, rfl⟩ := Option.map_eq_some_iff.1 hj
        rw [add_zero_spot]
        exact hc j x hx) (oneCells ys) (by simp only [maxLen]; omega) (by omega) hlo
    refine ⟨v', w', hr, ?_, k2, k4⟩
    unfold Own
    simpa using k1
theorem wp_append_ints {ops : Array Oper} {rest : List Oper} {o : Oper} {a : Act} {Q : Exit → Act → World → Prop} {w : World} (hgd : o.guard = none) (s x : Operand)
  (ho : o.op = .call { callee := .builtin .append, args := #[s, x], argTypes := #[22, 22] }) (lo : Nat) (v u : Value) (xs ys : List Int) (hs : a.eval s = v) (hx : a.eval x = u) (hv : Own w lo v xs) (hu : Ints w u ys)
  (hlen : xs.length + ys.length ≤ 17592186044416) (hlo : lo ≤ w.heap.size)
  (h : ∀ v' w', Own w' lo v' (xs ++ ys) → w.grownBy w' v.ownBlock → (v'.ownBlock = v.ownBlock ∨ v'.ownBlock = some w.heap.size) → wpList Tryz.prog ops Q rest (a.put o.dst v') w') : wpList Tryz.prog ops Q (o :: rest) a w := by
 refine wpList_plain hgd fun K hK => ?_
 obtain ⟨v', w', hr, k1, k2, k3⟩ := run_append_ints lo o.type v u xs ys w hv hu hlen hlo
 unfold Oper.wp execOp
 simp only [ho, resolve, invoke, builtin, Sem.run_bind, Sem.run_pure, Result.andThen_ok, List.map_toArray, List.map_cons, List.map_nil, hs, hx, hr]
 exact hK _ _ (h v' w' k1 k2 k3)
theorem Own.empty {W : World} {lo : Nat} (hlo : lo ≤ W.heap.size) : Own (W.alloc (.cells #[] 3)) lo (.slice (some ⟨W.heap.size, 0, none⟩) 0 0) [] :=
 World.ownsRow_lit (base := lo) (e := 3) (size := 1) W #[] 0 hlo (by simp) rfl
theorem Ints.one {W : World} {x : Int} : Ints (W.alloc (.cells #[.int .i64 x] 3)) (.slice (some ⟨W.heap.size, 0, none⟩) 1 1) [x] := by
 have := World.ownsRow_lit (base := W.heap.size) (e := 3) (size := 1) W #[.int .i64 x] 1 (Nat.le_refl _) (by simp [maxLen]) rfl
 exact Own.ints (l := [x]) this
theorem grown_below {w w' : World} {v : Value} {lo B : Nat} {xs : List Int} (hv : Own w lo v xs) (hg : w.grownBy w' v.ownBlock) {a : World} (hb : Below B a w) (h1 : B ≤ lo) (h2 : B ≤ w.heap.size) : Below B a w' :=
 hb.grown hg h2 fun k hk => Nat.le_trans h1 (hv.lt k hk).1
def RetOwn (w : World) (l : List Int) (e : Ending) (w' : World) : Prop := ∃ u, e = .returned u ∧ Own w' w.heap.size u l ∧ Below w.heap.size w w'
end
section
open Go.RowKit
def IntRows (w : World) (v : Value) (ll : List (List Int)) : Prop :=
 ∃ A c, v = .slice A ll.length c ∧ ll.length ≤ c ∧ c ≤ 9223372036854775807 ∧
  (0 < ll.length → ∃ b off, A = some ⟨b, off, none⟩ ∧ ∀ (i : Nat) (l : List Int), ll[i]? = some l → ∃ u, w.cell? ⟨b, off + i, none⟩ = some u ∧ Ints w u l)
theorem infoR : (Tryz.prog.info? 22).map (fun i => (i.zero, i.size, i.bytes)) = some (some (.slice none 0 0), 1, 24) := by kernel_rfl
theorem Own.one {w : World} {lo : Nat} {v : Value} {l : List Int} (h : Own w lo v l) : v.oneCell' = true := by
 rcases h.2 with ⟨rfl, _⟩ | ⟨g, cap, cur, rfl, _⟩ <;> rfl
end
section
open Go.RowKit
def inR (n lo hi : Int) : Bool := decide (lo ≤ n) && decide (n ≤ hi)
theorem inR_true {n lo hi : Int} (h1 : lo ≤ n) (h2 : n ≤ hi) : inR n lo hi = true := by simp [inR, h1, h2]
theorem inR_false {n lo hi : Int} (h : ¬ (lo ≤ n ∧ n ≤ hi)) : inR n lo hi = false := by simp [inR]; omega
theorem l1In_any (n lo hi : Int) (w : World) :
  Calls Tryz.prog 20 #[.int .i64 n, .int .i64 lo, .int .i64 hi] w fun e w' => e = .returned (.bool (inR n lo hi)) ∧ w = w' := by
 by_cases h1 : lo ≤ n <;> by_cases h2 : n ≤ hi
 all_goals
  go_enter Tryz.func20, Tryz.ntmps20
  go_wp2
  go_ret
  exact ⟨by simp [inR, h1, h2], rfl⟩
theorem inside_any (n lo hi : Int) (w : World) :
  Calls Tryz.prog 56 #[.int .i64 n, .int .i64 lo, .int .i64 hi] w fun e w' => e = .returned (.bool (inR n lo hi)) ∧ w = w' := by
 by_cases h1 : lo ≤ n <;> by_cases h2 : n ≤ hi
 all_goals
  go_enter Tryz.func56, Tryz.ntmps56
  go_wp2
  go_ret
  exact ⟨by simp [inR, h1, h2], rfl⟩
end
section
open Go.RowKit
def idx (p : Int → Bool) : List Int → Int → Int
 | [], _ => -1
 | x :: xs, k => if p x then k else idx p xs (k + 1)
theorem idx_drop (p : Int → Bool) (l : List Int) (k : Nat) (hk : k < l.length) : idx p (l.drop k) k = if p l[k] then (k : Int) else idx p (l.drop (k + 1)) ((k + 1 : Nat) : Int) := by
 rw [List.drop_eq_getElem_cons hk]; rfl
theorem idx_end (p : Int → Bool) (l : List Int) (k : Nat) (hk : l.length ≤ k) : idx p (l.drop k) k = -1 := by
 rw [List.drop_eq_nil_of_le hk]; rfl
theorem idx_any (p : Int → Bool) (l : List Int) : ∀ i : Int, 0 ≤ i → decide (0 ≤ idx p l i) = l.any p := by
 induction l with
 | nil => intro i _; simp [idx]
 | cons x xs ih =>
  intro i hi
  cases hx : p x
  ·simp [idx, hx, ← ih (i + 1) (by omega)]
  ·simp [idx, hx, hi]
set_option maxHeartbeats 400000 in
theorem IndexFunc_any (g : Nat) (caps : Array Value) (p : Int → Bool) (hg : ∀ (args : Array Value) (W : World), (callFunc g args).run Tryz.prog W = .ok (.enter g args) W)
  (v : Value) (l : List Int) (w : World) (hf : ∀ (x : Int), Calls Tryz.prog g (#[.int .i64 x] ++ caps) w fun e w' => e = .returned (.bool (p x)) ∧ w = w') (hv : Ints w v l) :
  Calls Tryz.prog 90 #[v, .func (.func g) #[] caps] w fun e w' => e = .returned (.int .i64 (idx p l 0)) ∧ w = w' := by
 obtain ⟨A, c, rfl, h1, h2, h3⟩ := hv
 obtain ⟨R, hR⟩ : ∃ R, R = idx p l 0 := ⟨_, rfl⟩
 rw [← hR]
 have HR := Lib.hid hR
 have HF := Lib.hid hf
 clear hR hf
 go_enter Tryz.func90, Tryz.ntmps90
 go_wp2
 go_loop [8] (fun vi => ∃ k : Nat, vi = .int .i64 k ∧ Hid (R = idx p (l.drop k) k)) (fun vi => l.length - (intOf vi).toNat)
 case atStart => exact ⟨0, rfl, HR⟩
 case round =>
  obtain ⟨k, rfl, HM⟩ := hrel
  by_cases hk : k < l.length
  ·obtain ⟨b, off, rfl, hc⟩ := h3 (by omega)
   have e1 := hc k l[k] (List.getElem?_eq_getElem hk)
   have HD := Lib.hid (idx_drop p l k hk)
   clear hc h3
   by_cases hx : p l[k] = true
   ·go_wp2_with fail
    refine (HF.out _).mono ?_
    rintro e w' ⟨rfl, rfl⟩
    go_wp2
    go_ret
    exact ⟨ret_int (by rw [HM.out, HD.out, if_pos hx]), rfl⟩
   ·have hx : p l[k] = false := by simpa using hx
    go_wp2_with fail
    refine (HF.out _).mono ?_
    rintro e w' ⟨rfl, rfl⟩
    go_wp2
    go_round
    case rel => exact ⟨k + 1, by go_num, by rw [HM.out, HD.out, if_neg (by simp [hx])]; exact rfl⟩
    case measure => simp [intOf]; omega
  ·have HE := Lib.hid (idx_end p l k (by omega))
   clear h3
   go_wp2
   go_ret
   exact ⟨ret_int (by rw [HM.out, HE.out]), rfl⟩
theorem ContainsFunc_any (g : Nat) (caps : Array Value) (p : Int → Bool) (hg : ∀ (args : Array Value) (W : World), (callFunc g args).run Tryz.prog W = .ok (.enter g args) W)
  (v : Value) (l : List Int) (w : World) (hf : ∀ (x : Int), Calls Tryz.prog g (#[.int .i64 x] ++ caps) w fun e w' => e = .returned (.bool (p x)) ∧ w = w') (hv : Ints w v l) :
  Calls Tryz.prog 51 #[v, .func (.func g) #[] caps] w fun e w' => e = .returned (.bool (l.any p)) ∧ w = w' := by
 have hq := idx_any p l 0 (by omega)
 have HQ := Lib.hid hq
 have HF := Lib.hid hf
 have HG := Lib.hid hg
 clear hq hf hg
 obtain ⟨A, c, rfl, h1, h2, h3⟩ := id hv
 clear h1 h2 h3
 go_enter Tryz.func51, Tryz.ntmps51
 go_wp2_with (go_at_call 90; refine (IndexFunc_any g caps p HG.out _ l _ HF.out hv).mono ?_; rintro e w' ⟨rfl, rfl⟩)
 go_ret
 exact ⟨ret_bool HQ.out, rfl⟩
end
section
open Go.RowKit
def inP (p x : Int) : Bool := decide (0 ≤ x) && decide (x < p)
def resid (p : Int) (l : List Int) : Bool := l.all (inP p)
theorem resid_drop (p : Int) (l : List Int) (k : Nat) (hk : k < l.length) : resid p (l.drop k) = (inP p l[k] && resid p (l.drop (k + 1))) := by
 rw [List.drop_eq_getElem_cons hk]; rfl
theorem resid_end (p : Int) (l : List Int) (k : Nat) (hk : l.length ≤ k) : resid p (l.drop k) = true := by
 rw [List.drop_eq_nil_of_le hk]; rfl
set_option maxHeartbeats 400000 in
theorem l1Residues_any (v : Value) (l : List Int) (p : Int) (w : World) (hv : Ints w v l) :
  Calls Tryz.prog 98 #[v, .int .i64 p] w fun e w' => e = .returned (.bool (resid p l)) ∧ w = w' := by
 obtain ⟨A, c, rfl, h1, h2, h3⟩ := hv
 obtain ⟨R, hR⟩ : ∃ R, R = resid p l := ⟨_, rfl⟩
 rw [← hR]
 have HR := Lib.hid hR
 clear hR
 go_enter Tryz.func98, Tryz.ntmps98
 go_wp2
 go_loop [5] (fun vi => ∃ k : Nat, vi = .int .i64 k ∧ Hid (R = resid p (l.drop k))) (fun vi => l.length - (intOf vi).toNat)
 case atStart => exact ⟨0, rfl, HR⟩
 case round =>
  obtain ⟨k, rfl, HM⟩ := hrel
  by_cases hk : k < l.length
  ·obtain ⟨b, off, rfl, hc⟩ := h3 (by omega)
   have e1 := hc k l[k] (List.getElem?_eq_getElem hk)
   have HD := Lib.hid (resid_drop p l k hk)
   clear hc h3
   by_cases hx : 0 ≤ l[k]
   ·by_cases hy : l[k] < p
    ·go_wp2
     go_round
     case rel => exact ⟨k + 1, by go_num, by have := HM.out; rw [HD.out, show inP p l[k] = true from by simp [inP, hx, hy]] at this; exact this⟩
     case measure => simp [intOf]; omega
    ·go_wp2
     go_ret
     exact ⟨ret_bool (by rw [HM.out, HD.out, show inP p l[k] = false from by simp [inP]; omega]; rfl), rfl⟩
   ·go_wp2
    go_ret
    exact ⟨ret_bool (by rw [HM.out, HD.out, show inP p l[k] = false from by simp [inP]; omega]; rfl), rfl⟩
  ·have HE := Lib.hid (resid_end p l k (by omega))
   clear h3
   go_wp2
   go_ret
   exact ⟨ret_bool (by rw [HM.out, HE.out]), rfl⟩
def notIn (p x : Int) : Bool := !inR x 0 (p - 1)
theorem residues1_any (p x : Int) (b : Nat) (w : World) (hp : 0 ≤ p) (hp' : p ≤ 9223372036854775807) (hc : w.cell? ⟨b, 0, none⟩ = some (.int .i64 p)) :
  Calls Tryz.prog 128 (#[.int .i64 x] ++ #[.pointer (some ⟨b, 0, none⟩)]) w fun e w' => e = .returned (.bool (notIn p x)) ∧ w = w' := by
 show Calls Tryz.prog 128 #[.int .i64 x, .pointer (some ⟨b, 0, none⟩)] w _
 go_enter Tryz.func128, Tryz.ntmps128
 go_wp2_with (go_at_call 56; refine (inside_any _ _ _ _).mono ?_; rintro e w' ⟨rfl, rfl⟩)
 go_ret
 exact ⟨rfl, rfl⟩
theorem any_notIn (p : Int) (l : List Int) : l.any (notIn p) = !resid p l := by
 have h : ∀ x, notIn p x = !inP p x := fun x => by simp only [notIn, inR, inP]; congr 2; simp only [decide_eq_decide]; omega
 induction l with
 | nil => rfl
 | cons x xs ih => simp only [List.any_cons, ih, h]; show _ = !(inP p x && resid p xs); simp [Bool.not_and]
theorem cell_new_one (w : World) (v : Value) (t : TypeId) : (w.alloc (.cells #[v] t)).cell? ⟨w.heap.size, 0, none⟩ = some v := cell_of_row _ _ 0 #[v] _ _ (heap_alloc_new w _)
theorem residues_any (v : Value) (l : List Int) (p : Int) (w : World) (hp : 0 ≤ p) (hp' : p ≤ 9223372036854775807) (hv : Ints w v l) :
  Calls Tryz.prog 109 #[v, .int .i64 p] w fun e w' => e = .returned (.bool (resid p l)) ∧ Below w.heap.size w w' := by
 obtain ⟨A, c, rfl, h1, h2, h3⟩ := id hv
 clear h1 h2 h3
 have HL := Lib.hid (any_notIn p l)
 have hb : Below w.heap.size w (w.alloc (.cells #[.int .i64 p] 3)) := (Below.refl _ _).alloc (Nat.le_refl _) _
 have hv1 := hv.below hb
 go_enter Tryz.func109, Tryz.ntmps109
 go_wp2_with (go_at_call 51; refine (ContainsFunc_any _ _ (notIn p) Tryz.call128 _ l _ (fun x => residues1_any p x _ _ hp hp' (cell_new_one _ _ _)) hv1).mono ?_; rintro e w' ⟨rfl, rfl⟩)
 go_ret
 exact ⟨ret_bool (by rw [HL.out]; simp), hb⟩
def zeroL (l : List Int) : Bool := l.all fun x => x == 0
theorem zeroL_drop (l : List Int) (k : Nat) (hk : k < l.length) : zeroL (l.drop k) = ((l[k] == 0) && zeroL (l.drop (k + 1))) := by
 rw [List.drop_eq_getElem_cons hk]; rfl
theorem zeroL_end (l : List Int) (k : Nat) (hk : l.length ≤ k) : zeroL (l.drop k) = true := by
 rw [List.drop_eq_nil_of_le hk]; rfl
def not0 (x : Int) : Bool := x != 0
theorem isZero1_any (x : Int) (w : World) : Calls Tryz.prog 52 (#[.int .i64 x] ++ #[]) w fun e w' => e = .returned (.bool (not0 x)) ∧ w = w' := by
 show Calls Tryz.prog 52 #[.int .i64 x] w _
 go_enter Tryz.func52, Tryz.ntmps52
 go_wp2
 go_ret
 exact ⟨rfl, rfl⟩
theorem any_not0 (l : List Int) : l.any not0 = !zeroL l := by
 induction l with
 | nil => rfl
 | cons x xs ih =>
  simp only [List.any_cons, ih]
  show _ = !((x == 0) && zeroL xs)
  simp only [not0, Bool.not_and]; rfl
theorem isZero_any (v : Value) (l : List Int) (w : World) (hv : Ints w v l) :
  Calls Tryz.prog 26 #[v] w fun e w' => e = .returned (.bool (zeroL l)) ∧ w = w' := by
 obtain ⟨A, c, rfl, h1, h2, h3⟩ := id hv
 clear h1 h2 h3
 have HL := Lib.hid (any_not0 l)
 go_enter Tryz.func26, Tryz.ntmps26
 go_wp2_with (go_at_call 51; refine (ContainsFunc_any _ _ not0 Tryz.call52 _ l _ (fun x => isZero1_any x _) hv).mono ?_; rintro e w' ⟨rfl, rfl⟩)
 go_ret
 exact ⟨ret_bool (by rw [HL.out]; simp), rfl⟩
set_option maxHeartbeats 400000 in
theorem l1IsZero_any (v : Value) (l : List Int) (w : World) (hv : Ints w v l) :
  Calls Tryz.prog 15 #[v] w fun e w' => e = .returned (.bool (zeroL l)) ∧ w = w' := by
 obtain ⟨A, c, rfl, h1, h2, h3⟩ := hv
 obtain ⟨R, hR⟩ : ∃ R, R = zeroL l := ⟨_, rfl⟩
 rw [← hR]
 have HR := Lib.hid hR
 clear hR
 go_enter Tryz.func15, Tryz.ntmps15
 go_wp2
 go_loop [3] (fun vi => ∃ k : Nat, vi = .int .i64 k ∧ Hid (R = zeroL (l.drop k))) (fun vi => l.length - (intOf vi).toNat)
 case atStart => exact ⟨0, rfl, HR⟩
 case round =>
  obtain ⟨k, rfl, HM⟩ := hrel
  by_cases hk : k < l.length
  ·obtain ⟨b, off, rfl, hc⟩ := h3 (by omega)
   have e1 := hc k l[k] (List.getElem?_eq_getElem hk)
   have HD := Lib.hid (zeroL_drop l k hk)
   clear hc h3
   by_cases hx : l[k] = 0
   ·have t1 : (l[k] != 0) = false := by simp [hx]
    have Hx := Lib.hid hx
    clear hx
    go_wp2
    go_round
    case rel => exact ⟨k + 1, by go_num, by have := HM.out; rw [HD.out, show (l[k] == 0) = true from by simp [Hx.out]] at this; exact this⟩
    case measure => simp [intOf]; omega
   ·have t1 : (l[k] != 0) = true := by simp [hx]
    have Hx := Lib.hid hx
    clear hx
    go_wp2
    go_ret
    exact ⟨ret_bool (by rw [HM.out, HD.out, show (l[k] == 0) = false from by simp [Hx.out]]; rfl), rfl⟩
  ·have HE := Lib.hid (zeroL_end l k (by omega))
   clear h3
   go_wp2
   go_ret
   exact ⟨ret_bool (by rw [HM.out, HE.out]), rfl⟩
end
section
open Go.RowKit
def addL (l : List Int) (k : Int) (ys : List Int) (p : Int) : List Int := List.zipWith (fun a b => (a + k * b) % p) l ys
theorem length_addL (l : List Int) (k : Int) (ys : List Int) (p : Int) (h : ys.length = l.length) : (addL l k ys p).length = l.length := by simp [addL, h]
theorem addL_get (l : List Int) (k : Int) (ys : List Int) (p : Int) (i : Nat) (x y : Int) (hx : l[i]? = some x) (hy : ys[i]? = some y) : (addL l k ys p)[i]? = some ((x + k * y) % p) := by
 simp [addL, List.getElem?_zipWith, hx, hy]
theorem resid_get {p : Int} {l : List Int} (h : resid p l = true) {i : Nat} (hi : i < l.length) : 0 ≤ l[i] ∧ l[i] < p := by
 have := List.all_eq_true.1 h l[i] (List.getElem_mem hi)
 simpa [inP] using this
theorem resid_of {p : Int} {l : List Int} (h : ∀ i (hi : i < l.length), 0 ≤ l[i] ∧ l[i] < p) : resid p l = true := by
 refine List.all_eq_true.2 fun x hx => ?_
 obtain ⟨i, hi, rfl⟩ := List.getElem_of_mem hx
 simpa [inP] using h i hi
theorem resid_addL (l : List Int) (k : Int) (ys : List Int) (p : Int) (hp : 0 < p) : resid p (addL l k ys p) = true := by
 refine List.all_eq_true.2 fun x hx => ?_
 obtain ⟨i, hi, rfl⟩ := List.getElem_of_mem hx
 simp only [addL, List.getElem_zipWith, inP, Bool.and_eq_true, decide_eq_true_eq]
 exact ⟨Int.emod_nonneg _ (by omega), Int.emod_lt_of_pos _ hp⟩
theorem splice_get_in {α : Type} (L : List α) (off : Nat) (cs : List α) (k : Nat) (h : cs.length ≤ k) (hL : off + cs.length ≤ L.length) : (splice L off cs)[off + k]? = L[off + k]? := by
 unfold splice
 rw [List.getElem?_append_right (by simp; omega), List.getElem?_append_right (by simp; omega), List.getElem?_drop]
 congr 1
 simp; omega
theorem splice_set {α : Type} (L : List α) (off : Nat) (cs : List α) (x : α) (hL : off + cs.length < L.length) : (splice L off cs).set (off + cs.length) x = splice L off (cs ++ [x]) := by
 unfold splice
 have h1 : (L.take off).length = off := by simp; omega
 rw [List.set_append_right _ _ (by omega), h1, List.set_append_right _ _ (by omega), show off + cs.length - off - cs.length = 0 from by omega, List.drop_eq_getElem_cons hL, List.set_cons_zero]
 simp [Nat.add_assoc]
theorem mul_range {k y p : Int} (h1 : 0 ≤ k) (h2 : k ≤ p) (h3 : 0 ≤ y) (h4 : y < p) (hp : p ≤ 10007) : 0 ≤ k * y ∧ k * y ≤ 100140049 := by
 have a : k * y ≤ 10007 * 10007 := Int.mul_le_mul (by omega) (by omega) h3 (by omega)
 have b : 0 ≤ k * y := Int.mul_nonneg h1 h3
 omega
def Added (w : World) (g off : Nat) (cur : List Value) (new : List Int) (e : Ending) (w' : World) : Prop :=
 e = .returned (.tuple #[]) ∧ (0 < new.length → w'.heap[g]? = some (.cells (splice cur off (new.map (Value.int .i64))).toArray 3 (0, 0))) ∧ w.grownBy w' (some g) ∧ (new.length = 0 → w' = w)
set_option maxHeartbeats 1000000 in
theorem addTo_sub (A : Option Addr) (c : Nat) (u : Value) (l ys : List Int) (k p : Int) (w : World) (g off : Nat) (cur : List Value)
  (hA : 0 < l.length → A = some ⟨g, off, none⟩) (hcur : 0 < l.length → w.heap[g]? = some (.cells cur.toArray 3 (0, 0)) ∧ ∀ (i : Nat) (x : Int), l[i]? = some x → cur[off + i]? = some (.int .i64 x))
  (hu : Ints w u ys) (hne : 0 < ys.length → u.ownBlock ≠ some g) (hlen : ys.length = l.length) (hln : l.length ≤ 1099511627776)
  (hp : 2 ≤ p) (hp' : p ≤ 10007) (hk : 0 ≤ k) (hk' : k ≤ p) (hl : resid p l = true) (hy : resid p ys = true) :
  Calls Tryz.prog 111 #[.slice A l.length c, .int .i64 k, u, .int .i64 p] w (Added w g off cur (addL l k ys p)) := by
 obtain ⟨B, d, rfl, h1, h2, h3⟩ := hu
 by_cases h0 : l.length = 0
 ·have hn := length_addL l k ys p hlen
  have hy0 : ys.length = 0 := by omega
  have hn0 : ¬ 0 < (addL l k ys p).length := by omega
  have HN := Lib.hid hn0
  have H0 := Lib.hid hy0
  have H00 := Lib.hid h0
  clear hn hn0 h0 hA hcur h3 hlen
  obtain ⟨m, hm⟩ : ∃ m, m = ys.length := ⟨_, rfl⟩
  rw [← hm]
  have Hm := Lib.hid hm
  clear hm hy0
  go_enter Tryz.func111, Tryz.ntmps111
  go_wp2
  go_loop [12] (fun vi => vi = .int .i64 0) (fun _ => 0)
  case atStart => rfl
  case round =>
   subst hrel
   have hm0 : m ≤ 0 := by rw [Hm.out, H0.out]; exact Nat.le_refl _
   go_wp2
   go_end0
   exact ⟨rfl, fun h => absurd h HN.out, World.grownBy.refl w _, fun _ => rfl⟩
 ·obtain rfl := hA (by omega)
  obtain ⟨hg, hcell⟩ := hcur (by omega)
  obtain ⟨b, off', rfl, hc⟩ := h3 (by omega)
  have hbg : b ≠ g := fun e => hne (by omega) (by simp [Value.ownBlock, e])
  have Hn := Lib.hid (length_addL l k ys p hlen)
  have Hg := Lib.hid (addL_get l k ys p)
  obtain ⟨N, hN⟩ : ∃ N, N = addL l k ys p := ⟨_, rfl⟩
  rw [← hN] at Hn Hg ⊢
  clear hN
  have hcl : off + l.length ≤ cur.length := by
   have h := hcell (l.length - 1) l[l.length - 1] (List.getElem?_eq_getElem (by omega))
   have := (List.getElem?_eq_some_iff.1 h).1
   omega
  have Hlen := Lib.hid hlen
  have hlen1 : ys.length ≤ l.length := by omega
  have hlen2 : l.length ≤ ys.length := by omega
  have H0 : 0 < l.length := by omega
  clear hA hcur h3 h0 hlen hne
  go_enter Tryz.func111, Tryz.ntmps111
  go_wp2
  go_loopw [12] (fun vi wr => ∃ j : Nat, vi = .int .i64 j ∧ j ≤ l.length ∧ Hid (wr.heap[g]? = some (.cells (splice cur off ((N.take j).map (Value.int .i64))).toArray 3 (0, 0))) ∧ w.grownBy wr (some g)) (fun vi _ => l.length - (intOf vi).toNat)
  case atStart => exact ⟨0, rfl, by omega, by show _ = _; rw [hg]; simp [splice], World.grownBy.refl w _⟩
  case round =>
   obtain ⟨j, rfl, a1, hh, hgr⟩ := hrel
   by_cases hj : j < l.length
   ·have hj2 : j < ys.length := by omega
    have e0 := hc j ys[j] (List.getElem?_eq_getElem hj2)
    have e1 : wr.cell? ⟨b, off' + j, none⟩ = some (.int .i64 ys[j]) := hgr.cell e0 (by simp [hbg])
    have hNj := Hg.out j l[j] ys[j] (List.getElem?_eq_getElem hj) (List.getElem?_eq_getElem hj2)
    have hjN : j < N.length := by rw [Hn.out]; exact hj
    have htl : ((N.take j).map (Value.int .i64)).length = j := by simp; omega
    have e2 : wr.cell? ⟨g, off + j, none⟩ = some (.int .i64 l[j]) := by
     rw [cell_of_row wr g (off + j) _ _ _ hh.out]
     rw [List.getElem?_toArray, splice_get_in _ _ _ _ (by rw [htl]; exact Nat.le_refl _) (by rw [htl]; omega)]
     exact hcell j l[j] (List.getElem?_eq_getElem hj)
    have e3 : wr.frozen? ⟨g, off + j, none⟩ = false := frozen_of_row wr g (off + j) _ _ hh.out
    obtain ⟨r1, r2⟩ := resid_get hl hj
    obtain ⟨r3, r4⟩ := resid_get hy hj2
    obtain ⟨r5, r6⟩ := mul_range hk hk' r3 r4 hp'
    have HNj := Lib.hid hNj
    clear hNj e0
    go_wp2
    have q1 : (wr.setCell ⟨g, off + j, none⟩ (.int .i64 ((l[j] + k * ys[j]) % p))).heap[g]? = some (.cells (splice cur off ((N.take (j + 1)).map (Value.int .i64))).toArray 3 (0, 0)) := by
     rw [heap_setCell_same wr g (off + j) _ _ _ hh.out]
     congr 2
     rw [List.setIfInBounds_toArray]
     congr 1
     have := splice_set cur off ((N.take j).map (Value.int .i64)) (.int .i64 ((l[j] + k * ys[j]) % p)) (by rw [htl]; omega)
     rw [htl] at this
     rw [this]
     congr 1
     rw [List.take_succ_eq_append_getElem hjN, List.map_append]
     have hv : N[j] = (l[j] + k * ys[j]) % p := by
      have := HNj.out
      rw [List.getElem?_eq_getElem hjN] at this
      simpa using this
     rw [hv]; rfl
    have q2 : w.grownBy (wr.setCell ⟨g, off + j, none⟩ (.int .i64 ((l[j] + k * ys[j]) % p))) (some g) := hgr.trans ⟨rfl, rfl, rfl, by simp [World.setCell], fun i _ hi => heap_setCell_other wr ⟨g, off + j, none⟩ i _ (fun e => hi (by simp [e]))⟩
    go_roundw
    case rel => exact ⟨j + 1, by go_num, by omega, q1, q2⟩
    case measure => simp [intOf]; omega
   ·obtain rfl : j = l.length := by omega
    go_wp2
    go_end0
    exact ⟨rfl, fun _ => by have := hh.out; rw [← Hn.out, List.take_length] at this; exact this, hgr, fun h => absurd h (by rw [Hn.out]; omega)⟩
theorem addTo_any (v u : Value) (l ys : List Int) (k p : Int) (lo : Nat) (w : World) (hv : Own w lo v l) (hu : Ints w u ys) (hne : 0 < ys.length → ∀ g, v.ownBlock = some g → u.ownBlock ≠ some g) (hlen : ys.length = l.length) (hln : l.length ≤ 1099511627776)
  (hp : 2 ≤ p) (hp' : p ≤ 10007) (hk : 0 ≤ k) (hk' : k ≤ p) (hl : resid p l = true) (hy : resid p ys = true) :
  Calls Tryz.prog 111 #[v, .int .i64 k, u, .int .i64 p] w fun e w' => e = .returned (.tuple #[]) ∧ Own w' lo v (addL l k ys p) ∧ w.grownBy w' v.ownBlock := by
 have hll := length_addL l k ys p hlen
 rcases id hv.2 with ⟨rfl, h0⟩ | ⟨g, cap, cur, rfl, hb, hg, hn, hm, hsz, htake⟩
 ·have e : (.slice none 0 0 : Value) = .slice none l.length 0 := by rw [h0]
  refine (e ▸ addTo_sub none 0 u l ys k p w w.heap.size 0 [] (fun h => by omega) (fun h => by omega) hu (fun h => by omega) hlen hln hp hp' hk hk' hl hy).mono ?_
  rintro e w' ⟨rfl, _, hgr, _⟩
  refine ⟨rfl, ?_, ⟨hgr.os, hgr.tape, hgr.output, hgr.size, fun i hi _ => hgr.block i hi (by simp; omega)⟩⟩
  have : addL l k ys p = [] := List.eq_nil_of_length_eq_zero (by omega)
  rw [this]
  exact ⟨by simp, .inl ⟨rfl, rfl⟩⟩
 ·refine (addTo_sub (some ⟨g, 0, none⟩) cap u l ys k p w g 0 cur.toList (fun _ => rfl) (fun h => ⟨hg, fun i x hx => ?_⟩) hu (fun h => hne h g rfl) hlen hln hp hp' hk hk' hl hy).mono ?_
  ·have hi := (List.getElem?_eq_some_iff.1 hx).1
   rw [Nat.zero_add]
   have h2 : (cur.toList.take (l.length * 1))[i]? = cur.toList[i]? := by rw [List.getElem?_take, if_pos (by omega)]
   rw [← h2, htake, List.getElem?_map, hx]; rfl
  ·rintro e w' ⟨rfl, hh, hgr, hsame⟩
   refine ⟨rfl, ⟨by simp, ?_⟩, hgr⟩
   by_cases h0 : 0 < l.length
   ·refine .inr ⟨g, cap, _, by rw [hll], hb, hh (by omega), by omega, hm, ?_, ?_⟩
    ·have : cur.toList.length = cap := by simpa using hsz
     simp only [List.size_toArray, Nat.mul_one]
     rw [length_splice _ _ _ (by simp; omega), this]
    ·simp only [splice, List.take_zero, List.nil_append]
     rw [List.take_left' (by simp)]
   ·have e0 : addL l k ys p = [] := List.eq_nil_of_length_eq_zero (by omega)
    have hl0 : l = [] := List.eq_nil_of_length_eq_zero (by omega)
    rw [hsame (by omega), e0]
    subst hl0
    exact .inr ⟨g, cap, cur, rfl, hb, hg, hn, hm, hsz, by simp⟩
theorem addTo_own (v u : Value) (l ys : List Int) (k p : Int) (lo B : Nat) (w : World) (hv : Own w lo v l) (hu : IntsB w B u ys) (hB : B ≤ lo) (hlen : ys.length = l.length) (hln : l.length ≤ 1099511627776)
  (hp : 2 ≤ p) (hp' : p ≤ 10007) (hk : 0 ≤ k) (hk' : k ≤ p) (hl : resid p l = true) (hy : resid p ys = true) :
  Calls Tryz.prog 111 #[v, .int .i64 k, u, .int .i64 p] w fun e w' => e = .returned (.tuple #[]) ∧ Own w' lo v (addL l k ys p) ∧ w.grownBy w' v.ownBlock :=
 addTo_any v u l ys k p lo w hv hu.ints (fun h g hg => by
  obtain ⟨b, off, c, rfl, hbb⟩ := hu.2 h
  have := (hv.lt g hg).1
  simp [Value.ownBlock]; omega) hlen hln hp hp' hk hk' hl hy
theorem addTo_fresh (v u : Value) (l ys : List Int) (k p : Int) (lo hi lo' : Nat) (w : World) (hv : OwnIn w lo hi v l) (hu : Own w lo' u ys) (hB : hi ≤ lo') (hlen : ys.length = l.length) (hln : l.length ≤ 1099511627776)
  (hp : 2 ≤ p) (hp' : p ≤ 10007) (hk : 0 ≤ k) (hk' : k ≤ p) (hl : resid p l = true) (hy : resid p ys = true) :
  Calls Tryz.prog 111 #[v, .int .i64 k, u, .int .i64 p] w fun e w' => e = .returned (.tuple #[]) ∧ Own w' lo v (addL l k ys p) ∧ w.grownBy w' v.ownBlock :=
 addTo_any v u l ys k p lo w hv.own hu.ints (fun _ g hg e => by
  have := hv.top g hg
  have := (hu.lt g e).1
  omega) hlen hln hp hp' hk hk' hl hy
end
section
def vec (l : List Int) (i : Nat) : Int := l.getD i 0
theorem vec_get {l : List Int} {i : Nat} (h : i < l.length) : l[i]? = some (vec l i) := by
 simp [vec, List.getD_eq_getElem?_getD, List.getElem?_eq_getElem h]
theorem vec_eq {l : List Int} {i : Nat} (h : i < l.length) : l[i] = vec l i := by
 have := vec_get h
 rw [List.getElem?_eq_getElem h] at this
 simpa using this
theorem vec_out {l : List Int} {i : Nat} (h : l.length ≤ i) : vec l i = 0 := by
 simp [vec, List.getD_eq_getElem?_getD, List.getElem?_eq_none h]
theorem list_ext {l m : List Int} (h : l.length = m.length) (h1 : ∀ i, i < l.length → vec l i = vec m i) : l = m := by
 apply List.ext_getElem h
 intro i a b
 rw [vec_eq a, vec_eq b]
 exact h1 i a
def tab (n : Nat) (f : Nat → Int) : List Int := (List.range n).map f
theorem length_tab (n : Nat) (f : Nat → Int) : (tab n f).length = n := by simp [tab]
theorem vec_tab {n : Nat} {f : Nat → Int} {i : Nat} (h : i < n) : vec (tab n f) i = f i := by
 simp [vec, tab, List.getD_eq_getElem?_getD, h]
theorem tab_congr {n : Nat} {f g : Nat → Int} (h : ∀ i, i < n → f i = g i) : tab n f = tab n g := by
 refine list_ext (by simp [length_tab]) fun i hi => ?_
 rw [length_tab] at hi
 rw [vec_tab hi, vec_tab hi, h i hi]
theorem tab_vec (l : List Int) : tab l.length (vec l) = l := by
 refine list_ext (by simp [length_tab]) fun i hi => ?_
 rw [length_tab] at hi
 rw [vec_tab hi]
theorem tab_zero (n : Nat) : tab n (fun _ => 0) = List.replicate n 0 := by
 apply List.ext_getElem <;> simp [tab]
theorem tab_get {n : Nat} {f : Nat → Int} {i : Nat} (h : i < n) : (tab n f)[i]? = some (f i) := by simp [tab, h]
theorem tab_set {n : Nat} {f : Nat → Int} (k : Nat) (x : Int) : (tab n f).set k x = tab n (fun i => if i = k then x else f i) := by
 apply List.ext_getElem?
 intro i
 rw [List.getElem?_set]
 by_cases hi : i < n
 ·rw [tab_get hi, tab_get hi]
  by_cases e : k = i
  ·subst e; simp [length_tab, hi]
  ·rw [if_neg e, if_neg (fun h => e h.symm)]
 ·have h1 : (tab n f)[i]? = none := List.getElem?_eq_none (by rw [length_tab]; omega)
  have h2 : (tab n (fun i => if i = k then x else f i))[i]? = none := List.getElem?_eq_none (by rw [length_tab]; omega)
  rw [h1, h2, length_tab]
  by_cases e : k = i
  ·subst e; rw [if_pos rfl, if_neg hi]
  ·rw [if_neg e]
theorem resid_vec {p : Int} {l : List Int} (h : resid p l = true) {i : Nat} (hi : i < l.length) : 0 ≤ vec l i ∧ vec l i < p := by
 rw [← vec_eq hi]; exact resid_get h hi
theorem resid_vec' {p : Int} {l : List Int} (h : resid p l = true) (hp : 0 < p) (i : Nat) : 0 ≤ vec l i ∧ vec l i < p := by
 by_cases hi : i < l.length
 ·exact resid_vec h hi
 ·rw [vec_out (by omega)]; omega
theorem resid_iff {p : Int} {l : List Int} : resid p l = true ↔ ∀ i, i < l.length → 0 ≤ vec l i ∧ vec l i < p :=
 ⟨fun h _ hi => resid_vec h hi, fun h => resid_of fun i hi => by rw [vec_eq hi]; exact h i hi⟩
theorem resid_tab {p : Int} {n : Nat} {f : Nat → Int} (h : ∀ i, i < n → 0 ≤ f i ∧ f i < p) : resid p (tab n f) = true :=
 resid_iff.2 fun i hi => by rw [length_tab] at hi; rw [vec_tab hi]; exact h i hi
theorem resid_mod {p : Int} (hp : 0 < p) {n : Nat} {f : Nat → Int} : resid p (tab n fun i => f i % p) = true :=
 resid_tab fun _ _ => ⟨Int.emod_nonneg _ (by omega), Int.emod_lt_of_pos _ hp⟩
theorem zeroL_iff {l : List Int} : zeroL l = true ↔ ∀ i, i < l.length → vec l i = 0 := by
 constructor
 ·intro h i hi
  have := List.all_eq_true.1 h l[i] (List.getElem_mem hi)
  rw [← vec_eq hi]; simpa using this
 ·intro h
  refine List.all_eq_true.2 fun x hx => ?_
  obtain ⟨i, hi, rfl⟩ := List.getElem_of_mem hx
  rw [vec_eq hi]; simpa using h i hi
theorem addL_tab (n : Nat) (f g : Nat → Int) (k p : Int) : addL (tab n f) k (tab n g) p = tab n fun i => (f i + k * g i) % p := by
 refine list_ext (by simp [length_addL, length_tab]) fun i hi => ?_
 rw [length_addL _ _ _ _ (by simp [length_tab]), length_tab] at hi
 rw [vec_tab hi]
 have := addL_get (tab n f) k (tab n g) p i _ _ (tab_get hi) (tab_get hi)
 simp [vec, List.getD_eq_getElem?_getD, this]
def sumTo : Nat → (Nat → Int) → Int
 | 0, _ => 0
 | n + 1, f => sumTo n f + f n
theorem sumTo_congr {n : Nat} {f g : Nat → Int} (h : ∀ i, i < n → f i = g i) : sumTo n f = sumTo n g := by
 induction n with
 | zero => rfl
 | succ n ih => simp only [sumTo]; rw [ih (fun i hi => h i (by omega)), h n (by omega)]
theorem sumTo_zero (n : Nat) : sumTo n (fun _ => 0) = 0 := by
 induction n with
 | zero => rfl
 | succ n ih => simp only [sumTo]; rw [ih]; rfl
theorem sumTo_add (n : Nat) (f g : Nat → Int) : sumTo n (fun i => f i + g i) = sumTo n f + sumTo n g := by
 induction n with
 | zero => rfl
 | succ n ih => simp only [sumTo]; rw [ih]; omega
theorem sumTo_mul (n : Nat) (c : Int) (f : Nat → Int) : sumTo n (fun i => c * f i) = c * sumTo n f := by
 induction n with
 | zero => simp [sumTo]
 | succ n ih => simp only [sumTo]; rw [ih, Int.mul_add]
theorem sumTo_mul_right (n : Nat) (c : Int) (f : Nat → Int) : sumTo n (fun i => f i * c) = sumTo n f * c := by
 rw [Int.mul_comm, ← sumTo_mul]; exact sumTo_congr fun i _ => Int.mul_comm _ _
theorem sumTo_comm (n m : Nat) (f : Nat → Nat → Int) : sumTo n (fun i => sumTo m (fun j => f i j)) = sumTo m (fun j => sumTo n (fun i => f i j)) := by
 induction n with
 | zero => simp [sumTo, sumTo_zero]
 | succ n ih =>
  show sumTo n _ + sumTo m (fun j => f n j) = sumTo m (fun j => sumTo n (fun i => f i j) + f n j)
  rw [ih, sumTo_add]
theorem sumTo_emod (n : Nat) (f : Nat → Int) (p : Int) : sumTo n (fun i => f i % p) % p = sumTo n f % p := by
 induction n with
 | zero => rfl
 | succ n ih =>
  simp only [sumTo]
  rw [Int.add_emod, ih, Int.emod_emod_of_dvd _ (Int.dvd_refl p), ← Int.add_emod]
theorem sumTo_emod_congr {n : Nat} {f g : Nat → Int} {p : Int} (h : ∀ i, i < n → f i % p = g i % p) : sumTo n f % p = sumTo n g % p := by
 rw [← sumTo_emod n f, ← sumTo_emod n g, sumTo_congr (fun i hi => h i hi)]
theorem sumTo_single {n : Nat} {k : Nat} (hk : k < n) (f : Nat → Int) : sumTo n (fun i => if i = k then f i else 0) = f k := by
 induction n with
 | zero => omega
 | succ n ih =>
  simp only [sumTo]
  by_cases e : k = n
  ·subst e
   rw [if_pos rfl, sumTo_congr (g := fun _ => 0) (fun i hi => if_neg (by omega)), sumTo_zero]; omega
  ·rw [ih (by omega), if_neg (fun h => e (Eq.symm h))]; omega
theorem add_mul_mod (s c t p : Int) : (s % p + c * t) % p = (s + c * t) % p := by
 rw [Int.add_emod, Int.emod_emod_of_dvd _ (Int.dvd_refl p), ← Int.add_emod]
theorem mul_mod_right (c t p : Int) : (c * (t % p)) % p = (c * t) % p := by
 rw [Int.mul_emod, Int.emod_emod_of_dvd _ (Int.dvd_refl p), ← Int.mul_emod]
theorem mul_mod_left' (c t p : Int) : ((c % p) * t) % p = (c * t) % p := by
 rw [Int.mul_emod, Int.emod_emod_of_dvd _ (Int.dvd_refl p), ← Int.mul_emod]
end
end Go.Proofs.YtbnefjhljfbecaaGreatDoor
