/- Words for memory: a slice that reads as a list of integers; cuts of it. No function of the program stands here. -/
import Derived.Test.YtngmepodgbhbpaaRows
import Derived.WalkKit
import Derived.WalkSpells
import Derived.WalkLawsBesides
import Derived.Lib.Hide
import Derived.Deep.QuietTactic
import Derived.BigQuiet
import Derived.Deep.Draws
import Derived.Maps.AppendAt
namespace Go.Proofs.Ytngmepodgbhbpaa
set_option maxRecDepth 100000
open Go.RowKit

theorem quiet_same {P : Program} {f : FuncId} {args : Array Value} {w : World} {n : Nat} {v : Value}
    (h : Calls P f args (w.drewN n) fun e w' => e = .returned v ∧ w.drewN n = w') : Calls P f args (w.drewN n) fun e w'' => e = .returned v ∧ ∃ m, w'' = w.drewN m :=
  h.mono fun _ _ ⟨he, hm⟩ => ⟨he, n, hm.symm⟩
/-- The world has moved on by draws alone. A relation that hides how many. -/
def Draws (w w' : World) : Prop := ∃ m, w' = w.drewN m
theorem Draws.refl (w : World) : Draws w w := ⟨0, rfl⟩
theorem Draws.on {w w' : World} (h : Draws w w') (n : Nat) : Draws w (w'.drewN n) := by
  obtain ⟨m, rfl⟩ := h
  exact ⟨m + n, by rw [World.drewN_drewN]⟩
theorem Draws.cell {w w' : World} (h : Draws w w') {p : Addr} {v : Option Value} (e : w.cell? p = v) : w'.cell? p = v := by
  obtain ⟨m, rfl⟩ := h
  exact e
theorem Draws.trans {a b c : World} (h : Draws a b) (k : Draws b c) : Draws a c := by
  obtain ⟨m, rfl⟩ := h
  obtain ⟨n, rfl⟩ := k
  exact ⟨m + n, by rw [World.drewN_drewN]⟩

theorem ret_int {k : IntKind} {a b : Int} (h : a = b) : Ending.returned (.int k a) = .returned (.int k b) := by rw [h]
theorem ret_bool {a b : Bool} (h : a = b) : Ending.returned (.bool a) = .returned (.bool b) := by rw [h]

/-- The slice value v reads as the list l of integers. -/
def Ints (w : World) (v : Value) (l : List Int) : Prop :=
  ∃ A c, v = .slice A l.length c ∧ l.length ≤ c ∧ c ≤ 9223372036854775807 ∧
    (0 < l.length → ∃ b off, A = some ⟨b, off, none⟩ ∧ ∀ (i : Nat) (x : Int), l[i]? = some x → w.cell? ⟨b, off + i, none⟩ = some (.int .i64 x))

theorem Ints.keep {w w' : World} {v : Value} {l : List Int} (h : Ints w v l) (hk : ∀ p : Addr, p.block < w.heap.size → w'.cell? p = w.cell? p) : Ints w' v l := by
  obtain ⟨A, c, rfl, h1, h2, h3⟩ := h
  refine ⟨A, c, rfl, h1, h2, fun hl => ?_⟩
  obtain ⟨b, off, rfl, hc⟩ := h3 hl
  exact ⟨b, off, rfl, fun i x hx => (hk _ (World.block_lt_of_cell? w _ (hc i x hx))).trans (hc i x hx)⟩
theorem Ints.below {w w' : World} {v : Value} {l : List Int} (h : Ints w v l) (hb : Below w.heap.size w w') : Ints w' v l := h.keep fun _ hp => hb.cell hp
theorem Ints.drewN {w : World} {v : Value} {l : List Int} (h : Ints w v l) (n : Nat) : Ints (w.drewN n) v l := h

theorem Draws.ints {w w' : World} (h : Draws w w') {v : Value} {l : List Int} (e : Ints w v l) : Ints w' v l := by
  obtain ⟨m, rfl⟩ := h
  exact e

theorem Ints.take {w : World} {A : Option Addr} {n c : Nat} {l : List Int} (h : Ints w (.slice A n c) l) (k : Nat) (hk : k ≤ n) : Ints w (.slice A k c) (l.take k) := by
  obtain ⟨A', c', he, h1, h2, h3⟩ := h
  simp only [Value.slice.injEq] at he
  obtain ⟨rfl, rfl, rfl⟩ := he
  have hl : (l.take k).length = k := by rw [List.length_take]; omega
  refine ⟨A, c, by rw [hl], by omega, h2, fun hp => ?_⟩
  obtain ⟨b, off, rfl, hc⟩ := h3 (by omega)
  refine ⟨b, off, rfl, fun i x hx => hc i x ?_⟩
  rw [List.getElem?_take] at hx
  split at hx
  · exact hx
  · cases hx

theorem Ints.drop {w : World} {A : Option Addr} {n c : Nat} {l : List Int} (h : Ints w (.slice A n c) l) (k : Nat) (hk : k ≤ n) :
    Ints w (.slice (if c = k then A else A.map (·.add k)) (n - k) (c - k)) (l.drop k) := by
  obtain ⟨A', c', he, h1, h2, h3⟩ := h
  simp only [Value.slice.injEq] at he
  obtain ⟨rfl, rfl, rfl⟩ := he
  have hl : (l.drop k).length = l.length - k := List.length_drop
  refine ⟨_, _, by rw [hl], by omega, by omega, fun hp => ?_⟩
  obtain ⟨b, off, rfl, hc⟩ := h3 (by omega)
  rw [if_neg (by omega)]
  refine ⟨b, off + k, by by_cases h0 : k = 0 <;> simp [Addr.add, h0], fun i x hx => ?_⟩
  rw [Nat.add_assoc]
  exact hc (k + i) x (by rw [← hx, List.getElem?_drop])

theorem Ints.cut {w : World} {A : Option Addr} {n c : Nat} {l : List Int} (h : Ints w (.slice A n c) l) (lo hi : Nat) (h1 : lo ≤ hi) (h2 : hi ≤ n) :
    Ints w (.slice (if c = lo then A else A.map (·.add lo)) (hi - lo) (c - lo)) ((l.take hi).drop lo) := (h.take hi h2).drop lo h1

section
variable {P : Program}
/-- A cut 's[lo:]', 's[:hi]', 's[lo:hi]', whatever the world. -/
theorem cut_from (t : TypeId) {i : TypeInfo} (ht : P.underlying t = some (.slice (P.elem t))) (hi : P.info? (P.elem t) = some i) (hsz : i.size = 1) {w : World} {A : Option Addr} {n c : Nat} {l : List Int}
    (h : Ints w (.slice A n c) l) (k : Nat) (hk : k ≤ n) :
    ∃ A', (∀ W : World, (Instr.sliceAt t (.slice A n c) (some (.int .i64 (k : Int))) none none).run P W = .ok (.slice A' (n - k) (c - k)) W) ∧ Ints w (.slice A' (n - k) (c - k)) (l.drop k) := by
  refine ⟨_, fun W => ?_, h.drop k hk⟩
  rw [run_sliceAt_slice W t _ _ _ _ ht, run_slice_l W t A n c ht .i64 k (by omega) (by omega)]
  simp [sizeOf, typeInfo, hi, hsz, sliced, Result.andThen]
theorem cut_to (t : TypeId) {i : TypeInfo} (ht : P.underlying t = some (.slice (P.elem t))) (hi : P.info? (P.elem t) = some i) (hsz : i.size = 1) {w : World} {A : Option Addr} {n c : Nat} {l : List Int}
    (h : Ints w (.slice A n c) l) (k : Nat) (hk : k ≤ n) :
    (∀ W : World, (Instr.sliceAt t (.slice A n c) none (some (.int .i64 (k : Int))) none).run P W = .ok (.slice A k c) W) ∧ Ints w (.slice A k c) (l.take k) := by
  have hc : n ≤ c := by
    obtain ⟨A', c', he, h1, _⟩ := h
    simp only [Value.slice.injEq] at he
    omega
  refine ⟨fun W => ?_, h.take k hk⟩
  rw [run_sliceAt_slice W t _ _ _ _ ht, run_slice_h W t A n c ht .i64 k (by omega) (by omega)]
  cases A <;> simp [sizeOf, typeInfo, hi, hsz, sliced, Result.andThen, Addr.add]
theorem cut_mid (t : TypeId) {i : TypeInfo} (ht : P.underlying t = some (.slice (P.elem t))) (hi : P.info? (P.elem t) = some i) (hsz : i.size = 1) {w : World} {A : Option Addr} {n c : Nat} {l : List Int}
    (h : Ints w (.slice A n c) l) (lo hh : Nat) (h1 : lo ≤ hh) (h2 : hh ≤ n) :
    ∃ A', (∀ W : World, (Instr.sliceAt t (.slice A n c) (some (.int .i64 (lo : Int))) (some (.int .i64 (hh : Int))) none).run P W = .ok (.slice A' (hh - lo) (c - lo)) W) ∧ Ints w (.slice A' (hh - lo) (c - lo)) ((l.take hh).drop lo) := by
  have hc : n ≤ c := by
    obtain ⟨A', c', he, h1, _⟩ := h
    simp only [Value.slice.injEq] at he
    omega
  refine ⟨_, fun W => ?_, h.cut lo hh h1 h2⟩
  rw [run_sliceAt_slice W t _ _ _ _ ht, run_slice_lh W t A n c ht .i64 .i64 lo hh (by omega) (by omega) (by omega)]
  simp [sizeOf, typeInfo, hi, hsz, sliced, Result.andThen]
end
theorem sliceI : Try.prog.underlying 22 = some (.slice (Try.prog.elem 22)) := by kernel_rfl
theorem infoI : (Try.prog.info? (Try.prog.elem 22)).map (fun i => (i.zero, i.size, i.bytes)) = some (some (.int .i64 0), 1, 8) := by kernel_rfl
theorem cutFrom {w : World} {A : Option Addr} {n c : Nat} {l : List Int} (h : Ints w (.slice A n c) l) (k : Nat) (hk : k ≤ n) :
    ∃ A', (∀ W : World, (Instr.sliceAt 22 (.slice A n c) (some (.int .i64 (k : Int))) none none).run Try.prog W = .ok (.slice A' (n - k) (c - k)) W) ∧ Ints w (.slice A' (n - k) (c - k)) (l.drop k) := by
  obtain ⟨i, h1, _, h3, _⟩ := info_parts infoI
  exact cut_from _ sliceI h1 h3 h k hk
theorem cutTo {w : World} {A : Option Addr} {n c : Nat} {l : List Int} (h : Ints w (.slice A n c) l) (k : Nat) (hk : k ≤ n) :
    (∀ W : World, (Instr.sliceAt 22 (.slice A n c) none (some (.int .i64 (k : Int))) none).run Try.prog W = .ok (.slice A k c) W) ∧ Ints w (.slice A k c) (l.take k) := by
  obtain ⟨i, h1, _, h3, _⟩ := info_parts infoI
  exact cut_to _ sliceI h1 h3 h k hk
theorem cutMid {w : World} {A : Option Addr} {n c : Nat} {l : List Int} (h : Ints w (.slice A n c) l) (lo hh : Nat) (h1 : lo ≤ hh) (h2 : hh ≤ n) :
    ∃ A', (∀ W : World, (Instr.sliceAt 22 (.slice A n c) (some (.int .i64 (lo : Int))) (some (.int .i64 (hh : Int))) none).run Try.prog W = .ok (.slice A' (hh - lo) (c - lo)) W) ∧ Ints w (.slice A' (hh - lo) (c - lo)) ((l.take hh).drop lo) := by
  obtain ⟨i, h3, _, h4, _⟩ := info_parts infoI
  exact cut_mid _ sliceI h3 h4 h lo hh h1 h2

/-- The slice value v is the call's own (blocks from lo on) and holds the list l of integers. -/
def Own (w : World) (lo : Nat) (v : Value) (l : List Int) : Prop := w.ownsRow lo 3 1 v l.length (l.map (Value.int .i64))
theorem Own.ints {w : World} {lo : Nat} {v : Value} {l : List Int} (h : Own w lo v l) : Ints w v l := by
  have hc := @World.ownsRow.cellAt w lo 3 1
  rcases id h.2 with ⟨rfl, h0⟩ | ⟨g, cap, cur, rfl, hb, hg, hn, hm, _⟩
  · obtain rfl : l = [] := List.eq_nil_of_length_eq_zero h0
    exact ⟨none, 0, rfl, by simp, by simp, fun h => by simp at h⟩
  · refine ⟨_, cap, rfl, hn, by simpa [maxLen] using hm, fun _ => ⟨g, 0, rfl, fun i x hx => ?_⟩⟩
    rw [Nat.zero_add, hc h i (by have := (List.getElem?_eq_some_iff.1 hx).1; omega)]
    simp [hx]
theorem Own.slice {w : World} {lo : Nat} {v : Value} {l : List Int} (h : Own w lo v l) : ∃ A n c, v = .slice A n c := by
  obtain ⟨A, c, rfl, _⟩ := h.ints
  exact ⟨_, _, _, rfl⟩
theorem Own.lt {w : World} {lo : Nat} {v : Value} {l : List Int} (h : Own w lo v l) : ∀ k, v.ownBlock = some k → lo ≤ k ∧ k < w.heap.size := World.ownsRow.lt h
theorem Own.below {w w' : World} {lo : Nat} {v : Value} {l : List Int} (h : Own w lo v l) (hb : Below w.heap.size w w') : Own w' lo v l :=
  World.ownsRow.kept (row := none) h ⟨hb.os, hb.tape, hb.output, hb.size, fun k hk _ => hb.block k hk⟩ (by cases hv : v.ownBlock <;> simp)
theorem Own.mono {w : World} {lo lo' : Nat} {v : Value} {l : List Int} (h : Own w lo v l) (hl : lo' ≤ lo) : Own w lo' v l := by
  refine ⟨h.1, ?_⟩
  rcases h.2 with hn | ⟨g, cap, cur, hv, hb, r⟩
  · exact .inl hn
  · exact .inr ⟨g, cap, cur, hv, Nat.le_trans hl hb, r⟩
theorem Own.drewN {w : World} {lo : Nat} {v : Value} {l : List Int} (h : Own w lo v l) (n : Nat) : Own (w.drewN n) lo v l := h

/-- A draw turns nothing below any block. -/
theorem below_of_drewN {w w' : World} {n : Nat} (h : w' = w.drewN n) : Below w.heap.size w w' := by subst h; exact ⟨rfl, rfl, rfl, Nat.le_refl _, fun _ _ => rfl⟩
theorem below_of_eq {w w' : World} (h : w = w') : Below w.heap.size w w' := by subst h; exact Below.refl _ _

/-- The slice value v reads as l, and lies below block B (where there is anything to read). -/
def IntsB (w : World) (B : Nat) (v : Value) (l : List Int) : Prop := Ints w v l ∧ (0 < l.length → ∃ b off c, v = .slice (some ⟨b, off, none⟩) l.length c ∧ b < B)
theorem IntsB.ints {w : World} {B : Nat} {v : Value} {l : List Int} (h : IntsB w B v l) : Ints w v l := h.1
theorem Ints.toB {w : World} {v : Value} {l : List Int} (h : Ints w v l) : IntsB w w.heap.size v l := by
  refine ⟨h, fun hl => ?_⟩
  obtain ⟨A, c, rfl, h1, h2, h3⟩ := h
  obtain ⟨b, off, rfl, hc⟩ := h3 hl
  exact ⟨b, off, c, rfl, World.block_lt_of_cell? w _ (hc 0 l[0] (List.getElem?_eq_getElem hl))⟩
theorem IntsB.keep {w w' : World} {B : Nat} {v : Value} {l : List Int} (h : IntsB w B v l) (hk : ∀ p : Addr, p.block < B → w'.cell? p = w.cell? p) : IntsB w' B v l := by
  refine ⟨?_, h.2⟩
  obtain ⟨⟨A, c, rfl, h1, h2, h3⟩, h4⟩ := h
  refine ⟨A, c, rfl, h1, h2, fun hl => ?_⟩
  obtain ⟨b, off, rfl, hc⟩ := h3 hl
  obtain ⟨b', off', c', he, hb⟩ := h4 hl
  simp only [Value.slice.injEq, Option.some.injEq, Addr.mk.injEq, and_true, true_and] at he
  obtain ⟨⟨rfl, rfl⟩, rfl⟩ := he
  exact ⟨b, off, rfl, fun i x hx => (hk _ hb).trans (hc i x hx)⟩
theorem IntsB.below {w w' : World} {B B' : Nat} {v : Value} {l : List Int} (h : IntsB w B v l) (hb : Below B' w w') (hB : B ≤ B') : IntsB w' B v l := h.keep fun _ hp => hb.cell (Nat.lt_of_lt_of_le hp hB)
theorem IntsB.grown {w w' : World} {B : Nat} {v u : Value} {l : List Int} {lo : Nat} {m : List Int} (h : IntsB w B v l) (hg : w.grownBy w' u.ownBlock) (hu : Own w lo u m) (hB : B ≤ lo) (hB' : B ≤ w.heap.size) : IntsB w' B v l :=
  h.keep fun p hp => World.cell?_of_block (hg.block p.block (by omega) (fun e => by have := (hu.lt _ e.symm).1; omega))

/-- The call's own slice, from block lo on and below block hi. -/
structure OwnIn (w : World) (lo hi : Nat) (v : Value) (l : List Int) : Prop where
  own : Own w lo v l
  top : ∀ k, v.ownBlock = some k → k < hi
theorem Own.toIn {w : World} {lo : Nat} {v : Value} {l : List Int} (h : Own w lo v l) : OwnIn w lo w.heap.size v l := ⟨h, fun k hk => (h.lt k hk).2⟩
theorem OwnIn.ints {w : World} {lo hi : Nat} {v : Value} {l : List Int} (h : OwnIn w lo hi v l) : Ints w v l := h.own.ints
theorem OwnIn.below {w w' : World} {lo hi B : Nat} {v : Value} {l : List Int} (h : OwnIn w lo hi v l) (hb : Below B w w') (hB : hi ≤ B) : OwnIn w' lo hi v l :=
  ⟨by
    refine ⟨h.own.1, ?_⟩
    rcases h.own.2 with hn | ⟨g, cap, cur, hv, hbg, hh, r⟩
    · exact .inl hn
    · have := h.top g (by rw [hv]; rfl)
      exact .inr ⟨g, cap, cur, hv, hbg, (hb.block g (by omega)).trans hh, r⟩, h.top⟩
theorem OwnIn.grown {w w' : World} {lo hi lo2 hi2 : Nat} {v u : Value} {l m : List Int} (h : OwnIn w lo hi v l) (hg : w.grownBy w' u.ownBlock) (hu : OwnIn w lo2 hi2 u m) (hd : hi ≤ lo2 ∨ hi2 ≤ lo) : OwnIn w' lo hi v l :=
  ⟨World.ownsRow.kept h.own hg (by
    cases hv : v.ownBlock with
    | none => exact .inl rfl
    | some k =>
      refine .inr fun e => ?_
      have h1 := h.own.lt k hv
      have h2 := h.top k hv
      have h3 := hu.own.lt k e.symm
      have h4 := hu.top k e.symm
      omega), h.top⟩
theorem OwnIn.below_marked {w w' a : World} {B lo hi : Nat} {u : Value} {m : List Int} (hu : OwnIn w lo hi u m) (h : Below B a w) (hg : w.grownBy w' u.ownBlock) (hB : B ≤ lo) (hB' : B ≤ w.heap.size) : Below B a w' :=
  h.grown hg hB' fun k hk => Nat.le_trans hB (hu.own.lt k hk).1

/-- From w to w' only blocks from lo on and below hi have turned, and new ones have come. -/
structure Only (lo hi : Nat) (w w' : World) : Prop where
  os : w'.os = w.os
  tape : w'.tape = w.tape
  output : w'.output = w.output
  size : w.heap.size ≤ w'.heap.size
  block : ∀ b, b < w.heap.size → b < lo ∨ hi ≤ b → w'.heap[b]? = w.heap[b]?
theorem Only.refl (lo hi : Nat) (w : World) : Only lo hi w w := ⟨rfl, rfl, rfl, Nat.le_refl _, fun _ _ _ => rfl⟩
theorem Only.trans {lo hi : Nat} {a b c : World} (h : Only lo hi a b) (k : Only lo hi b c) : Only lo hi a c :=
  ⟨k.os.trans h.os, k.tape.trans h.tape, k.output.trans h.output, Nat.le_trans h.size k.size, fun i hi' ho => (k.block i (Nat.lt_of_lt_of_le hi' h.size) ho).trans (h.block i hi' ho)⟩
theorem Only.wide {lo hi lo' hi' : Nat} {w w' : World} (h : Only lo hi w w') (h1 : lo' ≤ lo) (h2 : hi ≤ hi') : Only lo' hi' w w' := ⟨h.os, h.tape, h.output, h.size, fun b hb ho => h.block b hb (by omega)⟩
theorem OwnIn.only {w w' : World} {lo hi : Nat} {u : Value} {m : List Int} (h : OwnIn w lo hi u m) (hg : w.grownBy w' u.ownBlock) : Only lo hi w w' :=
  ⟨hg.os, hg.tape, hg.output, hg.size, fun b hb ho => hg.block b hb (fun e => by
    have h1 := h.own.lt b e.symm
    have h2 := h.top b e.symm
    omega)⟩
theorem Only.below {B lo hi : Nat} {a w w' : World} (h : Below B a w) (k : Only lo hi w w') (h1 : B ≤ lo) (h2 : B ≤ w.heap.size) : Below B a w' :=
  h.trans ⟨k.os, k.tape, k.output, k.size, fun i hi => k.block i (by omega) (by omega)⟩
theorem IntsB.only {w w' : World} {B lo hi : Nat} {v : Value} {l : List Int} (h : IntsB w B v l) (k : Only lo hi w w') (h1 : B ≤ lo) (h2 : B ≤ w.heap.size) : IntsB w' B v l :=
  h.keep fun p hp => World.cell?_of_block (k.block p.block (by omega) (by omega))
theorem owns_only {w w' : World} {a b e sz n lo hi : Nat} {v : Value} {xs : List Value} (h : w.ownsRow a e sz v n xs) (ht : ∀ k, v.ownBlock = some k → k < b) (k : Only lo hi w w') (hd : b ≤ lo ∨ hi ≤ a) : w'.ownsRow a e sz v n xs := by
  refine ⟨h.1, ?_⟩
  rcases h.2 with hn | ⟨g, cap, cur, hv, hbg, hh, r⟩
  · exact .inl hn
  · have := ht g (by rw [hv]; rfl)
    exact .inr ⟨g, cap, cur, hv, hbg, (k.block g (Array.getElem?_eq_some_iff.1 hh).1 (by omega)).trans hh, r⟩
theorem OwnIn.keepOnly {w w' : World} {a b lo hi : Nat} {v : Value} {l : List Int} (h : OwnIn w a b v l) (k : Only lo hi w w') (hd : b ≤ lo ∨ hi ≤ a) : OwnIn w' a b v l :=
  ⟨owns_only h.own h.top k hd, h.top⟩

theorem IntsB.drop {w : World} {B : Nat} {A : Option Addr} {n c : Nat} {l : List Int} (h : IntsB w B (.slice A n c) l) (k : Nat) (hk : k ≤ n) :
    IntsB w B (.slice (if c = k then A else A.map (·.add k)) (n - k) (c - k)) (l.drop k) := by
  refine ⟨h.1.drop k hk, fun hp => ?_⟩
  obtain ⟨b, off, c', he, hb⟩ := h.2 (by simp at hp; omega)
  simp only [Value.slice.injEq] at he
  obtain ⟨rfl, rfl, rfl⟩ := he
  by_cases e : c = k
  · rw [if_pos e]; exact ⟨b, off, _, by rw [List.length_drop], hb⟩
  · rw [if_neg e]; exact ⟨b, off + k, c - k, by rw [List.length_drop]; by_cases h0 : k = 0 <;> simp [Addr.add, h0], hb⟩
theorem IntsB.take {w : World} {B : Nat} {A : Option Addr} {n c : Nat} {l : List Int} (h : IntsB w B (.slice A n c) l) (k : Nat) (hk : k ≤ n) : IntsB w B (.slice A k c) (l.take k) := by
  refine ⟨h.1.take k hk, fun hp => ?_⟩
  obtain ⟨b, off, c', he, hb⟩ := h.2 (by simp at hp; omega)
  simp only [Value.slice.injEq] at he
  obtain ⟨rfl, he, rfl⟩ := he
  exact ⟨b, off, _, by rw [List.length_take, Nat.min_eq_left (by omega)], hb⟩

theorem IntsB.grownRow {w w' : World} {B : Nat} {v : Value} {l : List Int} {row : Option Nat} (h : IntsB w B v l) (hg : w.grownBy w' row) (hr : ∀ k, row = some k → B ≤ k) (hB' : B ≤ w.heap.size) : IntsB w' B v l :=
  h.keep fun p hp => World.cell?_of_block (hg.block p.block (by omega) (fun e => by have := hr _ e.symm; omega))

/-- n zeros, as a new block holds them. -/
def zeros (n : Nat) : Array Value := (List.replicate n (Value.int .i64 0)).toArray
set_option maxRecDepth 100000 in
theorem makeI (n : Nat) (hn : n ≤ 35184372088832) (W : World) :
    (Instr.makeSlice 22 (.int .i64 (n : Int)) (.int .i64 (n : Int))).run Try.prog W = .ok (.slice (some ⟨W.heap.size, 0, none⟩) n n) (W.alloc (.cells (zeros n) 3)) := by
  obtain ⟨i, h1, h2, h3, h4⟩ := info_parts infoI
  have hr := run_make (P := Try.prog) W 22 _ i _ sliceI h1 h2 .i64 .i64 (n : Int) (n : Int) (by omega) (Int.le_refl _) (by rw [h4]; omega) (by omega)
  simp only [Int.toNat_natCast, h3, Nat.mul_one] at hr
  rw [hr]
  have : madeCells (Value.int .i64 0).cells n = zeros n := by
    apply Array.toList_inj.1
    rw [show (Value.int .i64 0).cells = #[Value.int .i64 0] from rfl, toList_madeCells_one]; rfl
  rw [this]; rfl
theorem Own.made {W : World} {n lo : Nat} (hn : n ≤ 35184372088832) (hlo : lo ≤ W.heap.size) : Own (W.alloc (.cells (zeros n) 3)) lo (.slice (some ⟨W.heap.size, 0, none⟩) n n) (List.replicate n 0) := by
  have := World.ownsRow_lit (base := lo) (e := 3) (size := 1) W (zeros n) n hlo (by simp [maxLen]; omega) (by simp [zeros])
  unfold Own
  simpa [zeros] using this

/-- A list on its way: the first k elements stand, the others are still 0. -/
def fillTo (l : List Int) (k : Nat) : List Int := l.take k ++ List.replicate (l.length - k) 0
theorem fillTo_zero (l : List Int) : fillTo l 0 = List.replicate l.length 0 := by simp [fillTo]
theorem fillTo_end (l : List Int) : fillTo l l.length = l := by simp [fillTo]
theorem length_fillTo (l : List Int) (k : Nat) (h : k ≤ l.length) : (fillTo l k).length = l.length := by simp [fillTo]; omega
theorem fillTo_set (l : List Int) (k : Nat) (h : k < l.length) : (fillTo l k).set k l[k] = fillTo l (k + 1) := by
  unfold fillTo
  have h1 : (l.take k).length = k := by simp; omega
  rw [List.set_append_right _ _ (by omega), h1, Nat.sub_self, show l.length - k = (l.length - (k + 1)) + 1 from by omega, List.replicate_succ, List.set_cons_zero, List.take_succ_eq_append_getElem h, List.append_assoc]
  rfl

/-- A store into a row of the call's own. -/
theorem Own.cell {w : World} {lo g n c : Nat} {l : List Int} (h : Own w lo (.slice (some ⟨g, 0, none⟩) n c) l) (k : Nat) (hk : k < l.length) :
    w.cell? ⟨g, k, none⟩ = some (.int .i64 l[k]) ∧ w.frozen? ⟨g, k, none⟩ = false := by
  have hn : n = l.length := by rcases h.2 with ⟨h', _⟩ | ⟨g', cap', cur, h', _⟩ <;> simp at h'; exact h'.2.1
  subst hn
  exact ⟨by rw [World.ownsRow.cellAt h k (by omega)]; simp [List.getElem?_eq_getElem hk], World.ownsRow.frozenAt h k⟩
theorem Own.set {w : World} {lo g n c : Nat} {l : List Int} (h : Own w lo (.slice (some ⟨g, 0, none⟩) n c) l) (k : Nat) (x : Int) :
    Own (w.setCell ⟨g, k, none⟩ (.int .i64 x)) lo (.slice (some ⟨g, 0, none⟩) n c) (l.set k x) ∧ w.grownBy (w.setCell ⟨g, k, none⟩ (.int .i64 x)) (some g) := by
  have hn : n = l.length := by rcases h.2 with ⟨h', _⟩ | ⟨g', cap', cur, h', _⟩ <;> simp at h'; exact h'.2.1
  subst hn
  have := World.ownsRow.stored h k (.int .i64 x)
  unfold Own
  simpa [List.map_set] using this

theorem oneCells (ys : List Int) : ∀ u ∈ ys.map (Value.int .i64), u.oneCell' = true := by
  intro u hu
  obtain ⟨x, _, rfl⟩ := List.mem_map.1 hu
  rfl
theorem add_zero_spot (b off j : Nat) : (Addr.mk b off none).add j = ⟨b, off + j, none⟩ := by by_cases h : j = 0 <;> simp [Addr.add, h]

set_option maxRecDepth 100000 in
/-- append onto a slice of the call's own, the source whatever reads as a list. -/
theorem run_append_ints (lo ty : Nat) (v u : Value) (xs ys : List Int) (w : World) (hv : Own w lo v xs) (hu : Ints w u ys) (hlen : xs.length + ys.length ≤ 17592186044416) (hlo : lo ≤ w.heap.size) :
    ∃ v' w', (Builtin.append_ #[22, 22] ty #[v, u]).run Try.prog w = .ok v' w' ∧ Own w' lo v' (xs ++ ys) ∧ w.grownBy w' v.ownBlock ∧ (v'.ownBlock = v.ownBlock ∨ v'.ownBlock = some w.heap.size) := by
  obtain ⟨i, h1, h2, h3, h4⟩ := info_parts infoI
  have hsl : Try.prog.underlying 22 = some (.slice 3) := Try.underlying22
  have hi : Try.prog.info? 3 = some i := h1
  obtain ⟨A, c, rfl, g1, g2, g3⟩ := hu
  by_cases hy : ys.length = 0
  · obtain rfl : ys = [] := List.eq_nil_of_length_eq_zero hy
    have hr : (Builtin.append_ #[22, 22] ty #[v, .slice A 0 c]).run Try.prog w = .ok v w := by
      rcases hv.2 with ⟨rfl, h0⟩ | ⟨g, cap, cur, rfl, _, _, hnc, _⟩
      · obtain rfl : xs = [] := List.eq_nil_of_length_eq_zero h0
        cases A <;> simp [Builtin.append_, run_underlying hsl, sizeOf, typeInfo, hi, Builtin.lenOf, Builtin.firstCells, loadCells, loadCellsFrom]
      · cases A <;> simp [Builtin.append_, run_underlying hsl, sizeOf, typeInfo, hi, Builtin.lenOf, Builtin.firstCells, hnc, storeCells, loadCells, loadCellsFrom]
    exact ⟨v, w, hr, by rw [List.append_nil]; exact hv, World.grownBy.refl w _, .inl rfl⟩
  · obtain ⟨b, off, rfl, hc⟩ := g3 (by omega)
    obtain ⟨v', w', hr, k1, k2, _, k4⟩ := run_append_own_at (P := Try.prog) w lo 22 ty 3 i (.int .i64 0) 1 8 hsl hi h2 h3 h4 rfl (by decide) v xs.length (xs.map (Value.int .i64)) hv ⟨b, off, none⟩ ys.length c (ys.map (Value.int .i64)) (by simp)
      (fun j u hj => by
        rw [List.getElem?_map] at hj
        obtain ⟨x, hx, rfl⟩ := Option.map_eq_some_iff.1 hj
        rw [add_zero_spot]
        exact hc j x hx) (oneCells ys) (by simp only [maxLen]; omega) (by omega) hlo
    refine ⟨v', w', hr, ?_, k2, k4⟩
    unfold Own
    simpa using k1

theorem wp_append_ints {ops : Array Oper} {rest : List Oper} {o : Oper} {a : Act} {Q : Exit → Act → World → Prop} {w : World} (hgd : o.guard = none) (s x : Operand)
    (ho : o.op = .call { callee := .builtin .append, args := #[s, x], argTypes := #[22, 22] }) (lo : Nat) (v u : Value) (xs ys : List Int) (hs : a.eval s = v) (hx : a.eval x = u) (hv : Own w lo v xs) (hu : Ints w u ys)
    (hlen : xs.length + ys.length ≤ 17592186044416) (hlo : lo ≤ w.heap.size)
    (h : ∀ v' w', Own w' lo v' (xs ++ ys) → w.grownBy w' v.ownBlock → (v'.ownBlock = v.ownBlock ∨ v'.ownBlock = some w.heap.size) → wpList Try.prog ops Q rest (a.put o.dst v') w') : wpList Try.prog ops Q (o :: rest) a w := by
  refine wpList_plain hgd fun K hK => ?_
  obtain ⟨v', w', hr, k1, k2, k3⟩ := run_append_ints lo o.type v u xs ys w hv hu hlen hlo
  unfold Oper.wp execOp
  simp only [ho, resolve, invoke, builtin, Sem.run_bind, Sem.run_pure, Result.andThen_ok, List.map_toArray, List.map_cons, List.map_nil, hs, hx, hr]
  exact hK _ _ (h v' w' k1 k2 k3)

/-- A new slice literal. -/
theorem Own.empty {W : World} {lo : Nat} (hlo : lo ≤ W.heap.size) : Own (W.alloc (.cells #[] 3)) lo (.slice (some ⟨W.heap.size, 0, none⟩) 0 0) [] :=
  World.ownsRow_lit (base := lo) (e := 3) (size := 1) W #[] 0 hlo (by simp) rfl
theorem Ints.one {W : World} {x : Int} : Ints (W.alloc (.cells #[.int .i64 x] 3)) (.slice (some ⟨W.heap.size, 0, none⟩) 1 1) [x] := by
  have := World.ownsRow_lit (base := W.heap.size) (e := 3) (size := 1) W #[.int .i64 x] 1 (Nat.le_refl _) (by simp [maxLen]) rfl
  exact Own.ints (l := [x]) this
theorem grown_below {w w' : World} {v : Value} {lo B : Nat} {xs : List Int} (hv : Own w lo v xs) (hg : w.grownBy w' v.ownBlock) {a : World} (hb : Below B a w) (h1 : B ≤ lo) (h2 : B ≤ w.heap.size) : Below B a w' :=
  hb.grown hg h2 fun k hk => Nat.le_trans h1 (hv.lt k hk).1
theorem cutFromB {w : World} {B : Nat} {A : Option Addr} {n c : Nat} {l : List Int} (h : IntsB w B (.slice A n c) l) (k : Nat) (hk : k ≤ n) :
    ∃ A', (∀ W : World, (Instr.sliceAt 22 (.slice A n c) (some (.int .i64 (k : Int))) none none).run Try.prog W = .ok (.slice A' (n - k) (c - k)) W) ∧ IntsB w B (.slice A' (n - k) (c - k)) (l.drop k) := by
  obtain ⟨i, h1, _, h3, _⟩ := info_parts infoI
  refine ⟨_, fun W => ?_, h.drop k hk⟩
  rw [run_sliceAt_slice W _ _ _ _ _ sliceI, run_slice_l W _ A n c sliceI .i64 k (by omega) (by omega)]
  simp [sizeOf, typeInfo, h1, h3, sliced, Result.andThen]
/-- What is returned is a new slice that holds l; all that was there is as it was. -/
def RetOwn (w : World) (l : List Int) (e : Ending) (w' : World) : Prop := ∃ u, e = .returned u ∧ Own w' w.heap.size u l ∧ Below w.heap.size w w'

end Go.Proofs.Ytngmepodgbhbpaa
