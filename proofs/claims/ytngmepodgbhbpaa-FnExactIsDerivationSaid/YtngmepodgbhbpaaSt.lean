/- The memory of a call on its way, as one fact: a list of pieces (boxes, slices that are read, slices and rows of the call's own), no two writable ones in one block. No function of the program stands here. -/
import Derived.Test.YtngmepodgbhbpaaRowsDef
import Derived.Test.YtngmepodgbhbpaaLie
import Derived.Test.YtngmepodgbhbpaaRegQ
namespace Go.Proofs.Ytngmepodgbhbpaa
set_option maxRecDepth 100000
open Go.RowKit

/-- A piece of memory. box: a block known whole (a struct, a variable); ro: numbers that are read alone; own: numbers that may be written; vec: a slice of other cells, with the slices of numbers that hang on it; fact: whatever is read alone. -/
inductive It where
  | box (b : Nat) (vs : List Value)
  | ro (v : Value) (l : List Int)
  | own (v : Value) (l : List Int)
  | vec (v : Value) (e : TypeId) (sz n : Nat) (cs : List Value) (subs : List (Value × List Int))
  | fact (R : World → Prop)

/-- The blocks that a piece may be written in. -/
def It.fp : It → List Nat
  | .box b _ => [b]
  | .ro _ _ => []
  | .own v _ => v.ownBlock.toList
  | .vec v _ _ _ _ subs => v.ownBlock.toList ++ subs.flatMap fun s => s.1.ownBlock.toList
  | .fact _ => []

def It.ok (B : Nat) (w : World) : It → Prop
  | .box b vs => B ≤ b ∧ ∃ t, w.heap[b]? = some (.cells vs.toArray t (0, 0))
  | .ro v l => IntsB w B v l
  | .own v l => Own w B v l
  | .vec v e sz n cs subs => w.ownsRow B e sz v n cs ∧ ∀ s ∈ subs, Own w B s.1 s.2
  | .fact R => ∀ w', (∀ b, b < B → w'.heap[b]? = w.heap[b]?) → R w'

theorem owns_same {w w' : World} {B e sz n : Nat} {v : Value} {xs : List Value} (h : w.ownsRow B e sz v n xs) (k : ∀ b, v.ownBlock = some b → w'.heap[b]? = w.heap[b]?) : w'.ownsRow B e sz v n xs := by
  refine ⟨h.1, ?_⟩
  rcases h.2 with hn | ⟨g, cap, cur, hv, hbg, hh, r⟩
  · exact .inl hn
  · exact .inr ⟨g, cap, cur, hv, hbg, (k g (by rw [hv]; rfl)).trans hh, r⟩
theorem Own.same {w w' : World} {B : Nat} {v : Value} {l : List Int} (h : Own w B v l) (k : ∀ b, v.ownBlock = some b → w'.heap[b]? = w.heap[b]?) : Own w' B v l := owns_same h k

/-- A piece is as it was if its blocks are, and all blocks below B. -/
theorem It.ok_same {B : Nat} {w w' : World} {x : It} (h : x.ok B w) (h1 : ∀ b, b < B → w'.heap[b]? = w.heap[b]?) (h2 : ∀ b, b ∈ x.fp → w'.heap[b]? = w.heap[b]?) : x.ok B w' := by
  cases x with
  | box b vs =>
    obtain ⟨hb, t, ht⟩ := h
    exact ⟨hb, t, (h2 b (by simp [It.fp])).trans ht⟩
  | ro v l => exact IntsB.keep h fun p hp => World.cell?_of_block (h1 p.block hp)
  | own v l => exact Own.same h fun b hb => h2 b (by simp [It.fp, hb])
  | vec v e sz n cs subs =>
    refine ⟨owns_same h.1 fun b hb => h2 b (by simp [It.fp, hb]), fun s hs => Own.same (h.2 s hs) fun b hb => h2 b ?_⟩
    simp only [It.fp, List.mem_append, List.mem_flatMap]
    exact .inr ⟨s, hs, by simp [hb]⟩
  | fact R => exact fun w'' hw => h w'' fun b hb => (hw b hb).trans (h1 b hb)
theorem It.ok_lt {B : Nat} {w : World} {x : It} (h : x.ok B w) : ∀ b ∈ x.fp, B ≤ b ∧ b < w.heap.size := by
  intro b hb
  cases x with
  | box b' vs =>
    obtain ⟨h1, t, ht⟩ := h
    simp only [It.fp, List.mem_singleton] at hb
    subst hb
    exact ⟨h1, (Array.getElem?_eq_some_iff.1 ht).1⟩
  | ro v l => simp [It.fp] at hb
  | own v l => exact Own.lt h b (by simpa [It.fp] using hb)
  | vec v e sz n cs subs =>
    simp only [It.fp, List.mem_append, List.mem_flatMap] at hb
    rcases hb with hb | ⟨s, hs, hb⟩
    · exact World.ownsRow.lt h.1 b (by simpa using hb)
    · exact Own.lt (h.2 s hs) b (by simpa using hb)
  | fact R => simp [It.fp] at hb

/-- The memory of a call that began at w0, at w. -/
structure St (w0 w : World) (L : List It) : Prop where
  below : Below w0.heap.size w0 w
  ok : ∀ x ∈ L, x.ok w0.heap.size w
  apart : ∀ (i j : Nat) (x y : It), L[i]? = some x → L[j]? = some y → ∀ b ∈ x.fp, b ∈ y.fp → i = j
  nodup : ∀ x ∈ L, x.fp.Nodup

section
variable {w0 w w' : World} {L : List It}
theorem St.size (h : St w0 w L) : w0.heap.size ≤ w.heap.size := h.below.size
theorem St.at (h : St w0 w L) (i : Nat) {x : It} (hi : L[i]? = some x) : x.ok w0.heap.size w := h.ok x (List.mem_of_getElem? hi)

/-- What changes no block that was there. -/
theorem St.on (h : St w0 w L) (hb : Below w.heap.size w w') : St w0 w' L :=
  ⟨h.below.trans (hb.mono h.size), fun x hx => It.ok_same (h.ok x hx) (fun b hb' => hb.block b (Nat.lt_of_lt_of_le hb' h.size)) (fun b hb' => hb.block b (It.ok_lt (h.ok x hx) b hb').2), h.apart, h.nodup⟩
theorem St.drewN (h : St w0 w L) (n : Nat) : St w0 (w.drewN n) L := h.on ⟨rfl, rfl, rfl, Nat.le_refl _, fun _ _ => rfl⟩
theorem St.drew (h : St w0 w L) : St w0 w.drew L := h.on ⟨rfl, rfl, rfl, Nat.le_refl _, fun _ _ => rfl⟩
theorem St.draws (h : St w0 w L) (n : Nat) : St w0 { w with drawn := w.drawn + n } L := h.drewN n
theorem St.alloc' (h : St w0 w L) (o : Obj) : St w0 (w.alloc o) L := h.on ((Below.refl _ _).alloc (Nat.le_refl _) _)

/-- A new piece. -/
theorem St.push (h : St w0 w L) {x : It} (hb : Below w.heap.size w w') (hok : x.ok w0.heap.size w') (hfp : ∀ b ∈ x.fp, w.heap.size ≤ b) (hnd : x.fp.Nodup) : St w0 w' (x :: L) := by
  have h' := h.on hb
  refine ⟨h'.below, fun y hy => ?_, fun i j y z hy hz b h1 h2 => ?_, fun y hy => ?_⟩
  · rcases List.mem_cons.1 hy with rfl | hy
    · exact hok
    · exact h'.ok y hy
  · have low : ∀ (i : Nat) (y : It), L[i]? = some y → b ∈ y.fp → b < w.heap.size := fun i y hy hb' => (It.ok_lt (h.at i hy) b hb').2
    match i, j, hy, hz with
    | 0, 0, _, _ => rfl
    | 0, j + 1, hy, hz =>
      simp only [List.getElem?_cons_zero, Option.some.injEq] at hy
      subst hy
      have := hfp b h1
      have := low j z (by simpa using hz) h2
      omega
    | i + 1, 0, hy, hz =>
      simp only [List.getElem?_cons_zero, Option.some.injEq] at hz
      subst hz
      have := hfp b h2
      have := low i y (by simpa using hy) h1
      omega
    | i + 1, j + 1, hy, hz => rw [h.apart i j y z (by simpa using hy) (by simpa using hz) b h1 h2]
  · rcases List.mem_cons.1 hy with rfl | hy
    · exact hnd
    · exact h'.nodup y hy
theorem Own.nil {w : World} {lo : Nat} : Own w lo (.slice none 0 0) [] := ⟨by simp, .inl ⟨rfl, rfl⟩⟩
theorem nodup_own (v : Value) : v.ownBlock.toList.Nodup := by cases v.ownBlock <;> simp
theorem St.pushOwn (h : St w0 w L) {v : Value} {l : List Int} (hb : Below w.heap.size w w') (ho : Own w' w.heap.size v l) : St w0 w' (.own v l :: L) :=
  h.push hb (Own.mono ho h.size) (fun b hb' => (ho.lt b (by simpa [It.fp] using hb')).1) (nodup_own v)
theorem St.pushRo (h : St w0 w L) {v : Value} {l : List Int} (hi : IntsB w w0.heap.size v l) : St w0 w (.ro v l :: L) :=
  h.push (Below.refl _ _) hi (fun b hb' => by simp [It.fp] at hb') (by simp [It.fp])
theorem St.pushFact (h : St w0 w L) {R : World → Prop} (hi : (It.fact R).ok w0.heap.size w) : St w0 w (.fact R :: L) :=
  h.push (Below.refl _ _) hi (fun b hb' => by simp [It.fp] at hb') (by simp [It.fp])
theorem St.box (h : St w0 w L) (vs : List Value) (t : TypeId) : St w0 (w.alloc (.cells vs.toArray t)) (.box w.heap.size vs :: L) :=
  h.push ((Below.refl _ _).alloc (Nat.le_refl _) _) ⟨h.size, t, heap_alloc_new w _⟩ (fun b hb' => by simp [It.fp] at hb'; omega) (by simp [It.fp])
theorem St.zeros (h : St w0 w L) (n : Nat) (hn : n ≤ 35184372088832) : St w0 (w.alloc (.cells (zeros n) 3)) (.own (.slice (some ⟨w.heap.size, 0, none⟩) n n) (List.replicate n 0) :: L) :=
  h.pushOwn ((Below.refl _ _).alloc (Nat.le_refl _) _) (Own.made hn (Nat.le_refl _))
theorem St.empty (h : St w0 w L) : St w0 (w.alloc (.cells #[] 3)) (.own (.slice (some ⟨w.heap.size, 0, none⟩) 0 0) [] :: L) :=
  h.pushOwn ((Below.refl _ _).alloc (Nat.le_refl _) _) (Own.empty (Nat.le_refl _))
theorem St.start (w : World) : St w w [] := ⟨Below.refl _ _, (fun x hx => by cases hx), (fun i j x y hx => by simp at hx), (fun x hx => by cases hx)⟩
theorem St.arg (h : St w w L) {v : Value} {l : List Int} (hi : Ints w v l) : St w w (.ro v l :: L) := h.pushRo hi.toB
theorem St.start1 {w : World} {v : Value} {l : List Int} (h : Ints w v l) : St w w [.ro v l] := (St.start w).arg h

/-- Other pieces out of the same. -/
theorem St.re (h : St w0 w L) (idx : List Nat) (hn : idx.Nodup) {L' : List It} (hL : ∀ j : Nat, L'[j]? = (idx[j]?).bind fun i => L[i]?) : St w0 w L' := by
  have key : ∀ (j : Nat) (x : It), L'[j]? = some x → ∃ i, idx[j]? = some i ∧ L[i]? = some x := fun j x hx => by
    rw [hL] at hx
    exact Option.bind_eq_some_iff.1 hx
  refine ⟨h.below, fun x hx => ?_, fun i j x y hx hy b h1 h2 => ?_, fun x hx => ?_⟩
  · obtain ⟨j, hj⟩ := List.getElem?_of_mem hx
    obtain ⟨i, _, hi⟩ := key j x hj
    exact h.at i hi
  · obtain ⟨i', a1, a2⟩ := key i x hx
    obtain ⟨j', c1, c2⟩ := key j y hy
    have e := h.apart i' j' x y a2 c2 b h1 h2
    subst e
    obtain ⟨p1, p2⟩ := List.getElem?_eq_some_iff.1 a1
    obtain ⟨q1, q2⟩ := List.getElem?_eq_some_iff.1 c1
    exact (List.getElem_inj hn).1 (p2.trans q2.symm)
  · obtain ⟨j, hj⟩ := List.getElem?_of_mem hx
    obtain ⟨i, _, hi⟩ := key j x hj
    exact h.nodup x (List.mem_of_getElem? hi)
theorem St.drop (h : St w0 w L) (k : Nat) : St w0 w (L.drop k) := by
  refine ⟨h.below, fun x hx => h.ok x (List.mem_of_mem_drop hx), fun i j x y hx hy b h1 h2 => ?_, fun x hx => h.nodup x (List.mem_of_mem_drop hx)⟩
  rw [List.getElem?_drop] at hx hy
  have := h.apart _ _ x y hx hy b h1 h2
  omega

/-- One piece changes; nothing but its blocks, and new ones. -/
theorem St.upd (h : St w0 w L) (i : Nat) {x x' : It} (hi : L[i]? = some x) (hsz : w.heap.size ≤ w'.heap.size) (hos : w'.os = w.os) (htp : w'.tape = w.tape) (hou : w'.output = w.output)
    (hk : ∀ b, b < w.heap.size → b ∉ x.fp → w'.heap[b]? = w.heap[b]?) (hok : x'.ok w0.heap.size w') (hfp : ∀ b ∈ x'.fp, b ∈ x.fp ∨ w.heap.size ≤ b) (hnd : x'.fp.Nodup) : St w0 w' (L.set i x') := by
  have hx := h.at i hi
  have hlt := It.ok_lt hx
  have old : ∀ b, b < w0.heap.size → w'.heap[b]? = w.heap[b]? := fun b hb => hk b (Nat.lt_of_lt_of_le hb h.size) fun hm => by have := (hlt b hm).1; omega
  have hil : i < L.length := (List.getElem?_eq_some_iff.1 hi).1
  have get : ∀ (j : Nat) (y : It), (L.set i x')[j]? = some y → (j = i ∧ y = x') ∨ (j ≠ i ∧ L[j]? = some y) := fun j y hy => by
    rw [List.getElem?_set] at hy
    by_cases e : i = j
    · subst e
      rw [if_pos rfl, if_pos hil] at hy
      exact .inl ⟨rfl, by simpa using hy.symm⟩
    · rw [if_neg e] at hy
      exact .inr ⟨fun e' => e e'.symm, hy⟩
  refine ⟨h.below.trans ⟨hos, htp, hou, hsz, old⟩, fun y hy => ?_, fun j k y z hy hz b h1 h2 => ?_, fun y hy => ?_⟩
  · obtain ⟨j, hj⟩ := List.getElem?_of_mem hy
    rcases get j y hj with ⟨_, rfl⟩ | ⟨hne, hj'⟩
    · exact hok
    · exact It.ok_same (h.at j hj') old fun b hb => hk b (It.ok_lt (h.at j hj') b hb).2 fun hm => hne (h.apart j i y x hj' hi b hb hm)
  · rcases get j y hy with ⟨rfl, rfl⟩ | ⟨hne, hj'⟩
    · rcases get k z hz with ⟨rfl, rfl⟩ | ⟨hne2, hk'⟩
      · rfl
      · rcases hfp b h1 with hm | hm
        · exact absurd (h.apart k j z x hk' hi b h2 hm) hne2
        · have := (It.ok_lt (h.at k hk') b h2).2; omega
    · rcases get k z hz with ⟨rfl, rfl⟩ | ⟨hne2, hk'⟩
      · rcases hfp b h2 with hm | hm
        · exact absurd (h.apart j k y x hj' hi b h1 hm) hne
        · have := (It.ok_lt (h.at j hj') b h1).2; omega
      · exact h.apart j k y z hj' hk' b h1 h2
  · obtain ⟨j, hj⟩ := List.getElem?_of_mem hy
    rcases get j y hj with ⟨_, rfl⟩ | ⟨hne, hj'⟩
    · exact hnd
    · exact h.nodup y (List.mem_of_getElem? hj')
theorem St.own (h : St w0 w L) (i : Nat) {v : Value} {l : List Int} (hi : L[i]? = some (.own v l)) : Own w w0.heap.size v l := h.at i hi
theorem St.ownInts (h : St w0 w L) (i : Nat) {v : Value} {l : List Int} (hi : L[i]? = some (.own v l)) : Ints w v l := (h.own i hi).ints
theorem St.ro (h : St w0 w L) (i : Nat) {v : Value} {l : List Int} (hi : L[i]? = some (.ro v l)) : IntsB w w0.heap.size v l := h.at i hi
theorem St.roInts (h : St w0 w L) (i : Nat) {v : Value} {l : List Int} (hi : L[i]? = some (.ro v l)) : Ints w v l := (h.ro i hi).ints
theorem St.roUp (h : St w0 w L) (i : Nat) {v : Value} {l : List Int} (hi : L[i]? = some (.ro v l)) : IntsB w w.heap.size v l := (h.ro i hi).ints.toB
theorem St.fact (h : St w0 w L) (i : Nat) {R : World → Prop} (hi : L[i]? = some (.fact R)) : R w := (h.at i hi : It.ok _ _ (.fact R)) w fun _ _ => rfl
theorem St.cell (h : St w0 w L) (i : Nat) {b : Nat} {vs : List Value} (hi : L[i]? = some (.box b vs)) (k : Nat) {v : Value} (hv : vs[k]? = some v) : w.cell? ⟨b, k, none⟩ = some v := by
  obtain ⟨_, t, ht⟩ := h.at i hi
  rw [cell_of_row w b k vs.toArray t (0, 0) ht]
  simpa using hv
theorem St.free (h : St w0 w L) (i : Nat) {b : Nat} {vs : List Value} (hi : L[i]? = some (.box b vs)) (k : Nat) : w.frozen? ⟨b, k, none⟩ = false := by
  obtain ⟨_, t, ht⟩ := h.at i hi
  exact frozen_of_row w b k vs.toArray t ht
theorem St.boxLt (h : St w0 w L) (i : Nat) {b : Nat} {vs : List Value} (hi : L[i]? = some (.box b vs)) : w0.heap.size ≤ b ∧ b < w.heap.size := It.ok_lt (h.at i hi) b (by simp [It.fp])
theorem St.box1 (h : St w0 w L) (i : Nat) {b : Nat} {x : Value} (hi : L[i]? = some (.box b [x])) : w.cell? ⟨b, 0, none⟩ = some x := h.cell i hi 0 rfl
theorem St.box3 (h : St w0 w L) (i : Nat) {b : Nat} {x y z : Value} (hi : L[i]? = some (.box b [x, y, z])) : w.cell? ⟨b, 0, none⟩ = some x ∧ w.cell? ⟨b, 1, none⟩ = some y ∧ w.cell? ⟨b, 2, none⟩ = some z :=
  ⟨h.cell i hi 0 rfl, h.cell i hi 1 rfl, h.cell i hi 2 rfl⟩
theorem St.box4 (h : St w0 w L) (i : Nat) {b : Nat} {x y z u : Value} (hi : L[i]? = some (.box b [x, y, z, u])) : w.cell? ⟨b, 0, none⟩ = some x ∧ w.cell? ⟨b, 1, none⟩ = some y ∧ w.cell? ⟨b, 2, none⟩ = some z ∧ w.cell? ⟨b, 3, none⟩ = some u :=
  ⟨h.cell i hi 0 rfl, h.cell i hi 1 rfl, h.cell i hi 2 rfl, h.cell i hi 3 rfl⟩

/-- A store into a box. -/
theorem St.setBox (h : St w0 w L) (i : Nat) {b : Nat} {vs : List Value} (hi : L[i]? = some (.box b vs)) (k : Nat) (u : Value) : St w0 (w.setCell ⟨b, k, none⟩ u) (L.set i (.box b (vs.set k u))) := by
  obtain ⟨h1, t, ht⟩ := h.at i hi
  refine h.upd i hi (by simp) rfl rfl rfl (fun b' _ hn => heap_setCell_other w ⟨b, k, none⟩ b' u (fun e => hn (by simp [It.fp, e]))) ⟨h1, t, ?_⟩ (fun b' hb => .inl hb) (by simp [It.fp])
  rw [heap_setCell_same w b k vs.toArray t u ht]
  simp
/-- A store into numbers of the call's own. -/
theorem St.set (h : St w0 w L) (i : Nat) {g n c : Nat} {l : List Int} (hi : L[i]? = some (.own (.slice (some ⟨g, 0, none⟩) n c) l)) (k : Nat) (x : Int) :
    St w0 (w.setCell ⟨g, k, none⟩ (.int .i64 x)) (L.set i (.own (.slice (some ⟨g, 0, none⟩) n c) (l.set k x))) := by
  obtain ⟨ho, hg⟩ := (h.own i hi).set k x
  exact h.upd i hi hg.size hg.os hg.tape hg.output (fun b hb hn => hg.block b hb (fun e => hn (by simp at e; simp [It.fp, Value.ownBlock, e]))) ho (fun b hb => .inl hb) (by simp [It.fp, Value.ownBlock])
/-- A call has written numbers of the call's own; or an append. -/
theorem St.grown (h : St w0 w L) (i : Nat) {v v' : Value} {l l' : List Int} (hi : L[i]? = some (.own v l)) (ho : Own w' w0.heap.size v' l') (hg : w.grownBy w' v.ownBlock)
    (hv : ∀ b, v'.ownBlock = some b → v.ownBlock = some b ∨ w.heap.size ≤ b) : St w0 w' (L.set i (.own v' l')) :=
  h.upd i hi hg.size hg.os hg.tape hg.output (fun b hb hn => hg.block b hb (fun e => hn (by simp [It.fp, ← e]))) ho (fun b hb => by
    have := hv b (by simpa [It.fp] using hb)
    rcases this with e | e
    · exact .inl (by simp [It.fp, e])
    · exact .inr e) (nodup_own _)
theorem St.wrote (h : St w0 w L) (i : Nat) {v : Value} {l l' : List Int} (hi : L[i]? = some (.own v l)) (ho : Own w' w0.heap.size v l') (hg : w.grownBy w' v.ownBlock) : St w0 w' (L.set i (.own v l')) :=
  h.grown i hi ho hg fun _ hb => .inl hb
theorem St.appended (h : St w0 w L) (i : Nat) {v v' : Value} {l l' : List Int} (hi : L[i]? = some (.own v l)) (ho : Own w' w0.heap.size v' l') (hg : w.grownBy w' v.ownBlock)
    (hv : v'.ownBlock = v.ownBlock ∨ v'.ownBlock = some w.heap.size) : St w0 w' (L.set i (.own v' l')) :=
  h.grown i hi ho hg fun b hb => by
    rcases hv with e | e
    · exact .inl (e ▸ hb)
    · rw [e] at hb
      have := Option.some.inj hb
      exact .inr (by omega)
/-- A region that draws its order and only reads, but for a tail in one forced order. -/
theorem St.region_tail {P : Program} {id : Nat} {Q : Exit → Act → World → Prop} {a : Act} {l : List Oper} (h : St w0 w L) (n : Nat) (hm : P.follows .mixedOrders = true) (hB : Region.lexTailB .any l.toArray n = true)
    (H : wpQuiet P l.toArray (fun w' => St w0 w' L) (fun a' => ∀ w', St w0 w' L → wpList P l.toArray Q (l.drop n) a' w') (l.take n) a) : (Code.region id l.toArray true).wp P Q a w :=
  wp_region_tail (fun w' => St w0 w' L) n hm hB (h.draws 1) H
theorem St.region_all {P : Program} {id : Nat} {Q : Exit → Act → World → Prop} {a : Act} {l : List Oper} (h : St w0 w L) (hm : P.follows .mixedOrders = true) (hB : Region.lexB .any l.toArray = true)
    (H : wpQuiet P l.toArray (fun w' => St w0 w' L) (fun a' => ∀ w', St w0 w' L → Q .normal a' w') l a) : (Code.region id l.toArray true).wp P Q a w :=
  wp_region_all (fun w' => St w0 w' L) hm hB (h.draws 1) H
/-- The blocks of two pieces are not one. -/
theorem St.ne (h : St w0 w L) (i j : Nat) {x y : It} (hi : L[i]? = some x) (hj : L[j]? = some y) (hij : i ≠ j) {b : Nat} (h1 : b ∈ x.fp) : b ∉ y.fp := fun h2 => hij (h.apart i j x y hi hj b h1 h2)
/-- What is read alone stays outside of the call's own blocks. -/
theorem St.roRead (h : St w0 w L) (i : Nat) {v : Value} {l : List Int} (hi : L[i]? = some (.ro v l)) : IntsB w w0.heap.size v l := h.ro i hi
end
end Go.Proofs.Ytngmepodgbhbpaa
