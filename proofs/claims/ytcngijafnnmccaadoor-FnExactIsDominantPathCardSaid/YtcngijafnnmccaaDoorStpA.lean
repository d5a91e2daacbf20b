/- Slices of steps (a way and a length): memory, and the laws' helpers on them. -/
import Derived.Test.YtcngijafnnmccaaDoorStB
import Derived.Test.YtcngijafnnmccaaDoorLawB
import Derived.Test.YtcngijafnnmccaaDoorCarS
namespace Go.Proofs.YtcngijafnnmccaaDoor
set_option maxRecDepth 100000
open Go.RowKit
namespace Stp

/-- A step as it reads. -/
structure Sg where
  d : List Int
  n : Int

def cells : List Value → List Sg → List Value
  | u :: us, m :: ms => u :: .int .i64 m.n :: cells us ms
  | _, _ => []
theorem length_cells : ∀ (us : List Value) (ms : List Sg), us.length = ms.length → (cells us ms).length = ms.length * 2
  | [], [], _ => rfl
  | u :: us, m :: ms, h => by simp only [cells, List.length_cons]; rw [length_cells us ms (by simpa using h)]; omega
theorem cells_get : ∀ (us : List Value) (ms : List Sg) (i : Nat) (u : Value) (m : Sg), us[i]? = some u → ms[i]? = some m →
    (cells us ms)[i * 2]? = some u ∧ (cells us ms)[i * 2 + 1]? = some (.int .i64 m.n)
  | [], _, _, _, _, h, _ => by simp at h
  | _ :: _, [], _, _, _, _, h => by simp at h
  | u :: us, m :: ms, 0, u', m', h, h' => by
    simp only [List.getElem?_cons_zero, Option.some.injEq] at h h'
    subst h; subst h'
    exact ⟨rfl, rfl⟩
  | u :: us, m :: ms, i + 1, u', m', h, h' => by
    have := cells_get us ms i u' m' (by simpa using h) (by simpa using h')
    have e : (i + 1) * 2 = i * 2 + 2 := by omega
    simp only [cells, e, Nat.add_right_comm _ 2, List.getElem?_cons_succ]
    exact this
theorem cells_snoc : ∀ (us : List Value) (ms : List Sg) (u : Value) (m : Sg), us.length = ms.length → cells (us ++ [u]) (ms ++ [m]) = cells us ms ++ [u, .int .i64 m.n]
  | [], [], _, _, _ => rfl
  | a :: us, b :: ms, u, m, h => by simp only [List.cons_append, cells]; rw [cells_snoc us ms u m (by simpa using h)]

def stIt (v : Value) (us : List Value) (ms : List Sg) : It := .vec v 55 2 ms.length (cells us ms) (us.zip (ms.map Sg.d))

/-- A slice of steps that is read. -/
def StR (w : World) (v : Value) (ms : List Sg) : Prop :=
  ∃ A c, v = .slice A ms.length c ∧ ms.length ≤ c ∧ c ≤ 9223372036854775807 ∧
    (0 < ms.length → ∃ b off, A = some ⟨b, off, none⟩ ∧ ∀ (i : Nat) (m : Sg), ms[i]? = some m → (∃ u, w.cell? ⟨b, off + i * 2, none⟩ = some u ∧ Ints w u m.d) ∧ w.cell? ⟨b, off + i * 2 + 1, none⟩ = some (.int .i64 m.n))
theorem zipGet {us : List Value} {ls : List (List Int)} {i : Nat} {u : Value} {l : List Int} (h1 : us[i]? = some u) (h2 : ls[i]? = some l) : (us.zip ls)[i]? = some (u, l) := by
  rw [List.getElem?_zip_eq_some]; exact ⟨h1, h2⟩
theorem It.steps {B : Nat} {w : World} {v : Value} {us : List Value} {ms : List Sg} (h : (stIt v us ms).ok B w) (hl : us.length = ms.length) : StR w v ms := by
  obtain ⟨h1, h2⟩ := h
  rcases id h1.2 with ⟨rfl, h0⟩ | ⟨g, cap, cur, rfl, hb, hg, hn, hm, _⟩
  · obtain rfl : ms = [] := List.eq_nil_of_length_eq_zero h0
    exact ⟨none, 0, rfl, by simp, by simp, fun h => by simp at h⟩
  · refine ⟨_, cap, rfl, hn, by simpa [maxLen] using hm, fun _ => ⟨g, 0, rfl, fun i m hi => ?_⟩⟩
    have hil := (List.getElem?_eq_some_iff.1 hi).1
    have hu : us[i]? = some (us[i]'(by omega)) := List.getElem?_eq_getElem _
    obtain ⟨k0, k1⟩ := cells_get us ms i _ m hu hi
    have at_ : ∀ k, k < 2 → w.cell? ⟨g, 0 + i * 2 + k, none⟩ = (cells us ms)[i * 2 + k]? := fun k hk => by
      rw [Nat.zero_add]; exact World.ownsRow.cellAt h1 _ (by omega)
    refine ⟨⟨_, by rw [show 0 + i * 2 = 0 + i * 2 + 0 from rfl, at_ 0 (by omega)]; exact k0, ?_⟩, (at_ 1 (by omega)).trans k1⟩
    exact Own.ints (h2 (us[i]'(by omega), m.d) (List.mem_of_getElem? (zipGet hu (by rw [List.getElem?_map, hi]; rfl))))
theorem StR.keep {w w' : World} {v : Value} {ms : List Sg} (h : StR w v ms) (hk : ∀ p : Addr, p.block < w.heap.size → w'.cell? p = w.cell? p) : StR w' v ms := by
  obtain ⟨A, c, rfl, h1, h2, h3⟩ := h
  refine ⟨A, c, rfl, h1, h2, fun hl => ?_⟩
  obtain ⟨b, off, rfl, hc⟩ := h3 hl
  refine ⟨b, off, rfl, fun i m hi => ?_⟩
  obtain ⟨⟨u, k3, k4⟩, k1⟩ := hc i m hi
  have kk : ∀ {o : Nat} {x : Value}, w.cell? ⟨b, o, none⟩ = some x → w'.cell? ⟨b, o, none⟩ = some x := fun h => (hk _ (World.block_lt_of_cell? w _ h)).trans h
  exact ⟨⟨u, kk k3, k4.keep hk⟩, kk k1⟩
theorem StR.below {w w' : World} {v : Value} {ms : List Sg} (h : StR w v ms) (hb : Below w.heap.size w w') : StR w' v ms := h.keep fun _ hp => hb.cell hp
theorem StR.fact {w : World} {v : Value} {ms : List Sg} (h : StR w v ms) : It.ok w.heap.size w (.fact fun w' => StR w' v ms) := fun _ hk => h.keep fun p hp => World.cell?_of_block (hk p.block hp)
/-- One step of such a slice. -/
def SgAt (w : World) (b o : Nat) (m : Sg) (u : Value) : Prop :=
  w.cell? ⟨b, o, none⟩ = some u ∧ w.cell? ⟨b, o + 1, none⟩ = some (.int .i64 m.n) ∧ Ints w u m.d
theorem SgAt.fact {w : World} {b o : Nat} {m : Sg} {u : Value} (h : SgAt w b o m u) : It.ok w.heap.size w (.fact fun w' => SgAt w' b o m u) := fun w' hk => by
  have kk : ∀ {o : Nat} {x : Value}, w.cell? ⟨b, o, none⟩ = some x → w'.cell? ⟨b, o, none⟩ = some x := fun h => (World.cell?_of_block (hk _ (World.block_lt_of_cell? w _ h))).trans h
  exact ⟨kk h.1, kk h.2.1, h.2.2.keep fun p hp => World.cell?_of_block (hk p.block hp)⟩
theorem StR.at {w : World} {A : Option Addr} {n c : Nat} {ms : List Sg} (h : StR w (.slice A n c) ms) {i : Nat} (hi : i < ms.length) :
    ∃ b off A' c', A = some ⟨b, off, none⟩ ∧ SgAt w b (off + i * 2) ms[i] (.slice A' ms[i].d.length c') := by
  obtain ⟨A', c', he, _, _, h3⟩ := h
  simp only [Value.slice.injEq] at he
  obtain ⟨rfl, _, rfl⟩ := he
  obtain ⟨b, off, rfl, hc⟩ := h3 (by omega)
  obtain ⟨⟨u, k3, k4⟩, k1⟩ := hc i ms[i] (List.getElem?_eq_getElem hi)
  obtain ⟨A2, c2, rfl, _⟩ := id k4
  exact ⟨b, off, A2, c2, rfl, k3, k1, k4⟩

/-- What a function leaves that returns a slice of steps. -/
def RetSs (w : World) (ms : List Sg) (e : Ending) (w' : World) : Prop := ∃ v us, e = .returned v ∧ us.length = ms.length ∧ It.ok w.heap.size w' (stIt v us ms) ∧ (stIt v us ms).fp.Nodup ∧ Below w.heap.size w w'
section
variable {w0 w : World} {L : List It}
theorem _root_.Go.Proofs.YtcngijafnnmccaaDoor.St.steps (h : St w0 w L) (i : Nat) {v : Value} {us : List Value} {ms : List Sg} (hi : L[i]? = some (stIt v us ms)) (hl : us.length = ms.length) : StR w v ms := It.steps (h.at i hi) hl
theorem _root_.Go.Proofs.YtcngijafnnmccaaDoor.St.pushSteps (h : St w0 w L) {w' : World} {v : Value} {us : List Value} {ms : List Sg} (hb : Below w.heap.size w w') (hok : It.ok w.heap.size w' (stIt v us ms)) (hnd : (stIt v us ms).fp.Nodup) : St w0 w' (stIt v us ms :: L) := h.pushVec hb hok hnd
theorem vecNil {B : Nat} {w : World} {e sz : Nat} : It.ok B w (.vec (.slice none 0 0) e sz 0 [] []) := ⟨World.ownsRow_nil w B e sz, fun s hs => by cases hs⟩
theorem _root_.Go.Proofs.YtcngijafnnmccaaDoor.St.emptySteps (h : St w0 w L) : St w0 (w.alloc (.cells #[] 55)) (stIt (.slice (some ⟨w.heap.size, 0, none⟩) 0 0) [] [] :: L) :=
  h.push (x := stIt (.slice (some ⟨w.heap.size, 0, none⟩) 0 0) [] []) ((Below.refl _ _).alloc (Nat.le_refl _) _) ⟨World.ownsRow_lit (base := w0.heap.size) (e := 55) (size := 2) w #[] 0 h.size (by simp) rfl, fun s hs => by cases hs⟩ (fun b hb => by simp [stIt, It.fp, Value.ownBlock] at hb; omega) (by simp [stIt, It.fp, Value.ownBlock])
theorem infoP : (Tryd.prog.info? 55).map (fun i => (i.zero, i.size, i.bytes)) = some (some (.agg #[.slice none 0 0, .int .i64 0]), 2, 32) := by kernel_rfl
/-- append of a step whose way is the call's own. -/
theorem wp_append_step {ops : Array Oper} {rest : List Oper} {o : Oper} {a : Act} {Q : Exit → Act → World → Prop} (hgd : o.guard = none) (s x : Operand)
    (ho : o.op = .call { callee := .builtin .append, args := #[s, x], argTypes := #[35, 35] }) {u v : Value} (m : Sg) {us : List Value} {ms : List Sg} (h : St w0 w (.own u m.d :: L)) (j : Nat) (hj : L[j]? = some (stIt v us ms)) (hul : us.length = ms.length)
    (hs : a.eval s = v) (hx : a.eval x = .slice (some ⟨w.heap.size, 0, none⟩) 1 1) (hlen : ms.length + 1 ≤ 1099511627776)
    (hk : ∀ v' w', St w0 w' (L.set j (stIt v' (us ++ [u]) (ms ++ [m]))) → wpList Tryd.prog ops Q rest (a.put o.dst v') w') : wpList Tryd.prog ops Q (o :: rest) a (w.alloc (.cells #[u, .int .i64 m.n] 55)) := by
  obtain ⟨i, h1, h2, h3, h4⟩ := info_parts infoP
  have hab := h.absorb j hj
  have hil : j < L.length := (List.getElem?_eq_some_iff.1 hj).1
  have ho' : Own w w0.heap.size u m.d := h.own 0 rfl
  refine wp_append_vec hgd s x 35 55 2 32 i _ ho Tryd.underlying35 h1 h2 h3 h4 rfl (by decide) hab j (by rw [List.getElem?_set_self hil]) [u, .int .i64 m.n] rfl (by
    intro y hy
    simp only [List.mem_cons, List.not_mem_nil, or_false] at hy
    rcases hy with rfl | rfl
    · exact ho'.one
    · rfl) hs hx (by simp only [maxLen]; omega) (by omega) fun v' w' hst => hk v' w' ?_
  rw [List.set_set] at hst
  have e : stIt v' (us ++ [u]) (ms ++ [m]) = .vec v' 55 2 (ms.length + 1) (cells us ms ++ [u, .int .i64 m.n]) (us.zip (ms.map Sg.d) ++ [(u, m.d)]) := by
    unfold stIt; rw [cells_snoc us ms u m hul, List.map_append, List.zip_append (by simpa using hul)]; simp
  rw [e]; exact hst
end

def dLen : List Sg → Nat
  | [] => 0
  | m :: ms => m.d.length + dLen ms
def szSs (ms : List Sg) : Nat := ms.length + dLen ms
theorem dLen_take : ∀ (ms : List Sg) (i : Nat) (h : i < ms.length), dLen (ms.take (i + 1)) = dLen (ms.take i) + ms[i].d.length
  | m :: ms, 0, _ => by simp [dLen]
  | m :: ms, i + 1, h => by
    simp only [List.take_succ_cons, dLen, List.getElem_cons_succ]
    rw [dLen_take ms i (by simpa using h)]; omega
theorem dLen_le : ∀ (ms : List Sg) (i : Nat), dLen (ms.take i) ≤ dLen ms
  | [], i => by simp
  | m :: ms, 0 => by simp [dLen]
  | m :: ms, i + 1 => by simp only [List.take_succ_cons, dLen]; have := dLen_le ms i; omega
theorem dLen_mem (ms : List Sg) (i : Nat) (h : i < ms.length) : dLen (ms.take i) + ms[i].d.length ≤ dLen ms := by
  rw [← dLen_take ms i h]; exact dLen_le ms _
def markSs (k : Int) : List Sg → List Sg
  | [] => []
  | m :: ms => ⟨marks k m.d.length, k + (m.d.length : Nat)⟩ :: markSs (k + 1 + (m.d.length : Nat)) ms
def markSsLen (ms : List Sg) : Nat := ms.length + dLen ms
/-- The number of the mark at step i. -/
def kAt (ms : List Sg) (i : Nat) : Nat := i + dLen (ms.take i)
theorem length_markSs : ∀ (ms : List Sg) (k : Int), (markSs k ms).length = ms.length
  | [], _ => rfl
  | m :: ms, k => by simp [markSs, length_markSs ms]
theorem markSs_get : ∀ (ms : List Sg) (k : Int) (i : Nat) (h : i < ms.length), (markSs k ms)[i]? = some ⟨marks (k + (kAt ms i : Nat)) ms[i].d.length, k + (kAt ms i : Nat) + (ms[i].d.length : Nat)⟩
  | m :: ms, k, 0, _ => by simp [markSs, kAt, dLen]
  | m :: ms, k, i + 1, h => by
    have := markSs_get ms (k + 1 + (m.d.length : Nat)) i (by simpa using h)
    simp only [markSs, List.getElem?_cons_succ, this, List.getElem_cons_succ]
    have e : k + 1 + (m.d.length : Nat) + (kAt ms i : Nat) = k + (kAt (m :: ms) (i + 1) : Nat) := by
      simp only [kAt, List.take_succ_cons, dLen]; omega
    rw [e]
theorem kAt_succ (ms : List Sg) (i : Nat) (h : i < ms.length) : kAt ms (i + 1) = kAt ms i + 1 + ms[i].d.length := by
  unfold kAt; rw [dLen_take ms i h]; omega
theorem kAt_end (ms : List Sg) : kAt ms ms.length = markSsLen ms := by unfold kAt markSsLen; rw [List.take_length]
theorem kAt_le (ms : List Sg) (i : Nat) (h : i ≤ ms.length) : kAt ms i ≤ markSsLen ms := by unfold kAt markSsLen; have := dLen_le ms i; omega
/-- The first i steps marked. -/
def markSsTo (k : Int) (ms : List Sg) (i : Nat) : List Sg := (markSs k ms).take i ++ ms.drop i
theorem markSsTo_zero (k : Int) (ms : List Sg) : markSsTo k ms 0 = ms := by simp [markSsTo]
theorem markSsTo_end (k : Int) (ms : List Sg) : markSsTo k ms ms.length = markSs k ms := by
  rw [markSsTo, List.drop_length, List.append_nil, List.take_of_length_le (by rw [length_markSs]; exact Nat.le_refl _)]
theorem length_markSsTo (k : Int) (ms : List Sg) (i : Nat) (h : i ≤ ms.length) : (markSsTo k ms i).length = ms.length := by
  simp [markSsTo, length_markSs]; omega
theorem markSsTo_get (k : Int) (ms : List Sg) (i j : Nat) (h : i ≤ ms.length) : (markSsTo k ms i)[j]? = if j < i then (markSs k ms)[j]? else ms[j]? := by
  unfold markSsTo
  rw [List.getElem?_append]
  simp only [List.length_take, length_markSs, Nat.min_eq_left h]
  split
  · rw [List.getElem?_take, if_pos (by assumption)]
  · rw [List.getElem?_drop]; congr 1; omega
theorem markSsTo_set (k : Int) (ms : List Sg) (i : Nat) (h : i < ms.length) :
    (markSsTo k ms i).set i ⟨marks (k + (kAt ms i : Nat)) ms[i].d.length, k + (kAt ms i : Nat) + (ms[i].d.length : Nat)⟩ = markSsTo k ms (i + 1) := by
  apply List.ext_getElem?
  intro j
  rw [List.getElem?_set, markSsTo_get k ms i j (by omega), markSsTo_get k ms (i + 1) j (by omega), length_markSsTo k ms i (by omega)]
  by_cases e : i = j
  · subst e
    rw [if_pos rfl, if_pos h, if_pos (by omega), markSs_get ms k i h]
  · rw [if_neg e]
    by_cases h1 : j < i
    · rw [if_pos h1, if_pos (by omega)]
    · rw [if_neg h1, if_neg (by omega)]

theorem cells_set1 (us : List Value) (ms : List Sg) (i : Nat) (hl : us.length = ms.length) (hi : i < ms.length) (a : Int) (d : List Int) :
    (cells us ms).set (i * 2 + 1) (.int .i64 a) = cells us (ms.set i ⟨d, a⟩) := by
  induction ms generalizing us i with
  | nil => simp at hi
  | cons m ms ih =>
    match us, hl with
    | u :: us, hl =>
      cases i with
      | zero => simp [cells]
      | succ i =>
        have e : (i + 1) * 2 + 1 = i * 2 + 1 + 2 := by omega
        simp only [cells, e, List.set_cons_succ]
        rw [ih us i (by simpa using hl) (by simpa using hi)]
/-- The way alone changes: the cells stay. -/
theorem cells_way (us : List Value) (ms : List Sg) (i : Nat) (d : List Int) (hi : i < ms.length) : cells us (ms.set i ⟨d, ms[i].n⟩) = cells us ms := by
  induction ms generalizing us i with
  | nil => simp at hi
  | cons m ms ih =>
    match us with
    | [] => simp [cells]
    | u :: us =>
      cases i with
      | zero => simp [cells]
      | succ i =>
        simp only [List.set_cons_succ, cells, List.getElem_cons_succ]
        rw [ih us i (by simpa using hi)]
theorem zipSet {us : List Value} {ms : List Sg} {i : Nat} {u : Value} (hu : us[i]? = some u) (m : Sg) : (us.zip (ms.map Sg.d)).set i (u, m.d) = us.zip ((ms.set i m).map Sg.d) := by
  induction ms generalizing us i with
  | nil => simp
  | cons y ms ih =>
    match us, hu with
    | x :: us, hu =>
      cases i with
      | zero =>
        simp only [List.getElem?_cons_zero, Option.some.injEq] at hu
        subst hu; simp
      | succ i =>
        simp only [List.map_cons, List.zip_cons_cons, List.set_cons_succ]
        rw [ih (by simpa using hu)]
/-- A struct of a slice of numbers and a number is returned. -/
def RetSg (w : World) (a0 : Int) (l : List Int) (e : Ending) (w' : World) : Prop := ∃ u, e = .returned (.agg #[u, .int .i64 a0]) ∧ Own w' w.heap.size u l ∧ Below w.heap.size w w'

set_option maxHeartbeats 400000 in
theorem toStep_any (a0 : Int) (t : Value) (l : List Int) (w : World) (ht : Ints w t l) (hl : l.length ≤ 35184372088832) :
    Calls Tryd.prog 43 #[.agg #[t, .int .i64 a0]] w (RetSg w a0 l) := by
  have h0 := St.start1 ht
  have h1 := h0.box [t, .int .i64 a0] 52
  have h2 := (h1.box [.slice none 0 0, .int .i64 0] 55).box [.slice none 0 0, .int .i64 0] 55
  simp only [World.size_alloc] at h2
  obtain ⟨A, c, rfl, _, _, _⟩ := id ht
  have hc := fun W (hi : Ints W (.slice A l.length c) l) => toIntS_any _ l W hi hl
  have Hc := Lib.hid hc
  clear hc ht hl
  obtain ⟨x0, x1⟩ := (h1.box2 0 rfl)
  obtain ⟨x2, x3⟩ := (h2.box2 2 rfl)
  go_enter Tryd.func43, Tryd.ntmps43
  go_wp2_with fail
  refine (Hc.out _ (h2.roInts 3 rfl)).mono ?_
  rintro e w1 ⟨u, rfl, ho, hb⟩
  obtain ⟨A1, c1, rfl, _, _, _⟩ := id ho.ints
  have h3 := h2.pushOwn hb ho
  obtain ⟨z0, z1⟩ := h3.box2 1 rfl
  have zf := h3.free 1 rfl 0
  have zf1 := h3.free 1 rfl 1
  have zl := (h3.boxLt 1 rfl).2
  obtain ⟨y0, y1⟩ := h3.box2 2 rfl
  obtain ⟨y2, y3⟩ := h3.box2 3 rfl
  have f0 := h3.free 2 rfl 0
  have f1 := h3.free 2 rfl 1
  have h4 := (h3.setBox 1 rfl 0 (.slice A1 l.length c1))
  replace h4 := h4.setBox 1 rfl 1 (.int .i64 a0)
  replace h4 := h4.setBox 2 rfl 0 (.slice A1 l.length c1)
  replace h4 := h4.setBox 2 rfl 1 (.int .i64 a0)
  clear hb ho h3
  obtain ⟨r0, r1⟩ := h4.box2 2 rfl
  go_wp2
  refine bodyPost_ret (v := .agg #[.slice A1 l.length c1, .int .i64 a0]) (by simp [results, Tryd.results43, go_sem, r0, r1]) rfl ⟨_, rfl, h4.own 0 rfl, h4.below⟩

theorem szStep_yes (a0 left : Int) (t : Value) (l : List Int) (w : World) (ht : Ints w t l) (h : (l.length : Int) ≤ left) (hl : left ≤ 1048576) :
    Calls Tryd.prog 38 #[.agg #[t, .int .i64 a0], .int .i64 left] w fun e w' => e = .returned (.int .i64 (left - l.length)) ∧ Below w.heap.size w w' := by
  have h1 := (St.start1 ht).box [t, .int .i64 a0] 52
  obtain ⟨A, c, rfl, _, _, _⟩ := id ht
  clear ht
  obtain ⟨c0, c1⟩ := h1.box2 0 rfl
  go_enter Tryd.func38, Tryd.ntmps38
  go_wp2_with (go_at_call 37; refine (szIntS_yes _ _ l _ (h1.roInts 1 rfl) h hl).mono ?_; rintro e wn ⟨rfl, rfl⟩)
  go_ret
  exact ⟨rfl, h1.below⟩
theorem szStep_no (a0 left : Int) (t : Value) (l : List Int) (w : World) (ht : Ints w t l) (h : left < (l.length : Int)) (hl : left ≤ 1048576) (h0 : 0 ≤ left) :
    Calls Tryd.prog 38 #[.agg #[t, .int .i64 a0], .int .i64 left] w fun e w' => e = .returned (.int .i64 (-1)) ∧ Below w.heap.size w w' := by
  have h1 := (St.start1 ht).box [t, .int .i64 a0] 52
  obtain ⟨A, c, rfl, _, _, _⟩ := id ht
  clear ht
  obtain ⟨c0, c1⟩ := h1.box2 0 rfl
  go_enter Tryd.func38, Tryd.ntmps38
  go_wp2_with (go_at_call 37; refine (szIntS_no _ _ l _ (h1.roInts 1 rfl) h hl h0).mono ?_; rintro e wn ⟨rfl, rfl⟩)
  go_ret
  exact ⟨rfl, h1.below⟩
set_option maxHeartbeats 400000 in
theorem eqStep_same (a0 : Int) (t u : Value) (l : List Int) (w : World) (ht : Ints w t l) (hu : Ints w u l) :
    Calls Tryd.prog 48 #[.agg #[t, .int .i64 a0], .agg #[u, .int .i64 a0]] w fun e w' => e = .returned (.bool true) ∧ Below w.heap.size w w' := by
  have h1 := ((((St.start w).arg ht).arg hu).box [t, .int .i64 a0] 55).box [u, .int .i64 a0] 55
  simp only [World.size_alloc] at h1
  obtain ⟨A, c, rfl, _, _, _⟩ := id ht
  obtain ⟨B, d, rfl, _, _, _⟩ := id hu
  clear ht hu
  obtain ⟨c0, c1⟩ := h1.box2 1 rfl
  obtain ⟨d0, d1⟩ := h1.box2 0 rfl
  have he : decide (l = l) = true := by simp
  go_enter Tryd.func48, Tryd.ntmps48
  go_wp2_with fail
  refine (eqIntS_any _ _ l l _ (h1.roInts 3 rfl) (h1.roInts 2 rfl)).mono ?_
  rintro e wn ⟨rfl, nd, rfl⟩
  replace h1 := h1.drewN nd
  clear c0 c1 d0 d1
  obtain ⟨c0, c1⟩ := h1.box2 1 rfl
  obtain ⟨d0, d1⟩ := h1.box2 0 rfl
  go_wp2
  go_ret
  exact ⟨rfl, h1.below⟩
set_option maxHeartbeats 400000 in
theorem szStepS_yes (left : Int) (v : Value) (ms : List Sg) (w : World) (hv : StR w v ms) (h : ((szSs ms : Nat) : Int) ≤ left) (hl : left ≤ 1048576) :
    Calls Tryd.prog 13 #[v, .int .i64 left] w fun e w' => e = .returned (.int .i64 (left - (szSs ms : Nat))) ∧ Below w.heap.size w w' := by
  have h1 := St.start w
  obtain ⟨A, c, rfl, _, _, g3⟩ := id hv
  have HV := Lib.hid hv
  clear hv g3
  have hb : ms.length ≤ 1048576 := by unfold szSs at h; omega
  have h2 : 0 ≤ left - ms.length := by unfold szSs at h; omega
  have HS := Lib.hid (show left - ms.length - (dLen ms : Nat) = left - (szSs ms : Nat) by unfold szSs; omega)
  have hd : ((dLen ms : Nat) : Int) ≤ left - ms.length := by unfold szSs at h; omega
  clear h
  go_enter Tryd.func13, Tryd.ntmps13
  go_wp2
  go_loopw [1, 5] (fun vl vi wr => ∃ i : Nat, vi = .int .i64 i ∧ i ≤ ms.length ∧ vl = .int .i64 (left - ms.length - (dLen (ms.take i) : Nat)) ∧ St w wr []) (fun _ vi _ => ms.length - (intOf vi).toNat)
  case atStart => exact ⟨0, rfl, by omega, by simp [dLen], h1⟩
  case round =>
    clear h1
    obtain ⟨i, rfl, a1, rfl, h1⟩ := hrel
    by_cases hi : i < ms.length
    · have hm := dLen_mem ms i hi
      have HT := Lib.hid (dLen_take ms i hi)
      have i1 : (i : Int) < ms.length := by omega
      obtain ⟨b, off, A9, c9, rfl, hm⟩ := HV.out.at (i := i) hi
      have h2 := h1.pushOld hm.fact
      obtain ⟨z0, z1, z4⟩ := h2.fact 0 rfl
      clear hm
      clear h2
      go_wp2_with fail
      refine (szStep_yes _ _ _ ms[i].d _ z4 (by omega) (by omega)).mono ?_
      rintro e wn ⟨rfl, hb1⟩
      replace h1 := h1.on hb1
      clear hb1
      go_wp2
      go_roundw
      case rel => exact ⟨i + 1, by go_num, by omega, by rw [HT.out]; go_num, h1⟩
      case measure => simp [intOf]; omega
    · obtain rfl : i = ms.length := by omega
      rw [List.take_length]
      go_wp2
      go_ret
      exact ⟨ret_int HS.out, h1.below⟩

set_option maxHeartbeats 400000 in
theorem szStepS_no (left : Int) (v : Value) (ms : List Sg) (w : World) (hv : StR w v ms) (h : left < ((szSs ms : Nat) : Int)) (hl : left ≤ 1048576) (h0 : 0 ≤ left) :
    Calls Tryd.prog 13 #[v, .int .i64 left] w fun e w' => e = .returned (.int .i64 (-1)) ∧ Below w.heap.size w w' := by
  have h1 := St.start w
  obtain ⟨A, c, rfl, hlc, hcc, g3⟩ := id hv
  have HV := Lib.hid hv
  clear hv g3
  by_cases hb : (ms.length : Int) ≤ left
  · have h2 : 0 ≤ left - ms.length := by omega
    have hd : left - ms.length < ((dLen ms : Nat) : Int) := by unfold szSs at h; omega
    clear h
    go_enter Tryd.func13, Tryd.ntmps13
    go_wp2
    go_loopw [1, 5] (fun vl vi wr => ∃ i : Nat, vi = .int .i64 i ∧ i ≤ ms.length ∧ vl = .int .i64 (left - ms.length - (dLen (ms.take i) : Nat)) ∧ 0 ≤ left - ms.length - (dLen (ms.take i) : Nat) ∧ St w wr []) (fun _ vi _ => ms.length - (intOf vi).toNat)
    case atStart => exact ⟨0, rfl, by omega, by simp [dLen], by simp [dLen]; omega, h1⟩
    case round =>
      clear h1
      obtain ⟨i, rfl, a1, rfl, a2, h1⟩ := hrel
      by_cases hi : i < ms.length
      · have HT := Lib.hid (dLen_take ms i hi)
        have i1 : (i : Int) < ms.length := by omega
        obtain ⟨b, off, A9, c9, rfl, hm⟩ := HV.out.at (i := i) hi
        have h2 := h1.pushOld hm.fact
        obtain ⟨z0, z1, z4⟩ := h2.fact 0 rfl
        clear hm
        clear h2
        by_cases hx : (ms[i].d.length : Int) ≤ left - ms.length - (dLen (ms.take i) : Nat)
        · go_wp2_with fail
          refine (szStep_yes _ _ _ ms[i].d _ z4 hx (by omega)).mono ?_
          rintro e wn ⟨rfl, hb1⟩
          replace h1 := h1.on hb1
          clear hb1
          have a3 : 0 ≤ left - ms.length - (dLen (ms.take i) : Nat) - ms[i].d.length := by omega
          go_wp2
          go_roundw
          case rel => exact ⟨i + 1, by go_num, by omega, by rw [HT.out]; go_num, by rw [HT.out]; omega, h1⟩
          case measure => simp [intOf]; omega
        · go_wp2_with fail
          refine (szStep_no _ _ _ ms[i].d _ z4 (by omega) (by omega) a2).mono ?_
          rintro e wn ⟨rfl, hb1⟩
          replace h1 := h1.on hb1
          clear hb1
          go_wp2
          go_ret
          exact ⟨rfl, h1.below⟩
      · exfalso
        have e : i = ms.length := by omega
        subst e
        rw [List.take_length] at a2
        omega
  · have h2 : left - ms.length < 0 := by omega
    clear h
    go_enter Tryd.func13, Tryd.ntmps13
    go_wp2
    go_ret
    exact ⟨rfl, h1.below⟩

set_option maxHeartbeats 1000000 in
theorem eqStepS_same (v u : Value) (ms : List Sg) (w : World) (hv : StR w v ms) (hu : StR w u ms) :
    Calls Tryd.prog 19 #[v, u] w fun e w' => e = .returned (.bool true) ∧ Below w.heap.size w w' := by
  have h1 := St.start w
  obtain ⟨A, c, rfl, _, _, g3⟩ := id hv
  obtain ⟨B, d, rfl, _, _, g3'⟩ := id hu
  have HV := Lib.hid hv
  have HU := Lib.hid hu
  clear hv hu g3 g3'
  go_enter Tryd.func19, Tryd.ntmps19
  go_wp2
  go_loopw [5] (fun vi wr => ∃ i : Nat, vi = .int .i64 i ∧ i ≤ ms.length ∧ St w wr []) (fun vi _ => ms.length - (intOf vi).toNat)
  case atStart => exact ⟨0, rfl, by omega, h1⟩
  case round =>
    clear h1
    obtain ⟨i, rfl, a1, h1⟩ := hrel
    by_cases hi : i < ms.length
    · obtain ⟨b, off, A9, c9, rfl, hm⟩ := HV.out.at (i := i) hi
      obtain ⟨b', off', A8, c8, rfl, hm'⟩ := HU.out.at (i := i) hi
      have h2 := (h1.pushOld hm.fact).pushOld hm'.fact
      have i1 : (i : Int) < ms.length := by omega
      clear hm hm'
      go_wp2_with fail
      refine h2.region_tail 8 (by kernel_rfl) (by kernel_rfl) ?_
      simp only [List.take_succ_cons, List.take_zero, List.drop_succ_cons, List.drop_zero]
      iterate 8
        apply wpQuiet_op
        · exact rfl
        · intro w' hC
          obtain ⟨z0, z1, z4⟩ := hC.fact 0 rfl
          obtain ⟨y0, y1, y4⟩ := hC.fact 1 rfl
          unfold Oper.quietAt
          go_simp
          first | exact rfl | exact ⟨rfl, rfl⟩
        go_simp
      refine wpQuiet_nil (fun wn hC => ?_)
      have z4 := (hC.fact 0 rfl).2.2
      have y4 := (hC.fact 1 rfl).2.2
      replace h1 := hC.drop 2
      clear h2
      go_wp2_with fail
      refine (eqStep_same _ _ _ ms[i].d _ y4 z4).mono ?_
      rintro e wn ⟨rfl, hb1⟩
      replace h1 := h1.on hb1
      clear hb1
      go_wp2
      go_roundw
      case rel => exact ⟨i + 1, by go_num, by omega, h1⟩
      case measure => simp [intOf]; omega
    · obtain rfl : i = ms.length := by omega
      go_wp2
      go_ret
      exact ⟨rfl, h1.below⟩

set_option maxHeartbeats 1000000 in
theorem heldStepS_any (v : Value) (ms : List Sg) (k : Int) (w : World) (hv : StR w v (markSs k ms)) (hl : markSsLen ms ≤ 35184372088832) (hk : 0 ≤ k) (hk' : k ≤ 35184372088832) :
    Calls Tryd.prog 30 #[v, .int .i64 k] w fun e w' => e = .returned (.int .i64 (k + (markSsLen ms : Nat))) ∧ Below w.heap.size w w' := by
  have h1 := St.start w
  obtain ⟨A, c, rfl, _, _, g3⟩ := id hv
  have HV := Lib.hid hv
  clear hv g3
  rw [length_markSs]
  have HL := Lib.hid (length_markSs ms k)
  have hn' : ms.length ≤ 35184372088832 := by unfold markSsLen at hl; omega
  go_enter Tryd.func30, Tryd.ntmps30
  go_wp2
  go_loopw [1, 5] (fun vk vi wr => ∃ i : Nat, vi = .int .i64 i ∧ i ≤ ms.length ∧ vk = .int .i64 (k + (kAt ms i : Nat)) ∧ St w wr []) (fun _ vi _ => ms.length - (intOf vi).toNat)
  case atStart => exact ⟨0, rfl, by omega, by simp [kAt, dLen], h1⟩
  case round =>
    clear h1
    obtain ⟨i, rfl, a1, rfl, h1⟩ := hrel
    by_cases hi : i < ms.length
    · have hle := kAt_le ms i (by omega)
      have hle2 := kAt_le ms (i + 1) hi
      have hs := kAt_succ ms i hi
      rw [hs] at hle2
      have HS := Lib.hid hs
      obtain ⟨b, off, A9, c9, rfl, hm⟩ := HV.out.at (i := i) (by rw [HL.out]; exact hi)
      have hg := markSs_get ms k i hi
      rw [List.getElem?_eq_getElem (by rw [HL.out]; exact hi)] at hg
      have hg := Option.some.inj hg
      rw [hg] at hm
      simp only [length_marks] at hm
      have h2 := h1.pushOld hm.fact
      obtain ⟨z0, z1, z4⟩ := h2.fact 0 rfl
      have i1 : (i : Int) < ms.length := by omega
      clear hm h2 hs hg
      obtain ⟨q, hq⟩ : ∃ q : Int, q = k + (kAt ms i : Nat) := ⟨_, rfl⟩
      rw [← hq] at z1 z4 ⊢
      have q1 : 0 ≤ q := by omega
      have q2 : q + 1 + ms[i].d.length ≤ 70368744177664 := by omega
      have q3 : ms[i].d.length ≤ 35184372088832 := by omega
      have q4 : q ≤ 70368744177664 := by omega
      have HQ := Lib.hid hq
      clear hq hle hle2
      go_wp2_with fail
      refine (heldIntS_any _ ms[i].d.length _ _ z4 (by omega) (by omega) (by omega)).mono ?_
      rintro e wn ⟨rfl, rfl⟩
      go_wp2
      go_roundw
      case rel => exact ⟨i + 1, by go_num, by omega, by rw [HS.out, HQ.out]; go_num, h1⟩
      case measure => simp [intOf]; omega
    · obtain rfl : i = ms.length := by omega
      have HE := Lib.hid (kAt_end ms)
      go_wp2
      go_ret
      exact ⟨ret_int (by rw [HE.out]), h1.below⟩

set_option maxHeartbeats 1000000 in
/-- Marks in a slice of steps of the call's own, in a call whose memory is known. -/
theorem markStepS_any {w0 w : World} {L : List It} (h : St w0 w L) (j : Nat) {v : Value} {us : List Value} {ms : List Sg} (hj : L[j]? = some (stIt v us ms)) (hul : us.length = ms.length) (k : Int) (hl : markSsLen ms ≤ 35184372088832) (hk : 0 ≤ k) (hk' : k ≤ 35184372088832) :
    Calls Tryd.prog 25 #[v, .int .i64 k] w fun e w' => e = .returned (.int .i64 (k + (markSsLen ms : Nat))) ∧ St w0 w' (L.set j (stIt v us (markSs k ms))) := by
  have hjl : j < L.length := (List.getElem?_eq_some_iff.1 hj).1
  rcases id (h.vec j hj).1.2 with ⟨rfl, h0⟩ | ⟨g, cap, cur, rfl, hb, hg, hn, hm, _⟩
  · obtain rfl : ms = [] := List.eq_nil_of_length_eq_zero h0
    clear h0 hl
    have hs : L.set j (stIt (.slice none 0 0) us (markSs k [])) = L := by
      apply List.ext_getElem?
      intro i
      rw [List.getElem?_set]
      by_cases e : j = i
      · subst e; rw [if_pos rfl, if_pos hjl, hj]; rfl
      · rw [if_neg e]
    rw [hs]
    clear hs hj
    go_enter Tryd.func25, Tryd.ntmps25
    go_wp2
    go_loop [1, 5] (fun vk vi => vk = .int .i64 k ∧ vi = .int .i64 0) (fun _ _ => 0)
    case atStart => exact ⟨rfl, rfl⟩
    case round =>
      obtain ⟨rfl, rfl⟩ := hrel
      go_wp2
      go_ret
      exact ⟨by simp [markSsLen, dLen], h⟩
  · have hn' : ms.length ≤ 35184372088832 := by unfold markSsLen at hl; omega
    have HJ := Lib.hid hj
    have HUL := Lib.hid hul
    have h1 : St w0 w (L.set j (stIt (.slice (some ⟨g, 0, none⟩) ms.length cap) us (markSsTo k ms 0))) := by
      rw [markSsTo_zero]
      have hs : L.set j (stIt (.slice (some ⟨g, 0, none⟩) ms.length cap) us ms) = L := by
        apply List.ext_getElem?
        intro i
        rw [List.getElem?_set]
        by_cases e : j = i
        · subst e; rw [if_pos rfl, if_pos hjl, hj]
        · rw [if_neg e]
      rw [hs]; exact h
    clear hj hul h hm hg hb
    go_enter Tryd.func25, Tryd.ntmps25
    go_wp2
    go_loopw [1, 5] (fun vk vi wr => ∃ i : Nat, vi = .int .i64 i ∧ i ≤ ms.length ∧ vk = .int .i64 (k + (kAt ms i : Nat)) ∧ St w0 wr (L.set j (stIt (.slice (some ⟨g, 0, none⟩) ms.length cap) us (markSsTo k ms i)))) (fun _ vi _ => ms.length - (intOf vi).toNat)
    case atStart => exact ⟨0, rfl, by omega, by simp [kAt, dLen], h1⟩
    case round =>
      clear h1
      obtain ⟨i, rfl, a1, rfl, h1⟩ := hrel
      by_cases hi : i < ms.length
      · have hle := kAt_le ms i (by omega)
        have hle2 := kAt_le ms (i + 1) hi
        have hs := kAt_succ ms i hi
        rw [hs] at hle2
        have HS := Lib.hid hs
        have i1 : (i : Int) < ms.length := by omega
        have hil : i < us.length := by rw [HUL.out]; exact hi
        have hmi : (markSsTo k ms i)[i]? = some ms[i] := by rw [markSsTo_get k ms i i a1, if_neg (by omega)]; exact List.getElem?_eq_getElem hi
        obtain ⟨u, hu⟩ : ∃ u, us[i]? = some u := ⟨us[i], List.getElem?_eq_getElem hil⟩
        have hitem : (L.set j (stIt (.slice (some ⟨g, 0, none⟩) ms.length cap) us (markSsTo k ms i)))[j]? = some (.vec (.slice (some ⟨g, 0, none⟩) ms.length cap) 55 2 ms.length (cells us (markSsTo k ms i)) (us.zip ((markSsTo k ms i).map Sg.d))) := by
          rw [List.getElem?_set_self hjl, stIt, length_markSsTo k ms i a1]
        obtain ⟨q, hq⟩ : ∃ q : Int, q = k + (kAt ms i : Nat) := ⟨_, rfl⟩
        rw [← hq]
        have q1 : 0 ≤ q := by omega
        have q2 : q + 1 + ms[i].d.length ≤ 70368744177664 := by omega
        have q3 : ms[i].d.length ≤ 35184372088832 := by omega
        have q4 : q ≤ 70368744177664 := by omega
        have HQ := Lib.hid hq
        clear hq hle hle2 hs
        have c0 := h1.vecCell j hitem (i * 2) (cells_get us _ i u _ hu hmi).1
        have hsub := h1.sub j hitem i (zipGet hu (by rw [List.getElem?_map, hmi]; rfl))
        obtain ⟨A9, c9, rfl, _, _, _⟩ := id hsub.ints
        have HML := Lib.hid (length_markSsTo k ms i a1)
        have hlm : i < (markSsTo k ms i).length := by rw [HML.out]; exact hi
        go_wp2_with fail
        refine (markIntS_any _ ms[i].d _ _ _ hsub (by omega) (by omega) (by omega)).mono ?_
        rintro e wn ⟨rfl, ho, hg⟩
        have s4 := h1.wroteSub j hitem i (zipGet hu (by rw [List.getElem?_map, hmi]; rfl)) ho hg
        rw [List.set_set] at s4
        have c1 := s4.vecCell j (List.getElem?_set_self hjl) (i * 2 + 1) (cells_get us _ i _ _ hu hmi).2
        have f1 := s4.vecFree j (List.getElem?_set_self hjl) (i * 2 + 1)
        have s5 := s4.setVec j (List.getElem?_set_self hjl) (i * 2 + 1) (.int .i64 (q + ms[i].d.length))
        rw [List.set_set, cells_set1 us _ i (by rw [HML.out]; exact HUL.out) hlm (q + ms[i].d.length) (marks q ms[i].d.length), zipSet hu ⟨marks q ms[i].d.length, q + ms[i].d.length⟩, HQ.out, markSsTo_set k ms i hi, ← HQ.out] at s5
        clear h1 hsub hg ho hitem hu hmi c0 s4 hlm
        go_wp2
        go_roundw
        case rel => exact ⟨i + 1, by go_num, by omega, by rw [HS.out, HQ.out]; go_num, by rw [stIt, length_markSsTo k ms (i + 1) hi]; exact s5⟩
        case measure => simp [intOf]; omega
      · obtain rfl : i = ms.length := by omega
        have HE := Lib.hid (kAt_end ms)
        rw [markSsTo_end] at h1
        go_wp2
        go_ret
        exact ⟨ret_int (by rw [HE.out]), h1⟩
/-- n zero steps, as a new block holds them. -/
def madeS (n : Nat) : Array Value := madeCells (Value.agg #[.slice none 0 0, .int .i64 0]).cells (n * 2)
theorem size_madeS (n : Nat) : (madeS n).size = n * 2 := by simp [madeS, madeCells]
theorem makeS (n : Nat) (hn : n ≤ 1099511627776) (W : World) :
    (Instr.makeSlice 35 (.int .i64 (n : Int)) (.int .i64 (n : Int))).run Tryd.prog W = .ok (.slice (some ⟨W.heap.size, 0, none⟩) n n) (W.alloc (.cells (madeS n) 55)) := by
  obtain ⟨i, h1, h2, h3, h4⟩ := info_parts infoP
  have hr := run_make (P := Tryd.prog) W 35 55 i _ Tryd.underlying35 h1 h2 .i64 .i64 (n : Int) (n : Int) (by omega) (Int.le_refl _) (by rw [h4]; omega) (by omega)
  simp only [Int.toNat_natCast, h3] at hr
  exact hr
theorem set2 {X Y : List Value} {k : Nat} (a b : Value) (hk : X.length = k) (hY : 2 ≤ Y.length) : ((X ++ Y).set k a).set (k + 1) b = X ++ [a, b] ++ Y.drop 2 := by
  subst hk
  match Y, hY with
  | y0 :: y1 :: Y, _ => simp [List.set_append_right]
theorem dLen_get : ∀ (ms : List Sg) (i : Nat) (h : i < ms.length), (ms[i]).d.length ≤ dLen ms
  | m :: ms, 0, _ => by simp [dLen]
  | m :: ms, i + 1, h => by
    have := dLen_get ms i (by simpa using h)
    simp only [dLen, List.getElem_cons_succ]; omega
theorem _root_.Go.Proofs.YtcngijafnnmccaaDoor.St.pushSgX {w0 w : World} {L : List It} (h : St w0 w L) {b off i : Nat} {A : Option Addr} {c : Nat} {m : Sg} (hm : SgAt w0 b (off + i * 2) m (.slice A m.d.length c)) : St w0 w (.fact (fun w' => SgAt w' b (off + i * 2) m (.slice A m.d.length c)) :: L) := h.pushOld hm.fact

set_option maxHeartbeats 4000000 in
theorem toStepS_any (v : Value) (ms : List Sg) (w : World) (hv : StR w v ms) (hl : szSs ms ≤ 1099511627776) : Calls Tryd.prog 16 #[v] w (RetSs w ms) := by
  obtain ⟨n, hn⟩ : ∃ n, n = ms.length := ⟨_, rfl⟩
  have hnb : n ≤ 1099511627776 := by rw [hn]; unfold szSs at hl; omega
  have hdb : dLen ms ≤ 1099511627776 := by unfold szSs at hl; omega
  have hmk := makeS n hnb
  obtain ⟨A2, k2, rfl, _, _, _⟩ := id hv
  have h1 := (St.start w).pushFact hv.fact
  have HV := Lib.hid hv
  have hms := size_madeS n
  obtain ⟨M, hM⟩ : ∃ M, M = (madeS n).toList := ⟨_, rfl⟩
  have hMl : M.length = n * 2 := by rw [hM]; simpa using hms
  have h2 : St w (w.alloc (.cells (madeS n) 55)) (.vec (.slice (some ⟨w.heap.size, 0, none⟩) n n) 55 2 n M [] :: .fact (fun w' => StR w' (.slice A2 ms.length k2) ms) :: []) := by
    rw [hM]
    exact h1.push ((Below.refl _ _).alloc (Nat.le_refl _) _) ⟨World.ownsRow_lit (base := w.heap.size) (e := 55) (size := 2) w (madeS n) n (Nat.le_refl _) (by simp only [maxLen]; omega) hms, fun s hs => by cases hs⟩ (fun b hb => by simp [It.fp, Value.ownBlock] at hb; omega) (by simp [It.fp, Value.ownBlock])
  have HN := Lib.hid hn
  have HMl := Lib.hid hMl
  rw [← hn] at h2 ⊢
  clear hv h1 hms hM hMl hl hn
  generalize hB : w.heap.size = B at h2
  go_enter Tryd.func16, Tryd.ntmps16
  go_wp2
  go_loopw [4] (fun v4 wr => ∃ (i : Nat) (us : List Value), v4 = .int .i64 i ∧ i ≤ n ∧ Hid (us.length = i) ∧ St w wr [.vec (.slice (some ⟨B, 0, none⟩) n n) 55 2 n (cells us (ms.take i) ++ M.drop (i * 2)) (us.zip ((ms.take i).map Sg.d)), .fact (fun w' => StR w' (.slice A2 n k2) ms)]) (fun v4 _ => n - (intOf v4).toNat)
  case atStart => exact ⟨0, [], rfl, by omega, rfl, h2⟩
  case round =>
    clear h2
    obtain ⟨i, us, rfl, a1, Hul, h1⟩ := hrel
    by_cases hi : i < n
    · have him : i < ms.length := by rw [← HN.out]; exact hi
      have hvv := HV.out
      rw [← HN.out] at hvv
      obtain ⟨b, off, A9, c9, rfl, hm⟩ := StR.at (by rw [HN.out] at hvv; exact hvv) (i := i) him
      have hdl := dLen_get ms i him
      have htk : ms.take (i + 1) = ms.take i ++ [ms[i]] := by rw [List.take_succ_eq_append_getElem him]
      obtain ⟨m, hmm⟩ : ∃ m, m = ms[i] := ⟨_, rfl⟩
      rw [← hmm] at hm hdl htk
      have h2 := h1.pushSgX hm
      have HTk := Lib.hid htk
      have hcl : (cells us (ms.take i)).length = i * 2 := by
        rw [length_cells us (ms.take i) (by rw [Hul.out, List.length_take]; omega), List.length_take]
        rw [Nat.min_eq_left (by omega)]
      have hdr : 2 ≤ (M.drop (i * 2)).length := by rw [List.length_drop, HMl.out]; omega
      have HC := Lib.hid (fun (a b : Value) => set2 (X := cells us (ms.take i)) (Y := M.drop (i * 2)) a b hcl hdr)
      have hlen : (cells us (ms.take i) ++ M.drop (i * 2)).length = n * 2 := by rw [List.length_append, hcl, List.length_drop, HMl.out]; omega
      have HL := Lib.hid hlen
      clear hvv hm hmm htk hcl hdr hlen h1 him
      obtain ⟨q0, q1, q4⟩ := h2.fact 0 rfl
      have HQ := Lib.hid q4
      clear q4
      go_wp2_with fail
      refine (toStep_any m.n _ m.d _ HQ.out (by omega)).mono ?_
      rintro (e : Ending) w3 ⟨u, rfl, ho, hb⟩
      obtain ⟨A7, n7, c7, rfl⟩ := ho.slice
      have h3 := (h2.pushOwn hb ho).absorb 1 rfl
      change St w w3 [.fact _, .vec (.slice (some ⟨B, 0, none⟩) n n) 55 2 n (cells us (ms.take i) ++ M.drop (i * 2)) (us.zip ((ms.take i).map Sg.d) ++ [(.slice A7 n7 c7, m.d)]), .fact _] at h3
      clear q0 q1 h2 ho hb
      have gg : ∀ k, k < n * 2 → ∃ x, (cells us (ms.take i) ++ M.drop (i * 2))[k]? = some x := fun k hk => ⟨_, List.getElem?_eq_getElem (by rw [HL.out]; exact hk)⟩
      obtain ⟨t0, e0⟩ := gg (i * 2) (by omega)
      obtain ⟨t1, e1⟩ := gg (i * 2 + 1) (by omega)
      have c0 := h3.vecCell 1 rfl (i * 2) e0
      have c1 := h3.vecCell 1 rfl (i * 2 + 1) e1
      have f0 := h3.vecFree 1 rfl (i * 2)
      have f1 := h3.vecFree 1 rfl (i * 2 + 1)
      have s4 := (h3.setVec 1 rfl (i * 2) (.slice A7 n7 c7)).setVec 1 rfl (i * 2 + 1) (.int .i64 m.n)
      clear gg e0 e1 h3
      go_wp2
      go_roundw
      case rel =>
        refine ⟨i + 1, us ++ [.slice A7 n7 c7], by go_num, by omega, by show _ = _; rw [List.length_append, Hul.out]; rfl, ?_⟩
        have s5 := s4.drop 1
        have hul : us.length = (ms.take i).length := by rw [Hul.out, List.length_take, ← HN.out]; omega
        have hc := HC.out (.slice A7 n7 c7) (.int .i64 m.n)
        change St w _ [.vec (.slice (some ⟨B, 0, none⟩) n n) 55 2 n (((cells us (ms.take i) ++ M.drop (i * 2)).set (i * 2) _).set (i * 2 + 1) _) (us.zip ((ms.take i).map Sg.d) ++ [(.slice A7 n7 c7, m.d)]), .fact _] at s5
        rw [hc, List.drop_drop, ← cells_snoc us (ms.take i) _ m hul, ← HTk.out] at s5
        rw [HTk.out, List.map_append, List.zip_append (by rw [List.length_map]; exact hul), ← HTk.out, Nat.succ_mul]
        exact s5
      case measure => simp [intOf]; omega
    · obtain rfl : i = n := by omega
      have htk : ms.take i = ms := List.take_of_length_le (by rw [← HN.out]; exact Nat.le_refl _)
      have hdr : M.drop (i * 2) = [] := List.drop_eq_nil_of_le (by rw [HMl.out]; exact Nat.le_refl _)
      rw [htk, hdr, List.append_nil] at h1
      go_wp2
      go_ret
      have hit : (It.vec (.slice (some ⟨B, 0, none⟩) i i) 55 2 i (cells us ms) (us.zip (ms.map Sg.d))) = stIt (.slice (some ⟨B, 0, none⟩) i i) us ms := by rw [stIt, ← HN.out]
      rw [hit] at h1
      exact ⟨_, us, rfl, by rw [Hul.out, HN.out], h1.at 0 rfl, h1.vecNodup 0 rfl, h1.below⟩

end Stp
end Go.Proofs.YtcngijafnnmccaaDoor
