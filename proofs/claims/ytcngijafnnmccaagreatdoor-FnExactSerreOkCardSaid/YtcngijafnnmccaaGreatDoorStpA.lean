/- Slices of steps (a way and a length): memory, and the laws' helpers on them. -/
import Derived.Test.YtcngijafnnmccaaGreatDoorStB
import Derived.Test.YtcngijafnnmccaaGreatDoorLawB
import Derived.Test.YtcngijafnnmccaaGreatDoorCarS
namespace Go.Proofs.YtcngijafnnmccaaGreatDoor
set_option maxRecDepth 100000
open Go.RowKit
namespace Stp

/-- A step as it reads. -/
structure Sg where
  d : List Int
  n : Int

def cells : List Value → List Sg → List Value
  | u :: us, m :: ms => u :: .int .i64 m.n :: cells us ms
  | _, _ => []
theorem length_cells : ∀ (us : List Value) (ms : List Sg), us.length = ms.length → (cells us ms).length = ms.length * 2
  | [], [], _ => rfl
  | u :: us, m :: ms, h => by simp only [cells, List.length_cons]; rw [length_cells us ms (by simpa using h)]; omega
theorem cells_get : ∀ (us : List Value) (ms : List Sg) (i : Nat) (u : Value) (m : Sg), us[i]? = some u → ms[i]? = some m →
    (cells us ms)[i * 2]? = some u ∧ (cells us ms)[i * 2 + 1]? = some (.int .i64 m.n)
  | [], _, _, _, _, h, _ => by simp at h
  | _ :: _, [], _, _, _, _, h => by simp at h
  | u :: us, m :: ms, 0, u', m', h, h' => by
    simp only [List.getElem?_cons_zero, Option.some.injEq] at h h'
    subst h; subst h'
    exact ⟨rfl, rfl⟩
  | u :: us, m :: ms, i + 1, u', m', h, h' => by
    have := cells_get us ms i u' m' (by simpa using h) (by simpa using h')
    have e : (i + 1) * 2 = i * 2 + 2 := by omega
    simp only [cells, e, Nat.add_right_comm _ 2, List.getElem?_cons_succ]
    exact this
theorem cells_snoc : ∀ (us : List Value) (ms : List Sg) (u : Value) (m : Sg), us.length = ms.length → cells (us ++ [u]) (ms ++ [m]) = cells us ms ++ [u, .int .i64 m.n]
  | [], [], _, _, _ => rfl
  | a :: us, b :: ms, u, m, h => by simp only [List.cons_append, cells]; rw [cells_snoc us ms u m (by simpa using h)]

/-- A slice of steps that is read. -/
def StR (w : World) (v : Value) (ms : List Sg) : Prop :=
  ∃ A c, v = .slice A ms.length c ∧ ms.length ≤ c ∧ c ≤ 9223372036854775807 ∧
    (0 < ms.length → ∃ b off, A = some ⟨b, off, none⟩ ∧ ∀ (i : Nat) (m : Sg), ms[i]? = some m → (∃ u, w.cell? ⟨b, off + i * 2, none⟩ = some u ∧ Ints w u m.d) ∧ w.cell? ⟨b, off + i * 2 + 1, none⟩ = some (.int .i64 m.n))
theorem zipGet {us : List Value} {ls : List (List Int)} {i : Nat} {u : Value} {l : List Int} (h1 : us[i]? = some u) (h2 : ls[i]? = some l) : (us.zip ls)[i]? = some (u, l) := by
  rw [List.getElem?_zip_eq_some]; exact ⟨h1, h2⟩
theorem StR.keep {w w' : World} {v : Value} {ms : List Sg} (h : StR w v ms) (hk : ∀ p : Addr, p.block < w.heap.size → w'.cell? p = w.cell? p) : StR w' v ms := by
  obtain ⟨A, c, rfl, h1, h2, h3⟩ := h
  refine ⟨A, c, rfl, h1, h2, fun hl => ?_⟩
  obtain ⟨b, off, rfl, hc⟩ := h3 hl
  refine ⟨b, off, rfl, fun i m hi => ?_⟩
  obtain ⟨⟨u, k3, k4⟩, k1⟩ := hc i m hi
  have kk : ∀ {o : Nat} {x : Value}, w.cell? ⟨b, o, none⟩ = some x → w'.cell? ⟨b, o, none⟩ = some x := fun h => (hk _ (World.block_lt_of_cell? w _ h)).trans h
  exact ⟨⟨u, kk k3, k4.keep hk⟩, kk k1⟩
theorem StR.below {w w' : World} {v : Value} {ms : List Sg} (h : StR w v ms) (hb : Below w.heap.size w w') : StR w' v ms := h.keep fun _ hp => hb.cell hp
theorem StR.fact {w : World} {v : Value} {ms : List Sg} (h : StR w v ms) : It.ok w.heap.size w (.fact fun w' => StR w' v ms) := fun _ hk => h.keep fun p hp => World.cell?_of_block (hk p.block hp)
/-- One step of such a slice. -/
def SgAt (w : World) (b o : Nat) (m : Sg) (u : Value) : Prop :=
  w.cell? ⟨b, o, none⟩ = some u ∧ w.cell? ⟨b, o + 1, none⟩ = some (.int .i64 m.n) ∧ Ints w u m.d
theorem SgAt.fact {w : World} {b o : Nat} {m : Sg} {u : Value} (h : SgAt w b o m u) : It.ok w.heap.size w (.fact fun w' => SgAt w' b o m u) := fun w' hk => by
  have kk : ∀ {o : Nat} {x : Value}, w.cell? ⟨b, o, none⟩ = some x → w'.cell? ⟨b, o, none⟩ = some x := fun h => (World.cell?_of_block (hk _ (World.block_lt_of_cell? w _ h))).trans h
  exact ⟨kk h.1, kk h.2.1, h.2.2.keep fun p hp => World.cell?_of_block (hk p.block hp)⟩
theorem StR.at {w : World} {A : Option Addr} {n c : Nat} {ms : List Sg} (h : StR w (.slice A n c) ms) {i : Nat} (hi : i < ms.length) :
    ∃ b off A' c', A = some ⟨b, off, none⟩ ∧ SgAt w b (off + i * 2) ms[i] (.slice A' ms[i].d.length c') := by
  obtain ⟨A', c', he, _, _, h3⟩ := h
  simp only [Value.slice.injEq] at he
  obtain ⟨rfl, _, rfl⟩ := he
  obtain ⟨b, off, rfl, hc⟩ := h3 (by omega)
  obtain ⟨⟨u, k3, k4⟩, k1⟩ := hc i ms[i] (List.getElem?_eq_getElem hi)
  obtain ⟨A2, c2, rfl, _⟩ := id k4
  exact ⟨b, off, A2, c2, rfl, k3, k1, k4⟩

section
variable {w0 w : World} {L : List It}
theorem vecNil {B : Nat} {w : World} {e sz : Nat} : It.ok B w (.vec (.slice none 0 0) e sz 0 [] []) := ⟨World.ownsRow_nil w B e sz, fun s hs => by cases hs⟩
end

def dLen : List Sg → Nat
  | [] => 0
  | m :: ms => m.d.length + dLen ms
def szSs (ms : List Sg) : Nat := ms.length + dLen ms
theorem dLen_take : ∀ (ms : List Sg) (i : Nat) (h : i < ms.length), dLen (ms.take (i + 1)) = dLen (ms.take i) + ms[i].d.length
  | m :: ms, 0, _ => by simp [dLen]
  | m :: ms, i + 1, h => by
    simp only [List.take_succ_cons, dLen, List.getElem_cons_succ]
    rw [dLen_take ms i (by simpa using h)]; omega
theorem dLen_le : ∀ (ms : List Sg) (i : Nat), dLen (ms.take i) ≤ dLen ms
  | [], i => by simp
  | m :: ms, 0 => by simp [dLen]
  | m :: ms, i + 1 => by simp only [List.take_succ_cons, dLen]; have := dLen_le ms i; omega
theorem dLen_mem (ms : List Sg) (i : Nat) (h : i < ms.length) : dLen (ms.take i) + ms[i].d.length ≤ dLen ms := by
  rw [← dLen_take ms i h]; exact dLen_le ms _
def markSs (k : Int) : List Sg → List Sg
  | [] => []
  | m :: ms => ⟨marks k m.d.length, k + (m.d.length : Nat)⟩ :: markSs (k + 1 + (m.d.length : Nat)) ms
def markSsLen (ms : List Sg) : Nat := ms.length + dLen ms
/-- The number of the mark at step i. -/
def kAt (ms : List Sg) (i : Nat) : Nat := i + dLen (ms.take i)
theorem length_markSs : ∀ (ms : List Sg) (k : Int), (markSs k ms).length = ms.length
  | [], _ => rfl
  | m :: ms, k => by simp [markSs, length_markSs ms]
theorem markSs_get : ∀ (ms : List Sg) (k : Int) (i : Nat) (h : i < ms.length), (markSs k ms)[i]? = some ⟨marks (k + (kAt ms i : Nat)) ms[i].d.length, k + (kAt ms i : Nat) + (ms[i].d.length : Nat)⟩
  | m :: ms, k, 0, _ => by simp [markSs, kAt, dLen]
  | m :: ms, k, i + 1, h => by
    have := markSs_get ms (k + 1 + (m.d.length : Nat)) i (by simpa using h)
    simp only [markSs, List.getElem?_cons_succ, this, List.getElem_cons_succ]
    have e : k + 1 + (m.d.length : Nat) + (kAt ms i : Nat) = k + (kAt (m :: ms) (i + 1) : Nat) := by
      simp only [kAt, List.take_succ_cons, dLen]; omega
    rw [e]
theorem kAt_succ (ms : List Sg) (i : Nat) (h : i < ms.length) : kAt ms (i + 1) = kAt ms i + 1 + ms[i].d.length := by
  unfold kAt; rw [dLen_take ms i h]; omega
theorem kAt_end (ms : List Sg) : kAt ms ms.length = markSsLen ms := by unfold kAt markSsLen; rw [List.take_length]
theorem kAt_le (ms : List Sg) (i : Nat) (h : i ≤ ms.length) : kAt ms i ≤ markSsLen ms := by unfold kAt markSsLen; have := dLen_le ms i; omega
/-- The first i steps marked. -/
def markSsTo (k : Int) (ms : List Sg) (i : Nat) : List Sg := (markSs k ms).take i ++ ms.drop i
theorem markSsTo_zero (k : Int) (ms : List Sg) : markSsTo k ms 0 = ms := by simp [markSsTo]
theorem markSsTo_end (k : Int) (ms : List Sg) : markSsTo k ms ms.length = markSs k ms := by
  rw [markSsTo, List.drop_length, List.append_nil, List.take_of_length_le (by rw [length_markSs]; exact Nat.le_refl _)]
theorem length_markSsTo (k : Int) (ms : List Sg) (i : Nat) (h : i ≤ ms.length) : (markSsTo k ms i).length = ms.length := by
  simp [markSsTo, length_markSs]; omega
theorem markSsTo_get (k : Int) (ms : List Sg) (i j : Nat) (h : i ≤ ms.length) : (markSsTo k ms i)[j]? = if j < i then (markSs k ms)[j]? else ms[j]? := by
  unfold markSsTo
  rw [List.getElem?_append]
  simp only [List.length_take, length_markSs, Nat.min_eq_left h]
  split
  · rw [List.getElem?_take, if_pos (by assumption)]
  · rw [List.getElem?_drop]; congr 1; omega
theorem markSsTo_set (k : Int) (ms : List Sg) (i : Nat) (h : i < ms.length) :
    (markSsTo k ms i).set i ⟨marks (k + (kAt ms i : Nat)) ms[i].d.length, k + (kAt ms i : Nat) + (ms[i].d.length : Nat)⟩ = markSsTo k ms (i + 1) := by
  apply List.ext_getElem?
  intro j
  rw [List.getElem?_set, markSsTo_get k ms i j (by omega), markSsTo_get k ms (i + 1) j (by omega), length_markSsTo k ms i (by omega)]
  by_cases e : i = j
  · subst e
    rw [if_pos rfl, if_pos h, if_pos (by omega), markSs_get ms k i h]
  · rw [if_neg e]
    by_cases h1 : j < i
    · rw [if_pos h1, if_pos (by omega)]
    · rw [if_neg h1, if_neg (by omega)]

theorem cells_set1 (us : List Value) (ms : List Sg) (i : Nat) (hl : us.length = ms.length) (hi : i < ms.length) (a : Int) (d : List Int) :
    (cells us ms).set (i * 2 + 1) (.int .i64 a) = cells us (ms.set i ⟨d, a⟩) := by
  induction ms generalizing us i with
  | nil => simp at hi
  | cons m ms ih =>
    match us, hl with
    | u :: us, hl =>
      cases i with
      | zero => simp [cells]
      | succ i =>
        have e : (i + 1) * 2 + 1 = i * 2 + 1 + 2 := by omega
        simp only [cells, e, List.set_cons_succ]
        rw [ih us i (by simpa using hl) (by simpa using hi)]
/-- The way alone changes: the cells stay. -/
theorem cells_way (us : List Value) (ms : List Sg) (i : Nat) (d : List Int) (hi : i < ms.length) : cells us (ms.set i ⟨d, ms[i].n⟩) = cells us ms := by
  induction ms generalizing us i with
  | nil => simp at hi
  | cons m ms ih =>
    match us with
    | [] => simp [cells]
    | u :: us =>
      cases i with
      | zero => simp [cells]
      | succ i =>
        simp only [List.set_cons_succ, cells, List.getElem_cons_succ]
        rw [ih us i (by simpa using hi)]
theorem zipSet {us : List Value} {ms : List Sg} {i : Nat} {u : Value} (hu : us[i]? = some u) (m : Sg) : (us.zip (ms.map Sg.d)).set i (u, m.d) = us.zip ((ms.set i m).map Sg.d) := by
  induction ms generalizing us i with
  | nil => simp
  | cons y ms ih =>
    match us, hu with
    | x :: us, hu =>
      cases i with
      | zero =>
        simp only [List.getElem?_cons_zero, Option.some.injEq] at hu
        subst hu; simp
      | succ i =>
        simp only [List.map_cons, List.zip_cons_cons, List.set_cons_succ]
        rw [ih (by simpa using hu)]
/-- A struct of a slice of numbers and a number is returned. -/
def RetSg (w : World) (a0 : Int) (l : List Int) (e : Ending) (w' : World) : Prop := ∃ u, e = .returned (.agg #[u, .int .i64 a0]) ∧ Own w' w.heap.size u l ∧ Below w.heap.size w w'

/-- n zero steps, as a new block holds them. -/
def madeS (n : Nat) : Array Value := madeCells (Value.agg #[.slice none 0 0, .int .i64 0]).cells (n * 2)
theorem size_madeS (n : Nat) : (madeS n).size = n * 2 := by simp [madeS, madeCells]
theorem set2 {X Y : List Value} {k : Nat} (a b : Value) (hk : X.length = k) (hY : 2 ≤ Y.length) : ((X ++ Y).set k a).set (k + 1) b = X ++ [a, b] ++ Y.drop 2 := by
  subst hk
  match Y, hY with
  | y0 :: y1 :: Y, _ => simp [List.set_append_right]
theorem dLen_get : ∀ (ms : List Sg) (i : Nat) (h : i < ms.length), (ms[i]).d.length ≤ dLen ms
  | m :: ms, 0, _ => by simp [dLen]
  | m :: ms, i + 1, h => by
    have := dLen_get ms i (by simpa using h)
    simp only [dLen, List.getElem_cons_succ]; omega
theorem _root_.Go.Proofs.YtcngijafnnmccaaGreatDoor.St.pushSgX {w0 w : World} {L : List It} (h : St w0 w L) {b off i : Nat} {A : Option Addr} {c : Nat} {m : Sg} (hm : SgAt w0 b (off + i * 2) m (.slice A m.d.length c)) : St w0 w (.fact (fun w' => SgAt w' b (off + i * 2) m (.slice A m.d.length c)) :: L) := h.pushOld hm.fact

end Stp
end Go.Proofs.YtcngijafnnmccaaGreatDoor
