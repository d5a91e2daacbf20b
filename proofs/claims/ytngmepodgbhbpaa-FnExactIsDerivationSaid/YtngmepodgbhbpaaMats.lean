/- Slices of matrices; append of a row, of a matrix, of a number, onto a piece of a call's memory. -/
import Derived.Test.YtngmepodgbhbpaaVec
namespace Go.Proofs.Ytngmepodgbhbpaa
set_option maxRecDepth 100000
open Go.RowKit

/-- A matrix as it reads. -/
structure Mt where
  p : Int
  r : Int
  c : Int
  d : List Int

def matCells : List Value → List Mt → List Value
  | u :: us, m :: ms => .int .i64 m.p :: .int .i64 m.r :: .int .i64 m.c :: u :: matCells us ms
  | _, _ => []
theorem length_matCells : ∀ (us : List Value) (ms : List Mt), us.length = ms.length → (matCells us ms).length = ms.length * 4
  | [], [], _ => rfl
  | u :: us, m :: ms, h => by simp only [matCells, List.length_cons]; rw [length_matCells us ms (by simpa using h)]; omega
theorem matCells_get : ∀ (us : List Value) (ms : List Mt) (i : Nat) (u : Value) (m : Mt), us[i]? = some u → ms[i]? = some m →
    (matCells us ms)[i * 4]? = some (.int .i64 m.p) ∧ (matCells us ms)[i * 4 + 1]? = some (.int .i64 m.r) ∧ (matCells us ms)[i * 4 + 2]? = some (.int .i64 m.c) ∧ (matCells us ms)[i * 4 + 3]? = some u
  | [], _, _, _, _, h, _ => by simp at h
  | _ :: _, [], _, _, _, _, h => by simp at h
  | u :: us, m :: ms, 0, u', m', h, h' => by
    simp only [List.getElem?_cons_zero, Option.some.injEq] at h h'
    subst h; subst h'
    exact ⟨rfl, rfl, rfl, rfl⟩
  | u :: us, m :: ms, i + 1, u', m', h, h' => by
    have := matCells_get us ms i u' m' (by simpa using h) (by simpa using h')
    have e : (i + 1) * 4 = i * 4 + 4 := by omega
    simp only [matCells, e, Nat.add_right_comm _ 4, List.getElem?_cons_succ]
    exact this
theorem matCells_snoc : ∀ (us : List Value) (ms : List Mt) (u : Value) (m : Mt), us.length = ms.length → matCells (us ++ [u]) (ms ++ [m]) = matCells us ms ++ [.int .i64 m.p, .int .i64 m.r, .int .i64 m.c, u]
  | [], [], _, _, _ => rfl
  | a :: us, b :: ms, u, m, h => by simp only [List.cons_append, matCells]; rw [matCells_snoc us ms u m (by simpa using h)]

def matsIt (v : Value) (us : List Value) (ms : List Mt) : It := .vec v 44 4 ms.length (matCells us ms) (us.zip (ms.map Mt.d))
def rowsIt (v : Value) (us : List Value) (ll : List (List Int)) : It := .vec v 22 1 ll.length us (us.zip ll)

/-- A slice of matrices that is read. -/
def MatsR (w : World) (v : Value) (ms : List Mt) : Prop :=
  ∃ A c, v = .slice A ms.length c ∧ ms.length ≤ c ∧ c ≤ 9223372036854775807 ∧
    (0 < ms.length → ∃ b off, A = some ⟨b, off, none⟩ ∧ ∀ (i : Nat) (m : Mt), ms[i]? = some m → w.cell? ⟨b, off + i * 4, none⟩ = some (.int .i64 m.p) ∧ w.cell? ⟨b, off + i * 4 + 1, none⟩ = some (.int .i64 m.r) ∧
      w.cell? ⟨b, off + i * 4 + 2, none⟩ = some (.int .i64 m.c) ∧ ∃ u, w.cell? ⟨b, off + i * 4 + 3, none⟩ = some u ∧ Ints w u m.d)
theorem zip_get {us : List Value} {ls : List (List Int)} {i : Nat} {u : Value} {l : List Int} (h1 : us[i]? = some u) (h2 : ls[i]? = some l) : (us.zip ls)[i]? = some (u, l) := by
  rw [List.getElem?_zip_eq_some]; exact ⟨h1, h2⟩
theorem It.mats {B : Nat} {w : World} {v : Value} {us : List Value} {ms : List Mt} (h : (matsIt v us ms).ok B w) (hl : us.length = ms.length) : MatsR w v ms := by
  obtain ⟨h1, h2⟩ := h
  rcases id h1.2 with ⟨rfl, h0⟩ | ⟨g, cap, cur, rfl, hb, hg, hn, hm, _⟩
  · obtain rfl : ms = [] := List.eq_nil_of_length_eq_zero h0
    exact ⟨none, 0, rfl, by simp, by simp, fun h => by simp at h⟩
  · refine ⟨_, cap, rfl, hn, by simpa [maxLen] using hm, fun _ => ⟨g, 0, rfl, fun i m hi => ?_⟩⟩
    have hil := (List.getElem?_eq_some_iff.1 hi).1
    have hu : us[i]? = some (us[i]'(by omega)) := List.getElem?_eq_getElem _
    obtain ⟨k0, k1, k2, k3⟩ := matCells_get us ms i _ m hu hi
    have at_ : ∀ k, k < 4 → w.cell? ⟨g, 0 + i * 4 + k, none⟩ = (matCells us ms)[i * 4 + k]? := fun k hk => by
      rw [Nat.zero_add]; exact World.ownsRow.cellAt h1 _ (by omega)
    refine ⟨by rw [show 0 + i * 4 = 0 + i * 4 + 0 from rfl, at_ 0 (by omega)]; exact k0, (at_ 1 (by omega)).trans k1, (at_ 2 (by omega)).trans k2, _, (at_ 3 (by omega)).trans k3, ?_⟩
    exact Own.ints (h2 (us[i]'(by omega), m.d) (List.mem_of_getElem? (zip_get hu (by rw [List.getElem?_map, hi]; rfl))))
theorem MatsR.keep {w w' : World} {v : Value} {ms : List Mt} (h : MatsR w v ms) (hk : ∀ p : Addr, p.block < w.heap.size → w'.cell? p = w.cell? p) : MatsR w' v ms := by
  obtain ⟨A, c, rfl, h1, h2, h3⟩ := h
  refine ⟨A, c, rfl, h1, h2, fun hl => ?_⟩
  obtain ⟨b, off, rfl, hc⟩ := h3 hl
  refine ⟨b, off, rfl, fun i m hi => ?_⟩
  obtain ⟨k0, k1, k2, u, k3, k4⟩ := hc i m hi
  have kk : ∀ {o : Nat} {x : Value}, w.cell? ⟨b, o, none⟩ = some x → w'.cell? ⟨b, o, none⟩ = some x := fun h => (hk _ (World.block_lt_of_cell? w _ h)).trans h
  exact ⟨kk k0, kk k1, kk k2, u, kk k3, k4.keep hk⟩
theorem MatsR.below {w w' : World} {v : Value} {ms : List Mt} (h : MatsR w v ms) (hb : Below w.heap.size w w') : MatsR w' v ms := h.keep fun _ hp => hb.cell hp
theorem MatsR.fact {w : World} {v : Value} {ms : List Mt} (h : MatsR w v ms) : It.ok w.heap.size w (.fact fun w' => MatsR w' v ms) := fun _ hk => h.keep fun p hp => World.cell?_of_block (hk p.block hp)
/-- One matrix of such a slice. -/
def MtAt (w : World) (b o : Nat) (m : Mt) (u : Value) : Prop :=
  w.cell? ⟨b, o, none⟩ = some (.int .i64 m.p) ∧ w.cell? ⟨b, o + 1, none⟩ = some (.int .i64 m.r) ∧ w.cell? ⟨b, o + 2, none⟩ = some (.int .i64 m.c) ∧ w.cell? ⟨b, o + 3, none⟩ = some u ∧ Ints w u m.d
theorem MtAt.fact {w : World} {b o : Nat} {m : Mt} {u : Value} (h : MtAt w b o m u) : It.ok w.heap.size w (.fact fun w' => MtAt w' b o m u) := fun w' hk => by
  have kk : ∀ {o : Nat} {x : Value}, w.cell? ⟨b, o, none⟩ = some x → w'.cell? ⟨b, o, none⟩ = some x := fun h => (World.cell?_of_block (hk _ (World.block_lt_of_cell? w _ h))).trans h
  exact ⟨kk h.1, kk h.2.1, kk h.2.2.1, kk h.2.2.2.1, h.2.2.2.2.keep fun p hp => World.cell?_of_block (hk p.block hp)⟩
theorem MatsR.at {w : World} {A : Option Addr} {n c : Nat} {ms : List Mt} (h : MatsR w (.slice A n c) ms) {i : Nat} (hi : i < ms.length) :
    ∃ b off A' c', A = some ⟨b, off, none⟩ ∧ MtAt w b (off + i * 4) ms[i] (.slice A' ms[i].d.length c') := by
  obtain ⟨A', c', he, _, _, h3⟩ := h
  simp only [Value.slice.injEq] at he
  obtain ⟨rfl, _, rfl⟩ := he
  obtain ⟨b, off, rfl, hc⟩ := h3 (by omega)
  obtain ⟨k0, k1, k2, u, k3, k4⟩ := hc i ms[i] (List.getElem?_eq_getElem hi)
  obtain ⟨A2, c2, rfl, _⟩ := id k4
  exact ⟨b, off, A2, c2, rfl, k0, k1, k2, k3, k4⟩
theorem St.pushOld {w w' : World} {L : List It} {R : World → Prop} (h : St w w' L) (hR : It.ok w.heap.size w (.fact R)) : St w w' (.fact R :: L) :=
  h.pushFact fun w'' hk => hR w'' fun b hb => (hk b hb).trans (h.below.block b hb)
theorem IntRows.keep {w w' : World} {v : Value} {ll : List (List Int)} (h : IntRows w v ll) (hk : ∀ p : Addr, p.block < w.heap.size → w'.cell? p = w.cell? p) : IntRows w' v ll := by
  obtain ⟨A, c, rfl, h1, h2, h3⟩ := h
  refine ⟨A, c, rfl, h1, h2, fun hl => ?_⟩
  obtain ⟨b, off, rfl, hc⟩ := h3 hl
  refine ⟨b, off, rfl, fun i l hi => ?_⟩
  obtain ⟨u, k1, k2⟩ := hc i l hi
  exact ⟨u, (hk _ (World.block_lt_of_cell? w _ k1)).trans k1, k2.keep hk⟩
theorem IntRows.fact {w : World} {v : Value} {ll : List (List Int)} (h : IntRows w v ll) : It.ok w.heap.size w (.fact fun w' => IntRows w' v ll) := fun _ hk => h.keep fun p hp => World.cell?_of_block (hk p.block hp)
theorem It.rows {B : Nat} {w : World} {v : Value} {us : List Value} {ll : List (List Int)} (h : (rowsIt v us ll).ok B w) (hl : us.length = ll.length) : IntRows w v ll := by
  obtain ⟨h1, h2⟩ := h
  rcases id h1.2 with ⟨rfl, h0⟩ | ⟨g, cap, cur, rfl, hb, hg, hn, hm, _⟩
  · obtain rfl : ll = [] := List.eq_nil_of_length_eq_zero h0
    exact ⟨none, 0, rfl, by simp, by simp, fun h => by simp at h⟩
  · refine ⟨_, cap, rfl, hn, by simpa [maxLen] using hm, fun _ => ⟨g, 0, rfl, fun i l hi => ?_⟩⟩
    have hil := (List.getElem?_eq_some_iff.1 hi).1
    have hu : us[i]? = some (us[i]'(by omega)) := List.getElem?_eq_getElem _
    refine ⟨_, by rw [Nat.zero_add]; exact (World.ownsRow.cellAt h1 i (by omega)).trans hu, Own.ints (h2 (us[i]'(by omega), l) (List.mem_of_getElem? (zip_get hu hi)))⟩

/-- What a function leaves that returns slices of matrices, of rows. -/
def RetMs (w : World) (ms : List Mt) (e : Ending) (w' : World) : Prop := ∃ v us, e = .returned v ∧ us.length = ms.length ∧ It.ok w.heap.size w' (matsIt v us ms) ∧ (matsIt v us ms).fp.Nodup ∧ Below w.heap.size w w'
def RetLL (w : World) (ll : List (List Int)) (e : Ending) (w' : World) : Prop := ∃ v us, e = .returned v ∧ us.length = ll.length ∧ It.ok w.heap.size w' (rowsIt v us ll) ∧ (rowsIt v us ll).fp.Nodup ∧ Below w.heap.size w w'

section
variable {w0 w : World} {L : List It}
theorem St.mats (h : St w0 w L) (i : Nat) {v : Value} {us : List Value} {ms : List Mt} (hi : L[i]? = some (matsIt v us ms)) (hl : us.length = ms.length) : MatsR w v ms := It.mats (h.at i hi) hl
theorem St.rowsR (h : St w0 w L) (i : Nat) {v : Value} {us : List Value} {ll : List (List Int)} (hi : L[i]? = some (rowsIt v us ll)) (hl : us.length = ll.length) : IntRows w v ll := It.rows (h.at i hi) hl
theorem St.pushMats (h : St w0 w L) {w' : World} {v : Value} {us : List Value} {ms : List Mt} (hb : Below w.heap.size w w') (hok : It.ok w.heap.size w' (matsIt v us ms)) (hnd : (matsIt v us ms).fp.Nodup) : St w0 w' (matsIt v us ms :: L) := h.pushVec hb hok hnd
theorem St.pushRows (h : St w0 w L) {w' : World} {v : Value} {us : List Value} {ll : List (List Int)} (hb : Below w.heap.size w w') (hok : It.ok w.heap.size w' (rowsIt v us ll)) (hnd : (rowsIt v us ll).fp.Nodup) : St w0 w' (rowsIt v us ll :: L) := h.pushVec hb hok hnd
theorem vec_nil {B : Nat} {w : World} {e sz : Nat} : It.ok B w (.vec (.slice none 0 0) e sz 0 [] []) := ⟨World.ownsRow_nil w B e sz, fun s hs => by cases hs⟩
theorem St.emptyMats (h : St w0 w L) : St w0 (w.alloc (.cells #[] 44)) (matsIt (.slice (some ⟨w.heap.size, 0, none⟩) 0 0) [] [] :: L) :=
  h.push (x := matsIt (.slice (some ⟨w.heap.size, 0, none⟩) 0 0) [] []) ((Below.refl _ _).alloc (Nat.le_refl _) _) ⟨World.ownsRow_lit (base := w0.heap.size) (e := 44) (size := 4) w #[] 0 h.size (by simp) rfl, fun s hs => by cases hs⟩ (fun b hb => by simp [matsIt, It.fp, Value.ownBlock] at hb; omega) (by simp [matsIt, It.fp, Value.ownBlock])
theorem St.emptyRows (h : St w0 w L) : St w0 (w.alloc (.cells #[] 22)) (rowsIt (.slice (some ⟨w.heap.size, 0, none⟩) 0 0) [] [] :: L) :=
  h.push (x := rowsIt (.slice (some ⟨w.heap.size, 0, none⟩) 0 0) [] []) ((Below.refl _ _).alloc (Nat.le_refl _) _) ⟨World.ownsRow_lit (base := w0.heap.size) (e := 22) (size := 1) w #[] 0 h.size (by simp) rfl, fun s hs => by cases hs⟩ (fun b hb => by simp [rowsIt, It.fp, Value.ownBlock] at hb; omega) (by simp [rowsIt, It.fp, Value.ownBlock])

theorem infoM : (Try.prog.info? 44).map (fun i => (i.zero, i.size, i.bytes)) = some (some (.agg #[.int .i64 0, .int .i64 0, .int .i64 0, .slice none 0 0]), 4, 48) := by kernel_rfl

/-- append of one element of some cells. -/
theorem run_append_vec (t ty e sz bytes : Nat) (i : TypeInfo) (z : Value) (ht : Try.prog.underlying t = some (.slice e)) (hi : Try.prog.info? e = some i) (hz : i.zero = some z) (hsize : i.size = sz) (hby : i.bytes = bytes) (hzs : z.cells.size = sz) (hsz : 0 < sz)
    (h : St w0 w L) (j : Nat) {v : Value} {n : Nat} {cs : List Value} {subs : List (Value × List Int)} (hj : L[j]? = some (.vec v e sz n cs subs)) (news : List Value) (hl : news.length = sz) (h1 : ∀ u ∈ news, u.oneCell' = true)
    (h63 : n + 1 ≤ maxLen) (hbytes : (n + 1) * bytes ≤ 140737488355328) :
    ∃ v' w', (Builtin.append_ #[t, t] ty #[v, .slice (some ⟨w.heap.size, 0, none⟩) 1 1]).run Try.prog (w.alloc (.cells news.toArray e)) = .ok v' w' ∧ St w0 w' (L.set j (.vec v' e sz (n + 1) (cs ++ news) subs)) := by
  have ha := h.alloc' (.cells news.toArray e)
  obtain ⟨v', w', hr, k1, k2, _, k4⟩ := run_append_own_at (P := Try.prog) (w := w.alloc (.cells news.toArray e)) w0.heap.size t ty e i z sz bytes ht hi hz hsize hby hzs hsz v n cs (ha.vec j hj).1 ⟨w.heap.size, 0, none⟩ 1 1 news (by omega)
    (fun k u hk => by
      rw [add_zero_spot, Nat.zero_add, cell_of_row _ _ k news.toArray _ _ (heap_alloc_new w _)]
      simpa using hk) h1 h63 hbytes ha.size
  refine ⟨v', w', hr, ha.updVec j hj k2 (fun b hb => ?_) k1⟩
  rcases k4 with e | e
  · exact .inl (by rw [← e]; exact hb)
  · right
    rw [e] at hb
    simp only [Option.some.injEq] at hb
    omega

theorem wp_append_vec {ops : Array Oper} {rest : List Oper} {o : Oper} {a : Act} {Q : Exit → Act → World → Prop} (hgd : o.guard = none) (s x : Operand) (t e sz bytes : Nat) (i : TypeInfo) (z : Value)
    (ho : o.op = .call { callee := .builtin .append, args := #[s, x], argTypes := #[t, t] }) (ht : Try.prog.underlying t = some (.slice e)) (hi : Try.prog.info? e = some i) (hz : i.zero = some z) (hsize : i.size = sz) (hby : i.bytes = bytes) (hzs : z.cells.size = sz) (hsz : 0 < sz)
    (h : St w0 w L) (j : Nat) {v : Value} {n : Nat} {cs : List Value} {subs : List (Value × List Int)} (hj : L[j]? = some (.vec v e sz n cs subs)) (news : List Value) (hl : news.length = sz) (h1 : ∀ u ∈ news, u.oneCell' = true)
    (hs : a.eval s = v) (hx : a.eval x = .slice (some ⟨w.heap.size, 0, none⟩) 1 1) (h63 : n + 1 ≤ maxLen) (hbytes : (n + 1) * bytes ≤ 140737488355328)
    (hk : ∀ v' w', St w0 w' (L.set j (.vec v' e sz (n + 1) (cs ++ news) subs)) → wpList Try.prog ops Q rest (a.put o.dst v') w') : wpList Try.prog ops Q (o :: rest) a (w.alloc (.cells news.toArray e)) := by
  refine wpList_plain hgd fun K hK => ?_
  obtain ⟨v', w', hr, k1⟩ := run_append_vec t o.type e sz bytes i z ht hi hz hsize hby hzs hsz h j hj news hl h1 h63 hbytes
  unfold Oper.wp execOp
  simp only [ho, resolve, invoke, builtin, Sem.run_bind, Sem.run_pure, Result.andThen_ok, List.map_toArray, List.map_cons, List.map_nil, hs, hx, hr]
  exact hK _ _ (hk v' w' k1)

/-- append of a row of the call's own: it goes over to the slice. -/
theorem wp_append_row' {ops : Array Oper} {rest : List Oper} {o : Oper} {a : Act} {Q : Exit → Act → World → Prop} (hgd : o.guard = none) (s x : Operand)
    (ho : o.op = .call { callee := .builtin .append, args := #[s, x], argTypes := #[81, 81] }) {u v : Value} {l : List Int} {us : List Value} {ll : List (List Int)} (h : St w0 w (.own u l :: L)) (j : Nat) (hj : L[j]? = some (rowsIt v us ll)) (hul : us.length = ll.length)
    (hs : a.eval s = v) (hx : a.eval x = .slice (some ⟨w.heap.size, 0, none⟩) 1 1) (hlen : ll.length + 1 ≤ 1099511627776)
    (hk : ∀ v' w', St w0 w' (L.set j (rowsIt v' (us ++ [u]) (ll ++ [l]))) → wpList Try.prog ops Q rest (a.put o.dst v') w') : wpList Try.prog ops Q (o :: rest) a (w.alloc (.cells #[u] 22)) := by
  obtain ⟨i, h1, h2, h3, h4⟩ := info_parts infoR
  have hab := h.absorb j hj
  have hil : j < L.length := (List.getElem?_eq_some_iff.1 hj).1
  have ho' : Own w w0.heap.size u l := h.own 0 rfl
  refine wp_append_vec hgd s x 81 22 1 24 i _ ho Try.underlying81 h1 h2 h3 h4 rfl (by decide) hab j (by rw [List.getElem?_set_self hil]) [u] rfl (by simpa using ho'.one) hs hx (by simp only [maxLen]; omega) (by omega) fun v' w' hst => hk v' w' ?_
  rw [List.set_set] at hst
  have e : rowsIt v' (us ++ [u]) (ll ++ [l]) = .vec v' 22 1 (ll.length + 1) (us ++ [u]) (us.zip ll ++ [(u, l)]) := by
    unfold rowsIt; rw [List.zip_append hul]; simp
  rw [e]; exact hst
/-- append of a matrix whose numbers are the call's own. -/
theorem wp_append_mat {ops : Array Oper} {rest : List Oper} {o : Oper} {a : Act} {Q : Exit → Act → World → Prop} (hgd : o.guard = none) (s x : Operand)
    (ho : o.op = .call { callee := .builtin .append, args := #[s, x], argTypes := #[35, 35] }) {u v : Value} (m : Mt) {us : List Value} {ms : List Mt} (h : St w0 w (.own u m.d :: L)) (j : Nat) (hj : L[j]? = some (matsIt v us ms)) (hul : us.length = ms.length)
    (hs : a.eval s = v) (hx : a.eval x = .slice (some ⟨w.heap.size, 0, none⟩) 1 1) (hlen : ms.length + 1 ≤ 1099511627776)
    (hk : ∀ v' w', St w0 w' (L.set j (matsIt v' (us ++ [u]) (ms ++ [m]))) → wpList Try.prog ops Q rest (a.put o.dst v') w') : wpList Try.prog ops Q (o :: rest) a (w.alloc (.cells #[.int .i64 m.p, .int .i64 m.r, .int .i64 m.c, u] 44)) := by
  obtain ⟨i, h1, h2, h3, h4⟩ := info_parts infoM
  have hab := h.absorb j hj
  have hil : j < L.length := (List.getElem?_eq_some_iff.1 hj).1
  have ho' : Own w w0.heap.size u m.d := h.own 0 rfl
  refine wp_append_vec hgd s x 35 44 4 48 i _ ho Try.underlying35 h1 h2 h3 h4 rfl (by decide) hab j (by rw [List.getElem?_set_self hil]) [.int .i64 m.p, .int .i64 m.r, .int .i64 m.c, u] rfl (by
    intro y hy
    simp only [List.mem_cons, List.not_mem_nil, or_false] at hy
    rcases hy with rfl | rfl | rfl | rfl
    · rfl
    · rfl
    · rfl
    · exact ho'.one) hs hx (by simp only [maxLen]; omega) (by omega) fun v' w' hst => hk v' w' ?_
  rw [List.set_set] at hst
  have e : matsIt v' (us ++ [u]) (ms ++ [m]) = .vec v' 44 4 (ms.length + 1) (matCells us ms ++ [.int .i64 m.p, .int .i64 m.r, .int .i64 m.c, u]) (us.zip (ms.map Mt.d) ++ [(u, m.d)]) := by
    unfold matsIt; rw [matCells_snoc us ms u m hul, List.map_append, List.zip_append (by simpa using hul)]; simp
  rw [e]; exact hst
/-- The same at a step of a region that draws its order. -/
theorem step_append_mat {ops : Array Oper} {o : Oper} {a : Act} {K : Act → World → Prop} {Q : Exit → Act → World → Prop} {E : Prop} (hgd : o.guard = none) (s x : Operand)
    (ho : o.op = .call { callee := .builtin .append, args := #[s, x], argTypes := #[35, 35] }) {u v : Value} (m : Mt) {us : List Value} {ms : List Mt} (h : St w0 w (.own u m.d :: L)) (j : Nat) (hj : L[j]? = some (matsIt v us ms)) (hul : us.length = ms.length)
    (hs : a.eval s = v) (hx : a.eval x = .slice (some ⟨w.heap.size, 0, none⟩) 1 1) (hlen : ms.length + 1 ≤ 1099511627776)
    (hk : ∀ v' w', St w0 w' (L.set j (matsIt v' (us ++ [u]) (ms ++ [m]))) → K (a.put o.dst v') w') :
    if Region.wanted o (yielded ops a.tmps) = true then Oper.wp Try.prog o a (w.alloc (.cells #[.int .i64 m.p, .int .i64 m.r, .int .i64 m.c, u] 44)) K Q else E := by
  have hw : Region.wanted o (yielded ops a.tmps) = true := by simp [Region.wanted, hgd]
  rw [if_pos hw]
  obtain ⟨i, h1, h2, h3, h4⟩ := info_parts infoM
  have hab := h.absorb j hj
  have hil : j < L.length := (List.getElem?_eq_some_iff.1 hj).1
  have ho' : Own w w0.heap.size u m.d := h.own 0 rfl
  obtain ⟨v', w', hr, hst⟩ := run_append_vec 35 o.type 44 4 48 i _ Try.underlying35 h1 h2 h3 h4 rfl (by decide) hab j (by rw [List.getElem?_set_self hil]) [.int .i64 m.p, .int .i64 m.r, .int .i64 m.c, u] rfl (by
    intro y hy
    simp only [List.mem_cons, List.not_mem_nil, or_false] at hy
    rcases hy with rfl | rfl | rfl | rfl
    · rfl
    · rfl
    · rfl
    · exact ho'.one) (by simp only [maxLen]; omega) (by omega)
  rw [List.set_set] at hst
  have e : matsIt v' (us ++ [u]) (ms ++ [m]) = .vec v' 44 4 (ms.length + 1) (matCells us ms ++ [.int .i64 m.p, .int .i64 m.r, .int .i64 m.c, u]) (us.zip (ms.map Mt.d) ++ [(u, m.d)]) := by
    unfold matsIt; rw [matCells_snoc us ms u m hul, List.map_append, List.zip_append (by simpa using hul)]; simp
  unfold Oper.wp execOp
  simp only [ho, resolve, invoke, builtin, Sem.run_bind, Sem.run_pure, Result.andThen_ok, List.map_toArray, List.map_cons, List.map_nil, hs, hx, hr]
  exact hk _ _ (by rw [e]; exact hst)
theorem step_append_row {ops : Array Oper} {o : Oper} {a : Act} {K : Act → World → Prop} {Q : Exit → Act → World → Prop} {E : Prop} (hgd : o.guard = none) (s x : Operand)
    (ho : o.op = .call { callee := .builtin .append, args := #[s, x], argTypes := #[81, 81] }) {u v : Value} {l : List Int} {us : List Value} {ll : List (List Int)} (h : St w0 w (.own u l :: L)) (j : Nat) (hj : L[j]? = some (rowsIt v us ll)) (hul : us.length = ll.length)
    (hs : a.eval s = v) (hx : a.eval x = .slice (some ⟨w.heap.size, 0, none⟩) 1 1) (hlen : ll.length + 1 ≤ 1099511627776)
    (hk : ∀ v' w', St w0 w' (L.set j (rowsIt v' (us ++ [u]) (ll ++ [l]))) → K (a.put o.dst v') w') :
    if Region.wanted o (yielded ops a.tmps) = true then Oper.wp Try.prog o a (w.alloc (.cells #[u] 22)) K Q else E := by
  have hw : Region.wanted o (yielded ops a.tmps) = true := by simp [Region.wanted, hgd]
  rw [if_pos hw]
  obtain ⟨i, h1, h2, h3, h4⟩ := info_parts infoR
  have hab := h.absorb j hj
  have hil : j < L.length := (List.getElem?_eq_some_iff.1 hj).1
  have ho' : Own w w0.heap.size u l := h.own 0 rfl
  obtain ⟨v', w', hr, hst⟩ := run_append_vec 81 o.type 22 1 24 i _ Try.underlying81 h1 h2 h3 h4 rfl (by decide) hab j (by rw [List.getElem?_set_self hil]) [u] rfl (by simpa using ho'.one) (by simp only [maxLen]; omega) (by omega)
  rw [List.set_set] at hst
  have e : rowsIt v' (us ++ [u]) (ll ++ [l]) = .vec v' 22 1 (ll.length + 1) (us ++ [u]) (us.zip ll ++ [(u, l)]) := by
    unfold rowsIt; rw [List.zip_append hul]; simp
  unfold Oper.wp execOp
  simp only [ho, resolve, invoke, builtin, Sem.run_bind, Sem.run_pure, Result.andThen_ok, List.map_toArray, List.map_cons, List.map_nil, hs, hx, hr]
  exact hk _ _ (by rw [e]; exact hst)
end
end Go.Proofs.Ytngmepodgbhbpaa
