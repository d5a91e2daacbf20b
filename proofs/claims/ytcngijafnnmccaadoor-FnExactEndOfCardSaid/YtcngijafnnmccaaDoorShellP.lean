/- Cartan matrices and slices of steps, opened as arguments of a law; the wrap of a row that lists variables and reads a variable of the library's own. -/
import Derived.Test.YtcngijafnnmccaaDoorShellC
import Derived.Test.YtcngijafnnmccaaDoorStpA
import Derived.Test.YtcngijafnnmccaaDoorCarX
import Derived.Handed
import Derived.Shelf.Vars
namespace Go.Proofs.YtcngijafnnmccaaDoor
set_option maxRecDepth 100000
open Go.ChangeShapes Go.WideShapes Go.ChangeAt Go.RowKit Go.Joins

instance : Inhabited Stp.Sg := ⟨⟨[], 0⟩⟩
section
variable {H : Type} {enc : TypeId × Value → H}
theorem openCartan {r : Reach} {b0 base : Nat} {w : World} {spare : Nat → Bool} {held : Bool} {v : Value} {d : DataW H} {ps : List MemPlace} (hv : Value.okWide Tryd.prog w r b0 28 v)
    (h : DataW.Trod enc Tryd.prog w base spare held 28 v d ps) :
    ∃ (a : Int) (u : Value) (l : List Int), v = .agg #[.int .i64 a, u] ∧ Ints w u l ∧ (Lit.int .i64 a).wf = true ∧ ∀ x ∈ l, (Lit.int .i64 x).wf = true := by
  obtain ⟨v0, v1, y0, y1, n, rfl, _, _, h0, h1⟩ := open_agg2 Tryd.underlying28 (by kernel_rfl) (by kernel_rfl) hv h
  obtain ⟨a, rfl, wa⟩ := openIntT h0
  obtain ⟨l, k, wl⟩ := openIntsT h1
  exact ⟨a, v1, l, rfl, k, wa, wl⟩
theorem cellsS2 : Tryd.prog.cellsOf 52 = 2 := by kernel_rfl
theorem openSteps {r : Reach} {b0 base : Nat} {w : World} {spare : Nat → Bool} {held : Bool} {v : Value} {d : DataW H} {ps : List MemPlace} (hv : Value.okWide Tryd.prog w r b0 29 v)
    (h : DataW.Trod enc Tryd.prog w base spare held 29 v d ps) : ∃ ms : List Stp.Sg, Stp.StR w v ms := by
  obtain ⟨a0, len, cap, rfl⟩ := okWide_slice Tryd.underlying29 hv
  obtain ⟨fuel, hf⟩ := h
  rcases Go.Deep.open_slice Tryd.underlying29 hf with ⟨hcs, _⟩ | ⟨a, len', cap', m, n, D, Pl, hcs, _, hl, hm, hmm, _, hx⟩
  · simp only [Value.cells, List.cons.injEq, and_true, Value.slice.injEq] at hcs
    obtain ⟨rfl, rfl, rfl⟩ := hcs
    exact ⟨[], ⟨none, 0, rfl, by simp, by simp, fun h => by simp at h⟩⟩
  · simp only [Value.cells, List.cons.injEq, and_true, Value.slice.injEq] at hcs
    obtain ⟨rfl, rfl, rfl⟩ := hcs
    have hlm : len ≤ m := by rw [hmm]; split <;> omega
    have each : ∀ i, i < len → ∃ q : Stp.Sg × Value, w.cell? (a.add (i * 2)) = some q.2 ∧ w.cell? (a.add (i * 2 + 1)) = some (.int .i64 q.1.n) ∧ Ints w q.2 q.1.d := by
      intro i hi
      obtain ⟨cs', h1, h2⟩ := hx i (by omega)
      rw [cellsS2] at h1
      obtain ⟨_, hlen, hcell⟩ := World.cells?_some h1
      obtain ⟨y0, y1, k, _, _, g0, g1⟩ := trod_struct2 Tryd.underlying52 h2
      match cs', hlen with
      | [v0, v1], _ =>
        obtain ⟨l, k3, w3⟩ := openIntsT (enc := enc) (w := w) (base := base) (spare := spare) (held := held) (v := v0) (by simpa [show Tryd.prog.cellsOf 22 = 1 from by kernel_rfl] using g0)
        obtain ⟨x1, rfl, w1⟩ := openIntT (enc := enc) (w := w) (base := base) (spare := spare) (held := held) (v := v1) (by simpa [show Tryd.prog.cellsOf 22 = 1 from by kernel_rfl, cellsI] using g1)
        have e0 := hcell 0 (by omega)
        have e1 := hcell 1 (by omega)
        rw [Go.Deep.add_add] at e0 e1
        exact ⟨(⟨l, x1⟩, v0), by simpa using e0, by simpa using e1, k3⟩
    obtain ⟨q, hq⟩ := Go.Deep.choose_lt each
    have hlen : ((List.range len).map fun i => (q i).1).length = len := by simp
    refine ⟨(List.range len).map fun i => (q i).1, ⟨some a, cap, by rw [hlen], by omega, by simpa [maxLen] using hm, fun hp => ?_⟩⟩
    rw [hlen] at hp
    obtain ⟨b, off, sp⟩ := a
    have h0 := (hq 0 hp).1
    obtain rfl : sp = none := by
      cases sp with
      | none => rfl
      | some s =>
        exfalso
        have e0 : (Addr.mk b off (some s)).add (0 * 2) = Addr.mk b off (some s) := by simp [Addr.add]
        rw [e0] at h0
        unfold World.cell? at h0
        split at h0
        · simp at h0
        · cases h0
    refine ⟨b, off, rfl, fun i m hi => ?_⟩
    simp only [List.getElem?_map, Option.map_eq_some_iff] at hi
    obtain ⟨j, hj, rfl⟩ := hi
    obtain ⟨hjl, rfl⟩ : i < len ∧ i = j := by
      rw [List.getElem?_eq_some_iff] at hj
      obtain ⟨hj1, hj2⟩ := hj
      simp at hj1 hj2
      exact ⟨hj1, hj2⟩
    obtain ⟨f0, f1, f4⟩ := hq i hjl
    have ad : ∀ k : Nat, (Addr.mk b off none).add k = ⟨b, off + k, none⟩ := fun k => by by_cases h : k = 0 <;> simp [Addr.add, h]
    rw [ad] at f0 f1
    exact ⟨⟨_, f0, f4⟩, by simpa [Nat.add_assoc] using f1⟩
end

theorem Car.wf_both {x : Int} (h : (Lit.int .i64 x).wf = true) : -9223372036854775808 ≤ x ∧ x ≤ 9223372036854775807 := by
  simp [Lit.wf, IntKind.min, IntKind.max, IntKind.signed, IntKind.bits] at h
  omega
/-- As returnsInHanded_of_change_and, the world's shape handed to the contract. -/
theorem handedAndShaped {H : Type} {enc : TypeId × Value → H} {a : Assume} {C : Checked} {os : Os} {f : FuncId} {fn : Func} {s : ChangeSpec} {conds : List PathCond} {apart fresh handsOn again : Bool} {X : World → Array Value → Prop}
    (hX : ∀ (w w' : World) (args : Array Value), w.heap = w'.heap → X w args → X w' args)
    (own : ownKnob C.prog.godebug = none) (started : os.Started) (noInit : C.prog.inits.idxOf? f = none) (hfn : C.prog.funcs[f]? = some fn)
    (witness : ∃ (w : World) (tape : Tape) (i : Input), w.os = os ∧ (w.forCall tape i).Shaped C.prog ∧ i.vars = [] ∧ Input.okWide C.prog (w.forCall tape i) .any w.heap.size f i ∧
      ((s.pre enc C.prog fn conds apart (w.forCall tape i).memory i.args ∧ X (w.forCall tape i).memory i.args) ∧ sizedMet enc C.prog fn (OpenSpec.ofChange s) apart (w.forCall tape i).memory i.args) ∧ a.holds C.prog (lone (Frame.enter C.prog f i.args .normal) [] (w.forCall tape i)))
    (contract : ∀ (W : World) (base : Nat) (args : Array Value) (ds gs : List (DataW H)) (before : List MemPlace),
      (∀ (j : Nat) t v, fn.params[j]? = some t → args[j]? = some v → Value.okWide C.prog W .any base t v) →
      DataW.Whole enc C.prog fn.params.toList s.vars apart W args.toList ds gs before →
      X W args → W.ShapedOpen C.prog →
      Calls C.prog f args W fun e W' => ∃ v, e = .returned v ∧ s.post enc C.prog fn apart fresh handsOn again W args v W') :
    ReturnsInHanded a C os f .any (fun w args => (s.pre enc C.prog fn conds apart w args ∧ X w args) ∧ sizedMet enc C.prog fn (OpenSpec.ofChange s) apart w args) (s.post enc C.prog fn apart fresh handsOn again) := by
  refine returnsInHanded_of_calls own started noInit witness ?_
  intro w tape i _ hsh _ hok hpre _
  obtain ⟨_, _, _, fn', hfn', _, _, _, _, hval⟩ := hok
  have e : fn' = fn := Option.some.inj (hfn'.symm.trans hfn)
  subst e
  obtain ⟨⟨⟨ds, gs, before, hw, _⟩, hx⟩, _⟩ := hpre
  refine (contract (w.forCall tape i) w.heap.size i.args ds gs before hval (DataW.Whole.of_heap (w' := w.forCall tape i) (by rfl) hw) (hX _ _ _ (by rfl) hx) hsh).mono fun e W' ⟨v, he, hp⟩ => ?_
  subst he
  exact ChangeSpec.post_blind hp
theorem maxAt_of_shaped {w : World} (h : w.ShapedOpen Tryd.prog) : Car.MaxAt w :=
  cell_of_shapedOpen_int (zero := #[.int .i64 0]) (t := 3) h (of_decide_eq_true (by kernel_rfl)) (by kernel_rfl) rfl (by kernel_rfl) (by kernel_rfl) Tryd.underlying3
end Go.Proofs.YtcngijafnnmccaaDoor
