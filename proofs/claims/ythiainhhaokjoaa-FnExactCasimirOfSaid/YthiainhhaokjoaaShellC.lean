/- The step from a walk to a row, for every law: the arguments opened, and read again behind the call. Structs of numbers and a slice of numbers, opened as arguments of a law: an algebra. A matrix, and slices of matrices, opened as arguments of a law. -/
import Derived.Test.YthiainhhaokjoaaBase
import Derived.Test.YthiainhhaokjoaaStB
import Derived.ProofKit
import Derived.OpenShut
import Derived.Lib.SmallJoins
import Derived.ChangeSame
import Derived.Deep.Slices
namespace Go.Proofs.Ythiainhhaokjoaa
set_option maxRecDepth 100000
section
section
open Go.ChangeShapes Go.WideShapes Go.ChangeAt Go.RowKit

theorem own : ownKnob Try.prog.godebug = none := by kernel_rfl
theorem laidOut : laidOutB Try.prog = true := by kernel_rfl
theorem cellsI : Try.prog.cellsOf 3 = 1 := by kernel_rfl

section
variable {H : Type} {enc : TypeId × Value → H} {P : Program}
theorem post_of_below {f : Func} {s : ChangeSpec} {apart fresh handsOn again : Bool} {W W' : World} {args : Array Value} {v : Value} {ds gs : List (DataW H)} {before pa pv : List MemPlace}
    (hW : DataW.Whole enc P f.params.toList s.vars apart W args.toList ds gs before)
    (hres : ∀ (b : Nat) (sp : Nat → Bool) (hd : Bool), DataW.TrodAll enc P W' b sp hd f.resultTypes.toList (v.resultList f.resultTypes.size) (s.fn H (ds ++ gs)).results [])
    (hargs : ∀ sp : Nat → Bool, (∀ p ∈ before, sp p.block = true) → DataW.TrodAll enc P W' 0 sp true f.params.toList args.toList (s.fn H (ds ++ gs)).args pa)
    (hvars : ∀ sp : Nat → Bool, (∀ p ∈ before, sp p.block = true) → DataW.TrodVars enc P W' sp s.vars (s.fn H (ds ++ gs)).vars pv)
    (hps : before = pa ++ pv) (hb : Below W.heap.size W W')
    (hok : ∀ (j : Nat) (t : TypeId) (r : Value), f.resultTypes[j]? = some t → (v.resultList f.resultTypes.size)[j]? = some r → Value.okWide P W' .any 0 t r) :
    s.post enc P f apart fresh handsOn again W args v W' := by
  have hlt : ∀ p ∈ before, p.block < W.heap.size := fun p hp => hW.lt p hp
  have hold : ∀ p ∈ before, (fun b => decide (b < W.heap.size)) p.block = true := fun p hp => by simpa using hlt p hp
  refine ⟨ds, gs, before, [], pa, pv, hW, hres _ _ _, hargs _ hold, hvars _ hold, World.keptBut_mono (fun p hp => ⟨hp, ?_⟩) (hb.frame (· ∈ before)), fun _ => ?_⟩
  · rw [hps, List.mem_append] at hp
    exact Or.inr hp
  · obtain ⟨_, _, _, _, _, hz, hn⟩ := hW
    refine ⟨hok, _, _, ([] ++ pa) ++ pv, ⟨[] ++ pa, pv, trodAll_append (hargs _ (fun _ _ => rfl)) (hres _ _ _), hvars _ (fun _ _ => rfl), rfl, ?_, ?_⟩, ?_⟩
    · intro b off hp
      have hin : MemPlace.cell b off ∈ before := by rw [hps]; simpa using hp
      rw [hb.frozen (hlt _ hin)]
      exact hz b off hin
    · intro ha
      have := hn ha
      rw [hps] at this
      simpa using this
    · intro p hp _
      rw [hps]
      simpa using hp

theorem trod_again {t : TypeId} (hl : laidOutB P = true) (hr : P.readableRec t = true) (hrow : t < P.types.size) {W W' : World} {v : Value} {d : DataW H} {ps : List MemPlace}
    (h : DataW.Trod enc P W 0 (fun _ => true) true t v d ps) (hb : Below W.heap.size W W') (hlt : ∀ x ∈ ps, x.block < W.heap.size) {sp : Nat → Bool} (hs : ∀ p ∈ ps, sp p.block = true) :
    DataW.Trod enc P W' 0 sp true t v d ps :=
  WideElems.Trod_stays hl hr hrow h (fun x hx => hb.same (hlt x hx)) hs

/-- An argument of type []int reads as a list of integers. -/
theorem openInts {r : Reach} {b0 base : Nat} {w : World} {spare : Nat → Bool} {held : Bool} {v : Value} {d : DataW H} {ps : List MemPlace} (hv : Value.okWide Try.prog w r b0 31 v)
    (h : DataW.Trod enc Try.prog w base spare held 31 v d ps) : ∃ l : List Int, Ints w v l ∧ ∀ x ∈ l, (Lit.int .i64 x).wf = true := by
  obtain ⟨a0, len, cap, rfl⟩ := okWide_slice Try.underlying31 hv
  obtain ⟨fuel, hf⟩ := h
  rcases open_ints Try.underlying31 Try.underlying3 cellsI hf with ⟨hcs, hx⟩ | ⟨a, len', cap', zs, hcs, _, hl, hm, hz, hx, hcell, hwz⟩
  · simp only [Value.cells, List.cons.injEq, and_true, Value.slice.injEq] at hcs
    obtain ⟨rfl, rfl, rfl⟩ := hcs
    exact ⟨[], ⟨none, 0, rfl, by simp, by simp, fun h => by simp at h⟩, by simp⟩
  · simp only [Value.cells, List.cons.injEq, and_true, Value.slice.injEq] at hcs
    obtain ⟨rfl, rfl, rfl⟩ := hcs
    have hlz : len ≤ zs.length := by rw [hz]; split <;> omega
    have hll : (zs.take len).length = len := by simp; omega
    refine ⟨zs.take len, ⟨some a, cap, by rw [hll], by omega, by simpa [maxLen] using hm, fun hp => ?_⟩, fun x hx => hwz x (List.mem_of_mem_take hx)⟩
    have h0 := hcell 0 (by omega)
    obtain ⟨b, off, sp⟩ := a
    obtain rfl : sp = none := by
      cases sp with
      | none => rfl
      | some s =>
        exfalso
        have e0 : (Addr.mk b off (some s)).add 0 = Addr.mk b off (some s) := by simp [Addr.add]
        rw [e0] at h0
        unfold World.cell? at h0
        split at h0
        · simp at h0
        · cases h0
    refine ⟨b, off, rfl, fun i x hx => ?_⟩
    rw [List.getElem?_take] at hx
    split at hx
    · have := hcell i (by omega)
      have e1 : (Addr.mk b off none).add i = ⟨b, off + i, none⟩ := by by_cases h : i = 0 <;> simp [Addr.add, h]
      rw [e1] at this
      rw [this, List.getD_eq_getElem?_getD, hx]
      rfl
    · cases hx
end
end
section
open Go.ChangeShapes Go.WideShapes Go.ChangeAt Go.RowKit Go.Joins

section
variable {H : Type} {enc : TypeId × Value → H}
theorem openIntsT {base : Nat} {w : World} {spare : Nat → Bool} {held : Bool} {v : Value} {fuel : Nat} {x : DataW H × List MemPlace}
    (hf : DataW.trod enc Try.prog w base spare held fuel 31 [v] = some x) : ∃ l : List Int, Ints w v l ∧ ∀ x ∈ l, (Lit.int .i64 x).wf = true := by
  rcases open_ints Try.underlying31 Try.underlying3 cellsI hf with ⟨hcs, hx⟩ | ⟨a, len', cap', zs, hcs, _, hl, hm, hz, hx, hcell, hwz⟩
  · simp only [List.cons.injEq, and_true] at hcs
    subst hcs
    exact ⟨[], ⟨none, 0, rfl, by simp, by simp, fun h => by simp at h⟩, by simp⟩
  · simp only [List.cons.injEq, and_true] at hcs
    subst hcs
    have hlz : len' ≤ zs.length := by rw [hz]; split <;> omega
    have hll : (zs.take len').length = len' := by simp; omega
    refine ⟨zs.take len', ⟨some a, cap', by rw [hll], by omega, by simpa [maxLen] using hm, fun hp => ?_⟩, fun x hx => hwz x (List.mem_of_mem_take hx)⟩
    have h0 := hcell 0 (by omega)
    obtain ⟨b, off, sp⟩ := a
    obtain rfl : sp = none := by
      cases sp with
      | none => rfl
      | some s =>
        exfalso
        have e0 : (Addr.mk b off (some s)).add 0 = Addr.mk b off (some s) := by simp [Addr.add]
        rw [e0] at h0
        unfold World.cell? at h0
        split at h0
        · simp at h0
        · cases h0
    refine ⟨b, off, rfl, fun i x hx => ?_⟩
    rw [List.getElem?_take] at hx
    split at hx
    · have := hcell i (by omega)
      have e1 : (Addr.mk b off none).add i = ⟨b, off + i, none⟩ := by by_cases h : i = 0 <;> simp [Addr.add, h]
      rw [e1] at this
      rw [this, List.getD_eq_getElem?_getD, hx]
      rfl
    · cases hx
theorem openIntT {base : Nat} {w : World} {spare : Nat → Bool} {held : Bool} {v : Value} {fuel : Nat} {x : DataW H × List MemPlace}
    (hf : DataW.trod enc Try.prog w base spare held fuel 3 [v] = some x) : ∃ n : Int, v = .int .i64 n ∧ (Lit.int .i64 n).wf = true := by
  obtain ⟨n, h, _, hw⟩ := DataW.trod_int Try.underlying3 hf
  simp only [List.cons.injEq, and_true] at h
  exact ⟨n, h, hw⟩
theorem openAlgebra {r : Reach} {b0 base : Nat} {w : World} {spare : Nat → Bool} {held : Bool} {v : Value} {d : DataW H} {ps : List MemPlace} (hv : Value.okWide Try.prog w r b0 47 v)
    (h : DataW.Trod enc Try.prog w base spare held 47 v d ps) :
    ∃ (a b : Int) (u : Value) (l : List Int), v = .agg #[.int .i64 a, .int .i64 b, u] ∧ Ints w u l ∧ (Lit.int .i64 a).wf = true ∧ (Lit.int .i64 b).wf = true ∧ ∀ x ∈ l, (Lit.int .i64 x).wf = true := by
  obtain ⟨v0, v1, v2, y0, y1, y2, n, rfl, _, _, h0, h1, h2⟩ := open_agg3 Try.underlying47 (by kernel_rfl) (by kernel_rfl) hv h
  obtain ⟨a, rfl, wa⟩ := openIntT h0
  obtain ⟨b, rfl, wb⟩ := openIntT h1
  obtain ⟨l, k, wl⟩ := openIntsT h2
  exact ⟨a, b, v2, l, rfl, k, wa, wb, wl⟩
end
end
end
section
open Go.ChangeShapes Go.WideShapes Go.ChangeAt Go.RowKit Go.Joins

section
variable {H : Type} {enc : TypeId × Value → H}
theorem openMatrix {r : Reach} {b0 base : Nat} {w : World} {spare : Nat → Bool} {held : Bool} {v : Value} {d : DataW H} {ps : List MemPlace} (hv : Value.okWide Try.prog w r b0 94 v)
    (h : DataW.Trod enc Try.prog w base spare held 94 v d ps) :
    ∃ (a b c : Int) (u : Value) (l : List Int), v = .agg #[.int .i64 a, .int .i64 b, .int .i64 c, u] ∧ Ints w u l ∧ (Lit.int .i64 a).wf = true ∧ (Lit.int .i64 b).wf = true ∧ (Lit.int .i64 c).wf = true ∧ ∀ x ∈ l, (Lit.int .i64 x).wf = true := by
  obtain ⟨v0, v1, v2, v3, y0, y1, y2, y3, n, rfl, _, _, h0, h1, h2, h3⟩ := open_agg4 Try.underlying94 (by kernel_rfl) (by kernel_rfl) hv h
  obtain ⟨a, rfl, wa⟩ := openIntT h0
  obtain ⟨b, rfl, wb⟩ := openIntT h1
  obtain ⟨c, rfl, wc⟩ := openIntT h2
  obtain ⟨l, k, wl⟩ := openIntsT h3
  exact ⟨a, b, c, v3, l, rfl, k, wa, wb, wc, wl⟩

/-- All numbers of some matrices are of Go's int. -/
def MsWf (ms : List Mt) : Prop := ∀ m ∈ ms, (Lit.int .i64 m.p).wf = true ∧ (Lit.int .i64 m.r).wf = true ∧ (Lit.int .i64 m.c).wf = true ∧ ∀ x ∈ m.d, (Lit.int .i64 x).wf = true
instance : Inhabited Mt := ⟨⟨0, 0, 0, []⟩⟩
theorem cellsM : Try.prog.cellsOf 94 = 4 := by kernel_rfl
theorem openMatrices {r : Reach} {b0 base : Nat} {w : World} {spare : Nat → Bool} {held : Bool} {v : Value} {d : DataW H} {ps : List MemPlace} (hv : Value.okWide Try.prog w r b0 48 v)
    (h : DataW.Trod enc Try.prog w base spare held 48 v d ps) : ∃ ms : List Mt, MatsR w v ms ∧ MsWf ms := by
  obtain ⟨a0, len, cap, rfl⟩ := okWide_slice Try.underlying48 hv
  obtain ⟨fuel, hf⟩ := h
  rcases Go.Deep.open_slice Try.underlying48 hf with ⟨hcs, _⟩ | ⟨a, len', cap', m, n, D, Pl, hcs, _, hl, hm, hmm, _, hx⟩
  · simp only [Value.cells, List.cons.injEq, and_true, Value.slice.injEq] at hcs
    obtain ⟨rfl, rfl, rfl⟩ := hcs
    exact ⟨[], ⟨none, 0, rfl, by simp, by simp, fun h => by simp at h⟩, fun m hm => by cases hm⟩
  · simp only [Value.cells, List.cons.injEq, and_true, Value.slice.injEq] at hcs
    obtain ⟨rfl, rfl, rfl⟩ := hcs
    have hlm : len ≤ m := by rw [hmm]; split <;> omega
    have each : ∀ i, i < len → ∃ q : Mt × Value, w.cell? (a.add (i * 4)) = some (.int .i64 q.1.p) ∧ w.cell? (a.add (i * 4 + 1)) = some (.int .i64 q.1.r) ∧ w.cell? (a.add (i * 4 + 2)) = some (.int .i64 q.1.c) ∧ w.cell? (a.add (i * 4 + 3)) = some q.2 ∧ Ints w q.2 q.1.d ∧
        (Lit.int .i64 q.1.p).wf = true ∧ (Lit.int .i64 q.1.r).wf = true ∧ (Lit.int .i64 q.1.c).wf = true ∧ ∀ x ∈ q.1.d, (Lit.int .i64 x).wf = true := by
      intro i hi
      obtain ⟨cs', h1, h2⟩ := hx i (by omega)
      rw [cellsM] at h1
      obtain ⟨_, hlen, hcell⟩ := World.cells?_some h1
      obtain ⟨y0, y1, y2, y3, k, _, _, g0, g1, g2, g3⟩ := trod_struct4 Try.underlying94 h2
      match cs', hlen with
      | [v0, v1, v2, v3], _ =>
        obtain ⟨x0, rfl, w0⟩ := openIntT (enc := enc) (w := w) (base := base) (spare := spare) (held := held) (v := v0) (by simpa [cellsI] using g0)
        obtain ⟨x1, rfl, w1⟩ := openIntT (enc := enc) (w := w) (base := base) (spare := spare) (held := held) (v := v1) (by simpa [cellsI] using g1)
        obtain ⟨x2, rfl, w2⟩ := openIntT (enc := enc) (w := w) (base := base) (spare := spare) (held := held) (v := v2) (by simpa [cellsI] using g2)
        obtain ⟨l, k3, w3⟩ := openIntsT (enc := enc) (w := w) (base := base) (spare := spare) (held := held) (v := v3) (by simpa [show Try.prog.cellsOf 31 = 1 from by kernel_rfl] using g3)
        have e0 := hcell 0 (by omega)
        have e1 := hcell 1 (by omega)
        have e2 := hcell 2 (by omega)
        have e3 := hcell 3 (by omega)
        rw [Go.Deep.add_add] at e0 e1 e2 e3
        exact ⟨(⟨x0, x1, x2, l⟩, v3), by simpa using e0, by simpa using e1, by simpa using e2, by simpa using e3, k3, w0, w1, w2, w3⟩
    obtain ⟨q, hq⟩ := Go.Deep.choose_lt each
    have hlen : ((List.range len).map fun i => (q i).1).length = len := by simp
    refine ⟨(List.range len).map fun i => (q i).1, ⟨some a, cap, by rw [hlen], by omega, by simpa [maxLen] using hm, fun hp => ?_⟩, fun m hm => ?_⟩
    · rw [hlen] at hp
      obtain ⟨b, off, sp⟩ := a
      have h0 := (hq 0 hp).1
      obtain rfl : sp = none := by
        cases sp with
        | none => rfl
        | some s =>
          exfalso
          have e0 : (Addr.mk b off (some s)).add (0 * 4) = Addr.mk b off (some s) := by simp [Addr.add]
          rw [e0] at h0
          unfold World.cell? at h0
          split at h0
          · simp at h0
          · cases h0
      refine ⟨b, off, rfl, fun i m hi => ?_⟩
      simp only [List.getElem?_map, Option.map_eq_some_iff] at hi
      obtain ⟨j, hj, rfl⟩ := hi
      obtain ⟨hjl, rfl⟩ : i < len ∧ i = j := by
        rw [List.getElem?_eq_some_iff] at hj
        obtain ⟨hj1, hj2⟩ := hj
        simp at hj1 hj2
        exact ⟨hj1, hj2⟩
      obtain ⟨f0, f1, f2, f3, f4, _⟩ := hq i hjl
      have ad : ∀ k : Nat, (Addr.mk b off none).add k = ⟨b, off + k, none⟩ := fun k => by by_cases h : k = 0 <;> simp [Addr.add, h]
      rw [ad] at f0 f1 f2 f3
      exact ⟨f0, by simpa [Nat.add_assoc] using f1, by simpa [Nat.add_assoc] using f2, _, by simpa [Nat.add_assoc] using f3, f4⟩
    · simp only [List.mem_map, List.mem_range] at hm
      obtain ⟨i, hi, rfl⟩ := hm
      exact (hq i hi).2.2.2.2.2
end
end
end Go.Proofs.Ythiainhhaokjoaa
