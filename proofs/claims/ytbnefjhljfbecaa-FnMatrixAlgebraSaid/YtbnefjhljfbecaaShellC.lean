/- The step from a walk to a row, for every law: the arguments opened, and read again behind the call. Structs of numbers and a slice of numbers, opened as arguments of a law: an algebra. A matrix, and slices of matrices, opened as arguments of a law. -/
import Derived.Test.YtbnefjhljfbecaaBase
import Derived.Test.YtbnefjhljfbecaaStB
import Derived.ProofKit
import Derived.OpenShut
import Derived.Lib.SmallJoins
import Derived.ChangeSame
import Derived.Deep.Slices
namespace Go.Proofs.Ytbnefjhljfbecaa
set_option maxRecDepth 100000
section
section
open Go.ChangeShapes Go.WideShapes Go.ChangeAt Go.RowKit

theorem own : ownKnob Try.prog.godebug = none := by kernel_rfl
theorem laidOut : laidOutB Try.prog = true := by kernel_rfl
theorem cellsI : Try.prog.cellsOf 3 = 1 := by kernel_rfl

section
variable {H : Type} {enc : TypeId × Value → H} {P : Program}
theorem post_of_below {f : Func} {s : ChangeSpec} {apart fresh handsOn again : Bool} {W W' : World} {args : Array Value} {v : Value} {ds gs : List (DataW H)} {before pa pv : List MemPlace}
    (hW : DataW.Whole enc P f.params.toList s.vars apart W args.toList ds gs before)
    (hres : ∀ (b : Nat) (sp : Nat → Bool) (hd : Bool), DataW.TrodAll enc P W' b sp hd f.resultTypes.toList (v.resultList f.resultTypes.size) (s.fn H (ds ++ gs)).results [])
    (hargs : ∀ sp : Nat → Bool, (∀ p ∈ before, sp p.block = true) → DataW.TrodAll enc P W' 0 sp true f.params.toList args.toList (s.fn H (ds ++ gs)).args pa)
    (hvars : ∀ sp : Nat → Bool, (∀ p ∈ before, sp p.block = true) → DataW.TrodVars enc P W' sp s.vars (s.fn H (ds ++ gs)).vars pv)
    (hps : before = pa ++ pv) (hb : Below W.heap.size W W')
    (hok : ∀ (j : Nat) (t : TypeId) (r : Value), f.resultTypes[j]? = some t → (v.resultList f.resultTypes.size)[j]? = some r → Value.okWide P W' .any 0 t r) :
    s.post enc P f apart fresh handsOn again W args v W' := by
  have hlt : ∀ p ∈ before, p.block < W.heap.size := fun p hp => hW.lt p hp
  have hold : ∀ p ∈ before, (fun b => decide (b < W.heap.size)) p.block = true := fun p hp => by simpa using hlt p hp
  refine ⟨ds, gs, before, [], pa, pv, hW, hres _ _ _, hargs _ hold, hvars _ hold, World.keptBut_mono (fun p hp => ⟨hp, ?_⟩) (hb.frame (· ∈ before)), fun _ => ?_⟩
  · rw [hps, List.mem_append] at hp
    exact Or.inr hp
  · obtain ⟨_, _, _, _, _, hz, hn⟩ := hW
    refine ⟨hok, _, _, ([] ++ pa) ++ pv, ⟨[] ++ pa, pv, trodAll_append (hargs _ (fun _ _ => rfl)) (hres _ _ _), hvars _ (fun _ _ => rfl), rfl, ?_, ?_⟩, ?_⟩
    · intro b off hp
      have hin : MemPlace.cell b off ∈ before := by rw [hps]; simpa using hp
      rw [hb.frozen (hlt _ hin)]
      exact hz b off hin
    · intro ha
      have := hn ha
      rw [hps] at this
      simpa using this
    · intro p hp _
      rw [hps]
      simpa using hp

theorem trod_again {t : TypeId} (hl : laidOutB P = true) (hr : P.readableRec t = true) (hrow : t < P.types.size) {W W' : World} {v : Value} {d : DataW H} {ps : List MemPlace}
    (h : DataW.Trod enc P W 0 (fun _ => true) true t v d ps) (hb : Below W.heap.size W W') (hlt : ∀ x ∈ ps, x.block < W.heap.size) {sp : Nat → Bool} (hs : ∀ p ∈ ps, sp p.block = true) :
    DataW.Trod enc P W' 0 sp true t v d ps :=
  WideElems.Trod_stays hl hr hrow h (fun x hx => hb.same (hlt x hx)) hs

/-- An argument of type []int reads as a list of integers. -/
theorem openInts {r : Reach} {b0 base : Nat} {w : World} {spare : Nat → Bool} {held : Bool} {v : Value} {d : DataW H} {ps : List MemPlace} (hv : Value.okWide Try.prog w r b0 26 v)
    (h : DataW.Trod enc Try.prog w base spare held 26 v d ps) : ∃ l : List Int, Ints w v l ∧ ∀ x ∈ l, (Lit.int .i64 x).wf = true := by
  obtain ⟨a0, len, cap, rfl⟩ := okWide_slice Try.underlying26 hv
  obtain ⟨fuel, hf⟩ := h
  rcases open_ints Try.underlying26 Try.underlying3 cellsI hf with ⟨hcs, hx⟩ | ⟨a, len', cap', zs, hcs, _, hl, hm, hz, hx, hcell, hwz⟩
  · simp only [Value.cells, List.cons.injEq, and_true, Value.slice.injEq] at hcs
    obtain ⟨rfl, rfl, rfl⟩ := hcs
    exact ⟨[], ⟨none, 0, rfl, by simp, by simp, fun h => by simp at h⟩, by simp⟩
  · simp only [Value.cells, List.cons.injEq, and_true, Value.slice.injEq] at hcs
    obtain ⟨rfl, rfl, rfl⟩ := hcs
    have hlz : len ≤ zs.length := by rw [hz]; split <;> omega
    have hll : (zs.take len).length = len := by simp; omega
    refine ⟨zs.take len, ⟨some a, cap, by rw [hll], by omega, by simpa [maxLen] using hm, fun hp => ?_⟩, fun x hx => hwz x (List.mem_of_mem_take hx)⟩
    have h0 := hcell 0 (by omega)
    obtain ⟨b, off, sp⟩ := a
    obtain rfl : sp = none := by
      cases sp with
      | none => rfl
      | some s =>
        exfalso
        have e0 : (Addr.mk b off (some s)).add 0 = Addr.mk b off (some s) := by simp [Addr.add]
        rw [e0] at h0
        unfold World.cell? at h0
        split at h0
        · simp at h0
        · cases h0
    refine ⟨b, off, rfl, fun i x hx => ?_⟩
    rw [List.getElem?_take] at hx
    split at hx
    · have := hcell i (by omega)
      have e1 : (Addr.mk b off none).add i = ⟨b, off + i, none⟩ := by by_cases h : i = 0 <;> simp [Addr.add, h]
      rw [e1] at this
      rw [this, List.getD_eq_getElem?_getD, hx]
      rfl
    · cases hx
end
end
section
open Go.ChangeShapes Go.WideShapes Go.ChangeAt Go.RowKit Go.Joins

section
variable {H : Type} {enc : TypeId × Value → H}
theorem openIntsT {base : Nat} {w : World} {spare : Nat → Bool} {held : Bool} {v : Value} {fuel : Nat} {x : DataW H × List MemPlace}
    (hf : DataW.trod enc Try.prog w base spare held fuel 26 [v] = some x) : ∃ l : List Int, Ints w v l ∧ ∀ x ∈ l, (Lit.int .i64 x).wf = true := by
  rcases open_ints Try.underlying26 Try.underlying3 cellsI hf with ⟨hcs, hx⟩ | ⟨a, len', cap', zs, hcs, _, hl, hm, hz, hx, hcell, hwz⟩
  · simp only [List.cons.injEq, and_true] at hcs
    subst hcs
    exact ⟨[], ⟨none, 0, rfl, by simp, by simp, fun h => by simp at h⟩, by simp⟩
  · simp only [List.cons.injEq, and_true] at hcs
    subst hcs
    have hlz : len' ≤ zs.length := by rw [hz]; split <;> omega
    have hll : (zs.take len').length = len' := by simp; omega
    refine ⟨zs.take len', ⟨some a, cap', by rw [hll], by omega, by simpa [maxLen] using hm, fun hp => ?_⟩, fun x hx => hwz x (List.mem_of_mem_take hx)⟩
    have h0 := hcell 0 (by omega)
    obtain ⟨b, off, sp⟩ := a
    obtain rfl : sp = none := by
      cases sp with
      | none => rfl
      | some s =>
        exfalso
        have e0 : (Addr.mk b off (some s)).add 0 = Addr.mk b off (some s) := by simp [Addr.add]
        rw [e0] at h0
        unfold World.cell? at h0
        split at h0
        · simp at h0
        · cases h0
    refine ⟨b, off, rfl, fun i x hx => ?_⟩
    rw [List.getElem?_take] at hx
    split at hx
    · have := hcell i (by omega)
      have e1 : (Addr.mk b off none).add i = ⟨b, off + i, none⟩ := by by_cases h : i = 0 <;> simp [Addr.add, h]
      rw [e1] at this
      rw [this, List.getD_eq_getElem?_getD, hx]
      rfl
    · cases hx
theorem openIntT {base : Nat} {w : World} {spare : Nat → Bool} {held : Bool} {v : Value} {fuel : Nat} {x : DataW H × List MemPlace}
    (hf : DataW.trod enc Try.prog w base spare held fuel 3 [v] = some x) : ∃ n : Int, v = .int .i64 n ∧ (Lit.int .i64 n).wf = true := by
  obtain ⟨n, h, _, hw⟩ := DataW.trod_int Try.underlying3 hf
  simp only [List.cons.injEq, and_true] at h
  exact ⟨n, h, hw⟩
end
end
end
section
open Go.ChangeShapes Go.WideShapes Go.ChangeAt Go.RowKit Go.Joins

section
variable {H : Type} {enc : TypeId × Value → H}
/-- All numbers of some matrices are of Go's int. -/
def MsWf (ms : List Mt) : Prop := ∀ m ∈ ms, (Lit.int .i64 m.p).wf = true ∧ (Lit.int .i64 m.r).wf = true ∧ (Lit.int .i64 m.c).wf = true ∧ ∀ x ∈ m.d, (Lit.int .i64 x).wf = true
instance : Inhabited Mt := ⟨⟨0, 0, 0, []⟩⟩
end
end
end Go.Proofs.Ytbnefjhljfbecaa
