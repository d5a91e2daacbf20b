import Derived.ChangeSame
import Derived.Deep.Slices
import Derived.Handed
import Derived.LaidSub
import Derived.Lib.LaidTab
import Derived.Lib.SmallJoins
import Derived.MakeChecks
import Derived.OpenShut
import Derived.ProofKit
import Derived.Shelf.Vars
import Derived.Test.YtbnefjhljfbecaaGreatDoorRows
import Derived.Test.YtbnefjhljfbecaaGreatDoorW01
import Derived.Test.YtbnefjhljfbecaaGreatDoorW05
import Derived.Test.YtbnefjhljfbecaaGreatDoorW06
import Derived.Test.YtbnefjhljfbecaaGreatDoorW07
import Derived.Test.YtbnefjhljfbecaaGreatDoorW18
import Derived.Test.YtbnefjhljfbecaaGreatDoorW26
import Derived.Test.YtbnefjhljfbecaaGreatDoorW46
import Derived.Test.YtbnefjhljfbecaaGreatDoorW49
namespace Go.Proofs.YtbnefjhljfbecaaGreatDoor
set_option maxRecDepth 100000
section
section
section
open Go.ChangeShapes Go.WideShapes Go.ChangeAt Go.RowKit
theorem own : ownKnob Tryz.prog.godebug = none := by kernel_rfl
theorem laidOut : laidOutB Tryz.prog = true := by kernel_rfl
theorem cellsI : Tryz.prog.cellsOf 3 = 1 := by kernel_rfl
section
variable {H : Type} {enc : TypeId × Value → H} {P : Program}
theorem post_of_below {f : Func} {s : ChangeSpec} {apart fresh handsOn again : Bool} {W W' : World} {args : Array Value} {v : Value} {ds gs : List (DataW H)} {before pa pv : List MemPlace}
  (hW : DataW.Whole enc P f.params.toList s.vars apart W args.toList ds gs before)
  (hres : ∀ (b : Nat) (sp : Nat → Bool) (hd : Bool), DataW.TrodAll enc P W' b sp hd f.resultTypes.toList (v.resultList f.resultTypes.size) (s.fn H (ds ++ gs)).results [])
  (hargs : ∀ sp : Nat → Bool, (∀ p ∈ before, sp p.block = true) → DataW.TrodAll enc P W' 0 sp true f.params.toList args.toList (s.fn H (ds ++ gs)).args pa)
  (hvars : ∀ sp : Nat → Bool, (∀ p ∈ before, sp p.block = true) → DataW.TrodVars enc P W' sp s.vars (s.fn H (ds ++ gs)).vars pv)
  (hps : before = pa ++ pv) (hb : Below W.heap.size W W')
  (hok : ∀ (j : Nat) (t : TypeId) (r : Value), f.resultTypes[j]? = some t → (v.resultList f.resultTypes.size)[j]? = some r → Value.okWide P W' .any 0 t r) :
  s.post enc P f apart fresh handsOn again W args v W' := by
 have hlt : ∀ p ∈ before, p.block < W.heap.size := fun p hp => hW.lt p hp
 have hold : ∀ p ∈ before, (fun b => decide (b < W.heap.size)) p.block = true := fun p hp => by simpa using hlt p hp
 refine ⟨ds, gs, before, [], pa, pv, hW, hres _ _ _, hargs _ hold, hvars _ hold, World.keptBut_mono (fun p hp => ⟨hp, ?_⟩) (hb.frame (· ∈ before)), fun _ => ?_⟩
 ·rw [hps, List.mem_append] at hp
  exact Or.inr hp
 ·obtain ⟨_, _, _, _, _, hz, hn⟩ := hW
  refine ⟨hok, _, _, ([] ++ pa) ++ pv, ⟨[] ++ pa, pv, trodAll_append (hargs _ (fun _ _ => rfl)) (hres _ _ _), hvars _ (fun _ _ => rfl), rfl, ?_, ?_⟩, ?_⟩
  ·intro b off hp
   have hin : MemPlace.cell b off ∈ before := by rw [hps]; simpa using hp
   rw [hb.frozen (hlt _ hin)]
   exact hz b off hin
  ·intro ha
   have := hn ha
   rw [hps] at this
   simpa using this
  ·intro p hp _
   rw [hps]
   simpa using hp
theorem trod_again {t : TypeId} (hl : laidOutB P = true) (hr : P.readableRec t = true) (hrow : t < P.types.size) {W W' : World} {v : Value} {d : DataW H} {ps : List MemPlace}
  (h : DataW.Trod enc P W 0 (fun _ => true) true t v d ps) (hb : Below W.heap.size W W') (hlt : ∀ x ∈ ps, x.block < W.heap.size) {sp : Nat → Bool} (hs : ∀ p ∈ ps, sp p.block = true) :
  DataW.Trod enc P W' 0 sp true t v d ps :=
 WideElems.Trod_stays hl hr hrow h (fun x hx => hb.same (hlt x hx)) hs
theorem openInts {r : Reach} {b0 base : Nat} {w : World} {spare : Nat → Bool} {held : Bool} {v : Value} {d : DataW H} {ps : List MemPlace} (hv : Value.okWide Tryz.prog w r b0 22 v)
  (h : DataW.Trod enc Tryz.prog w base spare held 22 v d ps) : ∃ l : List Int, Ints w v l ∧ ∀ x ∈ l, (Lit.int .i64 x).wf = true := by
 obtain ⟨a0, len, cap, rfl⟩ := okWide_slice Tryz.underlying22 hv
 obtain ⟨fuel, hf⟩ := h
 rcases open_ints Tryz.underlying22 Tryz.underlying3 cellsI hf with ⟨hcs, hx⟩ | ⟨a, len', cap', zs, hcs, _, hl, hm, hz, hx, hcell, hwz⟩
 ·simp only [Value.cells, List.cons.injEq, and_true, Value.slice.injEq] at hcs
  obtain ⟨rfl, rfl, rfl⟩ := hcs
  exact ⟨[], ⟨none, 0, rfl, by simp, by simp, fun h => by simp at h⟩, by simp⟩
 ·simp only [Value.cells, List.cons.injEq, and_true, Value.slice.injEq] at hcs
  obtain ⟨rfl, rfl, rfl⟩ := hcs
  have hlz : len ≤ zs.length := by rw [hz]; split <;> omega
  have hll : (zs.take len).length = len := by simp; omega
  refine ⟨zs.take len, ⟨some a, cap, by rw [hll], by omega, by simpa [maxLen] using hm, fun hp => ?_⟩, fun x hx => hwz x (List.mem_of_mem_take hx)⟩
  have h0 := hcell 0 (by omega)
  obtain ⟨b, off, sp⟩ := a
  obtain rfl : sp = none := by
   cases sp with
   | none => rfl
   | some s =>
    exfalso
    have e0 : (Addr.mk b off (some s)).add 0 = Addr.mk b off (some s) := by simp [Addr.add]
    rw [e0] at h0
    unfold World.cell? at h0
    split at h0
    ·simp at h0
    ·cases h0
  refine ⟨b, off, rfl, fun i x hx => ?_⟩
  rw [List.getElem?_take] at hx
  split at hx
  ·have := hcell i (by omega)
   have e1 : (Addr.mk b off none).add i = ⟨b, off + i, none⟩ := by by_cases h : i = 0 <;> simp [Addr.add, h]
   rw [e1] at this
   rw [this, List.getD_eq_getElem?_getD, hx]
   rfl
  ·cases hx
end
end
section
open Go.ChangeShapes Go.WideShapes Go.ChangeAt Go.RowKit Go.Joins
section
variable {H : Type} {enc : TypeId × Value → H}
theorem openIntsT {base : Nat} {w : World} {spare : Nat → Bool} {held : Bool} {v : Value} {fuel : Nat} {x : DataW H × List MemPlace}
  (hf : DataW.trod enc Tryz.prog w base spare held fuel 22 [v] = some x) : ∃ l : List Int, Ints w v l ∧ ∀ x ∈ l, (Lit.int .i64 x).wf = true := by
 rcases open_ints Tryz.underlying22 Tryz.underlying3 cellsI hf with ⟨hcs, hx⟩ | ⟨a, len', cap', zs, hcs, _, hl, hm, hz, hx, hcell, hwz⟩
 ·simp only [List.cons.injEq, and_true] at hcs
  subst hcs
  exact ⟨[], ⟨none, 0, rfl, by simp, by simp, fun h => by simp at h⟩, by simp⟩
 ·simp only [List.cons.injEq, and_true] at hcs
  subst hcs
  have hlz : len' ≤ zs.length := by rw [hz]; split <;> omega
  have hll : (zs.take len').length = len' := by simp; omega
  refine ⟨zs.take len', ⟨some a, cap', by rw [hll], by omega, by simpa [maxLen] using hm, fun hp => ?_⟩, fun x hx => hwz x (List.mem_of_mem_take hx)⟩
  have h0 := hcell 0 (by omega)
  obtain ⟨b, off, sp⟩ := a
  obtain rfl : sp = none := by
   cases sp with
   | none => rfl
   | some s =>
    exfalso
    have e0 : (Addr.mk b off (some s)).add 0 = Addr.mk b off (some s) := by simp [Addr.add]
    rw [e0] at h0
    unfold World.cell? at h0
    split at h0
    ·simp at h0
    ·cases h0
  refine ⟨b, off, rfl, fun i x hx => ?_⟩
  rw [List.getElem?_take] at hx
  split at hx
  ·have := hcell i (by omega)
   have e1 : (Addr.mk b off none).add i = ⟨b, off + i, none⟩ := by by_cases h : i = 0 <;> simp [Addr.add, h]
   rw [e1] at this
   rw [this, List.getD_eq_getElem?_getD, hx]
   rfl
  ·cases hx
theorem openIntT {base : Nat} {w : World} {spare : Nat → Bool} {held : Bool} {v : Value} {fuel : Nat} {x : DataW H × List MemPlace}
  (hf : DataW.trod enc Tryz.prog w base spare held fuel 3 [v] = some x) : ∃ n : Int, v = .int .i64 n ∧ (Lit.int .i64 n).wf = true := by
 obtain ⟨n, h, _, hw⟩ := DataW.trod_int Tryz.underlying3 hf
 simp only [List.cons.injEq, and_true] at h
 exact ⟨n, h, hw⟩
theorem openAlgebra {r : Reach} {b0 base : Nat} {w : World} {spare : Nat → Bool} {held : Bool} {v : Value} {d : DataW H} {ps : List MemPlace} (hv : Value.okWide Tryz.prog w r b0 24 v)
  (h : DataW.Trod enc Tryz.prog w base spare held 24 v d ps) :
  ∃ (a b : Int) (u : Value) (l : List Int), v = .agg #[.int .i64 a, .int .i64 b, u] ∧ Ints w u l ∧ (Lit.int .i64 a).wf = true ∧ (Lit.int .i64 b).wf = true ∧ ∀ x ∈ l, (Lit.int .i64 x).wf = true := by
 obtain ⟨v0, v1, v2, y0, y1, y2, n, rfl, _, _, h0, h1, h2⟩ := open_agg3 Tryz.underlying24 (by kernel_rfl) (by kernel_rfl) hv h
 obtain ⟨a, rfl, wa⟩ := openIntT h0
 obtain ⟨b, rfl, wb⟩ := openIntT h1
 obtain ⟨l, k, wl⟩ := openIntsT h2
 exact ⟨a, b, v2, l, rfl, k, wa, wb, wl⟩
end
end
end
section
open Go.ChangeShapes Go.WideShapes Go.ChangeAt Go.RowKit Go.Joins
section
variable {H : Type} {enc : TypeId × Value → H}
theorem openMatrix {r : Reach} {b0 base : Nat} {w : World} {spare : Nat → Bool} {held : Bool} {v : Value} {d : DataW H} {ps : List MemPlace} (hv : Value.okWide Tryz.prog w r b0 26 v)
  (h : DataW.Trod enc Tryz.prog w base spare held 26 v d ps) :
  ∃ (a b c : Int) (u : Value) (l : List Int), v = .agg #[.int .i64 a, .int .i64 b, .int .i64 c, u] ∧ Ints w u l ∧ (Lit.int .i64 a).wf = true ∧ (Lit.int .i64 b).wf = true ∧ (Lit.int .i64 c).wf = true ∧ ∀ x ∈ l, (Lit.int .i64 x).wf = true := by
 obtain ⟨v0, v1, v2, v3, y0, y1, y2, y3, n, rfl, _, _, h0, h1, h2, h3⟩ := open_agg4 Tryz.underlying26 (by kernel_rfl) (by kernel_rfl) hv h
 obtain ⟨a, rfl, wa⟩ := openIntT h0
 obtain ⟨b, rfl, wb⟩ := openIntT h1
 obtain ⟨c, rfl, wc⟩ := openIntT h2
 obtain ⟨l, k, wl⟩ := openIntsT h3
 exact ⟨a, b, c, v3, l, rfl, k, wa, wb, wc, wl⟩
instance : Inhabited Mt := ⟨⟨0, 0, 0, []⟩⟩
end
end
end
section
open Go.ChangeShapes Go.WideShapes Go.ChangeAt Go.RowKit Go.Joins
theorem handedAndShaped {H : Type} {enc : TypeId × Value → H} {a : Assume} {C : Checked} {os : Os} {f : FuncId} {fn : Func} {s : ChangeSpec} {conds : List PathCond} {apart fresh handsOn again : Bool} {X : World → Array Value → Prop}
    (hX : ∀ (w w' : World) (args : Array Value), w.heap = w'.heap → X w args → X w' args)
    (own : ownKnob C.prog.godebug = none) (started : os.Started) (noInit : C.prog.inits.idxOf? f = none) (hfn : C.prog.funcs[f]? = some fn)
    (witness : ∃ (w : World) (tape : Tape) (i : Input), w.os = os ∧ (w.forCall tape i).Shaped C.prog ∧ i.vars = [] ∧ Input.okWide C.prog (w.forCall tape i) .any w.heap.size f i ∧
      ((s.pre enc C.prog fn conds apart (w.forCall tape i).memory i.args ∧ X (w.forCall tape i).memory i.args) ∧ sizedMet enc C.prog fn (OpenSpec.ofChange s) apart (w.forCall tape i).memory i.args) ∧ a.holds C.prog (lone (Frame.enter C.prog f i.args .normal) [] (w.forCall tape i)))
    (contract : ∀ (W : World) (base : Nat) (args : Array Value) (ds gs : List (DataW H)) (before : List MemPlace),
      (∀ (j : Nat) t v, fn.params[j]? = some t → args[j]? = some v → Value.okWide C.prog W .any base t v) →
      DataW.Whole enc C.prog fn.params.toList s.vars apart W args.toList ds gs before →
      X W args → W.ShapedOpen C.prog →
      Calls C.prog f args W fun e W' => ∃ v, e = .returned v ∧ s.post enc C.prog fn apart fresh handsOn again W args v W') :
    ReturnsInHanded a C os f .any (fun w args => (s.pre enc C.prog fn conds apart w args ∧ X w args) ∧ sizedMet enc C.prog fn (OpenSpec.ofChange s) apart w args) (s.post enc C.prog fn apart fresh handsOn again) := by
  refine returnsInHanded_of_calls own started noInit witness ?_
  intro w tape i _ hsh _ hok hpre _
  obtain ⟨_, _, _, fn', hfn', _, _, _, _, hval⟩ := hok
  have e : fn' = fn := Option.some.inj (hfn'.symm.trans hfn)
  subst e
  obtain ⟨⟨⟨ds, gs, before, hw, _⟩, hx⟩, _⟩ := hpre
  refine (contract (w.forCall tape i) w.heap.size i.args ds gs before hval (DataW.Whole.of_heap (w' := w.forCall tape i) (by rfl) hw) (hX _ _ _ (by rfl) hx) hsh).mono fun e W' ⟨v, he, hp⟩ => ?_
  subst he
  exact ChangeSpec.post_blind hp
theorem maxAt_of_shaped {w : World} (h : w.ShapedOpen Tryz.prog) : Car.MaxAt w :=
 cell_of_shapedOpen_int (zero := #[.int .i64 0]) (t := 3) h (of_decide_eq_true (by kernel_rfl)) (by kernel_rfl) rfl (by kernel_rfl) (by kernel_rfl) Tryz.underlying3
end
section
open Go.RowKit
namespace Tya
set_option maxHeartbeats 4000000 in
theorem lawTypeOfAlgebra {w : World} (a0_0 a0_1 : Int) (v0 : Value) (l0 : List Int) (g0 : Ints w v0 l0) (wf0_0 : (Lit.int .i64 a0_0).wf = true) (_wf0_1 : (Lit.int .i64 a0_1).wf = true) (_ : ∀ x ∈ l0, (Lit.int .i64 x).wf = true) (a1_0 a1_1 a1_2 : Int) (v1 : Value) (l1 : List Int) (g1 : Ints w v1 l1) (wf1_0 : (Lit.int .i64 a1_0).wf = true) (_wf1_1 : (Lit.int .i64 a1_1).wf = true) (_wf1_2 : (Lit.int .i64 a1_2).wf = true) (_ : ∀ x ∈ l1, (Lit.int .i64 x).wf = true) (hM : Car.MaxAt w) (hT : TabAt w) :
    Calls Tryz.prog 3 #[.agg #[.int .i64 a0_0, .int .i64 a0_1, v0], .agg #[.int .i64 a1_0, .int .i64 a1_1, .int .i64 a1_2, v1]] w fun e w' => e = .returned (.bool true) ∧ Below w.heap.size w w' := by
  by_cases L0 : ((l0.length : Nat) : Int) ≤ 1048576
  case neg =>
    have h1 := ((((St.start w).arg g0).arg g1).box [.int .i64 a0_0, .int .i64 a0_1, v0] 24).box [.int .i64 a1_0, .int .i64 a1_1, .int .i64 a1_2, v1] 26
    simp only [World.size_alloc] at h1
    obtain ⟨A0, c0, rfl, _, _, _⟩ := id g0
    obtain ⟨A1, c1, rfl, _, _, _⟩ := id g1
    clear g0 g1
    go_enter Tryz.func3, Tryz.ntmps3
    obtain ⟨zb1_0, zb1_1, zb1_2⟩ := h1.box3 1 rfl
    go_wp2_with fail
    refine (szAlgebra_no a0_0 a0_1 (1048576) _ l0 _ (h1.roInts 3 rfl) (by omega) (by omega) (by omega)).mono ?_
    rintro (e : Ending) w1 ⟨rfl, hb1⟩
    replace h1 := h1.on hb1
    clear hb1
    clear zb1_0 zb1_1 zb1_2
    go_wp2_with fail
    go_ret
    exact ⟨rfl, h1.below⟩
  case pos =>
    by_cases L1 : ((l1.length : Nat) : Int) ≤ 1048576 - (l0.length : Nat)
    case neg =>
      have h1 := ((((St.start w).arg g0).arg g1).box [.int .i64 a0_0, .int .i64 a0_1, v0] 24).box [.int .i64 a1_0, .int .i64 a1_1, .int .i64 a1_2, v1] 26
      simp only [World.size_alloc] at h1
      obtain ⟨A0, c0, rfl, _, _, _⟩ := id g0
      obtain ⟨A1, c1, rfl, _, _, _⟩ := id g1
      clear g0 g1
      go_enter Tryz.func3, Tryz.ntmps3
      obtain ⟨zb1_0, zb1_1, zb1_2⟩ := h1.box3 1 rfl
      go_wp2_with fail
      refine (szAlgebra_yes a0_0 a0_1 (1048576) _ l0 _ (h1.roInts 3 rfl) (by omega) (by omega)).mono ?_
      rintro (e : Ending) w1 ⟨rfl, hb1⟩
      replace h1 := h1.on hb1
      clear hb1
      clear zb1_0 zb1_1 zb1_2
      obtain ⟨zb0_0, zb0_1, zb0_2, zb0_3⟩ := h1.box4 0 rfl
      go_wp2_with fail
      refine (szMatrix_no a1_0 a1_1 a1_2 (1048576 - (l0.length : Nat)) _ l1 _ (h1.roInts 2 rfl) (by omega) (by omega) (by omega)).mono ?_
      rintro (e : Ending) w2 ⟨rfl, hb1⟩
      replace h1 := h1.on hb1
      clear hb1
      clear zb0_0 zb0_1 zb0_2 zb0_3
      go_wp2_with fail
      go_ret
      exact ⟨rfl, h1.below⟩
    case pos =>
      have hp := wf_le wf0_0
      have hq := wf_le wf1_0
      have h1 := ((((St.start w).arg g0).arg g1).box [.int .i64 a0_0, .int .i64 a0_1, v0] 24).box [.int .i64 a1_0, .int .i64 a1_1, .int .i64 a1_2, v1] 26
      simp only [World.size_alloc] at h1
      obtain ⟨A0, c0, rfl, _, _, _⟩ := id g0
      obtain ⟨A1, c1, rfl, _, _, _⟩ := id g1
      clear g0 g1
      go_enter Tryz.func3, Tryz.ntmps3
      obtain ⟨zb1_0, zb1_1, zb1_2⟩ := h1.box3 1 rfl
      go_wp2_with fail
      refine (szAlgebra_yes a0_0 a0_1 (1048576) _ l0 _ (h1.roInts 3 rfl) (by omega) (by omega)).mono ?_
      rintro (e : Ending) w1 ⟨rfl, hb1⟩
      replace h1 := h1.on hb1
      clear hb1
      clear zb1_0 zb1_1 zb1_2
      obtain ⟨zb0_0, zb0_1, zb0_2, zb0_3⟩ := h1.box4 0 rfl
      go_wp2_with fail
      refine (szMatrix_yes a1_0 a1_1 a1_2 (1048576 - (l0.length : Nat)) _ l1 _ (h1.roInts 2 rfl) (by omega) (by omega)).mono ?_
      rintro (e : Ending) w2 ⟨rfl, hb1⟩
      replace h1 := h1.on hb1
      clear hb1
      clear zb0_0 zb0_1 zb0_2 zb0_3
      go_wp2_with fail
      obtain ⟨q1_0_0_0, q1_0_0_1, q1_0_0_2⟩ := h1.box3 1 rfl
      obtain ⟨q1_0_1_0, q1_0_1_1, q1_0_1_2, q1_0_1_3⟩ := h1.box4 0 rfl
      go_region_held3 (fun w' => w'.cell? ⟨w.heap.size, 0, none⟩ = some (.int .i64 a0_0) ∧ w'.cell? ⟨w.heap.size, 1, none⟩ = some (.int .i64 a0_1) ∧ w'.cell? ⟨w.heap.size, 2, none⟩ = some (.slice A0 l0.length c0) ∧ w'.cell? ⟨w.heap.size + 1, 0, none⟩ = some (.int .i64 a1_0) ∧ w'.cell? ⟨w.heap.size + 1, 1, none⟩ = some (.int .i64 a1_1) ∧ w'.cell? ⟨w.heap.size + 1, 2, none⟩ = some (.int .i64 a1_2) ∧ w'.cell? ⟨w.heap.size + 1, 3, none⟩ = some (.slice A1 l1.length c1))
        (first | exact ⟨q1_0_0_0, q1_0_0_1, q1_0_0_2, q1_0_1_0, q1_0_1_1, q1_0_1_2, q1_0_1_3⟩ | exact ⟨q1_1_0_0, q1_1_0_1, q1_1_0_2, q1_1_1_0, q1_1_1_1, q1_1_1_2, q1_1_1_3⟩ | exact ⟨q1_2_0_0, q1_2_0_1, q1_2_0_2, q1_2_1_0, q1_2_1_1, q1_2_1_2, q1_2_1_3⟩ | exact ⟨q1_3_0_0, q1_3_0_1, q1_3_0_2, q1_3_1_0, q1_3_1_1, q1_3_1_2, q1_3_1_3⟩)
        (first
          | (go_at_call 7; refine (toAlgebra_any a0_0 a0_1 _ l0 _ ?_ (by omega)).mono ?_; exact h1.drew.roInts 3 rfl; rintro (e : Ending) w3 ⟨u, rfl, ho1_0, hb1_0⟩; obtain ⟨B2, d2, rfl, _, _, _⟩ := id ho1_0.ints; have hr1_1 := h1.drew.pushOwn hb1_0 ho1_0; obtain ⟨q1_1_0_0, q1_1_0_1, q1_1_0_2⟩ := hr1_1.box3 2 rfl; obtain ⟨q1_1_1_0, q1_1_1_1, q1_1_1_2, q1_1_1_3⟩ := hr1_1.box4 1 rfl)
          | (go_at_call 8; refine (toMatrix_any a1_0 a1_1 a1_2 _ l1 _ ?_ (by omega)).mono ?_; exact hr1_1.roInts 3 rfl; rintro (e : Ending) w4 ⟨u, rfl, ho1_1, hb1_1⟩; obtain ⟨B3, d3, rfl, _, _, _⟩ := id ho1_1.ints; have hr1_2 := hr1_1.pushOwn hb1_1 ho1_1; obtain ⟨q1_2_0_0, q1_2_0_1, q1_2_0_2⟩ := hr1_2.box3 3 rfl; obtain ⟨q1_2_1_0, q1_2_1_1, q1_2_1_2, q1_2_1_3⟩ := hr1_2.box4 2 rfl)
          | (go_at_call 6; refine (TypeOfAlgebraS_any a0_0 a0_1 a1_0 a1_1 a1_2 _ _ l0 l1 _ (hr1_2.ownInts 1 rfl) (hr1_2.ownInts 0 rfl) hp hq).mono ?_; rintro (e : Ending) w5 ⟨rfl, hbz⟩; have hr1_3 := hr1_2.on hbz; obtain ⟨q1_3_0_0, q1_3_0_1, q1_3_0_2⟩ := hr1_3.box3 3 rfl; obtain ⟨q1_3_1_0, q1_3_1_1, q1_3_1_2, q1_3_1_3⟩ := hr1_3.box4 2 rfl))
      clear h1 hb1_0 ho1_0 hr1_1 hb1_1 ho1_1 hr1_2 hbz q1_0_0_0 q1_0_0_1 q1_0_0_2 q1_0_1_0 q1_0_1_1 q1_0_1_2 q1_0_1_3 q1_1_0_0 q1_1_0_1 q1_1_0_2 q1_1_1_0 q1_1_1_1 q1_1_1_2 q1_1_1_3 q1_2_0_0 q1_2_0_1 q1_2_0_2 q1_2_1_0 q1_2_1_1 q1_2_1_2 q1_2_1_3 q1_3_0_0 q1_3_0_1 q1_3_0_2 q1_3_1_0 q1_3_1_1 q1_3_1_2 q1_3_1_3
      have h1 := hr1_3
      clear hr1_3
      obtain ⟨zb3_0, zb3_1, zb3_2⟩ := h1.box3 3 rfl
      go_wp2_with fail
      refine (toAlgebra_any a0_0 a0_1 _ l0 _ (h1.roInts 5 rfl) (by omega)).mono ?_
      rintro (e : Ending) w6 ⟨u, rfl, ho, hb1⟩
      obtain ⟨B5, d5, rfl, _, _, _⟩ := id ho.ints
      replace h1 := h1.pushOwn hb1 ho
      clear ho hb1
      clear zb3_0 zb3_1 zb3_2
      replace h1 := h1.box [.int .i64 a0_0, .int .i64 a0_1, .slice B5 l0.length d5] 30
      obtain ⟨zb4_0, zb4_1, zb4_2, zb4_3⟩ := h1.box4 4 rfl
      go_wp2_with fail
      refine (toMatrix_any a1_0 a1_1 a1_2 _ l1 _ (h1.roInts 6 rfl) (by omega)).mono ?_
      rintro (e : Ending) w7 ⟨u, rfl, ho, hb1⟩
      obtain ⟨B6, d6, rfl, _, _, _⟩ := id ho.ints
      replace h1 := h1.pushOwn hb1 ho
      clear ho hb1
      clear zb4_0 zb4_1 zb4_2 zb4_3
      replace h1 := h1.box [.int .i64 a1_0, .int .i64 a1_1, .int .i64 a1_2, .slice B6 l1.length d6] 32
      obtain ⟨zb2_0, zb2_1, zb2_2⟩ := h1.box3 2 rfl
      obtain ⟨zb0_0, zb0_1, zb0_2, zb0_3⟩ := h1.box4 0 rfl
      go_wp2_with fail
      refine (TypeOfAlgebraI_any a0_0 a0_1 a1_0 a1_1 a1_2 _ _ l0 l1 _ (h1.ownInts 3 rfl) (h1.ownInts 1 rfl) hp hq (TabAt.below hT h1.below) (Car.MaxAt.below hM h1.below)).mono ?_
      rintro (e : Ending) w8 ⟨rfl, hb1⟩
      replace h1 := h1.on hb1
      clear hb1
      clear zb2_0 zb2_1 zb2_2 zb0_0 zb0_1 zb0_2 zb0_3
      go_wp2_with fail
      obtain ⟨y0, y1, y2⟩ := h1.box3 2 rfl
      obtain ⟨x0, x1, x2⟩ := h1.box3 7 rfl
      go_region_held3 (fun w' => w'.cell? ⟨w6.heap.size, 0, none⟩ = some (.int .i64 a0_0) ∧ w'.cell? ⟨w6.heap.size, 1, none⟩ = some (.int .i64 a0_1) ∧ w'.cell? ⟨w6.heap.size, 2, none⟩ = some (.slice B5 l0.length d5) ∧ w'.cell? ⟨w.heap.size, 0, none⟩ = some (.int .i64 a0_0) ∧ w'.cell? ⟨w.heap.size, 1, none⟩ = some (.int .i64 a0_1) ∧ w'.cell? ⟨w.heap.size, 2, none⟩ = some (.slice A0 l0.length c0))
        (first | exact ⟨y0, y1, y2, x0, x1, x2⟩ | exact ⟨y0', y1', y2', x0', x1', x2'⟩ | exact ⟨y0'', y1'', y2'', x0'', x1'', x2''⟩)
        (first
          | (go_at_call 7; refine (toAlgebra_any a0_0 a0_1 _ l0 _ ?_ (by omega)).mono ?_; exact h1.drew.roInts 9 rfl; rintro (e : Ending) w9 ⟨u, rfl, ho, hb1⟩; obtain ⟨B8, d8, rfl, _, _, _⟩ := id ho.ints; have h2 := h1.drew.pushOwn hb1 ho; obtain ⟨y0', y1', y2'⟩ := h2.box3 3 rfl; obtain ⟨x0', x1', x2'⟩ := h2.box3 8 rfl)
          | (go_at_call 10; refine (eqAlgebra_same a0_0 a0_1 _ _ l0 _ (h2.ownInts 4 rfl) (h2.ownInts 0 rfl)).mono ?_; rintro (e : Ending) w10 ⟨rfl, hb2⟩; have h3 := h2.on hb2; obtain ⟨y0'', y1'', y2''⟩ := h3.box3 3 rfl; obtain ⟨x0'', x1'', x2''⟩ := h3.box3 8 rfl))
      clear y0 y1 y2 x0 x1 x2 y0' y1' y2' x0' x1' x2' y0'' y1'' y2'' x0'' x1'' x2'' h2 h1 hb1 hb2 ho
      have h1 := h3.drop 1
      clear h3
      go_wp2_with fail
      obtain ⟨y0, y1, y2, y3⟩ := h1.box4 0 rfl
      obtain ⟨x0, x1, x2, x3⟩ := h1.box4 6 rfl
      go_region_held3 (fun w' => w'.cell? ⟨w7.heap.size, 0, none⟩ = some (.int .i64 a1_0) ∧ w'.cell? ⟨w7.heap.size, 1, none⟩ = some (.int .i64 a1_1) ∧ w'.cell? ⟨w7.heap.size, 2, none⟩ = some (.int .i64 a1_2) ∧ w'.cell? ⟨w7.heap.size, 3, none⟩ = some (.slice B6 l1.length d6) ∧ w'.cell? ⟨w.heap.size + 1, 0, none⟩ = some (.int .i64 a1_0) ∧ w'.cell? ⟨w.heap.size + 1, 1, none⟩ = some (.int .i64 a1_1) ∧ w'.cell? ⟨w.heap.size + 1, 2, none⟩ = some (.int .i64 a1_2) ∧ w'.cell? ⟨w.heap.size + 1, 3, none⟩ = some (.slice A1 l1.length c1))
        (first | exact ⟨y0, y1, y2, y3, x0, x1, x2, x3⟩ | exact ⟨y0', y1', y2', y3', x0', x1', x2', x3'⟩ | exact ⟨y0'', y1'', y2'', y3'', x0'', x1'', x2'', x3''⟩)
        (first
          | (go_at_call 8; refine (toMatrix_any a1_0 a1_1 a1_2 _ l1 _ ?_ (by omega)).mono ?_; exact h1.drew.roInts 8 rfl; rintro (e : Ending) w11 ⟨u, rfl, ho, hb1⟩; obtain ⟨B9, d9, rfl, _, _, _⟩ := id ho.ints; have h2 := h1.drew.pushOwn hb1 ho; obtain ⟨y0', y1', y2', y3'⟩ := h2.box4 1 rfl; obtain ⟨x0', x1', x2', x3'⟩ := h2.box4 7 rfl)
          | (go_at_call 11; refine (eqMatrix_same a1_0 a1_1 a1_2 _ _ l1 _ (h2.ownInts 2 rfl) (h2.ownInts 0 rfl)).mono ?_; rintro (e : Ending) w12 ⟨rfl, hb2⟩; have h3 := h2.on hb2; obtain ⟨y0'', y1'', y2'', y3''⟩ := h3.box4 1 rfl; obtain ⟨x0'', x1'', x2'', x3''⟩ := h3.box4 7 rfl))
      clear y0 y1 y2 y3 x0 x1 x2 x3 y0' y1' y2' y3' x0' x1' x2' x3' y0'' y1'' y2'' y3'' x0'' x1'' x2'' x3'' h2 h1 hb1 hb2 ho
      have h1 := h3.drop 1
      clear h3
      go_wp2_with fail
      go_ret
      exact ⟨rfl, h1.below⟩
end Tya
end
section
open Go.RowKit
namespace Tya
set_option maxRecDepth 100000 in
theorem tabAt_of_laid {W : World} (hL : laidMetH Tryz.prog Rows.fnExactTypeOfAlgebraRow.laid W) : TabAt W := by
 have h1 := laidMetH.filter (fun x => x.1 == "internal/strconv.uint64pow10") hL
 have e : (Rows.fnExactTypeOfAlgebraRow.laid.filter fun x => x.1 == "internal/strconv.uint64pow10") = [("internal/strconv.uint64pow10", Lib.tabData .u64 Lib.pow10Tab)] := by kernel_rfl
 rw [e, MakeChecks.laidMetH_plain _ _ _ (by kernel_rfl)] at h1
 exact Lib.tabIs_of_head (g := 1) (t := 158) (e := 147) (n := 20) (by kernel_rfl) (by kernel_rfl) Tryz.underlying158 Tryz.underlying147 (by kernel_rfl) (by kernel_rfl) h1
end Tya
end
end Go.Proofs.YtbnefjhljfbecaaGreatDoor
