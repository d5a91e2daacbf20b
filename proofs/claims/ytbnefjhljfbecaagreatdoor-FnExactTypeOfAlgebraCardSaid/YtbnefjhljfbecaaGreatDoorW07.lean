import Derived.Deep.DeepCutAuto
import Derived.Deep.RegionHeld3
import Derived.StillTail
import Derived.Test.YtbnefjhljfbecaaGreatDoorW01
import Derived.Test.YtbnefjhljfbecaaGreatDoorW05
import Derived.Test.YtbnefjhljfbecaaGreatDoorW06
namespace Go.Proofs.YtbnefjhljfbecaaGreatDoor
set_option maxRecDepth 100000
section
section
section
variable {P : Program} {S : World → Prop} {md : Region.Mode}
def CutQ (P : Program) (l : List Oper) (Q : Exit → Act → World → Prop) (n : Nat) : Exit → Act → World → Prop
 | .normal, a, w => wpList P l.toArray Q (l.drop n) a w
 | e, a, w => Q e a w
def headB (md : Region.Mode) (l : List Oper) (n : Nat) : Bool :=
 (List.range n).all fun i => match l[i]? with
  | some o => (o.after.all fun e => !Region.binds md e || decide (e.on < i)) && (match o.guard with | some (g, _) => decide (g < n) | none => true)
  | none => false
def cutB (md : Region.Mode) (l : List Oper) (n : Nat) : Bool :=
 decide (n < l.length) && headB md l n && Region.sinkB md l.toArray n && Region.chainB md l.toArray n && Region.seqB md l.toArray (l.length - n) n (Array.replicate n true ++ Array.replicate (l.length - n) false)
theorem headB_spec {l : List Oper} {n : Nat} (h : headB md l n = true) {i : Nat} {o : Oper} (hi : i < n) (ho : l[i]? = some o) :
  (∀ e ∈ o.after, Region.binds md e = true → e.on < i) ∧ (∀ g b, o.guard = some (g, b) → g < n) := by
 have h1 := List.all_eq_true.1 h i (List.mem_range.2 hi)
 rw [ho] at h1
 simp only [Bool.and_eq_true] at h1
 refine ⟨fun e he hb => ?_, fun g b hg => ?_⟩
 ·have := Array.all_eq_true_iff_forall_mem.1 h1.1 e he
  simpa [hb] using this
 ·have := h1.2
  rw [hg] at this
  simpa using this
theorem getD_of {a : Array Bool} {i : Nat} {b d : Bool} (h : a[i]? = some b) : a.getD i d = b := by simp [h]
theorem oper_wp_Q {o : Oper} {a : Act} {w : World} {K K' : Act → World → Prop} {Q Q' : Exit → Act → World → Prop} (h : ∀ a w, K a w → K' a w) (hq : ∀ c a w, Q' (.panic c) a w → Q (.panic c) a w) (hl : LetsOut Q' → LetsOut Q)
  (hh : o.wp P a w K Q') : o.wp P a w K' Q := by
 unfold Oper.wp at *
 generalize (execOp a.eval o).run P w = r at *
 cases r with
 | ok n w' =>
  cases n <;> simp only [Oper.upon] at hh ⊢
  case value v => exact h _ _ hh
  case skip => exact h _ _ hh
  case defer d => exact h _ _ hh
  case enter f args =>
   refine Calls.mono hh fun e w'' he => ?_
   cases e with
   | returned v => exact h _ _ he
   | panicked c => exact hq _ _ _ he
   | outgrown => exact hl he
  case row row args => exact Rows.mono hh fun v w'' he => h _ _ he
 | halt x w' =>
  cases x <;> simp only [Oper.upon] at hh ⊢
  case panic u => exact hq _ _ _ hh
theorem cutQ_out {l : List Oper} {Q : Exit → Act → World → Prop} {n : Nat} : LetsOut (CutQ P l Q n) → LetsOut Q := fun ⟨a, w, h⟩ => ⟨a, w, h⟩
theorem wpAny_seq_more {ops : Array Oper} {Q' : Exit → Act → World → Prop} (m : Nat) : ∀ (l : List Oper) (k : Nat) (listed : Array Bool) (a : Act) (w : World), (∀ j, l[j]? = ops[k + j]?) →
  Region.seqB md ops l.length k listed = true → wpList P ops Q' l a w → wpAny P md ops Q' (m + l.length) listed a w
 | [], _, listed, _, _, _, hB, h => by
  have hr : Region.ready md ops listed = [] := by simpa [Region.seqB] using hB
  cases m with
  | zero => exact ⟨hr, h⟩
  | succ m => exact ⟨fun _ => h, by rw [hr]; simp⟩
 | o :: l, k, listed, a, w, hl, hB, h => by
  have h0 : ops[k]? = some o := by simpa using (hl 0).symm
  simp only [List.length_cons, Region.seqB, Bool.and_eq_true, decide_eq_true_eq] at hB
  show wpAny P md ops Q' ((m + l.length) + 1) listed a w
  refine ⟨fun h1 => (by rw [hB.1] at h1; cases h1), fun i hi => ?_⟩
  rw [hB.1] at hi
  have hik : i = k := by simpa using hi
  subst hik
  have hw : wpOp P ops Q' i (wpList P ops Q' l) a w := by unfold wpOp; simp only [h0]; exact h
  exact wpOp_mono (fun a' w' h' => wpAny_seq_more m l (i + 1) _ a' w' (fun j => by have := hl (j + 1); simpa [Nat.add_assoc, Nat.add_comm 1 j] using this) hB.2 h') hw
section
variable {l : List Oper} {n : Nat} {Q : Exit → Act → World → Prop}
theorem take_get {i : Nat} (hi : i < n) : (l.take n).toArray[i]? = l.toArray[i]? := by simp [hi]
theorem ready_head (hh : headB md l n = true) {listed Lh : Array Bool} (hag : ∀ j, j < n → listed[j]? = Lh[j]?) {i : Nat} (hi : i < n) : i ∈ Region.ready md l.toArray listed ↔ i ∈ Region.ready md (l.take n).toArray Lh := by
 rw [mem_ready, mem_ready, take_get hi]
 have g1 : ∀ (j : Nat) (d : Bool), j < n → listed.getD j d = Lh.getD j d := fun j d hj => by
  rw [Array.getD_eq_getD_getElem?, Array.getD_eq_getD_getElem?, hag j hj]
 rw [g1 i true hi]
 refine and_congr_right fun _ => exists_congr fun o => and_congr_right fun ho => forall_congr' fun e => forall_congr' fun he => forall_congr' fun hb => ?_
 have := (headB_spec hh hi (by simpa using ho)).1 e he hb
 rw [g1 e.on false (by omega)]
theorem wanted_head (hh : headB md l n = true) {i : Nat} {o : Oper} (hi : i < n) (ho : l[i]? = some o) (t : Array Value) : Region.wanted o (yielded l.toArray t) = Region.wanted o (yielded (l.take n).toArray t) := by
 unfold Region.wanted
 cases hg : o.guard with
 | none => rfl
 | some gb =>
  obtain ⟨g, b⟩ := gb
  have hgn := (headB_spec hh hi ho).2 g b hg
  have e : yielded l.toArray t g = yielded (l.take n).toArray t g := by unfold yielded; rw [take_get hgn]
  simp only [e]
theorem wpOp_cut (hh : headB md l n = true) {i : Nat} (hi : i < n) (hn : n < l.length) {K K' : Act → World → Prop} (hK : ∀ a w, K a w → K' a w) {a : Act} {w : World}
  (h : wpOp P (l.take n).toArray (CutQ P l Q n) i K a w) : wpOp P l.toArray Q i K' a w := by
 unfold wpOp at *
 rw [take_get hi] at h
 have hil : i < l.length := by omega
 have ho : l[i]? = some l[i] := List.getElem?_eq_getElem hil
 have ho' : l.toArray[i]? = some l[i] := by simp [hil]
 simp only [ho'] at h ⊢
 rw [wanted_head hh hi ho]
 split
 ·rename_i hw
  rw [if_pos hw] at h
  rcases h with h | ⟨h1, h2⟩
  ·exact .inl (oper_wp_Q hK (fun _ _ _ h => h) (cutQ_out (P := P) (l := l) (n := n)) h)
  ·exact .inr ⟨h1, cutQ_out (P := P) (l := l) (n := n) h2⟩
 ·rename_i hw
  rw [if_neg hw] at h
  exact hK _ _ h
theorem all_listed (hh : headB md l n = true) (hn : n < l.length) {Lh : Array Bool} (hs : Lh.size = n) (hr : Region.ready md (l.take n).toArray Lh = []) : ∀ i, i < n → Lh[i]? = some true := by
 intro i
 induction i using Nat.strongRecOn with
 | _ i ih =>
  intro hi
  have hin : i < Lh.size := by omega
  cases hb : Lh[i] with
  | true => rw [Array.getElem?_eq_getElem hin, hb]
  | false =>
   exfalso
   have hil : i < l.length := by omega
   have : i ∈ Region.ready md (l.take n).toArray Lh := by
    rw [mem_ready]
    refine ⟨getD_of (by rw [Array.getElem?_eq_getElem hin, hb]), l[i], by rw [take_get hi]; simp [hil], fun e he hbd => ?_⟩
    have h1 := (headB_spec hh hi (List.getElem?_eq_getElem hil)).1 e he hbd
    exact getD_of (ih e.on h1 (by omega))
   rw [hr] at this
   cases this
theorem wpAny_cut (hB : cutB md l n = true) : ∀ (f : Nat) (Lh listed : Array Bool) (a : Act) (w : World), HeadInv md l.toArray n listed → Lh.size = n → (∀ j, j < n → listed[j]? = Lh[j]?) →
  wpAnyH P md (l.take n).toArray (CutQ P l Q n) S f Lh a w → wpAny P md l.toArray Q (f + (l.length - n)) listed a w := by
 simp only [cutB, Bool.and_eq_true, decide_eq_true_eq] at hB
 obtain ⟨⟨⟨⟨hn, hh⟩, hsk⟩, hc⟩, hsq⟩ := hB
 have hnO : n < l.toArray.size := by simpa using hn
 have stop : ∀ (f : Nat) (Lh listed : Array Bool) (a : Act) (w : World), HeadInv md l.toArray n listed → Lh.size = n → (∀ j, j < n → listed[j]? = Lh[j]?) → Region.ready md (l.take n).toArray Lh = [] → CutQ P l Q n .normal a w → wpAny P md l.toArray Q (f + (l.length - n)) listed a w := by
  intro f Lh listed a w inv hs hag hr h
  have hall := all_listed hh hn hs hr
  have e : listed = Array.replicate n true ++ Array.replicate (l.length - n) false := by
   apply Array.ext
   ·rw [inv.size]; simp; omega
   ·intro i h1 h2
    by_cases hi : i < n
    ·have := (hag i hi).trans (hall i hi)
     rw [Array.getElem?_eq_getElem h1] at this
     rw [Array.getElem_append_left (by simpa using hi)]
     simpa using this
    ·have := inv.tail i (by omega) (by rw [← inv.size]; exact h1)
     rw [Array.getElem_append_right (by simpa using (by omega : n ≤ i))]
     simp [h1] at this
     simp [this]
  rw [e]
  have hdl : (l.drop n).length = l.length - n := by simp
  have := wpAny_seq_more (P := P) (md := md) (ops := l.toArray) (Q' := Q) f (l.drop n) n (Array.replicate n true ++ Array.replicate (l.length - n) false) a w (fun j => by simp [List.getElem?_drop]) (by rw [hdl]; exact hsq) h
  rwa [hdl] at this
 intro f
 induction f with
 | zero => exact fun Lh listed a w inv hs hag h => stop 0 Lh listed a w inv hs hag h.1 h.2
 | succ f ih =>
  intro Lh listed a w inv hs hag h
  cases hr : Region.ready md (l.take n).toArray Lh with
  | nil => exact stop (f + 1) Lh listed a w inv hs hag hr (h.1 hr)
  | cons i0 rs =>
   have hi0 : i0 ∈ Region.ready md (l.take n).toArray Lh := by rw [hr]; simp
   have hi0n : i0 < n := by
    obtain ⟨_, o, ho, _⟩ := mem_ready.1 hi0
    have := (Array.getElem?_eq_some_iff.1 ho).1
    simp at this; omega
   have hi0O := (ready_head hh hag hi0n).2 hi0
   have hun := (mem_ready.1 hi0O).1
   show wpAny P md l.toArray Q (f + 1 + (l.length - n)) listed a w
   rw [show f + 1 + (l.length - n) = (f + (l.length - n)) + 1 by omega]
   refine ⟨fun h0 => (by rw [h0] at hi0O; cases hi0O), fun i hi => ?_⟩
   have hin : i < n := by
    rcases Nat.lt_or_ge i n with h' | h'
    ·exact h'
    ·exact absurd hi (tail_waits hsk hc hnO inv _ i0 rfl hi0n hun i h')
   refine wpOp_cut hh hin hn (fun a' w' h' => ?_) (h.2 i ((ready_head hh hag hin).1 hi))
   refine ih (Lh.setIfInBounds i true) (listed.setIfInBounds i true) a' w' (inv.set hi hin) (by simpa using hs) (fun j hj => ?_) h'.2
   rw [Array.getElem?_setIfInBounds, Array.getElem?_setIfInBounds, hag j hj, hs, inv.size]
   by_cases hij : i = j
   ·subst hij; simp [hj]; omega
   ·simp [hij]
end
theorem wp_region_cut {id : Nat} {l : List Oper} {Q : Exit → Act → World → Prop} {a : Act} {w : World} (n : Nat) (hm : P.follows .mixedOrders = true) (hB : cutB .any l n = true) (hS : S w.drew)
  (h : S w.drew → wpAnyH P .any (l.take n).toArray (CutQ P l Q n) S n (Array.replicate n false) a w.drew) : (Code.region id l.toArray true).wp P Q a w := by
 refine wp_region_any hm ?_
 have hn : n < l.length := by simp only [cutB, Bool.and_eq_true, decide_eq_true_eq] at hB; exact hB.1.1.1.1
 have := wpAny_cut (S := S) (Q := Q) hB n (Array.replicate n false) (Array.replicate l.toArray.size false) a w.drew
  ⟨by simp, fun j oj _ hl => (by rw [getD_replicate_false] at hl; cases hl), fun t _ ht => getD_in (by simpa using ht) (getD_replicate_false _ _)⟩
  (by simp) (fun j hj => by rw [Array.getElem?_replicate, Array.getElem?_replicate, if_pos hj, if_pos (by simp; omega)]) (h hS)
 rw [show n + (l.length - n) = l.toArray.size by simp; omega] at this
 exact this
section
variable {l : List Oper} {Q : Exit → Act → World → Prop}
theorem anyH_take (i : Nat) {oi : Oper} {v : Value} {fuel : Nat} {listed : Array Bool} {a : Act} {w : World} (hi : l[i]? = some oi)
  (hs : Region.noSelect l.toArray = true) (hf : Region.free md l.toArray listed i = true) (hr : (Region.ready md l.toArray listed).contains i = true)
  (hQ : ∀ c a w, Q (.panic c) (a.put oi.dst v) w → Q (.panic c) a w) (hw : Region.wanted oi (yielded l.toArray a.tmps) = true) (hy : ∀ w, S w → (execOp a.eval oi).run P w = .ok (.value v) w) (hS : S w)
  (h : wpAnyH P md l.toArray Q S fuel (listed.setIfInBounds i true) (a.put oi.dst v) w) : wpAnyH P md l.toArray Q S (fuel + 1) listed a w :=
 wpAnyH_take (by simpa using hi) hs hf hr hQ (.inl ⟨hw, hy⟩) hS h
theorem anyH_skip (i : Nat) {oi : Oper} {fuel : Nat} {listed : Array Bool} {a : Act} {w : World} (hi : l[i]? = some oi)
  (hs : Region.noSelect l.toArray = true) (hf : Region.free md l.toArray listed i = true) (hr : (Region.ready md l.toArray listed).contains i = true)
  (hQ : ∀ c a w, Q (.panic c) (a.put oi.dst undef) w → Q (.panic c) a w) (hw : Region.wanted oi (yielded l.toArray a.tmps) = false) (hS : S w)
  (h : wpAnyH P md l.toArray Q S fuel (listed.setIfInBounds i true) (a.put oi.dst undef) w) : wpAnyH P md l.toArray Q S (fuel + 1) listed a w :=
 wpAnyH_take (by simpa using hi) hs hf hr hQ (.inr ⟨hw, rfl⟩) hS h
theorem tkA (i : Nat) {oi : Oper} {v : Value} {fuel : Nat} {listed : Array Bool} {a a' : Act} {w : World} (hS : S w)
  (h : wpAnyH P md l.toArray Q S fuel (listed.setIfInBounds i true) a' w) (hi : l[i]? = some oi := by exact rfl)
  (hs : Region.noSelect l.toArray = true := by kernel_rfl) (hf : Region.free md l.toArray listed i = true := by kernel_rfl) (hr : (Region.ready md l.toArray listed).contains i = true := by kernel_rfl)
  (hw : Region.wanted oi (yielded l.toArray a.tmps) = true := by exact rfl)
  (hy : ∀ w, S w → (execOp a.eval oi).run P w = .ok (.value v) w := by (intro w' hSw; go_simp; try with_reducible rfl))
  (ha : a.put oi.dst v = a' := by (simp only [Act.put, List.setIfInBounds_toArray, List.set_cons_zero, List.set_cons_succ]; try exact rfl))
  (hQ : ∀ c a w, Q (.panic c) (a.put oi.dst v) w → Q (.panic c) a w := by exact fun _ _ _ h => h) : wpAnyH P md l.toArray Q S (fuel + 1) listed a w :=
 anyH_take i hi hs hf hr hQ hw hy hS (ha ▸ h)
theorem skA (i : Nat) {oi : Oper} {fuel : Nat} {listed : Array Bool} {a a' : Act} {w : World} (hS : S w)
  (h : wpAnyH P md l.toArray Q S fuel (listed.setIfInBounds i true) a' w) (hi : l[i]? = some oi := by exact rfl)
  (hs : Region.noSelect l.toArray = true := by kernel_rfl) (hf : Region.free md l.toArray listed i = true := by kernel_rfl) (hr : (Region.ready md l.toArray listed).contains i = true := by kernel_rfl)
  (hQ : ∀ c a w, Q (.panic c) (a.put oi.dst undef) w → Q (.panic c) a w := by exact fun _ _ _ h => h) (hw : Region.wanted oi (yielded l.toArray a.tmps) = false := by exact rfl)
  (ha : a.put oi.dst undef = a' := by (simp only [Act.put, List.setIfInBounds_toArray, List.set_cons_zero, List.set_cons_succ]; try exact rfl)) : wpAnyH P md l.toArray Q S (fuel + 1) listed a w :=
 anyH_skip i hi hs hf hr hQ hw hS (ha ▸ h)
theorem ready_cons {fuel : Nat} {listed : Array Bool} {a : Act} {w : World} {i : Nat} {o : Oper} {rs : List Nat} (ho : l[i]? = some o)
  (h : ∀ K' : Act → World → Prop, Shut (∀ a w, S w → (S w → wpAnyH P md l.toArray Q S fuel (listed.setIfInBounds i true) a w) → K' a w) → if Region.wanted o (yielded l.toArray a.tmps) = true then Oper.wp P o a w K' Q else K' (a.put o.dst undef) w)
  (hs : AllReadyH P md l.toArray Q S fuel listed a w rs) : AllReadyH P md l.toArray Q S fuel listed a w (i :: rs) :=
 AllReadyH.cons (by simpa using ho) h hs
theorem rcA (i : Nat) {fuel : Nat} {listed : Array Bool} {a : Act} {w : World} {o : Oper}
  (h : ∀ K' : Act → World → Prop, Shut (∀ a w, S w → (S w → wpAnyH P md l.toArray Q S fuel (listed.setIfInBounds i true) a w) → K' a w) → if Region.wanted o (yielded l.toArray a.tmps) = true then Oper.wp P o a w K' Q else K' (a.put o.dst undef) w)
  (ho : l[i]? = some o := by exact rfl) (hr : Region.ready md l.toArray listed = [i] := by kernel_rfl) : wpAnyH P md l.toArray Q S (fuel + 1) listed a w :=
 wpAnyH_ready hr (by simp) (ready_cons ho h AllReadyH.nil)
theorem outA {fuel : Nat} {listed : Array Bool} {a a' : Act} {w : World} {K' : Act → World → Prop} (hK : Shut (∀ a w, S w → (S w → wpAnyH P md l.toArray Q S fuel listed a w) → K' a w)) (hS : S w) (h : S w → wpAnyH P md l.toArray Q S fuel listed a' w)
  (ha : a = a' := by ((try simp only [Act.put, List.setIfInBounds_toArray, List.set_cons_zero, List.set_cons_succ]); exact rfl)) : K' a w :=
 hK.out _ _ hS (ha ▸ h)
end
end
end
section
open Go.RowKit
theorem St.toFront {w0 w : World} {L : List It} (h : St w0 w L) (i : Nat) {x : It} (hi : L[i]? = some x) : St w0 w (x :: L.eraseIdx i) := by
 have key : ∀ (j : Nat) (z : It), (x :: L.eraseIdx i)[j]? = some z → L[if j = 0 then i else if j - 1 < i then j - 1 else j]? = some z := fun j z hz => by
  cases j with
  | zero => simpa [hi] using hz
  | succ j =>
   rw [List.getElem?_cons_succ, List.getElem?_eraseIdx] at hz
   simp only [Nat.add_sub_cancel, Nat.succ_ne_zero, if_false]
   split
   ·rename_i e; rw [if_pos e] at hz; exact hz
   ·rename_i e; rw [if_neg e] at hz; exact hz
 refine ⟨h.below, fun z hz => ?_, fun j k a b ha hb c h1 h2 => ?_, fun z hz => ?_⟩
 ·obtain ⟨j, hj⟩ := List.getElem?_of_mem hz
  exact h.at _ (key j z hj)
 ·have e := h.apart _ _ a b (key j a ha) (key k b hb) c h1 h2
  split at e <;> split at e <;> (try split at e) <;> (try split at e) <;> omega
 ·obtain ⟨j, hj⟩ := List.getElem?_of_mem hz
  exact h.vecNodup _ (key j z hj)
theorem St.letter {w0 w : World} {L : List It} (h : St w0 w L) : ∃ L', L' = L ∧ St w0 w L' := ⟨L, rfl, h⟩
end
end
section
open Go.RowKit
theorem wrap_ok {x : Int} (h0 : -9223372036854775808 ≤ x) (h1 : x ≤ 9223372036854775807) : IntKind.i64.wrap x = x := by rw [IntKind.wrap_i64]; omega
set_option maxHeartbeats 400000 in
theorem l1Same_any (v u : Value) (xs ys : List Int) (w : World) (hv : Ints w v xs) (hu : Ints w u ys) :
  Calls Tryz.prog 38 #[v, u] w fun e w' => e = .returned (.bool (decide (xs = ys))) ∧ ∃ n, w' = w.drewN n := by
 obtain ⟨A, c, rfl, h1, h2, h3⟩ := hv
 obtain ⟨B, d, rfl, g1, g2, g3⟩ := hu
 obtain ⟨R, hR⟩ : ∃ R, R = decide (xs = ys) := ⟨_, rfl⟩
 rw [← hR]
 by_cases hl : xs.length = ys.length
 ·have HR := Lib.hid hR
  clear hR
  have t1 : ((xs.length : Int) != (ys.length : Int)) = false := by simp [hl]
  have hl1 : xs.length ≤ ys.length := by omega
  have HL := Lib.hid hl
  clear hl
  go_enter Tryz.func38, Tryz.ntmps38
  go_wp2
  go_loopw [5] (fun vi wr => ∃ (k m : Nat), vi = .int .i64 k ∧ k ≤ xs.length ∧ wr = w.drewN m ∧ Hid (R = decide (xs.drop k = ys.drop k))) (fun vi _ => xs.length - (intOf vi).toNat)
  case atStart => exact ⟨0, 0, rfl, by omega, rfl, HR⟩
  case round =>
   obtain ⟨k, m, rfl, a1, rfl, HM⟩ := hrel
   by_cases hk : k < xs.length
   ·obtain ⟨b, off, rfl, hc⟩ := h3 (by omega)
    obtain ⟨b', off', rfl, hc'⟩ := g3 (by omega)
    have hk2 : k < ys.length := by omega
    have e1 := hc k xs[k] (List.getElem?_eq_getElem hk)
    have e2 := hc' k ys[k] (List.getElem?_eq_getElem hk2)
    have HD := Lib.hid (eq_step xs ys k hk hk2)
    clear hc hc' h3 g3
    by_cases hxy : xs[k] = ys[k]
    ·have t2 : (xs[k] != ys[k]) = false := by simp [hxy]
     have Hxy := Lib.hid hxy
     clear hxy
     go_wp2
     go_quiet (fail)
     go_wp2
     go_roundw
     case rel => exact ⟨k + 1, _, by go_num, by omega, rfl, by rw [HM.out, HD.out, if_pos Hxy.out]; exact rfl⟩
     case measure => simp [intOf]; omega
    ·have t2 : (xs[k] != ys[k]) = true := by simp [hxy]
     have Hxy := Lib.hid hxy
     clear hxy
     go_wp2
     go_quiet (fail)
     go_wp2
     go_ret
     exact ⟨ret_bool (by rw [HM.out, HD.out, if_neg Hxy.out]), by simp only [World.drewN_drewN]; exact ⟨_, rfl⟩⟩
   ·obtain rfl : k = xs.length := by omega
    clear h3 g3
    go_wp2
    go_ret
    exact ⟨ret_bool (by rw [HM.out, eq_end _ _ HL.out]), _, rfl⟩
 ·have t1 : ((xs.length : Int) != (ys.length : Int)) = true := by simp; omega
  have h0 : R = false := by rw [hR]; simp; intro e; exact hl (by rw [e])
  have H0 := Lib.hid h0
  clear hR h0 h3 g3 hl
  go_enter Tryz.func38, Tryz.ntmps38
  go_wp2
  go_ret
  exact ⟨ret_bool (H0.out).symm, 0, rfl⟩
set_option maxHeartbeats 400000 in
theorem Equal_any (v u : Value) (xs ys : List Int) (w : World) (hv : Ints w v xs) (hu : Ints w u ys) :
  Calls Tryz.prog 27 #[v, u] w fun e w' => e = .returned (.bool (decide (xs = ys))) ∧ ∃ n, w' = w.drewN n := by
 obtain ⟨A, c, rfl, h1, h2, h3⟩ := hv
 obtain ⟨B, d, rfl, g1, g2, g3⟩ := hu
 obtain ⟨R, hR⟩ : ∃ R, R = decide (xs = ys) := ⟨_, rfl⟩
 rw [← hR]
 by_cases hl : xs.length = ys.length
 ·have HR := Lib.hid hR
  clear hR
  have t1 : ((xs.length : Int) != (ys.length : Int)) = false := by simp [hl]
  have hl1 : xs.length ≤ ys.length := by omega
  have HL := Lib.hid hl
  clear hl
  go_enter Tryz.func27, Tryz.ntmps27
  go_wp2
  go_loopw [5, 13] (fun vj vi wr => ∃ (k m : Nat), vi = .int .i64 k ∧ k ≤ xs.length ∧ wr = w.drewN m ∧ Hid (R = decide (xs.drop k = ys.drop k))) (fun _ vi _ => xs.length - (intOf vi).toNat)
  case atStart => exact ⟨0, 0, rfl, by omega, rfl, HR⟩
  case round =>
   obtain ⟨k, m, rfl, a1, rfl, HM⟩ := hrel
   by_cases hk : k < xs.length
   ·obtain ⟨b, off, rfl, hc⟩ := h3 (by omega)
    obtain ⟨b', off', rfl, hc'⟩ := g3 (by omega)
    have hk2 : k < ys.length := by omega
    have e1 := hc k xs[k] (List.getElem?_eq_getElem hk)
    have e2 := hc' k ys[k] (List.getElem?_eq_getElem hk2)
    have HD := Lib.hid (eq_step xs ys k hk hk2)
    clear hc hc' h3 g3
    by_cases hxy : xs[k] = ys[k]
    ·have t2 : (xs[k] != ys[k]) = false := by simp [hxy]
     have Hxy := Lib.hid hxy
     clear hxy
     go_wp2
     go_quiet (fail)
     go_wp2
     go_roundw
     case rel => exact ⟨k + 1, _, by go_num, by omega, rfl, by rw [HM.out, HD.out, if_pos Hxy.out]; exact rfl⟩
     case measure => simp [intOf]; omega
    ·have t2 : (xs[k] != ys[k]) = true := by simp [hxy]
     have Hxy := Lib.hid hxy
     clear hxy
     go_wp2
     go_quiet (fail)
     go_wp2
     go_ret
     exact ⟨ret_bool (by rw [HM.out, HD.out, if_neg Hxy.out]), by simp only [World.drewN_drewN]; exact ⟨_, rfl⟩⟩
   ·obtain rfl : k = xs.length := by omega
    clear h3 g3
    go_wp2
    go_ret
    exact ⟨ret_bool (by rw [HM.out, eq_end _ _ HL.out]), _, rfl⟩
 ·have t1 : ((xs.length : Int) != (ys.length : Int)) = true := by simp; omega
  have h0 : R = false := by rw [hR]; simp; intro e; exact hl (by rw [e])
  have H0 := Lib.hid h0
  clear hR h0 h3 g3 hl
  go_enter Tryz.func27, Tryz.ntmps27
  go_wp2
  go_ret
  exact ⟨ret_bool (H0.out).symm, 0, rfl⟩
theorem row_bd {r c i : Nat} (hi : i < r) : i * c + c ≤ r * c := by
 have := Nat.mul_le_mul_right c (show i + 1 ≤ r from hi)
 rw [Nat.add_mul] at this; omega
theorem row_int {r c i N : Nat} (hi : i < r) (h : r * c ≤ N) : 0 ≤ (i : Int) * c ∧ (i : Int) * c ≤ N ∧ 0 ≤ ((i : Int) + 1) * c ∧ ((i : Int) + 1) * c ≤ N := by
 have hb := row_bd (c := c) hi
 have e1 : ((i * c : Nat) : Int) = (i : Int) * c := Int.natCast_mul _ _
 have e2 : ((i : Int) + 1) * c = (i : Int) * c + c := by rw [Int.add_mul, Int.one_mul]
 omega
theorem St.ownSome {w0 w : World} {L : List It} (h : St w0 w L) (i : Nat) {A : Option Addr} {n c : Nat} {l : List Int} (hi : L[i]? = some (.own (.slice A n c) l)) (hn : 0 < l.length) : ∃ g, A = some ⟨g, 0, none⟩ ∧ n = l.length := by
 rcases id (h.own i hi).2 with ⟨_, h0⟩ | ⟨g, cap, cur, hv, _⟩
 ·omega
 ·simp only [Value.slice.injEq] at hv
  exact ⟨g, hv.1, hv.2.1⟩
theorem St.ownCell {w0 w : World} {L : List It} (h : St w0 w L) (i : Nat) {g n c : Nat} {l : List Int} (hi : L[i]? = some (.own (.slice (some ⟨g, 0, none⟩) n c) l)) {q : Nat} (hq : q < l.length) : w.cell? ⟨g, q, none⟩ = some (.int .i64 (Go.Proofs.YtbnefjhljfbecaaGreatDoor.vec l q)) ∧ w.frozen? ⟨g, q, none⟩ = false := by
 rcases id (h.own i hi).2 with ⟨_, h0⟩ | ⟨g', cap, cur, hv, _, hh, r⟩
 ·omega
 ·simp only [Value.slice.injEq, Option.some.injEq, Addr.mk.injEq] at hv
  obtain ⟨⟨rfl, _⟩, _, rfl⟩ := hv
  refine ⟨?_, frozen_of_row w g q _ _ hh⟩
  obtain ⟨A', c', e1, e2, e3, e4⟩ := h.ownInts i hi
  simp only [Value.slice.injEq] at e1
  obtain ⟨rfl, _, rfl⟩ := e1
  obtain ⟨b', off, e5, e6⟩ := e4 (by omega)
  simp only [Option.some.injEq, Addr.mk.injEq] at e5
  obtain ⟨rfl, rfl, _⟩ := e5
  have := e6 q _ (vec_get hq)
  rwa [Nat.zero_add] at this
theorem St.roCell {w0 w : World} {L : List It} (h : St w0 w L) (i : Nat) {b off n c : Nat} {l : List Int} (hi : L[i]? = some (.ro (.slice (some ⟨b, off, none⟩) n c) l)) {q : Nat} (hq : q < l.length) : w.cell? ⟨b, off + q, none⟩ = some (.int .i64 (Go.Proofs.YtbnefjhljfbecaaGreatDoor.vec l q)) := by
 obtain ⟨A', c', e1, _, _, e4⟩ := h.roInts i hi
 simp only [Value.slice.injEq] at e1
 obtain ⟨rfl, _, rfl⟩ := e1
 obtain ⟨b', off', e5, e6⟩ := e4 (by omega)
 simp only [Option.some.injEq, Addr.mk.injEq] at e5
 obtain ⟨rfl, rfl, _⟩ := e5
 exact e6 q _ (vec_get hq)
theorem St.swap2 {w0 w : World} {x y : It} {L : List It} (h : St w0 w (x :: y :: L)) : St w0 w (y :: x :: L) := by
 have key : ∀ (i : Nat) (z : It), (y :: x :: L)[i]? = some z → ∃ k, (x :: y :: L)[k]? = some z ∧ (i = 0 ∧ k = 1 ∨ i = 1 ∧ k = 0 ∨ 2 ≤ i ∧ k = i) := fun i z hz => by
  match i, hz with
  | 0, hz => exact ⟨1, hz, .inl ⟨rfl, rfl⟩⟩
  | 1, hz => exact ⟨0, hz, .inr (.inl ⟨rfl, rfl⟩)⟩
  | i + 2, hz => exact ⟨i + 2, hz, .inr (.inr ⟨by omega, rfl⟩)⟩
 refine ⟨h.below, fun z hz => h.ok z (by simp only [List.mem_cons] at hz ⊢; rcases hz with e | e | e <;> simp [e]), fun i j a b ha hb c h1 h2 => ?_, fun z hz => h.nodup z (by simp only [List.mem_cons] at hz ⊢; rcases hz with e | e | e <;> simp [e])⟩
 obtain ⟨k, hk, ek⟩ := key i a ha
 obtain ⟨l, hl, el⟩ := key j b hb
 have := h.apart k l a b hk hl c h1 h2
 omega
set_option maxHeartbeats 400000 in
theorem Index_any (v : Value) (l : List Int) (x : Int) (w : World) (hv : Ints w v l) :
  Calls Tryz.prog 131 #[v, .int .i64 x] w fun e w' => e = .returned (.int .i64 (idx (fun y => y == x) l 0)) ∧ w = w' := by
 obtain ⟨A, c, rfl, h1, h2, h3⟩ := hv
 obtain ⟨R, hR⟩ : ∃ R, R = idx (fun y => y == x) l 0 := ⟨_, rfl⟩
 rw [← hR]
 have HR := Lib.hid hR
 clear hR
 go_enter Tryz.func131, Tryz.ntmps131
 go_wp2
 go_loop [5, 8] (fun _ vi => ∃ k : Nat, vi = .int .i64 k ∧ Hid (R = idx (fun y => y == x) (l.drop k) k)) (fun _ vi => l.length - (intOf vi).toNat)
 case atStart => exact ⟨0, rfl, HR⟩
 case round =>
  obtain ⟨k, rfl, HM⟩ := hrel
  by_cases hk : k < l.length
  ·obtain ⟨b, off, rfl, hc⟩ := h3 (by omega)
   have e1 := hc k l[k] (List.getElem?_eq_getElem hk)
   have HD := Lib.hid (idx_drop (fun y => y == x) l k hk)
   clear hc h3
   by_cases hx : l[k] = x
   ·have HX := Lib.hid hx
    have e2 : (x == l[k]) = true := by rw [hx]; simp
    clear hx
    go_wp2
    go_ret
    exact ⟨ret_int (by rw [HM.out, HD.out, if_pos (by simp [HX.out])]), rfl⟩
   ·have e2 : (x == l[k]) = false := by rw [beq_eq_false_iff_ne]; exact fun e => hx e.symm
    go_wp2
    go_round
    case rel => exact ⟨k + 1, by go_num, by rw [HM.out, HD.out, if_neg (by simp [hx])]; exact rfl⟩
    case measure => simp [intOf]; omega
  ·have HE := Lib.hid (idx_end (fun y => y == x) l k (by omega))
   clear h3
   go_wp2
   go_ret
   exact ⟨ret_int (by rw [HM.out, HE.out]), rfl⟩
theorem Contains_any (v : Value) (l : List Int) (x : Int) (w : World) (hv : Ints w v l) :
  Calls Tryz.prog 115 #[v, .int .i64 x] w fun e w' => e = .returned (.bool (decide (0 ≤ idx (fun y => y == x) l 0))) ∧ w = w' := by
 obtain ⟨A, c, rfl, _, _, _⟩ := id hv
 obtain ⟨R, hR⟩ : ∃ R, R = idx (fun y => y == x) l 0 := ⟨_, rfl⟩
 have HI := Lib.hid (Index_any _ l x w hv)
 rw [← hR] at HI
 rw [← hR]
 clear hv hR
 go_enter Tryz.func115, Tryz.ntmps115
 go_wp2_with fail
 refine HI.out.mono ?_
 rintro (e : Ending) w1 ⟨rfl, rfl⟩
 go_wp2
 go_ret
 exact ⟨rfl, rfl⟩
end
end Go.Proofs.YtbnefjhljfbecaaGreatDoor
