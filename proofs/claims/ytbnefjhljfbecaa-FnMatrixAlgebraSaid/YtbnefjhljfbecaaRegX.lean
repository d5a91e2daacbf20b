/- Regions that draw their order, by hand: a tail in one forced order is cut off; single steps on lists of operations. Memory facts: a piece goes to the front. -/
import Derived.Test.YtbnefjhljfbecaaBase
import Derived.Test.YtbnefjhljfbecaaStB
import Derived.Deep.RegionHeld3
import Derived.StillTail
import Derived.Deep.DeepCutAuto
namespace Go.Proofs.Ytbnefjhljfbecaa
set_option maxRecDepth 100000
section
section
variable {P : Program} {S : World → Prop} {md : Region.Mode}

/-- The post of the head: the tail follows. -/
def CutQ (P : Program) (l : List Oper) (Q : Exit → Act → World → Prop) (n : Nat) : Exit → Act → World → Prop
  | .normal, a, w => wpList P l.toArray Q (l.drop n) a w
  | e, a, w => Q e a w
/-- The head stands by itself. -/
def headB (md : Region.Mode) (l : List Oper) (n : Nat) : Bool :=
  (List.range n).all fun i => match l[i]? with
    | some o => (o.after.all fun e => !Region.binds md e || decide (e.on < i)) && (match o.guard with | some (g, _) => decide (g < n) | none => true)
    | none => false
def cutB (md : Region.Mode) (l : List Oper) (n : Nat) : Bool :=
  decide (n < l.length) && headB md l n && Region.sinkB md l.toArray n && Region.chainB md l.toArray n && Region.seqB md l.toArray (l.length - n) n (Array.replicate n true ++ Array.replicate (l.length - n) false)

theorem headB_spec {l : List Oper} {n : Nat} (h : headB md l n = true) {i : Nat} {o : Oper} (hi : i < n) (ho : l[i]? = some o) :
    (∀ e ∈ o.after, Region.binds md e = true → e.on < i) ∧ (∀ g b, o.guard = some (g, b) → g < n) := by
  have h1 := List.all_eq_true.1 h i (List.mem_range.2 hi)
  rw [ho] at h1
  simp only [Bool.and_eq_true] at h1
  refine ⟨fun e he hb => ?_, fun g b hg => ?_⟩
  · have := Array.all_eq_true_iff_forall_mem.1 h1.1 e he
    simpa [hb] using this
  · have := h1.2
    rw [hg] at this
    simpa using this
theorem getD_of {a : Array Bool} {i : Nat} {b d : Bool} (h : a[i]? = some b) : a.getD i d = b := by simp [h]
theorem oper_wp_Q {o : Oper} {a : Act} {w : World} {K K' : Act → World → Prop} {Q Q' : Exit → Act → World → Prop} (h : ∀ a w, K a w → K' a w) (hq : ∀ c a w, Q' (.panic c) a w → Q (.panic c) a w) (hl : LetsOut Q' → LetsOut Q)
    (hh : o.wp P a w K Q') : o.wp P a w K' Q := by
  unfold Oper.wp at *
  generalize (execOp a.eval o).run P w = r at *
  cases r with
  | ok n w' =>
    cases n <;> simp only [Oper.upon] at hh ⊢
    case value v => exact h _ _ hh
    case skip => exact h _ _ hh
    case defer d => exact h _ _ hh
    case enter f args =>
      refine Calls.mono hh fun e w'' he => ?_
      cases e with
      | returned v => exact h _ _ he
      | panicked c => exact hq _ _ _ he
      | outgrown => exact hl he
    case row row args => exact Rows.mono hh fun v w'' he => h _ _ he
  | halt x w' =>
    cases x <;> simp only [Oper.upon] at hh ⊢
    case panic u => exact hq _ _ _ hh
theorem cutQ_out {l : List Oper} {Q : Exit → Act → World → Prop} {n : Nat} : LetsOut (CutQ P l Q n) → LetsOut Q := fun ⟨a, w, h⟩ => ⟨a, w, h⟩

theorem wpAny_seq_more {ops : Array Oper} {Q' : Exit → Act → World → Prop} (m : Nat) : ∀ (l : List Oper) (k : Nat) (listed : Array Bool) (a : Act) (w : World), (∀ j, l[j]? = ops[k + j]?) →
    Region.seqB md ops l.length k listed = true → wpList P ops Q' l a w → wpAny P md ops Q' (m + l.length) listed a w
  | [], _, listed, _, _, _, hB, h => by
    have hr : Region.ready md ops listed = [] := by simpa [Region.seqB] using hB
    cases m with
    | zero => exact ⟨hr, h⟩
    | succ m => exact ⟨fun _ => h, by rw [hr]; simp⟩
  | o :: l, k, listed, a, w, hl, hB, h => by
    have h0 : ops[k]? = some o := by simpa using (hl 0).symm
    simp only [List.length_cons, Region.seqB, Bool.and_eq_true, decide_eq_true_eq] at hB
    show wpAny P md ops Q' ((m + l.length) + 1) listed a w
    refine ⟨fun h1 => (by rw [hB.1] at h1; cases h1), fun i hi => ?_⟩
    rw [hB.1] at hi
    have hik : i = k := by simpa using hi
    subst hik
    have hw : wpOp P ops Q' i (wpList P ops Q' l) a w := by unfold wpOp; simp only [h0]; exact h
    exact wpOp_mono (fun a' w' h' => wpAny_seq_more m l (i + 1) _ a' w' (fun j => by have := hl (j + 1); simpa [Nat.add_assoc, Nat.add_comm 1 j] using this) hB.2 h') hw

section
variable {l : List Oper} {n : Nat} {Q : Exit → Act → World → Prop}
theorem take_get {i : Nat} (hi : i < n) : (l.take n).toArray[i]? = l.toArray[i]? := by simp [hi]
theorem ready_head (hh : headB md l n = true) {listed Lh : Array Bool} (hag : ∀ j, j < n → listed[j]? = Lh[j]?) {i : Nat} (hi : i < n) : i ∈ Region.ready md l.toArray listed ↔ i ∈ Region.ready md (l.take n).toArray Lh := by
  rw [mem_ready, mem_ready, take_get hi]
  have g1 : ∀ (j : Nat) (d : Bool), j < n → listed.getD j d = Lh.getD j d := fun j d hj => by
    rw [Array.getD_eq_getD_getElem?, Array.getD_eq_getD_getElem?, hag j hj]
  rw [g1 i true hi]
  refine and_congr_right fun _ => exists_congr fun o => and_congr_right fun ho => forall_congr' fun e => forall_congr' fun he => forall_congr' fun hb => ?_
  have := (headB_spec hh hi (by simpa using ho)).1 e he hb
  rw [g1 e.on false (by omega)]
theorem wanted_head (hh : headB md l n = true) {i : Nat} {o : Oper} (hi : i < n) (ho : l[i]? = some o) (t : Array Value) : Region.wanted o (yielded l.toArray t) = Region.wanted o (yielded (l.take n).toArray t) := by
  unfold Region.wanted
  cases hg : o.guard with
  | none => rfl
  | some gb =>
    obtain ⟨g, b⟩ := gb
    have hgn := (headB_spec hh hi ho).2 g b hg
    have e : yielded l.toArray t g = yielded (l.take n).toArray t g := by unfold yielded; rw [take_get hgn]
    simp only [e]
theorem wpOp_cut (hh : headB md l n = true) {i : Nat} (hi : i < n) (hn : n < l.length) {K K' : Act → World → Prop} (hK : ∀ a w, K a w → K' a w) {a : Act} {w : World}
    (h : wpOp P (l.take n).toArray (CutQ P l Q n) i K a w) : wpOp P l.toArray Q i K' a w := by
  unfold wpOp at *
  rw [take_get hi] at h
  have hil : i < l.length := by omega
  have ho : l[i]? = some l[i] := List.getElem?_eq_getElem hil
  have ho' : l.toArray[i]? = some l[i] := by simp [hil]
  simp only [ho'] at h ⊢
  rw [wanted_head hh hi ho]
  split
  · rename_i hw
    rw [if_pos hw] at h
    rcases h with h | ⟨h1, h2⟩
    · exact .inl (oper_wp_Q hK (fun _ _ _ h => h) (cutQ_out (P := P) (l := l) (n := n)) h)
    · exact .inr ⟨h1, cutQ_out (P := P) (l := l) (n := n) h2⟩
  · rename_i hw
    rw [if_neg hw] at h
    exact hK _ _ h
theorem all_listed (hh : headB md l n = true) (hn : n < l.length) {Lh : Array Bool} (hs : Lh.size = n) (hr : Region.ready md (l.take n).toArray Lh = []) : ∀ i, i < n → Lh[i]? = some true := by
  intro i
  induction i using Nat.strongRecOn with
  | _ i ih =>
    intro hi
    have hin : i < Lh.size := by omega
    cases hb : Lh[i] with
    | true => rw [Array.getElem?_eq_getElem hin, hb]
    | false =>
      exfalso
      have hil : i < l.length := by omega
      have : i ∈ Region.ready md (l.take n).toArray Lh := by
        rw [mem_ready]
        refine ⟨getD_of (by rw [Array.getElem?_eq_getElem hin, hb]), l[i], by rw [take_get hi]; simp [hil], fun e he hbd => ?_⟩
        have h1 := (headB_spec hh hi (List.getElem?_eq_getElem hil)).1 e he hbd
        exact getD_of (ih e.on h1 (by omega))
      rw [hr] at this
      cases this
theorem wpAny_cut (hB : cutB md l n = true) : ∀ (f : Nat) (Lh listed : Array Bool) (a : Act) (w : World), HeadInv md l.toArray n listed → Lh.size = n → (∀ j, j < n → listed[j]? = Lh[j]?) →
    wpAnyH P md (l.take n).toArray (CutQ P l Q n) S f Lh a w → wpAny P md l.toArray Q (f + (l.length - n)) listed a w := by
  simp only [cutB, Bool.and_eq_true, decide_eq_true_eq] at hB
  obtain ⟨⟨⟨⟨hn, hh⟩, hsk⟩, hc⟩, hsq⟩ := hB
  have hnO : n < l.toArray.size := by simpa using hn
  have stop : ∀ (f : Nat) (Lh listed : Array Bool) (a : Act) (w : World), HeadInv md l.toArray n listed → Lh.size = n → (∀ j, j < n → listed[j]? = Lh[j]?) → Region.ready md (l.take n).toArray Lh = [] → CutQ P l Q n .normal a w → wpAny P md l.toArray Q (f + (l.length - n)) listed a w := by
    intro f Lh listed a w inv hs hag hr h
    have hall := all_listed hh hn hs hr
    have e : listed = Array.replicate n true ++ Array.replicate (l.length - n) false := by
      apply Array.ext
      · rw [inv.size]; simp; omega
      · intro i h1 h2
        by_cases hi : i < n
        · have := (hag i hi).trans (hall i hi)
          rw [Array.getElem?_eq_getElem h1] at this
          rw [Array.getElem_append_left (by simpa using hi)]
          simpa using this
        · have := inv.tail i (by omega) (by rw [← inv.size]; exact h1)
          rw [Array.getElem_append_right (by simpa using (by omega : n ≤ i))]
          simp [h1] at this
          simp [this]
    rw [e]
    have hdl : (l.drop n).length = l.length - n := by simp
    have := wpAny_seq_more (P := P) (md := md) (ops := l.toArray) (Q' := Q) f (l.drop n) n (Array.replicate n true ++ Array.replicate (l.length - n) false) a w (fun j => by simp [List.getElem?_drop]) (by rw [hdl]; exact hsq) h
    rwa [hdl] at this
  intro f
  induction f with
  | zero => exact fun Lh listed a w inv hs hag h => stop 0 Lh listed a w inv hs hag h.1 h.2
  | succ f ih =>
    intro Lh listed a w inv hs hag h
    cases hr : Region.ready md (l.take n).toArray Lh with
    | nil => exact stop (f + 1) Lh listed a w inv hs hag hr (h.1 hr)
    | cons i0 rs =>
      have hi0 : i0 ∈ Region.ready md (l.take n).toArray Lh := by rw [hr]; simp
      have hi0n : i0 < n := by
        obtain ⟨_, o, ho, _⟩ := mem_ready.1 hi0
        have := (Array.getElem?_eq_some_iff.1 ho).1
        simp at this; omega
      have hi0O := (ready_head hh hag hi0n).2 hi0
      have hun := (mem_ready.1 hi0O).1
      show wpAny P md l.toArray Q (f + 1 + (l.length - n)) listed a w
      rw [show f + 1 + (l.length - n) = (f + (l.length - n)) + 1 by omega]
      refine ⟨fun h0 => (by rw [h0] at hi0O; cases hi0O), fun i hi => ?_⟩
      have hin : i < n := by
        rcases Nat.lt_or_ge i n with h' | h'
        · exact h'
        · exact absurd hi (tail_waits hsk hc hnO inv _ i0 rfl hi0n hun i h')
      refine wpOp_cut hh hin hn (fun a' w' h' => ?_) (h.2 i ((ready_head hh hag hin).1 hi))
      refine ih (Lh.setIfInBounds i true) (listed.setIfInBounds i true) a' w' (inv.set hi hin) (by simpa using hs) (fun j hj => ?_) h'.2
      rw [Array.getElem?_setIfInBounds, Array.getElem?_setIfInBounds, hag j hj, hs, inv.size]
      by_cases hij : i = j
      · subst hij; simp [hj]; omega
      · simp [hij]
end
/-- A region that draws its order: the tail from number n on is cut off; S is asked of the head alone. -/
theorem wp_region_cut {id : Nat} {l : List Oper} {Q : Exit → Act → World → Prop} {a : Act} {w : World} (n : Nat) (hm : P.follows .mixedOrders = true) (hB : cutB .any l n = true) (hS : S w.drew)
    (h : S w.drew → wpAnyH P .any (l.take n).toArray (CutQ P l Q n) S n (Array.replicate n false) a w.drew) : (Code.region id l.toArray true).wp P Q a w := by
  refine wp_region_any hm ?_
  have hn : n < l.length := by simp only [cutB, Bool.and_eq_true, decide_eq_true_eq] at hB; exact hB.1.1.1.1
  have := wpAny_cut (S := S) (Q := Q) hB n (Array.replicate n false) (Array.replicate l.toArray.size false) a w.drew
    ⟨by simp, fun j oj _ hl => (by rw [getD_replicate_false] at hl; cases hl), fun t _ ht => getD_in (by simpa using ht) (getD_replicate_false _ _)⟩
    (by simp) (fun j hj => by rw [Array.getElem?_replicate, Array.getElem?_replicate, if_pos hj, if_pos (by simp; omega)]) (h hS)
  rw [show n + (l.length - n) = l.toArray.size by simp; omega] at this
  exact this

/-! Single steps, on a list of operations. -/
section
variable {l : List Oper} {Q : Exit → Act → World → Prop}
theorem anyH_take (i : Nat) {oi : Oper} {v : Value} {fuel : Nat} {listed : Array Bool} {a : Act} {w : World} (hi : l[i]? = some oi)
    (hs : Region.noSelect l.toArray = true) (hf : Region.free md l.toArray listed i = true) (hr : (Region.ready md l.toArray listed).contains i = true)
    (hQ : ∀ c a w, Q (.panic c) (a.put oi.dst v) w → Q (.panic c) a w) (hw : Region.wanted oi (yielded l.toArray a.tmps) = true) (hy : ∀ w, S w → (execOp a.eval oi).run P w = .ok (.value v) w) (hS : S w)
    (h : wpAnyH P md l.toArray Q S fuel (listed.setIfInBounds i true) (a.put oi.dst v) w) : wpAnyH P md l.toArray Q S (fuel + 1) listed a w :=
  wpAnyH_take (by simpa using hi) hs hf hr hQ (.inl ⟨hw, hy⟩) hS h
theorem anyH_skip (i : Nat) {oi : Oper} {fuel : Nat} {listed : Array Bool} {a : Act} {w : World} (hi : l[i]? = some oi)
    (hs : Region.noSelect l.toArray = true) (hf : Region.free md l.toArray listed i = true) (hr : (Region.ready md l.toArray listed).contains i = true)
    (hQ : ∀ c a w, Q (.panic c) (a.put oi.dst undef) w → Q (.panic c) a w) (hw : Region.wanted oi (yielded l.toArray a.tmps) = false) (hS : S w)
    (h : wpAnyH P md l.toArray Q S fuel (listed.setIfInBounds i true) (a.put oi.dst undef) w) : wpAnyH P md l.toArray Q S (fuel + 1) listed a w :=
  wpAnyH_take (by simpa using hi) hs hf hr hQ (.inr ⟨hw, rfl⟩) hS h
theorem ready_cons {fuel : Nat} {listed : Array Bool} {a : Act} {w : World} {i : Nat} {o : Oper} {rs : List Nat} (ho : l[i]? = some o)
    (h : ∀ K' : Act → World → Prop, Shut (∀ a w, S w → (S w → wpAnyH P md l.toArray Q S fuel (listed.setIfInBounds i true) a w) → K' a w) → if Region.wanted o (yielded l.toArray a.tmps) = true then Oper.wp P o a w K' Q else K' (a.put o.dst undef) w)
    (hs : AllReadyH P md l.toArray Q S fuel listed a w rs) : AllReadyH P md l.toArray Q S fuel listed a w (i :: rs) :=
  AllReadyH.cons (by simpa using ho) h hs
end
end
end
section
open Go.RowKit

theorem St.toFront {w0 w : World} {L : List It} (h : St w0 w L) (i : Nat) {x : It} (hi : L[i]? = some x) : St w0 w (x :: L.eraseIdx i) := by
  have key : ∀ (j : Nat) (z : It), (x :: L.eraseIdx i)[j]? = some z → L[if j = 0 then i else if j - 1 < i then j - 1 else j]? = some z := fun j z hz => by
    cases j with
    | zero => simpa [hi] using hz
    | succ j =>
      rw [List.getElem?_cons_succ, List.getElem?_eraseIdx] at hz
      simp only [Nat.add_sub_cancel, Nat.succ_ne_zero, if_false]
      split
      · rename_i e; rw [if_pos e] at hz; exact hz
      · rename_i e; rw [if_neg e] at hz; exact hz
  refine ⟨h.below, fun z hz => ?_, fun j k a b ha hb c h1 h2 => ?_, fun z hz => ?_⟩
  · obtain ⟨j, hj⟩ := List.getElem?_of_mem hz
    exact h.at _ (key j z hj)
  · have e := h.apart _ _ a b (key j a ha) (key k b hb) c h1 h2
    split at e <;> split at e <;> (try split at e) <;> (try split at e) <;> omega
  · obtain ⟨j, hj⟩ := List.getElem?_of_mem hz
    exact h.vecNodup _ (key j z hj)
theorem St.letter {w0 w : World} {L : List It} (h : St w0 w L) : ∃ L', L' = L ∧ St w0 w L' := ⟨L, rfl, h⟩
end
end Go.Proofs.Ytbnefjhljfbecaa
