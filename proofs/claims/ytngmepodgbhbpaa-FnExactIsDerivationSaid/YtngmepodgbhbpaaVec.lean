/- Slices of slices, slices of matrices, as pieces of a call's memory: append, a change of one row, an exchange of two. -/
import Derived.Test.YtngmepodgbhbpaaSt
namespace Go.Proofs.Ytngmepodgbhbpaa
set_option maxRecDepth 100000
open Go.RowKit

theorem owns_mono {w : World} {B B' e sz n : Nat} {v : Value} {xs : List Value} (h : w.ownsRow B e sz v n xs) (hB : B' ≤ B) : w.ownsRow B' e sz v n xs := by
  refine ⟨h.1, ?_⟩
  rcases h.2 with hn | ⟨g, cap, cur, hv, hb, r⟩
  · exact .inl hn
  · exact .inr ⟨g, cap, cur, hv, Nat.le_trans hB hb, r⟩
theorem It.vec_mono {B B' : Nat} {w : World} {v : Value} {e sz n : Nat} {cs : List Value} {subs : List (Value × List Int)} (h : It.ok B w (.vec v e sz n cs subs)) (hB : B' ≤ B) : It.ok B' w (.vec v e sz n cs subs) :=
  ⟨owns_mono h.1 hB, fun s hs => Own.mono (h.2 s hs) hB⟩
theorem apart_of_nodup {α : Type} {f : α → List Nat} : ∀ {l : List α} {i j : Nat} {x y : α} {b : Nat}, (l.flatMap f).Nodup → l[i]? = some x → l[j]? = some y → b ∈ f x → b ∈ f y → i = j
  | [], _, _, _, _, _, _, h, _, _, _ => by simp at h
  | a :: l, 0, 0, _, _, _, _, _, _, _, _ => rfl
  | a :: l, 0, j + 1, x, y, b, hn, h1, h2, h3, h4 => by
    rw [List.flatMap_cons, List.nodup_append] at hn
    simp only [List.getElem?_cons_zero, Option.some.injEq, List.getElem?_cons_succ] at h1 h2
    subst h1
    exact absurd rfl (hn.2.2 b h3 b (List.mem_flatMap.2 ⟨y, List.mem_of_getElem? h2, h4⟩))
  | a :: l, i + 1, 0, x, y, b, hn, h1, h2, h3, h4 => by
    rw [List.flatMap_cons, List.nodup_append] at hn
    simp only [List.getElem?_cons_zero, Option.some.injEq, List.getElem?_cons_succ] at h1 h2
    subst h2
    exact absurd rfl (hn.2.2 b h4 b (List.mem_flatMap.2 ⟨x, List.mem_of_getElem? h1, h3⟩))
  | a :: l, i + 1, j + 1, x, y, b, hn, h1, h2, h3, h4 => by
    rw [List.flatMap_cons, List.nodup_append] at hn
    have := apart_of_nodup (i := i) (j := j) (x := x) (y := y) hn.2.1 (by simpa using h1) (by simpa using h2) h3 h4
    omega

section
variable {w0 w w' : World} {L : List It}
/-- A slice that a call has handed back, with what hangs on it. -/
theorem St.pushVec (h : St w0 w L) {v : Value} {e sz n : Nat} {cs : List Value} {subs : List (Value × List Int)} (hb : Below w.heap.size w w') (hok : It.ok w.heap.size w' (.vec v e sz n cs subs)) (hnd : (It.vec v e sz n cs subs).fp.Nodup) :
    St w0 w' (.vec v e sz n cs subs :: L) :=
  h.push hb (It.vec_mono hok h.size) (fun b hb' => (It.ok_lt hok b hb').1) hnd
theorem St.vec (h : St w0 w L) (i : Nat) {v : Value} {e sz n : Nat} {cs : List Value} {subs : List (Value × List Int)} (hi : L[i]? = some (.vec v e sz n cs subs)) : It.ok w0.heap.size w (.vec v e sz n cs subs) := h.at i hi
theorem St.vecNodup (h : St w0 w L) (i : Nat) {x : It} (hi : L[i]? = some x) : x.fp.Nodup := h.nodup x (List.mem_of_getElem? hi)
/-- The cell of such a slice. -/
theorem St.vecCell (h : St w0 w L) (i : Nat) {g c : Nat} {e sz n : Nat} {cs : List Value} {subs : List (Value × List Int)} (hi : L[i]? = some (.vec (.slice (some ⟨g, 0, none⟩) n c) e sz n cs subs)) (k : Nat) {u : Value} (hu : cs[k]? = some u) :
    w.cell? ⟨g, k, none⟩ = some u := by
  have h1 : w.ownsRow w0.heap.size e sz (.slice (some ⟨g, 0, none⟩) n c) n cs := (h.vec i hi).1
  have h3 : cs.length = n * sz := h1.1
  have hk : k < n * sz := by rw [← h3]; exact (List.getElem?_eq_some_iff.1 hu).1
  rw [World.ownsRow.cellAt h1 k hk, hu]
theorem St.vecFree (h : St w0 w L) (i : Nat) {g c : Nat} {e sz n : Nat} {cs : List Value} {subs : List (Value × List Int)} (hi : L[i]? = some (.vec (.slice (some ⟨g, 0, none⟩) n c) e sz n cs subs)) (k : Nat) : w.frozen? ⟨g, k, none⟩ = false :=
  World.ownsRow.frozenAt (h.vec i hi).1 k
theorem St.sub (h : St w0 w L) (i : Nat) {v : Value} {e sz n : Nat} {cs : List Value} {subs : List (Value × List Int)} (hi : L[i]? = some (.vec v e sz n cs subs)) (k : Nat) {u : Value} {l : List Int} (hk : subs[k]? = some (u, l)) : Own w w0.heap.size u l :=
  (h.vec i hi).2 (u, l) (List.mem_of_getElem? hk)

/-- A slice of numbers is handed to a slice of slices. -/
theorem St.absorb {u : Value} {l : List Int} (h : St w0 w (.own u l :: L)) (i : Nat) {v : Value} {e sz n : Nat} {cs : List Value} {subs : List (Value × List Int)} (hi : L[i]? = some (.vec v e sz n cs subs)) :
    St w0 w (L.set i (.vec v e sz n cs (subs ++ [(u, l)]))) := by
  have hi' : (It.own u l :: L)[i + 1]? = some (.vec v e sz n cs subs) := by simpa using hi
  have hx := h.vec (i + 1) hi'
  have ho : Own w w0.heap.size u l := h.own 0 rfl
  have hil : i < L.length := (List.getElem?_eq_some_iff.1 hi).1
  have ht : St w0 w L := h.drop 1
  have fpe : (It.vec v e sz n cs (subs ++ [(u, l)])).fp = (It.vec v e sz n cs subs).fp ++ u.ownBlock.toList := by simp [It.fp]
  have get : ∀ (j : Nat) (y : It), (L.set i (.vec v e sz n cs (subs ++ [(u, l)])))[j]? = some y → (j = i ∧ y = .vec v e sz n cs (subs ++ [(u, l)])) ∨ (j ≠ i ∧ L[j]? = some y) := fun j y hy => by
    rw [List.getElem?_set] at hy
    by_cases e : i = j
    · subst e
      rw [if_pos rfl, if_pos hil] at hy
      exact .inl ⟨rfl, by simpa using hy.symm⟩
    · rw [if_neg e] at hy
      exact .inr ⟨fun e' => e e'.symm, hy⟩
  have far : ∀ (j : Nat) (y : It), j ≠ i → L[j]? = some y → ∀ b ∈ y.fp, b ∉ (It.vec v e sz n cs (subs ++ [(u, l)])).fp := fun j y hj hy b hb hm => by
    rw [fpe, List.mem_append] at hm
    rcases hm with hm | hm
    · exact hj (ht.apart j i y _ hy hi b hb hm)
    · have := h.apart (j + 1) 0 y (.own u l) (by simpa using hy) rfl b hb (by simpa [It.fp] using hm)
      omega
  refine ⟨h.below, fun y hy => ?_, fun j k y z hy hz b h1 h2 => ?_, fun y hy => ?_⟩
  · obtain ⟨j, hj⟩ := List.getElem?_of_mem hy
    rcases get j y hj with ⟨_, rfl⟩ | ⟨_, hj'⟩
    · refine ⟨hx.1, fun s hs => ?_⟩
      rcases List.mem_append.1 hs with hs | hs
      · exact hx.2 s hs
      · obtain rfl := List.mem_singleton.1 hs
        exact ho
    · exact ht.at j hj'
  · rcases get j y hy with ⟨rfl, rfl⟩ | ⟨hne, hj'⟩
    · rcases get k z hz with ⟨rfl, rfl⟩ | ⟨hne2, hk'⟩
      · rfl
      · exact absurd h1 (far k z hne2 hk' b h2)
    · rcases get k z hz with ⟨rfl, rfl⟩ | ⟨hne2, hk'⟩
      · exact absurd h2 (far j y hne hj' b h1)
      · exact ht.apart j k y z hj' hk' b h1 h2
  · obtain ⟨j, hj⟩ := List.getElem?_of_mem hy
    rcases get j y hj with ⟨_, rfl⟩ | ⟨_, hj'⟩
    · rw [fpe, List.nodup_append]
      refine ⟨ht.vecNodup i hi, nodup_own u, fun a ha b hb e => ?_⟩
      subst e
      have := h.apart (i + 1) 0 _ (.own u l) hi' rfl a ha (by simpa [It.fp] using hb)
      omega
    · exact ht.vecNodup j hj'

/-- Cells of such a slice are new (an append, a store): its slices of numbers are as they were. -/
theorem St.updVec (h : St w0 w L) (i : Nat) {v v' : Value} {e sz n n' : Nat} {cs cs' : List Value} {subs : List (Value × List Int)} (hi : L[i]? = some (.vec v e sz n cs subs)) (hg : w.grownBy w' v.ownBlock)
    (hv : ∀ b, v'.ownBlock = some b → v.ownBlock = some b ∨ w.heap.size ≤ b) (hok : w'.ownsRow w0.heap.size e sz v' n' cs') : St w0 w' (L.set i (.vec v' e sz n' cs' subs)) := by
  obtain ⟨h1, h2⟩ := h.vec i hi
  have hnd := h.vecNodup i hi
  have hsub : ∀ s ∈ subs, ∀ b, s.1.ownBlock = some b → b ∈ subs.flatMap fun s => s.1.ownBlock.toList := fun s hs b hb => List.mem_flatMap.2 ⟨s, hs, by simp [hb]⟩
  rw [It.fp, List.nodup_append] at hnd
  have hsl : ∀ s ∈ subs, ∀ b, s.1.ownBlock = some b → b < w.heap.size := fun s hs b hb => (Own.lt (h2 s hs) b hb).2
  refine h.upd i hi hg.size hg.os hg.tape hg.output (fun b hb hn => hg.block b hb (fun e => hn (by simp [It.fp, ← e]))) ⟨hok, fun s hs => ?_⟩ (fun b hb => ?_) ?_
  · refine Own.same (h2 s hs) fun b hb => hg.block b (hsl s hs b hb) fun e => ?_
    exact hnd.2.2 b (by simp [← e]) b (hsub s hs b hb) rfl
  · simp only [It.fp, List.mem_append] at hb ⊢
    rcases hb with hb | hb
    · rcases hv b (by simpa using hb) with e | e
      · exact .inl (.inl (by simp [e]))
      · exact .inr e
    · exact .inl (.inr hb)
  · rw [It.fp, List.nodup_append]
    refine ⟨nodup_own v', hnd.2.1, fun a ha b hb e => ?_⟩
    subst e
    rcases hv a (by simpa using ha) with e | e
    · exact hnd.2.2 a (by simp [e]) a hb rfl
    · obtain ⟨s, hs, hb'⟩ := List.mem_flatMap.1 hb
      have := hsl s hs a (by simpa using hb')
      omega

/-- One of the slices of numbers has been written. -/
theorem St.wroteSub (h : St w0 w L) (i : Nat) {v : Value} {e sz n : Nat} {cs : List Value} {subs : List (Value × List Int)} (hi : L[i]? = some (.vec v e sz n cs subs)) (k : Nat) {u : Value} {l l' : List Int} (hk : subs[k]? = some (u, l))
    (ho : Own w' w0.heap.size u l') (hg : w.grownBy w' u.ownBlock) : St w0 w' (L.set i (.vec v e sz n cs (subs.set k (u, l')))) := by
  obtain ⟨h1, h2⟩ := h.vec i hi
  have hnd := h.vecNodup i hi
  have hkl : k < subs.length := (List.getElem?_eq_some_iff.1 hk).1
  have hke : subs[k] = (u, l) := (List.getElem?_eq_some_iff.1 hk).2
  have fpe : ((subs.set k (u, l')).flatMap fun s => s.1.ownBlock.toList) = subs.flatMap fun s => s.1.ownBlock.toList := by
    have : (subs.set k (u, l')).map (fun s => s.1.ownBlock.toList) = subs.map fun s => s.1.ownBlock.toList := by
      rw [List.map_set]
      apply List.ext_getElem?
      intro j
      rw [List.getElem?_set, List.getElem?_map]
      by_cases e : k = j
      · subst e; rw [if_pos rfl, if_pos (by simpa using hkl), hk]; rfl
      · rw [if_neg e]
    simp only [List.flatMap_def, this]
  have hu : ∀ b, u.ownBlock = some b → b ∈ (It.vec v e sz n cs subs).fp := fun b hb => by
    simp only [It.fp, List.mem_append, List.mem_flatMap]
    exact .inr ⟨(u, l), List.mem_of_getElem? hk, by simp [hb]⟩
  have hnd' := hnd
  rw [It.fp, List.nodup_append] at hnd'
  refine h.upd i hi hg.size hg.os hg.tape hg.output (fun b hb hn => hg.block b hb (fun e => hn (hu b e.symm))) ⟨?_, fun s hs => ?_⟩ (fun b hb => .inl (by simpa only [It.fp, fpe] using hb)) (by simpa only [It.fp, fpe] using hnd)
  · refine owns_same h1 fun b hb => hg.block b (World.ownsRow.lt h1 b hb).2 fun e => ?_
    exact hnd'.2.2 b (by simp [hb]) b (List.mem_flatMap.2 ⟨(u, l), List.mem_of_getElem? hk, by simp [← e]⟩) rfl
  · obtain ⟨j, hj⟩ := List.getElem?_of_mem hs
    rw [List.getElem?_set] at hj
    by_cases e : k = j
    · subst e
      rw [if_pos rfl, if_pos hkl] at hj
      obtain rfl := Option.some.inj hj
      exact ho
    · rw [if_neg e] at hj
      have hjl : j < subs.length := (List.getElem?_eq_some_iff.1 hj).1
      refine Own.same (h2 s (List.mem_of_getElem? hj)) fun b hb => hg.block b (Own.lt (h2 s (List.mem_of_getElem? hj)) b hb).2 fun e' => e ?_
      exact apart_of_nodup (b := b) hnd'.2.1 hk hj (by simp [← e']) (by simp [hb])
end
end Go.Proofs.Ytngmepodgbhbpaa
