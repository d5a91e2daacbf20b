/- addTo: k times a row is added to another one, in place, modulo p. -/
import Derived.Test.YtngmepodgbhbpaaResid
import Derived.Laws.CopyOwn
namespace Go.Proofs.Ytngmepodgbhbpaa
set_option maxRecDepth 100000
open Go.RowKit

def addL (l : List Int) (k : Int) (ys : List Int) (p : Int) : List Int := List.zipWith (fun a b => (a + k * b) % p) l ys
theorem length_addL (l : List Int) (k : Int) (ys : List Int) (p : Int) (h : ys.length = l.length) : (addL l k ys p).length = l.length := by simp [addL, h]
theorem addL_get (l : List Int) (k : Int) (ys : List Int) (p : Int) (i : Nat) (x y : Int) (hx : l[i]? = some x) (hy : ys[i]? = some y) : (addL l k ys p)[i]? = some ((x + k * y) % p) := by
  simp [addL, List.getElem?_zipWith, hx, hy]
theorem resid_get {p : Int} {l : List Int} (h : resid p l = true) {i : Nat} (hi : i < l.length) : 0 ≤ l[i] ∧ l[i] < p := by
  have := List.all_eq_true.1 h l[i] (List.getElem_mem hi)
  simpa [inP] using this
theorem resid_of {p : Int} {l : List Int} (h : ∀ i (hi : i < l.length), 0 ≤ l[i] ∧ l[i] < p) : resid p l = true := by
  refine List.all_eq_true.2 fun x hx => ?_
  obtain ⟨i, hi, rfl⟩ := List.getElem_of_mem hx
  simpa [inP] using h i hi
theorem resid_addL (l : List Int) (k : Int) (ys : List Int) (p : Int) (hp : 0 < p) : resid p (addL l k ys p) = true := by
  refine List.all_eq_true.2 fun x hx => ?_
  obtain ⟨i, hi, rfl⟩ := List.getElem_of_mem hx
  simp only [addL, List.getElem_zipWith, inP, Bool.and_eq_true, decide_eq_true_eq]
  exact ⟨Int.emod_nonneg _ (by omega), Int.emod_lt_of_pos _ hp⟩

theorem splice_get_in {α : Type} (L : List α) (off : Nat) (cs : List α) (k : Nat) (h : cs.length ≤ k) (hL : off + cs.length ≤ L.length) : (splice L off cs)[off + k]? = L[off + k]? := by
  unfold splice
  rw [List.getElem?_append_right (by simp; omega), List.getElem?_append_right (by simp; omega), List.getElem?_drop]
  congr 1
  simp; omega
theorem splice_set {α : Type} (L : List α) (off : Nat) (cs : List α) (x : α) (hL : off + cs.length < L.length) : (splice L off cs).set (off + cs.length) x = splice L off (cs ++ [x]) := by
  unfold splice
  have h1 : (L.take off).length = off := by simp; omega
  rw [List.set_append_right _ _ (by omega), h1, List.set_append_right _ _ (by omega), show off + cs.length - off - cs.length = 0 from by omega, List.drop_eq_getElem_cons hL, List.set_cons_zero]
  simp [Nat.add_assoc]

theorem mul_range {k y p : Int} (h1 : 0 ≤ k) (h2 : k ≤ p) (h3 : 0 ≤ y) (h4 : y < p) (hp : p ≤ 10007) : 0 ≤ k * y ∧ k * y ≤ 100140049 := by
  have a : k * y ≤ 10007 * 10007 := Int.mul_le_mul (by omega) (by omega) h3 (by omega)
  have b : 0 ≤ k * y := Int.mul_nonneg h1 h3
  omega

/-- What addTo leaves: the row's cells are new, all else in its block and all other blocks are as they were. -/
def Added (w : World) (g off : Nat) (cur : List Value) (new : List Int) (e : Ending) (w' : World) : Prop :=
  e = .returned (.tuple #[]) ∧ (0 < new.length → w'.heap[g]? = some (.cells (splice cur off (new.map (Value.int .i64))).toArray 3 (0, 0))) ∧ w.grownBy w' (some g) ∧ (new.length = 0 → w' = w)

set_option maxHeartbeats 1000000 in
theorem addTo_sub (A : Option Addr) (c : Nat) (u : Value) (l ys : List Int) (k p : Int) (w : World) (g off : Nat) (cur : List Value)
    (hA : 0 < l.length → A = some ⟨g, off, none⟩) (hcur : 0 < l.length → w.heap[g]? = some (.cells cur.toArray 3 (0, 0)) ∧ ∀ (i : Nat) (x : Int), l[i]? = some x → cur[off + i]? = some (.int .i64 x))
    (hu : Ints w u ys) (hne : 0 < ys.length → u.ownBlock ≠ some g) (hlen : ys.length = l.length) (hln : l.length ≤ 1099511627776)
    (hp : 2 ≤ p) (hp' : p ≤ 10007) (hk : 0 ≤ k) (hk' : k ≤ p) (hl : resid p l = true) (hy : resid p ys = true) :
    Calls Try.prog 84 #[.slice A l.length c, .int .i64 k, u, .int .i64 p] w (Added w g off cur (addL l k ys p)) := by
  obtain ⟨B, d, rfl, h1, h2, h3⟩ := hu
  by_cases h0 : l.length = 0
  · have hn := length_addL l k ys p hlen
    have hy0 : ys.length = 0 := by omega
    have hn0 : ¬ 0 < (addL l k ys p).length := by omega
    have HN := Lib.hid hn0
    have H0 := Lib.hid hy0
    have H00 := Lib.hid h0
    clear hn hn0 h0 hA hcur h3 hlen
    obtain ⟨m, hm⟩ : ∃ m, m = ys.length := ⟨_, rfl⟩
    rw [← hm]
    have Hm := Lib.hid hm
    clear hm hy0
    go_enter Try.func84, Try.ntmps84
    go_wp2
    go_loop [12] (fun vi => vi = .int .i64 0) (fun _ => 0)
    case atStart => rfl
    case round =>
      subst hrel
      have hm0 : m ≤ 0 := by rw [Hm.out, H0.out]; exact Nat.le_refl _
      go_wp2
      go_end0
      exact ⟨rfl, fun h => absurd h HN.out, World.grownBy.refl w _, fun _ => rfl⟩
  · obtain rfl := hA (by omega)
    obtain ⟨hg, hcell⟩ := hcur (by omega)
    obtain ⟨b, off', rfl, hc⟩ := h3 (by omega)
    have hbg : b ≠ g := fun e => hne (by omega) (by simp [Value.ownBlock, e])
    have Hn := Lib.hid (length_addL l k ys p hlen)
    have Hg := Lib.hid (addL_get l k ys p)
    obtain ⟨N, hN⟩ : ∃ N, N = addL l k ys p := ⟨_, rfl⟩
    rw [← hN] at Hn Hg ⊢
    clear hN
    have hcl : off + l.length ≤ cur.length := by
      have h := hcell (l.length - 1) l[l.length - 1] (List.getElem?_eq_getElem (by omega))
      have := (List.getElem?_eq_some_iff.1 h).1
      omega
    have Hlen := Lib.hid hlen
    have hlen1 : ys.length ≤ l.length := by omega
    have hlen2 : l.length ≤ ys.length := by omega
    have H0 : 0 < l.length := by omega
    clear hA hcur h3 h0 hlen hne
    go_enter Try.func84, Try.ntmps84
    go_wp2
    go_loopw [12] (fun vi wr => ∃ j : Nat, vi = .int .i64 j ∧ j ≤ l.length ∧ Hid (wr.heap[g]? = some (.cells (splice cur off ((N.take j).map (Value.int .i64))).toArray 3 (0, 0))) ∧ w.grownBy wr (some g)) (fun vi _ => l.length - (intOf vi).toNat)
    case atStart => exact ⟨0, rfl, by omega, by show _ = _; rw [hg]; simp [splice], World.grownBy.refl w _⟩
    case round =>
      obtain ⟨j, rfl, a1, hh, hgr⟩ := hrel
      by_cases hj : j < l.length
      · have hj2 : j < ys.length := by omega
        have e0 := hc j ys[j] (List.getElem?_eq_getElem hj2)
        have e1 : wr.cell? ⟨b, off' + j, none⟩ = some (.int .i64 ys[j]) := hgr.cell e0 (by simp [hbg])
        have hNj := Hg.out j l[j] ys[j] (List.getElem?_eq_getElem hj) (List.getElem?_eq_getElem hj2)
        have hjN : j < N.length := by rw [Hn.out]; exact hj
        have htl : ((N.take j).map (Value.int .i64)).length = j := by simp; omega
        have e2 : wr.cell? ⟨g, off + j, none⟩ = some (.int .i64 l[j]) := by
          rw [cell_of_row wr g (off + j) _ _ _ hh.out]
          rw [List.getElem?_toArray, splice_get_in _ _ _ _ (by rw [htl]; exact Nat.le_refl _) (by rw [htl]; omega)]
          exact hcell j l[j] (List.getElem?_eq_getElem hj)
        have e3 : wr.frozen? ⟨g, off + j, none⟩ = false := frozen_of_row wr g (off + j) _ _ hh.out
        obtain ⟨r1, r2⟩ := resid_get hl hj
        obtain ⟨r3, r4⟩ := resid_get hy hj2
        obtain ⟨r5, r6⟩ := mul_range hk hk' r3 r4 hp'
        have HNj := Lib.hid hNj
        clear hNj e0
        go_wp2
        have q1 : (wr.setCell ⟨g, off + j, none⟩ (.int .i64 ((l[j] + k * ys[j]) % p))).heap[g]? = some (.cells (splice cur off ((N.take (j + 1)).map (Value.int .i64))).toArray 3 (0, 0)) := by
          rw [heap_setCell_same wr g (off + j) _ _ _ hh.out]
          congr 2
          rw [List.setIfInBounds_toArray]
          congr 1
          have := splice_set cur off ((N.take j).map (Value.int .i64)) (.int .i64 ((l[j] + k * ys[j]) % p)) (by rw [htl]; omega)
          rw [htl] at this
          rw [this]
          congr 1
          rw [List.take_succ_eq_append_getElem hjN, List.map_append]
          have hv : N[j] = (l[j] + k * ys[j]) % p := by
            have := HNj.out
            rw [List.getElem?_eq_getElem hjN] at this
            simpa using this
          rw [hv]; rfl
        have q2 : w.grownBy (wr.setCell ⟨g, off + j, none⟩ (.int .i64 ((l[j] + k * ys[j]) % p))) (some g) := hgr.trans ⟨rfl, rfl, rfl, by simp [World.setCell], fun i _ hi => heap_setCell_other wr ⟨g, off + j, none⟩ i _ (fun e => hi (by simp [e]))⟩
        go_roundw
        case rel => exact ⟨j + 1, by go_num, by omega, q1, q2⟩
        case measure => simp [intOf]; omega
      · obtain rfl : j = l.length := by omega
        go_wp2
        go_end0
        exact ⟨rfl, fun _ => by have := hh.out; rw [← Hn.out, List.take_length] at this; exact this, hgr, fun h => absurd h (by rw [Hn.out]; omega)⟩

/-- addTo onto a slice of the call's own. -/
theorem addTo_any (v u : Value) (l ys : List Int) (k p : Int) (lo : Nat) (w : World) (hv : Own w lo v l) (hu : Ints w u ys) (hne : 0 < ys.length → ∀ g, v.ownBlock = some g → u.ownBlock ≠ some g) (hlen : ys.length = l.length) (hln : l.length ≤ 1099511627776)
    (hp : 2 ≤ p) (hp' : p ≤ 10007) (hk : 0 ≤ k) (hk' : k ≤ p) (hl : resid p l = true) (hy : resid p ys = true) :
    Calls Try.prog 84 #[v, .int .i64 k, u, .int .i64 p] w fun e w' => e = .returned (.tuple #[]) ∧ Own w' lo v (addL l k ys p) ∧ w.grownBy w' v.ownBlock := by
  have hll := length_addL l k ys p hlen
  rcases id hv.2 with ⟨rfl, h0⟩ | ⟨g, cap, cur, rfl, hb, hg, hn, hm, hsz, htake⟩
  · have e : (.slice none 0 0 : Value) = .slice none l.length 0 := by rw [h0]
    refine (e ▸ addTo_sub none 0 u l ys k p w w.heap.size 0 [] (fun h => by omega) (fun h => by omega) hu (fun h => by omega) hlen hln hp hp' hk hk' hl hy).mono ?_
    rintro e w' ⟨rfl, _, hgr, _⟩
    refine ⟨rfl, ?_, ⟨hgr.os, hgr.tape, hgr.output, hgr.size, fun i hi _ => hgr.block i hi (by simp; omega)⟩⟩
    have : addL l k ys p = [] := List.eq_nil_of_length_eq_zero (by omega)
    rw [this]
    exact ⟨by simp, .inl ⟨rfl, rfl⟩⟩
  · refine (addTo_sub (some ⟨g, 0, none⟩) cap u l ys k p w g 0 cur.toList (fun _ => rfl) (fun h => ⟨hg, fun i x hx => ?_⟩) hu (fun h => hne h g rfl) hlen hln hp hp' hk hk' hl hy).mono ?_
    · have hi := (List.getElem?_eq_some_iff.1 hx).1
      rw [Nat.zero_add]
      have h2 : (cur.toList.take (l.length * 1))[i]? = cur.toList[i]? := by rw [List.getElem?_take, if_pos (by omega)]
      rw [← h2, htake, List.getElem?_map, hx]; rfl
    · rintro e w' ⟨rfl, hh, hgr, hsame⟩
      refine ⟨rfl, ⟨by simp, ?_⟩, hgr⟩
      by_cases h0 : 0 < l.length
      · refine .inr ⟨g, cap, _, by rw [hll], hb, hh (by omega), by omega, hm, ?_, ?_⟩
        · have : cur.toList.length = cap := by simpa using hsz
          simp only [List.size_toArray, Nat.mul_one]
          rw [length_splice _ _ _ (by simp; omega), this]
        · simp only [splice, List.take_zero, List.nil_append]
          rw [List.take_left' (by simp)]
      · have e0 : addL l k ys p = [] := List.eq_nil_of_length_eq_zero (by omega)
        have hl0 : l = [] := List.eq_nil_of_length_eq_zero (by omega)
        rw [hsame (by omega), e0]
        subst hl0
        exact .inr ⟨g, cap, cur, rfl, hb, hg, hn, hm, hsz, by simp⟩
theorem addTo_own (v u : Value) (l ys : List Int) (k p : Int) (lo B : Nat) (w : World) (hv : Own w lo v l) (hu : IntsB w B u ys) (hB : B ≤ lo) (hlen : ys.length = l.length) (hln : l.length ≤ 1099511627776)
    (hp : 2 ≤ p) (hp' : p ≤ 10007) (hk : 0 ≤ k) (hk' : k ≤ p) (hl : resid p l = true) (hy : resid p ys = true) :
    Calls Try.prog 84 #[v, .int .i64 k, u, .int .i64 p] w fun e w' => e = .returned (.tuple #[]) ∧ Own w' lo v (addL l k ys p) ∧ w.grownBy w' v.ownBlock :=
  addTo_any v u l ys k p lo w hv hu.ints (fun h g hg => by
    obtain ⟨b, off, c, rfl, hbb⟩ := hu.2 h
    have := (hv.lt g hg).1
    simp [Value.ownBlock]; omega) hlen hln hp hp' hk hk' hl hy
theorem addTo_fresh (v u : Value) (l ys : List Int) (k p : Int) (lo hi lo' : Nat) (w : World) (hv : OwnIn w lo hi v l) (hu : Own w lo' u ys) (hB : hi ≤ lo') (hlen : ys.length = l.length) (hln : l.length ≤ 1099511627776)
    (hp : 2 ≤ p) (hp' : p ≤ 10007) (hk : 0 ≤ k) (hk' : k ≤ p) (hl : resid p l = true) (hy : resid p ys = true) :
    Calls Try.prog 84 #[v, .int .i64 k, u, .int .i64 p] w fun e w' => e = .returned (.tuple #[]) ∧ Own w' lo v (addL l k ys p) ∧ w.grownBy w' v.ownBlock :=
  addTo_any v u l ys k p lo w hv.own hu.ints (fun _ g hg e => by
    have := hv.top g hg
    have := (hu.lt g e).1
    omega) hlen hln hp hp' hk hk' hl hy
end Go.Proofs.Ytngmepodgbhbpaa
