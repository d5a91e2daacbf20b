/- Slices of slices of integers: what is read, what is the call's own; append of a row; comparison and marks of the laws. -/
import Derived.Test.YtcngijafnnmccaaGreatDoorSmall0
import Derived.Test.YtcngijafnnmccaaGreatDoorBase
import Derived.Deep.LoopGhost
namespace Go.Proofs.YtcngijafnnmccaaGreatDoor
set_option maxRecDepth 100000
open Go.RowKit

/-- The rows us are the call's own, in blocks from lo on and below hi, no two in one block; they hold ll. -/
structure RowsIn (w : World) (lo hi : Nat) (us : List Value) (ll : List (List Int)) : Prop where
  len : us.length = ll.length
  row : ∀ (i : Nat) (u : Value) (l : List Int), us[i]? = some u → ll[i]? = some l → OwnIn w lo hi u l
  apart : ∀ (i j : Nat) (u u' : Value) (k : Nat), us[i]? = some u → us[j]? = some u' → u.ownBlock = some k → u'.ownBlock = some k → i = j

/-- The slice of rows v is the call's own, the rows with it. -/
def OwnRows (w : World) (lo hi : Nat) (v : Value) (ll : List (List Int)) : Prop :=
  ∃ us : List Value, w.ownsRow lo 22 1 v ll.length us ∧ (∀ k, v.ownBlock = some k → k < hi) ∧ RowsIn w lo hi us ll

theorem owns_kept {w w' : World} {lo e sz n hi B : Nat} {v : Value} {xs : List Value} (h : w.ownsRow lo e sz v n xs) (ht : ∀ k, v.ownBlock = some k → k < hi) (hb : Below B w w') (hB : hi ≤ B) : w'.ownsRow lo e sz v n xs := by
  refine ⟨h.1, ?_⟩
  rcases h.2 with hn | ⟨g, cap, cur, hv, hbg, hh, r⟩
  · exact .inl hn
  · have := ht g (by rw [hv]; rfl)
    exact .inr ⟨g, cap, cur, hv, hbg, (hb.block g (by omega)).trans hh, r⟩
theorem RowsIn.below {w w' : World} {lo hi B : Nat} {us : List Value} {ll : List (List Int)} (h : RowsIn w lo hi us ll) (hb : Below B w w') (hB : hi ≤ B) : RowsIn w' lo hi us ll :=
  ⟨h.len, fun i u l h1 h2 => (h.row i u l h1 h2).below hb hB, h.apart⟩
theorem OwnRows.below {w w' : World} {lo hi B : Nat} {v : Value} {ll : List (List Int)} (h : OwnRows w lo hi v ll) (hb : Below B w w') (hB : hi ≤ B) : OwnRows w' lo hi v ll := by
  obtain ⟨us, h1, h2, h3⟩ := h
  exact ⟨us, owns_kept h1 h2 hb hB, h2, h3.below hb hB⟩
theorem OwnRows.drewN {w : World} {lo hi : Nat} {v : Value} {ll : List (List Int)} (h : OwnRows w lo hi v ll) (n : Nat) : OwnRows (w.drewN n) lo hi v ll :=
  h.below (B := hi) ⟨rfl, rfl, rfl, Nat.le_refl _, fun _ _ => rfl⟩ (Nat.le_refl _)
theorem OwnIn.more {w : World} {lo hi hi' : Nat} {v : Value} {l : List Int} (h : OwnIn w lo hi v l) (hh : hi ≤ hi') : OwnIn w lo hi' v l := ⟨h.own, fun k hk => Nat.lt_of_lt_of_le (h.top k hk) hh⟩
theorem OwnIn.less {w : World} {lo lo' hi : Nat} {v : Value} {l : List Int} (h : OwnIn w lo hi v l) (hh : lo' ≤ lo) : OwnIn w lo' hi v l := ⟨h.own.mono hh, h.top⟩
theorem RowsIn.more {w : World} {lo hi hi' : Nat} {us : List Value} {ll : List (List Int)} (h : RowsIn w lo hi us ll) (hh : hi ≤ hi') : RowsIn w lo hi' us ll :=
  ⟨h.len, fun i u l h1 h2 => (h.row i u l h1 h2).more hh, h.apart⟩
theorem OwnRows.more {w : World} {lo hi hi' : Nat} {v : Value} {ll : List (List Int)} (h : OwnRows w lo hi v ll) (hh : hi ≤ hi') : OwnRows w lo hi' v ll := by
  obtain ⟨us, h1, h2, h3⟩ := h
  exact ⟨us, h1, fun k hk => Nat.lt_of_lt_of_le (h2 k hk) hh, h3.more hh⟩
theorem OwnRows.less {w : World} {lo lo' hi : Nat} {v : Value} {ll : List (List Int)} (h : OwnRows w lo hi v ll) (hh : lo' ≤ lo) : OwnRows w lo' hi v ll := by
  obtain ⟨us, h1, h2, h3⟩ := h
  refine ⟨us, ⟨h1.1, ?_⟩, h2, ⟨h3.len, fun i u l a b => (h3.row i u l a b).less hh, h3.apart⟩⟩
  rcases h1.2 with hn | ⟨g, cap, cur, hv, hbg, r⟩
  · exact .inl hn
  · exact .inr ⟨g, cap, cur, hv, Nat.le_trans hh hbg, r⟩

theorem OwnRows.rows {w : World} {lo hi : Nat} {v : Value} {ll : List (List Int)} (h : OwnRows w lo hi v ll) : IntRows w v ll := by
  obtain ⟨us, h1, h2, h3⟩ := h
  rcases id h1.2 with ⟨rfl, h0⟩ | ⟨g, cap, cur, rfl, hb, hg, hn, hm, _⟩
  · obtain rfl : ll = [] := List.eq_nil_of_length_eq_zero h0
    exact ⟨none, 0, rfl, by simp, by simp, fun h => by simp at h⟩
  · refine ⟨_, cap, rfl, hn, by simpa [maxLen] using hm, fun _ => ⟨g, 0, rfl, fun i l hl => ?_⟩⟩
    have hi := (List.getElem?_eq_some_iff.1 hl).1
    have hu : us[i]? = some (us[i]'(by rw [h3.len]; exact hi)) := List.getElem?_eq_getElem _
    refine ⟨_, ?_, (h3.row i _ l hu hl).ints⟩
    rw [Nat.zero_add, World.ownsRow.cellAt h1 i (by omega)]
    exact hu
theorem OwnRows.lt {w : World} {lo hi : Nat} {v : Value} {ll : List (List Int)} (h : OwnRows w lo hi v ll) : ∀ k, v.ownBlock = some k → lo ≤ k ∧ k < w.heap.size := by
  obtain ⟨us, h1, _⟩ := h
  exact World.ownsRow.lt h1
theorem OwnRows.nil {w : World} {lo hi : Nat} : OwnRows w lo hi (.slice none 0 0) [] :=
  ⟨[], ⟨by simp, .inl ⟨rfl, rfl⟩⟩, by simp [Value.ownBlock], ⟨rfl, fun i u l h => by simp at h, fun i j u u' k h => by simp at h⟩⟩
theorem OwnRows.empty {W : World} {lo : Nat} (hlo : lo ≤ W.heap.size) : OwnRows (W.alloc (.cells #[] 22)) lo (W.heap.size + 1) (.slice (some ⟨W.heap.size, 0, none⟩) 0 0) [] :=
  ⟨[], World.ownsRow_lit (base := lo) (e := 22) (size := 1) W #[] 0 hlo (by simp) rfl, by simp [Value.ownBlock], ⟨rfl, fun i u l h => by simp at h, fun i j u u' k h => by simp at h⟩⟩


theorem OwnIn.grownNot {w w' : World} {lo hi : Nat} {v : Value} {l : List Int} {row : Option Nat} (h : OwnIn w lo hi v l) (hg : w.grownBy w' row) (hr : ∀ k, row = some k → k < lo ∨ hi ≤ k) : OwnIn w' lo hi v l :=
  ⟨World.ownsRow.kept h.own hg (by
    cases hv : v.ownBlock with
    | none => exact .inl rfl
    | some k =>
      refine .inr fun e => ?_
      have h1 := h.own.lt k hv
      have h2 := h.top k hv
      have h3 := hr k e.symm
      omega), h.top⟩
/-- Two blocks whose elements are of two types are two blocks. -/
theorem ne_of_types {w : World} {lo lo' hi n : Nat} {v u : Value} {us : List Value} {l : List Int} {k : Nat} (h : w.ownsRow lo 22 1 v n us) (hu : OwnIn w lo' hi u l) (h1 : v.ownBlock = some k) : u.ownBlock ≠ some k := by
  intro h2
  rcases h.2 with ⟨rfl, _⟩ | ⟨g, cap, cur, rfl, _, hg, _⟩
  · simp [Value.ownBlock] at h1
  · rcases hu.own.2 with ⟨rfl, _⟩ | ⟨g', cap', cur', rfl, _, hg', _⟩
    · simp [Value.ownBlock] at h2
    · simp [Value.ownBlock] at h1 h2
      subst h1; subst h2
      rw [hg] at hg'
      simp at hg'

/-- append of one row, new since the slice's last change. -/
theorem run_append_row (lo hi mid ty : Nat) (v u : Value) (ll : List (List Int)) (l : List Int) (w : World) (hv : OwnRows w lo hi v ll) (hu : OwnIn w mid w.heap.size u l) (hm : hi ≤ mid) (hlm : lo ≤ mid)
    (hlen : ll.length + 1 ≤ 1099511627776) (hlo : lo ≤ w.heap.size) :
    ∃ v' w', (Builtin.append_ #[27, 27] ty #[v, .slice (some ⟨w.heap.size, 0, none⟩) 1 1]).run Tryz.prog (w.alloc (.cells #[u] 22)) = .ok v' w' ∧
      OwnRows w' lo w'.heap.size v' (ll ++ [l]) ∧ w.grownBy w' v.ownBlock ∧ (v'.ownBlock = v.ownBlock ∨ v'.ownBlock = some (w.heap.size + 1)) := by
  obtain ⟨i, h1, h2, h3, h4⟩ := info_parts infoR
  obtain ⟨us, o1, o2, o3⟩ := hv
  have hsl : Tryz.prog.underlying 27 = some (.slice 22) := Tryz.underlying27
  have hw1 : w.grownBy (w.alloc (.cells #[u] 22)) none := World.grownBy_alloc w _ none
  have o1' := o1.alloc (.cells #[u] 22)
  obtain ⟨v', w', hr, k1, k2, _, k4⟩ := run_append_own_at (P := Tryz.prog) (w.alloc (.cells #[u] 22)) lo 27 ty 22 i (.slice none 0 0) 1 24 hsl h1 h2 h3 h4 rfl (by decide) v ll.length us o1' ⟨w.heap.size, 0, none⟩ 1 1 [u] rfl
    (fun j x hj => by
      match j, hj with
      | 0, hj =>
        simp only [List.getElem?_cons_zero, Option.some.injEq] at hj
        subst hj
        rw [add_zero_spot]
        exact cell_of_row _ _ 0 #[u] _ _ (heap_alloc_new w _)
      | j + 1, hj => simp at hj) (by simpa using hu.own.one) (by simp only [maxLen]; omega) (by omega) (by rw [World.size_alloc]; omega)
  have hsz : w.heap.size < w'.heap.size := by have := k2.size; rw [World.size_alloc] at this; omega
  have kk : w.grownBy w' v.ownBlock := ⟨k2.os, k2.tape, k2.output, by omega, fun b hb hne => (k2.block b (by rw [World.size_alloc]; omega) hne).trans (hw1.block b hb (by simp))⟩
  have vlt := fun k hk => World.ownsRow.lt o1 k hk
  have hu' : OwnIn w' mid w.heap.size u l := hu.grownNot kk fun k hk => .inl (by have := o2 k hk; omega)
  have hrow : ∀ (i : Nat) (x : Value) (m : List Int), us[i]? = some x → ll[i]? = some m → OwnIn w' lo hi x m := fun i x m a b => by
    have hx := o3.row i x m a b
    refine ⟨World.ownsRow.kept hx.own kk ?_, hx.top⟩
    cases hv : v.ownBlock with
    | none => cases x.ownBlock <;> simp
    | some k => exact .inr (ne_of_types (n := ll.length) o1 hx hv)
  refine ⟨v', w', hr, ⟨us ++ [u], ?_, ?_, ?_, ?_, ?_⟩, kk, by rw [World.size_alloc] at k4; exact k4⟩
  · simpa using k1
  · intro k hk; exact (World.ownsRow.lt k1 k hk).2
  · simp [o3.len]
  · intro i x m hx hm'
    rw [List.getElem?_append] at hx hm'
    by_cases hi : i < us.length
    · rw [if_pos hi] at hx
      rw [if_pos (by rw [← o3.len]; exact hi)] at hm'
      exact Own.toIn (hrow i x m hx hm').own
    · rw [if_neg hi] at hx
      rw [if_neg (by rw [← o3.len]; exact hi)] at hm'
      have e1 : i - us.length = 0 := by have := (List.getElem?_eq_some_iff.1 hx).1; simp at this; omega
      rw [e1] at hx
      rw [← o3.len, e1] at hm'
      simp only [List.getElem?_cons_zero, Option.some.injEq] at hx hm'
      subst hx; subst hm'
      exact (hu'.more (by omega)).less hlm
  · intro i j x y k hx hy kx ky
    rw [List.getElem?_append] at hx hy
    by_cases hi : i < us.length
    · rw [if_pos hi] at hx
      have hl : ll[i]? = some (ll[i]'(by rw [← o3.len]; exact hi)) := List.getElem?_eq_getElem _
      have t1 := (o3.row i x _ hx hl).top k kx
      by_cases hj : j < us.length
      · rw [if_pos hj] at hy
        exact o3.apart i j x y k hx hy kx ky
      · rw [if_neg hj] at hy
        have e1 : j - us.length = 0 := by have := (List.getElem?_eq_some_iff.1 hy).1; simp at this; omega
        rw [e1] at hy
        simp only [List.getElem?_cons_zero, Option.some.injEq] at hy
        subst hy
        have := (hu.own.lt k ky).1
        omega
    · rw [if_neg hi] at hx
      have e0 : i - us.length = 0 := by have := (List.getElem?_eq_some_iff.1 hx).1; simp at this; omega
      rw [e0] at hx
      simp only [List.getElem?_cons_zero, Option.some.injEq] at hx
      subst hx
      by_cases hj : j < us.length
      · rw [if_pos hj] at hy
        have hl : ll[j]? = some (ll[j]'(by rw [← o3.len]; exact hj)) := List.getElem?_eq_getElem _
        have t1 := (o3.row j y _ hy hl).top k ky
        have := (hu.own.lt k kx).1
        omega
      · rw [if_neg hj] at hy
        have e1 : j - us.length = 0 := by have := (List.getElem?_eq_some_iff.1 hy).1; simp at this; omega
        omega

theorem wp_append_row {ops : Array Oper} {rest : List Oper} {o : Oper} {a : Act} {Q : Exit → Act → World → Prop} {w : World} (hgd : o.guard = none) (s x : Operand)
    (ho : o.op = .call { callee := .builtin .append, args := #[s, x], argTypes := #[27, 27] }) (lo hi mid : Nat) (v u : Value) (ll : List (List Int)) (l : List Int)
    (hs : a.eval s = v) (hx : a.eval x = .slice (some ⟨w.heap.size, 0, none⟩) 1 1) (hv : OwnRows w lo hi v ll) (hu : OwnIn w mid w.heap.size u l) (hm : hi ≤ mid) (hlm : lo ≤ mid)
    (hlen : ll.length + 1 ≤ 1099511627776) (hlo : lo ≤ w.heap.size)
    (h : ∀ v' w', OwnRows w' lo w'.heap.size v' (ll ++ [l]) → w.grownBy w' v.ownBlock → (v'.ownBlock = v.ownBlock ∨ v'.ownBlock = some (w.heap.size + 1)) → wpList Tryz.prog ops Q rest (a.put o.dst v') w') :
    wpList Tryz.prog ops Q (o :: rest) a (w.alloc (.cells #[u] 22)) := by
  refine wpList_plain hgd fun K hK => ?_
  obtain ⟨v', w', hr, k1, k2, k3⟩ := run_append_row lo hi mid o.type v u ll l w hv hu hm hlm hlen hlo
  unfold Oper.wp execOp
  simp only [ho, resolve, invoke, builtin, Sem.run_bind, Sem.run_pure, Result.andThen_ok, List.map_toArray, List.map_cons, List.map_nil, hs, hx, hr]
  exact hK _ _ (h v' w' k1 k2 k3)

/-! ### The laws' helpers on rows -/

theorem eqR_step (l m : List (List Int)) (k : Nat) (h1 : k < l.length) (h2 : k < m.length) : decide (l.drop k = m.drop k) = if l[k] = m[k] then decide (l.drop (k + 1) = m.drop (k + 1)) else false := by
  rw [List.drop_eq_getElem_cons h1, List.drop_eq_getElem_cons h2]
  by_cases h : l[k] = m[k] <;> simp only [List.cons.injEq, h, true_and, if_true, false_and, if_false, decide_false]
theorem eqR_end (l m : List (List Int)) (h : l.length = m.length) : decide (l.drop l.length = m.drop l.length) = true := by
  rw [List.drop_eq_nil_of_le (Nat.le_refl _), h, List.drop_eq_nil_of_le (Nat.le_refl _)]; rfl

set_option maxHeartbeats 400000 in
theorem eqIntSS_any (v u : Value) (xs ys : List (List Int)) (w : World) (hv : IntRows w v xs) (hu : IntRows w u ys) :
    Calls Tryz.prog 14 #[v, u] w fun e w' => e = .returned (.bool (decide (xs = ys))) ∧ ∃ n, w' = w.drewN n := by
  obtain ⟨A, c, rfl, h1, h2, h3⟩ := hv
  obtain ⟨B, d, rfl, g1, g2, g3⟩ := hu
  obtain ⟨R, hR⟩ : ∃ R, R = decide (xs = ys) := ⟨_, rfl⟩
  rw [← hR]
  by_cases hl : xs.length = ys.length
  · have HR := Lib.hid hR
    clear hR
    have t1 : ((xs.length : Int) != (ys.length : Int)) = false := by simp [hl]
    have hl1 : xs.length ≤ ys.length := by omega
    have HL := Lib.hid hl
    clear hl
    go_enter Tryz.func14, Tryz.ntmps14
    go_wp2
    go_loopw [5] (fun vi wr => ∃ (k : Nat), vi = .int .i64 k ∧ k ≤ xs.length ∧ Draws w wr ∧ Hid (R = decide (xs.drop k = ys.drop k))) (fun vi _ => xs.length - (intOf vi).toNat)
    case atStart => exact ⟨0, rfl, by omega, Draws.refl w, HR⟩
    case round =>
      obtain ⟨k, rfl, a1, hd, HM⟩ := hrel
      by_cases hk : k < xs.length
      · obtain ⟨b, off, rfl, hc⟩ := h3 (by omega)
        obtain ⟨b', off', rfl, hc'⟩ := g3 (by omega)
        have hk2 : k < ys.length := by omega
        obtain ⟨x, e1, i1⟩ := hc k xs[k] (List.getElem?_eq_getElem hk)
        obtain ⟨y, e2, i2⟩ := hc' k ys[k] (List.getElem?_eq_getElem hk2)
        have HD := Lib.hid (eqR_step xs ys k hk hk2)
        replace e1 := hd.cell e1
        replace e2 := hd.cell e2
        replace i1 := hd.ints i1
        replace i2 := hd.ints i2
        clear hc hc' h3 g3
        by_cases hxy : xs[k] = ys[k]
        · have t2 : decide (xs[k] = ys[k]) = true := by simp [hxy]
          have Hxy := Lib.hid hxy
          clear hxy
          go_wp2
          go_quiet ((go_at_call 31; refine Calls.quiet_of (eqIntS_any _ _ xs[k] ys[k] _ ?_ ?_); exact i1; exact i2))
          go_wp2
          go_roundw
          case rel => exact ⟨k + 1, by go_num, by omega, hd.on _, by rw [HM.out, HD.out, if_pos Hxy.out]; exact rfl⟩
          case measure => simp [intOf]; omega
        · have t2 : decide (xs[k] = ys[k]) = false := by simp [hxy]
          have Hxy := Lib.hid hxy
          clear hxy
          go_wp2
          go_quiet ((go_at_call 31; refine Calls.quiet_of (eqIntS_any _ _ xs[k] ys[k] _ ?_ ?_); exact i1; exact i2))
          go_wp2
          go_ret
          exact ⟨ret_bool (by rw [HM.out, HD.out, if_neg Hxy.out]), hd.on _⟩
      · obtain rfl : k = xs.length := by omega
        clear h3 g3
        go_wp2
        go_ret
        exact ⟨ret_bool (by rw [HM.out, eqR_end _ _ HL.out]), hd⟩
  · have t1 : ((xs.length : Int) != (ys.length : Int)) = true := by simp; omega
    have h0 : R = false := by rw [hR]; simp; intro e; exact hl (by rw [e])
    have H0 := Lib.hid h0
    clear hR h0 h3 g3 hl
    go_enter Tryz.func14, Tryz.ntmps14
    go_wp2
    go_ret
    exact ⟨ret_bool (H0.out).symm, 0, rfl⟩

/-- The marks k, k + 1, .. in their places. -/
def markRows (k : Int) : List (List Int) → List (List Int)
  | [] => []
  | l :: ll => marks k l.length :: markRows (k + l.length) ll
theorem length_markRows : ∀ (ll : List (List Int)) (k : Int), (markRows k ll).length = ll.length
  | [], _ => rfl
  | l :: ll, k => by simp [markRows, length_markRows ll]
theorem markRows_get : ∀ (ll : List (List Int)) (k : Int) (i : Nat) (h : i < ll.length), (markRows k ll)[i]? = some (marks (k + total (ll.take i)) ll[i].length)
  | l :: ll, k, 0, _ => by simp [markRows, total]
  | l :: ll, k, i + 1, h => by
    simp only [markRows, List.getElem?_cons_succ, List.take_succ_cons, total, List.getElem_cons_succ]
    rw [markRows_get ll (k + l.length) i (by simpa using h)]
    congr 2; omega
theorem total_markRows : ∀ (ll : List (List Int)) (k : Int), total (markRows k ll) = total ll
  | [], _ => rfl
  | l :: ll, k => by simp [markRows, total, total_markRows ll, length_marks]
/-- The first i rows bear marks. -/
def markRowsTo (k : Int) (ll : List (List Int)) (i : Nat) : List (List Int) := (markRows k ll).take i ++ ll.drop i
theorem markRowsTo_zero (k : Int) (ll : List (List Int)) : markRowsTo k ll 0 = ll := by simp [markRowsTo]
theorem markRowsTo_end (k : Int) (ll : List (List Int)) : markRowsTo k ll ll.length = markRows k ll := by
  simp [markRowsTo]; rw [← length_markRows ll k]; simp
theorem markRowsTo_len (k : Int) (ll : List (List Int)) (i : Nat) (h : i ≤ ll.length) : (markRowsTo k ll i).length = ll.length := by
  simp [markRowsTo, length_markRows]; omega
theorem markRowsTo_get (k : Int) (ll : List (List Int)) (i j : Nat) (h : i ≤ ll.length) : (markRowsTo k ll i)[j]? = if j < i then (markRows k ll)[j]? else ll[j]? := by
  unfold markRowsTo
  rw [List.getElem?_append]
  have h1 : ((markRows k ll).take i).length = i := by simp [length_markRows]; omega
  rw [h1]
  by_cases hj : j < i
  · rw [if_pos hj, if_pos hj, List.getElem?_take, if_pos hj]
  · rw [if_neg hj, if_neg hj, List.getElem?_drop]; congr 1; omega

/-- What a call leaves that has set marks in rows: they hold them; blocks outside [lo, hi) are as they were. -/
def MarkedRows (w : World) (lo hi : Nat) (v : Value) (k : Int) (ll : List (List Int)) (e : Ending) (w' : World) : Prop :=
  e = .returned (.int .i64 (k + (total ll : Nat))) ∧ OwnRows w' lo hi v (markRows k ll) ∧ Only lo hi w w'
theorem OwnRows.keepOnly {w w' : World} {a b lo hi : Nat} {v : Value} {ll : List (List Int)} (h : OwnRows w a b v ll) (k : Only lo hi w w') (hd : b ≤ lo ∨ hi ≤ a) : OwnRows w' a b v ll := by
  obtain ⟨us, h1, h2, h3⟩ := h
  exact ⟨us, owns_only h1 h2 k hd, h2, ⟨h3.len, fun i u l x y => (h3.row i u l x y).keepOnly k hd, h3.apart⟩⟩
end Go.Proofs.YtcngijafnnmccaaGreatDoor
