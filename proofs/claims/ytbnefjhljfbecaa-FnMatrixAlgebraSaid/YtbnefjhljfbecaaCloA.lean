/- The reference's closures. The program's closures. SpanOf; SubalgebraBy and IdealBy of both programs. -/
import Derived.Test.YtbnefjhljfbecaaSpaceA
import Derived.Test.YtbnefjhljfbecaaMatO
import Derived.Test.YtbnefjhljfbecaaSmall0
import Derived.Test.YtbnefjhljfbecaaRegX
import Derived.Test.YtbnefjhljfbecaaSubSp
namespace Go.Proofs.Ytbnefjhljfbecaa
set_option maxRecDepth 100000
section
open Go.RowKit

theorem St.rid {w0 w : World} {L : List It} (h : St w0 w L) (i : Nat) : St w0 w (L.eraseIdx i) := by
  by_cases hi : i < L.length
  · exact (h.toFront i (List.getElem?_eq_getElem hi)).drop 1
  · rw [List.eraseIdx_of_length_le (by omega)]; exact h
theorem flat_app {p : Int} {n : Nat} {R S : List (List Int)} (h1 : Wf p n R) (h2 : Wf p n S) : flat n (R ++ S) = flat n R ++ flat n S := by
  rw [flat_flatten (h1.app h2), flat_flatten h1, flat_flatten h2, List.flatten_append]
theorem rowsM_app {p : Int} {n : Nat} {R S : List (List Int)} (h1 : Wf p n R) (h2 : Wf p n S) : rowsM (R.length + S.length) n (flat n R ++ flat n S) = R ++ S := by
  rw [← flat_app h1 h2, ← List.length_append]; exact rowsM_flat (h1.app h2)
theorem resid_app {p : Int} {D E : List Int} (h1 : resid p D = true) (h2 : resid p E = true) : resid p (D ++ E) = true :=
  resid_iff.2 fun q hq => by
    rw [List.length_append] at hq
    by_cases h : q < D.length
    · rw [show vec (D ++ E) q = vec D q by simp [vec, List.getD_eq_getElem?_getD, List.getElem?_append_left h]]
      exact resid_vec h1 h
    · rw [show vec (D ++ E) q = vec E (q - D.length) by simp [vec, List.getD_eq_getElem?_getD, List.getElem?_append_right (show D.length ≤ q by omega)]]
      exact resid_vec h2 (by omega)

theorem step_append_ints {ops : Array Oper} {o : Oper} {a : Act} {K : Act → World → Prop} {Q : Exit → Act → World → Prop} {E : Prop} (hgd : o.guard = none) (s x : Operand)
    (ho : o.op = .call { callee := .builtin .append, args := #[s, x], argTypes := #[26, 26] }) {w0 w : World} {L : List It} (h : St w0 w L) (i : Nat) {v u : Value} {xs ys : List Int} (hi : L[i]? = some (.own v xs)) (hu : Ints w u ys) (hlen : xs.length + ys.length ≤ 17592186044416)
    (hs : a.eval s = v) (hx : a.eval x = u)
    (hk : ∀ v' w', St w0 w' (L.set i (.own v' (xs ++ ys))) → K (a.put o.dst v') w') :
    if Region.wanted o (yielded ops a.tmps) = true then Oper.wp Try.prog o a w K Q else E := by
  have hw : Region.wanted o (yielded ops a.tmps) = true := by simp [Region.wanted, hgd]
  rw [if_pos hw]
  obtain ⟨v', w', hr, k1, k2, k3⟩ := run_append_ints w0.heap.size o.type v u xs ys w (h.own i hi) hu hlen h.size
  unfold Oper.wp execOp
  simp only [ho, resolve, invoke, builtin, Sem.run_bind, Sem.run_pure, Result.andThen_ok, List.map_toArray, List.map_cons, List.map_nil, hs, hx, hr]
  exact hk _ _ (h.appended i hi k1 k2 k3)

end
section
open Go.RowKit

/-- append of rows to rows: the new slice can be read; the rows stay where they were. -/
theorem run_append_rows (ty : Nat) {w0 w : World} {L : List It} (h : St w0 w L) (i j : Nat) {v u : Value} {us us2 : List Value} {ll ll2 : List (List Int)} (hi : L[i]? = some (rowsIt v us ll)) (hj : L[j]? = some (rowsIt u us2 ll2)) (hij : i ≠ j) (hul : us.length = ll.length) (hul2 : us2.length = ll2.length) (hlen : ll.length + ll2.length ≤ 1099511627776) :
    ∃ v' w' x, (Builtin.append_ #[49, 49] ty #[v, u]).run Try.prog w = .ok v' w' ∧ St w0 w' (L.set i x) ∧ IntRows w' v' (ll ++ ll2) := by
  obtain ⟨ti, h1, h2, h3, h4⟩ := info_parts infoR
  have hsl : Try.prog.underlying 49 = some (.slice 26) := Try.underlying49
  have hil : i < L.length := (List.getElem?_eq_some_iff.1 hi).1
  obtain ⟨hv, hvs⟩ := h.at i hi
  obtain ⟨hu, hus⟩ := h.at j hj
  by_cases hy : ll2.length = 0
  · obtain rfl : ll2 = [] := List.eq_nil_of_length_eq_zero hy
    have hr : (Builtin.append_ #[49, 49] ty #[v, u]).run Try.prog w = .ok v w := by
      have hu0 : ∃ A c, u = .slice A 0 c := by
        rcases hu.2 with ⟨rfl, _⟩ | ⟨g, cap, cur, rfl, _⟩
        · exact ⟨none, 0, rfl⟩
        · exact ⟨_, cap, rfl⟩
      obtain ⟨A, c, rfl⟩ := hu0
      have hi' : Try.prog.info? 26 = some ti := h1
      rcases hv.2 with ⟨rfl, h0⟩ | ⟨g, cap, cur, rfl, _, _, hnc, _⟩
      · obtain rfl : ll = [] := List.eq_nil_of_length_eq_zero h0
        cases A <;> simp [Builtin.append_, run_underlying hsl, sizeOf, typeInfo, hi', Builtin.lenOf, Builtin.firstCells, loadCells, loadCellsFrom]
      · cases A <;> simp [Builtin.append_, run_underlying hsl, sizeOf, typeInfo, hi', Builtin.lenOf, Builtin.firstCells, hnc, storeCells, loadCells, loadCellsFrom]
    refine ⟨v, w, rowsIt v us ll, hr, ?_, by rw [List.append_nil]; exact h.rowsR i hi hul⟩
    rw [← (List.getElem?_eq_some_iff.1 hi).2, List.set_getElem_self]
    exact h
  · rcases id hu.2 with ⟨_, h0⟩ | ⟨g, cap, cur, rfl, _⟩
    · exact absurd h0 hy
    · obtain ⟨v', w', hr, k1, k2, _, k4⟩ := run_append_own_at (P := Try.prog) w w0.heap.size 49 ty 26 ti (.slice none 0 0) 1 24 hsl h1 h2 h3 h4 rfl (by decide) v ll.length us hv ⟨g, 0, none⟩ ll2.length cap us2 (by rw [hul2]; omega)
        (fun k x hk => by rw [add_zero_spot, Nat.zero_add]; exact h.vecCell j hj k hk) (fun x hx => by
          obtain ⟨k, hk⟩ := List.getElem?_of_mem hx
          have hkl := (List.getElem?_eq_some_iff.1 hk).1
          exact (hus (x, ll2[k]'(by omega)) (List.mem_of_getElem? (zip_get hk (List.getElem?_eq_getElem _)))).one) (by simp only [maxLen]; omega) (by omega) h.size
      have hst := h.updVec i hi k2 (fun b hb => by
        rcases k4 with e | e
        · exact .inl (by rw [← e]; exact hb)
        · right
          rw [e] at hb
          simp only [Option.some.injEq] at hb
          omega) k1
      refine ⟨v', w', _, hr, hst, ?_⟩
      have hj' : (L.set i (.vec v' 26 1 (ll.length + ll2.length) (us ++ us2) (us.zip ll)))[j]? = some (rowsIt (.slice (some ⟨g, 0, none⟩) ll2.length cap) us2 ll2) := by
        rw [List.getElem?_set_ne hij]; exact hj
      have hi' : (L.set i (.vec v' 26 1 (ll.length + ll2.length) (us ++ us2) (us.zip ll)))[i]? = some (.vec v' 26 1 (ll.length + ll2.length) (us ++ us2) (us.zip ll)) := by
        rw [List.getElem?_set_self hil]
      have a1 := hst.at i hi'
      have a2 := hst.at j hj'
      refine It.rows (B := w0.heap.size) (us := us ++ us2) ⟨by rw [List.length_append]; exact a1.1, fun s hs => ?_⟩ (by rw [List.length_append, List.length_append, hul, hul2])
      rw [List.zip_append hul] at hs
      rcases List.mem_append.1 hs with hs | hs
      · exact a1.2 s hs
      · exact a2.2 s hs
theorem step_append_rows {ops : Array Oper} {o : Oper} {a : Act} {K : Act → World → Prop} {Q : Exit → Act → World → Prop} {E : Prop} (hgd : o.guard = none) (s x : Operand)
    (ho : o.op = .call { callee := .builtin .append, args := #[s, x], argTypes := #[49, 49] }) {w0 w : World} {L : List It} (h : St w0 w L) (i j : Nat) {v u : Value} {us us2 : List Value} {ll ll2 : List (List Int)} (hi : L[i]? = some (rowsIt v us ll)) (hj : L[j]? = some (rowsIt u us2 ll2)) (hij : i ≠ j) (hul : us.length = ll.length) (hul2 : us2.length = ll2.length) (hlen : ll.length + ll2.length ≤ 1099511627776)
    (hs : a.eval s = v) (hx : a.eval x = u)
    (hk : ∀ v' w' y, St w0 w' (L.set i y) → IntRows w' v' (ll ++ ll2) → K (a.put o.dst v') w') :
    if Region.wanted o (yielded ops a.tmps) = true then Oper.wp Try.prog o a w K Q else E := by
  have hw : Region.wanted o (yielded ops a.tmps) = true := by simp [Region.wanted, hgd]
  rw [if_pos hw]
  obtain ⟨v', w', y, hr, k1, k2⟩ := run_append_rows o.type h i j hi hj hij hul hul2 hlen
  unfold Oper.wp execOp
  simp only [ho, resolve, invoke, builtin, Sem.run_bind, Sem.run_pure, Result.andThen_ok, List.map_toArray, List.map_cons, List.map_nil, hs, hx, hr]
  exact hk _ _ y k1 k2
theorem wp_append_rows {ops : Array Oper} {rest : List Oper} {o : Oper} {a : Act} {Q : Exit → Act → World → Prop} (hgd : o.guard = none) (s x : Operand)
    (ho : o.op = .call { callee := .builtin .append, args := #[s, x], argTypes := #[49, 49] }) {w0 w : World} {L : List It} (h : St w0 w L) (i j : Nat) {v u : Value} {us us2 : List Value} {ll ll2 : List (List Int)} (hi : L[i]? = some (rowsIt v us ll)) (hj : L[j]? = some (rowsIt u us2 ll2)) (hij : i ≠ j) (hul : us.length = ll.length) (hul2 : us2.length = ll2.length) (hlen : ll.length + ll2.length ≤ 1099511627776)
    (hs : a.eval s = v) (hx : a.eval x = u)
    (hk : ∀ v' w' y, St w0 w' (L.set i y) → IntRows w' v' (ll ++ ll2) → wpList Try.prog ops Q rest (a.put o.dst v') w') : wpList Try.prog ops Q (o :: rest) a w := by
  refine wpList_plain hgd fun K hK => ?_
  obtain ⟨v', w', y, hr, k1, k2⟩ := run_append_rows o.type h i j hi hj hij hul hul2 hlen
  unfold Oper.wp execOp
  simp only [ho, resolve, invoke, builtin, Sem.run_bind, Sem.run_pure, Result.andThen_ok, List.map_toArray, List.map_cons, List.map_nil, hs, hx, hr]
  exact hK _ _ (hk v' w' y k1 k2)

/-- A space of the call's own. -/
theorem join_rows {p : Int} (_hP : isPrime p = true) {n : Nat} {k : Bool} {T : List Int} {R : List (List Int)} : spanL p n (R ++ stepS k T n p R) = cloNext k T n p R := rfl

end
section
open Go.RowKit

def gbOk (p n : Int) (T : List Int) (q r c : Int) (D : List Int) : Bool := algOk p n T && matOk q r c D && decide (q = p) && decide (c = n)
theorem gbOk_spec {p n q r c : Int} {T D : List Int} (h : gbOk p n T q r c D = true) : algOk p n T = true ∧ matOk q r c D = true ∧ q = p ∧ c = n := by
  simp only [gbOk, Bool.and_eq_true, decide_eq_true_eq] at h
  exact ⟨h.1.1.1, h.1.1.2, h.1.2, h.2⟩

/-- What SubalgebraBy (false) and IdealBy (true) return. -/
def gbL (k : Bool) (p n : Int) (T : List Int) (r : Int) (D : List Int) : List (List Int) := cloL k T n.toNat p (spanL p n.toNat (rowsM r.toNat n.toNat D))
def gbP (p n : Int) (T : List Int) (q r c : Int) (D : List Int) : Int := if gbOk p n T q r c D then p else 0
def gbR (k : Bool) (p n : Int) (T : List Int) (q r c : Int) (D : List Int) : Int := if gbOk p n T q r c D then (gbL k p n T r D).length else 0
def gbC (p n : Int) (T : List Int) (q r c : Int) (D : List Int) : Int := if gbOk p n T q r c D then n else 0
def gbD (k : Bool) (p n : Int) (T : List Int) (q r c : Int) (D : List Int) : List Int := if gbOk p n T q r c D then flat n.toNat (gbL k p n T r D) else []
theorem gbD_bd (k : Bool) (p n : Int) (T : List Int) (q r c : Int) (D : List Int) : (gbD k p n T q r c D).length ≤ 784 := by
  unfold gbD
  split
  · rename_i h
    obtain ⟨h1, h2, e1, e2⟩ := gbOk_spec h
    subst e1
    obtain ⟨m, rfl, hm, _, _, h3, _, hP⟩ := algOk_spec h1
    obtain ⟨a, b, ea, eb, _, _, _, hr, _⟩ := matOk_spec h2
    rw [length_flat, Int.toNat_natCast]
    obtain ⟨z, hz⟩ := cloTo_rf (k := k) (T := T) hP m (spanL_rf hP (Wf_rowsM (p := q) (by omega) (r := r.toNat) (c := m) hr))
    have hl : (gbL k q m T r D).length ≤ m := by
      rw [gbL, Int.toNat_natCast]
      exact rf_le_n h3 hz
    exact mul_le (Nat.le_trans hl hm) hm
  · simp

end
end Go.Proofs.Ytbnefjhljfbecaa
