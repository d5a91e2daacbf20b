/- MatrixOk of the program and of the reference. The program's matrices out of rows: unit, slices.Grow and slices.Concat at []int, matrixOf, adjoint. isForm of the program, l3Form and l2Maps of the reference. -/
import Derived.Test.YtcngijafnnmccaaGreatDoorSmall0
import Derived.Test.YtcngijafnnmccaaGreatDoorAlgA
import Derived.Lib.AppendZeros
namespace Go.Proofs.YtcngijafnnmccaaGreatDoor
set_option maxRecDepth 100000
section
open Go.RowKit

def matOk (p r c : Int) (D : List Int) : Bool := isPrime p && (inR r 0 40 && (inR c 0 40 && (decide ((D.length : Int) = r * c) && resid p D)))
theorem matOk_spec {p r c : Int} {D : List Int} (h : matOk p r c D = true) : ∃ a b : Nat, r = a ∧ c = b ∧ a ≤ 40 ∧ b ≤ 40 ∧ D.length = a * b ∧ resid p D = true ∧ 2 ≤ p ∧ p ≤ 10007 ∧ isPrime p = true := by
  simp only [matOk, Bool.and_eq_true, decide_eq_true_eq] at h
  obtain ⟨h1, h2, h3, h4, h5⟩ := h
  obtain ⟨a, rfl⟩ : ∃ a : Nat, r = a := ⟨r.toNat, by simp [inR] at h2; omega⟩
  obtain ⟨b, rfl⟩ : ∃ b : Nat, c = b := ⟨c.toNat, by simp [inR] at h3; omega⟩
  exact ⟨a, b, rfl, rfl, by simp [inR] at h2; omega, by simp [inR] at h3; omega, by exact_mod_cast h4, h5, (isPrime_bd h1).1, (isPrime_bd h1).2, h1⟩

theorem l1Residues_below (v : Value) (l : List Int) (p : Int) (w : World) (hv : Ints w v l) : Calls Tryz.prog 34 #[v, .int .i64 p] w fun e w' => e = .returned (.bool (resid p l)) ∧ Below w.heap.size w w' :=
  (l1Residues_any v l p w hv).mono fun _ _ ⟨he, hw⟩ => ⟨he, below_of_eq hw⟩
/-- A form of an algebra: a square matrix of its size, of its prime. -/
def formOk (p n q r c : Int) (D : List Int) : Bool := matOk q r c D && (decide (q = p) && (decide (r = n) && decide (c = n)))
end
section
open Go.RowKit

/-- A row of a slice of slices. -/
def RowAt (w : World) (b o : Nat) (l : List Int) (u : Value) : Prop := w.cell? ⟨b, o, none⟩ = some u ∧ Ints w u l
theorem RowAt.fact {w : World} {b o : Nat} {l : List Int} {u : Value} (h : RowAt w b o l u) : It.ok w.heap.size w (.fact fun w' => RowAt w' b o l u) := fun _ hk =>
  ⟨(World.cell?_of_block (hk _ (World.block_lt_of_cell? w _ h.1))).trans h.1, h.2.keep fun p hp => World.cell?_of_block (hk p.block hp)⟩
theorem IntRows.at {w : World} {A : Option Addr} {n c : Nat} {ll : List (List Int)} (h : IntRows w (.slice A n c) ll) {i : Nat} (hi : i < ll.length) :
    ∃ b off A' c', A = some ⟨b, off, none⟩ ∧ RowAt w b (off + i) ll[i] (.slice A' ll[i].length c') := by
  obtain ⟨A', c', he, _, _, h3⟩ := h
  simp only [Value.slice.injEq] at he
  obtain ⟨rfl, _, rfl⟩ := he
  obtain ⟨b, off, rfl, hc⟩ := h3 (by omega)
  obtain ⟨u, k1, k2⟩ := hc i ll[i] (List.getElem?_eq_getElem hi)
  obtain ⟨A2, c2, rfl, _⟩ := id k2
  exact ⟨b, off, A2, c2, rfl, k1, k2⟩

theorem wp_append_zeros {ops : Array Oper} {rest : List Oper} {o : Oper} {a : Act} {Q : Exit → Act → World → Prop} {w : World} (hgd : o.guard = none) (s x : Operand)
    (ho : o.op = .call { callee := .builtin .append, args := #[s, x], argTypes := #[22, 3] }) (n : Nat) (hs : a.eval s = .slice none 0 0) (hx : a.eval x = .int .i64 n) (h0 : 0 < n) (hn : n ≤ 1099511627776)
    (h : ∀ (c : Nat) (cur : Array Value), cur.size = c → n ≤ c → c ≤ maxLen → wpList Tryz.prog ops Q rest (a.put o.dst (.slice (some ⟨w.heap.size, 0, none⟩) n c)) (w.drew.alloc (.cells cur 3))) : wpList Tryz.prog ops Q (o :: rest) a w := by
  refine wpList_plain hgd fun K hK => ?_
  obtain ⟨i, h1, h2, h3, h4⟩ := info_parts infoI
  have hr := Lib.run_append_nil_zeros (P := Tryz.prog) w 22 3 o.type 3 i (.int .i64 0) .i64 .i64 Tryz.underlying22 Tryz.underlying3 h1 h2 n h0 (by rw [h3]; decide) (by omega) (by rw [h4]; omega)
  have hge := grownCap_ge w n 0 3
  unfold Oper.wp execOp
  simp only [ho, resolve, invoke, builtin, Sem.run_bind, Sem.run_pure, Result.andThen_ok, List.map_toArray, List.map_cons, List.map_nil, hs, hx, hr]
  refine hK _ _ (h _ _ ?_ hge (grownCap_le_maxLen w n 0 3 (by simp only [maxLen]; omega)))
  simp only [Array.size_append, size_zeroCells, show (Value.int IntKind.i64 0).cells.size = 1 from rfl, Nat.mul_one]
  omega
theorem Own.room {W : World} {cur : Array Value} {c lo : Nat} (h1 : cur.size = c) (h2 : c ≤ maxLen) (hlo : lo ≤ W.heap.size) : Own (W.alloc (.cells cur 3)) lo (.slice (some ⟨W.heap.size, 0, none⟩) 0 c) [] :=
  World.ownsRow_made (base := lo) (e := 3) (size := 1) W cur c hlo h2 (by omega)

end
section
open Go.RowKit

end
end Go.Proofs.YtcngijafnnmccaaGreatDoor
