/- MatrixOk of the program and of the reference. The program's matrices out of rows: unit, slices.Grow and slices.Concat at []int, matrixOf, adjoint. isForm of the program, l3Form and l2Maps of the reference. -/
import Derived.Test.YtbnefjhljfbecaaSmall0
import Derived.Test.YtbnefjhljfbecaaAlgA
import Derived.Lib.AppendZeros
namespace Go.Proofs.Ytbnefjhljfbecaa
set_option maxRecDepth 100000
section
open Go.RowKit

def matOk (p r c : Int) (D : List Int) : Bool := isPrime p && (inR r 0 40 && (inR c 0 40 && (decide ((D.length : Int) = r * c) && resid p D)))
theorem matOk_spec {p r c : Int} {D : List Int} (h : matOk p r c D = true) : ∃ a b : Nat, r = a ∧ c = b ∧ a ≤ 40 ∧ b ≤ 40 ∧ D.length = a * b ∧ resid p D = true ∧ 2 ≤ p ∧ p ≤ 10007 ∧ isPrime p = true := by
  simp only [matOk, Bool.and_eq_true, decide_eq_true_eq] at h
  obtain ⟨h1, h2, h3, h4, h5⟩ := h
  obtain ⟨a, rfl⟩ : ∃ a : Nat, r = a := ⟨r.toNat, by simp [inR] at h2; omega⟩
  obtain ⟨b, rfl⟩ : ∃ b : Nat, c = b := ⟨c.toNat, by simp [inR] at h3; omega⟩
  exact ⟨a, b, rfl, rfl, by simp [inR] at h2; omega, by simp [inR] at h3; omega, by exact_mod_cast h4, h5, (isPrime_bd h1).1, (isPrime_bd h1).2, h1⟩

set_option maxHeartbeats 1000000 in
theorem MatrixOkI_any (p r c : Int) (t : Value) (D : List Int) (w : World) (ht : Ints w t D) (hp : p ≤ 9223372036854775807) :
    Calls Try.prog 23 #[.agg #[.int .i64 p, .int .i64 r, .int .i64 c, t]] w (RetBool w (matOk p r c D)) := by
  have h1 := (St.start1 ht).box [.int .i64 p, .int .i64 r, .int .i64 c, t] 35
  obtain ⟨A, k, rfl, hk1, hk2, _⟩ := id ht
  clear ht
  have hi := h1.roInts 1 rfl
  obtain ⟨z0, z1, z2, z3⟩ := h1.box4 0 rfl
  by_cases b1 : isPrime p = true
  · have hb := isPrime_bd b1
    have hp0 : 0 ≤ p := by omega
    by_cases b2 : inR r 0 40 = true
    · by_cases b3 : inR c 0 40 = true
      · obtain ⟨x, rfl⟩ : ∃ x : Nat, r = x := ⟨r.toNat, by simp [inR] at b2; omega⟩
        obtain ⟨y, rfl⟩ : ∃ y : Nat, c = y := ⟨c.toNat, by simp [inR] at b3; omega⟩
        have hx : x ≤ 40 := by simp [inR] at b2; omega
        have hy : y ≤ 40 := by simp [inR] at b3; omega
        have hxy := mul_le hx hy
        have r1 : 0 ≤ (x : Int) * y ∧ (x : Int) * y ≤ 1600 := by
          have : ((x * y : Nat) : Int) = (x : Int) * y := Int.natCast_mul _ _
          omega
        by_cases b4 : (D.length : Int) = (x : Int) * y
        · have t4 : ((D.length : Int) != (x : Int) * y) = false := by simp [b4]
          have t5 : ((D.length : Int) == (x : Int) * y) = true := by simp [b4]
          rw [show matOk p x y D = resid p D by simp only [matOk, b1, b2, b3, decide_eq_true b4, Bool.true_and]]
          have B4 := Lib.hid b4
          clear b4
          go_enter Try.func23, Try.ntmps23
          go_wp2_with (first | (go_at_call 34; refine (IsPrimeI_any _ _).mono ?_; rintro (e : Ending) w' ⟨rfl, rfl⟩) | (go_at_call 22; refine (inside_any _ _ _ _).mono ?_; rintro (e : Ending) w' ⟨rfl, rfl⟩) | (go_at_call 35; refine (residues_any _ D p _ hp0 hp hi).mono ?_; rintro (e : Ending) w2 ⟨rfl, hb2⟩))
          go_ret
          exact ⟨rfl, (h1.on hb2).below⟩
        · have t4 : ((D.length : Int) != (x : Int) * y) = true := by simp [b4]
          have t5 : ((D.length : Int) == (x : Int) * y) = false := by simp [b4]
          rw [show matOk p x y D = false by simp only [matOk, b1, b2, b3, decide_eq_false b4, Bool.true_and, Bool.false_and]]
          have B4 := Lib.hid b4
          clear b4
          go_enter Try.func23, Try.ntmps23
          go_wp2_with (first | (go_at_call 34; refine (IsPrimeI_any _ _).mono ?_; rintro (e : Ending) w' ⟨rfl, rfl⟩) | (go_at_call 22; refine (inside_any _ _ _ _).mono ?_; rintro (e : Ending) w' ⟨rfl, rfl⟩))
          go_ret
          exact ⟨rfl, h1.below⟩
      · have b3 : inR c 0 40 = false := by simpa using b3
        rw [show matOk p r c D = false by simp only [matOk, b1, b2, b3, Bool.true_and, Bool.false_and]]
        go_enter Try.func23, Try.ntmps23
        go_wp2_with (first | (go_at_call 34; refine (IsPrimeI_any _ _).mono ?_; rintro (e : Ending) w' ⟨rfl, rfl⟩) | (go_at_call 22; refine (inside_any _ _ _ _).mono ?_; rintro (e : Ending) w' ⟨rfl, rfl⟩))
        go_ret
        exact ⟨rfl, h1.below⟩
    · have b2 : inR r 0 40 = false := by simpa using b2
      rw [show matOk p r c D = false by simp only [matOk, b1, b2, Bool.true_and, Bool.false_and]]
      go_enter Try.func23, Try.ntmps23
      go_wp2_with (first | (go_at_call 34; refine (IsPrimeI_any _ _).mono ?_; rintro (e : Ending) w' ⟨rfl, rfl⟩) | (go_at_call 22; refine (inside_any _ _ _ _).mono ?_; rintro (e : Ending) w' ⟨rfl, rfl⟩))
      go_ret
      exact ⟨rfl, h1.below⟩
  · have b1 : isPrime p = false := by simpa using b1
    rw [show matOk p r c D = false by simp only [matOk, b1, Bool.false_and]]
    go_enter Try.func23, Try.ntmps23
    go_wp2_with (go_at_call 34; refine (IsPrimeI_any _ _).mono ?_; rintro (e : Ending) w' ⟨rfl, rfl⟩)
    go_ret
    exact ⟨rfl, h1.below⟩
theorem l1Residues_below (v : Value) (l : List Int) (p : Int) (w : World) (hv : Ints w v l) : Calls Try.prog 57 #[v, .int .i64 p] w fun e w' => e = .returned (.bool (resid p l)) ∧ Below w.heap.size w w' :=
  (l1Residues_any v l p w hv).mono fun _ _ ⟨he, hw⟩ => ⟨he, below_of_eq hw⟩
set_option maxHeartbeats 1000000 in
theorem MatrixOkS_any (p r c : Int) (t : Value) (D : List Int) (w : World) (ht : Ints w t D) (hp : p ≤ 9223372036854775807) :
    Calls Try.prog 29 #[.agg #[.int .i64 p, .int .i64 r, .int .i64 c, t]] w (RetBool w (matOk p r c D)) := by
  have h1 := (St.start1 ht).box [.int .i64 p, .int .i64 r, .int .i64 c, t] 35
  obtain ⟨A, k, rfl, hk1, hk2, _⟩ := id ht
  clear ht
  have hi := h1.roInts 1 rfl
  obtain ⟨z0, z1, z2, z3⟩ := h1.box4 0 rfl
  by_cases b1 : isPrime p = true
  · have hb := isPrime_bd b1
    have hp0 : 0 ≤ p := by omega
    by_cases b2 : inR r 0 40 = true
    · by_cases b3 : inR c 0 40 = true
      · obtain ⟨x, rfl⟩ : ∃ x : Nat, r = x := ⟨r.toNat, by simp [inR] at b2; omega⟩
        obtain ⟨y, rfl⟩ : ∃ y : Nat, c = y := ⟨c.toNat, by simp [inR] at b3; omega⟩
        have hx : x ≤ 40 := by simp [inR] at b2; omega
        have hy : y ≤ 40 := by simp [inR] at b3; omega
        have hxy := mul_le hx hy
        have r1 : 0 ≤ (x : Int) * y ∧ (x : Int) * y ≤ 1600 := by
          have : ((x * y : Nat) : Int) = (x : Int) * y := Int.natCast_mul _ _
          omega
        by_cases b4 : (D.length : Int) = (x : Int) * y
        · have t4 : ((D.length : Int) != (x : Int) * y) = false := by simp [b4]
          have t5 : ((D.length : Int) == (x : Int) * y) = true := by simp [b4]
          rw [show matOk p x y D = resid p D by simp only [matOk, b1, b2, b3, decide_eq_true b4, Bool.true_and]]
          have B4 := Lib.hid b4
          clear b4
          go_enter Try.func29, Try.ntmps29
          go_wp2_with (first | (go_at_call 44; refine (IsPrimeS_any _ _).mono ?_; rintro (e : Ending) w' ⟨rfl, rfl⟩) | (go_at_call 45; refine (l1In_any _ _ _ _).mono ?_; rintro (e : Ending) w' ⟨rfl, rfl⟩) | (go_at_call 57; refine (l1Residues_below _ D p _ hi).mono ?_; rintro (e : Ending) w2 ⟨rfl, hb2⟩))
          go_ret
          exact ⟨rfl, (h1.on hb2).below⟩
        · have t4 : ((D.length : Int) != (x : Int) * y) = true := by simp [b4]
          have t5 : ((D.length : Int) == (x : Int) * y) = false := by simp [b4]
          rw [show matOk p x y D = false by simp only [matOk, b1, b2, b3, decide_eq_false b4, Bool.true_and, Bool.false_and]]
          have B4 := Lib.hid b4
          clear b4
          go_enter Try.func29, Try.ntmps29
          go_wp2_with (first | (go_at_call 44; refine (IsPrimeS_any _ _).mono ?_; rintro (e : Ending) w' ⟨rfl, rfl⟩) | (go_at_call 45; refine (l1In_any _ _ _ _).mono ?_; rintro (e : Ending) w' ⟨rfl, rfl⟩))
          go_ret
          exact ⟨rfl, h1.below⟩
      · have b3 : inR c 0 40 = false := by simpa using b3
        rw [show matOk p r c D = false by simp only [matOk, b1, b2, b3, Bool.true_and, Bool.false_and]]
        go_enter Try.func29, Try.ntmps29
        go_wp2_with (first | (go_at_call 44; refine (IsPrimeS_any _ _).mono ?_; rintro (e : Ending) w' ⟨rfl, rfl⟩) | (go_at_call 45; refine (l1In_any _ _ _ _).mono ?_; rintro (e : Ending) w' ⟨rfl, rfl⟩))
        go_ret
        exact ⟨rfl, h1.below⟩
    · have b2 : inR r 0 40 = false := by simpa using b2
      rw [show matOk p r c D = false by simp only [matOk, b1, b2, Bool.true_and, Bool.false_and]]
      go_enter Try.func29, Try.ntmps29
      go_wp2_with (first | (go_at_call 44; refine (IsPrimeS_any _ _).mono ?_; rintro (e : Ending) w' ⟨rfl, rfl⟩) | (go_at_call 45; refine (l1In_any _ _ _ _).mono ?_; rintro (e : Ending) w' ⟨rfl, rfl⟩))
      go_ret
      exact ⟨rfl, h1.below⟩
  · have b1 : isPrime p = false := by simpa using b1
    rw [show matOk p r c D = false by simp only [matOk, b1, Bool.false_and]]
    go_enter Try.func29, Try.ntmps29
    go_wp2_with (go_at_call 44; refine (IsPrimeS_any _ _).mono ?_; rintro (e : Ending) w' ⟨rfl, rfl⟩)
    go_ret
    exact ⟨rfl, h1.below⟩

/-- A form of an algebra: a square matrix of its size, of its prime. -/
def formOk (p n q r c : Int) (D : List Int) : Bool := matOk q r c D && (decide (q = p) && (decide (r = n) && decide (c = n)))
end
section
open Go.RowKit

set_option maxHeartbeats 400000 in
theorem unit_any (n k : Nat) (w : World) (hn : n ≤ 1048576) (hk : k < n) :
    Calls Try.prog 52 #[.int .i64 n, .int .i64 k] w (RetOwn w (unitL n k)) := by
  have hmk := makeI n (by omega)
  have ho := Own.made (W := w) (n := n) (lo := w.heap.size) (by omega) (Nat.le_refl _)
  obtain ⟨e1, e2⟩ := ho.cell k (by simpa using hk)
  obtain ⟨ho', hg'⟩ := ho.set k 1
  rw [← tab_zero, tab_set, World.setCell_alloc_new] at ho'
  clear ho
  go_enter Try.func52, Try.ntmps52
  go_wp2
  go_ret
  exact ⟨_, rfl, ho', (Below.refl _ _).alloc (Nat.le_refl _) _⟩

/-- A row of a slice of slices. -/
def RowAt (w : World) (b o : Nat) (l : List Int) (u : Value) : Prop := w.cell? ⟨b, o, none⟩ = some u ∧ Ints w u l
theorem RowAt.fact {w : World} {b o : Nat} {l : List Int} {u : Value} (h : RowAt w b o l u) : It.ok w.heap.size w (.fact fun w' => RowAt w' b o l u) := fun _ hk =>
  ⟨(World.cell?_of_block (hk _ (World.block_lt_of_cell? w _ h.1))).trans h.1, h.2.keep fun p hp => World.cell?_of_block (hk p.block hp)⟩
theorem IntRows.at {w : World} {A : Option Addr} {n c : Nat} {ll : List (List Int)} (h : IntRows w (.slice A n c) ll) {i : Nat} (hi : i < ll.length) :
    ∃ b off A' c', A = some ⟨b, off, none⟩ ∧ RowAt w b (off + i) ll[i] (.slice A' ll[i].length c') := by
  obtain ⟨A', c', he, _, _, h3⟩ := h
  simp only [Value.slice.injEq] at he
  obtain ⟨rfl, _, rfl⟩ := he
  obtain ⟨b, off, rfl, hc⟩ := h3 (by omega)
  obtain ⟨u, k1, k2⟩ := hc i ll[i] (List.getElem?_eq_getElem hi)
  obtain ⟨A2, c2, rfl, _⟩ := id k2
  exact ⟨b, off, A2, c2, rfl, k1, k2⟩

theorem wp_append_zeros {ops : Array Oper} {rest : List Oper} {o : Oper} {a : Act} {Q : Exit → Act → World → Prop} {w : World} (hgd : o.guard = none) (s x : Operand)
    (ho : o.op = .call { callee := .builtin .append, args := #[s, x], argTypes := #[26, 3] }) (n : Nat) (hs : a.eval s = .slice none 0 0) (hx : a.eval x = .int .i64 n) (h0 : 0 < n) (hn : n ≤ 1099511627776)
    (h : ∀ (c : Nat) (cur : Array Value), cur.size = c → n ≤ c → c ≤ maxLen → wpList Try.prog ops Q rest (a.put o.dst (.slice (some ⟨w.heap.size, 0, none⟩) n c)) (w.drew.alloc (.cells cur 3))) : wpList Try.prog ops Q (o :: rest) a w := by
  refine wpList_plain hgd fun K hK => ?_
  obtain ⟨i, h1, h2, h3, h4⟩ := info_parts infoI
  have hr := Lib.run_append_nil_zeros (P := Try.prog) w 26 3 o.type 3 i (.int .i64 0) .i64 .i64 Try.underlying26 Try.underlying3 h1 h2 n h0 (by rw [h3]; decide) (by omega) (by rw [h4]; omega)
  have hge := grownCap_ge w n 0 3
  unfold Oper.wp execOp
  simp only [ho, resolve, invoke, builtin, Sem.run_bind, Sem.run_pure, Result.andThen_ok, List.map_toArray, List.map_cons, List.map_nil, hs, hx, hr]
  refine hK _ _ (h _ _ ?_ hge (grownCap_le_maxLen w n 0 3 (by simp only [maxLen]; omega)))
  simp only [Array.size_append, size_zeroCells, show (Value.int IntKind.i64 0).cells.size = 1 from rfl, Nat.mul_one]
  omega
theorem Own.room {W : World} {cur : Array Value} {c lo : Nat} (h1 : cur.size = c) (h2 : c ≤ maxLen) (hlo : lo ≤ W.heap.size) : Own (W.alloc (.cells cur 3)) lo (.slice (some ⟨W.heap.size, 0, none⟩) 0 c) [] :=
  World.ownsRow_made (base := lo) (e := 3) (size := 1) W cur c hlo h2 (by omega)

end
section
open Go.RowKit

end
end Go.Proofs.Ytbnefjhljfbecaa
