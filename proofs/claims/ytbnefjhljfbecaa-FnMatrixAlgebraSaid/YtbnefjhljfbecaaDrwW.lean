/- Draws: l1New, l1Below, l1Once, l1PickInt. Draws: l12Prime, l12List, l12Matrix. Draws: DrawMatrixAlgebra. laws.big: a code's length. -/
import Derived.Test.YtbnefjhljfbecaaDrwA
import Derived.Test.YtbnefjhljfbecaaCloA
import Derived.Test.YtbnefjhljfbecaaFlt
import Derived.Test.YtbnefjhljfbecaaAdjA
import Derived.Test.YtbnefjhljfbecaaMul
import Derived.Test.YtbnefjhljfbecaaRowsW2
namespace Go.Proofs.Ytbnefjhljfbecaa
set_option maxRecDepth 100000
section
open Go.RowKit
namespace Dw

/-- The cursor ahead of a list of items. -/
def Cur (w0 w : World) (bc : Nat) (vb : Value) (n : Nat) (L : List It) : Prop :=
  ∃ (i : Nat) (h : Int), i ≤ n ∧ St w0 w (.box bc [vb, .int .i64 i, .int .i64 h] :: .fact (fun w' => BytesR w' vb n) :: L)
theorem l1Byte_cur {w0 w : World} {L : List It} {bc n : Nat} {vb : Value} (h : Cur w0 w bc vb n L) :
    Calls Try.prog 51 #[.pointer (some ⟨bc, 0, none⟩)] w fun e w' => ∃ x : Int, e = .returned (.int .i64 x) ∧ 0 ≤ x ∧ x ≤ 255 ∧ Cur w0 w' bc vb n L := by
  obtain ⟨i, hh, hi, h⟩ := h
  refine (l1Byte_any bc n vb i hh h hi).mono ?_
  rintro e w' ⟨x, i', h', rfl, h1, h2, h3, h4⟩
  exact ⟨x, rfl, h1, h2, i', h', h3, h4⟩

set_option maxHeartbeats 1000000 in
theorem l1Below_any {w0 w : World} {L : List It} {bc n : Nat} {vb : Value} (h : Cur w0 w bc vb n L) (m : Nat) (hm : 0 < m) (hm2 : m ≤ 256) :
    Calls Try.prog 20 #[.pointer (some ⟨bc, 0, none⟩), .int .i64 m] w fun e w' => ∃ x : Nat, e = .returned (.int .i64 x) ∧ x < m ∧ Cur w0 w' bc vb n L := by
  have a1 : ¬ (m : Int) ≤ 0 := by omega
  have a2 : (m : Int) ≤ 256 := by omega
  have HC := Lib.hid (l1Byte_cur h)
  go_enter Try.func20, Try.ntmps20
  go_wp2_with fail
  refine HC.out.mono ?_
  rintro (e : Ending) w2 ⟨x, rfl, x0, x1, h2⟩
  clear HC
  obtain ⟨k, rfl⟩ := Int.eq_ofNat_of_zero_le x0
  have a3 : (m : Int) ≠ 0 := by omega
  have hlt := Nat.mod_lt k hm
  have a4 : (k : Int).tmod m = ((k % m : Nat) : Int) := by rw [Int.tmod_eq_emod_of_nonneg x0]; simp
  have a5 : IntKind.i64.wrap ((k % m : Nat) : Int) = ((k % m : Nat) : Int) := wrap_ok (by omega) (by omega)
  go_wp2
  go_ret
  exact ⟨k % m, by simp, hlt, h2⟩

set_option maxHeartbeats 1000000 in
theorem l1Once_any {w0 w : World} {L : List It} {bc n : Nat} {vb : Value} (h : Cur w0 w bc vb n L) (m : Nat) (hm : 0 < m) (hm2 : m ≤ 256) :
    Calls Try.prog 18 #[.pointer (some ⟨bc, 0, none⟩), .int .i64 m] w fun e w' => ∃ b, e = .returned (.bool b) ∧ Cur w0 w' bc vb n L := by
  have HC := Lib.hid (l1Below_any h m hm hm2)
  go_enter Try.func18, Try.ntmps18
  go_wp2_with fail
  refine HC.out.mono ?_
  rintro (e : Ending) w2 ⟨x, rfl, x0, h2⟩
  clear HC
  go_wp2
  go_ret
  exact ⟨_, rfl, h2⟩

set_option maxHeartbeats 1000000 in
theorem l1PickInt_any {w0 w : World} {L : List It} {bc n : Nat} {vb : Value} {v : Value} {l : List Int} (h : Cur w0 w bc vb n L) (hl : ∀ w', Cur w0 w' bc vb n L → Ints w' v l) (hm : 0 < l.length) (hm2 : l.length ≤ 256) :
    Calls Try.prog 49 #[.pointer (some ⟨bc, 0, none⟩), v] w fun e w' => ∃ x : Nat, x < l.length ∧ e = .returned (.int .i64 (vec l x)) ∧ Cur w0 w' bc vb n L := by
  obtain ⟨A, c, rfl, -, -, -⟩ := id (hl w h)
  have HC := Lib.hid (l1Below_any h _ hm hm2)
  have HI := Lib.hid hl
  clear h hl
  go_enter Try.func49, Try.ntmps49
  go_wp2_with fail
  refine HC.out.mono ?_
  rintro (e : Ending) w2 ⟨x, rfl, x0, h2⟩
  clear HC
  obtain ⟨b, off, rfl, _, e1⟩ := (HI.out w2 h2).toB.cell x0
  have i7 : (x : Int) < l.length := by omega
  go_wp2
  go_ret
  exact ⟨x, x0, rfl, h2⟩

set_option maxHeartbeats 1000000 in
theorem l1New_any (v : Value) (n : Nat) (w : World) (hn : n ≤ 1048576) (h : BytesR w v n) :
    Calls Try.prog 16 #[v] w fun e w' => ∃ (hh : Int) (bc : Nat), e = .returned (.pointer (some ⟨bc, 0, none⟩)) ∧ St w w' [.box bc [v, .int .i64 0, .int .i64 hh], .fact fun w' => BytesR w' v n] := by
  have h0 := (St.start w).pushFact h.fact
  have Hn := Lib.hid hn
  obtain ⟨A, c, rfl, hc1, hc2, -⟩ := id h
  have e1 : IntKind.i64.wrap (124929 + (n : Int)) = 124929 + n := wrap_ok (by omega) (by omega)
  clear h
  go_enter Try.func16, Try.ntmps16
  go_wp2
  go_loopw [3, 4] (fun v3 v4 wr => ∃ (i : Nat) (h : Int), v3 = .int .i64 h ∧ v4 = .int .i64 i ∧ i ≤ n ∧ 0 ≤ h ∧ h ≤ 1073741823 ∧ St w wr [.fact fun w' => BytesR w' (.slice A n c) n]) (fun _ v4 _ => n - (intOf v4).toNat)
  case atStart => exact ⟨0, _, rfl, rfl, by omega, by omega, by omega, h0⟩
  case round =>
    clear h0
    obtain ⟨i, h, rfl, rfl, a1, a2, a3, h1⟩ := hrel
    by_cases hi : i < n
    · by_cases hj : i < 4000
      · obtain ⟨A', c', e', -, -, hb⟩ := id (h1.fact 0 rfl)
        obtain ⟨b, off, rfl, hb2⟩ := hb (by omega)
        obtain ⟨y, y0, y1, hy⟩ := hb2 i hi
        simp only [Value.slice.injEq] at e'
        obtain ⟨rfl, -, rfl⟩ := e'
        clear hb hb2
        have i1 : (i : Int) < n := by omega
        have i2 : (i : Int) < 4000 := by omega
        have s0 : IntKind.i64.wrap (h * 131) = h * 131 := wrap_ok (by omega) (by omega)
        have s1 : IntKind.i64.wrap y = y := wrap_ok (by omega) (by omega)
        have s2 : IntKind.i64.wrap (h * 131 + y) = h * 131 + y := wrap_ok (by omega) (by omega)
        have s3 : IntKind.i64.wrap (h * 131 + y + 7) = h * 131 + y + 7 := wrap_ok (by omega) (by omega)
        have s4 : bits BinOp.and IntKind.i64 (h * 131 + y + 7) 1073741823 = (h * 131 + y + 7) % 1073741824 := and30 _
        go_wp2
        go_roundw
        case rel => exact ⟨i + 1, _, rfl, by go_num, by omega, by omega, by omega, h1⟩
        case measure => simp [intOf]; omega
      · have i1 : (i : Int) < n := by omega
        have i2 : ¬ (i : Int) < 4000 := by omega
        have h2 := (h1.box [.slice A n c, .int .i64 0, .int .i64 h] 74)
        go_wp2
        go_ret
        exact ⟨_, _, rfl, h2⟩
    · have i1 : ¬ (i : Int) < n := by omega
      have h2 := (h1.box [.slice A n c, .int .i64 0, .int .i64 h] 74)
      go_wp2
      go_ret
      exact ⟨_, _, rfl, h2⟩

end Dw
end
section
open Go.RowKit
theorem Own.lit {W : World} {l : List Int} (hl : l.length ≤ maxLen) : Own (W.alloc (.cells (l.map (Value.int .i64)).toArray 3)) W.heap.size (.slice (some ⟨W.heap.size, 0, none⟩) l.length l.length) l := by
  have := World.ownsRow_lit (base := W.heap.size) (e := 3) (size := 1) W (l.map (Value.int .i64)).toArray l.length (Nat.le_refl _) hl (by simp)
  simpa [Own] using this
theorem St.lit {w0 w : World} {L : List It} (h : St w0 w L) (l : List Int) (hl : l.length ≤ maxLen) : St w0 (w.alloc (.cells (l.map (Value.int .i64)).toArray 3)) (.own (.slice (some ⟨w.heap.size, 0, none⟩) l.length l.length) l :: L) :=
  h.pushOwn ((Below.refl _ _).alloc (Nat.le_refl _) _) (Own.lit hl)
namespace Dw
theorem vecMem {l : List Int} {i : Nat} (hi : i < l.length) : vec l i ∈ l := by
  unfold Go.Proofs.Ytbnefjhljfbecaa.vec
  rw [List.getD_eq_getElem?_getD, List.getElem?_eq_getElem hi]
  exact List.getElem_mem hi
theorem Cur.st {w0 w w' : World} {bc n : Nat} {vb : Value} {L L' : List It} (h : Cur w0 w bc vb n L) (f : ∀ x y, St w0 w (x :: y :: L) → St w0 w' (x :: y :: L')) : Cur w0 w' bc vb n L' := by
  obtain ⟨i, hh, hi, h⟩ := h
  exact ⟨i, hh, hi, f _ _ h⟩
theorem Cur.push {w0 w w' : World} {bc n : Nat} {vb : Value} {L : List It} {x : It} (h : Cur w0 w bc vb n L) (f : ∀ L', St w0 w L' → St w0 w' (x :: L')) : Cur w0 w' bc vb n (x :: L) :=
  h.st fun _ _ g => ((f _ g).toFront 2 rfl).toFront 2 rfl
theorem Cur.tail {w0 w : World} {bc n : Nat} {vb : Value} {L : List It} {x : It} (h : Cur w0 w bc vb n (x :: L)) : Cur w0 w bc vb n L :=
  h.st fun _ _ g => ((g.toFront 2 rfl).drop 1)
theorem Cur.swap {w0 w : World} {bc n : Nat} {vb : Value} {L : List It} {x y : It} (h : Cur w0 w bc vb n (x :: y :: L)) : Cur w0 w bc vb n (y :: x :: L) :=
  h.st fun _ _ g => ((g.toFront 3 rfl).toFront 2 rfl).toFront 2 rfl

theorem resid_one {p x : Int} (h1 : 0 ≤ x) (h2 : x < p) : resid p [x] = true := resid_iff.2 fun i hi => by
  obtain rfl : i = 0 := by simpa using hi
  exact ⟨h1, h2⟩
theorem l12Prime_any {w0 w : World} {L : List It} {bc n : Nat} {vb : Value} (h : Cur w0 w bc vb n L) :
    Calls Try.prog 17 #[.pointer (some ⟨bc, 0, none⟩)] w fun e w' => ∃ x : Int, x ∈ [2, 3, 5, 7, 11, 101] ∧ e = .returned (.int .i64 x) ∧ Cur w0 w' bc vb n L := by
  have h1 := h.push fun _ g => g.lit [2, 3, 5, 7, 11, 101] (by decide)
  have HC := Lib.hid (l1PickInt_any h1 (fun w' g => by obtain ⟨_, _, _, g⟩ := g; exact g.ownInts 2 rfl) (by decide) (by decide))
  go_enter Try.func17, Try.ntmps17
  go_wp2_with fail
  refine HC.out.mono ?_
  rintro (e : Ending) w2 ⟨x, x0, rfl, h2⟩
  clear HC
  go_wp2
  go_ret
  exact ⟨_, vecMem x0, rfl, h2.tail⟩

set_option maxHeartbeats 1000000 in
theorem l12List_any {w0 w : World} {L : List It} {bc n : Nat} {vb : Value} (h : Cur w0 w bc vb n L) (k m : Nat) (hk : k ≤ 1600) (hm : 0 < m) (hm2 : m ≤ 256) :
    Calls Try.prog 50 #[.pointer (some ⟨bc, 0, none⟩), .int .i64 k, .int .i64 m] w fun e w' => ∃ (v : Value) (l : List Int), l.length = k ∧ resid m l = true ∧ e = .returned v ∧ Cur w0 w' bc vb n (.own v l :: L) := by
  have h1 := h.push fun _ g => g.empty
  clear h
  go_enter Try.func50, Try.ntmps50
  go_wp2
  go_loopw [7, 8, 9] (fun v7 v8 _ wr => ∃ (i : Nat) (l : List Int), v8 = .int .i64 i ∧ i ≤ k ∧ l.length = i ∧ resid m l = true ∧ Cur w0 wr bc vb n (.own v7 l :: L)) (fun _ v8 _ _ => k - (intOf v8).toNat)
  case atStart => exact ⟨0, [], rfl, by omega, rfl, rfl, h1⟩
  case round =>
    clear h1
    obtain ⟨i, l, rfl, a1, hl, hr, h1⟩ := hrel
    by_cases hi : i < k
    · have i1 : (i : Int) < k := by omega
      have Hl := Lib.hid hl
      have Hr := Lib.hid hr
      have HC := Lib.hid (l1Below_any h1 m hm hm2)
      clear hl hr
      go_wp2_with fail
      refine HC.out.mono ?_
      rintro (e : Ending) w2 ⟨x, rfl, x0, h2⟩
      have HC2 := Lib.hid (l1Once_any h2 3 (by omega) (by omega))
      clear HC h1
      go_wp2_with fail
      refine HC2.out.mono ?_
      rintro (e : Ending) w3 ⟨b, rfl, h3⟩
      clear HC2 h2
      obtain ⟨ci, ch, hci, g⟩ := h3
      obtain ⟨A9, n9, c9, rfl⟩ := (g.own 2 rfl).slice
      have Hl1 := Lib.hid (show l.length + 1 ≤ 17592186044416 by rw [Hl.out]; omega)
      cases b with
      | true =>
        go_wp2_with (at_builtin; refine wp_append_ints rfl (.tmp 21) (.tmp 23) rfl w0.heap.size _ _ l [0] rfl rfl ((g.alloc' _).own 2 rfl) Ints.one Hl1.out (g.alloc' _).size ?_; intro v1 w7 ho1 hg1 hb1; have h4 := (g.alloc' _).appended 2 rfl ho1 hg1 hb1)
        go_roundw
        case rel => exact ⟨i + 1, l ++ [0], by go_num, by omega, by rw [List.length_append, Hl.out]; rfl, resid_app Hr.out (resid_one (by omega) (by omega)), ci, ch, hci, h4⟩
        case measure => simp [intOf]; omega
      | false =>
        go_wp2_with (at_builtin; refine wp_append_ints rfl (.tmp 21) (.tmp 23) rfl w0.heap.size _ _ l [(x : Int)] rfl rfl ((g.alloc' _).own 2 rfl) Ints.one Hl1.out (g.alloc' _).size ?_; intro v1 w7 ho1 hg1 hb1; have h4 := (g.alloc' _).appended 2 rfl ho1 hg1 hb1)
        go_roundw
        case rel => exact ⟨i + 1, l ++ [(x : Int)], by go_num, by omega, by rw [List.length_append, Hl.out]; rfl, resid_app Hr.out (resid_one (by omega) (by omega)), ci, ch, hci, h4⟩
        case measure => simp [intOf]; omega
    · obtain rfl : i = k := by omega
      go_wp2
      go_ret
      exact ⟨_, l, hl, hr, rfl, h1⟩

set_option maxHeartbeats 1000000 in
theorem l12Matrix_any {w0 w : World} {L : List It} {bc n : Nat} {vb : Value} (h : Cur w0 w bc vb n L) (p r c : Nat) (hr : r ≤ 40) (hc : c ≤ 40) (hm : 0 < p) (hm2 : p ≤ 256) :
    Calls Try.prog 19 #[.pointer (some ⟨bc, 0, none⟩), .int .i64 p, .int .i64 r, .int .i64 c] w fun e w' => ∃ (v : Value) (l : List Int), l.length = r * c ∧ resid p l = true ∧ e = .returned (.agg #[.int .i64 p, .int .i64 r, .int .i64 c, v]) ∧ Cur w0 w' bc vb n (.own v l :: L) := by
  obtain ⟨k, hk⟩ : ∃ k, k = r * c := ⟨_, rfl⟩
  have hkb : k ≤ 1600 := by rw [hk]; exact Nat.mul_le_mul hr hc
  have e1 : (r : Int) * (c : Int) = (k : Int) := by rw [hk]; simp
  have w1 : IntKind.i64.wrap (k : Int) = k := wrap_ok (by omega) (by omega)
  have h1 := h.push fun _ g => g.box [.int .i64 0, .int .i64 0, .int .i64 0, .slice none 0 0] 35
  have HC := Lib.hid (l12List_any h1 k p hkb hm hm2)
  have Hk := Lib.hid hk
  clear h hk
  go_enter Try.func19, Try.ntmps19
  go_wp2_with fail
  refine HC.out.mono ?_
  rintro (e : Ending) w2 ⟨v, l, hl, hres, rfl, h2⟩
  clear HC h1
  obtain ⟨ci, ch, hci, g⟩ := h2
  obtain ⟨A9, n9, c9, rfl⟩ := (g.own 2 rfl).slice
  obtain ⟨p0, p1, p2, p3⟩ := g.box4 3 rfl
  have f0 := g.free 3 rfl 0
  have f1 := g.free 3 rfl 1
  have f2 := g.free 3 rfl 2
  have f3 := g.free 3 rfl 3
  have g5 := (((g.setBox 3 rfl 0 (.int .i64 p)).setBox 3 rfl 1 (.int .i64 r)).setBox 3 rfl 2 (.int .i64 c)).setBox 3 rfl 3 (.slice A9 n9 c9)
  obtain ⟨r0, r1, r2, r3⟩ := g5.box4 3 rfl
  clear g
  go_wp2
  refine bodyPost_ret (v := .agg #[.int .i64 p, .int .i64 r, .int .i64 c, .slice A9 n9 c9]) (by simp [results, Try.results19, go_sem, r0, r1, r2, r3]) rfl ⟨_, l, by rw [hl]; exact Hk.out, hres, rfl, ci, ch, hci, (g5.toFront 3 rfl).drop 1⟩

end Dw
end
section
open Go.RowKit
/-- A literal of two matrices whose numbers are the call's own. -/
theorem St.litMats2 {w0 w : World} {L : List It} {u1 u2 : Value} (m1 m2 : Mt) (h : St w0 w (.own u2 m2.d :: .own u1 m1.d :: L)) : St w0 (w.alloc (.cells #[.int .i64 m1.p, .int .i64 m1.r, .int .i64 m1.c, u1, .int .i64 m2.p, .int .i64 m2.r, .int .i64 m2.c, u2] 35)) (matsIt (.slice (some ⟨w.heap.size, 0, none⟩) 2 2) [u1, u2] [m1, m2] :: L) := by
  have h1 := h.push (w' := w.alloc (.cells #[.int .i64 m1.p, .int .i64 m1.r, .int .i64 m1.c, u1, .int .i64 m2.p, .int .i64 m2.r, .int .i64 m2.c, u2] 35)) (x := .vec (.slice (some ⟨w.heap.size, 0, none⟩) 2 2) 35 4 2 (matCells [u1, u2] [m1, m2]) []) ((Below.refl _ _).alloc (Nat.le_refl _) _) ⟨World.ownsRow_lit (base := w0.heap.size) (e := 35) (size := 4) w _ 2 h.size (by simp [maxLen]) rfl, fun s hs => by cases hs⟩ (fun b hb => by simp [It.fp, Value.ownBlock] at hb; omega) (by simp [It.fp, Value.ownBlock])
  have h2 := (h1.toFront 2 rfl).absorb 0 rfl
  exact (h2.toFront 1 rfl).absorb 0 rfl
namespace Dw

/-- What is drawn: matrices s x s over one prime, 1 to 9 of them. -/
def DrawnMs (p s : Nat) (ms : List Mt) : Prop := ∀ m ∈ ms, m.p = p ∧ m.r = s ∧ m.c = s ∧ m.d.length = s * s ∧ resid p m.d = true
theorem DrawnMs.snoc {p s : Nat} {ms : List Mt} {d : List Int} (h : DrawnMs p s ms) (h1 : d.length = s * s) (h2 : resid p d = true) : DrawnMs p s (ms ++ [⟨p, s, s, d⟩]) := fun m hm => by
  rcases List.mem_append.1 hm with h' | h'
  · exact h m h'
  · obtain rfl : m = _ := by simpa using h'
    exact ⟨rfl, rfl, rfl, h1, h2⟩
theorem primeN {x : Int} (h : x ∈ [2, 3, 5, 7, 11, 101]) : ∃ q : Nat, x = q ∧ 2 ≤ q ∧ q ≤ 101 ∧ isPrime (q : Int) = true := by
  simp only [List.mem_cons, List.not_mem_nil, or_false] at h
  rcases h with rfl | rfl | rfl | rfl | rfl | rfl
  · exact ⟨2, rfl, by decide, by decide, by decide⟩
  · exact ⟨3, rfl, by decide, by decide, by decide⟩
  · exact ⟨5, rfl, by decide, by decide, by decide⟩
  · exact ⟨7, rfl, by decide, by decide, by decide⟩
  · exact ⟨11, rfl, by decide, by decide, by decide⟩
  · exact ⟨101, rfl, by decide, by decide, by decide⟩


set_option maxHeartbeats 8000000 in
theorem DrawMatrixAlgebra_any (v : Value) (n : Nat) (w : World) (hn : n ≤ 1048576) (h : BytesR w v n) :
    Calls Try.prog 5 #[v] w fun e w' => ∃ (v : Value) (us : List Value) (ms : List Mt) (p s : Nat), us.length = ms.length ∧ DrawnMs p s ms ∧ 1 ≤ ms.length ∧ ms.length ≤ 9 ∧ 2 ≤ s ∧ s ≤ 3 ∧ 2 ≤ p ∧ p ≤ 101 ∧ isPrime (p : Int) = true ∧ e = .returned v ∧ St w w' [matsIt v us ms] := by
  have HN := Lib.hid (l1New_any v n w hn h)
  clear h hn
  go_enter Try.func5, Try.ntmps5
  go_wp2_with fail
  refine HN.out.mono ?_
  rintro (e : Ending) w1 ⟨hh, bc, rfl, h1⟩
  clear HN
  have h2 : Cur w w1 bc v n [] := ⟨0, hh, by omega, h1⟩
  have HP := Lib.hid (l12Prime_any h2)
  clear h1 h2
  go_wp2_with fail
  refine HP.out.mono ?_
  rintro (e : Ending) w2 ⟨x, hx, rfl, h1⟩
  clear HP
  obtain ⟨p, rfl, p2, p101, hpp⟩ := primeN hx
  have Hpp := Lib.hid hpp
  have HO := Lib.hid (l1Once_any h1 6 (by omega) (by omega))
  clear hx hpp h1
  go_wp2_with fail
  refine HO.out.mono ?_
  rintro (e : Ending) w3 ⟨b, rfl, h1⟩
  clear HO
  cases b with
  | true =>
    have HM := Lib.hid (l12Matrix_any h1 p 2 2 (by omega) (by omega) (by omega) (by omega))
    clear h1
    go_wp2_with fail
    refine HM.out.mono ?_
    rintro (e : Ending) w4 ⟨u1, d1, l1, q1, rfl, h1⟩
    clear HM
    have HM := Lib.hid (l12Matrix_any h1 p 2 2 (by omega) (by omega) (by omega) (by omega))
    clear h1
    go_wp2_with fail
    refine HM.out.mono ?_
    rintro (e : Ending) w5 ⟨u2, d2, l2, q2, rfl, h1⟩
    clear HM
    obtain ⟨ci, ch, hci, g⟩ := h1
    obtain ⟨A1, n1, c1, rfl⟩ := (g.own 3 rfl).slice
    obtain ⟨A2, n2, c2, rfl⟩ := (g.own 2 rfl).slice
    have g2 := (g.drop 2).litMats2 ⟨p, 2, 2, d1⟩ ⟨p, 2, 2, d2⟩
    have Hd := Lib.hid ((DrawnMs.snoc (p := p) (s := 2) (ms := []) (fun m hm => by cases hm) l1 q1).snoc l2 q2)
    clear l1 l2 q1 q2
    go_wp2
    go_ret
    exact ⟨_, _, _, p, 2, rfl, Hd.out, by simp, by simp, by decide, by decide, p2, p101, Hpp.out, rfl, g2⟩
  | false =>
    have HB := Lib.hid (l1Below_any h1 2 (by omega) (by omega))
    clear h1
    go_wp2_with fail
    refine HB.out.mono ?_
    rintro (e : Ending) w4 ⟨x, rfl, x0, h1⟩
    clear HB
    obtain ⟨s, hs⟩ : ∃ s, s = 2 + x := ⟨_, rfl⟩
    have e1 : 2 + (x : Int) = (s : Int) := by omega
    have e2 : IntKind.i64.wrap (s : Int) = s := wrap_ok (by omega) (by omega)
    have hs2 : 2 ≤ s := by omega
    have hs3 : s ≤ 3 := by omega
    clear hs
    have HB := Lib.hid (l1Below_any h1 3 (by omega) (by omega))
    clear h1
    go_wp2_with fail
    refine HB.out.mono ?_
    rintro (e : Ending) w5 ⟨kd, rfl, hk, h1⟩
    clear HB e1 e2
    have h2 := h1.push fun _ g => g.emptyMats
    clear h1
    have Hss := Lib.hid (Nat.mul_pos (show 0 < s by omega) (show 0 < s by omega))
    have Hss2 := Lib.hid (show s * s ≤ 9 from Nat.mul_le_mul hs3 hs3)
    go_wp2
    go_loopw [7, 8, 9, 10] (fun v7 v8 _ _ wr => ∃ (i : Nat) (us : List Value) (ms : List Mt), v8 = .int .i64 i ∧ i ≤ s ∧ us.length = ms.length ∧ ms.length ≤ i * s ∧ (1 ≤ i → 1 ≤ ms.length) ∧ DrawnMs p s ms ∧ Cur w wr bc v n [matsIt v7 us ms]) (fun _ v8 _ _ _ => s - (intOf v8).toNat)
    case atStart => exact ⟨0, [], [], rfl, by omega, rfl, by simp, by omega, (fun m hm => by cases hm), h2⟩
    case round =>
      clear h2
      obtain ⟨i, us, ms, rfl, a1, hu, hm, hne, hD, h1⟩ := hrel
      have Hu := Lib.hid hu
      have Hm := Lib.hid hm
      have Hne := Lib.hid hne
      have HD := Lib.hid hD
      clear hu hm hne hD
      by_cases hi : i < s
      · have i1 : (i : Int) < s := by omega
        go_wp2
        go_loopw [7, 9, 10] (fun v7 v9 _ wr => ∃ (j : Nat) (us : List Value) (ms : List Mt), v9 = .int .i64 j ∧ j ≤ s ∧ us.length = ms.length ∧ ms.length ≤ i * s + j ∧ (1 ≤ i ∨ 2 ≤ j → 1 ≤ ms.length) ∧ DrawnMs p s ms ∧ Cur w wr bc v n [matsIt v7 us ms]) (fun _ v9 _ _ => s - (intOf v9).toNat)
        case atStart => exact ⟨0, us, ms, rfl, by omega, Hu.out, Hm.out, (fun h => Hne.out (by omega)), HD.out, h1⟩
        case round =>
          clear h1
          clear Hu Hm Hne HD us ms
          obtain ⟨j, us, ms, rfl, a2, hu, hm, hne, hD, h1⟩ := hrel
          have Hu := Lib.hid hu
          have Hm := Lib.hid hm
          have Hne := Lib.hid hne
          have HD := Lib.hid hD
          clear hu hm hne hD
          by_cases hj : j < s
          · have j1 : (j : Int) < s := by omega
            have HZ := Lib.hid (fun W => l1Zero_any (p : Int) s s W (by have := Hss2.out; omega))
            rcases (show kd = 0 ∨ kd = 1 ∨ kd = 2 by omega) with rfl | rfl | rfl
            · go_wp2_with fail
              refine (HZ.out _).mono ?_
              rintro (e : Ending) w4 ⟨v5, rfl, ho5, hb5⟩
              have g1 := h1.push fun _ g => g.pushOwn hb5 ho5
              obtain ⟨A5, n5, c5, rfl⟩ := ho5.slice
              obtain ⟨ci, ch, hci, g⟩ := g1
              obtain ⟨b5, rfl, hn5⟩ := g.ownSomeA 2 rfl (by rw [List.length_replicate]; exact Hss.out)
              rw [List.length_replicate] at hn5
              have g5 := ((g.box [.int .i64 p, .int .i64 s, .int .i64 s, .slice (some ⟨b5, 0, none⟩) n5 c5] 35).toFront 2 rfl).toFront 2 rfl
              simp only [List.eraseIdx_cons_succ, List.eraseIdx_cons_zero] at g5
              clear ho5 hb5 h1 g
              obtain ⟨z, hz⟩ : ∃ z, z = i * s := ⟨_, rfl⟩
              obtain ⟨k, hk⟩ : ∃ k, k = z + j := ⟨_, rfl⟩
              have k1 : k < s * s := by
                have : (i + 1) * s ≤ s * s := Nat.mul_le_mul_right _ hi
                rw [Nat.succ_mul] at this
                omega
              have hk9 : k < 9 := by have := Hss2.out; omega
              have t1 : (i : Int) * (s : Int) = (z : Int) := by rw [hz]; simp
              have t2 : (z : Int) + (j : Int) = (k : Int) := by omega
              have t3 : IntKind.i64.wrap (z : Int) = z := wrap_ok (by omega) (by omega)
              have t4 : IntKind.i64.wrap (k : Int) = k := wrap_ok (by omega) (by omega)
              have t5 : (k : Int) < n5 := by omega
              have Hk1 := Lib.hid k1
              clear hz hk k1 hn5
              go_upto_region 16 with fail
              generalize World.alloc _ _ = wa at g5 ⊢
              obtain ⟨r0, r1, r2, r3⟩ := g5.box4 2 rfl
              obtain ⟨s0, f9⟩ := g5.ownCellA 3 rfl (q := k) (by rw [List.length_replicate]; exact Hk1.out)
              have g6 := g5.set 3 rfl k 1
              simp only [List.set_cons_succ, List.set_cons_zero] at g6
              obtain ⟨z0, z1, z2, z3⟩ := g6.box4 2 rfl
              have g7 := g6.toFront 3 rfl
              simp only [List.eraseIdx_cons_succ, List.eraseIdx_cons_zero] at g7
              have Hl1 := Lib.hid (show ms.length + 1 ≤ 1099511627776 by have := Hm.out; have := Nat.mul_le_mul a1 hs3; omega)
              have hres : resid p ((List.replicate (s * s) 0).set k 1) = true := resid_set (resid_zeros (by omega) _) (by omega) (by omega)
              have HD2 := Lib.hid (HD.out.snoc (d := (List.replicate (s * s) 0).set k 1) (by rw [List.length_set, List.length_replicate]) hres)
              clear hres g5 g6
              go_upto_region 17 with fail
              generalize World.setCell _ _ _ = wb at g7 z0 z1 z2 z3 ⊢
              clear r0 r1 r2 r3 s0 f9
              go_wp2_with (at_builtin; refine wp_append_mat rfl (.tmp 72) (.tmp 74) rfl ⟨p, s, s, (List.replicate (s * s) 0).set k 1⟩ g7 3 rfl Hu.out rfl rfl Hl1.out ?_; intro v1 w6 h6)
              go_roundw
              case rel =>
                (repeat apply Exists.intro)
                refine And.intro ?_ rfl
                exact ⟨j + 1, us ++ [_], ms ++ [_], by go_num, by omega, by rw [List.length_append, List.length_append, Hu.out]; rfl, by have := Hm.out; rw [List.length_append]; simp only [List.length_cons, List.length_nil]; omega, (fun _ => by rw [List.length_append]; simp only [List.length_cons, List.length_nil]; omega), HD2.out, ci, ch, hci, (h6.toFront 2 rfl).drop 1⟩
              case measure => simp [intOf]; omega
            · by_cases hij : i ≤ j
              · have ij : (j : Int) ≥ i := by omega
                go_wp2_with fail
                refine (HZ.out _).mono ?_
                rintro (e : Ending) w4 ⟨v5, rfl, ho5, hb5⟩
                have g1 := h1.push fun _ g => g.pushOwn hb5 ho5
                obtain ⟨A5, n5, c5, rfl⟩ := ho5.slice
                obtain ⟨ci, ch, hci, g⟩ := g1
                obtain ⟨b5, rfl, hn5⟩ := g.ownSomeA 2 rfl (by rw [List.length_replicate]; exact Hss.out)
                rw [List.length_replicate] at hn5
                have g5 := ((g.box [.int .i64 p, .int .i64 s, .int .i64 s, .slice (some ⟨b5, 0, none⟩) n5 c5] 35).toFront 2 rfl).toFront 2 rfl
                simp only [List.eraseIdx_cons_succ, List.eraseIdx_cons_zero] at g5
                clear ho5 hb5 h1 g
                obtain ⟨z, hz⟩ : ∃ z, z = i * s := ⟨_, rfl⟩
                obtain ⟨k, hk⟩ : ∃ k, k = z + j := ⟨_, rfl⟩
                have k1 : k < s * s := by
                  have : (i + 1) * s ≤ s * s := Nat.mul_le_mul_right _ hi
                  rw [Nat.succ_mul] at this
                  omega
                have hk9 : k < 9 := by have := Hss2.out; omega
                have t1 : (i : Int) * (s : Int) = (z : Int) := by rw [hz]; simp
                have t2 : (z : Int) + (j : Int) = (k : Int) := by omega
                have t3 : IntKind.i64.wrap (z : Int) = z := wrap_ok (by omega) (by omega)
                have t4 : IntKind.i64.wrap (k : Int) = k := wrap_ok (by omega) (by omega)
                have t5 : (k : Int) < n5 := by omega
                have Hk1 := Lib.hid k1
                clear hz hk k1 hn5
                go_upto_region 16 with fail
                generalize World.alloc _ _ = wa at g5 ⊢
                obtain ⟨r0, r1, r2, r3⟩ := g5.box4 2 rfl
                obtain ⟨s0, f9⟩ := g5.ownCellA 3 rfl (q := k) (by rw [List.length_replicate]; exact Hk1.out)
                have g6 := g5.set 3 rfl k 1
                simp only [List.set_cons_succ, List.set_cons_zero] at g6
                obtain ⟨z0, z1, z2, z3⟩ := g6.box4 2 rfl
                have g7 := g6.toFront 3 rfl
                simp only [List.eraseIdx_cons_succ, List.eraseIdx_cons_zero] at g7
                have Hl1 := Lib.hid (show ms.length + 1 ≤ 1099511627776 by have := Hm.out; have := Nat.mul_le_mul a1 hs3; omega)
                have hres : resid p ((List.replicate (s * s) 0).set k 1) = true := resid_set (resid_zeros (by omega) _) (by omega) (by omega)
                have HD2 := Lib.hid (HD.out.snoc (d := (List.replicate (s * s) 0).set k 1) (by rw [List.length_set, List.length_replicate]) hres)
                clear hres g5 g6
                go_upto_region 17 with fail
                generalize World.setCell _ _ _ = wb at g7 z0 z1 z2 z3 ⊢
                clear r0 r1 r2 r3 s0 f9
                go_wp2_with (at_builtin; refine wp_append_mat rfl (.tmp 72) (.tmp 74) rfl ⟨p, s, s, (List.replicate (s * s) 0).set k 1⟩ g7 3 rfl Hu.out rfl rfl Hl1.out ?_; intro v1 w6 h6)
                go_roundw
                case rel =>
                  (repeat apply Exists.intro)
                  refine And.intro ?_ rfl
                  exact ⟨j + 1, us ++ [_], ms ++ [_], by go_num, by omega, by rw [List.length_append, List.length_append, Hu.out]; rfl, by have := Hm.out; rw [List.length_append]; simp only [List.length_cons, List.length_nil]; omega, (fun _ => by rw [List.length_append]; simp only [List.length_cons, List.length_nil]; omega), HD2.out, ci, ch, hci, (h6.toFront 2 rfl).drop 1⟩
                case measure => simp [intOf]; omega
              · have ij : ¬ (j : Int) ≥ i := by omega
                go_wp2
                go_roundw
                case rel => exact ⟨j + 1, us, ms, by go_num, by omega, Hu.out, by have := Hm.out; omega, (fun h => Hne.out (by omega)), HD.out, h1⟩
                case measure => simp [intOf]; omega
            · by_cases hij : i < j
              · have ij : (j : Int) > i := by omega
                go_wp2_with fail
                refine (HZ.out _).mono ?_
                rintro (e : Ending) w4 ⟨v5, rfl, ho5, hb5⟩
                have g1 := h1.push fun _ g => g.pushOwn hb5 ho5
                obtain ⟨A5, n5, c5, rfl⟩ := ho5.slice
                obtain ⟨ci, ch, hci, g⟩ := g1
                obtain ⟨b5, rfl, hn5⟩ := g.ownSomeA 2 rfl (by rw [List.length_replicate]; exact Hss.out)
                rw [List.length_replicate] at hn5
                have g5 := ((g.box [.int .i64 p, .int .i64 s, .int .i64 s, .slice (some ⟨b5, 0, none⟩) n5 c5] 35).toFront 2 rfl).toFront 2 rfl
                simp only [List.eraseIdx_cons_succ, List.eraseIdx_cons_zero] at g5
                clear ho5 hb5 h1 g
                obtain ⟨z, hz⟩ : ∃ z, z = i * s := ⟨_, rfl⟩
                obtain ⟨k, hk⟩ : ∃ k, k = z + j := ⟨_, rfl⟩
                have k1 : k < s * s := by
                  have : (i + 1) * s ≤ s * s := Nat.mul_le_mul_right _ hi
                  rw [Nat.succ_mul] at this
                  omega
                have hk9 : k < 9 := by have := Hss2.out; omega
                have t1 : (i : Int) * (s : Int) = (z : Int) := by rw [hz]; simp
                have t2 : (z : Int) + (j : Int) = (k : Int) := by omega
                have t3 : IntKind.i64.wrap (z : Int) = z := wrap_ok (by omega) (by omega)
                have t4 : IntKind.i64.wrap (k : Int) = k := wrap_ok (by omega) (by omega)
                have t5 : (k : Int) < n5 := by omega
                have Hk1 := Lib.hid k1
                clear hz hk k1 hn5
                go_upto_region 16 with fail
                generalize World.alloc _ _ = wa at g5 ⊢
                obtain ⟨r0, r1, r2, r3⟩ := g5.box4 2 rfl
                obtain ⟨s0, f9⟩ := g5.ownCellA 3 rfl (q := k) (by rw [List.length_replicate]; exact Hk1.out)
                have g6 := g5.set 3 rfl k 1
                simp only [List.set_cons_succ, List.set_cons_zero] at g6
                obtain ⟨z0, z1, z2, z3⟩ := g6.box4 2 rfl
                have g7 := g6.toFront 3 rfl
                simp only [List.eraseIdx_cons_succ, List.eraseIdx_cons_zero] at g7
                have Hl1 := Lib.hid (show ms.length + 1 ≤ 1099511627776 by have := Hm.out; have := Nat.mul_le_mul a1 hs3; omega)
                have hres : resid p ((List.replicate (s * s) 0).set k 1) = true := resid_set (resid_zeros (by omega) _) (by omega) (by omega)
                have HD2 := Lib.hid (HD.out.snoc (d := (List.replicate (s * s) 0).set k 1) (by rw [List.length_set, List.length_replicate]) hres)
                clear hres g5 g6
                go_upto_region 17 with fail
                generalize World.setCell _ _ _ = wb at g7 z0 z1 z2 z3 ⊢
                clear r0 r1 r2 r3 s0 f9
                go_wp2_with (at_builtin; refine wp_append_mat rfl (.tmp 72) (.tmp 74) rfl ⟨p, s, s, (List.replicate (s * s) 0).set k 1⟩ g7 3 rfl Hu.out rfl rfl Hl1.out ?_; intro v1 w6 h6)
                go_roundw
                case rel =>
                  (repeat apply Exists.intro)
                  refine And.intro ?_ rfl
                  exact ⟨j + 1, us ++ [_], ms ++ [_], by go_num, by omega, by rw [List.length_append, List.length_append, Hu.out]; rfl, by have := Hm.out; rw [List.length_append]; simp only [List.length_cons, List.length_nil]; omega, (fun _ => by rw [List.length_append]; simp only [List.length_cons, List.length_nil]; omega), HD2.out, ci, ch, hci, (h6.toFront 2 rfl).drop 1⟩
                case measure => simp [intOf]; omega
              · have ij : ¬ (j : Int) > i := by omega
                go_wp2
                go_roundw
                case rel => exact ⟨j + 1, us, ms, by go_num, by omega, Hu.out, by have := Hm.out; omega, (fun h => Hne.out (by omega)), HD.out, h1⟩
                case measure => simp [intOf]; omega
          · obtain rfl : j = s := by omega
            go_wp2
            go_roundw
            case rel => exact ⟨i + 1, us, ms, by go_num, by omega, Hu.out, by have := Hm.out; rw [Nat.succ_mul]; omega, (fun h => Hne.out (by omega)), HD.out, h1⟩
            case measure => simp [intOf]; omega
      · obtain rfl : i = s := by omega
        obtain ⟨ci, ch, hci, g⟩ := h1
        obtain ⟨A9, c9, rfl, -, -, -⟩ := id (g.mats 2 rfl Hu.out)
        go_wp2
        go_ret
        exact ⟨_, us, ms, p, i, Hu.out, HD.out, Hne.out (by omega), by have := Hm.out; have := Hss2.out; omega, hs2, hs3, p2, p101, Hpp.out, rfl, g.drop 2⟩

end Dw
end
section
open Go.RowKit
namespace Dw
set_option maxHeartbeats 1000000 in
theorem bigL_any (v : Value) (n : Nat) (w : World) (h : BytesR w v n) :
    Calls Try.prog 4 #[v] w (RetBool w (decide (1048576 < n))) := by
  obtain ⟨A, c, rfl, h1, h2, -⟩ := id h
  by_cases hn : 1048576 < n
  · have t1 : (n : Int) > 1048576 := by omega
    rw [decide_eq_true hn]
    go_enter Try.func4, Try.ntmps4
    go_wp2
    go_ret
    exact ⟨rfl, Below.refl _ _⟩
  · have t1 : ¬ (n : Int) > 1048576 := by omega
    rw [decide_eq_false hn]
    go_enter Try.func4, Try.ntmps4
    go_wp2
    go_ret
    exact ⟨rfl, Below.refl _ _⟩
end Dw
end
end Go.Proofs.Ytbnefjhljfbecaa
