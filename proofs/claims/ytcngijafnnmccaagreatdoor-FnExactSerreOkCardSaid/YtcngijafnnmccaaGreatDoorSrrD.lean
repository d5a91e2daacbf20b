/- Relations of Serre: the memory of the double loop, shared by both walks. -/
import Derived.Test.YtcngijafnnmccaaGreatDoorSrrC
namespace Go.Proofs.YtcngijafnnmccaaGreatDoor
set_option maxRecDepth 100000
open Go.RowKit
namespace Srr
open Stp Car

/-- The brackets of the first k pairs. -/
def HH (p : Int) (n : Nat) (T : List Int) (E F : List (List Int)) (k : Nat) : List (List Int) := (List.range k).map (hF p n T E F)
theorem length_HH (p : Int) (n : Nat) (T : List Int) (E F : List (List Int)) (k : Nat) : (HH p n T E F k).length = k := by simp [HH]
theorem HH_succ (p : Int) (n : Nat) (T : List Int) (E F : List (List Int)) (k : Nat) : HH p n T E F (k + 1) = HH p n T E F k ++ [hF p n T E F k] := by
  unfold HH
  rw [List.range_succ, List.map_append]
  rfl
theorem HH_get {p : Int} {n : Nat} {T : List Int} {E F : List (List Int)} {k i : Nat} (h : i < k) : (HH p n T E F k)[i]? = some (hF p n T E F i) := by
  unfold HH
  rw [List.getElem?_map, List.getElem?_range h]
  rfl
theorem _root_.Go.Proofs.YtcngijafnnmccaaGreatDoor.St.rowAtU {w0 W : World} {L : List It} (h : St w0 W L) (k : Nat) {g n c : Nat} {us : List Value} {ll : List (List Int)} (hk : L[k]? = some (rowsIt (.slice (some ⟨g, 0, none⟩) n c) us ll)) (_hul : us.length = ll.length) (hn : n = ll.length) {i : Nat} {u : Value} {l : List Int}
    (hu : us[i]? = some u) (hl : ll[i]? = some l) : RowAt W g i l u := by
  subst hn
  obtain ⟨h1, h2⟩ := h.at k hk
  have hil := (List.getElem?_eq_some_iff.1 hl).1
  exact ⟨(World.ownsRow.cellAt h1 i (by omega)).trans hu, Own.ints (h2 (u, l) (List.mem_of_getElem? (zip_get hu hl)))⟩
structure Fx (ba gh be oe bf of_ : Nat) (p : Int) (n i j : Nat) (t d u1 u2 u3 u4 u5 u6 : Value) (T D H1 H2 X3 X4 X5 X6 : List Int) (W : World) : Prop where
  s : (W.cell? ⟨ba, 0, none⟩ = some (.int .i64 p) ∧ W.cell? ⟨ba, 1, none⟩ = some (.int .i64 n) ∧ W.cell? ⟨ba, 2, none⟩ = some t) ∧ W.cell? ⟨gh, i, none⟩ = some u1 ∧ W.cell? ⟨gh, j, none⟩ = some u2 ∧ W.cell? ⟨be, oe + i, none⟩ = some u3 ∧ W.cell? ⟨be, oe + j, none⟩ = some u4 ∧
    W.cell? ⟨bf, of_ + i, none⟩ = some u5 ∧ W.cell? ⟨bf, of_ + j, none⟩ = some u6
  t : Ints W t T
  d : Ints W d D
  hi : Ints W u1 H1
  hj : Ints W u2 H2
  ei : Ints W u3 X3
  ej : Ints W u4 X4
  fi : Ints W u5 X5
  fj : Ints W u6 X6
theorem env {w W : World} {p : Int} {n r : Nat} {T D : List Int} {E F : List (List Int)} {t d v9 : Value} {us : List Value} {bc ba : Nat} {A A' : Option Addr} {c c' : Nat}
    (g : St w W [rowsIt v9 us (HH p n T E F r), .box bc [.int .i64 r, d], .box ba [.int .i64 p, .int .i64 n, t], .ro t T, .ro d D])
    (hul : us.length = (HH p n T E F r).length) (hE : E.length = r) (hF' : F.length = r) (hv : IntRows w (.slice A r c) E) (hu : IntRows w (.slice A' r c') F) {i j : Nat} (hi : i < r) (hj : j < r)
    (hEv : ∀ i, i < r → (rowOf E i).length = n) (hFv : ∀ i, i < r → (rowOf F i).length = n) :
    ∃ gh ch A1 c1 A2 c2 be oe A3 c3 A4 c4 bf of_ A5 c5 A6 c6, v9 = .slice (some ⟨gh, 0, none⟩) r ch ∧ A = some ⟨be, oe, none⟩ ∧ A' = some ⟨bf, of_, none⟩ ∧
      Hid (∀ (W' : World) (L : List It) (k : Nat), St w W' L → L.drop k = [rowsIt v9 us (HH p n T E F r), .box bc [.int .i64 r, d], .box ba [.int .i64 p, .int .i64 n, t], .ro t T, .ro d D] →
        Fx ba gh be oe bf of_ p n i j t d (.slice A1 n c1) (.slice A2 n c2) (.slice A3 n c3) (.slice A4 n c4) (.slice A5 n c5) (.slice A6 n c6) T D (hF p n T E F i) (hF p n T E F j) (rowOf E i) (rowOf E j) (rowOf F i) (rowOf F j) W') := by
  have hl := length_HH p n T E F r
  rcases id (g.vec 0 rfl).1.2 with ⟨rfl, h0⟩ | ⟨gh, cap, cur, rfl, _, _, _, _, _⟩
  · omega
  rw [hl]
  have hiE : i < E.length := by omega
  have hjE : j < E.length := by omega
  have hiF : i < F.length := by omega
  have hjF : j < F.length := by omega
  obtain ⟨be, oe, A3, c3, rfl, m3⟩ := hv.at (i := i) hiE
  obtain ⟨b1, o1, A4, c4, hA, m4⟩ := hv.at (i := j) hjE
  simp only [Option.some.injEq, Addr.mk.injEq, and_true] at hA
  obtain ⟨rfl, rfl⟩ := hA
  obtain ⟨bf, of_, A5, c5, rfl, m5⟩ := hu.at (i := i) hiF
  obtain ⟨b1, o1, A6, c6, hA, m6⟩ := hu.at (i := j) hjF
  simp only [Option.some.injEq, Addr.mk.injEq, and_true] at hA
  obtain ⟨rfl, rfl⟩ := hA
  rw [rowOf_eq hiE, hEv i hi] at m3
  rw [rowOf_eq hjE, hEv j hj] at m4
  rw [rowOf_eq hiF, hFv i hi] at m5
  rw [rowOf_eq hjF, hFv j hj] at m6
  obtain ⟨u1, hu1⟩ : ∃ u, us[i]? = some u := ⟨us[i]'(by omega), List.getElem?_eq_getElem _⟩
  obtain ⟨u2, hu2⟩ : ∃ u, us[j]? = some u := ⟨us[j]'(by omega), List.getElem?_eq_getElem _⟩
  have r1 := g.rowAtU 0 rfl hul rfl hu1 (HH_get hi)
  have r2 := g.rowAtU 0 rfl hul rfl hu2 (HH_get hj)
  obtain ⟨A1, c1, rfl, _⟩ := id r1.2
  obtain ⟨A2, c2, rfl, _⟩ := id r2.2
  rw [show (hF p n T E F i).length = n from length_braL _ _ _ _ _] at hu1
  rw [show (hF p n T E F j).length = n from length_braL _ _ _ _ _] at hu2
  refine ⟨gh, cap, A1, c1, A2, c2, be, oe, A3, c3, A4, c4, bf, of_, A5, c5, A6, c6, rfl, rfl, rfl, fun W' L k h hk => ?_⟩
  have h9 := h.drop k
  rw [hk] at h9
  have q1 := h9.rowAtU 0 rfl hul hl.symm hu1 (HH_get hi)
  have q2 := h9.rowAtU 0 rfl hul hl.symm hu2 (HH_get hj)
  have q3 := m3.fact W' (fun b hb => h9.below.block b hb)
  have q4 := m4.fact W' (fun b hb => h9.below.block b hb)
  have q5 := m5.fact W' (fun b hb => h9.below.block b hb)
  have q6 := m6.fact W' (fun b hb => h9.below.block b hb)
  exact ⟨⟨h9.box3 2 rfl, q1.1, q2.1, q3.1, q4.1, q5.1, q6.1⟩, h9.roInts 3 rfl, h9.roInts 4 rfl, q1.2, q2.2, q3.2, q4.2, q5.2, q6.2⟩

end Srr
end Go.Proofs.YtcngijafnnmccaaGreatDoor
