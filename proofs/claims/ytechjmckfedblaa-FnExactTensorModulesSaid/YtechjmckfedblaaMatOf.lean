/- MatrixOf of both programs. -/
import Derived.Test.YtechjmckfedblaaModI
import Derived.Test.YtechjmckfedblaaBrOf
namespace Go.Proofs.Ytechjmckfedblaa
set_option maxRecDepth 100000
open Go.RowKit

theorem isMod_spec {p n : Int} {T : List Int} {ms : List Mt} (h : isMod p n T ms = true) : ∃ (N s : Nat) (m0 : Mt) (l : List Mt), n = N ∧ ms = m0 :: l ∧ (m0 :: l).length = N ∧ m0.r = s ∧ s ≤ 30 ∧ algOk p N T = true ∧
    ∀ i (h : i < (m0 :: l).length), ((m0 :: l)[i]).p = p ∧ ((m0 :: l)[i]).r = s ∧ ((m0 :: l)[i]).c = s ∧ ((m0 :: l)[i]).d.length = s * s ∧ resid p ((m0 :: l)[i]).d = true := by
  simp only [isMod, Bool.and_eq_true] at h
  obtain ⟨h1, h2, _⟩ := h
  simp only [modHead, Bool.and_eq_true, decide_eq_true_eq] at h1
  obtain ⟨h3, h4, h5⟩ := h1
  obtain ⟨N, rfl, _⟩ := algOk_spec h3
  have hl : ms.length = N := by omega
  have hN : 0 < N := by omega
  rw [modMats, Int.toNat_natCast, allF_iff] at h2
  obtain ⟨m0, l, rfl⟩ : ∃ a l, ms = a :: l := by cases ms with | nil => simp at hl; omega | cons a l => exact ⟨a, l, rfl⟩
  obtain ⟨s, g1, g2, g3⟩ := mats_spec (s := (mAt (m0 :: l) 0).r) hl hN (fun k hk => h2 k (Nat.zero_le _) (by omega))
  exact ⟨N, s, m0, l, rfl, rfl, hl, g1, g2, h3, g3⟩
/-- What a function leaves that returns a matrix and a Bool. -/
def RetMB (w : World) (a0 a1 a2 : Int) (l : List Int) (b : Bool) (e : Ending) (w' : World) : Prop := ∃ u, e = .returned (.tuple #[.agg #[.int .i64 a0, .int .i64 a1, .int .i64 a2, u], .bool b]) ∧ Own w' w.heap.size u l ∧ Below w.heap.size w w'
def moOk (p n : Int) (T : List Int) (ms : List Mt) (X : List Int) : Bool := isMod p n T ms && vecOk p n X
def moP (p n : Int) (T : List Int) (ms : List Mt) (X : List Int) : Int := if moOk p n T ms X then p else 0
def moR (p n : Int) (T : List Int) (ms : List Mt) (X : List Int) : Int := if moOk p n T ms X then (mAt ms 0).r else 0
def moD (p n : Int) (T : List Int) (ms : List Mt) (X : List Int) : List Int := if moOk p n T ms X then sumMTo p ((mAt ms 0).r.toNat * (mAt ms 0).r.toNat) X (ms.map Mt.d) n.toNat else []
theorem moD_bd (p n : Int) (T : List Int) (ms : List Mt) (X : List Int) : (moD p n T ms X).length ≤ 900 := by
  unfold moD
  split
  · rename_i h
    simp only [moOk, Bool.and_eq_true] at h
    obtain ⟨N, s, m0, l, rfl, rfl, hl, h1, h2, h3, h4⟩ := isMod_spec h.1
    obtain ⟨_, _, _, _, _, h5, _⟩ := algOk_spec h3
    show (sumMTo p (m0.r.toNat * m0.r.toNat) X _ _).length ≤ 900
    rw [h1, Int.toNat_natCast, Int.toNat_natCast]
    have := (sumMTo_ok (p := p) h5 (n := s * s) (K := X) (Ms := (m0 :: l).map Mt.d) (fun q hq => by rw [← rowOf_eq hq, List.getElem_map]; exact (h4 q (by simpa using hq)).2.2.2.1) N (by rw [List.length_map, hl]; exact Nat.le_refl _)).1
    rw [this]
    exact mul_le h2 h2
  · simp

end Go.Proofs.Ytechjmckfedblaa
