/- SpaceOk of the program and of the reference. SpaceOk of the program. Subspaces of an algebra; ProductSpace of both programs. -/
import Derived.Test.YtbnefjhljfbecaaSpaceA
import Derived.Test.YtbnefjhljfbecaaRowsW2
import Derived.Test.YtbnefjhljfbecaaRegX
namespace Go.Proofs.Ytbnefjhljfbecaa
set_option maxRecDepth 100000
section
open Go.RowKit

def spaceOk (p r c : Int) (D : List Int) : Bool := matOk p r c D && decide (spanM p c.toNat (rowsM r.toNat c.toNat D) = D ∧ (spanL p c.toNat (rowsM r.toNat c.toNat D)).length = r.toNat)

end
section
open Go.RowKit

end
section
open Go.RowKit

def subOk (p n : Int) (T : List Int) (q r c : Int) (D : List Int) : Bool := algOk p n T && spaceOk q r c D && decide (q = p) && decide (c = n)
theorem subOk_spec {p n q r c : Int} {T D : List Int} (h : subOk p n T q r c D = true) : algOk p n T = true ∧ spaceOk q r c D = true ∧ q = p ∧ c = n := by
  simp only [subOk, Bool.and_eq_true, decide_eq_true_eq] at h
  exact ⟨h.1.1.1, h.1.1.2, h.1.2, h.2⟩
theorem spaceOk_mat {p r c : Int} {D : List Int} (h : spaceOk p r c D = true) : matOk p r c D = true := by
  simp only [spaceOk, Bool.and_eq_true] at h
  exact h.1

/-- What a function leaves that returns a matrix and a Bool. -/
def RetMatB (w : World) (a0 a1 a2 : Int) (l : List Int) (b : Bool) (e : Ending) (w' : World) : Prop := ∃ u, e = .returned (.tuple #[.agg #[.int .i64 a0, .int .i64 a1, .int .i64 a2, u], .bool b]) ∧ Own w' w.heap.size u l ∧ Below w.heap.size w w'

def psOk (p n : Int) (T : List Int) (q1 r1 c1 : Int) (S : List Int) (q2 r2 c2 : Int) (U : List Int) : Bool := subOk p n T q1 r1 c1 S && subOk p n T q2 r2 c2 U
def psL (p n : Int) (T : List Int) (r1 : Int) (S : List Int) (r2 : Int) (U : List Int) : List (List Int) := spanL p n.toNat (prodL T n.toNat p r1.toNat S r2.toNat U)
def psP (p n : Int) (T : List Int) (q1 r1 c1 : Int) (S : List Int) (q2 r2 c2 : Int) (U : List Int) : Int := if psOk p n T q1 r1 c1 S q2 r2 c2 U then p else 0
def psR (p n : Int) (T : List Int) (q1 r1 c1 : Int) (S : List Int) (q2 r2 c2 : Int) (U : List Int) : Int := if psOk p n T q1 r1 c1 S q2 r2 c2 U then (psL p n T r1 S r2 U).length else 0
def psC (p n : Int) (T : List Int) (q1 r1 c1 : Int) (S : List Int) (q2 r2 c2 : Int) (U : List Int) : Int := if psOk p n T q1 r1 c1 S q2 r2 c2 U then n else 0
def psD (p n : Int) (T : List Int) (q1 r1 c1 : Int) (S : List Int) (q2 r2 c2 : Int) (U : List Int) : List Int := if psOk p n T q1 r1 c1 S q2 r2 c2 U then flat n.toNat (psL p n T r1 S r2 U) else []
theorem spanL_le_n {p : Int} (hP : isPrime p = true) {n : Nat} {R : List (List Int)} (h : Wf p n R) : (spanL p n R).length ≤ n := by
  have hr := spanL_rf hP h
  rw [hr.len]
  rcases Nat.eq_zero_or_pos (pivL p n R).length with h0 | h0
  · omega
  · have hm : ∀ i, i < (pivL p n R).length → i ≤ pv (pivL p n R) i := by
      intro i
      induction i with
      | zero => intro _; omega
      | succ i ih => intro hi; have := ih (by omega); have := hr.mono i (i + 1) (by omega) hi; omega
    have h1 := hm ((pivL p n R).length - 1) (by omega)
    have h2 := hr.lt ((pivL p n R).length - 1) (by omega)
    omega
theorem psD_bd (p n : Int) (T : List Int) (q1 r1 c1 : Int) (S : List Int) (q2 r2 c2 : Int) (U : List Int) : (psD p n T q1 r1 c1 S q2 r2 c2 U).length ≤ 784 := by
  unfold psD
  split
  · rename_i h
    simp only [psOk, Bool.and_eq_true] at h
    obtain ⟨h1, _, _, _⟩ := subOk_spec h.1
    obtain ⟨m, rfl, hm, _, _, h2, _, hP⟩ := algOk_spec h1
    rw [length_flat, Int.toNat_natCast]
    exact mul_le (Nat.le_trans (spanL_le_n hP (Wf_prodTo h2 _ _ _ _ _)) hm) hm
  · simp


end
end Go.Proofs.Ytbnefjhljfbecaa
