/- MapsBetween, as plain lists: the answer. -/
import Derived.Test.YtcdbgcpccmcbeaaMapsP
import Derived.Test.YtcdbgcpccmcbeaaModA
namespace Go.Proofs.Ytcdbgcpccmcbeaa
set_option maxRecDepth 100000
open Go.RowKit

def mbOk (p n : Int) (T : List Int) (ms ns : List Mt) : Bool := isMod p n T ms && (isMod p n T ns && decide ((mAt ms 0).r * (mAt ns 0).r ≤ 64))
def mbL (p n : Int) (T : List Int) (ms ns : List Mt) : List (List Int) := if mbOk p n T ms ns then mbK p (mAt ms 0).r.toNat (mAt ns 0).r.toNat (ms.map Mt.d) (ns.map Mt.d) ms.length else []
theorem rowOf_ds {ms : List Mt} {i : Nat} (h : i < ms.length) : rowOf (ms.map Mt.d) i = (mAt ms i).d := by simp [rowOf, mAt, List.getD_eq_getElem?_getD, h]
theorem RetLL.nil {w w' : World} (h : Below w.heap.size w w') : RetLL w [] (.returned (.slice none 0 0)) w' :=
  ⟨_, [], rfl, rfl, vec_nil, by simp [rowsIt, It.fp, Value.ownBlock], h⟩
theorem mb_total {p : Int} {n : Nat} : ∀ ll : List (List Int), (∀ l, l ∈ ll → l.length = n) → total ll = ll.length * n
  | [], _ => by simp [total]
  | l :: ll, h => by
    rw [total, h l (by simp), mb_total (p := p) ll fun x hx => h x (by simp [hx]), List.length_cons, Nat.add_mul]; omega
theorem mbL_bd (p n : Int) (T : List Int) (ms ns : List Mt) : total (mbL p n T ms ns) ≤ 4096 ∧ (mbL p n T ms ns).length ≤ 64 := by
  by_cases h : mbOk p n T ms ns = true
  · rw [mbL, if_pos h]
    simp only [mbOk, Bool.and_eq_true, decide_eq_true_eq] at h
    obtain ⟨h1, h2, h3⟩ := h
    obtain ⟨N, s, rfl, hl, hN0, hs, hs30, hA, hM⟩ := isMod_all h1
    obtain ⟨N2, t, _, _, _, ht, ht30, _, _⟩ := isMod_all h2
    obtain ⟨N', e, _, _, _, b1, _, hP⟩ := algOk_spec hA
    rw [hs, ht, ← Int.natCast_mul] at h3
    rw [hs, ht, Int.toNat_natCast, Int.toNat_natCast]
    have hst : s * t ≤ 64 := by omega
    obtain ⟨a, hr⟩ := kerL_rf hP (s * t) (mbE p s t (ms.map Mt.d) (ns.map Mt.d) ms.length)
    have h5 := rf_le_n b1 hr
    have h6 : ∀ l, l ∈ mbK p s t (ms.map Mt.d) (ns.map Mt.d) ms.length → l.length = s * t := fun l hl => (Wf_iff_mem.1 hr.wf l hl).1
    have h7 := mb_total (p := p) _ h6
    have h8 : (mbK p s t (ms.map Mt.d) (ns.map Mt.d) ms.length).length ≤ s * t := h5
    refine ⟨?_, by omega⟩
    rw [h7]
    have := Nat.mul_le_mul (show (mbK p s t (ms.map Mt.d) (ns.map Mt.d) ms.length).length ≤ 64 by omega) hst
    omega
  · rw [mbL, if_neg h]; simp [total]
end Go.Proofs.Ytcdbgcpccmcbeaa
