/- l3Derives of the reference. IsDerivation of the program and of the reference. -/
import Derived.Test.YtbnefjhljfbecaaRowsJ
import Derived.Test.YtbnefjhljfbecaaMatO
import Derived.Test.YtbnefjhljfbecaaAdjA
namespace Go.Proofs.Ytbnefjhljfbecaa
set_option maxRecDepth 100000
section
open Go.RowKit

def derAt (T : List Int) (n : Nat) (p : Int) (D : List Int) (i j : Nat) : Bool :=
  decide (combL (rowT T n i j) (rowsM n n D) n p = plusL p (braL T (rowM n D i) (unitL n j) n p) (braL T (unitL n i) (rowM n D j) n p))
def derOk (T : List Int) (n : Nat) (p : Int) (D : List Int) : Bool := allF (fun i => allF (derAt T n p D i) i 0) n 0
theorem allF_step {f : Nat → Bool} {m i : Nat} (h : i < m) : allF f (m - i) i = (f i && allF f (m - (i + 1)) (i + 1)) := by
  rw [show m - i = (m - (i + 1)) + 1 from by omega, allF]

end
section
open Go.RowKit

theorem formOk_spec {p n q r c : Int} {D : List Int} (h : formOk p n q r c D = true) : q = p ∧ r = n ∧ c = n ∧ matOk q r c D = true := by
  simp only [formOk, Bool.and_eq_true, decide_eq_true_eq] at h
  exact ⟨h.2.1, h.2.2.1, h.2.2.2, h.1⟩
def isDer (p n : Int) (T : List Int) (q r c : Int) (D : List Int) : Bool := algOk p n T && (formOk p n q r c D && derOk T n.toNat p D)

/-- addTo between two slices of the call's own. -/
theorem addTo_st {w0 w : World} {L : List It} (h : St w0 w L) (i j : Nat) {v u : Value} {l ys : List Int} (hi : L[i]? = some (.own v l)) (hj : L[j]? = some (.own u ys)) (hij : i ≠ j) (k p : Int) (hlen : ys.length = l.length) (hln : l.length ≤ 1099511627776)
    (hp : 2 ≤ p) (hp' : p ≤ 10007) (hk : 0 ≤ k) (hk' : k ≤ p) (hl : resid p l = true) (hy : resid p ys = true) :
    Calls Try.prog 39 #[v, .int .i64 k, u, .int .i64 p] w fun e w' => e = .returned (.tuple #[]) ∧ St w0 w' (L.set i (.own v (addL l k ys p))) :=
  (addTo_any v u l ys k p w0.heap.size w (h.own i hi) (h.ownInts j hj) (fun _ g hg e => h.ne i j hi hj hij (b := g) (by simp [It.fp, hg]) (by simp [It.fp, e])) hlen hln hp hp' hk hk' hl hy).mono fun _ _ ⟨he, ho, hg⟩ => ⟨he, h.wrote i hi ho hg⟩
theorem St.vecSome {w0 w : World} {L : List It} (h : St w0 w L) (i : Nat) {A : Option Addr} {n c e sz n' : Nat} {cs : List Value} {subs : List (Value × List Int)} (hi : L[i]? = some (.vec (.slice A n c) e sz n' cs subs)) (hn : 0 < n') : ∃ g, A = some ⟨g, 0, none⟩ := by
  rcases (h.vec i hi).1.2 with ⟨_, h0⟩ | ⟨g, cap, cur, hv, _⟩
  · omega
  · simp only [Value.slice.injEq] at hv
    exact ⟨g, hv.1⟩
theorem due_eq (T X Y X' Y' : List Int) (n : Nat) (p : Int) : addL (braL T X Y n p) 1 (braL T X' Y' n p) p = plusL p (braL T X Y n p) (braL T X' Y' n p) := by
  unfold braL; rw [plusL_tab]
/-- A row of rows of the call's own. -/
theorem St.row {w0 w : World} {L : List It} (h : St w0 w L) (i : Nat) {g n c : Nat} {us : List Value} {ll : List (List Int)} (hi : L[i]? = some (rowsIt (.slice (some ⟨g, 0, none⟩) n c) us ll)) (hul : us.length = ll.length) (hn : n = ll.length) {k : Nat} (hk : k < ll.length) :
    ∃ A' c', us[k]? = some (.slice A' (rowOf ll k).length c') ∧ w.cell? ⟨g, k, none⟩ = some (.slice A' (rowOf ll k).length c') ∧ Ints w (.slice A' (rowOf ll k).length c') (rowOf ll k) := by
  subst hn
  have hu : us[k]? = some (us[k]'(by omega)) := List.getElem?_eq_getElem _
  have ho := h.sub i hi k (zip_get hu (rowOf_get hk))
  obtain ⟨A', c', he, _⟩ := ho.ints
  rw [he] at hu
  exact ⟨A', c', hu, h.vecCell i hi k hu, by rw [← he]; exact ho.ints⟩
theorem St.rowAt {w0 w : World} {L : List It} (h : St w0 w L) (i : Nat) {g n c : Nat} {us : List Value} {ll : List (List Int)} (hi : L[i]? = some (rowsIt (.slice (some ⟨g, 0, none⟩) n c) us ll)) (hn : n = ll.length) {k : Nat} {u : Value} (hu : us[k]? = some u) (hk : k < ll.length) :
    w.cell? ⟨g, k, none⟩ = some u ∧ Ints w u (rowOf ll k) := by
  subst hn
  exact ⟨h.vecCell i hi k hu, (h.sub i hi k (zip_get hu (rowOf_get hk))).ints⟩

end
end Go.Proofs.Ytbnefjhljfbecaa
