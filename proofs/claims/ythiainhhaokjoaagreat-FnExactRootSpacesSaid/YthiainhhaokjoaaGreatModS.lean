/- IsModule of both programs: what is tested; the reference. -/
import Derived.Test.YthiainhhaokjoaaGreatMul
import Derived.Test.YthiainhhaokjoaaGreatSubSp
import Derived.Test.YthiainhhaokjoaaGreatHom
namespace Go.Proofs.YthiainhhaokjoaaGreat
set_option maxRecDepth 100000
open Go.RowKit

def mAt (ms : List Mt) (i : Nat) : Mt := ms.getD i ⟨0, 0, 0, []⟩
theorem len_rowT (T : List Int) (n i j : Nat) : (rowT T n i j).length = n := length_tab _ _
theorem mAt_get {ms : List Mt} {i : Nat} (h : i < ms.length) : ms[i] = mAt ms i := by simp [mAt, List.getD_eq_getElem?_getD, h]
/-- One matrix of a module of size s. -/
def mtOk (p s : Int) (m : Mt) : Bool := matOk m.p m.r m.c m.d && decide (m.p = p ∧ m.r = s ∧ m.c = s ∧ s ≤ 30)
/-- One bracket. -/
def comAt (p : Int) (s n : Nat) (T : List Int) (ms : List Mt) (i j : Nat) : Bool := decide (sumMTo p (s * s) (rowT T n i j) (ms.map Mt.d) n = comD p s (mAt ms j).d (mAt ms i).d)
def modHead (p n : Int) (T : List Int) (ms : List Mt) : Bool := algOk p n T && decide (n ≠ 0 ∧ (ms.length : Int) = n)
def modMats (p n : Int) (ms : List Mt) : Bool := allF (fun i => mtOk p (mAt ms 0).r (mAt ms i)) n.toNat 0
def modComs (p n : Int) (T : List Int) (ms : List Mt) : Bool := allF (fun i => allF (comAt p (mAt ms 0).r.toNat n.toNat T ms i) i 0) n.toNat 0
def isMod (p n : Int) (T : List Int) (ms : List Mt) : Bool := modHead p n T ms && (modMats p n ms && modComs p n T ms)
theorem mtOk_spec {p s : Int} {m : Mt} (h : mtOk p s m = true) : ∃ a : Nat, s = a ∧ a ≤ 30 ∧ m.p = p ∧ m.r = a ∧ m.c = a ∧ m.d.length = a * a ∧ resid p m.d = true ∧ isPrime p = true := by
  simp only [mtOk, Bool.and_eq_true, decide_eq_true_eq] at h
  obtain ⟨h1, rfl, h2, h3, h4⟩ := h
  obtain ⟨a, b, h5, h6, _, _, h7, h8, _, _, h9⟩ := matOk_spec h1
  have e : b = a := by omega
  subst e
  exact ⟨b, by omega, by omega, rfl, h5, h6, h7, h8, h9⟩
/-- What the walks of the brackets want of the matrices. -/
theorem mats_spec {p s : Int} {N : Nat} {ms : List Mt} (hl : ms.length = N) (hN : 0 < N) (h : ∀ k, k < N → mtOk p s (mAt ms k) = true) : ∃ a : Nat, s = a ∧ a ≤ 30 ∧ ∀ i (h : i < ms.length), (ms[i]).p = p ∧ (ms[i]).r = a ∧ (ms[i]).c = a ∧ (ms[i]).d.length = a * a ∧ resid p (ms[i]).d = true := by
  obtain ⟨a, h0, h1, _⟩ := mtOk_spec (h 0 hN)
  refine ⟨a, h0, h1, fun i hi => ?_⟩
  rw [mAt_get hi]
  obtain ⟨b, g0, g1, g2, g3, g4, g5, g6, _⟩ := mtOk_spec (h i (by omega))
  have e : b = a := by omega
  subst e
  exact ⟨g2, g3, g4, g5, g6⟩
theorem pushMt {w0 w : World} {L : List It} (h : St w0 w L) {b off i : Nat} {A : Option Addr} {c : Nat} {m : Mt} (hm : MtAt w0 b (off + i * 4) m (.slice A m.d.length c)) :
    St w0 w (.fact (fun w' => w'.cell? ⟨b, off + i * 4, none⟩ = some (.int .i64 m.p) ∧ w'.cell? ⟨b, off + i * 4 + 1, none⟩ = some (.int .i64 m.r) ∧ w'.cell? ⟨b, off + i * 4 + 2, none⟩ = some (.int .i64 m.c) ∧ w'.cell? ⟨b, off + i * 4 + 3, none⟩ = some (.slice A m.d.length c)) :: L) := by
  refine h.pushOld fun w' hk => ?_
  obtain ⟨k0, k1, k2, k3, _⟩ := hm
  have kk : ∀ {o : Nat} {x : Value}, w0.cell? ⟨b, o, none⟩ = some x → w'.cell? ⟨b, o, none⟩ = some x := fun h => (World.cell?_of_block (hk _ (World.block_lt_of_cell? w0 _ h))).trans h
  exact ⟨kk k0, kk k1, kk k2, kk k3⟩

end Go.Proofs.YthiainhhaokjoaaGreat
