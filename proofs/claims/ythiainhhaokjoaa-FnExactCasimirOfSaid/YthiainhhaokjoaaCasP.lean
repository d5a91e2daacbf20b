/- CasimirOf: what the two programs compute, as plain lists. -/
import Derived.Test.YthiainhhaokjoaaModS
import Derived.Test.YthiainhhaokjoaaModA
import Derived.Test.YthiainhhaokjoaaKfS
import Derived.Test.YthiainhhaokjoaaAut
namespace Go.Proofs.Ythiainhhaokjoaa
set_option maxRecDepth 100000
open Go.RowKit

/-- The first q summands. -/
def casTo (p : Int) (s n : Nat) (Ms : List (List Int)) (Kd : List Int) : Nat → List Int
  | 0 => List.replicate (s * s) 0
  | q + 1 => if Go.Proofs.Ythiainhhaokjoaa.vec Kd q = 0 then casTo p s n Ms Kd q else addL (casTo p s n Ms Kd q) (Go.Proofs.Ythiainhhaokjoaa.vec Kd q) (mulD p s s s (rowOf Ms (q / n)) (rowOf Ms (q % n))) p
theorem casTo_ok {p : Int} (hp : 2 ≤ p) (s n : Nat) (Ms : List (List Int)) (Kd : List Int) : ∀ q, (casTo p s n Ms Kd q).length = s * s ∧ resid p (casTo p s n Ms Kd q) = true
  | 0 => ⟨by simp [casTo], resid_zeros hp _⟩
  | q + 1 => by
    obtain ⟨h1, h2⟩ := casTo_ok hp s n Ms Kd q
    rw [casTo]
    split
    · exact ⟨h1, h2⟩
    · exact ⟨by rw [length_addL _ _ _ _ (by rw [length_mulD, h1]), h1], resid_addL _ _ _ _ (by omega)⟩
theorem casTo_at {p : Int} {s n : Nat} {Ms : List (List Int)} {Kd : List Int} {i j : Nat} (hj : j < n) (h : Go.Proofs.Ythiainhhaokjoaa.vec Kd (i * n + j) ≠ 0) : casTo p s n Ms Kd (i * n + j + 1) = addL (casTo p s n Ms Kd (i * n + j)) (Go.Proofs.Ythiainhhaokjoaa.vec Kd (i * n + j)) (mulD p s s s (rowOf Ms i) (rowOf Ms j)) p := by
  rw [casTo, if_neg h, (div_mod_at hj).1, (div_mod_at hj).2]
theorem casTo_no {p : Int} {s n : Nat} {Ms : List (List Int)} {Kd : List Int} {q : Nat} (h : Go.Proofs.Ythiainhhaokjoaa.vec Kd q = 0) : casTo p s n Ms Kd (q + 1) = casTo p s n Ms Kd q := by
  rw [casTo, if_pos h]
/-- The inverse of the killing form. -/
def casK (p : Int) (n : Nat) (T : List Int) : List Int := flat n (invTo p n (rowsM n n (kfD p n T)) n)
def casOk (p n : Int) (T : List Int) (ms : List Mt) : Bool := isMod p n T ms && decide (rankL p n.toNat (rowsM n.toNat n.toNat (kfD p n.toNat T)) = n.toNat)
def casP (p n : Int) (T : List Int) (ms : List Mt) : Int := if casOk p n T ms then p else 0
def casR (p n : Int) (T : List Int) (ms : List Mt) : Int := if casOk p n T ms then (mAt ms 0).r else 0
def casL (p : Int) (n : Nat) (T : List Int) (ms : List Mt) : List Int := casTo p (mAt ms 0).r.toNat n (ms.map Mt.d) (casK p n T) (n * n)
def casD (p n : Int) (T : List Int) (ms : List Mt) : List Int := if casOk p n T ms then casL p n.toNat T ms else []
theorem casD_bd (p n : Int) (T : List Int) (ms : List Mt) : (casD p n T ms).length ≤ 900 := by
  unfold casD
  split
  · rename_i h
    rw [casOk, Bool.and_eq_true] at h
    obtain ⟨N, s, _, _, _, hs, hs30, hA, _⟩ := isMod_all h.1
    obtain ⟨_, _, _, _, _, _, _, hP⟩ := algOk_spec hA
    rw [casL, hs, Int.toNat_natCast, (casTo_ok (isPrime_bd hP).1 _ _ _ _ _).1]
    exact mul_le hs30 hs30
  · simp
theorem casK_ok {p : Int} (hP : isPrime p = true) {n : Nat} {T : List Int} (h : rankL p n (rowsM n n (kfD p n T)) = n) : (casK p n T).length = n * n ∧ resid p (casK p n T) = true := by
  have hp := (isPrime_bd hP).1
  have hw := Wf_invTo hP (Wf_rowsM (r := n) (by omega : 0 < p) (kfD_resid hp n T)) (length_rowsM n n _) h n
  exact ⟨by rw [casK, length_flat, length_invTo], resid_flat (by omega) hw⟩
theorem mds_row {ms : List Mt} {i : Nat} (h : i < ms.length) : rowOf (ms.map Mt.d) i = (mAt ms i).d := by simp [rowOf, mAt, List.getD_eq_getElem?_getD, h]
end Go.Proofs.Ythiainhhaokjoaa
