/- BracketOf of the program and of the reference. adjoint of the program, l2Adjoint and l1Rows of the reference, AdjointModule of both. l2Adjoint of the reference, AdjointModule of both. ZeroModule of the program and of the reference. -/
import Derived.Test.YtbnefjhljfbecaaAlgA
import Derived.Test.YtbnefjhljfbecaaStB
import Derived.Test.YtbnefjhljfbecaaMatO
import Derived.Test.YtbnefjhljfbecaaLawM
import Derived.Test.YtbnefjhljfbecaaRowsJ
import Derived.Test.YtbnefjhljfbecaaSmall0
import Derived.Deep.RegionHeld3
namespace Go.Proofs.Ytbnefjhljfbecaa
set_option maxRecDepth 100000
section
open Go.RowKit

theorem isElement_any (p n : Int) (t v : Value) (A : Option Addr) (l c : Nat) (X : List Int) (w : World) (ht : t = .slice A l c) (hv : Ints w v X) (hp : 0 ≤ p) (hp' : p ≤ 9223372036854775807) :
    Calls Try.prog 42 #[.agg #[.int .i64 p, .int .i64 n, t], v] w (RetBool w (vecOk p n X)) := by
  subst ht
  have hb : Below w.heap.size w (w.alloc (.cells #[.int .i64 p, .int .i64 n, .slice A l c] 28)) := (Below.refl _ _).alloc (Nat.le_refl _) _
  have hv1 := hv.below hb
  obtain ⟨x0, x1, x2⟩ := Box3.new w 28 (.int .i64 p) (.int .i64 n) (.slice A l c)
  obtain ⟨A2, c2, rfl, _, _, _⟩ := id hv
  by_cases h : (X.length : Int) = n
  · have t1 : ((X.length : Int) == n) = true := by simp [h]
    have hR : vecOk p n X = resid p X := by simp [vecOk, h]
    have HR := Lib.hid hR
    clear h hR
    go_enter Try.func42, Try.ntmps42
    go_wp2_with (go_at_call 35; refine (residues_any _ X p _ hp hp' hv1).mono ?_; rintro e w' ⟨rfl, hb2⟩)
    go_ret
    exact ⟨ret_bool HR.out.symm, hb.trans (hb2.mono (by simp))⟩
  · have t1 : ((X.length : Int) == n) = false := by simp [h]
    have hR : vecOk p n X = false := by simp [vecOk, h]
    have HR := Lib.hid hR
    clear h hR
    go_enter Try.func42, Try.ntmps42
    go_wp2_with (fail)
    go_ret
    exact ⟨ret_bool HR.out.symm, hb⟩

theorem vecOk_spec {p n : Int} {X : List Int} (h : vecOk p n X = true) : (X.length : Int) = n ∧ resid p X = true := by
  simpa [vecOk] using h

/-- The bracket of two elements; nothing if one of them is none. -/
def brOf (p n : Int) (T X Y : List Int) : List Int := if algOk p n T && (vecOk p n X && vecOk p n Y) then braL T X Y n.toNat p else []
theorem brOf_no {p n : Int} {T X Y : List Int} (h : (algOk p n T && (vecOk p n X && vecOk p n Y)) = false) : brOf p n T X Y = [] := by simp [brOf, h]

theorem wf_le {x : Int} (h : (Lit.int .i64 x).wf = true) : x ≤ 9223372036854775807 := by
  simp [Lit.wf, IntKind.min, IntKind.max, IntKind.signed, IntKind.bits] at h; omega
theorem length_brOf (p n : Int) (T X Y : List Int) : (brOf p n T X Y).length ≤ 28 := by
  unfold brOf
  split
  · rename_i h
    simp only [Bool.and_eq_true] at h
    obtain ⟨m, rfl, hm, _⟩ := algOk_spec h.1
    rw [length_braL]; simpa using hm
  · simp

set_option maxHeartbeats 1000000 in
theorem BracketOfI_any (p n : Int) (t x y : Value) (T X Y : List Int) (w : World) (ht : Ints w t T) (hx : Ints w x X) (hy : Ints w y Y) (hp : p ≤ 9223372036854775807) :
    Calls Try.prog 9 #[.agg #[.int .i64 p, .int .i64 n, t], x, y] w (RetOwn w (brOf p n T X Y)) := by
  have h1 := ((((St.start w).arg ht).arg hx).arg hy).box [.int .i64 p, .int .i64 n, t] 28
  obtain ⟨A, c, rfl, _, _, _⟩ := id ht
  obtain ⟨A2, c2, rfl, _, _, _⟩ := id hx
  obtain ⟨A3, c3, rfl, _, _, _⟩ := id hy
  clear ht hx hy
  by_cases b1 : algOk p n T = true
  · obtain ⟨m, rfl, k1, k2, k3, k4, k5, k6⟩ := algOk_spec b1
    have hp0 : 0 ≤ p := by omega
    have K2 := Lib.hid k2
    clear k2
    by_cases b2 : vecOk p m X = true
    · by_cases b3 : vecOk p m Y = true
      · have hR := Lib.hid (show brOf p m T X Y = braL T X Y m p by simp [brOf, b1, b2, b3])
        obtain ⟨x1, x2⟩ := vecOk_spec b2
        obtain ⟨y1, y2⟩ := vecOk_spec b3
        have HX := Lib.hid (show X.length = m by exact_mod_cast x1)
        have HY := Lib.hid (show Y.length = m by exact_mod_cast y1)
        clear x1 y1
        go_enter Try.func9, Try.ntmps9
        go_wp2_with fail
        refine (AlgebraOkI_any p m _ T _ (h1.roInts 3 rfl) hp).mono ?_
        rintro e wn ⟨rfl, hb1⟩
        replace h1 := h1.on hb1
        clear hb1
        obtain ⟨z0, z1, z2⟩ := h1.box3 0 rfl
        go_wp2_with fail
        refine (isElement_any p m _ _ _ _ _ X _ rfl (h1.roInts 2 rfl) hp0 hp).mono ?_
        rintro e wn ⟨rfl, hb1⟩
        replace h1 := h1.on hb1
        clear hb1
        obtain ⟨z0, z1, z2⟩ := h1.box3 0 rfl
        go_wp2_with fail
        refine (isElement_any p m _ _ _ _ _ Y _ rfl (h1.roInts 1 rfl) hp0 hp).mono ?_
        rintro e wn ⟨rfl, hb1⟩
        replace h1 := h1.on hb1
        clear hb1
        obtain ⟨z0, z1, z2⟩ := h1.box3 0 rfl
        go_wp2_with fail
        refine (newLie_any p m _ _ _ _ _ rfl).mono ?_
        rintro e wn ⟨rfl, hb1⟩
        replace h1 := h1.on hb1
        clear hb1
        go_wp2_with fail
        refine (bracket_any p m _ _ _ T X Y _ _ (h1.roUp 3 rfl) (h1.roUp 2 rfl) (h1.roUp 1 rfl) (Nat.le_refl _) K2.out HX.out HY.out k1 k4 k5 k3 x2 y2).mono ?_
        rintro e wn ⟨u, rfl, ho, hb1⟩
        replace h1 := h1.pushOwn hb1 ho
        clear ho hb1
        rw [bracketL_eq, ← hR.out] at h1
        go_wp2
        go_ret
        exact ⟨_, rfl, h1.own 0 rfl, h1.below⟩
      · have b3 : vecOk p m Y = false := by simpa using b3
        rw [brOf_no (by simp [*])]
        go_enter Try.func9, Try.ntmps9
        go_wp2_with fail
        refine (AlgebraOkI_any p m _ T _ (h1.roInts 3 rfl) hp).mono ?_
        rintro e wn ⟨rfl, hb1⟩
        replace h1 := h1.on hb1
        clear hb1
        obtain ⟨z0, z1, z2⟩ := h1.box3 0 rfl
        go_wp2_with fail
        refine (isElement_any p m _ _ _ _ _ X _ rfl (h1.roInts 2 rfl) hp0 hp).mono ?_
        rintro e wn ⟨rfl, hb1⟩
        replace h1 := h1.on hb1
        clear hb1
        obtain ⟨z0, z1, z2⟩ := h1.box3 0 rfl
        go_wp2_with fail
        refine (isElement_any p m _ _ _ _ _ Y _ rfl (h1.roInts 1 rfl) hp0 hp).mono ?_
        rintro e wn ⟨rfl, hb1⟩
        replace h1 := h1.on hb1
        clear hb1
        go_wp2
        go_ret
        exact ⟨_, rfl, Own.nil, h1.below⟩
    · have b2 : vecOk p m X = false := by simpa using b2
      rw [brOf_no (by simp [*])]
      go_enter Try.func9, Try.ntmps9
      go_wp2_with fail
      refine (AlgebraOkI_any p m _ T _ (h1.roInts 3 rfl) hp).mono ?_
      rintro e wn ⟨rfl, hb1⟩
      replace h1 := h1.on hb1
      clear hb1
      obtain ⟨z0, z1, z2⟩ := h1.box3 0 rfl
      go_wp2_with fail
      refine (isElement_any p m _ _ _ _ _ X _ rfl (h1.roInts 2 rfl) hp0 hp).mono ?_
      rintro e wn ⟨rfl, hb1⟩
      replace h1 := h1.on hb1
      clear hb1
      go_wp2
      go_ret
      exact ⟨_, rfl, Own.nil, h1.below⟩
  · have b1 : algOk p n T = false := by simpa using b1
    rw [brOf_no (by simp [*])]
    go_enter Try.func9, Try.ntmps9
    go_wp2_with fail
    refine (AlgebraOkI_any p n _ T _ (h1.roInts 3 rfl) hp).mono ?_
    rintro e wn ⟨rfl, hb1⟩
    replace h1 := h1.on hb1
    clear hb1
    go_wp2
    go_ret
    exact ⟨_, rfl, Own.nil, h1.below⟩

end
section
open Go.RowKit

/-- The rows of the map that brackets an element with each basis element. -/
def adRows (T U : List Int) (n : Nat) (p : Int) : List (List Int) := (List.range n).map fun j => braL T U (unitL n j) n p
theorem length_adRows (T U : List Int) (n : Nat) (p : Int) : (adRows T U n p).length = n := by simp [adRows]
theorem adRows_take (T U : List Int) (n : Nat) (p : Int) (i : Nat) (h : i < n) : (adRows T U n p).take (i + 1) = (adRows T U n p).take i ++ [braL T U (unitL n i) n p] := by
  rw [List.take_succ_eq_append_getElem (by rw [length_adRows]; exact h)]
  simp [adRows]
theorem total_adRows (T U : List Int) (n : Nat) (p : Int) : total (adRows T U n p) = n * n := by
  rw [total_const _ n (fun l hl => by
    obtain ⟨j, _, rfl⟩ := List.mem_map.1 hl
    exact length_braL _ _ _ _ _), length_adRows]
def adM (T U : List Int) (n : Nat) (p : Int) : List Int := (adRows T U n p).flatten
theorem length_adM (T U : List Int) (n : Nat) (p : Int) : (adM T U n p).length = n * n := by rw [adM, length_flatten', total_adRows]

end
section
open Go.RowKit

end
section
open Go.RowKit

def zeroMod (p n : Int) (T : List Int) (k : Int) : List Mt := if algOk p n T && inR k 0 30 then List.replicate n.toNat ⟨p, k, k, List.replicate (k.toNat * k.toNat) 0⟩ else []
theorem RetMs.nil {w w' : World} (h : Below w.heap.size w w') : RetMs w [] (.returned (.slice none 0 0)) w' :=
  ⟨_, [], rfl, rfl, vec_nil, by simp [matsIt, It.fp, Value.ownBlock], h⟩

theorem dLen_replicate (n : Nat) (m : Mt) : dLen (List.replicate n m) = n * m.d.length := by
  induction n with
  | zero => simp [dLen]
  | succ n ih => rw [List.replicate_succ, dLen, ih, Nat.add_mul]; omega
theorem zeroMod_bd (p n : Int) (T : List Int) (k : Int) : markMsLen (zeroMod p n T k) ≤ 25284 := by
  unfold zeroMod
  by_cases h : (algOk p n T && inR k 0 30) = true
  · rw [if_pos h]
    simp only [Bool.and_eq_true] at h
    obtain ⟨m, rfl, hm, _⟩ := algOk_spec h.1
    have hk : k.toNat ≤ 30 := by have := h.2; simp [inR] at this; omega
    have h2 := mul_le hk hk
    unfold markMsLen
    rw [dLen_replicate, List.length_replicate, List.length_replicate, Int.toNat_natCast]
    have := mul_le hm h2
    omega
  · rw [if_neg h]; simp [markMsLen, dLen]
end
end Go.Proofs.Ytbnefjhljfbecaa
