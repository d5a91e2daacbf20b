import Derived.Test.YtbnefjhljfbecaaGreatDoorW23
import Derived.Test.YtbnefjhljfbecaaGreatDoorW32
import Derived.Test.YtbnefjhljfbecaaGreatDoorW33
import Derived.Test.YtbnefjhljfbecaaGreatDoorW36
namespace Go.Proofs.YtbnefjhljfbecaaGreatDoor
set_option maxRecDepth 100000
open Go.RowKit
def pwL (p : Int) (n : Nat) : Nat → List Int → List Int → Nat → List Int
 | 0, O, _, _ => O
 | f + 1, O, M, k => if k = 0 then O else pwL p n f (if k % 2 = 1 then mulD p n n n O M else O) (mulD p n n n M M) (k / 2)
theorem pwL_zero (p : Int) (n f : Nat) (O M : List Int) : pwL p n f O M 0 = O := by cases f <;> simp [pwL]
theorem pwL_fuel (p : Int) (n : Nat) : ∀ (f g : Nat) (O M : List Int) (k : Nat), k ≤ f → k ≤ g → pwL p n f O M k = pwL p n g O M k
 | 0, g, O, M, k, hf, _ => by
  obtain rfl : k = 0 := by omega
  rw [pwL_zero, pwL_zero]
 | f + 1, 0, O, M, k, _, hg => by
  obtain rfl : k = 0 := by omega
  rw [pwL_zero, pwL_zero]
 | f + 1, g + 1, O, M, k, hf, hg => by
  rw [pwL, pwL]
  by_cases hk : k = 0
  ·rw [if_pos hk, if_pos hk]
  ·rw [if_neg hk, if_neg hk]
   exact pwL_fuel p n f g _ _ _ (by omega) (by omega)
theorem pwL_step (p : Int) (n : Nat) {k : Nat} (hk : 0 < k) (O M : List Int) : pwL p n k O M k = pwL p n (k / 2) (if k % 2 = 1 then mulD p n n n O M else O) (mulD p n n n M M) (k / 2) := by
 obtain ⟨j, rfl⟩ : ∃ j, k = j + 1 := ⟨k - 1, by omega⟩
 rw [pwL, if_neg (by omega)]
 exact pwL_fuel p n _ _ _ _ _ (by omega) (Nat.le_refl _)
def pwM (p : Int) (n : Nat) (D : List Int) (k : Nat) : List Int := pwL p n k (unitD n) D k
theorem readInts2 {w0 w : World} {L : List It} (h : St w0 w L) (i : Nat) {x : It} {v : Value} {l : List Int} (hx : x = .ro v l ∨ x = .own v l) (hi : L[i]? = some x) : Ints w v l := by
 rcases hx with rfl | rfl
 ·exact h.roInts i hi
 ·exact h.ownInts i hi
theorem resid_adM {p : Int} (hp : 2 ≤ p) (T U : List Int) (n : Nat) : resid p (adM T U n p) = true := by
 have h : ∀ ll : List (List Int), (∀ l, l ∈ ll → resid p l = true) → resid p ll.flatten = true := fun ll => by
  induction ll with
  | nil => intro _; exact resid_iff.2 fun i hi => by simp at hi
  | cons l ll ih =>
   intro h
   rw [List.flatten_cons]
   exact resid_app (h l (by simp)) (ih fun x hx => h x (by simp [hx]))
 refine h _ fun l hl => ?_
 obtain ⟨j, _, rfl⟩ := List.mem_map.1 hl
 exact resid_braL _ _ _ _ hp
set_option maxHeartbeats 2000000 in
theorem powerOf_any (p : Int) (n kk : Nat) (t : Value) (D : List Int) (w : World) (ht : Ints w t D) (hD : D.length = n * n) (hn : n ≤ 40) (hk : kk ≤ 1000000) (hP : isPrime p = true) (rD : resid p D = true) :
  Calls Tryz.prog 48 #[.agg #[.int .i64 p, .int .i64 n, .int .i64 n, t], .int .i64 kk] w (RetMat w p n n (pwM p n D kk)) := by
 obtain ⟨b1, b2⟩ := isPrime_bd hP
 have h1 := ((St.start1 ht).box [.int .i64 p, .int .i64 n, .int .i64 n, t] 32).box [.int .i64 0, .int .i64 0, .int .i64 0, .slice none 0 0] 32
 simp only [World.size_alloc] at h1
 obtain ⟨A, k0, rfl, _, _, _⟩ := id ht
 have HU := Lib.hid (fun W => UnitMatrixI_any p n W hP (by omega))
 have HM := Lib.hid (fun (W : World) (v1 v2 : Value) (X Y : List Int) (x1 : Ints W v1 X) (x2 : Ints W v2 Y) (x3 : X.length = n * n) (x4 : Y.length = n * n) (x5 : resid p X = true) (x6 : resid p Y = true) => times_any p p n n n n v1 v2 X Y W x1 x2 x3 x4 hn hn hn b1 b2 x5 x6)
 have HLm := Lib.hid (fun (X Y : List Int) => length_mulD p n n n X Y)
 have HRm := Lib.hid (fun (X Y : List Int) => resid_mulD b1 n n n X Y)
 have HU0 := Lib.hid (And.intro (length_unitD n) (resid_unitD b1 n))
 have HD0 := Lib.hid (And.intro hD rD)
 obtain ⟨R, hR⟩ : ∃ R, R = pwM p n D kk := ⟨_, rfl⟩
 rw [← hR]
 have HR : Hid (R = pwL p n kk (unitD n) D kk) := hR
 clear ht hD rD hP hR
 obtain ⟨z0, z1, z2, z3⟩ := h1.box4 1 rfl
 go_enter Tryz.func48, Tryz.ntmps48
 go_wp2_with fail
 refine (HU.out _).mono ?_
 rintro (e : Ending) w3 ⟨u3, rfl, ho3, hb3⟩
 obtain ⟨A3, n3, c3, rfl⟩ := ho3.slice
 have g1 := ((h1.pushOwn hb3 ho3).box [.int .i64 p, .int .i64 n, .int .i64 n, .slice A3 n3 c3] 32).toFront 4 rfl
 simp only [List.eraseIdx_cons_succ, List.eraseIdx_cons_zero] at g1
 clear z0 z1 z2 z3 h1 hb3 ho3
 go_wp2
 generalize hBo : w3.heap.size = Bo at g1 ⊢
 clear hBo
 go_loopw [1] (fun v1 wr => ∃ (k : Nat) (Ao : Option Addr) (no co : Nat) (Am : Option Addr) (nm cm : Nat) (O M : List Int) (x : It), v1 = .int .i64 k ∧ Hid (k ≤ 1000000) ∧ Hid (x = .ro (.slice Am nm cm) M ∨ x = .own (.slice Am nm cm) M) ∧ Hid (R = pwL p n k O M k) ∧ Hid (O.length = n * n ∧ resid p O = true) ∧ Hid (M.length = n * n ∧ resid p M = true) ∧ St w wr [x, .box Bo [.int .i64 p, .int .i64 n, .int .i64 n, .slice Ao no co], .own (.slice Ao no co) O, .box (w.heap.size + 1) [.int .i64 0, .int .i64 0, .int .i64 0, .slice none 0 0], .box w.heap.size [.int .i64 p, .int .i64 n, .int .i64 n, .slice Am nm cm]]) (fun v1 _ => (intOf v1).toNat)
 case atStart => exact ⟨kk, _, _, _, _, _, _, _, _, _, rfl, Lib.hid hk, Lib.hid (.inl rfl), HR, HU0, HD0, g1⟩
 case round =>
  clear g1 HR HU0 HD0
  obtain ⟨k, Ao, no, co, Am, nm, cm, O, M, x, rfl, Hk, Hx, HR, HO, HMM, g⟩ := hrel
  by_cases hk0 : 0 < k
  ·have i0 : (0 : Int) < (k : Int) := by omega
   have hk9 := Hk.out
   have HStp := Lib.hid (pwL_step p n hk0 O M)
   obtain ⟨k2, hk2⟩ : ∃ k2, k2 = k / 2 := ⟨_, rfl⟩
   have e2 : (k : Int).tdiv 2 = (k2 : Int) := by rw [hk2, Int.tdiv_eq_ediv_of_nonneg (by omega)]; simp
   have e3 : IntKind.i64.wrap (k2 : Int) = k2 := wrap_ok (by omega) (by omega)
   have Hk2 := Lib.hid (show k2 ≤ 1000000 by omega)
   have Hlt := Lib.hid (show k2 < k by omega)
   rw [← hk2] at HStp
   have e4 : (k : Int).tmod 2 = ((k % 2 : Nat) : Int) := by rw [Int.tmod_eq_emod_of_nonneg (by omega)]; simp
   by_cases hm : k % 2 = 1
   ·rw [hm] at e4
    have e5 : IntKind.i64.wrap (1 : Int) = 1 := wrap_ok (by omega) (by omega)
    have e6 : (k : Int).tmod 2 = 1 := by rw [e4]; rfl
    have HStp2 : Hid (R = pwL p n k2 (mulD p n n n O M) (mulD p n n n M M) k2) := by show _ = _; rw [HR.out, HStp.out, if_pos hm]
    clear hk2 hk9 hm e4 HStp
    obtain ⟨y0, y1, y2, y3⟩ := g.box4 1 rfl
    obtain ⟨z0, z1, z2, z3⟩ := g.box4 4 rfl
    go_wp2_with fail
    refine (HM.out _ _ _ O M (g.ownInts 2 rfl) (readInts2 g 0 Hx.out rfl) HO.out.1 HMM.out.1 HO.out.2 HMM.out.2).mono ?_
    rintro (e : Ending) w5 ⟨u5, rfl, ho5, hb5⟩
    obtain ⟨A5, n5, c5, rfl⟩ := ho5.slice
    have g2 := g.pushOwn hb5 ho5
    clear y0 y1 y2 y3 z0 z1 z2 z3 g hb5 ho5
    obtain ⟨p0, p1, p2, p3⟩ := g2.box4 2 rfl
    have f0 := g2.free 2 rfl 0
    have f1 := g2.free 2 rfl 1
    have f2 := g2.free 2 rfl 2
    have f3 := g2.free 2 rfl 3
    have g3 := (((g2.setBox 2 rfl 0 (.int .i64 p)).setBox 2 rfl 1 (.int .i64 n)).setBox 2 rfl 2 (.int .i64 n)).setBox 2 rfl 3 (.slice A5 n5 c5)
    obtain ⟨r0, r1, r2, r3⟩ := g3.box4 2 rfl
    obtain ⟨z0, z1, z2, z3⟩ := g3.box4 5 rfl
    go_wp2_with fail
    refine (HM.out _ _ _ M M (readInts2 g3 1 Hx.out rfl) (readInts2 g3 1 Hx.out rfl) HMM.out.1 HMM.out.1 HMM.out.2 HMM.out.2).mono ?_
    rintro (e : Ending) w6 ⟨u6, rfl, ho6, hb6⟩
    obtain ⟨A6, n6, c6, rfl⟩ := ho6.slice
    have g4 := g3.pushOwn hb6 ho6
    clear p0 p1 p2 p3 f0 f1 f2 f3 r0 r1 r2 r3 z0 z1 z2 z3 g2 g3 hb6 ho6
    obtain ⟨p0, p1, p2, p3⟩ := g4.box4 6 rfl
    have f0 := g4.free 6 rfl 0
    have f1 := g4.free 6 rfl 1
    have f2 := g4.free 6 rfl 2
    have f3 := g4.free 6 rfl 3
    have g5 := (((g4.setBox 6 rfl 0 (.int .i64 p)).setBox 6 rfl 1 (.int .i64 n)).setBox 6 rfl 2 (.int .i64 n)).setBox 6 rfl 3 (.slice A6 n6 c6)
    obtain ⟨r0, r1, r2, r3⟩ := g5.box4 6 rfl
    clear g4
    go_wp2
    go_roundw
    case rel => exact ⟨k2, _, _, _, _, _, _, _, _, _, by go_num, Hk2, Lib.hid (.inr rfl), HStp2, Lib.hid ⟨HLm.out _ _, HRm.out _ _⟩, Lib.hid ⟨HLm.out _ _, HRm.out _ _⟩, g5.re [0, 3, 1, 5, 6] (by decide) (fun j => by rcases j with _ | _ | _ | _ | _ | j <;> rfl)⟩
    case measure => have := Hlt.out; simp [intOf]; omega
   ·have hm0 : k % 2 = 0 := by omega
    have e6 : (k : Int).tmod 2 = 0 := by rw [e4, hm0]; rfl
    have e5 : IntKind.i64.wrap (0 : Int) = 0 := wrap_ok (by omega) (by omega)
    have HStp2 : Hid (R = pwL p n k2 O (mulD p n n n M M) k2) := by show _ = _; rw [HR.out, HStp.out, if_neg hm]
    clear hk2 hk9 hm hm0 e4 HStp
    obtain ⟨z0, z1, z2, z3⟩ := g.box4 4 rfl
    go_wp2_with fail
    refine (HM.out _ _ _ M M (readInts2 g 0 Hx.out rfl) (readInts2 g 0 Hx.out rfl) HMM.out.1 HMM.out.1 HMM.out.2 HMM.out.2).mono ?_
    rintro (e : Ending) w6 ⟨u6, rfl, ho6, hb6⟩
    obtain ⟨A6, n6, c6, rfl⟩ := ho6.slice
    have g4 := g.pushOwn hb6 ho6
    clear z0 z1 z2 z3 g hb6 ho6
    obtain ⟨p0, p1, p2, p3⟩ := g4.box4 5 rfl
    have f0 := g4.free 5 rfl 0
    have f1 := g4.free 5 rfl 1
    have f2 := g4.free 5 rfl 2
    have f3 := g4.free 5 rfl 3
    have g5 := (((g4.setBox 5 rfl 0 (.int .i64 p)).setBox 5 rfl 1 (.int .i64 n)).setBox 5 rfl 2 (.int .i64 n)).setBox 5 rfl 3 (.slice A6 n6 c6)
    obtain ⟨r0, r1, r2, r3⟩ := g5.box4 5 rfl
    clear g4
    go_wp2
    go_roundw
    case rel => exact ⟨k2, _, _, _, _, _, _, _, _, _, by go_num, Hk2, Lib.hid (.inr rfl), HStp2, HO, Lib.hid ⟨HLm.out _ _, HRm.out _ _⟩, g5.re [0, 2, 3, 4, 5] (by decide) (fun j => by rcases j with _ | _ | _ | _ | _ | j <;> rfl)⟩
    case measure => have := Hlt.out; simp [intOf]; omega
  ·obtain rfl : k = 0 := by omega
   have HRO : Hid (R = O) := by show _ = _; rw [HR.out, pwL_zero]
   obtain ⟨y0, y1, y2, y3⟩ := g.box4 1 rfl
   obtain ⟨p0, p1, p2, p3⟩ := g.box4 3 rfl
   have f0 := g.free 3 rfl 0
   have f1 := g.free 3 rfl 1
   have f2 := g.free 3 rfl 2
   have f3 := g.free 3 rfl 3
   have g9 := (((g.setBox 3 rfl 0 (.int .i64 p)).setBox 3 rfl 1 (.int .i64 n)).setBox 3 rfl 2 (.int .i64 n)).setBox 3 rfl 3 (.slice Ao no co)
   obtain ⟨r0, r1, r2, r3⟩ := g9.box4 3 rfl
   go_wp2
   refine bodyPost_ret (v := .agg #[.int .i64 p, .int .i64 n, .int .i64 n, .slice Ao no co]) (by simp [results, Tryz.results48, go_sem, r0, r1, r2, r3]) rfl ?_
   rw [HRO.out]
   exact ⟨_, rfl, g9.own 2 rfl, g9.below⟩
set_option maxHeartbeats 2000000 in
theorem l7PowerMatrix_any (p : Int) (n kk : Nat) (t : Value) (D : List Int) (w : World) (ht : Ints w t D) (hD : D.length = n * n) (hn : n ≤ 40) (hk : kk ≤ 1000000) (hP : isPrime p = true) (rD : resid p D = true) :
  Calls Tryz.prog 34 #[.agg #[.int .i64 p, .int .i64 n, .int .i64 n, t], .int .i64 kk] w (RetMat w p n n (pwM p n D kk)) := by
 obtain ⟨b1, b2⟩ := isPrime_bd hP
 have h1 := ((St.start1 ht).box [.int .i64 p, .int .i64 n, .int .i64 n, t] 32).box [.int .i64 0, .int .i64 0, .int .i64 0, .slice none 0 0] 32
 simp only [World.size_alloc] at h1
 obtain ⟨A, k0, rfl, _, _, _⟩ := id ht
 have HU := Lib.hid (fun W => l1Unit_any p n W hP (by omega))
 have HM := Lib.hid (fun (W : World) (v1 v2 : Value) (X Y : List Int) (x1 : Ints W v1 X) (x2 : Ints W v2 Y) (x3 : X.length = n * n) (x4 : Y.length = n * n) (x5 : resid p X = true) (x6 : resid p Y = true) => l1Mul_any p p n n n n v1 v2 X Y W x1 x2 rfl x3 x4 hn hn hn b1 b2 x5 x6)
 have HLm := Lib.hid (fun (X Y : List Int) => length_mulD p n n n X Y)
 have HRm := Lib.hid (fun (X Y : List Int) => resid_mulD b1 n n n X Y)
 have HU0 := Lib.hid (And.intro (length_unitD n) (resid_unitD b1 n))
 have HD0 := Lib.hid (And.intro hD rD)
 obtain ⟨R, hR⟩ : ∃ R, R = pwM p n D kk := ⟨_, rfl⟩
 rw [← hR]
 have HR : Hid (R = pwL p n kk (unitD n) D kk) := hR
 clear ht hD rD hP hR
 obtain ⟨z0, z1, z2, z3⟩ := h1.box4 1 rfl
 go_enter Tryz.func34, Tryz.ntmps34
 go_wp2_with fail
 refine (HU.out _).mono ?_
 rintro (e : Ending) w3 ⟨u3, rfl, ho3, hb3⟩
 obtain ⟨A3, n3, c3, rfl⟩ := ho3.slice
 have g1 := ((h1.pushOwn hb3 ho3).box [.int .i64 p, .int .i64 n, .int .i64 n, .slice A3 n3 c3] 32).toFront 4 rfl
 simp only [List.eraseIdx_cons_succ, List.eraseIdx_cons_zero] at g1
 clear z0 z1 z2 z3 h1 hb3 ho3
 go_wp2
 generalize hBo : w3.heap.size = Bo at g1 ⊢
 clear hBo
 go_loopw [1] (fun v1 wr => ∃ (k : Nat) (Ao : Option Addr) (no co : Nat) (Am : Option Addr) (nm cm : Nat) (O M : List Int) (x : It), v1 = .int .i64 k ∧ Hid (k ≤ 1000000) ∧ Hid (x = .ro (.slice Am nm cm) M ∨ x = .own (.slice Am nm cm) M) ∧ Hid (R = pwL p n k O M k) ∧ Hid (O.length = n * n ∧ resid p O = true) ∧ Hid (M.length = n * n ∧ resid p M = true) ∧ St w wr [x, .box Bo [.int .i64 p, .int .i64 n, .int .i64 n, .slice Ao no co], .own (.slice Ao no co) O, .box (w.heap.size + 1) [.int .i64 0, .int .i64 0, .int .i64 0, .slice none 0 0], .box w.heap.size [.int .i64 p, .int .i64 n, .int .i64 n, .slice Am nm cm]]) (fun v1 _ => (intOf v1).toNat)
 case atStart => exact ⟨kk, _, _, _, _, _, _, _, _, _, rfl, Lib.hid hk, Lib.hid (.inl rfl), HR, HU0, HD0, g1⟩
 case round =>
  clear g1 HR HU0 HD0
  obtain ⟨k, Ao, no, co, Am, nm, cm, O, M, x, rfl, Hk, Hx, HR, HO, HMM, g⟩ := hrel
  by_cases hk0 : 0 < k
  ·have i0 : (0 : Int) < (k : Int) := by omega
   have hk9 := Hk.out
   have HStp := Lib.hid (pwL_step p n hk0 O M)
   obtain ⟨k2, hk2⟩ : ∃ k2, k2 = k / 2 := ⟨_, rfl⟩
   have e2 : (k : Int).tdiv 2 = (k2 : Int) := by rw [hk2, Int.tdiv_eq_ediv_of_nonneg (by omega)]; simp
   have e3 : IntKind.i64.wrap (k2 : Int) = k2 := wrap_ok (by omega) (by omega)
   have Hk2 := Lib.hid (show k2 ≤ 1000000 by omega)
   have Hlt := Lib.hid (show k2 < k by omega)
   rw [← hk2] at HStp
   have e4 : (k : Int).tmod 2 = ((k % 2 : Nat) : Int) := by rw [Int.tmod_eq_emod_of_nonneg (by omega)]; simp
   by_cases hm : k % 2 = 1
   ·rw [hm] at e4
    have e5 : IntKind.i64.wrap (1 : Int) = 1 := wrap_ok (by omega) (by omega)
    have e6 : (k : Int).tmod 2 = 1 := by rw [e4]; rfl
    have HStp2 : Hid (R = pwL p n k2 (mulD p n n n O M) (mulD p n n n M M) k2) := by show _ = _; rw [HR.out, HStp.out, if_pos hm]
    clear hk2 hk9 hm e4 HStp
    obtain ⟨y0, y1, y2, y3⟩ := g.box4 1 rfl
    obtain ⟨z0, z1, z2, z3⟩ := g.box4 4 rfl
    go_wp2_with fail
    refine (HM.out _ _ _ O M (g.ownInts 2 rfl) (readInts2 g 0 Hx.out rfl) HO.out.1 HMM.out.1 HO.out.2 HMM.out.2).mono ?_
    rintro (e : Ending) w5 ⟨u5, rfl, ho5, hb5⟩
    obtain ⟨A5, n5, c5, rfl⟩ := ho5.slice
    have g2 := g.pushOwn hb5 ho5
    clear y0 y1 y2 y3 z0 z1 z2 z3 g hb5 ho5
    obtain ⟨p0, p1, p2, p3⟩ := g2.box4 2 rfl
    have f0 := g2.free 2 rfl 0
    have f1 := g2.free 2 rfl 1
    have f2 := g2.free 2 rfl 2
    have f3 := g2.free 2 rfl 3
    have g3 := (((g2.setBox 2 rfl 0 (.int .i64 p)).setBox 2 rfl 1 (.int .i64 n)).setBox 2 rfl 2 (.int .i64 n)).setBox 2 rfl 3 (.slice A5 n5 c5)
    obtain ⟨r0, r1, r2, r3⟩ := g3.box4 2 rfl
    obtain ⟨z0, z1, z2, z3⟩ := g3.box4 5 rfl
    go_wp2_with fail
    refine (HM.out _ _ _ M M (readInts2 g3 1 Hx.out rfl) (readInts2 g3 1 Hx.out rfl) HMM.out.1 HMM.out.1 HMM.out.2 HMM.out.2).mono ?_
    rintro (e : Ending) w6 ⟨u6, rfl, ho6, hb6⟩
    obtain ⟨A6, n6, c6, rfl⟩ := ho6.slice
    have g4 := g3.pushOwn hb6 ho6
    clear p0 p1 p2 p3 f0 f1 f2 f3 r0 r1 r2 r3 z0 z1 z2 z3 g2 g3 hb6 ho6
    obtain ⟨p0, p1, p2, p3⟩ := g4.box4 6 rfl
    have f0 := g4.free 6 rfl 0
    have f1 := g4.free 6 rfl 1
    have f2 := g4.free 6 rfl 2
    have f3 := g4.free 6 rfl 3
    have g5 := (((g4.setBox 6 rfl 0 (.int .i64 p)).setBox 6 rfl 1 (.int .i64 n)).setBox 6 rfl 2 (.int .i64 n)).setBox 6 rfl 3 (.slice A6 n6 c6)
    obtain ⟨r0, r1, r2, r3⟩ := g5.box4 6 rfl
    clear g4
    go_wp2
    go_roundw
    case rel => exact ⟨k2, _, _, _, _, _, _, _, _, _, by go_num, Hk2, Lib.hid (.inr rfl), HStp2, Lib.hid ⟨HLm.out _ _, HRm.out _ _⟩, Lib.hid ⟨HLm.out _ _, HRm.out _ _⟩, g5.re [0, 3, 1, 5, 6] (by decide) (fun j => by rcases j with _ | _ | _ | _ | _ | j <;> rfl)⟩
    case measure => have := Hlt.out; simp [intOf]; omega
   ·have hm0 : k % 2 = 0 := by omega
    have e6 : (k : Int).tmod 2 = 0 := by rw [e4, hm0]; rfl
    have e5 : IntKind.i64.wrap (0 : Int) = 0 := wrap_ok (by omega) (by omega)
    have HStp2 : Hid (R = pwL p n k2 O (mulD p n n n M M) k2) := by show _ = _; rw [HR.out, HStp.out, if_neg hm]
    clear hk2 hk9 hm hm0 e4 HStp
    obtain ⟨z0, z1, z2, z3⟩ := g.box4 4 rfl
    go_wp2_with fail
    refine (HM.out _ _ _ M M (readInts2 g 0 Hx.out rfl) (readInts2 g 0 Hx.out rfl) HMM.out.1 HMM.out.1 HMM.out.2 HMM.out.2).mono ?_
    rintro (e : Ending) w6 ⟨u6, rfl, ho6, hb6⟩
    obtain ⟨A6, n6, c6, rfl⟩ := ho6.slice
    have g4 := g.pushOwn hb6 ho6
    clear z0 z1 z2 z3 g hb6 ho6
    obtain ⟨p0, p1, p2, p3⟩ := g4.box4 5 rfl
    have f0 := g4.free 5 rfl 0
    have f1 := g4.free 5 rfl 1
    have f2 := g4.free 5 rfl 2
    have f3 := g4.free 5 rfl 3
    have g5 := (((g4.setBox 5 rfl 0 (.int .i64 p)).setBox 5 rfl 1 (.int .i64 n)).setBox 5 rfl 2 (.int .i64 n)).setBox 5 rfl 3 (.slice A6 n6 c6)
    obtain ⟨r0, r1, r2, r3⟩ := g5.box4 5 rfl
    clear g4
    go_wp2
    go_roundw
    case rel => exact ⟨k2, _, _, _, _, _, _, _, _, _, by go_num, Hk2, Lib.hid (.inr rfl), HStp2, HO, Lib.hid ⟨HLm.out _ _, HRm.out _ _⟩, g5.re [0, 2, 3, 4, 5] (by decide) (fun j => by rcases j with _ | _ | _ | _ | _ | j <;> rfl)⟩
    case measure => have := Hlt.out; simp [intOf]; omega
  ·obtain rfl : k = 0 := by omega
   have HRO : Hid (R = O) := by show _ = _; rw [HR.out, pwL_zero]
   obtain ⟨y0, y1, y2, y3⟩ := g.box4 1 rfl
   obtain ⟨p0, p1, p2, p3⟩ := g.box4 3 rfl
   have f0 := g.free 3 rfl 0
   have f1 := g.free 3 rfl 1
   have f2 := g.free 3 rfl 2
   have f3 := g.free 3 rfl 3
   have g9 := (((g.setBox 3 rfl 0 (.int .i64 p)).setBox 3 rfl 1 (.int .i64 n)).setBox 3 rfl 2 (.int .i64 n)).setBox 3 rfl 3 (.slice Ao no co)
   obtain ⟨r0, r1, r2, r3⟩ := g9.box4 3 rfl
   go_wp2
   refine bodyPost_ret (v := .agg #[.int .i64 p, .int .i64 n, .int .i64 n, .slice Ao no co]) (by simp [results, Tryz.results34, go_sem, r0, r1, r2, r3]) rfl ?_
   rw [HRO.out]
   exact ⟨_, rfl, g9.own 2 rfl, g9.below⟩
def torAt (p : Int) (n : Nat) (T D : List Int) (i : Nat) : Bool := decide (adM T (rowM n D i) n p = pwM p n (adM T (rowM n D i) n p) p.toNat)
def torOk (p n : Int) (T : List Int) (q r c : Int) (D : List Int) : Bool := subOk p n T q r c D && (decide (p ≤ 101) && (decide ((spanL p n.toNat (prodL T n.toNat p r.toNat D r.toNat D)).length = 0) && allF (torAt p n.toNat T D) r.toNat 0))
end Go.Proofs.YtbnefjhljfbecaaGreatDoor
