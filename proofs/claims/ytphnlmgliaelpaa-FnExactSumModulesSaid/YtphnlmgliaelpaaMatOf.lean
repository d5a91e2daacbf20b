/- MatrixOf of both programs. -/
import Derived.Test.YtphnlmgliaelpaaModI
import Derived.Test.YtphnlmgliaelpaaBrOf
namespace Go.Proofs.Ytphnlmgliaelpaa
set_option maxRecDepth 100000
open Go.RowKit

theorem isMod_spec {p n : Int} {T : List Int} {ms : List Mt} (h : isMod p n T ms = true) : ∃ (N s : Nat) (m0 : Mt) (l : List Mt), n = N ∧ ms = m0 :: l ∧ (m0 :: l).length = N ∧ m0.r = s ∧ s ≤ 30 ∧ algOk p N T = true ∧
    ∀ i (h : i < (m0 :: l).length), ((m0 :: l)[i]).p = p ∧ ((m0 :: l)[i]).r = s ∧ ((m0 :: l)[i]).c = s ∧ ((m0 :: l)[i]).d.length = s * s ∧ resid p ((m0 :: l)[i]).d = true := by
  simp only [isMod, Bool.and_eq_true] at h
  obtain ⟨h1, h2, _⟩ := h
  simp only [modHead, Bool.and_eq_true, decide_eq_true_eq] at h1
  obtain ⟨h3, h4, h5⟩ := h1
  obtain ⟨N, rfl, _⟩ := algOk_spec h3
  have hl : ms.length = N := by omega
  have hN : 0 < N := by omega
  rw [modMats, Int.toNat_natCast, allF_iff] at h2
  obtain ⟨m0, l, rfl⟩ : ∃ a l, ms = a :: l := by cases ms with | nil => simp at hl; omega | cons a l => exact ⟨a, l, rfl⟩
  obtain ⟨s, g1, g2, g3⟩ := mats_spec (s := (mAt (m0 :: l) 0).r) hl hN (fun k hk => h2 k (Nat.zero_le _) (by omega))
  exact ⟨N, s, m0, l, rfl, rfl, hl, g1, g2, h3, g3⟩
/-- What a function leaves that returns a matrix and a Bool. -/
def RetMB (w : World) (a0 a1 a2 : Int) (l : List Int) (b : Bool) (e : Ending) (w' : World) : Prop := ∃ u, e = .returned (.tuple #[.agg #[.int .i64 a0, .int .i64 a1, .int .i64 a2, u], .bool b]) ∧ Own w' w.heap.size u l ∧ Below w.heap.size w w'
def moOk (p n : Int) (T : List Int) (ms : List Mt) (X : List Int) : Bool := isMod p n T ms && vecOk p n X
def moP (p n : Int) (T : List Int) (ms : List Mt) (X : List Int) : Int := if moOk p n T ms X then p else 0
def moR (p n : Int) (T : List Int) (ms : List Mt) (X : List Int) : Int := if moOk p n T ms X then (mAt ms 0).r else 0
def moD (p n : Int) (T : List Int) (ms : List Mt) (X : List Int) : List Int := if moOk p n T ms X then sumMTo p ((mAt ms 0).r.toNat * (mAt ms 0).r.toNat) X (ms.map Mt.d) n.toNat else []
theorem moD_bd (p n : Int) (T : List Int) (ms : List Mt) (X : List Int) : (moD p n T ms X).length ≤ 900 := by
  unfold moD
  split
  · rename_i h
    simp only [moOk, Bool.and_eq_true] at h
    obtain ⟨N, s, m0, l, rfl, rfl, hl, h1, h2, h3, h4⟩ := isMod_spec h.1
    obtain ⟨_, _, _, _, _, h5, _⟩ := algOk_spec h3
    show (sumMTo p (m0.r.toNat * m0.r.toNat) X _ _).length ≤ 900
    rw [h1, Int.toNat_natCast, Int.toNat_natCast]
    have := (sumMTo_ok (p := p) h5 (n := s * s) (K := X) (Ms := (m0 :: l).map Mt.d) (fun q hq => by rw [← rowOf_eq hq, List.getElem_map]; exact (h4 q (by simpa using hq)).2.2.2.1) N (by rw [List.length_map, hl]; exact Nat.le_refl _)).1
    rw [this]
    exact mul_le h2 h2
  · simp

set_option maxHeartbeats 4000000 in
theorem MatrixOfS_any (p n : Int) (t v x : Value) (T : List Int) (ms : List Mt) (X : List Int) (w : World) (ht : Ints w t T) (hv : MatsR w v ms) (hx : Ints w x X) (hp0 : p ≤ 9223372036854775807) (hw : ∀ i, i < ms.length → (mAt ms i).p ≤ 9223372036854775807) :
    Calls Try.prog 28 #[.agg #[.int .i64 p, .int .i64 n, t], v, x] w (RetMB w (moP p n T ms X) (moR p n T ms X) (moR p n T ms X) (moD p n T ms X) (moOk p n T ms X)) := by
  have h1 := (((((St.start w).arg ht).pushFact hv.fact).arg hx).box [.int .i64 p, .int .i64 n, t] 30).box [.int .i64 0, .int .i64 0, .int .i64 0, .slice none 0 0] 32
  simp only [World.size_alloc] at h1
  obtain ⟨A, k, rfl, _, _, _⟩ := id ht
  obtain ⟨A1, k1, rfl, _, _, _⟩ := id hx
  obtain ⟨A2, k2, rfl, _, _, _⟩ := id hv
  have HI := Lib.hid (fun (W : World) (h1 : Ints W (.slice A T.length k) T) (h2 : MatsR W (.slice A2 ms.length k2) ms) => IsModuleS_any p n _ _ T ms W h1 h2 hp0 hw)
  clear ht hv hx hw
  obtain ⟨y0, y1, y2⟩ := h1.box3 1 rfl
  by_cases b1 : isMod p n T ms = true
  case neg =>
    have b1 : isMod p n T ms = false := by simpa using b1
    have b0 : moOk p n T ms X = false := by rw [moOk, b1, Bool.false_and]
    rw [show moP p n T ms X = 0 by simp [moP, b0], show moR p n T ms X = 0 by simp [moR, b0], show moD p n T ms X = [] by simp [moD, b0], b0]
    have B1 := Lib.hid b1
    clear b1 b0
    go_enter Try.func28, Try.ntmps28
    go_wp2_with fail
    refine (HI.out _ (h1.roInts 4 rfl) (h1.fact 3 rfl)).mono ?_
    rintro (e : Ending) w1 ⟨rfl, hb1⟩
    replace h1 := h1.on hb1
    rw [B1.out]
    clear hb1 y0 y1 y2
    obtain ⟨z0, z1, z2, z3⟩ := h1.box4 0 rfl
    have f0 := h1.free 0 rfl 0
    have f1 := h1.free 0 rfl 1
    have f2 := h1.free 0 rfl 2
    have f3 := h1.free 0 rfl 3
    have h4 := (((h1.setBox 0 rfl 0 (.int .i64 0)).setBox 0 rfl 1 (.int .i64 0)).setBox 0 rfl 2 (.int .i64 0)).setBox 0 rfl 3 (.slice none 0 0)
    obtain ⟨r0, r1, r2, r3⟩ := h4.box4 0 rfl
    go_wp2
    refine bodyPost_ret (v := .tuple #[.agg #[.int .i64 0, .int .i64 0, .int .i64 0, .slice none 0 0], .bool false]) (by simp [results, Try.results28, go_sem, r0, r1, r2, r3]) rfl ⟨_, rfl, Own.nil, h4.below⟩
  obtain ⟨N, s, m0, l, hn, hms, hl, hs, hs30, hA, hM⟩ := isMod_spec b1
  obtain ⟨N', eN, g1, kT, g3, g4, g5, g6⟩ := algOk_spec hA
  have eN' : N = N' := by omega
  subst eN'
  clear eN
  have hp2 : 0 ≤ p := by omega
  have B1 := Lib.hid b1
  by_cases b2 : vecOk p n X = true
  case neg =>
    have b2 : vecOk p n X = false := by simpa using b2
    have b0 : moOk p n T ms X = false := by rw [moOk, b2, Bool.and_false]
    rw [show moP p n T ms X = 0 by simp [moP, b0], show moR p n T ms X = 0 by simp [moR, b0], show moD p n T ms X = [] by simp [moD, b0], b0]
    have B2 := Lib.hid b2
    clear b1 b2 b0 hn hms hl hs hM hA kT
    go_enter Try.func28, Try.ntmps28
    go_wp2_with fail
    refine (HI.out _ (h1.roInts 4 rfl) (h1.fact 3 rfl)).mono ?_
    rintro (e : Ending) w1 ⟨rfl, hb1⟩
    replace h1 := h1.on hb1
    rw [B1.out]
    clear hb1 y0 y1 y2
    obtain ⟨y0, y1, y2⟩ := h1.box3 1 rfl
    go_wp2_with fail
    refine (l2Vector_any p n (.slice A T.length k) _ A T.length k X _ rfl (h1.roInts 2 rfl)).mono ?_
    rintro (e : Ending) w2 ⟨rfl, hb1⟩
    replace h1 := h1.on hb1
    rw [B2.out]
    clear hb1 y0 y1 y2
    obtain ⟨z0, z1, z2, z3⟩ := h1.box4 0 rfl
    have f0 := h1.free 0 rfl 0
    have f1 := h1.free 0 rfl 1
    have f2 := h1.free 0 rfl 2
    have f3 := h1.free 0 rfl 3
    have h4 := (((h1.setBox 0 rfl 0 (.int .i64 0)).setBox 0 rfl 1 (.int .i64 0)).setBox 0 rfl 2 (.int .i64 0)).setBox 0 rfl 3 (.slice none 0 0)
    obtain ⟨r0, r1, r2, r3⟩ := h4.box4 0 rfl
    go_wp2
    refine bodyPost_ret (v := .tuple #[.agg #[.int .i64 0, .int .i64 0, .int .i64 0, .slice none 0 0], .bool false]) (by simp [results, Try.results28, go_sem, r0, r1, r2, r3]) rfl ⟨_, rfl, Own.nil, h4.below⟩
  have b0 : moOk p n T ms X = true := by rw [moOk, b1, b2]; rfl
  have B2 := Lib.hid b2
  have hxl : (X.length : Int) = n ∧ resid p X = true := by simpa [vecOk] using b2
  obtain ⟨hxl, hxr⟩ := hxl
  have hxn : X.length = N := by omega
  obtain ⟨E, hE⟩ : ∃ E, E = moD p n T ms X := ⟨_, rfl⟩
  have hr0 : (mAt ms 0).r = s := by rw [hms]; exact hs
  have hE2 : E = sumMTo p (s * s) X ((m0 :: l).map Mt.d) N := by
    rw [hE, moD, if_pos b0, hr0, hn, hms, Int.toNat_natCast, Int.toNat_natCast]
  rw [show moP p n T ms X = p by simp [moP, b0], show moR p n T ms X = s by rw [moR, if_pos b0]; exact hr0, ← hE, b0]
  have HS := Lib.hid (show ∀ (W : World) (t x : Value), Ints W t T → MatsR W (.slice A2 ms.length k2) ms → Ints W x X → Calls Try.prog 74 #[.agg #[.int .i64 p, .int .i64 n, t], .slice A2 ms.length k2, x] W (RetMat W p s s E) from fun W t x a1 a2 a3 => by subst hms; subst hn; rw [hE2]; exact l10Sum_any p N s t _ x T X m0 l W a1 a2 a3 hl hxn g1 (by omega) hM g4 g5 hxr)
  clear hE hE2 b0 b1 b2 hl hs hM hA kT hxl hxn hms hr0 hn
  go_enter Try.func28, Try.ntmps28
  go_wp2_with fail
  refine (HI.out _ (h1.roInts 4 rfl) (h1.fact 3 rfl)).mono ?_
  rintro (e : Ending) w1 ⟨rfl, hb1⟩
  replace h1 := h1.on hb1
  rw [B1.out]
  clear hb1 y0 y1 y2
  obtain ⟨y0, y1, y2⟩ := h1.box3 1 rfl
  go_wp2_with fail
  refine (l2Vector_any p n (.slice A T.length k) _ A T.length k X _ rfl (h1.roInts 2 rfl)).mono ?_
  rintro (e : Ending) w2 ⟨rfl, hb1⟩
  replace h1 := h1.on hb1
  rw [B2.out]
  clear hb1 y0 y1 y2
  obtain ⟨y0, y1, y2⟩ := h1.box3 1 rfl
  go_wp2_with fail
  refine (HS.out _ _ _ (h1.roInts 4 rfl) (h1.fact 3 rfl) (h1.roInts 2 rfl)).mono ?_
  rintro (e : Ending) w3 ⟨u3, rfl, ho, hb3⟩
  obtain ⟨A7, n7, c7, rfl⟩ := ho.slice
  have h2 := h1.pushOwn hb3 ho
  clear y0 y1 y2 ho hb3 h1
  obtain ⟨z0, z1, z2, z3⟩ := h2.box4 1 rfl
  have f0 := h2.free 1 rfl 0
  have f1 := h2.free 1 rfl 1
  have f2 := h2.free 1 rfl 2
  have f3 := h2.free 1 rfl 3
  have h4 := (((h2.setBox 1 rfl 0 (.int .i64 p)).setBox 1 rfl 1 (.int .i64 s)).setBox 1 rfl 2 (.int .i64 s)).setBox 1 rfl 3 (.slice A7 n7 c7)
  obtain ⟨r0, r1, r2, r3⟩ := h4.box4 1 rfl
  go_wp2
  refine bodyPost_ret (v := .tuple #[.agg #[.int .i64 p, .int .i64 s, .int .i64 s, .slice A7 n7 c7], .bool true]) (by simp [results, Try.results28, go_sem, r0, r1, r2, r3]) rfl ⟨_, rfl, h4.own 0 rfl, h4.below⟩

set_option maxHeartbeats 4000000 in
theorem MatrixOfI_any (p n : Int) (t v x : Value) (T : List Int) (ms : List Mt) (X : List Int) (w : World) (ht : Ints w t T) (hv : MatsR w v ms) (hx : Ints w x X) (hp0 : p ≤ 9223372036854775807) (hw : ∀ i, i < ms.length → (mAt ms i).p ≤ 9223372036854775807) :
    Calls Try.prog 30 #[.agg #[.int .i64 p, .int .i64 n, t], v, x] w (RetMB w (moP p n T ms X) (moR p n T ms X) (moR p n T ms X) (moD p n T ms X) (moOk p n T ms X)) := by
  have h1 := (((((St.start w).arg ht).pushFact hv.fact).arg hx).box [.int .i64 p, .int .i64 n, t] 30).box [.int .i64 0, .int .i64 0, .int .i64 0, .slice none 0 0] 32
  simp only [World.size_alloc] at h1
  obtain ⟨A, k, rfl, _, _, _⟩ := id ht
  obtain ⟨A1, k1, rfl, _, _, _⟩ := id hx
  obtain ⟨A2, k2, rfl, _, _, _⟩ := id hv
  have HI := Lib.hid (fun (W : World) (h1 : Ints W (.slice A T.length k) T) (h2 : MatsR W (.slice A2 ms.length k2) ms) => IsModuleI_any p n _ _ T ms W h1 h2 hp0 hw)
  clear ht hv hx hw
  obtain ⟨y0, y1, y2⟩ := h1.box3 1 rfl
  by_cases b1 : isMod p n T ms = true
  case neg =>
    have b1 : isMod p n T ms = false := by simpa using b1
    have b0 : moOk p n T ms X = false := by rw [moOk, b1, Bool.false_and]
    rw [show moP p n T ms X = 0 by simp [moP, b0], show moR p n T ms X = 0 by simp [moR, b0], show moD p n T ms X = [] by simp [moD, b0], b0]
    have B1 := Lib.hid b1
    clear b1 b0
    go_enter Try.func30, Try.ntmps30
    go_wp2_with fail
    refine (HI.out _ (h1.roInts 4 rfl) (h1.fact 3 rfl)).mono ?_
    rintro (e : Ending) w1 ⟨rfl, hb1⟩
    replace h1 := h1.on hb1
    rw [B1.out]
    clear hb1 y0 y1 y2
    obtain ⟨z0, z1, z2, z3⟩ := h1.box4 0 rfl
    have f0 := h1.free 0 rfl 0
    have f1 := h1.free 0 rfl 1
    have f2 := h1.free 0 rfl 2
    have f3 := h1.free 0 rfl 3
    have h4 := (((h1.setBox 0 rfl 0 (.int .i64 0)).setBox 0 rfl 1 (.int .i64 0)).setBox 0 rfl 2 (.int .i64 0)).setBox 0 rfl 3 (.slice none 0 0)
    obtain ⟨r0, r1, r2, r3⟩ := h4.box4 0 rfl
    go_wp2
    refine bodyPost_ret (v := .tuple #[.agg #[.int .i64 0, .int .i64 0, .int .i64 0, .slice none 0 0], .bool false]) (by simp [results, Try.results30, go_sem, r0, r1, r2, r3]) rfl ⟨_, rfl, Own.nil, h4.below⟩
  obtain ⟨N, s, m0, l, hn, hms, hl, hs, hs30, hA, hM⟩ := isMod_spec b1
  obtain ⟨N', eN, g1, kT, g3, g4, g5, g6⟩ := algOk_spec hA
  have eN' : N = N' := by omega
  subst eN'
  clear eN
  have hp2 : 0 ≤ p := by omega
  have B1 := Lib.hid b1
  by_cases b2 : vecOk p n X = true
  case neg =>
    have b2 : vecOk p n X = false := by simpa using b2
    have b0 : moOk p n T ms X = false := by rw [moOk, b2, Bool.and_false]
    rw [show moP p n T ms X = 0 by simp [moP, b0], show moR p n T ms X = 0 by simp [moR, b0], show moD p n T ms X = [] by simp [moD, b0], b0]
    have B2 := Lib.hid b2
    clear b1 b2 b0 hn hms hl hs hM hA kT
    go_enter Try.func30, Try.ntmps30
    go_wp2_with fail
    refine (HI.out _ (h1.roInts 4 rfl) (h1.fact 3 rfl)).mono ?_
    rintro (e : Ending) w1 ⟨rfl, hb1⟩
    replace h1 := h1.on hb1
    rw [B1.out]
    clear hb1 y0 y1 y2
    obtain ⟨y0, y1, y2⟩ := h1.box3 1 rfl
    go_wp2_with fail
    refine (isElement_any p n (.slice A T.length k) _ A T.length k X _ rfl (h1.roInts 2 rfl) hp2 hp0).mono ?_
    rintro (e : Ending) w2 ⟨rfl, hb1⟩
    replace h1 := h1.on hb1
    rw [B2.out]
    clear hb1 y0 y1 y2
    obtain ⟨z0, z1, z2, z3⟩ := h1.box4 0 rfl
    have f0 := h1.free 0 rfl 0
    have f1 := h1.free 0 rfl 1
    have f2 := h1.free 0 rfl 2
    have f3 := h1.free 0 rfl 3
    have h4 := (((h1.setBox 0 rfl 0 (.int .i64 0)).setBox 0 rfl 1 (.int .i64 0)).setBox 0 rfl 2 (.int .i64 0)).setBox 0 rfl 3 (.slice none 0 0)
    obtain ⟨r0, r1, r2, r3⟩ := h4.box4 0 rfl
    go_wp2
    refine bodyPost_ret (v := .tuple #[.agg #[.int .i64 0, .int .i64 0, .int .i64 0, .slice none 0 0], .bool false]) (by simp [results, Try.results30, go_sem, r0, r1, r2, r3]) rfl ⟨_, rfl, Own.nil, h4.below⟩
  have b0 : moOk p n T ms X = true := by rw [moOk, b1, b2]; rfl
  have B2 := Lib.hid b2
  have hxl : (X.length : Int) = n ∧ resid p X = true := by simpa [vecOk] using b2
  obtain ⟨hxl, hxr⟩ := hxl
  have hxn : X.length = N := by omega
  obtain ⟨E, hE⟩ : ∃ E, E = moD p n T ms X := ⟨_, rfl⟩
  have hr0 : (mAt ms 0).r = s := by rw [hms]; exact hs
  have hE2 : E = sumMTo p (s * s) X ((m0 :: l).map Mt.d) N := by
    rw [hE, moD, if_pos b0, hr0, hn, hms, Int.toNat_natCast, Int.toNat_natCast]
  rw [show moP p n T ms X = p by simp [moP, b0], show moR p n T ms X = s by rw [moR, if_pos b0]; exact hr0, ← hE, b0]
  have HS := Lib.hid (show ∀ (W : World) (x : Value), MatsR W (.slice A2 ms.length k2) ms → Ints W x X → Calls Try.prog 78 #[.slice A2 ms.length k2, x] W (RetMat W p s s E) from fun W x a2 a3 => by subst hms; rw [hE2]; exact sumMatrices_any p N s _ x X m0 l W a2 a3 hl hxn g1 (by omega) hM g6 hxr)
  clear hE hE2 b0 b1 b2 hl hs hM hA kT hxl hxn hms hr0 hn
  go_enter Try.func30, Try.ntmps30
  go_wp2_with fail
  refine (HI.out _ (h1.roInts 4 rfl) (h1.fact 3 rfl)).mono ?_
  rintro (e : Ending) w1 ⟨rfl, hb1⟩
  replace h1 := h1.on hb1
  rw [B1.out]
  clear hb1 y0 y1 y2
  obtain ⟨y0, y1, y2⟩ := h1.box3 1 rfl
  go_wp2_with fail
  refine (isElement_any p n (.slice A T.length k) _ A T.length k X _ rfl (h1.roInts 2 rfl) hp2 hp0).mono ?_
  rintro (e : Ending) w2 ⟨rfl, hb1⟩
  replace h1 := h1.on hb1
  rw [B2.out]
  clear hb1 y0 y1 y2
  obtain ⟨y0, y1, y2⟩ := h1.box3 1 rfl
  go_wp2_with fail
  refine (HS.out _ _ (h1.fact 3 rfl) (h1.roInts 2 rfl)).mono ?_
  rintro (e : Ending) w3 ⟨u3, rfl, ho, hb3⟩
  obtain ⟨A7, n7, c7, rfl⟩ := ho.slice
  have h2 := h1.pushOwn hb3 ho
  clear y0 y1 y2 ho hb3 h1
  obtain ⟨z0, z1, z2, z3⟩ := h2.box4 1 rfl
  have f0 := h2.free 1 rfl 0
  have f1 := h2.free 1 rfl 1
  have f2 := h2.free 1 rfl 2
  have f3 := h2.free 1 rfl 3
  have h4 := (((h2.setBox 1 rfl 0 (.int .i64 p)).setBox 1 rfl 1 (.int .i64 s)).setBox 1 rfl 2 (.int .i64 s)).setBox 1 rfl 3 (.slice A7 n7 c7)
  obtain ⟨r0, r1, r2, r3⟩ := h4.box4 1 rfl
  go_wp2
  refine bodyPost_ret (v := .tuple #[.agg #[.int .i64 p, .int .i64 s, .int .i64 s, .slice A7 n7 c7], .bool true]) (by simp [results, Try.results30, go_sem, r0, r1, r2, r3]) rfl ⟨_, rfl, h4.own 0 rfl, h4.below⟩
end Go.Proofs.Ytphnlmgliaelpaa
