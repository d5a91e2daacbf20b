/- IsSolvable and ClassOf of both programs. -/
import Derived.Test.YtphnlmgliaelpaaSerD
namespace Go.Proofs.Ytphnlmgliaelpaa
set_option maxRecDepth 100000
open Go.RowKit

def lastS (l : List (List (List Int))) : List (List Int) := l.getLastD []
theorem serMs_last (p : Int) (n : Nat) {l : List (List (List Int))} (h : l ≠ []) : ∃ j, (serMs p n l).length = j + 1 ∧ (serMs p n l)[j]? = some (spMt p n (lastS l)) := by
  refine ⟨l.length - 1, ?_, ?_⟩
  · have := List.length_pos_iff.2 h
    rw [length_serMs]; omega
  · rw [serMs, List.getElem?_map, ← List.getLast?_eq_getElem?, List.getLast?_eq_some_getLast h, lastS, List.getLastD_eq_getLast?, List.getLast?_eq_some_getLast h]
    rfl
def solvable (p n : Int) (T : List Int) : Bool := algOk p n T && decide ((lastS (serL false T n.toNat p)).length = 0)
def classN (p n : Int) (T : List Int) : Int := if algOk p n T = true ∧ (lastS (serL true T n.toNat p)).length = 0 then (serL true T n.toNat p).length - 1 else -1
def RetI (w : World) (x : Int) (e : Ending) (w' : World) : Prop := e = .returned (.int .i64 x) ∧ Below w.heap.size w w'

set_option maxHeartbeats 4000000 in
theorem IsSolvableS_any (p n : Int) (t : Value) (T : List Int) (w : World) (ht : Ints w t T) : Calls Try.prog 46 #[.agg #[.int .i64 p, .int .i64 n, t]] w (RetBool w (solvable p n T)) := by
  have h1 := (St.start1 ht).box [.int .i64 p, .int .i64 n, t] 30
  obtain ⟨A, c, rfl, _, _, _⟩ := id ht
  clear ht
  by_cases b1 : algOk p n T = true
  · obtain ⟨m, rfl, k1, kT, k3, k4, k5, k6⟩ := algOk_spec b1
    have KT := Lib.hid kT
    clear kT
    obtain ⟨l, hl⟩ : ∃ l, l = (lastS (serL false T m p)).length := ⟨_, rfl⟩
    obtain ⟨j, hj, hm⟩ := serMs_last p m (serL_ne false T m p)
    have hj2 : (serL false T m p).length = j + 1 := by rw [← hj, length_serMs]
    have hjb := length_serL false T m p
    obtain ⟨V, hV⟩ : ∃ V, V = solvable p m T := ⟨_, rfl⟩
    rw [← hV]
    rw [solvable, b1, Bool.true_and, Int.toNat_natCast, ← hl] at hV
    obtain ⟨G, hG⟩ : ∃ G, G = serMs p m (serL false T m p) := ⟨_, rfl⟩
    rw [← hG] at hj hm
    have HG := Lib.hid hG.symm
    obtain ⟨X, hX⟩ : ∃ X, X = lastS (serL false T m p) := ⟨_, rfl⟩
    rw [← hX] at hl hm
    have hXr : (spMt p m X).r = (l : Int) := by rw [hl]; rfl
    have Hj := Lib.hid hj
    have Hm := Lib.hid hm
    have HX := Lib.hid hXr
    have HU := Lib.hid (fun W => l2All_any p m A T.length c W k6 (by omega))
    have HV := Lib.hid hV
    have hwr : Hid (IntKind.i64.wrap (((j + 1 : Nat) : Int) - 1) = (j : Int)) := by show _ = _; rw [wrap_ok (by omega) (by omega)]; omega
    have hjn : j ≤ 28 := by omega
    clear hV hG hl hX hXr hj hm hj2 hjb
    go_enter Try.func46, Try.ntmps46
    go_wp2_with fail
    refine (AlgebraOkS_any p m _ T _ (h1.roInts 1 rfl)).mono ?_
    rintro e wn ⟨rfl, hb1⟩
    replace h1 := h1.on hb1
    clear hb1
    obtain ⟨z0, z1, z2⟩ := h1.box3 0 rfl
    go_wp2
    go_region_held3 (fun w' => w'.cell? ⟨w.heap.size, 0, none⟩ = some (.int .i64 p) ∧ w'.cell? ⟨w.heap.size, 1, none⟩ = some (.int .i64 m) ∧ w'.cell? ⟨w.heap.size, 2, none⟩ = some (.slice A T.length c))
      (first | exact ⟨z0, z1, z2⟩ | exact ⟨za0, za1, za2⟩ | exact ⟨zb0, zb1, zb2⟩)
      (first
        | (go_at_call 97; refine (HU.out _).mono ?_; rintro (e : Ending) w2 ⟨u, rfl, ho2, hb2⟩; obtain ⟨A6, c6, rfl, _, _, _⟩ := id ho2.ints; have h2 := h1.drew.pushOwn hb2 ho2; obtain ⟨za0, za1, za2⟩ := h2.box3 1 rfl)
        | (go_at_call 96; refine (l3Series0_st p m 1 _ _ T h2 rfl KT.out k1 k6 k3).mono ?_; rintro (e : Ending) w3 ⟨u3, us, rfl, hul, h3⟩; obtain ⟨zb0, zb1, zb2⟩ := h3.box3 1 rfl))
    rw [HG.out] at hul h3
    obtain ⟨A5, c5, rfl, _, _, _⟩ := id (h3.mats 0 rfl hul)
    obtain ⟨g, rfl⟩ := h3.vecSome 0 rfl (by rw [Hj.out]; omega)
    obtain ⟨u5, hu5⟩ : ∃ u5, us[j]? = some u5 := ⟨_, List.getElem?_eq_getElem (by rw [hul, Hj.out]; omega)⟩
    obtain ⟨x0, x1, x2, x3⟩ := h3.matAt 0 rfl rfl j hu5 Hm.out
    rw [HX.out] at x1
    rw [Hj.out] at h3 ⊢
    have hw := hwr.out
    have i1 : (j : Int) < ((j + 1 : Nat) : Int) := by omega
    clear z0 z1 z2 za0 za1 za2 zb0 zb1 zb2 h1 h2 x0 x2 x3
    by_cases e0 : l = 0
    · subst e0
      go_wp2
      go_ret
      exact ⟨ret_bool (by rw [HV.out]; simp), h3.below⟩
    · have e1 : ((l : Int) == 0) = false := by rw [beq_eq_false_iff_ne]; omega
      have e2 : ¬ ((l : Int) = 0) := by omega
      go_wp2
      go_ret
      exact ⟨ret_bool (by rw [HV.out]; simp [e0]), h3.below⟩
  · have b1 : algOk p n T = false := by simpa using b1
    rw [show solvable p n T = false by simp [solvable, b1]]
    go_enter Try.func46, Try.ntmps46
    go_wp2_with fail
    refine (AlgebraOkS_any p n _ T _ (h1.roInts 1 rfl)).mono ?_
    rintro e wn ⟨rfl, hb1⟩
    replace h1 := h1.on hb1
    clear hb1
    go_wp2
    go_ret
    exact ⟨rfl, h1.below⟩

set_option maxHeartbeats 4000000 in
theorem IsSolvableI_any (p n : Int) (t : Value) (T : List Int) (w : World) (ht : Ints w t T) (hp : p ≤ 9223372036854775807) : Calls Try.prog 47 #[.agg #[.int .i64 p, .int .i64 n, t]] w (RetBool w (solvable p n T)) := by
  have h1 := (St.start1 ht).box [.int .i64 p, .int .i64 n, t] 30
  obtain ⟨A, c, rfl, _, _, _⟩ := id ht
  clear ht
  by_cases b1 : algOk p n T = true
  · obtain ⟨m, rfl, k1, kT, k3, k4, k5, k6⟩ := algOk_spec b1
    have KT := Lib.hid kT
    clear kT
    obtain ⟨l, hl⟩ : ∃ l, l = (lastS (serL false T m p)).length := ⟨_, rfl⟩
    obtain ⟨j, hj, hm⟩ := serMs_last p m (serL_ne false T m p)
    have hj2 : (serL false T m p).length = j + 1 := by rw [← hj, length_serMs]
    have hjb := length_serL false T m p
    obtain ⟨V, hV⟩ : ∃ V, V = solvable p m T := ⟨_, rfl⟩
    rw [← hV]
    rw [solvable, b1, Bool.true_and, Int.toNat_natCast, ← hl] at hV
    obtain ⟨G, hG⟩ : ∃ G, G = serMod false p m T := ⟨_, rfl⟩
    rw [← serMod_yes (k := false) b1, ← hG] at hj hm
    obtain ⟨X, hX⟩ : ∃ X, X = lastS (serL false T m p) := ⟨_, rfl⟩
    rw [← hX] at hl hm
    have hXr : (spMt p m X).r = (l : Int) := by rw [hl]; rfl
    have Hj := Lib.hid hj
    have Hm := Lib.hid hm
    have HX := Lib.hid hXr
    have HV := Lib.hid hV
    have HD := DerivedSeriesI_any p m (.slice A T.length c) T
    rw [← hG] at HD
    replace HD := Lib.hid HD
    have hwr : Hid (IntKind.i64.wrap (((j + 1 : Nat) : Int) - 1) = (j : Int)) := by show _ = _; rw [wrap_ok (by omega) (by omega)]; omega
    have hjn : j ≤ 28 := by omega
    clear hV hG hl hX hXr hj hm hj2 hjb b1
    obtain ⟨z0, z1, z2⟩ := h1.box3 0 rfl
    go_enter Try.func47, Try.ntmps47
    go_wp2_with fail
    refine (HD.out _ (h1.roInts 1 rfl) hp).mono ?_
    rintro (e : Ending) w3 ⟨u3, us, rfl, hul, hok, hnd, hb3⟩
    have h3 := h1.pushMats hb3 hok hnd
    obtain ⟨A5, c5, rfl, _, _, _⟩ := id (h3.mats 0 rfl hul)
    obtain ⟨g, rfl⟩ := h3.vecSome 0 rfl (by rw [Hj.out]; omega)
    obtain ⟨u5, hu5⟩ : ∃ u5, us[j]? = some u5 := ⟨_, List.getElem?_eq_getElem (by rw [hul, Hj.out]; omega)⟩
    obtain ⟨x0, x1, x2, x3⟩ := h3.matAt 0 rfl rfl j hu5 Hm.out
    rw [HX.out] at x1
    rw [Hj.out] at h3 ⊢
    have hw := hwr.out
    have i1 : (j : Int) < ((j + 1 : Nat) : Int) := by omega
    have i2 : (0 : Int) < ((j + 1 : Nat) : Int) := by omega
    have i3 : ((j : Int) + 1 == 0) = false := by rw [beq_eq_false_iff_ne]; omega
    clear z0 z1 z2 h1 x0 x2 x3 hok hnd hb3
    by_cases e0 : l = 0
    · subst e0
      go_wp2
      go_ret
      exact ⟨ret_bool (by rw [HV.out]; simp), h3.below⟩
    · have e1 : ((l : Int) == 0) = false := by rw [beq_eq_false_iff_ne]; omega
      have e2 : ¬ ((l : Int) = 0) := by omega
      go_wp2
      go_ret
      exact ⟨ret_bool (by rw [HV.out]; simp [e0]), h3.below⟩
  · have b1 : algOk p n T = false := by simpa using b1
    rw [show solvable p n T = false by simp [solvable, b1]]
    have HD := DerivedSeriesI_any p n (.slice A T.length c) T
    rw [serMod_no b1] at HD
    replace HD := Lib.hid HD
    clear b1
    obtain ⟨z0, z1, z2⟩ := h1.box3 0 rfl
    go_enter Try.func47, Try.ntmps47
    go_wp2_with fail
    refine (HD.out _ (h1.roInts 1 rfl) hp).mono ?_
    rintro (e : Ending) w3 ⟨u3, us, rfl, hul, hok, hnd, hb3⟩
    have h3 := h1.pushMats hb3 hok hnd
    obtain ⟨A5, c5, rfl, _, _, _⟩ := id (h3.mats 0 rfl hul)
    clear z0 z1 z2 hok hnd hb3
    go_wp2
    go_ret
    exact ⟨rfl, h3.below⟩

set_option maxHeartbeats 4000000 in
theorem ClassOfS_any (p n : Int) (t : Value) (T : List Int) (w : World) (ht : Ints w t T) : Calls Try.prog 50 #[.agg #[.int .i64 p, .int .i64 n, t]] w (RetI w (classN p n T)) := by
  have h1 := (St.start1 ht).box [.int .i64 p, .int .i64 n, t] 30
  obtain ⟨A, c, rfl, _, _, _⟩ := id ht
  clear ht
  by_cases b1 : algOk p n T = true
  · obtain ⟨m, rfl, k1, kT, k3, k4, k5, k6⟩ := algOk_spec b1
    have KT := Lib.hid kT
    clear kT
    obtain ⟨l, hl⟩ : ∃ l, l = (lastS (serL true T m p)).length := ⟨_, rfl⟩
    obtain ⟨j, hj, hm⟩ := serMs_last p m (serL_ne true T m p)
    have hj2 : (serL true T m p).length = j + 1 := by rw [← hj, length_serMs]
    have hjb := length_serL true T m p
    obtain ⟨V, hV⟩ : ∃ V, V = classN p m T := ⟨_, rfl⟩
    rw [← hV]
    replace hV : V = if l = 0 then (j : Int) else -1 := by rw [hV, classN, Int.toNat_natCast, ← hl, hj2]; simp only [b1, true_and]; split <;> omega
    obtain ⟨G, hG⟩ : ∃ G, G = serMs p m (serL true T m p) := ⟨_, rfl⟩
    rw [← hG] at hj hm
    have HG := Lib.hid hG.symm
    obtain ⟨X, hX⟩ : ∃ X, X = lastS (serL true T m p) := ⟨_, rfl⟩
    rw [← hX] at hl hm
    have hXr : (spMt p m X).r = (l : Int) := by rw [hl]; rfl
    have Hj := Lib.hid hj
    have Hm := Lib.hid hm
    have HX := Lib.hid hXr
    have HU := Lib.hid (fun W => l2All_any p m A T.length c W k6 (by omega))
    have HV := Lib.hid hV
    have hwr : Hid (IntKind.i64.wrap (((j + 1 : Nat) : Int) - 1) = (j : Int)) := by show _ = _; rw [wrap_ok (by omega) (by omega)]; omega
    have hjn : j ≤ 28 := by omega
    clear hV hG hl hX hXr hj hm hj2 hjb
    go_enter Try.func50, Try.ntmps50
    go_wp2_with fail
    refine (AlgebraOkS_any p m _ T _ (h1.roInts 1 rfl)).mono ?_
    rintro e wn ⟨rfl, hb1⟩
    replace h1 := h1.on hb1
    clear hb1
    obtain ⟨z0, z1, z2⟩ := h1.box3 0 rfl
    go_wp2
    go_region_held3 (fun w' => w'.cell? ⟨w.heap.size, 0, none⟩ = some (.int .i64 p) ∧ w'.cell? ⟨w.heap.size, 1, none⟩ = some (.int .i64 m) ∧ w'.cell? ⟨w.heap.size, 2, none⟩ = some (.slice A T.length c))
      (first | exact ⟨z0, z1, z2⟩ | exact ⟨za0, za1, za2⟩ | exact ⟨zb0, zb1, zb2⟩)
      (first
        | (go_at_call 97; refine (HU.out _).mono ?_; rintro (e : Ending) w2 ⟨u, rfl, ho2, hb2⟩; obtain ⟨A6, c6, rfl, _, _, _⟩ := id ho2.ints; have h2 := h1.drew.pushOwn hb2 ho2; obtain ⟨za0, za1, za2⟩ := h2.box3 1 rfl)
        | (go_at_call 96; refine (l3Series1_st p m 1 _ _ T h2 rfl KT.out k1 k6 k3).mono ?_; rintro (e : Ending) w3 ⟨u3, us, rfl, hul, h3⟩; obtain ⟨zb0, zb1, zb2⟩ := h3.box3 1 rfl))
    rw [HG.out] at hul h3
    obtain ⟨A5, c5, rfl, _, _, _⟩ := id (h3.mats 0 rfl hul)
    obtain ⟨g, rfl⟩ := h3.vecSome 0 rfl (by rw [Hj.out]; omega)
    obtain ⟨u5, hu5⟩ : ∃ u5, us[j]? = some u5 := ⟨_, List.getElem?_eq_getElem (by rw [hul, Hj.out]; omega)⟩
    obtain ⟨x0, x1, x2, x3⟩ := h3.matAt 0 rfl rfl j hu5 Hm.out
    rw [HX.out] at x1
    rw [Hj.out] at h3 ⊢
    have hw := hwr.out
    have i1 : (j : Int) < ((j + 1 : Nat) : Int) := by omega
    clear z0 z1 z2 za0 za1 za2 zb0 zb1 zb2 h1 h2 x0 x2 x3
    by_cases e0 : l = 0
    · subst e0
      go_wp2
      go_ret
      exact ⟨by rw [HV.out]; simp, h3.below⟩
    · have e1 : ((l : Int) == 0) = false := by rw [beq_eq_false_iff_ne]; omega
      have e2 : ¬ ((l : Int) = 0) := by omega
      have e3 : (0 : Int) < l := by omega
      have e4 : ((l : Int) != 0) = true := by rw [bne_iff_ne]; omega
      go_wp2
      go_ret
      exact ⟨by rw [HV.out]; simp [e0], h3.below⟩
  · have b1 : algOk p n T = false := by simpa using b1
    rw [show classN p n T = (-1) by simp [classN, b1]]
    go_enter Try.func50, Try.ntmps50
    go_wp2_with fail
    refine (AlgebraOkS_any p n _ T _ (h1.roInts 1 rfl)).mono ?_
    rintro e wn ⟨rfl, hb1⟩
    replace h1 := h1.on hb1
    clear hb1
    go_wp2
    go_ret
    exact ⟨rfl, h1.below⟩

set_option maxHeartbeats 4000000 in
theorem ClassOfI_any (p n : Int) (t : Value) (T : List Int) (w : World) (ht : Ints w t T) (hp : p ≤ 9223372036854775807) : Calls Try.prog 51 #[.agg #[.int .i64 p, .int .i64 n, t]] w (RetI w (classN p n T)) := by
  have h1 := (St.start1 ht).box [.int .i64 p, .int .i64 n, t] 30
  obtain ⟨A, c, rfl, _, _, _⟩ := id ht
  clear ht
  by_cases b1 : algOk p n T = true
  · obtain ⟨m, rfl, k1, kT, k3, k4, k5, k6⟩ := algOk_spec b1
    have KT := Lib.hid kT
    clear kT
    obtain ⟨l, hl⟩ : ∃ l, l = (lastS (serL true T m p)).length := ⟨_, rfl⟩
    obtain ⟨j, hj, hm⟩ := serMs_last p m (serL_ne true T m p)
    have hj2 : (serL true T m p).length = j + 1 := by rw [← hj, length_serMs]
    have hjb := length_serL true T m p
    obtain ⟨V, hV⟩ : ∃ V, V = classN p m T := ⟨_, rfl⟩
    rw [← hV]
    replace hV : V = if l = 0 then (j : Int) else -1 := by rw [hV, classN, Int.toNat_natCast, ← hl, hj2]; simp only [b1, true_and]; split <;> omega
    obtain ⟨G, hG⟩ : ∃ G, G = serMod true p m T := ⟨_, rfl⟩
    rw [← serMod_yes (k := true) b1, ← hG] at hj hm
    obtain ⟨X, hX⟩ : ∃ X, X = lastS (serL true T m p) := ⟨_, rfl⟩
    rw [← hX] at hl hm
    have hXr : (spMt p m X).r = (l : Int) := by rw [hl]; rfl
    have Hj := Lib.hid hj
    have Hm := Lib.hid hm
    have HX := Lib.hid hXr
    have HV := Lib.hid hV
    have HD := LowerSeriesI_any p m (.slice A T.length c) T
    rw [← hG] at HD
    replace HD := Lib.hid HD
    have hwr : Hid (IntKind.i64.wrap (((j + 1 : Nat) : Int) - 1) = (j : Int)) := by show _ = _; rw [wrap_ok (by omega) (by omega)]; omega
    have hjn : j ≤ 28 := by omega
    clear hV hG hl hX hXr hj hm hj2 hjb b1
    obtain ⟨z0, z1, z2⟩ := h1.box3 0 rfl
    go_enter Try.func51, Try.ntmps51
    go_wp2_with fail
    refine (HD.out _ (h1.roInts 1 rfl) hp).mono ?_
    rintro (e : Ending) w3 ⟨u3, us, rfl, hul, hok, hnd, hb3⟩
    have h3 := h1.pushMats hb3 hok hnd
    obtain ⟨A5, c5, rfl, _, _, _⟩ := id (h3.mats 0 rfl hul)
    obtain ⟨g, rfl⟩ := h3.vecSome 0 rfl (by rw [Hj.out]; omega)
    obtain ⟨u5, hu5⟩ : ∃ u5, us[j]? = some u5 := ⟨_, List.getElem?_eq_getElem (by rw [hul, Hj.out]; omega)⟩
    obtain ⟨x0, x1, x2, x3⟩ := h3.matAt 0 rfl rfl j hu5 Hm.out
    rw [HX.out] at x1
    rw [Hj.out] at h3 ⊢
    have hw := hwr.out
    have i1 : (j : Int) < ((j + 1 : Nat) : Int) := by omega
    have i2 : (0 : Int) < ((j + 1 : Nat) : Int) := by omega
    have i3 : ((j : Int) + 1 == 0) = false := by rw [beq_eq_false_iff_ne]; omega
    clear z0 z1 z2 h1 x0 x2 x3 hok hnd hb3
    by_cases e0 : l = 0
    · subst e0
      go_wp2
      go_ret
      exact ⟨by rw [HV.out]; simp, h3.below⟩
    · have e1 : ((l : Int) == 0) = false := by rw [beq_eq_false_iff_ne]; omega
      have e2 : ¬ ((l : Int) = 0) := by omega
      have e3 : (0 : Int) < l := by omega
      have e4 : ((l : Int) != 0) = true := by rw [bne_iff_ne]; omega
      go_wp2
      go_ret
      exact ⟨by rw [HV.out]; simp [e0], h3.below⟩
  · have b1 : algOk p n T = false := by simpa using b1
    rw [show classN p n T = (-1) by simp [classN, b1]]
    have HD := LowerSeriesI_any p n (.slice A T.length c) T
    rw [serMod_no b1] at HD
    replace HD := Lib.hid HD
    clear b1
    obtain ⟨z0, z1, z2⟩ := h1.box3 0 rfl
    go_enter Try.func51, Try.ntmps51
    go_wp2_with fail
    refine (HD.out _ (h1.roInts 1 rfl) hp).mono ?_
    rintro (e : Ending) w3 ⟨u3, us, rfl, hul, hok, hnd, hb3⟩
    have h3 := h1.pushMats hb3 hok hnd
    obtain ⟨A5, c5, rfl, _, _, _⟩ := id (h3.mats 0 rfl hul)
    clear z0 z1 z2 hok hnd hb3
    go_wp2
    go_ret
    exact ⟨rfl, h3.below⟩
end Go.Proofs.Ytphnlmgliaelpaa
