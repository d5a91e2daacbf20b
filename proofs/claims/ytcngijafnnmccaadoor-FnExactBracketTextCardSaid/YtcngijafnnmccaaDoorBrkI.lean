/- BracketText of both sides. -/
import Derived.Test.YtcngijafnnmccaaDoorBrkS
import Derived.Test.YtcngijafnnmccaaDoorRegX
namespace Go.Proofs.YtcngijafnnmccaaDoor
set_option maxRecDepth 100000
open Go.RowKit
namespace Words

/-- The answer for all lists. -/
def txtO (l : List Int) : ByteArray := if isLyn l = true then txt l else ⟨#[]⟩

set_option maxHeartbeats 1000000 in
theorem BracketTextS_any (v : Value) (l : List Int) (w : World) (hv : Ints w v l) :
    Calls Tryd.prog 8 #[v] w fun e w' => e = .returned (.string (txtO l)) ∧ Below w.heap.size w w' := by
  by_cases h : isLyn l = true
  · have e : txtO l = txt l := by unfold txtO; rw [if_pos h]
    rw [e]
    have HC := Lib.hid (fun (W : World) (x : Ints W v l) => l11Text_any l.length l (Nat.le_refl _) h v W x)
    have HI := Lib.hid (IsLyndonS_any v l w hv)
    rw [h] at HI
    obtain ⟨T, hT⟩ : ∃ T, T = txt l := ⟨_, rfl⟩
    rw [← hT] at HC ⊢
    clear hT e h
    go_enter Tryd.func8, Tryd.ntmps8
    go_wp2_with fail
    refine HI.out.mono ?_
    rintro (e : Ending) w3 ⟨rfl, n1, hw⟩
    have hb3 := below_of_drewN hw
    clear hw
    go_wp2_with fail
    refine (HC.out _ (hv.below hb3)).mono ?_
    rintro (e : Ending) w4 ⟨rfl, hb4⟩
    go_wp2
    go_ret
    exact ⟨rfl, hb3.trans (hb4.mono hb3.size)⟩
  · have e : txtO l = ⟨#[]⟩ := by unfold txtO; rw [if_neg h]
    rw [e]
    have h0 : isLyn l = false := by simpa using h
    have HI := Lib.hid (IsLyndonS_any v l w hv)
    rw [h0] at HI
    clear e h h0
    go_enter Tryd.func8, Tryd.ntmps8
    go_wp2_with fail
    refine HI.out.mono ?_
    rintro (e : Ending) w3 ⟨rfl, n1, hw⟩
    have hb3 := below_of_drewN hw
    clear hw
    go_wp2
    go_ret
    exact ⟨rfl, hb3⟩

set_option maxHeartbeats 4000000 in
theorem bracketText_lyn : ∀ (m : Nat) (l : List Int), l.length ≤ m → isLyn l = true → ∀ (v : Value) (w : World), Ints w v l →
    Calls Tryd.prog 10 #[v] w fun e w' => e = .returned (.string (txt l)) ∧ Below w.heap.size w w' := by
  intro m
  induction m with
  | zero => intro l hl h; exact absurd h (by rw [List.eq_nil_of_length_eq_zero (Nat.le_zero.1 hl)]; decide)
  | succ m ih =>
    intro l hl h v w hv
    have h8 := len_of_word h
    have hwd := h
    unfold isLyn at hwd
    rw [Bool.and_eq_true] at hwd
    have HFr := Lib.hid (isFreeWord_any v l w hv)
    have HLy := Lib.hid (isLyndonI_any v l w hv)
    rw [hwd.1] at HFr
    rw [hwd.2] at HLy
    by_cases h1 : l.length = 1
    · obtain ⟨x, rfl⟩ : ∃ x, l = [x] := by
        match l, h1 with
        | [x], _ => exact ⟨x, rfl⟩
      have hx : inR x 0 3 = true := by
        unfold isLyn word letters at h
        simp at h
        exact h.1.2
      simp [inR] at hx
      rw [txt_one rfl]
      obtain ⟨A, c, rfl, _, _, h3⟩ := hv
      obtain ⟨b, off, rfl, hc⟩ := h3 (by simp)
      have e1 := hc 0 x rfl
      have HF := Lib.hid (fun W => FormatIntI_any x hx.1 hx.2 W)
      obtain ⟨D, hD⟩ : ∃ D, D = dig x := ⟨_, rfl⟩
      rw [← hD] at HF ⊢
      clear hD hc h3 h hl h8 ih h1 hx hwd
      simp only [List.length_singleton] at HFr HLy
      simp only [List.length_singleton, Nat.add_zero] at e1 ⊢
      go_enter Tryd.func10, Tryd.ntmps10
      go_wp2_with (first
        | (go_at_call 33; refine HFr.out.mono ?_; rintro e w' ⟨rfl, rfl⟩)
        | (go_at_call 34; refine HLy.out.mono ?_; rintro e w' ⟨rfl, rfl⟩)
        | (go_at_call 35; refine (HF.out _).mono ?_; rintro e w' ⟨rfl, rfl⟩))
      go_ret
      exact ⟨rfl, Below.refl _ _⟩
    · have h2 : 2 ≤ l.length := by
        have := h
        unfold isLyn word at this
        simp [inR] at this
        omega
      obtain ⟨k1, k2⟩ := cut_lyn h2 h
      obtain ⟨hc1, hc2⟩ := cutPlace_bd l h2
      have HT := sums_cut h2 (by omega)
      have hi1 := ih (l.take (cutPlace l)) (by rw [List.length_take]; omega) k1
      have hi2 := ih (l.drop (cutPlace l)) (by rw [List.length_drop]; omega) k2
      have HC := Lib.hid (cutAt_any v l w hv h2 (by omega))
      obtain ⟨T, hT⟩ : ∃ T, T = txt l := ⟨_, rfl⟩
      rw [← hT] at HT ⊢
      obtain ⟨A, c, rfl, -, -, -⟩ := id hv
      obtain ⟨k, hk⟩ : ∃ k, k = cutPlace l := ⟨_, rfl⟩
      rw [← hk] at HC HT hi1 hi2 hc1 hc2
      obtain ⟨hr1, hv1⟩ := cutTo hv k (by omega)
      obtain ⟨A', hr2, hv2⟩ := cutFrom hv k (by omega)
      obtain ⟨lt, hlt⟩ : ∃ lt, lt = l.take k := ⟨_, rfl⟩
      obtain ⟨ld, hld⟩ : ∃ ld, ld = l.drop k := ⟨_, rfl⟩
      rw [← hlt, ← hld] at HT
      rw [← hlt] at hi1 hv1
      rw [← hld] at hi2 hv2
      obtain ⟨T1, hT1⟩ : ∃ T1, T1 = txt lt := ⟨_, rfl⟩
      obtain ⟨T2, hT2⟩ : ∃ T2, T2 = txt ld := ⟨_, rfl⟩
      rw [← hT1] at HT hi1
      rw [← hT2] at HT hi2
      have H1 := Lib.hid hi1
      have H2 := Lib.hid hi2
      have hL1 : ¬ ((l.length : Int) = 1) := by omega
      obtain ⟨S1, S2, S3, f1, f2, f3, f4⟩ := HT
      obtain ⟨L, hL⟩ : ∃ L, L = l.length := ⟨_, rfl⟩
      rw [← hL] at HC HFr HLy hr1 hr2 hv2 hL1 hc2 ⊢
      have hL8 : L ≤ 8 := by omega
      clear hT hlt hld hT1 hT2 hi1 hi2 ih h hl h8 h1 h2 k1 k2 hv hL hk hwd
      go_enter Tryd.func10, Tryd.ntmps10
      go_upto_region 6 with (first
        | (go_at_call 33; refine HFr.out.mono ?_; rintro e w' ⟨rfl, rfl⟩)
        | (go_at_call 34; refine HLy.out.mono ?_; rintro e w' ⟨rfl, rfl⟩)
        | (go_at_call 36; refine HC.out.mono ?_; rintro e w' ⟨rfl, rfl⟩))
      refine wp_region_held_drew (S := fun w' => True) (by kernel_rfl) trivial (fun hHeld => ?_)
      have hb0 : Below w.heap.size w w.drew := below_of_drewN (n := 1) rfl
      have g1 := hv1.below hb0
      have g2 := hv2.below hb0
      obtain ⟨v0, hv0⟩ : ∃ v0, v0 = w.drew := ⟨_, rfl⟩
      rw [← hv0] at hb0 g1 g2 ⊢
      clear hv0 hv1 hv2
      refine anyH_take (v := ?_) 0 rfl (by kernel_rfl) (by kernel_rfl) (by kernel_rfl) (fun _ _ _ h => h) rfl ?_ hHeld ?_
      rotate_left
      · intro w' hSw
        go_simp
        try with_reducible rfl
      try simp only [Act.put, List.setIfInBounds_toArray, List.set_cons_zero, List.set_cons_succ]
      refine anyH_take (v := ?_) 1 rfl (by kernel_rfl) (by kernel_rfl) (by kernel_rfl) (fun _ _ _ h => h) rfl ?_ hHeld ?_
      rotate_left
      · intro w' hSw
        go_simp
        try with_reducible rfl
      try simp only [Act.put, List.setIfInBounds_toArray, List.set_cons_zero, List.set_cons_succ]
      refine anyH_take (v := ?_) 2 rfl (by kernel_rfl) (by kernel_rfl) (by kernel_rfl) (fun _ _ _ h => h) rfl ?_ hHeld ?_
      rotate_left
      · intro w' hSw
        go_simp
        try with_reducible rfl
      try simp only [Act.put, List.setIfInBounds_toArray, List.set_cons_zero, List.set_cons_succ]
      refine anyH_take (v := ?_) 6 rfl (by kernel_rfl) (by kernel_rfl) (by kernel_rfl) (fun _ _ _ h => h) rfl ?_ hHeld ?_
      rotate_left
      · intro w' hSw
        go_simp
        try with_reducible rfl
      try simp only [Act.put, List.setIfInBounds_toArray, List.set_cons_zero, List.set_cons_succ]
      refine anyH_take (v := ?_) 7 rfl (by kernel_rfl) (by kernel_rfl) (by kernel_rfl) (fun _ _ _ h => h) rfl ?_ hHeld ?_
      rotate_left
      · intro w' hSw
        go_simp
        try with_reducible rfl
      try simp only [Act.put, List.setIfInBounds_toArray, List.set_cons_zero, List.set_cons_succ]
      refine anyH_take (v := ?_) 8 rfl (by kernel_rfl) (by kernel_rfl) (by kernel_rfl) (fun _ _ _ h => h) rfl ?_ hHeld ?_
      rotate_left
      · intro w' hSw
        go_simp
        try with_reducible rfl
      try simp only [Act.put, List.setIfInBounds_toArray, List.set_cons_zero, List.set_cons_succ]
      refine wpAnyH_ready (rs := [3]) (by kernel_rfl) (by simp) ?_
      refine ready_cons rfl (fun K hK => ?_) AllReadyH.nil
      go_simp
      refine (H1.out _ _ g1).mono ?_
      rintro (e : Ending) w4 ⟨rfl, hb4⟩
      replace g2 := g2.below hb4
      show K _ _
      refine hK.out _ _ ?_ (fun hHeld => ?_)
      · exact trivial
      clear hK K
      try simp only [Act.put, List.setIfInBounds_toArray, List.set_cons_zero, List.set_cons_succ]
      refine anyH_take (v := ?_) 4 rfl (by kernel_rfl) (by kernel_rfl) (by kernel_rfl) (fun _ _ _ h => h) rfl ?_ hHeld ?_
      rotate_left
      · intro w' hSw
        go_simp
        try with_reducible rfl
      try simp only [Act.put, List.setIfInBounds_toArray, List.set_cons_zero, List.set_cons_succ]
      refine anyH_take (v := ?_) 5 rfl (by kernel_rfl) (by kernel_rfl) (by kernel_rfl) (fun _ _ _ h => h) rfl ?_ hHeld ?_
      rotate_left
      · intro w' hSw
        go_simp
        try with_reducible rfl
      try simp only [Act.put, List.setIfInBounds_toArray, List.set_cons_zero, List.set_cons_succ]
      refine wpAnyH_ready (rs := [9]) (by kernel_rfl) (by simp) ?_
      refine ready_cons rfl (fun K hK => ?_) AllReadyH.nil
      go_simp
      refine (H2.out _ _ g2).mono ?_
      rintro (e : Ending) w5 ⟨rfl, hb5⟩
      show K _ _
      refine hK.out _ _ ?_ (fun hHeld => ?_)
      · exact trivial
      clear hK K
      try simp only [Act.put, List.setIfInBounds_toArray, List.set_cons_zero, List.set_cons_succ]
      refine anyH_take (v := ?_) 10 rfl (by kernel_rfl) (by kernel_rfl) (by kernel_rfl) (fun _ _ _ h => h) rfl ?_ hHeld ?_
      rotate_left
      · intro w' hSw
        go_simp
        try with_reducible rfl
      try simp only [Act.put, List.setIfInBounds_toArray, List.set_cons_zero, List.set_cons_succ]
      refine anyH_take (v := ?_) 11 rfl (by kernel_rfl) (by kernel_rfl) (by kernel_rfl) (fun _ _ _ h => h) rfl ?_ hHeld ?_
      rotate_left
      · intro w' hSw
        go_simp
        try with_reducible rfl
      try simp only [Act.put, List.setIfInBounds_toArray, List.set_cons_zero, List.set_cons_succ]
      refine anyH_take (v := ?_) 12 rfl (by kernel_rfl) (by kernel_rfl) (by kernel_rfl) (fun _ _ _ h => h) rfl ?_ hHeld ?_
      rotate_left
      · intro w' hSw
        go_simp
        try with_reducible rfl
      try simp only [Act.put, List.setIfInBounds_toArray, List.set_cons_zero, List.set_cons_succ]
      refine wpAnyH_done (by kernel_rfl) ?_ _
      clear hHeld
      go_wp2
      go_ret
      exact ⟨rfl, hb0.trans ((hb4.mono hb0.size).trans (hb5.mono (by have := hb0.size; have := hb4.size; omega)))⟩

set_option maxHeartbeats 1000000 in
theorem BracketTextI_any (v : Value) (l : List Int) (w : World) (hv : Ints w v l) :
    Calls Tryd.prog 10 #[v] w fun e w' => e = .returned (.string (txtO l)) ∧ Below w.heap.size w w' := by
  by_cases h : isLyn l = true
  · have e : txtO l = txt l := by unfold txtO; rw [if_pos h]
    rw [e]
    exact bracketText_lyn l.length l (Nat.le_refl _) h v w hv
  · have e : txtO l = ⟨#[]⟩ := by unfold txtO; rw [if_neg h]
    rw [e]
    have HFr := Lib.hid (isFreeWord_any v l w hv)
    have HLy := Lib.hid (isLyndonI_any v l w hv)
    by_cases hw : word l = true
    · have hl : lyndon l = false := by
        cases hl : lyndon l with
        | false => rfl
        | true => exact absurd (by unfold isLyn; rw [hw, hl]; rfl) h
      rw [hw] at HFr
      rw [hl] at HLy
      clear e h hw hl
      go_enter Tryd.func10, Tryd.ntmps10
      go_wp2_with (first
        | (go_at_call 33; refine HFr.out.mono ?_; rintro e w' ⟨rfl, rfl⟩)
        | (go_at_call 34; refine HLy.out.mono ?_; rintro e w' ⟨rfl, rfl⟩))
      go_ret
      exact ⟨rfl, Below.refl _ _⟩
    · have hw : word l = false := by simpa using hw
      rw [hw] at HFr
      clear e h hw HLy
      go_enter Tryd.func10, Tryd.ntmps10
      go_wp2_with (go_at_call 33; refine HFr.out.mono ?_; rintro e w' ⟨rfl, rfl⟩)
      go_ret
      exact ⟨rfl, Below.refl _ _⟩

end Words
end Go.Proofs.YtcngijafnnmccaaDoor
