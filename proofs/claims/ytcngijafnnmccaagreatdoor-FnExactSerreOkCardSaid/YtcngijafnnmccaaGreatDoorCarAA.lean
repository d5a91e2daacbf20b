/- Cartan matrices, the reference's side: l5Parts for all arguments, IsCartan. -/
import Derived.Test.YtcngijafnnmccaaGreatDoorCarZ
import Derived.Test.YtcngijafnnmccaaGreatDoorCarY
namespace Go.Proofs.YtcngijafnnmccaaGreatDoor
set_option maxRecDepth 100000
open Go.RowKit
namespace Car

set_option maxHeartbeats 2000000 in
theorem l5Parts_bad (r : Int) (v : Value) (D : List Int) (w : World) (hv : Ints w v D) (hb : inR r 1 4 = false ∨ (inR r 1 4 = true ∧ ¬ ((D.length : Int) = r * r))) :
    Calls Tryz.prog 37 #[.agg #[.int .i64 r, v]] w (RetParts w none) := by
  obtain ⟨A, c, rfl, _, _, _⟩ := id hv
  have g := ((St.start w).box [.int .i64 r, .slice A D.length c] 34)
  obtain ⟨dl, hdl⟩ : ∃ dl, dl = D.length := ⟨_, rfl⟩
  rw [← hdl] at g hb ⊢
  obtain ⟨z0, z1⟩ := g.box2 0 rfl
  clear hv hdl
  rcases hb with hb | ⟨hb, hl⟩
  · go_enter Tryz.func37, Tryz.ntmps37
    go_wp2_with (go_at_call 33; refine (l1In_any _ _ _ _).mono ?_; rintro e w' ⟨rfl, rfl⟩)
    go_ret2
    exact ⟨g.below, .inl ⟨rfl, rfl⟩⟩
  · obtain ⟨n, rfl⟩ : ∃ n : Nat, r = (n : Int) := ⟨r.toNat, by simp [inR] at hb; omega⟩
    have h4 : 1 ≤ n ∧ n ≤ 4 := by simp [inR] at hb; omega
    have hnn : n * n ≤ 16 := Nat.mul_le_mul h4.2 h4.2
    obtain ⟨nn, hq⟩ : ∃ nn, nn = n * n := ⟨_, rfl⟩
    have wq : wrap64 ((n : Int) * (n : Int)) = (nn : Int) := by
      rw [hq, ← Int.natCast_mul, w64_ok (by omega) (by omega)]
    have hne : ((dl : Int) == (nn : Int)) = false := by
      rw [beq_eq_false_iff_ne]
      intro e
      exact hl (by rw [e, hq, Int.natCast_mul])
    have hne2 : ((dl : Int) != (n : Int) * (n : Int)) = true := by rw [bne_iff_ne]; exact hl
    have hne3 : ((dl : Int) == (n : Int) * (n : Int)) = false := by rw [beq_eq_false_iff_ne]; exact hl
    clear hl hq
    go_enter Tryz.func37, Tryz.ntmps37
    go_wp2_with (go_at_call 33; refine (l1In_any _ _ _ _).mono ?_; rintro e w' ⟨rfl, rfl⟩)
    go_ret2
    exact ⟨g.below, .inl ⟨rfl, rfl⟩⟩
/-- The reference's parts, for all arguments. -/
def partsB (r : Int) (D : List Int) : Option (List Nat) := if inR r 1 4 = true ∧ (D.length : Int) = r * r then parts r.toNat D else none
theorem l5Parts_any (r : Int) (v : Value) (D : List Int) (w : World) (hv : Ints w v D) :
    Calls Tryz.prog 37 #[.agg #[.int .i64 r, v]] w (RetParts w (partsB r D)) := by
  unfold partsB
  by_cases h : inR r 1 4 = true ∧ (D.length : Int) = r * r
  · rw [if_pos h]
    obtain ⟨n, rfl⟩ : ∃ n : Nat, r = (n : Int) := ⟨r.toNat, by have := h.1; simp [inR] at this; omega⟩
    have h4 : 1 ≤ n ∧ n ≤ 4 := by have := h.1; simp [inR] at this; omega
    rw [Int.toNat_natCast]
    exact l5Parts_good n v D w hv (by have := h.2; rw [← Int.natCast_mul] at this; omega) h4.1 h4.2
  · rw [if_neg h]
    refine l5Parts_bad r v D w hv ?_
    by_cases h1 : inR r 1 4 = true
    · exact .inr ⟨h1, fun e => h ⟨h1, e⟩⟩
    · exact .inl (by simpa using h1)
theorem carB_parts (r : Int) (D : List Int) : carB r D = (partsB r D).isSome := by
  unfold carB partsB
  by_cases h : inR r 1 4 = true
  · obtain ⟨n, rfl⟩ : ∃ n : Nat, r = (n : Int) := ⟨r.toNat, by have := h; simp [inR] at this; omega⟩
    have h4 : 1 ≤ n ∧ n ≤ 4 := by have := h; simp [inR] at this; omega
    by_cases hl : (D.length : Int) = (n : Int) * n
    · rw [h, if_pos ⟨rfl, hl⟩, Int.toNat_natCast, car_eq h4.1 h4.2 (by rw [← Int.natCast_mul] at hl; omega)]
      simp [hl]
    · rw [h, if_neg (fun h => hl h.2)]
      simp [hl]
  · rw [if_neg (fun h2 => h h2.1), show inR r 1 4 = false by simpa using h]
    rfl
set_option maxHeartbeats 1000000 in
theorem IsCartanS_any (r : Int) (v : Value) (D : List Int) (w : World) (hv : Ints w v D) :
    Calls Tryz.prog 17 #[.agg #[.int .i64 r, v]] w fun e w' => e = .returned (.bool (carB r D)) ∧ Below w.heap.size w w' := by
  rw [carB_parts]
  have g := (St.start1 hv).box [.int .i64 r, v] 34
  obtain ⟨A, c, rfl, _, _, _⟩ := id hv
  have HP := Lib.hid (fun W x => l5Parts_any r (.slice A D.length c) D W x)
  obtain ⟨o, ho⟩ : ∃ o, o = partsB r D := ⟨_, rfl⟩
  rw [← ho] at HP ⊢
  obtain ⟨dl, hdl⟩ : ∃ dl, dl = D.length := ⟨_, rfl⟩
  rw [← hdl] at g HP ⊢
  obtain ⟨z0, z1⟩ := g.box2 0 rfl
  clear ho hdl hv
  go_enter Tryz.func17, Tryz.ntmps17
  go_wp2_with fail
  refine (HP.out _ (g.roInts 1 rfl)).mono ?_
  rintro (e : Ending) w3 ⟨hb3, h3⟩
  have hb2 := (g.on hb3).below
  rcases h3 with ⟨rfl, rfl⟩ | ⟨t, u3, rfl, rfl, hs⟩
  · go_wp2
    go_ret
    exact ⟨rfl, hb2⟩
  · go_wp2
    go_ret
    exact ⟨rfl, hb2⟩

end Car
end Go.Proofs.YtcngijafnnmccaaGreatDoor
