/- The derived and the lower series of both programs. -/
import Derived.Test.YtphnlmgliaelpaaSerI
import Derived.Test.YtphnlmgliaelpaaAdjMod
namespace Go.Proofs.Ytphnlmgliaelpaa
set_option maxRecDepth 100000
open Go.RowKit

/-- A series as matrices. -/
def serMod (k : Bool) (p n : Int) (T : List Int) : List Mt := if algOk p n T then serMs p n.toNat (serL k T n.toNat p) else []
theorem serMod_yes {k : Bool} {p : Int} {m : Nat} {T : List Int} (h : algOk p m T = true) : serMod k p m T = serMs p m (serL k T m p) := by rw [serMod, if_pos h, Int.toNat_natCast]
theorem serMod_no {k : Bool} {p n : Int} {T : List Int} (h : algOk p n T = false) : serMod k p n T = [] := by rw [serMod, if_neg (by rw [h]; decide)]
theorem dLen_bound (ms : List Mt) (k : Nat) (h : ∀ m ∈ ms, m.d.length ≤ k) : dLen ms ≤ ms.length * k := by
  induction ms with
  | nil => simp [dLen]
  | cons m ms ih =>
    have h1 := ih fun x hx => h x (by simp [hx])
    have h2 := h m (by simp)
    rw [dLen, List.length_cons, Nat.add_mul]; omega
theorem serMod_bd (k : Bool) (p n : Int) (T : List Int) : markMsLen (serMod k p n T) ≤ 25284 := by
  by_cases h : algOk p n T = true
  · obtain ⟨m, rfl, hm, _, _, _, _, hP⟩ := algOk_spec h
    rw [serMod_yes h]
    unfold markMsLen
    have hl := length_serL k T m p
    have hd := dLen_bound (serMs p m (serL k T m p)) (m * m) fun x hx => by
      obtain ⟨R, hR, rfl⟩ := List.mem_map.1 hx
      have := (serTo_ok hP m (SerOk.start k T m (isPrime_bd hP).1) R hR).le_n (isPrime_bd hP).1
      show (flat m R).length ≤ _
      rw [length_flat]
      exact Nat.mul_le_mul_right m this
    rw [length_serMs] at hd ⊢
    have h2 : (serL k T m p).length * (m * m) ≤ 29 * 784 := Nat.mul_le_mul (by omega) (mul_le hm hm)
    omega
  · rw [serMod_no (by simpa using h)]; simp [markMsLen, dLen]

set_option maxHeartbeats 4000000 in
theorem DerivedSeriesS_any (p n : Int) (t : Value) (T : List Int) (w : World) (ht : Ints w t T) : Calls Try.prog 52 #[.agg #[.int .i64 p, .int .i64 n, t]] w (RetMs w (serMod false p n T)) := by
  have h1 := (St.start1 ht).box [.int .i64 p, .int .i64 n, t] 30
  obtain ⟨A, c, rfl, _, _, _⟩ := id ht
  clear ht
  by_cases b1 : algOk p n T = true
  · obtain ⟨m, rfl, k1, kT, k3, k4, k5, k6⟩ := algOk_spec b1
    have KT := Lib.hid kT
    clear kT
    obtain ⟨G, hG⟩ : ∃ G, G = serMod false p m T := ⟨_, rfl⟩
    have HG := Lib.hid (show serMs p m (serL false T m p) = G by rw [hG, serMod_yes b1])
    rw [← hG]
    have HU := Lib.hid (fun W => l2All_any p m A T.length c W k6 (by omega))
    go_enter Try.func52, Try.ntmps52
    go_wp2_with fail
    refine (AlgebraOkS_any p m _ T _ (h1.roInts 1 rfl)).mono ?_
    rintro e wn ⟨rfl, hb1⟩
    replace h1 := h1.on hb1
    clear hb1
    obtain ⟨z0, z1, z2⟩ := h1.box3 0 rfl
    clear hG
    have tk1 : True := trivial
    go_wp2
    go_region_held3 (fun w' => w'.cell? ⟨w.heap.size, 0, none⟩ = some (.int .i64 p) ∧ w'.cell? ⟨w.heap.size, 1, none⟩ = some (.int .i64 m) ∧ w'.cell? ⟨w.heap.size, 2, none⟩ = some (.slice A T.length c))
      (first | exact ⟨z0, z1, z2⟩ | exact ⟨za0, za1, za2⟩ | exact ⟨zb0, zb1, zb2⟩)
      (first
        | (go_at_call 97; refine (HU.out _).mono ?_; rintro (e : Ending) w2 ⟨u, rfl, ho2, hb2⟩; obtain ⟨A6, c6, rfl, _, _, _⟩ := id ho2.ints; have h2 := h1.drew.pushOwn hb2 ho2; obtain ⟨za0, za1, za2⟩ := h2.box3 1 rfl)
        | (go_at_call 96; refine (l3Series0_st p m 1 _ _ T h2 rfl KT.out k1 k6 k3).mono ?_; rintro (e : Ending) w3 ⟨u3, us, rfl, hul, h3⟩; obtain ⟨zb0, zb1, zb2⟩ := h3.box3 1 rfl))
    go_wp2
    go_ret
    rw [HG.out] at hul h3
    exact ⟨_, us, rfl, hul, h3.at 0 rfl, h3.vecNodup 0 rfl, h3.below⟩
  · have b1 : algOk p n T = false := by simpa using b1
    rw [serMod_no b1]
    go_enter Try.func52, Try.ntmps52
    go_wp2_with fail
    refine (AlgebraOkS_any p n _ T _ (h1.roInts 1 rfl)).mono ?_
    rintro e wn ⟨rfl, hb1⟩
    replace h1 := h1.on hb1
    clear hb1
    go_wp2
    go_ret
    exact RetMs.nil h1.below

set_option maxHeartbeats 4000000 in
theorem DerivedSeriesI_any (p n : Int) (t : Value) (T : List Int) (w : World) (ht : Ints w t T) (hp : p ≤ 9223372036854775807) : Calls Try.prog 53 #[.agg #[.int .i64 p, .int .i64 n, t]] w (RetMs w (serMod false p n T)) := by
  have hmf : ∀ (fn : Fn) (first cap : Array Value) (w : World), (Instr.makeFunc fn first cap).run Try.prog w = .ok (.func fn first cap) w := fun _ _ _ _ => rfl
  have h1 := (St.start1 ht).box [.int .i64 p, .int .i64 n, t] 30
  obtain ⟨A, c, rfl, _, _, _⟩ := id ht
  clear ht
  by_cases b1 : algOk p n T = true
  · obtain ⟨m, rfl, k1, kT, k3, k4, k5, k6⟩ := algOk_spec b1
    have KT := Lib.hid kT
    clear kT
    obtain ⟨G, hG⟩ : ∃ G, G = serMod false p m T := ⟨_, rfl⟩
    have HG := Lib.hid (show serMs p m (serL false T m p) = G by rw [hG, serMod_yes b1])
    rw [← hG]
    have HU := Lib.hid (fun W => UnitMatrixI_any p m W k6 (by omega))
    go_enter Try.func53, Try.ntmps53
    go_wp2_with fail
    refine (AlgebraOkI_any p m _ T _ (h1.roInts 1 rfl) hp).mono ?_
    rintro e wn ⟨rfl, hb1⟩
    replace h1 := h1.on hb1
    clear hb1
    obtain ⟨z0, z1, z2⟩ := h1.box3 0 rfl
    clear hG
    go_wp2_with fail
    refine (newLie_any p m _ _ _ _ _ rfl).mono ?_
    rintro (e : Ending) w9 ⟨rfl, hb1⟩
    replace h1 := (h1.on hb1).box [.int .i64 p, .int .i64 m, .slice A T.length c] 71
    clear z0 z1 z2 hb1
    obtain ⟨z0, z1, z2⟩ := h1.box3 1 rfl
    go_wp2_with fail
    refine (HU.out _).mono ?_
    rintro (e : Ending) w2 ⟨u, rfl, ho2, hb2⟩
    obtain ⟨A6, c6, rfl, _, _, _⟩ := id ho2.ints
    have h2 := h1.pushOwn hb2 ho2
    clear ho2 hb2 z0 z1 z2
    go_wp2_with fail
    refine (seriesD_st p m 2 0 _ _ _ T h2 rfl rfl KT.out k1 k6 k3).mono ?_
    rintro (e : Ending) w3 ⟨u3, us, rfl, hul, h3⟩
    go_wp2
    go_ret
    rw [HG.out] at hul h3
    exact ⟨_, us, rfl, hul, h3.at 0 rfl, h3.vecNodup 0 rfl, h3.below⟩
  · have b1 : algOk p n T = false := by simpa using b1
    rw [serMod_no b1]
    go_enter Try.func53, Try.ntmps53
    go_wp2_with fail
    refine (AlgebraOkI_any p n _ T _ (h1.roInts 1 rfl) hp).mono ?_
    rintro e wn ⟨rfl, hb1⟩
    replace h1 := h1.on hb1
    clear hb1
    go_wp2
    go_ret
    exact RetMs.nil h1.below

set_option maxHeartbeats 4000000 in
theorem LowerSeriesS_any (p n : Int) (t : Value) (T : List Int) (w : World) (ht : Ints w t T) : Calls Try.prog 54 #[.agg #[.int .i64 p, .int .i64 n, t]] w (RetMs w (serMod true p n T)) := by
  have h1 := (St.start1 ht).box [.int .i64 p, .int .i64 n, t] 30
  obtain ⟨A, c, rfl, _, _, _⟩ := id ht
  clear ht
  by_cases b1 : algOk p n T = true
  · obtain ⟨m, rfl, k1, kT, k3, k4, k5, k6⟩ := algOk_spec b1
    have KT := Lib.hid kT
    clear kT
    obtain ⟨G, hG⟩ : ∃ G, G = serMod true p m T := ⟨_, rfl⟩
    have HG := Lib.hid (show serMs p m (serL true T m p) = G by rw [hG, serMod_yes b1])
    rw [← hG]
    have HU := Lib.hid (fun W => l2All_any p m A T.length c W k6 (by omega))
    go_enter Try.func54, Try.ntmps54
    go_wp2_with fail
    refine (AlgebraOkS_any p m _ T _ (h1.roInts 1 rfl)).mono ?_
    rintro e wn ⟨rfl, hb1⟩
    replace h1 := h1.on hb1
    clear hb1
    obtain ⟨z0, z1, z2⟩ := h1.box3 0 rfl
    clear hG
    have tk1 : True := trivial
    go_wp2
    go_region_held3 (fun w' => w'.cell? ⟨w.heap.size, 0, none⟩ = some (.int .i64 p) ∧ w'.cell? ⟨w.heap.size, 1, none⟩ = some (.int .i64 m) ∧ w'.cell? ⟨w.heap.size, 2, none⟩ = some (.slice A T.length c))
      (first | exact ⟨z0, z1, z2⟩ | exact ⟨za0, za1, za2⟩ | exact ⟨zb0, zb1, zb2⟩)
      (first
        | (go_at_call 97; refine (HU.out _).mono ?_; rintro (e : Ending) w2 ⟨u, rfl, ho2, hb2⟩; obtain ⟨A6, c6, rfl, _, _, _⟩ := id ho2.ints; have h2 := h1.drew.pushOwn hb2 ho2; obtain ⟨za0, za1, za2⟩ := h2.box3 1 rfl)
        | (go_at_call 96; refine (l3Series1_st p m 1 _ _ T h2 rfl KT.out k1 k6 k3).mono ?_; rintro (e : Ending) w3 ⟨u3, us, rfl, hul, h3⟩; obtain ⟨zb0, zb1, zb2⟩ := h3.box3 1 rfl))
    go_wp2
    go_ret
    rw [HG.out] at hul h3
    exact ⟨_, us, rfl, hul, h3.at 0 rfl, h3.vecNodup 0 rfl, h3.below⟩
  · have b1 : algOk p n T = false := by simpa using b1
    rw [serMod_no b1]
    go_enter Try.func54, Try.ntmps54
    go_wp2_with fail
    refine (AlgebraOkS_any p n _ T _ (h1.roInts 1 rfl)).mono ?_
    rintro e wn ⟨rfl, hb1⟩
    replace h1 := h1.on hb1
    clear hb1
    go_wp2
    go_ret
    exact RetMs.nil h1.below

set_option maxHeartbeats 4000000 in
theorem LowerSeriesI_any (p n : Int) (t : Value) (T : List Int) (w : World) (ht : Ints w t T) (hp : p ≤ 9223372036854775807) : Calls Try.prog 55 #[.agg #[.int .i64 p, .int .i64 n, t]] w (RetMs w (serMod true p n T)) := by
  have hmf : ∀ (fn : Fn) (first cap : Array Value) (w : World), (Instr.makeFunc fn first cap).run Try.prog w = .ok (.func fn first cap) w := fun _ _ _ _ => rfl
  have h1 := (St.start1 ht).box [.int .i64 p, .int .i64 n, t] 30
  obtain ⟨A, c, rfl, _, _, _⟩ := id ht
  clear ht
  by_cases b1 : algOk p n T = true
  · obtain ⟨m, rfl, k1, kT, k3, k4, k5, k6⟩ := algOk_spec b1
    have KT := Lib.hid kT
    clear kT
    obtain ⟨G, hG⟩ : ∃ G, G = serMod true p m T := ⟨_, rfl⟩
    have HG := Lib.hid (show serMs p m (serL true T m p) = G by rw [hG, serMod_yes b1])
    rw [← hG]
    have HU := Lib.hid (fun W => UnitMatrixI_any p m W k6 (by omega))
    go_enter Try.func55, Try.ntmps55
    go_wp2_with fail
    refine (AlgebraOkI_any p m _ T _ (h1.roInts 1 rfl) hp).mono ?_
    rintro e wn ⟨rfl, hb1⟩
    replace h1 := h1.on hb1
    clear hb1
    obtain ⟨z0, z1, z2⟩ := h1.box3 0 rfl
    clear hG
    go_wp2_with fail
    refine (newLie_any p m _ _ _ _ _ rfl).mono ?_
    rintro (e : Ending) w9 ⟨rfl, hb1⟩
    replace h1 := (h1.on hb1).box [.int .i64 p, .int .i64 m, .slice A T.length c] 71
    clear z0 z1 z2 hb1
    obtain ⟨z0, z1, z2⟩ := h1.box3 1 rfl
    go_wp2_with fail
    refine (HU.out _).mono ?_
    rintro (e : Ending) w2 ⟨u, rfl, ho2, hb2⟩
    obtain ⟨A6, c6, rfl, _, _, _⟩ := id ho2.ints
    have h2 := ((h1.pushOwn hb2 ho2).box [.int .i64 p, .int .i64 m, .int .i64 m, .slice A6 (unitD m).length c6] 32).swap2
    clear ho2 hb2 z0 z1 z2
    obtain ⟨x0, x1, x2, x3⟩ := h2.box4 1 rfl
    go_wp2_with fail
    refine (seriesL_st p m 3 1 0 _ _ _ _ T h2 rfl rfl rfl KT.out k1 k6 k3).mono ?_
    rintro (e : Ending) w3 ⟨u3, us, rfl, hul, h3⟩
    go_wp2
    go_ret
    rw [HG.out] at hul h3
    exact ⟨_, us, rfl, hul, h3.at 0 rfl, h3.vecNodup 0 rfl, h3.below⟩
  · have b1 : algOk p n T = false := by simpa using b1
    rw [serMod_no b1]
    go_enter Try.func55, Try.ntmps55
    go_wp2_with fail
    refine (AlgebraOkI_any p n _ T _ (h1.roInts 1 rfl) hp).mono ?_
    rintro e wn ⟨rfl, hb1⟩
    replace h1 := h1.on hb1
    clear hb1
    go_wp2
    go_ret
    exact RetMs.nil h1.below
end Go.Proofs.Ytphnlmgliaelpaa
