/- AdjointModule of the program and of the reference. -/
import Derived.Test.YtngmepodgbhbpaaAdjS
import Derived.Test.YtngmepodgbhbpaaZeroMod
namespace Go.Proofs.Ytngmepodgbhbpaa
set_option maxRecDepth 100000
open Go.RowKit

def adMt (p : Int) (n : Nat) (T : List Int) (i : Nat) : Mt := ⟨p, n, n, adM T (unitL n i) n p⟩
def adMs (p : Int) (n : Nat) (T : List Int) : List Mt := (List.range n).map (adMt p n T)
def adMod (p n : Int) (T : List Int) : List Mt := if algOk p n T then adMs p n.toNat T else []
theorem length_adMs (p : Int) (n : Nat) (T : List Int) : (adMs p n T).length = n := by simp [adMs]
theorem adMs_take (p : Int) (n : Nat) (T : List Int) (i : Nat) (h : i < n) : (adMs p n T).take (i + 1) = (adMs p n T).take i ++ [adMt p n T i] := by
  rw [List.take_succ_eq_append_getElem (by rw [length_adMs]; exact h)]
  simp [adMs]
theorem dLen_const (ms : List Mt) (k : Nat) (h : ∀ m ∈ ms, m.d.length = k) : dLen ms = ms.length * k := by
  induction ms with
  | nil => simp [dLen]
  | cons m ms ih => rw [dLen, ih (fun x hx => h x (by simp [hx])), h m (by simp), List.length_cons, Nat.add_mul]; omega
theorem adMod_bd (p n : Int) (T : List Int) : markMsLen (adMod p n T) ≤ 25284 := by
  unfold adMod
  by_cases h : algOk p n T = true
  · rw [if_pos h]
    obtain ⟨m, rfl, hm, _⟩ := algOk_spec h
    unfold markMsLen
    rw [dLen_const _ (m * m) (fun x hx => by
      obtain ⟨j, _, rfl⟩ := List.mem_map.1 hx
      exact length_adM _ _ _ _), length_adMs, Int.toNat_natCast]
    have := mul_le hm (mul_le hm hm)
    omega
  · rw [if_neg h]; simp [markMsLen, dLen]


set_option maxHeartbeats 2000000 in
theorem AdjointModuleS_any (p n : Int) (t : Value) (T : List Int) (w : World) (ht : Ints w t T) :
    Calls Try.prog 37 #[.agg #[.int .i64 p, .int .i64 n, t]] w (RetMs w (adMod p n T)) := by
  have h1 := (St.start1 ht).box [.int .i64 p, .int .i64 n, t] 27
  obtain ⟨A, c, rfl, _, _, _⟩ := id ht
  clear ht
  by_cases b1 : algOk p n T = true
  · obtain ⟨m, rfl, k1, k2, k3, k4, k5, k6⟩ := algOk_spec b1
    have hR := Lib.hid (show adMod p m T = adMs p m T by simp [adMod, b1])
    have HLen := Lib.hid (length_adMs p m T)
    have HT := Lib.hid k2
    clear k2
    go_enter Try.func37, Try.ntmps37
    go_wp2_with fail
    refine (AlgebraOkS_any p m _ T _ (h1.roInts 1 rfl)).mono ?_
    rintro e wn ⟨rfl, hb1⟩
    replace h1 := h1.on hb1
    clear hb1
    replace h1 := h1.emptyMats
    obtain ⟨z0, z1, z2⟩ := h1.box3 1 rfl
    go_wp2
    clear z0 z1 z2
    go_loopw [3, 4] (fun vo vi wr => ∃ (i : Nat) (us : List Value), vi = .int .i64 i ∧ i ≤ m ∧ us.length = i ∧ St w wr [matsIt vo us ((adMs p m T).take i), .box w.heap.size [.int .i64 p, .int .i64 m, .slice A T.length c], .ro (.slice A T.length c) T]) (fun _ vi _ => m - (intOf vi).toNat)
    case atStart => exact ⟨0, [], rfl, by omega, rfl, h1⟩
    case round =>
      clear h1
      obtain ⟨i, us, rfl, a1, hul, h1⟩ := hrel
      have Hul := Lib.hid hul
      clear hul
      by_cases hi : i < m
      · have hl : us.length = ((adMs p m T).take i).length := by rw [Hul.out, List.length_take, HLen.out]; omega
        have Hl := Lib.hid hl
        have ht1 : ((adMs p m T).take i).length + 1 ≤ 1099511627776 := by rw [List.length_take, HLen.out]; omega
        have Ht1 := Lib.hid ht1
        have HS := Lib.hid (adMs_take p m T i hi)
        have HA := Lib.hid (length_adM T (unitL m i) m p)
        clear hl ht1
        obtain ⟨z0, z1, z2⟩ := h1.box3 1 rfl
        go_wp2
        go_region_held3 (fun w' => w'.cell? ⟨w.heap.size, 0, none⟩ = some (.int .i64 p) ∧ w'.cell? ⟨w.heap.size, 1, none⟩ = some (.int .i64 m) ∧ w'.cell? ⟨w.heap.size, 2, none⟩ = some (.slice A T.length c))
          (first | exact ⟨z0, z1, z2⟩ | exact ⟨x0, x1, x2⟩ | exact ⟨y0, y1, y2⟩ | exact ⟨v0, v1, v2⟩ | exact ⟨q0, q1, q2⟩)
          (first
            | (go_at_call 87; refine (l2Basis_any m i _ (by omega) hi).mono ?_; rintro (e : Ending) w1 ⟨u, rfl, ho, hb1⟩; obtain ⟨A6, c6, rfl, _, _, _⟩ := id ho.ints; have h2 := h1.drew.pushOwn hb1 ho; obtain ⟨x0, x1, x2⟩ := h2.box3 2 rfl)
            | (go_at_call 86; refine (l2Adjoint_any p m _ _ T (unitL m i) _ (h2.roInts 3 rfl) (h2.ownInts 0 rfl) HT.out (length_unitL _ _) k1 k4 k5 k3 (resid_unitL k4 m i)).mono ?_; rintro (e : Ending) w2 ⟨u, rfl, ho2, hb2⟩; obtain ⟨A7, n7, c7, rfl⟩ := ho2.slice; have h3 := h2.pushOwn hb2 ho2; obtain ⟨y0, y1, y2⟩ := h3.box3 3 rfl; obtain ⟨v0, v1, v2⟩ := (h3.alloc' (.cells #[.int .i64 p, .int .i64 m, .int .i64 m, .slice A7 n7 c7] 44)).box3 3 rfl)
            | (refine step_append_mat rfl (.tmp 15) (.tmp 22) rfl (adMt p m T i) h3 1 rfl Hl.out rfl rfl Ht1.out ?_; intro vv w3 h4; obtain ⟨q0, q1, q2⟩ := h4.box3 2 rfl))
        clear h1 h2 h3 z0 z1 z2 x0 x1 x2 y0 y1 y2 v0 v1 v2 q0 q1 q2
        go_wp2
        go_roundw
        case rel => exact ⟨i + 1, us ++ [_], by go_num, by omega, by rw [List.length_append, Hul.out]; rfl, by rw [HS.out]; exact h4.drop 1⟩
        case measure => simp [intOf]; omega
      · obtain rfl : i = m := by omega
        rw [List.take_of_length_le (by rw [HLen.out]; exact Nat.le_refl _)] at h1
        obtain ⟨z0, z1, z2⟩ := h1.box3 1 rfl
        go_wp2
        go_ret
        rw [hR.out]
        exact ⟨_, us, rfl, by rw [HLen.out]; exact Hul.out, h1.at 0 rfl, h1.vecNodup 0 rfl, h1.below⟩
  · have b1 : algOk p n T = false := by simpa using b1
    rw [show adMod p n T = [] by simp [adMod, b1]]
    go_enter Try.func37, Try.ntmps37
    go_wp2_with fail
    refine (AlgebraOkS_any p n _ T _ (h1.roInts 1 rfl)).mono ?_
    rintro e wn ⟨rfl, hb1⟩
    replace h1 := h1.on hb1
    clear hb1
    go_wp2
    go_ret
    exact RetMs.nil h1.below

set_option maxHeartbeats 2000000 in
theorem AdjointModuleI_any (p n : Int) (t : Value) (T : List Int) (w : World) (ht : Ints w t T) (hp : p ≤ 9223372036854775807) :
    Calls Try.prog 38 #[.agg #[.int .i64 p, .int .i64 n, t]] w (RetMs w (adMod p n T)) := by
  have h1 := (St.start1 ht).box [.int .i64 p, .int .i64 n, t] 27
  obtain ⟨A, c, rfl, _, _, _⟩ := id ht
  clear ht
  by_cases b1 : algOk p n T = true
  · obtain ⟨m, rfl, k1, k2, k3, k4, k5, k6⟩ := algOk_spec b1
    have hR := Lib.hid (show adMod p m T = adMs p m T by simp [adMod, b1])
    have HLen := Lib.hid (length_adMs p m T)
    have HT := Lib.hid k2
    clear k2
    go_enter Try.func38, Try.ntmps38
    go_wp2_with fail
    refine (AlgebraOkI_any p m _ T _ (h1.roInts 1 rfl) hp).mono ?_
    rintro e wn ⟨rfl, hb1⟩
    replace h1 := h1.on hb1
    clear hb1
    obtain ⟨z0, z1, z2⟩ := h1.box3 0 rfl
    go_wp2_with fail
    refine (newLie_any p m _ _ _ _ _ rfl).mono ?_
    rintro (e : Ending) w9 ⟨rfl, hb1⟩
    replace h1 := ((h1.on hb1).box [.int .i64 p, .int .i64 m, .slice A T.length c] 72).emptyMats
    simp only [World.size_alloc] at h1
    clear z0 z1 z2 hb1
    obtain ⟨z0, z1, z2⟩ := h1.box3 2 rfl
    go_wp2
    clear z0 z1 z2
    go_loopw [4, 5, 14] (fun vo vj vi wr => ∃ (i : Nat) (us : List Value), vi = .int .i64 i ∧ i ≤ m ∧ us.length = i ∧ St w wr [matsIt vo us ((adMs p m T).take i), .box w9.heap.size [.int .i64 p, .int .i64 m, .slice A T.length c], .box w.heap.size [.int .i64 p, .int .i64 m, .slice A T.length c], .ro (.slice A T.length c) T]) (fun _ _ vi _ => m - (intOf vi).toNat)
    case atStart => exact ⟨0, [], rfl, by omega, rfl, h1⟩
    case round =>
      clear h1
      obtain ⟨i, us, rfl, a1, hul, h1⟩ := hrel
      have Hul := Lib.hid hul
      clear hul
      by_cases hi : i < m
      · have hl : us.length = ((adMs p m T).take i).length := by rw [Hul.out, List.length_take, HLen.out]; omega
        have Hl := Lib.hid hl
        have ht1 : ((adMs p m T).take i).length + 1 ≤ 1099511627776 := by rw [List.length_take, HLen.out]; omega
        have Ht1 := Lib.hid ht1
        have HS := Lib.hid (adMs_take p m T i hi)
        clear hl ht1
        obtain ⟨z0, z1, z2⟩ := h1.box3 1 rfl
        obtain ⟨_, z3, _⟩ := h1.box3 2 rfl
        go_wp2
        go_region_held3 (fun w' => w'.cell? ⟨w9.heap.size, 0, none⟩ = some (.int .i64 p) ∧ w'.cell? ⟨w9.heap.size, 1, none⟩ = some (.int .i64 m) ∧ w'.cell? ⟨w9.heap.size, 2, none⟩ = some (.slice A T.length c) ∧ w'.cell? ⟨w.heap.size, 1, none⟩ = some (.int .i64 m))
          (first | exact ⟨z0, z1, z2, z3⟩ | exact ⟨x0, x1, x2, x3⟩ | exact ⟨y0, y1, y2, y3⟩ | exact ⟨v0, v1, v2, v3⟩ | exact ⟨q0, q1, q2, q3⟩)
          (first
            | (go_at_call 85; refine (unit_any m i _ (by omega) hi).mono ?_; rintro (e : Ending) w1 ⟨u, rfl, ho, hb1⟩; obtain ⟨A6, c6, rfl, _, _, _⟩ := id ho.ints; have h2 := h1.drew.pushOwn hb1 ho; obtain ⟨x0, x1, x2⟩ := h2.box3 2 rfl; obtain ⟨_, x3, _⟩ := h2.box3 3 rfl)
            | (go_at_call 88; refine (adjoint_any p m _ _ T (unitL m i) _ (h2.roInts 4 rfl) (h2.ownInts 0 rfl) HT.out (length_unitL _ _) k1 k4 k5 k3 (resid_unitL k4 m i)).mono ?_; rintro (e : Ending) w2 ⟨u, rfl, ho2, hb2⟩; obtain ⟨A7, n7, c7, rfl⟩ := ho2.slice; have h3 := h2.pushOwn hb2 ho2; obtain ⟨y0, y1, y2⟩ := h3.box3 3 rfl; obtain ⟨_, y3, _⟩ := h3.box3 4 rfl; have h3a := h3.alloc' (.cells #[.int .i64 p, .int .i64 m, .int .i64 m, .slice A7 n7 c7] 44); obtain ⟨v0, v1, v2⟩ := h3a.box3 3 rfl; obtain ⟨_, v3, _⟩ := h3a.box3 4 rfl)
            | (refine step_append_mat rfl (.tmp 17) (.tmp 24) rfl (adMt p m T i) h3 1 rfl Hl.out rfl rfl Ht1.out ?_; intro vv w3 h4; obtain ⟨q0, q1, q2⟩ := h4.box3 2 rfl; obtain ⟨_, q3, _⟩ := h4.box3 3 rfl))
        clear h1 h2 h3 h3a z0 z1 z2 z3 x0 x1 x2 x3 y0 y1 y2 y3 v0 v1 v2 v3 q0 q1 q2 q3
        go_wp2
        go_roundw
        case rel => exact ⟨i + 1, us ++ [_], by go_num, by omega, by rw [List.length_append, Hul.out]; rfl, by rw [HS.out]; exact h4.drop 1⟩
        case measure => simp [intOf]; omega
      · obtain rfl : i = m := by omega
        rw [List.take_of_length_le (by rw [HLen.out]; exact Nat.le_refl _)] at h1
        obtain ⟨z0, z1, z2⟩ := h1.box3 1 rfl
        go_wp2
        go_ret
        rw [hR.out]
        exact ⟨_, us, rfl, by rw [HLen.out]; exact Hul.out, h1.at 0 rfl, h1.vecNodup 0 rfl, h1.below⟩
  · have b1 : algOk p n T = false := by simpa using b1
    rw [show adMod p n T = [] by simp [adMod, b1]]
    go_enter Try.func38, Try.ntmps38
    go_wp2_with fail
    refine (AlgebraOkI_any p n _ T _ (h1.roInts 1 rfl) hp).mono ?_
    rintro e wn ⟨rfl, hb1⟩
    replace h1 := h1.on hb1
    clear hb1
    go_wp2
    go_ret
    exact RetMs.nil h1.below
end Go.Proofs.Ytngmepodgbhbpaa
