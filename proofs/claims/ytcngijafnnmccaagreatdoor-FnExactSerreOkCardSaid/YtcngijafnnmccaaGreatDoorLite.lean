/- What many walks need: conversions, places in a table, cells of read and owned slices, comparisons and searches of slices of numbers. -/
import Derived.Test.YtcngijafnnmccaaGreatDoorStB
import Derived.Test.YtcngijafnnmccaaGreatDoorLawB
import Derived.Test.YtcngijafnnmccaaGreatDoorSmall0
import Derived.Test.YtcngijafnnmccaaGreatDoorRegX
namespace Go.Proofs.YtcngijafnnmccaaGreatDoor
set_option maxRecDepth 100000
open Go.RowKit

theorem wrap_ok {x : Int} (h0 : -9223372036854775808 ≤ x) (h1 : x ≤ 9223372036854775807) : IntKind.i64.wrap x = x := by rw [IntKind.wrap_i64]; omega
set_option maxHeartbeats 400000 in
theorem l1Same_any (v u : Value) (xs ys : List Int) (w : World) (hv : Ints w v xs) (hu : Ints w u ys) :
    Calls Tryz.prog 22 #[v, u] w fun e w' => e = .returned (.bool (decide (xs = ys))) ∧ ∃ n, w' = w.drewN n := by
  obtain ⟨A, c, rfl, h1, h2, h3⟩ := hv
  obtain ⟨B, d, rfl, g1, g2, g3⟩ := hu
  obtain ⟨R, hR⟩ : ∃ R, R = decide (xs = ys) := ⟨_, rfl⟩
  rw [← hR]
  by_cases hl : xs.length = ys.length
  · have HR := Lib.hid hR
    clear hR
    have t1 : ((xs.length : Int) != (ys.length : Int)) = false := by simp [hl]
    have hl1 : xs.length ≤ ys.length := by omega
    have HL := Lib.hid hl
    clear hl
    go_enter Tryz.func22, Tryz.ntmps22
    go_wp2
    go_loopw [5] (fun vi wr => ∃ (k m : Nat), vi = .int .i64 k ∧ k ≤ xs.length ∧ wr = w.drewN m ∧ Hid (R = decide (xs.drop k = ys.drop k))) (fun vi _ => xs.length - (intOf vi).toNat)
    case atStart => exact ⟨0, 0, rfl, by omega, rfl, HR⟩
    case round =>
      obtain ⟨k, m, rfl, a1, rfl, HM⟩ := hrel
      by_cases hk : k < xs.length
      · obtain ⟨b, off, rfl, hc⟩ := h3 (by omega)
        obtain ⟨b', off', rfl, hc'⟩ := g3 (by omega)
        have hk2 : k < ys.length := by omega
        have e1 := hc k xs[k] (List.getElem?_eq_getElem hk)
        have e2 := hc' k ys[k] (List.getElem?_eq_getElem hk2)
        have HD := Lib.hid (eq_step xs ys k hk hk2)
        clear hc hc' h3 g3
        by_cases hxy : xs[k] = ys[k]
        · have t2 : (xs[k] != ys[k]) = false := by simp [hxy]
          have Hxy := Lib.hid hxy
          clear hxy
          go_wp2
          go_quiet (fail)
          go_wp2
          go_roundw
          case rel => exact ⟨k + 1, _, by go_num, by omega, rfl, by rw [HM.out, HD.out, if_pos Hxy.out]; exact rfl⟩
          case measure => simp [intOf]; omega
        · have t2 : (xs[k] != ys[k]) = true := by simp [hxy]
          have Hxy := Lib.hid hxy
          clear hxy
          go_wp2
          go_quiet (fail)
          go_wp2
          go_ret
          exact ⟨ret_bool (by rw [HM.out, HD.out, if_neg Hxy.out]), by simp only [World.drewN_drewN]; exact ⟨_, rfl⟩⟩
      · obtain rfl : k = xs.length := by omega
        clear h3 g3
        go_wp2
        go_ret
        exact ⟨ret_bool (by rw [HM.out, eq_end _ _ HL.out]), _, rfl⟩
  · have t1 : ((xs.length : Int) != (ys.length : Int)) = true := by simp; omega
    have h0 : R = false := by rw [hR]; simp; intro e; exact hl (by rw [e])
    have H0 := Lib.hid h0
    clear hR h0 h3 g3 hl
    go_enter Tryz.func22, Tryz.ntmps22
    go_wp2
    go_ret
    exact ⟨ret_bool (H0.out).symm, 0, rfl⟩
set_option maxHeartbeats 400000 in
theorem Equal_any (v u : Value) (xs ys : List Int) (w : World) (hv : Ints w v xs) (hu : Ints w u ys) :
    Calls Tryz.prog 53 #[v, u] w fun e w' => e = .returned (.bool (decide (xs = ys))) ∧ ∃ n, w' = w.drewN n := by
  obtain ⟨A, c, rfl, h1, h2, h3⟩ := hv
  obtain ⟨B, d, rfl, g1, g2, g3⟩ := hu
  obtain ⟨R, hR⟩ : ∃ R, R = decide (xs = ys) := ⟨_, rfl⟩
  rw [← hR]
  by_cases hl : xs.length = ys.length
  · have HR := Lib.hid hR
    clear hR
    have t1 : ((xs.length : Int) != (ys.length : Int)) = false := by simp [hl]
    have hl1 : xs.length ≤ ys.length := by omega
    have HL := Lib.hid hl
    clear hl
    go_enter Tryz.func53, Tryz.ntmps53
    go_wp2
    go_loopw [5, 13] (fun vj vi wr => ∃ (k m : Nat), vi = .int .i64 k ∧ k ≤ xs.length ∧ wr = w.drewN m ∧ Hid (R = decide (xs.drop k = ys.drop k))) (fun _ vi _ => xs.length - (intOf vi).toNat)
    case atStart => exact ⟨0, 0, rfl, by omega, rfl, HR⟩
    case round =>
      obtain ⟨k, m, rfl, a1, rfl, HM⟩ := hrel
      by_cases hk : k < xs.length
      · obtain ⟨b, off, rfl, hc⟩ := h3 (by omega)
        obtain ⟨b', off', rfl, hc'⟩ := g3 (by omega)
        have hk2 : k < ys.length := by omega
        have e1 := hc k xs[k] (List.getElem?_eq_getElem hk)
        have e2 := hc' k ys[k] (List.getElem?_eq_getElem hk2)
        have HD := Lib.hid (eq_step xs ys k hk hk2)
        clear hc hc' h3 g3
        by_cases hxy : xs[k] = ys[k]
        · have t2 : (xs[k] != ys[k]) = false := by simp [hxy]
          have Hxy := Lib.hid hxy
          clear hxy
          go_wp2
          go_quiet (fail)
          go_wp2
          go_roundw
          case rel => exact ⟨k + 1, _, by go_num, by omega, rfl, by rw [HM.out, HD.out, if_pos Hxy.out]; exact rfl⟩
          case measure => simp [intOf]; omega
        · have t2 : (xs[k] != ys[k]) = true := by simp [hxy]
          have Hxy := Lib.hid hxy
          clear hxy
          go_wp2
          go_quiet (fail)
          go_wp2
          go_ret
          exact ⟨ret_bool (by rw [HM.out, HD.out, if_neg Hxy.out]), by simp only [World.drewN_drewN]; exact ⟨_, rfl⟩⟩
      · obtain rfl : k = xs.length := by omega
        clear h3 g3
        go_wp2
        go_ret
        exact ⟨ret_bool (by rw [HM.out, eq_end _ _ HL.out]), _, rfl⟩
  · have t1 : ((xs.length : Int) != (ys.length : Int)) = true := by simp; omega
    have h0 : R = false := by rw [hR]; simp; intro e; exact hl (by rw [e])
    have H0 := Lib.hid h0
    clear hR h0 h3 g3 hl
    go_enter Tryz.func53, Tryz.ntmps53
    go_wp2
    go_ret
    exact ⟨ret_bool (H0.out).symm, 0, rfl⟩
theorem row_bd {r c i : Nat} (hi : i < r) : i * c + c ≤ r * c := by
  have := Nat.mul_le_mul_right c (show i + 1 ≤ r from hi)
  rw [Nat.add_mul] at this; omega
theorem row_int {r c i N : Nat} (hi : i < r) (h : r * c ≤ N) : 0 ≤ (i : Int) * c ∧ (i : Int) * c ≤ N ∧ 0 ≤ ((i : Int) + 1) * c ∧ ((i : Int) + 1) * c ≤ N := by
  have hb := row_bd (c := c) hi
  have e1 : ((i * c : Nat) : Int) = (i : Int) * c := Int.natCast_mul _ _
  have e2 : ((i : Int) + 1) * c = (i : Int) * c + c := by rw [Int.add_mul, Int.one_mul]
  omega
theorem St.ownSome {w0 w : World} {L : List It} (h : St w0 w L) (i : Nat) {A : Option Addr} {n c : Nat} {l : List Int} (hi : L[i]? = some (.own (.slice A n c) l)) (hn : 0 < l.length) : ∃ g, A = some ⟨g, 0, none⟩ ∧ n = l.length := by
  rcases id (h.own i hi).2 with ⟨_, h0⟩ | ⟨g, cap, cur, hv, _⟩
  · omega
  · simp only [Value.slice.injEq] at hv
    exact ⟨g, hv.1, hv.2.1⟩
theorem St.ownCell {w0 w : World} {L : List It} (h : St w0 w L) (i : Nat) {g n c : Nat} {l : List Int} (hi : L[i]? = some (.own (.slice (some ⟨g, 0, none⟩) n c) l)) {q : Nat} (hq : q < l.length) : w.cell? ⟨g, q, none⟩ = some (.int .i64 (Go.Proofs.YtcngijafnnmccaaGreatDoor.vec l q)) ∧ w.frozen? ⟨g, q, none⟩ = false := by
  rcases id (h.own i hi).2 with ⟨_, h0⟩ | ⟨g', cap, cur, hv, _, hh, r⟩
  · omega
  · simp only [Value.slice.injEq, Option.some.injEq, Addr.mk.injEq] at hv
    obtain ⟨⟨rfl, _⟩, _, rfl⟩ := hv
    refine ⟨?_, frozen_of_row w g q _ _ hh⟩
    obtain ⟨A', c', e1, e2, e3, e4⟩ := h.ownInts i hi
    simp only [Value.slice.injEq] at e1
    obtain ⟨rfl, _, rfl⟩ := e1
    obtain ⟨b', off, e5, e6⟩ := e4 (by omega)
    simp only [Option.some.injEq, Addr.mk.injEq] at e5
    obtain ⟨rfl, rfl, _⟩ := e5
    have := e6 q _ (vec_get hq)
    rwa [Nat.zero_add] at this
theorem St.roCell {w0 w : World} {L : List It} (h : St w0 w L) (i : Nat) {b off n c : Nat} {l : List Int} (hi : L[i]? = some (.ro (.slice (some ⟨b, off, none⟩) n c) l)) {q : Nat} (hq : q < l.length) : w.cell? ⟨b, off + q, none⟩ = some (.int .i64 (Go.Proofs.YtcngijafnnmccaaGreatDoor.vec l q)) := by
  obtain ⟨A', c', e1, _, _, e4⟩ := h.roInts i hi
  simp only [Value.slice.injEq] at e1
  obtain ⟨rfl, _, rfl⟩ := e1
  obtain ⟨b', off', e5, e6⟩ := e4 (by omega)
  simp only [Option.some.injEq, Addr.mk.injEq] at e5
  obtain ⟨rfl, rfl, _⟩ := e5
  exact e6 q _ (vec_get hq)
theorem St.swap2 {w0 w : World} {x y : It} {L : List It} (h : St w0 w (x :: y :: L)) : St w0 w (y :: x :: L) := by
  have key : ∀ (i : Nat) (z : It), (y :: x :: L)[i]? = some z → ∃ k, (x :: y :: L)[k]? = some z ∧ (i = 0 ∧ k = 1 ∨ i = 1 ∧ k = 0 ∨ 2 ≤ i ∧ k = i) := fun i z hz => by
    match i, hz with
    | 0, hz => exact ⟨1, hz, .inl ⟨rfl, rfl⟩⟩
    | 1, hz => exact ⟨0, hz, .inr (.inl ⟨rfl, rfl⟩)⟩
    | i + 2, hz => exact ⟨i + 2, hz, .inr (.inr ⟨by omega, rfl⟩)⟩
  refine ⟨h.below, fun z hz => h.ok z (by simp only [List.mem_cons] at hz ⊢; rcases hz with e | e | e <;> simp [e]), fun i j a b ha hb c h1 h2 => ?_, fun z hz => h.nodup z (by simp only [List.mem_cons] at hz ⊢; rcases hz with e | e | e <;> simp [e])⟩
  obtain ⟨k, hk, ek⟩ := key i a ha
  obtain ⟨l, hl, el⟩ := key j b hb
  have := h.apart k l a b hk hl c h1 h2
  omega
set_option maxHeartbeats 400000 in
theorem Index_any (v : Value) (l : List Int) (x : Int) (w : World) (hv : Ints w v l) :
    Calls Tryz.prog 86 #[v, .int .i64 x] w fun e w' => e = .returned (.int .i64 (idx (fun y => y == x) l 0)) ∧ w = w' := by
  obtain ⟨A, c, rfl, h1, h2, h3⟩ := hv
  obtain ⟨R, hR⟩ : ∃ R, R = idx (fun y => y == x) l 0 := ⟨_, rfl⟩
  rw [← hR]
  have HR := Lib.hid hR
  clear hR
  go_enter Tryz.func86, Tryz.ntmps86
  go_wp2
  go_loop [5, 8] (fun _ vi => ∃ k : Nat, vi = .int .i64 k ∧ Hid (R = idx (fun y => y == x) (l.drop k) k)) (fun _ vi => l.length - (intOf vi).toNat)
  case atStart => exact ⟨0, rfl, HR⟩
  case round =>
    obtain ⟨k, rfl, HM⟩ := hrel
    by_cases hk : k < l.length
    · obtain ⟨b, off, rfl, hc⟩ := h3 (by omega)
      have e1 := hc k l[k] (List.getElem?_eq_getElem hk)
      have HD := Lib.hid (idx_drop (fun y => y == x) l k hk)
      clear hc h3
      by_cases hx : l[k] = x
      · have HX := Lib.hid hx
        have e2 : (x == l[k]) = true := by rw [hx]; simp
        clear hx
        go_wp2
        go_ret
        exact ⟨ret_int (by rw [HM.out, HD.out, if_pos (by simp [HX.out])]), rfl⟩
      · have e2 : (x == l[k]) = false := by rw [beq_eq_false_iff_ne]; exact fun e => hx e.symm
        go_wp2
        go_round
        case rel => exact ⟨k + 1, by go_num, by rw [HM.out, HD.out, if_neg (by simp [hx])]; exact rfl⟩
        case measure => simp [intOf]; omega
    · have HE := Lib.hid (idx_end (fun y => y == x) l k (by omega))
      clear h3
      go_wp2
      go_ret
      exact ⟨ret_int (by rw [HM.out, HE.out]), rfl⟩
theorem Contains_any (v : Value) (l : List Int) (x : Int) (w : World) (hv : Ints w v l) :
    Calls Tryz.prog 79 #[v, .int .i64 x] w fun e w' => e = .returned (.bool (decide (0 ≤ idx (fun y => y == x) l 0))) ∧ w = w' := by
  obtain ⟨A, c, rfl, _, _, _⟩ := id hv
  obtain ⟨R, hR⟩ : ∃ R, R = idx (fun y => y == x) l 0 := ⟨_, rfl⟩
  have HI := Lib.hid (Index_any _ l x w hv)
  rw [← hR] at HI
  rw [← hR]
  clear hv hR
  go_enter Tryz.func79, Tryz.ntmps79
  go_wp2_with fail
  refine HI.out.mono ?_
  rintro (e : Ending) w1 ⟨rfl, rfl⟩
  go_wp2
  go_ret
  exact ⟨rfl, rfl⟩
section
variable {w0 w : World} {L : List It}
/-- A store into a slice of the call's own. -/
theorem St.setVec (h : St w0 w L) (i : Nat) {g c e sz n : Nat} {cs : List Value} {subs : List (Value × List Int)} (hi : L[i]? = some (.vec (.slice (some ⟨g, 0, none⟩) n c) e sz n cs subs)) (k : Nat) (x : Value) :
    St w0 (w.setCell ⟨g, k, none⟩ x) (L.set i (.vec (.slice (some ⟨g, 0, none⟩) n c) e sz n (cs.set k x) subs)) := by
  obtain ⟨h1, h2⟩ := World.ownsRow.stored (h.vec i hi).1 k x
  exact h.updVec i hi (by simpa [Value.ownBlock] using h2) (fun b hb => .inl hb) h1
end
end Go.Proofs.YtcngijafnnmccaaGreatDoor
