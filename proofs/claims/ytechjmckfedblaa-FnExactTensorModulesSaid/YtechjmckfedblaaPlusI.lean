/- plus of the program. -/
import Derived.Test.YtechjmckfedblaaMatArith
import Derived.Deep.DeepCutAuto
import Derived.Deep.RegionHeld3
namespace Go.Proofs.Ytechjmckfedblaa
set_option maxRecDepth 100000
open Go.RowKit

theorem St.swap2 {w0 w : World} {x y : It} {L : List It} (h : St w0 w (x :: y :: L)) : St w0 w (y :: x :: L) := by
  have key : ∀ (i : Nat) (z : It), (y :: x :: L)[i]? = some z → ∃ k, (x :: y :: L)[k]? = some z ∧ (i = 0 ∧ k = 1 ∨ i = 1 ∧ k = 0 ∨ 2 ≤ i ∧ k = i) := fun i z hz => by
    match i, hz with
    | 0, hz => exact ⟨1, hz, .inl ⟨rfl, rfl⟩⟩
    | 1, hz => exact ⟨0, hz, .inr (.inl ⟨rfl, rfl⟩)⟩
    | i + 2, hz => exact ⟨i + 2, hz, .inr (.inr ⟨by omega, rfl⟩)⟩
  refine ⟨h.below, fun z hz => h.ok z (by simp only [List.mem_cons] at hz ⊢; rcases hz with e | e | e <;> simp [e]), fun i j a b ha hb c h1 h2 => ?_, fun z hz => h.nodup z (by simp only [List.mem_cons] at hz ⊢; rcases hz with e | e | e <;> simp [e])⟩
  obtain ⟨k, hk, ek⟩ := key i a ha
  obtain ⟨l, hl, el⟩ := key j b hb
  have := h.apart k l a b hk hl c h1 h2
  omega

set_option maxHeartbeats 4000000 in
theorem plus_any (p q r c r' c' k : Int) (t s : Value) (D E : List Int) (w : World) (ht : Ints w t D) (hs : Ints w s E) (hl : D.length ≤ 4194304) (hE : E.length = D.length) (hp : 2 ≤ p) (hp' : p ≤ 10007) (hk : 0 ≤ k) (hk' : k ≤ p) (rD : resid p D = true) (rE : resid p E = true) :
    Calls Try.prog 118 #[.agg #[.int .i64 p, .int .i64 r, .int .i64 c, t], .int .i64 k, .agg #[.int .i64 q, .int .i64 r', .int .i64 c', s]] w (RetMat w p r c (addL D k E p)) := by
  have h1 := (((((St.start w).arg ht).arg hs).box [.int .i64 p, .int .i64 r, .int .i64 c, t] 32).box [.int .i64 q, .int .i64 r', .int .i64 c', s] 32).box [.int .i64 0, .int .i64 0, .int .i64 0, .slice none 0 0] 32
  simp only [World.size_alloc] at h1
  obtain ⟨A, k0, rfl, _, _, _⟩ := id ht
  obtain ⟨A2, k2, rfl, _, _, _⟩ := id hs
  have HE := Lib.hid hE
  have Hln := Lib.hid (length_addL D k E p hE)
  have HC := Lib.hid (fun W (hi : Ints W (.slice A D.length k0) D) => Clone_any _ D W hi (by omega))
  clear ht hs hE
  go_enter Try.func118, Try.ntmps118
  go_upto_region 1 with fail
  generalize hW0 : (((w.alloc (.cells #[.int .i64 p, .int .i64 r, .int .i64 c, .slice A D.length k0] 32)).alloc (.cells #[.int .i64 q, .int .i64 r', .int .i64 c', .slice A2 E.length k2] 32)).alloc (.cells #[.int .i64 0, .int .i64 0, .int .i64 0, .slice none 0 0] 32)) = W0 at h1 ⊢
  clear hW0
  obtain ⟨z0, z1, z2, z3⟩ := h1.box4 2 rfl
  have l0 := (h1.boxLt 2 rfl).2
  have l1 := (h1.boxLt 1 rfl).2
  have n1 : W0.heap.size ≠ w.heap.size := by omega
  have n2 : W0.heap.size ≠ w.heap.size + 1 := by omega
  go_cut [7] (fun s7 wx => ∃ (bx : Nat) (A7 : Option Addr) (c7 : Nat), s7 = .pointer (some ⟨bx, 0, none⟩) ∧ St w wx [.box bx [.int .i64 p, .int .i64 r, .int .i64 c, .slice A7 D.length c7], .own (.slice A7 D.length c7) D, .box (w.heap.size + 1 + 1) [.int .i64 0, .int .i64 0, .int .i64 0, .slice none 0 0], .box (w.heap.size + 1) [.int .i64 q, .int .i64 r', .int .i64 c', .slice A2 E.length k2], .box w.heap.size [.int .i64 p, .int .i64 r, .int .i64 c, .slice A D.length k0], .ro (.slice A2 E.length k2) E, .ro (.slice A D.length k0) D])
  case first =>
    go_region_held3 (fun w' => w'.cell? ⟨w.heap.size, 0, none⟩ = some (.int .i64 p) ∧ w'.cell? ⟨w.heap.size, 1, none⟩ = some (.int .i64 r) ∧ w'.cell? ⟨w.heap.size, 2, none⟩ = some (.int .i64 c) ∧ w'.cell? ⟨w.heap.size, 3, none⟩ = some (.slice A D.length k0))
      (first | exact ⟨z0, z1, z2, z3⟩ | exact ⟨y0, y1, y2, y3⟩ | go_keep)
      (first
        | (go_at_call 130; refine (HC.out _ ?_).mono ?_; exact h1.drew.roInts 4 rfl; rintro (e : Ending) w1 ⟨u, rfl, ho, hb1⟩; obtain ⟨A7, c7, rfl, _, _, _⟩ := id ho.ints; have h2 := h1.drew.pushOwn hb1 ho; obtain ⟨y0, y1, y2, y3⟩ := h2.box4 3 rfl)
        | (go_at_call 130; refine (HC.out _ ?_).mono ?_; exact (h1.drew.box [.int .i64 0, .int .i64 0, .int .i64 0, .slice none 0 0] 32).roInts 5 rfl; rintro (e : Ending) w1 ⟨u, rfl, ho, hb1⟩; obtain ⟨A7, c7, rfl, _, _, _⟩ := id ho.ints; have h2 := (h1.drew.box [.int .i64 0, .int .i64 0, .int .i64 0, .slice none 0 0] 32).pushOwn hb1 ho; (try simp only [World.drew] at h2); obtain ⟨y0, y1, y2, y3⟩ := h2.box4 4 rfl; obtain ⟨e0, e1, e2, e3⟩ := h2.box4 1 rfl; have f0 := h2.free 1 rfl 0; have f1 := h2.free 1 rfl 1; have f2 := h2.free 1 rfl 2; have f3 := h2.free 1 rfl 3))
    all_goals
      go_wp2_with fail
      go_meet
      first
      | exact ⟨_, _, _, rfl, h2.box [.int .i64 p, .int .i64 r, .int .i64 c, .slice A7 D.length c7] 32⟩
      | exact ⟨_, _, _, rfl, St.swap2 ((((h2.setBox 1 rfl 0 (.int .i64 p)).setBox 1 rfl 1 (.int .i64 r)).setBox 1 rfl 2 (.int .i64 c)).setBox 1 rfl 3 (.slice A7 D.length c7))⟩
  case rest =>
  clear h1 z0 z1 z2 z3
  obtain ⟨bx, A7, c7, rfl, h1⟩ := hcut
  obtain ⟨z0, z1, z2, z3⟩ := h1.box4 0 rfl
  obtain ⟨y0, y1, y2, y3⟩ := h1.box4 3 rfl
  obtain ⟨x0, x1, x2, x3⟩ := h1.box4 4 rfl
  go_wp2_with fail
  refine (addTo_any _ _ D E k p w.heap.size _ (h1.own 1 rfl) (h1.roInts 5 rfl) (fun h g hg e => ?_) HE.out (by omega) hp hp' hk hk' rD rE).mono ?_
  · obtain ⟨b, off, c, he, hbb⟩ := (h1.ro 5 rfl).2 h
    have := ((h1.own 1 rfl).lt g hg).1
    rw [he] at e
    simp [Value.ownBlock] at e
    omega
  rintro (e : Ending) w3 ⟨rfl, ho, hg⟩
  have h2 := h1.wrote 1 rfl ho hg
  clear h1 ho hg z0 z1 z2 z3 y0 y1 y2 y3 x0 x1 x2 x3
  obtain ⟨z0, z1, z2, z3⟩ := h2.box4 0 rfl
  have f0 := h2.free 2 rfl 0
  have f1 := h2.free 2 rfl 1
  have f2 := h2.free 2 rfl 2
  have f3 := h2.free 2 rfl 3
  obtain ⟨x0, x1, x2, x3⟩ := h2.box4 2 rfl
  have h3 := (((h2.setBox 2 rfl 0 (.int .i64 p)).setBox 2 rfl 1 (.int .i64 r)).setBox 2 rfl 2 (.int .i64 c)).setBox 2 rfl 3 (.slice A7 D.length c7)
  obtain ⟨r0, r1, r2, r3⟩ := h3.box4 2 rfl
  go_wp2
  refine bodyPost_ret (v := .agg #[.int .i64 p, .int .i64 r, .int .i64 c, .slice A7 D.length c7]) (by simp [results, Try.results118, go_sem, r0, r1, r2, r3]) rfl ⟨_, rfl, h3.own 1 rfl, h3.below⟩
end Go.Proofs.Ytechjmckfedblaa
