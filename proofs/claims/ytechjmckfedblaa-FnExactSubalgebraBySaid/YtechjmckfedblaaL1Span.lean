/- The reference's l1Span. -/
import Derived.Test.YtechjmckfedblaaL1Reduce
import Derived.Test.YtechjmckfedblaaSpace2
namespace Go.Proofs.Ytechjmckfedblaa
set_option maxRecDepth 100000
open Go.RowKit

/-- Two pieces at once. -/
theorem St.join {w0 w w' : World} {L M : List It} (h : St w0 w L) (h2 : St w w' M) (hm : ∀ x ∈ M, x.ok w0.heap.size w') : St w0 w' (M ++ L) := by
  have h' := h.on h2.below
  have low : ∀ (i : Nat) (y : It) (b : Nat), L[i]? = some y → b ∈ y.fp → b < w.heap.size := fun i y b hy hb => (It.ok_lt (h.at i hy) b hb).2
  have high : ∀ (i : Nat) (y : It) (b : Nat), M[i]? = some y → b ∈ y.fp → w.heap.size ≤ b := fun i y b hy hb => (It.ok_lt (h2.at i hy) b hb).1
  refine ⟨h'.below, fun x hx => ?_, fun i j x y hx hy b h3 h4 => ?_, fun x hx => ?_⟩
  · rcases List.mem_append.1 hx with hx | hx
    · exact hm x hx
    · exact h'.ok x hx
  · rw [List.getElem?_append] at hx hy
    split at hx
    · split at hy
      · exact h2.apart i j x y hx hy b h3 h4
      · have := high i x b hx h3
        have := low _ y b hy h4
        omega
    · split at hy
      · have := low _ x b hx h3
        have := high j y b hy h4
        omega
      · have := h.apart _ _ x y hx hy b h3 h4
        omega
  · rcases List.mem_append.1 hx with hx | hx
    · exact h2.nodup x hx
    · exact h.nodup x hx
theorem St.pushTwo {w0 w w' : World} {L : List It} (h : St w0 w L) {v u : Value} {l m : List Int} (h2 : St w w' [.own v l, .own u m]) : St w0 w' (.own v l :: .own u m :: L) :=
  h.join h2 fun x hx => by
    simp only [List.mem_cons, List.not_mem_nil, or_false] at hx
    rcases hx with rfl | rfl
    · exact Own.mono (h2.own 0 rfl) h.size
    · exact Own.mono (h2.own 1 rfl) h.size

set_option maxHeartbeats 4000000 in
theorem l1Span_any (p : Int) (nr nc : Nat) (t : Value) (D : List Int) (w : World) (ht : Ints w t D) (hD : D.length = nr * nc) (hb : nr * nc ≤ 4194304) (hnr : nr ≤ 4194304) (hnc : nc ≤ 4194304) (hP : isPrime p = true) (rD : resid p D = true) :
    Calls Try.prog 82 #[.agg #[.int .i64 p, .int .i64 nr, .int .i64 nc, t]] w (RetMat w p (spanL p nc (rowsM nr nc D)).length nc (spanM p nc (rowsM nr nc D))) := by
  obtain ⟨b1, b2⟩ := isPrime_bd hP
  have h1 := (((St.start w).arg ht).box [.int .i64 p, .int .i64 nr, .int .i64 nc, t] 32).box [.int .i64 0, .int .i64 0, .int .i64 0, .slice none 0 0] 32
  simp only [World.size_alloc] at h1
  obtain ⟨A, k0, rfl, _, _, _⟩ := id ht
  have hWr := Wf_rowsM (p := p) (by omega) (r := nr) (c := nc) rD
  have hok := reduceL_ok (p := p) (by omega) hWr
  have hrl := hok.len
  have hpv := hok.piv
  rw [length_rowsM] at hrl hpv
  have hls := length_spanL hP hWr
  have hR := fun (W : World) (hi : Ints W (.slice A D.length k0) D) => l1Reduce_any p nr nc _ D W hi hD hb hnr hnc hP rD
  have hsp : spanM p nc (rowsM nr nc D) = (flat nc (reduceL p nc (rowsM nr nc D)).1).take ((reduceL p nc (rowsM nr nc D)).2.length * nc) := by
    rw [take_mul_flat hok.wf _ (by rw [hrl]; exact hpv)]; rfl
  obtain ⟨F, hF⟩ : ∃ F, F = flat nc (reduceL p nc (rowsM nr nc D)).1 := ⟨_, rfl⟩
  have hFl : F.length = nr * nc := by rw [hF, length_flat, hrl]
  obtain ⟨piv, hpiv⟩ : ∃ piv, piv = (reduceL p nc (rowsM nr nc D)).2 := ⟨_, rfl⟩
  have hpv' : pivL p nc (rowsM nr nc D) = piv := by rw [hpiv]; rfl
  rw [hls, hpv', hsp]
  rw [← hF, ← hpiv] at hR ⊢
  rw [← hpiv] at hpv
  have HRd := Lib.hid hR
  have hkc := Nat.mul_le_mul_right nc hpv
  have HFl := Lib.hid hFl
  clear hF hpiv hok hWr hrl hls hR hsp hpv' ht hD rD hP hFl
  obtain ⟨z0, z1, z2, z3⟩ := h1.box4 1 rfl
  go_enter Try.func82, Try.ntmps82
  go_wp2_with fail
  refine (HRd.out _ (h1.roInts 2 rfl)).mono ?_
  rintro (e : Ending) w1 ⟨u, vp, det, rfl, h2⟩
  replace h1 := h1.pushTwo h2
  clear h2 z0 z1 z2 z3
  obtain ⟨A1, c1, rfl, _, _, _⟩ := id (h1.ownInts 0 rfl)
  obtain ⟨A2, c2, rfl, _, _, _⟩ := id (h1.ownInts 1 rfl)
  rw [length_pivI] at h1 ⊢
  have hcut := (cutTo (h1.ownInts 1 rfl) (piv.length * nc) (by rw [HFl.out]; exact hkc)).1
  have e1 : (piv.length : Int) * nc = ((piv.length * nc : Nat) : Int) := (Int.natCast_mul _ _).symm
  have i1 : 0 ≤ (piv.length : Int) * nc ∧ (piv.length : Int) * nc ≤ 4194304 := by omega
  obtain ⟨q, hq⟩ : ∃ q, q = piv.length * nc := ⟨_, rfl⟩
  rw [← hq] at e1 hcut
  have hqF : q ≤ F.length := by rw [HFl.out, hq]; exact hkc
  have h3 := (h1.box [.int .i64 p, .int .i64 piv.length, .int .i64 nc, .slice A2 q c2] 32).takeOwn 2 rfl rfl q hqF
  obtain ⟨x0, x1, x2, x3⟩ := h3.box4 3 rfl
  have g0 := h3.free 3 rfl 0
  have g1 := h3.free 3 rfl 1
  have g2 := h3.free 3 rfl 2
  have g3 := h3.free 3 rfl 3
  have h4 := (((h3.setBox 3 rfl 0 (.int .i64 p)).setBox 3 rfl 1 (.int .i64 piv.length)).setBox 3 rfl 2 (.int .i64 nc)).setBox 3 rfl 3 (.slice A2 q c2)
  obtain ⟨r0, r1, r2, r3⟩ := h4.box4 3 rfl
  have HQ := Lib.hid hq
  clear h1 h3 hq hkc hpv
  go_wp2
  refine bodyPost_ret (v := .agg #[.int .i64 p, .int .i64 piv.length, .int .i64 nc, .slice A2 q c2]) (by simp [results, Try.results82, go_sem, r0, r1, r2, r3]) rfl ⟨_, rfl, by rw [← HQ.out]; exact h4.own 2 rfl, h4.below⟩
end Go.Proofs.Ytechjmckfedblaa
