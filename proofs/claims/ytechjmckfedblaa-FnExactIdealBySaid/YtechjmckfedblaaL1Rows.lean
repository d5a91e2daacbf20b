/- l1Rows of the reference. -/
import Derived.Test.YtechjmckfedblaaMx
namespace Go.Proofs.Ytechjmckfedblaa
set_option maxRecDepth 100000
open Go.RowKit

set_option maxHeartbeats 1000000 in
theorem l1Rows_any (p : Int) (c : Nat) (v : Value) (ll : List (List Int)) (w : World) (hv : IntRows w v ll) (hl : total ll ≤ 4194304) :
    Calls Try.prog 141 #[.int .i64 p, .int .i64 c, v] w (RetMat w p ll.length c ll.flatten) := by
  have h1 := ((((St.start w).box [.int .i64 0, .int .i64 0, .int .i64 0, .slice none 0 0] 32).empty).box [.int .i64 p, .int .i64 ll.length, .int .i64 c, .slice (some ⟨w.heap.size + 1, 0, none⟩) 0 0] 32)
  simp only [World.size_alloc] at h1
  obtain ⟨A, c1, rfl, _, hc1, g3⟩ := id hv
  have HV := Lib.hid hv
  clear g3 hv
  obtain ⟨F, hF⟩ : ∃ F, F = ll.flatten := ⟨_, rfl⟩
  rw [← hF]
  have HF0 := Lib.hid hF
  clear hF
  go_enter Try.func141, Try.ntmps141
  go_wp2
  go_loopw [8] (fun vi wr => ∃ (i : Nat) (vd : Value), vi = .int .i64 i ∧ i ≤ ll.length ∧ St w wr [.box (w.heap.size + 1 + 1) [.int .i64 p, .int .i64 ll.length, .int .i64 c, vd], .own vd (ll.take i).flatten, .box w.heap.size [.int .i64 0, .int .i64 0, .int .i64 0, .slice none 0 0]]) (fun vi _ => ll.length - (intOf vi).toNat)
  case atStart => exact ⟨0, _, rfl, by omega, by simpa using h1⟩
  case round =>
    clear h1
    obtain ⟨i, vd, rfl, a1, h1⟩ := hrel
    by_cases hi : i < ll.length
    · obtain ⟨b, off, A9, c9, rfl, hm⟩ := HV.out.at (i := i) hi
      have h2 := h1.pushOld hm.fact
      have t1 := total_mem ll i hi
      have HT := Lib.hid (flatten_take ll i hi)
      have HF := Lib.hid (length_flatten' (ll.take i))
      have i1 : (i : Int) < ll.length := by omega
      clear hm
      go_wp2
      refine h2.region_tail 6 (by kernel_rfl) (by kernel_rfl) ?_
      simp only [List.take_succ_cons, List.take_zero, List.drop_succ_cons, List.drop_zero]
      iterate 6
        apply wpQuiet_op
        · exact rfl
        · intro w' hC
          obtain ⟨z0, z1, z2, z3⟩ := hC.box4 1 rfl
          obtain ⟨y0, y1⟩ := hC.fact 0 rfl
          unfold Oper.quietAt
          go_simp
          first | exact rfl | exact ⟨rfl, rfl⟩
        go_simp
      refine wpQuiet_nil (fun wn hC => ?_)
      obtain ⟨z0, z1, z2, z3⟩ := hC.box4 1 rfl
      have f3 := hC.free 1 rfl 3
      have y1 := (hC.fact 0 rfl).2
      have hlt := (hC.boxLt 1 rfl).2
      clear h1 h2
      go_wp2_with (at_builtin; refine wp_append_ints rfl (.tmp 22) (.tmp 26) rfl w.heap.size _ _ (ll.take i).flatten ll[i] rfl rfl (hC.own 2 rfl) y1 (by rw [HF.out]; omega) hC.size ?_; intro v1 w1 ho1 hg1 hb1; have h3 := hC.appended 2 rfl ho1 hg1 hb1; obtain ⟨A8, n8, k8, rfl⟩ := ho1.slice; obtain ⟨x0, x1, x2, x3⟩ := h3.box4 1 rfl; have g3 := h3.free 1 rfl 3; have hlt3 := (h3.boxLt 1 rfl).2; clear z0 z1 z2 z3 f3 hlt)
      have h4 := h3.setBox 1 rfl 3 (.slice A8 n8 k8)
      go_roundw
      case rel => exact ⟨i + 1, _, by go_num, by omega, by rw [HT.out]; exact h4.drop 1⟩
      case measure => simp [intOf]; omega
    · obtain rfl : i = ll.length := by omega
      rw [List.take_length, ← HF0.out] at h1
      obtain ⟨A8, k8, rfl, _, _, _⟩ := id (h1.own 1 rfl).ints
      obtain ⟨z0, z1, z2, z3⟩ := h1.box4 0 rfl
      obtain ⟨y0, y1, y2, y3⟩ := h1.box4 2 rfl
      have f0 := h1.free 2 rfl 0
      have f1 := h1.free 2 rfl 1
      have f2 := h1.free 2 rfl 2
      have f3 := h1.free 2 rfl 3
      have h2 := (((h1.setBox 2 rfl 0 (.int .i64 p)).setBox 2 rfl 1 (.int .i64 ll.length)).setBox 2 rfl 2 (.int .i64 c)).setBox 2 rfl 3 (.slice A8 F.length k8)
      obtain ⟨r0, r1, r2, r3⟩ := h2.box4 2 rfl
      go_wp2
      refine bodyPost_ret (v := .agg #[.int .i64 p, .int .i64 ll.length, .int .i64 c, .slice A8 F.length k8]) (by simp [results, Try.results141, go_sem, r0, r1, r2, r3]) rfl ⟨_, rfl, h2.own 1 rfl, h2.below⟩
end Go.Proofs.Ytechjmckfedblaa
