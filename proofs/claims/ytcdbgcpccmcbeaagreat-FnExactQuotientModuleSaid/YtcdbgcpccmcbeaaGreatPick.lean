/- The program's pick and withoutPivots. -/
import Derived.Test.YtcdbgcpccmcbeaaGreatKerI
import Derived.Test.YtcdbgcpccmcbeaaGreatCo
namespace Go.Proofs.YtcdbgcpccmcbeaaGreat
set_option maxRecDepth 100000
open Go.RowKit

theorem pv_free {piv : List Nat} {n i : Nat} (h : i < (freeTo piv n).length) : pv (freeTo piv n) i < n := (mem_freeTo.1 (pv_mem h)).1
theorem atPiv_take1 {piv : List Nat} {V : List Int} {k : Nat} (h : k < piv.length) : atPiv (piv.take (k + 1)) V = atPiv (piv.take k) V ++ [vec V (pv piv k)] := by
  rw [take_piv h, atPiv, List.map_append]; rfl

theorem St.pivCell {w0 w : World} {L : List It} (h : St w0 w L) (i : Nat) {g n c : Nat} {P : List Nat} (hi : L[i]? = some (.own (.slice (some ⟨g, 0, none⟩) n c) (pivI P))) {q : Nat} (hq : q < P.length) : w.cell? ⟨g, q, none⟩ = some (.int .i64 (pv P q)) := by
  have h9 := (h.ownCellA i hi (q := q) (by rw [length_pivI]; exact hq)).1
  rwa [vec_pivI hq] at h9

set_option maxHeartbeats 1000000 in
theorem pick_any (v t : Value) (V : List Int) (piv : List Nat) (w : World) (hv : Ints w v V) (ht : Ints w t (pivI piv)) (hb : ∀ i, i < piv.length → pv piv i < V.length) (hV : V.length ≤ 4194304) (hl : piv.length ≤ 4194304) :
    Calls Tryz.prog 34 #[v, t] w (RetOwn w (atPiv piv V)) := by
  have h1 := (((St.start w).arg hv).arg ht).empty
  obtain ⟨A, k0, rfl, _, _, _⟩ := id hv
  obtain ⟨A3, k3, rfl, _, _, _⟩ := id ht
  rw [length_pivI] at h1 ⊢
  obtain ⟨n, hn⟩ : ∃ n, n = V.length := ⟨_, rfl⟩
  rw [← hn] at h1 hb hV ⊢
  have HV := Lib.hid hn
  have Hb := Lib.hid hb
  clear hv ht hb hn
  go_enter Tryz.func34, Tryz.ntmps34
  go_wp2
  go_loopw [5, 7, 11] (fun v5 _ v11 wr => ∃ k : Nat, v11 = .int .i64 k ∧ k ≤ piv.length ∧ St w wr [.own v5 (atPiv (piv.take k) V), .ro (.slice A3 piv.length k3) (pivI piv), .ro (.slice A n k0) V]) (fun _ _ v11 _ => piv.length - (intOf v11).toNat)
  case atStart => exact ⟨0, rfl, by omega, h1⟩
  case round =>
    clear h1
    obtain ⟨k, rfl, a1, g⟩ := hrel
    by_cases hk : k < piv.length
    · have hcn := Hb.out k hk
      have HN := Lib.hid (atPiv_take1 (V := V) hk)
      obtain ⟨gp, offp, rfl⟩ := g.roSome 1 rfl (by rw [length_pivI]; omega)
      have pc := g.roCell 1 rfl (q := k) (by rw [length_pivI]; exact hk)
      rw [vec_pivI hk] at pc
      obtain ⟨gl, offl, rfl⟩ := g.roSome 2 rfl (by rw [← HV.out]; omega)
      have oc := g.roCell 2 rfl (q := pv piv k) (by rw [← HV.out]; exact hcn)
      obtain ⟨z, hz⟩ : ∃ z, z = vec V (pv piv k) := ⟨_, rfl⟩
      obtain ⟨ck, hck⟩ : ∃ ck, ck = pv piv k := ⟨_, rfl⟩
      have hn2 := HN.out
      rw [← hz] at hn2
      have HN2 := Lib.hid hn2
      rw [← hz, ← hck] at oc
      rw [← hck] at hcn pc
      have ip : (k : Int) < piv.length := by omega
      have ic : (ck : Int) < n := by omega
      have Hl1 := Lib.hid (show (atPiv (piv.take k) V).length + 1 ≤ 17592186044416 by rw [length_atPiv, List.length_take]; omega)
      clear hz hck hn2 HN
      go_wp2_with (at_builtin; refine wp_append_ints rfl (.tmp 15) (.tmp 20) rfl w.heap.size _ _ (atPiv (piv.take k) V) [z] rfl rfl ((g.alloc' _).own 0 rfl) Ints.one Hl1.out (g.alloc' _).size ?_; intro v1 w7 ho1 hg1 hb1; have h4 := (g.alloc' _).appended 0 rfl ho1 hg1 hb1)
      go_roundw
      case rel => exact ⟨k + 1, by go_num, by omega, by rw [HN2.out]; exact h4⟩
      case measure => simp [intOf]; omega
    · obtain rfl : k = piv.length := by omega
      rw [List.take_length] at g
      go_wp2
      go_ret
      exact ⟨_, rfl, g.own 0 rfl, g.below⟩

set_option maxHeartbeats 1000000 in
theorem withoutPivots_any (p : Int) (n : Nat) (S : List (List Int)) (piv : List Nat) (t : Value) (w : World) (ht : Ints w t (flat n S)) (hS : Rf p n S piv) (hr : S.length ≤ 40) (hn : n ≤ 40) :
    Calls Tryz.prog 33 #[.agg #[.int .i64 p, .int .i64 S.length, .int .i64 n, t]] w (RetOwn w (pivI (freeTo piv n))) := by
  have h1 := ((St.start1 ht).box [.int .i64 p, .int .i64 S.length, .int .i64 n, t] 37).empty
  simp only [World.size_alloc] at h1
  obtain ⟨A, k0, rfl, _, _, _⟩ := id ht
  have hPv := fun (W : World) (x1 : Ints W (.slice A (flat n S).length k0) (flat n S)) => pivotsOf_any p n S piv _ W x1 hS hr hn
  obtain ⟨D, hD⟩ : ∃ D, D = flat n S := ⟨_, rfl⟩
  obtain ⟨r, hr9⟩ : ∃ r, r = S.length := ⟨_, rfl⟩
  rw [← hD, ← hr9] at hPv h1
  rw [← hD, ← hr9]
  have HPv := Lib.hid hPv
  clear ht hD hr hr9 hPv hS
  obtain ⟨z0, z1, z2, z3⟩ := h1.box4 1 rfl
  go_enter Tryz.func33, Tryz.ntmps33
  go_wp2
  clear z0 z1 z2 z3
  go_loopw [3, 4, 8] (fun v3 _ v8 wr => ∃ c : Nat, v8 = .int .i64 c ∧ c ≤ n ∧ St w wr [.own v3 (pivI (freeTo piv c)), .box w.heap.size [.int .i64 p, .int .i64 r, .int .i64 n, .slice A D.length k0], .ro (.slice A D.length k0) D]) (fun _ _ v8 _ => n - (intOf v8).toNat)
  case atStart => exact ⟨0, rfl, by omega, h1⟩
  case round =>
    clear h1
    obtain ⟨c, rfl, a1, h3⟩ := hrel
    by_cases hc : c < n
    · obtain ⟨x0, x1, x2, x3⟩ := h3.box4 1 rfl
      have ic : (c : Int) < n := by omega
      go_wp2_with fail
      refine (HPv.out _ (h3.roInts 2 rfl)).mono ?_
      rintro (e : Ending) w3 ⟨u3, rfl, ho3, hb3⟩
      have h4 := h3.pushOwn hb3 ho3
      clear x0 x1 x2 x3 h3 hb3 ho3
      by_cases hm : c ∈ piv
      · have hmd : decide (c ∈ piv) = true := decide_eq_true hm
        have HN := Lib.hid (freeTo_no hm)
        have HC := Lib.hid (fun W => Contains_piv u3 piv c W)
        rw [hmd] at HC
        clear hm hmd
        go_wp2_with fail
        refine (HC.out _ (h4.ownInts 0 rfl)).mono ?_
        rintro (e : Ending) w4 ⟨rfl, rfl⟩
        go_wp2
        go_roundw
        case rel => exact ⟨c + 1, by go_num, by omega, by rw [HN.out]; exact h4.drop 1⟩
        case measure => simp [intOf]; omega
      · have hmd : decide (c ∈ piv) = false := decide_eq_false hm
        have HN := Lib.hid (freeTo_yes hm)
        have HC := Lib.hid (fun W => Contains_piv u3 piv c W)
        rw [hmd] at HC
        have Hl1 := Lib.hid (show (pivI (freeTo piv c)).length + 1 ≤ 17592186044416 by have := length_freeTo piv c; rw [length_pivI]; omega)
        clear hm hmd
        go_wp2_with fail
        refine (HC.out _ (h4.ownInts 0 rfl)).mono ?_
        rintro (e : Ending) w4 ⟨rfl, rfl⟩
        go_wp2_with (at_builtin; refine wp_append_ints rfl (.tmp 16) (.tmp 18) rfl w.heap.size _ _ (pivI (freeTo piv c)) [((c : Nat) : Int)] rfl rfl ((h4.alloc' _).own 1 rfl) Ints.one Hl1.out (h4.alloc' _).size ?_; intro v1 w7 ho1 hg1 hb1; have h5 := (h4.alloc' _).appended 1 rfl ho1 hg1 hb1)
        go_roundw
        case rel => exact ⟨c + 1, by go_num, by omega, by rw [HN.out, pivI_snoc]; exact h5.drop 1⟩
        case measure => simp [intOf]; omega
    · obtain rfl : c = n := by omega
      go_wp2
      go_ret
      exact ⟨_, rfl, h3.own 0 rfl, h3.below⟩

end Go.Proofs.YtcdbgcpccmcbeaaGreat
