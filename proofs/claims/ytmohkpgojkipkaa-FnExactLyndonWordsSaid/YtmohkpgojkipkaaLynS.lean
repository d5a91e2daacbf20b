/- Lyndon words, the reference's side: the next word (l11Next). -/
import Derived.Test.YtmohkpgojkipkaaLynP
import Derived.Test.YtmohkpgojkipkaaSerS
import Derived.Test.YtmohkpgojkipkaaSpace2
namespace Go.Proofs.Ytmohkpgojkipkaa
set_option maxRecDepth 100000
open Go.RowKit
namespace Words

theorem vec_mapN (l : List Nat) (i : Nat) : vec (l.map Int.ofNat) i = ((l.getD i 0 : Nat) : Int) := by
  unfold vec
  by_cases h : i < l.length
  · simp [List.getD, List.getElem?_map, List.getElem?_eq_getElem h]
  · simp [List.getD, List.getElem?_map, List.getElem?_eq_none (Nat.le_of_not_lt h)]
theorem take_vec {l : List Int} {k : Nat} (h : k < l.length) : l.take (k + 1) = l.take k ++ [vec l k] := by
  rw [List.take_add_one, List.getElem?_eq_getElem h]
  simp [vec, List.getD, List.getElem?_eq_getElem h]
theorem length_rep (lw : List Nat) (hne : lw ≠ []) (n : Nat) : (rep lw n lw).length = n := by
  rw [rep_eq lw hne n [] lw rfl]; simp
theorem rep_vec (lw : List Nat) (hne : lw ≠ []) (n k : Nat) (hk : k < n) : vec ((rep lw n lw).map Int.ofNat) k = vec (lw.map Int.ofNat) (k % lw.length) := by
  rw [vec_mapN, vec_mapN, rep_eq lw hne n [] lw rfl]
  simp [List.getD, hk]
theorem drop_pred {l : List Nat} {j : Nat} (h0 : 0 < j) (h : j ≤ l.length) : l.drop (j - 1) = l.getD (j - 1) 0 :: l.drop j := by
  rw [List.drop_eq_getElem_cons (by omega), show j - 1 + 1 = j from by omega]
  simp [List.getD, List.getElem?_eq_getElem (show j - 1 < l.length by omega)]
theorem strip_step {l : List Nat} {j top : Nat} (h0 : 0 < j) (h : j ≤ l.length) (hd : l.drop j = List.replicate (l.length - j) top) (ht : l.getD (j - 1) 0 = top) : l.drop (j - 1) = List.replicate (l.length - (j - 1)) top := by
  rw [drop_pred h0 h, hd, ht, show l.length - (j - 1) = (l.length - j) + 1 from by omega]; rfl
theorem strip_all {l : List Nat} {top : Nat} (hd : l.drop 0 = List.replicate (l.length - 0) top) : (nxt top l).map Int.ofNat = [] := by
  rw [List.drop_zero] at hd
  rw [hd, nxt_tops]; rfl
theorem strip_end {l : List Nat} {j top : Nat} (h0 : 0 < j) (h : j ≤ l.length) (hd : l.drop j = List.replicate (l.length - j) top) (ht : l.getD (j - 1) 0 ≠ top) :
    (nxt top l).map Int.ofNat = ((l.map Int.ofNat).take j).set (j - 1) (vec (l.map Int.ofNat) (j - 1) + 1) := by
  have e : l = l.take (j - 1) ++ l.getD (j - 1) 0 :: List.replicate (l.length - j) top := by
    rw [← hd, ← drop_pred h0 h, List.take_append_drop]
  have e1 : nxt top l = l.take (j - 1) ++ [l.getD (j - 1) 0 + 1] := by
    conv => lhs; rw [e]
    exact nxt_step top _ _ ht _
  have e2 : (l.map Int.ofNat).take j = (l.take (j - 1)).map Int.ofNat ++ [vec (l.map Int.ofNat) (j - 1)] := by
    conv => lhs; rw [show j = (j - 1) + 1 from by omega]
    rw [take_vec (by rw [List.length_map]; omega), List.map_take]
  have e3 : ((l.take (j - 1)).map Int.ofNat).length = j - 1 := by rw [List.length_map, List.length_take]; omega
  rw [e1, e2, List.map_append, List.set_append_right _ _ (by omega), e3, Nat.sub_self, vec_mapN]
  simp
set_option maxHeartbeats 1000000 in
theorem l11Next_any (v : Value) (lw : List Nat) (q n : Nat) (w : World) (hv : Ints w v (lw.map Int.ofNat)) (hne : lw ≠ []) (hl : lw.length ≤ 8) (hq1 : 1 ≤ q) (hq2 : q ≤ 4) (hn : n ≤ 8) (hn1 : 1 ≤ n) (hb : ∀ x, x ∈ lw → x < q) :
    Calls Try.prog 60 #[v, .int .i64 q, .int .i64 n] w (RetOwn w ((nxt (q - 1) (rep lw n lw)).map Int.ofNat)) := by
  have hbr : ∀ i, (rep lw n lw).getD i 0 < q := by
    intro i
    by_cases hi : i < n
    · rw [rep_eq lw hne n [] lw rfl]
      simp only [List.getD, List.getElem?_map, List.getElem?_range hi, Option.map_some, Option.getD_some]
      have hlt : (([] : List Nat).length + i) % lw.length < lw.length := Nat.mod_lt _ (List.length_pos_iff.2 hne)
      rw [List.getElem?_eq_getElem hlt]
      exact hb _ (List.getElem_mem hlt)
    · have := length_rep lw hne n
      simp only [List.getD]
      rw [List.getElem?_eq_none (by omega)]
      exact hq1
  have hRl0 := length_rep lw hne n
  have hRv0 : ∀ k, k < n → vec ((rep lw n lw).map Int.ofNat) k = vec (lw.map Int.ofNat) (k % lw.length) := fun k hk => rep_vec lw hne n k hk
  obtain ⟨Rn, hRn⟩ : ∃ Rn, Rn = rep lw n lw := ⟨_, rfl⟩
  rw [← hRn] at hbr hRl0 hRv0 ⊢
  obtain ⟨R, hR⟩ : ∃ R, R = Rn.map Int.ofNat := ⟨_, rfl⟩
  rw [← hR] at hRv0
  have hRl : R.length = n := by rw [hR, List.length_map, hRl0]
  have hS1 := fun (j : Nat) (h0 : 0 < j) (h : j ≤ n) => strip_step (l := Rn) (j := j) (top := q - 1) h0 (by omega)
  have hS2 := strip_all (l := Rn) (top := q - 1)
  have hS3 := fun (j : Nat) (h0 : 0 < j) (h : j ≤ n) => strip_end (l := Rn) (j := j) (top := q - 1) h0 (by omega)
  have hRz : ∀ i, vec R i = ((Rn.getD i 0 : Nat) : Int) := fun i => by rw [hR, vec_mapN]
  have hS0 : Rn.drop n = List.replicate (Rn.length - n) (q - 1) := by rw [hRl0, Nat.sub_self, List.drop_eq_nil_of_le (by omega)]; rfl
  rw [← hR] at hS3
  obtain ⟨Z, hZ⟩ : ∃ Z, Z = (nxt (q - 1) Rn).map Int.ofNat := ⟨_, rfl⟩
  rw [← hZ] at hS2 hS3 ⊢
  obtain ⟨wl, hwl⟩ : ∃ wl, wl = lw.map Int.ofNat := ⟨_, rfl⟩
  obtain ⟨m, hm⟩ : ∃ m, m = lw.length := ⟨_, rfl⟩
  have hm1 : wl.length = m := by rw [hwl, hm, List.length_map]
  have hm0 : 0 < m := by rw [hm]; exact List.length_pos_iff.2 hne
  rw [← hwl, ← hm] at hRv0
  rw [← hwl] at hv
  rw [← hm] at hl
  have HS1 := Lib.hid hS1
  have HS2 := Lib.hid hS2
  have HS3 := Lib.hid hS3
  have HS0 := Lib.hid hS0
  have HR := Lib.hid hRv0
  have HB := Lib.hid hbr
  have HV := Lib.hid hRz
  have HL := Lib.hid (And.intro hRl hm1)
  clear hRv0 hwl hm hne hRl hRl0 hbr hS1 hS2 hS3 hS0 hRz hR hRn hZ hb
  have h1 := (((St.start w).arg hv).empty)
  obtain ⟨A, k0, rfl, _, _, _⟩ := id hv
  rw [hm1] at h1 ⊢
  clear hv hm1
  go_enter Try.func60, Try.ntmps60
  go_wp2
  go_loopw [7, 8] (fun v7 v8 wr => ∃ k : Nat, v8 = .int .i64 k ∧ k ≤ n ∧ St w wr [.own v7 (R.take k), .ro (.slice A m k0) wl]) (fun _ v8 _ => n - (intOf v8).toNat)
  case atStart => exact ⟨0, rfl, by omega, h1⟩
  case round =>
    clear h1
    obtain ⟨k, rfl, a1, g⟩ := hrel
    by_cases hk : k < n
    · obtain ⟨ck, hck⟩ : ∃ ck, ck = k % m := ⟨_, rfl⟩
      have hcm : ck < m := by rw [hck]; exact Nat.mod_lt _ hm0
      have r1 : ((k : Nat) : Int).tmod (m : Int) = (ck : Int) := by rw [rem_ok (by omega), hck]; simp
      obtain ⟨z, hz⟩ : ∃ z, z = vec wl ck := ⟨_, rfl⟩
      have hT : R.take (k + 1) = R.take k ++ [z] := by rw [take_vec (by rw [HL.out.1]; exact hk), HR.out k hk, ← hck, hz]
      have HT := Lib.hid hT
      obtain ⟨gl, offl, rfl⟩ := g.roSome 1 rfl (by rw [HL.out.2]; exact hm0)
      have oc := g.roCell 1 rfl (q := ck) (by rw [HL.out.2]; exact hcm)
      rw [← hz] at oc
      have Hl1 := Lib.hid (show (R.take k).length + 1 ≤ 17592186044416 by rw [List.length_take]; omega)
      have ip : (k : Int) < n := by omega
      have ic : (ck : Int) < m := by omega
      have im : (m : Int) ≠ 0 := by omega
      clear hz hck hT
      go_wp2_with (at_builtin; refine wp_append_ints rfl (.tmp 15) (.tmp 23) rfl w.heap.size _ _ (R.take k) [z] rfl rfl ((g.alloc' _).own 0 rfl) Ints.one Hl1.out (g.alloc' _).size ?_; intro v1 w7 ho1 hg1 hb1; have h4 := (g.alloc' _).appended 0 rfl ho1 hg1 hb1)
      go_roundw
      case rel => exact ⟨k + 1, by go_num, by omega, by rw [HT.out]; exact h4⟩
      case measure => simp [intOf]; omega
    · have hkn : k = n := by omega
      subst hkn
      rw [show R.take k = R from List.take_of_length_le (by rw [HL.out.1]; exact Nat.le_refl _)] at g
      obtain ⟨A7, n7, c7, rfl⟩ := (g.own 0 rfl).slice
      obtain ⟨g7, rfl, hn7⟩ := g.ownSome 0 rfl (by rw [HL.out.1]; omega)
      have hn7' : n7 = k := hn7.trans HL.out.1
      subst hn7'
      clear hn7 hk a1
      have g0 : St w wr [.own (.slice (some ⟨g7, 0, none⟩) n7 c7) (R.take n7), .ro (.slice A m k0) wl] := by
        rw [show R.take n7 = R from List.take_of_length_le (by rw [HL.out.1]; exact Nat.le_refl _)]; exact g
      clear g
      go_wp2
      go_loopg [7] n7 (fun gk v7 wr => ∃ j : Nat, v7 = .slice (some ⟨g7, 0, none⟩) j c7 ∧ j = gk ∧ j ≤ n7 ∧ St w wr [.own (.slice (some ⟨g7, 0, none⟩) j c7) (R.take j), .ro (.slice A m k0) wl] ∧ Hid (Rn.drop j = List.replicate (Rn.length - j) (q - 1)))
      case atStart => exact ⟨n7, rfl, rfl, Nat.le_refl _, g0, HS0⟩
      case round =>
        clear g0 HS0
        obtain ⟨j, rfl, rfl, a1, g, HD⟩ := hrel
        by_cases hj : 0 < j
        · obtain ⟨i, rfl⟩ : ∃ i, j = i + 1 := ⟨j - 1, by omega⟩
          obtain ⟨zn, hzn⟩ : ∃ zn, zn = Rn.getD i 0 := ⟨_, rfl⟩
          have hzq : zn < q := by rw [hzn]; exact HB.out i
          have hvi : vec R i = (zn : Int) := by rw [HV.out, hzn]
          have hti : (R.take (i + 1)).length = i + 1 := by rw [List.length_take, HL.out.1]; omega
          obtain ⟨pc, pf⟩ := g.ownCell 0 rfl (q := i) (by rw [hti]; omega)
          have hvt : vec (R.take (i + 1)) i = (zn : Int) := by rw [← hvi]; simp [vec, List.getD]
          rw [hvt] at pc
          by_cases hz : (zn : Int) = (q : Int) - 1
          · obtain ⟨hrun, _⟩ := cutTo (g.ownInts 0 rfl) i (by omega)
            have hd2 := HS1.out (i + 1) (by omega) a1 HD.out (by rw [show i + 1 - 1 = i from rfl, ← hzn]; omega)
            rw [show i + 1 - 1 = i from rfl] at hd2
            have HD2 := Lib.hid hd2
            have g2 := g.takeOwn 0 rfl hti.symm i (by omega)
            rw [List.take_take, Nat.min_eq_left (by omega)] at g2
            have hrun' : ∀ W : World, Sem.run Try.prog (Instr.sliceAt 31 (.slice (some ⟨g7, 0, none⟩) (i + 1) c7) none (some (.int .i64 (i : Int))) none) W = .ok (.slice (some ⟨g7, 0, none⟩) i c7) W := fun W => hrun W
            clear hrun hzn hvi hti hvt hd2 g HD
            go_wp2
            go_roundg i
            case rel => exact ⟨i, rfl, rfl, by omega, g2, HD2⟩
            case measure => omega
          · have hZ := HS3.out (i + 1) (by omega) a1 HD.out (by rw [show i + 1 - 1 = i from rfl, ← hzn]; omega)
            rw [show i + 1 - 1 = i from rfl, hvi] at hZ
            have HZ := Lib.hid hZ
            have g2 := g.set 0 rfl i ((zn : Int) + 1)
            clear hzn hvi hti hvt hZ HD
            go_wp2
            go_ret
            exact ⟨_, rfl, by rw [HZ.out]; exact g2.own 0 rfl, g2.below⟩
        · obtain rfl : j = 0 := by omega
          have hZ := HS2.out HD.out
          have HZ := Lib.hid hZ
          clear hZ HD
          go_wp2
          go_ret
          exact ⟨_, rfl, by rw [HZ.out]; exact g.own 0 rfl, g.below⟩

end Words
end Go.Proofs.Ytmohkpgojkipkaa
