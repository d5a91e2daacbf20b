/- Lyndon words, the program's side: lyndonWords and LyndonWords. -/
import Derived.Test.YtmohkpgojkipkaaLynU
import Derived.Test.YtmohkpgojkipkaaLynV
import Derived.Test.YtmohkpgojkipkaaLynM
import Derived.Test.YtmohkpgojkipkaaLyndon
import Derived.Test.YtmohkpgojkipkaaSmall0
namespace Go.Proofs.Ytmohkpgojkipkaa
set_option maxRecDepth 100000
open Go.RowKit
namespace Words

/-- The counter while it is carried: zeros from place k on. -/
def cur (l : List Nat) (k : Nat) : List Int := (l.take k ++ List.replicate (l.length - k) 0).map Int.ofNat
theorem cur_all (l : List Nat) : cur l l.length = l.map Int.ofNat := by
  unfold cur
  rw [List.take_length, Nat.sub_self]
  simp
theorem cur_len (l : List Nat) {k : Nat} (h : k ≤ l.length) : (cur l k).length = l.length := by
  unfold cur
  rw [List.length_map, List.length_append, List.length_take, List.length_replicate]
  omega
theorem cur_vec (l : List Nat) {k : Nat} (h : k < l.length) : vec (cur l (k + 1)) k = ((l.getD k 0 : Nat) : Int) := by
  unfold cur
  rw [vec_mapN]
  congr 1
  simp only [List.getD]
  rw [List.getElem?_append_left (by rw [List.length_take]; omega), List.getElem?_take_of_lt (by omega)]
theorem take_getD {l : List Nat} {k : Nat} (h : k < l.length) : l.take (k + 1) = l.take k ++ [l.getD k 0] := by
  rw [List.take_add_one, List.getElem?_eq_getElem h]
  simp [List.getD, List.getElem?_eq_getElem h]
theorem cur_put (l : List Nat) {k : Nat} (h : k < l.length) (x : Nat) : (cur l (k + 1)).set k (x : Int) = (l.take k ++ x :: List.replicate (l.length - (k + 1)) 0).map Int.ofNat := by
  have e3 : ((l.take k).map Int.ofNat).length = k := by rw [List.length_map, List.length_take]; omega
  unfold cur
  rw [take_getD h, List.append_assoc, List.map_append, List.set_append_right _ _ (by omega), e3, Nat.sub_self, List.map_append]
  conv => rhs; rw [List.map_append]
  rfl
theorem cur_zero (l : List Nat) {k : Nat} (h : k < l.length) : (cur l (k + 1)).set k 0 = cur l k := by
  have := cur_put l h 0
  rw [show ((0 : Nat) : Int) = 0 from rfl] at this
  rw [this]
  unfold cur
  rw [show l.length - k = (l.length - (k + 1)) + 1 from by omega, List.replicate_succ]
theorem cur_split {l : List Nat} {k top : Nat} (h : k < l.length) (hd : l.drop (k + 1) = List.replicate (l.length - (k + 1)) top) : l = l.take k ++ l.getD k 0 :: List.replicate (l.length - (k + 1)) top := by
  conv => lhs; rw [← List.take_append_drop (k + 1) l, hd, take_getD h]
  rw [List.append_assoc]; rfl
/-- The counter goes on: the word behind it, what is left, and the words from there. -/
theorem cur_next {q : Nat} (hq : 0 < q) {l : List Nat} {k : Nat} (h : k < l.length) (hd : l.drop (k + 1) = List.replicate (l.length - (k + 1)) (q - 1)) (hz : l.getD k 0 ≠ q - 1) (hb : ∀ x, x ∈ l → x < q) {X done : List (List Nat)} (hX : X = done ++ frm q [] l) :
    ∃ l' : List Nat, l'.length = l.length ∧ (∀ x, x ∈ l' → x < q) ∧ (cur l (k + 1)).set k ((l.getD k 0 : Nat) + 1 : Int) = l'.map Int.ofNat ∧ left q l = left q l' + 1 ∧ X = (done ++ if lynN l = true then [l] else []) ++ frm q [] l' := by
  have hs := cur_split h hd
  have hzq : l.getD k 0 < q := by
    rw [List.getD_eq_getElem?_getD, List.getElem?_eq_getElem h]
    exact hb _ (List.getElem_mem h)
  refine ⟨l.take k ++ (l.getD k 0 + 1) :: List.replicate (l.length - (k + 1)) 0, ?_, ?_, ?_, ?_, ?_⟩
  · rw [List.length_append, List.length_take, List.length_cons, List.length_replicate]; omega
  · intro x hx
    rcases List.mem_append.1 hx with hx | hx
    · exact hb _ (List.mem_of_mem_take hx)
    · rcases List.mem_cons.1 hx with rfl | hx
      · omega
      · have := List.eq_of_mem_replicate hx
        omega
  · have := cur_put l h (l.getD k 0 + 1)
    rw [← this]
    congr 1
  · have := left_step q hq (l.getD k 0) (l.length - (k + 1)) (by omega) (l.take k)
    rw [← hs] at this
    exact this
  · have := frm_step q hq (l.getD k 0) (l.length - (k + 1)) (by omega) (l.take k) []
    rw [← hs] at this
    rw [hX, this, List.append_assoc]
    simp
theorem cur_end {q : Nat} (hq : 0 < q) {l : List Nat} (hd : l.drop 0 = List.replicate (l.length - 0) (q - 1)) {X done : List (List Nat)} (hX : X = done ++ frm q [] l) : X = done ++ if lynN l = true then [l] else [] := by
  rw [List.drop_zero, Nat.sub_zero] at hd
  have := frm_tops q hq l.length []
  rw [← hd] at this
  rw [hX, this]
  simp

theorem frm_headP (q : Nat) : ∀ l p : List Nat, (if lynN (p ++ l) = true then [p ++ l] else []).length ≤ (frm q p l).length := by
  intro l
  induction l with
  | nil => intro p; rw [List.append_nil]; exact Nat.le_refl _
  | cons x l ih =>
    intro p
    show _ ≤ (frm q (p ++ [x]) l ++ (lets q (x + 1)).flatMap fun b => gen q l.length (p ++ [b])).length
    have h := ih (p ++ [x])
    rw [List.append_assoc] at h
    rw [List.length_append]
    exact Nat.le_trans h (Nat.le_add_right _ _)
theorem frm_head (q : Nat) (l : List Nat) : (if lynN l = true then [l] else []).length ≤ (frm q [] l).length := frm_headP q l []
set_option maxHeartbeats 2000000 in
theorem lyndonWords_any (q n : Nat) (w : World) (hq1 : 1 ≤ q) (hq2 : q ≤ 4) (hn : n ≤ 8) (hn1 : 1 ≤ n) (hB : (lynW q n).length ≤ 65536) :
    Calls Try.prog 25 #[.int .i64 q, .int .i64 n] w (RetRows w (lynW q n)) := by
  unfold lynW at hB ⊢
  obtain ⟨X, hX⟩ : ∃ X, X = frm q [] (List.replicate n 0) := ⟨_, rfl⟩
  rw [← hX] at hB ⊢
  rw [List.length_map] at hB
  have HX0 := Lib.hid hX
  have HB := Lib.hid hB
  clear hX hB
  have h1 := ((St.start w).emptyRows).zeros n (by omega)
  simp only [World.size_alloc] at h1
  have Hn1 := Lib.hid hn1
  have hmk := makeI n (by omega)
  go_enter Try.func25, Try.ntmps25
  go_wp2
  go_loopg [5] (left q (List.replicate n 0)) (fun gk v5 wr => ∃ (gh : Nat) (us : List Value) (l : List Nat) (done : List (List Nat)), gh = gk ∧ Hid (left q l = gh) ∧ St w wr [.own (.slice (some ⟨w.heap.size + 1, 0, none⟩) n n) (l.map Int.ofNat), rowsIt v5 us (done.map (List.map Int.ofNat))] ∧ Hid (us.length = done.length) ∧ Hid (l.length = n) ∧ Hid (∀ x, x ∈ l → x < q) ∧ Hid (X = done ++ frm q [] l))
  case atStart => exact ⟨_, [], List.replicate n 0, [], rfl, Lib.hid rfl, by rw [List.map_replicate]; exact h1, Lib.hid rfl, Lib.hid (List.length_replicate ..), Lib.hid (fun x hx => by rw [List.eq_of_mem_replicate hx]; omega), HX0⟩
  case round =>
    clear h1 HX0
    obtain ⟨gh, us, l, done, rfl, HG, g, Hu, Hl, HS, HX⟩ := hrel
    obtain ⟨LI, hLI⟩ : ∃ LI, LI = l.map Int.ofNat := ⟨_, rfl⟩
    have hly := lynN_eq l
    rw [← hLI] at g hly
    obtain ⟨E, hE⟩ : ∃ E, E = done ++ if lynN l = true then [l] else [] := ⟨_, rfl⟩
    obtain ⟨DI, hDI⟩ : ∃ DI, DI = done.map (List.map Int.ofNat) := ⟨_, rfl⟩
    obtain ⟨EI, hEI⟩ : ∃ EI, EI = E.map (List.map Int.ofNat) := ⟨_, rfl⟩
    rw [← hDI] at g
    have hul : us.length = DI.length := by rw [hDI, List.length_map]; exact Hu.out
    have hEl : E.length ≤ 65536 ∧ EI.length = E.length := by
      refine ⟨?_, by rw [hEI, List.length_map]⟩
      have h5 := congrArg List.length HX.out
      have h6 := HB.out
      rw [List.length_append] at h5
      rw [hE, List.length_append]
      have hc : (if lynN l = true then [l] else []).length ≤ (frm q [] l).length := by
        have h7 := frm_head q l
        omega
      omega
    have hE1 : lynN l = true → EI = DI ++ [LI] := by
      intro hc
      rw [hEI, hE, if_pos hc, List.map_append, hDI, hLI]; rfl
    have hE0 : lynN l = false → EI = DI := by
      intro hc
      rw [hEI, hE, if_neg (by rw [hc]; decide), List.append_nil, hDI]
    have HE := Lib.hid hE
    have HEI := Lib.hid hEI
    have HE1 := Lib.hid hE1
    have HE0 := Lib.hid hE0
    have Hul := Lib.hid hul
    have HEl := Lib.hid hEl
    have HLI := Lib.hid hLI
    have HDI := Lib.hid hDI
    have HLl : Hid (LI.length = n) := by show _ = _; rw [hLI, List.length_map]; exact Hl.out
    have hit := fun W (hi : Ints W (.slice (some ⟨w.heap.size + 1, 0, none⟩) n n) LI) => isLyndonI_any _ LI W hi
    rw [← hly] at hit
    have HIt := Lib.hid hit
    obtain ⟨b, hb⟩ : ∃ b, b = lynN l := ⟨_, rfl⟩
    rw [← hb] at HIt HE1 HE0
    clear hE hDI hEI hul hEl hE1 hE0 hLI hly hit
    have Hb := Lib.hid hb
    clear hb
    go_upto_if 12 with (go_at_call 61; refine (HIt.out _ (g.ownInts 0 rfl)).mono ?_; rintro e w' ⟨rfl, rfl⟩)
    go_cut [5] from 11 to 44 (fun v5 wx => ∃ us : List Value, St w wx [.own (.slice (some ⟨w.heap.size + 1, 0, none⟩) n n) LI, rowsIt v5 us EI] ∧ Hid (us.length = EI.length))
    case first =>
      cases b with
      | true =>
        have HF1 : Hid (EI = DI ++ [LI]) := Lib.hid (HE1.out (by first | rfl | trivial))
        clear HE1 HE0
        go_wp2_with fail
        refine (Clone_any _ LI _ (g.ownInts 0 rfl) (by rw [HLl.out]; omega)).mono ?_
        rintro (e : Ending) w6 ⟨u6, rfl, ho6, hb6⟩
        obtain ⟨A6, n6, c6, rfl⟩ := ho6.slice
        have g1 := g.pushOwn hb6 ho6
        have Hb3 := Lib.hid (show DI.length + 1 ≤ 1099511627776 by have := HEl.out.2; have h2 := HEl.out.1; have h3 := congrArg List.length HF1.out; rw [List.length_append, List.length_singleton] at h3; omega)
        clear ho6 hb6
        go_wp2_with (at_builtin; refine wp_append_row' rfl (.tmp 13) (.tmp 16) rfl g1 1 rfl Hul.out rfl rfl Hb3.out ?_; intro v1 w7 g2)
        go_meet
        exact ⟨us ++ [_], by rw [HF1.out]; exact g2, by show _ = _; rw [HF1.out, List.length_append, List.length_append, Hul.out]; rfl⟩
      | false =>
        have HF0 : Hid (EI = DI) := Lib.hid (HE0.out (by first | rfl | trivial))
        clear HE1 HE0
        go_wp2
        go_meet
        exact ⟨us, by rw [HF0.out]; exact g, by show _ = _; rw [HF0.out]; exact Hul.out⟩
    case rest =>
    obtain ⟨us2, g1, Hu2⟩ := hcut
    clear g Hu Hul HE1 HE0 HIt HDI
    have HC0 := Lib.hid (show cur l n = LI by rw [HLI.out, ← Hl.out]; exact cur_all l)
    have HCl := Lib.hid (fun k (h : k ≤ n) => show (cur l k).length = n by rw [cur_len l (by rw [Hl.out]; exact h), Hl.out])
    have HCv := Lib.hid (fun k (h : k < n) => cur_vec l (k := k) (by rw [Hl.out]; exact h))
    have HCz := Lib.hid (fun k (h : k < n) => cur_zero l (k := k) (by rw [Hl.out]; exact h))
    have HSt := Lib.hid (fun k (h : k < n) => strip_step (l := l) (j := k + 1) (top := q - 1) (by omega) (by rw [Hl.out]; exact h))
    have HNx := Lib.hid (fun k (h : k < n) hd hz => cur_next (q := q) hq1 (l := l) (k := k) (by rw [Hl.out]; exact h) hd hz HS.out HX.out)
    have HEn := Lib.hid (fun hd => cur_end (q := q) hq1 (l := l) hd HX.out)
    have HZq := Lib.hid (fun k (h : k < n) => (show l.getD k 0 < q by
      have h9 : k < l.length := by rw [Hl.out]; exact h
      rw [List.getD_eq_getElem?_getD, List.getElem?_eq_getElem h9]
      exact HS.out _ (List.getElem_mem h9)))
    have HD0 := Lib.hid (show l.drop n = List.replicate (l.length - n) (q - 1) by rw [Hl.out, Nat.sub_self, List.drop_eq_nil_of_le (by rw [Hl.out]; exact Nat.le_refl _)]; rfl)
    obtain ⟨C, hC⟩ : ∃ C, C = cur l := ⟨_, rfl⟩
    rw [← hC] at HC0 HCl HCv HCz HNx
    rw [← HC0.out] at g1
    clear hC
    go_wp2
    go_loopw [7] (fun v7 wr => ∃ (k : Nat) (i : Int), v7 = .int .i64 i ∧ i = (k : Int) - 1 ∧ k ≤ n ∧ St w wr [.own (.slice (some ⟨w.heap.size + 1, 0, none⟩) n n) (C k), rowsIt u5 us2 EI] ∧ Hid (l.drop k = List.replicate (l.length - k) (q - 1))) (fun v7 _ => (intOf v7 + 1).toNat)
    case atStart => exact ⟨n, _, rfl, rfl, Nat.le_refl _, g1, HD0⟩
    case round =>
      clear g1 HD0 HC0
      obtain ⟨k, i, rfl, hi, a1, g, HD⟩ := hrel
      by_cases hk : 0 < k
      · obtain ⟨j, rfl⟩ : ∃ j, k = j + 1 := ⟨k - 1, by omega⟩
        obtain rfl : i = (j : Int) := by omega
        obtain ⟨z, hz⟩ : ∃ z, z = l.getD j 0 := ⟨_, rfl⟩
        have hzq := HZq.out j (by omega)
        have hv := HCv.out j (by omega)
        have hnx := HNx.out j (by omega) HD.out
        have hst := HSt.out j (by omega) HD.out
        rw [← hz] at hzq hv hnx
        rw [show j + 1 - 1 = j from rfl, ← hz] at hst
        obtain ⟨pc, pf⟩ := g.ownCell 0 rfl (q := j) (by rw [HCl.out _ a1]; omega)
        rw [hv] at pc
        have ij : (j : Int) < n := by omega
        clear hi hz hv
        by_cases hzt : (z : Int) = (q : Int) - 1
        · have HD2 := Lib.hid (hst (by omega))
          have g2 := g.set 0 rfl j 0
          have HCz1 := Lib.hid (HCz.out j (by omega))
          clear hst hnx HD
          go_wp2
          go_roundw
          case rel => exact ⟨j, _, rfl, by go_num, by omega, by rw [← HCz1.out]; exact g2, HD2⟩
          case measure => simp [intOf] <;> omega
        · obtain ⟨l', hl', hS', hL', hG', hX'⟩ := hnx (by omega)
          have g2 := g.set 0 rfl j ((z : Int) + 1)
          rw [hL'] at g2
          have Hl2 := Lib.hid (hl'.trans Hl.out)
          have HS2 := Lib.hid hS'
          have HG2 := Lib.hid (hG'.symm.trans HG.out)
          have HX2 := Lib.hid (show X = E ++ frm q [] l' by rw [HE.out]; exact hX')
          have HEu := Lib.hid (show us2.length = E.length by rw [Hu2.out, HEI.out, List.length_map])
          rw [HEI.out] at g2
          obtain ⟨gg, hgg⟩ : ∃ gg, gg = left q l' := ⟨_, rfl⟩
          rw [← hgg] at HG2
          have Hgg := Lib.hid hgg
          clear hst hL' hl' hS' hG' hX' hgg HD
          go_wp2
          go_roundg gg
          case measure => have := HG2.out; omega
          case rel => exact ⟨gg, us2, l', E, rfl, Lib.hid Hgg.out.symm, g2, HEu, Hl2, HS2, HX2⟩
      · obtain rfl : k = 0 := by omega
        obtain rfl : i = -1 := by omega
        have hX := HEn.out HD.out
        rw [← HE.out] at hX
        have HX2 := Lib.hid hX
        clear hX hi HD
        go_wp2
        go_ret
        exact ⟨_, rfl, by rw [HX2.out, ← HEI.out]; exact g.ownRows 1 rfl Hu2.out, g.below⟩

theorem genT_lens (q : Nat) : ∀ (m : Nat) (p x : List Nat), x ∈ gen q m p → x.length = p.length + m := by
  intro m
  induction m with
  | zero =>
    intro p x hx
    rw [gen_zero] at hx
    split at hx
    · rw [List.mem_singleton.1 hx]; rfl
    · exact absurd hx (by simp)
  | succ m ih =>
    intro p x hx
    rw [gen_succ] at hx
    obtain ⟨b, _, hx⟩ := List.mem_flatMap.1 hx
    have := ih _ _ hx
    rw [List.length_append] at this
    simp only [List.length_cons, List.length_nil] at this
    omega
theorem total_lens {c : Nat} : ∀ ll : List (List Int), (∀ l, l ∈ ll → l.length = c) → total ll = ll.length * c
  | [], _ => by simp [total]
  | l :: ll, h => by
    rw [total, h l (by simp), total_lens ll fun x hx => h x (by simp [hx]), List.length_cons, Nat.add_mul]; omega
theorem lynO_bd (q n : Int) : (lynO q n).length ≤ 65536 ∧ total (lynO q n) ≤ 524288 := by
  unfold lynO
  split
  · rename_i h
    have hq' := h.1
    have hn' := h.2
    simp [inR] at hq' hn'
    have hl := lynW_len (q := q.toNat) (n := n.toNat) (by omega) (by omega) (by omega)
    refine ⟨hl, ?_⟩
    rw [total_lens (c := n.toNat) _ (fun l hm => by
      unfold lynW at hm
      obtain ⟨x, hx, rfl⟩ := List.mem_map.1 hm
      rw [frm_zeros _ (by omega)] at hx
      have := genT_lens _ _ _ _ hx
      rw [List.length_map, this]; simp)]
    have h8 : n.toNat ≤ 8 := by omega
    have := Nat.mul_le_mul hl h8
    omega
  · exact ⟨by simp, by simp [total]⟩
set_option maxHeartbeats 1000000 in
theorem LyndonWordsI_any (q n : Int) (w : World) :
    Calls Try.prog 6 #[.int .i64 q, .int .i64 n] w (RetRows w (lynO q n)) := by
  by_cases hq : inR q 1 4 = true
  · by_cases hn : inR n 1 8 = true
    · have hq' := hq
      have hn' := hn
      simp [inR] at hq' hn'
      obtain ⟨a, rfl⟩ : ∃ a : Nat, q = a := ⟨q.toNat, by omega⟩
      obtain ⟨b, rfl⟩ : ∃ b : Nat, n = b := ⟨n.toNat, by omega⟩
      have HA := Lib.hid (fun (W : World) => lyndonWords_any a b W (by omega) (by omega) (by omega) (by omega) (lynW_len (by omega) (by omega) (by omega)))
      obtain ⟨Y, hY⟩ : ∃ Y, Y = lynW a b := ⟨_, rfl⟩
      have hO : lynO (a : Int) (b : Int) = Y := by unfold lynO; rw [if_pos ⟨hq, hn⟩, hY]; rfl
      rw [hO]
      rw [← hY] at HA
      clear hY hO hq' hn'
      go_enter Try.func6, Try.ntmps6
      go_wp2_with (go_at_call 24; refine (inside_any _ _ _ _).mono ?_; rintro e w' ⟨rfl, rfl⟩)
      refine (HA.out _).mono ?_
      rintro (e : Ending) w3 ⟨u3, rfl, ho3, hb3⟩
      go_wp2
      go_ret
      exact ⟨_, rfl, ho3, hb3⟩
    · have hO : lynO q n = [] := by unfold lynO; rw [if_neg (fun h => hn h.2)]
      rw [hO]
      go_enter Try.func6, Try.ntmps6
      go_wp2_with (go_at_call 24; refine (inside_any _ _ _ _).mono ?_; rintro e w' ⟨rfl, rfl⟩)
      go_ret
      exact ⟨_, rfl, OwnRows.nil, Below.refl _ _⟩
  · have hO : lynO q n = [] := by unfold lynO; rw [if_neg (fun h => hq h.1)]
    rw [hO]
    go_enter Try.func6, Try.ntmps6
    go_wp2_with (go_at_call 24; refine (inside_any _ _ _ _).mono ?_; rintro e w' ⟨rfl, rfl⟩)
    go_ret
    exact ⟨_, rfl, OwnRows.nil, Below.refl _ _⟩

end Words
end Go.Proofs.Ytmohkpgojkipkaa
