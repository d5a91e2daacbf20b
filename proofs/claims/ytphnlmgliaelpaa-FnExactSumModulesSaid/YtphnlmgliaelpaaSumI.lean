/- SumModules of the program: rows are copied into a matrix of zeros. -/
import Derived.Test.YtphnlmgliaelpaaSumS
import Derived.Laws.CopyOwn
namespace Go.Proofs.Ytphnlmgliaelpaa
set_option maxRecDepth 100000
open Go.RowKit

theorem vec_of_lt {l : List Int} {q : Nat} (h : q < l.length) : vec l q = l[q] := by simp [vec, List.getD_eq_getElem?_getD, h]
theorem setPart_tab {n o : Nat} {f : Nat → Int} (l : List Int) (h : o + l.length ≤ n) : setPart (tab n f) o l = tab n fun q => if o ≤ q ∧ q < o + l.length then vec l (q - o) else f q := by
  have hl : (setPart (tab n f) o l).length = n := by
    rw [setPart, List.length_append, List.length_append, List.length_take, List.length_drop, length_tab]; omega
  refine list_ext (by rw [hl, length_tab]) fun q hq => ?_
  rw [hl] at hq
  rw [vec_tab hq, vec_of_lt (by rw [hl]; exact hq)]
  have ht : ((tab n f).take o).length = o := by rw [List.length_take, length_tab]; omega
  have hv : ∀ j (hj : j < (tab n f).length), (tab n f)[j] = f j := fun j hj => by
    rw [← vec_of_lt hj, vec_tab (by rw [length_tab] at hj; exact hj)]
  by_cases h1 : q < o
  · rw [if_neg (by omega)]
    simp only [setPart, List.append_assoc]
    rw [List.getElem_append_left (by rw [ht]; exact h1), List.getElem_take, hv]
  · by_cases h2 : q < o + l.length
    · rw [if_pos ⟨by omega, h2⟩, vec_of_lt (by omega)]
      simp only [setPart, List.append_assoc]
      rw [List.getElem_append_right (by rw [ht]; omega), List.getElem_append_left (by rw [ht]; omega)]
      simp only [ht]
    · rw [if_neg (by omega)]
      simp only [setPart, List.append_assoc]
      rw [List.getElem_append_right (by rw [ht]; omega), List.getElem_append_right (by rw [ht]; omega), List.getElem_drop, hv, ht]
      congr 1
      omega
theorem part_iff {w r c n q : Nat} (hw : 0 < w) (h : c + n ≤ w) : (r * w + c ≤ q ∧ q < r * w + c + n) ↔ (q / w = r ∧ c ≤ q % w ∧ q % w < c + n) := by
  have h1 := Nat.div_add_mod q w
  have h2 := Nat.mod_lt q hw
  constructor
  · rintro ⟨h3, h4⟩
    have e : q / w = r := Nat.div_eq_of_lt_le (by omega) (by rw [Nat.succ_mul]; omega)
    rw [e, Nat.mul_comm] at h1
    omega
  · rintro ⟨e, h3, h4⟩
    rw [e, Nat.mul_comm] at h1
    omega
theorem bTo_part {s t r c : Nat} {D E l : List Int} {i j i2 j2 i' j' i2' j2' : Nat} (hr : r < s + t) (hc : c + l.length ≤ s + t) (h : ∀ a b, a < s + t → b < s + t → (if a = r ∧ c ≤ b ∧ b < c + l.length then vec l (b - c) else bAt s t D E i j i2 j2 a b) = bAt s t D E i' j' i2' j2' a b) :
    setPart (bTo s t D E i j i2 j2) (r * (s + t) + c) l = bTo s t D E i' j' i2' j2' := by
  have hrow := row_bd (c := s + t) hr
  rw [bTo, setPart_tab l (by omega), bTo]
  refine tab_congr fun q hq => ?_
  have hs := pos_of hq
  rw [← h _ _ (by rw [Nat.div_lt_iff_lt_mul hs]; exact hq) (Nat.mod_lt _ hs)]
  by_cases e : q / (s + t) = r ∧ c ≤ q % (s + t) ∧ q % (s + t) < c + l.length
  · rw [if_pos ((part_iff hs hc).2 e), if_pos e]
    have h1 := Nat.div_add_mod q (s + t)
    rw [e.1, Nat.mul_comm] at h1
    congr 1
    omega
  · rw [if_neg (fun h => e ((part_iff hs hc).1 h)), if_neg e]
theorem bTo_part1 {s t r : Nat} (D E : List Int) (hr : r < s) : setPart (bTo s t D E r 0 0 0) (r * (s + t)) (rowM s D r) = bTo s t D E (r + 1) 0 0 0 := by
  have := bTo_part (s := s) (t := t) (r := r) (c := 0) (D := D) (E := E) (l := rowM s D r) (i := r) (j := 0) (i2 := 0) (j2 := 0) (i' := r + 1) (j' := 0) (i2' := 0) (j2' := 0) (by omega) (by rw [length_rowM]; omega) fun a b ha hb => by
    rw [length_rowM]
    unfold bAt
    by_cases e : a = r ∧ 0 ≤ b ∧ b < 0 + s
    · obtain ⟨rfl, _, h2⟩ := e
      rw [if_pos ⟨rfl, Nat.zero_le _, h2⟩, if_pos hr, if_pos ⟨by omega, by omega⟩, Nat.sub_zero, rowM, vec_tab (by omega)]
    · rw [if_neg e]
      by_cases h : a < s
      · rw [if_pos h, if_pos h]
        by_cases h2 : b < s ∧ (a < r ∨ (a = r ∧ b < 0))
        · rw [if_pos h2, if_pos (by omega)]
        · rw [if_neg h2, if_neg (by omega)]
      · rw [if_neg h, if_neg h]
  rwa [Nat.add_zero] at this
theorem bTo_part2 {s t r : Nat} (D E : List Int) (hr : r < t) : setPart (bTo s t D E s 0 r 0) ((s + r) * (s + t) + s) (rowM t E r) = bTo s t D E s 0 (r + 1) 0 :=
  bTo_part (by omega) (by rw [length_rowM]; omega) fun a b ha hb => by
    rw [length_rowM]
    unfold bAt
    by_cases e : a = s + r ∧ s ≤ b ∧ b < s + t
    · obtain ⟨rfl, h1, h2⟩ := e
      rw [if_pos ⟨rfl, h1, h2⟩, if_neg (by omega), if_pos ⟨h1, by omega⟩, rowM, vec_tab (by omega), Nat.add_sub_cancel_left]
    · rw [if_neg e]
      by_cases h : a < s
      · rw [if_pos h, if_pos h]
      · rw [if_neg h, if_neg h]
        by_cases h2 : s ≤ b ∧ (a - s < r ∨ (a - s = r ∧ b - s < 0))
        · rw [if_pos h2, if_pos (by omega)]
        · rw [if_neg h2, if_neg (by omega)]

/-- The end of a slice of the call's own, from a place on. -/
theorem cutTail {g n cap o : Nat} (hcap : n ≤ cap) (ho : o < n) {x : Int} (hx : x = (o : Nat)) : ∃ k', ∀ W : World, (Instr.sliceAt 22 (.slice (some ⟨g, 0, none⟩) n cap) (some (.int .i64 x)) none none).run Try.prog W = .ok (.slice (some ⟨g, o, none⟩) (n - o) k') W := by
  obtain ⟨t, h3, _, h4, _⟩ := info_parts infoI
  refine ⟨cap - o, fun W => ?_⟩
  subst hx
  rw [run_sliceAt_slice W 22 _ _ _ _ sliceI, run_slice_l W 22 _ n cap sliceI .i64 (o : Int) (by omega) (by omega)]
  simp [sizeOf, typeInfo, h3, h4, sliced, Result.andThen, Addr.add, show ¬ (cap = o) by omega]
  try (intro e; exact e.symm)
/-- A copy into a part of a slice of the call's own. -/
theorem wp_copy_part {w0 w : World} {Ls : List It} {ops : Array Oper} {rest : List Oper} {o : Oper} {a : Act} {Q : Exit → Act → World → Prop} (hgd : o.guard = none) (d s : Operand)
    (ho : o.op = .call { callee := .builtin .copy, args := #[d, s], argTypes := #[22, 22] }) (h : St w0 w Ls) (i : Nat) {g N cap : Nat} {L : List Int} (hi : Ls[i]? = some (.own (.slice (some ⟨g, 0, none⟩) N cap) L))
    (off dLen dCap : Nat) (A3 : Option Addr) (n k3 : Nat) (l : List Int) (hln : l.length = n) (hd : a.eval d = .slice (some ⟨g, off, none⟩) dLen dCap) (hs : a.eval s = .slice A3 n k3) (hx : Ints w (.slice A3 n k3) l) (hl : 0 < n) (hdl : n ≤ dLen) (hfit : off + n ≤ L.length)
    (hK : ∀ w', St w0 w' (Ls.set i (.own (.slice (some ⟨g, 0, none⟩) N cap) (setPart L off l))) → wpList Try.prog ops Q rest (a.put o.dst (goInt n)) w') : wpList Try.prog ops Q (o :: rest) a w := by
  subst hln
  have hv := h.own i hi
  obtain ⟨A', c', he, _, _, h3⟩ := hx
  simp only [Value.slice.injEq, true_and] at he
  obtain ⟨rfl, rfl⟩ := he
  obtain ⟨b, o2, rfl, hc⟩ := h3 hl
  rcases id hv.2 with ⟨h0, _⟩ | ⟨g2, cap2, cur, he, hb, hg, hn, hm, hsz, htake⟩
  · simp at h0
  · simp only [Value.slice.injEq, Option.some.injEq, Addr.mk.injEq, and_true] at he
    obtain ⟨rfl, rfl, rfl⟩ := he
    have hcl : cur.toList.length = cap := by simpa using hsz
    rw [Nat.mul_one] at htake
    have hlm : (l.map (Value.int IntKind.i64)).length = l.length := by simp
    obtain ⟨ti, t1, _, t2, _⟩ := info_parts infoI
    have t1 : Try.prog.info? 3 = some ti := t1
    have hcs : cur.size = cur.toList.length := by simp
    refine wpList_copy_own hgd d s _ _ ho 3 sliceI (by simp [t1, t2]) g off dLen dCap ⟨b, o2, none⟩ l.length k3 hd hs cur 3 hg (l.map (Value.int .i64)) (by rw [hlm]; exact (Nat.min_eq_left hdl).symm) (fun j v hj => ?_) (by rw [hlm]; omega) (fun v hv => ?_) ?_
    · rw [List.getElem?_map] at hj
      cases hx : l[j]? with
      | none => rw [hx] at hj; simp at hj
      | some x =>
        rw [hx] at hj
        simp only [Option.map_some, Option.some.injEq] at hj
        subst hj
        have := hc j x hx
        simp only [Addr.add]
        split
        · rename_i e; subst e; exact this
        · exact this
    · obtain ⟨x, _, rfl⟩ := List.mem_map.1 hv; rfl
    · rw [hlm]
      refine hK _ (h.wrote i hi ?_ ⟨rfl, rfl, rfl, by simp [World.setRow], fun k _ hk => setRow_other w g k _ (fun e => hk (by rw [e]; rfl))⟩)
      have hlp : (setPart L off l).length = L.length := by
        rw [setPart, List.length_append, List.length_append, List.length_take, List.length_drop]; omega
      refine ⟨by rw [List.length_map, hlp, Nat.mul_one], .inr ⟨g, cap, _, by rw [hlp], hb, setRow_heap w g _ _ _ _ hg, by rw [hlp]; omega, hm, ?_, ?_⟩⟩
      · simp only [List.size_toArray, Nat.mul_one, List.length_append, List.length_take, List.length_drop, hlm]
        omega
      · have hc2 : cur.toList = L.map (Value.int .i64) ++ cur.toList.drop L.length := by rw [← htake, List.take_append_drop]
        have hml : (L.map (Value.int IntKind.i64)).length = L.length := by simp
        rw [hlp, Nat.mul_one]
        simp only [setPart, List.map_append]
        rw [hc2]
        rw [show (L.map (Value.int IntKind.i64) ++ cur.toList.drop L.length).take off = (L.map (Value.int IntKind.i64)).take off from List.take_append_of_le_length (by rw [hml]; omega), show (L.map (Value.int IntKind.i64) ++ cur.toList.drop L.length).drop (off + l.length) = (L.map (Value.int IntKind.i64)).drop (off + l.length) ++ cur.toList.drop L.length from List.drop_append_of_le_length (by rw [hml]; omega), ← List.append_assoc, ← List.append_assoc, List.take_left' (by simp only [List.length_append, List.length_take, List.length_drop, List.length_map]; omega)]
        rw [List.map_take, List.map_drop]
theorem dLen_le3 (ms : List Mt) (k : Nat) (h : ∀ m ∈ ms, m.d.length ≤ k) : dLen ms ≤ ms.length * k := by
  induction ms with
  | nil => simp [dLen]
  | cons m ms ih =>
    have h1 := ih fun x hx => h x (by simp [hx])
    have h2 := h m (by simp)
    rw [dLen, List.length_cons, Nat.add_mul]; omega
theorem smMs_bd (p n : Int) (T : List Int) (ms ns : List Mt) : markMsLen (smMs p n T ms ns) ≤ 25284 := by
  by_cases h : smOk p n T ms ns = true
  · rw [smMs, if_pos h]
    simp only [smOk, Bool.and_eq_true, decide_eq_true_eq] at h
    obtain ⟨b1, b2, b3⟩ := h
    obtain ⟨N, s, rfl, hln, hN0, hs, hs30, hA, hM⟩ := isMod_all b1
    obtain ⟨N2, t2, hn2, hln2, _, ht2, ht30, _, hM2⟩ := isMod_all b2
    obtain ⟨N', e, hN, _⟩ := algOk_spec hA
    rw [hs, ht2] at b3
    rw [hs, ht2, Int.toNat_natCast, Int.toNat_natCast, Int.toNat_natCast]
    have hd := dLen_le3 (smL p s t2 N ms ns) (30 * 30) fun x hx => by
      obtain ⟨i, _, rfl⟩ := List.mem_map.1 hx
      show (bD s t2 _ _).length ≤ _
      rw [bD, length_bTo]
      exact mul_le (by omega) (by omega)
    unfold markMsLen
    rw [length_smL] at hd ⊢
    have h2 : N * (30 * 30) ≤ 28 * 900 := Nat.mul_le_mul (by omega) (Nat.le_refl _)
    omega
  · rw [smMs, if_neg h]; simp [markMsLen, dLen]


set_option maxHeartbeats 3000000 in
theorem SumModulesI_any (p n : Int) (t v u : Value) (T : List Int) (ms ns : List Mt) (w : World) (ht : Ints w t T) (hv : MatsR w v ms) (hu : MatsR w u ns) (hp0 : p ≤ 9223372036854775807) (hw : ∀ i, i < ms.length → (mAt ms i).p ≤ 9223372036854775807) (hw2 : ∀ i, i < ns.length → (mAt ns i).p ≤ 9223372036854775807) :
    Calls Try.prog 40 #[.agg #[.int .i64 p, .int .i64 n, t], v, u] w (RetMsB w (smMs p n T ms ns) (smOk p n T ms ns)) := by
  have h1 := ((((St.start w).arg ht).pushFact hv.fact).pushFact hu.fact).box [.int .i64 p, .int .i64 n, t] 30
  obtain ⟨A, k, rfl, _, _, _⟩ := id ht
  obtain ⟨A2, k2, rfl, _, _, _⟩ := id hv
  obtain ⟨A3, k3, rfl, _, _, _⟩ := id hu
  have HI := Lib.hid (fun (W : World) (h1 : Ints W (.slice A T.length k) T) (h2 : MatsR W (.slice A2 ms.length k2) ms) => IsModuleI_any p n _ _ T ms W h1 h2 hp0 hw)
  have HI2 := Lib.hid (fun (W : World) (h1 : Ints W (.slice A T.length k) T) (h2 : MatsR W (.slice A3 ns.length k3) ns) => IsModuleI_any p n _ _ T ns W h1 h2 hp0 hw2)
  have HV := Lib.hid hv
  have HU := Lib.hid hu
  clear ht hv hu hw hw2
  by_cases b1 : isMod p n T ms = true
  case neg =>
    have b1 : isMod p n T ms = false := by simpa using b1
    have b0 : smOk p n T ms ns = false := by rw [smOk, b1, Bool.false_and]
    rw [show smMs p n T ms ns = [] by simp [smMs, b0], b0]
    have B1 := Lib.hid b1
    clear b1 b0
    go_enter Try.func40, Try.ntmps40
    go_upto_region 1 with fail
    have g1 := h1.drew
    refine wp_region_held_drew (S := fun w' => w'.cell? ⟨w.heap.size, 0, none⟩ = some (.int .i64 p) ∧ w'.cell? ⟨w.heap.size, 1, none⟩ = some (.int .i64 n) ∧ w'.cell? ⟨w.heap.size, 2, none⟩ = some (.slice A T.length k)) (by kernel_rfl) (g1.box3 0 rfl) (fun hHeld => ?_)
    refine anyH_take (v := ?_) 0 rfl (by kernel_rfl) (by kernel_rfl) (by kernel_rfl) (fun _ _ _ h => h) rfl ?_ hHeld ?_
    rotate_left
    · intro w' hSw
      go_simp
      try with_reducible rfl
    try simp only [Act.put, List.setIfInBounds_toArray, List.set_cons_zero, List.set_cons_succ]
    refine anyH_take (v := ?_) 1 rfl (by kernel_rfl) (by kernel_rfl) (by kernel_rfl) (fun _ _ _ h => h) rfl ?_ hHeld ?_
    rotate_left
    · intro w' hSw
      go_simp
      try with_reducible rfl
    try simp only [Act.put, List.setIfInBounds_toArray, List.set_cons_zero, List.set_cons_succ]
    refine wpAnyH_ready (rs := [2]) (by kernel_rfl) (by simp) ?_
    refine ready_cons rfl (fun K hK => ?_) AllReadyH.nil
    go_simp
    refine (HI.out _ (g1.roInts 3 rfl) (g1.fact 2 rfl)).mono ?_
    rintro (e : Ending) w1 ⟨rfl, hb1⟩
    have g2 := g1.on hb1
    rw [B1.out]
    clear hb1
    show K _ _
    refine hK.out _ _ ?_ (fun hHeld => ?_)
    · exact (g2.box3 0 rfl)
    clear hK K
    try simp only [Act.put, List.setIfInBounds_toArray, List.set_cons_zero, List.set_cons_succ]
    refine anyH_take (v := ?_) 3 rfl (by kernel_rfl) (by kernel_rfl) (by kernel_rfl) (fun _ _ _ h => h) rfl ?_ hHeld ?_
    rotate_left
    · intro w' hSw
      go_simp
      try with_reducible rfl
    try simp only [Act.put, List.setIfInBounds_toArray, List.set_cons_zero, List.set_cons_succ]
    refine anyH_take (v := ?_) 4 rfl (by kernel_rfl) (by kernel_rfl) (by kernel_rfl) (fun _ _ _ h => h) rfl ?_ hHeld ?_
    rotate_left
    · intro w' hSw
      go_simp
      try with_reducible rfl
    try simp only [Act.put, List.setIfInBounds_toArray, List.set_cons_zero, List.set_cons_succ]
    refine anyH_skip 5 rfl (by kernel_rfl) (by kernel_rfl) (by kernel_rfl) (fun _ _ _ h => h) rfl hHeld ?_
    try simp only [Act.put, List.setIfInBounds_toArray, List.set_cons_zero, List.set_cons_succ]
    refine anyH_skip 6 rfl (by kernel_rfl) (by kernel_rfl) (by kernel_rfl) (fun _ _ _ h => h) rfl hHeld ?_
    try simp only [Act.put, List.setIfInBounds_toArray, List.set_cons_zero, List.set_cons_succ]
    refine anyH_skip 7 rfl (by kernel_rfl) (by kernel_rfl) (by kernel_rfl) (fun _ _ _ h => h) rfl hHeld ?_
    try simp only [Act.put, List.setIfInBounds_toArray, List.set_cons_zero, List.set_cons_succ]
    refine anyH_skip 8 rfl (by kernel_rfl) (by kernel_rfl) (by kernel_rfl) (fun _ _ _ h => h) rfl hHeld ?_
    try simp only [Act.put, List.setIfInBounds_toArray, List.set_cons_zero, List.set_cons_succ]
    refine anyH_take (v := ?_) 9 rfl (by kernel_rfl) (by kernel_rfl) (by kernel_rfl) (fun _ _ _ h => h) rfl ?_ hHeld ?_
    rotate_left
    · intro w' hSw
      go_simp
      try with_reducible rfl
    try simp only [Act.put, List.setIfInBounds_toArray, List.set_cons_zero, List.set_cons_succ]
    refine anyH_take (v := ?_) 10 rfl (by kernel_rfl) (by kernel_rfl) (by kernel_rfl) (fun _ _ _ h => h) rfl ?_ hHeld ?_
    rotate_left
    · intro w' hSw
      go_simp
      try with_reducible rfl
    try simp only [Act.put, List.setIfInBounds_toArray, List.set_cons_zero, List.set_cons_succ]
    refine anyH_skip 11 rfl (by kernel_rfl) (by kernel_rfl) (by kernel_rfl) (fun _ _ _ h => h) rfl hHeld ?_
    try simp only [Act.put, List.setIfInBounds_toArray, List.set_cons_zero, List.set_cons_succ]
    refine anyH_skip 12 rfl (by kernel_rfl) (by kernel_rfl) (by kernel_rfl) (fun _ _ _ h => h) rfl hHeld ?_
    try simp only [Act.put, List.setIfInBounds_toArray, List.set_cons_zero, List.set_cons_succ]
    refine anyH_skip 13 rfl (by kernel_rfl) (by kernel_rfl) (by kernel_rfl) (fun _ _ _ h => h) rfl hHeld ?_
    try simp only [Act.put, List.setIfInBounds_toArray, List.set_cons_zero, List.set_cons_succ]
    refine anyH_skip 14 rfl (by kernel_rfl) (by kernel_rfl) (by kernel_rfl) (fun _ _ _ h => h) rfl hHeld ?_
    try simp only [Act.put, List.setIfInBounds_toArray, List.set_cons_zero, List.set_cons_succ]
    refine anyH_skip 15 rfl (by kernel_rfl) (by kernel_rfl) (by kernel_rfl) (fun _ _ _ h => h) rfl hHeld ?_
    try simp only [Act.put, List.setIfInBounds_toArray, List.set_cons_zero, List.set_cons_succ]
    refine anyH_skip 16 rfl (by kernel_rfl) (by kernel_rfl) (by kernel_rfl) (fun _ _ _ h => h) rfl hHeld ?_
    try simp only [Act.put, List.setIfInBounds_toArray, List.set_cons_zero, List.set_cons_succ]
    refine anyH_skip 17 rfl (by kernel_rfl) (by kernel_rfl) (by kernel_rfl) (fun _ _ _ h => h) rfl hHeld ?_
    try simp only [Act.put, List.setIfInBounds_toArray, List.set_cons_zero, List.set_cons_succ]
    refine anyH_skip 18 rfl (by kernel_rfl) (by kernel_rfl) (by kernel_rfl) (fun _ _ _ h => h) rfl hHeld ?_
    try simp only [Act.put, List.setIfInBounds_toArray, List.set_cons_zero, List.set_cons_succ]
    refine anyH_skip 19 rfl (by kernel_rfl) (by kernel_rfl) (by kernel_rfl) (fun _ _ _ h => h) rfl hHeld ?_
    try simp only [Act.put, List.setIfInBounds_toArray, List.set_cons_zero, List.set_cons_succ]
    refine anyH_skip 20 rfl (by kernel_rfl) (by kernel_rfl) (by kernel_rfl) (fun _ _ _ h => h) rfl hHeld ?_
    try simp only [Act.put, List.setIfInBounds_toArray, List.set_cons_zero, List.set_cons_succ]
    refine anyH_take (v := ?_) 21 rfl (by kernel_rfl) (by kernel_rfl) (by kernel_rfl) (fun _ _ _ h => h) rfl ?_ hHeld ?_
    rotate_left
    · intro w' hSw
      go_simp
      try with_reducible rfl
    try simp only [Act.put, List.setIfInBounds_toArray, List.set_cons_zero, List.set_cons_succ]
    refine wpAnyH_done (by kernel_rfl) ?_ _
    clear hHeld
    go_wp2
    refine bodyPost_ret (v := .tuple #[.slice none 0 0, .bool false]) (by simp [results, Try.results40, go_sem]) rfl (RetMsB.nil g2.below)
  by_cases b2 : isMod p n T ns = true
  case neg =>
    have b2 : isMod p n T ns = false := by simpa using b2
    have b0 : smOk p n T ms ns = false := by rw [smOk, b2, Bool.false_and, Bool.and_false]
    rw [show smMs p n T ms ns = [] by simp [smMs, b0], b0]
    have B1 := Lib.hid b1
    have B2 := Lib.hid b2
    clear b1 b2 b0
    go_enter Try.func40, Try.ntmps40
    go_upto_region 1 with fail
    have g1 := h1.drew
    refine wp_region_held_drew (S := fun w' => w'.cell? ⟨w.heap.size, 0, none⟩ = some (.int .i64 p) ∧ w'.cell? ⟨w.heap.size, 1, none⟩ = some (.int .i64 n) ∧ w'.cell? ⟨w.heap.size, 2, none⟩ = some (.slice A T.length k)) (by kernel_rfl) (g1.box3 0 rfl) (fun hHeld => ?_)
    refine anyH_take (v := ?_) 0 rfl (by kernel_rfl) (by kernel_rfl) (by kernel_rfl) (fun _ _ _ h => h) rfl ?_ hHeld ?_
    rotate_left
    · intro w' hSw
      go_simp
      try with_reducible rfl
    try simp only [Act.put, List.setIfInBounds_toArray, List.set_cons_zero, List.set_cons_succ]
    refine anyH_take (v := ?_) 1 rfl (by kernel_rfl) (by kernel_rfl) (by kernel_rfl) (fun _ _ _ h => h) rfl ?_ hHeld ?_
    rotate_left
    · intro w' hSw
      go_simp
      try with_reducible rfl
    try simp only [Act.put, List.setIfInBounds_toArray, List.set_cons_zero, List.set_cons_succ]
    refine wpAnyH_ready (rs := [2]) (by kernel_rfl) (by simp) ?_
    refine ready_cons rfl (fun K hK => ?_) AllReadyH.nil
    go_simp
    refine (HI.out _ (g1.roInts 3 rfl) (g1.fact 2 rfl)).mono ?_
    rintro (e : Ending) w1 ⟨rfl, hb1⟩
    have g2 := g1.on hb1
    rw [B1.out]
    clear hb1
    show K _ _
    refine hK.out _ _ ?_ (fun hHeld => ?_)
    · exact (g2.box3 0 rfl)
    clear hK K
    try simp only [Act.put, List.setIfInBounds_toArray, List.set_cons_zero, List.set_cons_succ]
    refine anyH_take (v := ?_) 3 rfl (by kernel_rfl) (by kernel_rfl) (by kernel_rfl) (fun _ _ _ h => h) rfl ?_ hHeld ?_
    rotate_left
    · intro w' hSw
      go_simp
      try with_reducible rfl
    try simp only [Act.put, List.setIfInBounds_toArray, List.set_cons_zero, List.set_cons_succ]
    refine anyH_take (v := ?_) 4 rfl (by kernel_rfl) (by kernel_rfl) (by kernel_rfl) (fun _ _ _ h => h) rfl ?_ hHeld ?_
    rotate_left
    · intro w' hSw
      go_simp
      try with_reducible rfl
    try simp only [Act.put, List.setIfInBounds_toArray, List.set_cons_zero, List.set_cons_succ]
    refine anyH_take (v := ?_) 5 rfl (by kernel_rfl) (by kernel_rfl) (by kernel_rfl) (fun _ _ _ h => h) rfl ?_ hHeld ?_
    rotate_left
    · intro w' hSw
      go_simp
      try with_reducible rfl
    try simp only [Act.put, List.setIfInBounds_toArray, List.set_cons_zero, List.set_cons_succ]
    refine anyH_take (v := ?_) 6 rfl (by kernel_rfl) (by kernel_rfl) (by kernel_rfl) (fun _ _ _ h => h) rfl ?_ hHeld ?_
    rotate_left
    · intro w' hSw
      go_simp
      try with_reducible rfl
    try simp only [Act.put, List.setIfInBounds_toArray, List.set_cons_zero, List.set_cons_succ]
    refine wpAnyH_ready (rs := [7]) (by kernel_rfl) (by simp) ?_
    refine ready_cons rfl (fun K hK => ?_) AllReadyH.nil
    go_simp
    refine (HI2.out _ (g2.roInts 3 rfl) (g2.fact 1 rfl)).mono ?_
    rintro (e : Ending) w2 ⟨rfl, hb1⟩
    have g3 := g2.on hb1
    rw [B2.out]
    clear hb1
    show K _ _
    refine hK.out _ _ ?_ (fun hHeld => ?_)
    · exact (g3.box3 0 rfl)
    clear hK K
    try simp only [Act.put, List.setIfInBounds_toArray, List.set_cons_zero, List.set_cons_succ]
    refine anyH_take (v := ?_) 8 rfl (by kernel_rfl) (by kernel_rfl) (by kernel_rfl) (fun _ _ _ h => h) rfl ?_ hHeld ?_
    rotate_left
    · intro w' hSw
      go_simp
      try with_reducible rfl
    try simp only [Act.put, List.setIfInBounds_toArray, List.set_cons_zero, List.set_cons_succ]
    refine anyH_take (v := ?_) 9 rfl (by kernel_rfl) (by kernel_rfl) (by kernel_rfl) (fun _ _ _ h => h) rfl ?_ hHeld ?_
    rotate_left
    · intro w' hSw
      go_simp
      try with_reducible rfl
    try simp only [Act.put, List.setIfInBounds_toArray, List.set_cons_zero, List.set_cons_succ]
    refine anyH_take (v := ?_) 10 rfl (by kernel_rfl) (by kernel_rfl) (by kernel_rfl) (fun _ _ _ h => h) rfl ?_ hHeld ?_
    rotate_left
    · intro w' hSw
      go_simp
      try with_reducible rfl
    try simp only [Act.put, List.setIfInBounds_toArray, List.set_cons_zero, List.set_cons_succ]
    refine anyH_skip 11 rfl (by kernel_rfl) (by kernel_rfl) (by kernel_rfl) (fun _ _ _ h => h) rfl hHeld ?_
    try simp only [Act.put, List.setIfInBounds_toArray, List.set_cons_zero, List.set_cons_succ]
    refine anyH_skip 12 rfl (by kernel_rfl) (by kernel_rfl) (by kernel_rfl) (fun _ _ _ h => h) rfl hHeld ?_
    try simp only [Act.put, List.setIfInBounds_toArray, List.set_cons_zero, List.set_cons_succ]
    refine anyH_skip 13 rfl (by kernel_rfl) (by kernel_rfl) (by kernel_rfl) (fun _ _ _ h => h) rfl hHeld ?_
    try simp only [Act.put, List.setIfInBounds_toArray, List.set_cons_zero, List.set_cons_succ]
    refine anyH_skip 14 rfl (by kernel_rfl) (by kernel_rfl) (by kernel_rfl) (fun _ _ _ h => h) rfl hHeld ?_
    try simp only [Act.put, List.setIfInBounds_toArray, List.set_cons_zero, List.set_cons_succ]
    refine anyH_skip 15 rfl (by kernel_rfl) (by kernel_rfl) (by kernel_rfl) (fun _ _ _ h => h) rfl hHeld ?_
    try simp only [Act.put, List.setIfInBounds_toArray, List.set_cons_zero, List.set_cons_succ]
    refine anyH_skip 16 rfl (by kernel_rfl) (by kernel_rfl) (by kernel_rfl) (fun _ _ _ h => h) rfl hHeld ?_
    try simp only [Act.put, List.setIfInBounds_toArray, List.set_cons_zero, List.set_cons_succ]
    refine anyH_skip 17 rfl (by kernel_rfl) (by kernel_rfl) (by kernel_rfl) (fun _ _ _ h => h) rfl hHeld ?_
    try simp only [Act.put, List.setIfInBounds_toArray, List.set_cons_zero, List.set_cons_succ]
    refine anyH_skip 18 rfl (by kernel_rfl) (by kernel_rfl) (by kernel_rfl) (fun _ _ _ h => h) rfl hHeld ?_
    try simp only [Act.put, List.setIfInBounds_toArray, List.set_cons_zero, List.set_cons_succ]
    refine anyH_skip 19 rfl (by kernel_rfl) (by kernel_rfl) (by kernel_rfl) (fun _ _ _ h => h) rfl hHeld ?_
    try simp only [Act.put, List.setIfInBounds_toArray, List.set_cons_zero, List.set_cons_succ]
    refine anyH_skip 20 rfl (by kernel_rfl) (by kernel_rfl) (by kernel_rfl) (fun _ _ _ h => h) rfl hHeld ?_
    try simp only [Act.put, List.setIfInBounds_toArray, List.set_cons_zero, List.set_cons_succ]
    refine anyH_take (v := ?_) 21 rfl (by kernel_rfl) (by kernel_rfl) (by kernel_rfl) (fun _ _ _ h => h) rfl ?_ hHeld ?_
    rotate_left
    · intro w' hSw
      go_simp
      try with_reducible rfl
    try simp only [Act.put, List.setIfInBounds_toArray, List.set_cons_zero, List.set_cons_succ]
    refine wpAnyH_done (by kernel_rfl) ?_ _
    clear hHeld
    go_wp2
    refine bodyPost_ret (v := .tuple #[.slice none 0 0, .bool false]) (by simp [results, Try.results40, go_sem]) rfl (RetMsB.nil g3.below)
  obtain ⟨N, s, hn, hln, hN0, hs, hs30, hA, hM⟩ := isMod_all b1
  obtain ⟨N2, t2, hn2, hln2, _, ht2, ht30, _, hM2⟩ := isMod_all b2
  have e2 : N = N2 := by omega
  subst e2
  clear hn2
  obtain ⟨N', eN, g1, kT, g3, g4, g5, hP⟩ := algOk_spec hA
  have hN28 : N ≤ 28 := by omega
  clear eN kT g1 g3
  have h0m : 0 < ms.length := by omega
  have h0n : 0 < ns.length := by omega
  obtain ⟨b, off, A9, c9, hbA, hm⟩ := HV.out.at (i := 0) h0m
  obtain ⟨b8, off8, A8, c8, hbB, hm8⟩ := HU.out.at (i := 0) h0n
  have hX : w.cell? ⟨b, off + 1, none⟩ = some (.int .i64 s) := by
    have := hm.2.1
    rw [mAt_get h0m, hs] at this
    simpa using this
  have hX8 : w.cell? ⟨b8, off8 + 1, none⟩ = some (.int .i64 t2) := by
    have := hm8.2.1
    rw [mAt_get h0n, ht2] at this
    simpa using this
  subst hbA
  subst hbB
  replace h1 := h1.pushOld (R := fun w' => w'.cell? ⟨b, off + 1, none⟩ = some (.int .i64 s)) (fun w' hk => (World.cell?_of_block (hk _ (World.block_lt_of_cell? w _ hX))).trans hX)
  replace h1 := h1.pushOld (R := fun w' => w'.cell? ⟨b8, off8 + 1, none⟩ = some (.int .i64 t2)) (fun w' hk => (World.cell?_of_block (hk _ (World.block_lt_of_cell? w _ hX8))).trans hX8)
  have im0 : 0 < ms.length := by omega
  have in0 : 0 < ns.length := by omega
  have B1 := Lib.hid b1
  have B2 := Lib.hid b2
  obtain ⟨q, hq⟩ : ∃ q, q = s + t2 := ⟨_, rfl⟩
  have hst : (s : Int) + (t2 : Int) = (q : Int) := by omega
  have hwq : IntKind.i64.wrap ((q : Nat) : Int) = q := wrap_ok (by omega) (by omega)
  have HQ := Lib.hid hq
  clear hm hm8 hX hX8 A9 c9 A8 c8 h0m h0n
  by_cases b3 : q ≤ 30
  case neg =>
    have b0 : smOk p n T ms ns = false := by rw [smOk, b1, b2, hs, ht2, decide_eq_false (by omega)]; rfl
    rw [show smMs p n T ms ns = [] by simp [smMs, b0], b0]
    have i3 : (30 : Int) < q := by omega
    clear b1 b2 b0 hn hln hln2 hs ht2 hA hM hM2 hq b3
    go_enter Try.func40, Try.ntmps40
    go_upto_region 1 with fail
    have g1 := h1.drew
    refine wp_region_held_drew (S := fun w' => (w'.cell? ⟨w.heap.size, 0, none⟩ = some (.int .i64 p) ∧ w'.cell? ⟨w.heap.size, 1, none⟩ = some (.int .i64 n) ∧ w'.cell? ⟨w.heap.size, 2, none⟩ = some (.slice A T.length k)) ∧ w'.cell? ⟨b, off + 1, none⟩ = some (.int .i64 s) ∧ w'.cell? ⟨b8, off8 + 1, none⟩ = some (.int .i64 t2)) (by kernel_rfl) ⟨g1.box3 2 rfl, g1.fact 1 rfl, g1.fact 0 rfl⟩ (fun hHeld => ?_)
    refine anyH_take (v := ?_) 0 rfl (by kernel_rfl) (by kernel_rfl) (by kernel_rfl) (fun _ _ _ h => h) rfl ?_ hHeld ?_
    rotate_left
    · intro w' hSw
      go_simp
      try with_reducible rfl
    try simp only [Act.put, List.setIfInBounds_toArray, List.set_cons_zero, List.set_cons_succ]
    refine anyH_take (v := ?_) 1 rfl (by kernel_rfl) (by kernel_rfl) (by kernel_rfl) (fun _ _ _ h => h) rfl ?_ hHeld ?_
    rotate_left
    · intro w' hSw
      go_simp
      try with_reducible rfl
    try simp only [Act.put, List.setIfInBounds_toArray, List.set_cons_zero, List.set_cons_succ]
    refine wpAnyH_ready (rs := [2]) (by kernel_rfl) (by simp) ?_
    refine ready_cons rfl (fun K hK => ?_) AllReadyH.nil
    go_simp
    refine (HI.out _ (g1.roInts 5 rfl) (g1.fact 4 rfl)).mono ?_
    rintro (e : Ending) w1 ⟨rfl, hb1⟩
    have g2 := g1.on hb1
    rw [B1.out]
    clear hb1
    show K _ _
    refine hK.out _ _ ?_ (fun hHeld => ?_)
    · exact ⟨g2.box3 2 rfl, g2.fact 1 rfl, g2.fact 0 rfl⟩
    clear hK K
    try simp only [Act.put, List.setIfInBounds_toArray, List.set_cons_zero, List.set_cons_succ]
    refine anyH_take (v := ?_) 3 rfl (by kernel_rfl) (by kernel_rfl) (by kernel_rfl) (fun _ _ _ h => h) rfl ?_ hHeld ?_
    rotate_left
    · intro w' hSw
      go_simp
      try with_reducible rfl
    try simp only [Act.put, List.setIfInBounds_toArray, List.set_cons_zero, List.set_cons_succ]
    refine anyH_take (v := ?_) 4 rfl (by kernel_rfl) (by kernel_rfl) (by kernel_rfl) (fun _ _ _ h => h) rfl ?_ hHeld ?_
    rotate_left
    · intro w' hSw
      go_simp
      try with_reducible rfl
    try simp only [Act.put, List.setIfInBounds_toArray, List.set_cons_zero, List.set_cons_succ]
    refine anyH_take (v := ?_) 5 rfl (by kernel_rfl) (by kernel_rfl) (by kernel_rfl) (fun _ _ _ h => h) rfl ?_ hHeld ?_
    rotate_left
    · intro w' hSw
      go_simp
      try with_reducible rfl
    try simp only [Act.put, List.setIfInBounds_toArray, List.set_cons_zero, List.set_cons_succ]
    refine anyH_take (v := ?_) 6 rfl (by kernel_rfl) (by kernel_rfl) (by kernel_rfl) (fun _ _ _ h => h) rfl ?_ hHeld ?_
    rotate_left
    · intro w' hSw
      go_simp
      try with_reducible rfl
    try simp only [Act.put, List.setIfInBounds_toArray, List.set_cons_zero, List.set_cons_succ]
    refine wpAnyH_ready (rs := [7]) (by kernel_rfl) (by simp) ?_
    refine ready_cons rfl (fun K hK => ?_) AllReadyH.nil
    go_simp
    refine (HI2.out _ (g2.roInts 5 rfl) (g2.fact 3 rfl)).mono ?_
    rintro (e : Ending) w2 ⟨rfl, hb1⟩
    have g3 := g2.on hb1
    rw [B2.out]
    clear hb1
    show K _ _
    refine hK.out _ _ ?_ (fun hHeld => ?_)
    · exact ⟨g3.box3 2 rfl, g3.fact 1 rfl, g3.fact 0 rfl⟩
    clear hK K
    try simp only [Act.put, List.setIfInBounds_toArray, List.set_cons_zero, List.set_cons_succ]
    refine anyH_take (v := ?_) 8 rfl (by kernel_rfl) (by kernel_rfl) (by kernel_rfl) (fun _ _ _ h => h) rfl ?_ hHeld ?_
    rotate_left
    · intro w' hSw
      go_simp
      try with_reducible rfl
    try simp only [Act.put, List.setIfInBounds_toArray, List.set_cons_zero, List.set_cons_succ]
    refine anyH_take (v := ?_) 9 rfl (by kernel_rfl) (by kernel_rfl) (by kernel_rfl) (fun _ _ _ h => h) rfl ?_ hHeld ?_
    rotate_left
    · intro w' hSw
      go_simp
      try with_reducible rfl
    try simp only [Act.put, List.setIfInBounds_toArray, List.set_cons_zero, List.set_cons_succ]
    refine anyH_take (v := ?_) 10 rfl (by kernel_rfl) (by kernel_rfl) (by kernel_rfl) (fun _ _ _ h => h) rfl ?_ hHeld ?_
    rotate_left
    · intro w' hSw
      go_simp
      try with_reducible rfl
    try simp only [Act.put, List.setIfInBounds_toArray, List.set_cons_zero, List.set_cons_succ]
    refine anyH_take (v := ?_) 11 rfl (by kernel_rfl) (by kernel_rfl) (by kernel_rfl) (fun _ _ _ h => h) rfl ?_ hHeld ?_
    rotate_left
    · intro w' hSw
      go_simp
      try with_reducible rfl
    try simp only [Act.put, List.setIfInBounds_toArray, List.set_cons_zero, List.set_cons_succ]
    refine anyH_take (v := ?_) 12 rfl (by kernel_rfl) (by kernel_rfl) (by kernel_rfl) (fun _ _ _ h => h) rfl ?_ hHeld ?_
    rotate_left
    · intro w' hSw
      go_simp
      try with_reducible rfl
    try simp only [Act.put, List.setIfInBounds_toArray, List.set_cons_zero, List.set_cons_succ]
    refine anyH_take (v := ?_) 13 rfl (by kernel_rfl) (by kernel_rfl) (by kernel_rfl) (fun _ _ _ h => h) rfl ?_ hHeld ?_
    rotate_left
    · intro w' hSw
      go_simp
      try with_reducible rfl
    try simp only [Act.put, List.setIfInBounds_toArray, List.set_cons_zero, List.set_cons_succ]
    refine anyH_take (v := ?_) 14 rfl (by kernel_rfl) (by kernel_rfl) (by kernel_rfl) (fun _ _ _ h => h) rfl ?_ hHeld ?_
    rotate_left
    · intro w' hSw
      go_simp
      try with_reducible rfl
    try simp only [Act.put, List.setIfInBounds_toArray, List.set_cons_zero, List.set_cons_succ]
    refine anyH_take (v := ?_) 15 rfl (by kernel_rfl) (by kernel_rfl) (by kernel_rfl) (fun _ _ _ h => h) rfl ?_ hHeld ?_
    rotate_left
    · intro w' hSw
      go_simp
      try with_reducible rfl
    try simp only [Act.put, List.setIfInBounds_toArray, List.set_cons_zero, List.set_cons_succ]
    refine anyH_take (v := ?_) 16 rfl (by kernel_rfl) (by kernel_rfl) (by kernel_rfl) (fun _ _ _ h => h) rfl ?_ hHeld ?_
    rotate_left
    · intro w' hSw
      go_simp
      try with_reducible rfl
    try simp only [Act.put, List.setIfInBounds_toArray, List.set_cons_zero, List.set_cons_succ]
    refine anyH_take (v := ?_) 17 rfl (by kernel_rfl) (by kernel_rfl) (by kernel_rfl) (fun _ _ _ h => h) rfl ?_ hHeld ?_
    rotate_left
    · intro w' hSw
      go_simp
      try with_reducible rfl
    try simp only [Act.put, List.setIfInBounds_toArray, List.set_cons_zero, List.set_cons_succ]
    refine anyH_take (v := ?_) 18 rfl (by kernel_rfl) (by kernel_rfl) (by kernel_rfl) (fun _ _ _ h => h) rfl ?_ hHeld ?_
    rotate_left
    · intro w' hSw
      go_simp
      try with_reducible rfl
    try simp only [Act.put, List.setIfInBounds_toArray, List.set_cons_zero, List.set_cons_succ]
    refine anyH_take (v := ?_) 19 rfl (by kernel_rfl) (by kernel_rfl) (by kernel_rfl) (fun _ _ _ h => h) rfl ?_ hHeld ?_
    rotate_left
    · intro w' hSw
      go_simp
      try with_reducible rfl
    try simp only [Act.put, List.setIfInBounds_toArray, List.set_cons_zero, List.set_cons_succ]
    refine anyH_take (v := ?_) 20 rfl (by kernel_rfl) (by kernel_rfl) (by kernel_rfl) (fun _ _ _ h => h) rfl ?_ hHeld ?_
    rotate_left
    · intro w' hSw
      go_simp
      try with_reducible rfl
    try simp only [Act.put, List.setIfInBounds_toArray, List.set_cons_zero, List.set_cons_succ]
    refine anyH_take (v := ?_) 21 rfl (by kernel_rfl) (by kernel_rfl) (by kernel_rfl) (fun _ _ _ h => h) rfl ?_ hHeld ?_
    rotate_left
    · intro w' hSw
      go_simp
      try with_reducible rfl
    try simp only [Act.put, List.setIfInBounds_toArray, List.set_cons_zero, List.set_cons_succ]
    refine wpAnyH_done (by kernel_rfl) ?_ _
    clear hHeld
    go_wp2
    refine bodyPost_ret (v := .tuple #[.slice none 0 0, .bool false]) (by simp [results, Try.results40, go_sem]) rfl (RetMsB.nil g3.below)
  have b0 : smOk p n T ms ns = true := by rw [smOk, b1, b2, hs, ht2, decide_eq_true (by omega)]; rfl
  have HR : Hid (smL p s t2 N ms ns = smMs p n T ms ns) := by show _ = _; rw [smMs, if_pos b0, hs, ht2, hn, Int.toNat_natCast, Int.toNat_natCast, Int.toNat_natCast]
  rw [b0]
  have i3 : ¬ ((30 : Int) < q) := by omega
  have hqq := mul_le b3 b3
  have HZ := Lib.hid (fun W => ZeroMatrixI_any p q q W hP (by omega) (by omega))
  have HM := Lib.hid hM
  have HM2 := Lib.hid hM2
  have HLn := Lib.hid hln
  have HLn2 := Lib.hid hln2
  clear b1 b2 b0 hn hln hln2 hs ht2 hA hM hM2 hq im0 in0
  have im0 : 0 < ms.length := by rw [HLn.out]; omega
  have in0 : 0 < ns.length := by rw [HLn2.out]; omega
  go_enter Try.func40, Try.ntmps40
  go_upto_region 1 with fail
  have g1 := h1.drew
  refine wp_region_held_drew (S := fun w' => (w'.cell? ⟨w.heap.size, 0, none⟩ = some (.int .i64 p) ∧ w'.cell? ⟨w.heap.size, 1, none⟩ = some (.int .i64 n) ∧ w'.cell? ⟨w.heap.size, 2, none⟩ = some (.slice A T.length k)) ∧ w'.cell? ⟨b, off + 1, none⟩ = some (.int .i64 s) ∧ w'.cell? ⟨b8, off8 + 1, none⟩ = some (.int .i64 t2)) (by kernel_rfl) ⟨g1.box3 2 rfl, g1.fact 1 rfl, g1.fact 0 rfl⟩ (fun hHeld => ?_)
  refine anyH_take (v := ?_) 0 rfl (by kernel_rfl) (by kernel_rfl) (by kernel_rfl) (fun _ _ _ h => h) rfl ?_ hHeld ?_
  rotate_left
  · intro w' hSw
    go_simp
    try with_reducible rfl
  try simp only [Act.put, List.setIfInBounds_toArray, List.set_cons_zero, List.set_cons_succ]
  refine anyH_take (v := ?_) 1 rfl (by kernel_rfl) (by kernel_rfl) (by kernel_rfl) (fun _ _ _ h => h) rfl ?_ hHeld ?_
  rotate_left
  · intro w' hSw
    go_simp
    try with_reducible rfl
  try simp only [Act.put, List.setIfInBounds_toArray, List.set_cons_zero, List.set_cons_succ]
  refine wpAnyH_ready (rs := [2]) (by kernel_rfl) (by simp) ?_
  refine ready_cons rfl (fun K hK => ?_) AllReadyH.nil
  go_simp
  refine (HI.out _ (g1.roInts 5 rfl) (g1.fact 4 rfl)).mono ?_
  rintro (e : Ending) w1 ⟨rfl, hb1⟩
  have g2 := g1.on hb1
  rw [B1.out]
  clear hb1
  show K _ _
  refine hK.out _ _ ?_ (fun hHeld => ?_)
  · exact ⟨g2.box3 2 rfl, g2.fact 1 rfl, g2.fact 0 rfl⟩
  clear hK K
  try simp only [Act.put, List.setIfInBounds_toArray, List.set_cons_zero, List.set_cons_succ]
  refine anyH_take (v := ?_) 3 rfl (by kernel_rfl) (by kernel_rfl) (by kernel_rfl) (fun _ _ _ h => h) rfl ?_ hHeld ?_
  rotate_left
  · intro w' hSw
    go_simp
    try with_reducible rfl
  try simp only [Act.put, List.setIfInBounds_toArray, List.set_cons_zero, List.set_cons_succ]
  refine anyH_take (v := ?_) 4 rfl (by kernel_rfl) (by kernel_rfl) (by kernel_rfl) (fun _ _ _ h => h) rfl ?_ hHeld ?_
  rotate_left
  · intro w' hSw
    go_simp
    try with_reducible rfl
  try simp only [Act.put, List.setIfInBounds_toArray, List.set_cons_zero, List.set_cons_succ]
  refine anyH_take (v := ?_) 5 rfl (by kernel_rfl) (by kernel_rfl) (by kernel_rfl) (fun _ _ _ h => h) rfl ?_ hHeld ?_
  rotate_left
  · intro w' hSw
    go_simp
    try with_reducible rfl
  try simp only [Act.put, List.setIfInBounds_toArray, List.set_cons_zero, List.set_cons_succ]
  refine anyH_take (v := ?_) 6 rfl (by kernel_rfl) (by kernel_rfl) (by kernel_rfl) (fun _ _ _ h => h) rfl ?_ hHeld ?_
  rotate_left
  · intro w' hSw
    go_simp
    try with_reducible rfl
  try simp only [Act.put, List.setIfInBounds_toArray, List.set_cons_zero, List.set_cons_succ]
  refine wpAnyH_ready (rs := [7]) (by kernel_rfl) (by simp) ?_
  refine ready_cons rfl (fun K hK => ?_) AllReadyH.nil
  go_simp
  refine (HI2.out _ (g2.roInts 5 rfl) (g2.fact 3 rfl)).mono ?_
  rintro (e : Ending) w2 ⟨rfl, hb1⟩
  have g3 := g2.on hb1
  rw [B2.out]
  clear hb1
  show K _ _
  refine hK.out _ _ ?_ (fun hHeld => ?_)
  · exact ⟨g3.box3 2 rfl, g3.fact 1 rfl, g3.fact 0 rfl⟩
  clear hK K
  try simp only [Act.put, List.setIfInBounds_toArray, List.set_cons_zero, List.set_cons_succ]
  refine anyH_take (v := ?_) 8 rfl (by kernel_rfl) (by kernel_rfl) (by kernel_rfl) (fun _ _ _ h => h) rfl ?_ hHeld ?_
  rotate_left
  · intro w' hSw
    go_simp
    try with_reducible rfl
  try simp only [Act.put, List.setIfInBounds_toArray, List.set_cons_zero, List.set_cons_succ]
  refine anyH_take (v := ?_) 9 rfl (by kernel_rfl) (by kernel_rfl) (by kernel_rfl) (fun _ _ _ h => h) rfl ?_ hHeld ?_
  rotate_left
  · intro w' hSw
    go_simp
    try with_reducible rfl
  try simp only [Act.put, List.setIfInBounds_toArray, List.set_cons_zero, List.set_cons_succ]
  refine anyH_take (v := ?_) 10 rfl (by kernel_rfl) (by kernel_rfl) (by kernel_rfl) (fun _ _ _ h => h) rfl ?_ hHeld ?_
  rotate_left
  · intro w' hSw
    go_simp
    try with_reducible rfl
  try simp only [Act.put, List.setIfInBounds_toArray, List.set_cons_zero, List.set_cons_succ]
  refine anyH_take (v := ?_) 11 rfl (by kernel_rfl) (by kernel_rfl) (by kernel_rfl) (fun _ _ _ h => h) rfl ?_ hHeld ?_
  rotate_left
  · intro w' hSw
    go_simp
    try with_reducible rfl
  try simp only [Act.put, List.setIfInBounds_toArray, List.set_cons_zero, List.set_cons_succ]
  refine anyH_take (v := ?_) 12 rfl (by kernel_rfl) (by kernel_rfl) (by kernel_rfl) (fun _ _ _ h => h) rfl ?_ hHeld ?_
  rotate_left
  · intro w' hSw
    go_simp
    try with_reducible rfl
  try simp only [Act.put, List.setIfInBounds_toArray, List.set_cons_zero, List.set_cons_succ]
  refine anyH_take (v := ?_) 13 rfl (by kernel_rfl) (by kernel_rfl) (by kernel_rfl) (fun _ _ _ h => h) rfl ?_ hHeld ?_
  rotate_left
  · intro w' hSw
    go_simp
    try with_reducible rfl
  try simp only [Act.put, List.setIfInBounds_toArray, List.set_cons_zero, List.set_cons_succ]
  refine anyH_take (v := ?_) 14 rfl (by kernel_rfl) (by kernel_rfl) (by kernel_rfl) (fun _ _ _ h => h) rfl ?_ hHeld ?_
  rotate_left
  · intro w' hSw
    go_simp
    try with_reducible rfl
  try simp only [Act.put, List.setIfInBounds_toArray, List.set_cons_zero, List.set_cons_succ]
  refine anyH_take (v := ?_) 15 rfl (by kernel_rfl) (by kernel_rfl) (by kernel_rfl) (fun _ _ _ h => h) rfl ?_ hHeld ?_
  rotate_left
  · intro w' hSw
    go_simp
    try with_reducible rfl
  try simp only [Act.put, List.setIfInBounds_toArray, List.set_cons_zero, List.set_cons_succ]
  refine anyH_take (v := ?_) 16 rfl (by kernel_rfl) (by kernel_rfl) (by kernel_rfl) (fun _ _ _ h => h) rfl ?_ hHeld ?_
  rotate_left
  · intro w' hSw
    go_simp
    try with_reducible rfl
  try simp only [Act.put, List.setIfInBounds_toArray, List.set_cons_zero, List.set_cons_succ]
  refine anyH_take (v := ?_) 17 rfl (by kernel_rfl) (by kernel_rfl) (by kernel_rfl) (fun _ _ _ h => h) rfl ?_ hHeld ?_
  rotate_left
  · intro w' hSw
    go_simp
    try with_reducible rfl
  try simp only [Act.put, List.setIfInBounds_toArray, List.set_cons_zero, List.set_cons_succ]
  refine anyH_take (v := ?_) 18 rfl (by kernel_rfl) (by kernel_rfl) (by kernel_rfl) (fun _ _ _ h => h) rfl ?_ hHeld ?_
  rotate_left
  · intro w' hSw
    go_simp
    try with_reducible rfl
  try simp only [Act.put, List.setIfInBounds_toArray, List.set_cons_zero, List.set_cons_succ]
  refine anyH_take (v := ?_) 19 rfl (by kernel_rfl) (by kernel_rfl) (by kernel_rfl) (fun _ _ _ h => h) rfl ?_ hHeld ?_
  rotate_left
  · intro w' hSw
    go_simp
    try with_reducible rfl
  try simp only [Act.put, List.setIfInBounds_toArray, List.set_cons_zero, List.set_cons_succ]
  refine anyH_take (v := ?_) 20 rfl (by kernel_rfl) (by kernel_rfl) (by kernel_rfl) (fun _ _ _ h => h) rfl ?_ hHeld ?_
  rotate_left
  · intro w' hSw
    go_simp
    try with_reducible rfl
  try simp only [Act.put, List.setIfInBounds_toArray, List.set_cons_zero, List.set_cons_succ]
  refine anyH_take (v := ?_) 21 rfl (by kernel_rfl) (by kernel_rfl) (by kernel_rfl) (fun _ _ _ h => h) rfl ?_ hHeld ?_
  rotate_left
  · intro w' hSw
    go_simp
    try with_reducible rfl
  try simp only [Act.put, List.setIfInBounds_toArray, List.set_cons_zero, List.set_cons_succ]
  refine wpAnyH_done (by kernel_rfl) ?_ _
  clear hHeld
  have h3 := g3.emptyMats
  clear h1 g1 g2 g3
  go_wp2
  go_loopw [8, 40] (fun v8 v40 wr => ∃ (i : Nat) (us : List Value), v40 = .int .i64 i ∧ i ≤ N ∧ Hid (us.length = i) ∧ St w wr [matsIt v8 us ((smL p s t2 N ms ns).take i), .fact (fun w' => w'.cell? ⟨b8, off8 + 1, none⟩ = some (.int .i64 t2)), .fact (fun w' => w'.cell? ⟨b, off + 1, none⟩ = some (.int .i64 s)), .box w.heap.size [.int .i64 p, .int .i64 n, .slice A T.length k], .fact (fun w' => MatsR w' (.slice (some ⟨b8, off8, none⟩) ns.length k3) ns), .fact (fun w' => MatsR w' (.slice (some ⟨b, off, none⟩) ms.length k2) ms), .ro (.slice A T.length k) T]) (fun _ v40 _ => N - (intOf v40).toNat)
  case atStart => exact ⟨0, [], rfl, by omega, rfl, h3⟩
  case round =>
    clear h3
    obtain ⟨i, us, rfl, a1, Hul, h1⟩ := hrel
    by_cases hi : i < N
    · have him : i < ms.length := by rw [HLn.out]; exact hi
      have hin : i < ns.length := by rw [HLn2.out]; exact hi
      obtain ⟨b', off', A9, c9, hbA, hm⟩ := HV.out.at (i := i) him
      obtain ⟨b8', off8', A8, c8, hbB, hm8⟩ := HU.out.at (i := i) hin
      simp only [Option.some.injEq, Addr.mk.injEq, and_true] at hbA hbB
      obtain ⟨rfl, rfl⟩ := hbA
      obtain ⟨rfl, rfl⟩ := hbB
      rw [mAt_get him] at hm
      rw [mAt_get hin] at hm8
      obtain ⟨u1, u2, u3, u4, u5⟩ := HM.out i him
      obtain ⟨v1, v2, v3, v4, v5⟩ := HM2.out i hin
      have hstk := smL_take p s t2 N ms ns i hi
      have hmt : smMt p s t2 ms ns i = ⟨p, q, q, bD s t2 (mAt ms i).d (mAt ns i).d⟩ := by rw [smMt, HQ.out]
      rw [hmt] at hstk
      obtain ⟨D, hD⟩ : ∃ D, D = (mAt ms i).d := ⟨_, rfl⟩
      obtain ⟨E, hE⟩ : ∃ E, E = (mAt ns i).d := ⟨_, rfl⟩
      have hmf : MtAt w b (off + i * 4) ⟨p, s, s, D⟩ (.slice A9 D.length c9) := by unfold MtAt at hm ⊢; rw [u1, u2, u3, ← hD] at hm; exact hm
      have hmg : MtAt w b8 (off8 + i * 4) ⟨p, t2, t2, E⟩ (.slice A8 E.length c8) := by unfold MtAt at hm8 ⊢; rw [v1, v2, v3, ← hE] at hm8; exact hm8
      rw [← hD] at u4 hstk
      rw [← hE] at v4 hstk
      have h2 := (h1.pushOld hmg.fact).pushOld hmf.fact
      have hlu : us.length = ((smL p s t2 N ms ns).take i).length := by rw [Hul.out, List.length_take, length_smL]; omega
      have hl1 : ((smL p s t2 N ms ns).take i).length + 1 ≤ 1099511627776 := by rw [List.length_take, length_smL]; omega
      have Hlu := Lib.hid hlu
      have Hl1 := Lib.hid hl1
      have HDl := Lib.hid u4
      have HEl := Lib.hid v4
      have HSt := Lib.hid hstk
      have iM : (i : Int) < (ms.length : Int) := by omega
      have iM2 : (i : Int) < (ns.length : Int) := by omega
      clear hm hm8 hmf hmg u1 u2 u3 u4 u5 v1 v2 v3 v4 v5 hD hE hstk hmt hlu hl1 h1 him hin
      go_upto_region 7 with fail
      obtain ⟨OL, hOL, h2⟩ : ∃ OL, OL = _ ∧ St w _ OL := ⟨_, rfl, h2⟩
      go_cut [10, 11] (fun s10 s11 wx => ∃ bx by1 : Nat, s10 = .pointer (some ⟨bx, 0, none⟩) ∧ s11 = .pointer (some ⟨by1, 0, none⟩) ∧ St w wx (.box bx [.int .i64 p, .int .i64 s, .int .i64 s, .slice A9 D.length c9] :: .box by1 [.int .i64 p, .int .i64 t2, .int .i64 t2, .slice A8 E.length c8] :: OL))
      case first =>
        subst hOL
        have g0 := h2.drew
        refine wp_region_cut (S := fun w' => (w'.cell? ⟨b, off + i * 4, none⟩ = some (.int .i64 p) ∧ w'.cell? ⟨b, off + i * 4 + 1, none⟩ = some (.int .i64 s) ∧ w'.cell? ⟨b, off + i * 4 + 2, none⟩ = some (.int .i64 s) ∧ w'.cell? ⟨b, off + i * 4 + 3, none⟩ = some (.slice A9 D.length c9)) ∧ w'.cell? ⟨b8, off8 + i * 4, none⟩ = some (.int .i64 p) ∧ w'.cell? ⟨b8, off8 + i * 4 + 1, none⟩ = some (.int .i64 t2) ∧ w'.cell? ⟨b8, off8 + i * 4 + 2, none⟩ = some (.int .i64 t2) ∧ w'.cell? ⟨b8, off8 + i * 4 + 3, none⟩ = some (.slice A8 E.length c8)) 11 (by kernel_rfl) (by kernel_rfl) ⟨⟨(g0.fact 0 rfl).1, (g0.fact 0 rfl).2.1, (g0.fact 0 rfl).2.2.1, (g0.fact 0 rfl).2.2.2.1⟩, (g0.fact 1 rfl).1, (g0.fact 1 rfl).2.1, (g0.fact 1 rfl).2.2.1, (g0.fact 1 rfl).2.2.2.1⟩ (fun hHeld => ?_)
        simp only [List.take_succ_cons, List.take_zero]
        generalize hv0 : World.drew _ = v0 at g0 hHeld ⊢
        clear h2 hv0
        refine anyH_take (v := ?_) 0 rfl (by kernel_rfl) (by kernel_rfl) (by kernel_rfl) (fun _ _ _ h => h) rfl ?_ hHeld ?_
        rotate_left
        · intro w' hSw
          go_simp
          try with_reducible rfl
        try simp only [Act.put, List.setIfInBounds_toArray, List.set_cons_zero, List.set_cons_succ]
        refine anyH_take (v := ?_) 1 rfl (by kernel_rfl) (by kernel_rfl) (by kernel_rfl) (fun _ _ _ h => h) rfl ?_ hHeld ?_
        rotate_left
        · intro w' hSw
          go_simp
          try with_reducible rfl
        try simp only [Act.put, List.setIfInBounds_toArray, List.set_cons_zero, List.set_cons_succ]
        refine anyH_take (v := ?_) 2 rfl (by kernel_rfl) (by kernel_rfl) (by kernel_rfl) (fun _ _ _ h => h) rfl ?_ hHeld ?_
        rotate_left
        · intro w' hSw
          go_simp
          try with_reducible rfl
        try simp only [Act.put, List.setIfInBounds_toArray, List.set_cons_zero, List.set_cons_succ]
        refine anyH_take (v := ?_) 3 rfl (by kernel_rfl) (by kernel_rfl) (by kernel_rfl) (fun _ _ _ h => h) rfl ?_ hHeld ?_
        rotate_left
        · intro w' hSw
          go_simp
          try with_reducible rfl
        try simp only [Act.put, List.setIfInBounds_toArray, List.set_cons_zero, List.set_cons_succ]
        refine anyH_take (v := ?_) 4 rfl (by kernel_rfl) (by kernel_rfl) (by kernel_rfl) (fun _ _ _ h => h) rfl ?_ hHeld ?_
        rotate_left
        · intro w' hSw
          go_simp
          try with_reducible rfl
        try simp only [Act.put, List.setIfInBounds_toArray, List.set_cons_zero, List.set_cons_succ]
        refine anyH_take (v := ?_) 5 rfl (by kernel_rfl) (by kernel_rfl) (by kernel_rfl) (fun _ _ _ h => h) rfl ?_ hHeld ?_
        rotate_left
        · intro w' hSw
          go_simp
          try with_reducible rfl
        try simp only [Act.put, List.setIfInBounds_toArray, List.set_cons_zero, List.set_cons_succ]
        refine anyH_take (v := ?_) 6 rfl (by kernel_rfl) (by kernel_rfl) (by kernel_rfl) (fun _ _ _ h => h) rfl ?_ hHeld ?_
        rotate_left
        · intro w' hSw
          go_simp
          try with_reducible rfl
        try simp only [Act.put, List.setIfInBounds_toArray, List.set_cons_zero, List.set_cons_succ]
        refine anyH_take (v := ?_) 7 rfl (by kernel_rfl) (by kernel_rfl) (by kernel_rfl) (fun _ _ _ h => h) rfl ?_ hHeld ?_
        rotate_left
        · intro w' hSw
          go_simp
          try with_reducible rfl
        try simp only [Act.put, List.setIfInBounds_toArray, List.set_cons_zero, List.set_cons_succ]
        refine wpAnyH_ready (rs := [8, 9]) (by kernel_rfl) (by simp) ?_
        refine ready_cons rfl (fun K hK => ?_) (ready_cons rfl (fun K hK => ?_) AllReadyH.nil)
        · go_simp
          have g1 := g0.box [.int .i64 0, .int .i64 0, .int .i64 0, .slice none 0 0] 32
          refine hK.out _ _ ?_ (fun hHeld => ?_)
          · exact ⟨⟨(g1.fact 1 rfl).1, (g1.fact 1 rfl).2.1, (g1.fact 1 rfl).2.2.1, (g1.fact 1 rfl).2.2.2.1⟩, (g1.fact 2 rfl).1, (g1.fact 2 rfl).2.1, (g1.fact 2 rfl).2.2.1, (g1.fact 2 rfl).2.2.2.1⟩
          clear hK K
          generalize World.alloc v0 (.cells #[.int .i64 0, .int .i64 0, .int .i64 0, .slice none 0 0] 32) = v1 at g1 hHeld ⊢
          try simp only [Act.put, List.setIfInBounds_toArray, List.set_cons_zero, List.set_cons_succ]
          refine wpAnyH_ready (rs := [9]) (by kernel_rfl) (by simp) ?_
          refine ready_cons rfl (fun K hK => ?_) AllReadyH.nil
          · go_simp
            have g2 := g1.box [.int .i64 0, .int .i64 0, .int .i64 0, .slice none 0 0] 32
            refine hK.out _ _ ?_ (fun hHeld => ?_)
            · exact ⟨⟨(g2.fact 2 rfl).1, (g2.fact 2 rfl).2.1, (g2.fact 2 rfl).2.2.1, (g2.fact 2 rfl).2.2.2.1⟩, (g2.fact 3 rfl).1, (g2.fact 3 rfl).2.1, (g2.fact 3 rfl).2.2.1, (g2.fact 3 rfl).2.2.2.1⟩
            clear hK K
            generalize World.alloc v1 (.cells #[.int .i64 0, .int .i64 0, .int .i64 0, .slice none 0 0] 32) = v2 at g2 hHeld ⊢
            try simp only [Act.put, List.setIfInBounds_toArray, List.set_cons_zero, List.set_cons_succ]
            obtain ⟨p0, p1, p2, p3⟩ := g2.box4 1 rfl
            have f0 := g2.free 1 rfl 0
            have f1 := g2.free 1 rfl 1
            have f2 := g2.free 1 rfl 2
            have f3 := g2.free 1 rfl 3
            have q1 := ((((g2.setBox 1 rfl 0 (.int .i64 p)).setBox 1 rfl 1 (.int .i64 s)).setBox 1 rfl 2 (.int .i64 s)).setBox 1 rfl 3 (.slice A9 D.length c9))
            refine wpAnyH_ready (rs := [10]) (by kernel_rfl) (by simp) ?_
            refine ready_cons rfl (fun K hK => ?_) AllReadyH.nil
            go_simp
            refine hK.out _ _ ?_ (fun hHeld => ?_)
            · exact ⟨⟨(q1.fact 2 rfl).1, (q1.fact 2 rfl).2.1, (q1.fact 2 rfl).2.2.1, (q1.fact 2 rfl).2.2.2.1⟩, (q1.fact 3 rfl).1, (q1.fact 3 rfl).2.1, (q1.fact 3 rfl).2.2.1, (q1.fact 3 rfl).2.2.2.1⟩
            clear hK K p0 p1 p2 p3 f0 f1 f2 f3
            try simp only [Act.put, List.setIfInBounds_toArray, List.set_cons_zero, List.set_cons_succ]
            refine wpAnyH_done (by kernel_rfl) ?_ _
            show wpList _ _ _ _ _ _
            simp only [List.drop_succ_cons, List.drop_zero]
            obtain ⟨r0, r1, r2, r3⟩ := q1.box4 0 rfl
            have e0 := q1.free 0 rfl 0
            have e1 := q1.free 0 rfl 1
            have e2 := q1.free 0 rfl 2
            have e3 := q1.free 0 rfl 3
            have q2 := ((((q1.setBox 0 rfl 0 (.int .i64 p)).setBox 0 rfl 1 (.int .i64 t2)).setBox 0 rfl 2 (.int .i64 t2)).setBox 0 rfl 3 (.slice A8 E.length c8))
            go_wp2_with fail
            go_meet
            exact ⟨_, _, rfl, rfl, St.swap2 q2⟩
        · go_simp
          have g1 := g0.box [.int .i64 0, .int .i64 0, .int .i64 0, .slice none 0 0] 32
          refine hK.out _ _ ?_ (fun hHeld => ?_)
          · exact ⟨⟨(g1.fact 1 rfl).1, (g1.fact 1 rfl).2.1, (g1.fact 1 rfl).2.2.1, (g1.fact 1 rfl).2.2.2.1⟩, (g1.fact 2 rfl).1, (g1.fact 2 rfl).2.1, (g1.fact 2 rfl).2.2.1, (g1.fact 2 rfl).2.2.2.1⟩
          clear hK K
          generalize World.alloc v0 (.cells #[.int .i64 0, .int .i64 0, .int .i64 0, .slice none 0 0] 32) = v1 at g1 hHeld ⊢
          try simp only [Act.put, List.setIfInBounds_toArray, List.set_cons_zero, List.set_cons_succ]
          refine wpAnyH_ready (rs := [8]) (by kernel_rfl) (by simp) ?_
          refine ready_cons rfl (fun K hK => ?_) AllReadyH.nil
          · go_simp
            have g2 := g1.box [.int .i64 0, .int .i64 0, .int .i64 0, .slice none 0 0] 32
            refine hK.out _ _ ?_ (fun hHeld => ?_)
            · exact ⟨⟨(g2.fact 2 rfl).1, (g2.fact 2 rfl).2.1, (g2.fact 2 rfl).2.2.1, (g2.fact 2 rfl).2.2.2.1⟩, (g2.fact 3 rfl).1, (g2.fact 3 rfl).2.1, (g2.fact 3 rfl).2.2.1, (g2.fact 3 rfl).2.2.2.1⟩
            clear hK K
            generalize World.alloc v1 (.cells #[.int .i64 0, .int .i64 0, .int .i64 0, .slice none 0 0] 32) = v2 at g2 hHeld ⊢
            try simp only [Act.put, List.setIfInBounds_toArray, List.set_cons_zero, List.set_cons_succ]
            obtain ⟨p0, p1, p2, p3⟩ := g2.box4 0 rfl
            have f0 := g2.free 0 rfl 0
            have f1 := g2.free 0 rfl 1
            have f2 := g2.free 0 rfl 2
            have f3 := g2.free 0 rfl 3
            have q1 := ((((g2.setBox 0 rfl 0 (.int .i64 p)).setBox 0 rfl 1 (.int .i64 s)).setBox 0 rfl 2 (.int .i64 s)).setBox 0 rfl 3 (.slice A9 D.length c9))
            refine wpAnyH_ready (rs := [10]) (by kernel_rfl) (by simp) ?_
            refine ready_cons rfl (fun K hK => ?_) AllReadyH.nil
            go_simp
            refine hK.out _ _ ?_ (fun hHeld => ?_)
            · exact ⟨⟨(q1.fact 2 rfl).1, (q1.fact 2 rfl).2.1, (q1.fact 2 rfl).2.2.1, (q1.fact 2 rfl).2.2.2.1⟩, (q1.fact 3 rfl).1, (q1.fact 3 rfl).2.1, (q1.fact 3 rfl).2.2.1, (q1.fact 3 rfl).2.2.2.1⟩
            clear hK K p0 p1 p2 p3 f0 f1 f2 f3
            try simp only [Act.put, List.setIfInBounds_toArray, List.set_cons_zero, List.set_cons_succ]
            refine wpAnyH_done (by kernel_rfl) ?_ _
            show wpList _ _ _ _ _ _
            simp only [List.drop_succ_cons, List.drop_zero]
            obtain ⟨r0, r1, r2, r3⟩ := q1.box4 1 rfl
            have e0 := q1.free 1 rfl 0
            have e1 := q1.free 1 rfl 1
            have e2 := q1.free 1 rfl 2
            have e3 := q1.free 1 rfl 3
            have q2 := ((((q1.setBox 1 rfl 0 (.int .i64 p)).setBox 1 rfl 1 (.int .i64 t2)).setBox 1 rfl 2 (.int .i64 t2)).setBox 1 rfl 3 (.slice A8 E.length c8))
            go_wp2_with fail
            go_meet
            exact ⟨_, _, rfl, rfl, q2⟩
      case rest =>
      clear h2
      obtain ⟨bx, by1, rfl, rfl, h2⟩ := hcut
      subst hOL
      obtain ⟨x0, x1, x2, x3⟩ := h2.box4 0 rfl
      obtain ⟨y0, y1, y2, y3⟩ := h2.box4 1 rfl
      obtain ⟨z0, z1, z2⟩ := h2.box3 7 rfl
      go_wp2_with fail
      refine (HZ.out _).mono ?_
      rintro (e : Ending) w1 ⟨u, rfl, ho, hb1⟩
      obtain ⟨A5, c5, rfl, _, _, _⟩ := id ho.ints
      rw [List.length_replicate] at ho ⊢
      have h3 := (h2.pushOwn hb1 ho).box [.int .i64 p, .int .i64 q, .int .i64 q, .slice A5 (q * q) c5] 32
      have HLb := Lib.hid (fun (i j i2 j2 : Nat) => (show (bTo s t2 D E i j i2 j2).length = q * q by rw [length_bTo, HQ.out]))
      rw [show List.replicate (q * q) 0 = bTo s t2 D E 0 0 0 0 by rw [bTo_zero, HQ.out]] at h3
      clear ho hb1 z0 z1 z2 x0 x2 x3 y0 y1 y2 y3 h2
      have x1 := (h3.box4 2 rfl).2.1
      go_wp2
      clear x1
      generalize w1.heap.size = B5 at h3 ⊢
      obtain ⟨OL, hOL, h3⟩ : ∃ OL, OL = _ ∧ St w _ (.box B5 [.int .i64 p, .int .i64 q, .int .i64 q, .slice A5 (q * q) c5] :: .own (.slice A5 (q * q) c5) (bTo s t2 D E 0 0 0 0) :: .box bx [.int .i64 p, .int .i64 s, .int .i64 s, .slice A9 D.length c9] :: .box by1 [.int .i64 p, .int .i64 t2, .int .i64 t2, .slice A8 E.length c8] :: OL) := ⟨_, rfl, h3⟩
      go_loopw [66] (fun va wr => ∃ r : Nat, va = .int .i64 r ∧ r ≤ s ∧ St w wr (.box B5 [.int .i64 p, .int .i64 q, .int .i64 q, .slice A5 (q * q) c5] :: .own (.slice A5 (q * q) c5) (bTo s t2 D E (r) 0 0 0) :: .box bx [.int .i64 p, .int .i64 s, .int .i64 s, .slice A9 D.length c9] :: .box by1 [.int .i64 p, .int .i64 t2, .int .i64 t2, .slice A8 E.length c8] :: OL)) (fun va _ => s - (intOf va).toNat)
      case atStart => exact ⟨0, rfl, by omega, h3⟩
      case round =>
        clear h3
        obtain ⟨r, rfl, a2, h3⟩ := hrel
        by_cases hr : r < s
        · obtain ⟨g, rfl, hn9⟩ := h3.ownSomeA 1 rfl (by rw [HLb.out]; have := HQ.out; have := Nat.mul_pos (show 0 < q by omega) (show 0 < q by omega); omega)
          have hqs := HQ.out
          have hb1 := row_bd (c := q) (show r < q by omega)
          have hcap : q * q ≤ c5 := (by
            obtain ⟨A', c', he, h9, _⟩ := h3.ownInts 1 rfl
            simp only [Value.slice.injEq] at he
            rw [HLb.out] at h9
            omega)
          obtain ⟨m1, m2, m3, m4⟩ := row_int (c := q) (show r < q by omega) (show q * q ≤ 900 by omega)
          have hw1 : IntKind.i64.wrap ((r : Int) * q) = (r : Int) * q := wrap_ok (by omega) (by omega)
          have hws : s * s ≤ 900 := mul_le (show s ≤ 30 by omega) (show s ≤ 30 by omega)
          obtain ⟨o1, o2, o3, o4⟩ := row_int (c := s) hr hws
          have hv1 : IntKind.i64.wrap ((r : Int) * s) = (r : Int) * s := wrap_ok (by omega) (by omega)
          have hv2 : IntKind.i64.wrap ((r : Int) + 1) = (r : Int) + 1 := wrap_ok (by omega) (by omega)
          have hv3 : IntKind.i64.wrap (((r : Int) + 1) * s) = ((r : Int) + 1) * s := wrap_ok (by omega) (by omega)
          subst hOL
          obtain ⟨A6, k6, hrun2, hA6⟩ := cutRow (h3.drew.fact 4 rfl).2.2.2.2.toB HDl.out hr
          obtain ⟨k7, hrun1⟩ := cutTail (g := g) hcap (show r * q < q * q by omega) (show (r : Int) * q = ((r * q : Nat) : Int) by simp)
          have HA6 := Lib.hid hA6.ints
          have HP := Lib.hid (show setPart (bTo s t2 D E r 0 0 0) (r * q) (rowM s D r) = bTo s t2 D E (r + 1) 0 0 0 by have h := bTo_part1 (t := t2) D E hr; rw [show s + t2 = q from hqs.symm] at h; exact h)
          have Hoff := Lib.hid (show r * q + s ≤ q * q ∧ s ≤ q * q - (r * q) by omega)
          clear hA6 hn9 hb1 hcap m1 m2 m3 m4 hqs hws
          go_upto_region 12 with fail
          have g0 := h3.drew
          refine wp_region_cut (S := fun w' => (w'.cell? ⟨B5, 0, none⟩ = some (.int .i64 p) ∧ w'.cell? ⟨B5, 1, none⟩ = some (.int .i64 q) ∧ w'.cell? ⟨B5, 2, none⟩ = some (.int .i64 q) ∧ w'.cell? ⟨B5, 3, none⟩ = some (.slice (some ⟨g, 0, none⟩) (q * q) c5)) ∧ (w'.cell? ⟨bx, 0, none⟩ = some (.int .i64 p) ∧ w'.cell? ⟨bx, 1, none⟩ = some (.int .i64 s) ∧ w'.cell? ⟨bx, 2, none⟩ = some (.int .i64 s) ∧ w'.cell? ⟨bx, 3, none⟩ = some (.slice A9 D.length c9))) 19 (by kernel_rfl) (by kernel_rfl) ⟨g0.box4 0 rfl, g0.box4 2 rfl⟩ (fun hHeld => ?_)
          simp only [List.take_succ_cons, List.take_zero]
          refine anyH_take (v := ?_) 0 rfl (by kernel_rfl) (by kernel_rfl) (by kernel_rfl) (fun _ _ _ h => h) rfl ?_ hHeld ?_
          rotate_left
          · intro w' hSw
            go_simp
            try with_reducible rfl
          try simp only [Act.put, List.setIfInBounds_toArray, List.set_cons_zero, List.set_cons_succ]
          refine anyH_take (v := ?_) 1 rfl (by kernel_rfl) (by kernel_rfl) (by kernel_rfl) (fun _ _ _ h => h) rfl ?_ hHeld ?_
          rotate_left
          · intro w' hSw
            go_simp
            try with_reducible rfl
          try simp only [Act.put, List.setIfInBounds_toArray, List.set_cons_zero, List.set_cons_succ]
          refine anyH_take (v := ?_) 2 rfl (by kernel_rfl) (by kernel_rfl) (by kernel_rfl) (fun _ _ _ h => h) rfl ?_ hHeld ?_
          rotate_left
          · intro w' hSw
            go_simp
            try with_reducible rfl
          try simp only [Act.put, List.setIfInBounds_toArray, List.set_cons_zero, List.set_cons_succ]
          refine anyH_take (v := ?_) 3 rfl (by kernel_rfl) (by kernel_rfl) (by kernel_rfl) (fun _ _ _ h => h) rfl ?_ hHeld ?_
          rotate_left
          · intro w' hSw
            go_simp
            try with_reducible rfl
          try simp only [Act.put, List.setIfInBounds_toArray, List.set_cons_zero, List.set_cons_succ]
          refine anyH_take (v := ?_) 4 rfl (by kernel_rfl) (by kernel_rfl) (by kernel_rfl) (fun _ _ _ h => h) rfl ?_ hHeld ?_
          rotate_left
          · intro w' hSw
            go_simp
            try with_reducible rfl
          try simp only [Act.put, List.setIfInBounds_toArray, List.set_cons_zero, List.set_cons_succ]
          refine anyH_take (v := ?_) 5 rfl (by kernel_rfl) (by kernel_rfl) (by kernel_rfl) (fun _ _ _ h => h) rfl ?_ hHeld ?_
          rotate_left
          · intro w' hSw
            go_simp
            try with_reducible rfl
          try simp only [Act.put, List.setIfInBounds_toArray, List.set_cons_zero, List.set_cons_succ]
          refine anyH_take (v := ?_) 6 rfl (by kernel_rfl) (by kernel_rfl) (by kernel_rfl) (fun _ _ _ h => h) rfl ?_ hHeld ?_
          rotate_left
          · intro w' hSw
            go_simp
            try with_reducible rfl
          try simp only [Act.put, List.setIfInBounds_toArray, List.set_cons_zero, List.set_cons_succ]
          refine anyH_take (v := ?_) 7 rfl (by kernel_rfl) (by kernel_rfl) (by kernel_rfl) (fun _ _ _ h => h) rfl ?_ hHeld ?_
          rotate_left
          · intro w' hSw
            go_simp
            try with_reducible rfl
          try simp only [Act.put, List.setIfInBounds_toArray, List.set_cons_zero, List.set_cons_succ]
          refine anyH_take (v := ?_) 8 rfl (by kernel_rfl) (by kernel_rfl) (by kernel_rfl) (fun _ _ _ h => h) rfl ?_ hHeld ?_
          rotate_left
          · intro w' hSw
            go_simp
            try with_reducible rfl
          try simp only [Act.put, List.setIfInBounds_toArray, List.set_cons_zero, List.set_cons_succ]
          refine anyH_take (v := ?_) 9 rfl (by kernel_rfl) (by kernel_rfl) (by kernel_rfl) (fun _ _ _ h => h) rfl ?_ hHeld ?_
          rotate_left
          · intro w' hSw
            go_simp
            try with_reducible rfl
          try simp only [Act.put, List.setIfInBounds_toArray, List.set_cons_zero, List.set_cons_succ]
          refine anyH_take (v := ?_) 10 rfl (by kernel_rfl) (by kernel_rfl) (by kernel_rfl) (fun _ _ _ h => h) rfl ?_ hHeld ?_
          rotate_left
          · intro w' hSw
            go_simp
            try with_reducible rfl
          try simp only [Act.put, List.setIfInBounds_toArray, List.set_cons_zero, List.set_cons_succ]
          refine anyH_take (v := ?_) 11 rfl (by kernel_rfl) (by kernel_rfl) (by kernel_rfl) (fun _ _ _ h => h) rfl ?_ hHeld ?_
          rotate_left
          · intro w' hSw
            go_simp
            try with_reducible rfl
          try simp only [Act.put, List.setIfInBounds_toArray, List.set_cons_zero, List.set_cons_succ]
          refine anyH_take (v := ?_) 12 rfl (by kernel_rfl) (by kernel_rfl) (by kernel_rfl) (fun _ _ _ h => h) rfl ?_ hHeld ?_
          rotate_left
          · intro w' hSw
            go_simp
            try with_reducible rfl
          try simp only [Act.put, List.setIfInBounds_toArray, List.set_cons_zero, List.set_cons_succ]
          refine anyH_take (v := ?_) 13 rfl (by kernel_rfl) (by kernel_rfl) (by kernel_rfl) (fun _ _ _ h => h) rfl ?_ hHeld ?_
          rotate_left
          · intro w' hSw
            go_simp
            try with_reducible rfl
          try simp only [Act.put, List.setIfInBounds_toArray, List.set_cons_zero, List.set_cons_succ]
          refine anyH_take (v := ?_) 14 rfl (by kernel_rfl) (by kernel_rfl) (by kernel_rfl) (fun _ _ _ h => h) rfl ?_ hHeld ?_
          rotate_left
          · intro w' hSw
            go_simp
            try with_reducible rfl
          try simp only [Act.put, List.setIfInBounds_toArray, List.set_cons_zero, List.set_cons_succ]
          refine anyH_take (v := ?_) 15 rfl (by kernel_rfl) (by kernel_rfl) (by kernel_rfl) (fun _ _ _ h => h) rfl ?_ hHeld ?_
          rotate_left
          · intro w' hSw
            go_simp
            try with_reducible rfl
          try simp only [Act.put, List.setIfInBounds_toArray, List.set_cons_zero, List.set_cons_succ]
          refine anyH_take (v := ?_) 16 rfl (by kernel_rfl) (by kernel_rfl) (by kernel_rfl) (fun _ _ _ h => h) rfl ?_ hHeld ?_
          rotate_left
          · intro w' hSw
            go_simp
            try with_reducible rfl
          try simp only [Act.put, List.setIfInBounds_toArray, List.set_cons_zero, List.set_cons_succ]
          refine anyH_take (v := ?_) 17 rfl (by kernel_rfl) (by kernel_rfl) (by kernel_rfl) (fun _ _ _ h => h) rfl ?_ hHeld ?_
          rotate_left
          · intro w' hSw
            go_simp
            try with_reducible rfl
          try simp only [Act.put, List.setIfInBounds_toArray, List.set_cons_zero, List.set_cons_succ]
          refine anyH_take (v := ?_) 18 rfl (by kernel_rfl) (by kernel_rfl) (by kernel_rfl) (fun _ _ _ h => h) rfl ?_ hHeld ?_
          rotate_left
          · intro w' hSw
            go_simp
            try with_reducible rfl
          try simp only [Act.put, List.setIfInBounds_toArray, List.set_cons_zero, List.set_cons_succ]
          refine wpAnyH_done (by kernel_rfl) ?_ _
          show wpList _ _ _ _ _ _
          simp only [List.drop_succ_cons, List.drop_zero]
          clear hHeld
          refine wp_copy_part rfl (.tmp 75) (.tmp 87) rfl g0 1 rfl (r * q) _ k7 A6 s k6 _ (length_rowM _ _ _) rfl rfl HA6.out (by omega) Hoff.out.2 (by rw [HLb.out]; exact Hoff.out.1) ?_
          intro w3 h4
          rw [HP.out] at h4
          clear h3 g0
          go_wp2
          go_roundw
          case rel => exact ⟨r + 1, by go_num, by omega, h4⟩
          case measure => simp [intOf]; omega
        · obtain rfl : s = r := by omega
          have y1 := (h3.box4 3 rfl).2.1
          go_wp2
          clear y1
          go_loopw [92] (fun va wr => ∃ r : Nat, va = .int .i64 r ∧ r ≤ t2 ∧ St w wr (.box B5 [.int .i64 p, .int .i64 q, .int .i64 q, .slice A5 (q * q) c5] :: .own (.slice A5 (q * q) c5) (bTo s t2 D E s 0 (r) 0) :: .box bx [.int .i64 p, .int .i64 s, .int .i64 s, .slice A9 D.length c9] :: .box by1 [.int .i64 p, .int .i64 t2, .int .i64 t2, .slice A8 E.length c8] :: OL)) (fun va _ => t2 - (intOf va).toNat)
          case atStart => exact ⟨0, rfl, by omega, h3⟩
          case round =>
            clear h3
            obtain ⟨r, rfl, a2, h3⟩ := hrel
            by_cases hr : r < t2
            · obtain ⟨g, rfl, hn9⟩ := h3.ownSomeA 1 rfl (by rw [HLb.out]; have := HQ.out; have := Nat.mul_pos (show 0 < q by omega) (show 0 < q by omega); omega)
              have hqs := HQ.out
              have hb1 := row_bd (c := q) (show (s + r) < q by omega)
              have hcap : q * q ≤ c5 := (by
                obtain ⟨A', c', he, h9, _⟩ := h3.ownInts 1 rfl
                simp only [Value.slice.injEq] at he
                rw [HLb.out] at h9
                omega)
              obtain ⟨m1, m2, m3, m4⟩ := row_int (c := q) (show (s + r) < q by omega) (show q * q ≤ 900 by omega)
              obtain ⟨sr, hsr⟩ : ∃ sr, sr = s + r := ⟨_, rfl⟩
              rw [← hsr] at m1 m2 m3 m4 hb1
              have ha0 : (s : Int) + r = (sr : Int) := by omega
              have hw0 : IntKind.i64.wrap ((sr : Nat) : Int) = sr := wrap_ok (by omega) (by omega)
              have hw1 : IntKind.i64.wrap ((sr : Int) * q) = (sr : Int) * q := wrap_ok (by omega) (by omega)
              have hw2 : IntKind.i64.wrap ((sr : Int) * q + s) = (sr : Int) * q + s := wrap_ok (by omega) (by omega)
              have hws : t2 * t2 ≤ 900 := mul_le (show t2 ≤ 30 by omega) (show t2 ≤ 30 by omega)
              obtain ⟨o1, o2, o3, o4⟩ := row_int (c := t2) hr hws
              have hv1 : IntKind.i64.wrap ((r : Int) * t2) = (r : Int) * t2 := wrap_ok (by omega) (by omega)
              have hv2 : IntKind.i64.wrap ((r : Int) + 1) = (r : Int) + 1 := wrap_ok (by omega) (by omega)
              have hv3 : IntKind.i64.wrap (((r : Int) + 1) * t2) = ((r : Int) + 1) * t2 := wrap_ok (by omega) (by omega)
              subst hOL
              obtain ⟨A6, k6, hrun2, hA6⟩ := cutRow (h3.drew.fact 5 rfl).2.2.2.2.toB HEl.out hr
              obtain ⟨k7, hrun1⟩ := cutTail (g := g) hcap (show sr * q + s < q * q by omega) (show (sr : Int) * q + s = ((sr * q + s : Nat) : Int) by simp)
              have HA6 := Lib.hid hA6.ints
              have HP := Lib.hid (show setPart (bTo s t2 D E s 0 r 0) (sr * q + s) (rowM t2 E r) = bTo s t2 D E s 0 (r + 1) 0 by have h := bTo_part2 (s := s) D E hr; rw [show s + t2 = q from hqs.symm, ← hsr] at h; exact h)
              have Hoff := Lib.hid (show sr * q + s + t2 ≤ q * q ∧ t2 ≤ q * q - (sr * q + s) by omega)
              clear hA6 hn9 hb1 hcap m1 m2 m3 m4 hqs hws hsr
              go_upto_region 17 with fail
              have g0 := h3.drew
              refine wp_region_cut (S := fun w' => (w'.cell? ⟨B5, 0, none⟩ = some (.int .i64 p) ∧ w'.cell? ⟨B5, 1, none⟩ = some (.int .i64 q) ∧ w'.cell? ⟨B5, 2, none⟩ = some (.int .i64 q) ∧ w'.cell? ⟨B5, 3, none⟩ = some (.slice (some ⟨g, 0, none⟩) (q * q) c5)) ∧ (w'.cell? ⟨bx, 0, none⟩ = some (.int .i64 p) ∧ w'.cell? ⟨bx, 1, none⟩ = some (.int .i64 s) ∧ w'.cell? ⟨bx, 2, none⟩ = some (.int .i64 s) ∧ w'.cell? ⟨bx, 3, none⟩ = some (.slice A9 D.length c9)) ∧ (w'.cell? ⟨by1, 0, none⟩ = some (.int .i64 p) ∧ w'.cell? ⟨by1, 1, none⟩ = some (.int .i64 t2) ∧ w'.cell? ⟨by1, 2, none⟩ = some (.int .i64 t2) ∧ w'.cell? ⟨by1, 3, none⟩ = some (.slice A8 E.length c8))) 25 (by kernel_rfl) (by kernel_rfl) ⟨g0.box4 0 rfl, g0.box4 2 rfl, g0.box4 3 rfl⟩ (fun hHeld => ?_)
              simp only [List.take_succ_cons, List.take_zero]
              refine anyH_take (v := ?_) 0 rfl (by kernel_rfl) (by kernel_rfl) (by kernel_rfl) (fun _ _ _ h => h) rfl ?_ hHeld ?_
              rotate_left
              · intro w' hSw
                go_simp
                try with_reducible rfl
              try simp only [Act.put, List.setIfInBounds_toArray, List.set_cons_zero, List.set_cons_succ]
              refine anyH_take (v := ?_) 1 rfl (by kernel_rfl) (by kernel_rfl) (by kernel_rfl) (fun _ _ _ h => h) rfl ?_ hHeld ?_
              rotate_left
              · intro w' hSw
                go_simp
                try with_reducible rfl
              try simp only [Act.put, List.setIfInBounds_toArray, List.set_cons_zero, List.set_cons_succ]
              refine anyH_take (v := ?_) 2 rfl (by kernel_rfl) (by kernel_rfl) (by kernel_rfl) (fun _ _ _ h => h) rfl ?_ hHeld ?_
              rotate_left
              · intro w' hSw
                go_simp
                try with_reducible rfl
              try simp only [Act.put, List.setIfInBounds_toArray, List.set_cons_zero, List.set_cons_succ]
              refine anyH_take (v := ?_) 3 rfl (by kernel_rfl) (by kernel_rfl) (by kernel_rfl) (fun _ _ _ h => h) rfl ?_ hHeld ?_
              rotate_left
              · intro w' hSw
                go_simp
                try with_reducible rfl
              try simp only [Act.put, List.setIfInBounds_toArray, List.set_cons_zero, List.set_cons_succ]
              refine anyH_take (v := ?_) 4 rfl (by kernel_rfl) (by kernel_rfl) (by kernel_rfl) (fun _ _ _ h => h) rfl ?_ hHeld ?_
              rotate_left
              · intro w' hSw
                go_simp
                try with_reducible rfl
              try simp only [Act.put, List.setIfInBounds_toArray, List.set_cons_zero, List.set_cons_succ]
              refine anyH_take (v := ?_) 5 rfl (by kernel_rfl) (by kernel_rfl) (by kernel_rfl) (fun _ _ _ h => h) rfl ?_ hHeld ?_
              rotate_left
              · intro w' hSw
                go_simp
                try with_reducible rfl
              try simp only [Act.put, List.setIfInBounds_toArray, List.set_cons_zero, List.set_cons_succ]
              refine anyH_take (v := ?_) 6 rfl (by kernel_rfl) (by kernel_rfl) (by kernel_rfl) (fun _ _ _ h => h) rfl ?_ hHeld ?_
              rotate_left
              · intro w' hSw
                go_simp
                try with_reducible rfl
              try simp only [Act.put, List.setIfInBounds_toArray, List.set_cons_zero, List.set_cons_succ]
              refine anyH_take (v := ?_) 7 rfl (by kernel_rfl) (by kernel_rfl) (by kernel_rfl) (fun _ _ _ h => h) rfl ?_ hHeld ?_
              rotate_left
              · intro w' hSw
                go_simp
                try with_reducible rfl
              try simp only [Act.put, List.setIfInBounds_toArray, List.set_cons_zero, List.set_cons_succ]
              refine anyH_take (v := ?_) 8 rfl (by kernel_rfl) (by kernel_rfl) (by kernel_rfl) (fun _ _ _ h => h) rfl ?_ hHeld ?_
              rotate_left
              · intro w' hSw
                go_simp
                try with_reducible rfl
              try simp only [Act.put, List.setIfInBounds_toArray, List.set_cons_zero, List.set_cons_succ]
              refine anyH_take (v := ?_) 9 rfl (by kernel_rfl) (by kernel_rfl) (by kernel_rfl) (fun _ _ _ h => h) rfl ?_ hHeld ?_
              rotate_left
              · intro w' hSw
                go_simp
                try with_reducible rfl
              try simp only [Act.put, List.setIfInBounds_toArray, List.set_cons_zero, List.set_cons_succ]
              refine anyH_take (v := ?_) 10 rfl (by kernel_rfl) (by kernel_rfl) (by kernel_rfl) (fun _ _ _ h => h) rfl ?_ hHeld ?_
              rotate_left
              · intro w' hSw
                go_simp
                try with_reducible rfl
              try simp only [Act.put, List.setIfInBounds_toArray, List.set_cons_zero, List.set_cons_succ]
              refine anyH_take (v := ?_) 11 rfl (by kernel_rfl) (by kernel_rfl) (by kernel_rfl) (fun _ _ _ h => h) rfl ?_ hHeld ?_
              rotate_left
              · intro w' hSw
                go_simp
                try with_reducible rfl
              try simp only [Act.put, List.setIfInBounds_toArray, List.set_cons_zero, List.set_cons_succ]
              refine anyH_take (v := ?_) 12 rfl (by kernel_rfl) (by kernel_rfl) (by kernel_rfl) (fun _ _ _ h => h) rfl ?_ hHeld ?_
              rotate_left
              · intro w' hSw
                go_simp
                try with_reducible rfl
              try simp only [Act.put, List.setIfInBounds_toArray, List.set_cons_zero, List.set_cons_succ]
              refine anyH_take (v := ?_) 13 rfl (by kernel_rfl) (by kernel_rfl) (by kernel_rfl) (fun _ _ _ h => h) rfl ?_ hHeld ?_
              rotate_left
              · intro w' hSw
                go_simp
                try with_reducible rfl
              try simp only [Act.put, List.setIfInBounds_toArray, List.set_cons_zero, List.set_cons_succ]
              refine anyH_take (v := ?_) 14 rfl (by kernel_rfl) (by kernel_rfl) (by kernel_rfl) (fun _ _ _ h => h) rfl ?_ hHeld ?_
              rotate_left
              · intro w' hSw
                go_simp
                try with_reducible rfl
              try simp only [Act.put, List.setIfInBounds_toArray, List.set_cons_zero, List.set_cons_succ]
              refine anyH_take (v := ?_) 15 rfl (by kernel_rfl) (by kernel_rfl) (by kernel_rfl) (fun _ _ _ h => h) rfl ?_ hHeld ?_
              rotate_left
              · intro w' hSw
                go_simp
                try with_reducible rfl
              try simp only [Act.put, List.setIfInBounds_toArray, List.set_cons_zero, List.set_cons_succ]
              refine anyH_take (v := ?_) 16 rfl (by kernel_rfl) (by kernel_rfl) (by kernel_rfl) (fun _ _ _ h => h) rfl ?_ hHeld ?_
              rotate_left
              · intro w' hSw
                go_simp
                try with_reducible rfl
              try simp only [Act.put, List.setIfInBounds_toArray, List.set_cons_zero, List.set_cons_succ]
              refine anyH_take (v := ?_) 17 rfl (by kernel_rfl) (by kernel_rfl) (by kernel_rfl) (fun _ _ _ h => h) rfl ?_ hHeld ?_
              rotate_left
              · intro w' hSw
                go_simp
                try with_reducible rfl
              try simp only [Act.put, List.setIfInBounds_toArray, List.set_cons_zero, List.set_cons_succ]
              refine anyH_take (v := ?_) 18 rfl (by kernel_rfl) (by kernel_rfl) (by kernel_rfl) (fun _ _ _ h => h) rfl ?_ hHeld ?_
              rotate_left
              · intro w' hSw
                go_simp
                try with_reducible rfl
              try simp only [Act.put, List.setIfInBounds_toArray, List.set_cons_zero, List.set_cons_succ]
              refine anyH_take (v := ?_) 19 rfl (by kernel_rfl) (by kernel_rfl) (by kernel_rfl) (fun _ _ _ h => h) rfl ?_ hHeld ?_
              rotate_left
              · intro w' hSw
                go_simp
                try with_reducible rfl
              try simp only [Act.put, List.setIfInBounds_toArray, List.set_cons_zero, List.set_cons_succ]
              refine anyH_take (v := ?_) 20 rfl (by kernel_rfl) (by kernel_rfl) (by kernel_rfl) (fun _ _ _ h => h) rfl ?_ hHeld ?_
              rotate_left
              · intro w' hSw
                go_simp
                try with_reducible rfl
              try simp only [Act.put, List.setIfInBounds_toArray, List.set_cons_zero, List.set_cons_succ]
              refine anyH_take (v := ?_) 21 rfl (by kernel_rfl) (by kernel_rfl) (by kernel_rfl) (fun _ _ _ h => h) rfl ?_ hHeld ?_
              rotate_left
              · intro w' hSw
                go_simp
                try with_reducible rfl
              try simp only [Act.put, List.setIfInBounds_toArray, List.set_cons_zero, List.set_cons_succ]
              refine anyH_take (v := ?_) 22 rfl (by kernel_rfl) (by kernel_rfl) (by kernel_rfl) (fun _ _ _ h => h) rfl ?_ hHeld ?_
              rotate_left
              · intro w' hSw
                go_simp
                try with_reducible rfl
              try simp only [Act.put, List.setIfInBounds_toArray, List.set_cons_zero, List.set_cons_succ]
              refine anyH_take (v := ?_) 23 rfl (by kernel_rfl) (by kernel_rfl) (by kernel_rfl) (fun _ _ _ h => h) rfl ?_ hHeld ?_
              rotate_left
              · intro w' hSw
                go_simp
                try with_reducible rfl
              try simp only [Act.put, List.setIfInBounds_toArray, List.set_cons_zero, List.set_cons_succ]
              refine anyH_take (v := ?_) 24 rfl (by kernel_rfl) (by kernel_rfl) (by kernel_rfl) (fun _ _ _ h => h) rfl ?_ hHeld ?_
              rotate_left
              · intro w' hSw
                go_simp
                try with_reducible rfl
              try simp only [Act.put, List.setIfInBounds_toArray, List.set_cons_zero, List.set_cons_succ]
              refine wpAnyH_done (by kernel_rfl) ?_ _
              show wpList _ _ _ _ _ _
              simp only [List.drop_succ_cons, List.drop_zero]
              clear hHeld
              refine wp_copy_part rfl (.tmp 107) (.tmp 119) rfl g0 1 rfl (sr * q + s) _ k7 A6 t2 k6 _ (length_rowM _ _ _) rfl rfl HA6.out (by omega) Hoff.out.2 (by rw [HLb.out]; exact Hoff.out.1) ?_
              intro w3 h4
              rw [HP.out] at h4
              clear h3 g0
              go_wp2
              go_roundw
              case rel => exact ⟨r + 1, by go_num, by omega, h4⟩
              case measure => simp [intOf]; omega
            · obtain rfl : t2 = r := by omega
              have h4 := h3.swap2
              subst hOL
              obtain ⟨z0, z1, z2, z3⟩ := h4.box4 1 rfl
              go_wp2_with (at_builtin; refine wp_append_mat rfl (.tmp 122) (.tmp 124) rfl ⟨p, q, q, bD _ _ D E⟩ h4 5 rfl Hlu.out rfl rfl Hl1.out ?_; intro v1 w6 h6)
              go_roundw
              case rel => exact ⟨i + 1, us ++ [_], by go_num, by omega, by show _ = _; rw [List.length_append, Hul.out]; rfl, by rw [HSt.out]; exact h6.drop 5⟩
              case measure => simp [intOf]; omega
    · obtain rfl : i = N := by omega
      rw [List.take_of_length_le (by rw [length_smL]; exact Nat.le_refl _), HR.out] at h1
      have iN : ¬ ((i : Int) < (ms.length : Int)) := by rw [HLn.out]; omega
      have hul2 : us.length = (smMs p n T ms ns).length := by rw [← HR.out, length_smL, Hul.out]
      have HU2 := Lib.hid hul2
      clear hul2
      obtain ⟨A4, c4, rfl, _, _, _⟩ := id (h1.mats 0 rfl HU2.out)
      go_wp2
      refine bodyPost_ret (v := .tuple #[.slice A4 (smMs p n T ms ns).length c4, .bool true]) (by simp [results, Try.results40, go_sem]) rfl ⟨_, us, rfl, HU2.out, h1.at 0 rfl, h1.vecNodup 0 rfl, h1.below⟩
end Go.Proofs.Ytphnlmgliaelpaa
