import Derived.Test.YtbnefjhljfbecaaGreatDoorW03
namespace Go.Proofs.YtbnefjhljfbecaaGreatDoor
set_option maxRecDepth 100000
namespace Car
theorem getD_app (o s : List Nat) (a : Nat) : (o ++ s).getD a 0 = if a < o.length then o.getD a 0 else s.getD (a - o.length) 0 := by
 simp only [List.getD]
 split
 ·rename_i h; rw [List.getElem?_append_left h]
 ·rename_i h; rw [List.getElem?_append_right (by omega)]
def cntOk (n : Nat) : Bool := (orders n (n + 1)).isEmpty && (List.range n).all fun f => (orders n f).all fun o => !(List.range n).all fun i => o.contains i
theorem len_le {n : Nat} (h1 : 1 ≤ n) (h4 : n ≤ 4) {o : List Nat} (hb : ∀ x, x ∈ o → x < n) (hn : o.Nodup) : o.length ≤ n := by
 rcases Nat.lt_or_ge n o.length with h | h
 ·exfalso
  have hm := orders_mem n o hb hn (n + 1) (by omega)
  have : n = 1 ∨ n = 2 ∨ n = 3 ∨ n = 4 := by omega
  have he : orders n (n + 1) = [] := by rcases this with rfl | rfl | rfl | rfl <;> decide +kernel
  rw [he] at hm
  exact absurd hm (by simp)
 ·exact h
theorem len_eq {n : Nat} (h1 : 1 ≤ n) (h4 : n ≤ 4) {o : List Nat} (hb : ∀ x, x ∈ o → x < n) (hn : o.Nodup) (ha : ∀ i, i < n → i ∈ o) : o.length = n := by
 have hl := len_le h1 h4 hb hn
 rcases Nat.lt_or_ge o.length n with h | h
 ·exfalso
  have hm := orders_mem n o hb hn o.length (Nat.le_refl _)
  rw [List.take_length] at hm
  have : n = 1 ∨ n = 2 ∨ n = 3 ∨ n = 4 := by omega
  have hc : cntOk n = true := by rcases this with rfl | rfl | rfl | rfl <;> decide +kernel
  unfold cntOk at hc
  rw [Bool.and_eq_true] at hc
  have h5 := List.all_eq_true.1 (List.all_eq_true.1 hc.2 _ (List.mem_range.2 h)) o hm
  have h6 : ((List.range n).all fun i => o.contains i) = true := List.all_eq_true.2 fun i hi => by simpa using ha i (List.mem_range.1 hi)
  rw [h6] at h5
  exact absurd h5 (by decide)
 ·omega
theorem growL (n : Nat) (D : List Int) (x : Nat) : ∀ (js out : List Nat), let g := js.foldl (fun o j => if en n D x j ≠ 0 ∧ j ∉ o then o ++ [j] else o) out
  (∃ t, g = out ++ t) ∧ (out.Nodup → g.Nodup) ∧ (∀ y, y ∈ g → y ∈ out ∨ (y ∈ js ∧ en n D x y ≠ 0)) ∧ (∀ j, j ∈ js → en n D x j ≠ 0 → j ∈ g) := by
 intro js
 induction js with
 | nil => intro out; exact ⟨⟨[], by simp⟩, id, fun y h => .inl h, fun j h => absurd h (by simp)⟩
 | cons j js ih =>
  intro out
  show let g := js.foldl (fun o j => if en n D x j ≠ 0 ∧ j ∉ o then o ++ [j] else o) (if en n D x j ≠ 0 ∧ j ∉ out then out ++ [j] else out)
   (∃ t, g = out ++ t) ∧ (out.Nodup → g.Nodup) ∧ (∀ y, y ∈ g → y ∈ out ∨ (y ∈ j :: js ∧ en n D x y ≠ 0)) ∧ (∀ i, i ∈ j :: js → en n D x i ≠ 0 → i ∈ g)
  by_cases h : en n D x j ≠ 0 ∧ j ∉ out
  ·rw [if_pos h]
   obtain ⟨⟨t, ht⟩, h2, h3, h4⟩ := ih (out ++ [j])
   refine ⟨⟨j :: t, by rw [ht, List.append_assoc]; rfl⟩, fun hn => h2 ?_, fun y hy => ?_, fun i hi he => ?_⟩
   ·rw [List.nodup_append]
    exact ⟨hn, by simp, fun a ha b hb => by rw [List.mem_singleton.1 hb]; exact fun e => h.2 (e ▸ ha)⟩
   ·rcases h3 y hy with hy | hy
    ·rcases List.mem_append.1 hy with hy | hy
     ·exact .inl hy
     ·rw [List.mem_singleton.1 hy]; exact .inr ⟨by simp, h.1⟩
    ·exact .inr ⟨by simp [hy.1], hy.2⟩
   ·rcases List.mem_cons.1 hi with rfl | hi
    ·rw [ht]; simp
    ·exact h4 i hi he
  ·rw [if_neg h]
   obtain ⟨⟨t, ht⟩, h2, h3, h4⟩ := ih out
   refine ⟨⟨t, ht⟩, h2, fun y hy => ?_, fun i hi he => ?_⟩
   ·rcases h3 y hy with hy | hy
    ·exact .inl hy
    ·exact .inr ⟨by simp [hy.1], hy.2⟩
   ·rcases List.mem_cons.1 hi with rfl | hi
    ·have : i ∈ out := Classical.byContradiction fun hc => h ⟨he, hc⟩
     rw [ht]; simp [this]
    ·exact h4 i hi he
def PartOk (n : Nat) (D : List Int) (P : Nat → Prop) (c : List Nat) : Prop := c.Nodup ∧ (∀ y, y ∈ c → y < n ∧ P y) ∧ ∀ x, x ∈ c → ∀ j, j < n → en n D x j ≠ 0 → j ∈ c
theorem partF_ok {n : Nat} (h1 : 1 ≤ n) (h4 : n ≤ 4) (D : List Int) (P : Nat → Prop) (hP : ∀ x y, x < n → y < n → P x → en n D x y ≠ 0 → P y) : ∀ (f k : Nat) (out : List Nat), n ≤ f + k → out.Nodup → (∀ y, y ∈ out → y < n ∧ P y) → k ≤ out.length → (∀ i, i < k → ∀ j, j < n → en n D (out.getD i 0) j ≠ 0 → j ∈ out) →
  PartOk n D P (partF n D f k out) ∧ ∃ t, partF n D f k out = out ++ t := by
 intro f
 induction f with
 | zero =>
  intro k out hf hn hb hk hc
  have hl := len_le h1 h4 (fun x hx => (hb x hx).1) hn
  show PartOk n D P out ∧ ∃ t, out = out ++ t
  refine ⟨⟨hn, hb, fun x hx j hj he => ?_⟩, [], by simp⟩
  obtain ⟨i, hi, rfl⟩ := List.getElem_of_mem hx
  refine hc i (by omega) j hj ?_
  rw [List.getD_eq_getElem?_getD, List.getElem?_eq_getElem hi]; exact he
 | succ f ih =>
  intro k out hf hn hb hk hc
  unfold partF
  by_cases h : k < out.length
  ·rw [if_pos h]
   obtain ⟨⟨t, ht⟩, g2, g3, g4⟩ := growL n D (out.getD k 0) (List.range n) out
   have hx := hb (out.getD k 0) (by rw [List.getD_eq_getElem?_getD, List.getElem?_eq_getElem h]; exact List.getElem_mem h)
   have hg : grow n D (out.getD k 0) out = out ++ t := ht
   obtain ⟨a, t2, ht2⟩ := ih (k + 1) (grow n D (out.getD k 0) out) (by omega) (g2 hn) (fun y hy => by
    rcases g3 y hy with hy | ⟨hy, he⟩
    ·exact hb y hy
    ·exact ⟨List.mem_range.1 hy, hP _ _ hx.1 (List.mem_range.1 hy) hx.2 he⟩) (by rw [hg, List.length_append]; omega) (fun i hi j hj he => by
    have e : (grow n D (out.getD k 0) out).getD i 0 = out.getD i 0 := by rw [hg, getD_app, if_pos (by omega)]
    rw [e] at he
    by_cases hik : i < k
    ·rw [hg]; exact List.mem_append.2 (.inl (hc i hik j hj he))
    ·have : i = k := by omega
     subst this
     exact g4 j (List.mem_range.2 hj) he)
   exact ⟨a, t ++ t2, by rw [ht2, hg, List.append_assoc]⟩
  ·rw [if_neg h]
   refine ⟨⟨hn, hb, fun x hx j hj he => ?_⟩, [], by simp⟩
   obtain ⟨i, hi, rfl⟩ := List.getElem_of_mem hx
   refine hc i (by omega) j hj ?_
   rw [List.getD_eq_getElem?_getD, List.getElem?_eq_getElem hi]; exact he
theorem part_ok {n : Nat} (h1 : 1 ≤ n) (h4 : n ≤ 4) (D : List Int) (P : Nat → Prop) (hP : ∀ x y, x < n → y < n → P x → en n D x y ≠ 0 → P y) {i : Nat} (hi : i < n) (hPi : P i) : PartOk n D P (part n D i) ∧ i ∈ part n D i := by
 obtain ⟨a, t, ht⟩ := partF_ok h1 h4 D P hP n 0 [i] (by omega) (by simp) (fun y hy => by rw [List.mem_singleton.1 hy]; exact ⟨hi, hPi⟩) (by simp) (fun k hk => absurd hk (by omega))
 exact ⟨a, by unfold part; rw [ht]; simp⟩
theorem fnd_some {n : Nat} {D : List Int} {rows : List Nat} {k : Nat} (h : fnd n D rows = some k) : k < 12 ∧ rk k = rows.length ∧ bt n D (rk k) (mx k) rows (rk k) [] = true := by
 have hg : ∀ (ks : List Nat) (o : Option Nat), ks.foldl (fun o k => if rk k = rows.length ∧ bt n D (rk k) (mx k) rows (rk k) [] = true then some k else o) o = some k → o = some k ∨ (k ∈ ks ∧ rk k = rows.length ∧ bt n D (rk k) (mx k) rows (rk k) [] = true) := by
  intro ks
  induction ks with
  | nil => intro o h; exact .inl h
  | cons q ks ih =>
   intro o h
   rw [List.foldl_cons] at h
   rcases ih _ h with h' | h'
   ·split at h'
    ·rename_i hq
     rw [← Option.some.inj h']
     exact .inr ⟨by simp, hq⟩
    ·exact .inl h'
   ·exact .inr ⟨by simp [h'.1], h'.2⟩
 rcases hg _ _ h with h | h
 ·exact absurd h (by simp)
 ·exact ⟨List.mem_range.1 h.1, h.2⟩
def insP (p : Nat × List Nat) : List (Nat × List Nat) → List (Nat × List Nat)
 | [] => [p]
 | x :: xs => if p.1 < x.1 then p :: x :: xs else x :: insP p xs
theorem insP_fst (p : Nat × List Nat) : ∀ L, (insP p L).map Prod.fst = ins p.1 (L.map Prod.fst)
 | [] => rfl
 | x :: xs => by
  rw [List.map_cons]
  unfold insP ins
  split
  ·rfl
  ·rw [List.map_cons, insP_fst p xs]
theorem insP_perm (p : Nat × List Nat) : ∀ L, (insP p L).Perm (p :: L)
 | [] => .refl _
 | x :: xs => by
  unfold insP
  split
  ·exact .refl _
  ·exact (List.Perm.cons x (insP_perm p xs)).trans (.swap p x xs)
theorem ins_sorted (k : Nat) : ∀ l : List Nat, l.Pairwise (· ≤ ·) → (ins k l).Pairwise (· ≤ ·)
 | [], _ => by simp [ins]
 | x :: xs, h => by
  rw [List.pairwise_cons] at h
  unfold ins
  split
  ·rename_i hk
   rw [List.pairwise_cons, List.pairwise_cons]
   refine ⟨fun y hy => ?_, h⟩
   rcases List.mem_cons.1 hy with rfl | hy
   ·omega
   ·have := h.1 y hy; omega
  ·rename_i hk
   rw [List.pairwise_cons]
   refine ⟨fun y hy => ?_, ins_sorted k xs h.2⟩
   have hm : ∀ l : List Nat, y ∈ ins k l → y = k ∨ y ∈ l := by
    intro l
    induction l with
    | nil => intro h; exact .inl (by simpa [ins] using h)
    | cons z zs ih =>
     intro h
     unfold ins at h
     split at h
     ·simpa using h
     ·rcases List.mem_cons.1 h with rfl | h
      ·exact .inr (by simp)
      ·rcases ih h with h | h
       ·exact .inl h
       ·exact .inr (by simp [h])
   rcases hm xs hy with rfl | hy
   ·omega
   ·exact h.1 y hy
def Cross (n : Nat) (D : List Int) (p q : Nat × List Nat) : Prop := ∀ x, x ∈ p.2 → ∀ y, y ∈ q.2 → en n D x y = 0 ∧ en n D y x = 0
def One (n : Nat) (D : List Int) (p : Nat × List Nat) : Prop := p.1 < 12 ∧ p.2.length = rk p.1 ∧ ∀ a b, a < rk p.1 → b < rk p.1 → en n D (p.2.getD a 0) (p.2.getD b 0) = en (rk p.1) (mx p.1) a b
def sg (L : List (Nat × List Nat)) : List Nat := L.flatMap Prod.snd
theorem getD_mem {o : List Nat} {a : Nat} (h : a < o.length) : o.getD a 0 ∈ o := by
 rw [List.getD_eq_getElem?_getD, List.getElem?_eq_getElem h]; exact List.getElem_mem h
theorem dE_fit (n : Nat) (D : List Int) : ∀ L : List (Nat × List Nat), (∀ p, p ∈ L → One n D p) → L.Pairwise (Cross n D) → ∀ a b, a < (sg L).length → b < (sg L).length → en n D ((sg L).getD a 0) ((sg L).getD b 0) = dE (L.map Prod.fst) a b
 | [], _, _, a, b, h, _ => absurd h (by simp [sg])
 | p :: L, h1, h2, a, b, ha, hb => by
  have ih := dE_fit n D L (fun q hq => h1 q (by simp [hq])) (List.pairwise_cons.1 h2).2
  obtain ⟨_, hl, he⟩ := h1 p (by simp)
  have hx := (List.pairwise_cons.1 h2).1
  have hs : sg (p :: L) = p.2 ++ sg L := by unfold sg; rw [List.flatMap_cons]
  have hz : ∀ i j, i < p.2.length → j < (sg L).length → en n D (p.2.getD i 0) ((sg L).getD j 0) = 0 ∧ en n D ((sg L).getD j 0) (p.2.getD i 0) = 0 := by
   intro i j hi hj
   obtain ⟨q, hq, hy⟩ := List.mem_flatMap.1 (getD_mem hj)
   exact hx q hq _ (getD_mem hi) _ hy
  rw [hs, List.length_append] at ha hb
  rw [hs, getD_app, getD_app, List.map_cons]
  unfold dE
  rw [← hl]
  by_cases ca : a < p.2.length
  ·by_cases cb : b < p.2.length
   ·rw [if_pos ca, if_pos cb, if_pos ca, if_pos cb]
    rw [hl] at ca cb ⊢
    exact he a b ca cb
   ·rw [if_pos ca, if_neg cb, if_pos ca, if_neg cb]
    exact (hz a _ ca (by omega)).1
  ·by_cases cb : b < p.2.length
   ·rw [if_neg ca, if_pos cb, if_neg ca, if_pos cb]
    exact (hz b _ cb (by omega)).2
   ·rw [if_neg ca, if_neg cb, if_neg ca, if_neg cb]
    exact ih _ _ (by omega) (by omega)
def sumR (t : List Nat) : Nat := (t.map rk).sum
theorem rk_pos {k : Nat} (h : k < 12) : 1 ≤ rk k ∧ rk k ≤ 4 := by
 have hd : ((List.range 12).all fun k => decide (1 ≤ rk k ∧ rk k ≤ 4)) = true := by decide +kernel
 exact of_decide_eq_true (List.all_eq_true.1 hd k (List.mem_range.2 h))
theorem tyL_mem : ∀ (t : List Nat) (f from_ : Nat), t.Pairwise (· ≤ ·) → (∀ k, k ∈ t → from_ ≤ k ∧ k < 12) → sumR t < f → t ∈ tyL f (sumR t) from_ := by
 intro t
 induction t with
 | nil =>
  intro f from_ _ _ hf
  obtain ⟨f, rfl⟩ : ∃ g, f = g + 1 := ⟨f - 1, by omega⟩
  show ([] : List Nat) ∈ [[]]
  simp
 | cons k t ih =>
  intro f from_ hs hb hf
  obtain ⟨f, rfl⟩ : ∃ g, f = g + 1 := ⟨f - 1, by omega⟩
  obtain ⟨hk1, hk2⟩ := hb k (by simp)
  have hr := rk_pos hk2
  have e : sumR (k :: t) = rk k + sumR t := by unfold sumR; rw [List.map_cons, List.sum_cons]
  obtain ⟨r, her⟩ : ∃ r, sumR (k :: t) = r + 1 := ⟨sumR (k :: t) - 1, by omega⟩
  rw [her]
  unfold tyL
  refine List.mem_flatMap.2 ⟨k, List.mem_range'.2 ⟨k - from_, by omega, by omega⟩, ?_⟩
  rw [if_pos (by omega)]
  refine List.mem_map.2 ⟨t, ?_, rfl⟩
  rw [show r + 1 - rk k = sumR t from by omega]
  exact ih f k (List.pairwise_cons.1 hs).2 (fun q hq => ⟨(List.pairwise_cons.1 hs).1 q hq, (hb q (by simp [hq])).2⟩) (by omega)
theorem sumR_sg (n : Nat) (D : List Int) : ∀ L : List (Nat × List Nat), (∀ p, p ∈ L → One n D p) → sumR (L.map Prod.fst) = (sg L).length
 | [], _ => rfl
 | p :: L, h => by
  have ih := sumR_sg n D L fun q hq => h q (by simp [hq])
  have hs : sg (p :: L) = p.2 ++ sg L := by unfold sg; rw [List.flatMap_cons]
  rw [hs, List.length_append, (h p (by simp)).2.1, ← ih]
  unfold sumR
  rw [List.map_cons, List.map_cons, List.sum_cons]
theorem sub_len : ∀ {l m : List Nat}, l.Nodup → (∀ x, x ∈ l → x ∈ m) → l.length ≤ m.length := by
 intro l
 induction l with
 | nil => intro m _ _; exact Nat.zero_le _
 | cons x l ih =>
  intro m hn hs
  rw [List.nodup_cons] at hn
  have hx := hs x (by simp)
  have := ih (m := m.erase x) hn.2 (fun y hy => by
   have hyx : y ≠ x := fun e => hn.1 (e ▸ hy)
   exact (List.mem_erase_of_ne hyx).2 (hs y (by simp [hy])))
  rw [List.length_erase_of_mem hx] at this
  have h0 : 0 < m.length := List.length_pos_of_mem hx
  rw [List.length_cons]
  omega
def PInv (n : Nat) (D : List Int) (i : Nat) (out done : List Nat) (L : List (Nat × List Nat)) : Prop :=
 out = L.map Prod.fst ∧ out.Pairwise (· ≤ ·) ∧ (∀ p, p ∈ L → One n D p) ∧ L.Pairwise (Cross n D) ∧ (sg L).Nodup ∧ (∀ x, x ∈ sg L ↔ x ∈ done) ∧ (∀ x, x ∈ done → x < n) ∧ (∀ x, x ∈ done → ∀ j, j < n → en n D x j ≠ 0 → j ∈ done) ∧ ∀ j, j < i → j ∈ done
theorem partsF_ok {n : Nat} (h1 : 1 ≤ n) (h4 : n ≤ 4) {D : List Int} (hsym : ∀ i j, i < n → j < n → en n D i j ≠ 0 → en n D j i ≠ 0) : ∀ (f i : Nat) (out done : List Nat) (L : List (Nat × List Nat)) (res : List Nat), f + i = n → PInv n D i out done L → partsF n D f i out done = some res → ∃ done' L', PInv n D n res done' L' := by
 intro f
 induction f with
 | zero =>
  intro i out done L res hf hI h
  obtain rfl : i = n := by omega
  have : out = res := Option.some.inj h
  exact ⟨done, L, this ▸ hI⟩
 | succ f ih =>
  intro i out done L res hf hI h
  unfold partsF at h
  obtain ⟨e1, e2, e3, e4, e5, e6, e7, e8, e9⟩ := hI
  by_cases hd : i ∈ done
  ·rw [if_pos hd] at h
   refine ih (i + 1) out done L res (by omega) ⟨e1, e2, e3, e4, e5, e6, e7, e8, fun j hj => ?_⟩ h
   by_cases hji : j < i
   ·exact e9 j hji
   ·have : j = i := by omega
    rw [this]; exact hd
  ·rw [if_neg hd] at h
   cases hfd : fnd n D (part n D i) with
   | none => rw [hfd] at h; exact absurd h (by simp)
   | some k =>
    rw [hfd] at h
    have h : partsF n D f (i + 1) (ins k out) (done ++ part n D i) = some res := h
    obtain ⟨k1, k2, k3⟩ := fnd_some hfd
    obtain ⟨⟨q1, q2, q3⟩, q4⟩ := part_ok h1 h4 D (fun x => x ∉ done) (fun x y hx hy hP he hc => hP (e8 y hc x hx (hsym x y hx hy he))) (show i < n by omega) hd
    obtain ⟨o, o1, o2, o3, o4⟩ := (bt_iff _ _ _ _ _).1 k3
    have omem : ∀ x, x ∈ o ↔ x ∈ part n D i := by
     intro x
     refine ⟨o2 x, fun hx => ?_⟩
     have hsub : o ⊆ part n D i := fun y hy => o2 y hy
     have hlen : (part n D i).length ≤ o.length := by omega
     exact Classical.byContradiction fun hc => by
      have h9 : (x :: o).Nodup := List.nodup_cons.2 ⟨hc, o3⟩
      have h10 := sub_len h9 (m := part n D i) (fun y hy => by
       rcases List.mem_cons.1 hy with rfl | hy
       ·exact hx
       ·exact hsub hy)
      simp at h10
      omega
    refine ih (i + 1) (ins k out) (done ++ part n D i) (insP (k, o) L) res (by omega) ⟨by rw [insP_fst, e1], ins_sorted k out e2, ?_, ?_, ?_, ?_, ?_, ?_, ?_⟩ h
    ·intro p hp
     rcases List.mem_cons.1 ((insP_perm (k, o) L).mem_iff.1 hp) with rfl | hp
     ·exact ⟨k1, o1, o4⟩
     ·exact e3 p hp
    ·have hc : ∀ {p q}, Cross n D p q → Cross n D q p := fun h x hx y hy => ⟨(h y hy x hx).2, (h y hy x hx).1⟩
     rw [(insP_perm (k, o) L).pairwise_iff hc, List.pairwise_cons]
     refine ⟨fun q hq x hx y hy => ?_, e4⟩
     have hxp := (omem x).1 hx
     have hyd : y ∈ done := (e6 y).1 (List.mem_flatMap.2 ⟨q, hq, hy⟩)
     have hxn := q2 x hxp
     have hyn := e7 y hyd
     constructor
     ·exact Classical.byContradiction fun hne => (q2 y (q3 x hxp y hyn hne)).2 hyd
     ·exact Classical.byContradiction fun hne => hxn.2 (e8 y hyd x hxn.1 hne)
    ·have hp : (sg (insP (k, o) L)).Perm (o ++ sg L) := by
      have := List.Perm.flatMap_right Prod.snd (insP_perm (k, o) L)
      rwa [List.flatMap_cons] at this
     rw [hp.nodup_iff, List.nodup_append]
     exact ⟨o3, e5, fun a ha b hb e => (q2 a ((omem a).1 ha)).2 (e ▸ (e6 b).1 hb)⟩
    ·intro x
     have hp : (sg (insP (k, o) L)).Perm (o ++ sg L) := by
      have := List.Perm.flatMap_right Prod.snd (insP_perm (k, o) L)
      rwa [List.flatMap_cons] at this
     rw [hp.mem_iff, List.mem_append, List.mem_append, omem x, e6 x]
     exact Or.comm
    ·intro x hx
     rcases List.mem_append.1 hx with hx | hx
     ·exact e7 x hx
     ·exact (q2 x hx).1
    ·intro x hx j hj he
     rcases List.mem_append.1 hx with hx | hx
     ·exact List.mem_append.2 (.inl (e8 x hx j hj he))
     ·exact List.mem_append.2 (.inr (q3 x hx j hj he))
    ·intro j hj
     by_cases hji : j < i
     ·exact List.mem_append.2 (.inl (e9 j hji))
     ·have : j = i := by omega
      rw [this]; exact List.mem_append.2 (.inr q4)
theorem fair_sym {n : Nat} {D : List Int} (hD : D.length = n * n) (h : fair n D = true) : ∀ i j, i < n → j < n → en n D i j ≠ 0 → en n D j i ≠ 0 := by
 intro i j hi hj hne
 have hq : i * n + j < n * n := by
  calc i * n + j < i * n + n := by omega
   _ = (i + 1) * n := by rw [Nat.succ_mul]
   _ ≤ n * n := Nat.mul_le_mul_right _ hi
 unfold fair at h
 have := List.all_eq_true.1 h (i * n + j) (List.mem_range.2 (by omega))
 rw [Bool.and_eq_true, Bool.or_eq_true] at this
 have e1 : (i * n + j) / n = i := by rw [Nat.mul_comm, Nat.mul_add_div (by omega), Nat.div_eq_of_lt hj]; rfl
 have e2 : (i * n + j) % n = j := by rw [Nat.mul_comm, Nat.mul_add_mod, Nat.mod_eq_of_lt hj]
 rw [e1, e2] at this
 rcases this.2 with h0 | h0
 ·exact absurd (show en n D i j = 0 by unfold en; simpa using h0) hne
 ·unfold en
  simpa using h0
theorem carI_of_parts {n : Nat} {D : List Int} (h1 : 1 ≤ n) (h4 : n ≤ 4) (hD : D.length = n * n) {res : List Nat} (h : parts n D = some res) : carI n D = true := by
 unfold parts at h
 by_cases hf : fair n D = true
 ·rw [if_pos hf] at h
  obtain ⟨done, L, e1, e2, e3, e4, e5, e6, e7, e8, e9⟩ := partsF_ok h1 h4 (fair_sym hD hf) n 0 [] [] [] res (by omega) ⟨rfl, .nil, fun p hp => absurd hp (by simp), .nil, by simp [sg], fun x => by simp [sg], fun x hx => absurd hx (by simp), fun x hx => absurd hx (by simp), fun j hj => absurd hj (by omega)⟩ h
  have hlt : ∀ x, x ∈ sg L → x < n := fun x hx => e7 x ((e6 x).1 hx)
  have hlen := len_eq h1 h4 hlt e5 (fun i hi => (e6 i).2 (e9 i hi))
  have hsum := sumR_sg n D L e3
  rw [← e1, hlen] at hsum
  unfold carI
  rw [List.any_eq_true]
  refine ⟨res, ?_, (bt_iff _ _ _ _ _).2 ⟨sg L, hlen, fun x hx => List.mem_range.2 (hlt x hx), e5, ?_⟩⟩
  ·have := tyL_mem res 5 0 e2 (fun k hk => ⟨Nat.zero_le _, by
    rw [e1] at hk
    obtain ⟨p, hp, rfl⟩ := List.mem_map.1 hk
    exact (e3 p hp).1⟩) (by omega)
   rw [hsum] at this
   exact this
  ·intro a b ha hb
   rw [dE_fit n D L e3 e4 a b (by omega) (by omega), ← e1, en_due ha hb]
 ·rw [if_neg hf] at h; exact absurd h (by simp)
end Car
end Go.Proofs.YtbnefjhljfbecaaGreatDoor
