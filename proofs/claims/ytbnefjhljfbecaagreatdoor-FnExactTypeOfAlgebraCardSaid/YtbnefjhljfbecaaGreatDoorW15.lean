import Derived.Test.YtbnefjhljfbecaaGreatDoorW10
import Derived.Test.YtbnefjhljfbecaaGreatDoorW14
namespace Go.Proofs.YtbnefjhljfbecaaGreatDoor
set_option maxRecDepth 100000
open Go.RowKit
namespace Car
theorem sliceS : Tryz.prog.underlying 65 = some (.slice (Tryz.prog.elem 65)) := by kernel_rfl
theorem infoSE : (Tryz.prog.info? (Tryz.prog.elem 65)).map (fun i => (i.zero, i.size, i.bytes)) = some (some (.string ByteArray.empty), 1, 16) := by kernel_rfl
theorem cutToS {w : World} {lo hi : Nat} {A : Option Addr} {n c : Nat} {l : List ByteArray} (h : StrsAt w lo hi (.slice A n c) l) (k : Nat) (hk : k ≤ n) :
  (∀ W : World, (Instr.sliceAt 65 (.slice A n c) none (some (.int .i64 (k : Int))) none).run Tryz.prog W = .ok (.slice A k c) W) ∧ StrsAt w lo hi (.slice A k c) (l.take k) := by
 obtain ⟨i, h1, _, h3, _⟩ := info_parts infoSE
 obtain ⟨A', c', he, g1, g2⟩ := h
 simp only [Value.slice.injEq] at he
 obtain ⟨rfl, rfl, rfl⟩ := he
 refine ⟨fun W => ?_, A, c, by rw [List.length_take, Nat.min_eq_left hk], by rw [List.length_take]; omega, fun hp => ?_⟩
 ·rw [run_sliceAt_slice W 65 _ _ _ _ sliceS, run_slice_h W 65 A _ c sliceS .i64 k (by omega) (by omega)]
  cases A <;> simp [sizeOf, typeInfo, h1, h3, sliced, Result.andThen, Addr.add]
 ·rw [List.length_take] at hp
  obtain ⟨b, off, rfl, g3, g4, hc⟩ := g2 (by omega)
  refine ⟨b, off, rfl, g3, g4, fun j x hx => hc j x ?_⟩
  rw [List.getElem?_take] at hx
  split at hx
  ·exact hx
  ·cases hx
def cutA (A : Option Addr) (c k : Nat) : Option Addr := if c = k then A else A.map (·.add k)
theorem cutFromS {w : World} {lo hi : Nat} {A : Option Addr} {n c : Nat} {l : List ByteArray} (h : StrsAt w lo hi (.slice A n c) l) (k : Nat) (hk : k ≤ n) :
  (∀ W : World, (Instr.sliceAt 65 (.slice A n c) (some (.int .i64 (k : Int))) none none).run Tryz.prog W = .ok (.slice (cutA A c k) (n - k) (c - k)) W) ∧ StrsAt w lo hi (.slice (cutA A c k) (n - k) (c - k)) (l.drop k) := by
 obtain ⟨i, h1, _, h3, _⟩ := info_parts infoSE
 obtain ⟨A', c', he, g1, g2⟩ := h
 simp only [Value.slice.injEq] at he
 obtain ⟨rfl, rfl, rfl⟩ := he
 refine ⟨fun W => ?_, _, _, by rw [List.length_drop], by rw [List.length_drop]; omega, fun hp => ?_⟩
 ·rw [run_sliceAt_slice W 65 _ _ _ _ sliceS, run_slice_l W 65 A _ c sliceS .i64 k (by omega) (by omega)]
  simp [sizeOf, typeInfo, h1, h3, sliced, Result.andThen, cutA]
 ·rw [List.length_drop] at hp
  obtain ⟨b, off, rfl, g3, g4, hc⟩ := g2 (by omega)
  unfold cutA
  rw [if_neg (by omega)]
  refine ⟨b, off + k, by by_cases h0 : k = 0 <;> simp [Addr.add, h0], g3, g4, fun j x hx => ?_⟩
  rw [Nat.add_assoc]
  exact hc (k + j) x (by rw [← hx, List.getElem?_drop])
theorem nm_gtr {p q : Nat} (hp : p < 12) (hq : q < 12) : (!(Op.bytesLess (nmB p).toList (nmB q).toList || (nmB p).toList == (nmB q).toList)) = decide (q < p) := by
 have hd : ((List.range 12).all fun p => (List.range 12).all fun q => (!(Op.bytesLess (nmB p).toList (nmB q).toList || (nmB p).toList == (nmB q).toList)) == decide (q < p)) = true := by decide +kernel
 have := List.all_eq_true.1 (List.all_eq_true.1 hd p (List.mem_range.2 hp)) q (List.mem_range.2 hq)
 simpa using this
theorem nm_full {p : Nat} (hp : p < 12) : ((nmB p).toList == []) = false := by
 have hd : ((List.range 12).all fun p => !((nmB p).toList == [])) = true := by decide +kernel
 have := List.all_eq_true.1 hd p (List.mem_range.2 hp)
 simpa using this
theorem ins_at (k : Nat) : ∀ (out : List Nat) (p : Nat), out.Pairwise (· ≤ ·) → p ≤ out.length → (∀ j, p ≤ j → j < out.length → k < out.getD j 0) → (p = 0 ∨ out.getD (p - 1) 0 ≤ k) → ins k out = out.take p ++ k :: out.drop p
 | [], p, _, hp, _, _ => by
  obtain rfl : p = 0 := by simpa using hp
  rfl
 | x :: xs, p, hs, hp, h1, h2 => by
  rw [List.pairwise_cons] at hs
  cases p with
  | zero =>
   have := h1 0 (Nat.le_refl _) (by simp)
   unfold ins
   rw [if_pos (by simpa using this)]
   rfl
  | succ p =>
   have hxk : ¬ k < x := by
    rcases h2 with h2 | h2
    ·cases h2
    ·intro hk
     rw [Nat.add_sub_cancel] at h2
     cases p with
     | zero => simp at h2; omega
     | succ p =>
      have hpl : p < xs.length := by simp at hp; omega
      have h3 : (x :: xs).getD (p + 1) 0 = xs[p] := by simp [List.getD, List.getElem?_eq_getElem hpl]
      rw [h3] at h2
      have := hs.1 xs[p] (List.getElem_mem hpl)
      omega
   unfold ins
   rw [if_neg hxk, ins_at k xs p hs.2 (by simpa using hp) (fun j hj hjl => by
    have := h1 (j + 1) (by omega) (by simpa using hjl)
    simpa [List.getD] using this) (by
    cases p with
    | zero => exact .inl rfl
    | succ p =>
     refine .inr ?_
     rcases h2 with h2 | h2
     ·cases h2
     ·simpa [List.getD] using h2)]
   rfl
def fnm : Option Nat → ByteArray
 | none => ⟨#[]⟩
 | some q => nmB q
def stF (n : Nat) (D : List Int) (rows : List Nat) (o : Option Nat) (k : Nat) : Option Nat := if rk k = rows.length ∧ bt n D (rk k) (mx k) rows (rk k) [] = true then some k else o
theorem fnd_stF (n : Nat) (D : List Int) (rows : List Nat) : fnd n D rows = (List.range' 0 (12 - 0)).foldl (stF n D rows) none := by
 unfold fnd
 rw [List.range_eq_range']
 rfl
theorem stF_cons (n : Nat) (D : List Int) (rows : List Nat) (o : Option Nat) {k : Nat} (h : k < 12) : (List.range' k (12 - k)).foldl (stF n D rows) o = (List.range' (k + 1) (12 - (k + 1))).foldl (stF n D rows) (stF n D rows o k) := by
 obtain ⟨d, hd⟩ : ∃ d, 12 - k = d + 1 := ⟨12 - k - 1, by omega⟩
 rw [hd, show 12 - (k + 1) = d from by omega]
 rfl
theorem ins_mem {k x : Nat} : ∀ {l : List Nat}, x ∈ ins k l → x = k ∨ x ∈ l := by
 intro l
 induction l with
 | nil => intro h; exact .inl (by simpa [ins] using h)
 | cons z zs ih =>
  intro h
  unfold ins at h
  split at h
  ·simpa using h
  ·rcases List.mem_cons.1 h with rfl | h
   ·exact .inr (by simp)
   ·rcases ih h with h | h
    ·exact .inl h
    ·exact .inr (by simp [h])
theorem ins_len (k : Nat) : ∀ l : List Nat, (ins k l).length = l.length + 1
 | [] => rfl
 | x :: xs => by
  unfold ins
  split
  ·rfl
  ·rw [List.length_cons, ins_len k xs, List.length_cons]
set_option maxHeartbeats 1000000 in
theorem fits_zero (n : Nat) (D : List Int) (m : Nat) (E : List Int) (rows : List Nat) (hrl : rows.length = m) : FiAt n D m E rows 0 := by
 intro used a b u r w hl hb ha hbE hu hr
 have h2 := ((St.start w).box [.int .i64 n, a] 49).box [.int .i64 m, b] 49
 obtain ⟨A0, c0, rfl, _, _, _⟩ := id ha
 obtain ⟨A1, c1, rfl, _, _, _⟩ := id hbE
 obtain ⟨A2, c2, rfl, _, _, _⟩ := id hu
 obtain ⟨A3, c3, rfl, _, _, _⟩ := id hr
 have hk : (used.map Int.ofNat).length = m := by rw [List.length_map]; omega
 have hk2 : (rows.map Int.ofNat).length = m := by rw [List.length_map]; omega
 rw [hk, hk2]
 show Calls _ _ _ _ fun e w' => e = .returned (.bool true) ∧ Below w.heap.size w w'
 clear ha hbE hu hr hk hk2 hl hb hrl
 go_enter Tryz.func74, Tryz.ntmps74
 go_wp2
 go_ret
 exact ⟨rfl, h2.below⟩
theorem fits_all (n : Nat) (D : List Int) (m : Nat) (E : List Int) (rows : List Nat) (hD : D.length = n * n) (hE : E.length = m * m) (hn : n ≤ 4) (hm : m ≤ 4) (hrl : rows.length = m) (hrb : ∀ x, x ∈ rows → x < n) : ∀ f, FiAt n D m E rows f
 | 0 => fits_zero n D m E rows hrl
 | f + 1 => fits_step n D m E rows hD hE hn hm hrl hrb f (fits_all n D m E rows hD hE hn hm hrl hrb f)
end Car
end Go.Proofs.YtbnefjhljfbecaaGreatDoor
