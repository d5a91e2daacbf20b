/- The product of Lyndon words: FactorWord of the reference and of the program. -/
import Derived.Test.YtjkidofadpbmkaaLyndon
import Derived.Test.YtjkidofadpbmkaaRows3
namespace Go.Proofs.Ytjkidofadpbmkaa
open Go.RowKit
namespace Words

/-- A new slice of rows is returned. -/
def RetRows (w : World) (ll : List (List Int)) (e : Ending) (w' : World) : Prop := ∃ u, e = .returned u ∧ OwnRows w' w.heap.size w'.heap.size u ll ∧ Below w.heap.size w w'

/-- The longest beginning of at most k letters that is a Lyndon word. -/
def best (l : List Int) : Nat → Nat
  | 0 => 1
  | k + 1 => if lyndon (l.take (k + 1)) then k + 1 else best l k
theorem best_pos (l : List Int) : ∀ k : Nat, 1 ≤ best l k
  | 0 => by simp [best]
  | k + 1 => by
    unfold best
    split
    · omega
    · exact best_pos l k
def factor : Nat → List Int → List (List Int)
  | 0, _ => []
  | f + 1, l => if l.length = 0 then [] else l.take (best l l.length) :: factor f (l.drop (best l l.length))
def factorOf (l : List Int) : List (List Int) := if word l then factor l.length l else []
theorem factor_fuel : ∀ (f g : Nat) (l : List Int), l.length ≤ f → l.length ≤ g → factor f l = factor g l
  | 0, 0, _, _, _ => rfl
  | 0, g + 1, l, h, _ => by unfold factor; rw [if_pos (by omega)]
  | f + 1, 0, l, _, h => by unfold factor; rw [if_pos (by omega)]
  | f + 1, g + 1, l, h1, h2 => by
    unfold factor
    by_cases h0 : l.length = 0
    · rw [if_pos h0, if_pos h0]
    · rw [if_neg h0, if_neg h0, factor_fuel f g _ (by rw [List.length_drop]; have := best_pos l l.length; omega) (by rw [List.length_drop]; have := best_pos l l.length; omega)]
theorem best_bd (l : List Int) : ∀ k : Nat, 1 ≤ best l k ∧ best l k ≤ max k 1
  | 0 => by simp [best]
  | k + 1 => by
    unfold best
    split
    · omega
    · have := best_bd l k; omega
theorem lyndon_one (l : List Int) : lyndon (l.take 1) = true := by
  match l with
  | [] => rfl
  | x :: xs => rfl

set_option maxHeartbeats 1000000 in
theorem FactorWordS_any (v : Value) (l : List Int) (w : World) (hv : Ints w v l) :
    Calls Try.prog 24 #[v] w (RetRows w (factorOf l)) := by
  have hv0 := hv
  obtain ⟨A, c, rfl, h1, h2, h3⟩ := hv
  clear h3
  unfold factorOf
  by_cases hw : word l = true
  · rw [if_pos hw]
    have hl8 : l.length ≤ 8 := by simp [word, inR] at hw; omega
    obtain ⟨R, hR⟩ : ∃ R, R = factor l.length l := ⟨_, rfl⟩
    rw [← hR]
    have HR := Lib.hid hR
    clear hR
    have hB := hv0.toB
    go_enter Try.func24, Try.ntmps24
    go_wp2_with (go_at_call 36; refine (l11Letters_any _ _ _ hv0).mono ?_; rintro e w' ⟨rfl, rfl⟩)
    clear hv0
    go_loopg [0, 3] l.length (fun gk v0 v3 wr => ∃ (B : Option Addr) (d : Nat) (r : List Int) (done : List (List Int)), v0 = .slice B r.length d ∧ IntsB wr w.heap.size (.slice B r.length d) r ∧ OwnRows wr w.heap.size wr.heap.size v3 done ∧ Below w.heap.size w wr ∧ r.length = gk ∧ r.length ≤ 8 ∧ done.length + r.length ≤ 8 ∧ Hid (R = done ++ factor gk r))
    case atStart => exact ⟨A, c, l, [], rfl, hB.below ((Below.refl _ _).alloc (Nat.le_refl _) _) (Nat.le_refl _), (OwnRows.empty (Nat.le_refl _)).more (by simp), (Below.refl _ _).alloc (Nat.le_refl _) _, rfl, hl8, by simpa using hl8, HR⟩
    case round =>
      obtain ⟨B, d, r, done, rfl, hr, ho, hb, rfl, a1, a2, HM⟩ := hrel
      obtain ⟨W, rfl⟩ : ∃ W : World, W = wr := ⟨_, rfl⟩
      by_cases hk : 0 < r.length
      · have hbd := best_bd r r.length
        obtain ⟨q, hq⟩ : ∃ q, q = best r r.length := ⟨_, rfl⟩
        rw [← hq] at hbd
        obtain ⟨q1, q2⟩ := hbd
        have HQ := Lib.hid hq
        clear hq
        go_wp2
        go_loopw [4, 5] (fun vn vk wr => ∃ (k : Nat), vk = .int .i64 ((k + 1 : Nat) : Int) ∧ vn = .int .i64 (best r k : Nat) ∧ k ≤ r.length ∧ Draws W wr) (fun _ vk _ => r.length + 1 - (intOf vk).toNat)
        case atStart => exact ⟨0, rfl, rfl, by omega, Draws.refl W⟩
        case round =>
          obtain ⟨k, rfl, rfl, b1, hd⟩ := hrel
          have hsz : W.heap.size = wr.heap.size := by obtain ⟨m, rfl⟩ := hd; rfl
          have hr' : IntsB wr w.heap.size (.slice B r.length d) r := by obtain ⟨m, rfl⟩ := hd; exact ⟨hr.1, hr.2⟩
          by_cases hkr : k < r.length
          · obtain ⟨hrun, hA'⟩ := cutTo hr'.ints (k + 1) (by omega)
            have hrun' : ∀ W : World, Sem.run Try.prog (Instr.sliceAt 24 (.slice B r.length d) none (some (.int .i64 ((k : Int) + 1))) none) W = .ok (.slice B (k + 1) d) W := fun W => hrun W
            clear hrun
            have hbk := best_bd r k
            have hbs : best r (k + 1) = if lyndon (r.take (k + 1)) then k + 1 else best r k := rfl
            have HBS := Lib.hid hbs
            clear hbs
            by_cases hly : lyndon (r.take (k + 1)) = true
            · go_wp2_with (go_at_call 37; refine (l11Lyndon_any _ _ _ hA').mono ?_; rintro e w' ⟨rfl, n1, rfl⟩)
              go_roundw
              case rel => exact ⟨k + 1, by go_num, by rw [HBS.out, if_pos hly]; go_num, by omega, hd.on _⟩
              case measure => simp [intOf]; omega
            · have hly : lyndon (r.take (k + 1)) = false := by simpa using hly
              go_wp2_with (go_at_call 37; refine (l11Lyndon_any _ _ _ hA').mono ?_; rintro e w' ⟨rfl, n1, rfl⟩)
              go_roundw
              case rel => exact ⟨k + 1, by go_num, by rw [HBS.out, if_neg (by simp [hly])], by omega, hd.on _⟩
              case measure => simp [intOf]; omega
          · obtain rfl : k = r.length := by omega
            rw [← HQ.out]
            obtain ⟨hrun, hA'⟩ := cutTo hr'.ints q (by omega)
            obtain ⟨A', hrun2, hA2⟩ := cutFromB hr' q (by omega)
            have hb' : Below w.heap.size w wr := by obtain ⟨m, rfl⟩ := hd; exact ⟨hb.os, hb.tape, hb.output, hb.size, hb.block⟩
            have ho' : OwnRows wr w.heap.size wr.heap.size u3 done := by rw [← hsz]; obtain ⟨m, rfl⟩ := hd; exact ho.drewN m
            clear hr hb ho hsz hr'
            go_wp2_with (first
              | (go_at_call 45; refine (l1Ints_any _ (r.take q) _ hA' (by simp; omega)).mono ?_; rintro e w1 ⟨x1, rfl, hx1, hb1⟩; obtain ⟨B1, n1, d1, rfl⟩ := hx1.slice)
              | (at_builtin; refine wp_append_row rfl (.tmp 24) (.tmp 29) rfl w.heap.size wr.heap.size wr.heap.size u3 (.slice B1 n1 d1) done (r.take q) rfl rfl (ho'.below hb1 (Nat.le_refl _)) hx1.toIn (Nat.le_refl _) hb'.size (by omega) (by have := hb'.size; have := hb1.size; omega) ?_; intro v2 w2 ho2 hg2 _))
            have hlo := fun k hk => (ho'.lt k hk).1
            have hbB := hb'.trans (hb1.mono hb'.size)
            have hA3 := hA2.below hb1 hb'.size
            go_roundg (r.length - q)
            case measure => omega
            case rel => exact ⟨A', d - q, r.drop q, done ++ [r.take q], by rw [List.length_drop], by rw [List.length_drop]; exact hA3.grownRow hg2 hlo hbB.size, ho2, hbB.grown hg2 hbB.size hlo, by rw [List.length_drop], by rw [List.length_drop]; omega, by rw [List.length_drop, List.length_append, List.length_singleton]; omega, by
              have := HM.out
              rw [this, List.append_assoc]
              congr 1
              conv => lhs; rw [show r.length = (r.length - 1) + 1 from by omega]; unfold factor
              rw [if_neg (by omega), ← HQ.out, List.singleton_append]
              congr 1
              exact factor_fuel _ _ _ (by rw [List.length_drop]; omega) (by rw [List.length_drop]; exact Nat.le_refl _)⟩
      · have hk0 : r.length = 0 := by omega
        have hr0 : r = [] := List.eq_nil_of_length_eq_zero hk0
        have hR : R = done := by rw [HM.out, hr0]; simp [factor]
        have HR' := Lib.hid hR
        clear hR hr0 hk0
        go_wp2
        go_ret
        exact ⟨_, rfl, by rw [HR'.out]; exact ho, hb⟩
  · rw [if_neg hw]
    have hw : word l = false := by simpa using hw
    go_enter Try.func24, Try.ntmps24
    go_wp2_with (go_at_call 36; refine (l11Letters_any _ _ _ hv0).mono ?_; rintro e w' ⟨rfl, rfl⟩)
    go_ret
    exact ⟨_, rfl, OwnRows.nil, Below.refl _ _⟩
set_option maxHeartbeats 1000000 in
theorem FactorWordI_any (v : Value) (l : List Int) (w : World) (hv : Ints w v l) :
    Calls Try.prog 25 #[v] w (RetRows w (factorOf l)) := by
  have hv0 := hv
  obtain ⟨A, c, rfl, h1, h2, h3⟩ := hv
  clear h3
  unfold factorOf
  by_cases hw : word l = true
  · rw [if_pos hw]
    have hl8 : l.length ≤ 8 := by simp [word, inR] at hw; omega
    obtain ⟨R, hR⟩ : ∃ R, R = factor l.length l := ⟨_, rfl⟩
    rw [← hR]
    have HR := Lib.hid hR
    clear hR
    have hB := hv0.toB
    go_enter Try.func25, Try.ntmps25
    go_wp2_with (go_at_call 38; refine (isFreeWord_any _ _ _ hv0).mono ?_; rintro e w' ⟨rfl, rfl⟩)
    clear hv0
    go_loopg [0, 3] l.length (fun gk v0 v3 wr => ∃ (B : Option Addr) (d : Nat) (r : List Int) (done : List (List Int)), v0 = .slice B r.length d ∧ IntsB wr w.heap.size (.slice B r.length d) r ∧ OwnRows wr w.heap.size wr.heap.size v3 done ∧ Below w.heap.size w wr ∧ r.length = gk ∧ r.length ≤ 8 ∧ done.length + r.length ≤ 8 ∧ Hid (R = done ++ factor gk r))
    case atStart => exact ⟨A, c, l, [], rfl, hB.below ((Below.refl _ _).alloc (Nat.le_refl _) _) (Nat.le_refl _), (OwnRows.empty (Nat.le_refl _)).more (by simp), (Below.refl _ _).alloc (Nat.le_refl _) _, rfl, hl8, by simpa using hl8, HR⟩
    case round =>
      obtain ⟨B, d, r, done, rfl, hr, ho, hb, rfl, a1, a2, HM⟩ := hrel
      obtain ⟨W, rfl⟩ : ∃ W : World, W = wr := ⟨_, rfl⟩
      by_cases hk : 0 < r.length
      · have hbd := best_bd r r.length
        obtain ⟨q, hq⟩ : ∃ q, q = best r r.length := ⟨_, rfl⟩
        rw [← hq] at hbd
        obtain ⟨q1, q2⟩ := hbd
        have HQ := Lib.hid hq
        clear hq
        go_wp2
        go_loop [4] (fun vn => ∃ (k : Nat), vn = .int .i64 k ∧ 1 ≤ k ∧ k ≤ r.length ∧ Hid (q = best r k)) (fun vn => (intOf vn).toNat)
        case atStart => exact ⟨r.length, rfl, by omega, by omega, HQ⟩
        case round =>
          obtain ⟨k, rfl, b1, b2, HK⟩ := hrel
          obtain ⟨hrun, hA'⟩ := cutTo hr.ints k (by omega)
          by_cases hly : lyndon (r.take k) = true
          · have hqk : q = k := by rw [HK.out]; cases k with | zero => omega | succ k => (unfold best; rw [if_pos hly])
            obtain rfl : k = q := hqk.symm
            obtain ⟨A', hrun2, hA2⟩ := cutFromB hr k (by omega)
            have hb' := hb
            have ho' := ho
            have wr := W
            clear hr hb ho hqk
            go_wp2_with (first
              | (go_at_call 39; refine (isLyndonI_any _ _ _ hA').mono ?_; rintro e w' ⟨rfl, rfl⟩)
              | (go_at_call 42; refine (Clone_any _ (r.take k) _ hA' (by simp; omega)).mono ?_; rintro e w1 ⟨x1, rfl, hx1, hb1⟩; obtain ⟨B1, n1, d1, rfl⟩ := hx1.slice)
              | (at_builtin; refine wp_append_row rfl (.tmp 21) (.tmp 26) rfl w.heap.size W.heap.size W.heap.size u3 (.slice B1 n1 d1) done (r.take k) rfl rfl (ho'.below hb1 (Nat.le_refl _)) hx1.toIn (Nat.le_refl _) hb'.size (by omega) (by have := hb'.size; have := hb1.size; omega) ?_; intro v2 w2 ho2 hg2 _))
            have hlo := fun k hk => (ho'.lt k hk).1
            have hbB := hb'.trans (hb1.mono hb'.size)
            have hA3 := hA2.below hb1 hb'.size
            go_roundg (r.length - k)
            case measure => omega
            case rel => exact ⟨A', d - k, r.drop k, done ++ [r.take k], by rw [List.length_drop], by rw [List.length_drop]; exact hA3.grownRow hg2 hlo hbB.size, ho2, hbB.grown hg2 hbB.size hlo, by rw [List.length_drop], by rw [List.length_drop]; omega, by rw [List.length_drop, List.length_append, List.length_singleton]; omega, by
              have := HM.out
              rw [this, List.append_assoc]
              congr 1
              conv => lhs; rw [show r.length = (r.length - 1) + 1 from by omega]; unfold factor
              rw [if_neg (by omega), ← HQ.out, List.singleton_append]
              congr 1
              exact factor_fuel _ _ _ (by rw [List.length_drop]; omega) (by rw [List.length_drop]; exact Nat.le_refl _)⟩
          · have hk2 : 2 ≤ k := by
              rcases Nat.lt_or_ge k 2 with h | h
              · obtain rfl : k = 1 := by omega
                exact absurd (lyndon_one r) hly
              · exact h
            have hly : lyndon (r.take k) = false := by simpa using hly
            go_wp2_with (go_at_call 39; refine (isLyndonI_any _ _ _ hA').mono ?_; rintro e w' ⟨rfl, rfl⟩)
            go_round
            case rel => exact ⟨k - 1, by rw [show ((k - 1 : Nat) : Int) = (k : Int) - 1 from by omega], by omega, by omega, by
              obtain ⟨m, rfl⟩ : ∃ m, k = m + 1 := ⟨k - 1, by omega⟩
              have := HK.out; unfold best at this; rw [if_neg (by simp [hly])] at this; exact this⟩
            case measure => simp [intOf]; omega
      · have hk0 : r.length = 0 := by omega
        have hr0 : r = [] := List.eq_nil_of_length_eq_zero hk0
        have hR : R = done := by rw [HM.out, hr0]; simp [factor]
        have HR' := Lib.hid hR
        clear hR hr0 hk0
        go_wp2
        go_ret
        exact ⟨_, rfl, by rw [HR'.out]; exact ho, hb⟩
  · rw [if_neg hw]
    have hw : word l = false := by simpa using hw
    go_enter Try.func25, Try.ntmps25
    go_wp2_with (go_at_call 38; refine (isFreeWord_any _ _ _ hv0).mono ?_; rintro e w' ⟨rfl, rfl⟩)
    go_ret
    exact ⟨_, rfl, OwnRows.nil, Below.refl _ _⟩

theorem factor_len : ∀ (f : Nat) (l : List Int), (factor f l).length ≤ f ∧ total (factor f l) ≤ l.length
  | 0, l => by simp [factor, total]
  | f + 1, l => by
    unfold factor
    by_cases h0 : l.length = 0
    · rw [if_pos h0]; simp [total]
    · rw [if_neg h0]
      have := factor_len f (l.drop (best l l.length))
      simp only [List.length_cons, total, List.length_drop, List.length_take] at this ⊢
      omega
theorem factorOf_bd (l : List Int) : (factorOf l).length ≤ 8 ∧ total (factorOf l) ≤ 8 := by
  unfold factorOf
  split
  · next h =>
    have : l.length ≤ 8 := by simp [word, inR] at h; omega
    have := factor_len l.length l
    omega
  · simp [total]
end Words
end Go.Proofs.Ytjkidofadpbmkaa
