/- The reference's l2Bracket. -/
import Derived.Test.YtechjmckfedblaaAlgS
import Derived.Test.YtechjmckfedblaaStB
namespace Go.Proofs.Ytechjmckfedblaa
set_option maxRecDepth 100000
open Go.RowKit

/-- Sums of the bracket: over the first i places of the first element; of place i over the first j places of the second. -/
def bra1 (T X Y : List Int) (n i k : Nat) : Int := sumTo i fun a => sumTo n fun b => vec X a * vec Y b * t3 T n a b k
def bra2 (T X Y : List Int) (n i j k : Nat) : Int := sumTo j fun b => vec X i * vec Y b * t3 T n i b k
def braF (T X Y : List Int) (n : Nat) (p : Int) (i j k : Nat) : Int := (bra1 T X Y n i k + bra2 T X Y n i j k) % p
def braM (T X Y : List Int) (n : Nat) (p : Int) (i j q k : Nat) : Int := if k < q then braF T X Y n p i (j + 1) k else braF T X Y n p i j k
def braL (T X Y : List Int) (n : Nat) (p : Int) : List Int := tab n fun k => bra1 T X Y n n k % p
theorem braF_zero (T X Y : List Int) (n : Nat) (p : Int) (i k : Nat) : braF T X Y n p i 0 k = bra1 T X Y n i k % p := by simp [braF, bra2, sumTo]
theorem braF_end (T X Y : List Int) (n : Nat) (p : Int) (i k : Nat) : braF T X Y n p i n k = bra1 T X Y n (i + 1) k % p := rfl
theorem braF_step (T X Y : List Int) (n : Nat) (p : Int) (i j k : Nat) : (braF T X Y n p i j k + (vec X i * vec Y j % p) * t3 T n i j k) % p = braF T X Y n p i (j + 1) k := by
  unfold braF
  rw [Int.add_emod, mul_mod_left', ← Int.add_emod, Int.add_emod, Int.emod_emod_of_dvd _ (Int.dvd_refl p), ← Int.add_emod]
  congr 1
  show _ = bra1 T X Y n i k + (bra2 T X Y n i j k + vec X i * vec Y j * t3 T n i j k)
  omega
theorem braF_skip (T X Y : List Int) (n : Nat) (p : Int) (i j k : Nat) (h : vec X i * vec Y j % p = 0) : braF T X Y n p i (j + 1) k = braF T X Y n p i j k := by
  rw [← braF_step, h, Int.zero_mul, Int.add_zero, braF, Int.emod_emod_of_dvd _ (Int.dvd_refl p)]
theorem bra1_skip (T X Y : List Int) (n i k : Nat) (h : vec X i = 0) : bra1 T X Y n (i + 1) k = bra1 T X Y n i k := by
  show bra1 T X Y n i k + sumTo n (fun b => vec X i * vec Y b * t3 T n i b k) = _
  rw [sumTo_congr (g := fun _ => 0) (fun b _ => by rw [h]; simp), sumTo_zero]; omega
theorem braM_zero (T X Y : List Int) (n : Nat) (p : Int) (i j : Nat) : tab n (braM T X Y n p i j 0) = tab n (braF T X Y n p i j) := tab_congr fun k _ => by simp [braM]
theorem braM_end (T X Y : List Int) (n : Nat) (p : Int) (i j : Nat) : tab n (braM T X Y n p i j n) = tab n (braF T X Y n p i (j + 1)) := tab_congr fun k hk => by simp [braM, hk]
theorem braM_skip (T X Y : List Int) (n : Nat) (p : Int) (i j q : Nat) (h : vec X i * vec Y j % p = 0) : tab n (braM T X Y n p i j q) = tab n (braF T X Y n p i (j + 1)) := tab_congr fun k _ => by
  unfold braM; rw [braF_skip T X Y n p i j k h]; split <;> rfl
theorem braM_set (T X Y : List Int) (n : Nat) (p : Int) (i j q : Nat) : (tab n (braM T X Y n p i j q)).set q (braF T X Y n p i (j + 1) q) = tab n (braM T X Y n p i j (q + 1)) := by
  rw [tab_set]
  refine tab_congr fun k _ => ?_
  unfold braM
  by_cases e : k = q
  · subst e; rw [if_pos rfl, if_pos (by omega)]
  · rw [if_neg e]
    by_cases h : k < q
    · rw [if_pos h, if_pos (by omega)]
    · rw [if_neg h, if_neg (by omega)]
theorem braM_at (T X Y : List Int) (n : Nat) (p : Int) (i j q : Nat) : braM T X Y n p i j q q = braF T X Y n p i j q := by simp [braM]
theorem braF_bd (T X Y : List Int) (n : Nat) {p : Int} (hp : 2 ≤ p) (i j k : Nat) : 0 ≤ braF T X Y n p i j k ∧ braF T X Y n p i j k < p := ⟨Int.emod_nonneg _ (by omega), Int.emod_lt_of_pos _ (by omega)⟩

/-- What stands while a bracket is made. -/
structure BraSt (w wr : World) (B : Nat) (v0 v1 v2 v3 v4 : Value) (T X Y L : List Int) (n : Nat) : Prop where
  box : Box3 wr w.heap.size v0 v1 v2
  tab : IntsB wr B v2 T
  xs : IntsB wr B v3 X
  ys : IntsB wr B v4 Y
  out : Own wr (w.heap.size + 1) (.slice (some ⟨w.heap.size + 1, 0, none⟩) n n) L
  below : Below w.heap.size w wr
  size : w.heap.size + 1 < wr.heap.size
theorem BraSt.draws {w wr : World} {B : Nat} {v0 v1 v2 v3 v4 : Value} {T X Y L : List Int} {n : Nat} (h : BraSt w wr B v0 v1 v2 v3 v4 T X Y L n) (m : Nat) : BraSt w (wr.drewN m) B v0 v1 v2 v3 v4 T X Y L n :=
  ⟨h.box, ⟨h.tab.1, h.tab.2⟩, ⟨h.xs.1, h.xs.2⟩, ⟨h.ys.1, h.ys.2⟩, h.out, ⟨h.below.os, h.below.tape, h.below.output, h.below.size, h.below.block⟩, h.size⟩
theorem BraSt.on {w wr w' : World} {B : Nat} {v0 v1 v2 v3 v4 : Value} {T X Y L : List Int} {n : Nat} (h : BraSt w wr B v0 v1 v2 v3 v4 T X Y L n) (hB : B ≤ w.heap.size) (hb : Below wr.heap.size wr w') : BraSt w w' B v0 v1 v2 v3 v4 T X Y L n :=
  ⟨h.box.below hb h.box.lt, h.tab.below hb (Nat.le_trans hB h.below.size), h.xs.below hb (Nat.le_trans hB h.below.size), h.ys.below hb (Nat.le_trans hB h.below.size), h.out.below hb, h.below.trans (hb.mono h.below.size), Nat.lt_of_lt_of_le h.size hb.size⟩
theorem BraSt.set {w wr : World} {B : Nat} {v0 v1 v2 v3 v4 : Value} {T X Y L : List Int} {n : Nat} (h : BraSt w wr B v0 v1 v2 v3 v4 T X Y L n) (hB : B ≤ w.heap.size) (k : Nat) (x : Int) :
    BraSt w (wr.setCell ⟨w.heap.size + 1, k, none⟩ (.int .i64 x)) B v0 v1 v2 v3 v4 T X Y (L.set k x) n := by
  obtain ⟨ho, hg⟩ := h.out.set k x
  exact ⟨h.box.grown hg (by simp), h.tab.grownRow hg (by simp; omega) (Nat.le_trans hB h.below.size), h.xs.grownRow hg (by simp; omega) (Nat.le_trans hB h.below.size), h.ys.grownRow hg (by simp; omega) (Nat.le_trans hB h.below.size), ho,
    h.below.grown hg h.below.size (by simp), Nat.lt_of_lt_of_le h.size hg.size⟩
theorem BraSt.drew {w wr : World} {B : Nat} {v0 v1 v2 v3 v4 : Value} {T X Y L : List Int} {n : Nat} (h : BraSt w wr B v0 v1 v2 v3 v4 T X Y L n) : BraSt w wr.drew B v0 v1 v2 v3 v4 T X Y L n := h.draws 1

set_option maxHeartbeats 2000000 in
theorem l2Bracket_any (p : Int) (n : Nat) (t x y : Value) (T X Y : List Int) (B : Nat) (w : World) (ht : IntsB w B t T) (hx : IntsB w B x X) (hy : IntsB w B y Y) (hB : B ≤ w.heap.size) (hT : T.length = n * n * n) (hX : X.length = n) (hY : Y.length = n) (hn : n ≤ 28)
    (hp : 2 ≤ p) (hp' : p ≤ 10007) (rT : resid p T = true) (rX : resid p X = true) (rY : resid p Y = true) :
    Calls Try.prog 105 #[.agg #[.int .i64 p, .int .i64 n, t], x, y] w (RetOwn w (braL T X Y n p)) := by
  obtain ⟨A, c, rfl, _, _, _⟩ := id ht.1
  obtain ⟨A2, c2, rfl, _, _, _⟩ := id hx.1
  obtain ⟨A3, c3, rfl, _, _, _⟩ := id hy.1
  have hmk := makeI n (by omega)
  have HT := Lib.hid hT
  have HX := Lib.hid hX
  have HY := Lib.hid hY
  have HrT := Lib.hid rT
  have HrX := Lib.hid rX
  have HrY := Lib.hid rY
  have u1 : (n : Int) ≤ X.length := by omega
  have u2 : (n : Int) ≤ Y.length := by omega
  have htl : T.length ≤ 21952 := by rw [hT]; exact cube_le hn
  have hst : BraSt w ((w.alloc (.cells #[.int .i64 p, .int .i64 n, .slice A T.length c] 30)).alloc (.cells (zeros n) 3)) B (.int .i64 p) (.int .i64 n) (.slice A T.length c) (.slice A2 X.length c2) (.slice A3 Y.length c3) T X Y (List.replicate n 0) n := by
    have hb1 : Below w.heap.size w (w.alloc (.cells #[.int .i64 p, .int .i64 n, .slice A T.length c] 30)) := (Below.refl _ _).alloc (Nat.le_refl _) _
    have hb2 := hb1.alloc hb1.size (.cells (zeros n) 3)
    refine ⟨(Box3.new w 30 _ _ _).below (B := w.heap.size + 1) ((Below.refl _ _).alloc (by simp) _) (by omega), ht.below hb2 hB, hx.below hb2 hB, hy.below hb2 hB, ?_, hb2, by simp⟩
    have := Own.made (W := w.alloc (.cells #[.int .i64 p, .int .i64 n, .slice A T.length c] 30)) (n := n) (lo := w.heap.size + 1) (by omega) (by simp)
    simpa only [World.size_alloc] using this
  clear hT hX hY rT rX rY ht hx hy
  go_enter Try.func105, Try.ntmps105
  go_wp2
  go_loopw [9] (fun vi wr => ∃ i : Nat, vi = .int .i64 i ∧ i ≤ n ∧ BraSt w wr B (.int .i64 p) (.int .i64 n) (.slice A T.length c) (.slice A2 X.length c2) (.slice A3 Y.length c3) T X Y (tab n fun k => bra1 T X Y n i k % p) n) (fun vi _ => n - (intOf vi).toNat)
  case atStart => exact ⟨0, rfl, by omega, by rw [tab_congr (g := fun _ => 0) (fun k _ => by simp [bra1, sumTo]), tab_zero]; exact hst⟩
  case round =>
    obtain ⟨i, rfl, a1, hst⟩ := hrel
    by_cases hi : i < n
    · obtain ⟨W1, rfl⟩ : ∃ W1 : World, W1 = wr := ⟨_, rfl⟩
      obtain ⟨b2, off2, rfl, hb2, e2⟩ := hst.xs.cell (k := i) (by rw [HX.out]; exact hi)
      have v2 : (i : Int) < X.length := by omega
      by_cases hz : vec X i = 0
      · have t1 : (vec X i == 0) = true := by simp [hz]
        have Hz := Lib.hid hz
        clear hz
        go_wp2
        go_roundw
        case rel => exact ⟨i + 1, by go_num, by omega, by rw [tab_congr (fun k _ => by rw [bra1_skip T X Y n i k Hz.out])]; exact hst⟩
        case measure => simp [intOf]; omega
      · have t1 : (vec X i == 0) = false := by simp [hz]
        have Hz := Lib.hid hz
        clear hz
        have hst0 : BraSt w W1 B (.int .i64 p) (.int .i64 n) (.slice A T.length c) (.slice (some ⟨b2, off2, none⟩) X.length c2) (.slice A3 Y.length c3) T X Y (tab n (braF T X Y n p i 0)) n := by
          rw [tab_congr (fun k _ => braF_zero T X Y n p i k)]; exact hst
        clear hst
        obtain ⟨q1, q2⟩ := resid_vec HrX.out (i := i) (by rw [HX.out]; exact hi)
        go_wp2
        clear e2
        go_loopw [10] (fun vj wr => ∃ j : Nat, vj = .int .i64 j ∧ j ≤ n ∧ BraSt w wr B (.int .i64 p) (.int .i64 n) (.slice A T.length c) (.slice (some ⟨b2, off2, none⟩) X.length c2) (.slice A3 Y.length c3) T X Y (tab n (braF T X Y n p i j)) n) (fun vj _ => n - (intOf vj).toNat)
        case atStart => exact ⟨0, rfl, by omega, hst0⟩
        case round =>
          obtain ⟨j, rfl, a2, hst1⟩ := hrel
          clear hst0
          by_cases hj : j < n
          · obtain ⟨W2, rfl⟩ : ∃ W2 : World, W2 = wr := ⟨_, rfl⟩
            obtain ⟨b2', off2', he, _, e2⟩ := hst1.xs.cell (k := i) (by rw [HX.out]; exact hi)
            simp only [Option.some.injEq, Addr.mk.injEq, and_true] at he
            obtain ⟨rfl, rfl⟩ := he
            obtain ⟨b3, off3, rfl, hb3, e3⟩ := hst1.ys.cell (k := j) (by rw [HY.out]; exact hj)
            obtain ⟨q3, q4⟩ := resid_vec HrY.out (i := j) (by rw [HY.out]; exact hj)
            obtain ⟨q5, q6⟩ := mul_range q1 (Int.le_of_lt q2) q3 q4 hp'
            obtain ⟨x0, x1, x2⟩ := id hst1.box
            have v3 : (j : Int) < Y.length := by omega
            have j0 : IntKind.i64.wrap (vec X i * vec Y j) = vec X i * vec Y j := IntWalk.i64_in _ (by omega)
            have j1 : (vec X i * vec Y j).tmod p = (vec X i * vec Y j) % p := Int.tmod_eq_emod_of_nonneg q5
            have f1 := Int.emod_lt_of_pos (vec X i * vec Y j) (b := p) (by omega)
            have f2 := Int.emod_nonneg (vec X i * vec Y j) (b := p) (by omega)
            have j2 : IntKind.i64.wrap ((vec X i * vec Y j) % p) = (vec X i * vec Y j) % p := IntWalk.i64_in _ (by omega)
            have j3 : ¬ p = 0 := by omega
            go_wp2
            go_quiet (fail)
            clear j0 j1 j2 e2 e3 x0 x1 x2
            have hst2 := hst1.draws nq
            clear hst1
            go_wp2
            obtain ⟨f, hf⟩ : ∃ f, f = vec X i * vec Y j % p := ⟨_, rfl⟩
            rw [← hf] at f1 f2
            rw [← hf]
            have HF := Lib.hid hf
            clear hf
            have hst3 : BraSt w (W2.drewN nq) B (.int .i64 p) (.int .i64 n) (.slice A T.length c) (.slice (some ⟨b2, off2, none⟩) X.length c2) (.slice (some ⟨b3, off3, none⟩) Y.length c3) T X Y (tab n (braM T X Y n p i j 0)) n := by rw [braM_zero]; exact hst2
            clear hst2
            obtain ⟨W3, hW3⟩ : ∃ W3, W3 = W2.drewN nq := ⟨_, rfl⟩
            rw [← hW3] at hst3
            rw [← hW3]
            clear hW3
            go_loopw [12] (fun vk wr => ∃ k : Nat, vk = .int .i64 k ∧ k ≤ n ∧ BraSt w wr B (.int .i64 p) (.int .i64 n) (.slice A T.length c) (.slice (some ⟨b2, off2, none⟩) X.length c2) (.slice (some ⟨b3, off3, none⟩) Y.length c3) T X Y (tab n (braM T X Y n p i j k)) n) (fun vk _ => n - (intOf vk).toNat)
            case atStart => exact ⟨0, rfl, by omega, hst3⟩
            case round =>
              obtain ⟨k, rfl, a3, hst4⟩ := hrel
              clear hst3
              by_cases hk : k < n ∧ f ≠ 0
              · obtain ⟨hk, hf0⟩ := hk
                have t2 : (f != 0) = true := by simp [hf0]
                have Hf0 := Lib.hid hf0
                clear hf0
                obtain ⟨x0, x1, x2⟩ := id hst4.box
                obtain ⟨e3, e4⟩ := hst4.out.cell k (by rw [length_tab]; exact hk)
                have e5 : (tab n (braM T X Y n p i j k))[k]'(by rw [length_tab]; exact hk) = braF T X Y n p i j k := by rw [vec_eq, vec_tab hk, braM_at]
                rw [e5] at e3
                clear e5
                obtain ⟨g1, g2⟩ := braF_bd T X Y n hp i j k
                obtain ⟨g3, g4⟩ := resid_vec' HrT.out (by omega) ((i * n + j) * n + k)
                change 0 ≤ t3 T n i j k at g3
                change t3 T n i j k < p at g4
                obtain ⟨g5, g6⟩ := mul_range f2 (Int.le_of_lt f1) g3 g4 hp'
                have HSt := Lib.hid (braF_step T X Y n p i j k)
                obtain ⟨z, hz⟩ : ∃ z, z = (braF T X Y n p i j k + f * t3 T n i j k) % p := ⟨_, rfl⟩
                have hz' : braF T X Y n p i (j + 1) k = z := by rw [← HSt.out, ← HF.out, ← hz]
                have HZ := Lib.hid hz'
                have hset : ∀ wx, BraSt w wx B (.int .i64 p) (.int .i64 n) (.slice A T.length c) (.slice (some ⟨b2, off2, none⟩) X.length c2) (.slice (some ⟨b3, off3, none⟩) Y.length c3) T X Y (tab n (braM T X Y n p i j k)) n →
                    BraSt w (wx.setCell ⟨w.heap.size + 1, k, none⟩ (.int .i64 z)) B (.int .i64 p) (.int .i64 n) (.slice A T.length c) (.slice (some ⟨b2, off2, none⟩) X.length c2) (.slice (some ⟨b3, off3, none⟩) Y.length c3) T X Y (tab n (braM T X Y n p i j (k + 1))) n := fun wx hx => by
                  have := hx.set hB k z
                  rw [← HZ.out, braM_set, HZ.out] at this
                  exact this
                have HSet := Lib.hid hset
                have m0 : IntKind.i64.wrap (f * t3 T n i j k) = f * t3 T n i j k := IntWalk.i64_in _ (by omega)
                have m1 : IntKind.i64.wrap (braF T X Y n p i j k + f * t3 T n i j k) = braF T X Y n p i j k + f * t3 T n i j k := IntWalk.i64_in _ (by omega)
                have m2 : (braF T X Y n p i j k + f * t3 T n i j k).tmod p = z := by rw [hz]; exact Int.tmod_eq_emod_of_nonneg (by omega)
                have m3 : IntKind.i64.wrap z = z := by
                  have := Int.emod_lt_of_pos (braF T X Y n p i j k + f * t3 T n i j k) (b := p) (by omega)
                  have := Int.emod_nonneg (braF T X Y n p i j k + f * t3 T n i j k) (b := p) (by omega)
                  rw [hz]; exact IntWalk.i64_in _ (by omega)
                clear hset hz hz'
                go_wp2
                refine wp_region_tail (fun w' => BraSt w w' B (.int .i64 p) (.int .i64 n) (.slice A T.length c) (.slice (some ⟨b2, off2, none⟩) X.length c2) (.slice (some ⟨b3, off3, none⟩) Y.length c3) T X Y (tab n (braM T X Y n p i j k)) n) 18 (by kernel_rfl) (by kernel_rfl) (hst4.draws 1) ?_
                simp only [List.take_succ_cons, List.take_zero, List.drop_succ_cons, List.drop_zero]
                iterate 18
                  apply wpQuiet_op
                  · exact rfl
                  · intro w' hC
                    obtain ⟨z0, z1, z2⟩ := id hC.box
                    obtain ⟨z3, z4⟩ := hC.out.cell k (by rw [length_tab]; exact hk)
                    rw [vec_eq, vec_tab hk, braM_at] at z3
                    unfold Oper.quietAt
                    go_simp
                    first
                      | exact rfl
                      | exact ⟨rfl, rfl⟩
                      | exact (l2Get_any p n _ T i j k B _ hC.tab (Nat.le_trans hB hC.below.size) HT.out hi hj hk hn).mono fun e w'' h => ⟨h.1, hC.on hB h.2⟩
                  go_simp
                refine wpQuiet_nil (fun w' hC => ?_)
                obtain ⟨z3, z4⟩ := hC.out.cell k (by rw [length_tab]; exact hk)
                go_wp2
                go_roundw
                case rel => exact ⟨k + 1, by go_num, by omega, HSet.out _ hC⟩
                case measure => simp [intOf]; omega
              · have hend : tab n (braM T X Y n p i j k) = tab n (braF T X Y n p i (j + 1)) := by
                  by_cases hf0 : f = 0
                  · exact braM_skip T X Y n p i j k (by rw [← HF.out]; exact hf0)
                  · obtain rfl : k = n := by omega
                    exact braM_end T X Y k p i j
                have Hk := Lib.hid hk
                clear hk
                rw [hend] at hst4
                by_cases hk : k < n
                · have t2 : (f != 0) = false := by
                    have := Hk.out
                    simp; omega
                  go_wp2
                  go_roundw
                  case rel => exact ⟨j + 1, by go_num, by omega, hst4⟩
                  case measure => simp [intOf]; omega
                · go_wp2
                  go_roundw
                  case rel => exact ⟨j + 1, by go_num, by omega, hst4⟩
                  case measure => simp [intOf]; omega
          · obtain rfl : j = n := by omega
            rw [tab_congr (fun k _ => braF_end T X Y j p i k)] at hst1
            go_wp2
            go_roundw
            case rel => exact ⟨i + 1, by go_num, by omega, hst1⟩
            case measure => simp [intOf]; omega
    · obtain rfl : i = n := by omega
      go_wp2
      go_ret
      exact ⟨_, rfl, hst.out.mono (Nat.le_succ _), hst.below⟩
end Go.Proofs.Ytechjmckfedblaa
