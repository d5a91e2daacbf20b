/- adjoint of the program, l2Adjoint and l1Rows of the reference, AdjointModule of both. -/
import Derived.Test.YtngmepodgbhbpaaMx
import Derived.Test.YtngmepodgbhbpaaLawMats
namespace Go.Proofs.Ytngmepodgbhbpaa
set_option maxRecDepth 100000
open Go.RowKit

/-- The rows of the map that brackets an element with each basis element. -/
def adRows (T U : List Int) (n : Nat) (p : Int) : List (List Int) := (List.range n).map fun j => braL T U (unitL n j) n p
theorem length_adRows (T U : List Int) (n : Nat) (p : Int) : (adRows T U n p).length = n := by simp [adRows]
theorem adRows_take (T U : List Int) (n : Nat) (p : Int) (i : Nat) (h : i < n) : (adRows T U n p).take (i + 1) = (adRows T U n p).take i ++ [braL T U (unitL n i) n p] := by
  rw [List.take_succ_eq_append_getElem (by rw [length_adRows]; exact h)]
  simp [adRows]
theorem total_adRows (T U : List Int) (n : Nat) (p : Int) : total (adRows T U n p) = n * n := by
  rw [total_const _ n (fun l hl => by
    obtain ⟨j, _, rfl⟩ := List.mem_map.1 hl
    exact length_braL _ _ _ _ _), length_adRows]
def adM (T U : List Int) (n : Nat) (p : Int) : List Int := (adRows T U n p).flatten
theorem length_adM (T U : List Int) (n : Nat) (p : Int) : (adM T U n p).length = n * n := by rw [adM, length_flatten', total_adRows]

set_option maxHeartbeats 1000000 in
theorem adjoint_any (p : Int) (n : Nat) (t u : Value) (T U : List Int) (w : World) (ht : Ints w t T) (hu : Ints w u U) (hT : T.length = n * n * n) (hU : U.length = n) (hn : n ≤ 28)
    (hp : 2 ≤ p) (hp' : p ≤ 10007) (rT : resid p T = true) (rU : resid p U = true) :
    Calls Try.prog 88 #[.agg #[.int .i64 p, .int .i64 n, t], u] w (RetMat w p n n (adM T U n p)) := by
  have h1 := ((((St.start w).arg ht).arg hu).box [.int .i64 p, .int .i64 n, t] 72).box [.int .i64 0, .int .i64 0, .int .i64 0, .slice none 0 0] 44
  replace h1 := h1.emptyRows
  simp only [World.size_alloc] at h1
  obtain ⟨A, c, rfl, _, _, _⟩ := id ht
  obtain ⟨A2, c2, rfl, _, _, _⟩ := id hu
  have HT := Lib.hid hT
  have HU := Lib.hid hU
  have hlen := length_adRows T U n p
  have HLen := Lib.hid hlen
  have htot := total_adRows T U n p
  have hnn := mul_le hn hn
  have HTot := Lib.hid htot
  have hM := fun (W : World) (v : Value) (hi : IntRows W v (adRows T U n p)) => matrixOf_any p n v (adRows T U n p) W hi (by rw [htot]; omega)
  rw [hlen] at hM
  obtain ⟨R, hR⟩ : ∃ R, R = adM T U n p := ⟨_, rfl⟩
  change ∀ (W : World) (v : Value) (_ : IntRows W v (adRows T U n p)), Calls Try.prog 122 #[.int .i64 p, .int .i64 n, v] W (RetMat W p n n (adM T U n p)) at hM
  rw [← hR] at hM ⊢
  have HM := Lib.hid hM
  have HR := Lib.hid hR
  clear hT hU ht hu hlen htot hM hR
  obtain ⟨z0, z1, z2⟩ := h1.box3 2 rfl
  go_enter Try.func88, Try.ntmps88
  go_wp2
  clear z0 z1 z2
  go_loopw [5, 6, 10] (fun vo vj vi wr => ∃ (i : Nat) (us : List Value), vi = .int .i64 i ∧ i ≤ n ∧ us.length = i ∧ St w wr [rowsIt vo us ((adRows T U n p).take i), .box (w.heap.size + 1) [.int .i64 0, .int .i64 0, .int .i64 0, .slice none 0 0], .box w.heap.size [.int .i64 p, .int .i64 n, .slice A T.length c], .ro (.slice A2 U.length c2) U, .ro (.slice A T.length c) T]) (fun _ _ vi _ => n - (intOf vi).toNat)
  case atStart => exact ⟨0, [], rfl, by omega, rfl, h1⟩
  case round =>
    clear h1
    obtain ⟨i, us, rfl, a1, hul, h1⟩ := hrel
    have Hul := Lib.hid hul
    clear hul
    by_cases hi : i < n
    · have hl : us.length = ((adRows T U n p).take i).length := by rw [Hul.out, List.length_take, HLen.out]; omega
      have Hl := Lib.hid hl
      have ht1 : ((adRows T U n p).take i).length + 1 ≤ 1099511627776 := by rw [List.length_take, HLen.out]; omega
      have Ht1 := Lib.hid ht1
      have HS := Lib.hid (adRows_take T U n p i hi)
      clear hl ht1
      obtain ⟨z0, z1, z2⟩ := h1.box3 2 rfl
      go_wp2_with fail
      refine (right_any p n _ _ T U i _ _ (h1.roUp 4 rfl) (h1.roUp 3 rfl) (Nat.le_refl _) HT.out HU.out hi hn hp hp' rT rU).mono ?_
      rintro e wn ⟨u, rfl, ho, hb1⟩
      obtain ⟨A6, c6, rfl, _, _, _⟩ := id ho.ints
      replace h1 := h1.pushOwn hb1 ho
      clear ho hb1
      clear z0 z1 z2
      go_wp2_with (at_builtin; refine wp_append_row' rfl (.tmp 13) (.tmp 18) rfl h1 0 rfl Hl.out rfl rfl Ht1.out ?_; intro v1 w1 h2)
      go_roundw
      case rel => exact ⟨i + 1, us ++ [_], by go_num, by omega, by rw [List.length_append, Hul.out]; rfl, by rw [HS.out, ← rightL_eq T U n p hi]; exact h2⟩
      case measure => simp [intOf]; omega
    · obtain rfl : i = n := by omega
      rw [List.take_of_length_le (by rw [HLen.out]; exact Nat.le_refl _)] at h1
      obtain ⟨z0, z1, z2⟩ := h1.box3 2 rfl
      go_wp2_with fail
      refine (HM.out _ _ (h1.rowsR 0 rfl (by rw [Hul.out, HLen.out]))).mono ?_
      rintro e wn ⟨u, rfl, ho, hb1⟩
      obtain ⟨A7, c7, rfl, _, _, _⟩ := id ho.ints
      replace h1 := h1.pushOwn hb1 ho
      clear ho hb1
      clear z0 z1 z2
      obtain ⟨z0, z1, z2, z3⟩ := h1.box4 2 rfl
      have f0 := h1.free 2 rfl 0
      have f1 := h1.free 2 rfl 1
      have f2 := h1.free 2 rfl 2
      have f3 := h1.free 2 rfl 3
      have h2 := (((h1.setBox 2 rfl 0 (.int .i64 p)).setBox 2 rfl 1 (.int .i64 i)).setBox 2 rfl 2 (.int .i64 i)).setBox 2 rfl 3 (.slice A7 R.length c7)
      obtain ⟨r0, r1, r2, r3⟩ := h2.box4 2 rfl
      go_wp2
      refine bodyPost_ret (v := .agg #[.int .i64 p, .int .i64 i, .int .i64 i, .slice A7 R.length c7]) (by simp [results, Try.results88, go_sem, r0, r1, r2, r3]) rfl ⟨_, rfl, h2.own 0 rfl, h2.below⟩
end Go.Proofs.Ytngmepodgbhbpaa
