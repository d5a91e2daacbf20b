/- span of the program: the reduced rows of some rows. The program's space and product: the space of the sums of brackets. -/
import Derived.Test.YtbnefjhljfbecaaReduce
import Derived.Test.YtbnefjhljfbecaaNum
import Derived.Test.YtbnefjhljfbecaaMatO
namespace Go.Proofs.Ytbnefjhljfbecaa
set_option maxRecDepth 100000
section
open Go.RowKit

theorem owns_take {w : World} {B e sz n c k : Nat} {A : Option Addr} {xs : List Value} (h : w.ownsRow B e sz (.slice A n c) n xs) (hk : k ≤ n) : w.ownsRow B e sz (.slice A k c) k (xs.take (k * sz)) := by
  obtain ⟨h1, h2⟩ := h
  have hm := Nat.mul_le_mul_right sz hk
  refine ⟨by rw [List.length_take, h1]; omega, ?_⟩
  rcases h2 with ⟨he, h0⟩ | ⟨g, cap, cur, he, hb, hh, hn, hM, hs, ht⟩
  · simp only [Value.slice.injEq] at he
    obtain ⟨rfl, _, rfl⟩ := he
    obtain rfl : k = 0 := by omega
    exact .inl ⟨rfl, rfl⟩
  · simp only [Value.slice.injEq] at he
    obtain ⟨rfl, _, rfl⟩ := he
    refine .inr ⟨g, c, cur, rfl, hb, hh, by omega, hM, hs, ?_⟩
    rw [← ht, List.take_take, Nat.min_eq_left hm]
section
variable {w0 w : World} {L : List It}
theorem St.takeOwn (h : St w0 w L) (i : Nat) {A : Option Addr} {n c : Nat} {l : List Int} (hi : L[i]? = some (.own (.slice A n c) l)) (hn : n = l.length) (k : Nat) (hk : k ≤ n) : St w0 w (L.set i (.own (.slice A k c) (l.take k))) := by
  subst hn
  have ho := h.own i hi
  have h2 : Own w w0.heap.size (.slice A k c) (l.take k) := by
    have := owns_take (k := k) (show w.ownsRow w0.heap.size 3 1 (.slice A l.length c) l.length (l.map (Value.int .i64)) from ho) hk
    show w.ownsRow w0.heap.size 3 1 (.slice A k c) (l.take k).length ((l.take k).map (Value.int .i64))
    rw [List.length_take, Nat.min_eq_left hk, List.map_take]
    rwa [Nat.mul_one] at this
  have e : (Value.slice A k c).ownBlock = (Value.slice A l.length c).ownBlock := by cases A <;> rfl
  exact h.upd i hi (Nat.le_refl _) rfl rfl rfl (fun _ _ _ => rfl) h2 (fun b hb => .inl (by simpa [It.fp, e] using hb)) (nodup_own _)
theorem St.takeRows (h : St w0 w L) (i : Nat) {A : Option Addr} {n c : Nat} {us : List Value} {ll : List (List Int)} (hi : L[i]? = some (rowsIt (.slice A n c) us ll)) (_hul : us.length = ll.length) (hn : n = ll.length) (k : Nat) (hk : k ≤ n) : St w0 w (L.set i (rowsIt (.slice A k c) (us.take k) (ll.take k))) := by
  subst hn
  obtain ⟨h1, h2⟩ := h.vec i hi
  have hnd := h.vecNodup i hi
  have e : (Value.slice A k c).ownBlock = (Value.slice A ll.length c).ownBlock := by cases A <;> rfl
  have hz : (us.take k).zip (ll.take k) = (us.zip ll).take k := by simp [List.zip, List.take_zipWith]
  have hlt : (ll.take k).length = k := by rw [List.length_take, Nat.min_eq_left hk]
  have hsub : ((us.zip ll).take k).flatMap (fun s => s.1.ownBlock.toList) |>.Sublist ((us.zip ll).flatMap fun s => s.1.ownBlock.toList) := by
    conv => rhs; rw [← List.take_append_drop k (us.zip ll)]
    rw [List.flatMap_append]
    exact List.sublist_append_left _ _
  refine h.upd i hi (Nat.le_refl _) rfl rfl rfl (fun _ _ _ => rfl) ?_ (fun b hb => .inl ?_) ?_
  · rw [rowsIt, hlt, hz]
    have := owns_take h1 hk
    rw [Nat.mul_one] at this
    exact ⟨this, fun s hs => h2 s (List.mem_of_mem_take hs)⟩
  · unfold rowsIt at hb ⊢
    rw [hz] at hb
    simp only [It.fp, List.mem_append, e] at hb ⊢
    exact hb.imp id fun h => hsub.subset h
  · unfold rowsIt at hnd ⊢
    rw [hz]
    simp only [It.fp, e] at hnd ⊢
    exact hnd.sublist ((List.Sublist.refl _).append hsub)
end
theorem sliceR : Try.prog.underlying 49 = some (.slice (Try.prog.elem 49)) := by kernel_rfl
theorem infoRR : (Try.prog.info? (Try.prog.elem 49)).map (fun i => (i.zero, i.size, i.bytes)) = some (some (.slice none 0 0), 1, 24) := by kernel_rfl
theorem cutRows (A : Option Addr) (n c k : Nat) (hk : k ≤ n) (hc : n ≤ c) (W : World) : (Instr.sliceAt 49 (.slice A n c) none (some (.int .i64 (k : Int))) none).run Try.prog W = .ok (.slice A k c) W := by
  obtain ⟨i, h1, _, h3, _⟩ := info_parts infoRR
  rw [run_sliceAt_slice W _ _ _ _ _ sliceR, run_slice_h W _ A n c sliceR .i64 k (by omega) (by omega)]
  cases A <;> simp [sizeOf, typeInfo, h1, h3, sliced, Result.andThen, Addr.add]

end
section
open Go.RowKit

theorem Wf.spanL {p : Int} (hp : isPrime p = true) {n : Nat} {ll : List (List Int)} (h : Wf p n ll) : Wf p n (spanL p n ll) := by
  intro i hi
  have hok := reduceL_ok (p := p) (by have := isPrime_bd hp; omega) h
  have hk : i < (reduceL p n ll).2.length := by
    have := hi
    unfold Go.Proofs.Ytbnefjhljfbecaa.spanL at this
    rw [List.length_take] at this
    omega
  have e : rowOf (Go.Proofs.Ytbnefjhljfbecaa.spanL p n ll) i = rowOf (reduceL p n ll).1 i := by
    simp only [Go.Proofs.Ytbnefjhljfbecaa.spanL, rowOf, List.getD_eq_getElem?_getD, List.getElem?_take, if_pos hk]
  rw [e]
  refine hok.wf i ?_
  have := hok.len
  have := hok.piv
  omega
theorem spanL_le {p : Int} (hp : isPrime p = true) {n : Nat} {ll : List (List Int)} (h : Wf p n ll) : (spanL p n ll).length ≤ ll.length := by
  have hok := reduceL_ok (p := p) (by have := isPrime_bd hp; omega) h
  unfold spanL
  rw [List.length_take]
  have := hok.piv
  omega
/-- The space of some rows, as numbers laid one behind the other. -/
def spanM (p : Int) (n : Nat) (ll : List (List Int)) : List Int := flat n (spanL p n ll)
theorem length_spanM (p : Int) (n : Nat) (ll : List (List Int)) : (spanM p n ll).length = (spanL p n ll).length * n := length_flat _ _
theorem resid_spanM {p : Int} (hp : isPrime p = true) {n : Nat} {ll : List (List Int)} (h : Wf p n ll) : resid p (spanM p n ll) = true := resid_flat (by have := isPrime_bd hp; omega) (h.spanL hp)
theorem total_wf {p : Int} {n : Nat} {ll : List (List Int)} (h : Wf p n ll) : total ll = ll.length * n := by
  rw [← length_flatten', ← flat_flatten h, length_flat]

end
end Go.Proofs.Ytbnefjhljfbecaa
