/- The reference's series of an algebra. -/
import Derived.Test.YtbnefjhljfbecaaSpaceA
import Derived.Test.YtbnefjhljfbecaaArith
namespace Go.Proofs.Ytbnefjhljfbecaa
set_option maxRecDepth 100000
open Go.RowKit

/-- A piece goes to the front. -/
theorem St.front {w0 w : World} {L : List It} (h : St w0 w L) (i : Nat) {x : It} (hi : L[i]? = some x) : St w0 w (x :: L.eraseIdx i) := by
  have hil := (List.getElem?_eq_some_iff.1 hi).1
  have key : ∀ (j : Nat) (z : It), (x :: L.eraseIdx i)[j]? = some z → L[if j = 0 then i else if j - 1 < i then j - 1 else j]? = some z := fun j z hz => by
    cases j with
    | zero => simpa [hi] using hz
    | succ j =>
      rw [List.getElem?_cons_succ, List.getElem?_eraseIdx] at hz
      simp only [Nat.add_sub_cancel, Nat.succ_ne_zero, if_false]
      split
      · rename_i e; rw [if_pos e] at hz; exact hz
      · rename_i e; rw [if_neg e] at hz; exact hz
  refine ⟨h.below, fun z hz => ?_, fun j k a b ha hb c h1 h2 => ?_, fun z hz => ?_⟩
  · obtain ⟨j, hj⟩ := List.getElem?_of_mem hz
    exact h.at _ (key j z hj)
  · have e := h.apart _ _ a b (key j a ha) (key k b hb) c h1 h2
    split at e <;> split at e <;> (try split at e) <;> (try split at e) <;> omega
  · obtain ⟨j, hj⟩ := List.getElem?_of_mem hz
    exact h.vecNodup _ (key j z hj)
/-- A piece is let go. -/
theorem St.erase {w0 w : World} {L : List It} (h : St w0 w L) (i : Nat) : St w0 w (L.eraseIdx i) := by
  by_cases hi : i < L.length
  · exact (h.front i (List.getElem?_eq_getElem hi)).drop 1
  · rw [List.eraseIdx_of_length_le (by omega)]; exact h
/-- A slice of one matrix, written out: the matrix's numbers go over to it. -/
theorem St.litMat {w0 w : World} {L : List It} {u : Value} {D : List Int} (h : St w0 w (.own u D :: L)) (p r c : Int) :
    St w0 (w.alloc (.cells #[.int .i64 p, .int .i64 r, .int .i64 c, u] 35)) (matsIt (.slice (some ⟨w.heap.size, 0, none⟩) 1 1) [u] [⟨p, r, c, D⟩] :: L) := by
  have h2 : St w0 (w.alloc (.cells #[.int .i64 p, .int .i64 r, .int .i64 c, u] 35)) (.vec (.slice (some ⟨w.heap.size, 0, none⟩) 1 1) 35 4 1 [.int .i64 p, .int .i64 r, .int .i64 c, u] [] :: .own u D :: L) :=
    h.push ((Below.refl _ _).alloc (Nat.le_refl _) _) ⟨World.ownsRow_lit (base := w0.heap.size) (e := 35) (size := 4) w #[.int .i64 p, .int .i64 r, .int .i64 c, u] 1 h.size (by simp [maxLen]) rfl, fun s hs => by cases hs⟩ (fun b hb => by simp [It.fp, Value.ownBlock] at hb; omega) (by simp [It.fp, Value.ownBlock])
  exact h2.swap2.absorb 0 rfl
/-- One matrix's numbers in a slice of the call's own. -/
theorem St.matInts {w0 w : World} {L : List It} (h : St w0 w L) (i : Nat) {v u : Value} {us : List Value} {ms : List Mt} {m : Mt} (hi : L[i]? = some (matsIt v us ms)) (j : Nat) (hu : us[j]? = some u) (hm : ms[j]? = some m) : Ints w u m.d :=
  Own.ints ((h.at i hi).2 (u, m.d) (List.mem_of_getElem? (zip_get hu (by rw [List.getElem?_map, hm]; rfl))))
theorem serMs_app (p : Int) (n : Nat) (pre : List (List (List Int))) (R : List (List Int)) : serMs p n (pre ++ [R]) = serMs p n pre ++ [spMt p n R] := by simp [serMs]
theorem length_serMs (p : Int) (n : Nat) (l : List (List (List Int))) : (serMs p n l).length = l.length := by simp [serMs]
theorem spMt_uni (p : Int) (n : Nat) : spMt p n (uniR n) = ⟨p, n, n, unitD n⟩ := by rw [spMt, length_uniR, flat_uniR]
theorem stepS_len {k : Bool} {T : List Int} {n : Nat} {p : Int} (hP : isPrime p = true) {R : List (List Int)} (h : SerOk k T n p R) : (stepS k T n p R).length ≤ n := (h.next hP).le_n (isPrime_bd hP).1

/-- What is left of a run of a series' loop. -/
def SerRun (k : Bool) (T : List Int) (n : Nat) (p : Int) (pre : List (List (List Int))) (R : List (List Int)) (G : List Mt) : Prop := SerAt k T n p pre R ∧ G = serMs p n (serL k T n p)

theorem stepS_low (T : List Int) (n : Nat) (p : Int) (R : List (List Int)) : stepS true T n p R = spanL p n (prodL T n p n (unitD n) R.length (flat n R)) := by
  show spanL p n (brR T n p (uniR n) R) = _
  rw [brR, length_uniR, flat_uniR]

end Go.Proofs.Ytbnefjhljfbecaa
