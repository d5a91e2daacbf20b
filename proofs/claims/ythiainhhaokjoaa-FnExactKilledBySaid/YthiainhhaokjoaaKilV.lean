/- KilledBy: its answer; a slice of matrices that borrows their numbers. -/
import Derived.Test.YthiainhhaokjoaaKilP
import Derived.Test.YthiainhhaokjoaaModS
namespace Go.Proofs.Ythiainhhaokjoaa
set_option maxRecDepth 100000
open Go.RowKit

def kbOk (p n : Int) (T : List Int) (ms : List Mt) (els : List Int) : Bool := isMod p n T ms && els.all fun e => inR e 0 (n - 1)
def kbL (p : Int) (ms : List Mt) (els : List Int) : List (List Int) := kilS p (mAt ms 0).r.toNat (picL (ms.map Mt.d) els) els.length
def kbP (p n : Int) (T : List Int) (ms : List Mt) (els : List Int) : Int := if kbOk p n T ms els then p else 0
def kbR (p n : Int) (T : List Int) (ms : List Mt) (els : List Int) : Int := if kbOk p n T ms els then (kbL p ms els).length else 0
def kbC (p n : Int) (T : List Int) (ms : List Mt) (els : List Int) : Int := if kbOk p n T ms els then (mAt ms 0).r else 0
def kbD (p n : Int) (T : List Int) (ms : List Mt) (els : List Int) : List Int := if kbOk p n T ms els then flat (mAt ms 0).r.toNat (kbL p ms els) else []
theorem kbD_bd (p n : Int) (T : List Int) (ms : List Mt) (els : List Int) : (kbD p n T ms els).length ≤ 900 := by
  unfold kbD
  split
  · rename_i h
    rw [kbOk, Bool.and_eq_true] at h
    obtain ⟨N, s, _, _, _, hs, hs30, hA, _⟩ := isMod_all h.1
    obtain ⟨_, _, _, _, _, _, _, hP⟩ := algOk_spec hA
    rw [length_flat, hs, Int.toNat_natCast]
    have hl : (kbL p ms els).length ≤ s := by rw [kbL, hs, Int.toNat_natCast]; exact kilS_le hP s _ _
    exact mul_le (Nat.le_trans hl hs30) hs30
  · simp
/-- The picked matrices. -/
def kbM (ms : List Mt) (els : List Int) : List Mt := els.map fun e => mAt ms e.toNat
theorem length_kbM (ms : List Mt) (els : List Int) : (kbM ms els).length = els.length := List.length_map _
theorem kbM_d (ms : List Mt) (els : List Int) : (kbM ms els).map Mt.d = picL (ms.map Mt.d) els := by
  rw [kbM, picL, List.map_map]
  refine List.map_congr_left fun e _ => ?_
  simp only [Function.comp, mAt, rowOf, List.getD_eq_getElem?_getD, List.getElem?_map]
  cases ms[e.toNat]? <;> rfl
theorem kbM_take {ms : List Mt} {els : List Int} {i : Nat} (hi : i < els.length) : (kbM ms els).take (i + 1) = (kbM ms els).take i ++ [mAt ms (Go.Proofs.Ythiainhhaokjoaa.vec els i).toNat] := by
  have h : i < (kbM ms els).length := by rw [length_kbM]; exact hi
  rw [List.take_succ_eq_append_getElem h]
  simp [kbM, Go.Proofs.Ythiainhhaokjoaa.vec, List.getD_eq_getElem?_getD, hi]
theorem mAt_kbM {ms : List Mt} {els : List Int} {i : Nat} (hi : i < els.length) : mAt (kbM ms els) i = mAt ms (Go.Proofs.Ythiainhhaokjoaa.vec els i).toNat := by
  rw [← mAt_get (by rw [length_kbM]; exact hi)]
  simp [kbM, Go.Proofs.Ythiainhhaokjoaa.vec, List.getD_eq_getElem?_getD, hi]
theorem vec_mem {l : List Int} {i : Nat} (hi : i < l.length) : Go.Proofs.Ythiainhhaokjoaa.vec l i ∈ l := by
  simp [Go.Proofs.Ythiainhhaokjoaa.vec, List.getD_eq_getElem?_getD, hi]

/-- A slice of matrices that borrows their numbers. -/
def borIt (v : Value) (us : List Value) (ms : List Mt) : It := .vec v 40 4 ms.length (matCells us ms) []
theorem It.bor {B : Nat} {w : World} {v : Value} {us : List Value} {ms : List Mt} (h : (borIt v us ms).ok B w) (hl : us.length = ms.length) (hr : ∀ (i : Nat) (u : Value) (m : Mt), us[i]? = some u → ms[i]? = some m → Ints w u m.d) : MatsR w v ms := by
  obtain ⟨h1, _⟩ := h
  rcases id h1.2 with ⟨rfl, h0⟩ | ⟨g, cap, cur, rfl, hb, hg, hn, hm, _⟩
  · obtain rfl : ms = [] := List.eq_nil_of_length_eq_zero h0
    exact ⟨none, 0, rfl, by simp, by simp, fun h => by simp at h⟩
  · refine ⟨_, cap, rfl, hn, by simpa [maxLen] using hm, fun _ => ⟨g, 0, rfl, fun i m hi => ?_⟩⟩
    have hil := (List.getElem?_eq_some_iff.1 hi).1
    have hu : us[i]? = some (us[i]'(by omega)) := List.getElem?_eq_getElem _
    obtain ⟨k0, k1, k2, k3⟩ := matCells_get us ms i _ m hu hi
    have at_ : ∀ k, k < 4 → w.cell? ⟨g, 0 + i * 4 + k, none⟩ = (matCells us ms)[i * 4 + k]? := fun k hk => by
      rw [Nat.zero_add]; exact World.ownsRow.cellAt h1 _ (by omega)
    exact ⟨by rw [show 0 + i * 4 = 0 + i * 4 + 0 from rfl, at_ 0 (by omega)]; exact k0, (at_ 1 (by omega)).trans k1, (at_ 2 (by omega)).trans k2, _, (at_ 3 (by omega)).trans k3, hr i _ m hu hi⟩
theorem wp_append_bor {w0 w : World} {L : List It} {ops : Array Oper} {rest : List Oper} {o : Oper} {a : Act} {Q : Exit → Act → World → Prop} (hgd : o.guard = none) (s x : Operand)
    (ho : o.op = .call { callee := .builtin .append, args := #[s, x], argTypes := #[29, 29] }) {u v : Value} (m : Mt) {us : List Value} {ms : List Mt} (h : St w0 w L) (j : Nat) (hj : L[j]? = some (borIt v us ms)) (hul : us.length = ms.length) (hu : u.oneCell' = true)
    (hs : a.eval s = v) (hx : a.eval x = .slice (some ⟨w.heap.size, 0, none⟩) 1 1) (hlen : ms.length + 1 ≤ 1099511627776)
    (hk : ∀ v' w', St w0 w' (L.set j (borIt v' (us ++ [u]) (ms ++ [m]))) → wpList Try.prog ops Q rest (a.put o.dst v') w') : wpList Try.prog ops Q (o :: rest) a (w.alloc (.cells #[.int .i64 m.p, .int .i64 m.r, .int .i64 m.c, u] 40)) := by
  obtain ⟨i, h1, h2, h3, h4⟩ := info_parts infoM
  refine wp_append_vec hgd s x 29 40 4 48 i _ ho Try.underlying29 h1 h2 h3 h4 rfl (by decide) h j hj [.int .i64 m.p, .int .i64 m.r, .int .i64 m.c, u] rfl (by
    intro y hy
    simp only [List.mem_cons, List.not_mem_nil, or_false] at hy
    rcases hy with rfl | rfl | rfl | rfl
    · rfl
    · rfl
    · rfl
    · exact hu) hs hx (by simp only [maxLen]; omega) (by omega) fun v' w' hst => hk v' w' ?_
  have e : borIt v' (us ++ [u]) (ms ++ [m]) = .vec v' 40 4 (ms.length + 1) (matCells us ms ++ [.int .i64 m.p, .int .i64 m.r, .int .i64 m.c, u]) [] := by
    unfold borIt; rw [matCells_snoc us ms u m hul]; simp
  rw [e]; exact hst
/-- What the values of a borrowing slice read as. -/
def Bor (w : World) (us : List Value) (ms : List Mt) : Prop := us.length = ms.length ∧ ∀ (i : Nat) (u : Value) (m : Mt), us[i]? = some u → ms[i]? = some m → Ints w u m.d
theorem Bor.nil (w : World) : Bor w [] [] := ⟨rfl, fun i u m h => by simp at h⟩
theorem Bor.snoc {w : World} {us : List Value} {ms : List Mt} (h : Bor w us ms) {u : Value} {m : Mt} (hu : Ints w u m.d) : Bor w (us ++ [u]) (ms ++ [m]) := by
  obtain ⟨hl, hr⟩ := h
  refine ⟨by simp [hl], fun i x y h1 h2 => ?_⟩
  rcases Nat.lt_trichotomy i us.length with e | e | e
  · rw [List.getElem?_append_left e] at h1
    rw [List.getElem?_append_left (by omega)] at h2
    exact hr i x y h1 h2
  · rw [List.getElem?_append_right (by omega), show i - us.length = 0 by omega] at h1
    rw [List.getElem?_append_right (by omega), show i - ms.length = 0 by omega] at h2
    simp only [List.getElem?_cons_zero, Option.some.injEq] at h1 h2
    subst h1; subst h2; exact hu
  · have := (List.getElem?_eq_some_iff.1 h1).1
    simp at this; omega
theorem Bor.mats {w0 w : World} {L : List It} {us : List Value} {ms : List Mt} (hb : Bor w0 us ms) (h : St w0 w L) (j : Nat) {v : Value} (hj : L[j]? = some (borIt v us ms)) : MatsR w v ms :=
  It.bor (h.at j hj) hb.1 fun i u m h1 h2 => (hb.2 i u m h1 h2).below h.below
theorem St.emptyBor {w0 w : World} {L : List It} (h : St w0 w L) : St w0 (w.alloc (.cells #[] 40)) (borIt (.slice (some ⟨w.heap.size, 0, none⟩) 0 0) [] [] :: L) := h.emptyMats
end Go.Proofs.Ythiainhhaokjoaa
