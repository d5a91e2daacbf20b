/- The laws' helpers on slices of matrices: a copy, a comparison, a count, marks. The law's copy of a slice of matrices. -/
import Derived.Test.YtbnefjhljfbecaaLite
import Derived.Test.YtbnefjhljfbecaaStB
import Derived.Test.YtbnefjhljfbecaaLawB
namespace Go.Proofs.Ytbnefjhljfbecaa
set_option maxRecDepth 100000
section
open Go.RowKit

def dLen : List Mt → Nat
  | [] => 0
  | m :: ms => m.d.length + dLen ms
def szMs (ms : List Mt) : Nat := ms.length + dLen ms
theorem dLen_take : ∀ (ms : List Mt) (i : Nat) (h : i < ms.length), dLen (ms.take (i + 1)) = dLen (ms.take i) + ms[i].d.length
  | m :: ms, 0, _ => by simp [dLen]
  | m :: ms, i + 1, h => by
    simp only [List.take_succ_cons, dLen, List.getElem_cons_succ]
    rw [dLen_take ms i (by simpa using h)]; omega
theorem dLen_le : ∀ (ms : List Mt) (i : Nat), dLen (ms.take i) ≤ dLen ms
  | [], i => by simp
  | m :: ms, 0 => by simp [dLen]
  | m :: ms, i + 1 => by simp only [List.take_succ_cons, dLen]; have := dLen_le ms i; omega
theorem dLen_mem (ms : List Mt) (i : Nat) (h : i < ms.length) : dLen (ms.take i) + ms[i].d.length ≤ dLen ms := by
  rw [← dLen_take ms i h]; exact dLen_le ms _
def markMs (k : Int) : List Mt → List Mt
  | [] => []
  | m :: ms => ⟨k, k + 1, k + 1 + 1, marks (k + 1 + 1 + 1) m.d.length⟩ :: markMs (k + 3 + (m.d.length : Nat)) ms
def markMsLen (ms : List Mt) : Nat := 3 * ms.length + dLen ms
/-- The number of the mark at matrix i. -/
def kAt (ms : List Mt) (i : Nat) : Nat := 3 * i + dLen (ms.take i)
theorem length_markMs : ∀ (ms : List Mt) (k : Int), (markMs k ms).length = ms.length
  | [], _ => rfl
  | m :: ms, k => by simp [markMs, length_markMs ms]
theorem markMs_get : ∀ (ms : List Mt) (k : Int) (i : Nat) (h : i < ms.length), (markMs k ms)[i]? = some ⟨k + (kAt ms i : Nat), k + (kAt ms i : Nat) + 1, k + (kAt ms i : Nat) + 1 + 1, marks (k + (kAt ms i : Nat) + 1 + 1 + 1) ms[i].d.length⟩
  | m :: ms, k, 0, _ => by simp [markMs, kAt, dLen]
  | m :: ms, k, i + 1, h => by
    have := markMs_get ms (k + 3 + (m.d.length : Nat)) i (by simpa using h)
    simp only [markMs, List.getElem?_cons_succ, this, List.getElem_cons_succ]
    have e : k + 3 + (m.d.length : Nat) + (kAt ms i : Nat) = k + (kAt (m :: ms) (i + 1) : Nat) := by
      simp only [kAt, List.take_succ_cons, dLen]; omega
    rw [e]
theorem kAt_succ (ms : List Mt) (i : Nat) (h : i < ms.length) : kAt ms (i + 1) = kAt ms i + 3 + ms[i].d.length := by
  unfold kAt; rw [dLen_take ms i h]; omega
theorem kAt_end (ms : List Mt) : kAt ms ms.length = markMsLen ms := by unfold kAt markMsLen; rw [List.take_length]
theorem kAt_le (ms : List Mt) (i : Nat) (h : i ≤ ms.length) : kAt ms i ≤ markMsLen ms := by unfold kAt markMsLen; have := dLen_le ms i; omega

/-- The first i matrices marked. -/
def markMsTo (k : Int) (ms : List Mt) (i : Nat) : List Mt := (markMs k ms).take i ++ ms.drop i
theorem markMsTo_zero (k : Int) (ms : List Mt) : markMsTo k ms 0 = ms := by simp [markMsTo]
theorem markMsTo_end (k : Int) (ms : List Mt) : markMsTo k ms ms.length = markMs k ms := by
  rw [markMsTo, List.drop_length, List.append_nil, List.take_of_length_le (by rw [length_markMs]; exact Nat.le_refl _)]
theorem length_markMsTo (k : Int) (ms : List Mt) (i : Nat) (h : i ≤ ms.length) : (markMsTo k ms i).length = ms.length := by
  simp [markMsTo, length_markMs]; omega
theorem markMsTo_get (k : Int) (ms : List Mt) (i j : Nat) (h : i ≤ ms.length) : (markMsTo k ms i)[j]? = if j < i then (markMs k ms)[j]? else ms[j]? := by
  unfold markMsTo
  rw [List.getElem?_append]
  simp only [List.length_take, length_markMs, Nat.min_eq_left h]
  split
  · rw [List.getElem?_take, if_pos (by assumption)]
  · rw [List.getElem?_drop]; congr 1; omega
theorem markMsTo_set (k : Int) (ms : List Mt) (i : Nat) (h : i < ms.length) :
    (markMsTo k ms i).set i ⟨k + (kAt ms i : Nat), k + (kAt ms i : Nat) + 1, k + (kAt ms i : Nat) + 1 + 1, marks (k + (kAt ms i : Nat) + 1 + 1 + 1) ms[i].d.length⟩ = markMsTo k ms (i + 1) := by
  apply List.ext_getElem?
  intro j
  rw [List.getElem?_set, markMsTo_get k ms i j (by omega), markMsTo_get k ms (i + 1) j (by omega), length_markMsTo k ms i (by omega)]
  by_cases e : i = j
  · subst e
    rw [if_pos rfl, if_pos h, if_pos (by omega), markMs_get ms k i h]
  · rw [if_neg e]
    by_cases h1 : j < i
    · rw [if_pos h1, if_pos (by omega)]
    · rw [if_neg h1, if_neg (by omega)]

theorem matCells_append : ∀ (us : List Value) (ms : List Mt) (vs : List Value) (zs : List Mt), us.length = ms.length → matCells (us ++ vs) (ms ++ zs) = matCells us ms ++ matCells vs zs
  | [], [], _, _, _ => rfl
  | u :: us, m :: ms, vs, zs, h => by simp only [List.cons_append, matCells]; rw [matCells_append us ms vs zs (by simpa using h)]
theorem matCells_set3 (us : List Value) (ms : List Mt) (i : Nat) (hl : us.length = ms.length) (hi : i < ms.length) (a b c : Int) (d : List Int) :
    (((matCells us ms).set (i * 4) (.int .i64 a)).set (i * 4 + 1) (.int .i64 b)).set (i * 4 + 2) (.int .i64 c) = matCells us (ms.set i ⟨a, b, c, d⟩) := by
  induction ms generalizing us i with
  | nil => simp at hi
  | cons m ms ih =>
    match us, hl with
    | u :: us, hl =>
      cases i with
      | zero => simp [matCells]
      | succ i =>
        have e : (i + 1) * 4 = i * 4 + 4 := by omega
        simp only [matCells, e, Nat.add_right_comm _ 4, List.set_cons_succ]
        rw [ih us i (by simpa using hl) (by simpa using hi)]
theorem zip_set {us : List Value} {ms : List Mt} {i : Nat} {u : Value} (hu : us[i]? = some u) (m : Mt) : (us.zip (ms.map Mt.d)).set i (u, m.d) = us.zip ((ms.set i m).map Mt.d) := by
  induction ms generalizing us i with
  | nil => simp
  | cons y ms ih =>
    match us, hu with
    | x :: us, hu =>
      cases i with
      | zero =>
        simp only [List.getElem?_cons_zero, Option.some.injEq] at hu
        subst hu; simp
      | succ i =>
        simp only [List.map_cons, List.zip_cons_cons, List.set_cons_succ]
        rw [ih (by simpa using hu)]
section
variable {w0 w : World} {L : List It}
end

end
section
open Go.RowKit

/-- n zero matrices, as a new block holds them. -/
def madeM (n : Nat) : Array Value := madeCells (Value.agg #[.int .i64 0, .int .i64 0, .int .i64 0, .slice none 0 0]).cells (n * 4)
theorem size_madeM (n : Nat) : (madeM n).size = n * 4 := by simp [madeM, madeCells]
theorem makeM (n : Nat) (hn : n ≤ 1099511627776) (W : World) :
    (Instr.makeSlice 24 (.int .i64 (n : Int)) (.int .i64 (n : Int))).run Try.prog W = .ok (.slice (some ⟨W.heap.size, 0, none⟩) n n) (W.alloc (.cells (madeM n) 35)) := by
  obtain ⟨i, h1, h2, h3, h4⟩ := info_parts infoM
  have hr := run_make (P := Try.prog) W 24 35 i _ Try.underlying24 h1 h2 .i64 .i64 (n : Int) (n : Int) (by omega) (Int.le_refl _) (by rw [h4]; omega) (by omega)
  simp only [Int.toNat_natCast, h3] at hr
  exact hr
theorem set4 {X Y : List Value} {k : Nat} (a b c d : Value) (hk : X.length = k) (hY : 4 ≤ Y.length) : ((((X ++ Y).set k a).set (k + 1) b).set (k + 2) c).set (k + 3) d = X ++ [a, b, c, d] ++ Y.drop 4 := by
  subst hk
  match Y, hY with
  | y0 :: y1 :: y2 :: y3 :: Y, _ => simp [List.set_append_right]
theorem dLen_get : ∀ (ms : List Mt) (i : Nat) (h : i < ms.length), (ms[i]).d.length ≤ dLen ms
  | m :: ms, 0, _ => by simp [dLen]
  | m :: ms, i + 1, h => by
    have := dLen_get ms i (by simpa using h)
    simp only [dLen, List.getElem_cons_succ]; omega
theorem St.pushMtX {w0 w : World} {L : List It} (h : St w0 w L) {b off i : Nat} {A : Option Addr} {c : Nat} {m : Mt} (hm : MtAt w0 b (off + i * 4) m (.slice A m.d.length c)) : St w0 w (.fact (fun w' => MtAt w' b (off + i * 4) m (.slice A m.d.length c)) :: L) := h.pushOld hm.fact

end
end Go.Proofs.Ytbnefjhljfbecaa
