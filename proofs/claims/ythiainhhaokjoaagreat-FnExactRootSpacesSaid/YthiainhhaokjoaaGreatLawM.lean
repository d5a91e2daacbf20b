/- The laws' helpers on slices of matrices: a copy, a comparison, a count, marks. The law's copy of a slice of matrices. -/
import Derived.Test.YthiainhhaokjoaaGreatStB
import Derived.Test.YthiainhhaokjoaaGreatLawB
namespace Go.Proofs.YthiainhhaokjoaaGreat
set_option maxRecDepth 100000
section
open Go.RowKit

def dLen : List Mt → Nat
  | [] => 0
  | m :: ms => m.d.length + dLen ms
def szMs (ms : List Mt) : Nat := ms.length + dLen ms
theorem dLen_take : ∀ (ms : List Mt) (i : Nat) (h : i < ms.length), dLen (ms.take (i + 1)) = dLen (ms.take i) + ms[i].d.length
  | m :: ms, 0, _ => by simp [dLen]
  | m :: ms, i + 1, h => by
    simp only [List.take_succ_cons, dLen, List.getElem_cons_succ]
    rw [dLen_take ms i (by simpa using h)]; omega
theorem dLen_le : ∀ (ms : List Mt) (i : Nat), dLen (ms.take i) ≤ dLen ms
  | [], i => by simp
  | m :: ms, 0 => by simp [dLen]
  | m :: ms, i + 1 => by simp only [List.take_succ_cons, dLen]; have := dLen_le ms i; omega
theorem dLen_mem (ms : List Mt) (i : Nat) (h : i < ms.length) : dLen (ms.take i) + ms[i].d.length ≤ dLen ms := by
  rw [← dLen_take ms i h]; exact dLen_le ms _
def markMs (k : Int) : List Mt → List Mt
  | [] => []
  | m :: ms => ⟨k, k + 1, k + 1 + 1, marks (k + 1 + 1 + 1) m.d.length⟩ :: markMs (k + 3 + (m.d.length : Nat)) ms
def markMsLen (ms : List Mt) : Nat := 3 * ms.length + dLen ms
/-- The number of the mark at matrix i. -/
def kAt (ms : List Mt) (i : Nat) : Nat := 3 * i + dLen (ms.take i)
theorem length_markMs : ∀ (ms : List Mt) (k : Int), (markMs k ms).length = ms.length
  | [], _ => rfl
  | m :: ms, k => by simp [markMs, length_markMs ms]
theorem markMs_get : ∀ (ms : List Mt) (k : Int) (i : Nat) (h : i < ms.length), (markMs k ms)[i]? = some ⟨k + (kAt ms i : Nat), k + (kAt ms i : Nat) + 1, k + (kAt ms i : Nat) + 1 + 1, marks (k + (kAt ms i : Nat) + 1 + 1 + 1) ms[i].d.length⟩
  | m :: ms, k, 0, _ => by simp [markMs, kAt, dLen]
  | m :: ms, k, i + 1, h => by
    have := markMs_get ms (k + 3 + (m.d.length : Nat)) i (by simpa using h)
    simp only [markMs, List.getElem?_cons_succ, this, List.getElem_cons_succ]
    have e : k + 3 + (m.d.length : Nat) + (kAt ms i : Nat) = k + (kAt (m :: ms) (i + 1) : Nat) := by
      simp only [kAt, List.take_succ_cons, dLen]; omega
    rw [e]
theorem kAt_succ (ms : List Mt) (i : Nat) (h : i < ms.length) : kAt ms (i + 1) = kAt ms i + 3 + ms[i].d.length := by
  unfold kAt; rw [dLen_take ms i h]; omega
theorem kAt_end (ms : List Mt) : kAt ms ms.length = markMsLen ms := by unfold kAt markMsLen; rw [List.take_length]
theorem kAt_le (ms : List Mt) (i : Nat) (h : i ≤ ms.length) : kAt ms i ≤ markMsLen ms := by unfold kAt markMsLen; have := dLen_le ms i; omega

/-- The first i matrices marked. -/
def markMsTo (k : Int) (ms : List Mt) (i : Nat) : List Mt := (markMs k ms).take i ++ ms.drop i
theorem markMsTo_zero (k : Int) (ms : List Mt) : markMsTo k ms 0 = ms := by simp [markMsTo]
theorem markMsTo_end (k : Int) (ms : List Mt) : markMsTo k ms ms.length = markMs k ms := by
  rw [markMsTo, List.drop_length, List.append_nil, List.take_of_length_le (by rw [length_markMs]; exact Nat.le_refl _)]
theorem length_markMsTo (k : Int) (ms : List Mt) (i : Nat) (h : i ≤ ms.length) : (markMsTo k ms i).length = ms.length := by
  simp [markMsTo, length_markMs]; omega
theorem markMsTo_get (k : Int) (ms : List Mt) (i j : Nat) (h : i ≤ ms.length) : (markMsTo k ms i)[j]? = if j < i then (markMs k ms)[j]? else ms[j]? := by
  unfold markMsTo
  rw [List.getElem?_append]
  simp only [List.length_take, length_markMs, Nat.min_eq_left h]
  split
  · rw [List.getElem?_take, if_pos (by assumption)]
  · rw [List.getElem?_drop]; congr 1; omega
theorem markMsTo_set (k : Int) (ms : List Mt) (i : Nat) (h : i < ms.length) :
    (markMsTo k ms i).set i ⟨k + (kAt ms i : Nat), k + (kAt ms i : Nat) + 1, k + (kAt ms i : Nat) + 1 + 1, marks (k + (kAt ms i : Nat) + 1 + 1 + 1) ms[i].d.length⟩ = markMsTo k ms (i + 1) := by
  apply List.ext_getElem?
  intro j
  rw [List.getElem?_set, markMsTo_get k ms i j (by omega), markMsTo_get k ms (i + 1) j (by omega), length_markMsTo k ms i (by omega)]
  by_cases e : i = j
  · subst e
    rw [if_pos rfl, if_pos h, if_pos (by omega), markMs_get ms k i h]
  · rw [if_neg e]
    by_cases h1 : j < i
    · rw [if_pos h1, if_pos (by omega)]
    · rw [if_neg h1, if_neg (by omega)]

theorem matCells_append : ∀ (us : List Value) (ms : List Mt) (vs : List Value) (zs : List Mt), us.length = ms.length → matCells (us ++ vs) (ms ++ zs) = matCells us ms ++ matCells vs zs
  | [], [], _, _, _ => rfl
  | u :: us, m :: ms, vs, zs, h => by simp only [List.cons_append, matCells]; rw [matCells_append us ms vs zs (by simpa using h)]
theorem matCells_set3 (us : List Value) (ms : List Mt) (i : Nat) (hl : us.length = ms.length) (hi : i < ms.length) (a b c : Int) (d : List Int) :
    (((matCells us ms).set (i * 4) (.int .i64 a)).set (i * 4 + 1) (.int .i64 b)).set (i * 4 + 2) (.int .i64 c) = matCells us (ms.set i ⟨a, b, c, d⟩) := by
  induction ms generalizing us i with
  | nil => simp at hi
  | cons m ms ih =>
    match us, hl with
    | u :: us, hl =>
      cases i with
      | zero => simp [matCells]
      | succ i =>
        have e : (i + 1) * 4 = i * 4 + 4 := by omega
        simp only [matCells, e, Nat.add_right_comm _ 4, List.set_cons_succ]
        rw [ih us i (by simpa using hl) (by simpa using hi)]
theorem zip_set {us : List Value} {ms : List Mt} {i : Nat} {u : Value} (hu : us[i]? = some u) (m : Mt) : (us.zip (ms.map Mt.d)).set i (u, m.d) = us.zip ((ms.set i m).map Mt.d) := by
  induction ms generalizing us i with
  | nil => simp
  | cons y ms ih =>
    match us, hu with
    | x :: us, hu =>
      cases i with
      | zero =>
        simp only [List.getElem?_cons_zero, Option.some.injEq] at hu
        subst hu; simp
      | succ i =>
        simp only [List.map_cons, List.zip_cons_cons, List.set_cons_succ]
        rw [ih (by simpa using hu)]
section
variable {w0 w : World} {L : List It}
/-- A store into a slice of the call's own. -/
theorem St.setVec (h : St w0 w L) (i : Nat) {g c e sz n : Nat} {cs : List Value} {subs : List (Value × List Int)} (hi : L[i]? = some (.vec (.slice (some ⟨g, 0, none⟩) n c) e sz n cs subs)) (k : Nat) (x : Value) :
    St w0 (w.setCell ⟨g, k, none⟩ x) (L.set i (.vec (.slice (some ⟨g, 0, none⟩) n c) e sz n (cs.set k x) subs)) := by
  obtain ⟨h1, h2⟩ := World.ownsRow.stored (h.vec i hi).1 k x
  exact h.updVec i hi (by simpa [Value.ownBlock] using h2) (fun b hb => .inl hb) h1
end

set_option maxHeartbeats 1000000 in
theorem eqMatrixS_same (v u : Value) (ms : List Mt) (w : World) (hv : MatsR w v ms) (hu : MatsR w u ms) :
    Calls Tryz.prog 12 #[v, u] w fun e w' => e = .returned (.bool true) ∧ Below w.heap.size w w' := by
  have h1 := St.start w
  obtain ⟨A, c, rfl, _, _, g3⟩ := id hv
  obtain ⟨B, d, rfl, _, _, g3'⟩ := id hu
  have HV := Lib.hid hv
  have HU := Lib.hid hu
  clear hv hu g3 g3'
  go_enter Tryz.func12, Tryz.ntmps12
  go_wp2
  go_loopw [5] (fun vi wr => ∃ i : Nat, vi = .int .i64 i ∧ i ≤ ms.length ∧ St w wr []) (fun vi _ => ms.length - (intOf vi).toNat)
  case atStart => exact ⟨0, rfl, by omega, h1⟩
  case round =>
    clear h1
    obtain ⟨i, rfl, a1, h1⟩ := hrel
    by_cases hi : i < ms.length
    · obtain ⟨b, off, A9, c9, rfl, hm⟩ := HV.out.at (i := i) hi
      obtain ⟨b', off', A8, c8, rfl, hm'⟩ := HU.out.at (i := i) hi
      have h2 := (h1.pushOld hm.fact).pushOld hm'.fact
      have i1 : (i : Int) < ms.length := by omega
      clear hm hm'
      go_wp2_with fail
      refine h2.region_tail 8 (by kernel_rfl) (by kernel_rfl) ?_
      simp only [List.take_succ_cons, List.take_zero, List.drop_succ_cons, List.drop_zero]
      iterate 8
        apply wpQuiet_op
        · exact rfl
        · intro w' hC
          obtain ⟨z0, z1, z2, z3, z4⟩ := hC.fact 0 rfl
          obtain ⟨y0, y1, y2, y3, y4⟩ := hC.fact 1 rfl
          unfold Oper.quietAt
          go_simp
          first | exact rfl | exact ⟨rfl, rfl⟩
        go_simp
      refine wpQuiet_nil (fun wn hC => ?_)
      have z4 := (hC.fact 0 rfl).2.2.2.2
      have y4 := (hC.fact 1 rfl).2.2.2.2
      replace h1 := hC.drop 2
      clear h2
      go_wp2_with fail
      refine (eqMatrix_same _ _ _ _ _ ms[i].d _ y4 z4).mono ?_
      rintro e wn ⟨rfl, hb1⟩
      replace h1 := h1.on hb1
      clear hb1
      go_wp2
      go_roundw
      case rel => exact ⟨i + 1, by go_num, by omega, h1⟩
      case measure => simp [intOf]; omega
    · obtain rfl : i = ms.length := by omega
      go_wp2
      go_ret
      exact ⟨rfl, h1.below⟩

set_option maxHeartbeats 1000000 in
theorem heldMatrixS_any (v : Value) (ms : List Mt) (k : Int) (w : World) (hv : MatsR w v (markMs k ms)) (hl : markMsLen ms ≤ 35184372088832) (hk : 0 ≤ k) (hk' : k ≤ 35184372088832) :
    Calls Tryz.prog 20 #[v, .int .i64 k] w fun e w' => e = .returned (.int .i64 (k + (markMsLen ms : Nat))) ∧ Below w.heap.size w w' := by
  have h1 := St.start w
  obtain ⟨A, c, rfl, _, _, g3⟩ := id hv
  have HV := Lib.hid hv
  clear hv g3
  rw [length_markMs]
  have HL := Lib.hid (length_markMs ms k)
  have hn' : ms.length ≤ 35184372088832 := by unfold markMsLen at hl; omega
  go_enter Tryz.func20, Tryz.ntmps20
  go_wp2
  go_loopw [1, 5] (fun vk vi wr => ∃ i : Nat, vi = .int .i64 i ∧ i ≤ ms.length ∧ vk = .int .i64 (k + (kAt ms i : Nat)) ∧ St w wr []) (fun _ vi _ => ms.length - (intOf vi).toNat)
  case atStart => exact ⟨0, rfl, by omega, by simp [kAt, dLen], h1⟩
  case round =>
    clear h1
    obtain ⟨i, rfl, a1, rfl, h1⟩ := hrel
    by_cases hi : i < ms.length
    · have hle := kAt_le ms i (by omega)
      have hle2 := kAt_le ms (i + 1) hi
      have hs := kAt_succ ms i hi
      rw [hs] at hle2
      have HS := Lib.hid hs
      obtain ⟨b, off, A9, c9, rfl, hm⟩ := HV.out.at (i := i) (by rw [HL.out]; exact hi)
      have hg := markMs_get ms k i hi
      rw [List.getElem?_eq_getElem (by rw [HL.out]; exact hi)] at hg
      have hg := Option.some.inj hg
      rw [hg] at hm
      simp only [length_marks] at hm
      have h2 := h1.pushOld hm.fact
      obtain ⟨z0, z1, z2, z3, z4⟩ := h2.fact 0 rfl
      have i1 : (i : Int) < ms.length := by omega
      clear hm h2 hs hg
      obtain ⟨q, hq⟩ : ∃ q : Int, q = k + (kAt ms i : Nat) := ⟨_, rfl⟩
      rw [← hq] at z0 z1 z2 z4 ⊢
      have q1 : 0 ≤ q := by omega
      have q2 : q + 3 + ms[i].d.length ≤ 70368744177664 := by omega
      have q3 : ms[i].d.length ≤ 35184372088832 := by omega
      have q4 : q ≤ 70368744177664 := by omega
      have HQ := Lib.hid hq
      clear hq hle hle2
      go_wp2_with fail
      refine (heldIntS_any _ ms[i].d.length _ _ z4 (by omega) (by omega) (by omega)).mono ?_
      rintro e wn ⟨rfl, rfl⟩
      go_wp2
      go_roundw
      case rel => exact ⟨i + 1, by go_num, by omega, by rw [HS.out, HQ.out]; go_num, h1⟩
      case measure => simp [intOf]; omega
    · obtain rfl : i = ms.length := by omega
      have HE := Lib.hid (kAt_end ms)
      go_wp2
      go_ret
      exact ⟨ret_int (by rw [HE.out]), h1.below⟩

set_option maxHeartbeats 1000000 in
/-- Marks in a slice of matrices of the call's own, in a call whose memory is known. -/
theorem markMatrixS_any {w0 w : World} {L : List It} (h : St w0 w L) (j : Nat) {v : Value} {us : List Value} {ms : List Mt} (hj : L[j]? = some (matsIt v us ms)) (hul : us.length = ms.length) (k : Int) (hl : markMsLen ms ≤ 35184372088832) (hk : 0 ≤ k) (hk' : k ≤ 35184372088832) :
    Calls Tryz.prog 18 #[v, .int .i64 k] w fun e w' => e = .returned (.int .i64 (k + (markMsLen ms : Nat))) ∧ St w0 w' (L.set j (matsIt v us (markMs k ms))) := by
  have hjl : j < L.length := (List.getElem?_eq_some_iff.1 hj).1
  rcases id (h.vec j hj).1.2 with ⟨rfl, h0⟩ | ⟨g, cap, cur, rfl, hb, hg, hn, hm, _⟩
  · obtain rfl : ms = [] := List.eq_nil_of_length_eq_zero h0
    clear h0 hl
    have hs : L.set j (matsIt (.slice none 0 0) us (markMs k [])) = L := by
      apply List.ext_getElem?
      intro i
      rw [List.getElem?_set]
      by_cases e : j = i
      · subst e; rw [if_pos rfl, if_pos hjl, hj]; rfl
      · rw [if_neg e]
    rw [hs]
    clear hs hj
    go_enter Tryz.func18, Tryz.ntmps18
    go_wp2
    go_loop [1, 5] (fun vk vi => vk = .int .i64 k ∧ vi = .int .i64 0) (fun _ _ => 0)
    case atStart => exact ⟨rfl, rfl⟩
    case round =>
      obtain ⟨rfl, rfl⟩ := hrel
      go_wp2
      go_ret
      exact ⟨by simp [markMsLen, dLen], h⟩
  · have hn' : ms.length ≤ 35184372088832 := by unfold markMsLen at hl; omega
    have HJ := Lib.hid hj
    have HUL := Lib.hid hul
    have h1 : St w0 w (L.set j (matsIt (.slice (some ⟨g, 0, none⟩) ms.length cap) us (markMsTo k ms 0))) := by
      rw [markMsTo_zero]
      have hs : L.set j (matsIt (.slice (some ⟨g, 0, none⟩) ms.length cap) us ms) = L := by
        apply List.ext_getElem?
        intro i
        rw [List.getElem?_set]
        by_cases e : j = i
        · subst e; rw [if_pos rfl, if_pos hjl, hj]
        · rw [if_neg e]
      rw [hs]; exact h
    clear hj hul h hm hg hb
    go_enter Tryz.func18, Tryz.ntmps18
    go_wp2
    go_loopw [1, 5] (fun vk vi wr => ∃ i : Nat, vi = .int .i64 i ∧ i ≤ ms.length ∧ vk = .int .i64 (k + (kAt ms i : Nat)) ∧ St w0 wr (L.set j (matsIt (.slice (some ⟨g, 0, none⟩) ms.length cap) us (markMsTo k ms i)))) (fun _ vi _ => ms.length - (intOf vi).toNat)
    case atStart => exact ⟨0, rfl, by omega, by simp [kAt, dLen], h1⟩
    case round =>
      clear h1
      obtain ⟨i, rfl, a1, rfl, h1⟩ := hrel
      by_cases hi : i < ms.length
      · have hle := kAt_le ms i (by omega)
        have hle2 := kAt_le ms (i + 1) hi
        have hs := kAt_succ ms i hi
        rw [hs] at hle2
        have HS := Lib.hid hs
        have i1 : (i : Int) < ms.length := by omega
        have hil : i < us.length := by rw [HUL.out]; exact hi
        have hmi : (markMsTo k ms i)[i]? = some ms[i] := by rw [markMsTo_get k ms i i a1, if_neg (by omega)]; exact List.getElem?_eq_getElem hi
        obtain ⟨u, hu⟩ : ∃ u, us[i]? = some u := ⟨us[i], List.getElem?_eq_getElem hil⟩
        have hitem : (L.set j (matsIt (.slice (some ⟨g, 0, none⟩) ms.length cap) us (markMsTo k ms i)))[j]? = some (.vec (.slice (some ⟨g, 0, none⟩) ms.length cap) 35 4 ms.length (matCells us (markMsTo k ms i)) (us.zip ((markMsTo k ms i).map Mt.d))) := by
          rw [List.getElem?_set_self hjl, matsIt, length_markMsTo k ms i a1]
        obtain ⟨q, hq⟩ : ∃ q : Int, q = k + (kAt ms i : Nat) := ⟨_, rfl⟩
        rw [← hq]
        have q1 : 0 ≤ q := by omega
        have q2 : q + 3 + ms[i].d.length ≤ 70368744177664 := by omega
        have q3 : ms[i].d.length ≤ 35184372088832 := by omega
        have q4 : q ≤ 70368744177664 := by omega
        have HQ := Lib.hid hq
        clear hq hle hle2 hs
        have c0 := h1.vecCell j hitem (i * 4) (matCells_get us _ i u _ hu hmi).1
        have c1 := h1.vecCell j hitem (i * 4 + 1) (matCells_get us _ i u _ hu hmi).2.1
        have c2 := h1.vecCell j hitem (i * 4 + 2) (matCells_get us _ i u _ hu hmi).2.2.1
        have c3 := h1.vecCell j hitem (i * 4 + 3) (matCells_get us _ i u _ hu hmi).2.2.2
        have f0 := h1.vecFree j hitem (i * 4)
        have f1 := h1.vecFree j hitem (i * 4 + 1)
        have f2 := h1.vecFree j hitem (i * 4 + 2)
        have hsub := h1.sub j hitem i (zip_get hu (by rw [List.getElem?_map, hmi]; rfl))
        obtain ⟨A9, c9, rfl, _, _, _⟩ := id hsub.ints
        have s1 := h1.setVec j hitem (i * 4) (.int .i64 q)
        rw [List.set_set] at s1
        have s2 := s1.setVec j (List.getElem?_set_self hjl) (i * 4 + 1) (.int .i64 (q + 1))
        rw [List.set_set] at s2
        have s3 := s2.setVec j (List.getElem?_set_self hjl) (i * 4 + 2) (.int .i64 (q + 1 + 1))
        rw [List.set_set, matCells_set3 us _ i (by rw [length_markMsTo k ms i a1]; exact HUL.out) (by rw [length_markMsTo k ms i a1]; exact hi) q (q + 1) (q + 1 + 1) (marks (q + 1 + 1 + 1) ms[i].d.length)] at s3
        have hsub3 := s3.sub j (List.getElem?_set_self hjl) i (zip_get hu (by rw [List.getElem?_map, hmi]; rfl))
        clear s1 s2 h1 hsub
        go_wp2_with fail
        refine (markIntS_any _ ms[i].d _ _ _ hsub3 (by omega) (by omega) (by omega)).mono ?_
        rintro e wn ⟨rfl, ho, hg⟩
        have s4 := s3.wroteSub j (List.getElem?_set_self hjl) i (zip_get hu (by rw [List.getElem?_map, hmi]; rfl)) ho hg
        rw [List.set_set, zip_set hu ⟨q, q + 1, q + 1 + 1, marks (q + 1 + 1 + 1) ms[i].d.length⟩, HQ.out, markMsTo_set k ms i hi] at s4
        clear s3 hsub3 hg ho hitem hu hmi c0 c1 c2 c3 f0 f1 f2
        go_wp2
        go_roundw
        case rel => exact ⟨i + 1, by go_num, by omega, by rw [HS.out, HQ.out]; go_num, by rw [matsIt, length_markMsTo k ms (i + 1) hi]; exact s4⟩
        case measure => simp [intOf]; omega
      · obtain rfl : i = ms.length := by omega
        have HE := Lib.hid (kAt_end ms)
        rw [markMsTo_end] at h1
        go_wp2
        go_ret
        exact ⟨ret_int (by rw [HE.out]), h1⟩
end
section
open Go.RowKit

/-- n zero matrices, as a new block holds them. -/
def madeM (n : Nat) : Array Value := madeCells (Value.agg #[.int .i64 0, .int .i64 0, .int .i64 0, .slice none 0 0]).cells (n * 4)
theorem size_madeM (n : Nat) : (madeM n).size = n * 4 := by simp [madeM, madeCells]
theorem makeM (n : Nat) (hn : n ≤ 1099511627776) (W : World) :
    (Instr.makeSlice 30 (.int .i64 (n : Int)) (.int .i64 (n : Int))).run Tryz.prog W = .ok (.slice (some ⟨W.heap.size, 0, none⟩) n n) (W.alloc (.cells (madeM n) 35)) := by
  obtain ⟨i, h1, h2, h3, h4⟩ := info_parts infoM
  have hr := run_make (P := Tryz.prog) W 30 35 i _ Tryz.underlying30 h1 h2 .i64 .i64 (n : Int) (n : Int) (by omega) (Int.le_refl _) (by rw [h4]; omega) (by omega)
  simp only [Int.toNat_natCast, h3] at hr
  exact hr
theorem set4 {X Y : List Value} {k : Nat} (a b c d : Value) (hk : X.length = k) (hY : 4 ≤ Y.length) : ((((X ++ Y).set k a).set (k + 1) b).set (k + 2) c).set (k + 3) d = X ++ [a, b, c, d] ++ Y.drop 4 := by
  subst hk
  match Y, hY with
  | y0 :: y1 :: y2 :: y3 :: Y, _ => simp [List.set_append_right]
theorem dLen_get : ∀ (ms : List Mt) (i : Nat) (h : i < ms.length), (ms[i]).d.length ≤ dLen ms
  | m :: ms, 0, _ => by simp [dLen]
  | m :: ms, i + 1, h => by
    have := dLen_get ms i (by simpa using h)
    simp only [dLen, List.getElem_cons_succ]; omega
theorem St.pushMtX {w0 w : World} {L : List It} (h : St w0 w L) {b off i : Nat} {A : Option Addr} {c : Nat} {m : Mt} (hm : MtAt w0 b (off + i * 4) m (.slice A m.d.length c)) : St w0 w (.fact (fun w' => MtAt w' b (off + i * 4) m (.slice A m.d.length c)) :: L) := h.pushOld hm.fact

end
end Go.Proofs.YthiainhhaokjoaaGreat
