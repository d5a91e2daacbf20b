/- The laws' marks in rows that lie in a call whose memory is known. -/
import Derived.Test.YthiainhhaokjoaaGreatRows3
import Derived.Test.YthiainhhaokjoaaGreatLawM
namespace Go.Proofs.YthiainhhaokjoaaGreat
set_option maxRecDepth 100000
open Go.RowKit

theorem rows_zip_set : ∀ {us : List Value} {ls : List (List Int)} {i : Nat} {u : Value}, us[i]? = some u → ∀ l : List Int, (us.zip ls).set i (u, l) = us.zip (ls.set i l)
  | [], _, _, _, h, _ => by simp at h
  | _ :: _, [], _, _, _, _ => by simp
  | a :: us, b :: ls, 0, u, h, l => by
    simp only [List.getElem?_cons_zero, Option.some.injEq] at h
    subst h; rfl
  | a :: us, b :: ls, i + 1, u, h, l => by
    simp only [List.getElem?_cons_succ] at h
    simp only [List.zip_cons_cons, List.set_cons_succ]
    rw [rows_zip_set h l]

set_option maxHeartbeats 1000000 in
/-- Marks in rows of the call's own, in a call whose memory is known. -/
theorem markIntSS_st {w0 w : World} {L : List It} (h : St w0 w L) (j : Nat) {v : Value} {us : List Value} {ll : List (List Int)} (hj : L[j]? = some (rowsIt v us ll)) (hul : us.length = ll.length) (k : Int) (hl : total ll ≤ 35184372088832) (hn' : ll.length ≤ 35184372088832) (hk : 0 ≤ k) (hk' : k ≤ 35184372088832) :
    Calls Tryz.prog 17 #[v, .int .i64 k] w fun e w' => e = .returned (.int .i64 (k + (total ll : Nat))) ∧ St w0 w' (L.set j (rowsIt v us (markRows k ll))) := by
  have hjl : j < L.length := (List.getElem?_eq_some_iff.1 hj).1
  rcases id (h.vec j hj).1.2 with ⟨rfl, h0⟩ | ⟨g, cap, cur, rfl, hb, hg, hn, hm, _⟩
  · obtain rfl : ll = [] := List.eq_nil_of_length_eq_zero h0
    clear h0 hl
    have hs : L.set j (rowsIt (.slice none 0 0) us (markRows k [])) = L := by
      apply List.ext_getElem?
      intro i
      rw [List.getElem?_set]
      by_cases e : j = i
      · subst e; rw [if_pos rfl, if_pos hjl, hj]; rfl
      · rw [if_neg e]
    rw [hs]
    clear hs hj
    go_enter Tryz.func17, Tryz.ntmps17
    go_wp2
    go_loop [1, 5] (fun vk vi => vk = .int .i64 k ∧ vi = .int .i64 0) (fun _ _ => 0)
    case atStart => exact ⟨rfl, rfl⟩
    case round =>
      obtain ⟨rfl, rfl⟩ := hrel
      go_wp2
      go_ret
      exact ⟨by simp [total], h⟩
  · have HJ := Lib.hid hj
    have HUL := Lib.hid hul
    have h1 : St w0 w (L.set j (rowsIt (.slice (some ⟨g, 0, none⟩) ll.length cap) us (markRowsTo k ll 0))) := by
      rw [markRowsTo_zero]
      have hs : L.set j (rowsIt (.slice (some ⟨g, 0, none⟩) ll.length cap) us ll) = L := by
        apply List.ext_getElem?
        intro i
        rw [List.getElem?_set]
        by_cases e : j = i
        · subst e; rw [if_pos rfl, if_pos hjl, hj]
        · rw [if_neg e]
      rw [hs]; exact h
    clear hj hul h hm hg hb
    go_enter Tryz.func17, Tryz.ntmps17
    go_wp2
    go_loopw [1, 5] (fun vk vi wr => ∃ i : Nat, vi = .int .i64 i ∧ i ≤ ll.length ∧ vk = .int .i64 (k + (total (ll.take i) : Nat)) ∧ St w0 wr (L.set j (rowsIt (.slice (some ⟨g, 0, none⟩) ll.length cap) us (markRowsTo k ll i)))) (fun _ vi _ => ll.length - (intOf vi).toNat)
    case atStart => exact ⟨0, rfl, by omega, by simp [total], h1⟩
    case round =>
      clear h1
      obtain ⟨i, rfl, a1, rfl, h1⟩ := hrel
      by_cases hi : i < ll.length
      · have hs := total_take ll i hi
        have hle := total_split ll (i + 1)
        rw [hs] at hle
        have HS := Lib.hid hs
        have i1 : (i : Int) < ll.length := by omega
        have hil : i < us.length := by rw [HUL.out]; exact hi
        have hlen := markRowsTo_len k ll i a1
        have hmi : (markRowsTo k ll i)[i]? = some ll[i] := by rw [markRowsTo_get k ll i i a1, if_neg (by omega)]; exact List.getElem?_eq_getElem hi
        obtain ⟨u, hu⟩ : ∃ u, us[i]? = some u := ⟨us[i], List.getElem?_eq_getElem hil⟩
        have hitem : (L.set j (rowsIt (.slice (some ⟨g, 0, none⟩) ll.length cap) us (markRowsTo k ll i)))[j]? = some (.vec (.slice (some ⟨g, 0, none⟩) ll.length cap) 22 1 ll.length us (us.zip (markRowsTo k ll i))) := by
          rw [List.getElem?_set_self hjl, rowsIt, hlen]
        obtain ⟨q, hq⟩ : ∃ q : Int, q = k + (total (ll.take i) : Nat) := ⟨_, rfl⟩
        rw [← hq]
        have q1 : 0 ≤ q := by omega
        have q2 : q + ll[i].length ≤ 70368744177664 := by omega
        have q3 : ll[i].length ≤ 35184372088832 := by omega
        have HQ := Lib.hid hq
        clear hq hle hs
        have c0 := h1.vecCell j hitem i hu
        have hsub := h1.sub j hitem i (zip_get hu hmi)
        obtain ⟨A9, c9, rfl, _, _, _⟩ := id hsub.ints
        go_wp2_with fail
        refine (markIntS_any _ ll[i] _ _ _ hsub (by omega) (by omega) (by omega)).mono ?_
        rintro e wn ⟨rfl, ho, hg⟩
        have s4 := h1.wroteSub j hitem i (zip_get hu hmi) ho hg
        rw [List.set_set, rows_zip_set hu, HQ.out, markRowsTo_set k ll i hi] at s4
        clear h1 hsub hg ho hitem hu hmi c0 hlen
        go_wp2
        go_roundw
        case rel => exact ⟨i + 1, by go_num, by omega, by rw [HS.out, HQ.out]; go_num, by rw [rowsIt, markRowsTo_len k ll (i + 1) hi]; exact s4⟩
        case measure => simp [intOf]; omega
      · obtain rfl : i = ll.length := by omega
        rw [markRowsTo_end] at h1
        go_wp2
        go_ret
        exact ⟨ret_int (by rw [List.take_of_length_le (Nat.le_refl _)]), h1⟩
end Go.Proofs.YthiainhhaokjoaaGreat
