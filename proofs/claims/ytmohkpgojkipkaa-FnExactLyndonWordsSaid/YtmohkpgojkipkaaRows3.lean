/- Rows of integers: one row is written; the laws' marks. -/
import Derived.Test.YtmohkpgojkipkaaRows2
namespace Go.Proofs.Ytmohkpgojkipkaa
set_option maxRecDepth 100000
open Go.RowKit

/-- One row has been written: the others are as they were. -/
theorem RowsIn.set {w w' : World} {lo hi : Nat} {us : List Value} {ll : List (List Int)} (h : RowsIn w lo hi us ll) {j : Nat} {u : Value} {m : List Int} (hu : us[j]? = some u)
    (ho : Own w' lo u m) (hg : w.grownBy w' u.ownBlock) : RowsIn w' lo hi us (ll.set j m) := by
  have hjl : j < ll.length := by rw [← h.len]; exact (List.getElem?_eq_some_iff.1 hu).1
  refine ⟨by simp [h.len], fun i x l hx hl => ?_, h.apart⟩
  rw [List.getElem?_set] at hl
  by_cases e : j = i
  · subst e
    rw [if_pos rfl, if_pos hjl] at hl
    rw [hu] at hx
    simp only [Option.some.injEq] at hx hl
    subst hx; subst hl
    exact ⟨ho, (h.row j u _ hu (List.getElem?_eq_getElem hjl)).top⟩
  · rw [if_neg e] at hl
    have hr := h.row i x l hx hl
    refine ⟨World.ownsRow.kept hr.own hg ?_, hr.top⟩
    cases hv : x.ownBlock with
    | none => exact .inl rfl
    | some k => exact .inr fun e' => e (h.apart j i u x k hu hx e'.symm hv)
theorem owns_kept_row {w w' : World} {lo hi n : Nat} {v u : Value} {us : List Value} {l : List Int} (h : w.ownsRow lo 31 1 v n us) (hu : OwnIn w lo hi u l) (hg : w.grownBy w' u.ownBlock) : w'.ownsRow lo 31 1 v n us := by
  refine World.ownsRow.kept h hg ?_
  cases hv : v.ownBlock with
  | none => exact .inl rfl
  | some k => exact .inr fun e => ne_of_types h hu hv e.symm

theorem markRowsTo_set (k : Int) (ll : List (List Int)) (j : Nat) (h : j < ll.length) : (markRowsTo k ll j).set j (marks (k + total (ll.take j)) ll[j].length) = markRowsTo k ll (j + 1) := by
  apply List.ext_getElem?
  intro i
  rw [List.getElem?_set, markRowsTo_get k ll j i (by omega), markRowsTo_get k ll (j + 1) i (by omega), markRowsTo_len k ll j (by omega)]
  by_cases e : j = i
  · subst e
    rw [if_pos rfl, if_pos h, if_pos (by omega), markRows_get ll k j h]
  · rw [if_neg e]
    by_cases h1 : i < j
    · rw [if_pos h1, if_pos (by omega)]
    · rw [if_neg h1, if_neg (by omega)]

set_option maxHeartbeats 400000 in
theorem markIntSS_any (v : Value) (ll : List (List Int)) (k : Int) (lo hi : Nat) (w : World) (hv : OwnRows w lo hi v ll) (hn : ll.length ≤ 1099511627776) (hl : total ll ≤ 1099511627776) (hk : 0 ≤ k) (hk' : k ≤ 35184372088832) :
    Calls Try.prog 8 #[v, .int .i64 k] w (MarkedRows w lo hi v k ll) := by
  obtain ⟨us, o1, o2, o3⟩ := hv
  rcases id o1.2 with ⟨rfl, h0⟩ | ⟨g, cap, cur, rfl, hb, hg, hnc, hm, _⟩
  · obtain rfl : ll = [] := List.eq_nil_of_length_eq_zero h0
    clear hl h0 hn
    go_enter Try.func8, Try.ntmps8
    go_wp2
    go_loop [1, 5] (fun vk vi => vk = .int .i64 k ∧ vi = .int .i64 0) (fun _ _ => 0)
    case atStart => exact ⟨rfl, rfl⟩
    case round =>
      obtain ⟨rfl, rfl⟩ := hrel
      go_wp2
      go_ret
      exact ⟨by simp [total], ⟨us, o1, o2, o3⟩, Only.refl _ _ _⟩
  · have Ht := Lib.hid (total_split ll)
    go_enter Try.func8, Try.ntmps8
    go_wp2
    go_loopw [1, 5] (fun vk vi wr => ∃ j : Nat, vi = .int .i64 j ∧ vk = .int .i64 (k + (total (ll.take j) : Nat)) ∧ j ≤ ll.length ∧ wr.ownsRow lo 31 1 (.slice (some ⟨g, 0, none⟩) ll.length cap) ll.length us ∧ RowsIn wr lo hi us (markRowsTo k ll j) ∧
      Only lo hi w wr) (fun _ vi _ => ll.length - (intOf vi).toNat)
    case atStart => exact ⟨0, rfl, by simp [total], by omega, o1, by rw [markRowsTo_zero]; exact o3, Only.refl _ _ _⟩
    case round =>
      obtain ⟨j, rfl, rfl, a1, p1, p2, p3⟩ := hrel
      by_cases hj : j < ll.length
      · have hju : j < us.length := by rw [o3.len]; exact hj
        have e1 : wr.cell? ⟨g, j, none⟩ = some us[j] := by rw [World.ownsRow.cellAt p1 j (by omega)]; exact List.getElem?_eq_getElem hju
        have hrow := p2.row j us[j] ll[j] (List.getElem?_eq_getElem hju) (by rw [markRowsTo_get k ll j j (by omega), if_neg (by omega)]; exact List.getElem?_eq_getElem hj)
        have s1 := Ht.out j
        have s2 := total_drop ll j hj
        have s3 := total_take ll j hj
        have b1 : ll[j].length ≤ 1099511627776 := by omega
        have b2 : total (ll.take j) ≤ 1099511627776 := by omega
        have S3 := Lib.hid s3
        clear s1 s2 s3
        go_wp2_with fail
        refine (markIntS_any _ ll[j] _ lo _ hrow.own (by omega) (by omega) (by omega)).mono ?_
        rintro e w1 ⟨rfl, ho, hgr⟩
        have q1 := owns_kept_row p1 hrow hgr
        have q2 := p2.set (List.getElem?_eq_getElem hju) ho hgr
        rw [markRowsTo_set k ll j hj] at q2
        have q3 := p3.trans (hrow.only hgr)
        clear p1 p2 p3 hgr ho hrow e1
        go_wp2
        go_roundw
        case rel => exact ⟨j + 1, by go_num, by rw [S3.out]; go_num, by omega, q1, q2, q3⟩
        case measure => simp [intOf]; omega
      · obtain rfl : j = ll.length := by omega
        rw [markRowsTo_end] at p2
        go_wp2
        go_ret
        exact ⟨ret_int (by first | rfl | rw [List.take_of_length_le (Nat.le_refl _)]), ⟨us, by rw [length_markRows]; exact p1, o2, p2⟩, p3⟩

set_option maxHeartbeats 400000 in
theorem heldIntSS_any (v : Value) (ll : List (List Int)) (k : Int) (w : World) (hv : IntRows w v (markRows k ll)) (hl : total ll ≤ 1099511627776) (hk : 0 ≤ k) (hk' : k ≤ 35184372088832) :
    Calls Try.prog 9 #[v, .int .i64 k] w fun e w' => e = .returned (.int .i64 (k + (total ll : Nat))) ∧ w = w' := by
  obtain ⟨A, c, rfl, h1, h2, h3⟩ := hv
  rw [length_markRows] at h1 h3 ⊢
  have Ht := Lib.hid (total_split ll)
  have Hg := Lib.hid (markRows_get ll k)
  go_enter Try.func9, Try.ntmps9
  go_wp2
  go_loop [1, 5] (fun vk vi => ∃ j : Nat, vi = .int .i64 j ∧ vk = .int .i64 (k + (total (ll.take j) : Nat)) ∧ j ≤ ll.length) (fun _ vi => ll.length - (intOf vi).toNat)
  case atStart => exact ⟨0, rfl, by simp [total], by omega⟩
  case round =>
    obtain ⟨j, rfl, rfl, a1⟩ := hrel
    by_cases hj : j < ll.length
    · obtain ⟨b, off, rfl, hc⟩ := h3 (by omega)
      obtain ⟨u, e1, i1⟩ := hc j _ (Hg.out j hj)
      have s1 := Ht.out j
      have s2 := total_drop ll j hj
      have s3 := total_take ll j hj
      have b1 : ll[j].length ≤ 1099511627776 := by omega
      have b2 : total (ll.take j) ≤ 1099511627776 := by omega
      have S3 := Lib.hid s3
      clear s1 s2 s3 hc h3
      go_wp2_with fail
      refine (heldIntS_any _ ll[j].length _ _ i1 (by omega) (by omega) (by omega)).mono ?_
      rintro e w1 ⟨rfl, rfl⟩
      go_wp2
      go_round
      case rel => exact ⟨j + 1, by go_num, by rw [S3.out]; go_num, by omega⟩
      case measure => simp [intOf]; omega
    · obtain rfl : j = ll.length := by omega
      clear h3
      go_wp2
      go_ret
      exact ⟨ret_int (by first | rfl | rw [List.take_of_length_le (Nat.le_refl _)]), rfl⟩
end Go.Proofs.Ytmohkpgojkipkaa
