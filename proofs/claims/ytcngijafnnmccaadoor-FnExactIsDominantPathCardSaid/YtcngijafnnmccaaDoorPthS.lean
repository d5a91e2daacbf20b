/- Paths: what is right (plain), and the reference's PathOk. -/
import Derived.Test.YtcngijafnnmccaaDoorStpA
import Derived.Test.YtcngijafnnmccaaDoorCarAA
namespace Go.Proofs.YtcngijafnnmccaaDoor
set_option maxRecDepth 100000
open Go.RowKit
namespace Stp
open Car

def pAt (ps : List Sg) (k : Nat) : Sg := ps.getD k ⟨[], 0⟩
theorem pAt_get {ps : List Sg} {k : Nat} (h : k < ps.length) : ps[k] = pAt ps k := by unfold pAt; simp [List.getD, List.getElem?_eq_getElem h]
/-- Is it a weight of rank n? -/
def wtOk (n : Nat) (d : List Int) : Bool := decide (d.length = n) && d.all fun x => inR x (-1000) 1000
def stpOk (n : Nat) (ps : List Sg) (k : Nat) : Bool := (wtOk n (pAt ps k).d && inR (pAt ps k).n 1 83160) && !(decide (0 < k) && decide ((pAt ps (k - 1)).d = (pAt ps k).d))
/-- The time of the first k steps. -/
def tm (ps : List Sg) : Nat → Int
  | 0 => 0
  | k + 1 => tm ps k + (pAt ps k).n
def pOk (n : Nat) (ps : List Sg) : Bool := decide (ps.length ≤ 60) && ((List.range' 0 (ps.length - 0)).all (stpOk n ps) && ((tm ps ps.length).tmod 27720 == 0 && decide (tm ps ps.length ≤ 83160)))
def pathB (r : Int) (D : List Int) (ps : List Sg) : Bool := carB r D && pOk r.toNat ps
theorem stpOk_n {n : Nat} {ps : List Sg} {k : Nat} (h : stpOk n ps k = true) : 1 ≤ (pAt ps k).n ∧ (pAt ps k).n ≤ 83160 ∧ (pAt ps k).d.length = n ∧ ∀ x ∈ (pAt ps k).d, -1000 ≤ x ∧ x ≤ 1000 := by
  unfold stpOk wtOk at h
  simp only [Bool.and_eq_true, decide_eq_true_eq, inR, List.all_eq_true] at h
  exact ⟨h.1.2.1, h.1.2.2, h.1.1.1, fun x hx => h.1.1.2 x hx⟩
theorem tm_bd {ps : List Sg} {k : Nat} (hn : ∀ j, j < k → 1 ≤ (pAt ps j).n ∧ (pAt ps j).n ≤ 83160) : 0 ≤ tm ps k ∧ tm ps k ≤ 83160 * k := by
  induction k with
  | zero => simp [tm]
  | succ k ih =>
    have h1 := ih fun j hj => hn j (by omega)
    have h2 := hn k (by omega)
    unfold tm
    omega

theorem wtOk_iff (n : Nat) (d : List Int) (hl : d.length = n) : wtOk n d = (List.range' 0 (d.length - 0)).all fun i => inR (vec d i) (-1000) 1000 := by
  unfold wtOk
  rw [show decide (d.length = n) = true by simpa using hl, Bool.true_and, Bool.eq_iff_iff, List.all_eq_true, List.all_eq_true]
  constructor
  · intro h i hi
    obtain ⟨j, hj, e⟩ := List.mem_range'.1 hi
    exact h _ (vec_mem' (by omega))
  · intro h x hx
    obtain ⟨i, hi, rfl⟩ := List.getElem_of_mem hx
    have := h i (List.mem_range'.2 ⟨i, by omega, by omega⟩)
    unfold vec at this
    simpa [List.getD, List.getElem?_eq_getElem hi] using this
where
  vec_mem' {l : List Int} {i : Nat} (h : i < l.length) : vec l i ∈ l := by
    unfold vec
    simp [List.getD, List.getElem?_eq_getElem h]

set_option maxHeartbeats 1000000 in
theorem l5Lattice_any (n : Nat) (t v : Value) (d : List Int) (w : World) (hv : Ints w v d) :
    Calls Tryd.prog 79 #[.agg #[.int .i64 n, t], v] w fun e w' => e = .returned (.bool (wtOk n d)) ∧ Below w.heap.size w w' := by
  have g := (St.start1 hv).box [.int .i64 n, t] 33
  obtain ⟨A, c, rfl, hc1, hc2, _⟩ := id hv
  obtain ⟨z0, z1⟩ := g.box2 0 rfl
  obtain ⟨R, hR⟩ : ∃ R, R = wtOk n d := ⟨_, rfl⟩
  rw [← hR]
  by_cases hl : d.length = n
  · have HR := Lib.hid (hR.trans (wtOk_iff n d hl))
    obtain ⟨dl, hdl⟩ : ∃ dl, dl = d.length := ⟨_, rfl⟩
    have Hdl := Lib.hid hdl
    have hdb : dl ≤ 9223372036854775807 := by omega
    rw [← hdl] at HR g ⊢
    have e0 : ((dl : Int) != (n : Int)) = false := by simp; omega
    have e0' : ((dl : Int) == (n : Int)) = true := by simp; omega
    clear hR hl hdl hv hc1 hc2
    go_enter Tryd.func79, Tryd.ntmps79
    go_wp2
    go_loopw [5] (fun v5 wr => ∃ i : Nat, v5 = .int .i64 i ∧ i ≤ dl ∧ St w wr [.box w.heap.size [.int .i64 n, t], .ro (.slice A dl c) d] ∧ Hid (R = (List.range' i (dl - i)).all fun i => inR (vec d i) (-1000) 1000)) (fun v5 _ => dl - (intOf v5).toNat)
    case atStart => exact ⟨0, rfl, by omega, g, HR⟩
    case round =>
      clear g HR z0 z1
      obtain ⟨i, rfl, a1, g, HR⟩ := hrel
      by_cases hi : i < dl
      · have ii : (i : Int) < (dl : Int) := by omega
        have HRs := Lib.hid (HR.out.trans (all_cons _ hi))
        obtain ⟨b, o, rfl, _, x0⟩ := (g.ro 1 rfl).cell (k := i) (by rw [← Hdl.out]; exact hi)
        obtain ⟨x, hx⟩ : ∃ x, x = vec d i := ⟨_, rfl⟩
        rw [← hx] at x0
        have HRs2 := Lib.hid (show R = (inR x (-1000) 1000 && (List.range' (i + 1) (dl - (i + 1))).all fun i => inR (vec d i) (-1000) 1000) by rw [HRs.out, hx])
        obtain ⟨ib, hib⟩ : ∃ ib, ib = inR x (-1000) 1000 := ⟨_, rfl⟩
        have HIn := Lib.hid (fun W => l1In_any x (-1000) 1000 W)
        rw [← hib] at HIn HRs2
        clear hx HRs HR hib
        cases ib with
        | true =>
          have HR2 := Lib.hid (show R = (List.range' (i + 1) (dl - (i + 1))).all fun i => inR (vec d i) (-1000) 1000 by rw [HRs2.out, Bool.true_and])
          go_wp2_with (go_at_call 40; refine (HIn.out _).mono ?_; rintro e w' ⟨rfl, rfl⟩)
          go_roundw
          case rel => exact ⟨i + 1, by go_num, by omega, g, HR2⟩
          case measure => simp [intOf]; omega
        | false =>
          have HR2 := Lib.hid (show R = false by rw [HRs2.out, Bool.false_and])
          go_wp2_with (go_at_call 40; refine (HIn.out _).mono ?_; rintro e w' ⟨rfl, rfl⟩)
          go_ret
          exact ⟨ret_bool HR2.out.symm, g.below⟩
      · obtain rfl : dl = i := by omega
        have HR2 := Lib.hid (show R = true by rw [HR.out, Nat.sub_self]; rfl)
        go_wp2
        go_ret
        exact ⟨ret_bool HR2.out.symm, g.below⟩
  · have h0 : R = false := by rw [hR]; unfold wtOk; simp [hl]
    subst h0
    obtain ⟨dl, hdl⟩ : ∃ dl, dl = d.length := ⟨_, rfl⟩
    rw [← hdl] at g ⊢
    have e0 : ((dl : Int) != (n : Int)) = true := by simp; omega
    have e0' : ((dl : Int) == (n : Int)) = false := by simp; omega
    clear hR hdl hl hv
    go_enter Tryd.func79, Tryd.ntmps79
    go_wp2
    go_ret
    exact ⟨rfl, g.below⟩

set_option maxHeartbeats 1000000 in
theorem l9Time_any (v : Value) (ps : List Sg) (w : World) (hv : StR w v ps) (hl : ps.length ≤ 60) (hn : ∀ j, j < ps.length → 1 ≤ (pAt ps j).n ∧ (pAt ps j).n ≤ 83160) :
    Calls Tryd.prog 81 #[v] w fun e w' => e = .returned (.int .i64 (tm ps ps.length)) ∧ w = w' := by
  obtain ⟨A, c, rfl, _, _, _⟩ := id hv
  have HV := Lib.hid hv
  obtain ⟨pl, hpl⟩ : ∃ pl, pl = ps.length := ⟨_, rfl⟩
  have Hpl := Lib.hid hpl
  rw [← hpl] at HV hl hn ⊢
  have HTm := Lib.hid (fun k (hk : k ≤ pl) => tm_bd (ps := ps) (k := k) fun j hj => hn j (by omega))
  have HN := Lib.hid hn
  clear hv hn hpl
  go_enter Tryd.func81, Tryd.ntmps81
  go_wp2
  go_loop [3, 4] (fun v3 v4 => ∃ k : Nat, v4 = .int .i64 k ∧ k ≤ pl ∧ v3 = .int .i64 (tm ps k)) (fun _ v4 => pl - (intOf v4).toNat)
  case atStart => exact ⟨0, rfl, by omega, rfl⟩
  case round =>
    obtain ⟨k, rfl, a1, rfl⟩ := hrel
    have tb := HTm.out k a1
    by_cases hk : k < pl
    · have hk2 : k < ps.length := by rw [← Hpl.out]; exact hk
      obtain ⟨b, off, A9, c9, rfl, hm⟩ := HV.out.at (i := k) hk2
      rw [pAt_get hk2] at hm
      have z1 := hm.2.1
      have nb := HN.out k hk
      have HTs := Lib.hid (show tm ps (k + 1) = tm ps k + (pAt ps k).n from rfl)
      obtain ⟨T, hT⟩ : ∃ T, T = tm ps k := ⟨_, rfl⟩
      obtain ⟨x, hx⟩ : ∃ x, x = (pAt ps k).n := ⟨_, rfl⟩
      rw [← hT] at tb HTs ⊢
      rw [← hx] at z1 nb HTs
      have ik : (k : Int) < (pl : Int) := by omega
      have hT1 : T ≤ 4989600 := by omega
      clear hT hx hm hk2
      go_wp2
      go_round
      case rel => exact ⟨k + 1, by go_num, by omega, by rw [HTs.out]⟩
      case measure => simp [intOf]; omega
    · obtain rfl : pl = k := by omega
      go_wp2
      go_ret
      exact ⟨rfl, rfl⟩

end Stp
end Go.Proofs.YtcngijafnnmccaaDoor
