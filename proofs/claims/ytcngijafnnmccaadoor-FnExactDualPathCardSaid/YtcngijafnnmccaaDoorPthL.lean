/- Paths: DualPath of both. -/
import Derived.Test.YtcngijafnnmccaaDoorPthE
import Derived.Test.YtcngijafnnmccaaDoorPthK
namespace Go.Proofs.YtcngijafnnmccaaDoor
set_option maxRecDepth 100000
open Go.RowKit
namespace Stp
open Car

def negL (X : List Int) : List Int := mapI X.length fun i => 0 - vec X i
/-- The opposite step. -/
def opp (m : Sg) : Sg := ⟨negL m.d, m.n⟩
/-- The first k steps, the last one ahead, opposite. -/
def dlI (ps : List Sg) : Nat → List Sg
  | 0 => []
  | k + 1 => opp (pAt ps k) :: dlI ps k
def dualV (r : Int) (D : List Int) (ps : List Sg) : List Sg := if pathB r D ps = true then dlI ps ps.length else []
theorem length_dlI (ps : List Sg) : ∀ k, (dlI ps k).length = k
  | 0 => rfl
  | k + 1 => by simp [dlI, length_dlI ps k]
theorem dlI_bd {n : Nat} {ps : List Sg} (h4 : n ≤ 4) : ∀ k, (∀ j, j < k → stpOk n ps j = true) → dLen (dlI ps k) ≤ 4 * k
  | 0, _ => by simp [dlI, dLen]
  | k + 1, h => by
    have h1 := dlI_bd h4 k fun j hj => h j (by omega)
    obtain ⟨_, _, h2, _⟩ := stpOk_n (h k (by omega))
    simp only [dlI, dLen, opp, negL, length_mapI]
    omega
theorem dualV_bd (r : Int) (D : List Int) (ps : List Sg) : markSsLen (dualV r D ps) ≤ 300 := by
  unfold dualV
  split
  · rename_i h
    obtain ⟨n, rfl, n1, n4, h60, hOk⟩ := pathB_spec h
    have h1 := dlI_bd n4 ps.length fun j hj => hOk j hj
    unfold markSsLen
    rw [length_dlI]
    omega
  · simp [markSsLen, dLen]
theorem negL_zero (n : Nat) (X : List Int) (h : X.length = n) : mapI (mapI n fun _ => (0 : Int)).length (pluF (mapI n fun _ => 0) (-1) X) = negL X := by
  unfold negL
  rw [length_mapI, h]
  refine mapI_congr fun i hi => ?_
  unfold pluF
  rw [vec_mapI _ _ hi]
  omega
theorem mapI_zero' (n : Nat) : List.replicate n (0 : Int) = mapI n fun _ => 0 := by
  unfold mapI
  rw [List.map_const', List.length_range]
theorem vec_opp_bd {X : List Int} (h : ∀ i, -1000 ≤ vec X i ∧ vec X i ≤ 1000) (i : Nat) : -1000 ≤ vec X i ∧ vec X i ≤ 1000 := h i

set_option maxHeartbeats 4000000 in
theorem l5Minus_any (x : Value) (X : List Int) (w : World) (hx : Ints w x X) (hn : X.length ≤ 100) (hX : ∀ i, -1000 ≤ vec X i ∧ vec X i ≤ 1000) :
    Calls Tryd.prog 53 #[x] w (RetOwn w (negL X)) := by
  have g := ((St.start w).arg hx).zeros X.length (by omega)
  have hmk := makeI X.length (by omega)
  obtain ⟨A, cx, rfl, _, _, _⟩ := id hx
  rw [mapI_zero'] at g
  have H0 := Lib.hid (fillTo_zero (fun i => 0 - vec X i) (mapI X.length fun _ => 0))
  have HE := fillTo_end (fun i => 0 - vec X i) (mapI X.length fun _ => 0)
  rw [length_mapI] at HE
  rw [← H0.out] at g
  obtain ⟨Z, hZ⟩ : ∃ Z : List Int, Z = mapI X.length fun _ => 0 := ⟨_, rfl⟩
  have hlZ : Z.length = X.length := by rw [hZ, length_mapI]
  rw [← hZ] at g HE
  obtain ⟨R, hR⟩ : ∃ R, R = negL X := ⟨_, rfl⟩
  have HR := Lib.hid (hR.trans HE.symm)
  rw [← hR]
  obtain ⟨xl, hxl⟩ : ∃ xl, xl = X.length := ⟨_, rfl⟩
  have Hxl := Lib.hid hxl
  rw [← hxl] at g HR hn hlZ hmk ⊢
  have HlZ := Lib.hid hlZ
  have HX := Lib.hid hX
  clear hx hX hR hxl HE hZ H0 hlZ
  go_enter Tryd.func53, Tryd.ntmps53
  go_wp2
  go_loopw [4] (fun v4 wr => ∃ k : Nat, v4 = .int .i64 k ∧ k ≤ xl ∧ St w wr [.own (.slice (some ⟨w.heap.size, 0, none⟩) xl xl) (fillTo (fun i => 0 - vec X i) Z k), .ro (.slice A xl cx) X]) (fun v4 _ => xl - (intOf v4).toNat)
  case atStart => exact ⟨0, rfl, by omega, g⟩
  case round =>
    clear g
    obtain ⟨k, rfl, a1, g⟩ := hrel
    by_cases hk : k < xl
    · have hXk := HX.out k
      have hfs := fillTo_set (fun i => 0 - vec X i) Z k (by rw [HlZ.out]; exact hk)
      have hlf := length_fillTo (fun i => 0 - vec X i) Z k
      obtain ⟨LL, hLL⟩ : ∃ LL, LL = fillTo (fun i => 0 - vec X i) Z k := ⟨_, rfl⟩
      rw [← hLL] at g hfs hlf
      obtain ⟨T, hT⟩ : ∃ T, T = vec X k := ⟨_, rfl⟩
      rw [← hT] at hXk
      obtain ⟨T2, hT2⟩ : ∃ T2, T2 = 0 - vec X k := ⟨_, rfl⟩
      have HT2 := Lib.hid (show T2 = 0 - T by rw [hT2, hT])
      have hfs : LL.set k T2 = fillTo (fun i => 0 - vec X i) Z (k + 1) := by rw [hT2]; exact hfs
      have hLk : k < LL.length := by rw [hlf, HlZ.out]; exact hk
      have f0 := (g.ownCell 0 rfl (q := k) hLk).2
      have f1 := (g.ownCell 0 rfl (q := k) hLk).1
      obtain ⟨bq, oq, rfl, _, hy⟩ := (g.ro 1 rfl).cell (k := k) (by rw [← Hxl.out]; exact hk)
      rw [← hT] at hy
      have ik : (k : Int) < (xl : Int) := by omega
      have w2 : IntKind.i64.wrap (0 - T) = T2 := by rw [HT2.out]; exact wrap_ok (by omega) (by omega)
      have w5 : wrap64 (-T) = T2 := by rw [HT2.out]; unfold wrap64; omega
      have w6 : wrap64 (0 - T) = T2 := by rw [HT2.out]; unfold wrap64; omega
      have Hfs := Lib.hid hfs
      have g0 := g
      clear hXk hlf hLL hT hT2 hLk hfs g
      go_wp2
      go_roundw
      case rel => exact ⟨k + 1, by go_num, by omega, by rw [← Hfs.out]; exact g0.set 0 rfl k T2⟩
      case measure => simp [intOf]; omega
    · obtain rfl : xl = k := by omega
      rw [← HlZ.out] at g HR
      rw [← HR.out] at g
      rw [HlZ.out] at g
      go_wp2
      go_ret
      exact ⟨_, rfl, g.own 0 rfl, g.below⟩
set_option maxHeartbeats 4000000 in
theorem listTimes_any (x : Value) (X : List Int) (w : World) (hx : Ints w x X) (hn : X.length ≤ 100) (hX : ∀ i, -1000 ≤ vec X i ∧ vec X i ≤ 1000) :
    Calls Tryd.prog 55 #[.int .i64 (-1), x] w (RetOwn w (negL X)) := by
  have g := ((St.start w).arg hx).zeros X.length (by omega)
  have hmk := makeI X.length (by omega)
  obtain ⟨A, cx, rfl, _, _, _⟩ := id hx
  rw [mapI_zero'] at g
  obtain ⟨Z, hZ⟩ : ∃ Z : List Int, Z = mapI X.length fun _ => 0 := ⟨_, rfl⟩
  have hlZ : Z.length = X.length := by rw [hZ, length_mapI]
  have hvZ : ∀ i, i < Z.length → -4989600000 ≤ vec Z i ∧ vec Z i ≤ 4989600000 := fun i hi => by
    rw [hlZ] at hi
    rw [hZ, vec_mapI _ _ hi]
    omega
  have HL := Lib.hid (fun (W : World) (y z : Value) (hy : Ints W y Z) (hz : Ints W z X) => listPlus_any (-1) y z Z X W hy hz hlZ.symm (by omega) hvZ hX (by omega))
  rw [hZ, negL_zero X.length X rfl, ← hZ] at HL
  rw [← hZ] at g
  obtain ⟨R, hR⟩ : ∃ R, R = negL X := ⟨_, rfl⟩
  rw [← hR] at HL ⊢
  obtain ⟨xl, hxl⟩ : ∃ xl, xl = X.length := ⟨_, rfl⟩
  rw [← hxl] at g hmk ⊢
  clear hx hX hR hxl hZ hlZ hvZ hn
  go_enter Tryd.func55, Tryd.ntmps55
  go_wp2_with fail
  refine (HL.out _ _ _ (g.ownInts 0 rfl) (g.roInts 1 rfl)).mono ?_
  rintro (e : Ending) w3 ⟨u3, rfl, ho3, hb3⟩
  have g3 := g.pushOwn hb3 ho3
  go_wp2
  go_ret
  exact ⟨_, rfl, g3.own 0 rfl, g3.below⟩

end Stp
end Go.Proofs.YtcngijafnnmccaaDoor
