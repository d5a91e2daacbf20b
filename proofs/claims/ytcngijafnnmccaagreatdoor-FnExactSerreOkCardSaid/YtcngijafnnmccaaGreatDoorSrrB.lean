/- Relations of Serre: what both programs reckon (plain), numbers of Cartan matrices. -/
import Derived.Test.YtcngijafnnmccaaGreatDoorSrrA
import Derived.Test.YtcngijafnnmccaaGreatDoorAlgA
import Derived.Test.YtcngijafnnmccaaGreatDoorCarAA
namespace Go.Proofs.YtcngijafnnmccaaGreatDoor
set_option maxRecDepth 100000
open Go.RowKit
namespace Srr
open Stp Car

theorem carB_spec {r : Int} {D : List Int} (h : carB r D = true) : ∃ n : Nat, r = (n : Int) ∧ 1 ≤ n ∧ n ≤ 4 ∧ D.length = n * n ∧ ∀ i j, i < n → j < n → -3 ≤ en n D i j ∧ en n D i j ≤ 2 := by
  have h9 := h
  rw [carB_parts] at h9
  unfold carB at h
  simp only [Bool.and_eq_true, decide_eq_true_eq] at h
  obtain ⟨h1, h2, _⟩ := h
  obtain ⟨n, rfl⟩ : ∃ n : Nat, r = (n : Int) := ⟨r.toNat, by simp [inR] at h1; omega⟩
  have hD : D.length = n * n := by rw [← Int.natCast_mul] at h2; omega
  refine ⟨n, rfl, by simp [inR] at h1; omega, by simp [inR] at h1; omega, hD, fun i j hi hj => ?_⟩
  unfold partsB at h9
  rw [if_pos ⟨h1, h2⟩, Int.toNat_natCast] at h9
  unfold parts at h9
  by_cases hf : fair n D = true
  · unfold fair at hf
    have hlt : i * n + j < D.length := by
      rw [hD]
      calc i * n + j < i * n + n := by omega
        _ = (i + 1) * n := by rw [Nat.succ_mul]
        _ ≤ n * n := Nat.mul_le_mul_right _ hi
    have := List.all_eq_true.1 hf (i * n + j) (List.mem_range.2 hlt)
    rw [Bool.and_eq_true, decide_eq_true_eq] at this
    exact this.1
  · rw [if_neg hf] at h9
    cases h9

set_option maxHeartbeats 1000000 in
theorem at_any (n : Nat) (t : Value) (D : List Int) (i j : Nat) (w : World) (ht : Ints w t D) (hD : D.length = n * n) (hn : n ≤ 4) (hi : i < n) (hj : j < n) :
    Calls Tryz.prog 52 #[.agg #[.int .i64 n, t], .int .i64 i, .int .i64 j] w fun e w' => e = .returned (.int .i64 (en n D i j)) ∧ Below w.heap.size w w' := by
  have h1 := (St.start1 ht).box [.int .i64 n, t] 34
  obtain ⟨A, k, rfl, hk1, hk2, _⟩ := id ht
  rw [en_vec]
  have hb : n * n ≤ 4194304 := by have := Nat.mul_le_mul hn hn; omega
  have hbd := row_bd (c := n) hi
  obtain ⟨n1, n2, n3, n4⟩ := row_int (c := n) hi hb
  have hlt : i * n + j < D.length := by omega
  obtain ⟨b, off, rfl, _, e1⟩ := (h1.ro 1 rfl).cell hlt
  have hat : (i : Int) * n + j = ((i * n + j : Nat) : Int) := by simp
  obtain ⟨q, hq⟩ : ∃ q, q = i * n + j := ⟨_, rfl⟩
  rw [← hq] at hat hlt e1 ⊢
  have HQ := Lib.hid hq
  have hDl : D.length ≤ 4194304 := by omega
  clear ht hD hq hbd
  obtain ⟨z0, z1⟩ := h1.box2 0 rfl
  go_enter Tryz.func52, Tryz.ntmps52
  go_wp2
  go_ret
  exact ⟨rfl, h1.below⟩

/-- Brackets with one element, again and again. -/
def itB (p : Int) (n : Nat) (T X Y : List Int) : Nat → List Int
  | 0 => Y
  | k + 1 => braL T X (itB p n T X Y k) n p
def cnt (r : Nat) (D : List Int) (i j : Nat) : Nat := (1 - en r D i j).toNat
/-- Is the relation of rows i, j fulfilled? -/
def sv (p : Int) (n : Nat) (T : List Int) (r : Nat) (D : List Int) (E : List (List Int)) (i j : Nat) : Bool := zeroL (itB p n T (rowOf E i) (rowOf E j) (cnt r D i j))
def serV (p : Int) (n : Nat) (T : List Int) (r : Nat) (D : List Int) (E : List (List Int)) : Bool :=
  (List.range' 0 (r - 0)).all fun i => (List.range' 0 (r - 0)).all fun j => i == j || sv p n T r D E i j
def hF (p : Int) (n : Nat) (T : List Int) (E F : List (List Int)) (i : Nat) : List Int := braL T (rowOf E i) (rowOf F i) n p
def zz (p : Int) (n : Nat) (T X Y : List Int) : Bool := zeroL (braL T X Y n p)
def mm (p : Int) (n : Nat) (T : List Int) (k : Int) (X Y : List Int) : Bool := decide (braL T X Y n p = mulL p k Y)
def sM (p : Int) (n : Nat) (T : List Int) (r : Nat) (D : List Int) (E F : List (List Int)) (i j : Nat) : Bool :=
  (zz p n T (hF p n T E F i) (hF p n T E F j) && (i == j || zz p n T (rowOf E i) (rowOf F j))) && (mm p n T (en r D i j) (hF p n T E F i) (rowOf E j) && mm p n T (0 - en r D i j) (hF p n T E F i) (rowOf F j))
def sP (p : Int) (n : Nat) (T : List Int) (r : Nat) (D : List Int) (E F : List (List Int)) (i j : Nat) : Bool :=
  (zz p n T (hF p n T E F i) (hF p n T E F j) && (mm p n T (en r D i j) (hF p n T E F i) (rowOf E j) && mm p n T (0 - en r D i j) (hF p n T E F i) (rowOf F j))) &&
    (i == j || (zz p n T (rowOf E i) (rowOf F j) && (sv p n T r D E i j && sv p n T r D F i j)))
def all2 (r : Nat) (f : Nat → Nat → Bool) : Bool := (List.range' 0 (r - 0)).all fun i => (List.range' 0 (r - 0)).all fun j => f i j
def serS (p : Int) (n : Nat) (T : List Int) (r : Nat) (D : List Int) (E F : List (List Int)) : Bool := all2 r (sM p n T r D E F) && (serV p n T r D E && serV p n T r D F)
def serP (p : Int) (n : Nat) (T : List Int) (r : Nat) (D : List Int) (E F : List (List Int)) : Bool := all2 r (sP p n T r D E F)
theorem all2_and (r : Nat) (f g : Nat → Nat → Bool) : all2 r (fun i j => f i j && g i j) = (all2 r f && all2 r g) := by
  rw [Bool.eq_iff_iff]
  simp only [all2, List.all_eq_true, Bool.and_eq_true]
  constructor
  · intro h
    exact ⟨fun i hi j hj => (h i hi j hj).1, fun i hi j hj => (h i hi j hj).2⟩
  · rintro ⟨h1, h2⟩ i hi j hj
    exact ⟨h1 i hi j hj, h2 i hi j hj⟩
theorem bool4 (a b c d e f g : Bool) : ((a && (c && d)) && (b || (e && (f && g)))) = (((a && (b || e)) && (c && d)) && ((b || f) && (b || g))) := by
  cases a <;> cases b <;> cases c <;> cases d <;> cases e <;> cases f <;> cases g <;> rfl
theorem serP_eq (p : Int) (n : Nat) (T : List Int) (r : Nat) (D : List Int) (E F : List (List Int)) : serP p n T r D E F = serS p n T r D E F := by
  unfold serP serS
  have h : sP p n T r D E F = fun i j => sM p n T r D E F i j && ((i == j || sv p n T r D E i j) && (i == j || sv p n T r D F i j)) := by
    funext i j
    unfold sP sM
    exact bool4 _ _ _ _ _ _ _
  rw [h, all2_and, all2_and]
  rfl
/-- Are all elements right? -/
def vecs (p : Int) (n : Int) (E F : List (List Int)) (r : Nat) : Bool := (List.range' 0 (r - 0)).all fun i => vecOk p n (rowOf E i) && vecOk p n (rowOf F i)
def serOk (p n : Int) (T : List Int) (r : Int) (D : List Int) (E F : List (List Int)) : Bool :=
  algOk p n T && (carB r D && (decide ((E.length : Int) = r) && (decide ((F.length : Int) = r) && (vecs p n E F r.toNat && serS p n.toNat T r.toNat D E F))))
theorem length_itB {p : Int} {n : Nat} {T X Y : List Int} (hY : Y.length = n) : ∀ k, (itB p n T X Y k).length = n
  | 0 => hY
  | _k + 1 => length_braL _ _ _ _ _
theorem resid_itB {p : Int} (hp : 2 ≤ p) {n : Nat} {T X Y : List Int} (hY : resid p Y = true) : ∀ k, resid p (itB p n T X Y k) = true
  | 0 => hY
  | _k + 1 => resid_braL _ _ _ _ hp
theorem vecs_spec {p n : Int} {E F : List (List Int)} {r : Nat} (h : vecs p n E F r = true) {i : Nat} (hi : i < r) : vecOk p n (rowOf E i) = true ∧ vecOk p n (rowOf F i) = true := by
  unfold vecs at h
  have := List.all_eq_true.1 h i (List.mem_range'.2 ⟨i, by omega, by omega⟩)
  simpa using this
/-- A list that was there or was made. -/
def anyIt (b : Bool) (v : Value) (l : List Int) : It := if b then .own v l else .fact (fun w' => Ints w' v l)
theorem Ints.factS {w : World} {v : Value} {l : List Int} (h : Ints w v l) : It.ok w.heap.size w (.fact fun w' => Ints w' v l) := fun _ hk => (h.toB.keep fun p hp => World.cell?_of_block (hk p.block hp)).1
theorem _root_.Go.Proofs.YtcngijafnnmccaaGreatDoor.St.anyInts {w0 w : World} {L : List It} (h : St w0 w L) (i : Nat) {b : Bool} {v : Value} {l : List Int} (hi : L[i]? = some (anyIt b v l)) : Ints w v l := by
  cases b with
  | true => exact h.ownInts i hi
  | false => exact h.fact i hi

end Srr
end Go.Proofs.YtcngijafnnmccaaGreatDoor
