import Derived.Shelf.Strconv.Itoa3
import Derived.Test.YtbnefjhljfbecaaGreatDoorW01
import Derived.Test.YtbnefjhljfbecaaGreatDoorW03
import Derived.Test.YtbnefjhljfbecaaGreatDoorW07
import Derived.Test.YtbnefjhljfbecaaGreatDoorW08
import Derived.Test.YtbnefjhljfbecaaGreatDoorW19
import Derived.Test.YtbnefjhljfbecaaGreatDoorW22
import Derived.Test.YtbnefjhljfbecaaGreatDoorW24
namespace Go.Proofs.YtbnefjhljfbecaaGreatDoor
set_option maxRecDepth 100000
section
namespace Tya
open Car Mp
def setR (R : List (List Int)) (s : ByteArray) : Bool := R.any fun x => decide (s = encB x)
theorem setR_nil : setR [] = fun _ => false := rfl
theorem setR_snoc (R : List (List Int)) (x : List Int) : upd (setR R) (encB x) true = setR (R ++ [x]) := by
 funext s
 unfold upd setR
 rw [List.any_append]
 by_cases h : s = encB x
 ·simp [h]
 ·simp [h]
theorem setR_in {p : Int} (hp : p ≤ 101) {a : Nat} {R : List (List Int)} (hR : Lst p a R) {q : List Int} (hl : q.length = a) (hq : resid p q = true) : setR R (encB q) = isIn R q := by
 rw [Bool.eq_iff_iff]
 constructor
 ·intro h
  obtain ⟨x, hx, h⟩ := List.any_eq_true.1 h
  obtain ⟨h1, h2⟩ := hR x hx
  have e := encB_inj (by omega) (sml_of hp hq) (sml_of hp h2) (of_decide_eq_true h)
  exact decide_eq_true (by rw [e]; exact hx)
 ·intro h
  exact List.any_eq_true.2 ⟨q, of_decide_eq_true h, decide_eq_true rfl⟩
theorem stpF_congr {p : Int} {M M' : List Int → Bool} {y : List Int} {k : Int} {x : List Int} (h : ∀ z : Int, M (addL y z x p) = M' (addL y z x p)) : ∀ f r, stpF p M y k x f r = stpF p M' y k x f r
 | 0, _ => rfl
 | f + 1, r => by
  unfold stpF
  rw [h, stpF_congr h f (r + 1)]
theorem num_congr {p : Int} {M M' : List Int → Bool} {x y : List Int} (h : ∀ z : Int, M (addL y z x p) = M' (addL y z x p)) : num p M x y = num p M' x y := by
 unfold num stp
 rw [stpF_congr h, stpF_congr h]
theorem num_in {p : Int} (hp : 2 ≤ p) (hp' : p ≤ 101) {a : Nat} {R : List (List Int)} (hR : Lst p a R) {x y : List Int} (hx : x.length = a) (hy : y.length = a) : num p (fun q => setR R (encB q)) x y = num p (isIn R) x y :=
 num_congr fun z => setR_in hp' hR (by rw [length_addL _ _ _ _ (by omega), hy]) (resid_addL _ _ _ _ (by omega))
def prs {α : Type} (f : List Int → List Int → α) (P : List (List Int)) : List α := (List.range (P.length * P.length)).map fun q => f (rowOf P (q / P.length)) (rowOf P (q % P.length))
def prsTo {α : Type} (f : List Int → List Int → α) (P : List (List Int)) (i j : Nat) : List α := (prs f P).take (i * P.length + j)
theorem length_prs {α : Type} (f : List Int → List Int → α) (P : List (List Int)) : (prs f P).length = P.length * P.length := by simp [prs]
theorem sq_lt {n i j : Nat} (hi : i < n) (hj : j < n) : i * n + j < n * n := by
 calc i * n + j < i * n + n := by omega
  _ = (i + 1) * n := by rw [Nat.succ_mul]
  _ ≤ n * n := Nat.mul_le_mul_right _ hi
theorem prs_get {α : Type} (f : List Int → List Int → α) (P : List (List Int)) {i j : Nat} (hi : i < P.length) (hj : j < P.length) : (prs f P)[i * P.length + j]? = some (f (rowOf P i) (rowOf P j)) := by
 have h := sq_lt hi hj
 have e1 : (i * P.length + j) / P.length = i := by rw [Nat.mul_comm, Nat.mul_add_div (by omega), Nat.div_eq_of_lt hj, Nat.add_zero]
 have e2 : (i * P.length + j) % P.length = j := by rw [Nat.mul_comm, Nat.mul_add_mod, Nat.mod_eq_of_lt hj]
 simp [prs, h, e1, e2]
theorem prsTo_next {α : Type} (f : List Int → List Int → α) (P : List (List Int)) {i j : Nat} (hi : i < P.length) (hj : j < P.length) : prsTo f P i (j + 1) = prsTo f P i j ++ [f (rowOf P i) (rowOf P j)] := by
 unfold prsTo
 have h : i * P.length + j < (prs f P).length := by rw [length_prs]; exact sq_lt hi hj
 rw [← Nat.add_assoc, List.take_succ_eq_append_getElem h]
 have := prs_get f P hi hj
 rw [List.getElem?_eq_getElem h] at this
 rw [Option.some.inj this]
theorem prsTo_row {α : Type} (f : List Int → List Int → α) (P : List (List Int)) (i : Nat) : prsTo f P i P.length = prsTo f P (i + 1) 0 := by unfold prsTo; rw [Nat.succ_mul, Nat.add_zero]
theorem prsTo_zero {α : Type} (f : List Int → List Int → α) (P : List (List Int)) : prsTo f P 0 0 = [] := by simp [prsTo]
theorem prsTo_end {α : Type} (f : List Int → List Int → α) (P : List (List Int)) : prsTo f P P.length 0 = prs f P := by
 unfold prsTo
 rw [List.take_of_length_le (by rw [length_prs]; omega)]
theorem length_prsTo {α : Type} (f : List Int → List Int → α) (P : List (List Int)) {i j : Nat} (hi : i < P.length) (hj : j ≤ P.length) : (prsTo f P i j).length = i * P.length + j := by
 unfold prsTo
 rw [List.length_take, length_prs]
 have : (i + 1) * P.length ≤ P.length * P.length := Nat.mul_le_mul_right _ hi
 rw [Nat.succ_mul] at this
 omega
theorem mem_prs {α : Type} {f : List Int → List Int → α} {P : List (List Int)} {z : α} : z ∈ prs f P ↔ ∃ i j, i < P.length ∧ j < P.length ∧ z = f (rowOf P i) (rowOf P j) := by
 constructor
 ·intro h
  obtain ⟨q, hq, rfl⟩ := List.mem_map.1 h
  have hq := List.mem_range.1 hq
  have h0 : 0 < P.length := by
   rcases Nat.eq_zero_or_pos P.length with e | e
   ·rw [e] at hq; omega
   ·exact e
  exact ⟨q / P.length, q % P.length, by rw [Nat.div_lt_iff_lt_mul h0]; exact hq, Nat.mod_lt _ h0, rfl⟩
 ·rintro ⟨i, j, hi, hj, rfl⟩
  exact List.mem_of_getElem? (prs_get f P hi hj)
theorem rowOf_mem {P : List (List Int)} {i : Nat} (h : i < P.length) : rowOf P i ∈ P := by
 rw [← rowOf_eq h]
 exact List.getElem_mem h
def smL (p : Int) (P : List (List Int)) : List (List Int) := prs (fun x y => addL x 1 y p) P
theorem smL_in {p : Int} (hp : 2 ≤ p) (hp' : p ≤ 101) {a : Nat} {P : List (List Int)} (hP : Lst p a P) {q : List Int} (hq : q ∈ P) : setR (smL p P) (encB q) = sumB p P q := by
 obtain ⟨q1, q2⟩ := hP q hq
 have hL : Lst p a (smL p P) := fun z hz => by
  obtain ⟨i, j, hi, hj, rfl⟩ := mem_prs.1 hz
  obtain ⟨x1, x2⟩ := hP _ (rowOf_mem hi)
  obtain ⟨y1, y2⟩ := hP _ (rowOf_mem hj)
  exact ⟨by rw [length_addL _ _ _ _ (by omega), x1], resid_addL _ _ _ _ (by omega)⟩
 rw [setR_in hp' hL q1 q2, Bool.eq_iff_iff]
 constructor
 ·intro h
  obtain ⟨i, j, hi, hj, e⟩ := mem_prs.1 (of_decide_eq_true h)
  exact List.any_eq_true.2 ⟨_, rowOf_mem hi, List.any_eq_true.2 ⟨_, rowOf_mem hj, decide_eq_true e.symm⟩⟩
 ·intro h
  obtain ⟨x, hx, h⟩ := List.any_eq_true.1 h
  obtain ⟨y, hy, h⟩ := List.any_eq_true.1 h
  obtain ⟨i, hi, ei⟩ := List.getElem_of_mem hx
  obtain ⟨j, hj, ej⟩ := List.getElem_of_mem hy
  refine decide_eq_true (mem_prs.2 ⟨i, j, hi, hj, ?_⟩)
  rw [← rowOf_eq hi, ← rowOf_eq hj, ei, ej]
  exact (of_decide_eq_true h).symm
def ngL (p : Int) (l : List Int) : List Int := addL (List.replicate l.length 0) (-1) l p
def bty (p : Int) (R : List (List Int)) (a : Int) : ByteArray :=
 if inR ((basL p R).length : Int) 1 4 = true ∧ ((basL p R).length : Int) = a then typB (basL p R).length (prs (num p (isIn R)) (basL p R)) else ⟨#[]⟩
def tyr (p : Int) (R : List (List Int)) (a : Int) : ByteArray := if (R.all fun y => isIn R (ngL p y)) = true then bty p R a else ⟨#[]⟩
def rts (L : List (List Int × List (List Int))) : List (List Int) := (L.map Prod.fst).filter fun l => !zeroL l
def okI (m : Nat) (D : List Int) (x : List Int × List (List Int)) : Bool := if zeroL x.1 = true then decide (flat m x.2 = D) else decide (x.2.length = 1)
def okS (p : Int) (m : Nat) (D : List Int) (L : List (List Int × List (List Int))) (x : List Int × List (List Int)) : Bool := if zeroL x.1 = true then decide (flat m x.2 = D) else decide (x.2.length = 1) && isIn (L.map Prod.fst) (ngL p x.1)
def tyI (p : Int) (m : Nat) (D : List Int) (L : List (List Int × List (List Int))) (a : Int) : ByteArray := if L.all (okI m D) = true then tyr p (rts L) a else ⟨#[]⟩
def tyS (p : Int) (m : Nat) (D : List Int) (L : List (List Int × List (List Int))) (a : Int) : ByteArray := if L.all (okS p m D L) = true then bty p (rts L) a else ⟨#[]⟩
theorem zeroL_neg {p : Int} (_hp : 2 ≤ p) {l : List Int} (h : resid p l = true) (hz : zeroL (ngL p l) = true) : zeroL l = true := by
 refine zeroL_iff.2 fun i hi => ?_
 have h1 := zeroL_iff.1 hz i (by unfold ngL; rw [length_addL _ _ _ _ (by simp), List.length_replicate]; exact hi)
 unfold ngL at h1
 rw [vec_addL _ _ (by simp) (by simpa using hi)] at h1
 have h0 : vec (List.replicate l.length 0) i = 0 := by simp [vec, List.getD_eq_getElem?_getD, hi]
 rw [h0] at h1
 have hb := resid_vec h hi
 have h2 := Int.dvd_of_emod_eq_zero h1
 obtain ⟨c, hc⟩ := h2
 have hc2 : vec l i = p * (-c) := by rw [Int.mul_neg, ← hc]; omega
 have : vec l i % p = 0 := by rw [hc2]; exact Int.mul_emod_right _ _
 rwa [Int.emod_eq_of_lt hb.1 hb.2] at this
theorem tya_eq {p : Int} (hp : 2 ≤ p) (m : Nat) (D : List Int) {L : List (List Int × List (List Int))} (hL : ∀ x ∈ L, resid p x.1 = true) (a : Int) : tyI p m D L a = tyS p m D L a := by
 have e : L.all (okS p m D L) = (L.all (okI m D) && (rts L).all fun y => isIn (rts L) (ngL p y)) := by
  rw [Bool.eq_iff_iff, Bool.and_eq_true]
  have hin : ∀ x ∈ L, zeroL x.1 ≠ true → isIn (L.map Prod.fst) (ngL p x.1) = isIn (rts L) (ngL p x.1) := fun x hx hz => by
   rw [Bool.eq_iff_iff]
   constructor
   ·intro h
    refine decide_eq_true (List.mem_filter.2 ⟨of_decide_eq_true h, ?_⟩)
    rw [Bool.not_eq_true', Bool.eq_false_iff]
    exact fun h2 => hz (zeroL_neg hp (hL x hx) h2)
   ·intro h
    exact decide_eq_true (List.mem_filter.1 (of_decide_eq_true h)).1
  constructor
  ·intro h
   have h := List.all_eq_true.1 h
   refine ⟨List.all_eq_true.2 fun x hx => ?_, List.all_eq_true.2 fun y hy => ?_⟩
   ·have := h x hx
    unfold okS at this
    unfold okI
    split
    ·rename_i hz; rw [if_pos hz] at this; exact this
    ·rename_i hz; rw [if_neg hz, Bool.and_eq_true] at this; exact this.1
   ·obtain ⟨h1, h2⟩ := List.mem_filter.1 hy
    obtain ⟨x, hx, rfl⟩ := List.mem_map.1 h1
    have hz : zeroL x.1 ≠ true := by simpa using h2
    have := h x hx
    unfold okS at this
    rw [if_neg hz, Bool.and_eq_true] at this
    rw [← hin x hx hz]
    exact this.2
  ·rintro ⟨h1, h2⟩
   refine List.all_eq_true.2 fun x hx => ?_
   have h3 := List.all_eq_true.1 h1 x hx
   unfold okI at h3
   unfold okS
   split
   ·rename_i hz; rw [if_pos hz] at h3; exact h3
   ·rename_i hz
    rw [if_neg hz] at h3
    rw [Bool.and_eq_true]
    refine ⟨h3, ?_⟩
    rw [hin x hx hz]
    exact List.all_eq_true.1 h2 _ (List.mem_filter.2 ⟨List.mem_map.2 ⟨x, hx, rfl⟩, by simpa using hz⟩)
 unfold tyI tyS tyr
 rw [e]
 cases L.all (okI m D) with
 | false => rfl
 | true => simp only [Bool.true_and, if_true]
end Tya
end
section
open Go.RowKit Go.Shelf
namespace Tya
def lays171_ren : Go.Shelf.Ren := ⟨fun | 171 => 117 | 243 => 132 | 246 => 140 | 283 => 148 | 284 => 149 | 285 => 150 | 286 => 151 | 129 => 157 | 317 => 156 | 318 => 158 | 319 => 159 | 320 => 160 | 337 => 166 | 338 => 167 | n => n, fun | 3 => 3 | 9 => 9 | 2 => 2 | 4 => 4 | 171 => 146 | 0 => 0 | 53 => 147 | 37 => 119 | 5 => 5 | 173 => 150 | 212 => 158 | 51 => 159 | 20 => 20 | 213 => 160 | 46 => 161 | 232 => 170 | 233 => 171 | n => n, fun | 17 => 1 | 18 => 4 | 19 => 5 | n => n⟩
theorem lays171 : Go.Proofs.LaysM.n171 Tryz.prog lays171_ren := {
 mixed := by kernel_rfl,
 f129 := Tryz.func157.trans (congrArg some (by kernel_rfl)),
 f171 := Tryz.func117.trans (congrArg some (by kernel_rfl)),
 f243 := Tryz.func132.trans (congrArg some (by kernel_rfl)),
 f246 := Tryz.func140.trans (congrArg some (by kernel_rfl)),
 f283 := Tryz.func148.trans (congrArg some (by kernel_rfl)),
 f284 := Tryz.func149.trans (congrArg some (by kernel_rfl)),
 f285 := Tryz.func150.trans (congrArg some (by kernel_rfl)),
 f286 := Tryz.func151.trans (congrArg some (by kernel_rfl)),
 f317 := Tryz.func156.trans (congrArg some (by kernel_rfl)),
 f318 := Tryz.func158.trans (congrArg some (by kernel_rfl)),
 f319 := Tryz.func159.trans (congrArg some (by kernel_rfl)),
 f320 := Tryz.func160.trans (congrArg some (by kernel_rfl)),
 f337 := Tryz.func166.trans (congrArg some (by kernel_rfl)),
 f338 := Tryz.func167.trans (congrArg some (by kernel_rfl)),
 t0 := Tryz.underlying0,
 a0 := Tryz.isAgg0,
 z0 := Tryz.sizeOf0,
 v0 := Tryz.zeroValue0,
 t2 := Tryz.underlying2,
 a2 := Tryz.isAgg2,
 z2 := Tryz.sizeOf2,
 v2 := Tryz.zeroValue2,
 t3 := Tryz.underlying3,
 a3 := Tryz.isAgg3,
 z3 := Tryz.sizeOf3,
 v3 := Tryz.zeroValue3,
 t4 := Tryz.underlying4,
 a4 := Tryz.isAgg4,
 z4 := Tryz.sizeOf4,
 v4 := Tryz.zeroValue4,
 t5 := Tryz.underlying5,
 a5 := Tryz.isAgg5,
 z5 := Tryz.sizeOf5,
 v5 := Tryz.zeroValue5,
 t9 := Tryz.underlying9,
 a9 := Tryz.isAgg9,
 z9 := Tryz.sizeOf9,
 v9 := Tryz.zeroValue9,
 t20 := Tryz.underlying20,
 a20 := Tryz.isAgg20,
 z20 := Tryz.sizeOf20,
 v20 := Tryz.zeroValue20,
 t37 := Tryz.underlying119,
 a37 := Tryz.isAgg119,
 z37 := Tryz.sizeOf119,
 v37 := Tryz.zeroValue119,
 t46 := Tryz.underlying161,
 a46 := Tryz.isAgg161,
 z46 := Tryz.sizeOf161,
 v46 := Tryz.zeroValue161,
 t51 := Tryz.underlying159,
 a51 := Tryz.isAgg159,
 z51 := Tryz.sizeOf159,
 v51 := Tryz.zeroValue159,
 t53 := Tryz.underlying147,
 a53 := Tryz.isAgg147,
 z53 := Tryz.sizeOf147,
 v53 := Tryz.zeroValue147,
 t171 := Tryz.underlying146,
 a171 := Tryz.isAgg146,
 z171 := Tryz.sizeOf146,
 v171 := Tryz.zeroValue146,
 t173 := Tryz.underlying150,
 a173 := Tryz.isAgg150,
 z173 := Tryz.sizeOf150,
 v173 := Tryz.zeroValue150,
 t212 := Tryz.underlying158,
 a212 := Tryz.isAgg158,
 z212 := Tryz.sizeOf158,
 v212 := Tryz.zeroValue158,
 t213 := Tryz.underlying160,
 a213 := Tryz.isAgg160,
 z213 := Tryz.sizeOf160,
 t232 := Tryz.underlying170,
 a232 := Tryz.isAgg170,
 z232 := Tryz.sizeOf170,
 v232 := Tryz.zeroValue170,
 t233 := Tryz.underlying171,
 a233 := Tryz.isAgg171,
 z233 := Tryz.sizeOf171,
 v233 := Tryz.zeroValue171,
 g17 := by kernel_rfl,
 g18 := by kernel_rfl,
 g19 := by kernel_rfl,
 i0 := by kernel_rfl,
 i2 := by kernel_rfl,
 i3 := by kernel_rfl,
 i4 := by kernel_rfl,
 i5 := by kernel_rfl,
 i9 := by kernel_rfl,
 i20 := by kernel_rfl,
 i37 := by kernel_rfl,
 i46 := by kernel_rfl,
 i51 := by kernel_rfl,
 i53 := by kernel_rfl,
 i171 := by kernel_rfl,
 i173 := by kernel_rfl,
 i212 := by kernel_rfl,
 i232 := by kernel_rfl,
 i233 := by kernel_rfl,
 m17 := by kernel_rfl,
 m18 := by kernel_rfl,
 m19 := by kernel_rfl }
end Tya
end
section
open Go.RowKit
namespace Stp
def mapI (n : Nat) (f : Nat → Int) : List Int := (List.range n).map f
theorem length_mapI (n : Nat) (f : Nat → Int) : (mapI n f).length = n := by simp [mapI]
theorem vec_mapI (n : Nat) (f : Nat → Int) {i : Nat} (h : i < n) : vec (mapI n f) i = f i := by
 unfold mapI vec
 rw [List.getD_eq_getElem?_getD, List.getElem?_map, List.getElem?_range h]
 rfl
theorem mapI_congr {n : Nat} {f g : Nat → Int} (h : ∀ i, i < n → f i = g i) : mapI n f = mapI n g := by
 unfold mapI
 apply List.map_congr_left
 intro i hi
 exact h i (List.mem_range.1 hi)
def fillTo (f : Nat → Int) (X : List Int) (k : Nat) : List Int := mapI X.length fun i => if i < k then f i else vec X i
theorem length_fillTo (f : Nat → Int) (X : List Int) (k : Nat) : (fillTo f X k).length = X.length := length_mapI _ _
theorem mapI_vec (X : List Int) : mapI X.length (vec X) = X := by
 apply List.ext_getElem?
 intro i
 unfold mapI vec
 rw [List.getElem?_map]
 by_cases h : i < X.length
 ·rw [List.getElem?_range h, List.getElem?_eq_getElem h]
  simp [List.getD, List.getElem?_eq_getElem h]
 ·rw [List.getElem?_eq_none (by simp; omega), List.getElem?_eq_none (by omega)]
  rfl
theorem fillTo_zero (f : Nat → Int) (X : List Int) : fillTo f X 0 = X := by
 unfold fillTo
 rw [mapI_congr (g := vec X) (fun i _ => if_neg (by omega)), mapI_vec]
theorem fillTo_end (f : Nat → Int) (X : List Int) : fillTo f X X.length = mapI X.length f := by
 unfold fillTo
 exact mapI_congr fun i h => if_pos h
theorem vec_fillTo (f : Nat → Int) (X : List Int) (k : Nat) (h : k < X.length) : vec (fillTo f X k) k = vec X k := by
 unfold fillTo
 rw [vec_mapI _ _ h, if_neg (by omega)]
theorem fillTo_set (f : Nat → Int) (X : List Int) (k : Nat) (h : k < X.length) : (fillTo f X k).set k (f k) = fillTo f X (k + 1) := by
 apply List.ext_getElem?
 intro i
 rw [List.getElem?_set, length_fillTo]
 unfold fillTo mapI
 by_cases e : k = i
 ·subst e
  rw [if_pos rfl, if_pos h, List.getElem?_map, List.getElem?_range h]
  simp
 ·rw [if_neg e, List.getElem?_map, List.getElem?_map]
  by_cases hi : i < X.length
  ·rw [List.getElem?_range hi]
   simp only [Option.map_some, Option.some.injEq]
   by_cases h1 : i < k
   ·rw [if_pos h1, if_pos (by omega)]
   ·rw [if_neg h1, if_neg (by omega)]
  ·rw [List.getElem?_eq_none (by simp; omega)]
   rfl
end Stp
end
section
open Go.RowKit
def AtL (w : World) (b : Nat) (vs : List Value) : Prop := ∀ j x, vs[j]? = some x → w.cell? ⟨b, j, none⟩ = some x
theorem AtL.keep {w w' : World} {b : Nat} {vs : List Value} (h : AtL w b vs) (hk : ∀ b, b < w.heap.size → w'.heap[b]? = w.heap[b]?) : AtL w' b vs := fun j x hx =>
 (World.cell?_of_block (hk _ (World.block_lt_of_cell? w _ (h j x hx)))).trans (h j x hx)
theorem AtL.fact {w : World} {b : Nat} {vs : List Value} (h : AtL w b vs) : It.ok w.heap.size w (.fact fun w' => AtL w' b vs) := fun _ hk => h.keep hk
theorem St.atL {w0 w : World} {L : List It} (h : St w0 w L) (i : Nat) {b : Nat} {vs : List Value} (hi : L[i]? = some (.box b vs)) : AtL w b vs := fun j _ hx => h.cell i hi j hx
end
section
open Go.RowKit
namespace Stp
open Car
theorem mul_bd2 {x y : Int} (h1 : -83160 ≤ x ∧ x ≤ 83160) (h2 : -1000 ≤ y ∧ y ≤ 1000) : -83160000 ≤ x * y ∧ x * y ≤ 83160000 := by
 have h : (x * y).natAbs ≤ 83160 * 1000 := by
  rw [Int.natAbs_mul]
  exact Nat.mul_le_mul (by omega) (by omega)
 omega
def pluF (X : List Int) (c : Int) (Y : List Int) (i : Nat) : Int := vec X i + c * vec Y i
set_option maxHeartbeats 4000000 in
theorem listPlus_any (c : Int) (x y : Value) (X Y : List Int) (w : World) (hx : Ints w x X) (hy : Ints w y Y) (hl : Y.length = X.length) (hn : X.length ≤ 100)
  (hX : ∀ i, i < X.length → -4989600000 ≤ vec X i ∧ vec X i ≤ 4989600000) (hY : ∀ i, -1000 ≤ vec Y i ∧ vec Y i ≤ 1000) (hc : -83160 ≤ c ∧ c ≤ 83160) :
  Calls Tryz.prog 93 #[x, .int .i64 c, y] w (RetOwn w (mapI X.length (pluF X c Y))) := by
 have g := ((St.start w).arg hx).arg hy
 obtain ⟨A, cx, rfl, _, _, _⟩ := id hx
 obtain ⟨A2, cy, rfl, _, _, _⟩ := id hy
 have HL := Lib.hid (fun W x => Clone_any (.slice A X.length cx) X W x (by omega))
 obtain ⟨R, hR⟩ : ∃ R, R = mapI X.length (pluF X c Y) := ⟨_, rfl⟩
 have HR := Lib.hid (hR.trans (fillTo_end _ _).symm)
 have H0 := Lib.hid (fillTo_zero (pluF X c Y) X)
 rw [← hR]
 obtain ⟨xl, hxl⟩ : ∃ xl, xl = X.length := ⟨_, rfl⟩
 have Hxl := Lib.hid hxl
 rw [hl]
 rw [hl] at g
 have Hyl := Lib.hid (show xl = Y.length by rw [hl, hxl])
 rw [← hxl] at g HL HR hX hn ⊢
 have HX := Lib.hid hX
 have HY := Lib.hid hY
 clear hx hy hl hX hY hR hxl
 go_enter Tryz.func93, Tryz.ntmps93
 go_wp2_with fail
 refine (HL.out _ (g.roInts 1 rfl)).mono ?_
 rintro (e : Ending) w3 ⟨u3, rfl, ho3, hb3⟩
 obtain ⟨Au, nu, cu, rfl⟩ := ho3.slice
 have g4 : St w w3 [.own (.slice Au nu cu) (fillTo (pluF X c Y) X 0), .ro (.slice A2 xl cy) Y, .ro (.slice A xl cx) X] := by
  rw [H0.out]
  exact g.pushOwn hb3 ho3
 clear ho3 hb3 g
 go_wp2
 go_loopw [14] (fun v8 wr => ∃ k : Nat, v8 = .int .i64 k ∧ k ≤ xl ∧ St w wr [.own (.slice Au nu cu) (fillTo (pluF X c Y) X k), .ro (.slice A2 xl cy) Y, .ro (.slice A xl cx) X]) (fun v8 _ => xl - (intOf v8).toNat)
 case atStart => exact ⟨0, rfl, by omega, g4⟩
 case round =>
  clear g4
  obtain ⟨k, rfl, a1, g⟩ := hrel
  by_cases hk : k < xl
  ·have hXk := HX.out k hk
   have hYk := HY.out k
   have b6 := mul_bd2 hc hYk
   have HT2 := Lib.hid (show pluF X c Y k = vec X k + c * vec Y k from rfl)
   have hfs := fillTo_set (pluF X c Y) X k (by rw [← Hxl.out]; exact hk)
   have hvf := vec_fillTo (pluF X c Y) X k (by rw [← Hxl.out]; exact hk)
   have hlf := length_fillTo (pluF X c Y) X k
   obtain ⟨LL, hLL⟩ : ∃ LL, LL = fillTo (pluF X c Y) X k := ⟨_, rfl⟩
   rw [← hLL] at g hfs hvf hlf
   obtain ⟨T, hT⟩ : ∃ T, T = vec X k := ⟨_, rfl⟩
   obtain ⟨y, hy⟩ : ∃ y, y = vec Y k := ⟨_, rfl⟩
   obtain ⟨T2, hT2⟩ : ∃ T2, T2 = pluF X c Y k := ⟨_, rfl⟩
   rw [← hT] at hXk hvf HT2
   rw [← hy] at hYk b6 HT2
   rw [← hT2] at hfs HT2
   obtain ⟨z, hz⟩ : ∃ z, z = c * y := ⟨_, rfl⟩
   rw [← hz] at b6 HT2
   have hLk : k < LL.length := by rw [hlf, ← Hxl.out]; exact hk
   obtain ⟨gx, rfl, hnx⟩ := g.ownSome 0 rfl (by omega)
   rw [hlf, ← Hxl.out] at hnx
   obtain ⟨bq, oq, rfl, -, -⟩ := (g.ro 1 rfl).cell (k := k) (by rw [← Hyl.out]; exact hk)
   have HC := Lib.hid (fun (W : World) (L : List It) (h : St w W (.own (.slice (some ⟨gx, 0, none⟩) nu cu) LL :: L)) => show W.cell? ⟨gx, k, none⟩ = some (.int .i64 T) ∧ W.frozen? ⟨gx, k, none⟩ = false by
    have := h.ownCell 0 rfl (q := k) hLk
    rwa [hvf] at this)
   have HYc := Lib.hid (fun (W : World) (o1 : It) (L : List It) (h : St w W (o1 :: .ro (.slice (some ⟨bq, oq, none⟩) xl cy) Y :: L)) => show W.cell? ⟨bq, oq + k, none⟩ = some (.int .i64 y) by
    have := h.roCell 1 rfl (q := k) (by rw [← Hyl.out]; exact hk)
    rwa [← hy] at this)
   have ik : (k : Int) < (xl : Int) := by omega
   have ikn : (k : Int) < (nu : Int) := by omega
   have w1 : IntKind.i64.wrap (c * y) = z := by rw [← hz]; exact wrap_ok (by omega) (by omega)
   have w2 : IntKind.i64.wrap (T + z) = T2 := by rw [HT2.out]; exact wrap_ok (by omega) (by omega)
   have w3 : wrap64 (c * y) = z := by rw [← hz]; unfold wrap64; omega
   have w4 : T + z = T2 := HT2.out.symm
   have w5 : wrap64 T2 = T2 := by rw [HT2.out]; unfold wrap64; omega
   have Hfs := Lib.hid hfs
   clear hXk hYk hvf hlf hLL hT hy hT2 hz hLk hnx HT2 hfs
   obtain ⟨q0, q1⟩ := HC.out _ _ g
   have q2 := HYc.out _ _ _ g
   have g0 := g
   clear g
   go_wp2
   go_roundw
   case rel => exact ⟨k + 1, by go_num, by omega, by rw [← Hfs.out]; exact g0.set 0 rfl k T2⟩
   case measure => simp [intOf]; omega
  ·obtain rfl : xl = k := by omega
   rw [← HR.out] at g
   go_wp2
   go_ret
   exact ⟨_, rfl, g.own 0 rfl, g.below⟩
end Stp
end
end Go.Proofs.YtbnefjhljfbecaaGreatDoor
