import Derived.Test.YtbnefjhljfbecaaGreatDoorW07
import Derived.Test.YtbnefjhljfbecaaGreatDoorW08
namespace Go.Proofs.YtbnefjhljfbecaaGreatDoor
set_option maxRecDepth 100000
open Go.RowKit
namespace Car
theorem step_app {ops : Array Oper} {o : Oper} {a : Act} {K : Act → World → Prop} {Q : Exit → Act → World → Prop} {E : Prop} (hgd : Region.wanted o (yielded ops a.tmps) = true) (s x : Operand)
  (ho : o.op = .call { callee := .builtin .append, args := #[s, x], argTypes := #[22, 22] }) {w0 w : World} {L : List It} (h : St w0 w L) (i : Nat) {v u : Value} {xs ys : List Int} (hi : L[i]? = some (.own v xs)) (hu : Ints w u ys) (hlen : xs.length + ys.length ≤ 17592186044416)
  (hs : a.eval s = v) (hx : a.eval x = u)
  (hk : ∀ v' w', St w0 w' (L.set i (.own v' (xs ++ ys))) → K (a.put o.dst v') w') :
  if Region.wanted o (yielded ops a.tmps) = true then Oper.wp Tryz.prog o a w K Q else E := by
 rw [if_pos hgd]
 obtain ⟨v', w', hr, k1, k2, k3⟩ := run_append_ints w0.heap.size o.type v u xs ys w (h.own i hi) hu hlen h.size
 unfold Oper.wp execOp
 simp only [ho, resolve, invoke, builtin, Sem.run_bind, Sem.run_pure, Result.andThen_ok, List.map_toArray, List.map_cons, List.map_nil, hs, hx, hr]
 exact hk _ _ (h.appended i hi k1 k2 k3)
def pr (n : Nat) (D E : List Int) (used : List Nat) (x j : Nat) : Bool := en n D x (used.getD j 0) == en n E used.length j && en n D (used.getD j 0) x == en n E j used.length
theorem ok_pr (n : Nat) (D E : List Int) (used : List Nat) (x : Nat) : ok n D n E used x = (!used.contains x && (en n D x x == en n E used.length used.length) && (List.range' 0 used.length).all (pr n D E used x)) := by
 unfold ok
 rw [List.range_eq_range']
 rfl
theorem all_cons {k j : Nat} (p : Nat → Bool) (h : j < k) : (List.range' j (k - j)).all p = (p j && (List.range' (j + 1) (k - (j + 1))).all p) := by
 obtain ⟨d, hd⟩ : ∃ d, k - j = d + 1 := ⟨k - j - 1, by omega⟩
 rw [hd, show k - (j + 1) = d from by omega]
 rfl
theorem any_cons {k j : Nat} (p : Nat → Bool) (h : j < k) : (List.range' j (k - j)).any p = (p j || (List.range' (j + 1) (k - (j + 1))).any p) := by
 obtain ⟨d, hd⟩ : ∃ d, k - j = d + 1 := ⟨k - j - 1, by omega⟩
 rw [hd, show k - (j + 1) = d from by omega]
 rfl
theorem has_any (v : Value) (l : List Nat) (x : Nat) (w : World) (hv : Ints w v (l.map Int.ofNat)) :
  Calls Tryz.prog 115 #[v, .int .i64 x] w fun e w' => e = .returned (.bool (l.contains x)) ∧ w = w' := by
 refine (Contains_any v _ x w hv).mono fun e w' ⟨h1, h2⟩ => ⟨h1.trans ?_, h2⟩
 have := found_nat l x
 unfold found at this
 congr 2
 cases hc : l.contains x with
 | true => rw [decide_eq_true (this.2 (by simpa using hc))]
 | false => rw [decide_eq_false (fun h => by have := this.1 h; simp [this] at hc)]
theorem spotE {n : Nat} (hn : n ≤ 4) {i j : Nat} (hi : i < n) (hj : j < n) {D : List Int} (hD : D.length = n * n) : IntKind.i64.wrap (IntKind.i64.wrap ((i : Int) * n) + j) = ((i * n + j : Nat) : Int) ∧ i * n + j < D.length ∧ 0 ≤ (i : Int) * n ∧ (i : Int) * n ≤ 16 ∧ ((i * n + j : Nat) : Int) < (D.length : Nat) := by
 have hb : n * n ≤ 16 := Nat.mul_le_mul hn hn
 have h1 := row_bd (c := n) hi
 obtain ⟨n1, n2, _, _⟩ := row_int (c := n) hi hb
 have e : ((i * n : Nat) : Int) = (i : Int) * n := Int.natCast_mul _ _
 refine ⟨?_, by omega, n1, by omega, by omega⟩
 rw [wrap_ok (x := (i : Int) * n) (by omega) (by omega), wrap_ok (by omega) (by omega)]
 simp
def ReAt (n : Nat) (D E : List Int) (f : Nat) : Prop := ∀ (used : List Nat) (a b u : Value) (w : World), used.length + f = n → (∀ x, x ∈ used → x < n) → Ints w a D → Ints w b E → Ints w u (used.map Int.ofNat) →
  Calls Tryz.prog 96 #[.agg #[.int .i64 n, a], .agg #[.int .i64 n, b], u] w fun e w' => e = .returned (.bool (bt n D n E (List.range n) f used)) ∧ Below w.heap.size w w'
set_option maxHeartbeats 8000000 in
theorem reordered_step (n : Nat) (D E : List Int) (hD : D.length = n * n) (hE : E.length = n * n) (hn1 : 1 ≤ n) (hn : n ≤ 4) (f : Nat) (ih : ReAt n D E f) : ReAt n D E (f + 1) := by
 intro used a b u w hl hb ha hbE hu
 have h1 := ((((St.start w).arg ha).arg hbE).arg hu)
 have h2 := (h1.box [.int .i64 n, a] 49).box [.int .i64 n, b] 49
 simp only [World.size_alloc] at h2
 obtain ⟨A0, c0, rfl, _, _, _⟩ := id ha
 obtain ⟨A1, c1, rfl, _, _, _⟩ := id hbE
 obtain ⟨A2, c2, rfl, _, _, _⟩ := id hu
 obtain ⟨R, hR⟩ : ∃ R, R = bt n D n E (List.range n) (f + 1) used := ⟨_, rfl⟩
 rw [← hR]
 have HR := Lib.hid (show R = (List.range' 0 (n - 0)).any fun x => ok n D n E used x && bt n D n E (List.range n) f (used ++ [x]) by rw [hR, Nat.sub_zero, ← List.range_eq_range']; rfl)
 have hnn : n * n ≤ 16 := Nat.mul_le_mul hn hn
 have hDl : D.length ≤ 16 := by omega
 have hEl : E.length ≤ 16 := by omega
 obtain ⟨k, hk⟩ : ∃ k, k = used.length := ⟨_, rfl⟩
 have hUl : (used.map Int.ofNat).length = k := by rw [List.length_map, hk]
 have hkn : k < n := by omega
 have HIh := Lib.hid (fun (x : Nat) (hx : x < n) (v : Value) (W : World) (x1 : Ints W (.slice A0 D.length c0) D) (x2 : Ints W (.slice A1 E.length c1) E) (x3 : Ints W v ((used ++ [x]).map Int.ofNat)) => ih (used ++ [x]) _ _ v W (by rw [List.length_append, List.length_singleton]; omega) (fun y hy => by
  rcases List.mem_append.1 hy with hy | hy
  ·exact hb y hy
  ·rw [List.mem_singleton.1 hy]; exact hx) x1 x2 x3)
 have HD := Lib.hid (fun (i j : Nat) (hi : i < n) (hj : j < n) => spotE hn hi hj hD)
 have HE := Lib.hid (fun (i j : Nat) (hi : i < n) (hj : j < n) => spotE hn hi hj hE)
 have HOk := Lib.hid (fun x => ok_pr n D E used x)
 have HB := Lib.hid (fun (j : Nat) (hj : j < k) => hb (used.getD j 0) (getD_mem (by omega)))
 have HHas := Lib.hid (fun (x : Nat) (W : World) (x1 : Ints W (.slice A2 k c2) (used.map Int.ofNat)) => has_any _ used x W x1)
 rw [hUl] at h2 ⊢
 have HUl := Lib.hid hUl
 have hkn' : ((k : Int) == (n : Int)) = false := by rw [beq_eq_false_iff_ne]; omega
 rw [← hk] at HOk
 have Hk := Lib.hid hk
 clear h1 ih ha hbE hu hR hl hb hnn hUl hk hD hE
 obtain ⟨z0, z1⟩ := h2.box2 1 rfl
 go_enter Tryz.func96, Tryz.ntmps96
 go_wp2
 clear z0 z1
 go_loopw [20] (fun v20 wr => ∃ i : Nat, v20 = .int .i64 i ∧ i ≤ n ∧ St w wr [.box (w.heap.size + 1) [.int .i64 n, .slice A1 E.length c1], .box w.heap.size [.int .i64 n, .slice A0 D.length c0], .ro (.slice A2 k c2) (used.map Int.ofNat), .ro (.slice A1 E.length c1) E, .ro (.slice A0 D.length c0) D] ∧ Hid (R = (List.range' i (n - i)).any fun x => ok n D n E used x && bt n D n E (List.range n) f (used ++ [x]))) (fun v20 _ => n - (intOf v20).toNat)
 case atStart => exact ⟨0, rfl, by omega, h2, HR⟩
 case round =>
  clear h2 HR
  obtain ⟨i, rfl, a1, g, HR⟩ := hrel
  by_cases hi : i < n
  ·have HRs := Lib.hid (HR.out.trans (any_cons _ hi))
   have ii : (i : Int) < (n : Int) := by omega
   have hok := HOk.out i
   obtain ⟨bt1, hbt1⟩ : ∃ bt1, bt1 = bt n D n E (List.range n) f (used ++ [i]) := ⟨_, rfl⟩
   have HIh1 := Lib.hid (fun v W x1 x2 x3 => HIh.out i hi v W x1 x2 x3)
   have HHas1 := Lib.hid (fun W x1 => HHas.out i W x1)
   rw [← hbt1] at HIh1
   obtain ⟨okb, hokb⟩ : ∃ okb, okb = ok n D n E used i := ⟨_, rfl⟩
   rw [← hokb] at hok
   have HR1 := Lib.hid (show R = ((okb && bt1) || (List.range' (i + 1) (n - (i + 1))).any fun x => ok n D n E used x && bt n D n E (List.range n) f (used ++ [x])) by rw [HRs.out, hokb, hbt1])
   obtain ⟨hc, hhc⟩ : ∃ hc, hc = used.contains i := ⟨_, rfl⟩
   rw [← hhc] at hok HHas1
   obtain ⟨e1, p1, p2, p3, p4⟩ := HD.out i i hi hi
   obtain ⟨e2, q1, q2, q3, q4⟩ := HE.out k k hkn hkn
   obtain ⟨b0, o0, rfl, _, x0⟩ := (g.ro 4 rfl).cell p1
   obtain ⟨b1, o1, rfl, _, y0⟩ := (g.ro 3 rfl).cell q1
   obtain ⟨dii, hdii⟩ : ∃ dii, dii = vec D (i * n + i) := ⟨_, rfl⟩
   obtain ⟨ekk, hekk⟩ : ∃ ekk, ekk = vec E (k * n + k) := ⟨_, rfl⟩
   have hok2 : okb = (!hc && (dii == ekk) && (List.range' 0 k).all (pr n D E used i)) := by rw [hok, hdii, hekk]; rfl
   rw [← hdii] at x0
   rw [← hekk] at y0
   obtain ⟨qd, hqd⟩ : ∃ qd, qd = i * n + i := ⟨_, rfl⟩
   obtain ⟨qe, hqe⟩ : ∃ qe, qe = k * n + k := ⟨_, rfl⟩
   rw [← hqd] at e1 p1 p4 x0
   rw [← hqe] at e2 q1 q4 y0
   have Hok2 := Lib.hid hok2
   clear hok hok2 hokb hbt1 hhc hdii hekk hqd hqe HR HRs
   have g9 := g.drew
   have x9 : wr.drew.cell? ⟨b0, o0 + qd, none⟩ = some (.int .i64 dii) := x0
   have y9 : wr.drew.cell? ⟨b1, o1 + qe, none⟩ = some (.int .i64 ekk) := y0
   cases hc with
   | true =>
    have HR2 := Lib.hid (show R = (List.range' (i + 1) (n - (i + 1))).any fun x => ok n D n E used x && bt n D n E (List.range n) f (used ++ [x]) by rw [HR1.out, Hok2.out]; simp)
    clear HR1
    go_upto_region 7 with fail
    refine wp_region_held_drew (S := fun w' => True) (by kernel_rfl) trivial (fun hHeld => ?_)
    obtain ⟨v0, hv0, g8⟩ : ∃ v0, v0 = wr.drew ∧ St w v0 _ := ⟨_, rfl, g9⟩
    rw [← hv0] at g9 x9 y9 ⊢
    clear hv0 g g8 x0 y0
    refine tkA 0 hHeld ?_
    refine tkA 1 hHeld ?_
    refine rcA 2 fun K hK => ?_
    go_simp
    refine (HHas1.out _ (g9.roInts 2 rfl)).mono ?_
    rintro (e : Ending) w4 ⟨rfl, rfl⟩
    show K _ _
    refine outA hK ?_ fun hHeld => ?_
    ·exact trivial
    clear hK K
    refine tkA 3 hHeld ?_
    refine skA 4 hHeld ?_
    refine skA 5 hHeld ?_
    refine skA 6 hHeld ?_
    refine skA 7 hHeld ?_
    refine skA 8 hHeld ?_
    refine skA 9 hHeld ?_
    refine skA 10 hHeld ?_
    refine skA 11 hHeld ?_
    refine skA 12 hHeld ?_
    refine skA 13 hHeld ?_
    refine skA 14 hHeld ?_
    refine skA 15 hHeld ?_
    refine skA 16 hHeld ?_
    refine skA 17 hHeld ?_
    refine skA 18 hHeld ?_
    refine skA 19 hHeld ?_
    refine skA 20 hHeld ?_
    refine skA 21 hHeld ?_
    refine skA 22 hHeld ?_
    refine skA 23 hHeld ?_
    refine skA 24 hHeld ?_
    refine tkA 25 hHeld ?_
    refine wpAnyH_done (by kernel_rfl) ?_ _
    clear hHeld
    go_wp2
    go_roundw
    case rel => exact ⟨i + 1, by go_num, by omega, g9, HR2⟩
    case measure => simp [intOf]; omega
   | false =>
    by_cases hd : dii = ekk
    case neg =>
     have t1 : (dii != ekk) = true := by simpa using hd
     have t2 : (dii == ekk) = false := by rw [beq_eq_false_iff_ne]; exact hd
     have HR2 := Lib.hid (show R = (List.range' (i + 1) (n - (i + 1))).any fun x => ok n D n E used x && bt n D n E (List.range n) f (used ++ [x]) by rw [HR1.out, Hok2.out, t2]; simp)
     clear HR1 t2 hd
     go_upto_region 7 with fail
     refine wp_region_held_drew (S := fun w' => (w'.cell? ⟨w.heap.size, 0, none⟩ = some (.int .i64 n) ∧ w'.cell? ⟨w.heap.size, 1, none⟩ = some (.slice (some ⟨b0, o0, none⟩) D.length c0)) ∧ (w'.cell? ⟨w.heap.size + 1, 0, none⟩ = some (.int .i64 n) ∧ w'.cell? ⟨w.heap.size + 1, 1, none⟩ = some (.slice (some ⟨b1, o1, none⟩) E.length c1)) ∧ w'.cell? ⟨b0, o0 + qd, none⟩ = some (.int .i64 dii) ∧ w'.cell? ⟨b1, o1 + qe, none⟩ = some (.int .i64 ekk)) (by kernel_rfl) ⟨g9.box2 1 rfl, g9.box2 0 rfl, x9, y9⟩ (fun hHeld => ?_)
     obtain ⟨v0, hv0, g8⟩ : ∃ v0, v0 = wr.drew ∧ St w v0 _ := ⟨_, rfl, g9⟩
     rw [← hv0] at g9 x9 y9 hHeld ⊢
     clear hv0 g g8 x0 y0
     refine tkA 0 hHeld ?_
     refine tkA 1 hHeld ?_
     refine rcA 2 fun K hK => ?_
     go_simp
     refine (HHas1.out _ (g9.roInts 2 rfl)).mono ?_
     rintro (e : Ending) w4 ⟨rfl, rfl⟩
     show K _ _
     refine outA hK ?_ fun hHeld => ?_
     ·exact ⟨g9.box2 1 rfl, g9.box2 0 rfl, x9, y9⟩
     clear hK K
     refine tkA 3 hHeld ?_
     refine tkA 4 hHeld ?_
     refine tkA 5 hHeld ?_
     refine tkA 6 hHeld ?_
     refine tkA 7 hHeld ?_
     refine tkA 8 hHeld ?_
     refine tkA 9 hHeld ?_
     refine tkA 10 hHeld ?_
     refine tkA 11 hHeld ?_
     refine tkA 12 hHeld ?_
     refine tkA 13 hHeld ?_
     refine tkA 14 hHeld ?_
     refine tkA 15 hHeld ?_
     refine tkA 16 hHeld ?_
     refine tkA 17 hHeld ?_
     refine tkA 18 hHeld ?_
     refine tkA 19 hHeld ?_
     refine tkA 20 hHeld ?_
     refine tkA 21 hHeld ?_
     refine tkA 22 hHeld ?_
     refine tkA 23 hHeld ?_
     refine tkA 24 hHeld ?_
     refine tkA 25 hHeld ?_
     refine wpAnyH_done (by kernel_rfl) ?_ _
     clear hHeld
     go_wp2
     go_roundw
     case rel => exact ⟨i + 1, by go_num, by omega, g9, HR2⟩
     case measure => simp [intOf]; omega
    case pos =>
     subst hd
     obtain ⟨PP, hPP⟩ : ∃ PP, PP = (List.range' 0 (k - 0)).all (pr n D E used i) := ⟨_, rfl⟩
     have HPP := Lib.hid hPP
     have HR3 := Lib.hid (show R = ((PP && bt1) || (List.range' (i + 1) (n - (i + 1))).any fun x => ok n D n E used x && bt n D n E (List.range n) f (used ++ [x])) by rw [HR1.out, Hok2.out, hPP, Nat.sub_zero]; simp)
     clear HR1 Hok2 hPP
     go_upto_region 7 with fail
     refine wp_region_held_drew (S := fun w' => (w'.cell? ⟨w.heap.size, 0, none⟩ = some (.int .i64 n) ∧ w'.cell? ⟨w.heap.size, 1, none⟩ = some (.slice (some ⟨b0, o0, none⟩) D.length c0)) ∧ (w'.cell? ⟨w.heap.size + 1, 0, none⟩ = some (.int .i64 n) ∧ w'.cell? ⟨w.heap.size + 1, 1, none⟩ = some (.slice (some ⟨b1, o1, none⟩) E.length c1)) ∧ w'.cell? ⟨b0, o0 + qd, none⟩ = some (.int .i64 dii) ∧ w'.cell? ⟨b1, o1 + qe, none⟩ = some (.int .i64 dii)) (by kernel_rfl) ⟨g9.box2 1 rfl, g9.box2 0 rfl, x9, y9⟩ (fun hHeld => ?_)
     obtain ⟨v0, hv0, g8⟩ : ∃ v0, v0 = wr.drew ∧ St w v0 _ := ⟨_, rfl, g9⟩
     rw [← hv0] at g9 x9 y9 hHeld ⊢
     clear hv0 g g8 x0 y0
     refine tkA 0 hHeld ?_
     refine tkA 1 hHeld ?_
     refine rcA 2 fun K hK => ?_
     go_simp
     refine (HHas1.out _ (g9.roInts 2 rfl)).mono ?_
     rintro (e : Ending) w4 ⟨rfl, rfl⟩
     show K _ _
     refine outA hK ?_ fun hHeld => ?_
     ·exact ⟨g9.box2 1 rfl, g9.box2 0 rfl, x9, y9⟩
     clear hK K
     refine tkA 3 hHeld ?_
     refine tkA 4 hHeld ?_
     refine tkA 5 hHeld ?_
     refine tkA 6 hHeld ?_
     refine tkA 7 hHeld ?_
     refine tkA 8 hHeld ?_
     refine tkA 9 hHeld ?_
     refine tkA 10 hHeld ?_
     refine tkA 11 hHeld ?_
     refine tkA 12 hHeld ?_
     refine tkA 13 hHeld ?_
     refine tkA 14 hHeld ?_
     refine tkA 15 hHeld ?_
     refine tkA 16 hHeld ?_
     refine tkA 17 hHeld ?_
     refine tkA 18 hHeld ?_
     refine tkA 19 hHeld ?_
     refine tkA 20 hHeld ?_
     refine tkA 21 hHeld ?_
     refine tkA 22 hHeld ?_
     refine tkA 23 hHeld ?_
     refine tkA 24 hHeld ?_
     refine tkA 25 hHeld ?_
     refine wpAnyH_done (by kernel_rfl) ?_ _
     clear hHeld
     clear x9 y9 e1 e2 p1 p2 p3 p4 q1 q2 q3 q4
     go_wp2
     go_loopw [9, 10, 11, 51] (fun v9 _ _ v51 wr => ∃ (j : Nat) (ft : Bool), v9 = .bool ft ∧ v51 = .int .i64 j ∧ j ≤ k ∧ St w wr [.box (w.heap.size + 1) [.int .i64 n, .slice (some ⟨b1, o1, none⟩) E.length c1], .box w.heap.size [.int .i64 n, .slice (some ⟨b0, o0, none⟩) D.length c0], .ro (.slice A2 k c2) (used.map Int.ofNat), .ro (.slice (some ⟨b1, o1, none⟩) E.length c1) E, .ro (.slice (some ⟨b0, o0, none⟩) D.length c0) D] ∧ Hid (PP = (ft && (List.range' j (k - j)).all (pr n D E used i)))) (fun _ _ _ v51 _ => k - (intOf v51).toNat)
     case atStart => exact ⟨0, true, rfl, rfl, by omega, g9, HPP⟩
     case round =>
      clear g9 HPP
      obtain ⟨j, ft, rfl, rfl, a2, g, HP⟩ := hrel
      by_cases hj : j < k
      ·have ij : (j : Int) < (k : Int) := by omega
       have hrn := HB.out j hj
       obtain ⟨r, hr⟩ : ∃ r, r = used.getD j 0 := ⟨_, rfl⟩
       rw [← hr] at hrn
       obtain ⟨b2, o2, rfl, _, z2⟩ := (g.ro 2 rfl).cell (k := j) (by rw [HUl.out]; exact hj)
       rw [vec_nat, ← hr] at z2
       obtain ⟨e1, p1, p2, p3, p4⟩ := HD.out i r hi hrn
       obtain ⟨e2, q1, q2, q3, q4⟩ := HE.out k j hkn (by omega)
       obtain ⟨e3, r1, r2, r3, r4⟩ := HD.out r i hrn hi
       obtain ⟨e4, s1, s2, s3, s4⟩ := HE.out j k (by omega) hkn
       have x1 := g.roCell 4 rfl (q := i * n + r) p1
       have y1 := g.roCell 3 rfl (q := k * n + j) q1
       have x2 := g.roCell 4 rfl (q := r * n + i) r1
       have y2 := g.roCell 3 rfl (q := j * n + k) s1
       obtain ⟨da, hda⟩ : ∃ da, da = vec D (i * n + r) := ⟨_, rfl⟩
       obtain ⟨ea, hea⟩ : ∃ ea, ea = vec E (k * n + j) := ⟨_, rfl⟩
       obtain ⟨db, hdb⟩ : ∃ db, db = vec D (r * n + i) := ⟨_, rfl⟩
       obtain ⟨eb, heb⟩ : ∃ eb, eb = vec E (j * n + k) := ⟨_, rfl⟩
       have hpr : pr n D E used i j = ((da == ea) && (db == eb)) := by rw [hda, hea, hdb, heb, hr]; unfold pr; rw [← Hk.out]; rfl
       rw [← hda] at x1
       rw [← hea] at y1
       rw [← hdb] at x2
       rw [← heb] at y2
       obtain ⟨qa, hqa⟩ : ∃ qa, qa = i * n + r := ⟨_, rfl⟩
       obtain ⟨qb, hqb⟩ : ∃ qb, qb = k * n + j := ⟨_, rfl⟩
       obtain ⟨qc, hqc⟩ : ∃ qc, qc = r * n + i := ⟨_, rfl⟩
       obtain ⟨qf, hqf⟩ : ∃ qf, qf = j * n + k := ⟨_, rfl⟩
       rw [← hqa] at e1 p1 p4 x1
       rw [← hqb] at e2 q1 q4 y1
       rw [← hqc] at e3 r1 r4 x2
       rw [← hqf] at e4 s1 s4 y2
       have HP2 := Lib.hid (show PP = ((ft && ((da == ea) && (db == eb))) && (List.range' (j + 1) (k - (j + 1))).all (pr n D E used i)) by rw [HP.out, all_cons _ hj, hpr]; simp only [Bool.and_assoc])
       clear hda hea hdb heb hpr hqa hqb hqc hqf hr HP
       have g0 := g.drew
       have x1' : wr.drew.cell? ⟨b0, o0 + qa, none⟩ = some (.int .i64 da) := x1
       have y1' : wr.drew.cell? ⟨b1, o1 + qb, none⟩ = some (.int .i64 ea) := y1
       have x2' : wr.drew.cell? ⟨b0, o0 + qc, none⟩ = some (.int .i64 db) := x2
       have y2' : wr.drew.cell? ⟨b1, o1 + qf, none⟩ = some (.int .i64 eb) := y2
       cases ft with
       | false =>
        go_upto_region 12 with fail
        refine wp_region_held_drew (S := fun w' => True) (by kernel_rfl) trivial (fun hHeld => ?_)
        refine tkA 0 hHeld ?_
        refine tkA 1 hHeld ?_
        refine skA 2 hHeld ?_
        refine skA 3 hHeld ?_
        refine skA 4 hHeld ?_
        refine skA 5 hHeld ?_
        refine skA 6 hHeld ?_
        refine skA 7 hHeld ?_
        refine skA 8 hHeld ?_
        refine skA 9 hHeld ?_
        refine skA 10 hHeld ?_
        refine skA 11 hHeld ?_
        refine skA 12 hHeld ?_
        refine skA 13 hHeld ?_
        refine skA 14 hHeld ?_
        refine skA 15 hHeld ?_
        refine skA 16 hHeld ?_
        refine skA 17 hHeld ?_
        refine skA 18 hHeld ?_
        refine skA 19 hHeld ?_
        refine skA 20 hHeld ?_
        refine skA 21 hHeld ?_
        refine skA 22 hHeld ?_
        refine tkA 23 hHeld ?_
        refine tkA 24 hHeld ?_
        refine skA 25 hHeld ?_
        refine skA 26 hHeld ?_
        refine skA 27 hHeld ?_
        refine skA 28 hHeld ?_
        refine skA 29 hHeld ?_
        refine skA 30 hHeld ?_
        refine skA 31 hHeld ?_
        refine skA 32 hHeld ?_
        refine skA 33 hHeld ?_
        refine skA 34 hHeld ?_
        refine skA 35 hHeld ?_
        refine skA 36 hHeld ?_
        refine skA 37 hHeld ?_
        refine skA 38 hHeld ?_
        refine skA 39 hHeld ?_
        refine skA 40 hHeld ?_
        refine skA 41 hHeld ?_
        refine skA 42 hHeld ?_
        refine skA 43 hHeld ?_
        refine skA 44 hHeld ?_
        refine skA 45 hHeld ?_
        refine tkA 46 hHeld ?_
        refine tkA 47 hHeld ?_
        refine wpAnyH_done (by kernel_rfl) ?_ _
        clear hHeld
        clear x1 y1 x2 y2 x1' y1' x2' y2' z2 g
        go_wp2
        go_roundw
        case rel => exact ⟨j + 1, false, rfl, by go_num, by omega, g0, Lib.hid (by rw [HP2.out]; rfl)⟩
        case measure => simp [intOf]; omega
       | true =>
        by_cases h1 : da = ea
        ·subst h1
         by_cases h2 : db = eb
         ·subst h2
          go_upto_region 12 with fail
          refine wp_region_held_drew (S := fun w' => (w'.cell? ⟨w.heap.size, 0, none⟩ = some (.int .i64 n) ∧ w'.cell? ⟨w.heap.size, 1, none⟩ = some (.slice (some ⟨b0, o0, none⟩) D.length c0)) ∧ (w'.cell? ⟨w.heap.size + 1, 0, none⟩ = some (.int .i64 n) ∧ w'.cell? ⟨w.heap.size + 1, 1, none⟩ = some (.slice (some ⟨b1, o1, none⟩) E.length c1)) ∧ w'.cell? ⟨b0, o0 + qa, none⟩ = some (.int .i64 da) ∧ w'.cell? ⟨b1, o1 + qb, none⟩ = some (.int .i64 da) ∧ w'.cell? ⟨b0, o0 + qc, none⟩ = some (.int .i64 db) ∧ w'.cell? ⟨b1, o1 + qf, none⟩ = some (.int .i64 db)) (by kernel_rfl) ⟨g0.box2 1 rfl, g0.box2 0 rfl, x1', y1', x2', y2'⟩ (fun hHeld => ?_)
          refine tkA 0 hHeld ?_
          refine tkA 1 hHeld ?_
          refine tkA 2 hHeld ?_
          refine tkA 3 hHeld ?_
          refine tkA 4 hHeld ?_
          refine tkA 5 hHeld ?_
          refine tkA 6 hHeld ?_
          refine tkA 7 hHeld ?_
          refine tkA 8 hHeld ?_
          refine tkA 9 hHeld ?_
          refine tkA 10 hHeld ?_
          refine tkA 11 hHeld ?_
          refine tkA 12 hHeld ?_
          refine tkA 13 hHeld ?_
          refine tkA 14 hHeld ?_
          refine tkA 15 hHeld ?_
          refine tkA 16 hHeld ?_
          refine tkA 17 hHeld ?_
          refine tkA 18 hHeld ?_
          refine tkA 19 hHeld ?_
          refine tkA 20 hHeld ?_
          refine tkA 21 hHeld ?_
          refine tkA 22 hHeld ?_
          refine tkA 23 hHeld ?_
          refine tkA 24 hHeld ?_
          refine tkA 25 hHeld ?_
          refine tkA 26 hHeld ?_
          refine tkA 27 hHeld ?_
          refine tkA 28 hHeld ?_
          refine tkA 29 hHeld ?_
          refine tkA 30 hHeld ?_
          refine tkA 31 hHeld ?_
          refine tkA 32 hHeld ?_
          refine tkA 33 hHeld ?_
          refine tkA 34 hHeld ?_
          refine tkA 35 hHeld ?_
          refine tkA 36 hHeld ?_
          refine tkA 37 hHeld ?_
          refine tkA 38 hHeld ?_
          refine tkA 39 hHeld ?_
          refine tkA 40 hHeld ?_
          refine tkA 41 hHeld ?_
          refine tkA 42 hHeld ?_
          refine tkA 43 hHeld ?_
          refine tkA 44 hHeld ?_
          refine tkA 45 hHeld ?_
          refine tkA 46 hHeld ?_
          refine tkA 47 hHeld ?_
          refine wpAnyH_done (by kernel_rfl) ?_ _
          clear hHeld
          clear x1 y1 x2 y2 x1' y1' x2' y2' z2 g
          go_wp2
          go_roundw
          case rel => exact ⟨j + 1, true, rfl, by go_num, by omega, g0, Lib.hid (by rw [HP2.out]; simp)⟩
          case measure => simp [intOf]; omega
         ·have t2 : (db == eb) = false := by rw [beq_eq_false_iff_ne]; exact h2
          go_upto_region 12 with fail
          refine wp_region_held_drew (S := fun w' => (w'.cell? ⟨w.heap.size, 0, none⟩ = some (.int .i64 n) ∧ w'.cell? ⟨w.heap.size, 1, none⟩ = some (.slice (some ⟨b0, o0, none⟩) D.length c0)) ∧ (w'.cell? ⟨w.heap.size + 1, 0, none⟩ = some (.int .i64 n) ∧ w'.cell? ⟨w.heap.size + 1, 1, none⟩ = some (.slice (some ⟨b1, o1, none⟩) E.length c1)) ∧ w'.cell? ⟨b0, o0 + qa, none⟩ = some (.int .i64 da) ∧ w'.cell? ⟨b1, o1 + qb, none⟩ = some (.int .i64 da) ∧ w'.cell? ⟨b0, o0 + qc, none⟩ = some (.int .i64 db) ∧ w'.cell? ⟨b1, o1 + qf, none⟩ = some (.int .i64 eb)) (by kernel_rfl) ⟨g0.box2 1 rfl, g0.box2 0 rfl, x1', y1', x2', y2'⟩ (fun hHeld => ?_)
          refine tkA 0 hHeld ?_
          refine tkA 1 hHeld ?_
          refine tkA 2 hHeld ?_
          refine tkA 3 hHeld ?_
          refine tkA 4 hHeld ?_
          refine tkA 5 hHeld ?_
          refine tkA 6 hHeld ?_
          refine tkA 7 hHeld ?_
          refine tkA 8 hHeld ?_
          refine tkA 9 hHeld ?_
          refine tkA 10 hHeld ?_
          refine tkA 11 hHeld ?_
          refine tkA 12 hHeld ?_
          refine tkA 13 hHeld ?_
          refine tkA 14 hHeld ?_
          refine tkA 15 hHeld ?_
          refine tkA 16 hHeld ?_
          refine tkA 17 hHeld ?_
          refine tkA 18 hHeld ?_
          refine tkA 19 hHeld ?_
          refine tkA 20 hHeld ?_
          refine tkA 21 hHeld ?_
          refine tkA 22 hHeld ?_
          refine tkA 23 hHeld ?_
          refine tkA 24 hHeld ?_
          refine tkA 25 hHeld ?_
          refine tkA 26 hHeld ?_
          refine tkA 27 hHeld ?_
          refine tkA 28 hHeld ?_
          refine tkA 29 hHeld ?_
          refine tkA 30 hHeld ?_
          refine tkA 31 hHeld ?_
          refine tkA 32 hHeld ?_
          refine tkA 33 hHeld ?_
          refine tkA 34 hHeld ?_
          refine tkA 35 hHeld ?_
          refine tkA 36 hHeld ?_
          refine tkA 37 hHeld ?_
          refine tkA 38 hHeld ?_
          refine tkA 39 hHeld ?_
          refine tkA 40 hHeld ?_
          refine tkA 41 hHeld ?_
          refine tkA 42 hHeld ?_
          refine tkA 43 hHeld ?_
          refine tkA 44 hHeld ?_
          refine tkA 45 hHeld ?_
          refine tkA 46 hHeld ?_
          refine tkA 47 hHeld ?_
          refine wpAnyH_done (by kernel_rfl) ?_ _
          clear hHeld
          have HT2 := Lib.hid t2
          clear x1 y1 x2 y2 x1' y1' x2' y2' z2 g t2 h2
          go_wp2
          go_roundw
          case rel => exact ⟨j + 1, false, rfl, by go_num, by omega, g0, Lib.hid (by rw [HP2.out, HT2.out]; simp)⟩
          case measure => simp [intOf]; omega
        ·have t1 : (da == ea) = false := by rw [beq_eq_false_iff_ne]; exact h1
         go_upto_region 12 with fail
         refine wp_region_held_drew (S := fun w' => (w'.cell? ⟨w.heap.size, 0, none⟩ = some (.int .i64 n) ∧ w'.cell? ⟨w.heap.size, 1, none⟩ = some (.slice (some ⟨b0, o0, none⟩) D.length c0)) ∧ (w'.cell? ⟨w.heap.size + 1, 0, none⟩ = some (.int .i64 n) ∧ w'.cell? ⟨w.heap.size + 1, 1, none⟩ = some (.slice (some ⟨b1, o1, none⟩) E.length c1)) ∧ w'.cell? ⟨b0, o0 + qa, none⟩ = some (.int .i64 da) ∧ w'.cell? ⟨b1, o1 + qb, none⟩ = some (.int .i64 ea)) (by kernel_rfl) ⟨g0.box2 1 rfl, g0.box2 0 rfl, x1', y1'⟩ (fun hHeld => ?_)
         refine tkA 0 hHeld ?_
         refine tkA 1 hHeld ?_
         refine tkA 2 hHeld ?_
         refine tkA 3 hHeld ?_
         refine tkA 4 hHeld ?_
         refine tkA 5 hHeld ?_
         refine tkA 6 hHeld ?_
         refine tkA 7 hHeld ?_
         refine tkA 8 hHeld ?_
         refine tkA 9 hHeld ?_
         refine tkA 10 hHeld ?_
         refine tkA 11 hHeld ?_
         refine tkA 12 hHeld ?_
         refine tkA 13 hHeld ?_
         refine tkA 14 hHeld ?_
         refine tkA 15 hHeld ?_
         refine tkA 16 hHeld ?_
         refine tkA 17 hHeld ?_
         refine tkA 18 hHeld ?_
         refine tkA 19 hHeld ?_
         refine tkA 20 hHeld ?_
         refine tkA 21 hHeld ?_
         refine tkA 22 hHeld ?_
         refine tkA 23 hHeld ?_
         refine tkA 24 hHeld ?_
         refine skA 25 hHeld ?_
         refine skA 26 hHeld ?_
         refine skA 27 hHeld ?_
         refine skA 28 hHeld ?_
         refine skA 29 hHeld ?_
         refine skA 30 hHeld ?_
         refine skA 31 hHeld ?_
         refine skA 32 hHeld ?_
         refine skA 33 hHeld ?_
         refine skA 34 hHeld ?_
         refine skA 35 hHeld ?_
         refine skA 36 hHeld ?_
         refine skA 37 hHeld ?_
         refine skA 38 hHeld ?_
         refine skA 39 hHeld ?_
         refine skA 40 hHeld ?_
         refine skA 41 hHeld ?_
         refine skA 42 hHeld ?_
         refine skA 43 hHeld ?_
         refine skA 44 hHeld ?_
         refine skA 45 hHeld ?_
         refine tkA 46 hHeld ?_
         refine tkA 47 hHeld ?_
         refine wpAnyH_done (by kernel_rfl) ?_ _
         clear hHeld
         have HT1 := Lib.hid t1
         clear x1 y1 x2 y2 x1' y1' x2' y2' z2 g t1 h1
         go_wp2
         go_roundw
         case rel => exact ⟨j + 1, false, rfl, by go_num, by omega, g0, Lib.hid (by rw [HP2.out, HT1.out]; simp)⟩
         case measure => simp [intOf]; omega
      ·obtain rfl : j = k := by omega
       have hPf : PP = ft := by rw [HP.out, Nat.sub_self]; simp
       subst hPf
       clear HP
       have g0 := g.drew
       cases PP with
       | false =>
        have HR2 := Lib.hid (show R = (List.range' (i + 1) (n - (i + 1))).any fun x => ok n D n E used x && bt n D n E (List.range n) f (used ++ [x]) by rw [HR3.out]; simp)
        go_upto_region 14 with fail
        refine wp_region_held_drew (S := fun w' => True) (by kernel_rfl) trivial (fun hHeld => ?_)
        refine tkA 0 hHeld ?_
        refine tkA 1 hHeld ?_
        refine skA 2 hHeld ?_
        refine skA 3 hHeld ?_
        refine skA 4 hHeld ?_
        refine skA 5 hHeld ?_
        refine skA 6 hHeld ?_
        refine skA 7 hHeld ?_
        refine skA 8 hHeld ?_
        refine skA 9 hHeld ?_
        refine tkA 10 hHeld ?_
        refine wpAnyH_done (by kernel_rfl) ?_ _
        clear hHeld
        go_wp2
        go_roundw
        case rel => exact ⟨i + 1, by go_num, by omega, g0, HR2⟩
        case measure => simp [intOf]; omega
       | true =>
        have HR4 := Lib.hid (show R = (bt1 || (List.range' (i + 1) (n - (i + 1))).any fun x => ok n D n E used x && bt n D n E (List.range n) f (used ++ [x])) by rw [HR3.out]; simp)
        have HSm := Lib.hid (show (used ++ [i]).map Int.ofNat = used.map Int.ofNat ++ [(i : Int)] by rw [List.map_append]; rfl)
        obtain ⟨UI, hUI⟩ : ∃ UI, UI = used.map Int.ofNat := ⟨_, rfl⟩
        have HCl := Lib.hid (fun (W : World) (x : Ints W (.slice A2 j c2) UI) => Clone_any _ UI W x (by rw [hUI, HUl.out]; omega))
        have HLn := Lib.hid (show UI.length + [(i : Int)].length ≤ 17592186044416 by rw [hUI, HUl.out]; simp only [List.length_singleton]; omega)
        rw [← hUI] at g0 HSm
        have HUI := Lib.hid hUI
        clear hUI g HR3
        cases bt1 with
        | true =>
         have HR5 := Lib.hid (show R = true by rw [HR4.out]; rfl)
         clear HR4
         go_upto_region 14 with fail
         refine wp_region_held_drew (S := fun w' => (w'.cell? ⟨w.heap.size, 0, none⟩ = some (.int .i64 n) ∧ w'.cell? ⟨w.heap.size, 1, none⟩ = some (.slice (some ⟨b0, o0, none⟩) D.length c0)) ∧ (w'.cell? ⟨w.heap.size + 1, 0, none⟩ = some (.int .i64 n) ∧ w'.cell? ⟨w.heap.size + 1, 1, none⟩ = some (.slice (some ⟨b1, o1, none⟩) E.length c1))) (by kernel_rfl) ⟨g0.box2 1 rfl, g0.box2 0 rfl⟩ (fun hHeld => ?_)
         obtain ⟨v0, hv0, g8⟩ : ∃ v0, v0 = wr.drew ∧ St w v0 _ := ⟨_, rfl, g0⟩
         rw [← hv0] at g0 hHeld ⊢
         clear hv0 g8
         refine tkA 0 hHeld ?_
         refine tkA 1 hHeld ?_
         refine tkA 2 hHeld ?_
         refine tkA 3 hHeld ?_
         refine tkA 4 hHeld ?_
         refine tkA 6 hHeld ?_
         refine wpAnyH_ready (rs := [5, 7]) (by kernel_rfl) (by simp) ?_
         refine ready_cons rfl (fun K hK => ?_) (ready_cons rfl (fun K hK => ?_) AllReadyH.nil)
         ·go_simp
          refine (HCl.out _ (g0.roInts 2 rfl)).mono ?_
          rintro (e : Ending) w4 ⟨u4, rfl, ho4, hb4⟩
          obtain ⟨A4, n4, c4, rfl⟩ := ho4.slice
          have g5 := g0.pushOwn hb4 ho4
          show K _ _
          refine outA hK ?_ fun hHeld => ?_
          ·exact ⟨g5.box2 2 rfl, g5.box2 1 rfl⟩
          clear hK K
          refine rcA 7 fun K hK => ?_
          go_simp
          have g1 := g5.litInt i
          refine outA hK ?_ fun hHeld => ?_
          ·exact ⟨g1.box2 3 rfl, g1.box2 2 rfl⟩
          clear hK K
          refine rcA 8 fun K hK => ?_
          refine step_app rfl (.tmp 109) (.tmp 111) rfl g1 1 rfl (g1.ownInts 0 rfl) HLn.out rfl rfl fun vA w6 g2 => ?_
          simp only [List.set_cons_zero, List.set_cons_succ] at g2
          obtain ⟨A6, n6, c6, rfl⟩ := (g2.own 1 rfl).slice
          refine outA hK ?_ fun hHeld => ?_
          ·exact ⟨g2.box2 3 rfl, g2.box2 2 rfl⟩
          clear hK K
          refine rcA 9 fun K hK => ?_
          go_simp
          refine (HIh1.out _ _ (g2.roInts 6 rfl) (g2.roInts 5 rfl) (by rw [HSm.out]; exact g2.ownInts 1 rfl)).mono ?_
          rintro (e : Ending) w7 ⟨rfl, hb7⟩
          replace g2 := g2.on hb7
          show K _ _
          refine outA hK ?_ fun hHeld => ?_
          ·exact ⟨g2.box2 3 rfl, g2.box2 2 rfl⟩
          clear hK K
          replace g2 := g2.drop 2
          simp only [List.drop_succ_cons, List.drop_zero] at g2
          refine tkA 10 hHeld ?_
          refine wpAnyH_done (by kernel_rfl) ?_ _
          clear hHeld
          go_wp2
          go_ret
          exact ⟨ret_bool (by rw [HR5.out]), g2.below⟩
         ·go_simp
          have g5 := g0.litInt i
          refine outA hK ?_ fun hHeld => ?_
          ·exact ⟨g5.box2 2 rfl, g5.box2 1 rfl⟩
          clear hK K
          refine rcA 5 fun K hK => ?_
          go_simp
          refine (HCl.out _ (g5.roInts 3 rfl)).mono ?_
          rintro (e : Ending) w4 ⟨u4, rfl, ho4, hb4⟩
          obtain ⟨A4, n4, c4, rfl⟩ := ho4.slice
          have g1 := (g5.pushOwn hb4 ho4).swap2
          show K _ _
          refine outA hK ?_ fun hHeld => ?_
          ·exact ⟨g1.box2 3 rfl, g1.box2 2 rfl⟩
          clear hK K
          refine rcA 8 fun K hK => ?_
          refine step_app rfl (.tmp 109) (.tmp 111) rfl g1 1 rfl (g1.ownInts 0 rfl) HLn.out rfl rfl fun vA w6 g2 => ?_
          simp only [List.set_cons_zero, List.set_cons_succ] at g2
          obtain ⟨A6, n6, c6, rfl⟩ := (g2.own 1 rfl).slice
          refine outA hK ?_ fun hHeld => ?_
          ·exact ⟨g2.box2 3 rfl, g2.box2 2 rfl⟩
          clear hK K
          refine rcA 9 fun K hK => ?_
          go_simp
          refine (HIh1.out _ _ (g2.roInts 6 rfl) (g2.roInts 5 rfl) (by rw [HSm.out]; exact g2.ownInts 1 rfl)).mono ?_
          rintro (e : Ending) w7 ⟨rfl, hb7⟩
          replace g2 := g2.on hb7
          show K _ _
          refine outA hK ?_ fun hHeld => ?_
          ·exact ⟨g2.box2 3 rfl, g2.box2 2 rfl⟩
          clear hK K
          replace g2 := g2.drop 2
          simp only [List.drop_succ_cons, List.drop_zero] at g2
          refine tkA 10 hHeld ?_
          refine wpAnyH_done (by kernel_rfl) ?_ _
          clear hHeld
          go_wp2
          go_ret
          exact ⟨ret_bool (by rw [HR5.out]), g2.below⟩
        | false =>
         have HR2 := Lib.hid (show R = (List.range' (i + 1) (n - (i + 1))).any fun x => ok n D n E used x && bt n D n E (List.range n) f (used ++ [x]) by rw [HR4.out]; rfl)
         clear HR4
         go_upto_region 14 with fail
         refine wp_region_held_drew (S := fun w' => (w'.cell? ⟨w.heap.size, 0, none⟩ = some (.int .i64 n) ∧ w'.cell? ⟨w.heap.size, 1, none⟩ = some (.slice (some ⟨b0, o0, none⟩) D.length c0)) ∧ (w'.cell? ⟨w.heap.size + 1, 0, none⟩ = some (.int .i64 n) ∧ w'.cell? ⟨w.heap.size + 1, 1, none⟩ = some (.slice (some ⟨b1, o1, none⟩) E.length c1))) (by kernel_rfl) ⟨g0.box2 1 rfl, g0.box2 0 rfl⟩ (fun hHeld => ?_)
         obtain ⟨v0, hv0, g8⟩ : ∃ v0, v0 = wr.drew ∧ St w v0 _ := ⟨_, rfl, g0⟩
         rw [← hv0] at g0 hHeld ⊢
         clear hv0 g8
         refine tkA 0 hHeld ?_
         refine tkA 1 hHeld ?_
         refine tkA 2 hHeld ?_
         refine tkA 3 hHeld ?_
         refine tkA 4 hHeld ?_
         refine tkA 6 hHeld ?_
         refine wpAnyH_ready (rs := [5, 7]) (by kernel_rfl) (by simp) ?_
         refine ready_cons rfl (fun K hK => ?_) (ready_cons rfl (fun K hK => ?_) AllReadyH.nil)
         ·go_simp
          refine (HCl.out _ (g0.roInts 2 rfl)).mono ?_
          rintro (e : Ending) w4 ⟨u4, rfl, ho4, hb4⟩
          obtain ⟨A4, n4, c4, rfl⟩ := ho4.slice
          have g5 := g0.pushOwn hb4 ho4
          show K _ _
          refine outA hK ?_ fun hHeld => ?_
          ·exact ⟨g5.box2 2 rfl, g5.box2 1 rfl⟩
          clear hK K
          refine rcA 7 fun K hK => ?_
          go_simp
          have g1 := g5.litInt i
          refine outA hK ?_ fun hHeld => ?_
          ·exact ⟨g1.box2 3 rfl, g1.box2 2 rfl⟩
          clear hK K
          refine rcA 8 fun K hK => ?_
          refine step_app rfl (.tmp 109) (.tmp 111) rfl g1 1 rfl (g1.ownInts 0 rfl) HLn.out rfl rfl fun vA w6 g2 => ?_
          simp only [List.set_cons_zero, List.set_cons_succ] at g2
          obtain ⟨A6, n6, c6, rfl⟩ := (g2.own 1 rfl).slice
          refine outA hK ?_ fun hHeld => ?_
          ·exact ⟨g2.box2 3 rfl, g2.box2 2 rfl⟩
          clear hK K
          refine rcA 9 fun K hK => ?_
          go_simp
          refine (HIh1.out _ _ (g2.roInts 6 rfl) (g2.roInts 5 rfl) (by rw [HSm.out]; exact g2.ownInts 1 rfl)).mono ?_
          rintro (e : Ending) w7 ⟨rfl, hb7⟩
          replace g2 := g2.on hb7
          show K _ _
          refine outA hK ?_ fun hHeld => ?_
          ·exact ⟨g2.box2 3 rfl, g2.box2 2 rfl⟩
          clear hK K
          replace g2 := g2.drop 2
          simp only [List.drop_succ_cons, List.drop_zero] at g2
          refine tkA 10 hHeld ?_
          refine wpAnyH_done (by kernel_rfl) ?_ _
          clear hHeld
          rw [HUI.out] at g2
          go_wp2
          go_roundw
          case rel => exact ⟨i + 1, by go_num, by omega, g2, HR2⟩
          case measure => simp [intOf]; omega
         ·go_simp
          have g5 := g0.litInt i
          refine outA hK ?_ fun hHeld => ?_
          ·exact ⟨g5.box2 2 rfl, g5.box2 1 rfl⟩
          clear hK K
          refine rcA 5 fun K hK => ?_
          go_simp
          refine (HCl.out _ (g5.roInts 3 rfl)).mono ?_
          rintro (e : Ending) w4 ⟨u4, rfl, ho4, hb4⟩
          obtain ⟨A4, n4, c4, rfl⟩ := ho4.slice
          have g1 := (g5.pushOwn hb4 ho4).swap2
          show K _ _
          refine outA hK ?_ fun hHeld => ?_
          ·exact ⟨g1.box2 3 rfl, g1.box2 2 rfl⟩
          clear hK K
          refine rcA 8 fun K hK => ?_
          refine step_app rfl (.tmp 109) (.tmp 111) rfl g1 1 rfl (g1.ownInts 0 rfl) HLn.out rfl rfl fun vA w6 g2 => ?_
          simp only [List.set_cons_zero, List.set_cons_succ] at g2
          obtain ⟨A6, n6, c6, rfl⟩ := (g2.own 1 rfl).slice
          refine outA hK ?_ fun hHeld => ?_
          ·exact ⟨g2.box2 3 rfl, g2.box2 2 rfl⟩
          clear hK K
          refine rcA 9 fun K hK => ?_
          go_simp
          refine (HIh1.out _ _ (g2.roInts 6 rfl) (g2.roInts 5 rfl) (by rw [HSm.out]; exact g2.ownInts 1 rfl)).mono ?_
          rintro (e : Ending) w7 ⟨rfl, hb7⟩
          replace g2 := g2.on hb7
          show K _ _
          refine outA hK ?_ fun hHeld => ?_
          ·exact ⟨g2.box2 3 rfl, g2.box2 2 rfl⟩
          clear hK K
          replace g2 := g2.drop 2
          simp only [List.drop_succ_cons, List.drop_zero] at g2
          refine tkA 10 hHeld ?_
          refine wpAnyH_done (by kernel_rfl) ?_ _
          clear hHeld
          rw [HUI.out] at g2
          go_wp2
          go_roundw
          case rel => exact ⟨i + 1, by go_num, by omega, g2, HR2⟩
          case measure => simp [intOf]; omega
  ·obtain rfl : i = n := by omega
   have HRe := Lib.hid (show R = false by rw [HR.out, Nat.sub_self]; rfl)
   go_wp2
   go_ret
   exact ⟨ret_bool (by rw [HRe.out]), g.below⟩
end Car
end Go.Proofs.YtbnefjhljfbecaaGreatDoor
