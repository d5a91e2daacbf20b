import Derived.Lib.AppendZeros
import Derived.Test.YtbnefjhljfbecaaGreatDoorW06
import Derived.Test.YtbnefjhljfbecaaGreatDoorW20
namespace Go.Proofs.YtbnefjhljfbecaaGreatDoor
set_option maxRecDepth 100000
section
open Go.RowKit
def matOk (p r c : Int) (D : List Int) : Bool := isPrime p && (inR r 0 40 && (inR c 0 40 && (decide ((D.length : Int) = r * c) && resid p D)))
theorem matOk_spec {p r c : Int} {D : List Int} (h : matOk p r c D = true) : ∃ a b : Nat, r = a ∧ c = b ∧ a ≤ 40 ∧ b ≤ 40 ∧ D.length = a * b ∧ resid p D = true ∧ 2 ≤ p ∧ p ≤ 10007 ∧ isPrime p = true := by
 simp only [matOk, Bool.and_eq_true, decide_eq_true_eq] at h
 obtain ⟨h1, h2, h3, h4, h5⟩ := h
 obtain ⟨a, rfl⟩ : ∃ a : Nat, r = a := ⟨r.toNat, by simp [inR] at h2; omega⟩
 obtain ⟨b, rfl⟩ : ∃ b : Nat, c = b := ⟨c.toNat, by simp [inR] at h3; omega⟩
 exact ⟨a, b, rfl, rfl, by simp [inR] at h2; omega, by simp [inR] at h3; omega, by exact_mod_cast h4, h5, (isPrime_bd h1).1, (isPrime_bd h1).2, h1⟩
set_option maxHeartbeats 1000000 in
theorem MatrixOkI_any (p r c : Int) (t : Value) (D : List Int) (w : World) (ht : Ints w t D) (hp : p ≤ 9223372036854775807) :
  Calls Tryz.prog 112 #[.agg #[.int .i64 p, .int .i64 r, .int .i64 c, t]] w (RetBool w (matOk p r c D)) := by
 have h1 := (St.start1 ht).box [.int .i64 p, .int .i64 r, .int .i64 c, t] 32
 obtain ⟨A, k, rfl, hk1, hk2, _⟩ := id ht
 clear ht
 have hi := h1.roInts 1 rfl
 obtain ⟨z0, z1, z2, z3⟩ := h1.box4 0 rfl
 by_cases b1 : isPrime p = true
 ·have hb := isPrime_bd b1
  have hp0 : 0 ≤ p := by omega
  by_cases b2 : inR r 0 40 = true
  ·by_cases b3 : inR c 0 40 = true
   ·obtain ⟨x, rfl⟩ : ∃ x : Nat, r = x := ⟨r.toNat, by simp [inR] at b2; omega⟩
    obtain ⟨y, rfl⟩ : ∃ y : Nat, c = y := ⟨c.toNat, by simp [inR] at b3; omega⟩
    have hx : x ≤ 40 := by simp [inR] at b2; omega
    have hy : y ≤ 40 := by simp [inR] at b3; omega
    have hxy := mul_le hx hy
    have r1 : 0 ≤ (x : Int) * y ∧ (x : Int) * y ≤ 1600 := by
     have : ((x * y : Nat) : Int) = (x : Int) * y := Int.natCast_mul _ _
     omega
    by_cases b4 : (D.length : Int) = (x : Int) * y
    ·have t4 : ((D.length : Int) != (x : Int) * y) = false := by simp [b4]
     have t5 : ((D.length : Int) == (x : Int) * y) = true := by simp [b4]
     rw [show matOk p x y D = resid p D by simp only [matOk, b1, b2, b3, decide_eq_true b4, Bool.true_and]]
     have B4 := Lib.hid b4
     clear b4
     go_enter Tryz.func112, Tryz.ntmps112
     go_wp2_with (first | (go_at_call 108; refine (IsPrimeI_any _ _).mono ?_; rintro (e : Ending) w' ⟨rfl, rfl⟩) | (go_at_call 56; refine (inside_any _ _ _ _).mono ?_; rintro (e : Ending) w' ⟨rfl, rfl⟩) | (go_at_call 109; refine (residues_any _ D p _ hp0 hp hi).mono ?_; rintro (e : Ending) w2 ⟨rfl, hb2⟩))
     go_ret
     exact ⟨rfl, (h1.on hb2).below⟩
    ·have t4 : ((D.length : Int) != (x : Int) * y) = true := by simp [b4]
     have t5 : ((D.length : Int) == (x : Int) * y) = false := by simp [b4]
     rw [show matOk p x y D = false by simp only [matOk, b1, b2, b3, decide_eq_false b4, Bool.true_and, Bool.false_and]]
     have B4 := Lib.hid b4
     clear b4
     go_enter Tryz.func112, Tryz.ntmps112
     go_wp2_with (first | (go_at_call 108; refine (IsPrimeI_any _ _).mono ?_; rintro (e : Ending) w' ⟨rfl, rfl⟩) | (go_at_call 56; refine (inside_any _ _ _ _).mono ?_; rintro (e : Ending) w' ⟨rfl, rfl⟩))
     go_ret
     exact ⟨rfl, h1.below⟩
   ·have b3 : inR c 0 40 = false := by simpa using b3
    rw [show matOk p r c D = false by simp only [matOk, b1, b2, b3, Bool.true_and, Bool.false_and]]
    go_enter Tryz.func112, Tryz.ntmps112
    go_wp2_with (first | (go_at_call 108; refine (IsPrimeI_any _ _).mono ?_; rintro (e : Ending) w' ⟨rfl, rfl⟩) | (go_at_call 56; refine (inside_any _ _ _ _).mono ?_; rintro (e : Ending) w' ⟨rfl, rfl⟩))
    go_ret
    exact ⟨rfl, h1.below⟩
  ·have b2 : inR r 0 40 = false := by simpa using b2
   rw [show matOk p r c D = false by simp only [matOk, b1, b2, Bool.true_and, Bool.false_and]]
   go_enter Tryz.func112, Tryz.ntmps112
   go_wp2_with (first | (go_at_call 108; refine (IsPrimeI_any _ _).mono ?_; rintro (e : Ending) w' ⟨rfl, rfl⟩) | (go_at_call 56; refine (inside_any _ _ _ _).mono ?_; rintro (e : Ending) w' ⟨rfl, rfl⟩))
   go_ret
   exact ⟨rfl, h1.below⟩
 ·have b1 : isPrime p = false := by simpa using b1
  rw [show matOk p r c D = false by simp only [matOk, b1, Bool.false_and]]
  go_enter Tryz.func112, Tryz.ntmps112
  go_wp2_with (go_at_call 108; refine (IsPrimeI_any _ _).mono ?_; rintro (e : Ending) w' ⟨rfl, rfl⟩)
  go_ret
  exact ⟨rfl, h1.below⟩
theorem l1Residues_below (v : Value) (l : List Int) (p : Int) (w : World) (hv : Ints w v l) : Calls Tryz.prog 98 #[v, .int .i64 p] w fun e w' => e = .returned (.bool (resid p l)) ∧ Below w.heap.size w w' :=
 (l1Residues_any v l p w hv).mono fun _ _ ⟨he, hw⟩ => ⟨he, below_of_eq hw⟩
set_option maxHeartbeats 1000000 in
theorem MatrixOkS_any (p r c : Int) (t : Value) (D : List Int) (w : World) (ht : Ints w t D) (hp : p ≤ 9223372036854775807) :
  Calls Tryz.prog 101 #[.agg #[.int .i64 p, .int .i64 r, .int .i64 c, t]] w (RetBool w (matOk p r c D)) := by
 have h1 := (St.start1 ht).box [.int .i64 p, .int .i64 r, .int .i64 c, t] 32
 obtain ⟨A, k, rfl, hk1, hk2, _⟩ := id ht
 clear ht
 have hi := h1.roInts 1 rfl
 obtain ⟨z0, z1, z2, z3⟩ := h1.box4 0 rfl
 by_cases b1 : isPrime p = true
 ·have hb := isPrime_bd b1
  have hp0 : 0 ≤ p := by omega
  by_cases b2 : inR r 0 40 = true
  ·by_cases b3 : inR c 0 40 = true
   ·obtain ⟨x, rfl⟩ : ∃ x : Nat, r = x := ⟨r.toNat, by simp [inR] at b2; omega⟩
    obtain ⟨y, rfl⟩ : ∃ y : Nat, c = y := ⟨c.toNat, by simp [inR] at b3; omega⟩
    have hx : x ≤ 40 := by simp [inR] at b2; omega
    have hy : y ≤ 40 := by simp [inR] at b3; omega
    have hxy := mul_le hx hy
    have r1 : 0 ≤ (x : Int) * y ∧ (x : Int) * y ≤ 1600 := by
     have : ((x * y : Nat) : Int) = (x : Int) * y := Int.natCast_mul _ _
     omega
    by_cases b4 : (D.length : Int) = (x : Int) * y
    ·have t4 : ((D.length : Int) != (x : Int) * y) = false := by simp [b4]
     have t5 : ((D.length : Int) == (x : Int) * y) = true := by simp [b4]
     rw [show matOk p x y D = resid p D by simp only [matOk, b1, b2, b3, decide_eq_true b4, Bool.true_and]]
     have B4 := Lib.hid b4
     clear b4
     go_enter Tryz.func101, Tryz.ntmps101
     go_wp2_with (first | (go_at_call 97; refine (IsPrimeS_any _ _).mono ?_; rintro (e : Ending) w' ⟨rfl, rfl⟩) | (go_at_call 20; refine (l1In_any _ _ _ _).mono ?_; rintro (e : Ending) w' ⟨rfl, rfl⟩) | (go_at_call 98; refine (l1Residues_below _ D p _ hi).mono ?_; rintro (e : Ending) w2 ⟨rfl, hb2⟩))
     go_ret
     exact ⟨rfl, (h1.on hb2).below⟩
    ·have t4 : ((D.length : Int) != (x : Int) * y) = true := by simp [b4]
     have t5 : ((D.length : Int) == (x : Int) * y) = false := by simp [b4]
     rw [show matOk p x y D = false by simp only [matOk, b1, b2, b3, decide_eq_false b4, Bool.true_and, Bool.false_and]]
     have B4 := Lib.hid b4
     clear b4
     go_enter Tryz.func101, Tryz.ntmps101
     go_wp2_with (first | (go_at_call 97; refine (IsPrimeS_any _ _).mono ?_; rintro (e : Ending) w' ⟨rfl, rfl⟩) | (go_at_call 20; refine (l1In_any _ _ _ _).mono ?_; rintro (e : Ending) w' ⟨rfl, rfl⟩))
     go_ret
     exact ⟨rfl, h1.below⟩
   ·have b3 : inR c 0 40 = false := by simpa using b3
    rw [show matOk p r c D = false by simp only [matOk, b1, b2, b3, Bool.true_and, Bool.false_and]]
    go_enter Tryz.func101, Tryz.ntmps101
    go_wp2_with (first | (go_at_call 97; refine (IsPrimeS_any _ _).mono ?_; rintro (e : Ending) w' ⟨rfl, rfl⟩) | (go_at_call 20; refine (l1In_any _ _ _ _).mono ?_; rintro (e : Ending) w' ⟨rfl, rfl⟩))
    go_ret
    exact ⟨rfl, h1.below⟩
  ·have b2 : inR r 0 40 = false := by simpa using b2
   rw [show matOk p r c D = false by simp only [matOk, b1, b2, Bool.true_and, Bool.false_and]]
   go_enter Tryz.func101, Tryz.ntmps101
   go_wp2_with (first | (go_at_call 97; refine (IsPrimeS_any _ _).mono ?_; rintro (e : Ending) w' ⟨rfl, rfl⟩) | (go_at_call 20; refine (l1In_any _ _ _ _).mono ?_; rintro (e : Ending) w' ⟨rfl, rfl⟩))
   go_ret
   exact ⟨rfl, h1.below⟩
 ·have b1 : isPrime p = false := by simpa using b1
  rw [show matOk p r c D = false by simp only [matOk, b1, Bool.false_and]]
  go_enter Tryz.func101, Tryz.ntmps101
  go_wp2_with (go_at_call 97; refine (IsPrimeS_any _ _).mono ?_; rintro (e : Ending) w' ⟨rfl, rfl⟩)
  go_ret
  exact ⟨rfl, h1.below⟩
end
section
open Go.RowKit
set_option maxHeartbeats 400000 in
theorem unit_any (n k : Nat) (w : World) (hn : n ≤ 1048576) (hk : k < n) :
  Calls Tryz.prog 116 #[.int .i64 n, .int .i64 k] w (RetOwn w (unitL n k)) := by
 have hmk := makeI n (by omega)
 have ho := Own.made (W := w) (n := n) (lo := w.heap.size) (by omega) (Nat.le_refl _)
 obtain ⟨e1, e2⟩ := ho.cell k (by simpa using hk)
 obtain ⟨ho', hg'⟩ := ho.set k 1
 rw [← tab_zero, tab_set, World.setCell_alloc_new] at ho'
 clear ho
 go_enter Tryz.func116, Tryz.ntmps116
 go_wp2
 go_ret
 exact ⟨_, rfl, ho', (Below.refl _ _).alloc (Nat.le_refl _) _⟩
def RowAt (w : World) (b o : Nat) (l : List Int) (u : Value) : Prop := w.cell? ⟨b, o, none⟩ = some u ∧ Ints w u l
theorem RowAt.fact {w : World} {b o : Nat} {l : List Int} {u : Value} (h : RowAt w b o l u) : It.ok w.heap.size w (.fact fun w' => RowAt w' b o l u) := fun _ hk =>
 ⟨(World.cell?_of_block (hk _ (World.block_lt_of_cell? w _ h.1))).trans h.1, h.2.keep fun p hp => World.cell?_of_block (hk p.block hp)⟩
theorem IntRows.at {w : World} {A : Option Addr} {n c : Nat} {ll : List (List Int)} (h : IntRows w (.slice A n c) ll) {i : Nat} (hi : i < ll.length) :
  ∃ b off A' c', A = some ⟨b, off, none⟩ ∧ RowAt w b (off + i) ll[i] (.slice A' ll[i].length c') := by
 obtain ⟨A', c', he, _, _, h3⟩ := h
 simp only [Value.slice.injEq] at he
 obtain ⟨rfl, _, rfl⟩ := he
 obtain ⟨b, off, rfl, hc⟩ := h3 (by omega)
 obtain ⟨u, k1, k2⟩ := hc i ll[i] (List.getElem?_eq_getElem hi)
 obtain ⟨A2, c2, rfl, _⟩ := id k2
 exact ⟨b, off, A2, c2, rfl, k1, k2⟩
theorem wp_append_zeros {ops : Array Oper} {rest : List Oper} {o : Oper} {a : Act} {Q : Exit → Act → World → Prop} {w : World} (hgd : o.guard = none) (s x : Operand)
  (ho : o.op = .call { callee := .builtin .append, args := #[s, x], argTypes := #[22, 3] }) (n : Nat) (hs : a.eval s = .slice none 0 0) (hx : a.eval x = .int .i64 n) (h0 : 0 < n) (hn : n ≤ 1099511627776)
  (h : ∀ (c : Nat) (cur : Array Value), cur.size = c → n ≤ c → c ≤ maxLen → wpList Tryz.prog ops Q rest (a.put o.dst (.slice (some ⟨w.heap.size, 0, none⟩) n c)) (w.drew.alloc (.cells cur 3))) : wpList Tryz.prog ops Q (o :: rest) a w := by
 refine wpList_plain hgd fun K hK => ?_
 obtain ⟨i, h1, h2, h3, h4⟩ := info_parts infoI
 have hr := Lib.run_append_nil_zeros (P := Tryz.prog) w 22 3 o.type 3 i (.int .i64 0) .i64 .i64 Tryz.underlying22 Tryz.underlying3 h1 h2 n h0 (by rw [h3]; decide) (by omega) (by rw [h4]; omega)
 have hge := grownCap_ge w n 0 3
 unfold Oper.wp execOp
 simp only [ho, resolve, invoke, builtin, Sem.run_bind, Sem.run_pure, Result.andThen_ok, List.map_toArray, List.map_cons, List.map_nil, hs, hx, hr]
 refine hK _ _ (h _ _ ?_ hge (grownCap_le_maxLen w n 0 3 (by simp only [maxLen]; omega)))
 simp only [Array.size_append, size_zeroCells, show (Value.int IntKind.i64 0).cells.size = 1 from rfl, Nat.mul_one]
 omega
theorem Own.room {W : World} {cur : Array Value} {c lo : Nat} (h1 : cur.size = c) (h2 : c ≤ maxLen) (hlo : lo ≤ W.heap.size) : Own (W.alloc (.cells cur 3)) lo (.slice (some ⟨W.heap.size, 0, none⟩) 0 c) [] :=
 World.ownsRow_made (base := lo) (e := 3) (size := 1) W cur c hlo h2 (by omega)
set_option maxHeartbeats 400000 in
theorem Grow_any (n : Nat) (w : World) (hn : n ≤ 1099511627776) :
  Calls Tryz.prog 129 #[.slice none 0 0, .int .i64 n] w (RetOwn w []) := by
 by_cases h0 : n = 0
 ·subst h0
  go_enter Tryz.func129, Tryz.ntmps129
  go_wp2
  go_ret
  exact ⟨_, rfl, Own.nil, Below.refl _ _⟩
 ·have hpos : 0 < n := by omega
  have hlt : (0 : Int) < n := by omega
  clear h0
  go_enter Tryz.func129, Tryz.ntmps129
  go_wp2_with (at_builtin; refine wp_append_zeros rfl (.tmp 20) (.tmp 21) rfl n rfl rfl hpos hn ?_; intro c cur k1 k2 k3)
  go_ret
  exact ⟨_, rfl, Own.room (W := w.drew) k1 k3 (Nat.le_refl _), ((Below.refl _ _).drew).alloc (Nat.le_refl _) _⟩
set_option maxHeartbeats 1000000 in
theorem Concat_any (v : Value) (ll : List (List Int)) (w : World) (hv : IntRows w v ll) (hl : total ll ≤ 4194304) :
  Calls Tryz.prog 113 #[v] w (RetOwn w ll.flatten) := by
 obtain ⟨A, c, rfl, _, hc1, g3⟩ := id hv
 have HV := Lib.hid hv
 have h1 := St.start w
 clear g3 hv
 go_enter Tryz.func113, Tryz.ntmps113
 go_wp2
 go_loop [3, 5, 11] (fun vs vr vi => ∃ i : Nat, vi = .int .i64 i ∧ i ≤ ll.length ∧ vs = .int .i64 (total (ll.take i) : Nat)) (fun _ _ vi => ll.length - (intOf vi).toNat)
 case atStart => exact ⟨0, rfl, by omega, by simp [total]⟩
 case round =>
  obtain ⟨i, rfl, a1, rfl⟩ := hrel
  by_cases hi : i < ll.length
  ·obtain ⟨b, off, A9, c9, rfl, hm⟩ := HV.out.at (i := i) hi
   obtain ⟨z0, z1⟩ := id hm
   have t1 := total_mem ll i hi
   have HT := Lib.hid (total_take ll i hi)
   have t2 : ¬ ((total (ll.take i) : Nat) : Int) + ((ll[i].length : Nat) : Int) < 0 := by omega
   clear hm
   go_wp2
   go_round
   case rel => exact ⟨i + 1, by go_num, by omega, by rw [HT.out]; go_num⟩
   case measure => simp [intOf]; omega
  ·obtain rfl : i = ll.length := by omega
   rw [List.take_length]
   go_wp2_with fail
   refine (Grow_any (total ll) _ (by omega)).mono ?_
   rintro e wn ⟨u, rfl, ho, hb1⟩
   obtain ⟨A7, c7, rfl, _, _, _⟩ := id ho.ints
   replace h1 := h1.pushOwn hb1 ho
   clear ho hb1
   go_wp2
   go_loopw [6, 8, 27] (fun vs vr vi wr => ∃ i : Nat, vi = .int .i64 i ∧ i ≤ ll.length ∧ St w wr [.own vs (ll.take i).flatten]) (fun _ _ vi _ => ll.length - (intOf vi).toNat)
   case atStart => exact ⟨0, rfl, by omega, by simpa using h1⟩
   case round =>
    clear h1
    obtain ⟨i, rfl, a1, h1⟩ := hrel
    by_cases hi : i < ll.length
    ·obtain ⟨b, off, A9, c9, rfl, hm⟩ := HV.out.at (i := i) hi
     have h2 := h1.pushOld hm.fact
     obtain ⟨z0, z1⟩ := h2.fact 0 rfl
     have t1 := total_mem ll i hi
     have HT := Lib.hid (flatten_take ll i hi)
     have HF := Lib.hid (length_flatten' (ll.take i))
     clear hm h2
     go_wp2_with (at_builtin; refine wp_append_ints rfl (.tmp 31) (.tmp 32) rfl w.heap.size _ _ (ll.take i).flatten ll[i] rfl rfl (h1.own 0 rfl) z1 (by rw [HF.out]; omega) h1.size ?_; intro v1 w1 ho1 hg1 hb1)
     have h3 := h1.appended 0 rfl ho1 hg1 hb1
     go_wp2
     go_roundw
     case rel => exact ⟨i + 1, by go_num, by omega, by rw [HT.out]; exact h3⟩
     case measure => simp [intOf]; omega
    ·obtain rfl : i = ll.length := by omega
     rw [List.take_length] at h1
     go_wp2
     go_ret
     exact ⟨_, rfl, h1.own 0 rfl, h1.below⟩
set_option maxHeartbeats 400000 in
theorem matrixOf_any (p : Int) (c : Nat) (v : Value) (ll : List (List Int)) (w : World) (hv : IntRows w v ll) (hl : total ll ≤ 4194304) :
  Calls Tryz.prog 82 #[.int .i64 p, .int .i64 c, v] w (RetMat w p ll.length c ll.flatten) := by
 have h1 := ((St.start w).pushFact hv.fact).box [.int .i64 0, .int .i64 0, .int .i64 0, .slice none 0 0] 32
 obtain ⟨A, c1, rfl, _, _, g3⟩ := id hv
 clear g3 hv
 have hc := fun (W : World) (hi : IntRows W (.slice A ll.length c1) ll) => Concat_any _ ll W hi hl
 obtain ⟨F, hF⟩ : ∃ F, F = ll.flatten := ⟨_, rfl⟩
 rw [← hF] at hc ⊢
 have Hc := Lib.hid hc
 clear hF hc
 go_enter Tryz.func82, Tryz.ntmps82
 go_wp2_with fail
 refine (Hc.out _ (h1.fact 1 rfl)).mono ?_
 rintro e wn ⟨u, rfl, ho, hb1⟩
 obtain ⟨A7, c7, rfl, _, _, _⟩ := id ho.ints
 replace h1 := h1.pushOwn hb1 ho
 clear ho hb1
 obtain ⟨z0, z1, z2, z3⟩ := h1.box4 1 rfl
 have f0 := h1.free 1 rfl 0
 have f1 := h1.free 1 rfl 1
 have f2 := h1.free 1 rfl 2
 have f3 := h1.free 1 rfl 3
 replace h1 := (((h1.setBox 1 rfl 0 (.int .i64 p)).setBox 1 rfl 1 (.int .i64 ll.length)).setBox 1 rfl 2 (.int .i64 c)).setBox 1 rfl 3 (.slice A7 F.length c7)
 obtain ⟨r0, r1, r2, r3⟩ := h1.box4 1 rfl
 go_wp2
 refine bodyPost_ret (v := .agg #[.int .i64 p, .int .i64 ll.length, .int .i64 c, .slice A7 F.length c7]) (by simp [results, Tryz.results82, go_sem, r0, r1, r2, r3]) rfl ⟨_, rfl, h1.own 0 rfl, h1.below⟩
end
end Go.Proofs.YtbnefjhljfbecaaGreatDoor
