/- QuotientModule of the reference. -/
import Derived.Test.YtcdbgcpccmcbeaaGreatResP
import Derived.Test.YtcdbgcpccmcbeaaGreatIsmS
import Derived.Test.YtcdbgcpccmcbeaaGreatPick
import Derived.Test.YtcdbgcpccmcbeaaGreatIntoS
import Derived.Test.YtcdbgcpccmcbeaaGreatFlt
namespace Go.Proofs.YtcdbgcpccmcbeaaGreat
set_option maxRecDepth 100000
open Go.RowKit

/-- One matrix on the quotient, while its places are set. -/
def qmT (p : Int) (n : Nat) (R : List (List Int)) (piv : List Nat) (m : Mt) (r k : Nat) : List Int := tab ((freeTo piv n).length * (freeTo piv n).length) fun q => if q / (freeTo piv n).length < r ∨ (q / (freeTo piv n).length = r ∧ q % (freeTo piv n).length < k) then vec (qmRow p n R piv m (q / (freeTo piv n).length)) (q % (freeTo piv n).length) else 0
theorem length_qmT (p : Int) (n : Nat) (R : List (List Int)) (piv : List Nat) (m : Mt) (r k : Nat) : (qmT p n R piv m r k).length = (freeTo piv n).length * (freeTo piv n).length := length_tab _ _
theorem qmT_zero (p : Int) (n : Nat) (R : List (List Int)) (piv : List Nat) (m : Mt) : qmT p n R piv m 0 0 = List.replicate ((freeTo piv n).length * (freeTo piv n).length) 0 :=
  list_ext (by simp [length_qmT]) fun q hq => by
    rw [length_qmT] at hq
    rw [qmT, vec_tab hq, if_neg (fun h => h.elim (fun h => absurd h (Nat.not_lt_zero _)) (fun h => absurd h.2 (Nat.not_lt_zero _)))]
    simp [vec, List.getD_eq_getElem?_getD, hq]
theorem qm_split {t k c q : Nat} (hc : c < t) : q = k * t + c ↔ q / t = k ∧ q % t = c := by
  constructor
  · rintro rfl
    exact ⟨by rw [Nat.mul_comm, Nat.mul_add_div (by omega), Nat.div_eq_of_lt hc, Nat.add_zero], by rw [Nat.mul_comm, Nat.mul_add_mod, Nat.mod_eq_of_lt hc]⟩
  · rintro ⟨h1, h2⟩
    have := Nat.div_add_mod q t
    rw [h1, h2, Nat.mul_comm] at this
    exact this.symm
theorem qmT_set {p : Int} {n : Nat} {R : List (List Int)} {piv : List Nat} {m : Mt} {r k : Nat} (hr : r < (freeTo piv n).length) (hk : k < (freeTo piv n).length) :
    (qmT p n R piv m r k).set (r * (freeTo piv n).length + k) (vec (qmRow p n R piv m r) k) = qmT p n R piv m r (k + 1) := by
  have hlt := spot_lt hr hk
  refine list_ext (by rw [List.length_set, length_qmT, length_qmT]) fun q hq => ?_
  rw [List.length_set, length_qmT] at hq
  rw [vec_set (by rw [length_qmT]; exact hlt)]
  by_cases e : q = r * (freeTo piv n).length + k
  · obtain ⟨e1, e2⟩ := (qm_split hk).1 e
    rw [if_pos e, qmT, vec_tab hq, if_pos (.inr ⟨e1, by omega⟩), e1, e2]
  · rw [if_neg e, qmT, vec_tab hq, qmT, vec_tab hq]
    have h1 : ¬ (q / (freeTo piv n).length = r ∧ q % (freeTo piv n).length = k) := fun h => e ((qm_split hk).2 h)
    by_cases h2 : q / (freeTo piv n).length < r ∨ (q / (freeTo piv n).length = r ∧ q % (freeTo piv n).length < k)
    · rw [if_pos h2, if_pos (h2.imp id fun h => ⟨h.1, by omega⟩)]
    · rw [if_neg h2, if_neg (fun h => h2 (h.imp id fun h => ⟨h.1, by have := h.2; have : q % (freeTo piv n).length ≠ k := fun h9 => h1 ⟨h.1, h9⟩; omega⟩))]
theorem qmT_row {p : Int} {n : Nat} {R : List (List Int)} {piv : List Nat} {m : Mt} {r : Nat} : qmT p n R piv m r (freeTo piv n).length = qmT p n R piv m (r + 1) 0 :=
  list_ext (by rw [length_qmT, length_qmT]) fun q hq => by
    rw [length_qmT] at hq
    have hd := (spot_of hq).2.1
    rw [qmT, vec_tab hq, qmT, vec_tab hq]
    by_cases h : q / (freeTo piv n).length < r ∨ (q / (freeTo piv n).length = r ∧ q % (freeTo piv n).length < (freeTo piv n).length)
    · rw [if_pos h, if_pos (.inl (h.elim (fun h => by omega) (fun h => by omega)))]
    · rw [if_neg h, if_neg (fun h2 => h (h2.elim (fun h3 => by
        by_cases e : q / (freeTo piv n).length = r
        · exact .inr ⟨e, hd⟩
        · exact .inl (by omega)) (fun h3 => absurd h3.2 (Nat.not_lt_zero _))))]
theorem flat_flatten2 {C : Nat} : ∀ {rows : List (List Int)}, (∀ l, l ∈ rows → l.length = C) → flat C rows = rows.flatten := by
  intro rows
  induction rows with
  | nil => intro _; simp [flat, tab]
  | cons l rows ih =>
    intro h
    have hl : l.length = C := h l (by simp)
    have ht : ∀ x, x ∈ rows → x.length = C := fun x hx => h x (by simp [hx])
    rw [List.flatten_cons, ← ih ht]
    refine (flat_ext (by rw [List.length_append, length_flat, List.length_cons, hl, Nat.add_mul]; omega) fun i j hi hj => ?_).symm
    match i, hi with
    | 0, _ =>
      rw [show rowOf (l :: rows) 0 = l from rfl]
      simp only [vec, List.getD_eq_getElem?_getD, Nat.zero_mul, Nat.zero_add]
      rw [List.getElem?_append_left (by omega)]
    | i + 1, hi =>
      rw [show rowOf (l :: rows) (i + 1) = rowOf rows i from rfl, ← vec_flat (C := C) (rows := rows) (by simpa using hi) hj]
      simp only [vec, List.getD_eq_getElem?_getD]
      rw [List.getElem?_append_right (by rw [hl, Nat.add_mul]; omega), hl]
      congr 3
      rw [Nat.add_mul]; omega
theorem rowOf_qmRows {p : Int} {n : Nat} {R : List (List Int)} {piv : List Nat} {m : Mt} {r : Nat} (hr : r < (freeTo piv n).length) : rowOf (qmRows p n R piv m) r = qmRow p n R piv m r := by
  simp [rowOf, qmRows, List.getD_eq_getElem?_getD, hr]
theorem qmT_end (p : Int) (n : Nat) (R : List (List Int)) (piv : List Nat) (m : Mt) : qmT p n R piv m (freeTo piv n).length 0 = (qmRows p n R piv m).flatten := by
  rw [← flat_flatten2 (C := (freeTo piv n).length) (rows := qmRows p n R piv m) qmRows_len]
  refine list_ext (by rw [length_qmT, length_flat, length_qmRows]) fun q hq => ?_
  rw [length_qmT] at hq
  obtain ⟨h1, h2, h3⟩ := spot_of hq
  rw [qmT, vec_tab hq, if_pos (.inl h1), flat, vec_tab (by rw [length_qmRows]; exact hq), rowOf_qmRows h1]

set_option maxHeartbeats 4000000 in
theorem QuotientModuleS_any (p n q r c : Int) (t v u : Value) (T D : List Int) (ms : List Mt) (w : World) (ht : Ints w t T) (hv : MatsR w v ms) (hu : Ints w u D) (hp0 : p ≤ 9223372036854775807) (hq : q ≤ 9223372036854775807) (hw : ∀ i, i < ms.length → (mAt ms i).p ≤ 9223372036854775807) :
    Calls Tryz.prog 8 #[.agg #[.int .i64 p, .int .i64 n, t], v, .agg #[.int .i64 q, .int .i64 r, .int .i64 c, u]] w (RetMsB w (qmMs p n T ms q r c D) (ismOk p n T ms q r c D)) := by
  have h1 := (((((St.start w).arg ht).arg hu).pushFact hv.fact).box [.int .i64 p, .int .i64 n, t] 34).box [.int .i64 q, .int .i64 r, .int .i64 c, u] 37
  simp only [World.size_alloc] at h1
  obtain ⟨A, k, rfl, _, _, _⟩ := id ht
  obtain ⟨A2, k2, rfl, _, _, _⟩ := id hv
  obtain ⟨A3, k3, rfl, _, _, _⟩ := id hu
  have HI := Lib.hid (fun (W : World) (h1 : Ints W (.slice A T.length k) T) (h2 : MatsR W (.slice A2 ms.length k2) ms) (h3 : Ints W (.slice A3 D.length k3) D) => IsSubmoduleS_any p n q r c _ _ _ T D ms W h1 h2 h3 hp0 hq hw)
  have HV := Lib.hid hv
  clear ht hv hu hw
  obtain ⟨Po, hPo⟩ : ∃ Po : Ending → World → Prop, Po = RetMsB w (qmMs p n T ms q r c D) (ismOk p n T ms q r c D) := ⟨_, rfl⟩
  rw [← hPo]
  obtain ⟨x0, x1, x2⟩ := h1.box3 1 rfl
  obtain ⟨y0, y1, y2, y3⟩ := h1.box4 0 rfl
  by_cases b1 : ismOk p n T ms q r c D = true
  case neg =>
    have b1 : ismOk p n T ms q r c D = false := by simpa using b1
    have HF := Lib.hid (show Po = RetMsB w [] false by rw [hPo, qmMs, b1]; rfl)
    have B1 := Lib.hid b1
    clear b1 hPo
    go_enter Tryz.func8, Tryz.ntmps8
    go_wp2_with fail
    refine (HI.out _ (h1.roInts 4 rfl) (h1.fact 2 rfl) (h1.roInts 3 rfl)).mono ?_
    rintro (e : Ending) w3 ⟨rfl, hb3⟩
    have g1 := h1.on hb3
    rw [B1.out]
    clear x0 x1 x2 y0 y1 y2 y3 hb3 h1
    go_wp2
    show Po (.returned (.tuple #[.slice none 0 0, .bool false])) _
    rw [HF.out]
    exact RetMsB.nil g1.below
  case pos =>
    obtain ⟨N, s, R, piv, rfl, rfl, rfl, rfl, hD, hR, hRs, hs30, hN28, hP, hml, hN0, hrm, hpv, hM, hcl⟩ := ism_spec b1
    obtain ⟨b1p, b2p⟩ := isPrime_bd hP
    have HF0 : Po = RetMsB w (mkTo (qmMt q s R piv) ms ms.length) true := by rw [hPo, qmMs, if_pos b1, hrm, Int.toNat_natCast, hpv, b1]
    have hDl : D.length = R.length * s := by rw [hD]; exact length_flat _ _
    have hDr : resid q D = true := by rw [hD]; exact resid_flat (by omega) hR.wf
    subst hml
    have hFr0 : ∀ (W : World) (x1 : Ints W (.slice A3 D.length k3) D), Calls Tryz.prog 27 #[.agg #[.int .i64 q, .int .i64 R.length, .int .i64 s, .slice A3 D.length k3]] W (RetOwn W (pivI (freeTo piv s))) := fun W x1 => l2Free_any q s R piv _ W (by rw [← hD]; exact x1) hR (by omega) (by omega) hP
    have hRd := fun (W : World) (v1 : Value) (X : List Int) (x1 : Ints W (.slice A3 D.length k3) D) (x2 : Ints W v1 X) (x3 : X.length = s) (x4 : resid q X = true) => (show Calls Tryz.prog 29 #[.agg #[.int .i64 q, .int .i64 R.length, .int .i64 s, .slice A3 D.length k3], v1] W (RetOwn W (redV q R piv X)) from l2Modulo_any q s R piv _ v1 X W (by rw [← hD]; exact x1) x2 hR x3 x4 (by omega) hP)
    have hRv := fun (X : List Int) (x3 : X.length = s) (x4 : resid q X = true) => (redV_ok b1p hR x3 x4).1
    have hMt := fun (i : Nat) => (show qmMt q s R piv (mAt ms i) = ⟨q, (freeTo piv s).length, (freeTo piv s).length, (qmRows q s R piv (mAt ms i)).flatten⟩ from rfl)
    have hRw := fun (i k : Nat) => (show qmRow q s R piv (mAt ms i) k = atPiv (freeTo piv s) (redV q R piv (rowM s (mAt ms i).d (pv (freeTo piv s) k))) from rfl)
    have hT0 := fun (i : Nat) => qmT_zero q s R piv (mAt ms i)
    have hTl := fun (i r k : Nat) => length_qmT q s R piv (mAt ms i) r k
    have hTs := fun (i r k : Nat) (h1 : r < (freeTo piv s).length) (h2 : k < (freeTo piv s).length) => qmT_set (p := q) (n := s) (R := R) (m := mAt ms i) h1 h2
    have hTr := fun (i r : Nat) => qmT_row (p := q) (n := s) (R := R) (piv := piv) (m := mAt ms i) (r := r)
    have hTe := fun (i : Nat) => qmT_end q s R piv (mAt ms i)
    have hFl := length_freeTo piv s
    have hFb : ∀ i, i < (freeTo piv s).length → pv (freeTo piv s) i < s := fun i hi => pv_free hi
    obtain ⟨Fr, hFr⟩ : ∃ Fr, Fr = freeTo piv s := ⟨_, rfl⟩
    rw [← hFr] at hFr0 hFl hFb
    simp only [← hFr] at hMt hRw hT0 hTl hTs hTr hTe
    obtain ⟨r, hr⟩ : ∃ r, r = R.length := ⟨_, rfl⟩
    rw [← hr] at hFr0 hRd hRs h1 HI b1 y1 ⊢
    obtain ⟨nf, hnf⟩ : ∃ nf, nf = Fr.length := ⟨_, rfl⟩
    rw [← hnf] at hFl hFb
    simp only [← hnf] at hMt hT0 hTl hTs hTr hTe
    obtain ⟨Nn, hNn⟩ : ∃ Nn, Nn = nf * nf := ⟨_, rfl⟩
    simp only [← hNn] at hT0 hTl
    have hNb : Nn ≤ 900 := by rw [hNn]; exact mul_le (show nf ≤ 30 by omega) (show nf ≤ 30 by omega)
    have HZ := Lib.hid (show ∀ W, Calls Tryz.prog 28 #[.int .i64 q, .int .i64 nf, .int .i64 nf] W (RetMat W q nf nf (List.replicate Nn 0)) from fun W => by rw [hNn]; exact l1Zero_any q nf nf W (by omega))
    have HF := Lib.hid HF0
    have HFr0 := Lib.hid hFr0
    have HRd := Lib.hid hRd
    have HRv := Lib.hid hRv
    have HMt := Lib.hid hMt
    have HRw := Lib.hid hRw
    have HT0 := Lib.hid hT0
    have HTl := Lib.hid hTl
    have HTs := Lib.hid hTs
    have HTr := Lib.hid hTr
    have HTe := Lib.hid hTe
    have HFb := Lib.hid hFb
    have Hnf := Lib.hid hnf
    have HNn := Lib.hid hNn
    have HM := Lib.hid hM
    have B1 := Lib.hid b1
    have Hq2 := Lib.hid b1p
    clear b1 hPo hD hR hP hN0 hrm hpv hM hcl HF0 hDl hDr hFr0 hRd hRv hMt hRw hT0 hTl hTs hTr hTe hFb hr hnf hNn hFr b1p b2p
    go_enter Tryz.func8, Tryz.ntmps8
    go_wp2_with fail
    refine (HI.out _ (h1.roInts 4 rfl) (h1.fact 2 rfl) (h1.roInts 3 rfl)).mono ?_
    rintro (e : Ending) w3 ⟨rfl, hb3⟩
    have g1 := h1.on hb3
    rw [B1.out]
    clear x0 x1 x2 y0 y1 y2 y3 hb3 h1 HI
    obtain ⟨y0, y1, y2, y3⟩ := g1.box4 0 rfl
    go_wp2_with fail
    refine (HFr0.out _ (g1.roInts 3 rfl)).mono ?_
    rintro (e : Ending) w4 ⟨u4, rfl, ho4, hb4⟩
    obtain ⟨Af, cf, rfl, _, _, _⟩ := id ho4.ints
    rw [length_pivI, ← Hnf.out] at ho4 ⊢
    have g2 := (g1.pushOwn hb4 ho4).emptyMats
    clear y0 y1 y2 y3 g1 hb4 ho4
    go_wp2
    go_loopw [9, 10] (fun v9 v10 wr => ∃ (i : Nat) (us : List Value), v10 = .int .i64 i ∧ i ≤ ms.length ∧ Hid (us.length = i) ∧ St w wr [matsIt v9 us (mkTo (qmMt q s R piv) ms i), .own (.slice Af nf cf) (pivI Fr), .box (w.heap.size + 1) [.int .i64 q, .int .i64 r, .int .i64 s, .slice A3 D.length k3], .box w.heap.size [.int .i64 q, .int .i64 ms.length, .slice A T.length k], .fact (fun w' => MatsR w' (.slice A2 ms.length k2) ms), .ro (.slice A3 D.length k3) D, .ro (.slice A T.length k) T]) (fun _ v10 _ => ms.length - (intOf v10).toNat)
    case atStart => exact ⟨0, [], rfl, by omega, Lib.hid rfl, by rw [mkTo_zero]; exact g2⟩
    case round =>
      clear g2
      obtain ⟨i, us, rfl, a1, Hul, g⟩ := hrel
      obtain ⟨x0, x1, x2⟩ := g.box3 3 rfl
      by_cases hi : i < ms.length
      · obtain ⟨b, off, A9, c9, hbA, hm⟩ := HV.out.at (i := i) hi
        rw [mAt_get hi] at hm
        obtain ⟨u1, u2, u3, u4, u5⟩ := HM.out i hi
        have hrw := HRw.out i
        have hte := HTe.out i
        have hts := HTs.out i
        have htr := HTr.out i
        have ht0 := HT0.out i
        have htl := HTl.out i
        have hSt : mkTo (qmMt q s R piv) ms (i + 1) = mkTo (qmMt q s R piv) ms i ++ [⟨q, nf, nf, (qmRows q s R piv (mAt ms i)).flatten⟩] := by rw [mkTo_succ hi, HMt.out i]
        have hlk : (mkTo (qmMt q s R piv) ms i).length = i := length_mkTo (by omega)
        obtain ⟨E, hE⟩ : ∃ E, E = (mAt ms i).d := ⟨_, rfl⟩
        have hmf : MtAt w b (off + i * 4) ⟨q, s, s, E⟩ (.slice A9 E.length c9) := by unfold MtAt at hm ⊢; rw [u1, u2, u3, ← hE] at hm; exact hm
        rw [← hE] at u4 u5 hrw
        obtain ⟨F, hF⟩ : ∃ F, F = (qmRows q s R piv (mAt ms i)).flatten := ⟨_, rfl⟩
        rw [← hF] at hSt hte
        obtain ⟨G, hG⟩ : ∃ G : Nat → Nat → List Int, G = fun r k => qmT q s R piv (mAt ms i) r k := ⟨_, rfl⟩
        have hG2 : ∀ r k, qmT q s R piv (mAt ms i) r k = G r k := fun r k => by rw [hG]
        simp only [hG2] at hte hts htr ht0 htl
        have hRo := fun (W : World) (v1 : Value) (j : Nat) (x1 : Ints W v1 E) (hj : j < s) => l1Row_any q s s v1 E j W.heap.size W x1.toB (Nat.le_refl _) u4 (by have := mul_le (show s ≤ 40 by omega) (show s ≤ 40 by omega); omega) (by omega) hj
        have h4 := g.pushOld hmf.fact
        have HRo := Lib.hid hRo
        have HEr := Lib.hid u5
        have Hrw := Lib.hid hrw
        have Hte := Lib.hid hte
        have Hts := Lib.hid hts
        have Htr := Lib.hid htr
        have Ht0 := Lib.hid ht0
        have Htl := Lib.hid htl
        have HSt := Lib.hid hSt
        have Hlu := Lib.hid (Hul.out.trans hlk.symm)
        have Hl1 := Lib.hid (show (mkTo (qmMt q s R piv) ms i).length + 1 ≤ 1099511627776 by rw [hlk]; omega)
        have iM : (i : Int) < (ms.length : Int) := by omega
        subst hbA
        clear hm hmf u1 u2 u3 u4 u5 hrw hte hts htr ht0 htl hSt hlk hE hF hG hG2 hRo g
        go_wp2_with fail
        refine (HZ.out _).mono ?_
        rintro (e : Ending) w5 ⟨u5, rfl, ho5, hb5⟩
        obtain ⟨A5, c5, rfl, _, _, _⟩ := id ho5.ints
        rw [List.length_replicate] at ho5 ⊢
        have h6 := (h4.pushOwn hb5 ho5).box [.int .i64 q, .int .i64 nf, .int .i64 nf, .slice A5 Nn c5] 37
        rw [← Ht0.out] at h6
        clear x0 x1 x2 h4 ho5 hb5
        go_wp2
        generalize hBx : w5.heap.size = Bx at h6 ⊢
        clear hBx
        obtain ⟨OL, hOL, h9⟩ : ∃ OL, OL = _ ∧ St w _ (.box Bx [.int .i64 q, .int .i64 nf, .int .i64 nf, .slice A5 Nn c5] :: .own (.slice A5 Nn c5) (G 0 0) :: OL) := ⟨_, rfl, h6⟩
        clear h6
        go_loopw [12, 13, 14] (fun v12 _ _ wr => ∃ r0 : Nat, v12 = .int .i64 r0 ∧ r0 ≤ nf ∧ St w wr (.box Bx [.int .i64 q, .int .i64 nf, .int .i64 nf, .slice A5 Nn c5] :: .own (.slice A5 Nn c5) (G r0 0) :: OL)) (fun v12 _ _ _ => nf - (intOf v12).toNat)
        case atStart => exact ⟨0, rfl, by omega, h9⟩
        case round =>
          clear h9
          obtain ⟨r0, rfl, a2, g⟩ := hrel
          subst hOL
          by_cases hr0 : r0 < nf
          · have Hr9 := Lib.hid (show r0 < Fr.length by rw [← Hnf.out]; exact hr0)
            have hck := HFb.out r0 hr0
            have hrow := Hrw.out r0
            obtain ⟨gf, rfl, -⟩ := g.ownSomeA 4 rfl (by rw [length_pivI]; exact Nat.lt_of_le_of_lt (Nat.zero_le _) Hr9.out)
            obtain ⟨ck, hck9⟩ : ∃ ck, ck = pv Fr r0 := ⟨_, rfl⟩
            rw [← hck9] at hck hrow
            have Hck := Lib.hid hck9.symm
            have hXr : resid q (rowM s E ck) = true := resid_rowM (by have := Hq2.out; omega) HEr.out _ _
            have HR2 := Lib.hid (fun (W : World) (v1 : Value) x1 (x2 : Ints W v1 (rowM s E ck)) => HRd.out W v1 _ x1 x2 (length_rowM _ _ _) hXr)
            have HR3 := Lib.hid (fun (W : World) (v1 : Value) x1 => HRo.out W v1 ck x1 hck)
            have hVl := HRv.out (rowM s E ck) (length_rowM _ _ _) hXr
            obtain ⟨V, hV⟩ : ∃ V, V = redV q R piv (rowM s E ck) := ⟨_, rfl⟩
            rw [← hV] at HR2 hVl hrow
            have HVl := Lib.hid hVl
            have Hrow := Lib.hid hrow
            have ir : (r0 : Int) < (nf : Int) := by omega
            clear hck9 hrow hXr hVl hV
            go_upto_region 12 with fail
            have g0 := g.drew
            refine wp_region_held_drew (S := fun w' => (w'.cell? ⟨w.heap.size + 1, 0, none⟩ = some (.int .i64 q) ∧ w'.cell? ⟨w.heap.size + 1, 1, none⟩ = some (.int .i64 r) ∧ w'.cell? ⟨w.heap.size + 1, 2, none⟩ = some (.int .i64 s) ∧ w'.cell? ⟨w.heap.size + 1, 3, none⟩ = some (.slice A3 D.length k3)) ∧ w'.cell? ⟨b, off + i * 4, none⟩ = some (.int .i64 q) ∧ w'.cell? ⟨b, off + i * 4 + 1, none⟩ = some (.int .i64 s) ∧ w'.cell? ⟨b, off + i * 4 + 2, none⟩ = some (.int .i64 s) ∧ w'.cell? ⟨b, off + i * 4 + 3, none⟩ = some (.slice A9 E.length c9) ∧ w'.cell? ⟨gf, r0, none⟩ = some (.int .i64 ck)) (by kernel_rfl) ⟨g0.box4 5 rfl, (g0.fact 2 rfl).1, (g0.fact 2 rfl).2.1, (g0.fact 2 rfl).2.2.1, (g0.fact 2 rfl).2.2.2.1, by have h9 := g0.pivCell 4 rfl Hr9.out; rwa [Hck.out] at h9⟩ (fun hHeld => ?_)
            refine anyH_take (v := ?_) 0 rfl (by kernel_rfl) (by kernel_rfl) (by kernel_rfl) (fun _ _ _ h => h) rfl ?_ hHeld ?_
            rotate_left
            · intro w' hSw
              go_simp
              try with_reducible rfl
            try simp only [Act.put, List.setIfInBounds_toArray, List.set_cons_zero, List.set_cons_succ]
            refine anyH_take (v := ?_) 1 rfl (by kernel_rfl) (by kernel_rfl) (by kernel_rfl) (fun _ _ _ h => h) rfl ?_ hHeld ?_
            rotate_left
            · intro w' hSw
              go_simp
              try with_reducible rfl
            try simp only [Act.put, List.setIfInBounds_toArray, List.set_cons_zero, List.set_cons_succ]
            refine anyH_take (v := ?_) 2 rfl (by kernel_rfl) (by kernel_rfl) (by kernel_rfl) (fun _ _ _ h => h) rfl ?_ hHeld ?_
            rotate_left
            · intro w' hSw
              go_simp
              try with_reducible rfl
            try simp only [Act.put, List.setIfInBounds_toArray, List.set_cons_zero, List.set_cons_succ]
            refine anyH_take (v := ?_) 3 rfl (by kernel_rfl) (by kernel_rfl) (by kernel_rfl) (fun _ _ _ h => h) rfl ?_ hHeld ?_
            rotate_left
            · intro w' hSw
              go_simp
              try with_reducible rfl
            try simp only [Act.put, List.setIfInBounds_toArray, List.set_cons_zero, List.set_cons_succ]
            refine anyH_take (v := ?_) 4 rfl (by kernel_rfl) (by kernel_rfl) (by kernel_rfl) (fun _ _ _ h => h) rfl ?_ hHeld ?_
            rotate_left
            · intro w' hSw
              go_simp
              try with_reducible rfl
            try simp only [Act.put, List.setIfInBounds_toArray, List.set_cons_zero, List.set_cons_succ]
            refine anyH_take (v := ?_) 5 rfl (by kernel_rfl) (by kernel_rfl) (by kernel_rfl) (fun _ _ _ h => h) rfl ?_ hHeld ?_
            rotate_left
            · intro w' hSw
              go_simp
              try with_reducible rfl
            try simp only [Act.put, List.setIfInBounds_toArray, List.set_cons_zero, List.set_cons_succ]
            refine anyH_take (v := ?_) 6 rfl (by kernel_rfl) (by kernel_rfl) (by kernel_rfl) (fun _ _ _ h => h) rfl ?_ hHeld ?_
            rotate_left
            · intro w' hSw
              go_simp
              try with_reducible rfl
            try simp only [Act.put, List.setIfInBounds_toArray, List.set_cons_zero, List.set_cons_succ]
            refine anyH_take (v := ?_) 7 rfl (by kernel_rfl) (by kernel_rfl) (by kernel_rfl) (fun _ _ _ h => h) rfl ?_ hHeld ?_
            rotate_left
            · intro w' hSw
              go_simp
              try with_reducible rfl
            try simp only [Act.put, List.setIfInBounds_toArray, List.set_cons_zero, List.set_cons_succ]
            refine anyH_take (v := ?_) 8 rfl (by kernel_rfl) (by kernel_rfl) (by kernel_rfl) (fun _ _ _ h => h) rfl ?_ hHeld ?_
            rotate_left
            · intro w' hSw
              go_simp
              try with_reducible rfl
            try simp only [Act.put, List.setIfInBounds_toArray, List.set_cons_zero, List.set_cons_succ]
            refine wpAnyH_ready (rs := [9]) (by kernel_rfl) (by simp) ?_
            refine ready_cons rfl (fun K hK => ?_) AllReadyH.nil
            go_simp
            refine (HR3.out _ _ (g0.fact 2 rfl).2.2.2.2).mono ?_
            rintro (e : Ending) w6 ⟨A6, c6, rfl, hr6, hb6⟩
            have g1 := g0.on hb6
            show K _ _
            refine hK.out _ _ ?_ (fun hHeld => ?_)
            · exact ⟨g1.box4 5 rfl, (g1.fact 2 rfl).1, (g1.fact 2 rfl).2.1, (g1.fact 2 rfl).2.2.1, (g1.fact 2 rfl).2.2.2.1, by have h9 := g1.pivCell 4 rfl Hr9.out; rwa [Hck.out] at h9⟩
            clear hK K
            try simp only [Act.put, List.setIfInBounds_toArray, List.set_cons_zero, List.set_cons_succ]
            refine wpAnyH_ready (rs := [10]) (by kernel_rfl) (by simp) ?_
            refine ready_cons rfl (fun K hK => ?_) AllReadyH.nil
            go_simp
            refine (HR2.out _ _ (g1.roInts 8 rfl) hr6.ints).mono ?_
            rintro (e : Ending) w7 ⟨u7, rfl, ho7, hb7⟩
            obtain ⟨A7, c7, rfl, _, _, _⟩ := id ho7.ints
            have g2 := g1.pushOwn hb7 ho7
            show K _ _
            refine hK.out _ _ ?_ (fun hHeld => ?_)
            · exact ⟨g2.box4 6 rfl, (g2.fact 3 rfl).1, (g2.fact 3 rfl).2.1, (g2.fact 3 rfl).2.2.1, (g2.fact 3 rfl).2.2.2.1, by have h9 := g2.pivCell 5 rfl Hr9.out; rwa [Hck.out] at h9⟩
            clear hK K
            try simp only [Act.put, List.setIfInBounds_toArray, List.set_cons_zero, List.set_cons_succ]
            refine anyH_take (v := ?_) 11 rfl (by kernel_rfl) (by kernel_rfl) (by kernel_rfl) (fun _ _ _ h => h) rfl ?_ hHeld ?_
            rotate_left
            · intro w' hSw
              go_simp
              try with_reducible rfl
            try simp only [Act.put, List.setIfInBounds_toArray, List.set_cons_zero, List.set_cons_succ]
            refine wpAnyH_done (by kernel_rfl) ?_ _
            clear hHeld
            clear g g0 g1 hr6 hb6 ho7 hb7 hck
            rw [HVl.out] at g2 ⊢
            go_wp2
            obtain ⟨OL2, hOL2, g3⟩ : ∃ OL2, OL2 = _ ∧ St w _ (.own (.slice A7 s c7) V :: .box Bx [.int .i64 q, .int .i64 nf, .int .i64 nf, .slice A5 Nn c5] :: .own (.slice A5 Nn c5) (G r0 0) :: OL2) := ⟨_, rfl, g2⟩
            clear g2
            go_loopw [14] (fun v14 wr => ∃ k0 : Nat, v14 = .int .i64 k0 ∧ k0 ≤ nf ∧ St w wr (.own (.slice A7 s c7) V :: .box Bx [.int .i64 q, .int .i64 nf, .int .i64 nf, .slice A5 Nn c5] :: .own (.slice A5 Nn c5) (G r0 k0) :: OL2)) (fun v14 _ => nf - (intOf v14).toNat)
            case atStart => exact ⟨0, rfl, by omega, g3⟩
            case round =>
              clear g3
              obtain ⟨k0, rfl, a3, g⟩ := hrel
              subst hOL2
              by_cases hk : k0 < nf
              · have Hk9 := Lib.hid (show k0 < Fr.length by rw [← Hnf.out]; exact hk)
                have hdk := HFb.out k0 hk
                have hset := Hts.out r0 k0 hr0 hk
                have hzz : vec (qmRow q s R piv (mAt ms i) r0) k0 = vec V (pv Fr k0) := by rw [Hrow.out]; exact vec_atPiv Hk9.out
                rw [hzz] at hset
                have hlt : r0 * nf + k0 < Nn := by rw [HNn.out]; exact spot_lt hr0 hk
                have g0 := g.drew
                have pc := g0.pivCell 5 rfl Hk9.out
                obtain ⟨gv, rfl, -⟩ := g.ownSomeA 0 rfl (by rw [HVl.out]; omega)
                obtain ⟨gx, rfl, -⟩ := g.ownSomeA 2 rfl (by rw [Htl.out]; omega)
                have vc := (g0.ownCellA 0 rfl (q := pv Fr k0) (by rw [HVl.out]; exact hdk)).1
                obtain ⟨dk, hdk9⟩ : ∃ dk, dk = pv Fr k0 := ⟨_, rfl⟩
                obtain ⟨z, hz⟩ : ∃ z, z = vec V (pv Fr k0) := ⟨_, rfl⟩
                rw [← hz] at vc hset
                rw [← hdk9] at pc vc hdk
                obtain ⟨z1, hz1⟩ : ∃ z1, z1 = r0 * nf := ⟨_, rfl⟩
                obtain ⟨q1, hq1⟩ : ∃ q1, q1 = z1 + k0 := ⟨_, rfl⟩
                rw [← hz1, ← hq1] at hset hlt
                have t1 : (r0 : Int) * (nf : Int) = (z1 : Int) := by rw [hz1]; simp
                have t2 : (z1 : Int) + (k0 : Int) = (q1 : Int) := by omega
                have v1 : IntKind.i64.wrap (z1 : Int) = z1 := wrap_ok (by omega) (by omega)
                have v2 : IntKind.i64.wrap (q1 : Int) = q1 := wrap_ok (by omega) (by omega)
                have i1 : (q1 : Int) < (Nn : Int) := by omega
                have i2 : (dk : Int) < (s : Int) := by omega
                have ik : (k0 : Int) < (nf : Int) := by omega
                have HSet2 := Lib.hid hset
                have HLt := Lib.hid (show q1 < (G r0 k0).length by rw [Htl.out]; exact hlt)
                clear hz1 hq1 hset hlt hzz hz hdk9 hdk
                go_upto_region 16 with fail
                refine wp_region_cut (S := fun w' => (w'.cell? ⟨Bx, 0, none⟩ = some (.int .i64 q) ∧ w'.cell? ⟨Bx, 1, none⟩ = some (.int .i64 nf) ∧ w'.cell? ⟨Bx, 2, none⟩ = some (.int .i64 nf) ∧ w'.cell? ⟨Bx, 3, none⟩ = some (.slice (some ⟨gx, 0, none⟩) Nn c5)) ∧ w'.cell? ⟨gf, k0, none⟩ = some (.int .i64 dk) ∧ w'.cell? ⟨gv, dk, none⟩ = some (.int .i64 z)) 16 (by kernel_rfl) (by kernel_rfl) ⟨g0.box4 1 rfl, pc, vc⟩ (fun hHeld => ?_)
                simp only [List.take_succ_cons, List.take_zero]
                refine anyH_take (v := ?_) 0 rfl (by kernel_rfl) (by kernel_rfl) (by kernel_rfl) (fun _ _ _ h => h) rfl ?_ hHeld ?_
                rotate_left
                · intro w' hSw
                  go_simp
                  try with_reducible rfl
                try simp only [Act.put, List.setIfInBounds_toArray, List.set_cons_zero, List.set_cons_succ]
                refine anyH_take (v := ?_) 1 rfl (by kernel_rfl) (by kernel_rfl) (by kernel_rfl) (fun _ _ _ h => h) rfl ?_ hHeld ?_
                rotate_left
                · intro w' hSw
                  go_simp
                  try with_reducible rfl
                try simp only [Act.put, List.setIfInBounds_toArray, List.set_cons_zero, List.set_cons_succ]
                refine anyH_take (v := ?_) 2 rfl (by kernel_rfl) (by kernel_rfl) (by kernel_rfl) (fun _ _ _ h => h) rfl ?_ hHeld ?_
                rotate_left
                · intro w' hSw
                  go_simp
                  try with_reducible rfl
                try simp only [Act.put, List.setIfInBounds_toArray, List.set_cons_zero, List.set_cons_succ]
                refine anyH_take (v := ?_) 3 rfl (by kernel_rfl) (by kernel_rfl) (by kernel_rfl) (fun _ _ _ h => h) rfl ?_ hHeld ?_
                rotate_left
                · intro w' hSw
                  go_simp
                  try with_reducible rfl
                try simp only [Act.put, List.setIfInBounds_toArray, List.set_cons_zero, List.set_cons_succ]
                refine anyH_take (v := ?_) 4 rfl (by kernel_rfl) (by kernel_rfl) (by kernel_rfl) (fun _ _ _ h => h) rfl ?_ hHeld ?_
                rotate_left
                · intro w' hSw
                  go_simp
                  try with_reducible rfl
                try simp only [Act.put, List.setIfInBounds_toArray, List.set_cons_zero, List.set_cons_succ]
                refine anyH_take (v := ?_) 5 rfl (by kernel_rfl) (by kernel_rfl) (by kernel_rfl) (fun _ _ _ h => h) rfl ?_ hHeld ?_
                rotate_left
                · intro w' hSw
                  go_simp
                  try with_reducible rfl
                try simp only [Act.put, List.setIfInBounds_toArray, List.set_cons_zero, List.set_cons_succ]
                refine anyH_take (v := ?_) 6 rfl (by kernel_rfl) (by kernel_rfl) (by kernel_rfl) (fun _ _ _ h => h) rfl ?_ hHeld ?_
                rotate_left
                · intro w' hSw
                  go_simp
                  try with_reducible rfl
                try simp only [Act.put, List.setIfInBounds_toArray, List.set_cons_zero, List.set_cons_succ]
                refine anyH_take (v := ?_) 7 rfl (by kernel_rfl) (by kernel_rfl) (by kernel_rfl) (fun _ _ _ h => h) rfl ?_ hHeld ?_
                rotate_left
                · intro w' hSw
                  go_simp
                  try with_reducible rfl
                try simp only [Act.put, List.setIfInBounds_toArray, List.set_cons_zero, List.set_cons_succ]
                refine anyH_take (v := ?_) 8 rfl (by kernel_rfl) (by kernel_rfl) (by kernel_rfl) (fun _ _ _ h => h) rfl ?_ hHeld ?_
                rotate_left
                · intro w' hSw
                  go_simp
                  try with_reducible rfl
                try simp only [Act.put, List.setIfInBounds_toArray, List.set_cons_zero, List.set_cons_succ]
                refine anyH_take (v := ?_) 9 rfl (by kernel_rfl) (by kernel_rfl) (by kernel_rfl) (fun _ _ _ h => h) rfl ?_ hHeld ?_
                rotate_left
                · intro w' hSw
                  go_simp
                  try with_reducible rfl
                try simp only [Act.put, List.setIfInBounds_toArray, List.set_cons_zero, List.set_cons_succ]
                refine anyH_take (v := ?_) 10 rfl (by kernel_rfl) (by kernel_rfl) (by kernel_rfl) (fun _ _ _ h => h) rfl ?_ hHeld ?_
                rotate_left
                · intro w' hSw
                  go_simp
                  try with_reducible rfl
                try simp only [Act.put, List.setIfInBounds_toArray, List.set_cons_zero, List.set_cons_succ]
                refine anyH_take (v := ?_) 11 rfl (by kernel_rfl) (by kernel_rfl) (by kernel_rfl) (fun _ _ _ h => h) rfl ?_ hHeld ?_
                rotate_left
                · intro w' hSw
                  go_simp
                  try with_reducible rfl
                try simp only [Act.put, List.setIfInBounds_toArray, List.set_cons_zero, List.set_cons_succ]
                refine anyH_take (v := ?_) 12 rfl (by kernel_rfl) (by kernel_rfl) (by kernel_rfl) (fun _ _ _ h => h) rfl ?_ hHeld ?_
                rotate_left
                · intro w' hSw
                  go_simp
                  try with_reducible rfl
                try simp only [Act.put, List.setIfInBounds_toArray, List.set_cons_zero, List.set_cons_succ]
                refine anyH_take (v := ?_) 13 rfl (by kernel_rfl) (by kernel_rfl) (by kernel_rfl) (fun _ _ _ h => h) rfl ?_ hHeld ?_
                rotate_left
                · intro w' hSw
                  go_simp
                  try with_reducible rfl
                try simp only [Act.put, List.setIfInBounds_toArray, List.set_cons_zero, List.set_cons_succ]
                refine anyH_take (v := ?_) 14 rfl (by kernel_rfl) (by kernel_rfl) (by kernel_rfl) (fun _ _ _ h => h) rfl ?_ hHeld ?_
                rotate_left
                · intro w' hSw
                  go_simp
                  try with_reducible rfl
                try simp only [Act.put, List.setIfInBounds_toArray, List.set_cons_zero, List.set_cons_succ]
                refine anyH_take (v := ?_) 15 rfl (by kernel_rfl) (by kernel_rfl) (by kernel_rfl) (fun _ _ _ h => h) rfl ?_ hHeld ?_
                rotate_left
                · intro w' hSw
                  go_simp
                  try with_reducible rfl
                try simp only [Act.put, List.setIfInBounds_toArray, List.set_cons_zero, List.set_cons_succ]
                refine wpAnyH_done (by kernel_rfl) ?_ _
                show wpList _ _ _ _ _ _
                simp only [List.drop_succ_cons, List.drop_zero]
                clear hHeld
                obtain ⟨v0, f0⟩ := g0.ownCellA 2 rfl HLt.out
                have g5 := g0.set 2 rfl q1 z
                clear g g0 pc vc
                go_wp2
                go_roundw
                case rel => exact ⟨k0 + 1, by go_num, by omega, by rw [← HSet2.out]; exact g5⟩
                case measure => simp [intOf]; omega
              · obtain rfl : k0 = nf := by omega
                rw [Htr.out] at g
                go_wp2
                go_roundw
                case rel => exact ⟨r0 + 1, by go_num, by omega, g.drop 1⟩
                case measure => simp [intOf]; omega
          · obtain rfl : r0 = nf := by omega
            rw [Hte.out] at g
            obtain ⟨z0, z1, z2, z3⟩ := g.box4 0 rfl
            have g1 := g.toFront 1 rfl
            simp only [List.eraseIdx_cons_succ, List.eraseIdx_cons_zero] at g1
            clear g
            go_wp2_with (at_builtin; refine wp_append_mat rfl (.tmp 75) (.tmp 77) rfl ⟨q, r0, r0, F⟩ g1 2 rfl Hlu.out rfl rfl Hl1.out ?_; intro v1 w9 h10)
            go_roundw
            case rel => exact ⟨i + 1, us ++ [_], by go_num, by omega, by show _ = _; rw [List.length_append, Hul.out]; rfl, by rw [HSt.out]; exact h10.drop 2⟩
            case measure => simp [intOf]; omega
      · obtain rfl : i = ms.length := by omega
        have Hlk := Lib.hid (show (mkTo (qmMt q s R piv) ms ms.length).length = ms.length from length_mkTo (Nat.le_refl _))
        have HU2 := Lib.hid (Hul.out.trans Hlk.out.symm)
        obtain ⟨A4, c4, rfl, _, _, _⟩ := id (g.mats 0 rfl HU2.out)
        go_wp2
        show Po (.returned (.tuple #[.slice A4 (mkTo (qmMt q s R piv) ms ms.length).length c4, .bool true])) _
        rw [HF.out]
        exact ⟨_, us, rfl, HU2.out, g.at 0 rfl, g.vecNodup 0 rfl, g.below⟩
end Go.Proofs.YtcdbgcpccmcbeaaGreat
