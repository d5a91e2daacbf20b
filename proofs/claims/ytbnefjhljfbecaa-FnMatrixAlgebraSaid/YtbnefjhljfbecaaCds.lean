/- The program's coordinates in a basis: coords. -/
import Derived.Test.YtbnefjhljfbecaaBas
namespace Go.Proofs.Ytbnefjhljfbecaa
set_option maxRecDepth 100000
open Go.RowKit

theorem St.boxLtOwn {w0 w : World} {L : List It} (h : St w0 w L) (i : Nat) {v : Value} {l : List Int} (hi : L[i]? = some (.own v l)) (b : Nat) (hb : v.ownBlock = some b) : w0.heap.size ≤ b := (Own.lt (h.own i hi) b hb).1

set_option maxHeartbeats 1000000 in
theorem coords_any (p : Int) (n : Nat) (S : List (List Int)) (fr : Bool) (vr vp v : Value) (X : List Int) (w : World) (hr : IntRows w vr (reduceL p (n + S.length) (besL S)).1) (hq : Ints w vp (pivI (pivL p n S))) (hv : Ints w v X) (hW : Wf p n S) (hX : X.length = n) (rX : resid p X = true)
    (hm : S.length ≤ 4096) (hn : n ≤ 4096) (hP : isPrime p = true) :
    Calls Try.prog 28 #[.agg #[.bool fr, .int .i64 p, .int .i64 n, .int .i64 S.length, vr, vp], v] w (RetOwnB w (cooL p n S X) (cooB p n S X)) := by
  obtain ⟨b1, b2⟩ := isPrime_bd hP
  have h1 := ((((St.start w).pushFact hr.fact).arg hq).arg hv).box [.bool fr, .int .i64 p, .int .i64 n, .int .i64 S.length, vr, vp] 52
  obtain ⟨A, k0, rfl, _, _, _⟩ := id hr
  obtain ⟨A1, k1, rfl, _, _, _⟩ := id hq
  obtain ⟨A2, k2, rfl, _, _, _⟩ := id hv
  have hbw := Wf_besL b1 hW
  have hok := reduceL_ok (p := p) (by omega) hbw
  have hrf := spanL_rf hP hW
  have hrl := hok.len
  have hpl := hok.piv
  have hple := pivL_le hP hW
  rw [length_besL] at hrl hpl
  have hwf := hok.wf
  have hcut := (bes_rf hP hW).2
  have hes := fun (i : Nat) (hi : i < (pivL p n S).length) => bessE_ok hP hW hi
  have hEd : ∀ i, bessE p n S i = (rowOf (reduceL p (n + S.length) (besL S)).1 i).drop n := fun _ => rfl
  have hrd := fun k hk => redTo_ok b1 hrf hX rX k hk
  have hsl := hrf.len
  have hslt := hrf.lt
  have hsw := hrf.wf
  have hLd : cooL p n S X = cooTo p S.length (cooF p (spanL p n S) (pivL p n S) X) (bessE p n S) (pivL p n S).length := rfl
  have hBd : cooB p n S X = zeroL (redV p (spanL p n S) (pivL p n S) X) := rfl
  have hpm : (pivL p n S).length ≤ S.length := Nat.le_trans hple hpl
  obtain ⟨CL, hCL⟩ : ∃ CL, CL = cooL p n S X := ⟨_, rfl⟩
  obtain ⟨CB, hCB⟩ : ∃ CB, CB = cooB p n S X := ⟨_, rfl⟩
  rw [← hCL] at hLd ⊢
  rw [← hCB] at hBd ⊢
  obtain ⟨Rd, hRd⟩ : ∃ Rd, Rd = (reduceL p (n + S.length) (besL S)).1 := ⟨_, rfl⟩
  obtain ⟨E, hE⟩ : ∃ E, E = bessE p n S := ⟨_, rfl⟩
  obtain ⟨R, hR⟩ : ∃ R, R = spanL p n S := ⟨_, rfl⟩
  obtain ⟨piv, hpiv⟩ : ∃ piv, piv = pivL p n S := ⟨_, rfl⟩
  obtain ⟨m, hmm⟩ : ∃ m, m = S.length := ⟨_, rfl⟩
  rw [← hmm] at hEd hwf hRd hLd hes hm hpm hrl hcut
  have hRd2 : (reduceL p (n + m) (besL S)).1 = Rd := hRd.symm
  rw [hRd2] at hEd hwf hrl hcut
  rw [← hE] at hEd hLd hes
  rw [← hR] at hrd hsl hsw hLd hBd hcut hes
  rw [← hpiv] at hrd hsl hslt hLd hBd hcut hes hpm
  rw [← hpiv, ← hmm, hRd2] at h1
  rw [← hpiv, ← hmm, hRd2]
  rw [← hmm, hRd2] at hr
  obtain ⟨mr, hmr⟩ : ∃ mr, mr = Rd.length := ⟨_, rfl⟩
  have HR0 := Lib.hid hr
  rw [← hmr] at h1 HR0 ⊢
  rw [length_pivI] at h1 ⊢
  have Hrl := Lib.hid (hmr.trans hrl)
  have Hmr := Lib.hid hmr
  have HEd := Lib.hid hEd
  have Hwf := Lib.hid hwf
  have HLd := Lib.hid hLd
  have HBd := Lib.hid hBd
  have Hes := Lib.hid hes
  have Hrd := Lib.hid hrd
  have Hsl := Lib.hid hsl
  have Hslt := Lib.hid hslt
  have Hsw := Lib.hid hsw
  have Hcut := Lib.hid hcut
  have HX := Lib.hid hX
  have HCo := Lib.hid (fun (k : Nat) (hk : k ≤ piv.length) => (cooTo_ok b1 (F := cooF p R piv X) (E := E) (m := m) k (fun i hi => (hes i (by omega)).1)))
  have Hm0 : Hid ((cooTo p m (cooF p R piv X) E 0) = List.replicate m 0) := rfl
  have hmk := makeI m (by omega)
  clear hr hq hv hW hX rX hbw hok hrf hrl hpl hple hwf hcut hes hEd hrd hsl hslt hsw hLd hBd hCL hCB hRd hRd2 hE hR hpiv hmm hmr hP
  go_enter Try.func28, Try.ntmps28
  go_wp2_with fail
  refine (Clone_any _ X _ (h1.roInts 1 rfl) (by rw [HX.out]; omega)).mono ?_
  rintro (e : Ending) w1 ⟨u1, rfl, ho, hb1⟩
  obtain ⟨A5, c5, rfl, _, _, _⟩ := id ho.ints
  replace h1 := h1.pushOwn hb1 ho
  rw [HX.out] at h1 ⊢
  obtain ⟨q0, q1, q2, q3, q4, q5⟩ := h1.box6 1 rfl
  replace h1 := h1.zeros m (by omega)
  clear ho hb1
  obtain ⟨z0, z1, z2, z3, z4, z5⟩ := h1.box6 2 rfl
  rw [← Hm0.out] at h1
  go_wp2
  generalize hBx : w1.heap.size = Bx at h1 ⊢
  clear hBx z0 z1 z2 z3 z4 z5 q0 q1 q2 q3 q4 q5
  go_loopw [8, 9, 10, 19] (fun _ _ _ v19 wr => ∃ i : Nat, v19 = .int .i64 i ∧ i ≤ piv.length ∧ St w wr [.own (.slice (some ⟨Bx, 0, none⟩) m m) (cooTo p m (cooF p R piv X) E i), .own (.slice A5 n c5) (redTo p R piv X i), .box w.heap.size [.bool fr, .int .i64 p, .int .i64 n, .int .i64 m, .slice A mr k0, .slice A1 piv.length k1], .ro (.slice A2 n k2) X, .ro (.slice A1 piv.length k1) (pivI piv), .fact fun w' => IntRows w' (.slice A mr k0) Rd]) (fun _ _ _ v19 _ => piv.length - (intOf v19).toNat)
  case atStart => exact ⟨0, rfl, by omega, h1⟩
  case round =>
    clear h1
    obtain ⟨i, rfl, a1, h1⟩ := hrel
    by_cases hi : i < piv.length
    · have him : i < Rd.length := by rw [← Hmr.out, Hrl.out]; omega
      have hcn := Hslt.out i hi
      obtain ⟨ol, or⟩ := Hrd.out i (by omega)
      obtain ⟨cl, cr, _⟩ := HCo.out i (by omega)
      obtain ⟨gp, offp, rfl⟩ := h1.roSome 4 rfl (by rw [length_pivI]; omega)
      have pc := h1.roCell 4 rfl (q := i) (by rw [length_pivI]; exact hi)
      rw [vec_pivI hi] at pc
      obtain ⟨gl, rfl, hq9⟩ := h1.ownSomeA 1 rfl (by rw [ol]; omega)
      clear hq9
      have oc := (h1.ownCellA 1 rfl (q := pv piv i) (by rw [ol]; exact hcn)).1
      have hFi : cooF p R piv X i = vec (redTo p R piv X i) (pv piv i) := rfl
      have hst1 : redTo p R piv X (i + 1) = if vec (redTo p R piv X i) (pv piv i) = 0 then redTo p R piv X i else addL (redTo p R piv X i) (p - vec (redTo p R piv X i) (pv piv i)) (rowOf R i) p := rfl
      have hst2 : cooTo p m (cooF p R piv X) E (i + 1) = if cooF p R piv X i = 0 then cooTo p m (cooF p R piv X) E i else addL (cooTo p m (cooF p R piv X) E i) (cooF p R piv X i) (E i) p := rfl
      have hzb := resid_vec or (i := pv piv i) (by rw [ol]; exact hcn)
      rw [hFi] at hst2
      obtain ⟨z, hz⟩ : ∃ z, z = vec (redTo p R piv X i) (pv piv i) := ⟨_, rfl⟩
      obtain ⟨ck, hck⟩ : ∃ ck, ck = pv piv i := ⟨_, rfl⟩
      rw [← hz] at hst1 hst2 hzb oc
      rw [← hck] at hcn pc oc
      have ip : (i : Int) < piv.length := by omega
      have ic : (ck : Int) < n := by omega
      clear hz hck hFi
      by_cases hz0 : z = 0
      · rw [if_pos hz0] at hst1 hst2
        have H1 := Lib.hid hst1
        have H2 := Lib.hid hst2
        subst hz0
        clear hst1 hst2 ol or cl cr
        go_wp2
        go_roundw
        case rel => exact ⟨i + 1, by go_num, by omega, by rw [H1.out, H2.out]; exact h1⟩
        case measure => simp [intOf]; omega
      · rw [if_neg hz0] at hst1 hst2
        have H1 := Lib.hid hst1
        have H2 := Lib.hid hst2
        have t1 : (z == 0) = false := by rw [beq_eq_false_iff_ne]; exact hz0
        have hwfi := Hwf.out i him
        obtain ⟨el, er, _⟩ := Hes.out i hi
        have hci := Hcut.out i hi
        obtain ⟨bb, off, A9, c9, hAA, hmf⟩ := HR0.out.at (i := i) him
        rw [rowOf_eq him, hwfi.1] at hmf
        subst hAA
        have hrb := hmf.2.toB.below h1.below (Nat.le_refl _)
        have hrun1 := (cutTo hmf.2 n (by omega)).1
        have hT := hrb.take n (by omega)
        rw [hci] at hT
        obtain ⟨A8, hrun2, hD⟩ := cutFromB hrb n (by omega)
        rw [← HEd.out] at hD
        replace h1 := h1.pushOld hmf.fact
        have iR : (i : Int) < mr := by rw [Hmr.out]; omega
        have wz : IntKind.i64.wrap (p - z) = p - z := wrap_ok (by omega) (by omega)
        have e9 : n + m - n = m := by omega
        rw [e9] at hrun2 hD
        have HT := Lib.hid hT
        have HD := Lib.hid hD
        have Hr2 := Lib.hid hrun2
        have Hsi := Lib.hid (Hsw.out i (by rw [Hsl.out]; exact hi))
        have Hlen := Lib.hid (And.intro ol cl)
        have Hres := Lib.hid (And.intro or cr)
        have Her := Lib.hid (And.intro el er)
        clear hst1 hst2 hwfi hci hmf hrb hT hD hrun2 ol or cl cr el er e9 hz0
        go_upto_region 8 with fail
        clear pc oc
        have g0 := h1.drew
        refine wp_region_cut (S := fun w' => (w'.cell? ⟨w.heap.size, 0, none⟩ = some (.bool fr) ∧ w'.cell? ⟨w.heap.size, 1, none⟩ = some (.int .i64 p) ∧ w'.cell? ⟨w.heap.size, 2, none⟩ = some (.int .i64 n) ∧ w'.cell? ⟨w.heap.size, 3, none⟩ = some (.int .i64 m) ∧ w'.cell? ⟨w.heap.size, 4, none⟩ = some (.slice (some ⟨bb, off, none⟩) mr k0) ∧ w'.cell? ⟨w.heap.size, 5, none⟩ = some (.slice (some ⟨gp, offp, none⟩) piv.length k1)) ∧ w'.cell? ⟨bb, off + i, none⟩ = some (.slice A9 (n + m) c9)) 15 (by kernel_rfl) (by kernel_rfl) ⟨g0.box6 3 rfl, (g0.fact 0 rfl).1⟩ (fun hHeld => ?_)
        simp only [List.take_succ_cons, List.take_zero]
        refine anyH_take (v := ?_) 0 rfl (by kernel_rfl) (by kernel_rfl) (by kernel_rfl) (fun _ _ _ h => h) rfl ?_ hHeld ?_
        rotate_left
        · intro w' hSw
          go_simp
          try with_reducible rfl
        try simp only [Act.put, List.setIfInBounds_toArray, List.set_cons_zero, List.set_cons_succ]
        refine anyH_take (v := ?_) 1 rfl (by kernel_rfl) (by kernel_rfl) (by kernel_rfl) (fun _ _ _ h => h) rfl ?_ hHeld ?_
        rotate_left
        · intro w' hSw
          go_simp
          try with_reducible rfl
        try simp only [Act.put, List.setIfInBounds_toArray, List.set_cons_zero, List.set_cons_succ]
        refine anyH_take (v := ?_) 2 rfl (by kernel_rfl) (by kernel_rfl) (by kernel_rfl) (fun _ _ _ h => h) rfl ?_ hHeld ?_
        rotate_left
        · intro w' hSw
          go_simp
          try with_reducible rfl
        try simp only [Act.put, List.setIfInBounds_toArray, List.set_cons_zero, List.set_cons_succ]
        refine anyH_take (v := ?_) 3 rfl (by kernel_rfl) (by kernel_rfl) (by kernel_rfl) (fun _ _ _ h => h) rfl ?_ hHeld ?_
        rotate_left
        · intro w' hSw
          go_simp
          try with_reducible rfl
        try simp only [Act.put, List.setIfInBounds_toArray, List.set_cons_zero, List.set_cons_succ]
        refine anyH_take (v := ?_) 4 rfl (by kernel_rfl) (by kernel_rfl) (by kernel_rfl) (fun _ _ _ h => h) rfl ?_ hHeld ?_
        rotate_left
        · intro w' hSw
          go_simp
          try with_reducible rfl
        try simp only [Act.put, List.setIfInBounds_toArray, List.set_cons_zero, List.set_cons_succ]
        refine anyH_take (v := ?_) 5 rfl (by kernel_rfl) (by kernel_rfl) (by kernel_rfl) (fun _ _ _ h => h) rfl ?_ hHeld ?_
        rotate_left
        · intro w' hSw
          go_simp
          try with_reducible rfl
        try simp only [Act.put, List.setIfInBounds_toArray, List.set_cons_zero, List.set_cons_succ]
        refine anyH_take (v := ?_) 6 rfl (by kernel_rfl) (by kernel_rfl) (by kernel_rfl) (fun _ _ _ h => h) rfl ?_ hHeld ?_
        rotate_left
        · intro w' hSw
          go_simp
          try with_reducible rfl
        try simp only [Act.put, List.setIfInBounds_toArray, List.set_cons_zero, List.set_cons_succ]
        refine anyH_take (v := ?_) 7 rfl (by kernel_rfl) (by kernel_rfl) (by kernel_rfl) (fun _ _ _ h => h) rfl ?_ hHeld ?_
        rotate_left
        · intro w' hSw
          go_simp
          try with_reducible rfl
        try simp only [Act.put, List.setIfInBounds_toArray, List.set_cons_zero, List.set_cons_succ]
        refine anyH_take (v := ?_) 8 rfl (by kernel_rfl) (by kernel_rfl) (by kernel_rfl) (fun _ _ _ h => h) rfl ?_ hHeld ?_
        rotate_left
        · intro w' hSw
          go_simp
          try with_reducible rfl
        try simp only [Act.put, List.setIfInBounds_toArray, List.set_cons_zero, List.set_cons_succ]
        refine anyH_take (v := ?_) 9 rfl (by kernel_rfl) (by kernel_rfl) (by kernel_rfl) (fun _ _ _ h => h) rfl ?_ hHeld ?_
        rotate_left
        · intro w' hSw
          go_simp
          try with_reducible rfl
        try simp only [Act.put, List.setIfInBounds_toArray, List.set_cons_zero, List.set_cons_succ]
        refine anyH_take (v := ?_) 10 rfl (by kernel_rfl) (by kernel_rfl) (by kernel_rfl) (fun _ _ _ h => h) rfl ?_ hHeld ?_
        rotate_left
        · intro w' hSw
          go_simp
          try with_reducible rfl
        try simp only [Act.put, List.setIfInBounds_toArray, List.set_cons_zero, List.set_cons_succ]
        refine anyH_take (v := ?_) 11 rfl (by kernel_rfl) (by kernel_rfl) (by kernel_rfl) (fun _ _ _ h => h) rfl ?_ hHeld ?_
        rotate_left
        · intro w' hSw
          go_simp
          try with_reducible rfl
        try simp only [Act.put, List.setIfInBounds_toArray, List.set_cons_zero, List.set_cons_succ]
        refine anyH_take (v := ?_) 12 rfl (by kernel_rfl) (by kernel_rfl) (by kernel_rfl) (fun _ _ _ h => h) rfl ?_ hHeld ?_
        rotate_left
        · intro w' hSw
          go_simp
          try with_reducible rfl
        try simp only [Act.put, List.setIfInBounds_toArray, List.set_cons_zero, List.set_cons_succ]
        refine anyH_take (v := ?_) 13 rfl (by kernel_rfl) (by kernel_rfl) (by kernel_rfl) (fun _ _ _ h => h) rfl ?_ hHeld ?_
        rotate_left
        · intro w' hSw
          go_simp
          try with_reducible rfl
        try simp only [Act.put, List.setIfInBounds_toArray, List.set_cons_zero, List.set_cons_succ]
        refine anyH_take (v := ?_) 14 rfl (by kernel_rfl) (by kernel_rfl) (by kernel_rfl) (fun _ _ _ h => h) rfl ?_ hHeld ?_
        rotate_left
        · intro w' hSw
          go_simp
          try with_reducible rfl
        try simp only [Act.put, List.setIfInBounds_toArray, List.set_cons_zero, List.set_cons_succ]
        refine wpAnyH_done (by kernel_rfl) ?_ _
        show wpList _ _ _ _ _ _
        simp only [List.drop_succ_cons, List.drop_zero]
        clear hHeld
        go_wp2_with fail
        refine (addTo_own _ _ (redTo p R piv X i) (rowOf R i) (p - z) p w.heap.size w.heap.size _ (g0.own 2 rfl) (HT.out.below (below_of_drewN (n := 1) rfl) h1.size) (Nat.le_refl _) (by rw [Hsi.out.1, Hlen.out.1]) (by rw [Hlen.out.1]; omega) b1 b2 (by omega) (by omega) Hres.out.1 Hsi.out.2).mono ?_
        rintro (e : Ending) w3 ⟨rfl, ho, hg⟩
        have hkeep : ∀ b, b < w.heap.size → w3.heap[b]? = wr.drew.heap[b]? := fun b hb => hg.block b (Nat.lt_of_lt_of_le hb g0.size) (fun e => by have := (g0.boxLtOwn 2 rfl b e.symm); omega)
        have g1 := g0.wrote 2 rfl ho hg
        simp only [List.set_cons_zero, List.set_cons_succ] at g1
        have hD3 : IntsB w3 w.heap.size (.slice A8 m (c9 - n)) (E i) := (HD.out.below (below_of_drewN (n := 1) rfl) h1.size).keep fun q hq => World.cell?_of_block (hkeep q.block hq)
        have HD3 := Lib.hid hD3
        clear ho hg g0 h1 hkeep hD3
        have hrun2 := Hr2.out
        go_upto_region 9 with fail
        have g2 := g1.drew
        refine wp_region_cut (S := fun w' => (w'.cell? ⟨w.heap.size, 0, none⟩ = some (.bool fr) ∧ w'.cell? ⟨w.heap.size, 1, none⟩ = some (.int .i64 p) ∧ w'.cell? ⟨w.heap.size, 2, none⟩ = some (.int .i64 n) ∧ w'.cell? ⟨w.heap.size, 3, none⟩ = some (.int .i64 m) ∧ w'.cell? ⟨w.heap.size, 4, none⟩ = some (.slice (some ⟨bb, off, none⟩) mr k0) ∧ w'.cell? ⟨w.heap.size, 5, none⟩ = some (.slice (some ⟨gp, offp, none⟩) piv.length k1)) ∧ w'.cell? ⟨bb, off + i, none⟩ = some (.slice A9 (n + m) c9)) 12 (by kernel_rfl) (by kernel_rfl) ⟨g2.box6 3 rfl, (g2.fact 0 rfl).1⟩ (fun hHeld => ?_)
        simp only [List.take_succ_cons, List.take_zero]
        refine anyH_take (v := ?_) 0 rfl (by kernel_rfl) (by kernel_rfl) (by kernel_rfl) (fun _ _ _ h => h) rfl ?_ hHeld ?_
        rotate_left
        · intro w' hSw
          go_simp
          try with_reducible rfl
        try simp only [Act.put, List.setIfInBounds_toArray, List.set_cons_zero, List.set_cons_succ]
        refine anyH_take (v := ?_) 1 rfl (by kernel_rfl) (by kernel_rfl) (by kernel_rfl) (fun _ _ _ h => h) rfl ?_ hHeld ?_
        rotate_left
        · intro w' hSw
          go_simp
          try with_reducible rfl
        try simp only [Act.put, List.setIfInBounds_toArray, List.set_cons_zero, List.set_cons_succ]
        refine anyH_take (v := ?_) 2 rfl (by kernel_rfl) (by kernel_rfl) (by kernel_rfl) (fun _ _ _ h => h) rfl ?_ hHeld ?_
        rotate_left
        · intro w' hSw
          go_simp
          try with_reducible rfl
        try simp only [Act.put, List.setIfInBounds_toArray, List.set_cons_zero, List.set_cons_succ]
        refine anyH_take (v := ?_) 3 rfl (by kernel_rfl) (by kernel_rfl) (by kernel_rfl) (fun _ _ _ h => h) rfl ?_ hHeld ?_
        rotate_left
        · intro w' hSw
          go_simp
          try with_reducible rfl
        try simp only [Act.put, List.setIfInBounds_toArray, List.set_cons_zero, List.set_cons_succ]
        refine anyH_take (v := ?_) 4 rfl (by kernel_rfl) (by kernel_rfl) (by kernel_rfl) (fun _ _ _ h => h) rfl ?_ hHeld ?_
        rotate_left
        · intro w' hSw
          go_simp
          try with_reducible rfl
        try simp only [Act.put, List.setIfInBounds_toArray, List.set_cons_zero, List.set_cons_succ]
        refine anyH_take (v := ?_) 5 rfl (by kernel_rfl) (by kernel_rfl) (by kernel_rfl) (fun _ _ _ h => h) rfl ?_ hHeld ?_
        rotate_left
        · intro w' hSw
          go_simp
          try with_reducible rfl
        try simp only [Act.put, List.setIfInBounds_toArray, List.set_cons_zero, List.set_cons_succ]
        refine anyH_take (v := ?_) 6 rfl (by kernel_rfl) (by kernel_rfl) (by kernel_rfl) (fun _ _ _ h => h) rfl ?_ hHeld ?_
        rotate_left
        · intro w' hSw
          go_simp
          try with_reducible rfl
        try simp only [Act.put, List.setIfInBounds_toArray, List.set_cons_zero, List.set_cons_succ]
        refine anyH_take (v := ?_) 7 rfl (by kernel_rfl) (by kernel_rfl) (by kernel_rfl) (fun _ _ _ h => h) rfl ?_ hHeld ?_
        rotate_left
        · intro w' hSw
          go_simp
          try with_reducible rfl
        try simp only [Act.put, List.setIfInBounds_toArray, List.set_cons_zero, List.set_cons_succ]
        refine anyH_take (v := ?_) 8 rfl (by kernel_rfl) (by kernel_rfl) (by kernel_rfl) (fun _ _ _ h => h) rfl ?_ hHeld ?_
        rotate_left
        · intro w' hSw
          go_simp
          try with_reducible rfl
        try simp only [Act.put, List.setIfInBounds_toArray, List.set_cons_zero, List.set_cons_succ]
        refine anyH_take (v := ?_) 9 rfl (by kernel_rfl) (by kernel_rfl) (by kernel_rfl) (fun _ _ _ h => h) rfl ?_ hHeld ?_
        rotate_left
        · intro w' hSw
          go_simp
          try with_reducible rfl
        try simp only [Act.put, List.setIfInBounds_toArray, List.set_cons_zero, List.set_cons_succ]
        refine anyH_take (v := ?_) 10 rfl (by kernel_rfl) (by kernel_rfl) (by kernel_rfl) (fun _ _ _ h => h) rfl ?_ hHeld ?_
        rotate_left
        · intro w' hSw
          go_simp
          try with_reducible rfl
        try simp only [Act.put, List.setIfInBounds_toArray, List.set_cons_zero, List.set_cons_succ]
        refine anyH_take (v := ?_) 11 rfl (by kernel_rfl) (by kernel_rfl) (by kernel_rfl) (fun _ _ _ h => h) rfl ?_ hHeld ?_
        rotate_left
        · intro w' hSw
          go_simp
          try with_reducible rfl
        try simp only [Act.put, List.setIfInBounds_toArray, List.set_cons_zero, List.set_cons_succ]
        refine wpAnyH_done (by kernel_rfl) ?_ _
        show wpList _ _ _ _ _ _
        simp only [List.drop_succ_cons, List.drop_zero]
        clear hHeld
        go_wp2_with fail
        refine (addTo_own _ _ (cooTo p m (cooF p R piv X) E i) (E i) z p w.heap.size w.heap.size _ (g2.own 1 rfl) (HD3.out.below (below_of_drewN (n := 1) rfl) g1.size) (Nat.le_refl _) (by rw [Her.out.1, Hlen.out.2]) (by rw [Hlen.out.2]; omega) b1 b2 (by omega) (by omega) Hres.out.2 Her.out.2).mono ?_
        rintro (e : Ending) w4 ⟨rfl, ho, hg⟩
        have g3 := (g2.wrote 1 rfl ho hg).drop 1
        simp only [List.set_cons_zero, List.set_cons_succ, List.drop_succ_cons, List.drop_zero] at g3
        clear ho hg g1 g2
        go_wp2
        go_roundw
        case rel => exact ⟨i + 1, by go_num, by omega, by rw [H1.out, H2.out]; exact g3⟩
        case measure => simp [intOf]; omega
    · obtain rfl : i = piv.length := by omega
      have HZ := Lib.hid (show ∀ W, Ints W (.slice A5 n c5) (redTo p R piv X piv.length) → Calls Try.prog 40 #[.slice A5 n c5] W fun e w' => e = .returned (.bool CB) ∧ W = w' from fun W hW => by rw [HBd.out]; exact isZero_any _ _ W hW)
      go_wp2_with fail
      refine (HZ.out _ (h1.ownInts 1 rfl)).mono ?_
      rintro (e : Ending) w5 ⟨rfl, rfl⟩
      rw [← HLd.out] at h1
      go_wp2
      refine bodyPost_ret (v := .tuple #[.slice (some ⟨Bx, 0, none⟩) m m, .bool CB]) (by simp [results, Try.results28, go_sem]) rfl ⟨_, rfl, h1.own 0 rfl, h1.below⟩
theorem St.pushBas {w0 w w' : World} {L : List It} (h : St w0 w L) {v u : Value} {l : List Int} {us : List Value} {ll : List (List Int)} (h2 : St w w' [.own v l, rowsIt u us ll]) : St w0 w' (.own v l :: rowsIt u us ll :: L) :=
  h.join h2 fun x hx => by
    simp only [List.mem_cons, List.not_mem_nil, or_false] at hx
    rcases hx with rfl | rfl
    · exact Own.mono (h2.own 0 rfl) h.size
    · exact It.vec_mono (h2.at 1 rfl) h.size
end Go.Proofs.Ytbnefjhljfbecaa
