/- RankOf of the reference, InverseMatrix of the program, IsAutomorphism of both. -/
import Derived.Test.YthiainhhaokjoaaCds
import Derived.Test.YthiainhhaokjoaaRank
import Derived.Test.YthiainhhaokjoaaHomI
import Derived.Test.YthiainhhaokjoaaFlt
namespace Go.Proofs.Ythiainhhaokjoaa
set_option maxRecDepth 100000
open Go.RowKit

/-- The rows of the inverse, while they are made. -/
def invTo (p : Int) (n : Nat) (S : List (List Int)) (k : Nat) : List (List Int) := (List.range k).map fun i => cooL p n S (unitL n i)
theorem invTo_succ (p : Int) (n : Nat) (S : List (List Int)) (k : Nat) : invTo p n S (k + 1) = invTo p n S k ++ [cooL p n S (unitL n k)] := by simp [invTo, List.range_succ]
theorem length_invTo (p : Int) (n : Nat) (S : List (List Int)) (k : Nat) : (invTo p n S k).length = k := by simp [invTo]
theorem Wf_invTo {p : Int} (hP : isPrime p = true) {n : Nat} {S : List (List Int)} (hS : Wf p n S) (hl : S.length = n) (h : (pivL p n S).length = n) (k : Nat) : Wf p n (invTo p n S k) :=
  Wf_map fun i _ => by
    have := cooL_cod hP hS (length_unitL n i) (resid_unitL (isPrime_bd hP).1 n i) (sp_all hP hS h _)
    exact ⟨by rw [this.len, hl], this.res⟩

set_option maxHeartbeats 2000000 in
theorem InverseMatrix_any (p : Int) (n : Nat) (t : Value) (D : List Int) (w : World) (ht : Ints w t D) (hM : matOk p n n D = true) (hp9 : p ≤ 9223372036854775807) :
    Calls Try.prog 93 #[.agg #[.int .i64 p, .int .i64 n, .int .i64 n, t]] w
      (if rankL p n (rowsM n n D) = n then RetMatB w p n n (flat n (invTo p n (rowsM n n D) n)) true else RetMatB w 0 0 0 [] false) := by
  obtain ⟨a, b, ea, eb, k1, k2, kD, kR, k3, k4, k5⟩ := matOk_spec hM
  have ea' : n = a := by omega
  have eb' : n = b := by omega
  subst ea'
  subst eb'
  clear ea eb
  have h1 := ((St.start1 ht).box [.int .i64 p, .int .i64 n, .int .i64 n, t] 40).box [.int .i64 0, .int .i64 0, .int .i64 0, .slice none 0 0] 40
  simp only [World.size_alloc] at h1
  obtain ⟨A, k0, rfl, _, _, _⟩ := id ht
  have hb := mul_le k1 k1
  have hRw := fun (W : World) (v : Value) (x1 : Ints W v D) => rowsOf_any p n n v D W x1 kD (by omega) (by omega)
  have hSl := length_rowsM n n D
  have hSw : Wf p n (rowsM n n D) := Wf_rowsM (by omega) kR
  obtain ⟨S, hS⟩ : ∃ S, S = rowsM n n D := ⟨_, rfl⟩
  rw [← hS] at hRw hSl hSw ⊢
  have hNb := fun (W : World) (v : Value) (x1 : IntRows W v S) => newBasis_any p n v S W x1 hSw (by omega) (by omega) k5
  unfold RetBas at hNb
  have hfr : decide ((pivL p n S).length = S.length) = decide (rankL p n S = n) := by rw [hSl]; rfl
  rw [hfr, hSl] at hNb
  have hCo := fun (W : World) (fr : Bool) (vr vp v : Value) (i : Nat) (x1 : IntRows W vr (reduceL p (n + S.length) (besL S)).1) (x2 : Ints W vp (pivI (pivL p n S))) (x3 : Ints W v (unitL n i)) => coords_any p n S fr vr vp v (unitL n i) W x1 x2 x3 hSw (length_unitL n i) (resid_unitL k3 n i) (by omega) (by omega) k5
  rw [hSl] at hCo
  have hIw := fun (h : rankL p n S = n) (k : Nat) => Wf_invTo k5 hSw hSl h k
  obtain ⟨Rd, hRd⟩ : ∃ Rd, Rd = (reduceL p (n + n) (besL S)).1 := ⟨_, rfl⟩
  rw [← hRd] at hNb hCo
  have HRw := Lib.hid hRw
  have HNb := Lib.hid hNb
  have HCo := Lib.hid hCo
  have HIw := Lib.hid hIw
  have HM := Lib.hid hM
  clear ht kD kR hb hRw hSl hSw hS hNb hfr hCo hIw hRd hM k2
  obtain ⟨z0, z1, z2, z3⟩ := h1.box4 1 rfl
  by_cases hrk : rankL p n S = n
  case neg =>
    rw [if_neg hrk]
    have hdf : decide (rankL p n S = n) = false := decide_eq_false hrk
    rw [hdf] at HNb
    clear hrk hdf
    go_enter Try.func93, Try.ntmps93
    go_wp2_with fail
    refine (MatrixOkI_any p n n _ D _ (h1.roInts 2 rfl) hp9).mono ?_
    rintro (e : Ending) w1 ⟨rfl, hb1⟩
    replace h1 := h1.on hb1
    rw [HM.out]
    clear hb1 z0 z1 z2 z3
    obtain ⟨z0, z1, z2, z3⟩ := h1.box4 1 rfl
    go_upto_region 3 with fail
    go_cut [4] (fun s4 wx => ∃ (B : Nat) (us4 : List Value) (Ar4 : Option Addr) (nr4 cr4 : Nat) (Ap4 : Option Addr) (np4 cp4 : Nat) (u3 : Value) (us3 : List Value), s4 = .pointer (some ⟨B, 0, none⟩) ∧ Hid (us4.length = Rd.length) ∧ St w wx [.own (.slice Ap4 np4 cp4) (pivI (pivL p n S)), rowsIt (.slice Ar4 nr4 cr4) us4 Rd, rowsIt u3 us3 S, .box (w.heap.size + 1) [.int .i64 0, .int .i64 0, .int .i64 0, .slice none 0 0], .box w.heap.size [.int .i64 p, .int .i64 n, .int .i64 n, .slice A D.length k0], .ro (.slice A D.length k0) D, .box B [.bool false, .int .i64 p, .int .i64 n, .int .i64 n, .slice Ar4 nr4 cr4, .slice Ap4 np4 cp4]])
    case first =>
      have g := h1.drew
      clear h1 z0 z1 z2 z3
      refine wp_region_cut (S := fun w' => (w'.cell? ⟨w.heap.size, 0, none⟩ = some (.int .i64 p) ∧ w'.cell? ⟨w.heap.size, 1, none⟩ = some (.int .i64 n) ∧ w'.cell? ⟨w.heap.size, 2, none⟩ = some (.int .i64 n) ∧ w'.cell? ⟨w.heap.size, 3, none⟩ = some (.slice A D.length k0))) 8 (by kernel_rfl) (by kernel_rfl) (g.box4 1 rfl) (fun hHeld => ?_)
      simp only [List.take_succ_cons, List.take_zero]
      generalize w1.drew = v0 at g hHeld ⊢
      refine anyH_take (v := ?_) 0 rfl (by kernel_rfl) (by kernel_rfl) (by kernel_rfl) (fun _ _ _ h => h) rfl ?_ hHeld ?_
      rotate_left
      · intro w' hSw
        go_simp
        try with_reducible rfl
      try simp only [Act.put, List.setIfInBounds_toArray, List.set_cons_zero, List.set_cons_succ]
      refine anyH_take (v := ?_) 2 rfl (by kernel_rfl) (by kernel_rfl) (by kernel_rfl) (fun _ _ _ h => h) rfl ?_ hHeld ?_
      rotate_left
      · intro w' hSw
        go_simp
        try with_reducible rfl
      try simp only [Act.put, List.setIfInBounds_toArray, List.set_cons_zero, List.set_cons_succ]
      refine anyH_take (v := ?_) 3 rfl (by kernel_rfl) (by kernel_rfl) (by kernel_rfl) (fun _ _ _ h => h) rfl ?_ hHeld ?_
      rotate_left
      · intro w' hSw
        go_simp
        try with_reducible rfl
      try simp only [Act.put, List.setIfInBounds_toArray, List.set_cons_zero, List.set_cons_succ]
      refine anyH_take (v := ?_) 4 rfl (by kernel_rfl) (by kernel_rfl) (by kernel_rfl) (fun _ _ _ h => h) rfl ?_ hHeld ?_
      rotate_left
      · intro w' hSw
        go_simp
        try with_reducible rfl
      try simp only [Act.put, List.setIfInBounds_toArray, List.set_cons_zero, List.set_cons_succ]
      refine anyH_take (v := ?_) 5 rfl (by kernel_rfl) (by kernel_rfl) (by kernel_rfl) (fun _ _ _ h => h) rfl ?_ hHeld ?_
      rotate_left
      · intro w' hSw
        go_simp
        try with_reducible rfl
      try simp only [Act.put, List.setIfInBounds_toArray, List.set_cons_zero, List.set_cons_succ]
      refine wpAnyH_ready (rs := [1, 7]) (by kernel_rfl) (by simp) ?_
      refine ready_cons rfl (fun K hK => ?_) (ready_cons rfl (fun K hK => ?_) AllReadyH.nil)
      · go_simp
        refine (HRw.out _ _ (g.roInts 2 rfl)).mono ?_
        rintro (e : Ending) w3 ⟨u3, us3, rfl, hul3, hok3, hnd3, hb3⟩
        replace g := g.pushRows hb3 hok3 hnd3
        show K _ _
        refine hK.out _ _ ?_ (fun hHeld => ?_)
        · exact (g.box4 2 rfl)
        clear hK K
        try simp only [Act.put, List.setIfInBounds_toArray, List.set_cons_zero, List.set_cons_succ]
        refine wpAnyH_ready (rs := [6, 7]) (by kernel_rfl) (by simp) ?_
        refine ready_cons rfl (fun K hK => ?_) (ready_cons rfl (fun K hK => ?_) AllReadyH.nil)
        · go_simp
          refine (HNb.out _ _ (g.rowsR 0 rfl hul3)).mono ?_
          rintro (e : Ending) w4 ⟨vr, vp, us4, rfl, hul4, hst4⟩
          replace g := g.pushBas hst4
          obtain ⟨Ar4, nr4, cr4, rfl⟩ := g.rowsSlice 1 rfl hul4
          obtain ⟨Ap4, np4, cp4, rfl⟩ := (g.own 0 rfl).slice
          show K _ _
          refine hK.out _ _ ?_ (fun hHeld => ?_)
          · exact (g.box4 4 rfl)
          clear hK K
          try simp only [Act.put, List.setIfInBounds_toArray, List.set_cons_zero, List.set_cons_succ]
          refine wpAnyH_ready (rs := [7]) (by kernel_rfl) (by simp) ?_
          refine ready_cons rfl (fun K hK => ?_) AllReadyH.nil
          · go_simp
            replace g := (g.box [.bool false, .int .i64 0, .int .i64 0, .int .i64 0, .slice none 0 0, .slice none 0 0] 74).toBack
            simp only [List.cons_append, List.nil_append] at g
            refine hK.out _ _ ?_ (fun hHeld => ?_)
            · exact (g.box4 4 rfl)
            clear hK K
            generalize w4.alloc (.cells #[.bool false, .int .i64 0, .int .i64 0, .int .i64 0, .slice none 0 0, .slice none 0 0] 74) = va at g hHeld ⊢
            try simp only [Act.put, List.setIfInBounds_toArray, List.set_cons_zero, List.set_cons_succ]
            refine wpAnyH_done (by kernel_rfl) ?_ _
            show wpList _ _ _ _ _ _
            simp only [List.drop_succ_cons, List.drop_zero]
            clear hHeld
            obtain ⟨p0, p1, p2, p3, p4, p5⟩ := g.box6 6 rfl
            have f0 := g.free 6 rfl 0
            have f1 := g.free 6 rfl 1
            have f2 := g.free 6 rfl 2
            have f3 := g.free 6 rfl 3
            have f4 := g.free 6 rfl 4
            have f5 := g.free 6 rfl 5
            have g4 := (((((g.setBox 6 rfl 0 (.bool false)).setBox 6 rfl 1 (.int .i64 p)).setBox 6 rfl 2 (.int .i64 n)).setBox 6 rfl 3 (.int .i64 n)).setBox 6 rfl 4 (.slice Ar4 nr4 cr4)).setBox 6 rfl 5 (.slice Ap4 np4 cp4)
            obtain ⟨r0, r1, r2, r3, r4, r5⟩ := g4.box6 6 rfl
            go_wp2
            go_meet
            exact ⟨_, us4, Ar4, nr4, cr4, Ap4, np4, cp4, u3, us3, rfl, Lib.hid hul4, g4⟩
        · go_simp
          replace g := (g.box [.bool false, .int .i64 0, .int .i64 0, .int .i64 0, .slice none 0 0, .slice none 0 0] 74).toBack
          simp only [List.cons_append, List.nil_append] at g
          refine hK.out _ _ ?_ (fun hHeld => ?_)
          · exact (g.box4 2 rfl)
          clear hK K
          generalize w3.alloc (.cells #[.bool false, .int .i64 0, .int .i64 0, .int .i64 0, .slice none 0 0, .slice none 0 0] 74) = va at g hHeld ⊢
          try simp only [Act.put, List.setIfInBounds_toArray, List.set_cons_zero, List.set_cons_succ]
          refine wpAnyH_ready (rs := [6]) (by kernel_rfl) (by simp) ?_
          refine ready_cons rfl (fun K hK => ?_) AllReadyH.nil
          · go_simp
            refine (HNb.out _ _ (g.rowsR 0 rfl hul3)).mono ?_
            rintro (e : Ending) w4 ⟨vr, vp, us4, rfl, hul4, hst4⟩
            replace g := g.pushBas hst4
            obtain ⟨Ar4, nr4, cr4, rfl⟩ := g.rowsSlice 1 rfl hul4
            obtain ⟨Ap4, np4, cp4, rfl⟩ := (g.own 0 rfl).slice
            show K _ _
            refine hK.out _ _ ?_ (fun hHeld => ?_)
            · exact (g.box4 4 rfl)
            clear hK K
            try simp only [Act.put, List.setIfInBounds_toArray, List.set_cons_zero, List.set_cons_succ]
            refine wpAnyH_done (by kernel_rfl) ?_ _
            show wpList _ _ _ _ _ _
            simp only [List.drop_succ_cons, List.drop_zero]
            clear hHeld
            obtain ⟨p0, p1, p2, p3, p4, p5⟩ := g.box6 6 rfl
            have f0 := g.free 6 rfl 0
            have f1 := g.free 6 rfl 1
            have f2 := g.free 6 rfl 2
            have f3 := g.free 6 rfl 3
            have f4 := g.free 6 rfl 4
            have f5 := g.free 6 rfl 5
            have g4 := (((((g.setBox 6 rfl 0 (.bool false)).setBox 6 rfl 1 (.int .i64 p)).setBox 6 rfl 2 (.int .i64 n)).setBox 6 rfl 3 (.int .i64 n)).setBox 6 rfl 4 (.slice Ar4 nr4 cr4)).setBox 6 rfl 5 (.slice Ap4 np4 cp4)
            obtain ⟨r0, r1, r2, r3, r4, r5⟩ := g4.box6 6 rfl
            go_wp2
            go_meet
            exact ⟨_, us4, Ar4, nr4, cr4, Ap4, np4, cp4, u3, us3, rfl, Lib.hid hul4, g4⟩
      · go_simp
        replace g := (g.box [.bool false, .int .i64 0, .int .i64 0, .int .i64 0, .slice none 0 0, .slice none 0 0] 74).toBack
        simp only [List.cons_append, List.nil_append] at g
        refine hK.out _ _ ?_ (fun hHeld => ?_)
        · exact (g.box4 1 rfl)
        clear hK K
        generalize v0.alloc (.cells #[.bool false, .int .i64 0, .int .i64 0, .int .i64 0, .slice none 0 0, .slice none 0 0] 74) = va at g hHeld ⊢
        try simp only [Act.put, List.setIfInBounds_toArray, List.set_cons_zero, List.set_cons_succ]
        refine wpAnyH_ready (rs := [1]) (by kernel_rfl) (by simp) ?_
        refine ready_cons rfl (fun K hK => ?_) AllReadyH.nil
        · go_simp
          refine (HRw.out _ _ (g.roInts 2 rfl)).mono ?_
          rintro (e : Ending) w3 ⟨u3, us3, rfl, hul3, hok3, hnd3, hb3⟩
          replace g := g.pushRows hb3 hok3 hnd3
          show K _ _
          refine hK.out _ _ ?_ (fun hHeld => ?_)
          · exact (g.box4 2 rfl)
          clear hK K
          try simp only [Act.put, List.setIfInBounds_toArray, List.set_cons_zero, List.set_cons_succ]
          refine wpAnyH_ready (rs := [6]) (by kernel_rfl) (by simp) ?_
          refine ready_cons rfl (fun K hK => ?_) AllReadyH.nil
          · go_simp
            refine (HNb.out _ _ (g.rowsR 0 rfl hul3)).mono ?_
            rintro (e : Ending) w4 ⟨vr, vp, us4, rfl, hul4, hst4⟩
            replace g := g.pushBas hst4
            obtain ⟨Ar4, nr4, cr4, rfl⟩ := g.rowsSlice 1 rfl hul4
            obtain ⟨Ap4, np4, cp4, rfl⟩ := (g.own 0 rfl).slice
            show K _ _
            refine hK.out _ _ ?_ (fun hHeld => ?_)
            · exact (g.box4 4 rfl)
            clear hK K
            try simp only [Act.put, List.setIfInBounds_toArray, List.set_cons_zero, List.set_cons_succ]
            refine wpAnyH_done (by kernel_rfl) ?_ _
            show wpList _ _ _ _ _ _
            simp only [List.drop_succ_cons, List.drop_zero]
            clear hHeld
            obtain ⟨p0, p1, p2, p3, p4, p5⟩ := g.box6 6 rfl
            have f0 := g.free 6 rfl 0
            have f1 := g.free 6 rfl 1
            have f2 := g.free 6 rfl 2
            have f3 := g.free 6 rfl 3
            have f4 := g.free 6 rfl 4
            have f5 := g.free 6 rfl 5
            have g4 := (((((g.setBox 6 rfl 0 (.bool false)).setBox 6 rfl 1 (.int .i64 p)).setBox 6 rfl 2 (.int .i64 n)).setBox 6 rfl 3 (.int .i64 n)).setBox 6 rfl 4 (.slice Ar4 nr4 cr4)).setBox 6 rfl 5 (.slice Ap4 np4 cp4)
            obtain ⟨r0, r1, r2, r3, r4, r5⟩ := g4.box6 6 rfl
            go_wp2
            go_meet
            exact ⟨_, us4, Ar4, nr4, cr4, Ap4, np4, cp4, u3, us3, rfl, Lib.hid hul4, g4⟩
    obtain ⟨B, us4, Ar4, nr4, cr4, Ap4, np4, cp4, u3, us3, rfl, Hul4, g3⟩ := hcut
    obtain ⟨y0, y1, y2, y3, y4, y5⟩ := g3.box6 6 rfl
    obtain ⟨p0, p1, p2, p3⟩ := g3.box4 3 rfl
    have f0 := g3.free 3 rfl 0
    have f1 := g3.free 3 rfl 1
    have f2 := g3.free 3 rfl 2
    have f3 := g3.free 3 rfl 3
    have g4 := (((g3.setBox 3 rfl 0 (.int .i64 0)).setBox 3 rfl 1 (.int .i64 0)).setBox 3 rfl 2 (.int .i64 0)).setBox 3 rfl 3 (.slice none 0 0)
    obtain ⟨r0, r1, r2, r3⟩ := g4.box4 3 rfl
    go_wp2
    refine bodyPost_ret (v := .tuple #[.agg #[.int .i64 0, .int .i64 0, .int .i64 0, .slice none 0 0], .bool false]) (by simp [results, Try.results93, go_sem, r0, r1, r2, r3]) rfl ⟨_, rfl, Own.nil, g4.below⟩
  case pos =>
    rw [if_pos hrk]
    have hdf : decide (rankL p n S = n) = true := decide_eq_true hrk
    rw [hdf] at HNb
    have HIw2 := Lib.hid (HIw.out hrk)
    clear hrk hdf HIw
    go_enter Try.func93, Try.ntmps93
    go_wp2_with fail
    refine (MatrixOkI_any p n n _ D _ (h1.roInts 2 rfl) hp9).mono ?_
    rintro (e : Ending) w1 ⟨rfl, hb1⟩
    replace h1 := h1.on hb1
    rw [HM.out]
    clear hb1 z0 z1 z2 z3
    obtain ⟨z0, z1, z2, z3⟩ := h1.box4 1 rfl
    go_upto_region 3 with fail
    go_cut [4] (fun s4 wx => ∃ (B : Nat) (us4 : List Value) (Ar4 : Option Addr) (nr4 cr4 : Nat) (Ap4 : Option Addr) (np4 cp4 : Nat) (u3 : Value) (us3 : List Value), s4 = .pointer (some ⟨B, 0, none⟩) ∧ Hid (us4.length = Rd.length) ∧ St w wx [.own (.slice Ap4 np4 cp4) (pivI (pivL p n S)), rowsIt (.slice Ar4 nr4 cr4) us4 Rd, rowsIt u3 us3 S, .box (w.heap.size + 1) [.int .i64 0, .int .i64 0, .int .i64 0, .slice none 0 0], .box w.heap.size [.int .i64 p, .int .i64 n, .int .i64 n, .slice A D.length k0], .ro (.slice A D.length k0) D, .box B [.bool true, .int .i64 p, .int .i64 n, .int .i64 n, .slice Ar4 nr4 cr4, .slice Ap4 np4 cp4]])
    case first =>
      have g := h1.drew
      clear h1 z0 z1 z2 z3
      refine wp_region_cut (S := fun w' => (w'.cell? ⟨w.heap.size, 0, none⟩ = some (.int .i64 p) ∧ w'.cell? ⟨w.heap.size, 1, none⟩ = some (.int .i64 n) ∧ w'.cell? ⟨w.heap.size, 2, none⟩ = some (.int .i64 n) ∧ w'.cell? ⟨w.heap.size, 3, none⟩ = some (.slice A D.length k0))) 8 (by kernel_rfl) (by kernel_rfl) (g.box4 1 rfl) (fun hHeld => ?_)
      simp only [List.take_succ_cons, List.take_zero]
      generalize w1.drew = v0 at g hHeld ⊢
      refine anyH_take (v := ?_) 0 rfl (by kernel_rfl) (by kernel_rfl) (by kernel_rfl) (fun _ _ _ h => h) rfl ?_ hHeld ?_
      rotate_left
      · intro w' hSw
        go_simp
        try with_reducible rfl
      try simp only [Act.put, List.setIfInBounds_toArray, List.set_cons_zero, List.set_cons_succ]
      refine anyH_take (v := ?_) 2 rfl (by kernel_rfl) (by kernel_rfl) (by kernel_rfl) (fun _ _ _ h => h) rfl ?_ hHeld ?_
      rotate_left
      · intro w' hSw
        go_simp
        try with_reducible rfl
      try simp only [Act.put, List.setIfInBounds_toArray, List.set_cons_zero, List.set_cons_succ]
      refine anyH_take (v := ?_) 3 rfl (by kernel_rfl) (by kernel_rfl) (by kernel_rfl) (fun _ _ _ h => h) rfl ?_ hHeld ?_
      rotate_left
      · intro w' hSw
        go_simp
        try with_reducible rfl
      try simp only [Act.put, List.setIfInBounds_toArray, List.set_cons_zero, List.set_cons_succ]
      refine anyH_take (v := ?_) 4 rfl (by kernel_rfl) (by kernel_rfl) (by kernel_rfl) (fun _ _ _ h => h) rfl ?_ hHeld ?_
      rotate_left
      · intro w' hSw
        go_simp
        try with_reducible rfl
      try simp only [Act.put, List.setIfInBounds_toArray, List.set_cons_zero, List.set_cons_succ]
      refine anyH_take (v := ?_) 5 rfl (by kernel_rfl) (by kernel_rfl) (by kernel_rfl) (fun _ _ _ h => h) rfl ?_ hHeld ?_
      rotate_left
      · intro w' hSw
        go_simp
        try with_reducible rfl
      try simp only [Act.put, List.setIfInBounds_toArray, List.set_cons_zero, List.set_cons_succ]
      refine wpAnyH_ready (rs := [1, 7]) (by kernel_rfl) (by simp) ?_
      refine ready_cons rfl (fun K hK => ?_) (ready_cons rfl (fun K hK => ?_) AllReadyH.nil)
      · go_simp
        refine (HRw.out _ _ (g.roInts 2 rfl)).mono ?_
        rintro (e : Ending) w3 ⟨u3, us3, rfl, hul3, hok3, hnd3, hb3⟩
        replace g := g.pushRows hb3 hok3 hnd3
        show K _ _
        refine hK.out _ _ ?_ (fun hHeld => ?_)
        · exact (g.box4 2 rfl)
        clear hK K
        try simp only [Act.put, List.setIfInBounds_toArray, List.set_cons_zero, List.set_cons_succ]
        refine wpAnyH_ready (rs := [6, 7]) (by kernel_rfl) (by simp) ?_
        refine ready_cons rfl (fun K hK => ?_) (ready_cons rfl (fun K hK => ?_) AllReadyH.nil)
        · go_simp
          refine (HNb.out _ _ (g.rowsR 0 rfl hul3)).mono ?_
          rintro (e : Ending) w4 ⟨vr, vp, us4, rfl, hul4, hst4⟩
          replace g := g.pushBas hst4
          obtain ⟨Ar4, nr4, cr4, rfl⟩ := g.rowsSlice 1 rfl hul4
          obtain ⟨Ap4, np4, cp4, rfl⟩ := (g.own 0 rfl).slice
          show K _ _
          refine hK.out _ _ ?_ (fun hHeld => ?_)
          · exact (g.box4 4 rfl)
          clear hK K
          try simp only [Act.put, List.setIfInBounds_toArray, List.set_cons_zero, List.set_cons_succ]
          refine wpAnyH_ready (rs := [7]) (by kernel_rfl) (by simp) ?_
          refine ready_cons rfl (fun K hK => ?_) AllReadyH.nil
          · go_simp
            replace g := (g.box [.bool false, .int .i64 0, .int .i64 0, .int .i64 0, .slice none 0 0, .slice none 0 0] 74).toBack
            simp only [List.cons_append, List.nil_append] at g
            refine hK.out _ _ ?_ (fun hHeld => ?_)
            · exact (g.box4 4 rfl)
            clear hK K
            generalize w4.alloc (.cells #[.bool false, .int .i64 0, .int .i64 0, .int .i64 0, .slice none 0 0, .slice none 0 0] 74) = va at g hHeld ⊢
            try simp only [Act.put, List.setIfInBounds_toArray, List.set_cons_zero, List.set_cons_succ]
            refine wpAnyH_done (by kernel_rfl) ?_ _
            show wpList _ _ _ _ _ _
            simp only [List.drop_succ_cons, List.drop_zero]
            clear hHeld
            obtain ⟨p0, p1, p2, p3, p4, p5⟩ := g.box6 6 rfl
            have f0 := g.free 6 rfl 0
            have f1 := g.free 6 rfl 1
            have f2 := g.free 6 rfl 2
            have f3 := g.free 6 rfl 3
            have f4 := g.free 6 rfl 4
            have f5 := g.free 6 rfl 5
            have g4 := (((((g.setBox 6 rfl 0 (.bool true)).setBox 6 rfl 1 (.int .i64 p)).setBox 6 rfl 2 (.int .i64 n)).setBox 6 rfl 3 (.int .i64 n)).setBox 6 rfl 4 (.slice Ar4 nr4 cr4)).setBox 6 rfl 5 (.slice Ap4 np4 cp4)
            obtain ⟨r0, r1, r2, r3, r4, r5⟩ := g4.box6 6 rfl
            go_wp2
            go_meet
            exact ⟨_, us4, Ar4, nr4, cr4, Ap4, np4, cp4, u3, us3, rfl, Lib.hid hul4, g4⟩
        · go_simp
          replace g := (g.box [.bool false, .int .i64 0, .int .i64 0, .int .i64 0, .slice none 0 0, .slice none 0 0] 74).toBack
          simp only [List.cons_append, List.nil_append] at g
          refine hK.out _ _ ?_ (fun hHeld => ?_)
          · exact (g.box4 2 rfl)
          clear hK K
          generalize w3.alloc (.cells #[.bool false, .int .i64 0, .int .i64 0, .int .i64 0, .slice none 0 0, .slice none 0 0] 74) = va at g hHeld ⊢
          try simp only [Act.put, List.setIfInBounds_toArray, List.set_cons_zero, List.set_cons_succ]
          refine wpAnyH_ready (rs := [6]) (by kernel_rfl) (by simp) ?_
          refine ready_cons rfl (fun K hK => ?_) AllReadyH.nil
          · go_simp
            refine (HNb.out _ _ (g.rowsR 0 rfl hul3)).mono ?_
            rintro (e : Ending) w4 ⟨vr, vp, us4, rfl, hul4, hst4⟩
            replace g := g.pushBas hst4
            obtain ⟨Ar4, nr4, cr4, rfl⟩ := g.rowsSlice 1 rfl hul4
            obtain ⟨Ap4, np4, cp4, rfl⟩ := (g.own 0 rfl).slice
            show K _ _
            refine hK.out _ _ ?_ (fun hHeld => ?_)
            · exact (g.box4 4 rfl)
            clear hK K
            try simp only [Act.put, List.setIfInBounds_toArray, List.set_cons_zero, List.set_cons_succ]
            refine wpAnyH_done (by kernel_rfl) ?_ _
            show wpList _ _ _ _ _ _
            simp only [List.drop_succ_cons, List.drop_zero]
            clear hHeld
            obtain ⟨p0, p1, p2, p3, p4, p5⟩ := g.box6 6 rfl
            have f0 := g.free 6 rfl 0
            have f1 := g.free 6 rfl 1
            have f2 := g.free 6 rfl 2
            have f3 := g.free 6 rfl 3
            have f4 := g.free 6 rfl 4
            have f5 := g.free 6 rfl 5
            have g4 := (((((g.setBox 6 rfl 0 (.bool true)).setBox 6 rfl 1 (.int .i64 p)).setBox 6 rfl 2 (.int .i64 n)).setBox 6 rfl 3 (.int .i64 n)).setBox 6 rfl 4 (.slice Ar4 nr4 cr4)).setBox 6 rfl 5 (.slice Ap4 np4 cp4)
            obtain ⟨r0, r1, r2, r3, r4, r5⟩ := g4.box6 6 rfl
            go_wp2
            go_meet
            exact ⟨_, us4, Ar4, nr4, cr4, Ap4, np4, cp4, u3, us3, rfl, Lib.hid hul4, g4⟩
      · go_simp
        replace g := (g.box [.bool false, .int .i64 0, .int .i64 0, .int .i64 0, .slice none 0 0, .slice none 0 0] 74).toBack
        simp only [List.cons_append, List.nil_append] at g
        refine hK.out _ _ ?_ (fun hHeld => ?_)
        · exact (g.box4 1 rfl)
        clear hK K
        generalize v0.alloc (.cells #[.bool false, .int .i64 0, .int .i64 0, .int .i64 0, .slice none 0 0, .slice none 0 0] 74) = va at g hHeld ⊢
        try simp only [Act.put, List.setIfInBounds_toArray, List.set_cons_zero, List.set_cons_succ]
        refine wpAnyH_ready (rs := [1]) (by kernel_rfl) (by simp) ?_
        refine ready_cons rfl (fun K hK => ?_) AllReadyH.nil
        · go_simp
          refine (HRw.out _ _ (g.roInts 2 rfl)).mono ?_
          rintro (e : Ending) w3 ⟨u3, us3, rfl, hul3, hok3, hnd3, hb3⟩
          replace g := g.pushRows hb3 hok3 hnd3
          show K _ _
          refine hK.out _ _ ?_ (fun hHeld => ?_)
          · exact (g.box4 2 rfl)
          clear hK K
          try simp only [Act.put, List.setIfInBounds_toArray, List.set_cons_zero, List.set_cons_succ]
          refine wpAnyH_ready (rs := [6]) (by kernel_rfl) (by simp) ?_
          refine ready_cons rfl (fun K hK => ?_) AllReadyH.nil
          · go_simp
            refine (HNb.out _ _ (g.rowsR 0 rfl hul3)).mono ?_
            rintro (e : Ending) w4 ⟨vr, vp, us4, rfl, hul4, hst4⟩
            replace g := g.pushBas hst4
            obtain ⟨Ar4, nr4, cr4, rfl⟩ := g.rowsSlice 1 rfl hul4
            obtain ⟨Ap4, np4, cp4, rfl⟩ := (g.own 0 rfl).slice
            show K _ _
            refine hK.out _ _ ?_ (fun hHeld => ?_)
            · exact (g.box4 4 rfl)
            clear hK K
            try simp only [Act.put, List.setIfInBounds_toArray, List.set_cons_zero, List.set_cons_succ]
            refine wpAnyH_done (by kernel_rfl) ?_ _
            show wpList _ _ _ _ _ _
            simp only [List.drop_succ_cons, List.drop_zero]
            clear hHeld
            obtain ⟨p0, p1, p2, p3, p4, p5⟩ := g.box6 6 rfl
            have f0 := g.free 6 rfl 0
            have f1 := g.free 6 rfl 1
            have f2 := g.free 6 rfl 2
            have f3 := g.free 6 rfl 3
            have f4 := g.free 6 rfl 4
            have f5 := g.free 6 rfl 5
            have g4 := (((((g.setBox 6 rfl 0 (.bool true)).setBox 6 rfl 1 (.int .i64 p)).setBox 6 rfl 2 (.int .i64 n)).setBox 6 rfl 3 (.int .i64 n)).setBox 6 rfl 4 (.slice Ar4 nr4 cr4)).setBox 6 rfl 5 (.slice Ap4 np4 cp4)
            obtain ⟨r0, r1, r2, r3, r4, r5⟩ := g4.box6 6 rfl
            go_wp2
            go_meet
            exact ⟨_, us4, Ar4, nr4, cr4, Ap4, np4, cp4, u3, us3, rfl, Lib.hid hul4, g4⟩
    obtain ⟨B, us4, Ar4, nr4, cr4, Ap4, np4, cp4, u3, us3, rfl, Hul4, g3⟩ := hcut
    have g5 := g3.emptyRows
    obtain ⟨y0, y1, y2, y3, y4, y5⟩ := g3.box6 6 rfl
    obtain ⟨x0, x1, x2, x3⟩ := g5.box4 5 rfl
    go_wp2
    clear y0 y1 y2 y3 y4 y5 x0 x1 x2 x3 g3
    go_loopw [5, 6, 7, 8, 34] (fun v5 _ _ _ v34 wr => ∃ (i : Nat) (us : List Value), v34 = .int .i64 i ∧ i ≤ n ∧ Hid (us.length = i) ∧ St w wr [rowsIt v5 us (invTo p n S i), .own (.slice Ap4 np4 cp4) (pivI (pivL p n S)), rowsIt (.slice Ar4 nr4 cr4) us4 Rd, rowsIt u3 us3 S, .box (w.heap.size + 1) [.int .i64 0, .int .i64 0, .int .i64 0, .slice none 0 0], .box w.heap.size [.int .i64 p, .int .i64 n, .int .i64 n, .slice A D.length k0], .ro (.slice A D.length k0) D, .box B [.bool true, .int .i64 p, .int .i64 n, .int .i64 n, .slice Ar4 nr4 cr4, .slice Ap4 np4 cp4]]) (fun _ _ _ _ v34 _ => n - (intOf v34).toNat)
    case atStart => exact ⟨0, [], rfl, by omega, Lib.hid rfl, by simpa only [invTo, List.range_zero, List.map_nil] using g5⟩
    case round =>
      clear g5
      obtain ⟨i, us, rfl, a1, Hul, g5⟩ := hrel
      by_cases hi : i < n
      · have HU := Lib.hid (fun W => unit_any n i W (by omega) hi)
        have HN := Lib.hid (invTo_succ p n S i)
        have Hl2 := Lib.hid (Hul.out.trans (length_invTo p n S i).symm)
        have Hl3 := Lib.hid (show (invTo p n S i).length + 1 ≤ 1099511627776 by rw [length_invTo]; omega)
        have ij : (i : Int) < n := by omega
        go_upto_region 10 with fail
        have g0 := g5.drew
        refine wp_region_held_drew (S := fun w' => (w'.cell? ⟨B, 0, none⟩ = some (.bool true) ∧ w'.cell? ⟨B, 1, none⟩ = some (.int .i64 p) ∧ w'.cell? ⟨B, 2, none⟩ = some (.int .i64 n) ∧ w'.cell? ⟨B, 3, none⟩ = some (.int .i64 n) ∧ w'.cell? ⟨B, 4, none⟩ = some (.slice Ar4 nr4 cr4) ∧ w'.cell? ⟨B, 5, none⟩ = some (.slice Ap4 np4 cp4)) ∧ (w'.cell? ⟨w.heap.size, 0, none⟩ = some (.int .i64 p) ∧ w'.cell? ⟨w.heap.size, 1, none⟩ = some (.int .i64 n) ∧ w'.cell? ⟨w.heap.size, 2, none⟩ = some (.int .i64 n) ∧ w'.cell? ⟨w.heap.size, 3, none⟩ = some (.slice A D.length k0))) (by kernel_rfl) ⟨g0.box6 7 rfl, g0.box4 5 rfl⟩ (fun hHeld => ?_)
        refine anyH_take (v := ?_) 0 rfl (by kernel_rfl) (by kernel_rfl) (by kernel_rfl) (fun _ _ _ h => h) rfl ?_ hHeld ?_
        rotate_left
        · intro w' hSw
          go_simp
          try with_reducible rfl
        try simp only [Act.put, List.setIfInBounds_toArray, List.set_cons_zero, List.set_cons_succ]
        refine anyH_take (v := ?_) 1 rfl (by kernel_rfl) (by kernel_rfl) (by kernel_rfl) (fun _ _ _ h => h) rfl ?_ hHeld ?_
        rotate_left
        · intro w' hSw
          go_simp
          try with_reducible rfl
        try simp only [Act.put, List.setIfInBounds_toArray, List.set_cons_zero, List.set_cons_succ]
        refine anyH_take (v := ?_) 2 rfl (by kernel_rfl) (by kernel_rfl) (by kernel_rfl) (fun _ _ _ h => h) rfl ?_ hHeld ?_
        rotate_left
        · intro w' hSw
          go_simp
          try with_reducible rfl
        try simp only [Act.put, List.setIfInBounds_toArray, List.set_cons_zero, List.set_cons_succ]
        refine anyH_take (v := ?_) 3 rfl (by kernel_rfl) (by kernel_rfl) (by kernel_rfl) (fun _ _ _ h => h) rfl ?_ hHeld ?_
        rotate_left
        · intro w' hSw
          go_simp
          try with_reducible rfl
        try simp only [Act.put, List.setIfInBounds_toArray, List.set_cons_zero, List.set_cons_succ]
        refine wpAnyH_ready (rs := [4]) (by kernel_rfl) (by simp) ?_
        refine ready_cons rfl (fun K hK => ?_) AllReadyH.nil
        go_simp
        refine (HU.out _).mono ?_
        rintro (e : Ending) w5 ⟨u5, rfl, ho5, hb5⟩
        obtain ⟨A5, n5, c5, rfl⟩ := ho5.slice
        have g1 := g0.pushOwn hb5 ho5
        show K _ _
        refine hK.out _ _ ?_ (fun hHeld => ?_)
        · exact ⟨g1.box6 8 rfl, g1.box4 6 rfl⟩
        clear hK K
        try simp only [Act.put, List.setIfInBounds_toArray, List.set_cons_zero, List.set_cons_succ]
        refine wpAnyH_ready (rs := [5]) (by kernel_rfl) (by simp) ?_
        refine ready_cons rfl (fun K hK => ?_) AllReadyH.nil
        go_simp
        refine (HCo.out _ _ _ _ _ i (g1.rowsR 3 rfl Hul4.out) (g1.ownInts 2 rfl) (g1.ownInts 0 rfl)).mono ?_
        rintro (e : Ending) w6 ⟨u6, rfl, ho6, hb6⟩
        obtain ⟨A6, n6, c6, rfl⟩ := ho6.slice
        have g2 := g1.pushOwn hb6 ho6
        show K _ _
        refine hK.out _ _ ?_ (fun hHeld => ?_)
        · exact ⟨g2.box6 9 rfl, g2.box4 7 rfl⟩
        clear hK K
        try simp only [Act.put, List.setIfInBounds_toArray, List.set_cons_zero, List.set_cons_succ]
        refine anyH_take (v := ?_) 6 rfl (by kernel_rfl) (by kernel_rfl) (by kernel_rfl) (fun _ _ _ h => h) rfl ?_ hHeld ?_
        rotate_left
        · intro w' hSw
          go_simp
          try with_reducible rfl
        try simp only [Act.put, List.setIfInBounds_toArray, List.set_cons_zero, List.set_cons_succ]
        refine anyH_take (v := ?_) 7 rfl (by kernel_rfl) (by kernel_rfl) (by kernel_rfl) (fun _ _ _ h => h) rfl ?_ hHeld ?_
        rotate_left
        · intro w' hSw
          go_simp
          try with_reducible rfl
        try simp only [Act.put, List.setIfInBounds_toArray, List.set_cons_zero, List.set_cons_succ]
        refine anyH_take (v := ?_) 8 rfl (by kernel_rfl) (by kernel_rfl) (by kernel_rfl) (fun _ _ _ h => h) rfl ?_ hHeld ?_
        rotate_left
        · intro w' hSw
          go_simp
          try with_reducible rfl
        try simp only [Act.put, List.setIfInBounds_toArray, List.set_cons_zero, List.set_cons_succ]
        refine anyH_take (v := ?_) 9 rfl (by kernel_rfl) (by kernel_rfl) (by kernel_rfl) (fun _ _ _ h => h) rfl ?_ hHeld ?_
        rotate_left
        · intro w' hSw
          go_simp
          try with_reducible rfl
        try simp only [Act.put, List.setIfInBounds_toArray, List.set_cons_zero, List.set_cons_succ]
        refine anyH_take (v := ?_) 10 rfl (by kernel_rfl) (by kernel_rfl) (by kernel_rfl) (fun _ _ _ h => h) rfl ?_ hHeld ?_
        rotate_left
        · intro w' hSw
          go_simp
          try with_reducible rfl
        try simp only [Act.put, List.setIfInBounds_toArray, List.set_cons_zero, List.set_cons_succ]
        refine wpAnyH_done (by kernel_rfl) ?_ _
        clear hHeld
        clear g0 g1 g5
        go_wp2_with (at_builtin; refine wp_append_row' rfl (.tmp 46) (.tmp 48) rfl g2 1 rfl Hl2.out rfl rfl Hl3.out ?_; intro v1 w7 g3)
        replace g3 := g3.drop 1
        go_roundw
        case rel => exact ⟨i + 1, us ++ [_], by go_num, by omega, by show _ = _; rw [List.length_append, Hul.out]; rfl, by rw [HN.out]; exact g3⟩
        case measure => simp [intOf]; omega
      · obtain rfl : i = n := by omega
        have hq := HIw2.out i
        have HMo := Lib.hid (show ∀ W v, IntRows W v (invTo p i S i) → Calls Try.prog 124 #[.int .i64 p, .int .i64 i, v] W (RetMat W p i i (flat i (invTo p i S i))) from fun W v hW => by
          have := matrixOf_any p i v (invTo p i S i) W hW (by rw [total_wf hq, length_invTo]; have := mul_le k1 k1; omega)
          rwa [← flat_flatten hq, length_invTo] at this)
        obtain ⟨x0, x1, x2, x3⟩ := g5.box4 5 rfl
        clear hq
        go_wp2_with fail
        refine (HMo.out _ _ (g5.rowsR 0 rfl (Hul.out.trans (length_invTo p i S i).symm))).mono ?_
        rintro (e : Ending) w8 ⟨u8, rfl, ho8, hb8⟩
        obtain ⟨A8, c8, rfl, _, _, _⟩ := id ho8.ints
        have g6 := g5.pushOwn hb8 ho8
        clear ho8 hb8 x0 x1 x2 x3 g5
        obtain ⟨p0, p1, p2, p3⟩ := g6.box4 5 rfl
        have f0 := g6.free 5 rfl 0
        have f1 := g6.free 5 rfl 1
        have f2 := g6.free 5 rfl 2
        have f3 := g6.free 5 rfl 3
        have g7 := (((g6.setBox 5 rfl 0 (.int .i64 p)).setBox 5 rfl 1 (.int .i64 i)).setBox 5 rfl 2 (.int .i64 i)).setBox 5 rfl 3 (.slice A8 (flat i (invTo p i S i)).length c8)
        obtain ⟨r0, r1, r2, r3⟩ := g7.box4 5 rfl
        go_wp2
        refine bodyPost_ret (v := .tuple #[.agg #[.int .i64 p, .int .i64 i, .int .i64 i, .slice A8 (flat i (invTo p i S i)).length c8], .bool true]) (by simp [results, Try.results93, go_sem, r0, r1, r2, r3]) rfl ⟨_, rfl, g7.own 0 rfl, g7.below⟩

/-- Is a map an automorphism? -/
def autOk (p n : Int) (T : List Int) (q r c : Int) (D : List Int) : Bool := isHom p n T p n T q r c D && decide (rankL p n.toNat (rowsM n.toNat n.toNat D) = n.toNat)

end Go.Proofs.Ythiainhhaokjoaa
