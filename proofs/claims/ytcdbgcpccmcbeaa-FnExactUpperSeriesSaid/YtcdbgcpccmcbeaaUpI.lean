/- The upper series in the program; UpperSeries of both. -/
import Derived.Test.YtcdbgcpccmcbeaaUpS
import Derived.Test.YtcdbgcpccmcbeaaSerD
namespace Go.Proofs.Ytcdbgcpccmcbeaa
set_option maxRecDepth 100000
open Go.RowKit

set_option maxHeartbeats 4000000 in
theorem upNext_any (p q2 : Int) (n bx by' : Nat) (t s u : Value) (T : List Int) (R : List (List Int)) (w : World) (hc : At3 w bx (.int .i64 p) (.int .i64 n) t) (hc2 : At4 w by' (.int .i64 q2) (.int .i64 n) (.int .i64 n) u) (ht : Ints w t T) (hu : Ints w u (unitD n)) (hs : Ints w s (flat n R)) (hT : T.length = n * n * n) (hn : n ≤ 28) (hP : isPrime p = true) (rT : resid p T = true) (hR : UpOk T n p R) :
    Calls Try.prog 87 #[.agg #[.int .i64 p, .int .i64 R.length, .int .i64 n, s], .pointer (some ⟨bx, 0, none⟩), .pointer (some ⟨by', 0, none⟩)] w (RetMat w p (upStep T n p R).length n (flat n (upStep T n p R))) := by
  have b1 := (isPrime_bd hP).1
  have hRn := hR.le_n hP
  have h1 := (((((((St.start w).arg ht).arg hs).arg hu).pushOld hc.fact).pushOld hc2.fact).box [.int .i64 p, .int .i64 R.length, .int .i64 n, s] 33).box [.int .i64 0, .int .i64 0, .int .i64 0, .slice none 0 0] 33
  simp only [World.size_alloc] at h1
  obtain ⟨ar, har⟩ := hR.rf
  have HP := into_any p q2 p n _ _ _ T (uniR n) R ar _ (h1.roInts 6 rfl) (by rw [flat_uniR]; exact h1.roInts 4 rfl) (h1.roInts 5 rfl) hT (Rf_uniR b1 n).wf (by rw [length_uniR]; omega) har hn hP rT
  rw [length_uniR, show intoL T n p R ar (uniR n) = upStep T n p R by rw [upStep, (spanL_self hP har).2]] at HP
  obtain ⟨R2, hR2⟩ : ∃ R2, R2 = upStep T n p R := ⟨_, rfl⟩
  rw [← hR2] at HP ⊢
  replace HP := Lib.hid HP
  clear hT
  obtain ⟨A, k, rfl, _, _, _⟩ := id ht
  obtain ⟨A1, k1, rfl, _, _, _⟩ := id hs
  obtain ⟨A2, k2, rfl, _, _, _⟩ := id hu
  clear hR2 hR ht hs hc hc2 hu har
  obtain ⟨z0, z1, z2⟩ := h1.fact 3 rfl
  obtain ⟨x0, x1, x2, x3⟩ := h1.fact 2 rfl
  obtain ⟨y0, y1, y2, y3⟩ := h1.box4 1 rfl
  go_enter Try.func87, Try.ntmps87
  go_wp2_with fail
  refine HP.out.mono ?_
  rintro (e : Ending) w5 ⟨u, rfl, ho, hb5⟩
  obtain ⟨A7, c7, rfl, _, _, _⟩ := id ho.ints
  have h2 := h1.pushOwn hb5 ho
  clear y0 y1 y2 y3 z0 z1 z2
  obtain ⟨v0, v1, v2, v3⟩ := h2.box4 1 rfl
  have f0 := h2.free 1 rfl 0
  have f1 := h2.free 1 rfl 1
  have f2 := h2.free 1 rfl 2
  have f3 := h2.free 1 rfl 3
  have h4 := (((h2.setBox 1 rfl 0 (.int .i64 p)).setBox 1 rfl 1 (.int .i64 R2.length)).setBox 1 rfl 2 (.int .i64 n)).setBox 1 rfl 3 (.slice A7 (flat n R2).length c7)
  obtain ⟨r0, r1, r2, r3⟩ := h4.box4 1 rfl
  go_wp2
  refine bodyPost_ret (v := .agg #[.int .i64 p, .int .i64 R2.length, .int .i64 n, .slice A7 (flat n R2).length c7]) (by simp [results, Try.results87, go_sem, r0, r1, r2, r3]) rfl ⟨_, rfl, h4.own 0 rfl, h4.below⟩

set_option maxHeartbeats 4000000 in
theorem seriesU_st {w0 w : World} {L : List It} (p : Int) (n k kx ky ku bx by' : Nat) (v t : Value) (T : List Int) (h : St w0 w L) (hk : L[k]? = some (.ro t T)) (hx : L[kx]? = some (.box bx [.int .i64 p, .int .i64 n, t])) (hy : L[ky]? = some (.box by' [.int .i64 p, .int .i64 n, .int .i64 n, v])) (hku : L[ku]? = some (.own v (unitD n))) (hT : T.length = n * n * n) (hn : n ≤ 28) (hP : isPrime p = true) (rT : resid p T = true) :
    Calls Try.prog 86 #[.agg #[.int .i64 p, .int .i64 0, .int .i64 n, .slice none 0 0], .func (.func 87) #[] #[.pointer (some ⟨bx, 0, none⟩), .pointer (some ⟨by', 0, none⟩)]] w
      fun e w' => ∃ u us, e = .returned u ∧ us.length = (serMs p n (upL T n p)).length ∧ St w0 w' (matsIt u us (serMs p n (upL T n p)) :: L) := by
  have b1 := (isPrime_bd hP).1
  have hs := UpAt.start T n hP
  obtain ⟨G, hG⟩ : ∃ G, G = serMs p n (upL T n p) := ⟨_, rfl⟩
  rw [← hG]
  obtain ⟨A, c0, rfl, _, _, _⟩ := id (h.ro k hk).ints
  have h1 := ((h.pushOwn (Below.refl _ _) Own.nil).box [.int .i64 p, .int .i64 0, .int .i64 n, .slice none 0 0] 33).swap2
  obtain ⟨z0, z1, z2, z3⟩ := h1.box4 1 rfl
  replace h1 := h1.litMat p 0 n
  simp only [World.size_alloc] at h1
  rw [← spMt_none] at h1
  have HS : Hid (UpRun T n p [] [] G) := ⟨hs, hG⟩
  have hfl := flat_none n
  have HT := Lib.hid hT
  clear h hs hG hT
  go_enter Try.func86, Try.ntmps86
  go_wp2
  clear z0 z1 z2 z3
  go_loopg [5] n (fun gk v5 wr => ∃ (pre : List (List (List Int))) (R : List (List Int)) (us : List Value) (Ad : Option Addr) (cd : Nat), Hid (n - R.length = gk) ∧ Hid (UpRun T n p pre R G) ∧ Hid (us.length = pre.length) ∧ St w0 wr (matsIt v5 (us ++ [.slice Ad (flat n R).length cd]) (serMs p n pre ++ [spMt p n R]) :: .box w.heap.size [.int .i64 p, .int .i64 0, .int .i64 n, .slice none 0 0] :: L))
  case atStart => exact ⟨[], [], [], none, 0, Nat.sub_zero n, HS, rfl, by rw [hfl]; exact h1⟩
  case round =>
    clear h1 HS hfl
    obtain ⟨pre, R, us, Ad, cd, hlg, HR, Hul, h1⟩ := hrel
    have hok := HR.out.1.ok
    have hRn := hok.le_n hP
    have hRW := hok.wf
    have hpl := HR.out.1.len
    have hlu2 : (us ++ [Value.slice Ad (flat n R).length cd]).length = (serMs p n pre ++ [spMt p n R]).length := by rw [List.length_append, List.length_append, length_serMs, Hul.out]; rfl
    have hl1 : (serMs p n pre ++ [spMt p n R]).length + 1 ≤ 1099511627776 := by rw [List.length_append, length_serMs, List.length_singleton]; omega
    obtain ⟨A5, c5, rfl, _, _, _⟩ := id (h1.mats 0 rfl hlu2)
    obtain ⟨q, hq⟩ : ∃ q, q = (serMs p n pre ++ [spMt p n R]).length := ⟨_, rfl⟩
    rw [← hq] at h1 ⊢
    obtain ⟨j, hj⟩ : ∃ j, j = pre.length := ⟨_, rfl⟩
    have hqj : q = j + 1 := by rw [hq, hj, List.length_append, length_serMs]; rfl
    obtain ⟨g, rfl⟩ := h1.vecSome 0 rfl (by rw [← hq]; omega)
    have huj : (us ++ [Value.slice Ad (flat n R).length cd])[j]? = some (.slice Ad (flat n R).length cd) := by rw [hj, ← Hul.out]; simp
    have hmj : (serMs p n pre ++ [spMt p n R])[j]? = some (spMt p n R) := by rw [hj, ← length_serMs p n pre]; simp
    obtain ⟨x0, x1, x2, x3⟩ := h1.matAt 0 rfl hq.symm j huj hmj
    change wr.cell? _ = some (.int .i64 p) at x0
    change wr.cell? _ = some (.int .i64 R.length) at x1
    change wr.cell? _ = some (.int .i64 n) at x2
    have h2 := h1.box [.int .i64 p, .int .i64 R.length, .int .i64 n, .slice Ad (flat n R).length cd] 33
    have hin := h2.matInts 1 rfl j huj hmj
    have hti := (h2.ro (k + 3) (by simpa using hk)).ints
    have hbx := h2.box3 (kx + 3) (by simpa using hx)
    have hby := h2.box4 (ky + 3) (by simpa using hy)
    have hui := (h2.own (ku + 3) (by simpa using hku)).ints
    have hle := hok.le hP
    have hgt := fun he : (upStep T n p R).length ≠ R.length => hok.gt hP he
    have HP := upNext_any p p n bx by' _ _ _ T R _ hbx hby hti hui hin HT.out hn hP rT hok
    obtain ⟨R2, hR2⟩ : ∃ R2, R2 = upStep T n p R := ⟨_, rfl⟩
    rw [← hR2] at HP hle hgt
    obtain ⟨l2, hl2⟩ : ∃ l2, l2 = R2.length := ⟨_, rfl⟩
    rw [← hl2] at HP hle hgt
    replace HP := Lib.hid HP
    have Hl2 := Lib.hid hl2
    clear hl2
    have Hlu2 := Lib.hid hlu2
    have Hl1 := Lib.hid hl1
    have HR2 := Lib.hid hR2
    have hw : IntKind.i64.wrap ((q : Int) - 1) = (j : Int) := by rw [wrap_ok (by omega) (by omega)]; omega
    have i1 : (j : Int) < q := by omega
    have i2 : (0 : Int) < q := by omega
    have Hq := Lib.hid hq
    have Hj := Lib.hid hj
    have Hqj := Lib.hid hqj
    clear hok hRW hpl hlu2 hl1 hR2 hin hti hbx huj hmj hq hj hqj hby hui
    obtain ⟨y0, y1, y2, y3⟩ := h2.box4 0 rfl
    go_wp2_with fail
    refine HP.out.mono ?_
    rintro (e : Ending) w5 ⟨u, rfl, ho, hb5⟩
    obtain ⟨A7, c7, rfl, _, _, _⟩ := id ho.ints
    have h3 := h2.pushOwn hb5 ho
    have h4 := (h3.box [.int .i64 p, .int .i64 l2, .int .i64 n, .slice A7 (flat n R2).length c7] 33).swap2
    clear x0 x1 x2 x3 y0 y1 y2 y3 ho hb5 h1 h2 h3 hw
    obtain ⟨x0, x1, x2, x3⟩ := h4.box4 1 rfl
    obtain ⟨z0, z1, z2, z3⟩ := h4.box4 2 rfl
    by_cases he : l2 = R.length
    · subst he
      go_wp2
      go_ret
      have hh := HR.out
      have hst := hh.1.stop (by rw [← HR2.out, ← Hl2.out])
      rw [hh.2, ← hst, serMs_app]
      exact ⟨_, _, rfl, Hlu2.out, (((h4.erase 4).erase 2).erase 1).erase 0⟩
    · obtain rfl := Hl2.out
      have e1 : ((R2.length : Int) == (R.length : Int)) = false := by rw [beq_eq_false_iff_ne]; omega
      have e2 : ¬ ((R2.length : Int) = (R.length : Int)) := by omega
      go_wp2_with (at_builtin; refine wp_append_mat rfl (.tmp 25) (.tmp 27) rfl (spMt p n R2) h4 2 rfl Hlu2.out rfl (by simp only [World.size_alloc]; rfl) Hl1.out ?_; intro v1 w6 h5)
      have hh := HR.out
      have hnx := hh.1.next hP (by rw [← HR2.out]; exact he)
      rw [← HR2.out] at hnx
      go_roundg (n - R2.length)
      case measure => have := hlg.out; have := hgt he; omega
      case rel => exact ⟨pre ++ [R], R2, us ++ [Value.slice Ad (flat n R).length cd], A7, c7, by show _ = _; rfl, ⟨hnx.1, hh.2⟩, by show _ = _; rw [List.length_append, List.length_append, Hul.out]; rfl, by rw [serMs_app]; exact (h5.erase 0).erase 0⟩

/-- The upper series as matrices. -/
def upMod (p n : Int) (T : List Int) : List Mt := if algOk p n T then serMs p n.toNat (upL T n.toNat p) else []
theorem upMod_yes {p : Int} {m : Nat} {T : List Int} (h : algOk p m T = true) : upMod p m T = serMs p m (upL T m p) := by rw [upMod, if_pos h, Int.toNat_natCast]
theorem upMod_no {p n : Int} {T : List Int} (h : algOk p n T = false) : upMod p n T = [] := by rw [upMod, if_neg (by rw [h]; decide)]
theorem upMod_bd (p n : Int) (T : List Int) : markMsLen (upMod p n T) ≤ 25284 := by
  by_cases h : algOk p n T = true
  · obtain ⟨m, rfl, hm, _, _, _, _, hP⟩ := algOk_spec h
    rw [upMod_yes h]
    unfold markMsLen
    have hl := length_upL T m p
    have hd := dLen_bound (serMs p m (upL T m p)) (m * m) fun x hx => by
      obtain ⟨R, hR, rfl⟩ := List.mem_map.1 hx
      have := (upsTo_ok hP m (UpOk.start T m p) R hR).le_n hP
      show (flat m R).length ≤ _
      rw [length_flat]
      exact Nat.mul_le_mul_right m this
    rw [length_serMs] at hd ⊢
    have h2 : (upL T m p).length * (m * m) ≤ 29 * 784 := Nat.mul_le_mul (by omega) (mul_le hm hm)
    omega
  · rw [upMod_no (by simpa using h)]; simp [markMsLen, dLen]

set_option maxHeartbeats 4000000 in
theorem UpperSeriesS_any (p n : Int) (t : Value) (T : List Int) (w : World) (ht : Ints w t T) : Calls Try.prog 27 #[.agg #[.int .i64 p, .int .i64 n, t]] w (RetMs w (upMod p n T)) := by
  have h1 := (St.start1 ht).box [.int .i64 p, .int .i64 n, t] 29
  obtain ⟨A, c, rfl, _, _, _⟩ := id ht
  clear ht
  by_cases b1 : algOk p n T = true
  · obtain ⟨m, rfl, k1, kT, k3, k4, k5, k6⟩ := algOk_spec b1
    have KT := Lib.hid kT
    clear kT
    obtain ⟨G, hG⟩ : ∃ G, G = upMod p m T := ⟨_, rfl⟩
    have HG := Lib.hid (show serMs p m (upL T m p) = G by rw [hG, upMod_yes b1])
    rw [← hG]
    have HU := Lib.hid (fun W => l2None_any p m A T.length c W)
    go_enter Try.func27, Try.ntmps27
    go_wp2_with fail
    refine (AlgebraOkS_any p m _ T _ (h1.roInts 1 rfl)).mono ?_
    rintro e wn ⟨rfl, hb1⟩
    replace h1 := h1.on hb1
    clear hb1
    obtain ⟨z0, z1, z2⟩ := h1.box3 0 rfl
    clear hG
    have tk1 : True := trivial
    go_wp2
    go_region_held3 (fun w' => w'.cell? ⟨w.heap.size, 0, none⟩ = some (.int .i64 p) ∧ w'.cell? ⟨w.heap.size, 1, none⟩ = some (.int .i64 m) ∧ w'.cell? ⟨w.heap.size, 2, none⟩ = some (.slice A T.length c))
      (first | exact ⟨z0, z1, z2⟩ | exact ⟨za0, za1, za2⟩ | exact ⟨zb0, zb1, zb2⟩)
      (first
        | (go_at_call 83; refine (HU.out _).mono ?_; rintro (e : Ending) w2 ⟨u, rfl, ho2, hb2⟩; obtain ⟨A6, c6, rfl, _, _, _⟩ := id ho2.ints; have h2 := h1.drew.pushOwn hb2 ho2; obtain ⟨za0, za1, za2⟩ := h2.box3 1 rfl)
        | (go_at_call 82; refine (l3Series2_st p m 1 _ _ T h2 rfl KT.out k1 k6 k3).mono ?_; rintro (e : Ending) w3 ⟨u3, us, rfl, hul, h3⟩; obtain ⟨zb0, zb1, zb2⟩ := h3.box3 1 rfl))
    go_wp2
    go_ret
    rw [HG.out] at hul h3
    exact ⟨_, us, rfl, hul, h3.at 0 rfl, h3.vecNodup 0 rfl, h3.below⟩
  · have b1 : algOk p n T = false := by simpa using b1
    rw [upMod_no b1]
    go_enter Try.func27, Try.ntmps27
    go_wp2_with fail
    refine (AlgebraOkS_any p n _ T _ (h1.roInts 1 rfl)).mono ?_
    rintro e wn ⟨rfl, hb1⟩
    replace h1 := h1.on hb1
    clear hb1
    go_wp2
    go_ret
    exact RetMs.nil h1.below

set_option maxHeartbeats 4000000 in
theorem UpperSeriesI_any (p n : Int) (t : Value) (T : List Int) (w : World) (ht : Ints w t T) (hp : p ≤ 9223372036854775807) : Calls Try.prog 28 #[.agg #[.int .i64 p, .int .i64 n, t]] w (RetMs w (upMod p n T)) := by
  have hmf : ∀ (fn : Fn) (first cap : Array Value) (w : World), (Instr.makeFunc fn first cap).run Try.prog w = .ok (.func fn first cap) w := fun _ _ _ _ => rfl
  have h1 := (St.start1 ht).box [.int .i64 p, .int .i64 n, t] 29
  obtain ⟨A, c, rfl, _, _, _⟩ := id ht
  clear ht
  by_cases b1 : algOk p n T = true
  · obtain ⟨m, rfl, k1, kT, k3, k4, k5, k6⟩ := algOk_spec b1
    have KT := Lib.hid kT
    clear kT
    obtain ⟨G, hG⟩ : ∃ G, G = upMod p m T := ⟨_, rfl⟩
    have HG := Lib.hid (show serMs p m (upL T m p) = G by rw [hG, upMod_yes b1])
    rw [← hG]
    have HU := Lib.hid (fun W => UnitMatrixI_any p m W k6 (by omega))
    go_enter Try.func28, Try.ntmps28
    go_wp2_with fail
    refine (AlgebraOkI_any p m _ T _ (h1.roInts 1 rfl) hp).mono ?_
    rintro e wn ⟨rfl, hb1⟩
    replace h1 := h1.on hb1
    clear hb1
    obtain ⟨z0, z1, z2⟩ := h1.box3 0 rfl
    clear hG
    go_wp2_with fail
    refine (newLie_any p m _ _ _ _ _ rfl).mono ?_
    rintro (e : Ending) w9 ⟨rfl, hb1⟩
    replace h1 := (h1.on hb1).box [.int .i64 p, .int .i64 m, .slice A T.length c] 69
    clear z0 z1 z2 hb1
    obtain ⟨z0, z1, z2⟩ := h1.box3 1 rfl
    go_wp2_with fail
    refine (HU.out _).mono ?_
    rintro (e : Ending) w2 ⟨u, rfl, ho2, hb2⟩
    obtain ⟨A6, c6, rfl, _, _, _⟩ := id ho2.ints
    have h2 := ((h1.pushOwn hb2 ho2).box [.int .i64 p, .int .i64 m, .int .i64 m, .slice A6 (unitD m).length c6] 33).swap2
    clear ho2 hb2 z0 z1 z2
    obtain ⟨x0, x1, x2, x3⟩ := h2.box4 1 rfl
    obtain ⟨z0, z1, z2⟩ := h2.box3 3 rfl
    go_wp2_with fail
    refine (seriesU_st p m 4 2 1 0 _ _ _ _ T h2 rfl rfl rfl rfl KT.out k1 k6 k3).mono ?_
    rintro (e : Ending) w3 ⟨u3, us, rfl, hul, h3⟩
    go_wp2
    go_ret
    rw [HG.out] at hul h3
    exact ⟨_, us, rfl, hul, h3.at 0 rfl, h3.vecNodup 0 rfl, h3.below⟩
  · have b1 : algOk p n T = false := by simpa using b1
    rw [upMod_no b1]
    go_enter Try.func28, Try.ntmps28
    go_wp2_with fail
    refine (AlgebraOkI_any p n _ T _ (h1.roInts 1 rfl) hp).mono ?_
    rintro e wn ⟨rfl, hb1⟩
    replace h1 := h1.on hb1
    clear hb1
    go_wp2
    go_ret
    exact RetMs.nil h1.below
end Go.Proofs.Ytcdbgcpccmcbeaa
