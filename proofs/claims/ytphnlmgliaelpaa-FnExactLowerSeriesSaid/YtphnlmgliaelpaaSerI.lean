/- The program's series of an algebra. -/
import Derived.Test.YtphnlmgliaelpaaSerS
namespace Go.Proofs.Ytphnlmgliaelpaa
set_option maxRecDepth 100000
open Go.RowKit

/-- Three cells of a block. -/
def At3 (w : World) (b : Nat) (x y z : Value) : Prop := w.cell? ⟨b, 0, none⟩ = some x ∧ w.cell? ⟨b, 1, none⟩ = some y ∧ w.cell? ⟨b, 2, none⟩ = some z
def At4 (w : World) (b : Nat) (x y z u : Value) : Prop := w.cell? ⟨b, 0, none⟩ = some x ∧ w.cell? ⟨b, 1, none⟩ = some y ∧ w.cell? ⟨b, 2, none⟩ = some z ∧ w.cell? ⟨b, 3, none⟩ = some u
theorem cell_kept {w w' : World} (hk : ∀ b, b < w.heap.size → w'.heap[b]? = w.heap[b]?) {a : Addr} {x : Value} (h : w.cell? a = some x) : w'.cell? a = some x := (World.cell?_of_block (hk _ (World.block_lt_of_cell? w _ h))).trans h
theorem At3.fact {w : World} {b : Nat} {x y z : Value} (h : At3 w b x y z) : It.ok w.heap.size w (.fact fun w' => At3 w' b x y z) := fun _ hk => ⟨cell_kept hk h.1, cell_kept hk h.2.1, cell_kept hk h.2.2⟩
theorem At4.fact {w : World} {b : Nat} {x y z u : Value} (h : At4 w b x y z u) : It.ok w.heap.size w (.fact fun w' => At4 w' b x y z u) := fun _ hk => ⟨cell_kept hk h.1, cell_kept hk h.2.1, cell_kept hk h.2.2.1, cell_kept hk h.2.2.2⟩

set_option maxHeartbeats 4000000 in
theorem derNext_any (p q : Int) (n bx : Nat) (t s : Value) (T : List Int) (R : List (List Int)) (w : World) (hc : At3 w bx (.int .i64 p) (.int .i64 n) t) (ht : Ints w t T) (hs : Ints w s (flat n R)) (hT : T.length = n * n * n) (hn : n ≤ 28) (hP : isPrime p = true) (rT : resid p T = true) (hR : SerOk false T n p R) :
    Calls Try.prog 101 #[.agg #[.int .i64 q, .int .i64 R.length, .int .i64 n, s], .pointer (some ⟨bx, 0, none⟩)] w (RetMat w p (stepS false T n p R).length n (flat n (stepS false T n p R))) := by
  have b1 := (isPrime_bd hP).1
  have hRn := hR.le_n b1
  have h1 := (((((St.start w).arg ht).arg hs).pushOld hc.fact).box [.int .i64 q, .int .i64 R.length, .int .i64 n, s] 32).box [.int .i64 0, .int .i64 0, .int .i64 0, .slice none 0 0] 32
  simp only [World.size_alloc] at h1
  have hst : stepS false T n p R = spanL p n (prodL T n p R.length (flat n R) R.length (flat n R)) := rfl
  have HP := product_any p q q n R.length R.length _ _ _ T (flat n R) (flat n R) _ (h1.roInts 4 rfl) (h1.roInts 3 rfl) (h1.roInts 3 rfl) hT (length_flat n R) (length_flat n R) hn (by omega) (by omega) hP rT (resid_flat (by omega) hR.wf) (resid_flat (by omega) hR.wf)
  change Calls _ _ _ _ (RetMat _ p (spanL p n (prodL T n p R.length (flat n R) R.length (flat n R))).length n (flat n (spanL p n (prodL T n p R.length (flat n R) R.length (flat n R))))) at HP
  rw [← hst] at HP
  obtain ⟨R2, hR2⟩ : ∃ R2, R2 = stepS false T n p R := ⟨_, rfl⟩
  rw [← hR2] at HP ⊢
  replace HP := Lib.hid HP
  clear hT
  obtain ⟨A, k, rfl, _, _, _⟩ := id ht
  obtain ⟨A1, k1, rfl, _, _, _⟩ := id hs
  clear hst hR2 hR ht hs hc
  obtain ⟨z0, z1, z2⟩ := h1.fact 2 rfl
  obtain ⟨y0, y1, y2, y3⟩ := h1.box4 1 rfl
  go_enter Try.func101, Try.ntmps101
  go_wp2_with fail
  refine HP.out.mono ?_
  rintro (e : Ending) w5 ⟨u, rfl, ho, hb5⟩
  obtain ⟨A7, c7, rfl, _, _, _⟩ := id ho.ints
  have h2 := h1.pushOwn hb5 ho
  clear y0 y1 y2 y3 z0 z1 z2
  obtain ⟨v0, v1, v2, v3⟩ := h2.box4 1 rfl
  have f0 := h2.free 1 rfl 0
  have f1 := h2.free 1 rfl 1
  have f2 := h2.free 1 rfl 2
  have f3 := h2.free 1 rfl 3
  have h4 := (((h2.setBox 1 rfl 0 (.int .i64 p)).setBox 1 rfl 1 (.int .i64 R2.length)).setBox 1 rfl 2 (.int .i64 n)).setBox 1 rfl 3 (.slice A7 (flat n R2).length c7)
  obtain ⟨r0, r1, r2, r3⟩ := h4.box4 1 rfl
  go_wp2
  refine bodyPost_ret (v := .agg #[.int .i64 p, .int .i64 R2.length, .int .i64 n, .slice A7 (flat n R2).length c7]) (by simp [results, Try.results101, go_sem, r0, r1, r2, r3]) rfl ⟨_, rfl, h4.own 0 rfl, h4.below⟩

set_option maxHeartbeats 4000000 in
theorem lowNext_any (p q q2 : Int) (n bx by' : Nat) (t s u : Value) (T : List Int) (R : List (List Int)) (w : World) (hc : At3 w bx (.int .i64 p) (.int .i64 n) t) (hc2 : At4 w by' (.int .i64 q2) (.int .i64 n) (.int .i64 n) u) (ht : Ints w t T) (hu : Ints w u (unitD n)) (hs : Ints w s (flat n R)) (hT : T.length = n * n * n) (hn : n ≤ 28) (hP : isPrime p = true) (rT : resid p T = true) (hR : SerOk true T n p R) :
    Calls Try.prog 102 #[.agg #[.int .i64 q, .int .i64 R.length, .int .i64 n, s], .pointer (some ⟨bx, 0, none⟩), .pointer (some ⟨by', 0, none⟩)] w (RetMat w p (stepS true T n p R).length n (flat n (stepS true T n p R))) := by
  have b1 := (isPrime_bd hP).1
  have hRn := hR.le_n b1
  have h1 := (((((((St.start w).arg ht).arg hs).arg hu).pushOld hc.fact).pushOld hc2.fact).box [.int .i64 q, .int .i64 R.length, .int .i64 n, s] 32).box [.int .i64 0, .int .i64 0, .int .i64 0, .slice none 0 0] 32
  simp only [World.size_alloc] at h1
  have hst := stepS_low T n p R
  have HP := product_any p q2 q n n R.length _ _ _ T (unitD n) (flat n R) _ (h1.roInts 6 rfl) (h1.roInts 4 rfl) (h1.roInts 5 rfl) hT (length_unitD n) (length_flat n R) hn (by omega) (by omega) hP rT (resid_unitD b1 n) (resid_flat (by omega) hR.wf)
  change Calls _ _ _ _ (RetMat _ p (spanL p n (prodL T n p n (unitD n) R.length (flat n R))).length n (flat n (spanL p n (prodL T n p n (unitD n) R.length (flat n R))))) at HP
  rw [← hst] at HP
  obtain ⟨R2, hR2⟩ : ∃ R2, R2 = stepS true T n p R := ⟨_, rfl⟩
  rw [← hR2] at HP ⊢
  replace HP := Lib.hid HP
  clear hT
  obtain ⟨A, k, rfl, _, _, _⟩ := id ht
  obtain ⟨A1, k1, rfl, _, _, _⟩ := id hs
  obtain ⟨A2, k2, rfl, _, _, _⟩ := id hu
  clear hst hR2 hR ht hs hc hc2 hu
  obtain ⟨z0, z1, z2⟩ := h1.fact 3 rfl
  obtain ⟨x0, x1, x2, x3⟩ := h1.fact 2 rfl
  obtain ⟨y0, y1, y2, y3⟩ := h1.box4 1 rfl
  go_enter Try.func102, Try.ntmps102
  go_wp2_with fail
  refine HP.out.mono ?_
  rintro (e : Ending) w5 ⟨u, rfl, ho, hb5⟩
  obtain ⟨A7, c7, rfl, _, _, _⟩ := id ho.ints
  have h2 := h1.pushOwn hb5 ho
  clear y0 y1 y2 y3 z0 z1 z2
  obtain ⟨v0, v1, v2, v3⟩ := h2.box4 1 rfl
  have f0 := h2.free 1 rfl 0
  have f1 := h2.free 1 rfl 1
  have f2 := h2.free 1 rfl 2
  have f3 := h2.free 1 rfl 3
  have h4 := (((h2.setBox 1 rfl 0 (.int .i64 p)).setBox 1 rfl 1 (.int .i64 R2.length)).setBox 1 rfl 2 (.int .i64 n)).setBox 1 rfl 3 (.slice A7 (flat n R2).length c7)
  obtain ⟨r0, r1, r2, r3⟩ := h4.box4 1 rfl
  go_wp2
  refine bodyPost_ret (v := .agg #[.int .i64 p, .int .i64 R2.length, .int .i64 n, .slice A7 (flat n R2).length c7]) (by simp [results, Try.results102, go_sem, r0, r1, r2, r3]) rfl ⟨_, rfl, h4.own 0 rfl, h4.below⟩

/-- The cells of one matrix of a slice of the call's own. -/
theorem St.matAt {w0 w : World} {L : List It} (h : St w0 w L) (i : Nat) {g q c : Nat} {u : Value} {us : List Value} {ms : List Mt} {m : Mt} (hi : L[i]? = some (matsIt (.slice (some ⟨g, 0, none⟩) q c) us ms)) (hq : ms.length = q) (j : Nat) (hu : us[j]? = some u) (hm : ms[j]? = some m) :
    w.cell? ⟨g, j * 4, none⟩ = some (.int .i64 m.p) ∧ w.cell? ⟨g, j * 4 + 1, none⟩ = some (.int .i64 m.r) ∧ w.cell? ⟨g, j * 4 + 2, none⟩ = some (.int .i64 m.c) ∧ w.cell? ⟨g, j * 4 + 3, none⟩ = some u := by
  subst hq
  obtain ⟨k0, k1, k2, k3⟩ := matCells_get us ms j u m hu hm
  exact ⟨h.vecCell i hi _ k0, h.vecCell i hi _ k1, h.vecCell i hi _ k2, h.vecCell i hi _ k3⟩

set_option maxHeartbeats 4000000 in
theorem seriesD_st {w0 w : World} {L : List It} (p : Int) (n k kx bx : Nat) (v t : Value) (T : List Int) (h : St w0 w (.own v (unitD n) :: L)) (hk : L[k]? = some (.ro t T)) (hx : L[kx]? = some (.box bx [.int .i64 p, .int .i64 n, t])) (hT : T.length = n * n * n) (hn : n ≤ 28) (hP : isPrime p = true) (rT : resid p T = true) :
    Calls Try.prog 99 #[.agg #[.int .i64 p, .int .i64 n, .int .i64 n, v], .func (.func 101) #[] #[.pointer (some ⟨bx, 0, none⟩)]] w
      fun e w' => ∃ u us, e = .returned u ∧ us.length = (serMs p n (serL false T n p)).length ∧ St w0 w' (matsIt u us (serMs p n (serL false T n p)) :: L) := by
  have b1 := (isPrime_bd hP).1
  have hs := SerAt.start false T n hP
  obtain ⟨G, hG⟩ : ∃ G, G = serMs p n (serL false T n p) := ⟨_, rfl⟩
  rw [← hG]
  obtain ⟨A, c0, rfl, _, _, _⟩ := id (h.ro (k + 1) (by simpa using hk)).ints
  obtain ⟨A1, c1, rfl, _, _, _⟩ := id (h.ownInts 0 rfl)
  have h1 := (h.box [.int .i64 p, .int .i64 n, .int .i64 n, .slice A1 (unitD n).length c1] 32).swap2
  obtain ⟨z0, z1, z2, z3⟩ := h1.box4 1 rfl
  replace h1 := h1.litMat p n n
  simp only [World.size_alloc] at h1
  rw [← spMt_uni] at h1
  have HS : Hid (SerRun false T n p [] (uniR n) G) := ⟨hs, hG⟩
  have hfl := flat_uniR n
  have hlu := length_uniR n
  have HT := Lib.hid hT
  clear h hs hG hT
  go_enter Try.func99, Try.ntmps99
  go_wp2
  clear z0 z1 z2 z3
  go_loopg [5] n (fun gk v5 wr => ∃ (pre : List (List (List Int))) (R : List (List Int)) (us : List Value) (Ad : Option Addr) (cd : Nat), Hid (R.length = gk) ∧ Hid (SerRun false T n p pre R G) ∧ Hid (us.length = pre.length) ∧ Hid ((us ++ [.slice Ad (flat n R).length cd])[0]? = some (.slice A1 (unitD n).length c1)) ∧ Hid ((serMs p n pre ++ [spMt p n R])[0]? = some (spMt p n (uniR n))) ∧ St w0 wr (matsIt v5 (us ++ [.slice Ad (flat n R).length cd]) (serMs p n pre ++ [spMt p n R]) :: .box w.heap.size [.int .i64 p, .int .i64 n, .int .i64 n, .slice A1 (unitD n).length c1] :: L))
  case atStart => exact ⟨[], uniR n, [], A1, c1, hlu, HS, rfl, by show _ = _; rw [hfl]; rfl, rfl, by rw [hfl]; exact h1⟩
  case round =>
    clear h1 HS hfl hlu
    obtain ⟨pre, R, us, Ad, cd, hlg, HR, Hul, HF, HF2, h1⟩ := hrel
    have hok := HR.out.1.ok
    have hRn := hok.le_n b1
    have hRW := hok.wf
    have hpl := HR.out.1.len
    have hlu2 : (us ++ [Value.slice Ad (flat n R).length cd]).length = (serMs p n pre ++ [spMt p n R]).length := by rw [List.length_append, List.length_append, length_serMs, Hul.out]; rfl
    have hl1 : (serMs p n pre ++ [spMt p n R]).length + 1 ≤ 1099511627776 := by rw [List.length_append, length_serMs, List.length_singleton]; omega
    obtain ⟨A5, c5, rfl, _, _, _⟩ := id (h1.mats 0 rfl hlu2)
    obtain ⟨q, hq⟩ : ∃ q, q = (serMs p n pre ++ [spMt p n R]).length := ⟨_, rfl⟩
    rw [← hq] at h1 ⊢
    obtain ⟨j, hj⟩ : ∃ j, j = pre.length := ⟨_, rfl⟩
    have hqj : q = j + 1 := by rw [hq, hj, List.length_append, length_serMs]; rfl
    obtain ⟨g, rfl⟩ := h1.vecSome 0 rfl (by rw [← hq]; omega)
    have huj : (us ++ [Value.slice Ad (flat n R).length cd])[j]? = some (.slice Ad (flat n R).length cd) := by rw [hj, ← Hul.out]; simp
    have hmj : (serMs p n pre ++ [spMt p n R])[j]? = some (spMt p n R) := by rw [hj, ← length_serMs p n pre]; simp
    obtain ⟨x0, x1, x2, x3⟩ := h1.matAt 0 rfl hq.symm j huj hmj
    change wr.cell? _ = some (.int .i64 p) at x0
    change wr.cell? _ = some (.int .i64 R.length) at x1
    change wr.cell? _ = some (.int .i64 n) at x2
    have h2 := h1.box [.int .i64 p, .int .i64 R.length, .int .i64 n, .slice Ad (flat n R).length cd] 32
    have hin := h2.matInts 1 rfl j huj hmj
    have hti := (h2.ro (k + 3) (by simpa using hk)).ints
    have hbx := h2.box3 (kx + 3) (by simpa using hx)
    have hle := hok.le hP
    have HP := derNext_any p p n bx _ _ T R _ hbx hti hin HT.out hn hP rT hok
    obtain ⟨R2, hR2⟩ : ∃ R2, R2 = stepS false T n p R := ⟨_, rfl⟩
    rw [← hR2] at HP hle
    obtain ⟨l2, hl2⟩ : ∃ l2, l2 = R2.length := ⟨_, rfl⟩
    rw [← hl2] at HP hle
    replace HP := Lib.hid HP
    have Hl2 := Lib.hid hl2
    clear hl2
    have Hlu2 := Lib.hid hlu2
    have Hl1 := Lib.hid hl1
    have HR2 := Lib.hid hR2
    have hw : IntKind.i64.wrap ((q : Int) - 1) = (j : Int) := by rw [wrap_ok (by omega) (by omega)]; omega
    have i1 : (j : Int) < q := by omega
    have i2 : (0 : Int) < q := by omega
    have Hq := Lib.hid hq
    have Hj := Lib.hid hj
    have Hqj := Lib.hid hqj
    clear hok hRW hpl hlu2 hl1 hR2 hin hti hbx huj hmj hq hj hqj
    obtain ⟨y0, y1, y2, y3⟩ := h2.box4 0 rfl
    go_wp2_with fail
    refine HP.out.mono ?_
    rintro (e : Ending) w5 ⟨u, rfl, ho, hb5⟩
    obtain ⟨A7, c7, rfl, _, _, _⟩ := id ho.ints
    have h3 := h2.pushOwn hb5 ho
    have h4 := (h3.box [.int .i64 p, .int .i64 l2, .int .i64 n, .slice A7 (flat n R2).length c7] 32).swap2
    clear x0 x1 x2 x3 y0 y1 y2 y3 ho hb5 h1 h2 h3 hw
    obtain ⟨x0, x1, x2, x3⟩ := h4.box4 1 rfl
    obtain ⟨z0, z1, z2, z3⟩ := h4.box4 2 rfl
    by_cases he : l2 = R.length
    · subst he
      go_wp2
      go_ret
      have hh := HR.out
      have hst := hh.1.stop (by rw [← HR2.out, ← Hl2.out])
      rw [hh.2, ← hst, serMs_app]
      exact ⟨_, _, rfl, Hlu2.out, (((h4.erase 4).erase 2).erase 1).erase 0⟩
    · obtain rfl := Hl2.out
      have e1 : ((R2.length : Int) == (R.length : Int)) = false := by rw [beq_eq_false_iff_ne]; omega
      have e2 : ¬ ((R2.length : Int) = (R.length : Int)) := by omega
      go_wp2_with (at_builtin; refine wp_append_mat rfl (.tmp 25) (.tmp 27) rfl (spMt p n R2) h4 2 rfl Hlu2.out rfl (by simp only [World.size_alloc]; rfl) Hl1.out ?_; intro v1 w6 h5)
      have hh := HR.out
      have hnx := hh.1.next hP (by rw [← HR2.out]; exact he)
      rw [← HR2.out] at hnx
      go_roundg R2.length
      case measure => have := hlg.out; omega
      case rel => exact ⟨pre ++ [R], R2, us ++ [Value.slice Ad (flat n R).length cd], A7, c7, by show _ = _; rfl, ⟨hnx.1, hh.2⟩, by show _ = _; rw [List.length_append, List.length_append, Hul.out]; rfl, by show _ = _; rw [List.getElem?_append_left (by simp)]; exact HF.out, by show _ = _; rw [serMs_app, List.getElem?_append_left (by simp)]; exact HF2.out, by rw [serMs_app]; exact (h5.erase 0).erase 0⟩

set_option maxHeartbeats 4000000 in
theorem seriesL_st {w0 w : World} {L : List It} (p : Int) (n k kx ky bx by' : Nat) (v t : Value) (T : List Int) (h : St w0 w (.own v (unitD n) :: L)) (hk : L[k]? = some (.ro t T)) (hx : L[kx]? = some (.box bx [.int .i64 p, .int .i64 n, t])) (hy : L[ky]? = some (.box by' [.int .i64 p, .int .i64 n, .int .i64 n, v])) (hT : T.length = n * n * n) (hn : n ≤ 28) (hP : isPrime p = true) (rT : resid p T = true) :
    Calls Try.prog 99 #[.agg #[.int .i64 p, .int .i64 n, .int .i64 n, v], .func (.func 102) #[] #[.pointer (some ⟨bx, 0, none⟩), .pointer (some ⟨by', 0, none⟩)]] w
      fun e w' => ∃ u us, e = .returned u ∧ us.length = (serMs p n (serL true T n p)).length ∧ St w0 w' (matsIt u us (serMs p n (serL true T n p)) :: L) := by
  have b1 := (isPrime_bd hP).1
  have hs := SerAt.start true T n hP
  obtain ⟨G, hG⟩ : ∃ G, G = serMs p n (serL true T n p) := ⟨_, rfl⟩
  rw [← hG]
  obtain ⟨A, c0, rfl, _, _, _⟩ := id (h.ro (k + 1) (by simpa using hk)).ints
  obtain ⟨A1, c1, rfl, _, _, _⟩ := id (h.ownInts 0 rfl)
  have h1 := (h.box [.int .i64 p, .int .i64 n, .int .i64 n, .slice A1 (unitD n).length c1] 32).swap2
  obtain ⟨z0, z1, z2, z3⟩ := h1.box4 1 rfl
  replace h1 := h1.litMat p n n
  simp only [World.size_alloc] at h1
  rw [← spMt_uni] at h1
  have HS : Hid (SerRun true T n p [] (uniR n) G) := ⟨hs, hG⟩
  have hfl := flat_uniR n
  have hlu := length_uniR n
  have HT := Lib.hid hT
  clear h hs hG hT
  go_enter Try.func99, Try.ntmps99
  go_wp2
  clear z0 z1 z2 z3
  go_loopg [5] n (fun gk v5 wr => ∃ (pre : List (List (List Int))) (R : List (List Int)) (us : List Value) (Ad : Option Addr) (cd : Nat), Hid (R.length = gk) ∧ Hid (SerRun true T n p pre R G) ∧ Hid (us.length = pre.length) ∧ Hid ((us ++ [.slice Ad (flat n R).length cd])[0]? = some (.slice A1 (unitD n).length c1)) ∧ Hid ((serMs p n pre ++ [spMt p n R])[0]? = some (spMt p n (uniR n))) ∧ St w0 wr (matsIt v5 (us ++ [.slice Ad (flat n R).length cd]) (serMs p n pre ++ [spMt p n R]) :: .box w.heap.size [.int .i64 p, .int .i64 n, .int .i64 n, .slice A1 (unitD n).length c1] :: L))
  case atStart => exact ⟨[], uniR n, [], A1, c1, hlu, HS, rfl, by show _ = _; rw [hfl]; rfl, rfl, by rw [hfl]; exact h1⟩
  case round =>
    clear h1 HS hfl hlu
    obtain ⟨pre, R, us, Ad, cd, hlg, HR, Hul, HF, HF2, h1⟩ := hrel
    have hok := HR.out.1.ok
    have hRn := hok.le_n b1
    have hRW := hok.wf
    have hpl := HR.out.1.len
    have hlu2 : (us ++ [Value.slice Ad (flat n R).length cd]).length = (serMs p n pre ++ [spMt p n R]).length := by rw [List.length_append, List.length_append, length_serMs, Hul.out]; rfl
    have hl1 : (serMs p n pre ++ [spMt p n R]).length + 1 ≤ 1099511627776 := by rw [List.length_append, length_serMs, List.length_singleton]; omega
    obtain ⟨A5, c5, rfl, _, _, _⟩ := id (h1.mats 0 rfl hlu2)
    obtain ⟨q, hq⟩ : ∃ q, q = (serMs p n pre ++ [spMt p n R]).length := ⟨_, rfl⟩
    rw [← hq] at h1 ⊢
    obtain ⟨j, hj⟩ : ∃ j, j = pre.length := ⟨_, rfl⟩
    have hqj : q = j + 1 := by rw [hq, hj, List.length_append, length_serMs]; rfl
    obtain ⟨g, rfl⟩ := h1.vecSome 0 rfl (by rw [← hq]; omega)
    have huj : (us ++ [Value.slice Ad (flat n R).length cd])[j]? = some (.slice Ad (flat n R).length cd) := by rw [hj, ← Hul.out]; simp
    have hmj : (serMs p n pre ++ [spMt p n R])[j]? = some (spMt p n R) := by rw [hj, ← length_serMs p n pre]; simp
    obtain ⟨x0, x1, x2, x3⟩ := h1.matAt 0 rfl hq.symm j huj hmj
    change wr.cell? _ = some (.int .i64 p) at x0
    change wr.cell? _ = some (.int .i64 R.length) at x1
    change wr.cell? _ = some (.int .i64 n) at x2
    have h2 := h1.box [.int .i64 p, .int .i64 R.length, .int .i64 n, .slice Ad (flat n R).length cd] 32
    have hin := h2.matInts 1 rfl j huj hmj
    have hti := (h2.ro (k + 3) (by simpa using hk)).ints
    have hbx := h2.box3 (kx + 3) (by simpa using hx)
    have hby := h2.box4 (ky + 3) (by simpa using hy)
    have hui := h2.matInts 1 rfl 0 HF.out HF2.out
    change Ints _ _ (flat n (uniR n)) at hui
    rw [flat_uniR] at hui
    have hle := hok.le hP
    have HP := lowNext_any p p p n bx by' _ _ _ T R _ hbx hby hti hui hin HT.out hn hP rT hok
    obtain ⟨R2, hR2⟩ : ∃ R2, R2 = stepS true T n p R := ⟨_, rfl⟩
    rw [← hR2] at HP hle
    obtain ⟨l2, hl2⟩ : ∃ l2, l2 = R2.length := ⟨_, rfl⟩
    rw [← hl2] at HP hle
    replace HP := Lib.hid HP
    have Hl2 := Lib.hid hl2
    clear hl2
    have Hlu2 := Lib.hid hlu2
    have Hl1 := Lib.hid hl1
    have HR2 := Lib.hid hR2
    have hw : IntKind.i64.wrap ((q : Int) - 1) = (j : Int) := by rw [wrap_ok (by omega) (by omega)]; omega
    have i1 : (j : Int) < q := by omega
    have i2 : (0 : Int) < q := by omega
    have Hq := Lib.hid hq
    have Hj := Lib.hid hj
    have Hqj := Lib.hid hqj
    clear hok hRW hpl hlu2 hl1 hR2 hin hti hbx huj hmj hq hj hqj hby hui
    obtain ⟨y0, y1, y2, y3⟩ := h2.box4 0 rfl
    go_wp2_with fail
    refine HP.out.mono ?_
    rintro (e : Ending) w5 ⟨u, rfl, ho, hb5⟩
    obtain ⟨A7, c7, rfl, _, _, _⟩ := id ho.ints
    have h3 := h2.pushOwn hb5 ho
    have h4 := (h3.box [.int .i64 p, .int .i64 l2, .int .i64 n, .slice A7 (flat n R2).length c7] 32).swap2
    clear x0 x1 x2 x3 y0 y1 y2 y3 ho hb5 h1 h2 h3 hw
    obtain ⟨x0, x1, x2, x3⟩ := h4.box4 1 rfl
    obtain ⟨z0, z1, z2, z3⟩ := h4.box4 2 rfl
    by_cases he : l2 = R.length
    · subst he
      go_wp2
      go_ret
      have hh := HR.out
      have hst := hh.1.stop (by rw [← HR2.out, ← Hl2.out])
      rw [hh.2, ← hst, serMs_app]
      exact ⟨_, _, rfl, Hlu2.out, (((h4.erase 4).erase 2).erase 1).erase 0⟩
    · obtain rfl := Hl2.out
      have e1 : ((R2.length : Int) == (R.length : Int)) = false := by rw [beq_eq_false_iff_ne]; omega
      have e2 : ¬ ((R2.length : Int) = (R.length : Int)) := by omega
      go_wp2_with (at_builtin; refine wp_append_mat rfl (.tmp 25) (.tmp 27) rfl (spMt p n R2) h4 2 rfl Hlu2.out rfl (by simp only [World.size_alloc]; rfl) Hl1.out ?_; intro v1 w6 h5)
      have hh := HR.out
      have hnx := hh.1.next hP (by rw [← HR2.out]; exact he)
      rw [← HR2.out] at hnx
      go_roundg R2.length
      case measure => have := hlg.out; omega
      case rel => exact ⟨pre ++ [R], R2, us ++ [Value.slice Ad (flat n R).length cd], A7, c7, by show _ = _; rfl, ⟨hnx.1, hh.2⟩, by show _ = _; rw [List.length_append, List.length_append, Hul.out]; rfl, by show _ = _; rw [List.getElem?_append_left (by simp)]; exact HF.out, by show _ = _; rw [serMs_app, List.getElem?_append_left (by simp)]; exact HF2.out, by rw [serMs_app]; exact (h5.erase 0).erase 0⟩
end Go.Proofs.Ytphnlmgliaelpaa
