/- The reference's series of an algebra. -/
import Derived.Test.YtcdbgcpccmcbeaaSpaceA
import Derived.Test.YtcdbgcpccmcbeaaArith
namespace Go.Proofs.Ytcdbgcpccmcbeaa
set_option maxRecDepth 100000
open Go.RowKit

/-- A piece goes to the front. -/
theorem St.front {w0 w : World} {L : List It} (h : St w0 w L) (i : Nat) {x : It} (hi : L[i]? = some x) : St w0 w (x :: L.eraseIdx i) := by
  have hil := (List.getElem?_eq_some_iff.1 hi).1
  have key : ∀ (j : Nat) (z : It), (x :: L.eraseIdx i)[j]? = some z → L[if j = 0 then i else if j - 1 < i then j - 1 else j]? = some z := fun j z hz => by
    cases j with
    | zero => simpa [hi] using hz
    | succ j =>
      rw [List.getElem?_cons_succ, List.getElem?_eraseIdx] at hz
      simp only [Nat.add_sub_cancel, Nat.succ_ne_zero, if_false]
      split
      · rename_i e; rw [if_pos e] at hz; exact hz
      · rename_i e; rw [if_neg e] at hz; exact hz
  refine ⟨h.below, fun z hz => ?_, fun j k a b ha hb c h1 h2 => ?_, fun z hz => ?_⟩
  · obtain ⟨j, hj⟩ := List.getElem?_of_mem hz
    exact h.at _ (key j z hj)
  · have e := h.apart _ _ a b (key j a ha) (key k b hb) c h1 h2
    split at e <;> split at e <;> (try split at e) <;> (try split at e) <;> omega
  · obtain ⟨j, hj⟩ := List.getElem?_of_mem hz
    exact h.vecNodup _ (key j z hj)
/-- A piece is let go. -/
theorem St.erase {w0 w : World} {L : List It} (h : St w0 w L) (i : Nat) : St w0 w (L.eraseIdx i) := by
  by_cases hi : i < L.length
  · exact (h.front i (List.getElem?_eq_getElem hi)).drop 1
  · rw [List.eraseIdx_of_length_le (by omega)]; exact h
/-- A slice of one matrix, written out: the matrix's numbers go over to it. -/
theorem St.litMat {w0 w : World} {L : List It} {u : Value} {D : List Int} (h : St w0 w (.own u D :: L)) (p r c : Int) :
    St w0 (w.alloc (.cells #[.int .i64 p, .int .i64 r, .int .i64 c, u] 33)) (matsIt (.slice (some ⟨w.heap.size, 0, none⟩) 1 1) [u] [⟨p, r, c, D⟩] :: L) := by
  have h2 : St w0 (w.alloc (.cells #[.int .i64 p, .int .i64 r, .int .i64 c, u] 33)) (.vec (.slice (some ⟨w.heap.size, 0, none⟩) 1 1) 33 4 1 [.int .i64 p, .int .i64 r, .int .i64 c, u] [] :: .own u D :: L) :=
    h.push ((Below.refl _ _).alloc (Nat.le_refl _) _) ⟨World.ownsRow_lit (base := w0.heap.size) (e := 33) (size := 4) w #[.int .i64 p, .int .i64 r, .int .i64 c, u] 1 h.size (by simp [maxLen]) rfl, fun s hs => by cases hs⟩ (fun b hb => by simp [It.fp, Value.ownBlock] at hb; omega) (by simp [It.fp, Value.ownBlock])
  exact h2.swap2.absorb 0 rfl
/-- One matrix's numbers in a slice of the call's own. -/
theorem St.matInts {w0 w : World} {L : List It} (h : St w0 w L) (i : Nat) {v u : Value} {us : List Value} {ms : List Mt} {m : Mt} (hi : L[i]? = some (matsIt v us ms)) (j : Nat) (hu : us[j]? = some u) (hm : ms[j]? = some m) : Ints w u m.d :=
  Own.ints ((h.at i hi).2 (u, m.d) (List.mem_of_getElem? (zip_get hu (by rw [List.getElem?_map, hm]; rfl))))
theorem serMs_app (p : Int) (n : Nat) (pre : List (List (List Int))) (R : List (List Int)) : serMs p n (pre ++ [R]) = serMs p n pre ++ [spMt p n R] := by simp [serMs]
theorem length_serMs (p : Int) (n : Nat) (l : List (List (List Int))) : (serMs p n l).length = l.length := by simp [serMs]
theorem spMt_uni (p : Int) (n : Nat) : spMt p n (uniR n) = ⟨p, n, n, unitD n⟩ := by rw [spMt, length_uniR, flat_uniR]
theorem stepS_len {k : Bool} {T : List Int} {n : Nat} {p : Int} (hP : isPrime p = true) {R : List (List Int)} (h : SerOk k T n p R) : (stepS k T n p R).length ≤ n := (h.next hP).le_n (isPrime_bd hP).1

/-- What is left of a run of a series' loop. -/
def SerRun (k : Bool) (T : List Int) (n : Nat) (p : Int) (pre : List (List (List Int))) (R : List (List Int)) (G : List Mt) : Prop := SerAt k T n p pre R ∧ G = serMs p n (serL k T n p)

theorem stepS_low (T : List Int) (n : Nat) (p : Int) (R : List (List Int)) : stepS true T n p R = spanL p n (prodL T n p n (unitD n) R.length (flat n R)) := by
  show spanL p n (brR T n p (uniR n) R) = _
  rw [brR, length_uniR, flat_uniR]

set_option maxHeartbeats 4000000 in
theorem l3Series0_st {w0 w : World} {L : List It} (p : Int) (n k : Nat) (v t : Value) (T : List Int) (h : St w0 w (.own v (unitD n) :: L)) (hk : L[k]? = some (.ro t T)) (hT : T.length = n * n * n) (hn : n ≤ 28) (hP : isPrime p = true) (rT : resid p T = true) :
    Calls Try.prog 82 #[.agg #[.int .i64 p, .int .i64 n, t], .agg #[.int .i64 p, .int .i64 n, .int .i64 n, v], .int .i64 0] w
      fun e w' => ∃ u us, e = .returned u ∧ us.length = (serMs p n (serL false T n p)).length ∧ St w0 w' (matsIt u us (serMs p n (serL false T n p)) :: L) := by
  have b1 := (isPrime_bd hP).1
  have hs := SerAt.start false T n hP
  obtain ⟨G, hG⟩ : ∃ G, G = serMs p n (serL false T n p) := ⟨_, rfl⟩
  rw [← hG]
  obtain ⟨A, c0, rfl, _, _, _⟩ := id (h.ro (k + 1) (by simpa using hk)).ints
  obtain ⟨A1, c1, rfl, _, _, _⟩ := id (h.ownInts 0 rfl)
  have h1 := ((h.box [.int .i64 p, .int .i64 n, .slice A T.length c0] 29).box [.int .i64 p, .int .i64 n, .int .i64 n, .slice A1 (unitD n).length c1] 33).front 2 rfl
  simp only [World.size_alloc] at h1
  obtain ⟨z0, z1, z2, z3⟩ := h1.box4 1 rfl
  replace h1 := h1.litMat p n n
  simp only [World.size_alloc] at h1
  change St w0 _ (matsIt _ _ [⟨p, n, n, unitD n⟩] :: .box (w.heap.size + 1) _ :: .box w.heap.size _ :: L) at h1
  rw [← spMt_uni] at h1
  have HG := Lib.hid hG
  have HS : Hid (SerRun false T n p [] (uniR n) G) := ⟨hs, hG⟩
  have hfl := flat_uniR n
  have hlu := length_uniR n
  have HT := Lib.hid hT
  clear h hs hG hT
  go_enter Try.func82, Try.ntmps82
  go_wp2
  clear z0 z1 z2 z3
  go_loopg [7] n (fun gk v7 wr => ∃ (pre : List (List (List Int))) (R : List (List Int)) (us : List Value) (Ad : Option Addr) (cd : Nat), Hid (R.length = gk) ∧ Hid (SerRun false T n p pre R G) ∧ Hid (us.length = pre.length) ∧ St w0 wr (matsIt v7 (us ++ [.slice Ad (flat n R).length cd]) (serMs p n pre ++ [spMt p n R]) :: .box (w.heap.size + 1) [.int .i64 p, .int .i64 R.length, .int .i64 n, .slice Ad (flat n R).length cd] :: .box w.heap.size [.int .i64 p, .int .i64 n, .slice A T.length c0] :: L))
  case atStart => exact ⟨[], uniR n, [], A1, c1, hlu, HS, rfl, by rw [hlu, hfl]; exact h1⟩
  case round =>
    clear h1 HS hfl hlu
    obtain ⟨pre, R, us, Ad, cd, hlg, HR, Hul, h1⟩ := hrel
    have hok := HR.out.1.ok
    have hRn := hok.le_n b1
    have hRW := hok.wf
    have h2 := h1.box [.int .i64 p, .int .i64 R.length, .int .i64 n, .slice Ad (flat n R).length cd] 33
    have hin := h2.matInts 1 rfl pre.length (u := .slice Ad (flat n R).length cd) (m := spMt p n R) (by rw [← Hul.out]; simp) (by rw [← length_serMs p n pre]; simp)
    have hti := (h2.ro (k + 4) (by simpa using hk)).ints
    have hpl := HR.out.1.len
    have hlu2 : (us ++ [Value.slice Ad (flat n R).length cd]).length = (serMs p n pre ++ [spMt p n R]).length := by rw [List.length_append, List.length_append, length_serMs, Hul.out]; rfl
    have hl1 : (serMs p n pre ++ [spMt p n R]).length + 1 ≤ 1099511627776 := by rw [List.length_append, length_serMs, List.length_singleton]; omega
    have hst : stepS false T n p R = spanL p n (prodL T n p R.length (flat n R) R.length (flat n R)) := rfl
    have hle := hok.le hP
    have HP := l2Product_any p p p n R.length R.length _ _ _ T (flat n R) (flat n R) _ hti hin hin HT.out (length_flat n R) (length_flat n R) hn (by omega) (by omega) hP rT (resid_flat (by omega) hRW) (resid_flat (by omega) hRW)
    change Calls _ _ _ _ (RetMat _ p (spanL p n (prodL T n p R.length (flat n R) R.length (flat n R))).length n (flat n (spanL p n (prodL T n p R.length (flat n R) R.length (flat n R))))) at HP
    rw [← hst] at HP
    obtain ⟨R2, hR2⟩ : ∃ R2, R2 = stepS false T n p R := ⟨_, rfl⟩
    rw [← hR2] at HP hle
    obtain ⟨l2, hl2⟩ : ∃ l2, l2 = R2.length := ⟨_, rfl⟩
    rw [← hl2] at HP hle
    replace HP := Lib.hid HP
    have Hl2 := Lib.hid hl2
    clear hl2
    have Hlu2 := Lib.hid hlu2
    have Hl1 := Lib.hid hl1
    have HR2 := Lib.hid hR2
    clear hok hRW hpl hlu2 hl1 hR2 hst hin hti
    obtain ⟨v0, v1, v2, v3⟩ := h1.box4 1 rfl
    obtain ⟨z0, z1, z2, z3⟩ := h2.box4 2 rfl
    obtain ⟨y0, y1, y2⟩ := h2.box3 3 rfl
    go_wp2_with fail
    refine HP.out.mono ?_
    rintro (e : Ending) w5 ⟨u, rfl, ho, hb5⟩
    obtain ⟨A7, c7, rfl, _, _, _⟩ := id ho.ints
    have h3 := h2.pushOwn hb5 ho
    have f0 := h3.free 1 rfl 0
    have f1 := h3.free 1 rfl 1
    have f2 := h3.free 1 rfl 2
    have f3 := h3.free 1 rfl 3
    have h4 : St w0 _ (.own (.slice A7 (flat n R2).length c7) (flat n R2) :: .box wr.heap.size [.int .i64 p, .int .i64 l2, .int .i64 n, .slice A7 (flat n R2).length c7] :: matsIt _ (us ++ [.slice Ad (flat n R).length cd]) (serMs p n pre ++ [spMt p n R]) :: .box (w.heap.size + 1) [.int .i64 p, .int .i64 R.length, .int .i64 n, .slice Ad (flat n R).length cd] :: .box w.heap.size [.int .i64 p, .int .i64 n, .slice A T.length c0] :: L) := (((h3.setBox 1 rfl 0 (.int .i64 p)).setBox 1 rfl 1 (.int .i64 l2)).setBox 1 rfl 2 (.int .i64 n)).setBox 1 rfl 3 (.slice A7 (flat n R2).length c7)
    clear v0 v1 v2 v3 z0 z1 z2 z3 y0 y1 y2 ho hb5 h1 h2
    obtain ⟨v0, v1, v2, v3⟩ := h3.box4 1 rfl
    clear h3
    obtain ⟨x0, x1, x2, x3⟩ := h4.box4 1 rfl
    obtain ⟨z0, z1, z2, z3⟩ := h4.box4 3 rfl
    by_cases he : l2 = R.length
    · subst he
      go_wp2
      go_ret
      have hh := HR.out
      have hst := hh.1.stop (by rw [← HR2.out, ← Hl2.out])
      rw [hh.2, ← hst, serMs_app]
      exact ⟨_, _, rfl, Hlu2.out, (((h4.erase 4).erase 3).erase 1).erase 0⟩
    · obtain rfl := Hl2.out
      have e1 : ((R2.length : Int) == (R.length : Int)) = false := by rw [beq_eq_false_iff_ne]; omega
      have e2 : ¬ ((R2.length : Int) = (R.length : Int)) := by omega
      go_wp2_with (at_builtin; refine wp_append_mat rfl (.tmp 37) (.tmp 39) rfl (spMt p n R2) h4 1 rfl Hlu2.out rfl (by simp only [World.size_setCell]; rfl) Hl1.out ?_; intro v1 w6 h5; obtain ⟨q0, q1, q2, q3⟩ := h5.box4 0 rfl; obtain ⟨s0, s1, s2, s3⟩ := h5.box4 2 rfl; have g0 := h5.free 2 rfl 0; have g1 := h5.free 2 rfl 1; have g2 := h5.free 2 rfl 2; have g3 := h5.free 2 rfl 3)
      have h6 := (((h5.setBox 2 rfl 0 (.int .i64 p)).setBox 2 rfl 1 (.int .i64 R2.length)).setBox 2 rfl 2 (.int .i64 n)).setBox 2 rfl 3 (.slice A7 (flat n R2).length c7)
      have hh := HR.out
      have hnx := hh.1.next hP (by rw [← HR2.out]; exact he)
      rw [← HR2.out] at hnx
      go_roundg R2.length
      case measure => have := hlg.out; omega
      case rel => exact ⟨pre ++ [R], R2, us ++ [Value.slice Ad (flat n R).length cd], A7, c7, by show _ = _; rfl, ⟨hnx.1, hh.2⟩, by show _ = _; rw [List.length_append, List.length_append, Hul.out]; rfl, by rw [serMs_app]; exact h6.erase 0⟩

set_option maxHeartbeats 4000000 in
theorem l3Series1_st {w0 w : World} {L : List It} (p : Int) (n k : Nat) (v t : Value) (T : List Int) (h : St w0 w (.own v (unitD n) :: L)) (hk : L[k]? = some (.ro t T)) (hT : T.length = n * n * n) (hn : n ≤ 28) (hP : isPrime p = true) (rT : resid p T = true) :
    Calls Try.prog 82 #[.agg #[.int .i64 p, .int .i64 n, t], .agg #[.int .i64 p, .int .i64 n, .int .i64 n, v], .int .i64 1] w
      fun e w' => ∃ u us, e = .returned u ∧ us.length = (serMs p n (serL true T n p)).length ∧ St w0 w' (matsIt u us (serMs p n (serL true T n p)) :: L) := by
  have b1 := (isPrime_bd hP).1
  have hs := SerAt.start true T n hP
  obtain ⟨G, hG⟩ : ∃ G, G = serMs p n (serL true T n p) := ⟨_, rfl⟩
  rw [← hG]
  obtain ⟨A, c0, rfl, _, _, _⟩ := id (h.ro (k + 1) (by simpa using hk)).ints
  obtain ⟨A1, c1, rfl, _, _, _⟩ := id (h.ownInts 0 rfl)
  have h1 := ((h.box [.int .i64 p, .int .i64 n, .slice A T.length c0] 29).box [.int .i64 p, .int .i64 n, .int .i64 n, .slice A1 (unitD n).length c1] 33).front 2 rfl
  simp only [World.size_alloc] at h1
  obtain ⟨z0, z1, z2, z3⟩ := h1.box4 1 rfl
  replace h1 := h1.litMat p n n
  simp only [World.size_alloc] at h1
  change St w0 _ (matsIt _ _ [⟨p, n, n, unitD n⟩] :: .box (w.heap.size + 1) _ :: .box w.heap.size _ :: L) at h1
  rw [← spMt_uni] at h1
  have HG := Lib.hid hG
  have HS : Hid (SerRun true T n p [] (uniR n) G) := ⟨hs, hG⟩
  have hfl := flat_uniR n
  have hlu := length_uniR n
  have HT := Lib.hid hT
  clear h hs hG hT
  go_enter Try.func82, Try.ntmps82
  go_wp2
  clear z0 z1 z2 z3
  go_loopg [7] n (fun gk v7 wr => ∃ (pre : List (List (List Int))) (R : List (List Int)) (us : List Value) (Ad : Option Addr) (cd : Nat), Hid (R.length = gk) ∧ Hid (SerRun true T n p pre R G) ∧ Hid (us.length = pre.length) ∧ St w0 wr (matsIt v7 (us ++ [.slice Ad (flat n R).length cd]) (serMs p n pre ++ [spMt p n R]) :: .box (w.heap.size + 1) [.int .i64 p, .int .i64 R.length, .int .i64 n, .slice Ad (flat n R).length cd] :: .box w.heap.size [.int .i64 p, .int .i64 n, .slice A T.length c0] :: L))
  case atStart => exact ⟨[], uniR n, [], A1, c1, hlu, HS, rfl, by rw [hlu, hfl]; exact h1⟩
  case round =>
    clear h1 HS hfl hlu
    obtain ⟨pre, R, us, Ad, cd, hlg, HR, Hul, h1⟩ := hrel
    have hok := HR.out.1.ok
    have hRn := hok.le_n b1
    have hRW := hok.wf
    have h2 := h1.box [.int .i64 p, .int .i64 R.length, .int .i64 n, .slice Ad (flat n R).length cd] 33
    have huj : (us ++ [Value.slice Ad (flat n R).length cd])[pre.length]? = some (.slice Ad (flat n R).length cd) := by rw [← Hul.out]; simp
    have hmj : (serMs p n pre ++ [spMt p n R])[pre.length]? = some (spMt p n R) := by rw [← length_serMs p n pre]; simp
    have Huj := Lib.hid huj
    have Hmj := Lib.hid hmj
    have HU := Lib.hid (fun W => l2All_any p n A T.length c0 W hP (by omega))
    have hpl := HR.out.1.len
    have hlu2 : (us ++ [Value.slice Ad (flat n R).length cd]).length = (serMs p n pre ++ [spMt p n R]).length := by rw [List.length_append, List.length_append, length_serMs, Hul.out]; rfl
    have hl1 : (serMs p n pre ++ [spMt p n R]).length + 1 ≤ 1099511627776 := by rw [List.length_append, length_serMs, List.length_singleton]; omega
    have hst := stepS_low T n p R
    have hle := hok.le hP
    have HP := fun (W : World) (x : Value) (hx : Ints W (.slice A T.length c0) T) (hy : Ints W x (unitD n)) (hz : Ints W (.slice Ad (flat n R).length cd) (flat n R)) => l2Product_any p p p n n R.length _ _ _ T (unitD n) (flat n R) W hx hy hz HT.out (length_unitD n) (length_flat n R) hn (by omega) (by omega) hP rT (resid_unitD b1 n) (resid_flat (by omega) hRW)
    change ∀ (W : World) (x : Value), Ints W (.slice A T.length c0) T → Ints W x (unitD n) → Ints W (.slice Ad (flat n R).length cd) (flat n R) → Calls _ _ _ _ (RetMat _ p (spanL p n (prodL T n p n (unitD n) R.length (flat n R))).length n (flat n (spanL p n (prodL T n p n (unitD n) R.length (flat n R))))) at HP
    rw [← hst] at HP
    obtain ⟨R2, hR2⟩ : ∃ R2, R2 = stepS true T n p R := ⟨_, rfl⟩
    rw [← hR2] at HP hle
    obtain ⟨l2, hl2⟩ : ∃ l2, l2 = R2.length := ⟨_, rfl⟩
    rw [← hl2] at HP hle
    replace HP := Lib.hid HP
    have Hl2 := Lib.hid hl2
    clear hl2
    have Hlu2 := Lib.hid hlu2
    have Hl1 := Lib.hid hl1
    have HR2 := Lib.hid hR2
    clear hok hRW hpl hlu2 hl1 hR2 hst huj hmj
    obtain ⟨v0, v1, v2, v3⟩ := h1.box4 1 rfl
    obtain ⟨z0, z1, z2, z3⟩ := h2.box4 2 rfl
    obtain ⟨y0, y1, y2⟩ := h2.box3 3 rfl
    go_wp2
    go_region_held3 (fun w' => w'.cell? ⟨w.heap.size, 0, none⟩ = some (.int .i64 p) ∧ w'.cell? ⟨w.heap.size, 1, none⟩ = some (.int .i64 n) ∧ w'.cell? ⟨w.heap.size, 2, none⟩ = some (.slice A T.length c0) ∧ w'.cell? ⟨w.heap.size + 1, 0, none⟩ = some (.int .i64 p) ∧ w'.cell? ⟨w.heap.size + 1, 1, none⟩ = some (.int .i64 R.length) ∧ w'.cell? ⟨w.heap.size + 1, 2, none⟩ = some (.int .i64 n) ∧ w'.cell? ⟨w.heap.size + 1, 3, none⟩ = some (.slice Ad (flat n R).length cd))
      (first | exact ⟨y0, y1, y2, z0, z1, z2, z3⟩ | exact ⟨ya0, ya1, ya2, za0, za1, za2, za3⟩ | exact ⟨yb0, yb1, yb2, zb0, zb1, zb2, zb3⟩ | exact ⟨yc0, yc1, yc2, zc0, zc1, zc2, zc3⟩)
      (first
        | (go_at_call 156; refine (HU.out _).mono ?_; rintro (e : Ending) w4 ⟨u4, rfl, ho4, hb4⟩; obtain ⟨A6, c6, rfl, _, _, _⟩ := id ho4.ints; have h3 := h2.drew.pushOwn hb4 ho4; obtain ⟨ya0, ya1, ya2⟩ := h3.box3 4 rfl; obtain ⟨za0, za1, za2, za3⟩ := h3.box4 3 rfl)
        | (go_at_call 64; refine (HP.out _ _ (h3.ro (k + 5) hk).ints (h3.ownInts 0 rfl) (h3.matInts 2 rfl pre.length Huj.out Hmj.out)).mono ?_; rintro (e : Ending) w5 ⟨u5, rfl, ho, hb5⟩; obtain ⟨A7, c7, rfl, _, _, _⟩ := id ho.ints; have h3b := h3.pushOwn hb5 ho; have f0 := h3b.free 2 rfl 0; have f1 := h3b.free 2 rfl 1; have f2 := h3b.free 2 rfl 2; have f3 := h3b.free 2 rfl 3; obtain ⟨v0, v1, v2, v3⟩ := h3b.box4 2 rfl; obtain ⟨yb0, yb1, yb2⟩ := h3b.box3 5 rfl; obtain ⟨zb0, zb1, zb2, zb3⟩ := h3b.box4 4 rfl; have h4b := (((h3b.setBox 2 rfl 0 (.int .i64 p)).setBox 2 rfl 1 (.int .i64 l2)).setBox 2 rfl 2 (.int .i64 n)).setBox 2 rfl 3 (.slice A7 (flat n R2).length c7); obtain ⟨yc0, yc1, yc2⟩ := h4b.box3 5 rfl; obtain ⟨zc0, zc1, zc2, zc3⟩ := h4b.box4 4 rfl))
    have h4 : St w0 _ (.own (.slice A7 (flat n R2).length c7) (flat n R2) :: .box wr.heap.size [.int .i64 p, .int .i64 l2, .int .i64 n, .slice A7 (flat n R2).length c7] :: matsIt _ (us ++ [.slice Ad (flat n R).length cd]) (serMs p n pre ++ [spMt p n R]) :: .box (w.heap.size + 1) [.int .i64 p, .int .i64 R.length, .int .i64 n, .slice Ad (flat n R).length cd] :: .box w.heap.size [.int .i64 p, .int .i64 n, .slice A T.length c0] :: L) := h4b.erase 1
    clear z0 z1 z2 z3 y0 y1 y2 za0 za1 za2 za3 ya0 ya1 ya2 zb0 zb1 zb2 zb3 yb0 yb1 yb2 zc0 zc1 zc2 zc3 yc0 yc1 yc2 h1 h2 h3 h3b h4b f0 f1 f2 f3 v0 v1 v2 v3 ho ho4 hb4 hb5
    obtain ⟨x0, x1, x2, x3⟩ := h4.box4 1 rfl
    obtain ⟨z0, z1, z2, z3⟩ := h4.box4 3 rfl
    by_cases he : l2 = R.length
    · subst he
      go_wp2
      go_ret
      have hh := HR.out
      have hst := hh.1.stop (by rw [← HR2.out, ← Hl2.out])
      rw [hh.2, ← hst, serMs_app]
      exact ⟨_, _, rfl, Hlu2.out, (((h4.erase 4).erase 3).erase 1).erase 0⟩
    · obtain rfl := Hl2.out
      have e1 : ((R2.length : Int) == (R.length : Int)) = false := by rw [beq_eq_false_iff_ne]; omega
      have e2 : ¬ ((R2.length : Int) = (R.length : Int)) := by omega
      go_wp2_with (at_builtin; refine wp_append_mat rfl (.tmp 37) (.tmp 39) rfl (spMt p n R2) h4 1 rfl Hlu2.out rfl (by simp only [World.size_setCell]; rfl) Hl1.out ?_; intro v1 w6 h5; obtain ⟨q0, q1, q2, q3⟩ := h5.box4 0 rfl; obtain ⟨s0, s1, s2, s3⟩ := h5.box4 2 rfl; have g0 := h5.free 2 rfl 0; have g1 := h5.free 2 rfl 1; have g2 := h5.free 2 rfl 2; have g3 := h5.free 2 rfl 3)
      have h6 := (((h5.setBox 2 rfl 0 (.int .i64 p)).setBox 2 rfl 1 (.int .i64 R2.length)).setBox 2 rfl 2 (.int .i64 n)).setBox 2 rfl 3 (.slice A7 (flat n R2).length c7)
      have hh := HR.out
      have hnx := hh.1.next hP (by rw [← HR2.out]; exact he)
      rw [← HR2.out] at hnx
      go_roundg R2.length
      case measure => have := hlg.out; omega
      case rel => exact ⟨pre ++ [R], R2, us ++ [Value.slice Ad (flat n R).length cd], A7, c7, by show _ = _; rfl, ⟨hnx.1, hh.2⟩, by show _ = _; rw [List.length_append, List.length_append, Hul.out]; rfl, by rw [serMs_app]; exact h6.erase 0⟩
end Go.Proofs.Ytcdbgcpccmcbeaa
