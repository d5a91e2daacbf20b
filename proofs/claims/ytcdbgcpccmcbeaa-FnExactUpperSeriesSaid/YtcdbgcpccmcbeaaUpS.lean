/- The upper series in the reference. -/
import Derived.Test.YtcdbgcpccmcbeaaCen
import Derived.Test.YtcdbgcpccmcbeaaSerI
namespace Go.Proofs.Ytcdbgcpccmcbeaa
set_option maxRecDepth 100000
open Go.RowKit

/-- The upper series: one step. -/
def upStep (T : List Int) (n : Nat) (p : Int) (R : List (List Int)) : List (List Int) := intoL T n p R (pivL p n R) (uniR n)
theorem upStep_rf {T : List Int} {n : Nat} {p : Int} (hP : isPrime p = true) (R : List (List Int)) : ∃ a, Rf p n (upStep T n p R) a := Wf_intoL hP _ _ _
theorem upStep_iff {T : List Int} {n : Nat} {p : Int} (hP : isPrime p = true) {R : List (List Int)} {a : List Nat} (h : Rf p n R a) {f : Nat → Int} :
    Sp p n (upStep T n p R) f ↔ ∀ v, v ∈ uniR n → Sp p n R (fun c => sumTo n fun i => f i * vec (braL T (unitL n i) v n p) c) := by
  rw [upStep, (spanL_self hP h).2]; exact into_iff hP h _
structure UpOk (T : List Int) (n : Nat) (p : Int) (R : List (List Int)) : Prop where
  rf : ∃ a, Rf p n R a
  sub : ∀ i, i < R.length → Sp p n (upStep T n p R) (vec (rowOf R i))
theorem UpOk.wf {T : List Int} {n : Nat} {p : Int} {R : List (List Int)} (h : UpOk T n p R) : Wf p n R := by
  obtain ⟨a, ha⟩ := h.rf; exact ha.wf
theorem UpOk.le_n {T : List Int} {n : Nat} {p : Int} (hP : isPrime p = true) {R : List (List Int)} (h : UpOk T n p R) : R.length ≤ n := by
  obtain ⟨a, ha⟩ := h.rf; exact rf_le_n (isPrime_bd hP).1 ha
theorem UpOk.start (T : List Int) (n : Nat) (p : Int) : UpOk T n p [] := ⟨⟨_, Rf_none p n⟩, fun _i hi => absurd hi (Nat.not_lt_zero _)⟩
theorem UpOk.next {T : List Int} {n : Nat} {p : Int} (hP : isPrime p = true) {R : List (List Int)} (h : UpOk T n p R) : UpOk T n p (upStep T n p R) := by
  obtain ⟨a, ha⟩ := h.rf
  obtain ⟨b, hb⟩ := upStep_rf (T := T) (n := n) hP R
  refine ⟨⟨b, hb⟩, fun i hi => (upStep_iff hP hb).2 fun v hv => ?_⟩
  exact ((upStep_iff hP ha).1 (.row i hi) v hv).trans h.sub
theorem UpOk.le {T : List Int} {n : Nat} {p : Int} (hP : isPrime p = true) {R : List (List Int)} (h : UpOk T n p R) : R.length ≤ (upStep T n p R).length := by
  obtain ⟨a, ha⟩ := h.rf
  obtain ⟨b, hb⟩ := (h.next hP).rf
  exact ha.length_le (isPrime_bd hP).1 hb h.sub
theorem UpOk.gt {T : List Int} {n : Nat} {p : Int} (hP : isPrime p = true) {R : List (List Int)} (h : UpOk T n p R) (e : (upStep T n p R).length ≠ R.length) : R.length < (upStep T n p R).length ∧ (upStep T n p R).length ≤ n :=
  ⟨by have := h.le hP; omega, (h.next hP).le_n hP⟩
def upsTo (T : List Int) (n : Nat) (p : Int) : Nat → List (List Int) → List (List (List Int))
  | 0, R => [R]
  | f + 1, R => if (upStep T n p R).length = R.length then [R] else R :: upsTo T n p f (upStep T n p R)
def upL (T : List Int) (n : Nat) (p : Int) : List (List (List Int)) := upsTo T n p n []
theorem upsTo_stop {T : List Int} {n : Nat} {p : Int} {R : List (List Int)} (h : (upStep T n p R).length = R.length) (f : Nat) : upsTo T n p f R = [R] := by
  cases f with
  | zero => rfl
  | succ f => rw [upsTo, if_pos h]
theorem upsTo_go {T : List Int} {n : Nat} {p : Int} (hP : isPrime p = true) {R : List (List Int)} (hok : UpOk T n p R) (h : (upStep T n p R).length ≠ R.length) : ∀ (f : Nat), n - R.length ≤ f → upsTo T n p f R = R :: upsTo T n p (f - 1) (upStep T n p R)
  | 0, hf => by have := hok.gt hP h; omega
  | f + 1, _ => by rw [upsTo, if_neg h]; rfl
theorem upsTo_fuel {T : List Int} {n : Nat} {p : Int} (hP : isPrime p = true) : ∀ (f g : Nat) {R : List (List Int)}, UpOk T n p R → n - R.length ≤ f → n - R.length ≤ g → upsTo T n p f R = upsTo T n p g R
  | 0, g, R, hok, hf, hg => by
    have h : (upStep T n p R).length = R.length := by
      by_cases h : (upStep T n p R).length = R.length
      · exact h
      · have := hok.gt hP h; omega
    rw [upsTo_stop h, upsTo_stop h]
  | f + 1, g, R, hok, hf, hg => by
    by_cases h : (upStep T n p R).length = R.length
    · rw [upsTo_stop h, upsTo_stop h]
    · have := hok.gt hP h
      rw [upsTo_go hP hok h _ hf, upsTo_go hP hok h _ hg, Nat.add_sub_cancel]
      rw [upsTo_fuel hP f (g - 1) (hok.next hP) (by omega) (by omega)]
structure UpAt (T : List Int) (n : Nat) (p : Int) (pre : List (List (List Int))) (R : List (List Int)) : Prop where
  ok : UpOk T n p R
  all : pre ++ upsTo T n p (n - R.length) R = upL T n p
  len : pre.length ≤ R.length
theorem UpAt.start (T : List Int) (n : Nat) {p : Int} (_ : isPrime p = true) : UpAt T n p [] [] := ⟨.start T n p, rfl, Nat.le_refl _⟩
theorem UpAt.stop {T : List Int} {n : Nat} {p : Int} {pre : List (List (List Int))} {R : List (List Int)} (h : UpAt T n p pre R) (e : (upStep T n p R).length = R.length) : pre ++ [R] = upL T n p := by
  rw [← h.all, upsTo_stop e]
theorem UpAt.next {T : List Int} {n : Nat} {p : Int} (hP : isPrime p = true) {pre : List (List (List Int))} {R : List (List Int)} (h : UpAt T n p pre R) (e : (upStep T n p R).length ≠ R.length) :
    UpAt T n p (pre ++ [R]) (upStep T n p R) ∧ R.length < (upStep T n p R).length := by
  obtain ⟨h1, h2⟩ := h.ok.gt hP e
  refine ⟨⟨h.ok.next hP, ?_, ?_⟩, h1⟩
  · rw [← h.all, upsTo_go hP h.ok e _ (Nat.le_refl _), List.append_assoc]
    rw [upsTo_fuel hP (n - R.length - 1) (n - (upStep T n p R).length) (h.ok.next hP) (by omega) (Nat.le_refl _)]
    rfl
  · have := h.len
    rw [List.length_append, List.length_singleton]
    omega
theorem length_upsTo (T : List Int) (n : Nat) (p : Int) : ∀ (f : Nat) (R : List (List Int)), (upsTo T n p f R).length ≤ f + 1
  | 0, _ => by simp [upsTo]
  | f + 1, R => by
    rw [upsTo]
    split
    · simp
    · have := length_upsTo T n p f (upStep T n p R)
      simp only [List.length_cons]; omega
theorem length_upL (T : List Int) (n : Nat) (p : Int) : (upL T n p).length ≤ n + 1 := length_upsTo _ _ _ _ _
theorem upsTo_ok {T : List Int} {n : Nat} {p : Int} (hP : isPrime p = true) : ∀ (f : Nat) {R : List (List Int)}, UpOk T n p R → ∀ S ∈ upsTo T n p f R, UpOk T n p S
  | 0, R, h, S, hS => by simp only [upsTo, List.mem_singleton] at hS; exact hS ▸ h
  | f + 1, R, h, S, hS => by
    rw [upsTo] at hS
    split at hS
    · simp only [List.mem_singleton] at hS; exact hS ▸ h
    · rcases List.mem_cons.1 hS with rfl | hS
      · exact h
      · exact upsTo_ok hP f (h.next hP) S hS
def UpRun (T : List Int) (n : Nat) (p : Int) (pre : List (List (List Int))) (R : List (List Int)) (G : List Mt) : Prop := UpAt T n p pre R ∧ G = serMs p n (upL T n p)
theorem spMt_none (p : Int) (n : Nat) : spMt p n [] = ⟨p, 0, n, []⟩ := by rw [spMt, flat_none]; rfl

set_option maxHeartbeats 4000000 in
theorem l3Series2_st {w0 w : World} {L : List It} (p : Int) (n k : Nat) (v t : Value) (T : List Int) (h : St w0 w (.own v [] :: L)) (hk : L[k]? = some (.ro t T)) (hT : T.length = n * n * n) (hn : n ≤ 28) (hP : isPrime p = true) (rT : resid p T = true) :
    Calls Try.prog 82 #[.agg #[.int .i64 p, .int .i64 n, t], .agg #[.int .i64 p, .int .i64 0, .int .i64 n, v], .int .i64 2] w
      fun e w' => ∃ u us, e = .returned u ∧ us.length = (serMs p n (upL T n p)).length ∧ St w0 w' (matsIt u us (serMs p n (upL T n p)) :: L) := by
  have b1 := (isPrime_bd hP).1
  have hs := UpAt.start T n hP
  obtain ⟨G, hG⟩ : ∃ G, G = serMs p n (upL T n p) := ⟨_, rfl⟩
  rw [← hG]
  obtain ⟨A, c0, rfl, _, _, _⟩ := id (h.ro (k + 1) (by simpa using hk)).ints
  obtain ⟨A1, c1, rfl, _, _, _⟩ := id (h.ownInts 0 rfl)
  have h1 := ((h.box [.int .i64 p, .int .i64 n, .slice A T.length c0] 29).box [.int .i64 p, .int .i64 0, .int .i64 n, .slice A1 0 c1] 33).front 2 rfl
  simp only [World.size_alloc] at h1
  obtain ⟨z0, z1, z2, z3⟩ := h1.box4 1 rfl
  replace h1 := h1.litMat p 0 n
  simp only [World.size_alloc] at h1
  change St w0 _ (matsIt _ _ [⟨p, 0, n, []⟩] :: .box (w.heap.size + 1) _ :: .box w.heap.size _ :: L) at h1
  rw [← spMt_none] at h1
  have HG := Lib.hid hG
  have HS : Hid (UpRun T n p [] [] G) := ⟨hs, hG⟩
  have hfl := flat_none n
  have HT := Lib.hid hT
  clear h hs hG hT
  go_enter Try.func82, Try.ntmps82
  go_wp2
  clear z0 z1 z2 z3
  go_loopg [7] n (fun gk v7 wr => ∃ (pre : List (List (List Int))) (R : List (List Int)) (us : List Value) (Ad : Option Addr) (cd : Nat), Hid (n - R.length = gk) ∧ Hid (UpRun T n p pre R G) ∧ Hid (us.length = pre.length) ∧ St w0 wr (matsIt v7 (us ++ [.slice Ad (flat n R).length cd]) (serMs p n pre ++ [spMt p n R]) :: .box (w.heap.size + 1) [.int .i64 p, .int .i64 R.length, .int .i64 n, .slice Ad (flat n R).length cd] :: .box w.heap.size [.int .i64 p, .int .i64 n, .slice A T.length c0] :: L))
  case atStart => exact ⟨[], [], [], A1, c1, Nat.sub_zero n, HS, rfl, by rw [hfl]; exact h1⟩
  case round =>
    clear h1 HS hfl
    obtain ⟨pre, R, us, Ad, cd, hlg, HR, Hul, h1⟩ := hrel
    have hok := HR.out.1.ok
    have hRn := hok.le_n hP
    have hRW := hok.wf
    have h2 := h1.box [.int .i64 p, .int .i64 R.length, .int .i64 n, .slice Ad (flat n R).length cd] 33
    have huj : (us ++ [Value.slice Ad (flat n R).length cd])[pre.length]? = some (.slice Ad (flat n R).length cd) := by rw [← Hul.out]; simp
    have hmj : (serMs p n pre ++ [spMt p n R])[pre.length]? = some (spMt p n R) := by rw [← length_serMs p n pre]; simp
    have Huj := Lib.hid huj
    have Hmj := Lib.hid hmj
    have HU := Lib.hid (fun W => l2All_any p n A T.length c0 W hP (by omega))
    have hpl := HR.out.1.len
    have hlu2 : (us ++ [Value.slice Ad (flat n R).length cd]).length = (serMs p n pre ++ [spMt p n R]).length := by rw [List.length_append, List.length_append, length_serMs, Hul.out]; rfl
    have hl1 : (serMs p n pre ++ [spMt p n R]).length + 1 ≤ 1099511627776 := by rw [List.length_append, length_serMs, List.length_singleton]; omega
    have hle := hok.le hP
    have hgt := fun he : (upStep T n p R).length ≠ R.length => hok.gt hP he
    obtain ⟨ar, har⟩ := hok.rf
    have HP := fun (W : World) (x : Value) (hx : Ints W (.slice A T.length c0) T) (hy : Ints W x (unitD n)) (hz : Ints W (.slice Ad (flat n R).length cd) (flat n R)) => l2Into_any p p n _ _ _ T (uniR n) R ar W hx (by rw [flat_uniR]; exact hy) hz HT.out (Rf_uniR b1 n).wf (by rw [length_uniR]; omega) har hn hP rT
    rw [length_uniR, ← into_eq hP har, show intoL T n p R ar (uniR n) = upStep T n p R by rw [upStep, (spanL_self hP har).2]] at HP
    obtain ⟨R2, hR2⟩ : ∃ R2, R2 = upStep T n p R := ⟨_, rfl⟩
    rw [← hR2] at HP hle hgt
    obtain ⟨l2, hl2⟩ : ∃ l2, l2 = R2.length := ⟨_, rfl⟩
    rw [← hl2] at HP hle hgt
    replace HP := Lib.hid HP
    have Hl2 := Lib.hid hl2
    clear hl2
    have Hlu2 := Lib.hid hlu2
    have Hl1 := Lib.hid hl1
    have HR2 := Lib.hid hR2
    clear hok hRW hpl hlu2 hl1 hR2 huj hmj har
    obtain ⟨v0, v1, v2, v3⟩ := h1.box4 1 rfl
    obtain ⟨z0, z1, z2, z3⟩ := h2.box4 2 rfl
    obtain ⟨y0, y1, y2⟩ := h2.box3 3 rfl
    go_wp2
    go_region_held3 (fun w' => w'.cell? ⟨w.heap.size, 0, none⟩ = some (.int .i64 p) ∧ w'.cell? ⟨w.heap.size, 1, none⟩ = some (.int .i64 n) ∧ w'.cell? ⟨w.heap.size, 2, none⟩ = some (.slice A T.length c0) ∧ w'.cell? ⟨w.heap.size + 1, 0, none⟩ = some (.int .i64 p) ∧ w'.cell? ⟨w.heap.size + 1, 1, none⟩ = some (.int .i64 R.length) ∧ w'.cell? ⟨w.heap.size + 1, 2, none⟩ = some (.int .i64 n) ∧ w'.cell? ⟨w.heap.size + 1, 3, none⟩ = some (.slice Ad (flat n R).length cd))
      (first | exact ⟨y0, y1, y2, z0, z1, z2, z3⟩ | exact ⟨ya0, ya1, ya2, za0, za1, za2, za3⟩ | exact ⟨yb0, yb1, yb2, zb0, zb1, zb2, zb3⟩ | exact ⟨yc0, yc1, yc2, zc0, zc1, zc2, zc3⟩)
      (first
        | (go_at_call 156; refine (HU.out _).mono ?_; rintro (e : Ending) w4 ⟨u4, rfl, ho4, hb4⟩; obtain ⟨A6, c6, rfl, _, _, _⟩ := id ho4.ints; have h3 := h2.drew.pushOwn hb4 ho4; obtain ⟨ya0, ya1, ya2⟩ := h3.box3 4 rfl; obtain ⟨za0, za1, za2, za3⟩ := h3.box4 3 rfl)
        | (go_at_call 157; refine (HP.out _ _ (h3.ro (k + 5) hk).ints (h3.ownInts 0 rfl) (h3.matInts 2 rfl pre.length Huj.out Hmj.out)).mono ?_; rintro (e : Ending) w5 ⟨u5, rfl, ho, hb5⟩; obtain ⟨A7, c7, rfl, _, _, _⟩ := id ho.ints; have h3b := h3.pushOwn hb5 ho; have f0 := h3b.free 2 rfl 0; have f1 := h3b.free 2 rfl 1; have f2 := h3b.free 2 rfl 2; have f3 := h3b.free 2 rfl 3; obtain ⟨v0, v1, v2, v3⟩ := h3b.box4 2 rfl; obtain ⟨yb0, yb1, yb2⟩ := h3b.box3 5 rfl; obtain ⟨zb0, zb1, zb2, zb3⟩ := h3b.box4 4 rfl; have h4b := (((h3b.setBox 2 rfl 0 (.int .i64 p)).setBox 2 rfl 1 (.int .i64 l2)).setBox 2 rfl 2 (.int .i64 n)).setBox 2 rfl 3 (.slice A7 (flat n R2).length c7); obtain ⟨yc0, yc1, yc2⟩ := h4b.box3 5 rfl; obtain ⟨zc0, zc1, zc2, zc3⟩ := h4b.box4 4 rfl))
    have h4 : St w0 _ (.own (.slice A7 (flat n R2).length c7) (flat n R2) :: .box wr.heap.size [.int .i64 p, .int .i64 l2, .int .i64 n, .slice A7 (flat n R2).length c7] :: matsIt _ (us ++ [.slice Ad (flat n R).length cd]) (serMs p n pre ++ [spMt p n R]) :: .box (w.heap.size + 1) [.int .i64 p, .int .i64 R.length, .int .i64 n, .slice Ad (flat n R).length cd] :: .box w.heap.size [.int .i64 p, .int .i64 n, .slice A T.length c0] :: L) := h4b.erase 1
    clear z0 z1 z2 z3 y0 y1 y2 za0 za1 za2 za3 ya0 ya1 ya2 zb0 zb1 zb2 zb3 yb0 yb1 yb2 zc0 zc1 zc2 zc3 yc0 yc1 yc2 h1 h2 h3 h3b h4b f0 f1 f2 f3 v0 v1 v2 v3 ho ho4 hb4 hb5
    obtain ⟨x0, x1, x2, x3⟩ := h4.box4 1 rfl
    obtain ⟨z0, z1, z2, z3⟩ := h4.box4 3 rfl
    by_cases he : l2 = R.length
    · subst he
      go_wp2
      go_ret
      have hh := HR.out
      have hst := hh.1.stop (by rw [← HR2.out, ← Hl2.out])
      rw [hh.2, ← hst, serMs_app]
      exact ⟨_, _, rfl, Hlu2.out, (((h4.erase 4).erase 3).erase 1).erase 0⟩
    · obtain rfl := Hl2.out
      have e1 : ((R2.length : Int) == (R.length : Int)) = false := by rw [beq_eq_false_iff_ne]; omega
      have e2 : ¬ ((R2.length : Int) = (R.length : Int)) := by omega
      go_wp2_with (at_builtin; refine wp_append_mat rfl (.tmp 37) (.tmp 39) rfl (spMt p n R2) h4 1 rfl Hlu2.out rfl (by simp only [World.size_setCell]; rfl) Hl1.out ?_; intro v1 w6 h5; obtain ⟨q0, q1, q2, q3⟩ := h5.box4 0 rfl; obtain ⟨s0, s1, s2, s3⟩ := h5.box4 2 rfl; have g0 := h5.free 2 rfl 0; have g1 := h5.free 2 rfl 1; have g2 := h5.free 2 rfl 2; have g3 := h5.free 2 rfl 3)
      have h6 := (((h5.setBox 2 rfl 0 (.int .i64 p)).setBox 2 rfl 1 (.int .i64 R2.length)).setBox 2 rfl 2 (.int .i64 n)).setBox 2 rfl 3 (.slice A7 (flat n R2).length c7)
      have hh := HR.out
      have hnx := hh.1.next hP (by rw [← HR2.out]; exact he)
      rw [← HR2.out] at hnx
      go_roundg (n - R2.length)
      case measure => have := hlg.out; have := hgt he; omega
      case rel => exact ⟨pre ++ [R], R2, us ++ [Value.slice Ad (flat n R).length cd], A7, c7, by show _ = _; rfl, ⟨hnx.1, hh.2⟩, by show _ = _; rw [List.length_append, List.length_append, Hul.out]; rfl, by rw [serMs_app]; exact h6.erase 0⟩
end Go.Proofs.Ytcdbgcpccmcbeaa
