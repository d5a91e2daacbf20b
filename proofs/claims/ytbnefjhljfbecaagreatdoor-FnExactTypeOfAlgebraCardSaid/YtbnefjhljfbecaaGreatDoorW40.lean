import Derived.Test.YtbnefjhljfbecaaGreatDoorW38
import Derived.Test.YtbnefjhljfbecaaGreatDoorW39
namespace Go.Proofs.YtbnefjhljfbecaaGreatDoor
set_option maxRecDepth 100000
section
open Go.RowKit
theorem sliceMt : Tryz.prog.underlying 40 = some (.slice (Tryz.prog.elem 40)) := by kernel_rfl
theorem infoMM : (Tryz.prog.info? (Tryz.prog.elem 40)).map (fun i => (i.zero, i.size, i.bytes)) = some (some (.agg #[.int .i64 0, .int .i64 0, .int .i64 0, .slice none 0 0]), 4, 48) := by kernel_rfl
theorem cutMats {w : World} {A : Option Addr} {n c : Nat} {m : Mt} {ms : List Mt} (h : MatsR w (.slice A n c) (m :: ms)) :
  ∃ A', (∀ W : World, (Instr.sliceAt 40 (.slice A n c) (some (.int .i64 1)) none none).run Tryz.prog W = .ok (.slice A' (n - 1) (c - 1)) W) ∧ MatsR w (.slice A' (n - 1) (c - 1)) ms := by
 obtain ⟨A1, c1, e, h1, h2, h3⟩ := h
 simp only [Value.slice.injEq] at e
 obtain ⟨rfl, rfl, rfl⟩ := e
 obtain ⟨i, q1, _, q3, _⟩ := info_parts infoMM
 obtain ⟨b, off, rfl, hc⟩ := h3 (by simp)
 refine ⟨if c = 1 then some ⟨b, off, none⟩ else some ⟨b, off + 4, none⟩, fun W => ?_, ?_⟩
 ·have hr := run_slice_l W 40 (some ⟨b, off, none⟩) (m :: ms).length c sliceMt .i64 1 (by simp) (by have h8 := h1; have h9 := h2; simp only [List.length_cons] at h8 ⊢; omega)
  rw [run_sliceAt_slice W _ _ _ _ _ sliceMt]
  refine Eq.trans hr ?_
  by_cases e : c = 1
  ·subst e; simp [sizeOf, typeInfo, q1, q3, sliced, Result.andThen]
  ·simp [sizeOf, typeInfo, q1, q3, sliced, Result.andThen, Addr.add, e]
 ·refine ⟨_, _, by rw [List.length_cons, Nat.add_sub_cancel], by rw [List.length_cons] at h1; omega, by omega, fun h0 => ⟨b, off + 4, ?_, fun i m' hi => ?_⟩⟩
  ·rw [if_neg (by rw [List.length_cons] at h1; omega)]
  ·have h9 := hc (i + 1) m' (by simpa using hi)
   rw [show off + (i + 1) * 4 = off + 4 + i * 4 by omega] at h9
   exact h9
def pvs (p : Int) : List Int := tab p.toNat fun m => (m : Int)
theorem length_pvs (p : Int) : (pvs p).length = p.toNat := length_tab _ _
def mpL (p : Int) (n : Nat) (As : List (List Int)) : List Mt := As.map fun A => ⟨p, n, n, A⟩
def rtT (p : Int) (n : Nat) (A : List Int) (As : List (List Int)) (S : List (List Int)) (k : Nat) : List (List Int × List (List Int)) := (List.range k).flatMap fun (m : Nat) => (rotR p n As (eigI p n A S (m : Int))).map fun x => ((m : Int) :: x.1, x.2)
theorem rtT_succ (p : Int) (n : Nat) (A : List Int) (As : List (List Int)) (S : List (List Int)) (k : Nat) : rtT p n A As S (k + 1) = rtT p n A As S k ++ (rotR p n As (eigI p n A S (k : Int))).map fun x => ((k : Int) :: x.1, x.2) := by
 simp [rtT, List.range_succ, List.flatMap_append]
theorem rtT_end {p : Int} {n : Nat} {A : List Int} {As : List (List Int)} {S : List (List Int)} (h : S.length ≠ 0) : rtT p n A As S p.toNat = rotR p n (A :: As) S := by
 rw [rotR, if_neg h]; rfl
theorem rtT_le {p : Int} {n : Nat} {A : List Int} {As : List (List Int)} {S : List (List Int)} {k l : Nat} (h : k ≤ l) : (rtT p n A As S k).length ≤ (rtT p n A As S l).length := by
 induction l with
 | zero => rw [Nat.le_zero.1 h]; exact Nat.le_refl _
 | succ l ih =>
  rcases Nat.le_succ_iff.1 h with h1 | h1
  ·refine Nat.le_trans (ih h1) ?_
   rw [rtT_succ, List.length_append]
   omega
  ·rw [h1]; exact Nat.le_refl _
theorem Ints.factW {w : World} {v : Value} {l : List Int} (h : Ints w v l) : It.ok w.heap.size w (.fact fun w' => Ints w' v l) := fun _ hk => (h.toB.keep fun p hp => World.cell?_of_block (hk p.block hp)).ints
theorem eqsM_take {r n : Nat} {M : List Int} {c : Nat} (h : c < n) : (eqsM r n M).take (c + 1) = (eqsM r n M).take c ++ [tab r fun i => Go.Proofs.YtbnefjhljfbecaaGreatDoor.vec M (i * n + c)] := by
 have hl : c < (eqsM r n M).length := by rw [length_eqsM]; exact h
 rw [List.take_succ_eq_append_getElem hl, rowOf_eq hl, rowOf_eqsM h]
theorem tab_nextR (n : Nat) (f : Nat → Int) : tab (n + 1) f = tab n f ++ [f n] := by simp [tab, List.range_succ]
theorem St.oneI {w0 w : World} {L : List It} (h : St w0 w L) (x : Int) : St w0 (w.alloc (.cells #[.int .i64 x] 3)) (.own (.slice (some ⟨w.heap.size, 0, none⟩) 1 1) [x] :: L) :=
 h.push (x := .own (.slice (some ⟨w.heap.size, 0, none⟩) 1 1) [x]) ((Below.refl _ _).alloc (Nat.le_refl _) _) (World.ownsRow_lit (base := w0.heap.size) (e := 3) (size := 1) w #[.int .i64 x] 1 h.size (by simp [maxLen]) rfl) (fun b hb => by simp [It.fp, Value.ownBlock] at hb; omega) (by simp [It.fp, Value.ownBlock])
theorem St.litRowI {w0 w : World} {L : List It} {u : Value} {D : List Int} (h : St w0 w (.own u D :: L)) : St w0 (w.alloc (.cells #[u] 22)) (rowsIt (.slice (some ⟨w.heap.size, 0, none⟩) 1 1) [u] [D] :: L) := by
 have h2 : St w0 (w.alloc (.cells #[u] 22)) (.vec (.slice (some ⟨w.heap.size, 0, none⟩) 1 1) 22 1 1 [u] [] :: .own u D :: L) :=
  h.push ((Below.refl _ _).alloc (Nat.le_refl _) _) ⟨World.ownsRow_lit (base := w0.heap.size) (e := 22) (size := 1) w #[u] 1 h.size (by simp [maxLen]) rfl, fun s hs => by cases hs⟩ (fun b hb => by simp [It.fp, Value.ownBlock] at hb; omega) (by simp [It.fp, Value.ownBlock])
 exact h2.swap2.absorb 0 rfl
theorem St.matLitI {w0 w : World} {L : List It} {u : Value} {D : List Int} (h : St w0 w (.own u D :: L)) (p r c : Int) :
  St w0 (w.alloc (.cells #[.int .i64 p, .int .i64 r, .int .i64 c, u] 32)) (matsIt (.slice (some ⟨w.heap.size, 0, none⟩) 1 1) [u] [⟨p, r, c, D⟩] :: L) := by
 have h2 : St w0 (w.alloc (.cells #[.int .i64 p, .int .i64 r, .int .i64 c, u] 32)) (.vec (.slice (some ⟨w.heap.size, 0, none⟩) 1 1) 32 4 1 [.int .i64 p, .int .i64 r, .int .i64 c, u] [] :: .own u D :: L) :=
  h.push ((Below.refl _ _).alloc (Nat.le_refl _) _) ⟨World.ownsRow_lit (base := w0.heap.size) (e := 32) (size := 4) w #[.int .i64 p, .int .i64 r, .int .i64 c, u] 1 h.size (by simp [maxLen]) rfl, fun s hs => by cases hs⟩ (fun b hb => by simp [It.fp, Value.ownBlock] at hb; omega) (by simp [It.fp, Value.ownBlock])
 exact h2.swap2.absorb 0 rfl
def RetEg (w0 : World) (p : Int) (n : Nat) (Ls : List (List Int × List (List Int))) (L : List It) (e : Ending) (w' : World) : Prop := ∃ v1 us v2 us2, e = .returned (.tuple #[v1, v2]) ∧ us.length = Ls.length ∧ us2.length = Ls.length ∧ St w0 w' (rowsIt v1 us (lmL Ls) :: matsIt v2 us2 (lmM p n Ls) :: L)
theorem eigenspaces_zero (p : Int) (n : Nat) (As S : List (List Int)) (t v u : Value) (w0 w : World) (L : List It) (h : St w0 w (.own t (flat n S) :: L)) (h0 : S.length = 0) :
  Calls Tryz.prog 49 #[.agg #[.int .i64 p, .int .i64 S.length, .int .i64 n, t], v, u] w (RetEg w0 p n (rotR p n As S) L) := by
 rw [rotR_nil p n As h0, h0]
 obtain ⟨A1, n1, c1, rfl⟩ := (h.own 0 rfl).slice
 have h1 := h.box [.int .i64 p, .int .i64 (0 : Nat), .int .i64 n, .slice A1 n1 c1] 32
 obtain ⟨z0, z1, z2, z3⟩ := h1.box4 0 rfl
 clear h h0
 go_enter Tryz.func49, Tryz.ntmps49
 go_wp2
 refine bodyPost_ret (v := .tuple #[.slice none 0 0, .slice none 0 0]) (by simp [results, Tryz.results49, go_sem]) rfl ?_
 have h2 := h1.drop 2
 exact ⟨_, [], _, [], rfl, rfl, rfl, (h2.pushVec (Below.refl _ _) vec_nil (by simp [It.fp, Value.ownBlock])).pushVec (Below.refl _ _) vec_nil (by simp [It.fp, Value.ownBlock])⟩
set_option maxHeartbeats 2000000 in
theorem eigenspaces_nil (p : Int) (n : Nat) (S : List (List Int)) (t v u : Value) (w0 w : World) (L : List It) (h : St w0 w (.own t (flat n S) :: L)) (h0 : S.length ≠ 0) (hv : MatsR w0 v []) :
  Calls Tryz.prog 49 #[.agg #[.int .i64 p, .int .i64 S.length, .int .i64 n, t], v, u] w (RetEg w0 p n (rotR p n [] S) L) := by
 have hR : rotR p n [] S = [([], S)] := by rw [rotR, if_neg h0]
 rw [hR]
 obtain ⟨A1, n1, c1, rfl⟩ := (h.own 0 rfl).slice
 obtain ⟨A2, c2, rfl, -⟩ := hv
 have hPost : ∀ (W : World) (b1 b2 b3 : Nat), St w0 W (matsIt (.slice (some ⟨b1, 0, none⟩) 1 1) [.slice A1 n1 c1] [⟨p, S.length, n, flat n S⟩] :: rowsIt (.slice (some ⟨b2, 0, none⟩) 1 1) [.slice (some ⟨b3, 0, none⟩) 0 0] [[]] :: L) → RetEg w0 p n [([], S)] L (.returned (.tuple #[.slice (some ⟨b2, 0, none⟩) 1 1, .slice (some ⟨b1, 0, none⟩) 1 1])) W := fun W b1 b2 b3 g => ⟨_, _, _, _, rfl, rfl, rfl, g.swap2⟩
 obtain ⟨F, hF⟩ : ∃ F, F = flat n S := ⟨_, rfl⟩
 obtain ⟨Sl, hSl⟩ : ∃ Sl, Sl = S.length := ⟨_, rfl⟩
 rw [← hF, ← hSl] at hPost
 rw [← hF] at h
 rw [← hSl] at h0 ⊢
 have HPost := Lib.hid hPost
 have h1 := (h.box [.int .i64 p, .int .i64 Sl, .int .i64 n, .slice A1 n1 c1] 32)
 clear h hR hPost hF hSl
 obtain ⟨z0, z1, z2, z3⟩ := h1.box4 0 rfl
 have h0' : ¬ ((Sl : Int) = 0) := by omega
 go_enter Tryz.func49, Tryz.ntmps49
 go_upto_region 4 with fail
 clear z0 z1 z2 z3
 have g := h1.drew
 refine wp_region_held_drew (S := fun w' => (w'.cell? ⟨w.heap.size, 0, none⟩ = some (.int .i64 p) ∧ w'.cell? ⟨w.heap.size, 1, none⟩ = some (.int .i64 Sl) ∧ w'.cell? ⟨w.heap.size, 2, none⟩ = some (.int .i64 n) ∧ w'.cell? ⟨w.heap.size, 3, none⟩ = some (.slice A1 n1 c1))) (by kernel_rfl) (g.box4 0 rfl) (fun hHeld => ?_)
 obtain ⟨v0, hv0⟩ : ∃ v0, v0 = (w.alloc (.cells #[.int .i64 p, .int .i64 Sl, .int .i64 n, .slice A1 n1 c1] 32)).drew := ⟨_, rfl⟩
 rw [← hv0] at g hHeld ⊢
 clear hv0 h1
 refine tkA 2 hHeld ?_
 refine wpAnyH_ready (rs := [0, 3]) (by kernel_rfl) (by simp) ?_
 refine ready_cons rfl (fun K hK => ?_) (ready_cons rfl (fun K hK => ?_) AllReadyH.nil)
 ·go_simp
  replace g := g.empty
  refine outA hK ?_ fun hHeld => ?_
  ·exact (g.box4 1 rfl)
  clear hK K
  refine wpAnyH_ready (rs := [1, 3]) (by kernel_rfl) (by simp) ?_
  refine ready_cons rfl (fun K hK => ?_) (ready_cons rfl (fun K hK => ?_) AllReadyH.nil)
  ·go_simp
   replace g := g.litRowI
   refine outA hK ?_ fun hHeld => ?_
   ·exact (g.box4 1 rfl)
   clear hK K
   refine tkA 4 hHeld ?_
   refine rcA 3 fun K hK => ?_
   go_simp
   replace g := (g.toFront 2 rfl).matLitI p Sl n
   refine outA hK ?_ fun hHeld => ?_
   ·exact (g.box4 2 rfl)
   clear hK K
   refine tkA 5 hHeld ?_
   refine wpAnyH_done (by kernel_rfl) ?_ _
   clear hHeld
   simp only [World.size_alloc] at g
   go_wp2
   refine bodyPost_ret (v := .tuple #[.slice (some ⟨v0.heap.size + 1, 0, none⟩) 1 1, .slice (some ⟨v0.heap.size + 1 + 1, 0, none⟩) 1 1]) (by simp [results, Tryz.results49, go_sem]) rfl ?_
   exact HPost.out _ _ _ _ ((g.toFront 2 rfl).drop 1)
  ·go_simp
   replace g := (g.toFront 2 rfl).matLitI p Sl n
   refine outA hK ?_ fun hHeld => ?_
   ·exact (g.box4 2 rfl)
   clear hK K
   refine rcA 1 fun K hK => ?_
   go_simp
   replace g := (g.swap2.litRowI).swap2
   refine outA hK ?_ fun hHeld => ?_
   ·exact (g.box4 2 rfl)
   clear hK K
   refine tkA 4 hHeld ?_
   refine tkA 5 hHeld ?_
   refine wpAnyH_done (by kernel_rfl) ?_ _
   clear hHeld
   simp only [World.size_alloc] at g
   go_wp2
   refine bodyPost_ret (v := .tuple #[.slice (some ⟨v0.heap.size + 1 + 1, 0, none⟩) 1 1, .slice (some ⟨v0.heap.size + 1, 0, none⟩) 1 1]) (by simp [results, Tryz.results49, go_sem]) rfl ?_
   exact HPost.out _ _ _ _ ((g.toFront 2 rfl).drop 1)
 ·go_simp
  replace g := (g.toFront 1 rfl).matLitI p Sl n
  refine outA hK ?_ fun hHeld => ?_
  ·exact (g.box4 1 rfl)
  clear hK K
  refine rcA 0 fun K hK => ?_
  go_simp
  replace g := g.empty
  simp only [World.size_alloc] at g
  refine outA hK ?_ fun hHeld => ?_
  ·exact (g.box4 2 rfl)
  clear hK K
  refine rcA 1 fun K hK => ?_
  go_simp
  replace g := g.litRowI.swap2
  refine outA hK ?_ fun hHeld => ?_
  ·exact (g.box4 2 rfl)
  clear hK K
  refine tkA 4 hHeld ?_
  refine tkA 5 hHeld ?_
  refine wpAnyH_done (by kernel_rfl) ?_ _
  clear hHeld
  simp only [World.size_alloc] at g
  go_wp2
  refine bodyPost_ret (v := .tuple #[.slice (some ⟨v0.heap.size + 1 + 1, 0, none⟩) 1 1, .slice (some ⟨v0.heap.size, 0, none⟩) 1 1]) (by simp [results, Tryz.results49, go_sem]) rfl ?_
  exact HPost.out _ _ _ _ ((g.toFront 2 rfl).drop 1)
end
section
open Go.RowKit
def EgAt (p : Int) (n : Nat) (As : List (List Int)) : Prop := ∀ (S : List (List Int)) (a : List Nat) (t v u : Value) (w0 w : World) (L : List It), St w0 w (.own t (flat n S) :: L) → Rf p n S a → MatsR w0 v (mpL p n As) → Ints w0 u (pvs p) →
  Calls Tryz.prog 49 #[.agg #[.int .i64 p, .int .i64 S.length, .int .i64 n, t], v, u] w (RetEg w0 p n (rotR p n As S) L)
theorem St.del2 {w0 w : World} {x y z : It} {L : List It} (h : St w0 w (x :: y :: z :: L)) : St w0 w (x :: y :: L) := by
 have := (h.toFront 2 rfl).drop 1
 simpa using this
theorem mtC {w : World} {b o : Nat} {m : Mt} {u : Value} (h : MtAt w b o m u) : w.cell? ⟨b, o, none⟩ = some (.int .i64 m.p) ∧ w.cell? ⟨b, o + 1, none⟩ = some (.int .i64 m.r) ∧ w.cell? ⟨b, o + 2, none⟩ = some (.int .i64 m.c) ∧ w.cell? ⟨b, o + 3, none⟩ = some u := ⟨h.1, h.2.1, h.2.2.1, h.2.2.2.1⟩
set_option maxHeartbeats 16000000 in
theorem eigenspaces_cons (p : Int) (n : Nat) (A : List Int) (As : List (List Int)) (hP : isPrime p = true) (hn : n ≤ 28) (hA : A.length = n * n) (rA : resid p A = true) (hAs : ∀ B ∈ As, B.length = n * n) (hAl : As.length ≤ 1000) (ih : EgAt p n As) : EgAt p n (A :: As) := by
 intro S a t v u w0 w L h hS hv hu
 by_cases h0 : S.length = 0
 ·exact eigenspaces_zero p n (A :: As) S t v u w0 w L h h0
 obtain ⟨hp, hp'⟩ := isPrime_bd hP
 have hW := hS.wf
 have hSl := rf_le_n hp hS
 have hnn := mul_le hn hn
 obtain ⟨P, hPn⟩ : ∃ P : Nat, P = p.toNat := ⟨_, rfl⟩
 obtain ⟨A1, c1, rfl, _, _, _⟩ := id (h.ownInts 0 rfl)
 obtain ⟨A2, c2, rfl, _, _, _⟩ := id hv
 obtain ⟨A3, c3, rfl, _, _, _⟩ := id hu
 obtain ⟨bm, offm, Ad, cd, hbA, hm⟩ := hv.at (i := 0) (by simp [mpL])
 have hm0 : MtAt w0 bm offm ⟨p, n, n, A⟩ (.slice Ad A.length cd) := by
  have h9 : MtAt w0 bm (offm + 0 * 4) ⟨p, n, n, A⟩ (.slice Ad A.length cd) := hm
  rwa [Nat.zero_mul, Nat.add_zero] at h9
 obtain ⟨A4, hcut, hT⟩ := cutMats (m := ⟨p, n, n, A⟩) (ms := mpL p n As) hv
 subst hbA
 have hE : rotR p n (A :: As) S = rtT p n A As S P := by rw [hPn, rtT_end h0]
 have hBd : ∀ k, k ≤ P → (rtT p n A As S k).length ≤ 28 := fun k hk => by
  have h1 := rtT_le (p := p) (n := n) (A := A) (As := As) (S := S) hk
  have h2 := length_rotR hP (As := A :: As) (fun B hB => by
   rcases List.mem_cons.1 hB with rfl | hB
   ·exact hA
   ·exact hAs B hB) hS
  rw [hE] at h2
  omega
 have hNx := fun k => rtT_succ p n A As S k
 have hRo := fun (W : World) (v1 : Value) (x1 : Ints W v1 (flat n S)) => (show Calls Tryz.prog 46 #[.agg #[.int .i64 p, .int .i64 S.length, .int .i64 n, v1]] W (RetLL W S) by
  have := rowsOf_any p S.length n v1 (flat n S) W x1 (length_flat n S) (by have := mul_le (show S.length ≤ 28 by omega) hn; omega) (by omega)
  rwa [rowsM_flat hW] at this)
 have hTi := fun (W : World) (v1 v2 : Value) (x1 : Ints W v1 (flat n S)) (x2 : Ints W v2 A) => times_any p p n S.length n n v1 v2 _ _ W x1 x2 (length_flat n S) hA (by omega) (by omega) (by omega) hp hp' (resid_flat (by omega) hW) rA
 have hPl := fun (W : World) (v1 v2 : Value) (k : Nat) (x1 : Ints W v1 (mulD p S.length n n (flat n S) A)) (x2 : Ints W v2 (flat n S)) => (show Calls Tryz.prog 84 #[.agg #[.int .i64 p, .int .i64 S.length, .int .i64 n, v1], .int .i64 ((-(k : Int)) % p), .agg #[.int .i64 p, .int .i64 S.length, .int .i64 n, v2]] W (RetMat W p S.length n (movD p n A S k)) from
  plus_any p p S.length n S.length n ((-(k : Int)) % p) v1 v2 _ _ W x1 x2 (by rw [length_mulD]; have := mul_le (show S.length ≤ 28 by omega) hn; omega) (by rw [length_flat, length_mulD]) hp hp' (Int.emod_nonneg _ (by omega)) (Int.le_of_lt (Int.emod_lt_of_pos _ (by omega))) (resid_mulD hp _ _ _ _ _) (resid_flat (by omega) hW))
 have hMd := fun (W : World) (k : Nat) (hk : k ≤ P) => (show Calls Tryz.prog 85 #[.int .i64 (-(k : Int)), .int .i64 p] W (fun e w' => e = .returned (.int .i64 ((-(k : Int)) % p)) ∧ Below W.heap.size W w') from (mod_any (-(k : Int)) p W (by omega) (by omega) (by omega) hp').mono fun e w' h => ⟨h.1, h.2 ▸ Below.refl _ _⟩)
 have hKe := fun (W : World) (v1 : Value) (k : Nat) (x1 : IntRows W v1 (eqsM S.length n (movD p n A S k))) => kernel_any p S.length v1 _ W x1 (Wf_eqsM (by omega) _ _ (resid_movD (by omega) _ _ _ _)) (by rw [length_eqsM]; omega) (by omega) hP
 have hKw := fun k : Nat => Wf_kerL hP S.length (eqsM S.length n (movD p n A S (k : Int)))
 have hKn := fun k : Nat => (show (kerL p S.length (eqsM S.length n (movD p n A S (k : Int)))).length ≤ 28 by
  obtain ⟨b, hb⟩ := kerL_rf hP S.length (eqsM S.length n (movD p n A S (k : Int)))
  have := rf_le_n hp hb
  omega)
 have hCo := fun (W : World) (v1 v2 : Value) (K : List Int) (x1 : Ints W v1 K) (x2 : IntRows W v2 S) (hK : K.length = S.length) (rK : resid p K = true) => combine_any p n v1 v2 K S W x1 x2 hK (by omega) (by omega) hW hp hp' rK
 have hSp := fun (W : World) (v1 : Value) (k : Nat) (x1 : IntRows W v1 (fndL p n A S k)) => (show Calls Tryz.prog 88 #[v1, .int .i64 n, .int .i64 p] W (RetLL W (eigI p n A S k)) from span_any p n v1 _ W x1 (Wf_fndL hp _ _ _ _) (by rw [fndL, List.length_map]; have := hKn k; omega) (by omega) hP)
 have hMo := fun (W : World) (v1 : Value) (k : Nat) (x1 : IntRows W v1 (eigI p n A S k)) => (show Calls Tryz.prog 82 #[.int .i64 p, .int .i64 n, v1] W (RetMat W p (eigI p n A S k).length n (flat n (eigI p n A S k))) by
  obtain ⟨b, hb⟩ := eigI_rf hP n A S k
  have hl := rf_le_n hp hb
  have h9 := matrixOf_any p n v1 _ W x1 (by rw [total_wf hb.wf]; have := mul_le (show (eigI p n A S k).length ≤ 28 by omega) hn; omega)
  rwa [← flat_flatten hb.wf] at h9)
 have hIh := fun (W : World) (t9 : Value) (k : Nat) (M : List It) (x1 : St w0 W (.own t9 (flat n (eigI p n A S k)) :: M)) => (show Calls Tryz.prog 49 #[.agg #[.int .i64 p, .int .i64 (eigI p n A S k).length, .int .i64 n, t9], .slice A4 ((mpL p n (A :: As)).length - 1) (c2 - 1), .slice A3 (pvs p).length c3] W (RetEg w0 p n (rotR p n As (eigI p n A S k)) M) by
  obtain ⟨b, hb⟩ := eigI_rf hP n A S k
  exact ih _ b _ _ _ w0 W M x1 hb hT hu)
 have hQl := fun (k : Nat) => (show (rotR p n As (eigI p n A S k)).length ≤ 28 by
  obtain ⟨b, hb⟩ := eigI_rf hP n A S k
  have h1 := length_rotR hP hAs hb
  have h2 := rf_le_n hp hb
  omega)
 have hQ1 := fun (k : Nat) => (show ∀ x ∈ rotR p n As (eigI p n A S k), x.1.length = As.length by
  obtain ⟨b, hb⟩ := eigI_rf hP n A S k
  exact fun x hx => ((rotR_ok hP As _ b hAs hb).2 x hx).2.2)
 have hPv : ∀ k, k < P → Go.Proofs.YtbnefjhljfbecaaGreatDoor.vec (pvs p) k = k := fun k hk => by rw [pvs, vec_tab (by omega)]
 have hPvl : (pvs p).length = P := by rw [length_pvs, hPn]
 have h1 := ((h.box [.int .i64 p, .int .i64 S.length, .int .i64 n, .slice A1 (flat n S).length c1] 32).pushOld hu.factW).pushOld hm0.fact
 have hMl : (mpL p n (A :: As)).length = As.length + 1 := by rw [mpL, List.length_map]; rfl
 obtain ⟨ml, hml⟩ : ∃ ml, ml = (mpL p n (A :: As)).length := ⟨_, rfl⟩
 obtain ⟨r, hr⟩ : ∃ r, r = S.length := ⟨_, rfl⟩
 obtain ⟨F, hF⟩ : ∃ F, F = flat n S := ⟨_, rfl⟩
 obtain ⟨IM, hIM⟩ : ∃ IM, IM = mulD p S.length n n (flat n S) A := ⟨_, rfl⟩
 obtain ⟨X, hX⟩ : ∃ X, X = rotR p n (A :: As) S := ⟨_, rfl⟩
 rw [← hX] at hE ⊢
 rw [← hIM] at hPl hTi
 rw [← hF] at hRo hTi hPl h1
 rw [← hr] at hRo hTi hPl hKe hKw hKn hCo h1 h0 hSl
 rw [← hml] at hIh hMl hcut
 rw [hPvl] at hIh h1
 rw [← hml, hPvl, ← hr, ← hF]
 have HRo := Lib.hid hRo
 have HTi := Lib.hid hTi
 have HPl := Lib.hid hPl
 have HMd := Lib.hid hMd
 have HKe := Lib.hid hKe
 have HKw := Lib.hid hKw
 have HKn := Lib.hid hKn
 have HCo := Lib.hid hCo
 have HSp := Lib.hid hSp
 have HMo := Lib.hid hMo
 have HIh := Lib.hid hIh
 have HQl := Lib.hid hQl
 have HQ1 := Lib.hid hQ1
 have HBd := Lib.hid hBd
 have HNx := Lib.hid hNx
 have HE := Lib.hid hE
 have HPv := Lib.hid hPv
 have HPvl := Lib.hid hPvl
 have Hr := Lib.hid hr
 have HF := Lib.hid hF
 have HMl := Lib.hid hMl
 have Hcut := Lib.hid hcut
 have HW := Lib.hid hW
 have HAl := Lib.hid hAl
 have Hp := Lib.hid hp
 have hPb : P ≤ 10007 := by omega
 have hr28 : r ≤ 28 := by omega
 have hr0 : ¬ ((r : Int) = 0) := by omega
 have hml0 : ¬ ((ml : Int) = 0) := by omega
 have im0 : 0 < ml := by omega
 have Hwk := Lib.hid (fun (k : Nat) (hk : k ≤ P) => (show IntKind.i64.wrap (-(k : Int)) = -(k : Int) from wrap_ok (by omega) (by omega)))
 clear h hS hv hu hA rA hAs hAl ih hP hp hp' hW hnn hPn hm hm0 hT hE hBd hNx hRo hTi hPl hMd hKe hKw hKn hCo hSp hMo hIh hQl hQ1 hPv hPvl hMl hml hr hF hIM hX h0 hcut
 obtain ⟨z0, z1, z2, z3⟩ := h1.box4 2 rfl
 go_enter Tryz.func49, Tryz.ntmps49
 have h2 := (h1.emptyRows.emptyMats).swap2
 simp only [World.size_alloc] at h2
 clear h1
 go_wp2_with fail
 refine (HRo.out _ _ (h2.ownInts 5 rfl)).mono ?_
 rintro (e : Ending) w2 ⟨u10, us1, rfl, hul1, hok1, hnd1, hb1⟩
 have h3 := h2.pushRows hb1 hok1 hnd1
 obtain ⟨A10, c10, rfl, _, _, _⟩ := id (h3.rowsR 0 rfl hul1)
 rw [← Hr.out] at h3 ⊢
 have Hul1 := Lib.hid (hul1.trans Hr.out.symm)
 clear z0 z1 z2 z3 h2 hul1 hok1 hnd1 hb1
 go_upto_region 7 with fail
 go_cut [11] (fun s11 wx => ∃ (B : Nat) (Ai : Option Addr) (ni ci : Nat), s11 = .pointer (some ⟨B, 0, none⟩) ∧ St w0 wx (.box B [.int .i64 p, .int .i64 r, .int .i64 n, .slice Ai ni ci] :: .own (.slice Ai ni ci) IM :: rowsIt (.slice A10 r c10) us1 S :: rowsIt (.slice (some ⟨w.heap.size + 1, 0, none⟩) 0 0) [] [] :: matsIt (.slice (some ⟨w.heap.size + 1 + 1, 0, none⟩) 0 0) [] [] :: .fact (fun w' => MtAt w' bm offm ⟨p, n, n, A⟩ (.slice Ad A.length cd)) :: .fact (fun w' => Ints w' (.slice A3 P c3) (pvs p)) :: .box w.heap.size [.int .i64 p, .int .i64 r, .int .i64 n, .slice A1 F.length c1] :: .own (.slice A1 F.length c1) F :: L))
 case first =>
  have g := h3.drew
  clear h3
  refine wp_region_cut (S := fun w' => (w'.cell? ⟨w.heap.size, 0, none⟩ = some (.int .i64 p) ∧ w'.cell? ⟨w.heap.size, 1, none⟩ = some (.int .i64 r) ∧ w'.cell? ⟨w.heap.size, 2, none⟩ = some (.int .i64 n) ∧ w'.cell? ⟨w.heap.size, 3, none⟩ = some (.slice A1 F.length c1)) ∧ (w'.cell? ⟨bm, offm, none⟩ = some (.int .i64 p) ∧ w'.cell? ⟨bm, offm + 1, none⟩ = some (.int .i64 n) ∧ w'.cell? ⟨bm, offm + 2, none⟩ = some (.int .i64 n) ∧ w'.cell? ⟨bm, offm + 3, none⟩ = some (.slice Ad A.length cd))) 6 (by kernel_rfl) (by kernel_rfl) ⟨g.box4 5 rfl, mtC (g.fact 3 rfl)⟩ (fun hHeld => ?_)
  simp only [List.take_succ_cons, List.take_zero]
  generalize w2.drew = v0 at g hHeld ⊢
  refine tkA 0 hHeld ?_
  refine tkA 1 hHeld ?_
  refine tkA 2 hHeld ?_
  refine tkA 3 hHeld ?_
  refine wpAnyH_ready (rs := [4, 5]) (by kernel_rfl) (by simp) ?_
  refine ready_cons rfl (fun K hK => ?_) (ready_cons rfl (fun K hK => ?_) AllReadyH.nil)
  ·go_simp
   refine (HTi.out _ _ _ (g.ownInts 6 rfl) (g.fact 3 rfl).2.2.2.2).mono ?_
   rintro (e : Ending) w4 ⟨u4, rfl, ho4, hb4⟩
   obtain ⟨Ai, ni, ci, rfl⟩ := ho4.slice
   replace g := g.pushOwn hb4 ho4
   show K _ _
   refine outA hK ?_ fun hHeld => ?_
   ·exact ⟨g.box4 6 rfl, mtC (g.fact 4 rfl)⟩
   clear hK K
   refine rcA 5 fun K hK => ?_
   go_simp
   replace g := g.box [.int .i64 0, .int .i64 0, .int .i64 0, .slice none 0 0] 32
   refine outA hK ?_ fun hHeld => ?_
   ·exact ⟨g.box4 7 rfl, mtC (g.fact 5 rfl)⟩
   clear hK K
   generalize w4.alloc (.cells #[.int .i64 0, .int .i64 0, .int .i64 0, .slice none 0 0] 32) = va at g hHeld ⊢
   refine wpAnyH_done (by kernel_rfl) ?_ _
   show wpList _ _ _ _ _ _
   simp only [List.drop_succ_cons, List.drop_zero]
   clear hHeld
   obtain ⟨p0, p1, p2, p3⟩ := g.box4 0 rfl
   have f0 := g.free 0 rfl 0
   have f1 := g.free 0 rfl 1
   have f2 := g.free 0 rfl 2
   have f3 := g.free 0 rfl 3
   have g4 := (((g.setBox 0 rfl 0 (.int .i64 p)).setBox 0 rfl 1 (.int .i64 r)).setBox 0 rfl 2 (.int .i64 n)).setBox 0 rfl 3 (.slice Ai ni ci)
   obtain ⟨r0, r1, r2, r3⟩ := g4.box4 0 rfl
   go_wp2
   go_meet
   exact ⟨_, Ai, ni, ci, rfl, g4⟩
  ·go_simp
   replace g := g.box [.int .i64 0, .int .i64 0, .int .i64 0, .slice none 0 0] 32
   refine outA hK ?_ fun hHeld => ?_
   ·exact ⟨g.box4 6 rfl, mtC (g.fact 4 rfl)⟩
   clear hK K
   refine rcA 4 fun K hK => ?_
   go_simp
   refine (HTi.out _ _ _ (g.ownInts 7 rfl) (g.fact 4 rfl).2.2.2.2).mono ?_
   rintro (e : Ending) w4 ⟨u4, rfl, ho4, hb4⟩
   obtain ⟨Ai, ni, ci, rfl⟩ := ho4.slice
   replace g := (g.pushOwn hb4 ho4).swap2
   show K _ _
   refine outA hK ?_ fun hHeld => ?_
   ·exact ⟨g.box4 7 rfl, mtC (g.fact 5 rfl)⟩
   clear hK K
   refine wpAnyH_done (by kernel_rfl) ?_ _
   show wpList _ _ _ _ _ _
   simp only [List.drop_succ_cons, List.drop_zero]
   clear hHeld
   obtain ⟨p0, p1, p2, p3⟩ := g.box4 0 rfl
   have f0 := g.free 0 rfl 0
   have f1 := g.free 0 rfl 1
   have f2 := g.free 0 rfl 2
   have f3 := g.free 0 rfl 3
   have g4 := (((g.setBox 0 rfl 0 (.int .i64 p)).setBox 0 rfl 1 (.int .i64 r)).setBox 0 rfl 2 (.int .i64 n)).setBox 0 rfl 3 (.slice Ai ni ci)
   obtain ⟨r0, r1, r2, r3⟩ := g4.box4 0 rfl
   go_wp2
   go_meet
   exact ⟨_, Ai, ni, ci, rfl, g4⟩
 obtain ⟨BI, Ai, ni, ci, rfl, h4⟩ := hcut
 obtain ⟨rows0, hrows0, mats0, hmats0, h5⟩ : ∃ v8, v8 = _ ∧ ∃ v9, v9 = _ ∧ St w0 _ (rowsIt v8 [] (lmL (rtT p n A As S 0)) :: matsIt v9 [] (lmM p n (rtT p n A As S 0)) :: .box BI [.int .i64 p, .int .i64 r, .int .i64 n, .slice Ai ni ci] :: .own (.slice Ai ni ci) IM :: rowsIt (.slice A10 r c10) us1 S :: .fact (fun w' => MtAt w' bm offm ⟨p, n, n, A⟩ (.slice Ad A.length cd)) :: .fact (fun w' => Ints w' (.slice A3 P c3) (pvs p)) :: .box w.heap.size [.int .i64 p, .int .i64 r, .int .i64 n, .slice A1 F.length c1] :: .own (.slice A1 F.length c1) F :: L) := ⟨_, rfl, _, rfl, ((h4.toFront 3 rfl).toFront 4 rfl).swap2⟩
 rw [← hrows0, ← hmats0]
 clear h4 hrows0 hmats0
 go_wp2
 go_loopw [8, 9, 13, 14, 15, 16, 17, 18, 19, 21, 22, 23, 24, 25, 47] (fun v8 v9 _ _ _ _ _ _ _ _ _ _ _ _ v47 wr => ∃ (k : Nat) (us us2 : List Value), v47 = .int .i64 k ∧ k ≤ P ∧ Hid (us.length = (rtT p n A As S k).length) ∧ Hid (us2.length = (rtT p n A As S k).length) ∧ St w0 wr (rowsIt v8 us (lmL (rtT p n A As S k)) :: matsIt v9 us2 (lmM p n (rtT p n A As S k)) :: .box BI [.int .i64 p, .int .i64 r, .int .i64 n, .slice Ai ni ci] :: .own (.slice Ai ni ci) IM :: rowsIt (.slice A10 r c10) us1 S :: .fact (fun w' => MtAt w' bm offm ⟨p, n, n, A⟩ (.slice Ad A.length cd)) :: .fact (fun w' => Ints w' (.slice A3 P c3) (pvs p)) :: .box w.heap.size [.int .i64 p, .int .i64 r, .int .i64 n, .slice A1 F.length c1] :: .own (.slice A1 F.length c1) F :: L)) (fun _ _ _ _ _ _ _ _ _ _ _ _ _ _ v47 _ => P - (intOf v47).toNat)
 case atStart => exact ⟨0, [], [], rfl, by omega, Lib.hid rfl, Lib.hid rfl, h5⟩
 case round =>
  clear h5
  obtain ⟨k, us, us2, rfl, a1, Hu, Hu2, g⟩ := hrel
  by_cases hk : k < P
  case neg =>
   obtain rfl : k = P := by omega
   rw [← HE.out] at g Hu Hu2
   obtain ⟨A8, n8, c8, rfl⟩ := g.rowsSlice 0 rfl (by rw [length_lmL]; exact Hu.out)
   obtain ⟨A9, n9, c9, rfl⟩ : ∃ A n c, u9 = .slice A n c := by
    obtain ⟨A, c, e, _⟩ := g.mats 1 rfl (by rw [length_lmM]; exact Hu2.out)
    exact ⟨A, _, c, e⟩
   go_wp2
   refine bodyPost_ret (v := .tuple #[.slice A8 n8 c8, .slice A9 n9 c9]) (by simp [results, Tryz.results49, go_sem]) rfl ?_
   exact ⟨_, us, _, us2, rfl, Hu.out, Hu2.out, g.del2.del2.del2.del2.del2.del2.del2⟩
  case pos =>
   have ik : (k : Int) < (P : Int) := by omega
   obtain ⟨bv, ov, rfl, _, xv⟩ := (g.fact 6 rfl).toB.cell (k := k) (by rw [HPvl.out]; exact hk)
   rw [HPv.out k hk] at xv
   have wk := Hwk.out k (by omega)
   have HMd1 := Lib.hid (fun W => HMd.out W k (by omega))
   have HPl1 := Lib.hid (fun W v1 v2 x1 x2 => HPl.out W v1 v2 k x1 x2)
   have HKe1 := Lib.hid (fun W v1 x1 => HKe.out W v1 k x1)
   obtain ⟨y, hy⟩ : ∃ y, y = (-(k : Int)) % p := ⟨_, rfl⟩
   rw [← hy] at HMd1 HPl1
   have h6 := g.emptyRows
   clear hy g
   go_upto_region 12 with fail
   obtain ⟨eq0, heq0, h7⟩ : ∃ v14, v14 = _ ∧ St w0 _ (rowsIt v14 [] [] :: rowsIt u8 us (lmL (rtT p n A As S k)) :: matsIt u9 us2 (lmM p n (rtT p n A As S k)) :: .box BI [.int .i64 p, .int .i64 r, .int .i64 n, .slice Ai ni ci] :: .own (.slice Ai ni ci) IM :: rowsIt (.slice A10 r c10) us1 S :: .fact (fun w' => MtAt w' bm offm ⟨p, n, n, A⟩ (.slice Ad A.length cd)) :: .fact (fun w' => Ints w' (.slice (some ⟨bv, ov, none⟩) P c3) (pvs p)) :: .box w.heap.size [.int .i64 p, .int .i64 r, .int .i64 n, .slice A1 F.length c1] :: .own (.slice A1 F.length c1) F :: L) := ⟨_, rfl, h6⟩
   rw [← heq0]
   clear h6 heq0
   go_cut [15] (fun s15 wx => ∃ (B : Nat) (Am : Option Addr) (nm cm : Nat), s15 = .pointer (some ⟨B, 0, none⟩) ∧ St w0 wx (.box B [.int .i64 p, .int .i64 r, .int .i64 n, .slice Am nm cm] :: .own (.slice Am nm cm) (movD p n A S k) :: rowsIt eq0 [] [] :: rowsIt u8 us (lmL (rtT p n A As S k)) :: matsIt u9 us2 (lmM p n (rtT p n A As S k)) :: .box BI [.int .i64 p, .int .i64 r, .int .i64 n, .slice Ai ni ci] :: .own (.slice Ai ni ci) IM :: rowsIt (.slice A10 r c10) us1 S :: .fact (fun w' => MtAt w' bm offm ⟨p, n, n, A⟩ (.slice Ad A.length cd)) :: .fact (fun w' => Ints w' (.slice (some ⟨bv, ov, none⟩) P c3) (pvs p)) :: .box w.heap.size [.int .i64 p, .int .i64 r, .int .i64 n, .slice A1 F.length c1] :: .own (.slice A1 F.length c1) F :: L))
   case first =>
    have g := h7.drew
    clear h7
    refine wp_region_cut (S := fun w' => (w'.cell? ⟨w.heap.size, 0, none⟩ = some (.int .i64 p) ∧ w'.cell? ⟨w.heap.size, 1, none⟩ = some (.int .i64 r) ∧ w'.cell? ⟨w.heap.size, 2, none⟩ = some (.int .i64 n) ∧ w'.cell? ⟨w.heap.size, 3, none⟩ = some (.slice A1 F.length c1)) ∧ (w'.cell? ⟨BI, 0, none⟩ = some (.int .i64 p) ∧ w'.cell? ⟨BI, 1, none⟩ = some (.int .i64 r) ∧ w'.cell? ⟨BI, 2, none⟩ = some (.int .i64 n) ∧ w'.cell? ⟨BI, 3, none⟩ = some (.slice Ai ni ci))) 9 (by kernel_rfl) (by kernel_rfl) ⟨g.box4 8 rfl, g.box4 3 rfl⟩ (fun hHeld => ?_)
    simp only [List.take_succ_cons, List.take_zero]
    obtain ⟨v0, hv0, g⟩ : ∃ v0, v0 = _ ∧ St w0 v0 _ := ⟨_, rfl, g⟩
    rw [← hv0] at hHeld ⊢
    clear hv0
    refine tkA 0 hHeld ?_
    refine tkA 1 hHeld ?_
    refine tkA 2 hHeld ?_
    refine tkA 3 hHeld ?_
    refine tkA 4 hHeld ?_
    refine tkA 6 hHeld ?_
    refine wpAnyH_ready (rs := [5, 8]) (by kernel_rfl) (by simp) ?_
    refine ready_cons rfl (fun K hK => ?_) (ready_cons rfl (fun K hK => ?_) AllReadyH.nil)
    ·go_simp
     refine (HMd1.out _).mono ?_
     rintro (e : Ending) w4 ⟨rfl, hb4⟩
     replace g := g.on hb4
     show K _ _
     refine outA hK ?_ fun hHeld => ?_
     ·exact ⟨g.box4 8 rfl, g.box4 3 rfl⟩
     clear hK K
     refine wpAnyH_ready (rs := [7, 8]) (by kernel_rfl) (by simp) ?_
     refine ready_cons rfl (fun K hK => ?_) (ready_cons rfl (fun K hK => ?_) AllReadyH.nil)
     ·go_simp
      refine (HPl1.out _ _ _ (g.ownInts 4 rfl) (g.ownInts 9 rfl)).mono ?_
      rintro (e : Ending) w5 ⟨u5, rfl, ho5, hb5⟩
      obtain ⟨Am, nm, cm, rfl⟩ := ho5.slice
      replace g := g.pushOwn hb5 ho5
      show K _ _
      refine outA hK ?_ fun hHeld => ?_
      ·exact ⟨g.box4 9 rfl, g.box4 4 rfl⟩
      clear hK K
      refine rcA 8 fun K hK => ?_
      go_simp
      replace g := g.box [.int .i64 0, .int .i64 0, .int .i64 0, .slice none 0 0] 32
      refine outA hK ?_ fun hHeld => ?_
      ·exact ⟨g.box4 10 rfl, g.box4 5 rfl⟩
      clear hK K
      generalize w5.alloc (.cells #[.int .i64 0, .int .i64 0, .int .i64 0, .slice none 0 0] 32) = va at g hHeld ⊢
      refine wpAnyH_done (by kernel_rfl) ?_ _
      show wpList _ _ _ _ _ _
      simp only [List.drop_succ_cons, List.drop_zero]
      clear hHeld
      obtain ⟨p0, p1, p2, p3⟩ := g.box4 0 rfl
      have f0 := g.free 0 rfl 0
      have f1 := g.free 0 rfl 1
      have f2 := g.free 0 rfl 2
      have f3 := g.free 0 rfl 3
      have g4 := (((g.setBox 0 rfl 0 (.int .i64 p)).setBox 0 rfl 1 (.int .i64 r)).setBox 0 rfl 2 (.int .i64 n)).setBox 0 rfl 3 (.slice Am nm cm)
      obtain ⟨r0, r1, r2, r3⟩ := g4.box4 0 rfl
      go_wp2
      go_meet
      exact ⟨_, Am, nm, cm, rfl, g4⟩
     ·go_simp
      replace g := g.box [.int .i64 0, .int .i64 0, .int .i64 0, .slice none 0 0] 32
      refine outA hK ?_ fun hHeld => ?_
      ·exact ⟨g.box4 9 rfl, g.box4 4 rfl⟩
      clear hK K
      refine rcA 7 fun K hK => ?_
      go_simp
      refine (HPl1.out _ _ _ (g.ownInts 5 rfl) (g.ownInts 10 rfl)).mono ?_
      rintro (e : Ending) w5 ⟨u5, rfl, ho5, hb5⟩
      obtain ⟨Am, nm, cm, rfl⟩ := ho5.slice
      replace g := (g.pushOwn hb5 ho5).swap2
      show K _ _
      refine outA hK ?_ fun hHeld => ?_
      ·exact ⟨g.box4 10 rfl, g.box4 5 rfl⟩
      clear hK K
      refine wpAnyH_done (by kernel_rfl) ?_ _
      show wpList _ _ _ _ _ _
      simp only [List.drop_succ_cons, List.drop_zero]
      clear hHeld
      obtain ⟨p0, p1, p2, p3⟩ := g.box4 0 rfl
      have f0 := g.free 0 rfl 0
      have f1 := g.free 0 rfl 1
      have f2 := g.free 0 rfl 2
      have f3 := g.free 0 rfl 3
      have g4 := (((g.setBox 0 rfl 0 (.int .i64 p)).setBox 0 rfl 1 (.int .i64 r)).setBox 0 rfl 2 (.int .i64 n)).setBox 0 rfl 3 (.slice Am nm cm)
      obtain ⟨r0, r1, r2, r3⟩ := g4.box4 0 rfl
      go_wp2
      go_meet
      exact ⟨_, Am, nm, cm, rfl, g4⟩
    ·go_simp
     replace g := g.box [.int .i64 0, .int .i64 0, .int .i64 0, .slice none 0 0] 32
     refine outA hK ?_ fun hHeld => ?_
     ·exact ⟨g.box4 9 rfl, g.box4 4 rfl⟩
     clear hK K
     refine rcA 5 fun K hK => ?_
     go_simp
     refine (HMd1.out _).mono ?_
     rintro (e : Ending) w4 ⟨rfl, hb4⟩
     replace g := g.on hb4
     show K _ _
     refine outA hK ?_ fun hHeld => ?_
     ·exact ⟨g.box4 9 rfl, g.box4 4 rfl⟩
     clear hK K
     refine rcA 7 fun K hK => ?_
     go_simp
     refine (HPl1.out _ _ _ (g.ownInts 5 rfl) (g.ownInts 10 rfl)).mono ?_
     rintro (e : Ending) w5 ⟨u5, rfl, ho5, hb5⟩
     obtain ⟨Am, nm, cm, rfl⟩ := ho5.slice
     replace g := (g.pushOwn hb5 ho5).swap2
     show K _ _
     refine outA hK ?_ fun hHeld => ?_
     ·exact ⟨g.box4 10 rfl, g.box4 5 rfl⟩
     clear hK K
     refine wpAnyH_done (by kernel_rfl) ?_ _
     show wpList _ _ _ _ _ _
     simp only [List.drop_succ_cons, List.drop_zero]
     clear hHeld
     obtain ⟨p0, p1, p2, p3⟩ := g.box4 0 rfl
     have f0 := g.free 0 rfl 0
     have f1 := g.free 0 rfl 1
     have f2 := g.free 0 rfl 2
     have f3 := g.free 0 rfl 3
     have g4 := (((g.setBox 0 rfl 0 (.int .i64 p)).setBox 0 rfl 1 (.int .i64 r)).setBox 0 rfl 2 (.int .i64 n)).setBox 0 rfl 3 (.slice Am nm cm)
     obtain ⟨r0, r1, r2, r3⟩ := g4.box4 0 rfl
     go_wp2
     go_meet
     exact ⟨_, Am, nm, cm, rfl, g4⟩
   obtain ⟨BM, Am, nm, cm, rfl, h8⟩ := hcut
   clear wk xv
   obtain ⟨M, hM⟩ : ∃ M, M = movD p n A S k := ⟨_, rfl⟩
   have hMl9 : M.length = r * n := by rw [hM, length_movD, ← Hr.out]
   rw [← hM] at h8 HKe1
   have HKw1 := Lib.hid (HKw.out k)
   have HKn1 := Lib.hid (HKn.out k)
   have HFn := Lib.hid (show fndL p n A S k = (kerL p r (eqsM r n M)).map fun q => combL q S n p by rw [fndL, hM, Hr.out])
   rw [← hM] at HKw1 HKn1
   have HMl9 := Lib.hid hMl9
   have hrn := mul_le hr28 hn
   have h9 := h8.toFront 2 rfl
   simp only [List.eraseIdx_cons_succ, List.eraseIdx_cons_zero] at h9
   obtain ⟨z0, z1, z2, z3⟩ := h9.box4 10 rfl
   obtain ⟨OL, hOL, h10⟩ : ∃ OL, OL = _ ∧ St w0 _ (rowsIt eq0 [] [] :: OL) := ⟨_, rfl, h9⟩
   clear hM hMl9 h8 h9
   go_wp2
   clear z0 z1 z2 z3
   go_loopw [14, 16, 17, 18, 62] (fun v14 _ _ _ v62 wr => ∃ (c : Nat) (us3 : List Value), v62 = .int .i64 c ∧ c ≤ n ∧ Hid (us3.length = c) ∧ St w0 wr (rowsIt v14 us3 ((eqsM r n M).take c) :: OL)) (fun _ _ _ _ v62 _ => n - (intOf v62).toNat)
   case atStart => exact ⟨0, [], rfl, by omega, Lib.hid rfl, by rw [List.take_zero]; exact h10⟩
   case round =>
    clear h10
    obtain ⟨c, us3, rfl, a2, Hu3, g⟩ := hrel
    by_cases hc : c < n
    case pos =>
     have HCt := Lib.hid (eqsM_take (r := r) (M := M) hc)
     have ic : (c : Int) < (n : Int) := by omega
     have h3 := g.empty
     go_wp2
     clear g
     go_loopw [17, 18, 68] (fun v17 _ v68 wr => ∃ i : Nat, v68 = .int .i64 i ∧ i ≤ r ∧ St w0 wr (.own v17 (tab i fun i => Go.Proofs.YtbnefjhljfbecaaGreatDoor.vec M (i * n + c)) :: rowsIt u14 us3 ((eqsM r n M).take c) :: OL)) (fun _ _ v68 _ => r - (intOf v68).toNat)
     case atStart => exact ⟨0, rfl, by omega, h3⟩
     case round =>
      clear h3
      obtain ⟨i, rfl, a4, h3⟩ := hrel
      by_cases hi : i < r
      case pos =>
       subst hOL
       have hlt2 : i * n + c < M.length := by rw [HMl9.out]; exact spot_lt hi hc
       have hM9 := HMl9.out
       obtain ⟨m0, m1', m2', m3⟩ := h3.box4 2 rfl
       obtain ⟨z0, z1, z2, z3⟩ := h3.box4 11 rfl
       obtain ⟨gm, rfl, rfl⟩ := h3.ownSomeA 3 rfl (by omega)
       have xD := (h3.ownCellA 3 rfl hlt2).1
       have HTn := Lib.hid (tab_nextR i fun i => Go.Proofs.YtbnefjhljfbecaaGreatDoor.vec M (i * n + c))
       obtain ⟨x, hx⟩ : ∃ x, x = Go.Proofs.YtbnefjhljfbecaaGreatDoor.vec M (i * n + c) := ⟨_, rfl⟩
       rw [← hx] at xD
       have HX := Lib.hid hx
       obtain ⟨m1, hm1⟩ : ∃ m1, m1 = i * n := ⟨_, rfl⟩
       obtain ⟨m2, hm2⟩ : ∃ m2, m2 = m1 + c := ⟨_, rfl⟩
       rw [← hm1, ← hm2] at hlt2 xD
       have t4 : (i : Int) * (n : Int) = (m1 : Int) := by rw [hm1]; simp
       have t5 : (m1 : Int) + (c : Int) = (m2 : Int) := by omega
       have w3 : IntKind.i64.wrap (m1 : Int) = m1 := wrap_ok (by omega) (by omega)
       have w4 : IntKind.i64.wrap (m2 : Int) = m2 := wrap_ok (by omega) (by omega)
       have i2 : (m2 : Int) < (M.length : Int) := by omega
       have ii : (i : Int) < (r : Int) := by omega
       have Hl1 := Lib.hid (show (tab i fun i => Go.Proofs.YtbnefjhljfbecaaGreatDoor.vec M (i * n + c)).length + 1 ≤ 17592186044416 by rw [length_tab]; omega)
       clear hm1 hm2 hlt2 hx hM9
       go_wp2_with (at_builtin; refine wp_append_ints rfl (.tmp 71) (.tmp 82) rfl w0.heap.size _ _ (tab i fun i => Go.Proofs.YtbnefjhljfbecaaGreatDoor.vec M (i * n + c)) [x] rfl rfl ((h3.alloc' _).own 0 rfl) Ints.one Hl1.out (h3.alloc' _).size ?_; intro v1 w7 ho1 hg1 hb1; have h4 := (h3.alloc' _).appended 0 rfl ho1 hg1 hb1)
       go_roundw
       case rel => exact ⟨i + 1, by go_num, by omega, by rw [HTn.out, ← HX.out]; exact h4⟩
       case measure => simp [intOf]; omega
      case neg =>
       obtain rfl : i = r := by omega
       have Hl2 := Lib.hid (show us3.length = ((eqsM i n M).take c).length by rw [Hu3.out, List.length_take, length_eqsM]; omega)
       have Hl3 := Lib.hid (show ((eqsM i n M).take c).length + 1 ≤ 1099511627776 by rw [← Hl2.out, Hu3.out]; omega)
       obtain ⟨A8, n8, c8, rfl⟩ := (h3.own 0 rfl).slice
       go_wp2_with (at_builtin; refine wp_append_row' rfl (.tmp 85) (.tmp 87) rfl h3 0 rfl Hl2.out rfl rfl Hl3.out ?_; intro v1 w1 h5)
       go_roundw
       case rel => exact ⟨c + 1, us3 ++ [_], by go_num, by omega, by show _ = _; rw [List.length_append, Hu3.out]; rfl, by rw [HCt.out]; exact h5⟩
       case measure => simp [intOf]; omega
    case neg =>
     obtain rfl : c = n := by omega
     have HTk := Lib.hid (show (eqsM r c M).take c = eqsM r c M from List.take_of_length_le (by rw [length_eqsM]; exact Nat.le_refl _))
     rw [HTk.out] at g
     have Hue := Lib.hid (show us3.length = (eqsM r c M).length by rw [Hu3.out, length_eqsM])
     obtain ⟨A14, c14, rfl, _, _, _⟩ := id (g.rowsR 0 rfl Hue.out)
     subst hOL
     have g1 := g.emptyRows
     obtain ⟨z0, z1, z2, z3⟩ := g1.box4 11 rfl
     clear g
     go_wp2_with fail
     refine (HKe1.out _ _ (g1.rowsR 1 rfl Hue.out)).mono ?_
     rintro (e : Ending) w5 ⟨u96, usk, rfl, hulk, hokk, hndk, hbk⟩
     have g2 := (g1.pushRows hbk hokk hndk).swap2
     obtain ⟨K, hK⟩ : ∃ K, K = kerL p r (eqsM r c M) := ⟨_, rfl⟩
     have hKw := HKw1.out
     have hKn := HKn1.out
     rw [← hK] at g2 hulk hKw hKn
     have HFk := Lib.hid (show fndL p c A S k = K.map fun q => combL q S c p by rw [HFn.out, hK])
     obtain ⟨A96, c96, rfl, _, _, _⟩ := id (g2.rowsR 1 rfl hulk)
     obtain ⟨Kl, hKl⟩ : ∃ Kl, Kl = K.length := ⟨_, rfl⟩
     rw [← hKl] at g2 hKn ⊢
     have HKl := Lib.hid hKl
     have Hulk := Lib.hid hulk
     have HKw2 := Lib.hid hKw
     clear z0 z1 z2 z3 g1 hbk hokk hndk hK hKl hulk hKw
     obtain ⟨OK, hOK, h11⟩ : ∃ OK, OK = _ ∧ St w0 _ (rowsIt _ [] [] :: rowsIt (.slice A96 Kl c96) usk K :: OK) := ⟨_, rfl, g2⟩
     clear g2
     go_wp2
     go_loopw [19, 21, 98] (fun v19 _ v98 wr => ∃ (j : Nat) (us4 : List Value), v98 = .int .i64 j ∧ j ≤ Kl ∧ Hid (us4.length = j) ∧ St w0 wr (rowsIt v19 us4 ((fndL p c A S k).take j) :: rowsIt (.slice A96 Kl c96) usk K :: OK)) (fun _ _ v98 _ => Kl - (intOf v98).toNat)
     case atStart => exact ⟨0, [], rfl, by omega, Lib.hid rfl, by rw [List.take_zero]; exact h11⟩
     case round =>
      clear h11
      obtain ⟨j, us4, rfl, a5, Hu4, g⟩ := hrel
      have HFl := Lib.hid (show (fndL p c A S k).length = Kl by rw [HFk.out, List.length_map, HKl.out])
      by_cases hj : j < Kl
      case pos =>
       subst hOK
       obtain ⟨gk, rfl⟩ := g.vecSome 1 rfl (by rw [← HKl.out]; omega)
       obtain ⟨Aj, cj, -, e0, e1⟩ := g.row 1 rfl Hulk.out HKl.out (k := j) (by rw [← HKl.out]; exact hj)
       obtain ⟨q1, q2⟩ := HKw2.out j (by rw [← HKl.out]; exact hj)
       have HTk2 := Lib.hid (show (fndL p c A S k).take (j + 1) = (fndL p c A S k).take j ++ [combL (rowOf K j) S c p] by
        have hl9 : j < (fndL p c A S k).length := by rw [HFl.out]; exact hj
        have hl8 : j < K.length := by rw [← HKl.out]; exact hj
        rw [List.take_succ_eq_append_getElem hl9]
        congr 2
        simp only [HFk.out, List.getElem_map, rowOf_eq hl8])
       have HCo1 := Lib.hid (fun W v1 v2 x1 x2 => HCo.out W v1 v2 (rowOf K j) x1 x2 q1 q2)
       obtain ⟨Kr, hKr⟩ : ∃ Kr, Kr = rowOf K j := ⟨_, rfl⟩
       rw [← hKr] at e0 e1 HCo1 HTk2
       have ij : (j : Int) < (Kl : Int) := by omega
       have Hl2 := Lib.hid (show us4.length = ((fndL p c A S k).take j).length by rw [Hu4.out, List.length_take, HFl.out]; omega)
       have Hl3 := Lib.hid (show ((fndL p c A S k).take j).length + 1 ≤ 1099511627776 by rw [← Hl2.out, Hu4.out]; omega)
       obtain ⟨z0, z1, z2, z3⟩ := g.box4 12 rfl
       clear hKr q1 q2
       go_wp2_with fail
       refine (HCo1.out _ _ _ e1 (g.rowsR 9 rfl (Hul1.out.trans Hr.out))).mono ?_
       rintro (e : Ending) w6 ⟨u6, rfl, ho6, hb6⟩
       obtain ⟨A6, n6, c6, rfl⟩ := ho6.slice
       have g1 := g.pushOwn hb6 ho6
       clear z0 z1 z2 z3 e0 e1 g ho6 hb6
       go_wp2_with (at_builtin; refine wp_append_row' rfl (.tmp 102) (.tmp 110) rfl g1 0 rfl Hl2.out rfl rfl Hl3.out ?_; intro v1 w7 g2)
       go_roundw
       case rel => exact ⟨j + 1, us4 ++ [_], by go_num, by omega, by show _ = _; rw [List.length_append, Hu4.out]; rfl, by rw [HTk2.out]; exact g2⟩
       case measure => simp [intOf]; omega
      case neg =>
       obtain rfl : j = Kl := by omega
       have HTk2 := Lib.hid (show (fndL p c A S k).take j = fndL p c A S k from List.take_of_length_le (by rw [HFl.out]; exact Nat.le_refl _))
       rw [HTk2.out] at g
       have Huf := Lib.hid (show us4.length = (fndL p c A S k).length by rw [Hu4.out, HFl.out])
       subst hOK
       have hcut := Hcut.out
       have HSp1 := Lib.hid (fun W v1 x1 => HSp.out W v1 k x1)
       have HMo1 := Lib.hid (fun W v1 x1 => HMo.out W v1 k x1)
       have HIh1 := Lib.hid (fun W t9 M x1 => HIh.out W t9 k M x1)
       have hQl := HQl.out k
       have hQ1 := HQ1.out k
       have hNx := HNx.out k
       obtain ⟨E, hE9⟩ : ∃ E, E = eigI p c A S k := ⟨_, rfl⟩
       rw [← hE9] at HSp1 HMo1 HIh1 hQl hQ1 hNx
       obtain ⟨El, hEl⟩ : ∃ El, El = E.length := ⟨_, rfl⟩
       rw [← hEl] at HMo1 HIh1
       obtain ⟨Q, hQ⟩ : ∃ Q, Q = rotR p c As E := ⟨_, rfl⟩
       rw [← hQ] at HIh1 hQl hQ1 hNx
       have HNx1 := Lib.hid hNx
       have HQ9 := Lib.hid hQ1
       clear hE9 hEl hQ hQ1 hNx
       go_upto_region 30 with fail
       have g0 := g.drew
       refine wp_region_held_drew (S := fun w' => (w'.cell? ⟨w.heap.size, 0, none⟩ = some (.int .i64 p) ∧ w'.cell? ⟨w.heap.size, 1, none⟩ = some (.int .i64 r) ∧ w'.cell? ⟨w.heap.size, 2, none⟩ = some (.int .i64 c) ∧ w'.cell? ⟨w.heap.size, 3, none⟩ = some (.slice A1 F.length c1))) (by kernel_rfl) (g0.box4 12 rfl) (fun hHeld => ?_)
       refine tkA 0 hHeld ?_
       refine tkA 1 hHeld ?_
       refine tkA 2 hHeld ?_
       refine tkA 3 hHeld ?_
       refine tkA 4 hHeld ?_
       refine tkA 5 hHeld ?_
       refine tkA 6 hHeld ?_
       refine tkA 7 hHeld ?_
       refine tkA 8 hHeld ?_
       refine tkA 11 hHeld ?_
       refine tkA 12 hHeld ?_
       refine tkA 13 hHeld ?_
       refine rcA 9 fun K hK => ?_
       go_simp
       refine (HSp1.out _ _ (g0.rowsR 0 rfl Huf.out)).mono ?_
       rintro (e : Ending) w6 ⟨u6, us6, rfl, hul6, hok6, hnd6, hb6⟩
       have g1 := g0.pushRows hb6 hok6 hnd6
       show K _ _
       refine outA hK ?_ fun hHeld => ?_
       ·exact (g1.box4 13 rfl)
       clear hK K
       refine rcA 10 fun K hK => ?_
       go_simp
       refine (HMo1.out _ _ (g1.rowsR 0 rfl hul6)).mono ?_
       rintro (e : Ending) w7 ⟨u7, rfl, ho7, hb7⟩
       obtain ⟨A7, n7, c7, rfl⟩ := ho7.slice
       have g2 := g1.pushOwn hb7 ho7
       show K _ _
       refine outA hK ?_ fun hHeld => ?_
       ·exact (g2.box4 14 rfl)
       clear hK K
       refine rcA 14 fun K hK => ?_
       go_simp
       refine (HIh1.out _ _ _ g2).mono ?_
       rintro (e : Ending) w8 ⟨v22, us22, v23, us23, rfl, hl22, hl23, g3⟩
       skip
       show K _ _
       refine outA hK ?_ fun hHeld => ?_
       ·exact (g3.box4 15 rfl)
       clear hK K
       refine tkA 15 hHeld ?_
       refine tkA 16 hHeld ?_
       refine tkA 17 hHeld ?_
       refine tkA 18 hHeld ?_
       refine tkA 19 hHeld ?_
       refine wpAnyH_done (by kernel_rfl) ?_ _
       clear hHeld
       clear g g0 g1 g2 hcut hok6 hnd6 hb6 ho7 hb7 hul6 HSp1 HMo1 HIh1
       obtain ⟨A22, c22, rfl, _, _, _⟩ := id (g3.rowsR 0 rfl (by rw [length_lmL]; exact hl22))
       obtain ⟨A23, c23, rfl, _, _, _⟩ := id (g3.mats 1 rfl (by rw [length_lmM]; exact hl23))
       obtain ⟨Ql, hQll⟩ : ∃ Ql, Ql = Q.length := ⟨_, rfl⟩
       rw [length_lmL, ← hQll] at g3 ⊢
       rw [length_lmM, ← hQll] at g3 ⊢
       have HQll := Lib.hid hQll
       have H22 := Lib.hid (hl22.trans hQll.symm)
       have H23 := Lib.hid (hl23.trans hQll.symm)
       have hQl28 : Ql ≤ 28 := by omega
       have g4 := (g3.toFront 9 rfl).toFront 9 rfl
       simp only [List.eraseIdx_cons_succ, List.eraseIdx_cons_zero] at g4
       obtain ⟨OM, hOM, h12⟩ : ∃ OM, OM = _ ∧ St w0 _ (rowsIt u8 us (lmL (rtT p c A As S k ++ (Q.take 0).map fun x => ((k : Int) :: x.1, x.2))) :: matsIt u9 us2 (lmM p c (rtT p c A As S k ++ (Q.take 0).map fun x => ((k : Int) :: x.1, x.2))) :: rowsIt (.slice A22 Ql c22) us22 (lmL Q) :: ptIt (.slice A23 Ql c23) us23 (lmM p c Q) 0 :: OM) := ⟨_, rfl, by rw [List.take_zero, List.map_nil, List.append_nil, ptIt_zero]; exact g4⟩
       clear g3 g4 hl22 hl23 hQll hQl
       go_wp2
       go_loopw [8, 9, 24, 25, 133] (fun v8 v9 _ _ v133 wr => ∃ (i : Nat) (us us2 : List Value), v133 = .int .i64 i ∧ i ≤ Ql ∧ Hid (us.length = (rtT p c A As S k).length + i) ∧ Hid (us2.length = (rtT p c A As S k).length + i) ∧ St w0 wr (rowsIt v8 us (lmL (rtT p c A As S k ++ (Q.take i).map fun x => ((k : Int) :: x.1, x.2))) :: matsIt v9 us2 (lmM p c (rtT p c A As S k ++ (Q.take i).map fun x => ((k : Int) :: x.1, x.2))) :: rowsIt (.slice A22 Ql c22) us22 (lmL Q) :: ptIt (.slice A23 Ql c23) us23 (lmM p c Q) i :: OM)) (fun _ _ _ _ v133 _ => Ql - (intOf v133).toNat)
       case atStart => exact ⟨0, us, us2, rfl, by omega, by show _ = _; rw [Hu.out]; rfl, by show _ = _; rw [Hu2.out]; rfl, h12⟩
       case round =>
        clear h12 Hu Hu2
        obtain ⟨i, us, us2, rfl, a6, Hu, Hu2, g⟩ := hrel
        have hBk := HBd.out k (by omega)
        by_cases hi : i < Ql
        case pos =>
         have hiQ : i < Q.length := by rw [← HQll.out]; exact hi
         have hq : Q[i]? = some Q[i] := List.getElem?_eq_getElem hiQ
         have hTk3 : (Q.take (i + 1)).map (fun x => ((k : Int) :: x.1, x.2)) = (Q.take i).map (fun x => ((k : Int) :: x.1, x.2)) ++ [((k : Int) :: Q[i].1, Q[i].2)] := by
          rw [List.take_succ_eq_append_getElem hiQ, List.map_append]; rfl
         obtain ⟨Ls, hLs⟩ : ∃ Ls, Ls = Q[i].1 := ⟨_, rfl⟩
         obtain ⟨E2, hE2⟩ : ∃ E2, E2 = Q[i].2 := ⟨_, rfl⟩
         have hLl : Ls.length = As.length := by rw [hLs]; exact HQ9.out _ (List.getElem_mem hiQ)
         rw [← hLs, ← hE2] at hTk3
         have hgl : (lmL Q)[i]? = some Ls := by rw [lmL, List.getElem?_map, hq, hLs]; rfl
         have hgm : (lmM p c Q)[i]? = some (rsM p c E2) := by rw [lmM, List.getElem?_map, hq, hE2]; rfl
         have hrl : rowOf (lmL Q) i = Ls := by rw [rowOf, List.getD_eq_getElem?_getD, hgl]; rfl
         have hLq : (lmL Q).length = Ql := by rw [length_lmL, ← HQll.out]
         have hLm : (lmM p c Q).length = Ql := by rw [length_lmM, ← HQll.out]
         obtain ⟨gr, rfl⟩ := g.vecSome 2 rfl (by omega)
         obtain ⟨gp, rfl⟩ := g.vecSome 3 rfl (by omega)
         obtain ⟨Ar, cr, -, e0, e1⟩ := g.row 2 rfl (H22.out.trans hLq.symm) hLq.symm (k := i) (by omega)
         rw [hrl] at e0 e1
         obtain ⟨A15, c15, hu8⟩ := g.ptV 3 rfl (H23.out.trans hLm.symm) hgm
         have Hu8 := Lib.hid hu8
         have Hm8 := Lib.hid hgm
         have HLm := Lib.hid hLm
         have HTk3 := Lib.hid hTk3
         have hll := fun j : Nat => (show (rtT p c A As S k ++ (Q.take j).map fun x => ((k : Int) :: x.1, x.2)).length = (rtT p c A As S k).length + min j Ql by rw [List.length_append, List.length_map, List.length_take, ← HQll.out])
         have hmi : min i Ql = i := by omega
         have HLen := Lib.hid (show [(k : Int)].length + Ls.length ≤ 17592186044416 by rw [hLl]; have := HAl.out; simp; omega)
         have Hl2 := Lib.hid (show us.length = (lmL (rtT p c A As S k ++ (Q.take i).map fun x => ((k : Int) :: x.1, x.2))).length by rw [length_lmL, hll, hmi]; exact Hu.out)
         have Hl3 := Lib.hid (show (lmL (rtT p c A As S k ++ (Q.take i).map fun x => ((k : Int) :: x.1, x.2))).length + 1 ≤ 1099511627776 by rw [length_lmL, hll]; omega)
         have Hl4 := Lib.hid (show us2.length = (lmM p c (rtT p c A As S k ++ (Q.take i).map fun x => ((k : Int) :: x.1, x.2))).length by rw [length_lmM, hll, hmi]; exact Hu2.out)
         have Hl5 := Lib.hid (show (lmM p c (rtT p c A As S k ++ (Q.take i).map fun x => ((k : Int) :: x.1, x.2))).length + 1 ≤ 1099511627776 by rw [length_lmM, hll]; omega)
         have He1 := Lib.hid e1
         have ii : (i : Int) < (Ql : Int) := by omega
         clear hq hTk3 hLs hE2 hLl hgl hgm hrl hLq hLm hu8 hll hmi hiQ e1
         go_wp2_with (first
          | (at_builtin; refine wp_append_ints rfl (.tmp 140) (.tmp 141) rfl w0.heap.size _ _ [(k : Int)] Ls rfl rfl ((g.oneI (k : Int)).own 0 rfl) (He1.out.below ((Below.refl _ _).alloc (Nat.le_refl _) _)) HLen.out (g.oneI (k : Int)).size ?_; intro v1 w9 ho1 hg1 hb1; have q1 := (g.oneI (k : Int)).appended 0 rfl ho1 hg1 hb1; obtain ⟨A7, n7, c7, rfl⟩ := (q1.own 0 rfl).slice)
          | (at_builtin; refine wp_append_row' rfl (.tmp 138) (.tmp 143) rfl q1 0 rfl Hl2.out rfl rfl Hl3.out ?_; intro v2 w10 q2; have q3 := q2.ptOff 3 rfl Hu8.out Hm8.out; obtain ⟨x0, x1, x2, x3⟩ := q2.ptCells 3 rfl HLm.out i Hu8.out Hm8.out; simp only [List.set_cons_zero, List.set_cons_succ] at q3)
          | (at_builtin; refine wp_append_mat rfl (.tmp 145) (.tmp 150) rfl (rsM p c E2) q3 1 rfl Hl4.out rfl rfl Hl5.out ?_; intro v3 w11 q4))
         simp only [List.set_cons_zero, List.set_cons_succ] at q4
         clear g q1 q2 q3 ho1 hg1 hb1 x0 x1 x2 x3 e0
         go_roundw
         case rel => exact ⟨i + 1, us ++ [_], us2 ++ [_], by go_num, by omega, by show _ = _; rw [List.length_append, Hu.out]; rfl, by show _ = _; rw [List.length_append, Hu2.out]; rfl, by rw [HTk3.out, ← List.append_assoc, lmL_app _ [_], lmM_app _ _ _ [_]]; exact q4⟩
         case measure => simp [intOf]; omega
        case neg =>
         obtain rfl : i = Ql := by omega
         have HTk3 := Lib.hid (show rtT p c A As S k ++ (Q.take i).map (fun x => ((k : Int) :: x.1, x.2)) = rtT p c A As S (k + 1) by rw [List.take_of_length_le (by rw [HQll.out]; exact Nat.le_refl _), ← HNx1.out])
         have hlN : (rtT p c A As S (k + 1)).length = (rtT p c A As S k).length + i := by rw [HNx1.out, List.length_append, List.length_map, HQll.out]
         have HlN := Lib.hid hlN
         rw [HTk3.out] at g
         subst hOM
         clear hlN
         go_wp2
         go_roundw
         case rel => exact ⟨k + 1, us, us2, by go_num, by omega, by show _ = _; rw [HlN.out]; exact Hu.out, by show _ = _; rw [HlN.out]; exact Hu2.out, g.del2.del2.del2.del2.del2.del2.del2.del2⟩
         case measure => simp [intOf]; omega
theorem eigenspaces_any (p : Int) (n : Nat) (hP : isPrime p = true) (hn : n ≤ 28) : ∀ As : List (List Int), (∀ B ∈ As, B.length = n * n ∧ resid p B = true) → As.length ≤ 1000 → EgAt p n As
 | [], _, _ => fun S a t v u w0 w L h hS hv hu => by
  by_cases h0 : S.length = 0
  ·exact eigenspaces_zero p n [] S t v u w0 w L h h0
  ·exact eigenspaces_nil p n S t v u w0 w L h h0 hv
 | A :: As, hA, hl => by
  rw [List.length_cons] at hl
  exact eigenspaces_cons p n A As hP hn (hA A (by simp)).1 (hA A (by simp)).2 (fun B hB => (hA B (by simp [hB])).1) (by omega) (eigenspaces_any p n hP hn As (fun B hB => hA B (by simp [hB])) (by omega))
end
end Go.Proofs.YtbnefjhljfbecaaGreatDoor
