/- Lyndon words, the reference's side: all words of a length (l11LyndonWords). RetRows has the same name as in Factor: never import both. -/
import Derived.Test.YtmohkpgojkipkaaLynS
import Derived.Test.YtmohkpgojkipkaaRows3
namespace Go.Proofs.Ytmohkpgojkipkaa
set_option maxRecDepth 100000
open Go.RowKit
namespace Words

/-- A new slice of rows is returned. -/
def RetRows (w : World) (ll : List (List Int)) (e : Ending) (w' : World) : Prop := ∃ u, e = .returned u ∧ OwnRows w' w.heap.size w'.heap.size u ll ∧ Below w.heap.size w w'
noncomputable def lynW (q n : Nat) : List (List Int) := (frm q [] (List.replicate n 0)).map (List.map Int.ofNat)

theorem nxt_small {q : Nat} : ∀ {l : List Nat}, (∀ x, x ∈ l → x < q) → ∀ x, x ∈ nxt (q - 1) l → x < q := by
  intro l
  induction l with
  | nil => intro _ x hx; exact absurd hx (by show ¬ x ∈ ([] : List Nat); simp)
  | cons y l ih =>
    intro h x hx
    have ih := ih fun x hx => h x (by simp [hx])
    have hx1 : x ∈ (List.rec (motive := fun _ => List Nat) (Bool.rec [Nat.succ y] [] (Nat.beq y (q - 1))) (fun z zs _ => y :: z :: zs) (nxt (q - 1) l) : List Nat) := hx
    have hy := h y (by simp)
    revert ih hx1
    cases nxt (q - 1) l with
    | nil =>
      intro _ hx1
      cases hb : Nat.beq y (q - 1) with
      | true => rw [hb] at hx1; exact absurd hx1 (by show ¬ x ∈ ([] : List Nat); simp)
      | false =>
        rw [hb] at hx1
        have hx2 : x ∈ [y + 1] := hx1
        have hne : y ≠ q - 1 := fun e => by rw [e, Nat.beq_refl] at hb; exact absurd hb (by decide)
        have := List.mem_singleton.1 hx2
        omega
    | cons z zs =>
      intro ih hx1
      have hx2 : x ∈ y :: z :: zs := hx1
      rcases List.mem_cons.1 hx2 with e | e
      · rw [e]; exact hy
      · exact ih x e
theorem rep_small {q n : Nat} {lw : List Nat} (hne : lw ≠ []) (hb : ∀ x, x ∈ lw → x < q) : ∀ x, x ∈ rep lw n lw → x < q := by
  intro x hx
  rw [rep_eq lw hne n [] lw rfl] at hx
  obtain ⟨k, _, rfl⟩ := List.mem_map.1 hx
  have hlt : (([] : List Nat).length + k) % lw.length < lw.length := Nat.mod_lt _ (List.length_pos_iff.2 hne)
  simp only [List.getD, List.getElem?_eq_getElem hlt, Option.getD_some]
  exact hb _ (List.getElem_mem hlt)
theorem nxt_length (top : Nat) : ∀ l : List Nat, (nxt top l).length ≤ l.length := by
  intro l
  induction l with
  | nil => exact Nat.le_refl _
  | cons y l ih =>
    show (List.rec (motive := fun _ => List Nat) (Bool.rec [Nat.succ y] [] (Nat.beq y top)) (fun z zs _ => y :: z :: zs) (nxt top l) : List Nat).length ≤ l.length + 1
    revert ih
    cases nxt top l with
    | nil => intro _; cases Nat.beq y top <;> simp
    | cons z zs => intro ih; simp at ih ⊢; omega

theorem own_len {w : World} {lo n c : Nat} {A : Option Addr} {l : List Int} (h : Own w lo (.slice A n c) l) : n = l.length := by
  rcases h.2 with ⟨h', h0⟩ | ⟨g', cap', cur, h', _⟩
  · simp only [Value.slice.injEq] at h'
    omega
  · simp only [Value.slice.injEq] at h'
    exact h'.2.1
theorem own_zero {W : World} {lo : Nat} (hlo : lo ≤ W.heap.size) : Own (W.alloc (.cells #[.int .i64 0] 3)) lo (.slice (some ⟨W.heap.size, 0, none⟩) 1 1) [0] :=
  World.ownsRow_lit (base := lo) (e := 3) (size := 1) W #[.int .i64 0] 1 hlo (by simp [maxLen]) rfl
theorem rows_top {w : World} {lo hi : Nat} {v : Value} {ll : List (List Int)} (h : OwnRows w lo hi v ll) : ∀ k, v.ownBlock = some k → k < hi := by
  obtain ⟨_, _, h, _⟩ := h
  exact h
set_option maxHeartbeats 1000000 in
theorem l11LyndonWords_any (q n : Nat) (w : World) (hq1 : 1 ≤ q) (hq2 : q ≤ 4) (hn : n ≤ 8) (hn1 : 1 ≤ n) (hB : (lynW q n).length ≤ 65536) :
    Calls Try.prog 23 #[.int .i64 q, .int .i64 n] w (RetRows w (lynW q n)) := by
  obtain ⟨f, hf⟩ := run_all hq1 hq2 hn1 hn
  unfold lynW at hB ⊢
  obtain ⟨X, hX⟩ : ∃ X, X = frm q [] (List.replicate n 0) := ⟨_, rfl⟩
  rw [← hX] at hf hB ⊢
  rw [List.length_map] at hB
  have HF := Lib.hid hf
  clear hf hX
  go_enter Try.func23, Try.ntmps23
  go_wp2
  go_loopg [5, 6] f (fun gk v5 v6 wr => ∃ (mid : Nat) (B : Option Addr) (d : Nat) (l : List Nat) (done ex : List (List Nat)), v6 = .slice B l.length d ∧ OwnRows wr w.heap.size mid v5 (done.map (List.map Int.ofNat)) ∧ OwnIn wr mid wr.heap.size (.slice B l.length d) (l.map Int.ofNat) ∧ w.heap.size ≤ mid ∧ mid ≤ wr.heap.size ∧ Below w.heap.size w wr ∧ l.length ≤ 8 ∧ Hid (∀ x, x ∈ l → x < q) ∧ Hid (chk (q - 1) n gk l ex = true) ∧ Hid (X = done ++ ex))
  case atStart =>
    have s1 : (w.alloc (.cells #[] 31)).heap.size = w.heap.size + 1 := World.size_alloc _ _
    have o1 : OwnRows (w.alloc (.cells #[] 31)) w.heap.size (w.heap.size + 1) (.slice (some ⟨w.heap.size, 0, none⟩) 0 0) [] := OwnRows.empty (Nat.le_refl _)
    have b1 : Below w.heap.size w (w.alloc (.cells #[] 31)) := (Below.refl _ _).alloc (Nat.le_refl _) _
    have b2 : Below (w.alloc (.cells #[] 31)).heap.size (w.alloc (.cells #[] 31)) ((w.alloc (.cells #[] 31)).alloc (.cells #[.int .i64 0] 3)) := (Below.refl _ _).alloc (Nat.le_refl _) _
    have o2 := own_zero (W := w.alloc (.cells #[] 31)) (Nat.le_refl _)
    refine ⟨w.heap.size + 1, _, 1, [0], [], X, rfl, o1.below b2 (by omega), ?_, by omega, by have := b2.size; omega, b1.trans (b2.mono (by omega)), by simp, Lib.hid (fun x hx => by rw [List.mem_singleton.1 hx]; exact hq1), HF, Lib.hid rfl⟩
    rw [s1] at o2
    exact o2.toIn
  case round =>
    obtain ⟨mid, B, d, l, done, ex, rfl, ho, hl, hm1, hm2, hb, a1, HS, HC, HX⟩ := hrel
    by_cases h0 : 0 < l.length
    · have hne : l ≠ [] := List.length_pos_iff.1 h0
      obtain ⟨g, rfl, hstep⟩ := chk_step HC.out hne
      have HS2 := Lib.hid (nxt_small (rep_small (n := n) hne HS.out))
      have hZl : (nxt (q - 1) (rep l n l)).length ≤ 8 := by
        have h5 := nxt_length (q - 1) (rep l n l)
        have h6 := length_rep l hne n
        omega
      obtain ⟨Z, hZ⟩ : ∃ Z, Z = nxt (q - 1) (rep l n l) := ⟨_, rfl⟩
      have HN := Lib.hid (fun (W : World) (hi : Ints W (.slice B l.length d) (l.map Int.ofNat)) => l11Next_any _ l q n W hi hne a1 hq1 hq2 hn hn1 HS.out)
      rw [← hZ] at HS2 hZl hstep HN
      clear hZ hne HC HS
      have hblk := fun k hk => (ho.lt k hk).1
      have htop := rows_top ho
      by_cases hln : l.length = n
      · rw [if_pos hln] at hstep
        obtain ⟨es, rfl, hc⟩ := hstep
        have HC := Lib.hid hc
        have HX2 := Lib.hid (show X = (done ++ [l]) ++ es by rw [HX.out, List.append_assoc]; rfl)
        have hdl : (done.map (List.map Int.ofNat)).length + 1 ≤ 1099511627776 := by
          have h5 := congrArg List.length HX.out
          rw [List.length_append] at h5
          rw [List.length_map]; omega
        have Hdl := Lib.hid hdl
        clear hc hdl HX
        subst hln
        go_wp2_with (at_builtin; refine wp_append_row rfl (.tmp 16) (.tmp 18) rfl w.heap.size mid mid u5 (.slice B l.length d) (done.map (List.map Int.ofNat)) (l.map Int.ofNat) rfl rfl ho hl (Nat.le_refl _) hm1 Hdl.out hb.size ?_; intro v2 w2 ho2 hg2 _)
        have hl2 := hl.grownNot hg2 (fun k hk => .inl (htop k hk))
        have hb2 := hb.grown hg2 hb.size hblk
        refine (HN.out _ hl2.ints).mono ?_
        rintro (e : Ending) w3 ⟨u3, rfl, ho3, hb3⟩
        obtain ⟨A3, n3, c3, rfl⟩ := ho3.slice
        obtain rfl := own_len ho3
        have s3 := hb3.size
        have s2 := hb2.size
        go_wp2
        go_roundg g
        case measure => omega
        case rel => exact ⟨w2.heap.size, A3, c3, Z, done ++ [l], es, rfl, by rw [List.map_append]; exact ho2.below hb3 (Nat.le_refl _), by have h9 := ho3.toIn; rwa [List.length_map] at h9, s2, s3, hb2.trans (hb3.mono s2), hZl, HS2, HC, HX2⟩
      · rw [if_neg hln] at hstep
        have HC := Lib.hid hstep
        clear hstep
        go_wp2_with fail
        refine (HN.out _ hl.ints).mono ?_
        rintro (e : Ending) w3 ⟨u3, rfl, ho3, hb3⟩
        obtain ⟨A3, n3, c3, rfl⟩ := ho3.slice
        obtain rfl := own_len ho3
        have s3 := hb3.size
        have s2 := hb.size
        go_wp2
        go_roundg g
        case measure => omega
        case rel => exact ⟨wr.heap.size, A3, c3, Z, done, ex, rfl, (ho.more hm2).below hb3 (Nat.le_refl _), by have h9 := ho3.toIn; rwa [List.length_map] at h9, s2, s3, hb.trans (hb3.mono s2), hZl, HS2, HC, HX⟩
    · have hl0 : l = [] := List.eq_nil_of_length_eq_zero (by omega)
      have hex : ex = [] := chk_end (by rw [← hl0]; exact HC.out)
      have hXd : X = done := by rw [HX.out, hex, List.append_nil]
      have HXd := Lib.hid hXd
      clear hl0 hex hXd
      go_wp2
      go_ret
      exact ⟨_, rfl, by rw [HXd.out]; exact ho.more hm2, hb⟩

end Words
end Go.Proofs.Ytmohkpgojkipkaa
