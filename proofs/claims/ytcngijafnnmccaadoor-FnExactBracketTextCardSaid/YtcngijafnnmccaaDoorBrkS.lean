/- BracketText of the reference. -/
import Derived.Test.YtcngijafnnmccaaDoorBrkP
import Derived.Test.YtcngijafnnmccaaDoorBrkF
namespace Go.Proofs.YtcngijafnnmccaaDoor
set_option maxRecDepth 100000
open Go.RowKit
namespace Words

/-- The text of a word. -/
def txt (l : List Int) : ByteArray := ⟨(brk l.length l).toArray⟩
theorem txt_one {l : List Int} {x : Int} (h : l = [x]) : txt l = dig x := by
  subst h
  rfl
theorem txt_cut {l : List Int} (h : 2 ≤ l.length) : txt l = (((⟨#[91]⟩ ++ txt (l.take (cutPlace l))) ++ ⟨#[44]⟩) ++ txt (l.drop (cutPlace l))) ++ ⟨#[93]⟩ := by
  obtain ⟨hc1, hc2⟩ := cutPlace_bd l h
  have e : brk l.length l = [91] ++ brk (l.take (cutPlace l)).length (l.take (cutPlace l)) ++ [44] ++ brk (l.drop (cutPlace l)).length (l.drop (cutPlace l)) ++ [93] := by
    obtain ⟨f, hf⟩ : ∃ f, l.length = f + 1 := ⟨l.length - 1, by omega⟩
    rw [hf]
    conv => lhs; unfold brk
    rw [if_neg (by omega)]
    rw [brk_fuel f _ (l.take (cutPlace l)) (by rw [List.length_take]; omega) (by rw [List.length_take]; omega) (Nat.le_refl _)]
    rw [brk_fuel f _ (l.drop (cutPlace l)) (by rw [List.length_drop]; omega) (by rw [List.length_drop]; omega) (Nat.le_refl _)]
  unfold txt
  rw [e]
  apply ByteArray.ext
  simp [ByteArray.data_append]

theorem byteStr (n : Int) (u : UInt8) (hn : n = (u.toNat : Int)) (W : World) : (convert 70 9 (.slice (some ⟨W.heap.size, 0, none⟩) 1 1)).run Tryd.prog (W.alloc (.cells #[.int .u8 n] 5)) = .ok (.string ⟨#[u]⟩) (W.alloc (.cells #[.int .u8 n] 5)) := by
  refine run_convert_bytes_back (P := Tryd.prog) _ 70 9 5 ⟨W.heap.size, 0, none⟩ 1 [u] Tryd.underlying70 Tryd.underlying5 Tryd.underlying9 (fun j hj => ?_)
  have hj0 : j = 0 := by simpa using hj
  subst hj0
  show (W.alloc (.cells #[.int .u8 n] 5)).cell? ⟨W.heap.size, 0, none⟩ = _
  rw [World.cell?_alloc_new, hn]
  rfl
set_option maxHeartbeats 1000000 in
theorem FormatIntS_any (x : Int) (hx : 0 ≤ x) (hx' : x ≤ 3) (w : World) :
    Calls Tryd.prog 58 #[.int .i64 x] w fun e w' => e = .returned (.string (dig x)) ∧ Below w.heap.size w w' := by
  by_cases h0 : x = 0
  · subst h0
    go_enter Tryd.func58, Tryd.ntmps58
    go_wp2
    go_ret
    exact ⟨rfl, Below.refl _ _⟩
  have h4 : x = 1 ∨ x = 2 ∨ x = 3 := by omega
  clear hx hx' h0
  go_enter Tryd.func58, Tryd.ntmps58
  rcases h4 with rfl | rfl | rfl
  · go_wp2
    have hcv := byteStr 49 (UInt8.ofNat 49) (by decide) w
    go_loopw [3, 4] (fun v3 v4 wr => (v4 = .int .i64 1 ∧ v3 = .string ⟨#[]⟩ ∧ wr = w) ∨ (v4 = .int .i64 0 ∧ v3 = .string (dig 1) ∧ Below w.heap.size w wr)) (fun _ v4 _ => (intOf v4).toNat)
    case atStart => exact .inl ⟨rfl, rfl, rfl⟩
    case round =>
      rcases hrel with ⟨rfl, rfl, rfl⟩ | ⟨rfl, rfl, hb⟩
      · go_wp2
        go_roundw
        case rel => exact .inr ⟨rfl, rfl, (Below.refl _ _).alloc (Nat.le_refl _) _⟩
        case measure => simp [intOf]
      · clear hcv
        go_wp2
        go_ret
        exact ⟨rfl, hb⟩
  · go_wp2
    have hcv := byteStr 50 (UInt8.ofNat 50) (by decide) w
    go_loopw [3, 4] (fun v3 v4 wr => (v4 = .int .i64 2 ∧ v3 = .string ⟨#[]⟩ ∧ wr = w) ∨ (v4 = .int .i64 0 ∧ v3 = .string (dig 2) ∧ Below w.heap.size w wr)) (fun _ v4 _ => (intOf v4).toNat)
    case atStart => exact .inl ⟨rfl, rfl, rfl⟩
    case round =>
      rcases hrel with ⟨rfl, rfl, rfl⟩ | ⟨rfl, rfl, hb⟩
      · go_wp2
        go_roundw
        case rel => exact .inr ⟨rfl, rfl, (Below.refl _ _).alloc (Nat.le_refl _) _⟩
        case measure => simp [intOf]
      · clear hcv
        go_wp2
        go_ret
        exact ⟨rfl, hb⟩
  · go_wp2
    have hcv := byteStr 51 (UInt8.ofNat 51) (by decide) w
    go_loopw [3, 4] (fun v3 v4 wr => (v4 = .int .i64 3 ∧ v3 = .string ⟨#[]⟩ ∧ wr = w) ∨ (v4 = .int .i64 0 ∧ v3 = .string (dig 3) ∧ Below w.heap.size w wr)) (fun _ v4 _ => (intOf v4).toNat)
    case atStart => exact .inl ⟨rfl, rfl, rfl⟩
    case round =>
      rcases hrel with ⟨rfl, rfl, rfl⟩ | ⟨rfl, rfl, hb⟩
      · go_wp2
        go_roundw
        case rel => exact .inr ⟨rfl, rfl, (Below.refl _ _).alloc (Nat.le_refl _) _⟩
        case measure => simp [intOf]
      · clear hcv
        go_wp2
        go_ret
        exact ⟨rfl, hb⟩

theorem txt_size (l : List Int) (h : 1 ≤ l.length) : (txt l).size + 3 ≤ 4 * l.length := by
  have := brk_len l.length l h
  unfold txt
  show (brk l.length l).toArray.size + 3 ≤ _
  rw [List.size_toArray]
  exact this
/-- The four sums of the text of a word that is cut. -/
def Sums (T1 T2 T : ByteArray) : Prop := ∃ S1 S2 S3 : ByteArray, (∀ W : World, (Op.stringOp .add ⟨#[91]⟩ T1).run Tryd.prog W = .ok (.string S1) W) ∧ (∀ W : World, (Op.stringOp .add S1 ⟨#[44]⟩).run Tryd.prog W = .ok (.string S2) W) ∧ (∀ W : World, (Op.stringOp .add S2 T2).run Tryd.prog W = .ok (.string S3) W) ∧ (∀ W : World, (Op.stringOp .add S3 ⟨#[93]⟩).run Tryd.prog W = .ok (.string T) W)
theorem sums_cut {l : List Int} (h : 2 ≤ l.length) (h8 : l.length ≤ 8) : Sums (txt (l.take (cutPlace l))) (txt (l.drop (cutPlace l))) (txt l) := by
  obtain ⟨hc1, hc2⟩ := cutPlace_bd l h
  have h1 := txt_size (l.take (cutPlace l)) (by rw [List.length_take]; omega)
  have h2 := txt_size (l.drop (cutPlace l)) (by rw [List.length_drop]; omega)
  rw [List.length_take] at h1
  rw [List.length_drop] at h2
  have e : ∀ n : UInt8, (⟨#[n]⟩ : ByteArray).size = 1 := fun _ => rfl
  refine ⟨_, _, _, fun W => run_string_add_sum W _ _ ?_, fun W => run_string_add_sum W _ _ ?_, fun W => run_string_add_sum W _ _ ?_, fun W => ?_⟩
  · rw [e]; omega
  · rw [ByteArray.size_append, e, e]; omega
  · rw [ByteArray.size_append, ByteArray.size_append, e, e]; omega
  · rw [txt_cut h]
    refine run_string_add_sum W _ _ ?_
    rw [ByteArray.size_append, ByteArray.size_append, ByteArray.size_append, e, e, e]; omega

set_option maxHeartbeats 2000000 in
theorem l11Text_any : ∀ (m : Nat) (l : List Int), l.length ≤ m → isLyn l = true → ∀ (v : Value) (w : World), Ints w v l →
    Calls Tryd.prog 32 #[v] w fun e w' => e = .returned (.string (txt l)) ∧ Below w.heap.size w w' := by
  intro m
  induction m with
  | zero => intro l hl h; exact absurd h (by rw [List.eq_nil_of_length_eq_zero (Nat.le_zero.1 hl)]; decide)
  | succ m ih =>
    intro l hl h v w hv
    have h8 := len_of_word h
    by_cases h1 : l.length = 1
    · obtain ⟨x, rfl⟩ : ∃ x, l = [x] := by
        match l, h1 with
        | [x], _ => exact ⟨x, rfl⟩
      have hx : inR x 0 3 = true := by
        unfold isLyn word letters at h
        simp at h
        exact h.1.2
      simp [inR] at hx
      rw [txt_one rfl]
      obtain ⟨A, c, rfl, _, _, h3⟩ := hv
      obtain ⟨b, off, rfl, hc⟩ := h3 (by simp)
      have e1 := hc 0 x rfl
      have HF := Lib.hid (fun W => FormatIntS_any x hx.1 hx.2 W)
      obtain ⟨D, hD⟩ : ∃ D, D = dig x := ⟨_, rfl⟩
      rw [← hD] at HF ⊢
      clear hD hc h3 h hl h8 ih h1 hx
      simp only [List.length_singleton, Nat.add_zero] at e1 ⊢
      go_enter Tryd.func32, Tryd.ntmps32
      go_wp2_with fail
      refine (HF.out _).mono ?_
      rintro (e : Ending) w3 ⟨rfl, hb⟩
      go_wp2
      go_ret
      exact ⟨rfl, hb⟩
    · have h2 : 2 ≤ l.length := by
        have := h
        unfold isLyn word at this
        simp [inR] at this
        omega
      obtain ⟨k1, k2⟩ := cut_lyn h2 h
      obtain ⟨hc1, hc2⟩ := cutPlace_bd l h2
      have HT := sums_cut h2 (by omega)
      have hi1 := ih (l.take (cutPlace l)) (by rw [List.length_take]; omega) k1
      have hi2 := ih (l.drop (cutPlace l)) (by rw [List.length_drop]; omega) k2
      have HC := Lib.hid (l11Cut_any v l w hv h2 (by omega))
      obtain ⟨T, hT⟩ : ∃ T, T = txt l := ⟨_, rfl⟩
      rw [← hT] at HT ⊢
      obtain ⟨lt, hlt⟩ : ∃ lt, lt = l.take (cutPlace l) := ⟨_, rfl⟩
      obtain ⟨ld, hld⟩ : ∃ ld, ld = l.drop (cutPlace l) := ⟨_, rfl⟩
      rw [← hlt, ← hld] at HT
      rw [← hlt, ← hld] at HC
      rw [← hlt] at hi1
      rw [← hld] at hi2
      obtain ⟨T1, hT1⟩ : ∃ T1, T1 = txt lt := ⟨_, rfl⟩
      obtain ⟨T2, hT2⟩ : ∃ T2, T2 = txt ld := ⟨_, rfl⟩
      rw [← hT1] at HT hi1
      rw [← hT2] at HT hi2
      have H1 := Lib.hid hi1
      have H2 := Lib.hid hi2
      obtain ⟨A, c, rfl, _, _, _⟩ := id hv
      have hL1 : ¬ ((l.length : Int) = 1) := by omega
      obtain ⟨S1, S2, S3, f1, f2, f3, f4⟩ := HT
      obtain ⟨L, hL⟩ : ∃ L, L = l.length := ⟨_, rfl⟩
      rw [← hL] at HC hL1 ⊢
      clear hT hlt hld hT1 hT2 hi1 hi2 ih h hl h8 h1 h2 k1 k2 hc1 hc2 hv hL
      go_enter Tryd.func32, Tryd.ntmps32
      go_wp2_with fail
      refine HC.out.mono ?_
      rintro (e : Ending) w3 ⟨u, v, rfl, mid, o1, o2, hb, m1, m2⟩
      go_wp2_with fail
      refine (H1.out _ _ o1.ints).mono ?_
      rintro (e : Ending) w4 ⟨rfl, hb4⟩
      have o3 := o2.below hb4 (by omega)
      go_wp2_with fail
      refine (H2.out _ _ o3.ints).mono ?_
      rintro (e : Ending) w5 ⟨rfl, hb5⟩
      go_wp2
      go_ret
      exact ⟨rfl, hb.trans ((hb4.mono (by have := hb.size; omega)).trans (hb5.mono (by have := hb.size; have := hb4.size; omega)))⟩

end Words
end Go.Proofs.YtcngijafnnmccaaDoor
