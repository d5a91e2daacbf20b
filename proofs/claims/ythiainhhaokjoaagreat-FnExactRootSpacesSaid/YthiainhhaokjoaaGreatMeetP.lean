/- What two spaces have in common, as plain lists: the kernel of the kernel of rows is their span. -/
import Derived.Test.YthiainhhaokjoaaGreatKer
namespace Go.Proofs.YthiainhhaokjoaaGreat
set_option maxRecDepth 100000
open Go.RowKit

theorem ker_ker {p : Int} (hP : isPrime p = true) {n : Nat} {R : List (List Int)} (hR : Wf p n R) {f : Nat → Int} : Sp p n (kerL p n (kerL p n R)) f ↔ Sp p n R f := by
  have hp := (isPrime_bd hP).1
  rw [kerL_iff hP (Wf_kerL hP n R)]
  constructor
  · intro h
    have hS := spanL_rf hP hR
    have hw := Wf_kerTab hp n (spanL p n R) (pivL p n R) n
    have hk : ∀ g, Sp p n (kerTab p n (spanL p n R) (pivL p n R) n) g → ∃ u, sumTo n (fun c => g c * f c) = p * u := fun g hg => h.sp (by rw [kerL_span]; exact hg.trans (spanL_out hP hw))
    have hsp : Sp p n (spanL p n R) f := by
      obtain ⟨S, hSe⟩ : ∃ S, S = spanL p n R := ⟨_, rfl⟩
      obtain ⟨piv, hpe⟩ : ∃ piv, piv = pivL p n R := ⟨_, rfl⟩
      rw [← hSe, ← hpe] at hS hk
      rw [← hSe]
      have h1 : Sp p n S (fun d => sumTo S.length fun j => f (pv piv j) * vec (rowOf S j) d) := sp_sum_of (g := fun j => vec (rowOf S j)) (fun j => f (pv piv j)) S.length (fun j hj => .row j hj)
      have hpz : ∀ i, i < piv.length → sumTo S.length (fun j => f (pv piv j) * vec (rowOf S j) (pv piv i)) = f (pv piv i) := fun i hi => by
        rw [sumTo_congr (g := fun j => if j = i then f (pv piv i) else 0) (fun j hj => by
          by_cases e : j = i
          · subst e; rw [hS.one j hi, if_pos rfl]; omega
          · rw [hS.off i j hi (by rw [← hS.len]; exact hj) (fun e2 => e e2.symm), if_neg e]; simp)]
        exact sumTo_single (by rw [hS.len]; exact hi) (fun _ => f (pv piv i))
      refine h1.congr fun d hd => ?_
      by_cases hdp : d ∈ piv
      · obtain ⟨i, hi, rfl⟩ := mem_pv hdp
        exact ⟨0, by rw [hpz i hi]; omega⟩
      · have hmem : Sp p n (kerTab p n S piv n) (vec (kerV p n S piv d)) := mem_rows (List.mem_map.2 ⟨d, mem_freeTo.2 ⟨hd, hdp⟩, rfl⟩)
        obtain ⟨u, hu⟩ := hk _ hmem
        obtain ⟨v, hv⟩ := ((ker_iff hp hS).1 hmem).sp h1
        have hx : ∀ c, c < n → ∃ x, vec (kerV p n S piv d) c * f c - (sumTo S.length fun j => f (pv piv j) * vec (rowOf S j) c) * vec (kerV p n S piv d) c - (if c = d then f d - (sumTo S.length fun j => f (pv piv j) * vec (rowOf S j) d) else 0) = p * x := fun c hc => by
          by_cases hcp : c ∈ piv
          · obtain ⟨i, hi, rfl⟩ := mem_pv hcp
            rw [hpz i hi, if_neg (fun e => hdp (by rw [← e]; exact hcp))]
            exact ⟨0, by grind⟩
          · rw [vec_kerV_free hS hd hdp hc hcp]
            by_cases e : c = d
            · subst e; exact ⟨0, by simp⟩
            · exact ⟨0, by simp [e]⟩
        obtain ⟨x, hx⟩ := sumTo_dvd hx
        have e : sumTo n (fun c => vec (kerV p n S piv d) c * f c - (sumTo S.length fun j => f (pv piv j) * vec (rowOf S j) c) * vec (kerV p n S piv d) c - (if c = d then f d - (sumTo S.length fun j => f (pv piv j) * vec (rowOf S j) d) else 0))
            = sumTo n (fun c => vec (kerV p n S piv d) c * f c) - sumTo n (fun c => (sumTo S.length fun j => f (pv piv j) * vec (rowOf S j) c) * vec (kerV p n S piv d) c) - (f d - (sumTo S.length fun j => f (pv piv j) * vec (rowOf S j) d)) := by
          have e9 := sumTo_single hd (fun _ => f d - (sumTo S.length fun j => f (pv piv j) * vec (rowOf S j) d))
          have e8 : ∀ (m : Nat) (a b c : Nat → Int), sumTo m (fun i => a i - b i - c i) = sumTo m a - sumTo m b - sumTo m c := fun m a b c => by
            induction m with
            | zero => rfl
            | succ m ih => rw [sumTo, sumTo, sumTo, sumTo, ih]; omega
          rw [e8, e9]
        rw [e, hu, hv] at hx
        exact ⟨x - u + v, by grind⟩
    exact hsp.trans (spanL_in hP hR)
  · intro h i hi
    obtain ⟨u, hu⟩ := ((kerL_iff hP hR).1 (.row i hi)).sp h
    exact ⟨u, by rw [← hu]; exact sumTo_congr fun _ _ => Int.mul_comm _ _⟩

theorem Kr_app {p : Int} {n : Nat} {X Y : List (List Int)} {f : Nat → Int} : Kr p n (X ++ Y) f ↔ Kr p n X f ∧ Kr p n Y f := by
  rw [Kr_iff_mem, Kr_iff_mem, Kr_iff_mem]
  exact ⟨fun h => ⟨fun l hl => h l (List.mem_append_left _ hl), fun l hl => h l (List.mem_append_right _ hl)⟩, fun h l hl => (List.mem_append.1 hl).elim (h.1 l) (h.2 l)⟩
/-- What two spaces have in common. -/
def meetL (p : Int) (n : Nat) (A B : List (List Int)) : List (List Int) := kerL p n (spanL p n (kerL p n A ++ kerL p n B))
theorem meet_iff {p : Int} (hP : isPrime p = true) {n : Nat} {A B : List (List Int)} (hA : Wf p n A) (hB : Wf p n B) {f : Nat → Int} : Sp p n (meetL p n A B) f ↔ Sp p n A f ∧ Sp p n B f := by
  have w1 := Wf_kerL hP n A
  have w2 := Wf_kerL hP n B
  rw [meetL, kerL_iff hP ((w1.app w2).spanL hP), Kr_span hP (w1.app w2), Kr_app, ← kerL_iff hP w1, ← kerL_iff hP w2, ker_ker hP hA, ker_ker hP hB]
theorem meet_rf {p : Int} (hP : isPrime p = true) (n : Nat) (A B : List (List Int)) : ∃ a, Rf p n (meetL p n A B) a := kerL_rf hP n _
/-- Two reduced bases of one space. -/
theorem rf_ext {p : Int} (hP : isPrime p = true) {n : Nat} {R S : List (List Int)} {a b : List Nat} (hR : Rf p n R a) (hS : Rf p n S b) (h : ∀ f, Sp p n R f ↔ Sp p n S f) : R = S := by
  have e := (spanL_eq hP hR.wf hS.wf (fun i hi => (h _).1 (.row i hi)) (fun i hi => (h _).2 (.row i hi))).1
  rwa [(spanL_self hP hR).1, (spanL_self hP hS).1] at e
end Go.Proofs.YthiainhhaokjoaaGreat
