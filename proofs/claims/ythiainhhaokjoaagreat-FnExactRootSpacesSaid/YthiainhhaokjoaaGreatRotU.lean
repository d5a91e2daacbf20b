/- RootSpaces of the reference: the function itself. -/
import Derived.Test.YthiainhhaokjoaaGreatRotT
import Derived.Test.YthiainhhaokjoaaGreatTorS
namespace Go.Proofs.YthiainhhaokjoaaGreat
set_option maxRecDepth 100000
open Go.RowKit

/-- What RootSpaces answers. -/
def rotL (p n : Int) (T : List Int) (q r c : Int) (D : List Int) : List (List Int × List (List Int)) := if torOk p n T q r c D then rotR p n.toNat ((rowsM r.toNat n.toNat D).map fun x => adM T x n.toNat p) (uniR n.toNat) else []

/-- A toral space. -/
theorem tor_spec {p n q r c : Int} {T D : List Int} (h : torOk p n T q r c D = true) : ∃ m a : Nat, n = m ∧ q = p ∧ r = a ∧ c = m ∧ m ≤ 28 ∧ T.length = m * m * m ∧ resid p T = true ∧ isPrime p = true ∧ D.length = a * m ∧ resid p D = true ∧ p ≤ 101 ∧ ∃ b, Rf p m (rowsM a m D) b := by
  simp only [torOk, Bool.and_eq_true] at h
  obtain ⟨h1, h2⟩ := h
  obtain ⟨c1, c2, rfl, rfl⟩ := subOk_spec h1
  obtain ⟨m, rfl, m28, kT, rT, k4, k5, hP⟩ := algOk_spec c1
  obtain ⟨a, b, rfl, eb, ka, kb, kD, rD, -⟩ := matOk_spec (spaceOk_mat c2)
  have eb' : m = b := by omega
  subst eb'
  have h3 : q ≤ 101 := by
    have := h2
    simp only [decide_eq_true_eq] at this
    omega
  obtain ⟨n', R, a', e1, e2, e3, hR, -⟩ := spaceOk_rf c2
  have e1' : m = n' := by omega
  have e2' : a = R.length := by omega
  refine ⟨m, a, rfl, rfl, rfl, rfl, m28, kT, rT, hP, kD, rD, h3, a', ?_⟩
  rw [e3, e2', ← e1', rowsM_flat (by rw [e1']; exact hR.wf), e1']
  exact hR

set_option maxHeartbeats 2000000 in
theorem RootSpacesS_any (p n q r c : Int) (t u : Value) (T D : List Int) (w : World) (ht : Ints w t T) (hu : Ints w u D) (hp : p ≤ 9223372036854775807) (hq : q ≤ 9223372036854775807) :
    Calls Tryz.prog 7 #[.agg #[.int .i64 p, .int .i64 n, t], .agg #[.int .i64 q, .int .i64 r, .int .i64 c, u]] w (RetLM w p n.toNat (rotL p n T q r c D)) := by
  have h1 := ((((St.start w).arg ht).arg hu).box [.int .i64 p, .int .i64 n, t] 33).box [.int .i64 q, .int .i64 r, .int .i64 c, u] 35
  simp only [World.size_alloc] at h1
  obtain ⟨A, k, rfl, _, _, _⟩ := id ht
  obtain ⟨A1, k1, rfl, _, _, _⟩ := id hu
  have HI := Lib.hid (fun (W : World) (x1 : Ints W (.slice A T.length k) T) (x2 : Ints W (.slice A1 D.length k1) D) => IsToralS_any p n q r c _ _ T D W x1 x2 hp hq)
  obtain ⟨X, hX⟩ : ∃ X, X = rotL p n T q r c D := ⟨_, rfl⟩
  rw [← hX]
  obtain ⟨x0, x1, x2⟩ := h1.box3 1 rfl
  obtain ⟨y0, y1, y2, y3⟩ := h1.box4 0 rfl
  clear ht hu
  by_cases b1 : torOk p n T q r c D = true
  case neg =>
    have b1 : torOk p n T q r c D = false := by simpa using b1
    have HF := Lib.hid (show X = [] by rw [hX, rotL, b1]; rfl)
    have B1 := Lib.hid b1
    clear b1 hX
    go_enter Tryz.func7, Tryz.ntmps7
    go_wp2_with fail
    refine (HI.out _ (h1.roInts 3 rfl) (h1.roInts 2 rfl)).mono ?_
    rintro (e : Ending) w3 ⟨rfl, hb3⟩
    have g1 := h1.on hb3
    rw [B1.out]
    go_wp2
    refine bodyPost_ret (v := .tuple #[.slice none 0 0, .slice none 0 0]) (by simp [results, Tryz.results7, go_sem]) rfl ?_
    rw [HF.out]
    exact RetLM.nil g1.below
  case pos =>
    obtain ⟨m, a, rfl, rfl, rfl, rfl, m28, kT, rT, hP, kD, rD, -, b, hb⟩ := tor_spec b1
    have hF : X = rotR q m ((rowsM a m D).map fun x => adM T x m q) (uniR m) := by rw [hX, rotL, if_pos b1, Int.toNat_natCast, Int.toNat_natCast]
    have HL := Lib.hid (show ∀ (W : World), Ints W (.slice A T.length k) T → Ints W (.slice A1 D.length k1) D → Calls Tryz.prog 35 #[.agg #[.int .i64 q, .int .i64 m, .slice A T.length k], .agg #[.int .i64 q, .int .i64 a, .int .i64 m, .slice A1 D.length k1]] W (RetLM W q m X) from fun W x1 x2 => by
      have h9 := l7RootSpaces_any q m _ _ T (rowsM a m D) b W x1 (show Ints W (.slice A1 D.length k1) (flat m (rowsM a m D)) by rw [flat_rowsM kD]; exact x2) kT rT hb m28 hP
      rw [length_rowsM] at h9
      rw [hF]; exact h9)
    have B1 := Lib.hid b1
    rw [Int.toNat_natCast]
    clear b1 hX hF kT rT kD rD hb hP
    go_enter Tryz.func7, Tryz.ntmps7
    go_wp2_with fail
    refine (HI.out _ (h1.roInts 3 rfl) (h1.roInts 2 rfl)).mono ?_
    rintro (e : Ending) w3 ⟨rfl, hb3⟩
    have g1 := h1.on hb3
    rw [B1.out]
    clear x0 x1 x2 y0 y1 y2 y3 h1 hb3
    obtain ⟨x0, x1, x2⟩ := g1.box3 1 rfl
    obtain ⟨y0, y1, y2, y3⟩ := g1.box4 0 rfl
    go_wp2_with fail
    refine (HL.out _ (g1.roInts 3 rfl) (g1.roInts 2 rfl)).mono ?_
    rintro (e : Ending) w4 ⟨v1, us1, v2, us2, rfl, hl1, hl2, hst⟩
    have g2 := g1.pushLM hst
    obtain ⟨A6, n6, c6, rfl⟩ := g2.rowsSlice 0 rfl (by rw [length_lmL]; exact hl1)
    obtain ⟨A7, n7, c7, rfl⟩ : ∃ A n c, v2 = .slice A n c := by
      obtain ⟨A, c, e, _⟩ := g2.mats 1 rfl (by rw [length_lmM]; exact hl2)
      exact ⟨A, _, c, e⟩
    clear g1 hst x0 x1 x2 y0 y1 y2 y3
    go_wp2
    refine bodyPost_ret (v := .tuple #[.slice A6 n6 c6, .slice A7 n7 c7]) (by simp [results, Tryz.results7, go_sem]) rfl ?_
    exact ⟨_, us1, _, us2, rfl, hl1, hl2, g2.re [0, 1] (by decide) (fun j => by rcases j with _ | _ | j <;> rfl)⟩
end Go.Proofs.YthiainhhaokjoaaGreat
