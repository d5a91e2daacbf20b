/- Cartan matrices, the plain law: the parts of a matrix, as the reference finds them; the types of a rank, as the program lists them. -/
import Derived.Test.YtcngijafnnmccaaGreatDoorCarP
namespace Go.Proofs.YtcngijafnnmccaaGreatDoor
set_option maxRecDepth 100000
namespace Car

/-- The rows that a row leads to go behind those that are known. -/
def grow (n : Nat) (D : List Int) (x : Nat) (out : List Nat) : List Nat := (List.range n).foldl (fun o j => if en n D x j ≠ 0 ∧ j ∉ o then o ++ [j] else o) out
def partF (n : Nat) (D : List Int) : Nat → Nat → List Nat → List Nat
  | 0, _, out => out
  | f + 1, k, out => if k < out.length then partF n D f (k + 1) (grow n D (out.getD k 0) out) else out
def part (n : Nat) (D : List Int) (i : Nat) : List Nat := partF n D n 0 [i]
/-- The name of a part. -/
def fnd (n : Nat) (D : List Int) (rows : List Nat) : Option Nat := (List.range 12).foldl (fun o k => if rk k = rows.length ∧ bt n D (rk k) (mx k) rows (rk k) [] = true then some k else o) none
/-- A name put into its place. -/
def ins (k : Nat) : List Nat → List Nat
  | [] => [k]
  | x :: xs => if k < x then k :: x :: xs else x :: ins k xs
def partsF (n : Nat) (D : List Int) : Nat → Nat → List Nat → List Nat → Option (List Nat)
  | 0, _, out, _ => some out
  | f + 1, i, out, done => if i ∈ done then partsF n D f (i + 1) out done else match fnd n D (part n D i) with
    | none => none
    | some k => partsF n D f (i + 1) (ins k out) (done ++ part n D i)
def fair (n : Nat) (D : List Int) : Bool := (List.range D.length).all fun i => decide (-3 ≤ D.getD i 0 ∧ D.getD i 0 ≤ 2) && (D.getD i 0 == 0 || D.getD ((i % n) * n + i / n) 0 != 0)
def parts (n : Nat) (D : List Int) : Option (List Nat) := if fair n D = true then partsF n D n 0 [] [] else none

/-- The lists of names in ascending order with a sum of ranks. -/
def tyL : Nat → Nat → Nat → List (List Nat)
  | 0, _, _ => []
  | _ + 1, 0, _ => [[]]
  | f + 1, r + 1, from_ => (List.range' from_ (12 - from_)).flatMap fun i => if rk i ≤ r + 1 then (tyL f (r + 1 - rk i) i).map (fun t => i :: t) else []
def tys (n : Nat) : List (List Nat) := tyL 5 n 0
/-- The entries of the matrix of some parts. -/
def dE : List Nat → Nat → Nat → Int
  | [], _, _ => 0
  | k :: t, a, b => if a < rk k then (if b < rk k then en (rk k) (mx k) a b else 0) else (if b < rk k then 0 else dE t (a - rk k) (b - rk k))
def due (n : Nat) (t : List Nat) : List Int := (List.range (n * n)).map fun q => dE t (q / n) (q % n)
def carI (n : Nat) (D : List Int) : Bool := (tys n).any fun t => bt n D n (due n t) (List.range n) n []

theorem en_due {n : Nat} {t : List Nat} {a b : Nat} (ha : a < n) (hb : b < n) : en n (due n t) a b = dE t a b := by
  have h : a * n + b < n * n := by
    calc a * n + b < a * n + n := by omega
      _ = (a + 1) * n := by rw [Nat.succ_mul]
      _ ≤ n * n := Nat.mul_le_mul_right _ ha
  unfold en due
  simp only [List.getD, List.getElem?_map, List.getElem?_range h, Option.map_some, Option.getD_some]
  rw [Nat.mul_comm a n, Nat.mul_add_div (by omega), Nat.div_eq_of_lt hb, Nat.mul_add_mod, Nat.mod_eq_of_lt hb, Nat.add_zero]

/-! Part 1: what the program takes, the reference takes. -/
def plc (o : List Nat) (i : Nat) : Nat := o.findIdx (· == i)
def perm (n : Nat) (E : List Int) (o : List Nat) : List Int := (List.range (n * n)).map fun q => en n E (plc o (q / n)) (plc o (q % n))
def orders (n : Nat) : Nat → List (List Nat)
  | 0 => [[]]
  | f + 1 => (orders n f).flatMap fun l => ((List.range n).filter fun x => !l.contains x).map fun x => l ++ [x]
def taken (n : Nat) : Bool := (tys n).all fun t => (orders n n).all fun o => (parts n (perm n (due n t) o)).isSome
set_option maxRecDepth 100000
theorem taken_1 : taken 1 = true := by decide +kernel
theorem taken_2 : taken 2 = true := by decide +kernel
theorem taken_3 : taken 3 = true := by decide +kernel
theorem taken_4 : taken 4 = true := by decide +kernel

theorem orders_mem (n : Nat) (o : List Nat) (hb : ∀ x, x ∈ o → x < n) (hn : o.Nodup) : ∀ f, f ≤ o.length → o.take f ∈ orders n f := by
  intro f
  induction f with
  | zero => intro _; simp [orders]
  | succ f ih =>
    intro h
    unfold orders
    have hx : f < o.length := by omega
    have e : o.take (f + 1) = o.take f ++ [o[f]] := by rw [List.take_succ_eq_append_getElem hx]
    rw [e]
    refine List.mem_flatMap.2 ⟨_, ih (by omega), List.mem_map.2 ⟨o[f], ?_, rfl⟩⟩
    rw [List.mem_filter]
    refine ⟨List.mem_range.2 (hb _ (List.getElem_mem hx)), ?_⟩
    have : o[f] ∉ o.take f := by
      intro hm
      obtain ⟨i, hi, ei⟩ := List.mem_take_iff_getElem.1 hm
      have h9 := List.nodup_iff_pairwise_ne.1 hn
      rw [List.pairwise_iff_getElem] at h9
      exact h9 i f (by omega) hx (by omega) ei
    simpa using this
def allIn (n : Nat) : Bool := (orders n n).all fun o => (List.range n).all fun i => o.contains i
theorem nodup_all {n : Nat} (h1 : 1 ≤ n) (h4 : n ≤ 4) {o : List Nat} (hl : o.length = n) (hb : ∀ x, x ∈ o → x < n) (hn : o.Nodup) : ∀ i, i < n → i ∈ o := by
  intro i hi
  have hm := orders_mem n o hb hn n (by omega)
  rw [List.take_of_length_le (by omega)] at hm
  have ha : allIn n = true := by
    have : n = 1 ∨ n = 2 ∨ n = 3 ∨ n = 4 := by omega
    rcases this with rfl | rfl | rfl | rfl <;> decide +kernel
  unfold allIn at ha
  have := List.all_eq_true.1 (List.all_eq_true.1 ha o hm) i (List.mem_range.2 hi)
  simpa using this
theorem idx_spec {o : List Nat} {i : Nat} (h : i ∈ o) : plc o i < o.length ∧ o.getD (plc o i) 0 = i := by
  unfold plc
  have h1 : o.findIdx (· == i) < o.length := List.findIdx_lt_length_of_exists ⟨i, h, by simp⟩
  refine ⟨h1, ?_⟩
  have h2 := List.findIdx_getElem (w := h1)
  rw [List.getD_eq_getElem?_getD, List.getElem?_eq_getElem h1]
  simpa using h2
theorem perm_eq {n : Nat} (hn1 : 1 ≤ n) (hn4 : n ≤ 4) {D E : List Int} {o : List Nat} (hD : D.length = n * n) (h : Fit n D n E (List.range n) o) : D = perm n E o := by
  obtain ⟨h1, h2, h3, h4⟩ := h
  have hm := nodup_all hn1 hn4 h1 (fun x hx => List.mem_range.1 (h2 x hx)) h3
  refine List.ext_getElem? fun q => ?_
  by_cases hq2 : q < n * n
  · have e1 : q / n < n := Nat.div_lt_of_lt_mul hq2
    have e2 : q % n < n := Nat.mod_lt _ hn1
    obtain ⟨a1, a2⟩ := idx_spec (hm _ e1)
    obtain ⟨b1, b2⟩ := idx_spec (hm _ e2)
    have := h4 (plc o (q / n)) (plc o (q % n)) (by omega) (by omega)
    rw [a2, b2] at this
    unfold perm
    rw [List.getElem?_map, List.getElem?_range hq2, Option.map_some, ← this]
    unfold en
    rw [Nat.mul_comm, Nat.div_add_mod, List.getD_eq_getElem?_getD, List.getElem?_eq_getElem (by omega)]
    rfl
  · rw [List.getElem?_eq_none (by omega), List.getElem?_eq_none (by rw [perm, List.length_map, List.length_range]; omega)]
theorem parts_of_carI {n : Nat} {D : List Int} (h1 : 1 ≤ n) (h4 : n ≤ 4) (hD : D.length = n * n) (h : carI n D = true) : (parts n D).isSome = true := by
  unfold carI at h
  rw [List.any_eq_true] at h
  obtain ⟨t, ht, hb⟩ := h
  obtain ⟨o, ho⟩ := (bt_iff _ _ _ _ _).1 hb
  have hp := perm_eq h1 h4 hD ho
  have htk : taken n = true := by
    have : n = 1 ∨ n = 2 ∨ n = 3 ∨ n = 4 := by omega
    rcases this with rfl | rfl | rfl | rfl
    · exact taken_1
    · exact taken_2
    · exact taken_3
    · exact taken_4
  unfold taken at htk
  rw [List.all_eq_true] at htk
  have h5 := List.all_eq_true.1 (htk t ht) o (by
    have := orders_mem n o (fun x hx => List.mem_range.1 (ho.2.1 x hx)) ho.2.2.1 n (by rw [ho.1]; exact Nat.le_refl _)
    rwa [List.take_of_length_le (by rw [ho.1]; exact Nat.le_refl _)] at this)
  rw [hp]; exact h5

end Car
end Go.Proofs.YtcngijafnnmccaaGreatDoor
