/- Slices of slices of integers that are read. -/
import Derived.Test.YtngmepodgbhbpaaMem
namespace Go.Proofs.Ytngmepodgbhbpaa
set_option maxRecDepth 100000
open Go.RowKit

/-- The slice value v reads as the rows ll, each a list of integers. -/
def IntRows (w : World) (v : Value) (ll : List (List Int)) : Prop :=
  ∃ A c, v = .slice A ll.length c ∧ ll.length ≤ c ∧ c ≤ 9223372036854775807 ∧
    (0 < ll.length → ∃ b off, A = some ⟨b, off, none⟩ ∧ ∀ (i : Nat) (l : List Int), ll[i]? = some l → ∃ u, w.cell? ⟨b, off + i, none⟩ = some u ∧ Ints w u l)

theorem infoR : (Try.prog.info? 22).map (fun i => (i.zero, i.size, i.bytes)) = some (some (.slice none 0 0), 1, 24) := by kernel_rfl
theorem Own.one {w : World} {lo : Nat} {v : Value} {l : List Int} (h : Own w lo v l) : v.oneCell' = true := by
  rcases h.2 with ⟨rfl, _⟩ | ⟨g, cap, cur, rfl, _⟩ <;> rfl
end Go.Proofs.Ytngmepodgbhbpaa
