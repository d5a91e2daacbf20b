/-
  DERIVED. GIVEN WITH THE SEED: THE CARDS: each row of YtbnefjhljfbecaaGreatDoorRows.lean that lists a variable, with what it lists TIED to the program's text (the seventh form; the later family's looks); each row that meets fmt, with fmt's text TOLD by the authors' own Lean function (tested against real Go, not proved from fmt's source: count such statements apart). THE CARD IS WHAT COUNTS. Prove the row's statement (the work); the ties are given (YtbnefjhljfbecaaGreatDoorTie.lean); close each card by the builder's one call (the guide's Derived/Test/ToyasCard.lean, 'card_holds'). Laid BY PROGRAM, IN A SANDBOX (cutbox-door.mjs). By AI agents, Wed Nov 11 2026. No macro, syntax, notation, axiom, sorry.
-/
import Derived.Test.YtbnefjhljfbecaaGreatDoorRows
import GoSem.ClaimSeven
namespace Go.Proofs.YtbnefjhljfbecaaGreatDoor
namespace Rows

/-- THE TIED CARD OF 'laws.FnExactTypeOfAlgebra'. -/
def fnExactTypeOfAlgebraCard : Claim7 := { stood := { row := fnExactTypeOfAlgebraRow, standIns := [], harness := (true, "2e4bb36cdf1764022c2bab437faf920433692521b7bbbc6178739b7b441664b1"), looks := false }, kinds := [], alts := [], laidByText := true, laidKinds := [.data, .data, .data, .data, .pinned], laidTests := true, laidLooks := .later }
def FnExactTypeOfAlgebraCardSaid : Prop := Claim7.holds Tryz.pinned (.plain (OpenSpec.ofChange fnExactTypeOfAlgebraSpec)) fnExactTypeOfAlgebraCard

/-- THE SECOND FORM's CARD OF 'laws.FnExactTypeOfAlgebra'. -/
def fnExactTypeOfAlgebraUptoCard : Claim7 := { stood := { row := fnExactTypeOfAlgebraUptoRow, standIns := [], harness := (true, "2e4bb36cdf1764022c2bab437faf920433692521b7bbbc6178739b7b441664b1"), looks := false }, kinds := [], alts := [], laidByText := true, laidKinds := [.data, .data, .data, .data, .pinned], laidTests := true, laidLooks := .later }
def FnExactTypeOfAlgebraUptoCardSaid : Prop := Claim7.holds Tryz.pinned (.plain (OpenSpec.upto fnExactTypeOfAlgebraSpec)) fnExactTypeOfAlgebraUptoCard
end Rows
end Go.Proofs.YtbnefjhljfbecaaGreatDoor
