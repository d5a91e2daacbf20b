/-
  DERIVED. GIVEN WITH THE SEED: THE CARDS: each row of YtcngijafnnmccaaGreatDoorRows.lean that lists a variable, with what it lists TIED to the program's text (the seventh form; the later family's looks); each row that meets fmt, with fmt's text TOLD by the authors' own Lean function (tested against real Go, not proved from fmt's source: count such statements apart). THE CARD IS WHAT COUNTS. Prove the row's statement (the work); the ties are given (YtcngijafnnmccaaGreatDoorTie.lean); close each card by the builder's one call (the guide's Derived/Test/ToyasCard.lean, 'card_holds'). Laid BY PROGRAM, IN A SANDBOX (cutbox-door.mjs). By AI agents, Wed Nov 11 2026. No macro, syntax, notation, axiom, sorry.
-/
import Derived.Test.YtcngijafnnmccaaGreatDoorRows
import GoSem.ClaimSeven
namespace Go.Proofs.YtcngijafnnmccaaGreatDoor
namespace Rows

/-- THE TIED CARD OF 'laws.FnExactSerreOk'. -/
def fnExactSerreOkCard : Claim7 := { stood := { row := fnExactSerreOkRow, standIns := [], harness := (true, "242e349936d6486a64b6ee52a2b984da9d19ff61ca6129b8839fbf0edac42f4b"), looks := false }, kinds := [], alts := [], laidByText := true, laidKinds := [.data, .pinned], laidTests := true, laidLooks := .later }
def FnExactSerreOkCardSaid : Prop := Claim7.holds Tryz.pinned (.plain (OpenSpec.ofChange fnExactSerreOkSpec)) fnExactSerreOkCard

/-- THE SECOND FORM's CARD OF 'laws.FnExactSerreOk'. -/
def fnExactSerreOkUptoCard : Claim7 := { stood := { row := fnExactSerreOkUptoRow, standIns := [], harness := (true, "242e349936d6486a64b6ee52a2b984da9d19ff61ca6129b8839fbf0edac42f4b"), looks := false }, kinds := [], alts := [], laidByText := true, laidKinds := [.data, .pinned], laidTests := true, laidLooks := .later }
def FnExactSerreOkUptoCardSaid : Prop := Claim7.holds Tryz.pinned (.plain (OpenSpec.upto fnExactSerreOkSpec)) fnExactSerreOkUptoCard
end Rows
end Go.Proofs.YtcngijafnnmccaaGreatDoor
