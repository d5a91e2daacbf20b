/-
  DERIVED. GIVEN WITH THE SEED: THE CARDS: each row of YtcngijafnnmccaaDoorRows.lean that lists a variable, with what it lists TIED to the program's text (the seventh form; the later family's looks); each row that meets fmt, with fmt's text TOLD by the authors' own Lean function (tested against real Go, not proved from fmt's source: count such statements apart). THE CARD IS WHAT COUNTS. Prove the row's statement (the work); the ties are given (YtcngijafnnmccaaDoorTie.lean); close each card by the builder's one call (the guide's Derived/Test/ToyasCard.lean, 'card_holds'). Laid BY PROGRAM, IN A SANDBOX (cutbox-door.mjs). By AI agents, Wed Nov 11 2026. No macro, syntax, notation, axiom, sorry.
-/
import Derived.Test.YtcngijafnnmccaaDoorRows
import GoSem.ClaimSeven
namespace Go.Proofs.YtcngijafnnmccaaDoor
namespace Rows

/-- THE TIED CARD OF 'laws.FnExactBracketText'. -/
def fnExactBracketTextCard : Claim7 := { stood := { row := fnExactBracketTextRow, standIns := [], harness := (true, "c057b954c1a7cd76292a0aea702404296133584ad6593e9ff229ba5b6599549d"), looks := false }, kinds := [], alts := [], laidByText := true, laidKinds := [.data, .data, .data], laidTests := true, laidLooks := .later }
def FnExactBracketTextCardSaid : Prop := Claim7.holds Tryd.pinned (.plain (OpenSpec.ofChange fnExactBracketTextSpec)) fnExactBracketTextCard

/-- THE TIED CARD OF 'laws.FnExactLowestOf'. -/
def fnExactLowestOfCard : Claim7 := { stood := { row := fnExactLowestOfRow, standIns := [], harness := (true, "c057b954c1a7cd76292a0aea702404296133584ad6593e9ff229ba5b6599549d"), looks := false }, kinds := [], alts := [], laidByText := true, laidKinds := [.data, .pinned], laidTests := true, laidLooks := .later }
def FnExactLowestOfCardSaid : Prop := Claim7.holds Tryd.pinned (.plain (OpenSpec.ofChange fnExactLowestOfSpec)) fnExactLowestOfCard

/-- THE TIED CARD OF 'laws.FnExactIsDominantPath'. -/
def fnExactIsDominantPathCard : Claim7 := { stood := { row := fnExactIsDominantPathRow, standIns := [], harness := (true, "c057b954c1a7cd76292a0aea702404296133584ad6593e9ff229ba5b6599549d"), looks := false }, kinds := [], alts := [], laidByText := true, laidKinds := [.data, .pinned], laidTests := true, laidLooks := .later }
def FnExactIsDominantPathCardSaid : Prop := Claim7.holds Tryd.pinned (.plain (OpenSpec.ofChange fnExactIsDominantPathSpec)) fnExactIsDominantPathCard

/-- THE TIED CARD OF 'laws.FnExactEndOf'. -/
def fnExactEndOfCard : Claim7 := { stood := { row := fnExactEndOfRow, standIns := [], harness := (true, "c057b954c1a7cd76292a0aea702404296133584ad6593e9ff229ba5b6599549d"), looks := false }, kinds := [], alts := [], laidByText := true, laidKinds := [.data, .pinned], laidTests := true, laidLooks := .later }
def FnExactEndOfCardSaid : Prop := Claim7.holds Tryd.pinned (.plain (OpenSpec.ofChange fnExactEndOfSpec)) fnExactEndOfCard

/-- THE TIED CARD OF 'laws.FnExactDualPath'. -/
def fnExactDualPathCard : Claim7 := { stood := { row := fnExactDualPathRow, standIns := [], harness := (true, "c057b954c1a7cd76292a0aea702404296133584ad6593e9ff229ba5b6599549d"), looks := false }, kinds := [], alts := [], laidByText := true, laidKinds := [.data, .pinned], laidTests := true, laidLooks := .later }
def FnExactDualPathCardSaid : Prop := Claim7.holds Tryd.pinned (.plain (OpenSpec.ofChange fnExactDualPathSpec)) fnExactDualPathCard

/-- THE SECOND FORM's CARD OF 'laws.FnExactBracketText'. -/
def fnExactBracketTextUptoCard : Claim7 := { stood := { row := fnExactBracketTextUptoRow, standIns := [], harness := (true, "c057b954c1a7cd76292a0aea702404296133584ad6593e9ff229ba5b6599549d"), looks := false }, kinds := [], alts := [], laidByText := true, laidKinds := [.data, .data, .data], laidTests := true, laidLooks := .later }
def FnExactBracketTextUptoCardSaid : Prop := Claim7.holds Tryd.pinned (.plain (OpenSpec.upto fnExactBracketTextSpec)) fnExactBracketTextUptoCard

/-- THE SECOND FORM's CARD OF 'laws.FnExactLowestOf'. -/
def fnExactLowestOfUptoCard : Claim7 := { stood := { row := fnExactLowestOfUptoRow, standIns := [], harness := (true, "c057b954c1a7cd76292a0aea702404296133584ad6593e9ff229ba5b6599549d"), looks := false }, kinds := [], alts := [], laidByText := true, laidKinds := [.data, .pinned], laidTests := true, laidLooks := .later }
def FnExactLowestOfUptoCardSaid : Prop := Claim7.holds Tryd.pinned (.plain (OpenSpec.upto fnExactLowestOfSpec)) fnExactLowestOfUptoCard

/-- THE SECOND FORM's CARD OF 'laws.FnExactIsDominantPath'. -/
def fnExactIsDominantPathUptoCard : Claim7 := { stood := { row := fnExactIsDominantPathUptoRow, standIns := [], harness := (true, "c057b954c1a7cd76292a0aea702404296133584ad6593e9ff229ba5b6599549d"), looks := false }, kinds := [], alts := [], laidByText := true, laidKinds := [.data, .pinned], laidTests := true, laidLooks := .later }
def FnExactIsDominantPathUptoCardSaid : Prop := Claim7.holds Tryd.pinned (.plain (OpenSpec.upto fnExactIsDominantPathSpec)) fnExactIsDominantPathUptoCard

/-- THE SECOND FORM's CARD OF 'laws.FnExactEndOf'. -/
def fnExactEndOfUptoCard : Claim7 := { stood := { row := fnExactEndOfUptoRow, standIns := [], harness := (true, "c057b954c1a7cd76292a0aea702404296133584ad6593e9ff229ba5b6599549d"), looks := false }, kinds := [], alts := [], laidByText := true, laidKinds := [.data, .pinned], laidTests := true, laidLooks := .later }
def FnExactEndOfUptoCardSaid : Prop := Claim7.holds Tryd.pinned (.plain (OpenSpec.upto fnExactEndOfSpec)) fnExactEndOfUptoCard

/-- THE SECOND FORM's CARD OF 'laws.FnExactDualPath'. -/
def fnExactDualPathUptoCard : Claim7 := { stood := { row := fnExactDualPathUptoRow, standIns := [], harness := (true, "c057b954c1a7cd76292a0aea702404296133584ad6593e9ff229ba5b6599549d"), looks := false }, kinds := [], alts := [], laidByText := true, laidKinds := [.data, .pinned], laidTests := true, laidLooks := .later }
def FnExactDualPathUptoCardSaid : Prop := Claim7.holds Tryd.pinned (.plain (OpenSpec.upto fnExactDualPathSpec)) fnExactDualPathUptoCard
end Rows
end Go.Proofs.YtcngijafnnmccaaDoor
