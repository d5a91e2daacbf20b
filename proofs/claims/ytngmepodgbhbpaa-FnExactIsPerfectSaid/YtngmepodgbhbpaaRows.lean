/-
  No cell of these rows narrows 'for every input' (looked for: loops, veiled, ifaces, maps, wideKeys, modest, calm, conditions, laid).
  DERIVED. THE GIVEN ROWS OF THIS SEAT. 12 by the template 'for every input the law returns true; each argument reads behind the call as it read before'; 0 by the template 'total and deterministic' (their statements: YtngmepodgbhbpaaTotals.lean).
  GIVEN WITH THE SEED: the statements are not yours to turn. If you find one false, say at which input.
  Laid BY PROGRAM, IN A SANDBOX (cutbox-rows.mjs): the forced cells as the released guide's own fill.sh prints them over the translation 4e2da049c0f10248… (all of the seat's roots in one cut). By AI agents, Wed Nov 11 2026. No macro, syntax, notation, axiom, sorry.
-/
import Derived.Test.YtngmepodgbhbpaaChecked
import GoSem.Claim
import GoSem.ClaimJoined
import GoSem.ClaimMapViews
import Derived.JoinedTies
import Derived.KernelRfl
namespace Go.Proofs.Ytngmepodgbhbpaa
/- THE CELL 'sum', in the pinned program and in every row, IS THE sha256 OF THE DUMP (.gsa) THAT YtngmepodgbhbpaaProg.lean LOADS. Nothing in Lean hashes anything: it is a label: what it is worth is what the hold of that sum in a sandbox is worth. -/
noncomputable def Try.pinned : Pinned := { name := "ytngmepodgbhbpaa", sum := "4e2da049c0f102482748c1d3e3d936e087b599a27f604def613af0b6fcb6521b", checked := Try.checked }
namespace Rows
def none {H : Type} : Left H := { results := [], args := [] }

/-- 'laws.FnExactBracketOf': WHATEVER THE INPUT: true; the input reads as it did. -/
def fnExactBracketOfSpec : ChangeSpec := { name := "fnExactBracketOf", fn := fun _ => fun
  | [d1, d2, d3] => { results := [.lit (.bool true)], args := [d1, d2, d3] }
  | _ => none }
def fnExactBracketOfRow : OpenClaim := { program := "ytngmepodgbhbpaa", sum := "4e2da049c0f102482748c1d3e3d936e087b599a27f604def613af0b6fcb6521b", func := "loop.example/g03109/laws.FnExactBracketOf", spec := "fnExactBracketOf", unfollowed := true, recurses := true, apart := false }
def FnExactBracketOfSaid : Prop := fnExactBracketOfRow.holds Try.pinned (OpenSpec.ofChange fnExactBracketOfSpec)

/-- ITS FALSE NEIGHBOUR: 'it returns false'. Refute it at one input. -/
def fnExactBracketOfWrong : ChangeSpec := { name := "fnExactBracketOf", fn := fun _ => fun
  | [d1, d2, d3] => { results := [.lit (.bool false)], args := [d1, d2, d3] }
  | _ => none }
def FnExactBracketOfWrongFalsely : Prop := fnExactBracketOfRow.holds Try.pinned (OpenSpec.ofChange fnExactBracketOfWrong)

/-- 'laws.FnExactZeroModule': WHATEVER THE INPUT: true; the input reads as it did. -/
def fnExactZeroModuleSpec : ChangeSpec := { name := "fnExactZeroModule", fn := fun _ => fun
  | [d1, d2] => { results := [.lit (.bool true)], args := [d1, d2] }
  | _ => none }
def fnExactZeroModuleRow : OpenClaim := { program := "ytngmepodgbhbpaa", sum := "4e2da049c0f102482748c1d3e3d936e087b599a27f604def613af0b6fcb6521b", func := "loop.example/g03109/laws.FnExactZeroModule", spec := "fnExactZeroModule", unfollowed := true, recurses := true, apart := false }
def FnExactZeroModuleSaid : Prop := fnExactZeroModuleRow.holds Try.pinned (OpenSpec.ofChange fnExactZeroModuleSpec)

/-- ITS FALSE NEIGHBOUR: 'it returns false'. Refute it at one input. -/
def fnExactZeroModuleWrong : ChangeSpec := { name := "fnExactZeroModule", fn := fun _ => fun
  | [d1, d2] => { results := [.lit (.bool false)], args := [d1, d2] }
  | _ => none }
def FnExactZeroModuleWrongFalsely : Prop := fnExactZeroModuleRow.holds Try.pinned (OpenSpec.ofChange fnExactZeroModuleWrong)

/-- 'laws.FnExactIsHomomorphism': WHATEVER THE INPUT: true; the input reads as it did. -/
def fnExactIsHomomorphismSpec : ChangeSpec := { name := "fnExactIsHomomorphism", fn := fun _ => fun
  | [d1, d2, d3] => { results := [.lit (.bool true)], args := [d1, d2, d3] }
  | _ => none }
def fnExactIsHomomorphismRow : OpenClaim := { program := "ytngmepodgbhbpaa", sum := "4e2da049c0f102482748c1d3e3d936e087b599a27f604def613af0b6fcb6521b", func := "loop.example/g03109/laws.FnExactIsHomomorphism", spec := "fnExactIsHomomorphism", unfollowed := true, recurses := true, apart := false }
def FnExactIsHomomorphismSaid : Prop := fnExactIsHomomorphismRow.holds Try.pinned (OpenSpec.ofChange fnExactIsHomomorphismSpec)

/-- ITS FALSE NEIGHBOUR: 'it returns false'. Refute it at one input. -/
def fnExactIsHomomorphismWrong : ChangeSpec := { name := "fnExactIsHomomorphism", fn := fun _ => fun
  | [d1, d2, d3] => { results := [.lit (.bool false)], args := [d1, d2, d3] }
  | _ => none }
def FnExactIsHomomorphismWrongFalsely : Prop := fnExactIsHomomorphismRow.holds Try.pinned (OpenSpec.ofChange fnExactIsHomomorphismWrong)

/-- 'laws.FnExactIsDerivation': WHATEVER THE INPUT: true; the input reads as it did. -/
def fnExactIsDerivationSpec : ChangeSpec := { name := "fnExactIsDerivation", fn := fun _ => fun
  | [d1, d2] => { results := [.lit (.bool true)], args := [d1, d2] }
  | _ => none }
def fnExactIsDerivationRow : OpenClaim := { program := "ytngmepodgbhbpaa", sum := "4e2da049c0f102482748c1d3e3d936e087b599a27f604def613af0b6fcb6521b", func := "loop.example/g03109/laws.FnExactIsDerivation", spec := "fnExactIsDerivation", unfollowed := true, recurses := true, apart := false }
def FnExactIsDerivationSaid : Prop := fnExactIsDerivationRow.holds Try.pinned (OpenSpec.ofChange fnExactIsDerivationSpec)

/-- ITS FALSE NEIGHBOUR: 'it returns false'. Refute it at one input. -/
def fnExactIsDerivationWrong : ChangeSpec := { name := "fnExactIsDerivation", fn := fun _ => fun
  | [d1, d2] => { results := [.lit (.bool false)], args := [d1, d2] }
  | _ => none }
def FnExactIsDerivationWrongFalsely : Prop := fnExactIsDerivationRow.holds Try.pinned (OpenSpec.ofChange fnExactIsDerivationWrong)

/-- 'laws.FnExactAdjointModule': WHATEVER THE INPUT: true; the input reads as it did. -/
def fnExactAdjointModuleSpec : ChangeSpec := { name := "fnExactAdjointModule", fn := fun _ => fun
  | [d] => { results := [.lit (.bool true)], args := [d] }
  | _ => none }
def fnExactAdjointModuleRow : OpenClaim := { program := "ytngmepodgbhbpaa", sum := "4e2da049c0f102482748c1d3e3d936e087b599a27f604def613af0b6fcb6521b", func := "loop.example/g03109/laws.FnExactAdjointModule", spec := "fnExactAdjointModule", unfollowed := true, recurses := true, apart := false }
def FnExactAdjointModuleSaid : Prop := fnExactAdjointModuleRow.holds Try.pinned (OpenSpec.ofChange fnExactAdjointModuleSpec)

/-- ITS FALSE NEIGHBOUR: 'it returns false'. Refute it at one input. -/
def fnExactAdjointModuleWrong : ChangeSpec := { name := "fnExactAdjointModule", fn := fun _ => fun
  | [d] => { results := [.lit (.bool false)], args := [d] }
  | _ => none }
def FnExactAdjointModuleWrongFalsely : Prop := fnExactAdjointModuleRow.holds Try.pinned (OpenSpec.ofChange fnExactAdjointModuleWrong)

/-- 'laws.FnExactIsModule': WHATEVER THE INPUT: true; the input reads as it did. -/
def fnExactIsModuleSpec : ChangeSpec := { name := "fnExactIsModule", fn := fun _ => fun
  | [d1, d2] => { results := [.lit (.bool true)], args := [d1, d2] }
  | _ => none }
def fnExactIsModuleRow : OpenClaim := { program := "ytngmepodgbhbpaa", sum := "4e2da049c0f102482748c1d3e3d936e087b599a27f604def613af0b6fcb6521b", func := "loop.example/g03109/laws.FnExactIsModule", spec := "fnExactIsModule", unfollowed := true, recurses := true, apart := false }
def FnExactIsModuleSaid : Prop := fnExactIsModuleRow.holds Try.pinned (OpenSpec.ofChange fnExactIsModuleSpec)

/-- ITS FALSE NEIGHBOUR: 'it returns false'. Refute it at one input. -/
def fnExactIsModuleWrong : ChangeSpec := { name := "fnExactIsModule", fn := fun _ => fun
  | [d1, d2] => { results := [.lit (.bool false)], args := [d1, d2] }
  | _ => none }
def FnExactIsModuleWrongFalsely : Prop := fnExactIsModuleRow.holds Try.pinned (OpenSpec.ofChange fnExactIsModuleWrong)

/-- 'laws.FnExactIsPerfect': WHATEVER THE INPUT: true; the input reads as it did. -/
def fnExactIsPerfectSpec : ChangeSpec := { name := "fnExactIsPerfect", fn := fun _ => fun
  | [d] => { results := [.lit (.bool true)], args := [d] }
  | _ => none }
def fnExactIsPerfectRow : OpenClaim := { program := "ytngmepodgbhbpaa", sum := "4e2da049c0f102482748c1d3e3d936e087b599a27f604def613af0b6fcb6521b", func := "loop.example/g03109/laws.FnExactIsPerfect", spec := "fnExactIsPerfect", unfollowed := true, recurses := true, apart := false }
def FnExactIsPerfectSaid : Prop := fnExactIsPerfectRow.holds Try.pinned (OpenSpec.ofChange fnExactIsPerfectSpec)

/-- ITS FALSE NEIGHBOUR: 'it returns false'. Refute it at one input. -/
def fnExactIsPerfectWrong : ChangeSpec := { name := "fnExactIsPerfect", fn := fun _ => fun
  | [d] => { results := [.lit (.bool false)], args := [d] }
  | _ => none }
def FnExactIsPerfectWrongFalsely : Prop := fnExactIsPerfectRow.holds Try.pinned (OpenSpec.ofChange fnExactIsPerfectWrong)

/-- 'laws.FnExactSemidirectBy': WHATEVER THE INPUT: true; the input reads as it did. -/
def fnExactSemidirectBySpec : ChangeSpec := { name := "fnExactSemidirectBy", fn := fun _ => fun
  | [d1, d2] => { results := [.lit (.bool true)], args := [d1, d2] }
  | _ => none }
def fnExactSemidirectByRow : OpenClaim := { program := "ytngmepodgbhbpaa", sum := "4e2da049c0f102482748c1d3e3d936e087b599a27f604def613af0b6fcb6521b", func := "loop.example/g03109/laws.FnExactSemidirectBy", spec := "fnExactSemidirectBy", unfollowed := true, recurses := true, apart := false }
def FnExactSemidirectBySaid : Prop := fnExactSemidirectByRow.holds Try.pinned (OpenSpec.ofChange fnExactSemidirectBySpec)

/-- ITS FALSE NEIGHBOUR: 'it returns false'. Refute it at one input. -/
def fnExactSemidirectByWrong : ChangeSpec := { name := "fnExactSemidirectBy", fn := fun _ => fun
  | [d1, d2] => { results := [.lit (.bool false)], args := [d1, d2] }
  | _ => none }
def FnExactSemidirectByWrongFalsely : Prop := fnExactSemidirectByRow.holds Try.pinned (OpenSpec.ofChange fnExactSemidirectByWrong)

/-- 'laws.FnExactMatrixOf': WHATEVER THE INPUT: true; the input reads as it did. -/
def fnExactMatrixOfSpec : ChangeSpec := { name := "fnExactMatrixOf", fn := fun _ => fun
  | [d1, d2, d3] => { results := [.lit (.bool true)], args := [d1, d2, d3] }
  | _ => none }
def fnExactMatrixOfRow : OpenClaim := { program := "ytngmepodgbhbpaa", sum := "4e2da049c0f102482748c1d3e3d936e087b599a27f604def613af0b6fcb6521b", func := "loop.example/g03109/laws.FnExactMatrixOf", spec := "fnExactMatrixOf", unfollowed := true, recurses := true, apart := false }
def FnExactMatrixOfSaid : Prop := fnExactMatrixOfRow.holds Try.pinned (OpenSpec.ofChange fnExactMatrixOfSpec)

/-- ITS FALSE NEIGHBOUR: 'it returns false'. Refute it at one input. -/
def fnExactMatrixOfWrong : ChangeSpec := { name := "fnExactMatrixOf", fn := fun _ => fun
  | [d1, d2, d3] => { results := [.lit (.bool false)], args := [d1, d2, d3] }
  | _ => none }
def FnExactMatrixOfWrongFalsely : Prop := fnExactMatrixOfRow.holds Try.pinned (OpenSpec.ofChange fnExactMatrixOfWrong)

/-- 'laws.FnExactProductSpace': WHATEVER THE INPUT: true; the input reads as it did. -/
def fnExactProductSpaceSpec : ChangeSpec := { name := "fnExactProductSpace", fn := fun _ => fun
  | [d1, d2, d3] => { results := [.lit (.bool true)], args := [d1, d2, d3] }
  | _ => none }
def fnExactProductSpaceRow : OpenClaim := { program := "ytngmepodgbhbpaa", sum := "4e2da049c0f102482748c1d3e3d936e087b599a27f604def613af0b6fcb6521b", func := "loop.example/g03109/laws.FnExactProductSpace", spec := "fnExactProductSpace", unfollowed := true, recurses := true, apart := false }
def FnExactProductSpaceSaid : Prop := fnExactProductSpaceRow.holds Try.pinned (OpenSpec.ofChange fnExactProductSpaceSpec)

/-- ITS FALSE NEIGHBOUR: 'it returns false'. Refute it at one input. -/
def fnExactProductSpaceWrong : ChangeSpec := { name := "fnExactProductSpace", fn := fun _ => fun
  | [d1, d2, d3] => { results := [.lit (.bool false)], args := [d1, d2, d3] }
  | _ => none }
def FnExactProductSpaceWrongFalsely : Prop := fnExactProductSpaceRow.holds Try.pinned (OpenSpec.ofChange fnExactProductSpaceWrong)

/-- 'laws.FnExactSumModules': WHATEVER THE INPUT: true; the input reads as it did. -/
def fnExactSumModulesSpec : ChangeSpec := { name := "fnExactSumModules", fn := fun _ => fun
  | [d1, d2, d3] => { results := [.lit (.bool true)], args := [d1, d2, d3] }
  | _ => none }
def fnExactSumModulesRow : OpenClaim := { program := "ytngmepodgbhbpaa", sum := "4e2da049c0f102482748c1d3e3d936e087b599a27f604def613af0b6fcb6521b", func := "loop.example/g03109/laws.FnExactSumModules", spec := "fnExactSumModules", unfollowed := true, recurses := true, apart := false }
def FnExactSumModulesSaid : Prop := fnExactSumModulesRow.holds Try.pinned (OpenSpec.ofChange fnExactSumModulesSpec)

/-- ITS FALSE NEIGHBOUR: 'it returns false'. Refute it at one input. -/
def fnExactSumModulesWrong : ChangeSpec := { name := "fnExactSumModules", fn := fun _ => fun
  | [d1, d2, d3] => { results := [.lit (.bool false)], args := [d1, d2, d3] }
  | _ => none }
def FnExactSumModulesWrongFalsely : Prop := fnExactSumModulesRow.holds Try.pinned (OpenSpec.ofChange fnExactSumModulesWrong)

/-- 'laws.FnExactDualModule': WHATEVER THE INPUT: true; the input reads as it did. -/
def fnExactDualModuleSpec : ChangeSpec := { name := "fnExactDualModule", fn := fun _ => fun
  | [d1, d2] => { results := [.lit (.bool true)], args := [d1, d2] }
  | _ => none }
def fnExactDualModuleRow : OpenClaim := { program := "ytngmepodgbhbpaa", sum := "4e2da049c0f102482748c1d3e3d936e087b599a27f604def613af0b6fcb6521b", func := "loop.example/g03109/laws.FnExactDualModule", spec := "fnExactDualModule", unfollowed := true, recurses := true, apart := false }
def FnExactDualModuleSaid : Prop := fnExactDualModuleRow.holds Try.pinned (OpenSpec.ofChange fnExactDualModuleSpec)

/-- ITS FALSE NEIGHBOUR: 'it returns false'. Refute it at one input. -/
def fnExactDualModuleWrong : ChangeSpec := { name := "fnExactDualModule", fn := fun _ => fun
  | [d1, d2] => { results := [.lit (.bool false)], args := [d1, d2] }
  | _ => none }
def FnExactDualModuleWrongFalsely : Prop := fnExactDualModuleRow.holds Try.pinned (OpenSpec.ofChange fnExactDualModuleWrong)

/- THE SECOND FORM. 'bulk': how many values and letters a reading holds, each counted each time it is reached (what is shared counts as often as it is met; a slice's spare places count too). A statement '..UptoSaid' is the law's where the arguments, and the package variables that the reading takes, are together of bulk at most 1048576: NARROWER than '..Said'. Prove '..Said' where nothing that the law and all that it calls make is longer than what came in: it says more and counts as full. Else prove '..UptoSaid'. A law counts once. -/
mutual
def uptoBulk {H : Type} : DataW H → Nat
  | .lit (.string bytes) => bytes.length + 1
  | .lit _ => 1
  | .nil => 1
  | .ptr d => uptoBulk d + 1
  | .slice elems spare => uptoBulkAll elems + uptoBulkAll spare + 1
  | .agg parts => uptoBulkAll parts + 1
  | .iface _ d => uptoBulk d + 1
  | .map entries => uptoBulkEntries entries + 1
  | .held _ => 1
def uptoBulkAll {H : Type} : List (DataW H) → Nat
  | [] => 0
  | d :: r => uptoBulk d + uptoBulkAll r
def uptoBulkEntries {H : Type} : List (Lit × DataW H) → Nat
  | [] => 0
  | x :: r => uptoBulkEntry x + uptoBulkEntries r
def uptoBulkEntry {H : Type} : Lit × DataW H → Nat
  | (.string bytes, d) => bytes.length + uptoBulk d + 1
  | (_, d) => uptoBulk d + 1
 end
def uptoSmall : (H : Type) → List (DataW H) → Bool := fun _ ds => decide (uptoBulkAll ds ≤ 1048576)
def OpenSpec.upto (s : _root_.Go.ChangeSpec) : _root_.Go.OpenSpec := { _root_.Go.OpenSpec.ofChange s with cond := some uptoSmall }

/-- 'laws.FnExactBracketOf', WHERE WHAT IT READS IS OF BULK AT MOST 1048576: true; the input reads as it did. -/
def fnExactBracketOfUptoRow : OpenClaim := { program := "ytngmepodgbhbpaa", sum := "4e2da049c0f102482748c1d3e3d936e087b599a27f604def613af0b6fcb6521b", func := "loop.example/g03109/laws.FnExactBracketOf", spec := "fnExactBracketOf", unfollowed := true, recurses := true, apart := false, narrowed := true }
def FnExactBracketOfUptoSaid : Prop := fnExactBracketOfUptoRow.holds Try.pinned (OpenSpec.upto fnExactBracketOfSpec)

/-- 'laws.FnExactZeroModule', WHERE WHAT IT READS IS OF BULK AT MOST 1048576: true; the input reads as it did. -/
def fnExactZeroModuleUptoRow : OpenClaim := { program := "ytngmepodgbhbpaa", sum := "4e2da049c0f102482748c1d3e3d936e087b599a27f604def613af0b6fcb6521b", func := "loop.example/g03109/laws.FnExactZeroModule", spec := "fnExactZeroModule", unfollowed := true, recurses := true, apart := false, narrowed := true }
def FnExactZeroModuleUptoSaid : Prop := fnExactZeroModuleUptoRow.holds Try.pinned (OpenSpec.upto fnExactZeroModuleSpec)

/-- 'laws.FnExactIsHomomorphism', WHERE WHAT IT READS IS OF BULK AT MOST 1048576: true; the input reads as it did. -/
def fnExactIsHomomorphismUptoRow : OpenClaim := { program := "ytngmepodgbhbpaa", sum := "4e2da049c0f102482748c1d3e3d936e087b599a27f604def613af0b6fcb6521b", func := "loop.example/g03109/laws.FnExactIsHomomorphism", spec := "fnExactIsHomomorphism", unfollowed := true, recurses := true, apart := false, narrowed := true }
def FnExactIsHomomorphismUptoSaid : Prop := fnExactIsHomomorphismUptoRow.holds Try.pinned (OpenSpec.upto fnExactIsHomomorphismSpec)

/-- 'laws.FnExactIsDerivation', WHERE WHAT IT READS IS OF BULK AT MOST 1048576: true; the input reads as it did. -/
def fnExactIsDerivationUptoRow : OpenClaim := { program := "ytngmepodgbhbpaa", sum := "4e2da049c0f102482748c1d3e3d936e087b599a27f604def613af0b6fcb6521b", func := "loop.example/g03109/laws.FnExactIsDerivation", spec := "fnExactIsDerivation", unfollowed := true, recurses := true, apart := false, narrowed := true }
def FnExactIsDerivationUptoSaid : Prop := fnExactIsDerivationUptoRow.holds Try.pinned (OpenSpec.upto fnExactIsDerivationSpec)

/-- 'laws.FnExactAdjointModule', WHERE WHAT IT READS IS OF BULK AT MOST 1048576: true; the input reads as it did. -/
def fnExactAdjointModuleUptoRow : OpenClaim := { program := "ytngmepodgbhbpaa", sum := "4e2da049c0f102482748c1d3e3d936e087b599a27f604def613af0b6fcb6521b", func := "loop.example/g03109/laws.FnExactAdjointModule", spec := "fnExactAdjointModule", unfollowed := true, recurses := true, apart := false, narrowed := true }
def FnExactAdjointModuleUptoSaid : Prop := fnExactAdjointModuleUptoRow.holds Try.pinned (OpenSpec.upto fnExactAdjointModuleSpec)

/-- 'laws.FnExactIsModule', WHERE WHAT IT READS IS OF BULK AT MOST 1048576: true; the input reads as it did. -/
def fnExactIsModuleUptoRow : OpenClaim := { program := "ytngmepodgbhbpaa", sum := "4e2da049c0f102482748c1d3e3d936e087b599a27f604def613af0b6fcb6521b", func := "loop.example/g03109/laws.FnExactIsModule", spec := "fnExactIsModule", unfollowed := true, recurses := true, apart := false, narrowed := true }
def FnExactIsModuleUptoSaid : Prop := fnExactIsModuleUptoRow.holds Try.pinned (OpenSpec.upto fnExactIsModuleSpec)

/-- 'laws.FnExactIsPerfect', WHERE WHAT IT READS IS OF BULK AT MOST 1048576: true; the input reads as it did. -/
def fnExactIsPerfectUptoRow : OpenClaim := { program := "ytngmepodgbhbpaa", sum := "4e2da049c0f102482748c1d3e3d936e087b599a27f604def613af0b6fcb6521b", func := "loop.example/g03109/laws.FnExactIsPerfect", spec := "fnExactIsPerfect", unfollowed := true, recurses := true, apart := false, narrowed := true }
def FnExactIsPerfectUptoSaid : Prop := fnExactIsPerfectUptoRow.holds Try.pinned (OpenSpec.upto fnExactIsPerfectSpec)

/-- 'laws.FnExactSemidirectBy', WHERE WHAT IT READS IS OF BULK AT MOST 1048576: true; the input reads as it did. -/
def fnExactSemidirectByUptoRow : OpenClaim := { program := "ytngmepodgbhbpaa", sum := "4e2da049c0f102482748c1d3e3d936e087b599a27f604def613af0b6fcb6521b", func := "loop.example/g03109/laws.FnExactSemidirectBy", spec := "fnExactSemidirectBy", unfollowed := true, recurses := true, apart := false, narrowed := true }
def FnExactSemidirectByUptoSaid : Prop := fnExactSemidirectByUptoRow.holds Try.pinned (OpenSpec.upto fnExactSemidirectBySpec)

/-- 'laws.FnExactMatrixOf', WHERE WHAT IT READS IS OF BULK AT MOST 1048576: true; the input reads as it did. -/
def fnExactMatrixOfUptoRow : OpenClaim := { program := "ytngmepodgbhbpaa", sum := "4e2da049c0f102482748c1d3e3d936e087b599a27f604def613af0b6fcb6521b", func := "loop.example/g03109/laws.FnExactMatrixOf", spec := "fnExactMatrixOf", unfollowed := true, recurses := true, apart := false, narrowed := true }
def FnExactMatrixOfUptoSaid : Prop := fnExactMatrixOfUptoRow.holds Try.pinned (OpenSpec.upto fnExactMatrixOfSpec)

/-- 'laws.FnExactProductSpace', WHERE WHAT IT READS IS OF BULK AT MOST 1048576: true; the input reads as it did. -/
def fnExactProductSpaceUptoRow : OpenClaim := { program := "ytngmepodgbhbpaa", sum := "4e2da049c0f102482748c1d3e3d936e087b599a27f604def613af0b6fcb6521b", func := "loop.example/g03109/laws.FnExactProductSpace", spec := "fnExactProductSpace", unfollowed := true, recurses := true, apart := false, narrowed := true }
def FnExactProductSpaceUptoSaid : Prop := fnExactProductSpaceUptoRow.holds Try.pinned (OpenSpec.upto fnExactProductSpaceSpec)

/-- 'laws.FnExactSumModules', WHERE WHAT IT READS IS OF BULK AT MOST 1048576: true; the input reads as it did. -/
def fnExactSumModulesUptoRow : OpenClaim := { program := "ytngmepodgbhbpaa", sum := "4e2da049c0f102482748c1d3e3d936e087b599a27f604def613af0b6fcb6521b", func := "loop.example/g03109/laws.FnExactSumModules", spec := "fnExactSumModules", unfollowed := true, recurses := true, apart := false, narrowed := true }
def FnExactSumModulesUptoSaid : Prop := fnExactSumModulesUptoRow.holds Try.pinned (OpenSpec.upto fnExactSumModulesSpec)

/-- 'laws.FnExactDualModule', WHERE WHAT IT READS IS OF BULK AT MOST 1048576: true; the input reads as it did. -/
def fnExactDualModuleUptoRow : OpenClaim := { program := "ytngmepodgbhbpaa", sum := "4e2da049c0f102482748c1d3e3d936e087b599a27f604def613af0b6fcb6521b", func := "loop.example/g03109/laws.FnExactDualModule", spec := "fnExactDualModule", unfollowed := true, recurses := true, apart := false, narrowed := true }
def FnExactDualModuleUptoSaid : Prop := fnExactDualModuleUptoRow.holds Try.pinned (OpenSpec.upto fnExactDualModuleSpec)

end Rows
end Go.Proofs.Ytngmepodgbhbpaa
