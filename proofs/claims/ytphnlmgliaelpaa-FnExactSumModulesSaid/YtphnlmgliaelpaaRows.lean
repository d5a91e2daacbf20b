/-
  No cell of these rows narrows 'for every input' (looked for: loops, veiled, ifaces, maps, wideKeys, modest, calm, conditions, laid).
  DERIVED. THE GIVEN ROWS OF THIS SEAT. 12 by the template 'for every input the law returns true; each argument reads behind the call as it read before'; 0 by the template 'total and deterministic' (their statements: YtphnlmgliaelpaaTotals.lean).
  GIVEN WITH THE SEED: the statements are not yours to turn. If you find one false, say at which input.
  Laid BY PROGRAM, IN A SANDBOX (cutbox-rows.mjs): the forced cells as the released guide's own fill.sh prints them over the translation a372ff26d3168507… (all of the seat's roots in one cut). By AI agents, Wed Nov 11 2026. No macro, syntax, notation, axiom, sorry.
-/
import Derived.Test.YtphnlmgliaelpaaChecked
import GoSem.Claim
import GoSem.ClaimJoined
import GoSem.ClaimMapViews
import Derived.JoinedTies
import Derived.KernelRfl
namespace Go.Proofs.Ytphnlmgliaelpaa
/- THE CELL 'sum', in the pinned program and in every row, IS THE sha256 OF THE DUMP (.gsa) THAT YtphnlmgliaelpaaProg.lean LOADS. Nothing in Lean hashes anything: it is a label: what it is worth is what the hold of that sum in a sandbox is worth. -/
noncomputable def Try.pinned : Pinned := { name := "ytphnlmgliaelpaa", sum := "a372ff26d3168507b148d2912d6f9db9528046335ea3d9144d3a810eb244961e", checked := Try.checked }
namespace Rows
def none {H : Type} : Left H := { results := [], args := [] }

/-- 'laws.FnExactIsHomomorphism': WHATEVER THE INPUT: true; the input reads as it did. -/
def fnExactIsHomomorphismSpec : ChangeSpec := { name := "fnExactIsHomomorphism", fn := fun _ => fun
  | [d1, d2, d3] => { results := [.lit (.bool true)], args := [d1, d2, d3] }
  | _ => none }
def fnExactIsHomomorphismRow : OpenClaim := { program := "ytphnlmgliaelpaa", sum := "a372ff26d3168507b148d2912d6f9db9528046335ea3d9144d3a810eb244961e", func := "loop.example/g03109/laws.FnExactIsHomomorphism", spec := "fnExactIsHomomorphism", unfollowed := true, recurses := true, apart := false }
def FnExactIsHomomorphismSaid : Prop := fnExactIsHomomorphismRow.holds Try.pinned (OpenSpec.ofChange fnExactIsHomomorphismSpec)

/-- ITS FALSE NEIGHBOUR: 'it returns false'. Refute it at one input. -/
def fnExactIsHomomorphismWrong : ChangeSpec := { name := "fnExactIsHomomorphism", fn := fun _ => fun
  | [d1, d2, d3] => { results := [.lit (.bool false)], args := [d1, d2, d3] }
  | _ => none }
def FnExactIsHomomorphismWrongFalsely : Prop := fnExactIsHomomorphismRow.holds Try.pinned (OpenSpec.ofChange fnExactIsHomomorphismWrong)

/-- 'laws.FnExactIsModule': WHATEVER THE INPUT: true; the input reads as it did. -/
def fnExactIsModuleSpec : ChangeSpec := { name := "fnExactIsModule", fn := fun _ => fun
  | [d1, d2] => { results := [.lit (.bool true)], args := [d1, d2] }
  | _ => none }
def fnExactIsModuleRow : OpenClaim := { program := "ytphnlmgliaelpaa", sum := "a372ff26d3168507b148d2912d6f9db9528046335ea3d9144d3a810eb244961e", func := "loop.example/g03109/laws.FnExactIsModule", spec := "fnExactIsModule", unfollowed := true, recurses := true, apart := false }
def FnExactIsModuleSaid : Prop := fnExactIsModuleRow.holds Try.pinned (OpenSpec.ofChange fnExactIsModuleSpec)

/-- ITS FALSE NEIGHBOUR: 'it returns false'. Refute it at one input. -/
def fnExactIsModuleWrong : ChangeSpec := { name := "fnExactIsModule", fn := fun _ => fun
  | [d1, d2] => { results := [.lit (.bool false)], args := [d1, d2] }
  | _ => none }
def FnExactIsModuleWrongFalsely : Prop := fnExactIsModuleRow.holds Try.pinned (OpenSpec.ofChange fnExactIsModuleWrong)

/-- 'laws.FnExactMatrixOf': WHATEVER THE INPUT: true; the input reads as it did. -/
def fnExactMatrixOfSpec : ChangeSpec := { name := "fnExactMatrixOf", fn := fun _ => fun
  | [d1, d2, d3] => { results := [.lit (.bool true)], args := [d1, d2, d3] }
  | _ => none }
def fnExactMatrixOfRow : OpenClaim := { program := "ytphnlmgliaelpaa", sum := "a372ff26d3168507b148d2912d6f9db9528046335ea3d9144d3a810eb244961e", func := "loop.example/g03109/laws.FnExactMatrixOf", spec := "fnExactMatrixOf", unfollowed := true, recurses := true, apart := false }
def FnExactMatrixOfSaid : Prop := fnExactMatrixOfRow.holds Try.pinned (OpenSpec.ofChange fnExactMatrixOfSpec)

/-- ITS FALSE NEIGHBOUR: 'it returns false'. Refute it at one input. -/
def fnExactMatrixOfWrong : ChangeSpec := { name := "fnExactMatrixOf", fn := fun _ => fun
  | [d1, d2, d3] => { results := [.lit (.bool false)], args := [d1, d2, d3] }
  | _ => none }
def FnExactMatrixOfWrongFalsely : Prop := fnExactMatrixOfRow.holds Try.pinned (OpenSpec.ofChange fnExactMatrixOfWrong)

/-- 'laws.FnExactProductSpace': WHATEVER THE INPUT: true; the input reads as it did. -/
def fnExactProductSpaceSpec : ChangeSpec := { name := "fnExactProductSpace", fn := fun _ => fun
  | [d1, d2, d3] => { results := [.lit (.bool true)], args := [d1, d2, d3] }
  | _ => none }
def fnExactProductSpaceRow : OpenClaim := { program := "ytphnlmgliaelpaa", sum := "a372ff26d3168507b148d2912d6f9db9528046335ea3d9144d3a810eb244961e", func := "loop.example/g03109/laws.FnExactProductSpace", spec := "fnExactProductSpace", unfollowed := true, recurses := true, apart := false }
def FnExactProductSpaceSaid : Prop := fnExactProductSpaceRow.holds Try.pinned (OpenSpec.ofChange fnExactProductSpaceSpec)

/-- ITS FALSE NEIGHBOUR: 'it returns false'. Refute it at one input. -/
def fnExactProductSpaceWrong : ChangeSpec := { name := "fnExactProductSpace", fn := fun _ => fun
  | [d1, d2, d3] => { results := [.lit (.bool false)], args := [d1, d2, d3] }
  | _ => none }
def FnExactProductSpaceWrongFalsely : Prop := fnExactProductSpaceRow.holds Try.pinned (OpenSpec.ofChange fnExactProductSpaceWrong)

/-- 'laws.FnExactSumModules': WHATEVER THE INPUT: true; the input reads as it did. -/
def fnExactSumModulesSpec : ChangeSpec := { name := "fnExactSumModules", fn := fun _ => fun
  | [d1, d2, d3] => { results := [.lit (.bool true)], args := [d1, d2, d3] }
  | _ => none }
def fnExactSumModulesRow : OpenClaim := { program := "ytphnlmgliaelpaa", sum := "a372ff26d3168507b148d2912d6f9db9528046335ea3d9144d3a810eb244961e", func := "loop.example/g03109/laws.FnExactSumModules", spec := "fnExactSumModules", unfollowed := true, recurses := true, apart := false }
def FnExactSumModulesSaid : Prop := fnExactSumModulesRow.holds Try.pinned (OpenSpec.ofChange fnExactSumModulesSpec)

/-- ITS FALSE NEIGHBOUR: 'it returns false'. Refute it at one input. -/
def fnExactSumModulesWrong : ChangeSpec := { name := "fnExactSumModules", fn := fun _ => fun
  | [d1, d2, d3] => { results := [.lit (.bool false)], args := [d1, d2, d3] }
  | _ => none }
def FnExactSumModulesWrongFalsely : Prop := fnExactSumModulesRow.holds Try.pinned (OpenSpec.ofChange fnExactSumModulesWrong)

/-- 'laws.FnExactDualModule': WHATEVER THE INPUT: true; the input reads as it did. -/
def fnExactDualModuleSpec : ChangeSpec := { name := "fnExactDualModule", fn := fun _ => fun
  | [d1, d2] => { results := [.lit (.bool true)], args := [d1, d2] }
  | _ => none }
def fnExactDualModuleRow : OpenClaim := { program := "ytphnlmgliaelpaa", sum := "a372ff26d3168507b148d2912d6f9db9528046335ea3d9144d3a810eb244961e", func := "loop.example/g03109/laws.FnExactDualModule", spec := "fnExactDualModule", unfollowed := true, recurses := true, apart := false }
def FnExactDualModuleSaid : Prop := fnExactDualModuleRow.holds Try.pinned (OpenSpec.ofChange fnExactDualModuleSpec)

/-- ITS FALSE NEIGHBOUR: 'it returns false'. Refute it at one input. -/
def fnExactDualModuleWrong : ChangeSpec := { name := "fnExactDualModule", fn := fun _ => fun
  | [d1, d2] => { results := [.lit (.bool false)], args := [d1, d2] }
  | _ => none }
def FnExactDualModuleWrongFalsely : Prop := fnExactDualModuleRow.holds Try.pinned (OpenSpec.ofChange fnExactDualModuleWrong)

/-- 'laws.FnExactIsAutomorphism': WHATEVER THE INPUT: true; the input reads as it did. -/
def fnExactIsAutomorphismSpec : ChangeSpec := { name := "fnExactIsAutomorphism", fn := fun _ => fun
  | [d1, d2] => { results := [.lit (.bool true)], args := [d1, d2] }
  | _ => none }
def fnExactIsAutomorphismRow : OpenClaim := { program := "ytphnlmgliaelpaa", sum := "a372ff26d3168507b148d2912d6f9db9528046335ea3d9144d3a810eb244961e", func := "loop.example/g03109/laws.FnExactIsAutomorphism", spec := "fnExactIsAutomorphism", unfollowed := true, recurses := true, apart := false }
def FnExactIsAutomorphismSaid : Prop := fnExactIsAutomorphismRow.holds Try.pinned (OpenSpec.ofChange fnExactIsAutomorphismSpec)

/-- ITS FALSE NEIGHBOUR: 'it returns false'. Refute it at one input. -/
def fnExactIsAutomorphismWrong : ChangeSpec := { name := "fnExactIsAutomorphism", fn := fun _ => fun
  | [d1, d2] => { results := [.lit (.bool false)], args := [d1, d2] }
  | _ => none }
def FnExactIsAutomorphismWrongFalsely : Prop := fnExactIsAutomorphismRow.holds Try.pinned (OpenSpec.ofChange fnExactIsAutomorphismWrong)

/-- 'laws.FnExactIsSolvable': WHATEVER THE INPUT: true; the input reads as it did. -/
def fnExactIsSolvableSpec : ChangeSpec := { name := "fnExactIsSolvable", fn := fun _ => fun
  | [d] => { results := [.lit (.bool true)], args := [d] }
  | _ => none }
def fnExactIsSolvableRow : OpenClaim := { program := "ytphnlmgliaelpaa", sum := "a372ff26d3168507b148d2912d6f9db9528046335ea3d9144d3a810eb244961e", func := "loop.example/g03109/laws.FnExactIsSolvable", spec := "fnExactIsSolvable", unfollowed := true, recurses := true, apart := false }
def FnExactIsSolvableSaid : Prop := fnExactIsSolvableRow.holds Try.pinned (OpenSpec.ofChange fnExactIsSolvableSpec)

/-- ITS FALSE NEIGHBOUR: 'it returns false'. Refute it at one input. -/
def fnExactIsSolvableWrong : ChangeSpec := { name := "fnExactIsSolvable", fn := fun _ => fun
  | [d] => { results := [.lit (.bool false)], args := [d] }
  | _ => none }
def FnExactIsSolvableWrongFalsely : Prop := fnExactIsSolvableRow.holds Try.pinned (OpenSpec.ofChange fnExactIsSolvableWrong)

/-- 'laws.FnExactTensorModules': WHATEVER THE INPUT: true; the input reads as it did. -/
def fnExactTensorModulesSpec : ChangeSpec := { name := "fnExactTensorModules", fn := fun _ => fun
  | [d1, d2, d3] => { results := [.lit (.bool true)], args := [d1, d2, d3] }
  | _ => none }
def fnExactTensorModulesRow : OpenClaim := { program := "ytphnlmgliaelpaa", sum := "a372ff26d3168507b148d2912d6f9db9528046335ea3d9144d3a810eb244961e", func := "loop.example/g03109/laws.FnExactTensorModules", spec := "fnExactTensorModules", unfollowed := true, recurses := true, apart := false }
def FnExactTensorModulesSaid : Prop := fnExactTensorModulesRow.holds Try.pinned (OpenSpec.ofChange fnExactTensorModulesSpec)

/-- ITS FALSE NEIGHBOUR: 'it returns false'. Refute it at one input. -/
def fnExactTensorModulesWrong : ChangeSpec := { name := "fnExactTensorModules", fn := fun _ => fun
  | [d1, d2, d3] => { results := [.lit (.bool false)], args := [d1, d2, d3] }
  | _ => none }
def FnExactTensorModulesWrongFalsely : Prop := fnExactTensorModulesRow.holds Try.pinned (OpenSpec.ofChange fnExactTensorModulesWrong)

/-- 'laws.FnExactClassOf': WHATEVER THE INPUT: true; the input reads as it did. -/
def fnExactClassOfSpec : ChangeSpec := { name := "fnExactClassOf", fn := fun _ => fun
  | [d] => { results := [.lit (.bool true)], args := [d] }
  | _ => none }
def fnExactClassOfRow : OpenClaim := { program := "ytphnlmgliaelpaa", sum := "a372ff26d3168507b148d2912d6f9db9528046335ea3d9144d3a810eb244961e", func := "loop.example/g03109/laws.FnExactClassOf", spec := "fnExactClassOf", unfollowed := true, recurses := true, apart := false }
def FnExactClassOfSaid : Prop := fnExactClassOfRow.holds Try.pinned (OpenSpec.ofChange fnExactClassOfSpec)

/-- ITS FALSE NEIGHBOUR: 'it returns false'. Refute it at one input. -/
def fnExactClassOfWrong : ChangeSpec := { name := "fnExactClassOf", fn := fun _ => fun
  | [d] => { results := [.lit (.bool false)], args := [d] }
  | _ => none }
def FnExactClassOfWrongFalsely : Prop := fnExactClassOfRow.holds Try.pinned (OpenSpec.ofChange fnExactClassOfWrong)

/-- 'laws.FnExactDerivedSeries': WHATEVER THE INPUT: true; the input reads as it did. -/
def fnExactDerivedSeriesSpec : ChangeSpec := { name := "fnExactDerivedSeries", fn := fun _ => fun
  | [d] => { results := [.lit (.bool true)], args := [d] }
  | _ => none }
def fnExactDerivedSeriesRow : OpenClaim := { program := "ytphnlmgliaelpaa", sum := "a372ff26d3168507b148d2912d6f9db9528046335ea3d9144d3a810eb244961e", func := "loop.example/g03109/laws.FnExactDerivedSeries", spec := "fnExactDerivedSeries", unfollowed := true, recurses := true, apart := false }
def FnExactDerivedSeriesSaid : Prop := fnExactDerivedSeriesRow.holds Try.pinned (OpenSpec.ofChange fnExactDerivedSeriesSpec)

/-- ITS FALSE NEIGHBOUR: 'it returns false'. Refute it at one input. -/
def fnExactDerivedSeriesWrong : ChangeSpec := { name := "fnExactDerivedSeries", fn := fun _ => fun
  | [d] => { results := [.lit (.bool false)], args := [d] }
  | _ => none }
def FnExactDerivedSeriesWrongFalsely : Prop := fnExactDerivedSeriesRow.holds Try.pinned (OpenSpec.ofChange fnExactDerivedSeriesWrong)

/-- 'laws.FnExactLowerSeries': WHATEVER THE INPUT: true; the input reads as it did. -/
def fnExactLowerSeriesSpec : ChangeSpec := { name := "fnExactLowerSeries", fn := fun _ => fun
  | [d] => { results := [.lit (.bool true)], args := [d] }
  | _ => none }
def fnExactLowerSeriesRow : OpenClaim := { program := "ytphnlmgliaelpaa", sum := "a372ff26d3168507b148d2912d6f9db9528046335ea3d9144d3a810eb244961e", func := "loop.example/g03109/laws.FnExactLowerSeries", spec := "fnExactLowerSeries", unfollowed := true, recurses := true, apart := false }
def FnExactLowerSeriesSaid : Prop := fnExactLowerSeriesRow.holds Try.pinned (OpenSpec.ofChange fnExactLowerSeriesSpec)

/-- ITS FALSE NEIGHBOUR: 'it returns false'. Refute it at one input. -/
def fnExactLowerSeriesWrong : ChangeSpec := { name := "fnExactLowerSeries", fn := fun _ => fun
  | [d] => { results := [.lit (.bool false)], args := [d] }
  | _ => none }
def FnExactLowerSeriesWrongFalsely : Prop := fnExactLowerSeriesRow.holds Try.pinned (OpenSpec.ofChange fnExactLowerSeriesWrong)

/- THE SECOND FORM. 'bulk': how many values and letters a reading holds, each counted each time it is reached (what is shared counts as often as it is met; a slice's spare places count too). A statement '..UptoSaid' is the law's where the arguments, and the package variables that the reading takes, are together of bulk at most 1048576: NARROWER than '..Said'. Prove '..Said' where nothing that the law and all that it calls make is longer than what came in: it says more and counts as full. Else prove '..UptoSaid'. A law counts once. -/
mutual
def uptoBulk {H : Type} : DataW H → Nat
  | .lit (.string bytes) => bytes.length + 1
  | .lit _ => 1
  | .nil => 1
  | .ptr d => uptoBulk d + 1
  | .slice elems spare => uptoBulkAll elems + uptoBulkAll spare + 1
  | .agg parts => uptoBulkAll parts + 1
  | .iface _ d => uptoBulk d + 1
  | .map entries => uptoBulkEntries entries + 1
  | .held _ => 1
def uptoBulkAll {H : Type} : List (DataW H) → Nat
  | [] => 0
  | d :: r => uptoBulk d + uptoBulkAll r
def uptoBulkEntries {H : Type} : List (Lit × DataW H) → Nat
  | [] => 0
  | x :: r => uptoBulkEntry x + uptoBulkEntries r
def uptoBulkEntry {H : Type} : Lit × DataW H → Nat
  | (.string bytes, d) => bytes.length + uptoBulk d + 1
  | (_, d) => uptoBulk d + 1
 end
def uptoSmall : (H : Type) → List (DataW H) → Bool := fun _ ds => decide (uptoBulkAll ds ≤ 1048576)
def OpenSpec.upto (s : _root_.Go.ChangeSpec) : _root_.Go.OpenSpec := { _root_.Go.OpenSpec.ofChange s with cond := some uptoSmall }

/-- 'laws.FnExactIsHomomorphism', WHERE WHAT IT READS IS OF BULK AT MOST 1048576: true; the input reads as it did. -/
def fnExactIsHomomorphismUptoRow : OpenClaim := { program := "ytphnlmgliaelpaa", sum := "a372ff26d3168507b148d2912d6f9db9528046335ea3d9144d3a810eb244961e", func := "loop.example/g03109/laws.FnExactIsHomomorphism", spec := "fnExactIsHomomorphism", unfollowed := true, recurses := true, apart := false, narrowed := true }
def FnExactIsHomomorphismUptoSaid : Prop := fnExactIsHomomorphismUptoRow.holds Try.pinned (OpenSpec.upto fnExactIsHomomorphismSpec)

/-- 'laws.FnExactIsModule', WHERE WHAT IT READS IS OF BULK AT MOST 1048576: true; the input reads as it did. -/
def fnExactIsModuleUptoRow : OpenClaim := { program := "ytphnlmgliaelpaa", sum := "a372ff26d3168507b148d2912d6f9db9528046335ea3d9144d3a810eb244961e", func := "loop.example/g03109/laws.FnExactIsModule", spec := "fnExactIsModule", unfollowed := true, recurses := true, apart := false, narrowed := true }
def FnExactIsModuleUptoSaid : Prop := fnExactIsModuleUptoRow.holds Try.pinned (OpenSpec.upto fnExactIsModuleSpec)

/-- 'laws.FnExactMatrixOf', WHERE WHAT IT READS IS OF BULK AT MOST 1048576: true; the input reads as it did. -/
def fnExactMatrixOfUptoRow : OpenClaim := { program := "ytphnlmgliaelpaa", sum := "a372ff26d3168507b148d2912d6f9db9528046335ea3d9144d3a810eb244961e", func := "loop.example/g03109/laws.FnExactMatrixOf", spec := "fnExactMatrixOf", unfollowed := true, recurses := true, apart := false, narrowed := true }
def FnExactMatrixOfUptoSaid : Prop := fnExactMatrixOfUptoRow.holds Try.pinned (OpenSpec.upto fnExactMatrixOfSpec)

/-- 'laws.FnExactProductSpace', WHERE WHAT IT READS IS OF BULK AT MOST 1048576: true; the input reads as it did. -/
def fnExactProductSpaceUptoRow : OpenClaim := { program := "ytphnlmgliaelpaa", sum := "a372ff26d3168507b148d2912d6f9db9528046335ea3d9144d3a810eb244961e", func := "loop.example/g03109/laws.FnExactProductSpace", spec := "fnExactProductSpace", unfollowed := true, recurses := true, apart := false, narrowed := true }
def FnExactProductSpaceUptoSaid : Prop := fnExactProductSpaceUptoRow.holds Try.pinned (OpenSpec.upto fnExactProductSpaceSpec)

/-- 'laws.FnExactSumModules', WHERE WHAT IT READS IS OF BULK AT MOST 1048576: true; the input reads as it did. -/
def fnExactSumModulesUptoRow : OpenClaim := { program := "ytphnlmgliaelpaa", sum := "a372ff26d3168507b148d2912d6f9db9528046335ea3d9144d3a810eb244961e", func := "loop.example/g03109/laws.FnExactSumModules", spec := "fnExactSumModules", unfollowed := true, recurses := true, apart := false, narrowed := true }
def FnExactSumModulesUptoSaid : Prop := fnExactSumModulesUptoRow.holds Try.pinned (OpenSpec.upto fnExactSumModulesSpec)

/-- 'laws.FnExactDualModule', WHERE WHAT IT READS IS OF BULK AT MOST 1048576: true; the input reads as it did. -/
def fnExactDualModuleUptoRow : OpenClaim := { program := "ytphnlmgliaelpaa", sum := "a372ff26d3168507b148d2912d6f9db9528046335ea3d9144d3a810eb244961e", func := "loop.example/g03109/laws.FnExactDualModule", spec := "fnExactDualModule", unfollowed := true, recurses := true, apart := false, narrowed := true }
def FnExactDualModuleUptoSaid : Prop := fnExactDualModuleUptoRow.holds Try.pinned (OpenSpec.upto fnExactDualModuleSpec)

/-- 'laws.FnExactIsAutomorphism', WHERE WHAT IT READS IS OF BULK AT MOST 1048576: true; the input reads as it did. -/
def fnExactIsAutomorphismUptoRow : OpenClaim := { program := "ytphnlmgliaelpaa", sum := "a372ff26d3168507b148d2912d6f9db9528046335ea3d9144d3a810eb244961e", func := "loop.example/g03109/laws.FnExactIsAutomorphism", spec := "fnExactIsAutomorphism", unfollowed := true, recurses := true, apart := false, narrowed := true }
def FnExactIsAutomorphismUptoSaid : Prop := fnExactIsAutomorphismUptoRow.holds Try.pinned (OpenSpec.upto fnExactIsAutomorphismSpec)

/-- 'laws.FnExactIsSolvable', WHERE WHAT IT READS IS OF BULK AT MOST 1048576: true; the input reads as it did. -/
def fnExactIsSolvableUptoRow : OpenClaim := { program := "ytphnlmgliaelpaa", sum := "a372ff26d3168507b148d2912d6f9db9528046335ea3d9144d3a810eb244961e", func := "loop.example/g03109/laws.FnExactIsSolvable", spec := "fnExactIsSolvable", unfollowed := true, recurses := true, apart := false, narrowed := true }
def FnExactIsSolvableUptoSaid : Prop := fnExactIsSolvableUptoRow.holds Try.pinned (OpenSpec.upto fnExactIsSolvableSpec)

/-- 'laws.FnExactTensorModules', WHERE WHAT IT READS IS OF BULK AT MOST 1048576: true; the input reads as it did. -/
def fnExactTensorModulesUptoRow : OpenClaim := { program := "ytphnlmgliaelpaa", sum := "a372ff26d3168507b148d2912d6f9db9528046335ea3d9144d3a810eb244961e", func := "loop.example/g03109/laws.FnExactTensorModules", spec := "fnExactTensorModules", unfollowed := true, recurses := true, apart := false, narrowed := true }
def FnExactTensorModulesUptoSaid : Prop := fnExactTensorModulesUptoRow.holds Try.pinned (OpenSpec.upto fnExactTensorModulesSpec)

/-- 'laws.FnExactClassOf', WHERE WHAT IT READS IS OF BULK AT MOST 1048576: true; the input reads as it did. -/
def fnExactClassOfUptoRow : OpenClaim := { program := "ytphnlmgliaelpaa", sum := "a372ff26d3168507b148d2912d6f9db9528046335ea3d9144d3a810eb244961e", func := "loop.example/g03109/laws.FnExactClassOf", spec := "fnExactClassOf", unfollowed := true, recurses := true, apart := false, narrowed := true }
def FnExactClassOfUptoSaid : Prop := fnExactClassOfUptoRow.holds Try.pinned (OpenSpec.upto fnExactClassOfSpec)

/-- 'laws.FnExactDerivedSeries', WHERE WHAT IT READS IS OF BULK AT MOST 1048576: true; the input reads as it did. -/
def fnExactDerivedSeriesUptoRow : OpenClaim := { program := "ytphnlmgliaelpaa", sum := "a372ff26d3168507b148d2912d6f9db9528046335ea3d9144d3a810eb244961e", func := "loop.example/g03109/laws.FnExactDerivedSeries", spec := "fnExactDerivedSeries", unfollowed := true, recurses := true, apart := false, narrowed := true }
def FnExactDerivedSeriesUptoSaid : Prop := fnExactDerivedSeriesUptoRow.holds Try.pinned (OpenSpec.upto fnExactDerivedSeriesSpec)

/-- 'laws.FnExactLowerSeries', WHERE WHAT IT READS IS OF BULK AT MOST 1048576: true; the input reads as it did. -/
def fnExactLowerSeriesUptoRow : OpenClaim := { program := "ytphnlmgliaelpaa", sum := "a372ff26d3168507b148d2912d6f9db9528046335ea3d9144d3a810eb244961e", func := "loop.example/g03109/laws.FnExactLowerSeries", spec := "fnExactLowerSeries", unfollowed := true, recurses := true, apart := false, narrowed := true }
def FnExactLowerSeriesUptoSaid : Prop := fnExactLowerSeriesUptoRow.holds Try.pinned (OpenSpec.upto fnExactLowerSeriesSpec)

end Rows
end Go.Proofs.Ytphnlmgliaelpaa
