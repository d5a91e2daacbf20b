/-
  No cell of these rows narrows 'for every input' (looked for: loops, veiled, ifaces, maps, wideKeys, modest, calm, conditions, laid).
  DERIVED. THE GIVEN ROWS OF THIS SEAT. 12 by the template 'for every input the law returns true; each argument reads behind the call as it read before'; 0 by the template 'total and deterministic' (their statements: YtechjmckfedblaaTotals.lean).
  GIVEN WITH THE SEED: the statements are not yours to turn. If you find one false, say at which input.
  Laid BY PROGRAM, IN A SANDBOX (cutbox-rows.mjs): the forced cells as the released guide's own fill.sh prints them over the translation 1fcc11f5547b4f76… (all of the seat's roots in one cut). By AI agents, Wed Nov 11 2026. No macro, syntax, notation, axiom, sorry.
-/
import Derived.Test.YtechjmckfedblaaChecked
import GoSem.Claim
import GoSem.ClaimJoined
import GoSem.ClaimMapViews
import Derived.JoinedTies
import Derived.KernelRfl
namespace Go.Proofs.Ytechjmckfedblaa
/- THE CELL 'sum', in the pinned program and in every row, IS THE sha256 OF THE DUMP (.gsa) THAT YtechjmckfedblaaProg.lean LOADS. Nothing in Lean hashes anything: it is a label: what it is worth is what the hold of that sum in a sandbox is worth. -/
noncomputable def Try.pinned : Pinned := { name := "ytechjmckfedblaa", sum := "1fcc11f5547b4f760c6b30f16ce9ca38d348edef0696f794a48c9fa38c70ab37", checked := Try.checked }
namespace Rows
def none {H : Type} : Left H := { results := [], args := [] }

/-- 'laws.FnExactIsAutomorphism': WHATEVER THE INPUT: true; the input reads as it did. -/
def fnExactIsAutomorphismSpec : ChangeSpec := { name := "fnExactIsAutomorphism", fn := fun _ => fun
  | [d1, d2] => { results := [.lit (.bool true)], args := [d1, d2] }
  | _ => none }
def fnExactIsAutomorphismRow : OpenClaim := { program := "ytechjmckfedblaa", sum := "1fcc11f5547b4f760c6b30f16ce9ca38d348edef0696f794a48c9fa38c70ab37", func := "loop.example/g03109/laws.FnExactIsAutomorphism", spec := "fnExactIsAutomorphism", unfollowed := true, recurses := true, apart := false }
def FnExactIsAutomorphismSaid : Prop := fnExactIsAutomorphismRow.holds Try.pinned (OpenSpec.ofChange fnExactIsAutomorphismSpec)

/-- ITS FALSE NEIGHBOUR: 'it returns false'. Refute it at one input. -/
def fnExactIsAutomorphismWrong : ChangeSpec := { name := "fnExactIsAutomorphism", fn := fun _ => fun
  | [d1, d2] => { results := [.lit (.bool false)], args := [d1, d2] }
  | _ => none }
def FnExactIsAutomorphismWrongFalsely : Prop := fnExactIsAutomorphismRow.holds Try.pinned (OpenSpec.ofChange fnExactIsAutomorphismWrong)

/-- 'laws.FnExactTensorModules': WHATEVER THE INPUT: true; the input reads as it did. -/
def fnExactTensorModulesSpec : ChangeSpec := { name := "fnExactTensorModules", fn := fun _ => fun
  | [d1, d2, d3] => { results := [.lit (.bool true)], args := [d1, d2, d3] }
  | _ => none }
def fnExactTensorModulesRow : OpenClaim := { program := "ytechjmckfedblaa", sum := "1fcc11f5547b4f760c6b30f16ce9ca38d348edef0696f794a48c9fa38c70ab37", func := "loop.example/g03109/laws.FnExactTensorModules", spec := "fnExactTensorModules", unfollowed := true, recurses := true, apart := false }
def FnExactTensorModulesSaid : Prop := fnExactTensorModulesRow.holds Try.pinned (OpenSpec.ofChange fnExactTensorModulesSpec)

/-- ITS FALSE NEIGHBOUR: 'it returns false'. Refute it at one input. -/
def fnExactTensorModulesWrong : ChangeSpec := { name := "fnExactTensorModules", fn := fun _ => fun
  | [d1, d2, d3] => { results := [.lit (.bool false)], args := [d1, d2, d3] }
  | _ => none }
def FnExactTensorModulesWrongFalsely : Prop := fnExactTensorModulesRow.holds Try.pinned (OpenSpec.ofChange fnExactTensorModulesWrong)

/-- 'laws.FnExactChangeBasis': WHATEVER THE INPUT: true; the input reads as it did. -/
def fnExactChangeBasisSpec : ChangeSpec := { name := "fnExactChangeBasis", fn := fun _ => fun
  | [d1, d2] => { results := [.lit (.bool true)], args := [d1, d2] }
  | _ => none }
def fnExactChangeBasisRow : OpenClaim := { program := "ytechjmckfedblaa", sum := "1fcc11f5547b4f760c6b30f16ce9ca38d348edef0696f794a48c9fa38c70ab37", func := "loop.example/g03109/laws.FnExactChangeBasis", spec := "fnExactChangeBasis", unfollowed := true, recurses := true, apart := false }
def FnExactChangeBasisSaid : Prop := fnExactChangeBasisRow.holds Try.pinned (OpenSpec.ofChange fnExactChangeBasisSpec)

/-- ITS FALSE NEIGHBOUR: 'it returns false'. Refute it at one input. -/
def fnExactChangeBasisWrong : ChangeSpec := { name := "fnExactChangeBasis", fn := fun _ => fun
  | [d1, d2] => { results := [.lit (.bool false)], args := [d1, d2] }
  | _ => none }
def FnExactChangeBasisWrongFalsely : Prop := fnExactChangeBasisRow.holds Try.pinned (OpenSpec.ofChange fnExactChangeBasisWrong)

/-- 'laws.FnExactIdealBy': WHATEVER THE INPUT: true; the input reads as it did. -/
def fnExactIdealBySpec : ChangeSpec := { name := "fnExactIdealBy", fn := fun _ => fun
  | [d1, d2] => { results := [.lit (.bool true)], args := [d1, d2] }
  | _ => none }
def fnExactIdealByRow : OpenClaim := { program := "ytechjmckfedblaa", sum := "1fcc11f5547b4f760c6b30f16ce9ca38d348edef0696f794a48c9fa38c70ab37", func := "loop.example/g03109/laws.FnExactIdealBy", spec := "fnExactIdealBy", unfollowed := true, recurses := true, apart := false }
def FnExactIdealBySaid : Prop := fnExactIdealByRow.holds Try.pinned (OpenSpec.ofChange fnExactIdealBySpec)

/-- ITS FALSE NEIGHBOUR: 'it returns false'. Refute it at one input. -/
def fnExactIdealByWrong : ChangeSpec := { name := "fnExactIdealBy", fn := fun _ => fun
  | [d1, d2] => { results := [.lit (.bool false)], args := [d1, d2] }
  | _ => none }
def FnExactIdealByWrongFalsely : Prop := fnExactIdealByRow.holds Try.pinned (OpenSpec.ofChange fnExactIdealByWrong)

/-- 'laws.FnExactSubalgebraBy': WHATEVER THE INPUT: true; the input reads as it did. -/
def fnExactSubalgebraBySpec : ChangeSpec := { name := "fnExactSubalgebraBy", fn := fun _ => fun
  | [d1, d2] => { results := [.lit (.bool true)], args := [d1, d2] }
  | _ => none }
def fnExactSubalgebraByRow : OpenClaim := { program := "ytechjmckfedblaa", sum := "1fcc11f5547b4f760c6b30f16ce9ca38d348edef0696f794a48c9fa38c70ab37", func := "loop.example/g03109/laws.FnExactSubalgebraBy", spec := "fnExactSubalgebraBy", unfollowed := true, recurses := true, apart := false }
def FnExactSubalgebraBySaid : Prop := fnExactSubalgebraByRow.holds Try.pinned (OpenSpec.ofChange fnExactSubalgebraBySpec)

/-- ITS FALSE NEIGHBOUR: 'it returns false'. Refute it at one input. -/
def fnExactSubalgebraByWrong : ChangeSpec := { name := "fnExactSubalgebraBy", fn := fun _ => fun
  | [d1, d2] => { results := [.lit (.bool false)], args := [d1, d2] }
  | _ => none }
def FnExactSubalgebraByWrongFalsely : Prop := fnExactSubalgebraByRow.holds Try.pinned (OpenSpec.ofChange fnExactSubalgebraByWrong)

/-- 'laws.FnExactIsSubalgebra': WHATEVER THE INPUT: true; the input reads as it did. -/
def fnExactIsSubalgebraSpec : ChangeSpec := { name := "fnExactIsSubalgebra", fn := fun _ => fun
  | [d1, d2] => { results := [.lit (.bool true)], args := [d1, d2] }
  | _ => none }
def fnExactIsSubalgebraRow : OpenClaim := { program := "ytechjmckfedblaa", sum := "1fcc11f5547b4f760c6b30f16ce9ca38d348edef0696f794a48c9fa38c70ab37", func := "loop.example/g03109/laws.FnExactIsSubalgebra", spec := "fnExactIsSubalgebra", unfollowed := true, recurses := true, apart := false }
def FnExactIsSubalgebraSaid : Prop := fnExactIsSubalgebraRow.holds Try.pinned (OpenSpec.ofChange fnExactIsSubalgebraSpec)

/-- ITS FALSE NEIGHBOUR: 'it returns false'. Refute it at one input. -/
def fnExactIsSubalgebraWrong : ChangeSpec := { name := "fnExactIsSubalgebra", fn := fun _ => fun
  | [d1, d2] => { results := [.lit (.bool false)], args := [d1, d2] }
  | _ => none }
def FnExactIsSubalgebraWrongFalsely : Prop := fnExactIsSubalgebraRow.holds Try.pinned (OpenSpec.ofChange fnExactIsSubalgebraWrong)

/-- 'laws.FnExactIsIdeal': WHATEVER THE INPUT: true; the input reads as it did. -/
def fnExactIsIdealSpec : ChangeSpec := { name := "fnExactIsIdeal", fn := fun _ => fun
  | [d1, d2] => { results := [.lit (.bool true)], args := [d1, d2] }
  | _ => none }
def fnExactIsIdealRow : OpenClaim := { program := "ytechjmckfedblaa", sum := "1fcc11f5547b4f760c6b30f16ce9ca38d348edef0696f794a48c9fa38c70ab37", func := "loop.example/g03109/laws.FnExactIsIdeal", spec := "fnExactIsIdeal", unfollowed := true, recurses := true, apart := false }
def FnExactIsIdealSaid : Prop := fnExactIsIdealRow.holds Try.pinned (OpenSpec.ofChange fnExactIsIdealSpec)

/-- ITS FALSE NEIGHBOUR: 'it returns false'. Refute it at one input. -/
def fnExactIsIdealWrong : ChangeSpec := { name := "fnExactIsIdeal", fn := fun _ => fun
  | [d1, d2] => { results := [.lit (.bool false)], args := [d1, d2] }
  | _ => none }
def FnExactIsIdealWrongFalsely : Prop := fnExactIsIdealRow.holds Try.pinned (OpenSpec.ofChange fnExactIsIdealWrong)

/-- 'laws.FnExactCentreOf': WHATEVER THE INPUT: true; the input reads as it did. -/
def fnExactCentreOfSpec : ChangeSpec := { name := "fnExactCentreOf", fn := fun _ => fun
  | [d] => { results := [.lit (.bool true)], args := [d] }
  | _ => none }
def fnExactCentreOfRow : OpenClaim := { program := "ytechjmckfedblaa", sum := "1fcc11f5547b4f760c6b30f16ce9ca38d348edef0696f794a48c9fa38c70ab37", func := "loop.example/g03109/laws.FnExactCentreOf", spec := "fnExactCentreOf", unfollowed := true, recurses := true, apart := false }
def FnExactCentreOfSaid : Prop := fnExactCentreOfRow.holds Try.pinned (OpenSpec.ofChange fnExactCentreOfSpec)

/-- ITS FALSE NEIGHBOUR: 'it returns false'. Refute it at one input. -/
def fnExactCentreOfWrong : ChangeSpec := { name := "fnExactCentreOf", fn := fun _ => fun
  | [d] => { results := [.lit (.bool false)], args := [d] }
  | _ => none }
def FnExactCentreOfWrongFalsely : Prop := fnExactCentreOfRow.holds Try.pinned (OpenSpec.ofChange fnExactCentreOfWrong)

/-- 'laws.FnExactNormalizerOf': WHATEVER THE INPUT: true; the input reads as it did. -/
def fnExactNormalizerOfSpec : ChangeSpec := { name := "fnExactNormalizerOf", fn := fun _ => fun
  | [d1, d2] => { results := [.lit (.bool true)], args := [d1, d2] }
  | _ => none }
def fnExactNormalizerOfRow : OpenClaim := { program := "ytechjmckfedblaa", sum := "1fcc11f5547b4f760c6b30f16ce9ca38d348edef0696f794a48c9fa38c70ab37", func := "loop.example/g03109/laws.FnExactNormalizerOf", spec := "fnExactNormalizerOf", unfollowed := true, recurses := true, apart := false }
def FnExactNormalizerOfSaid : Prop := fnExactNormalizerOfRow.holds Try.pinned (OpenSpec.ofChange fnExactNormalizerOfSpec)

/-- ITS FALSE NEIGHBOUR: 'it returns false'. Refute it at one input. -/
def fnExactNormalizerOfWrong : ChangeSpec := { name := "fnExactNormalizerOf", fn := fun _ => fun
  | [d1, d2] => { results := [.lit (.bool false)], args := [d1, d2] }
  | _ => none }
def FnExactNormalizerOfWrongFalsely : Prop := fnExactNormalizerOfRow.holds Try.pinned (OpenSpec.ofChange fnExactNormalizerOfWrong)

/-- 'laws.FnExactCentralizerOf': WHATEVER THE INPUT: true; the input reads as it did. -/
def fnExactCentralizerOfSpec : ChangeSpec := { name := "fnExactCentralizerOf", fn := fun _ => fun
  | [d1, d2] => { results := [.lit (.bool true)], args := [d1, d2] }
  | _ => none }
def fnExactCentralizerOfRow : OpenClaim := { program := "ytechjmckfedblaa", sum := "1fcc11f5547b4f760c6b30f16ce9ca38d348edef0696f794a48c9fa38c70ab37", func := "loop.example/g03109/laws.FnExactCentralizerOf", spec := "fnExactCentralizerOf", unfollowed := true, recurses := true, apart := false }
def FnExactCentralizerOfSaid : Prop := fnExactCentralizerOfRow.holds Try.pinned (OpenSpec.ofChange fnExactCentralizerOfSpec)

/-- ITS FALSE NEIGHBOUR: 'it returns false'. Refute it at one input. -/
def fnExactCentralizerOfWrong : ChangeSpec := { name := "fnExactCentralizerOf", fn := fun _ => fun
  | [d1, d2] => { results := [.lit (.bool false)], args := [d1, d2] }
  | _ => none }
def FnExactCentralizerOfWrongFalsely : Prop := fnExactCentralizerOfRow.holds Try.pinned (OpenSpec.ofChange fnExactCentralizerOfWrong)

/-- 'laws.FnExactIsSubmodule': WHATEVER THE INPUT: true; the input reads as it did. -/
def fnExactIsSubmoduleSpec : ChangeSpec := { name := "fnExactIsSubmodule", fn := fun _ => fun
  | [d1, d2, d3] => { results := [.lit (.bool true)], args := [d1, d2, d3] }
  | _ => none }
def fnExactIsSubmoduleRow : OpenClaim := { program := "ytechjmckfedblaa", sum := "1fcc11f5547b4f760c6b30f16ce9ca38d348edef0696f794a48c9fa38c70ab37", func := "loop.example/g03109/laws.FnExactIsSubmodule", spec := "fnExactIsSubmodule", unfollowed := true, recurses := true, apart := false }
def FnExactIsSubmoduleSaid : Prop := fnExactIsSubmoduleRow.holds Try.pinned (OpenSpec.ofChange fnExactIsSubmoduleSpec)

/-- ITS FALSE NEIGHBOUR: 'it returns false'. Refute it at one input. -/
def fnExactIsSubmoduleWrong : ChangeSpec := { name := "fnExactIsSubmodule", fn := fun _ => fun
  | [d1, d2, d3] => { results := [.lit (.bool false)], args := [d1, d2, d3] }
  | _ => none }
def FnExactIsSubmoduleWrongFalsely : Prop := fnExactIsSubmoduleRow.holds Try.pinned (OpenSpec.ofChange fnExactIsSubmoduleWrong)

/-- 'laws.FnExactSubmoduleBy': WHATEVER THE INPUT: true; the input reads as it did. -/
def fnExactSubmoduleBySpec : ChangeSpec := { name := "fnExactSubmoduleBy", fn := fun _ => fun
  | [d1, d2, d3] => { results := [.lit (.bool true)], args := [d1, d2, d3] }
  | _ => none }
def fnExactSubmoduleByRow : OpenClaim := { program := "ytechjmckfedblaa", sum := "1fcc11f5547b4f760c6b30f16ce9ca38d348edef0696f794a48c9fa38c70ab37", func := "loop.example/g03109/laws.FnExactSubmoduleBy", spec := "fnExactSubmoduleBy", unfollowed := true, recurses := true, apart := false }
def FnExactSubmoduleBySaid : Prop := fnExactSubmoduleByRow.holds Try.pinned (OpenSpec.ofChange fnExactSubmoduleBySpec)

/-- ITS FALSE NEIGHBOUR: 'it returns false'. Refute it at one input. -/
def fnExactSubmoduleByWrong : ChangeSpec := { name := "fnExactSubmoduleBy", fn := fun _ => fun
  | [d1, d2, d3] => { results := [.lit (.bool false)], args := [d1, d2, d3] }
  | _ => none }
def FnExactSubmoduleByWrongFalsely : Prop := fnExactSubmoduleByRow.holds Try.pinned (OpenSpec.ofChange fnExactSubmoduleByWrong)

/- THE SECOND FORM. 'bulk': how many values and letters a reading holds, each counted each time it is reached (what is shared counts as often as it is met; a slice's spare places count too). A statement '..UptoSaid' is the law's where the arguments, and the package variables that the reading takes, are together of bulk at most 1048576: NARROWER than '..Said'. Prove '..Said' where nothing that the law and all that it calls make is longer than what came in: it says more and counts as full. Else prove '..UptoSaid'. A law counts once. -/
mutual
def uptoBulk {H : Type} : DataW H → Nat
  | .lit (.string bytes) => bytes.length + 1
  | .lit _ => 1
  | .nil => 1
  | .ptr d => uptoBulk d + 1
  | .slice elems spare => uptoBulkAll elems + uptoBulkAll spare + 1
  | .agg parts => uptoBulkAll parts + 1
  | .iface _ d => uptoBulk d + 1
  | .map entries => uptoBulkEntries entries + 1
  | .held _ => 1
def uptoBulkAll {H : Type} : List (DataW H) → Nat
  | [] => 0
  | d :: r => uptoBulk d + uptoBulkAll r
def uptoBulkEntries {H : Type} : List (Lit × DataW H) → Nat
  | [] => 0
  | x :: r => uptoBulkEntry x + uptoBulkEntries r
def uptoBulkEntry {H : Type} : Lit × DataW H → Nat
  | (.string bytes, d) => bytes.length + uptoBulk d + 1
  | (_, d) => uptoBulk d + 1
 end
def uptoSmall : (H : Type) → List (DataW H) → Bool := fun _ ds => decide (uptoBulkAll ds ≤ 1048576)
def OpenSpec.upto (s : _root_.Go.ChangeSpec) : _root_.Go.OpenSpec := { _root_.Go.OpenSpec.ofChange s with cond := some uptoSmall }

/-- 'laws.FnExactIsAutomorphism', WHERE WHAT IT READS IS OF BULK AT MOST 1048576: true; the input reads as it did. -/
def fnExactIsAutomorphismUptoRow : OpenClaim := { program := "ytechjmckfedblaa", sum := "1fcc11f5547b4f760c6b30f16ce9ca38d348edef0696f794a48c9fa38c70ab37", func := "loop.example/g03109/laws.FnExactIsAutomorphism", spec := "fnExactIsAutomorphism", unfollowed := true, recurses := true, apart := false, narrowed := true }
def FnExactIsAutomorphismUptoSaid : Prop := fnExactIsAutomorphismUptoRow.holds Try.pinned (OpenSpec.upto fnExactIsAutomorphismSpec)

/-- 'laws.FnExactTensorModules', WHERE WHAT IT READS IS OF BULK AT MOST 1048576: true; the input reads as it did. -/
def fnExactTensorModulesUptoRow : OpenClaim := { program := "ytechjmckfedblaa", sum := "1fcc11f5547b4f760c6b30f16ce9ca38d348edef0696f794a48c9fa38c70ab37", func := "loop.example/g03109/laws.FnExactTensorModules", spec := "fnExactTensorModules", unfollowed := true, recurses := true, apart := false, narrowed := true }
def FnExactTensorModulesUptoSaid : Prop := fnExactTensorModulesUptoRow.holds Try.pinned (OpenSpec.upto fnExactTensorModulesSpec)

/-- 'laws.FnExactChangeBasis', WHERE WHAT IT READS IS OF BULK AT MOST 1048576: true; the input reads as it did. -/
def fnExactChangeBasisUptoRow : OpenClaim := { program := "ytechjmckfedblaa", sum := "1fcc11f5547b4f760c6b30f16ce9ca38d348edef0696f794a48c9fa38c70ab37", func := "loop.example/g03109/laws.FnExactChangeBasis", spec := "fnExactChangeBasis", unfollowed := true, recurses := true, apart := false, narrowed := true }
def FnExactChangeBasisUptoSaid : Prop := fnExactChangeBasisUptoRow.holds Try.pinned (OpenSpec.upto fnExactChangeBasisSpec)

/-- 'laws.FnExactIdealBy', WHERE WHAT IT READS IS OF BULK AT MOST 1048576: true; the input reads as it did. -/
def fnExactIdealByUptoRow : OpenClaim := { program := "ytechjmckfedblaa", sum := "1fcc11f5547b4f760c6b30f16ce9ca38d348edef0696f794a48c9fa38c70ab37", func := "loop.example/g03109/laws.FnExactIdealBy", spec := "fnExactIdealBy", unfollowed := true, recurses := true, apart := false, narrowed := true }
def FnExactIdealByUptoSaid : Prop := fnExactIdealByUptoRow.holds Try.pinned (OpenSpec.upto fnExactIdealBySpec)

/-- 'laws.FnExactSubalgebraBy', WHERE WHAT IT READS IS OF BULK AT MOST 1048576: true; the input reads as it did. -/
def fnExactSubalgebraByUptoRow : OpenClaim := { program := "ytechjmckfedblaa", sum := "1fcc11f5547b4f760c6b30f16ce9ca38d348edef0696f794a48c9fa38c70ab37", func := "loop.example/g03109/laws.FnExactSubalgebraBy", spec := "fnExactSubalgebraBy", unfollowed := true, recurses := true, apart := false, narrowed := true }
def FnExactSubalgebraByUptoSaid : Prop := fnExactSubalgebraByUptoRow.holds Try.pinned (OpenSpec.upto fnExactSubalgebraBySpec)

/-- 'laws.FnExactIsSubalgebra', WHERE WHAT IT READS IS OF BULK AT MOST 1048576: true; the input reads as it did. -/
def fnExactIsSubalgebraUptoRow : OpenClaim := { program := "ytechjmckfedblaa", sum := "1fcc11f5547b4f760c6b30f16ce9ca38d348edef0696f794a48c9fa38c70ab37", func := "loop.example/g03109/laws.FnExactIsSubalgebra", spec := "fnExactIsSubalgebra", unfollowed := true, recurses := true, apart := false, narrowed := true }
def FnExactIsSubalgebraUptoSaid : Prop := fnExactIsSubalgebraUptoRow.holds Try.pinned (OpenSpec.upto fnExactIsSubalgebraSpec)

/-- 'laws.FnExactIsIdeal', WHERE WHAT IT READS IS OF BULK AT MOST 1048576: true; the input reads as it did. -/
def fnExactIsIdealUptoRow : OpenClaim := { program := "ytechjmckfedblaa", sum := "1fcc11f5547b4f760c6b30f16ce9ca38d348edef0696f794a48c9fa38c70ab37", func := "loop.example/g03109/laws.FnExactIsIdeal", spec := "fnExactIsIdeal", unfollowed := true, recurses := true, apart := false, narrowed := true }
def FnExactIsIdealUptoSaid : Prop := fnExactIsIdealUptoRow.holds Try.pinned (OpenSpec.upto fnExactIsIdealSpec)

/-- 'laws.FnExactCentreOf', WHERE WHAT IT READS IS OF BULK AT MOST 1048576: true; the input reads as it did. -/
def fnExactCentreOfUptoRow : OpenClaim := { program := "ytechjmckfedblaa", sum := "1fcc11f5547b4f760c6b30f16ce9ca38d348edef0696f794a48c9fa38c70ab37", func := "loop.example/g03109/laws.FnExactCentreOf", spec := "fnExactCentreOf", unfollowed := true, recurses := true, apart := false, narrowed := true }
def FnExactCentreOfUptoSaid : Prop := fnExactCentreOfUptoRow.holds Try.pinned (OpenSpec.upto fnExactCentreOfSpec)

/-- 'laws.FnExactNormalizerOf', WHERE WHAT IT READS IS OF BULK AT MOST 1048576: true; the input reads as it did. -/
def fnExactNormalizerOfUptoRow : OpenClaim := { program := "ytechjmckfedblaa", sum := "1fcc11f5547b4f760c6b30f16ce9ca38d348edef0696f794a48c9fa38c70ab37", func := "loop.example/g03109/laws.FnExactNormalizerOf", spec := "fnExactNormalizerOf", unfollowed := true, recurses := true, apart := false, narrowed := true }
def FnExactNormalizerOfUptoSaid : Prop := fnExactNormalizerOfUptoRow.holds Try.pinned (OpenSpec.upto fnExactNormalizerOfSpec)

/-- 'laws.FnExactCentralizerOf', WHERE WHAT IT READS IS OF BULK AT MOST 1048576: true; the input reads as it did. -/
def fnExactCentralizerOfUptoRow : OpenClaim := { program := "ytechjmckfedblaa", sum := "1fcc11f5547b4f760c6b30f16ce9ca38d348edef0696f794a48c9fa38c70ab37", func := "loop.example/g03109/laws.FnExactCentralizerOf", spec := "fnExactCentralizerOf", unfollowed := true, recurses := true, apart := false, narrowed := true }
def FnExactCentralizerOfUptoSaid : Prop := fnExactCentralizerOfUptoRow.holds Try.pinned (OpenSpec.upto fnExactCentralizerOfSpec)

/-- 'laws.FnExactIsSubmodule', WHERE WHAT IT READS IS OF BULK AT MOST 1048576: true; the input reads as it did. -/
def fnExactIsSubmoduleUptoRow : OpenClaim := { program := "ytechjmckfedblaa", sum := "1fcc11f5547b4f760c6b30f16ce9ca38d348edef0696f794a48c9fa38c70ab37", func := "loop.example/g03109/laws.FnExactIsSubmodule", spec := "fnExactIsSubmodule", unfollowed := true, recurses := true, apart := false, narrowed := true }
def FnExactIsSubmoduleUptoSaid : Prop := fnExactIsSubmoduleUptoRow.holds Try.pinned (OpenSpec.upto fnExactIsSubmoduleSpec)

/-- 'laws.FnExactSubmoduleBy', WHERE WHAT IT READS IS OF BULK AT MOST 1048576: true; the input reads as it did. -/
def fnExactSubmoduleByUptoRow : OpenClaim := { program := "ytechjmckfedblaa", sum := "1fcc11f5547b4f760c6b30f16ce9ca38d348edef0696f794a48c9fa38c70ab37", func := "loop.example/g03109/laws.FnExactSubmoduleBy", spec := "fnExactSubmoduleBy", unfollowed := true, recurses := true, apart := false, narrowed := true }
def FnExactSubmoduleByUptoSaid : Prop := fnExactSubmoduleByUptoRow.holds Try.pinned (OpenSpec.upto fnExactSubmoduleBySpec)

end Rows
end Go.Proofs.Ytechjmckfedblaa
