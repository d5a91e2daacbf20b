/-
  No cell of these rows narrows 'for every input' (looked for: loops, veiled, ifaces, maps, wideKeys, modest, calm, conditions, laid).
  DERIVED. THE GIVEN ROWS OF THIS SEAT. 9 by the template 'for every input the law returns true; each argument reads behind the call as it read before'; 0 by the template 'total and deterministic' (their statements: YtcdbgcpccmcbeaaTotals.lean).
  GIVEN WITH THE SEED: the statements are not yours to turn. If you find one false, say at which input.
  Laid BY PROGRAM, IN A SANDBOX (cutbox-rows.mjs): the forced cells as the released guide's own fill.sh prints them over the translation 6830c20dca2096be… (all of the seat's roots in one cut). By AI agents, Wed Nov 11 2026. No macro, syntax, notation, axiom, sorry.
-/
import Derived.Test.YtcdbgcpccmcbeaaChecked
import GoSem.Claim
import GoSem.ClaimJoined
import GoSem.ClaimMapViews
import Derived.JoinedTies
import Derived.KernelRfl
namespace Go.Proofs.Ytcdbgcpccmcbeaa
/- THE CELL 'sum', in the pinned program and in every row, IS THE sha256 OF THE DUMP (.gsa) THAT YtcdbgcpccmcbeaaProg.lean LOADS. Nothing in Lean hashes anything: it is a label: what it is worth is what the hold of that sum in a sandbox is worth. -/
noncomputable def Try.pinned : Pinned := { name := "ytcdbgcpccmcbeaa", sum := "6830c20dca2096bed5040c438f74046cc9ded0c94027ceb03adb89672bda9124", checked := Try.checked }
namespace Rows
def none {H : Type} : Left H := { results := [], args := [] }

/-- 'laws.FnExactSemidirectBy': WHATEVER THE INPUT: true; the input reads as it did. -/
def fnExactSemidirectBySpec : ChangeSpec := { name := "fnExactSemidirectBy", fn := fun _ => fun
  | [d1, d2] => { results := [.lit (.bool true)], args := [d1, d2] }
  | _ => none }
def fnExactSemidirectByRow : OpenClaim := { program := "ytcdbgcpccmcbeaa", sum := "6830c20dca2096bed5040c438f74046cc9ded0c94027ceb03adb89672bda9124", func := "loop.example/g03109/laws.FnExactSemidirectBy", spec := "fnExactSemidirectBy", unfollowed := true, recurses := true, apart := false }
def FnExactSemidirectBySaid : Prop := fnExactSemidirectByRow.holds Try.pinned (OpenSpec.ofChange fnExactSemidirectBySpec)

/-- ITS FALSE NEIGHBOUR: 'it returns false'. Refute it at one input. -/
def fnExactSemidirectByWrong : ChangeSpec := { name := "fnExactSemidirectBy", fn := fun _ => fun
  | [d1, d2] => { results := [.lit (.bool false)], args := [d1, d2] }
  | _ => none }
def FnExactSemidirectByWrongFalsely : Prop := fnExactSemidirectByRow.holds Try.pinned (OpenSpec.ofChange fnExactSemidirectByWrong)

/-- 'laws.FnExactIsToral': WHATEVER THE INPUT: true; the input reads as it did. -/
def fnExactIsToralSpec : ChangeSpec := { name := "fnExactIsToral", fn := fun _ => fun
  | [d1, d2] => { results := [.lit (.bool true)], args := [d1, d2] }
  | _ => none }
def fnExactIsToralRow : OpenClaim := { program := "ytcdbgcpccmcbeaa", sum := "6830c20dca2096bed5040c438f74046cc9ded0c94027ceb03adb89672bda9124", func := "loop.example/g03109/laws.FnExactIsToral", spec := "fnExactIsToral", unfollowed := true, recurses := true, apart := false }
def FnExactIsToralSaid : Prop := fnExactIsToralRow.holds Try.pinned (OpenSpec.ofChange fnExactIsToralSpec)

/-- ITS FALSE NEIGHBOUR: 'it returns false'. Refute it at one input. -/
def fnExactIsToralWrong : ChangeSpec := { name := "fnExactIsToral", fn := fun _ => fun
  | [d1, d2] => { results := [.lit (.bool false)], args := [d1, d2] }
  | _ => none }
def FnExactIsToralWrongFalsely : Prop := fnExactIsToralRow.holds Try.pinned (OpenSpec.ofChange fnExactIsToralWrong)

/-- 'laws.FnExactSubTable': WHATEVER THE INPUT: true; the input reads as it did. -/
def fnExactSubTableSpec : ChangeSpec := { name := "fnExactSubTable", fn := fun _ => fun
  | [d1, d2] => { results := [.lit (.bool true)], args := [d1, d2] }
  | _ => none }
def fnExactSubTableRow : OpenClaim := { program := "ytcdbgcpccmcbeaa", sum := "6830c20dca2096bed5040c438f74046cc9ded0c94027ceb03adb89672bda9124", func := "loop.example/g03109/laws.FnExactSubTable", spec := "fnExactSubTable", unfollowed := true, recurses := true, apart := false }
def FnExactSubTableSaid : Prop := fnExactSubTableRow.holds Try.pinned (OpenSpec.ofChange fnExactSubTableSpec)

/-- ITS FALSE NEIGHBOUR: 'it returns false'. Refute it at one input. -/
def fnExactSubTableWrong : ChangeSpec := { name := "fnExactSubTable", fn := fun _ => fun
  | [d1, d2] => { results := [.lit (.bool false)], args := [d1, d2] }
  | _ => none }
def FnExactSubTableWrongFalsely : Prop := fnExactSubTableRow.holds Try.pinned (OpenSpec.ofChange fnExactSubTableWrong)

/-- 'laws.FnExactUpperSeries': WHATEVER THE INPUT: true; the input reads as it did. -/
def fnExactUpperSeriesSpec : ChangeSpec := { name := "fnExactUpperSeries", fn := fun _ => fun
  | [d] => { results := [.lit (.bool true)], args := [d] }
  | _ => none }
def fnExactUpperSeriesRow : OpenClaim := { program := "ytcdbgcpccmcbeaa", sum := "6830c20dca2096bed5040c438f74046cc9ded0c94027ceb03adb89672bda9124", func := "loop.example/g03109/laws.FnExactUpperSeries", spec := "fnExactUpperSeries", unfollowed := true, recurses := true, apart := false }
def FnExactUpperSeriesSaid : Prop := fnExactUpperSeriesRow.holds Try.pinned (OpenSpec.ofChange fnExactUpperSeriesSpec)

/-- ITS FALSE NEIGHBOUR: 'it returns false'. Refute it at one input. -/
def fnExactUpperSeriesWrong : ChangeSpec := { name := "fnExactUpperSeries", fn := fun _ => fun
  | [d] => { results := [.lit (.bool false)], args := [d] }
  | _ => none }
def FnExactUpperSeriesWrongFalsely : Prop := fnExactUpperSeriesRow.holds Try.pinned (OpenSpec.ofChange fnExactUpperSeriesWrong)

/-- 'laws.FnExactQuotientTable': WHATEVER THE INPUT: true; the input reads as it did. -/
def fnExactQuotientTableSpec : ChangeSpec := { name := "fnExactQuotientTable", fn := fun _ => fun
  | [d1, d2] => { results := [.lit (.bool true)], args := [d1, d2] }
  | _ => none }
def fnExactQuotientTableRow : OpenClaim := { program := "ytcdbgcpccmcbeaa", sum := "6830c20dca2096bed5040c438f74046cc9ded0c94027ceb03adb89672bda9124", func := "loop.example/g03109/laws.FnExactQuotientTable", spec := "fnExactQuotientTable", unfollowed := true, recurses := true, apart := false }
def FnExactQuotientTableSaid : Prop := fnExactQuotientTableRow.holds Try.pinned (OpenSpec.ofChange fnExactQuotientTableSpec)

/-- ITS FALSE NEIGHBOUR: 'it returns false'. Refute it at one input. -/
def fnExactQuotientTableWrong : ChangeSpec := { name := "fnExactQuotientTable", fn := fun _ => fun
  | [d1, d2] => { results := [.lit (.bool false)], args := [d1, d2] }
  | _ => none }
def FnExactQuotientTableWrongFalsely : Prop := fnExactQuotientTableRow.holds Try.pinned (OpenSpec.ofChange fnExactQuotientTableWrong)

/-- 'laws.FnExactMapsBetween': WHATEVER THE INPUT: true; the input reads as it did. -/
def fnExactMapsBetweenSpec : ChangeSpec := { name := "fnExactMapsBetween", fn := fun _ => fun
  | [d1, d2, d3] => { results := [.lit (.bool true)], args := [d1, d2, d3] }
  | _ => none }
def fnExactMapsBetweenRow : OpenClaim := { program := "ytcdbgcpccmcbeaa", sum := "6830c20dca2096bed5040c438f74046cc9ded0c94027ceb03adb89672bda9124", func := "loop.example/g03109/laws.FnExactMapsBetween", spec := "fnExactMapsBetween", unfollowed := true, recurses := true, apart := false }
def FnExactMapsBetweenSaid : Prop := fnExactMapsBetweenRow.holds Try.pinned (OpenSpec.ofChange fnExactMapsBetweenSpec)

/-- ITS FALSE NEIGHBOUR: 'it returns false'. Refute it at one input. -/
def fnExactMapsBetweenWrong : ChangeSpec := { name := "fnExactMapsBetween", fn := fun _ => fun
  | [d1, d2, d3] => { results := [.lit (.bool false)], args := [d1, d2, d3] }
  | _ => none }
def FnExactMapsBetweenWrongFalsely : Prop := fnExactMapsBetweenRow.holds Try.pinned (OpenSpec.ofChange fnExactMapsBetweenWrong)

/-- 'laws.FnExactKilledBy': WHATEVER THE INPUT: true; the input reads as it did. -/
def fnExactKilledBySpec : ChangeSpec := { name := "fnExactKilledBy", fn := fun _ => fun
  | [d1, d2, d3] => { results := [.lit (.bool true)], args := [d1, d2, d3] }
  | _ => none }
def fnExactKilledByRow : OpenClaim := { program := "ytcdbgcpccmcbeaa", sum := "6830c20dca2096bed5040c438f74046cc9ded0c94027ceb03adb89672bda9124", func := "loop.example/g03109/laws.FnExactKilledBy", spec := "fnExactKilledBy", unfollowed := true, recurses := true, apart := false }
def FnExactKilledBySaid : Prop := fnExactKilledByRow.holds Try.pinned (OpenSpec.ofChange fnExactKilledBySpec)

/-- ITS FALSE NEIGHBOUR: 'it returns false'. Refute it at one input. -/
def fnExactKilledByWrong : ChangeSpec := { name := "fnExactKilledBy", fn := fun _ => fun
  | [d1, d2, d3] => { results := [.lit (.bool false)], args := [d1, d2, d3] }
  | _ => none }
def FnExactKilledByWrongFalsely : Prop := fnExactKilledByRow.holds Try.pinned (OpenSpec.ofChange fnExactKilledByWrong)

/-- 'laws.FnExactCasimirOf': WHATEVER THE INPUT: true; the input reads as it did. -/
def fnExactCasimirOfSpec : ChangeSpec := { name := "fnExactCasimirOf", fn := fun _ => fun
  | [d1, d2] => { results := [.lit (.bool true)], args := [d1, d2] }
  | _ => none }
def fnExactCasimirOfRow : OpenClaim := { program := "ytcdbgcpccmcbeaa", sum := "6830c20dca2096bed5040c438f74046cc9ded0c94027ceb03adb89672bda9124", func := "loop.example/g03109/laws.FnExactCasimirOf", spec := "fnExactCasimirOf", unfollowed := true, recurses := true, apart := false }
def FnExactCasimirOfSaid : Prop := fnExactCasimirOfRow.holds Try.pinned (OpenSpec.ofChange fnExactCasimirOfSpec)

/-- ITS FALSE NEIGHBOUR: 'it returns false'. Refute it at one input. -/
def fnExactCasimirOfWrong : ChangeSpec := { name := "fnExactCasimirOf", fn := fun _ => fun
  | [d1, d2] => { results := [.lit (.bool false)], args := [d1, d2] }
  | _ => none }
def FnExactCasimirOfWrongFalsely : Prop := fnExactCasimirOfRow.holds Try.pinned (OpenSpec.ofChange fnExactCasimirOfWrong)

/-- 'laws.FnExactRestrictTo': WHATEVER THE INPUT: true; the input reads as it did. -/
def fnExactRestrictToSpec : ChangeSpec := { name := "fnExactRestrictTo", fn := fun _ => fun
  | [d1, d2, d3] => { results := [.lit (.bool true)], args := [d1, d2, d3] }
  | _ => none }
def fnExactRestrictToRow : OpenClaim := { program := "ytcdbgcpccmcbeaa", sum := "6830c20dca2096bed5040c438f74046cc9ded0c94027ceb03adb89672bda9124", func := "loop.example/g03109/laws.FnExactRestrictTo", spec := "fnExactRestrictTo", unfollowed := true, recurses := true, apart := false }
def FnExactRestrictToSaid : Prop := fnExactRestrictToRow.holds Try.pinned (OpenSpec.ofChange fnExactRestrictToSpec)

/-- ITS FALSE NEIGHBOUR: 'it returns false'. Refute it at one input. -/
def fnExactRestrictToWrong : ChangeSpec := { name := "fnExactRestrictTo", fn := fun _ => fun
  | [d1, d2, d3] => { results := [.lit (.bool false)], args := [d1, d2, d3] }
  | _ => none }
def FnExactRestrictToWrongFalsely : Prop := fnExactRestrictToRow.holds Try.pinned (OpenSpec.ofChange fnExactRestrictToWrong)

/- THE SECOND FORM. 'bulk': how many values and letters a reading holds, each counted each time it is reached (what is shared counts as often as it is met; a slice's spare places count too). A statement '..UptoSaid' is the law's where the arguments, and the package variables that the reading takes, are together of bulk at most 1048576: NARROWER than '..Said'. Prove '..Said' where nothing that the law and all that it calls make is longer than what came in: it says more and counts as full. Else prove '..UptoSaid'. A law counts once. -/
mutual
def uptoBulk {H : Type} : DataW H → Nat
  | .lit (.string bytes) => bytes.length + 1
  | .lit _ => 1
  | .nil => 1
  | .ptr d => uptoBulk d + 1
  | .slice elems spare => uptoBulkAll elems + uptoBulkAll spare + 1
  | .agg parts => uptoBulkAll parts + 1
  | .iface _ d => uptoBulk d + 1
  | .map entries => uptoBulkEntries entries + 1
  | .held _ => 1
def uptoBulkAll {H : Type} : List (DataW H) → Nat
  | [] => 0
  | d :: r => uptoBulk d + uptoBulkAll r
def uptoBulkEntries {H : Type} : List (Lit × DataW H) → Nat
  | [] => 0
  | x :: r => uptoBulkEntry x + uptoBulkEntries r
def uptoBulkEntry {H : Type} : Lit × DataW H → Nat
  | (.string bytes, d) => bytes.length + uptoBulk d + 1
  | (_, d) => uptoBulk d + 1
 end
def uptoSmall : (H : Type) → List (DataW H) → Bool := fun _ ds => decide (uptoBulkAll ds ≤ 1048576)
def OpenSpec.upto (s : _root_.Go.ChangeSpec) : _root_.Go.OpenSpec := { _root_.Go.OpenSpec.ofChange s with cond := some uptoSmall }

/-- 'laws.FnExactSemidirectBy', WHERE WHAT IT READS IS OF BULK AT MOST 1048576: true; the input reads as it did. -/
def fnExactSemidirectByUptoRow : OpenClaim := { program := "ytcdbgcpccmcbeaa", sum := "6830c20dca2096bed5040c438f74046cc9ded0c94027ceb03adb89672bda9124", func := "loop.example/g03109/laws.FnExactSemidirectBy", spec := "fnExactSemidirectBy", unfollowed := true, recurses := true, apart := false, narrowed := true }
def FnExactSemidirectByUptoSaid : Prop := fnExactSemidirectByUptoRow.holds Try.pinned (OpenSpec.upto fnExactSemidirectBySpec)

/-- 'laws.FnExactIsToral', WHERE WHAT IT READS IS OF BULK AT MOST 1048576: true; the input reads as it did. -/
def fnExactIsToralUptoRow : OpenClaim := { program := "ytcdbgcpccmcbeaa", sum := "6830c20dca2096bed5040c438f74046cc9ded0c94027ceb03adb89672bda9124", func := "loop.example/g03109/laws.FnExactIsToral", spec := "fnExactIsToral", unfollowed := true, recurses := true, apart := false, narrowed := true }
def FnExactIsToralUptoSaid : Prop := fnExactIsToralUptoRow.holds Try.pinned (OpenSpec.upto fnExactIsToralSpec)

/-- 'laws.FnExactSubTable', WHERE WHAT IT READS IS OF BULK AT MOST 1048576: true; the input reads as it did. -/
def fnExactSubTableUptoRow : OpenClaim := { program := "ytcdbgcpccmcbeaa", sum := "6830c20dca2096bed5040c438f74046cc9ded0c94027ceb03adb89672bda9124", func := "loop.example/g03109/laws.FnExactSubTable", spec := "fnExactSubTable", unfollowed := true, recurses := true, apart := false, narrowed := true }
def FnExactSubTableUptoSaid : Prop := fnExactSubTableUptoRow.holds Try.pinned (OpenSpec.upto fnExactSubTableSpec)

/-- 'laws.FnExactUpperSeries', WHERE WHAT IT READS IS OF BULK AT MOST 1048576: true; the input reads as it did. -/
def fnExactUpperSeriesUptoRow : OpenClaim := { program := "ytcdbgcpccmcbeaa", sum := "6830c20dca2096bed5040c438f74046cc9ded0c94027ceb03adb89672bda9124", func := "loop.example/g03109/laws.FnExactUpperSeries", spec := "fnExactUpperSeries", unfollowed := true, recurses := true, apart := false, narrowed := true }
def FnExactUpperSeriesUptoSaid : Prop := fnExactUpperSeriesUptoRow.holds Try.pinned (OpenSpec.upto fnExactUpperSeriesSpec)

/-- 'laws.FnExactQuotientTable', WHERE WHAT IT READS IS OF BULK AT MOST 1048576: true; the input reads as it did. -/
def fnExactQuotientTableUptoRow : OpenClaim := { program := "ytcdbgcpccmcbeaa", sum := "6830c20dca2096bed5040c438f74046cc9ded0c94027ceb03adb89672bda9124", func := "loop.example/g03109/laws.FnExactQuotientTable", spec := "fnExactQuotientTable", unfollowed := true, recurses := true, apart := false, narrowed := true }
def FnExactQuotientTableUptoSaid : Prop := fnExactQuotientTableUptoRow.holds Try.pinned (OpenSpec.upto fnExactQuotientTableSpec)

/-- 'laws.FnExactMapsBetween', WHERE WHAT IT READS IS OF BULK AT MOST 1048576: true; the input reads as it did. -/
def fnExactMapsBetweenUptoRow : OpenClaim := { program := "ytcdbgcpccmcbeaa", sum := "6830c20dca2096bed5040c438f74046cc9ded0c94027ceb03adb89672bda9124", func := "loop.example/g03109/laws.FnExactMapsBetween", spec := "fnExactMapsBetween", unfollowed := true, recurses := true, apart := false, narrowed := true }
def FnExactMapsBetweenUptoSaid : Prop := fnExactMapsBetweenUptoRow.holds Try.pinned (OpenSpec.upto fnExactMapsBetweenSpec)

/-- 'laws.FnExactKilledBy', WHERE WHAT IT READS IS OF BULK AT MOST 1048576: true; the input reads as it did. -/
def fnExactKilledByUptoRow : OpenClaim := { program := "ytcdbgcpccmcbeaa", sum := "6830c20dca2096bed5040c438f74046cc9ded0c94027ceb03adb89672bda9124", func := "loop.example/g03109/laws.FnExactKilledBy", spec := "fnExactKilledBy", unfollowed := true, recurses := true, apart := false, narrowed := true }
def FnExactKilledByUptoSaid : Prop := fnExactKilledByUptoRow.holds Try.pinned (OpenSpec.upto fnExactKilledBySpec)

/-- 'laws.FnExactCasimirOf', WHERE WHAT IT READS IS OF BULK AT MOST 1048576: true; the input reads as it did. -/
def fnExactCasimirOfUptoRow : OpenClaim := { program := "ytcdbgcpccmcbeaa", sum := "6830c20dca2096bed5040c438f74046cc9ded0c94027ceb03adb89672bda9124", func := "loop.example/g03109/laws.FnExactCasimirOf", spec := "fnExactCasimirOf", unfollowed := true, recurses := true, apart := false, narrowed := true }
def FnExactCasimirOfUptoSaid : Prop := fnExactCasimirOfUptoRow.holds Try.pinned (OpenSpec.upto fnExactCasimirOfSpec)

/-- 'laws.FnExactRestrictTo', WHERE WHAT IT READS IS OF BULK AT MOST 1048576: true; the input reads as it did. -/
def fnExactRestrictToUptoRow : OpenClaim := { program := "ytcdbgcpccmcbeaa", sum := "6830c20dca2096bed5040c438f74046cc9ded0c94027ceb03adb89672bda9124", func := "loop.example/g03109/laws.FnExactRestrictTo", spec := "fnExactRestrictTo", unfollowed := true, recurses := true, apart := false, narrowed := true }
def FnExactRestrictToUptoSaid : Prop := fnExactRestrictToUptoRow.holds Try.pinned (OpenSpec.upto fnExactRestrictToSpec)

end Rows
end Go.Proofs.Ytcdbgcpccmcbeaa
