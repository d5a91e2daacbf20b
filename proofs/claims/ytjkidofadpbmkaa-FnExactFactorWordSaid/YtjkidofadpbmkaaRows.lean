/-
  No cell of these rows narrows 'for every input' (looked for: loops, veiled, ifaces, maps, wideKeys, modest, calm, conditions, laid).
  DERIVED. THE GIVEN ROWS OF THIS SEAT. 6 by the template 'for every input the law returns true; each argument reads behind the call as it read before'; 0 by the template 'total and deterministic' (their statements: YtjkidofadpbmkaaTotals.lean).
  GIVEN WITH THE SEED: the statements are not yours to turn. If you find one false, say at which input.
  Laid BY PROGRAM, IN A SANDBOX (cutbox-rows.mjs): the forced cells as the released guide's own fill.sh prints them over the translation 0c0ab4a6c1b02ecc… (all of the seat's roots in one cut). By AI agents, Wed Nov 11 2026. No macro, syntax, notation, axiom, sorry.
-/
import Derived.Test.YtjkidofadpbmkaaChecked
import GoSem.Claim
import GoSem.ClaimJoined
import GoSem.ClaimMapViews
import Derived.JoinedTies
import Derived.KernelRfl
namespace Go.Proofs.Ytjkidofadpbmkaa
/- THE CELL 'sum', in the pinned program and in every row, IS THE sha256 OF THE DUMP (.gsa) THAT YtjkidofadpbmkaaProg.lean LOADS. Nothing in Lean hashes anything: it is a label: what it is worth is what the hold of that sum in a sandbox is worth. -/
noncomputable def Try.pinned : Pinned := { name := "ytjkidofadpbmkaa", sum := "0c0ab4a6c1b02ecc6c3931ebf4c9aebb3e943d3f9a6e087c1e41762a1860a8bb", checked := Try.checked }
namespace Rows
def none {H : Type} : Left H := { results := [], args := [] }

/-- 'laws.FnExactLyndonCount': WHATEVER THE INPUT: true; the input reads as it did. -/
def fnExactLyndonCountSpec : ChangeSpec := { name := "fnExactLyndonCount", fn := fun _ => fun
  | [d1, d2] => { results := [.lit (.bool true)], args := [d1, d2] }
  | _ => none }
def fnExactLyndonCountRow : OpenClaim := { program := "ytjkidofadpbmkaa", sum := "0c0ab4a6c1b02ecc6c3931ebf4c9aebb3e943d3f9a6e087c1e41762a1860a8bb", func := "loop.example/g03109/laws.FnExactLyndonCount", spec := "fnExactLyndonCount", apart := false }
def FnExactLyndonCountSaid : Prop := fnExactLyndonCountRow.holds Try.pinned (OpenSpec.ofChange fnExactLyndonCountSpec)

/-- ITS FALSE NEIGHBOUR: 'it returns false'. Refute it at one input. -/
def fnExactLyndonCountWrong : ChangeSpec := { name := "fnExactLyndonCount", fn := fun _ => fun
  | [d1, d2] => { results := [.lit (.bool false)], args := [d1, d2] }
  | _ => none }
def FnExactLyndonCountWrongFalsely : Prop := fnExactLyndonCountRow.holds Try.pinned (OpenSpec.ofChange fnExactLyndonCountWrong)

/-- 'laws.FnExactIsLyndon': WHATEVER THE INPUT: true; the input reads as it did. -/
def fnExactIsLyndonSpec : ChangeSpec := { name := "fnExactIsLyndon", fn := fun _ => fun
  | [d] => { results := [.lit (.bool true)], args := [d] }
  | _ => none }
def fnExactIsLyndonRow : OpenClaim := { program := "ytjkidofadpbmkaa", sum := "0c0ab4a6c1b02ecc6c3931ebf4c9aebb3e943d3f9a6e087c1e41762a1860a8bb", func := "loop.example/g03109/laws.FnExactIsLyndon", spec := "fnExactIsLyndon", unfollowed := true, recurses := true, apart := false }
def FnExactIsLyndonSaid : Prop := fnExactIsLyndonRow.holds Try.pinned (OpenSpec.ofChange fnExactIsLyndonSpec)

/-- ITS FALSE NEIGHBOUR: 'it returns false'. Refute it at one input. -/
def fnExactIsLyndonWrong : ChangeSpec := { name := "fnExactIsLyndon", fn := fun _ => fun
  | [d] => { results := [.lit (.bool false)], args := [d] }
  | _ => none }
def FnExactIsLyndonWrongFalsely : Prop := fnExactIsLyndonRow.holds Try.pinned (OpenSpec.ofChange fnExactIsLyndonWrong)

/-- 'laws.FnExactCutWord': WHATEVER THE INPUT: true; the input reads as it did. -/
def fnExactCutWordSpec : ChangeSpec := { name := "fnExactCutWord", fn := fun _ => fun
  | [d] => { results := [.lit (.bool true)], args := [d] }
  | _ => none }
def fnExactCutWordRow : OpenClaim := { program := "ytjkidofadpbmkaa", sum := "0c0ab4a6c1b02ecc6c3931ebf4c9aebb3e943d3f9a6e087c1e41762a1860a8bb", func := "loop.example/g03109/laws.FnExactCutWord", spec := "fnExactCutWord", unfollowed := true, recurses := true, apart := false }
def FnExactCutWordSaid : Prop := fnExactCutWordRow.holds Try.pinned (OpenSpec.ofChange fnExactCutWordSpec)

/-- ITS FALSE NEIGHBOUR: 'it returns false'. Refute it at one input. -/
def fnExactCutWordWrong : ChangeSpec := { name := "fnExactCutWord", fn := fun _ => fun
  | [d] => { results := [.lit (.bool false)], args := [d] }
  | _ => none }
def FnExactCutWordWrongFalsely : Prop := fnExactCutWordRow.holds Try.pinned (OpenSpec.ofChange fnExactCutWordWrong)

/-- 'laws.FnExactLyndonWords': WHATEVER THE INPUT: true; the input reads as it did. -/
def fnExactLyndonWordsSpec : ChangeSpec := { name := "fnExactLyndonWords", fn := fun _ => fun
  | [d1, d2] => { results := [.lit (.bool true)], args := [d1, d2] }
  | _ => none }
def fnExactLyndonWordsRow : OpenClaim := { program := "ytjkidofadpbmkaa", sum := "0c0ab4a6c1b02ecc6c3931ebf4c9aebb3e943d3f9a6e087c1e41762a1860a8bb", func := "loop.example/g03109/laws.FnExactLyndonWords", spec := "fnExactLyndonWords", apart := false }
def FnExactLyndonWordsSaid : Prop := fnExactLyndonWordsRow.holds Try.pinned (OpenSpec.ofChange fnExactLyndonWordsSpec)

/-- ITS FALSE NEIGHBOUR: 'it returns false'. Refute it at one input. -/
def fnExactLyndonWordsWrong : ChangeSpec := { name := "fnExactLyndonWords", fn := fun _ => fun
  | [d1, d2] => { results := [.lit (.bool false)], args := [d1, d2] }
  | _ => none }
def FnExactLyndonWordsWrongFalsely : Prop := fnExactLyndonWordsRow.holds Try.pinned (OpenSpec.ofChange fnExactLyndonWordsWrong)

/-- 'laws.FnExactFactorWord': WHATEVER THE INPUT: true; the input reads as it did. -/
def fnExactFactorWordSpec : ChangeSpec := { name := "fnExactFactorWord", fn := fun _ => fun
  | [d] => { results := [.lit (.bool true)], args := [d] }
  | _ => none }
def fnExactFactorWordRow : OpenClaim := { program := "ytjkidofadpbmkaa", sum := "0c0ab4a6c1b02ecc6c3931ebf4c9aebb3e943d3f9a6e087c1e41762a1860a8bb", func := "loop.example/g03109/laws.FnExactFactorWord", spec := "fnExactFactorWord", unfollowed := true, recurses := true, apart := false }
def FnExactFactorWordSaid : Prop := fnExactFactorWordRow.holds Try.pinned (OpenSpec.ofChange fnExactFactorWordSpec)

/-- ITS FALSE NEIGHBOUR: 'it returns false'. Refute it at one input. -/
def fnExactFactorWordWrong : ChangeSpec := { name := "fnExactFactorWord", fn := fun _ => fun
  | [d] => { results := [.lit (.bool false)], args := [d] }
  | _ => none }
def FnExactFactorWordWrongFalsely : Prop := fnExactFactorWordRow.holds Try.pinned (OpenSpec.ofChange fnExactFactorWordWrong)

/-- 'laws.FnExactBracketOf': WHATEVER THE INPUT: true; the input reads as it did. -/
def fnExactBracketOfSpec : ChangeSpec := { name := "fnExactBracketOf", fn := fun _ => fun
  | [d1, d2, d3] => { results := [.lit (.bool true)], args := [d1, d2, d3] }
  | _ => none }
def fnExactBracketOfRow : OpenClaim := { program := "ytjkidofadpbmkaa", sum := "0c0ab4a6c1b02ecc6c3931ebf4c9aebb3e943d3f9a6e087c1e41762a1860a8bb", func := "loop.example/g03109/laws.FnExactBracketOf", spec := "fnExactBracketOf", unfollowed := true, recurses := true, apart := false }
def FnExactBracketOfSaid : Prop := fnExactBracketOfRow.holds Try.pinned (OpenSpec.ofChange fnExactBracketOfSpec)

/-- ITS FALSE NEIGHBOUR: 'it returns false'. Refute it at one input. -/
def fnExactBracketOfWrong : ChangeSpec := { name := "fnExactBracketOf", fn := fun _ => fun
  | [d1, d2, d3] => { results := [.lit (.bool false)], args := [d1, d2, d3] }
  | _ => none }
def FnExactBracketOfWrongFalsely : Prop := fnExactBracketOfRow.holds Try.pinned (OpenSpec.ofChange fnExactBracketOfWrong)

/- THE SECOND FORM. 'bulk': how many values and letters a reading holds, each counted each time it is reached (what is shared counts as often as it is met; a slice's spare places count too). A statement '..UptoSaid' is the law's where the arguments, and the package variables that the reading takes, are together of bulk at most 1048576: NARROWER than '..Said'. Prove '..Said' where nothing that the law and all that it calls make is longer than what came in: it says more and counts as full. Else prove '..UptoSaid'. A law counts once. -/
mutual
def uptoBulk {H : Type} : DataW H → Nat
  | .lit (.string bytes) => bytes.length + 1
  | .lit _ => 1
  | .nil => 1
  | .ptr d => uptoBulk d + 1
  | .slice elems spare => uptoBulkAll elems + uptoBulkAll spare + 1
  | .agg parts => uptoBulkAll parts + 1
  | .iface _ d => uptoBulk d + 1
  | .map entries => uptoBulkEntries entries + 1
  | .held _ => 1
def uptoBulkAll {H : Type} : List (DataW H) → Nat
  | [] => 0
  | d :: r => uptoBulk d + uptoBulkAll r
def uptoBulkEntries {H : Type} : List (Lit × DataW H) → Nat
  | [] => 0
  | x :: r => uptoBulkEntry x + uptoBulkEntries r
def uptoBulkEntry {H : Type} : Lit × DataW H → Nat
  | (.string bytes, d) => bytes.length + uptoBulk d + 1
  | (_, d) => uptoBulk d + 1
 end
def uptoSmall : (H : Type) → List (DataW H) → Bool := fun _ ds => decide (uptoBulkAll ds ≤ 1048576)
def OpenSpec.upto (s : _root_.Go.ChangeSpec) : _root_.Go.OpenSpec := { _root_.Go.OpenSpec.ofChange s with cond := some uptoSmall }

/-- 'laws.FnExactLyndonCount', WHERE WHAT IT READS IS OF BULK AT MOST 1048576: true; the input reads as it did. -/
def fnExactLyndonCountUptoRow : OpenClaim := { program := "ytjkidofadpbmkaa", sum := "0c0ab4a6c1b02ecc6c3931ebf4c9aebb3e943d3f9a6e087c1e41762a1860a8bb", func := "loop.example/g03109/laws.FnExactLyndonCount", spec := "fnExactLyndonCount", apart := false, narrowed := true }
def FnExactLyndonCountUptoSaid : Prop := fnExactLyndonCountUptoRow.holds Try.pinned (OpenSpec.upto fnExactLyndonCountSpec)

/-- 'laws.FnExactIsLyndon', WHERE WHAT IT READS IS OF BULK AT MOST 1048576: true; the input reads as it did. -/
def fnExactIsLyndonUptoRow : OpenClaim := { program := "ytjkidofadpbmkaa", sum := "0c0ab4a6c1b02ecc6c3931ebf4c9aebb3e943d3f9a6e087c1e41762a1860a8bb", func := "loop.example/g03109/laws.FnExactIsLyndon", spec := "fnExactIsLyndon", unfollowed := true, recurses := true, apart := false, narrowed := true }
def FnExactIsLyndonUptoSaid : Prop := fnExactIsLyndonUptoRow.holds Try.pinned (OpenSpec.upto fnExactIsLyndonSpec)

/-- 'laws.FnExactCutWord', WHERE WHAT IT READS IS OF BULK AT MOST 1048576: true; the input reads as it did. -/
def fnExactCutWordUptoRow : OpenClaim := { program := "ytjkidofadpbmkaa", sum := "0c0ab4a6c1b02ecc6c3931ebf4c9aebb3e943d3f9a6e087c1e41762a1860a8bb", func := "loop.example/g03109/laws.FnExactCutWord", spec := "fnExactCutWord", unfollowed := true, recurses := true, apart := false, narrowed := true }
def FnExactCutWordUptoSaid : Prop := fnExactCutWordUptoRow.holds Try.pinned (OpenSpec.upto fnExactCutWordSpec)

/-- 'laws.FnExactLyndonWords', WHERE WHAT IT READS IS OF BULK AT MOST 1048576: true; the input reads as it did. -/
def fnExactLyndonWordsUptoRow : OpenClaim := { program := "ytjkidofadpbmkaa", sum := "0c0ab4a6c1b02ecc6c3931ebf4c9aebb3e943d3f9a6e087c1e41762a1860a8bb", func := "loop.example/g03109/laws.FnExactLyndonWords", spec := "fnExactLyndonWords", apart := false, narrowed := true }
def FnExactLyndonWordsUptoSaid : Prop := fnExactLyndonWordsUptoRow.holds Try.pinned (OpenSpec.upto fnExactLyndonWordsSpec)

/-- 'laws.FnExactFactorWord', WHERE WHAT IT READS IS OF BULK AT MOST 1048576: true; the input reads as it did. -/
def fnExactFactorWordUptoRow : OpenClaim := { program := "ytjkidofadpbmkaa", sum := "0c0ab4a6c1b02ecc6c3931ebf4c9aebb3e943d3f9a6e087c1e41762a1860a8bb", func := "loop.example/g03109/laws.FnExactFactorWord", spec := "fnExactFactorWord", unfollowed := true, recurses := true, apart := false, narrowed := true }
def FnExactFactorWordUptoSaid : Prop := fnExactFactorWordUptoRow.holds Try.pinned (OpenSpec.upto fnExactFactorWordSpec)

/-- 'laws.FnExactBracketOf', WHERE WHAT IT READS IS OF BULK AT MOST 1048576: true; the input reads as it did. -/
def fnExactBracketOfUptoRow : OpenClaim := { program := "ytjkidofadpbmkaa", sum := "0c0ab4a6c1b02ecc6c3931ebf4c9aebb3e943d3f9a6e087c1e41762a1860a8bb", func := "loop.example/g03109/laws.FnExactBracketOf", spec := "fnExactBracketOf", unfollowed := true, recurses := true, apart := false, narrowed := true }
def FnExactBracketOfUptoSaid : Prop := fnExactBracketOfUptoRow.holds Try.pinned (OpenSpec.upto fnExactBracketOfSpec)

end Rows
end Go.Proofs.Ytjkidofadpbmkaa
