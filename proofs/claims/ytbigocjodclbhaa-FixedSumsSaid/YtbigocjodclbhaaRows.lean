/-
  No cell of these rows narrows 'for every input' (looked for: loops, veiled, ifaces, maps, wideKeys, modest, calm, conditions, laid).
  DERIVED. THE GIVEN ROWS OF THIS SEAT. 7 by the template 'for every input the law returns true; each argument reads behind the call as it read before'; 0 by the template 'total and deterministic' (their statements: YtbigocjodclbhaaTotals.lean).
  GIVEN WITH THE SEED: the statements are not yours to turn. If you find one false, say at which input.
  Laid BY PROGRAM, IN A SANDBOX (cutbox-rows.mjs): the forced cells as the released guide's own fill.sh prints them over the translation fcb32c5f16e4e9ab… (all of the seat's roots in one cut). By AI agents, Wed Nov 11 2026. No macro, syntax, notation, axiom, sorry.
-/
import Derived.Test.YtbigocjodclbhaaChecked
import GoSem.Claim
import GoSem.ClaimJoined
import GoSem.ClaimMapViews
import Derived.JoinedTies
import Derived.KernelRfl
namespace Go.Proofs.Ytbigocjodclbhaa
/- THE CELL 'sum', in the pinned program and in every row, IS THE sha256 OF THE DUMP (.gsa) THAT YtbigocjodclbhaaProg.lean LOADS. Nothing in Lean hashes anything: it is a label: what it is worth is what the hold of that sum in a sandbox is worth. -/
noncomputable def Try.pinned : Pinned := { name := "ytbigocjodclbhaa", sum := "fcb32c5f16e4e9abe08f1008a6072be49480c55c479bc0df6e0eabfa21430e68", checked := Try.checked }
namespace Rows
def none {H : Type} : Left H := { results := [], args := [] }

/-- 'kinoralaw11.FixedRests': WHATEVER THE INPUT: true; the input reads as it did. -/
def fixedRestsSpec : ChangeSpec := { name := "fixedRests", fn := fun _ => fun
  | [d1, d2] => { results := [.lit (.bool true)], args := [d1, d2] }
  | _ => none }
def fixedRestsRow : OpenClaim := { program := "ytbigocjodclbhaa", sum := "fcb32c5f16e4e9abe08f1008a6072be49480c55c479bc0df6e0eabfa21430e68", func := "kinora/kinoralaw11.FixedRests", spec := "fixedRests", unfollowed := true, recurses := true, apart := false }
def FixedRestsSaid : Prop := fixedRestsRow.holds Try.pinned (OpenSpec.ofChange fixedRestsSpec)

/-- ITS FALSE NEIGHBOUR: 'it returns false'. Refute it at one input. -/
def fixedRestsWrong : ChangeSpec := { name := "fixedRests", fn := fun _ => fun
  | [d1, d2] => { results := [.lit (.bool false)], args := [d1, d2] }
  | _ => none }
def FixedRestsWrongFalsely : Prop := fixedRestsRow.holds Try.pinned (OpenSpec.ofChange fixedRestsWrong)

/-- 'kinoralaw11.FixedBacks': WHATEVER THE INPUT: true; the input reads as it did. -/
def fixedBacksSpec : ChangeSpec := { name := "fixedBacks", fn := fun _ => fun
  | [d1, d2, d3] => { results := [.lit (.bool true)], args := [d1, d2, d3] }
  | _ => none }
def fixedBacksRow : OpenClaim := { program := "ytbigocjodclbhaa", sum := "fcb32c5f16e4e9abe08f1008a6072be49480c55c479bc0df6e0eabfa21430e68", func := "kinora/kinoralaw11.FixedBacks", spec := "fixedBacks", unfollowed := true, recurses := true, apart := false }
def FixedBacksSaid : Prop := fixedBacksRow.holds Try.pinned (OpenSpec.ofChange fixedBacksSpec)

/-- ITS FALSE NEIGHBOUR: 'it returns false'. Refute it at one input. -/
def fixedBacksWrong : ChangeSpec := { name := "fixedBacks", fn := fun _ => fun
  | [d1, d2, d3] => { results := [.lit (.bool false)], args := [d1, d2, d3] }
  | _ => none }
def FixedBacksWrongFalsely : Prop := fixedBacksRow.holds Try.pinned (OpenSpec.ofChange fixedBacksWrong)

/-- 'kinoralaw11.FixedRound': WHATEVER THE INPUT: true; the input reads as it did. -/
def fixedRoundSpec : ChangeSpec := { name := "fixedRound", fn := fun _ => fun
  | [d1, d2, d3, d4] => { results := [.lit (.bool true)], args := [d1, d2, d3, d4] }
  | _ => none }
def fixedRoundRow : OpenClaim := { program := "ytbigocjodclbhaa", sum := "fcb32c5f16e4e9abe08f1008a6072be49480c55c479bc0df6e0eabfa21430e68", func := "kinora/kinoralaw11.FixedRound", spec := "fixedRound", unfollowed := true, recurses := true, apart := false }
def FixedRoundSaid : Prop := fixedRoundRow.holds Try.pinned (OpenSpec.ofChange fixedRoundSpec)

/-- ITS FALSE NEIGHBOUR: 'it returns false'. Refute it at one input. -/
def fixedRoundWrong : ChangeSpec := { name := "fixedRound", fn := fun _ => fun
  | [d1, d2, d3, d4] => { results := [.lit (.bool false)], args := [d1, d2, d3, d4] }
  | _ => none }
def FixedRoundWrongFalsely : Prop := fixedRoundRow.holds Try.pinned (OpenSpec.ofChange fixedRoundWrong)

/-- 'kinoralaw11.FixedSteps': WHATEVER THE INPUT: true; the input reads as it did. -/
def fixedStepsSpec : ChangeSpec := { name := "fixedSteps", fn := fun _ => fun
  | [d1, d2] => { results := [.lit (.bool true)], args := [d1, d2] }
  | _ => none }
def fixedStepsRow : OpenClaim := { program := "ytbigocjodclbhaa", sum := "fcb32c5f16e4e9abe08f1008a6072be49480c55c479bc0df6e0eabfa21430e68", func := "kinora/kinoralaw11.FixedSteps", spec := "fixedSteps", unfollowed := true, recurses := true, apart := false }
def FixedStepsSaid : Prop := fixedStepsRow.holds Try.pinned (OpenSpec.ofChange fixedStepsSpec)

/-- ITS FALSE NEIGHBOUR: 'it returns false'. Refute it at one input. -/
def fixedStepsWrong : ChangeSpec := { name := "fixedSteps", fn := fun _ => fun
  | [d1, d2] => { results := [.lit (.bool false)], args := [d1, d2] }
  | _ => none }
def FixedStepsWrongFalsely : Prop := fixedStepsRow.holds Try.pinned (OpenSpec.ofChange fixedStepsWrong)

/-- 'kinoralaw11.FixedLeast': WHATEVER THE INPUT: true; the input reads as it did. -/
def fixedLeastSpec : ChangeSpec := { name := "fixedLeast", fn := fun _ => fun
  | [d1, d2] => { results := [.lit (.bool true)], args := [d1, d2] }
  | _ => none }
def fixedLeastRow : OpenClaim := { program := "ytbigocjodclbhaa", sum := "fcb32c5f16e4e9abe08f1008a6072be49480c55c479bc0df6e0eabfa21430e68", func := "kinora/kinoralaw11.FixedLeast", spec := "fixedLeast", unfollowed := true, recurses := true, apart := false }
def FixedLeastSaid : Prop := fixedLeastRow.holds Try.pinned (OpenSpec.ofChange fixedLeastSpec)

/-- ITS FALSE NEIGHBOUR: 'it returns false'. Refute it at one input. -/
def fixedLeastWrong : ChangeSpec := { name := "fixedLeast", fn := fun _ => fun
  | [d1, d2] => { results := [.lit (.bool false)], args := [d1, d2] }
  | _ => none }
def FixedLeastWrongFalsely : Prop := fixedLeastRow.holds Try.pinned (OpenSpec.ofChange fixedLeastWrong)

/-- 'kinoralaw11.FixedCurves': WHATEVER THE INPUT: true; the input reads as it did. -/
def fixedCurvesSpec : ChangeSpec := { name := "fixedCurves", fn := fun _ => fun
  | [d1, d2, d3, d4, d5] => { results := [.lit (.bool true)], args := [d1, d2, d3, d4, d5] }
  | _ => none }
def fixedCurvesRow : OpenClaim := { program := "ytbigocjodclbhaa", sum := "fcb32c5f16e4e9abe08f1008a6072be49480c55c479bc0df6e0eabfa21430e68", func := "kinora/kinoralaw11.FixedCurves", spec := "fixedCurves", unfollowed := true, recurses := true, apart := false }
def FixedCurvesSaid : Prop := fixedCurvesRow.holds Try.pinned (OpenSpec.ofChange fixedCurvesSpec)

/-- ITS FALSE NEIGHBOUR: 'it returns false'. Refute it at one input. -/
def fixedCurvesWrong : ChangeSpec := { name := "fixedCurves", fn := fun _ => fun
  | [d1, d2, d3, d4, d5] => { results := [.lit (.bool false)], args := [d1, d2, d3, d4, d5] }
  | _ => none }
def FixedCurvesWrongFalsely : Prop := fixedCurvesRow.holds Try.pinned (OpenSpec.ofChange fixedCurvesWrong)

/-- 'kinoralaw11.FixedSums': WHATEVER THE INPUT: true; the input reads as it did. -/
def fixedSumsSpec : ChangeSpec := { name := "fixedSums", fn := fun _ => fun
  | [d1, d2, d3] => { results := [.lit (.bool true)], args := [d1, d2, d3] }
  | _ => none }
def fixedSumsRow : OpenClaim := { program := "ytbigocjodclbhaa", sum := "fcb32c5f16e4e9abe08f1008a6072be49480c55c479bc0df6e0eabfa21430e68", func := "kinora/kinoralaw11.FixedSums", spec := "fixedSums", unfollowed := true, recurses := true, apart := false }
def FixedSumsSaid : Prop := fixedSumsRow.holds Try.pinned (OpenSpec.ofChange fixedSumsSpec)

/-- ITS FALSE NEIGHBOUR: 'it returns false'. Refute it at one input. -/
def fixedSumsWrong : ChangeSpec := { name := "fixedSums", fn := fun _ => fun
  | [d1, d2, d3] => { results := [.lit (.bool false)], args := [d1, d2, d3] }
  | _ => none }
def FixedSumsWrongFalsely : Prop := fixedSumsRow.holds Try.pinned (OpenSpec.ofChange fixedSumsWrong)

/- THE SECOND FORM. 'bulk': how many values and letters a reading holds, each counted each time it is reached (what is shared counts as often as it is met; a slice's spare places count too). A statement '..UptoSaid' is the law's where the arguments, and the package variables that the reading takes, are together of bulk at most 1048576: NARROWER than '..Said'. Prove '..Said' where nothing that the law and all that it calls make is longer than what came in: it says more and counts as full. Else prove '..UptoSaid'. A law counts once. -/
mutual
def uptoBulk {H : Type} : DataW H → Nat
  | .lit (.string bytes) => bytes.length + 1
  | .lit _ => 1
  | .nil => 1
  | .ptr d => uptoBulk d + 1
  | .slice elems spare => uptoBulkAll elems + uptoBulkAll spare + 1
  | .agg parts => uptoBulkAll parts + 1
  | .iface _ d => uptoBulk d + 1
  | .map entries => uptoBulkEntries entries + 1
  | .held _ => 1
def uptoBulkAll {H : Type} : List (DataW H) → Nat
  | [] => 0
  | d :: r => uptoBulk d + uptoBulkAll r
def uptoBulkEntries {H : Type} : List (Lit × DataW H) → Nat
  | [] => 0
  | x :: r => uptoBulkEntry x + uptoBulkEntries r
def uptoBulkEntry {H : Type} : Lit × DataW H → Nat
  | (.string bytes, d) => bytes.length + uptoBulk d + 1
  | (_, d) => uptoBulk d + 1
 end
def uptoSmall : (H : Type) → List (DataW H) → Bool := fun _ ds => decide (uptoBulkAll ds ≤ 1048576)
def OpenSpec.upto (s : _root_.Go.ChangeSpec) : _root_.Go.OpenSpec := { _root_.Go.OpenSpec.ofChange s with cond := some uptoSmall }

/-- 'kinoralaw11.FixedRests', WHERE WHAT IT READS IS OF BULK AT MOST 1048576: true; the input reads as it did. -/
def fixedRestsUptoRow : OpenClaim := { program := "ytbigocjodclbhaa", sum := "fcb32c5f16e4e9abe08f1008a6072be49480c55c479bc0df6e0eabfa21430e68", func := "kinora/kinoralaw11.FixedRests", spec := "fixedRests", unfollowed := true, recurses := true, apart := false, narrowed := true }
def FixedRestsUptoSaid : Prop := fixedRestsUptoRow.holds Try.pinned (OpenSpec.upto fixedRestsSpec)

/-- 'kinoralaw11.FixedBacks', WHERE WHAT IT READS IS OF BULK AT MOST 1048576: true; the input reads as it did. -/
def fixedBacksUptoRow : OpenClaim := { program := "ytbigocjodclbhaa", sum := "fcb32c5f16e4e9abe08f1008a6072be49480c55c479bc0df6e0eabfa21430e68", func := "kinora/kinoralaw11.FixedBacks", spec := "fixedBacks", unfollowed := true, recurses := true, apart := false, narrowed := true }
def FixedBacksUptoSaid : Prop := fixedBacksUptoRow.holds Try.pinned (OpenSpec.upto fixedBacksSpec)

/-- 'kinoralaw11.FixedRound', WHERE WHAT IT READS IS OF BULK AT MOST 1048576: true; the input reads as it did. -/
def fixedRoundUptoRow : OpenClaim := { program := "ytbigocjodclbhaa", sum := "fcb32c5f16e4e9abe08f1008a6072be49480c55c479bc0df6e0eabfa21430e68", func := "kinora/kinoralaw11.FixedRound", spec := "fixedRound", unfollowed := true, recurses := true, apart := false, narrowed := true }
def FixedRoundUptoSaid : Prop := fixedRoundUptoRow.holds Try.pinned (OpenSpec.upto fixedRoundSpec)

/-- 'kinoralaw11.FixedSteps', WHERE WHAT IT READS IS OF BULK AT MOST 1048576: true; the input reads as it did. -/
def fixedStepsUptoRow : OpenClaim := { program := "ytbigocjodclbhaa", sum := "fcb32c5f16e4e9abe08f1008a6072be49480c55c479bc0df6e0eabfa21430e68", func := "kinora/kinoralaw11.FixedSteps", spec := "fixedSteps", unfollowed := true, recurses := true, apart := false, narrowed := true }
def FixedStepsUptoSaid : Prop := fixedStepsUptoRow.holds Try.pinned (OpenSpec.upto fixedStepsSpec)

/-- 'kinoralaw11.FixedLeast', WHERE WHAT IT READS IS OF BULK AT MOST 1048576: true; the input reads as it did. -/
def fixedLeastUptoRow : OpenClaim := { program := "ytbigocjodclbhaa", sum := "fcb32c5f16e4e9abe08f1008a6072be49480c55c479bc0df6e0eabfa21430e68", func := "kinora/kinoralaw11.FixedLeast", spec := "fixedLeast", unfollowed := true, recurses := true, apart := false, narrowed := true }
def FixedLeastUptoSaid : Prop := fixedLeastUptoRow.holds Try.pinned (OpenSpec.upto fixedLeastSpec)

/-- 'kinoralaw11.FixedCurves', WHERE WHAT IT READS IS OF BULK AT MOST 1048576: true; the input reads as it did. -/
def fixedCurvesUptoRow : OpenClaim := { program := "ytbigocjodclbhaa", sum := "fcb32c5f16e4e9abe08f1008a6072be49480c55c479bc0df6e0eabfa21430e68", func := "kinora/kinoralaw11.FixedCurves", spec := "fixedCurves", unfollowed := true, recurses := true, apart := false, narrowed := true }
def FixedCurvesUptoSaid : Prop := fixedCurvesUptoRow.holds Try.pinned (OpenSpec.upto fixedCurvesSpec)

/-- 'kinoralaw11.FixedSums', WHERE WHAT IT READS IS OF BULK AT MOST 1048576: true; the input reads as it did. -/
def fixedSumsUptoRow : OpenClaim := { program := "ytbigocjodclbhaa", sum := "fcb32c5f16e4e9abe08f1008a6072be49480c55c479bc0df6e0eabfa21430e68", func := "kinora/kinoralaw11.FixedSums", spec := "fixedSums", unfollowed := true, recurses := true, apart := false, narrowed := true }
def FixedSumsUptoSaid : Prop := fixedSumsUptoRow.holds Try.pinned (OpenSpec.upto fixedSumsSpec)

end Rows
end Go.Proofs.Ytbigocjodclbhaa
