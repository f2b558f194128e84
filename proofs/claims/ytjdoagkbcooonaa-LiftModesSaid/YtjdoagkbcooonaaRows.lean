/-
  No cell of these rows narrows 'for every input' (looked for: loops, veiled, ifaces, maps, wideKeys, modest, calm, conditions, laid).
  DERIVED. THE GIVEN ROWS OF THIS SEAT. 8 by the template 'for every input the law returns true; each argument reads behind the call as it read before'; 0 by the template 'total and deterministic' (their statements: YtjdoagkbcooonaaTotals.lean).
  GIVEN WITH THE SEED: the statements are not yours to turn. If you find one false, say at which input.
  Laid BY PROGRAM, IN A SANDBOX (cutbox-rows.mjs): the forced cells as the released guide's own fill.sh prints them over the translation 8b5c43a9f7f95e10… (all of the seat's roots in one cut). By AI agents, Wed Nov 11 2026. No macro, syntax, notation, axiom, sorry.
-/
import Derived.Test.YtjdoagkbcooonaaChecked
import GoSem.Claim
import GoSem.ClaimJoined
import GoSem.ClaimMapViews
import Derived.JoinedTies
import Derived.KernelRfl
namespace Go.Proofs.Ytjdoagkbcooonaa
/- THE CELL 'sum', in the pinned program and in every row, IS THE sha256 OF THE DUMP (.gsa) THAT YtjdoagkbcooonaaProg.lean LOADS. Nothing in Lean hashes anything: it is a label: what it is worth is what the hold of that sum in a sandbox is worth. -/
noncomputable def Try.pinned : Pinned := { name := "ytjdoagkbcooonaa", sum := "8b5c43a9f7f95e10e98078ccf840a93f76b4e43b98afa7ecf1df5539485c154c", checked := Try.checked }
namespace Rows
def none {H : Type} : Left H := { results := [], args := [] }

/-- 'kinoralaw10.LiftDoes': WHATEVER THE INPUT: true; the input reads as it did. -/
def liftDoesSpec : ChangeSpec := { name := "liftDoes", fn := fun _ => fun
  | [d1, d2] => { results := [.lit (.bool true)], args := [d1, d2] }
  | _ => none }
def liftDoesRow : OpenClaim := { program := "ytjdoagkbcooonaa", sum := "8b5c43a9f7f95e10e98078ccf840a93f76b4e43b98afa7ecf1df5539485c154c", func := "kinora/kinoralaw10.LiftDoes", spec := "liftDoes", unfollowed := true, recurses := true, apart := false }
def LiftDoesSaid : Prop := liftDoesRow.holds Try.pinned (OpenSpec.ofChange liftDoesSpec)

/-- ITS FALSE NEIGHBOUR: 'it returns false'. Refute it at one input. -/
def liftDoesWrong : ChangeSpec := { name := "liftDoes", fn := fun _ => fun
  | [d1, d2] => { results := [.lit (.bool false)], args := [d1, d2] }
  | _ => none }
def LiftDoesWrongFalsely : Prop := liftDoesRow.holds Try.pinned (OpenSpec.ofChange liftDoesWrong)

/-- 'kinoralaw10.LiftBack': WHATEVER THE INPUT: true; the input reads as it did. -/
def liftBackSpec : ChangeSpec := { name := "liftBack", fn := fun _ => fun
  | [d1, d2] => { results := [.lit (.bool true)], args := [d1, d2] }
  | _ => none }
def liftBackRow : OpenClaim := { program := "ytjdoagkbcooonaa", sum := "8b5c43a9f7f95e10e98078ccf840a93f76b4e43b98afa7ecf1df5539485c154c", func := "kinora/kinoralaw10.LiftBack", spec := "liftBack", unfollowed := true, recurses := true, apart := false }
def LiftBackSaid : Prop := liftBackRow.holds Try.pinned (OpenSpec.ofChange liftBackSpec)

/-- ITS FALSE NEIGHBOUR: 'it returns false'. Refute it at one input. -/
def liftBackWrong : ChangeSpec := { name := "liftBack", fn := fun _ => fun
  | [d1, d2] => { results := [.lit (.bool false)], args := [d1, d2] }
  | _ => none }
def LiftBackWrongFalsely : Prop := liftBackRow.holds Try.pinned (OpenSpec.ofChange liftBackWrong)

/-- 'kinoralaw10.LiftSteps': WHATEVER THE INPUT: true; the input reads as it did. -/
def liftStepsSpec : ChangeSpec := { name := "liftSteps", fn := fun _ => fun
  | [d1, d2, d3] => { results := [.lit (.bool true)], args := [d1, d2, d3] }
  | _ => none }
def liftStepsRow : OpenClaim := { program := "ytjdoagkbcooonaa", sum := "8b5c43a9f7f95e10e98078ccf840a93f76b4e43b98afa7ecf1df5539485c154c", func := "kinora/kinoralaw10.LiftSteps", spec := "liftSteps", unfollowed := true, recurses := true, apart := false }
def LiftStepsSaid : Prop := liftStepsRow.holds Try.pinned (OpenSpec.ofChange liftStepsSpec)

/-- ITS FALSE NEIGHBOUR: 'it returns false'. Refute it at one input. -/
def liftStepsWrong : ChangeSpec := { name := "liftSteps", fn := fun _ => fun
  | [d1, d2, d3] => { results := [.lit (.bool false)], args := [d1, d2, d3] }
  | _ => none }
def LiftStepsWrongFalsely : Prop := liftStepsRow.holds Try.pinned (OpenSpec.ofChange liftStepsWrong)

/-- 'kinoralaw10.LiftModes': WHATEVER THE INPUT: true; the input reads as it did. -/
def liftModesSpec : ChangeSpec := { name := "liftModes", fn := fun _ => fun
  | [d1, d2] => { results := [.lit (.bool true)], args := [d1, d2] }
  | _ => none }
def liftModesRow : OpenClaim := { program := "ytjdoagkbcooonaa", sum := "8b5c43a9f7f95e10e98078ccf840a93f76b4e43b98afa7ecf1df5539485c154c", func := "kinora/kinoralaw10.LiftModes", spec := "liftModes", unfollowed := true, recurses := true, apart := false }
def LiftModesSaid : Prop := liftModesRow.holds Try.pinned (OpenSpec.ofChange liftModesSpec)

/-- ITS FALSE NEIGHBOUR: 'it returns false'. Refute it at one input. -/
def liftModesWrong : ChangeSpec := { name := "liftModes", fn := fun _ => fun
  | [d1, d2] => { results := [.lit (.bool false)], args := [d1, d2] }
  | _ => none }
def LiftModesWrongFalsely : Prop := liftModesRow.holds Try.pinned (OpenSpec.ofChange liftModesWrong)

/-- 'kinoralaw10.LiftPlaces': WHATEVER THE INPUT: true; the input reads as it did. -/
def liftPlacesSpec : ChangeSpec := { name := "liftPlaces", fn := fun _ => fun
  | [d1, d2, d3, d4] => { results := [.lit (.bool true)], args := [d1, d2, d3, d4] }
  | _ => none }
def liftPlacesRow : OpenClaim := { program := "ytjdoagkbcooonaa", sum := "8b5c43a9f7f95e10e98078ccf840a93f76b4e43b98afa7ecf1df5539485c154c", func := "kinora/kinoralaw10.LiftPlaces", spec := "liftPlaces", unfollowed := true, recurses := true, apart := false }
def LiftPlacesSaid : Prop := liftPlacesRow.holds Try.pinned (OpenSpec.ofChange liftPlacesSpec)

/-- ITS FALSE NEIGHBOUR: 'it returns false'. Refute it at one input. -/
def liftPlacesWrong : ChangeSpec := { name := "liftPlaces", fn := fun _ => fun
  | [d1, d2, d3, d4] => { results := [.lit (.bool false)], args := [d1, d2, d3, d4] }
  | _ => none }
def LiftPlacesWrongFalsely : Prop := liftPlacesRow.holds Try.pinned (OpenSpec.ofChange liftPlacesWrong)

/-- 'kinoralaw10.LiftTells': WHATEVER THE INPUT: true; the input reads as it did. -/
def liftTellsSpec : ChangeSpec := { name := "liftTells", fn := fun _ => fun
  | [d1, d2, d3, d4] => { results := [.lit (.bool true)], args := [d1, d2, d3, d4] }
  | _ => none }
def liftTellsRow : OpenClaim := { program := "ytjdoagkbcooonaa", sum := "8b5c43a9f7f95e10e98078ccf840a93f76b4e43b98afa7ecf1df5539485c154c", func := "kinora/kinoralaw10.LiftTells", spec := "liftTells", unfollowed := true, recurses := true, apart := false }
def LiftTellsSaid : Prop := liftTellsRow.holds Try.pinned (OpenSpec.ofChange liftTellsSpec)

/-- ITS FALSE NEIGHBOUR: 'it returns false'. Refute it at one input. -/
def liftTellsWrong : ChangeSpec := { name := "liftTells", fn := fun _ => fun
  | [d1, d2, d3, d4] => { results := [.lit (.bool false)], args := [d1, d2, d3, d4] }
  | _ => none }
def LiftTellsWrongFalsely : Prop := liftTellsRow.holds Try.pinned (OpenSpec.ofChange liftTellsWrong)

/-- 'kinoralaw10.LiftBests': WHATEVER THE INPUT: true; the input reads as it did. -/
def liftBestsSpec : ChangeSpec := { name := "liftBests", fn := fun _ => fun
  | [d] => { results := [.lit (.bool true)], args := [d] }
  | _ => none }
def liftBestsRow : OpenClaim := { program := "ytjdoagkbcooonaa", sum := "8b5c43a9f7f95e10e98078ccf840a93f76b4e43b98afa7ecf1df5539485c154c", func := "kinora/kinoralaw10.LiftBests", spec := "liftBests", unfollowed := true, recurses := true, apart := false }
def LiftBestsSaid : Prop := liftBestsRow.holds Try.pinned (OpenSpec.ofChange liftBestsSpec)

/-- ITS FALSE NEIGHBOUR: 'it returns false'. Refute it at one input. -/
def liftBestsWrong : ChangeSpec := { name := "liftBests", fn := fun _ => fun
  | [d] => { results := [.lit (.bool false)], args := [d] }
  | _ => none }
def LiftBestsWrongFalsely : Prop := liftBestsRow.holds Try.pinned (OpenSpec.ofChange liftBestsWrong)

/-- 'kinoralaw10.LiftLeast': WHATEVER THE INPUT: true; the input reads as it did. -/
def liftLeastSpec : ChangeSpec := { name := "liftLeast", fn := fun _ => fun
  | [d1, d2] => { results := [.lit (.bool true)], args := [d1, d2] }
  | _ => none }
def liftLeastRow : OpenClaim := { program := "ytjdoagkbcooonaa", sum := "8b5c43a9f7f95e10e98078ccf840a93f76b4e43b98afa7ecf1df5539485c154c", func := "kinora/kinoralaw10.LiftLeast", spec := "liftLeast", unfollowed := true, recurses := true, apart := false }
def LiftLeastSaid : Prop := liftLeastRow.holds Try.pinned (OpenSpec.ofChange liftLeastSpec)

/-- ITS FALSE NEIGHBOUR: 'it returns false'. Refute it at one input. -/
def liftLeastWrong : ChangeSpec := { name := "liftLeast", fn := fun _ => fun
  | [d1, d2] => { results := [.lit (.bool false)], args := [d1, d2] }
  | _ => none }
def LiftLeastWrongFalsely : Prop := liftLeastRow.holds Try.pinned (OpenSpec.ofChange liftLeastWrong)

/- THE SECOND FORM. 'bulk': how many values and letters a reading holds, each counted each time it is reached (what is shared counts as often as it is met; a slice's spare places count too). A statement '..UptoSaid' is the law's where the arguments, and the package variables that the reading takes, are together of bulk at most 1048576: NARROWER than '..Said'. Prove '..Said' where nothing that the law and all that it calls make is longer than what came in: it says more and counts as full. Else prove '..UptoSaid'. A law counts once. -/
mutual
def uptoBulk {H : Type} : DataW H → Nat
  | .lit (.string bytes) => bytes.length + 1
  | .lit _ => 1
  | .nil => 1
  | .ptr d => uptoBulk d + 1
  | .slice elems spare => uptoBulkAll elems + uptoBulkAll spare + 1
  | .agg parts => uptoBulkAll parts + 1
  | .iface _ d => uptoBulk d + 1
  | .map entries => uptoBulkEntries entries + 1
  | .held _ => 1
def uptoBulkAll {H : Type} : List (DataW H) → Nat
  | [] => 0
  | d :: r => uptoBulk d + uptoBulkAll r
def uptoBulkEntries {H : Type} : List (Lit × DataW H) → Nat
  | [] => 0
  | x :: r => uptoBulkEntry x + uptoBulkEntries r
def uptoBulkEntry {H : Type} : Lit × DataW H → Nat
  | (.string bytes, d) => bytes.length + uptoBulk d + 1
  | (_, d) => uptoBulk d + 1
 end
def uptoSmall : (H : Type) → List (DataW H) → Bool := fun _ ds => decide (uptoBulkAll ds ≤ 1048576)
def OpenSpec.upto (s : _root_.Go.ChangeSpec) : _root_.Go.OpenSpec := { _root_.Go.OpenSpec.ofChange s with cond := some uptoSmall }

/-- 'kinoralaw10.LiftDoes', WHERE WHAT IT READS IS OF BULK AT MOST 1048576: true; the input reads as it did. -/
def liftDoesUptoRow : OpenClaim := { program := "ytjdoagkbcooonaa", sum := "8b5c43a9f7f95e10e98078ccf840a93f76b4e43b98afa7ecf1df5539485c154c", func := "kinora/kinoralaw10.LiftDoes", spec := "liftDoes", unfollowed := true, recurses := true, apart := false, narrowed := true }
def LiftDoesUptoSaid : Prop := liftDoesUptoRow.holds Try.pinned (OpenSpec.upto liftDoesSpec)

/-- 'kinoralaw10.LiftBack', WHERE WHAT IT READS IS OF BULK AT MOST 1048576: true; the input reads as it did. -/
def liftBackUptoRow : OpenClaim := { program := "ytjdoagkbcooonaa", sum := "8b5c43a9f7f95e10e98078ccf840a93f76b4e43b98afa7ecf1df5539485c154c", func := "kinora/kinoralaw10.LiftBack", spec := "liftBack", unfollowed := true, recurses := true, apart := false, narrowed := true }
def LiftBackUptoSaid : Prop := liftBackUptoRow.holds Try.pinned (OpenSpec.upto liftBackSpec)

/-- 'kinoralaw10.LiftSteps', WHERE WHAT IT READS IS OF BULK AT MOST 1048576: true; the input reads as it did. -/
def liftStepsUptoRow : OpenClaim := { program := "ytjdoagkbcooonaa", sum := "8b5c43a9f7f95e10e98078ccf840a93f76b4e43b98afa7ecf1df5539485c154c", func := "kinora/kinoralaw10.LiftSteps", spec := "liftSteps", unfollowed := true, recurses := true, apart := false, narrowed := true }
def LiftStepsUptoSaid : Prop := liftStepsUptoRow.holds Try.pinned (OpenSpec.upto liftStepsSpec)

/-- 'kinoralaw10.LiftModes', WHERE WHAT IT READS IS OF BULK AT MOST 1048576: true; the input reads as it did. -/
def liftModesUptoRow : OpenClaim := { program := "ytjdoagkbcooonaa", sum := "8b5c43a9f7f95e10e98078ccf840a93f76b4e43b98afa7ecf1df5539485c154c", func := "kinora/kinoralaw10.LiftModes", spec := "liftModes", unfollowed := true, recurses := true, apart := false, narrowed := true }
def LiftModesUptoSaid : Prop := liftModesUptoRow.holds Try.pinned (OpenSpec.upto liftModesSpec)

/-- 'kinoralaw10.LiftPlaces', WHERE WHAT IT READS IS OF BULK AT MOST 1048576: true; the input reads as it did. -/
def liftPlacesUptoRow : OpenClaim := { program := "ytjdoagkbcooonaa", sum := "8b5c43a9f7f95e10e98078ccf840a93f76b4e43b98afa7ecf1df5539485c154c", func := "kinora/kinoralaw10.LiftPlaces", spec := "liftPlaces", unfollowed := true, recurses := true, apart := false, narrowed := true }
def LiftPlacesUptoSaid : Prop := liftPlacesUptoRow.holds Try.pinned (OpenSpec.upto liftPlacesSpec)

/-- 'kinoralaw10.LiftTells', WHERE WHAT IT READS IS OF BULK AT MOST 1048576: true; the input reads as it did. -/
def liftTellsUptoRow : OpenClaim := { program := "ytjdoagkbcooonaa", sum := "8b5c43a9f7f95e10e98078ccf840a93f76b4e43b98afa7ecf1df5539485c154c", func := "kinora/kinoralaw10.LiftTells", spec := "liftTells", unfollowed := true, recurses := true, apart := false, narrowed := true }
def LiftTellsUptoSaid : Prop := liftTellsUptoRow.holds Try.pinned (OpenSpec.upto liftTellsSpec)

/-- 'kinoralaw10.LiftBests', WHERE WHAT IT READS IS OF BULK AT MOST 1048576: true; the input reads as it did. -/
def liftBestsUptoRow : OpenClaim := { program := "ytjdoagkbcooonaa", sum := "8b5c43a9f7f95e10e98078ccf840a93f76b4e43b98afa7ecf1df5539485c154c", func := "kinora/kinoralaw10.LiftBests", spec := "liftBests", unfollowed := true, recurses := true, apart := false, narrowed := true }
def LiftBestsUptoSaid : Prop := liftBestsUptoRow.holds Try.pinned (OpenSpec.upto liftBestsSpec)

/-- 'kinoralaw10.LiftLeast', WHERE WHAT IT READS IS OF BULK AT MOST 1048576: true; the input reads as it did. -/
def liftLeastUptoRow : OpenClaim := { program := "ytjdoagkbcooonaa", sum := "8b5c43a9f7f95e10e98078ccf840a93f76b4e43b98afa7ecf1df5539485c154c", func := "kinora/kinoralaw10.LiftLeast", spec := "liftLeast", unfollowed := true, recurses := true, apart := false, narrowed := true }
def LiftLeastUptoSaid : Prop := liftLeastUptoRow.holds Try.pinned (OpenSpec.upto liftLeastSpec)

end Rows
end Go.Proofs.Ytjdoagkbcooonaa
