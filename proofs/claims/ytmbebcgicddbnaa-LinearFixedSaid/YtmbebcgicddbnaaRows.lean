/-
  No cell of these rows narrows 'for every input' (looked for: loops, veiled, ifaces, maps, wideKeys, modest, calm, conditions, laid).
  DERIVED. THE GIVEN ROWS OF THIS SEAT. 8 by the template 'for every input the law returns true; each argument reads behind the call as it read before'; 0 by the template 'total and deterministic' (their statements: YtmbebcgicddbnaaTotals.lean).
  GIVEN WITH THE SEED: the statements are not yours to turn. If you find one false, say at which input.
  Laid BY PROGRAM, IN A SANDBOX (cutbox-rows.mjs): the forced cells as the released guide's own fill.sh prints them over the translation 1f769b465bab29d6… (all of the seat's roots in one cut). By AI agents, Wed Nov 11 2026. No macro, syntax, notation, axiom, sorry.
-/
import Derived.Test.YtmbebcgicddbnaaChecked
import GoSem.Claim
import GoSem.ClaimJoined
import GoSem.ClaimMapViews
import Derived.JoinedTies
import Derived.KernelRfl
namespace Go.Proofs.Ytmbebcgicddbnaa
/- THE CELL 'sum', in the pinned program and in every row, IS THE sha256 OF THE DUMP (.gsa) THAT YtmbebcgicddbnaaProg.lean LOADS. Nothing in Lean hashes anything: it is a label: what it is worth is what the hold of that sum in a sandbox is worth. -/
noncomputable def Try.pinned : Pinned := { name := "ytmbebcgicddbnaa", sum := "1f769b465bab29d6b3c7a85ebb1fb9292f3af64e3d1a1a2732bede312a1b7bf7", checked := Try.checked }
namespace Rows
def none {H : Type} : Left H := { results := [], args := [] }

/-- 'kinoralaw12.LinearBacks': WHATEVER THE INPUT: true; the input reads as it did. -/
def linearBacksSpec : ChangeSpec := { name := "linearBacks", fn := fun _ => fun
  | [d1, d2, d3, d4] => { results := [.lit (.bool true)], args := [d1, d2, d3, d4] }
  | _ => none }
def linearBacksRow : OpenClaim := { program := "ytmbebcgicddbnaa", sum := "1f769b465bab29d6b3c7a85ebb1fb9292f3af64e3d1a1a2732bede312a1b7bf7", func := "kinora/kinoralaw12.LinearBacks", spec := "linearBacks", apart := false }
def LinearBacksSaid : Prop := linearBacksRow.holds Try.pinned (OpenSpec.ofChange linearBacksSpec)

/-- ITS FALSE NEIGHBOUR: 'it returns false'. Refute it at one input. -/
def linearBacksWrong : ChangeSpec := { name := "linearBacks", fn := fun _ => fun
  | [d1, d2, d3, d4] => { results := [.lit (.bool false)], args := [d1, d2, d3, d4] }
  | _ => none }
def LinearBacksWrongFalsely : Prop := linearBacksRow.holds Try.pinned (OpenSpec.ofChange linearBacksWrong)

/-- 'kinoralaw12.LinearRound': WHATEVER THE INPUT: true; the input reads as it did. -/
def linearRoundSpec : ChangeSpec := { name := "linearRound", fn := fun _ => fun
  | [d1, d2, d3, d4, d5] => { results := [.lit (.bool true)], args := [d1, d2, d3, d4, d5] }
  | _ => none }
def linearRoundRow : OpenClaim := { program := "ytmbebcgicddbnaa", sum := "1f769b465bab29d6b3c7a85ebb1fb9292f3af64e3d1a1a2732bede312a1b7bf7", func := "kinora/kinoralaw12.LinearRound", spec := "linearRound", apart := false }
def LinearRoundSaid : Prop := linearRoundRow.holds Try.pinned (OpenSpec.ofChange linearRoundSpec)

/-- ITS FALSE NEIGHBOUR: 'it returns false'. Refute it at one input. -/
def linearRoundWrong : ChangeSpec := { name := "linearRound", fn := fun _ => fun
  | [d1, d2, d3, d4, d5] => { results := [.lit (.bool false)], args := [d1, d2, d3, d4, d5] }
  | _ => none }
def LinearRoundWrongFalsely : Prop := linearRoundRow.holds Try.pinned (OpenSpec.ofChange linearRoundWrong)

/-- 'kinoralaw12.LinearClimbs': WHATEVER THE INPUT: true; the input reads as it did. -/
def linearClimbsSpec : ChangeSpec := { name := "linearClimbs", fn := fun _ => fun
  | [d1, d2, d3] => { results := [.lit (.bool true)], args := [d1, d2, d3] }
  | _ => none }
def linearClimbsRow : OpenClaim := { program := "ytmbebcgicddbnaa", sum := "1f769b465bab29d6b3c7a85ebb1fb9292f3af64e3d1a1a2732bede312a1b7bf7", func := "kinora/kinoralaw12.LinearClimbs", spec := "linearClimbs", apart := false }
def LinearClimbsSaid : Prop := linearClimbsRow.holds Try.pinned (OpenSpec.ofChange linearClimbsSpec)

/-- ITS FALSE NEIGHBOUR: 'it returns false'. Refute it at one input. -/
def linearClimbsWrong : ChangeSpec := { name := "linearClimbs", fn := fun _ => fun
  | [d1, d2, d3] => { results := [.lit (.bool false)], args := [d1, d2, d3] }
  | _ => none }
def LinearClimbsWrongFalsely : Prop := linearClimbsRow.holds Try.pinned (OpenSpec.ofChange linearClimbsWrong)

/-- 'kinoralaw12.LinearNought': WHATEVER THE INPUT: true; the input reads as it did. -/
def linearNoughtSpec : ChangeSpec := { name := "linearNought", fn := fun _ => fun
  | [d1, d2, d3, d4] => { results := [.lit (.bool true)], args := [d1, d2, d3, d4] }
  | _ => none }
def linearNoughtRow : OpenClaim := { program := "ytmbebcgicddbnaa", sum := "1f769b465bab29d6b3c7a85ebb1fb9292f3af64e3d1a1a2732bede312a1b7bf7", func := "kinora/kinoralaw12.LinearNought", spec := "linearNought", apart := false }
def LinearNoughtSaid : Prop := linearNoughtRow.holds Try.pinned (OpenSpec.ofChange linearNoughtSpec)

/-- ITS FALSE NEIGHBOUR: 'it returns false'. Refute it at one input. -/
def linearNoughtWrong : ChangeSpec := { name := "linearNought", fn := fun _ => fun
  | [d1, d2, d3, d4] => { results := [.lit (.bool false)], args := [d1, d2, d3, d4] }
  | _ => none }
def LinearNoughtWrongFalsely : Prop := linearNoughtRow.holds Try.pinned (OpenSpec.ofChange linearNoughtWrong)

/-- 'kinoralaw12.LinearFixed': WHATEVER THE INPUT: true; the input reads as it did. -/
def linearFixedSpec : ChangeSpec := { name := "linearFixed", fn := fun _ => fun
  | [d1, d2] => { results := [.lit (.bool true)], args := [d1, d2] }
  | _ => none }
def linearFixedRow : OpenClaim := { program := "ytmbebcgicddbnaa", sum := "1f769b465bab29d6b3c7a85ebb1fb9292f3af64e3d1a1a2732bede312a1b7bf7", func := "kinora/kinoralaw12.LinearFixed", spec := "linearFixed", apart := false }
def LinearFixedSaid : Prop := linearFixedRow.holds Try.pinned (OpenSpec.ofChange linearFixedSpec)

/-- ITS FALSE NEIGHBOUR: 'it returns false'. Refute it at one input. -/
def linearFixedWrong : ChangeSpec := { name := "linearFixed", fn := fun _ => fun
  | [d1, d2] => { results := [.lit (.bool false)], args := [d1, d2] }
  | _ => none }
def LinearFixedWrongFalsely : Prop := linearFixedRow.holds Try.pinned (OpenSpec.ofChange linearFixedWrong)

/-- 'kinoralaw12.LinearReflects': WHATEVER THE INPUT: true; the input reads as it did. -/
def linearReflectsSpec : ChangeSpec := { name := "linearReflects", fn := fun _ => fun
  | [d1, d2] => { results := [.lit (.bool true)], args := [d1, d2] }
  | _ => none }
def linearReflectsRow : OpenClaim := { program := "ytmbebcgicddbnaa", sum := "1f769b465bab29d6b3c7a85ebb1fb9292f3af64e3d1a1a2732bede312a1b7bf7", func := "kinora/kinoralaw12.LinearReflects", spec := "linearReflects", apart := false }
def LinearReflectsSaid : Prop := linearReflectsRow.holds Try.pinned (OpenSpec.ofChange linearReflectsSpec)

/-- ITS FALSE NEIGHBOUR: 'it returns false'. Refute it at one input. -/
def linearReflectsWrong : ChangeSpec := { name := "linearReflects", fn := fun _ => fun
  | [d1, d2] => { results := [.lit (.bool false)], args := [d1, d2] }
  | _ => none }
def LinearReflectsWrongFalsely : Prop := linearReflectsRow.holds Try.pinned (OpenSpec.ofChange linearReflectsWrong)

/-- 'kinoralaw12.LinearHeld': WHATEVER THE INPUT: true; the input reads as it did. -/
def linearHeldSpec : ChangeSpec := { name := "linearHeld", fn := fun _ => fun
  | [d1, d2, d3] => { results := [.lit (.bool true)], args := [d1, d2, d3] }
  | _ => none }
def linearHeldRow : OpenClaim := { program := "ytmbebcgicddbnaa", sum := "1f769b465bab29d6b3c7a85ebb1fb9292f3af64e3d1a1a2732bede312a1b7bf7", func := "kinora/kinoralaw12.LinearHeld", spec := "linearHeld", apart := false }
def LinearHeldSaid : Prop := linearHeldRow.holds Try.pinned (OpenSpec.ofChange linearHeldSpec)

/-- ITS FALSE NEIGHBOUR: 'it returns false'. Refute it at one input. -/
def linearHeldWrong : ChangeSpec := { name := "linearHeld", fn := fun _ => fun
  | [d1, d2, d3] => { results := [.lit (.bool false)], args := [d1, d2, d3] }
  | _ => none }
def LinearHeldWrongFalsely : Prop := linearHeldRow.holds Try.pinned (OpenSpec.ofChange linearHeldWrong)

/-- 'kinoralaw12.LinearFinds': WHATEVER THE INPUT: true; the input reads as it did. -/
def linearFindsSpec : ChangeSpec := { name := "linearFinds", fn := fun _ => fun
  | [d1, d2, d3] => { results := [.lit (.bool true)], args := [d1, d2, d3] }
  | _ => none }
def linearFindsRow : OpenClaim := { program := "ytmbebcgicddbnaa", sum := "1f769b465bab29d6b3c7a85ebb1fb9292f3af64e3d1a1a2732bede312a1b7bf7", func := "kinora/kinoralaw12.LinearFinds", spec := "linearFinds", apart := false }
def LinearFindsSaid : Prop := linearFindsRow.holds Try.pinned (OpenSpec.ofChange linearFindsSpec)

/-- ITS FALSE NEIGHBOUR: 'it returns false'. Refute it at one input. -/
def linearFindsWrong : ChangeSpec := { name := "linearFinds", fn := fun _ => fun
  | [d1, d2, d3] => { results := [.lit (.bool false)], args := [d1, d2, d3] }
  | _ => none }
def LinearFindsWrongFalsely : Prop := linearFindsRow.holds Try.pinned (OpenSpec.ofChange linearFindsWrong)

/- THE SECOND FORM. 'bulk': how many values and letters a reading holds, each counted each time it is reached (what is shared counts as often as it is met; a slice's spare places count too). A statement '..UptoSaid' is the law's where the arguments, and the package variables that the reading takes, are together of bulk at most 1048576: NARROWER than '..Said'. Prove '..Said' where nothing that the law and all that it calls make is longer than what came in: it says more and counts as full. Else prove '..UptoSaid'. A law counts once. -/
mutual
def uptoBulk {H : Type} : DataW H → Nat
  | .lit (.string bytes) => bytes.length + 1
  | .lit _ => 1
  | .nil => 1
  | .ptr d => uptoBulk d + 1
  | .slice elems spare => uptoBulkAll elems + uptoBulkAll spare + 1
  | .agg parts => uptoBulkAll parts + 1
  | .iface _ d => uptoBulk d + 1
  | .map entries => uptoBulkEntries entries + 1
  | .held _ => 1
def uptoBulkAll {H : Type} : List (DataW H) → Nat
  | [] => 0
  | d :: r => uptoBulk d + uptoBulkAll r
def uptoBulkEntries {H : Type} : List (Lit × DataW H) → Nat
  | [] => 0
  | x :: r => uptoBulkEntry x + uptoBulkEntries r
def uptoBulkEntry {H : Type} : Lit × DataW H → Nat
  | (.string bytes, d) => bytes.length + uptoBulk d + 1
  | (_, d) => uptoBulk d + 1
 end
def uptoSmall : (H : Type) → List (DataW H) → Bool := fun _ ds => decide (uptoBulkAll ds ≤ 1048576)
def OpenSpec.upto (s : _root_.Go.ChangeSpec) : _root_.Go.OpenSpec := { _root_.Go.OpenSpec.ofChange s with cond := some uptoSmall }

/-- 'kinoralaw12.LinearBacks', WHERE WHAT IT READS IS OF BULK AT MOST 1048576: true; the input reads as it did. -/
def linearBacksUptoRow : OpenClaim := { program := "ytmbebcgicddbnaa", sum := "1f769b465bab29d6b3c7a85ebb1fb9292f3af64e3d1a1a2732bede312a1b7bf7", func := "kinora/kinoralaw12.LinearBacks", spec := "linearBacks", apart := false, narrowed := true }
def LinearBacksUptoSaid : Prop := linearBacksUptoRow.holds Try.pinned (OpenSpec.upto linearBacksSpec)

/-- 'kinoralaw12.LinearRound', WHERE WHAT IT READS IS OF BULK AT MOST 1048576: true; the input reads as it did. -/
def linearRoundUptoRow : OpenClaim := { program := "ytmbebcgicddbnaa", sum := "1f769b465bab29d6b3c7a85ebb1fb9292f3af64e3d1a1a2732bede312a1b7bf7", func := "kinora/kinoralaw12.LinearRound", spec := "linearRound", apart := false, narrowed := true }
def LinearRoundUptoSaid : Prop := linearRoundUptoRow.holds Try.pinned (OpenSpec.upto linearRoundSpec)

/-- 'kinoralaw12.LinearClimbs', WHERE WHAT IT READS IS OF BULK AT MOST 1048576: true; the input reads as it did. -/
def linearClimbsUptoRow : OpenClaim := { program := "ytmbebcgicddbnaa", sum := "1f769b465bab29d6b3c7a85ebb1fb9292f3af64e3d1a1a2732bede312a1b7bf7", func := "kinora/kinoralaw12.LinearClimbs", spec := "linearClimbs", apart := false, narrowed := true }
def LinearClimbsUptoSaid : Prop := linearClimbsUptoRow.holds Try.pinned (OpenSpec.upto linearClimbsSpec)

/-- 'kinoralaw12.LinearNought', WHERE WHAT IT READS IS OF BULK AT MOST 1048576: true; the input reads as it did. -/
def linearNoughtUptoRow : OpenClaim := { program := "ytmbebcgicddbnaa", sum := "1f769b465bab29d6b3c7a85ebb1fb9292f3af64e3d1a1a2732bede312a1b7bf7", func := "kinora/kinoralaw12.LinearNought", spec := "linearNought", apart := false, narrowed := true }
def LinearNoughtUptoSaid : Prop := linearNoughtUptoRow.holds Try.pinned (OpenSpec.upto linearNoughtSpec)

/-- 'kinoralaw12.LinearFixed', WHERE WHAT IT READS IS OF BULK AT MOST 1048576: true; the input reads as it did. -/
def linearFixedUptoRow : OpenClaim := { program := "ytmbebcgicddbnaa", sum := "1f769b465bab29d6b3c7a85ebb1fb9292f3af64e3d1a1a2732bede312a1b7bf7", func := "kinora/kinoralaw12.LinearFixed", spec := "linearFixed", apart := false, narrowed := true }
def LinearFixedUptoSaid : Prop := linearFixedUptoRow.holds Try.pinned (OpenSpec.upto linearFixedSpec)

/-- 'kinoralaw12.LinearReflects', WHERE WHAT IT READS IS OF BULK AT MOST 1048576: true; the input reads as it did. -/
def linearReflectsUptoRow : OpenClaim := { program := "ytmbebcgicddbnaa", sum := "1f769b465bab29d6b3c7a85ebb1fb9292f3af64e3d1a1a2732bede312a1b7bf7", func := "kinora/kinoralaw12.LinearReflects", spec := "linearReflects", apart := false, narrowed := true }
def LinearReflectsUptoSaid : Prop := linearReflectsUptoRow.holds Try.pinned (OpenSpec.upto linearReflectsSpec)

/-- 'kinoralaw12.LinearHeld', WHERE WHAT IT READS IS OF BULK AT MOST 1048576: true; the input reads as it did. -/
def linearHeldUptoRow : OpenClaim := { program := "ytmbebcgicddbnaa", sum := "1f769b465bab29d6b3c7a85ebb1fb9292f3af64e3d1a1a2732bede312a1b7bf7", func := "kinora/kinoralaw12.LinearHeld", spec := "linearHeld", apart := false, narrowed := true }
def LinearHeldUptoSaid : Prop := linearHeldUptoRow.holds Try.pinned (OpenSpec.upto linearHeldSpec)

/-- 'kinoralaw12.LinearFinds', WHERE WHAT IT READS IS OF BULK AT MOST 1048576: true; the input reads as it did. -/
def linearFindsUptoRow : OpenClaim := { program := "ytmbebcgicddbnaa", sum := "1f769b465bab29d6b3c7a85ebb1fb9292f3af64e3d1a1a2732bede312a1b7bf7", func := "kinora/kinoralaw12.LinearFinds", spec := "linearFinds", apart := false, narrowed := true }
def LinearFindsUptoSaid : Prop := linearFindsUptoRow.holds Try.pinned (OpenSpec.upto linearFindsSpec)

end Rows
end Go.Proofs.Ytmbebcgicddbnaa
