/-
  No cell of these rows narrows 'for every input' (looked for: loops, veiled, ifaces, maps, wideKeys, modest, calm, conditions, laid).
  DERIVED. THE GIVEN ROWS OF THIS SEAT. 8 by the template 'for every input the law returns true; each argument reads behind the call as it read before'; 0 by the template 'total and deterministic' (their statements: YtjhmmbejpdibhaaTotals.lean).
  GIVEN WITH THE SEED: the statements are not yours to turn. If you find one false, say at which input.
  Laid BY PROGRAM, IN A SANDBOX (cutbox-rows.mjs): the forced cells as the released guide's own fill.sh prints them over the translation e6599ca57a0c76f5… (all of the seat's roots in one cut). By AI agents, Wed Nov 11 2026. No macro, syntax, notation, axiom, sorry.
-/
import Derived.Test.YtjhmmbejpdibhaaChecked
import GoSem.Claim
import GoSem.ClaimJoined
import GoSem.ClaimMapViews
import Derived.JoinedTies
import Derived.KernelRfl
namespace Go.Proofs.Ytjhmmbejpdibhaa
/- THE CELL 'sum', in the pinned program and in every row, IS THE sha256 OF THE DUMP (.gsa) THAT YtjhmmbejpdibhaaProg.lean LOADS. Nothing in Lean hashes anything: it is a label: what it is worth is what the hold of that sum in a sandbox is worth. -/
noncomputable def Try.pinned : Pinned := { name := "ytjhmmbejpdibhaa", sum := "e6599ca57a0c76f5d7eac5531d7748e9b804c76cc7c2bc9edc01dcaf77836d0f", checked := Try.checked }
namespace Rows
def none {H : Type} : Left H := { results := [], args := [] }

/-- 'kinoralaw14.LearnPlays': WHATEVER THE INPUT: true; the input reads as it did. -/
def learnPlaysSpec : ChangeSpec := { name := "learnPlays", fn := fun _ => fun
  | [d1, d2] => { results := [.lit (.bool true)], args := [d1, d2] }
  | _ => none }
def learnPlaysRow : OpenClaim := { program := "ytjhmmbejpdibhaa", sum := "e6599ca57a0c76f5d7eac5531d7748e9b804c76cc7c2bc9edc01dcaf77836d0f", func := "kinora/kinoralaw14.LearnPlays", spec := "learnPlays", apart := false }
def LearnPlaysSaid : Prop := learnPlaysRow.holds Try.pinned (OpenSpec.ofChange learnPlaysSpec)

/-- ITS FALSE NEIGHBOUR: 'it returns false'. Refute it at one input. -/
def learnPlaysWrong : ChangeSpec := { name := "learnPlays", fn := fun _ => fun
  | [d1, d2] => { results := [.lit (.bool false)], args := [d1, d2] }
  | _ => none }
def LearnPlaysWrongFalsely : Prop := learnPlaysRow.holds Try.pinned (OpenSpec.ofChange learnPlaysWrong)

/-- 'kinoralaw14.LearnTwin': WHATEVER THE INPUT: true; the input reads as it did. -/
def learnTwinSpec : ChangeSpec := { name := "learnTwin", fn := fun _ => fun
  | [d1, d2, d3, d4] => { results := [.lit (.bool true)], args := [d1, d2, d3, d4] }
  | _ => none }
def learnTwinRow : OpenClaim := { program := "ytjhmmbejpdibhaa", sum := "e6599ca57a0c76f5d7eac5531d7748e9b804c76cc7c2bc9edc01dcaf77836d0f", func := "kinora/kinoralaw14.LearnTwin", spec := "learnTwin", apart := false }
def LearnTwinSaid : Prop := learnTwinRow.holds Try.pinned (OpenSpec.ofChange learnTwinSpec)

/-- ITS FALSE NEIGHBOUR: 'it returns false'. Refute it at one input. -/
def learnTwinWrong : ChangeSpec := { name := "learnTwin", fn := fun _ => fun
  | [d1, d2, d3, d4] => { results := [.lit (.bool false)], args := [d1, d2, d3, d4] }
  | _ => none }
def LearnTwinWrongFalsely : Prop := learnTwinRow.holds Try.pinned (OpenSpec.ofChange learnTwinWrong)

/-- 'kinoralaw14.LearnRests': WHATEVER THE INPUT: true; the input reads as it did. -/
def learnRestsSpec : ChangeSpec := { name := "learnRests", fn := fun _ => fun
  | [d1, d2] => { results := [.lit (.bool true)], args := [d1, d2] }
  | _ => none }
def learnRestsRow : OpenClaim := { program := "ytjhmmbejpdibhaa", sum := "e6599ca57a0c76f5d7eac5531d7748e9b804c76cc7c2bc9edc01dcaf77836d0f", func := "kinora/kinoralaw14.LearnRests", spec := "learnRests", apart := false }
def LearnRestsSaid : Prop := learnRestsRow.holds Try.pinned (OpenSpec.ofChange learnRestsSpec)

/-- ITS FALSE NEIGHBOUR: 'it returns false'. Refute it at one input. -/
def learnRestsWrong : ChangeSpec := { name := "learnRests", fn := fun _ => fun
  | [d1, d2] => { results := [.lit (.bool false)], args := [d1, d2] }
  | _ => none }
def LearnRestsWrongFalsely : Prop := learnRestsRow.holds Try.pinned (OpenSpec.ofChange learnRestsWrong)

/-- 'kinoralaw14.LearnStages': WHATEVER THE INPUT: true; the input reads as it did. -/
def learnStagesSpec : ChangeSpec := { name := "learnStages", fn := fun _ => fun
  | [d1, d2] => { results := [.lit (.bool true)], args := [d1, d2] }
  | _ => none }
def learnStagesRow : OpenClaim := { program := "ytjhmmbejpdibhaa", sum := "e6599ca57a0c76f5d7eac5531d7748e9b804c76cc7c2bc9edc01dcaf77836d0f", func := "kinora/kinoralaw14.LearnStages", spec := "learnStages", apart := false }
def LearnStagesSaid : Prop := learnStagesRow.holds Try.pinned (OpenSpec.ofChange learnStagesSpec)

/-- ITS FALSE NEIGHBOUR: 'it returns false'. Refute it at one input. -/
def learnStagesWrong : ChangeSpec := { name := "learnStages", fn := fun _ => fun
  | [d1, d2] => { results := [.lit (.bool false)], args := [d1, d2] }
  | _ => none }
def LearnStagesWrongFalsely : Prop := learnStagesRow.holds Try.pinned (OpenSpec.ofChange learnStagesWrong)

/-- 'kinoralaw14.LearnFirst': WHATEVER THE INPUT: true; the input reads as it did. -/
def learnFirstSpec : ChangeSpec := { name := "learnFirst", fn := fun _ => fun
  | [d1, d2] => { results := [.lit (.bool true)], args := [d1, d2] }
  | _ => none }
def learnFirstRow : OpenClaim := { program := "ytjhmmbejpdibhaa", sum := "e6599ca57a0c76f5d7eac5531d7748e9b804c76cc7c2bc9edc01dcaf77836d0f", func := "kinora/kinoralaw14.LearnFirst", spec := "learnFirst", apart := false }
def LearnFirstSaid : Prop := learnFirstRow.holds Try.pinned (OpenSpec.ofChange learnFirstSpec)

/-- ITS FALSE NEIGHBOUR: 'it returns false'. Refute it at one input. -/
def learnFirstWrong : ChangeSpec := { name := "learnFirst", fn := fun _ => fun
  | [d1, d2] => { results := [.lit (.bool false)], args := [d1, d2] }
  | _ => none }
def LearnFirstWrongFalsely : Prop := learnFirstRow.holds Try.pinned (OpenSpec.ofChange learnFirstWrong)

/-- 'kinoralaw14.LearnLater': WHATEVER THE INPUT: true; the input reads as it did. -/
def learnLaterSpec : ChangeSpec := { name := "learnLater", fn := fun _ => fun
  | [d1, d2, d3] => { results := [.lit (.bool true)], args := [d1, d2, d3] }
  | _ => none }
def learnLaterRow : OpenClaim := { program := "ytjhmmbejpdibhaa", sum := "e6599ca57a0c76f5d7eac5531d7748e9b804c76cc7c2bc9edc01dcaf77836d0f", func := "kinora/kinoralaw14.LearnLater", spec := "learnLater", apart := false }
def LearnLaterSaid : Prop := learnLaterRow.holds Try.pinned (OpenSpec.ofChange learnLaterSpec)

/-- ITS FALSE NEIGHBOUR: 'it returns false'. Refute it at one input. -/
def learnLaterWrong : ChangeSpec := { name := "learnLater", fn := fun _ => fun
  | [d1, d2, d3] => { results := [.lit (.bool false)], args := [d1, d2, d3] }
  | _ => none }
def LearnLaterWrongFalsely : Prop := learnLaterRow.holds Try.pinned (OpenSpec.ofChange learnLaterWrong)

/-- 'kinoralaw14.LearnBacks': WHATEVER THE INPUT: true; the input reads as it did. -/
def learnBacksSpec : ChangeSpec := { name := "learnBacks", fn := fun _ => fun
  | [d1, d2] => { results := [.lit (.bool true)], args := [d1, d2] }
  | _ => none }
def learnBacksRow : OpenClaim := { program := "ytjhmmbejpdibhaa", sum := "e6599ca57a0c76f5d7eac5531d7748e9b804c76cc7c2bc9edc01dcaf77836d0f", func := "kinora/kinoralaw14.LearnBacks", spec := "learnBacks", unfollowed := true, recurses := true, apart := false }
def LearnBacksSaid : Prop := learnBacksRow.holds Try.pinned (OpenSpec.ofChange learnBacksSpec)

/-- ITS FALSE NEIGHBOUR: 'it returns false'. Refute it at one input. -/
def learnBacksWrong : ChangeSpec := { name := "learnBacks", fn := fun _ => fun
  | [d1, d2] => { results := [.lit (.bool false)], args := [d1, d2] }
  | _ => none }
def LearnBacksWrongFalsely : Prop := learnBacksRow.holds Try.pinned (OpenSpec.ofChange learnBacksWrong)

/-- 'kinoralaw14.LearnRound': WHATEVER THE INPUT: true; the input reads as it did. -/
def learnRoundSpec : ChangeSpec := { name := "learnRound", fn := fun _ => fun
  | [d1, d2, d3] => { results := [.lit (.bool true)], args := [d1, d2, d3] }
  | _ => none }
def learnRoundRow : OpenClaim := { program := "ytjhmmbejpdibhaa", sum := "e6599ca57a0c76f5d7eac5531d7748e9b804c76cc7c2bc9edc01dcaf77836d0f", func := "kinora/kinoralaw14.LearnRound", spec := "learnRound", unfollowed := true, recurses := true, apart := false }
def LearnRoundSaid : Prop := learnRoundRow.holds Try.pinned (OpenSpec.ofChange learnRoundSpec)

/-- ITS FALSE NEIGHBOUR: 'it returns false'. Refute it at one input. -/
def learnRoundWrong : ChangeSpec := { name := "learnRound", fn := fun _ => fun
  | [d1, d2, d3] => { results := [.lit (.bool false)], args := [d1, d2, d3] }
  | _ => none }
def LearnRoundWrongFalsely : Prop := learnRoundRow.holds Try.pinned (OpenSpec.ofChange learnRoundWrong)

/- THE SECOND FORM. 'bulk': how many values and letters a reading holds, each counted each time it is reached (what is shared counts as often as it is met; a slice's spare places count too). A statement '..UptoSaid' is the law's where the arguments, and the package variables that the reading takes, are together of bulk at most 1048576: NARROWER than '..Said'. Prove '..Said' where nothing that the law and all that it calls make is longer than what came in: it says more and counts as full. Else prove '..UptoSaid'. A law counts once. -/
mutual
def uptoBulk {H : Type} : DataW H → Nat
  | .lit (.string bytes) => bytes.length + 1
  | .lit _ => 1
  | .nil => 1
  | .ptr d => uptoBulk d + 1
  | .slice elems spare => uptoBulkAll elems + uptoBulkAll spare + 1
  | .agg parts => uptoBulkAll parts + 1
  | .iface _ d => uptoBulk d + 1
  | .map entries => uptoBulkEntries entries + 1
  | .held _ => 1
def uptoBulkAll {H : Type} : List (DataW H) → Nat
  | [] => 0
  | d :: r => uptoBulk d + uptoBulkAll r
def uptoBulkEntries {H : Type} : List (Lit × DataW H) → Nat
  | [] => 0
  | x :: r => uptoBulkEntry x + uptoBulkEntries r
def uptoBulkEntry {H : Type} : Lit × DataW H → Nat
  | (.string bytes, d) => bytes.length + uptoBulk d + 1
  | (_, d) => uptoBulk d + 1
 end
def uptoSmall : (H : Type) → List (DataW H) → Bool := fun _ ds => decide (uptoBulkAll ds ≤ 1048576)
def OpenSpec.upto (s : _root_.Go.ChangeSpec) : _root_.Go.OpenSpec := { _root_.Go.OpenSpec.ofChange s with cond := some uptoSmall }

/-- 'kinoralaw14.LearnPlays', WHERE WHAT IT READS IS OF BULK AT MOST 1048576: true; the input reads as it did. -/
def learnPlaysUptoRow : OpenClaim := { program := "ytjhmmbejpdibhaa", sum := "e6599ca57a0c76f5d7eac5531d7748e9b804c76cc7c2bc9edc01dcaf77836d0f", func := "kinora/kinoralaw14.LearnPlays", spec := "learnPlays", apart := false, narrowed := true }
def LearnPlaysUptoSaid : Prop := learnPlaysUptoRow.holds Try.pinned (OpenSpec.upto learnPlaysSpec)

/-- 'kinoralaw14.LearnTwin', WHERE WHAT IT READS IS OF BULK AT MOST 1048576: true; the input reads as it did. -/
def learnTwinUptoRow : OpenClaim := { program := "ytjhmmbejpdibhaa", sum := "e6599ca57a0c76f5d7eac5531d7748e9b804c76cc7c2bc9edc01dcaf77836d0f", func := "kinora/kinoralaw14.LearnTwin", spec := "learnTwin", apart := false, narrowed := true }
def LearnTwinUptoSaid : Prop := learnTwinUptoRow.holds Try.pinned (OpenSpec.upto learnTwinSpec)

/-- 'kinoralaw14.LearnRests', WHERE WHAT IT READS IS OF BULK AT MOST 1048576: true; the input reads as it did. -/
def learnRestsUptoRow : OpenClaim := { program := "ytjhmmbejpdibhaa", sum := "e6599ca57a0c76f5d7eac5531d7748e9b804c76cc7c2bc9edc01dcaf77836d0f", func := "kinora/kinoralaw14.LearnRests", spec := "learnRests", apart := false, narrowed := true }
def LearnRestsUptoSaid : Prop := learnRestsUptoRow.holds Try.pinned (OpenSpec.upto learnRestsSpec)

/-- 'kinoralaw14.LearnStages', WHERE WHAT IT READS IS OF BULK AT MOST 1048576: true; the input reads as it did. -/
def learnStagesUptoRow : OpenClaim := { program := "ytjhmmbejpdibhaa", sum := "e6599ca57a0c76f5d7eac5531d7748e9b804c76cc7c2bc9edc01dcaf77836d0f", func := "kinora/kinoralaw14.LearnStages", spec := "learnStages", apart := false, narrowed := true }
def LearnStagesUptoSaid : Prop := learnStagesUptoRow.holds Try.pinned (OpenSpec.upto learnStagesSpec)

/-- 'kinoralaw14.LearnFirst', WHERE WHAT IT READS IS OF BULK AT MOST 1048576: true; the input reads as it did. -/
def learnFirstUptoRow : OpenClaim := { program := "ytjhmmbejpdibhaa", sum := "e6599ca57a0c76f5d7eac5531d7748e9b804c76cc7c2bc9edc01dcaf77836d0f", func := "kinora/kinoralaw14.LearnFirst", spec := "learnFirst", apart := false, narrowed := true }
def LearnFirstUptoSaid : Prop := learnFirstUptoRow.holds Try.pinned (OpenSpec.upto learnFirstSpec)

/-- 'kinoralaw14.LearnLater', WHERE WHAT IT READS IS OF BULK AT MOST 1048576: true; the input reads as it did. -/
def learnLaterUptoRow : OpenClaim := { program := "ytjhmmbejpdibhaa", sum := "e6599ca57a0c76f5d7eac5531d7748e9b804c76cc7c2bc9edc01dcaf77836d0f", func := "kinora/kinoralaw14.LearnLater", spec := "learnLater", apart := false, narrowed := true }
def LearnLaterUptoSaid : Prop := learnLaterUptoRow.holds Try.pinned (OpenSpec.upto learnLaterSpec)

/-- 'kinoralaw14.LearnBacks', WHERE WHAT IT READS IS OF BULK AT MOST 1048576: true; the input reads as it did. -/
def learnBacksUptoRow : OpenClaim := { program := "ytjhmmbejpdibhaa", sum := "e6599ca57a0c76f5d7eac5531d7748e9b804c76cc7c2bc9edc01dcaf77836d0f", func := "kinora/kinoralaw14.LearnBacks", spec := "learnBacks", unfollowed := true, recurses := true, apart := false, narrowed := true }
def LearnBacksUptoSaid : Prop := learnBacksUptoRow.holds Try.pinned (OpenSpec.upto learnBacksSpec)

/-- 'kinoralaw14.LearnRound', WHERE WHAT IT READS IS OF BULK AT MOST 1048576: true; the input reads as it did. -/
def learnRoundUptoRow : OpenClaim := { program := "ytjhmmbejpdibhaa", sum := "e6599ca57a0c76f5d7eac5531d7748e9b804c76cc7c2bc9edc01dcaf77836d0f", func := "kinora/kinoralaw14.LearnRound", spec := "learnRound", unfollowed := true, recurses := true, apart := false, narrowed := true }
def LearnRoundUptoSaid : Prop := learnRoundUptoRow.holds Try.pinned (OpenSpec.upto learnRoundSpec)

end Rows
end Go.Proofs.Ytjhmmbejpdibhaa
