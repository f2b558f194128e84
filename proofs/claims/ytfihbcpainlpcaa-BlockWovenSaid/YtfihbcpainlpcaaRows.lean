/-
  No cell of these rows narrows 'for every input' (looked for: loops, veiled, ifaces, maps, wideKeys, modest, calm, conditions, laid).
  DERIVED. THE GIVEN ROWS OF THIS SEAT. 9 by the template 'for every input the law returns true; each argument reads behind the call as it read before'; 0 by the template 'total and deterministic' (their statements: YtfihbcpainlpcaaTotals.lean).
  GIVEN WITH THE SEED: the statements are not yours to turn. If you find one false, say at which input.
  Laid BY PROGRAM, IN A SANDBOX (cutbox-rows.mjs): the forced cells as the released guide's own fill.sh prints them over the translation 4284582378d14023… (all of the seat's roots in one cut). By AI agents, Wed Nov 11 2026. No macro, syntax, notation, axiom, sorry.
-/
import Derived.Test.YtfihbcpainlpcaaChecked
import GoSem.Claim
import GoSem.ClaimJoined
import GoSem.ClaimMapViews
import Derived.JoinedTies
import Derived.KernelRfl
namespace Go.Proofs.Ytfihbcpainlpcaa
/- THE CELL 'sum', in the pinned program and in every row, IS THE sha256 OF THE DUMP (.gsa) THAT YtfihbcpainlpcaaProg.lean LOADS. Nothing in Lean hashes anything: it is a label: what it is worth is what the hold of that sum in a sandbox is worth. -/
noncomputable def Try.pinned : Pinned := { name := "ytfihbcpainlpcaa", sum := "4284582378d14023fa038b3903de058ffbcd9d2dfabcfcc653b84fb8465d65d5", checked := Try.checked }
namespace Rows
def none {H : Type} : Left H := { results := [], args := [] }

/-- 'kinoralaw9.BlockParts': WHATEVER THE INPUT: true; the input reads as it did. -/
def blockPartsSpec : ChangeSpec := { name := "blockParts", fn := fun _ => fun
  | [d1, d2] => { results := [.lit (.bool true)], args := [d1, d2] }
  | _ => none }
def blockPartsRow : OpenClaim := { program := "ytfihbcpainlpcaa", sum := "4284582378d14023fa038b3903de058ffbcd9d2dfabcfcc653b84fb8465d65d5", func := "kinora/kinoralaw9.BlockParts", spec := "blockParts", apart := false }
def BlockPartsSaid : Prop := blockPartsRow.holds Try.pinned (OpenSpec.ofChange blockPartsSpec)

/-- ITS FALSE NEIGHBOUR: 'it returns false'. Refute it at one input. -/
def blockPartsWrong : ChangeSpec := { name := "blockParts", fn := fun _ => fun
  | [d1, d2] => { results := [.lit (.bool false)], args := [d1, d2] }
  | _ => none }
def BlockPartsWrongFalsely : Prop := blockPartsRow.holds Try.pinned (OpenSpec.ofChange blockPartsWrong)

/-- 'kinoralaw9.BlockCuts': WHATEVER THE INPUT: true; the input reads as it did. -/
def blockCutsSpec : ChangeSpec := { name := "blockCuts", fn := fun _ => fun
  | [d1, d2] => { results := [.lit (.bool true)], args := [d1, d2] }
  | _ => none }
def blockCutsRow : OpenClaim := { program := "ytfihbcpainlpcaa", sum := "4284582378d14023fa038b3903de058ffbcd9d2dfabcfcc653b84fb8465d65d5", func := "kinora/kinoralaw9.BlockCuts", spec := "blockCuts", apart := false }
def BlockCutsSaid : Prop := blockCutsRow.holds Try.pinned (OpenSpec.ofChange blockCutsSpec)

/-- ITS FALSE NEIGHBOUR: 'it returns false'. Refute it at one input. -/
def blockCutsWrong : ChangeSpec := { name := "blockCuts", fn := fun _ => fun
  | [d1, d2] => { results := [.lit (.bool false)], args := [d1, d2] }
  | _ => none }
def BlockCutsWrongFalsely : Prop := blockCutsRow.holds Try.pinned (OpenSpec.ofChange blockCutsWrong)

/-- 'kinoralaw9.BlockOwn': WHATEVER THE INPUT: true; the input reads as it did. -/
def blockOwnSpec : ChangeSpec := { name := "blockOwn", fn := fun _ => fun
  | [d] => { results := [.lit (.bool true)], args := [d] }
  | _ => none }
def blockOwnRow : OpenClaim := { program := "ytfihbcpainlpcaa", sum := "4284582378d14023fa038b3903de058ffbcd9d2dfabcfcc653b84fb8465d65d5", func := "kinora/kinoralaw9.BlockOwn", spec := "blockOwn", apart := false }
def BlockOwnSaid : Prop := blockOwnRow.holds Try.pinned (OpenSpec.ofChange blockOwnSpec)

/-- ITS FALSE NEIGHBOUR: 'it returns false'. Refute it at one input. -/
def blockOwnWrong : ChangeSpec := { name := "blockOwn", fn := fun _ => fun
  | [d] => { results := [.lit (.bool false)], args := [d] }
  | _ => none }
def BlockOwnWrongFalsely : Prop := blockOwnRow.holds Try.pinned (OpenSpec.ofChange blockOwnWrong)

/-- 'kinoralaw9.BlockUnpacks': WHATEVER THE INPUT: true; the input reads as it did. -/
def blockUnpacksSpec : ChangeSpec := { name := "blockUnpacks", fn := fun _ => fun
  | [d1, d2] => { results := [.lit (.bool true)], args := [d1, d2] }
  | _ => none }
def blockUnpacksRow : OpenClaim := { program := "ytfihbcpainlpcaa", sum := "4284582378d14023fa038b3903de058ffbcd9d2dfabcfcc653b84fb8465d65d5", func := "kinora/kinoralaw9.BlockUnpacks", spec := "blockUnpacks", apart := false }
def BlockUnpacksSaid : Prop := blockUnpacksRow.holds Try.pinned (OpenSpec.ofChange blockUnpacksSpec)

/-- ITS FALSE NEIGHBOUR: 'it returns false'. Refute it at one input. -/
def blockUnpacksWrong : ChangeSpec := { name := "blockUnpacks", fn := fun _ => fun
  | [d1, d2] => { results := [.lit (.bool false)], args := [d1, d2] }
  | _ => none }
def BlockUnpacksWrongFalsely : Prop := blockUnpacksRow.holds Try.pinned (OpenSpec.ofChange blockUnpacksWrong)

/-- 'kinoralaw9.BlockBack': WHATEVER THE INPUT: true; the input reads as it did. -/
def blockBackSpec : ChangeSpec := { name := "blockBack", fn := fun _ => fun
  | [d1, d2] => { results := [.lit (.bool true)], args := [d1, d2] }
  | _ => none }
def blockBackRow : OpenClaim := { program := "ytfihbcpainlpcaa", sum := "4284582378d14023fa038b3903de058ffbcd9d2dfabcfcc653b84fb8465d65d5", func := "kinora/kinoralaw9.BlockBack", spec := "blockBack", apart := false }
def BlockBackSaid : Prop := blockBackRow.holds Try.pinned (OpenSpec.ofChange blockBackSpec)

/-- ITS FALSE NEIGHBOUR: 'it returns false'. Refute it at one input. -/
def blockBackWrong : ChangeSpec := { name := "blockBack", fn := fun _ => fun
  | [d1, d2] => { results := [.lit (.bool false)], args := [d1, d2] }
  | _ => none }
def BlockBackWrongFalsely : Prop := blockBackRow.holds Try.pinned (OpenSpec.ofChange blockBackWrong)

/-- 'kinoralaw9.BlockJoins': WHATEVER THE INPUT: true; the input reads as it did. -/
def blockJoinsSpec : ChangeSpec := { name := "blockJoins", fn := fun _ => fun
  | [d1, d2] => { results := [.lit (.bool true)], args := [d1, d2] }
  | _ => none }
def blockJoinsRow : OpenClaim := { program := "ytfihbcpainlpcaa", sum := "4284582378d14023fa038b3903de058ffbcd9d2dfabcfcc653b84fb8465d65d5", func := "kinora/kinoralaw9.BlockJoins", spec := "blockJoins", apart := false }
def BlockJoinsSaid : Prop := blockJoinsRow.holds Try.pinned (OpenSpec.ofChange blockJoinsSpec)

/-- ITS FALSE NEIGHBOUR: 'it returns false'. Refute it at one input. -/
def blockJoinsWrong : ChangeSpec := { name := "blockJoins", fn := fun _ => fun
  | [d1, d2] => { results := [.lit (.bool false)], args := [d1, d2] }
  | _ => none }
def BlockJoinsWrongFalsely : Prop := blockJoinsRow.holds Try.pinned (OpenSpec.ofChange blockJoinsWrong)

/-- 'kinoralaw9.BlockWoven': WHATEVER THE INPUT: true; the input reads as it did. -/
def blockWovenSpec : ChangeSpec := { name := "blockWoven", fn := fun _ => fun
  | [d1, d2] => { results := [.lit (.bool true)], args := [d1, d2] }
  | _ => none }
def blockWovenRow : OpenClaim := { program := "ytfihbcpainlpcaa", sum := "4284582378d14023fa038b3903de058ffbcd9d2dfabcfcc653b84fb8465d65d5", func := "kinora/kinoralaw9.BlockWoven", spec := "blockWoven", apart := false }
def BlockWovenSaid : Prop := blockWovenRow.holds Try.pinned (OpenSpec.ofChange blockWovenSpec)

/-- ITS FALSE NEIGHBOUR: 'it returns false'. Refute it at one input. -/
def blockWovenWrong : ChangeSpec := { name := "blockWoven", fn := fun _ => fun
  | [d1, d2] => { results := [.lit (.bool false)], args := [d1, d2] }
  | _ => none }
def BlockWovenWrongFalsely : Prop := blockWovenRow.holds Try.pinned (OpenSpec.ofChange blockWovenWrong)

/-- 'kinoralaw9.BlockTells': WHATEVER THE INPUT: true; the input reads as it did. -/
def blockTellsSpec : ChangeSpec := { name := "blockTells", fn := fun _ => fun
  | [d1, d2] => { results := [.lit (.bool true)], args := [d1, d2] }
  | _ => none }
def blockTellsRow : OpenClaim := { program := "ytfihbcpainlpcaa", sum := "4284582378d14023fa038b3903de058ffbcd9d2dfabcfcc653b84fb8465d65d5", func := "kinora/kinoralaw9.BlockTells", spec := "blockTells", inPlace := ["math/bits.Add64"], named := ["math/bits.divideError", "math/bits.overflowError"], apart := false }
def BlockTellsSaid : Prop := blockTellsRow.holds Try.pinned (OpenSpec.ofChange blockTellsSpec)

/-- ITS FALSE NEIGHBOUR: 'it returns false'. Refute it at one input. -/
def blockTellsWrong : ChangeSpec := { name := "blockTells", fn := fun _ => fun
  | [d1, d2] => { results := [.lit (.bool false)], args := [d1, d2] }
  | _ => none }
def BlockTellsWrongFalsely : Prop := blockTellsRow.holds Try.pinned (OpenSpec.ofChange blockTellsWrong)

/-- 'kinoralaw9.BlockRound': WHATEVER THE INPUT: true; the input reads as it did. -/
def blockRoundSpec : ChangeSpec := { name := "blockRound", fn := fun _ => fun
  | [d1, d2] => { results := [.lit (.bool true)], args := [d1, d2] }
  | _ => none }
def blockRoundRow : OpenClaim := { program := "ytfihbcpainlpcaa", sum := "4284582378d14023fa038b3903de058ffbcd9d2dfabcfcc653b84fb8465d65d5", func := "kinora/kinoralaw9.BlockRound", spec := "blockRound", inPlace := ["math/bits.Add64"], named := ["math/bits.divideError", "math/bits.overflowError"], apart := false }
def BlockRoundSaid : Prop := blockRoundRow.holds Try.pinned (OpenSpec.ofChange blockRoundSpec)

/-- ITS FALSE NEIGHBOUR: 'it returns false'. Refute it at one input. -/
def blockRoundWrong : ChangeSpec := { name := "blockRound", fn := fun _ => fun
  | [d1, d2] => { results := [.lit (.bool false)], args := [d1, d2] }
  | _ => none }
def BlockRoundWrongFalsely : Prop := blockRoundRow.holds Try.pinned (OpenSpec.ofChange blockRoundWrong)

/- THE SECOND FORM. 'bulk': how many values and letters a reading holds, each counted each time it is reached (what is shared counts as often as it is met; a slice's spare places count too). A statement '..UptoSaid' is the law's where the arguments, and the package variables that the reading takes, are together of bulk at most 1048576: NARROWER than '..Said'. Prove '..Said' where nothing that the law and all that it calls make is longer than what came in: it says more and counts as full. Else prove '..UptoSaid'. A law counts once. -/
mutual
def uptoBulk {H : Type} : DataW H → Nat
  | .lit (.string bytes) => bytes.length + 1
  | .lit _ => 1
  | .nil => 1
  | .ptr d => uptoBulk d + 1
  | .slice elems spare => uptoBulkAll elems + uptoBulkAll spare + 1
  | .agg parts => uptoBulkAll parts + 1
  | .iface _ d => uptoBulk d + 1
  | .map entries => uptoBulkEntries entries + 1
  | .held _ => 1
def uptoBulkAll {H : Type} : List (DataW H) → Nat
  | [] => 0
  | d :: r => uptoBulk d + uptoBulkAll r
def uptoBulkEntries {H : Type} : List (Lit × DataW H) → Nat
  | [] => 0
  | x :: r => uptoBulkEntry x + uptoBulkEntries r
def uptoBulkEntry {H : Type} : Lit × DataW H → Nat
  | (.string bytes, d) => bytes.length + uptoBulk d + 1
  | (_, d) => uptoBulk d + 1
 end
def uptoSmall : (H : Type) → List (DataW H) → Bool := fun _ ds => decide (uptoBulkAll ds ≤ 1048576)
def OpenSpec.upto (s : _root_.Go.ChangeSpec) : _root_.Go.OpenSpec := { _root_.Go.OpenSpec.ofChange s with cond := some uptoSmall }

/-- 'kinoralaw9.BlockParts', WHERE WHAT IT READS IS OF BULK AT MOST 1048576: true; the input reads as it did. -/
def blockPartsUptoRow : OpenClaim := { program := "ytfihbcpainlpcaa", sum := "4284582378d14023fa038b3903de058ffbcd9d2dfabcfcc653b84fb8465d65d5", func := "kinora/kinoralaw9.BlockParts", spec := "blockParts", apart := false, narrowed := true }
def BlockPartsUptoSaid : Prop := blockPartsUptoRow.holds Try.pinned (OpenSpec.upto blockPartsSpec)

/-- 'kinoralaw9.BlockCuts', WHERE WHAT IT READS IS OF BULK AT MOST 1048576: true; the input reads as it did. -/
def blockCutsUptoRow : OpenClaim := { program := "ytfihbcpainlpcaa", sum := "4284582378d14023fa038b3903de058ffbcd9d2dfabcfcc653b84fb8465d65d5", func := "kinora/kinoralaw9.BlockCuts", spec := "blockCuts", apart := false, narrowed := true }
def BlockCutsUptoSaid : Prop := blockCutsUptoRow.holds Try.pinned (OpenSpec.upto blockCutsSpec)

/-- 'kinoralaw9.BlockOwn', WHERE WHAT IT READS IS OF BULK AT MOST 1048576: true; the input reads as it did. -/
def blockOwnUptoRow : OpenClaim := { program := "ytfihbcpainlpcaa", sum := "4284582378d14023fa038b3903de058ffbcd9d2dfabcfcc653b84fb8465d65d5", func := "kinora/kinoralaw9.BlockOwn", spec := "blockOwn", apart := false, narrowed := true }
def BlockOwnUptoSaid : Prop := blockOwnUptoRow.holds Try.pinned (OpenSpec.upto blockOwnSpec)

/-- 'kinoralaw9.BlockUnpacks', WHERE WHAT IT READS IS OF BULK AT MOST 1048576: true; the input reads as it did. -/
def blockUnpacksUptoRow : OpenClaim := { program := "ytfihbcpainlpcaa", sum := "4284582378d14023fa038b3903de058ffbcd9d2dfabcfcc653b84fb8465d65d5", func := "kinora/kinoralaw9.BlockUnpacks", spec := "blockUnpacks", apart := false, narrowed := true }
def BlockUnpacksUptoSaid : Prop := blockUnpacksUptoRow.holds Try.pinned (OpenSpec.upto blockUnpacksSpec)

/-- 'kinoralaw9.BlockBack', WHERE WHAT IT READS IS OF BULK AT MOST 1048576: true; the input reads as it did. -/
def blockBackUptoRow : OpenClaim := { program := "ytfihbcpainlpcaa", sum := "4284582378d14023fa038b3903de058ffbcd9d2dfabcfcc653b84fb8465d65d5", func := "kinora/kinoralaw9.BlockBack", spec := "blockBack", apart := false, narrowed := true }
def BlockBackUptoSaid : Prop := blockBackUptoRow.holds Try.pinned (OpenSpec.upto blockBackSpec)

/-- 'kinoralaw9.BlockJoins', WHERE WHAT IT READS IS OF BULK AT MOST 1048576: true; the input reads as it did. -/
def blockJoinsUptoRow : OpenClaim := { program := "ytfihbcpainlpcaa", sum := "4284582378d14023fa038b3903de058ffbcd9d2dfabcfcc653b84fb8465d65d5", func := "kinora/kinoralaw9.BlockJoins", spec := "blockJoins", apart := false, narrowed := true }
def BlockJoinsUptoSaid : Prop := blockJoinsUptoRow.holds Try.pinned (OpenSpec.upto blockJoinsSpec)

/-- 'kinoralaw9.BlockWoven', WHERE WHAT IT READS IS OF BULK AT MOST 1048576: true; the input reads as it did. -/
def blockWovenUptoRow : OpenClaim := { program := "ytfihbcpainlpcaa", sum := "4284582378d14023fa038b3903de058ffbcd9d2dfabcfcc653b84fb8465d65d5", func := "kinora/kinoralaw9.BlockWoven", spec := "blockWoven", apart := false, narrowed := true }
def BlockWovenUptoSaid : Prop := blockWovenUptoRow.holds Try.pinned (OpenSpec.upto blockWovenSpec)

/-- 'kinoralaw9.BlockTells', WHERE WHAT IT READS IS OF BULK AT MOST 1048576: true; the input reads as it did. -/
def blockTellsUptoRow : OpenClaim := { program := "ytfihbcpainlpcaa", sum := "4284582378d14023fa038b3903de058ffbcd9d2dfabcfcc653b84fb8465d65d5", func := "kinora/kinoralaw9.BlockTells", spec := "blockTells", inPlace := ["math/bits.Add64"], named := ["math/bits.divideError", "math/bits.overflowError"], apart := false, narrowed := true }
def BlockTellsUptoSaid : Prop := blockTellsUptoRow.holds Try.pinned (OpenSpec.upto blockTellsSpec)

/-- 'kinoralaw9.BlockRound', WHERE WHAT IT READS IS OF BULK AT MOST 1048576: true; the input reads as it did. -/
def blockRoundUptoRow : OpenClaim := { program := "ytfihbcpainlpcaa", sum := "4284582378d14023fa038b3903de058ffbcd9d2dfabcfcc653b84fb8465d65d5", func := "kinora/kinoralaw9.BlockRound", spec := "blockRound", inPlace := ["math/bits.Add64"], named := ["math/bits.divideError", "math/bits.overflowError"], apart := false, narrowed := true }
def BlockRoundUptoSaid : Prop := blockRoundUptoRow.holds Try.pinned (OpenSpec.upto blockRoundSpec)

end Rows
end Go.Proofs.Ytfihbcpainlpcaa
