/-
  No cell of these rows narrows 'for every input' (looked for: loops, veiled, ifaces, maps, wideKeys, modest, calm, conditions, laid).
  DERIVED. THE GIVEN ROWS OF THIS SEAT. 8 by the template 'for every input the law returns true; each argument reads behind the call as it read before'; 0 by the template 'total and deterministic' (their statements: YtfdkodcnbjmlbaaTotals.lean).
  GIVEN WITH THE SEED: the statements are not yours to turn. If you find one false, say at which input.
  Laid BY PROGRAM, IN A SANDBOX (cutbox-rows.mjs): the forced cells as the released guide's own fill.sh prints them over the translation cbd73e9d173de9a6… (all of the seat's roots in one cut). By AI agents, Wed Nov 11 2026. No macro, syntax, notation, axiom, sorry.
-/
import Derived.Test.YtfdkodcnbjmlbaaChecked
import GoSem.Claim
import GoSem.ClaimJoined
import GoSem.ClaimMapViews
import Derived.JoinedTies
import Derived.KernelRfl
namespace Go.Proofs.Ytfdkodcnbjmlbaa
/- THE CELL 'sum', in the pinned program and in every row, IS THE sha256 OF THE DUMP (.gsa) THAT YtfdkodcnbjmlbaaProg.lean LOADS. Nothing in Lean hashes anything: it is a label: what it is worth is what the hold of that sum in a sandbox is worth. -/
noncomputable def Try.pinned : Pinned := { name := "ytfdkodcnbjmlbaa", sum := "cbd73e9d173de9a692329aa3bad80fba7d1d86b42457ad3f9d72e59e037a1b7d", checked := Try.checked }
namespace Rows
def none {H : Type} : Left H := { results := [], args := [] }

/-- 'kinoralaw3.SumsTell': WHATEVER THE INPUT: true; the input reads as it did. -/
def sumsTellSpec : ChangeSpec := { name := "sumsTell", fn := fun _ => fun
  | [d] => { results := [.lit (.bool true)], args := [d] }
  | _ => none }
def sumsTellRow : OpenClaim := { program := "ytfdkodcnbjmlbaa", sum := "cbd73e9d173de9a692329aa3bad80fba7d1d86b42457ad3f9d72e59e037a1b7d", func := "kinora/kinoralaw3.SumsTell", spec := "sumsTell", inPlace := ["math/bits.Add64"], named := ["math/bits.divideError", "math/bits.overflowError"], apart := false }
def SumsTellSaid : Prop := sumsTellRow.holds Try.pinned (OpenSpec.ofChange sumsTellSpec)

/-- ITS FALSE NEIGHBOUR: 'it returns false'. Refute it at one input. -/
def sumsTellWrong : ChangeSpec := { name := "sumsTell", fn := fun _ => fun
  | [d] => { results := [.lit (.bool false)], args := [d] }
  | _ => none }
def SumsTellWrongFalsely : Prop := sumsTellRow.holds Try.pinned (OpenSpec.ofChange sumsTellWrong)

/-- 'kinoralaw3.SumsJoins': WHATEVER THE INPUT: true; the input reads as it did. -/
def sumsJoinsSpec : ChangeSpec := { name := "sumsJoins", fn := fun _ => fun
  | [d1, d2, d3, d4] => { results := [.lit (.bool true)], args := [d1, d2, d3, d4] }
  | _ => none }
def sumsJoinsRow : OpenClaim := { program := "ytfdkodcnbjmlbaa", sum := "cbd73e9d173de9a692329aa3bad80fba7d1d86b42457ad3f9d72e59e037a1b7d", func := "kinora/kinoralaw3.SumsJoins", spec := "sumsJoins", inPlace := ["math/bits.Add64"], named := ["math/bits.divideError", "math/bits.overflowError"], apart := false }
def SumsJoinsSaid : Prop := sumsJoinsRow.holds Try.pinned (OpenSpec.ofChange sumsJoinsSpec)

/-- ITS FALSE NEIGHBOUR: 'it returns false'. Refute it at one input. -/
def sumsJoinsWrong : ChangeSpec := { name := "sumsJoins", fn := fun _ => fun
  | [d1, d2, d3, d4] => { results := [.lit (.bool false)], args := [d1, d2, d3, d4] }
  | _ => none }
def SumsJoinsWrongFalsely : Prop := sumsJoinsRow.holds Try.pinned (OpenSpec.ofChange sumsJoinsWrong)

/-- 'kinoralaw3.SumsParts': WHATEVER THE INPUT: true; the input reads as it did. -/
def sumsPartsSpec : ChangeSpec := { name := "sumsParts", fn := fun _ => fun
  | [d] => { results := [.lit (.bool true)], args := [d] }
  | _ => none }
def sumsPartsRow : OpenClaim := { program := "ytfdkodcnbjmlbaa", sum := "cbd73e9d173de9a692329aa3bad80fba7d1d86b42457ad3f9d72e59e037a1b7d", func := "kinora/kinoralaw3.SumsParts", spec := "sumsParts", inPlace := ["math/bits.Add64"], named := ["math/bits.divideError", "math/bits.overflowError"], apart := false }
def SumsPartsSaid : Prop := sumsPartsRow.holds Try.pinned (OpenSpec.ofChange sumsPartsSpec)

/-- ITS FALSE NEIGHBOUR: 'it returns false'. Refute it at one input. -/
def sumsPartsWrong : ChangeSpec := { name := "sumsParts", fn := fun _ => fun
  | [d] => { results := [.lit (.bool false)], args := [d] }
  | _ => none }
def SumsPartsWrongFalsely : Prop := sumsPartsRow.holds Try.pinned (OpenSpec.ofChange sumsPartsWrong)

/-- 'kinoralaw3.SumsOne': WHATEVER THE INPUT: true; the input reads as it did. -/
def sumsOneSpec : ChangeSpec := { name := "sumsOne", fn := fun _ => fun
  | [d1, d2, d3] => { results := [.lit (.bool true)], args := [d1, d2, d3] }
  | _ => none }
def sumsOneRow : OpenClaim := { program := "ytfdkodcnbjmlbaa", sum := "cbd73e9d173de9a692329aa3bad80fba7d1d86b42457ad3f9d72e59e037a1b7d", func := "kinora/kinoralaw3.SumsOne", spec := "sumsOne", inPlace := ["math/bits.Add64"], named := ["math/bits.divideError", "math/bits.overflowError"], apart := false }
def SumsOneSaid : Prop := sumsOneRow.holds Try.pinned (OpenSpec.ofChange sumsOneSpec)

/-- ITS FALSE NEIGHBOUR: 'it returns false'. Refute it at one input. -/
def sumsOneWrong : ChangeSpec := { name := "sumsOne", fn := fun _ => fun
  | [d1, d2, d3] => { results := [.lit (.bool false)], args := [d1, d2, d3] }
  | _ => none }
def SumsOneWrongFalsely : Prop := sumsOneRow.holds Try.pinned (OpenSpec.ofChange sumsOneWrong)

/-- 'kinoralaw3.SumsBurst': WHATEVER THE INPUT: true; the input reads as it did. -/
def sumsBurstSpec : ChangeSpec := { name := "sumsBurst", fn := fun _ => fun
  | [d1, d2, d3] => { results := [.lit (.bool true)], args := [d1, d2, d3] }
  | _ => none }
def sumsBurstRow : OpenClaim := { program := "ytfdkodcnbjmlbaa", sum := "cbd73e9d173de9a692329aa3bad80fba7d1d86b42457ad3f9d72e59e037a1b7d", func := "kinora/kinoralaw3.SumsBurst", spec := "sumsBurst", inPlace := ["math/bits.Add64"], named := ["math/bits.divideError", "math/bits.overflowError"], apart := false }
def SumsBurstSaid : Prop := sumsBurstRow.holds Try.pinned (OpenSpec.ofChange sumsBurstSpec)

/-- ITS FALSE NEIGHBOUR: 'it returns false'. Refute it at one input. -/
def sumsBurstWrong : ChangeSpec := { name := "sumsBurst", fn := fun _ => fun
  | [d1, d2, d3] => { results := [.lit (.bool false)], args := [d1, d2, d3] }
  | _ => none }
def SumsBurstWrongFalsely : Prop := sumsBurstRow.holds Try.pinned (OpenSpec.ofChange sumsBurstWrong)

/-- 'kinoralaw3.SumsPowers': WHATEVER THE INPUT: true; the input reads as it did. -/
def sumsPowersSpec : ChangeSpec := { name := "sumsPowers", fn := fun _ => fun
  | [d1, d2] => { results := [.lit (.bool true)], args := [d1, d2] }
  | _ => none }
def sumsPowersRow : OpenClaim := { program := "ytfdkodcnbjmlbaa", sum := "cbd73e9d173de9a692329aa3bad80fba7d1d86b42457ad3f9d72e59e037a1b7d", func := "kinora/kinoralaw3.SumsPowers", spec := "sumsPowers", inPlace := ["math/bits.Add64"], named := ["math/bits.divideError", "math/bits.overflowError"], apart := false }
def SumsPowersSaid : Prop := sumsPowersRow.holds Try.pinned (OpenSpec.ofChange sumsPowersSpec)

/-- ITS FALSE NEIGHBOUR: 'it returns false'. Refute it at one input. -/
def sumsPowersWrong : ChangeSpec := { name := "sumsPowers", fn := fun _ => fun
  | [d1, d2] => { results := [.lit (.bool false)], args := [d1, d2] }
  | _ => none }
def SumsPowersWrongFalsely : Prop := sumsPowersRow.holds Try.pinned (OpenSpec.ofChange sumsPowersWrong)

/-- 'kinoralaw3.SumsBehind': WHATEVER THE INPUT: true; the input reads as it did. -/
def sumsBehindSpec : ChangeSpec := { name := "sumsBehind", fn := fun _ => fun
  | [d] => { results := [.lit (.bool true)], args := [d] }
  | _ => none }
def sumsBehindRow : OpenClaim := { program := "ytfdkodcnbjmlbaa", sum := "cbd73e9d173de9a692329aa3bad80fba7d1d86b42457ad3f9d72e59e037a1b7d", func := "kinora/kinoralaw3.SumsBehind", spec := "sumsBehind", inPlace := ["math/bits.Add64"], named := ["math/bits.divideError", "math/bits.overflowError"], apart := false }
def SumsBehindSaid : Prop := sumsBehindRow.holds Try.pinned (OpenSpec.ofChange sumsBehindSpec)

/-- ITS FALSE NEIGHBOUR: 'it returns false'. Refute it at one input. -/
def sumsBehindWrong : ChangeSpec := { name := "sumsBehind", fn := fun _ => fun
  | [d] => { results := [.lit (.bool false)], args := [d] }
  | _ => none }
def SumsBehindWrongFalsely : Prop := sumsBehindRow.holds Try.pinned (OpenSpec.ofChange sumsBehindWrong)

/-- 'kinoralaw3.SumsXor': WHATEVER THE INPUT: true; the input reads as it did. -/
def sumsXorSpec : ChangeSpec := { name := "sumsXor", fn := fun _ => fun
  | [d1, d2, d3] => { results := [.lit (.bool true)], args := [d1, d2, d3] }
  | _ => none }
def sumsXorRow : OpenClaim := { program := "ytfdkodcnbjmlbaa", sum := "cbd73e9d173de9a692329aa3bad80fba7d1d86b42457ad3f9d72e59e037a1b7d", func := "kinora/kinoralaw3.SumsXor", spec := "sumsXor", inPlace := ["math/bits.Add64"], named := ["math/bits.divideError", "math/bits.overflowError"], apart := false }
def SumsXorSaid : Prop := sumsXorRow.holds Try.pinned (OpenSpec.ofChange sumsXorSpec)

/-- ITS FALSE NEIGHBOUR: 'it returns false'. Refute it at one input. -/
def sumsXorWrong : ChangeSpec := { name := "sumsXor", fn := fun _ => fun
  | [d1, d2, d3] => { results := [.lit (.bool false)], args := [d1, d2, d3] }
  | _ => none }
def SumsXorWrongFalsely : Prop := sumsXorRow.holds Try.pinned (OpenSpec.ofChange sumsXorWrong)

/- THE SECOND FORM. 'bulk': how many values and letters a reading holds, each counted each time it is reached (what is shared counts as often as it is met; a slice's spare places count too). A statement '..UptoSaid' is the law's where the arguments, and the package variables that the reading takes, are together of bulk at most 1048576: NARROWER than '..Said'. Prove '..Said' where nothing that the law and all that it calls make is longer than what came in: it says more and counts as full. Else prove '..UptoSaid'. A law counts once. -/
mutual
def uptoBulk {H : Type} : DataW H → Nat
  | .lit (.string bytes) => bytes.length + 1
  | .lit _ => 1
  | .nil => 1
  | .ptr d => uptoBulk d + 1
  | .slice elems spare => uptoBulkAll elems + uptoBulkAll spare + 1
  | .agg parts => uptoBulkAll parts + 1
  | .iface _ d => uptoBulk d + 1
  | .map entries => uptoBulkEntries entries + 1
  | .held _ => 1
def uptoBulkAll {H : Type} : List (DataW H) → Nat
  | [] => 0
  | d :: r => uptoBulk d + uptoBulkAll r
def uptoBulkEntries {H : Type} : List (Lit × DataW H) → Nat
  | [] => 0
  | x :: r => uptoBulkEntry x + uptoBulkEntries r
def uptoBulkEntry {H : Type} : Lit × DataW H → Nat
  | (.string bytes, d) => bytes.length + uptoBulk d + 1
  | (_, d) => uptoBulk d + 1
 end
def uptoSmall : (H : Type) → List (DataW H) → Bool := fun _ ds => decide (uptoBulkAll ds ≤ 1048576)
def OpenSpec.upto (s : _root_.Go.ChangeSpec) : _root_.Go.OpenSpec := { _root_.Go.OpenSpec.ofChange s with cond := some uptoSmall }

/-- 'kinoralaw3.SumsTell', WHERE WHAT IT READS IS OF BULK AT MOST 1048576: true; the input reads as it did. -/
def sumsTellUptoRow : OpenClaim := { program := "ytfdkodcnbjmlbaa", sum := "cbd73e9d173de9a692329aa3bad80fba7d1d86b42457ad3f9d72e59e037a1b7d", func := "kinora/kinoralaw3.SumsTell", spec := "sumsTell", inPlace := ["math/bits.Add64"], named := ["math/bits.divideError", "math/bits.overflowError"], apart := false, narrowed := true }
def SumsTellUptoSaid : Prop := sumsTellUptoRow.holds Try.pinned (OpenSpec.upto sumsTellSpec)

/-- 'kinoralaw3.SumsJoins', WHERE WHAT IT READS IS OF BULK AT MOST 1048576: true; the input reads as it did. -/
def sumsJoinsUptoRow : OpenClaim := { program := "ytfdkodcnbjmlbaa", sum := "cbd73e9d173de9a692329aa3bad80fba7d1d86b42457ad3f9d72e59e037a1b7d", func := "kinora/kinoralaw3.SumsJoins", spec := "sumsJoins", inPlace := ["math/bits.Add64"], named := ["math/bits.divideError", "math/bits.overflowError"], apart := false, narrowed := true }
def SumsJoinsUptoSaid : Prop := sumsJoinsUptoRow.holds Try.pinned (OpenSpec.upto sumsJoinsSpec)

/-- 'kinoralaw3.SumsParts', WHERE WHAT IT READS IS OF BULK AT MOST 1048576: true; the input reads as it did. -/
def sumsPartsUptoRow : OpenClaim := { program := "ytfdkodcnbjmlbaa", sum := "cbd73e9d173de9a692329aa3bad80fba7d1d86b42457ad3f9d72e59e037a1b7d", func := "kinora/kinoralaw3.SumsParts", spec := "sumsParts", inPlace := ["math/bits.Add64"], named := ["math/bits.divideError", "math/bits.overflowError"], apart := false, narrowed := true }
def SumsPartsUptoSaid : Prop := sumsPartsUptoRow.holds Try.pinned (OpenSpec.upto sumsPartsSpec)

/-- 'kinoralaw3.SumsOne', WHERE WHAT IT READS IS OF BULK AT MOST 1048576: true; the input reads as it did. -/
def sumsOneUptoRow : OpenClaim := { program := "ytfdkodcnbjmlbaa", sum := "cbd73e9d173de9a692329aa3bad80fba7d1d86b42457ad3f9d72e59e037a1b7d", func := "kinora/kinoralaw3.SumsOne", spec := "sumsOne", inPlace := ["math/bits.Add64"], named := ["math/bits.divideError", "math/bits.overflowError"], apart := false, narrowed := true }
def SumsOneUptoSaid : Prop := sumsOneUptoRow.holds Try.pinned (OpenSpec.upto sumsOneSpec)

/-- 'kinoralaw3.SumsBurst', WHERE WHAT IT READS IS OF BULK AT MOST 1048576: true; the input reads as it did. -/
def sumsBurstUptoRow : OpenClaim := { program := "ytfdkodcnbjmlbaa", sum := "cbd73e9d173de9a692329aa3bad80fba7d1d86b42457ad3f9d72e59e037a1b7d", func := "kinora/kinoralaw3.SumsBurst", spec := "sumsBurst", inPlace := ["math/bits.Add64"], named := ["math/bits.divideError", "math/bits.overflowError"], apart := false, narrowed := true }
def SumsBurstUptoSaid : Prop := sumsBurstUptoRow.holds Try.pinned (OpenSpec.upto sumsBurstSpec)

/-- 'kinoralaw3.SumsPowers', WHERE WHAT IT READS IS OF BULK AT MOST 1048576: true; the input reads as it did. -/
def sumsPowersUptoRow : OpenClaim := { program := "ytfdkodcnbjmlbaa", sum := "cbd73e9d173de9a692329aa3bad80fba7d1d86b42457ad3f9d72e59e037a1b7d", func := "kinora/kinoralaw3.SumsPowers", spec := "sumsPowers", inPlace := ["math/bits.Add64"], named := ["math/bits.divideError", "math/bits.overflowError"], apart := false, narrowed := true }
def SumsPowersUptoSaid : Prop := sumsPowersUptoRow.holds Try.pinned (OpenSpec.upto sumsPowersSpec)

/-- 'kinoralaw3.SumsBehind', WHERE WHAT IT READS IS OF BULK AT MOST 1048576: true; the input reads as it did. -/
def sumsBehindUptoRow : OpenClaim := { program := "ytfdkodcnbjmlbaa", sum := "cbd73e9d173de9a692329aa3bad80fba7d1d86b42457ad3f9d72e59e037a1b7d", func := "kinora/kinoralaw3.SumsBehind", spec := "sumsBehind", inPlace := ["math/bits.Add64"], named := ["math/bits.divideError", "math/bits.overflowError"], apart := false, narrowed := true }
def SumsBehindUptoSaid : Prop := sumsBehindUptoRow.holds Try.pinned (OpenSpec.upto sumsBehindSpec)

/-- 'kinoralaw3.SumsXor', WHERE WHAT IT READS IS OF BULK AT MOST 1048576: true; the input reads as it did. -/
def sumsXorUptoRow : OpenClaim := { program := "ytfdkodcnbjmlbaa", sum := "cbd73e9d173de9a692329aa3bad80fba7d1d86b42457ad3f9d72e59e037a1b7d", func := "kinora/kinoralaw3.SumsXor", spec := "sumsXor", inPlace := ["math/bits.Add64"], named := ["math/bits.divideError", "math/bits.overflowError"], apart := false, narrowed := true }
def SumsXorUptoSaid : Prop := sumsXorUptoRow.holds Try.pinned (OpenSpec.upto sumsXorSpec)

end Rows
end Go.Proofs.Ytfdkodcnbjmlbaa
