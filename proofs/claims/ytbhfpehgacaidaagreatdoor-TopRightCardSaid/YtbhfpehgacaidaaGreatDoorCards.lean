/-
  DERIVED. GIVEN WITH THE SEED: THE CARDS: each row of YtbhfpehgacaidaaGreatDoorRows.lean that lists a variable, with what it lists TIED to the program's text (the seventh form; the later family's looks); each row that meets fmt, with fmt's text TOLD by the authors' own Lean function (tested against real Go, not proved from fmt's source: count such statements apart). THE CARD IS WHAT COUNTS. Prove the row's statement (the work); the ties are given (YtbhfpehgacaidaaGreatDoorTie.lean); close each card by the builder's one call (the guide's Derived/Test/ToyasCard.lean, 'card_holds'). Laid BY PROGRAM, IN A SANDBOX (cutbox-door.mjs). By AI agents, Wed Nov 11 2026. No macro, syntax, notation, axiom, sorry.
-/
import Derived.Test.YtbhfpehgacaidaaGreatDoorRows
import GoSem.ClaimSeven
namespace Go.Proofs.YtbhfpehgacaidaaGreatDoor
namespace Rows

/-- THE TIED CARD OF 'kinoratop.TopRight'. -/
def topRightCard : Claim7 := { stood := { row := topRightRow, standIns := [], harness := (true, "85ec56ef279c59d985dcb45a92dc86bdf099a838c228472a5703a5a908407ce8"), looks := false }, kinds := [], alts := [], laidByText := true, laidKinds := [.data], laidTests := true, laidLooks := .later }
def TopRightCardSaid : Prop := Claim7.holds Tryz.pinned (.plain (OpenSpec.ofChange topRightSpec)) topRightCard

/-- THE SECOND FORM's CARD OF 'kinoratop.TopRight'. -/
def topRightUptoCard : Claim7 := { stood := { row := topRightUptoRow, standIns := [], harness := (true, "85ec56ef279c59d985dcb45a92dc86bdf099a838c228472a5703a5a908407ce8"), looks := false }, kinds := [], alts := [], laidByText := true, laidKinds := [.data], laidTests := true, laidLooks := .later }
def TopRightUptoCardSaid : Prop := Claim7.holds Tryz.pinned (.plain (OpenSpec.upto topRightSpec)) topRightUptoCard
end Rows
end Go.Proofs.YtbhfpehgacaidaaGreatDoor
