/-
  DERIVED. GIVEN WITH THE SEED: THE CARDS: each row of YthpaohgdadnkaaaDoorRows.lean that lists a variable, with what it lists TIED to the program's text (the seventh form; the later family's looks); each row that meets fmt, with fmt's text TOLD by the authors' own Lean function (tested against real Go, not proved from fmt's source: count such statements apart). THE CARD IS WHAT COUNTS. Prove the row's statement (the work); the ties are given (YthpaohgdadnkaaaDoorTie.lean); close each card by the builder's one call (the guide's Derived/Test/ToyasCard.lean, 'card_holds'). Laid BY PROGRAM, IN A SANDBOX (cutbox-door.mjs). By AI agents, Wed Nov 11 2026. No macro, syntax, notation, axiom, sorry.
-/
import Derived.Test.YthpaohgdadnkaaaDoorRows
import GoSem.ClaimSeven
namespace Go.Proofs.YthpaohgdadnkaaaDoor
namespace Rows

/-- THE TIED CARD OF 'kinoralaw4.SampleTells'. -/
def sampleTellsCard : Claim7 := { stood := { row := sampleTellsRow, standIns := [], harness := (true, "bf9dd2280ffd67d07ffdf452529a27a2b4f3a527370b7128ad75ce9759276f51"), looks := false }, kinds := [], alts := [], laidByText := true, laidKinds := [.data], laidTests := true, laidLooks := .later }
def SampleTellsCardSaid : Prop := Claim7.holds Tryd.pinned (.plain (OpenSpec.ofChange sampleTellsSpec)) sampleTellsCard

/-- THE TIED CARD OF 'kinoralaw4.SampleBack'. -/
def sampleBackCard : Claim7 := { stood := { row := sampleBackRow, standIns := [], harness := (true, "bf9dd2280ffd67d07ffdf452529a27a2b4f3a527370b7128ad75ce9759276f51"), looks := false }, kinds := [], alts := [], laidByText := true, laidKinds := [.data], laidTests := true, laidLooks := .later }
def SampleBackCardSaid : Prop := Claim7.holds Tryd.pinned (.plain (OpenSpec.ofChange sampleBackSpec)) sampleBackCard

/-- THE TIED CARD OF 'kinoralaw4.SampleWide'. -/
def sampleWideCard : Claim7 := { stood := { row := sampleWideRow, standIns := [], harness := (true, "bf9dd2280ffd67d07ffdf452529a27a2b4f3a527370b7128ad75ce9759276f51"), looks := false }, kinds := [], alts := [], laidByText := true, laidKinds := [.data], laidTests := true, laidLooks := .later }
def SampleWideCardSaid : Prop := Claim7.holds Tryd.pinned (.plain (OpenSpec.ofChange sampleWideSpec)) sampleWideCard

/-- THE TIED CARD OF 'kinoralaw4.SampleJoins'. -/
def sampleJoinsCard : Claim7 := { stood := { row := sampleJoinsRow, standIns := [], harness := (true, "bf9dd2280ffd67d07ffdf452529a27a2b4f3a527370b7128ad75ce9759276f51"), looks := false }, kinds := [], alts := [], laidByText := true, laidKinds := [.data], laidTests := true, laidLooks := .later }
def SampleJoinsCardSaid : Prop := Claim7.holds Tryd.pinned (.plain (OpenSpec.ofChange sampleJoinsSpec)) sampleJoinsCard

/-- THE TIED CARD OF 'kinoralaw4.SampleShifts'. -/
def sampleShiftsCard : Claim7 := { stood := { row := sampleShiftsRow, standIns := [], harness := (true, "bf9dd2280ffd67d07ffdf452529a27a2b4f3a527370b7128ad75ce9759276f51"), looks := false }, kinds := [], alts := [], laidByText := true, laidKinds := [.data], laidTests := true, laidLooks := .later }
def SampleShiftsCardSaid : Prop := Claim7.holds Tryd.pinned (.plain (OpenSpec.ofChange sampleShiftsSpec)) sampleShiftsCard

/-- THE TIED CARD OF 'kinoralaw4.SampleWastes'. -/
def sampleWastesCard : Claim7 := { stood := { row := sampleWastesRow, standIns := [], harness := (true, "bf9dd2280ffd67d07ffdf452529a27a2b4f3a527370b7128ad75ce9759276f51"), looks := false }, kinds := [], alts := [], laidByText := true, laidKinds := [.data], laidTests := true, laidLooks := .later }
def SampleWastesCardSaid : Prop := Claim7.holds Tryd.pinned (.plain (OpenSpec.ofChange sampleWastesSpec)) sampleWastesCard

/-- THE SECOND FORM's CARD OF 'kinoralaw4.SampleTells'. -/
def sampleTellsUptoCard : Claim7 := { stood := { row := sampleTellsUptoRow, standIns := [], harness := (true, "bf9dd2280ffd67d07ffdf452529a27a2b4f3a527370b7128ad75ce9759276f51"), looks := false }, kinds := [], alts := [], laidByText := true, laidKinds := [.data], laidTests := true, laidLooks := .later }
def SampleTellsUptoCardSaid : Prop := Claim7.holds Tryd.pinned (.plain (OpenSpec.upto sampleTellsSpec)) sampleTellsUptoCard

/-- THE SECOND FORM's CARD OF 'kinoralaw4.SampleBack'. -/
def sampleBackUptoCard : Claim7 := { stood := { row := sampleBackUptoRow, standIns := [], harness := (true, "bf9dd2280ffd67d07ffdf452529a27a2b4f3a527370b7128ad75ce9759276f51"), looks := false }, kinds := [], alts := [], laidByText := true, laidKinds := [.data], laidTests := true, laidLooks := .later }
def SampleBackUptoCardSaid : Prop := Claim7.holds Tryd.pinned (.plain (OpenSpec.upto sampleBackSpec)) sampleBackUptoCard

/-- THE SECOND FORM's CARD OF 'kinoralaw4.SampleWide'. -/
def sampleWideUptoCard : Claim7 := { stood := { row := sampleWideUptoRow, standIns := [], harness := (true, "bf9dd2280ffd67d07ffdf452529a27a2b4f3a527370b7128ad75ce9759276f51"), looks := false }, kinds := [], alts := [], laidByText := true, laidKinds := [.data], laidTests := true, laidLooks := .later }
def SampleWideUptoCardSaid : Prop := Claim7.holds Tryd.pinned (.plain (OpenSpec.upto sampleWideSpec)) sampleWideUptoCard

/-- THE SECOND FORM's CARD OF 'kinoralaw4.SampleJoins'. -/
def sampleJoinsUptoCard : Claim7 := { stood := { row := sampleJoinsUptoRow, standIns := [], harness := (true, "bf9dd2280ffd67d07ffdf452529a27a2b4f3a527370b7128ad75ce9759276f51"), looks := false }, kinds := [], alts := [], laidByText := true, laidKinds := [.data], laidTests := true, laidLooks := .later }
def SampleJoinsUptoCardSaid : Prop := Claim7.holds Tryd.pinned (.plain (OpenSpec.upto sampleJoinsSpec)) sampleJoinsUptoCard

/-- THE SECOND FORM's CARD OF 'kinoralaw4.SampleShifts'. -/
def sampleShiftsUptoCard : Claim7 := { stood := { row := sampleShiftsUptoRow, standIns := [], harness := (true, "bf9dd2280ffd67d07ffdf452529a27a2b4f3a527370b7128ad75ce9759276f51"), looks := false }, kinds := [], alts := [], laidByText := true, laidKinds := [.data], laidTests := true, laidLooks := .later }
def SampleShiftsUptoCardSaid : Prop := Claim7.holds Tryd.pinned (.plain (OpenSpec.upto sampleShiftsSpec)) sampleShiftsUptoCard

/-- THE SECOND FORM's CARD OF 'kinoralaw4.SampleWastes'. -/
def sampleWastesUptoCard : Claim7 := { stood := { row := sampleWastesUptoRow, standIns := [], harness := (true, "bf9dd2280ffd67d07ffdf452529a27a2b4f3a527370b7128ad75ce9759276f51"), looks := false }, kinds := [], alts := [], laidByText := true, laidKinds := [.data], laidTests := true, laidLooks := .later }
def SampleWastesUptoCardSaid : Prop := Claim7.holds Tryd.pinned (.plain (OpenSpec.upto sampleWastesSpec)) sampleWastesUptoCard
end Rows
end Go.Proofs.YthpaohgdadnkaaaDoor
