/-
  DERIVED. GIVEN WITH THE SEED: THE CARDS: each row of YtjjbojomlfgjlaaGreatDoorRows.lean that lists a variable, with what it lists TIED to the program's text (the seventh form; the later family's looks); each row that meets fmt, with fmt's text TOLD by the authors' own Lean function (tested against real Go, not proved from fmt's source: count such statements apart). THE CARD IS WHAT COUNTS. Prove the row's statement (the work); the ties are given (YtjjbojomlfgjlaaGreatDoorTie.lean); close each card by the builder's one call (the guide's Derived/Test/ToyasCard.lean, 'card_holds'). Laid BY PROGRAM, IN A SANDBOX (cutbox-door.mjs). By AI agents, Wed Nov 11 2026. No macro, syntax, notation, axiom, sorry.
-/
import Derived.Test.YtjjbojomlfgjlaaGreatDoorRows
import GoSem.ClaimSeven
namespace Go.Proofs.YtjjbojomlfgjlaaGreatDoor
namespace Rows

/-- THE TIED CARD OF 'sheetmetallaw08.ProgramCuts'. -/
def programCutsCard : Claim7 := { stood := { row := programCutsRow, standIns := [], harness := (true, "a7c8c09ddfb39818f580550f4676d7dcf5859ad58b2d8bc80fc80097a740a71e"), looks := true }, kinds := [], alts := [], laidByText := true, laidKinds := [.data, .data, .data, .handle], laidTests := true, laidLooks := .later }
def ProgramCutsCardSaid : Prop := Claim7.holds Tryz.pinned (.plain (OpenSpec.ofChange programCutsSpec)) programCutsCard

/-- THE TIED CARD OF 'sheetmetallaw08.ProgramChecks'. -/
def programChecksCard : Claim7 := { stood := { row := programChecksRow, standIns := [], harness := (true, "a7c8c09ddfb39818f580550f4676d7dcf5859ad58b2d8bc80fc80097a740a71e"), looks := true }, kinds := [], alts := [], laidByText := true, laidKinds := [.data, .data, .data, .handle], laidTests := true, laidLooks := .later }
def ProgramChecksCardSaid : Prop := Claim7.holds Tryz.pinned (.plain (OpenSpec.ofChange programChecksSpec)) programChecksCard

/-- THE SECOND FORM's CARD OF 'sheetmetallaw08.ProgramCuts'. -/
def programCutsUptoCard : Claim7 := { stood := { row := programCutsUptoRow, standIns := [], harness := (true, "a7c8c09ddfb39818f580550f4676d7dcf5859ad58b2d8bc80fc80097a740a71e"), looks := true }, kinds := [], alts := [], laidByText := true, laidKinds := [.data, .data, .data, .handle], laidTests := true, laidLooks := .later }
def ProgramCutsUptoCardSaid : Prop := Claim7.holds Tryz.pinned (.plain (OpenSpec.upto programCutsSpec)) programCutsUptoCard

/-- THE SECOND FORM's CARD OF 'sheetmetallaw08.ProgramChecks'. -/
def programChecksUptoCard : Claim7 := { stood := { row := programChecksUptoRow, standIns := [], harness := (true, "a7c8c09ddfb39818f580550f4676d7dcf5859ad58b2d8bc80fc80097a740a71e"), looks := true }, kinds := [], alts := [], laidByText := true, laidKinds := [.data, .data, .data, .handle], laidTests := true, laidLooks := .later }
def ProgramChecksUptoCardSaid : Prop := Claim7.holds Tryz.pinned (.plain (OpenSpec.upto programChecksSpec)) programChecksUptoCard
end Rows
end Go.Proofs.YtjjbojomlfgjlaaGreatDoor
