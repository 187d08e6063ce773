/-
  DERIVED. GIVEN WITH THE SEED: THE CARDS: each row of YtgcpildegdgekaaGreatDoorRows.lean that lists a variable, with what it lists TIED to the program's text (the seventh form; the later family's looks); each row that meets fmt, with fmt's text TOLD by the authors' own Lean function (tested against real Go, not proved from fmt's source: count such statements apart). THE CARD IS WHAT COUNTS. Prove the row's statement (the work); the ties are given (YtgcpildegdgekaaGreatDoorTie.lean); close each card by the builder's one call (the guide's Derived/Test/ToyasCard.lean, 'card_holds'). Laid BY PROGRAM, IN A SANDBOX (cutbox-door.mjs). By AI agents, Wed Nov 11 2026. No macro, syntax, notation, axiom, sorry.
-/
import Derived.Test.YtgcpildegdgekaaGreatDoorRows
import GoSem.ClaimSeven
namespace Go.Proofs.YtgcpildegdgekaaGreatDoor
namespace Rows

/-- THE TIED CARD OF 'sheetmetallaw08.ProgramMakes'. -/
def programMakesCard : Claim7 := { stood := { row := programMakesRow, standIns := [], harness := (true, "dee277fe984315327ee9fdb29db64e4e110fea128cb4b38385b8a0555df8a337"), looks := true }, kinds := [], alts := [], laidByText := true, laidKinds := [.data, .data, .data, .data, .handle, .sentinel, .sentinel, .pinned], laidTests := true, laidLooks := .later }
def ProgramMakesCardSaid : Prop := Claim7.holds Tryz.pinned (.plain (OpenSpec.ofChange programMakesSpec)) programMakesCard

/-- THE SECOND FORM's CARD OF 'sheetmetallaw08.ProgramMakes'. -/
def programMakesUptoCard : Claim7 := { stood := { row := programMakesUptoRow, standIns := [], harness := (true, "dee277fe984315327ee9fdb29db64e4e110fea128cb4b38385b8a0555df8a337"), looks := true }, kinds := [], alts := [], laidByText := true, laidKinds := [.data, .data, .data, .data, .handle, .sentinel, .sentinel, .pinned], laidTests := true, laidLooks := .later }
def ProgramMakesUptoCardSaid : Prop := Claim7.holds Tryz.pinned (.plain (OpenSpec.upto programMakesSpec)) programMakesUptoCard
end Rows
end Go.Proofs.YtgcpildegdgekaaGreatDoor
