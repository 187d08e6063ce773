/-
  DERIVED. GIVEN WITH THE SEED: THE CARDS: each row of YtohecfbnmmgimaaDoorRows.lean that lists a variable, with what it lists TIED to the program's text (the seventh form; the later family's looks); each row that meets fmt, with fmt's text TOLD by the authors' own Lean function (tested against real Go, not proved from fmt's source: count such statements apart). THE CARD IS WHAT COUNTS. Prove the row's statement (the work); the ties are given (YtohecfbnmmgimaaDoorTie.lean); close each card by the builder's one call (the guide's Derived/Test/ToyasCard.lean, 'card_holds'). Laid BY PROGRAM, IN A SANDBOX (cutbox-door.mjs). By AI agents, Wed Nov 11 2026. No macro, syntax, notation, axiom, sorry.
-/
import Derived.Test.YtohecfbnmmgimaaDoorRows
import GoSem.ClaimSeven
namespace Go.Proofs.YtohecfbnmmgimaaDoor
namespace Rows

/-- THE TIED CARD OF 'sheetmetallaw03.FlatTexts'. -/
def flatTextsCard : Claim7 := { stood := { row := flatTextsRow, standIns := [], harness := (true, "b3d4adf0540bbf33d1b11616e0323226582edfb31faa7abc850b1213c4af9127"), looks := true }, kinds := [], alts := [], laidByText := true, laidKinds := [.data, .data, .data, .data, .sentinel, .sentinel, .pinned], laidTests := true, laidLooks := .later }
def FlatTextsCardSaid : Prop := Claim7.holds Tryd.pinned (.plain (OpenSpec.ofChange flatTextsSpec)) flatTextsCard

/-- THE SECOND FORM's CARD OF 'sheetmetallaw03.FlatTexts'. -/
def flatTextsUptoCard : Claim7 := { stood := { row := flatTextsUptoRow, standIns := [], harness := (true, "b3d4adf0540bbf33d1b11616e0323226582edfb31faa7abc850b1213c4af9127"), looks := true }, kinds := [], alts := [], laidByText := true, laidKinds := [.data, .data, .data, .data, .sentinel, .sentinel, .pinned], laidTests := true, laidLooks := .later }
def FlatTextsUptoCardSaid : Prop := Claim7.holds Tryd.pinned (.plain (OpenSpec.upto flatTextsSpec)) flatTextsUptoCard
end Rows
end Go.Proofs.YtohecfbnmmgimaaDoor
