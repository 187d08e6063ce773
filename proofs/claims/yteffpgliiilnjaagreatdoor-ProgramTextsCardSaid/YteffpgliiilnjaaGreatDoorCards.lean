/-
  DERIVED. GIVEN WITH THE SEED: THE CARDS: each row of YteffpgliiilnjaaGreatDoorRows.lean that lists a variable, with what it lists TIED to the program's text (the seventh form; the later family's looks); each row that meets fmt, with fmt's text TOLD by the authors' own Lean function (tested against real Go, not proved from fmt's source: count such statements apart). THE CARD IS WHAT COUNTS. Prove the row's statement (the work); the ties are given (YteffpgliiilnjaaGreatDoorTie.lean); close each card by the builder's one call (the guide's Derived/Test/ToyasCard.lean, 'card_holds'). Laid BY PROGRAM, IN A SANDBOX (cutbox-door.mjs). By AI agents, Wed Nov 11 2026. No macro, syntax, notation, axiom, sorry.
-/
import Derived.Test.YteffpgliiilnjaaGreatDoorRows
import GoSem.ClaimSeven
namespace Go.Proofs.YteffpgliiilnjaaGreatDoor
namespace Rows

/-- THE TIED CARD OF 'sheetmetallaw08.ProgramRuns'. -/
def programRunsCard : Claim7 := { stood := { row := programRunsRow, standIns := [], harness := (true, "197df94023b3ee2ebca0cd2fe4d46dd6ddeb1d85c11d0e607dd4c1b498a23b3b"), looks := true }, kinds := [], alts := [], laidByText := true, laidKinds := [.data, .data, .data, .handle], laidTests := true, laidLooks := .later }
def ProgramRunsCardSaid : Prop := Claim7.holds Tryz.pinned (.plain (OpenSpec.ofChange programRunsSpec)) programRunsCard

/-- THE TIED CARD OF 'sheetmetallaw08.ProgramPrefix'. -/
def programPrefixCard : Claim7 := { stood := { row := programPrefixRow, standIns := [], harness := (true, "197df94023b3ee2ebca0cd2fe4d46dd6ddeb1d85c11d0e607dd4c1b498a23b3b"), looks := true }, kinds := [], alts := [], laidByText := true, laidKinds := [.data, .data, .data, .handle], laidTests := true, laidLooks := .later }
def ProgramPrefixCardSaid : Prop := Claim7.holds Tryz.pinned (.plain (OpenSpec.ofChange programPrefixSpec)) programPrefixCard

/-- THE TIED CARD OF 'sheetmetallaw08.ProgramFolds'. -/
def programFoldsCard : Claim7 := { stood := { row := programFoldsRow, standIns := [], harness := (true, "197df94023b3ee2ebca0cd2fe4d46dd6ddeb1d85c11d0e607dd4c1b498a23b3b"), looks := true }, kinds := [], alts := [], laidByText := true, laidKinds := [.data, .data, .data, .handle], laidTests := true, laidLooks := .later }
def ProgramFoldsCardSaid : Prop := Claim7.holds Tryz.pinned (.plain (OpenSpec.ofChange programFoldsSpec)) programFoldsCard

/-- THE TIED CARD OF 'sheetmetallaw08.ProgramTexts'. -/
def programTextsCard : Claim7 := { stood := { row := programTextsRow, standIns := [], harness := (true, "197df94023b3ee2ebca0cd2fe4d46dd6ddeb1d85c11d0e607dd4c1b498a23b3b"), looks := true }, kinds := [], alts := [], laidByText := true, laidKinds := [.data, .data, .data, .data, .handle, .sentinel, .sentinel, .pinned], laidTests := true, laidLooks := .later }
def ProgramTextsCardSaid : Prop := Claim7.holds Tryz.pinned (.plain (OpenSpec.ofChange programTextsSpec)) programTextsCard

/-- THE TIED CARD OF 'sheetmetallaw08.ProgramSeparates'. -/
def programSeparatesCard : Claim7 := { stood := { row := programSeparatesRow, standIns := [], harness := (true, "197df94023b3ee2ebca0cd2fe4d46dd6ddeb1d85c11d0e607dd4c1b498a23b3b"), looks := true }, kinds := [], alts := [], laidByText := true, laidKinds := [.data, .data, .data, .handle], laidTests := true, laidLooks := .later }
def ProgramSeparatesCardSaid : Prop := Claim7.holds Tryz.pinned (.plain (OpenSpec.ofChange programSeparatesSpec)) programSeparatesCard

/-- THE TIED CARD OF 'sheetmetallaw08.ProgramDivides'. -/
def programDividesCard : Claim7 := { stood := { row := programDividesRow, standIns := [], harness := (true, "197df94023b3ee2ebca0cd2fe4d46dd6ddeb1d85c11d0e607dd4c1b498a23b3b"), looks := true }, kinds := [], alts := [], laidByText := true, laidKinds := [.data, .data, .data, .handle], laidTests := true, laidLooks := .later }
def ProgramDividesCardSaid : Prop := Claim7.holds Tryz.pinned (.plain (OpenSpec.ofChange programDividesSpec)) programDividesCard

/-- THE SECOND FORM's CARD OF 'sheetmetallaw08.ProgramRuns'. -/
def programRunsUptoCard : Claim7 := { stood := { row := programRunsUptoRow, standIns := [], harness := (true, "197df94023b3ee2ebca0cd2fe4d46dd6ddeb1d85c11d0e607dd4c1b498a23b3b"), looks := true }, kinds := [], alts := [], laidByText := true, laidKinds := [.data, .data, .data, .handle], laidTests := true, laidLooks := .later }
def ProgramRunsUptoCardSaid : Prop := Claim7.holds Tryz.pinned (.plain (OpenSpec.upto programRunsSpec)) programRunsUptoCard

/-- THE SECOND FORM's CARD OF 'sheetmetallaw08.ProgramPrefix'. -/
def programPrefixUptoCard : Claim7 := { stood := { row := programPrefixUptoRow, standIns := [], harness := (true, "197df94023b3ee2ebca0cd2fe4d46dd6ddeb1d85c11d0e607dd4c1b498a23b3b"), looks := true }, kinds := [], alts := [], laidByText := true, laidKinds := [.data, .data, .data, .handle], laidTests := true, laidLooks := .later }
def ProgramPrefixUptoCardSaid : Prop := Claim7.holds Tryz.pinned (.plain (OpenSpec.upto programPrefixSpec)) programPrefixUptoCard

/-- THE SECOND FORM's CARD OF 'sheetmetallaw08.ProgramFolds'. -/
def programFoldsUptoCard : Claim7 := { stood := { row := programFoldsUptoRow, standIns := [], harness := (true, "197df94023b3ee2ebca0cd2fe4d46dd6ddeb1d85c11d0e607dd4c1b498a23b3b"), looks := true }, kinds := [], alts := [], laidByText := true, laidKinds := [.data, .data, .data, .handle], laidTests := true, laidLooks := .later }
def ProgramFoldsUptoCardSaid : Prop := Claim7.holds Tryz.pinned (.plain (OpenSpec.upto programFoldsSpec)) programFoldsUptoCard

/-- THE SECOND FORM's CARD OF 'sheetmetallaw08.ProgramTexts'. -/
def programTextsUptoCard : Claim7 := { stood := { row := programTextsUptoRow, standIns := [], harness := (true, "197df94023b3ee2ebca0cd2fe4d46dd6ddeb1d85c11d0e607dd4c1b498a23b3b"), looks := true }, kinds := [], alts := [], laidByText := true, laidKinds := [.data, .data, .data, .data, .handle, .sentinel, .sentinel, .pinned], laidTests := true, laidLooks := .later }
def ProgramTextsUptoCardSaid : Prop := Claim7.holds Tryz.pinned (.plain (OpenSpec.upto programTextsSpec)) programTextsUptoCard

/-- THE SECOND FORM's CARD OF 'sheetmetallaw08.ProgramSeparates'. -/
def programSeparatesUptoCard : Claim7 := { stood := { row := programSeparatesUptoRow, standIns := [], harness := (true, "197df94023b3ee2ebca0cd2fe4d46dd6ddeb1d85c11d0e607dd4c1b498a23b3b"), looks := true }, kinds := [], alts := [], laidByText := true, laidKinds := [.data, .data, .data, .handle], laidTests := true, laidLooks := .later }
def ProgramSeparatesUptoCardSaid : Prop := Claim7.holds Tryz.pinned (.plain (OpenSpec.upto programSeparatesSpec)) programSeparatesUptoCard

/-- THE SECOND FORM's CARD OF 'sheetmetallaw08.ProgramDivides'. -/
def programDividesUptoCard : Claim7 := { stood := { row := programDividesUptoRow, standIns := [], harness := (true, "197df94023b3ee2ebca0cd2fe4d46dd6ddeb1d85c11d0e607dd4c1b498a23b3b"), looks := true }, kinds := [], alts := [], laidByText := true, laidKinds := [.data, .data, .data, .handle], laidTests := true, laidLooks := .later }
def ProgramDividesUptoCardSaid : Prop := Claim7.holds Tryz.pinned (.plain (OpenSpec.upto programDividesSpec)) programDividesUptoCard
end Rows
end Go.Proofs.YteffpgliiilnjaaGreatDoor
