/- Texts of this proof, one behind another: The facts about the program's text that the row of ProgramTexts lists, by the kernel. Cond. Conditions: none. -/
import Derived.Test.YteffpgliiilnjaaGreatDoorRows
import Derived.JoinedOf
namespace Go.Proofs.YteffpgliiilnjaaGreatDoor
theorem aYp : joinedFacts Tryz.pinned.checked.prog 6 Tryz.f6 Rows.programTextsSpec Rows.programTextsRow = true := by kernel_rfl
end Go.Proofs.YteffpgliiilnjaaGreatDoor
