/- Texts of this proof, one behind another: The facts about the program's text that the row of ProgramSeparates lists, by the kernel. . Conditions: none. -/
import Derived.Test.YteffpgliiilnjaaGreatDoorRows
import Derived.JoinedOf
namespace Go.Proofs.YteffpgliiilnjaaGreatDoor
theorem closed_sepr : joinedFacts Tryz.pinned.checked.prog 7 Tryz.f7 Rows.programSeparatesSpec Rows.programSeparatesRow = true := by kernel_rfl
end Go.Proofs.YteffpgliiilnjaaGreatDoor
