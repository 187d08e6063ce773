/- Texts of this proof, one behind another: The facts about the program's text that the row of ProgramDivides lists, by the kernel. Co. Conditions: none. -/
import Derived.Test.YteffpgliiilnjaaGreatDoorRows
import Derived.JoinedOf
namespace Go.Proofs.YteffpgliiilnjaaGreatDoor
theorem closed_divs : joinedFacts Tryz.pinned.checked.prog 8 Tryz.f8 Rows.programDividesSpec Rows.programDividesRow = true := by kernel_rfl
end Go.Proofs.YteffpgliiilnjaaGreatDoor
