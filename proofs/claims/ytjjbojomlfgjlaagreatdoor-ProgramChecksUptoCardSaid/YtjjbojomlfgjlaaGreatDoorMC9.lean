/- Texts of this proof, one behind another: The facts about the program's text that the second row of ProgramChecks lists, by the kern. Conditions: none. -/
import Derived.Test.YtjjbojomlfgjlaaGreatDoorRows
import Derived.JoinedOf
namespace Go.Proofs.YtjjbojomlfgjlaaGreatDoor
theorem bJL:joinedFacts Tryz.pinned.checked.prog 4 Tryz.f4 (Rows.OpenSpec.upto Rows.programChecksSpec).bare Rows.programChecksUptoRow=true:=by kernel_rfl
end Go.Proofs.YtjjbojomlfgjlaaGreatDoor
