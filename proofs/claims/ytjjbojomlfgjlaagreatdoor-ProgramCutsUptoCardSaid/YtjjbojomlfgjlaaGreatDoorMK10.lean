/- Texts of this proof, one behind another: The facts about the program's text that the second row of ProgramCuts lists, by the kernel. Conditions: none. -/
import Derived.Test.YtjjbojomlfgjlaaGreatDoorRows
import Derived.JoinedOf
namespace Go.Proofs.YtjjbojomlfgjlaaGreatDoor
theorem bT8:joinedFacts Tryz.pinned.checked.prog 3 Tryz.f3 (Rows.OpenSpec.upto Rows.programCutsSpec).bare Rows.programCutsUptoRow=true:=by kernel_rfl
end Go.Proofs.YtjjbojomlfgjlaaGreatDoor
