/- Texts of this proof, one behind another: The facts about the program's text that the second row of ProgramMakes lists, by the kerne. Conditions: none. -/
import Derived.Test.YtgcpildegdgekaaGreatDoorRows
import Derived.JoinedOf
namespace Go.Proofs.YtgcpildegdgekaaGreatDoor
theorem aZM:joinedFacts Tryz.pinned.checked.prog 3 Tryz.f3 (Rows.OpenSpec.upto Rows.programMakesSpec).bare Rows.programMakesUptoRow=true:=by kernel_rfl
end Go.Proofs.YtgcpildegdgekaaGreatDoor
