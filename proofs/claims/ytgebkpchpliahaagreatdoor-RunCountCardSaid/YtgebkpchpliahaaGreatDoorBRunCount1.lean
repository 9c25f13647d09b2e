/- Part 2 of the proof: an abstract machine that runs the program's code over plain values, its soundness, and what the functions tell of plain values. Conditions: those in each theorem. -/
import Derived.Test.YtgebkpchpliahaaGreatDoorBRunCount0
set_option linter.unusedSectionVars false
namespace Go.Proofs.YtgebkpchpliahaaGreatDoor.RRunCount
open Go.ChangeShapes Go.WideShapes Go.ChangeAt Go.RowKit Go.Ab Go.Cf
set_option linter.unusedVariables false
set_option maxRecDepth 100000
theorem jf_ip : (Rows.runCountRow.inPlace == Program.inPlace Tryz.pinned.checked.prog 3) = true := by kernel_rfl
theorem jf_un : (Rows.runCountRow.unfollowed == Program.unfollowed Tryz.pinned.checked.prog 3) = true := by kernel_rfl
end Go.Proofs.YtgebkpchpliahaaGreatDoor.RRunCount
