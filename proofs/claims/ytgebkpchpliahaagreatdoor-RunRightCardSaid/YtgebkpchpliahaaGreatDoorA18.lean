/- Part 19 of the proof: an abstract machine that runs the program's code over plain values, its soundness, and what the functions tell of plain values. Conditions: those in each theorem. -/
import Derived.Test.YtgebkpchpliahaaGreatDoorA17
set_option linter.unusedSectionVars false
namespace Go.Proofs.YtgebkpchpliahaaGreatDoor.RRunRight
open Go.ChangeShapes Go.WideShapes Go.ChangeAt Go.RowKit Go.Ab Go.Cf
set_option linter.unusedVariables false
set_option maxRecDepth 100000
theorem z8q : (Rows.runRightRow.inPlace == Program.inPlace Tryz.pinned.checked.prog 12) = true := by kernel_rfl
theorem z8r : (Rows.runRightRow.unfollowed == Program.unfollowed Tryz.pinned.checked.prog 12) = true := by kernel_rfl
end Go.Proofs.YtgebkpchpliahaaGreatDoor.RRunRight
