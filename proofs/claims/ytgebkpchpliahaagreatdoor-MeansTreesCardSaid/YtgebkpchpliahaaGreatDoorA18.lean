/- Part 19 of the proof: an abstract machine that runs the program's code over plain values, its soundness, and what the functions tell of plain values. Conditions: those in each theorem. -/
import Derived.Test.YtgebkpchpliahaaGreatDoorA17
set_option linter.unusedSectionVars false
namespace Go.Proofs.YtgebkpchpliahaaGreatDoor.RMeansTrees
open Go.ChangeShapes Go.WideShapes Go.ChangeAt Go.RowKit Go.Ab Go.Cf
set_option linter.unusedVariables false
set_option maxRecDepth 100000
theorem z3a : (Rows.meansTreesRow.inPlace == Program.inPlace Tryz.pinned.checked.prog 10) = true := by kernel_rfl
theorem z3b : (Rows.meansTreesRow.unfollowed == Program.unfollowed Tryz.pinned.checked.prog 10) = true := by kernel_rfl
end Go.Proofs.YtgebkpchpliahaaGreatDoor.RMeansTrees
