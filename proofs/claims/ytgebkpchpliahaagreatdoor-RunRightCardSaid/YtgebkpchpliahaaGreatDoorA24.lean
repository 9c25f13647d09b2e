/- Part 25 of the proof: an abstract machine that runs the program's code over plain values, its soundness, and what the functions tell of plain values. Conditions: those in each theorem. -/
import Derived.Test.YtgebkpchpliahaaGreatDoorA23
set_option linter.unusedSectionVars false
namespace Go.Proofs.YtgebkpchpliahaaGreatDoor.RRunRight
open Go.ChangeShapes Go.WideShapes Go.ChangeAt Go.RowKit Go.Ab Go.Cf
set_option linter.unusedVariables false
set_option maxRecDepth 100000
theorem z81 : Program.funcNamed Tryz.pinned.checked.prog Rows.runRightRow.func = some 12 := by kernel_rfl
theorem z8z : Program.stopsHeard Tryz.pinned.checked.prog = true := by kernel_rfl
theorem z9A : true = Program.looks Tryz.pinned.checked.prog [] := by kernel_rfl
end Go.Proofs.YtgebkpchpliahaaGreatDoor.RRunRight
