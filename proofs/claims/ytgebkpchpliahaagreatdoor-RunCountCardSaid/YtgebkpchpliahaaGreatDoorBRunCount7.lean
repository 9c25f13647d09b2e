/- Part 8 of the proof: an abstract machine that runs the program's code over plain values, its soundness, and what the functions tell of plain values. Conditions: those in each theorem. -/
import Derived.Test.YtgebkpchpliahaaGreatDoorBRunCount6
set_option linter.unusedSectionVars false
namespace Go.Proofs.YtgebkpchpliahaaGreatDoor.RRunCount
open Go.ChangeShapes Go.WideShapes Go.ChangeAt Go.RowKit Go.Ab Go.Cf
set_option linter.unusedVariables false
set_option maxRecDepth 100000
theorem jf_fn : Program.funcNamed Tryz.pinned.checked.prog Rows.runCountRow.func = some 3 := by kernel_rfl
theorem jf_sh : Program.stopsHeard Tryz.pinned.checked.prog = true := by kernel_rfl
theorem jf_lk : true = Program.looks Tryz.pinned.checked.prog [] := by kernel_rfl
end Go.Proofs.YtgebkpchpliahaaGreatDoor.RRunCount
