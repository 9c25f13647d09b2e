/- Part 4 of the proof: an abstract machine that runs the program's code over plain values, its soundness, and what the functions tell of plain values. Conditions: those in each theorem. -/
import Derived.Test.YtgebkpchpliahaaGreatDoorBRunOrder2
set_option linter.unusedSectionVars false
namespace Go.Proofs.YtgebkpchpliahaaGreatDoor.RRunOrder
open Go.ChangeShapes Go.WideShapes Go.ChangeAt Go.RowKit Go.Ab Go.Cf
set_option linter.unusedVariables false
set_option maxRecDepth 100000
theorem jf_me : Program.mayEnter Tryz.pinned.checked.prog = true := by kernel_rfl
theorem jf_mk : (Program.make Tryz.pinned.checked.prog == some Rows.runOrderRow.make) = true := by kernel_rfl
end Go.Proofs.YtgebkpchpliahaaGreatDoor.RRunOrder
