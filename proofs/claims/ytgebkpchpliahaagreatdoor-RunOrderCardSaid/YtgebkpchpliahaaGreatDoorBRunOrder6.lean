/- Part 7 of the proof: an abstract machine that runs the program's code over plain values, its soundness, and what the functions tell of plain values. Conditions: those in each theorem. -/
import Derived.Test.YtgebkpchpliahaaGreatDoorBRunOrder5
set_option linter.unusedSectionVars false
namespace Go.Proofs.YtgebkpchpliahaaGreatDoor.RRunOrder
open Go.ChangeShapes Go.WideShapes Go.ChangeAt Go.RowKit Go.Ab Go.Cf
set_option linter.unusedVariables false
set_option maxRecDepth 100000
theorem jf_hm : Program.mainIs Tryz.pinned.checked.prog = some (true, ("03e846287e32e368a15fd01bd9b24ee967bf80212e6ecd887e4c280104ba7b74" : String).toList) := by kernel_rfl
end Go.Proofs.YtgebkpchpliahaaGreatDoor.RRunOrder
