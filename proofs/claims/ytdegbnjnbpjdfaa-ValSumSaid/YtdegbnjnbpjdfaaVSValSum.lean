/- Go functions of this claim as Lean functions, and that each call comes to what its Lean function says; written for this claim by a program of this session (mkprint.py, over the kit's printer). Conditions: those in each theorem. -/
import Derived.Test.YtdegbnjnbpjdfaaV4
import Derived.Test.YtdegbnjnbpjdfaaOpen
import Derived.WalkKit
import Derived.ProofKit
import Derived.OpenShut
import Derived.ShutString
import Derived.ChangeOld
import Derived.Below
import Derived.SizedLaws
namespace Go.Proofs.Ytdegbnjnbpjdfaa.V
open Go.RowKit Go.Proofs.YtdegbnjnbpjdfaaW.PrintWords Go.Proofs.YtdegbnjnbpjdfaaW.PrintLast Go.Proofs.YtdegbnjnbpjdfaaW.PrintMore Go.Proofs.Ytdegbnjnbpjdfaa.Open
set_option linter.unusedVariables false
/-- THE ONE PURE STATEMENT of roadbook/roadbooklaw01.ValSum. -/
def ValSum_Pure : Prop := ∀ (x0 : List Int), (fun ys : List Int => ys.length ≤ maxLen ∧ ∀ y ∈ ys, (fun n : Int => (Lit.int .i64 n).wf = true) y) x0 → ∃ k, roadbooklaw01_ValSum.f k x0 = some true
end Go.Proofs.Ytdegbnjnbpjdfaa.V
