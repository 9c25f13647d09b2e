/- Go functions of this claim as Lean functions, and that each call comes to what its Lean function says; written for this claim by a program of this session (mkprint.py, over the kit's printer). Conditions: those in each theorem. -/
import Derived.Test.YtdegbnjnbpjdfaaF4
import Derived.Test.YtdegbnjnbpjdfaaFB4
import Derived.Test.YtdegbnjnbpjdfaaOpen
import Derived.WalkKit
import Derived.ProofKit
import Derived.OpenShut
import Derived.ShutString
import Derived.ChangeOld
import Derived.Below
import Derived.SizedLaws
namespace Go.Proofs.Ytdegbnjnbpjdfaa.F
open Go.RowKit Go.Proofs.YtdegbnjnbpjdfaaW.PrintWords Go.Proofs.YtdegbnjnbpjdfaaW.PrintLast Go.Proofs.YtdegbnjnbpjdfaaW.PrintMore Go.Proofs.Ytdegbnjnbpjdfaa.Open
set_option linter.unusedVariables false
def wf_S25 (x : S25) : Prop := (fun n : Int => (Lit.int .i64 n).wf = true) x.f0 ∧ (fun n : Int => (Lit.int .i64 n).wf = true) x.f1
theorem opens_S25 (fuel : Nat) : Opens Try.prog 25 k25 wf_S25 fuel :=
  ⟨(opens_struct (fuel := fuel) (tot := 2) (d := (Kd.pair (Kd.int .i64) (Kd.int .i64))) (wf := (fun p => (fun n : Int => (Lit.int .i64 n).wf = true) p.1 ∧ (fun n : Int => (Lit.int .i64 n).wf = true) p.2)) (fun x : S25 => (x.f0, x.f1)) (fun p => (⟨p.1, p.2⟩ : S25)) (fun _ => rfl) Try.underlying25 (by kernel_rfl) (fun n hn => (opensAt_cons (s := 1) (tot' := 1) rfl (by kernel_rfl) rfl (opens_int Try.underlying3) (opensAt_one rfl (by kernel_rfl) (opens_int Try.underlying3))))).out⟩
/-- THE ONE PURE STATEMENT of roadbook/roadbooklaw01.ValFew. -/
def ValFew_Pure : Prop := ∀ (x0 : S25) (x1 : S25), wf_S25 x0 → wf_S25 x1 → ∃ k, roadbooklaw01_ValFew.f k x0.f0 x0.f1 x1.f0 x1.f1 = some true ∨ roadbooklaw01_ValFewB.f k x0.f0 x0.f1 x1.f0 x1.f1 = some true
end Go.Proofs.Ytdegbnjnbpjdfaa.F
