/- Go functions of this claim as Lean functions, and that each call comes to what its Lean function says; written for this claim by a program of this session (mkprint.py, over the kit's printer). Conditions: those in each theorem. -/
import Derived.Test.YtdegbnjnbpjdfaaT25
import Derived.Test.YtdegbnjnbpjdfaaOpen
import Derived.WalkKit
import Derived.ProofKit
import Derived.OpenShut
import Derived.ShutString
import Derived.ChangeOld
import Derived.Below
import Derived.SizedLaws
namespace Go.Proofs.Ytdegbnjnbpjdfaa.T
open Go.RowKit Go.Proofs.YtdegbnjnbpjdfaaW.PrintWords Go.Proofs.YtdegbnjnbpjdfaaW.PrintLast Go.Proofs.YtdegbnjnbpjdfaaW.PrintMore Go.Proofs.Ytdegbnjnbpjdfaa.Open
set_option linter.unusedVariables false
inductive wf_S39 : S39 → Prop where
  | mk (x : S39) (h0 : (fun n : Int => (Lit.int .i64 n).wf = true) x.f0) (h1 : x.f1.length ≤ maxLen) (g1 : ∀ y ∈ x.f1, wf_S39 y) : wf_S39 x
theorem opens_S39 (fuel : Nat) : Opens Try.prog 39 k39 wf_S39 fuel := by
  induction fuel using Nat.strongRecOn with
  | _ fuel ih =>
  refine ⟨?_⟩
  intro H enc W base spare held cs x hx
  obtain ⟨y, hK, hw⟩ := (opens_struct (fuel := fuel) (tot := 2) (d := (Kd.pair (Kd.int .i64) (Kd.slice 39 k39))) (wf := (fun p => (fun n : Int => (Lit.int .i64 n).wf = true) p.1 ∧ (fun ys : List S39 => ys.length ≤ maxLen ∧ ∀ y ∈ ys, wf_S39 y) p.2)) (fun x : S39 => (x.f0, x.f1)) (fun p => (⟨p.1, p.2⟩ : S39)) (fun _ => rfl) Try.underlying39 (by kernel_rfl) (fun n hn => (opensAt_cons (s := 1) (tot' := 1) rfl (by kernel_rfl) rfl (opens_int Try.underlying3) (opensAt_one rfl (by kernel_rfl) (opens_slice Try.underlying37 (by kernel_rfl) (fun m hm => ih m (by omega))))))).out hx
  obtain ⟨_, _, rfl, rfl, ⟨A1, c1, rfl, l1, g1⟩⟩ := hK
  obtain ⟨h0, ⟨h1, i1⟩⟩ := hw
  exact ⟨y, k39_mk W y l1 g1, .mk y h0 h1 i1⟩
/-- THE ONE PURE STATEMENT of roadbook/roadbooklaw06.TreeBack. -/
def TreeBack_Pure : Prop := ∀ (x0 : S39) (x1 : ByteArray), wf_S39 x0 → (fun s : ByteArray => s.size ≤ maxLen) x1 → ∃ k, roadbooklaw06_TreeBack.f k x0.f0 x0.f1 x1 = some true
end Go.Proofs.Ytdegbnjnbpjdfaa.T
