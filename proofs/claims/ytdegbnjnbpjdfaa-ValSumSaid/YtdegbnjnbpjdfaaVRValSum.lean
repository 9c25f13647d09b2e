/- THE LAW roadbook/roadbooklaw01.ValSum AS IT IS GIVEN: for every input the call returns true, and each argument reads behind the call as it read before; out of its pure statement and the walk. Conditions: none beyond the given row's. -/
import Derived.Test.YtdegbnjnbpjdfaaRows
import Derived.Test.YtdegbnjnbpjdfaaVSValSum
import Derived.Test.YtdegbnjnbpjdfaaVPValSum
import Derived.WalkKit
import Derived.ProofKit
import Derived.OpenShut
import Derived.ShutString
import Derived.ChangeOld
import Derived.Below
import Derived.SizedLaws
namespace Go.Proofs.Ytdegbnjnbpjdfaa.VValSum
open Go.ChangeShapes Go.WideShapes Go.ChangeAt Go.RowKit Go.Proofs.Ytdegbnjnbpjdfaa.V Go.Proofs.Ytdegbnjnbpjdfaa.Open Go.Proofs.YtdegbnjnbpjdfaaW.PrintWords
open Go.ChangeMaps (open_string shut_string)
set_option linter.unusedVariables false
theorem own : ownKnob Try.prog.godebug = none := by kernel_rfl
theorem laidOut : laidOutB Try.prog = true := by kernel_rfl
set_option maxRecDepth 100000 in
set_option maxHeartbeats 1000000 in
theorem lifted (os : Os) (started : os.Started) (H : Type) (enc : TypeId × Value → H) :
    ReturnsInHanded {} Try.checked os 4 .any (Rows.valSumSpec.pre6 enc Try.prog Try.f4 Rows.valSumRow.domain false) (Rows.valSumSpec.post enc Try.prog Try.f4 false true false false) := by
  refine returnsInHanded_of_change_sized (C := Try.checked) own started (by kernel_rfl) Try.func4
    (ChangeSpec.witness6 (enc := enc) (C := Try.checked) false ⟨#[], #[.slice none 0 0], []⟩ 8 (by kernel_rfl) (by kernel_rfl) (by kernel_rfl) (by kernel_rfl)) ?_
  intro W base args ds gs before hval0 hW hcnd hsz0 _
  have hval : ∀ (j : Nat) t v, Try.f4.params[j]? = some t → args[j]? = some v → Value.okWide Try.prog W .any base t v := hval0
  have hW' := hW
  obtain ⟨p, q, hA0, hV, rfl, hfz, hnd⟩ := hW
  have hA : DataW.TrodAll enc Try.prog W 0 (fun _ => true) true Try.f4.params.toList args.toList ds p := hA0
  rw [Try.params4] at hA hval
  obtain ⟨v0, vs0, d0, ds0, p0, q0, hargs, rfl, rfl, h0, r0⟩ := trodAll_cons hA
  obtain ⟨rfl, rfl, rfl⟩ := trodAll_nil r0
  obtain rfl : args = #[v0] := by cases args; simp_all
  obtain ⟨rfl, rfl⟩ := trodVars_none hV
  have k0 := h0
  have lt0 : ∀ x ∈ p0, x.block < W.heap.size := by obtain ⟨m, hm⟩ := k0; exact DataW.trod_lt m _ _ _ hm
  obtain ⟨A0, len0, c0, rfl⟩ := okWide_slice Try.underlying29 (hval 0 29 v0 rfl rfl)
  obtain ⟨x0, ⟨A0', c0', e0, hc0, hr0⟩, w0⟩ := opens_trod (fun n => ((opens_slice Try.underlying29 (by kernel_rfl) (fun _ _ => (opens_int Try.underlying3))) : Opens Try.prog 29 (Kd.slice 3 (Kd.int .i64)) (fun ys : List Int => ys.length ≤ maxLen ∧ ∀ y ∈ ys, (fun n : Int => (Lit.int .i64 n).wf = true) y) n)) h0
  simp only [Value.cells, List.cons.injEq, and_true, Value.slice.injEq] at e0
  obtain ⟨rfl, rfl, rfl⟩ := e0
  obtain ⟨k, h⟩ := ValSum_pure x0 w0
  refine (roadbooklaw01_ValSum.calls k _ _ x0 true W hr0 hc0 h).mono fun e W' ⟨he, bel⟩ => ?_
  subst he
  exact ⟨_, rfl, _, _, _, [], _, [], hW', trodAll_mk1 (shut_bool Try.underlying4 _), (trodAll_cons_mk (Below.trod laidOut (by kernel_rfl) (of_decide_eq_true (by kernel_rfl)) k0 bel lt0) trodAll_mk0), rfl, bel.frame _, fun h => by cases h⟩
theorem over : Rows.valSumRow.holds Try.pinned (OpenSpec.ofChange Rows.valSumSpec) :=
  OpenClaim.holds_of_wide 4 Try.f4 rfl rfl rfl rfl rfl rfl rfl ⟨rfl, rfl, rfl, rfl, rfl⟩ rfl rfl rfl rfl rfl (by kernel_rfl) Try.func4 (by kernel_rfl)
    (of_decide_eq_true (by kernel_rfl)) (by unfold Func.isWrapper; first | (rw [if_pos (by decide +kernel)]; kernel_rfl) | (rw [if_neg (by decide +kernel)]; exact ⟨rfl, rfl⟩))
    (fun os started H enc _ => lifted os started H enc)
theorem proved : Rows.ValSumSaid := over
end Go.Proofs.Ytdegbnjnbpjdfaa.VValSum
namespace Go.Proofs.Ytdegbnjnbpjdfaa
theorem valSum_holds : Rows.ValSumSaid := VValSum.proved
#print axioms valSum_holds
end Go.Proofs.Ytdegbnjnbpjdfaa
