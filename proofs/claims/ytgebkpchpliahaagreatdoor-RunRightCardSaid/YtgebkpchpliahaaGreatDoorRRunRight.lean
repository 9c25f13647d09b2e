/- THE LAW roadbook/roadbooklaw12.RunRight AS IT IS GIVEN: for every input the call returns true, and each argument reads behind the call as it read before; out of what it tells of plain values, and the abstract machine's soundness. Conditions: none beyond the given row's. -/
import Derived.Test.YtgebkpchpliahaaGreatDoorA24
namespace Go.Proofs.YtgebkpchpliahaaGreatDoor.RRunRight
open Go.ChangeShapes Go.WideShapes Go.ChangeAt Go.RowKit Go.Ab Go.Cf
set_option linter.unusedVariables false
set_option maxRecDepth 100000
theorem joined : joinedFacts Tryz.pinned.checked.prog 12 Tryz.f12 Rows.runRightSpec Rows.runRightRow = true := by
  unfold joinedFacts
  rw [z8w, z8q, z8r, z8s, z8t, z8z, z8u, z8v, jf_mk]
  kernel_rfl
theorem over : Rows.runRightRow.holds Tryz.pinned (OpenSpec.ofChange Rows.runRightSpec) :=
  OpenClaim.holds_of_wide 12 Tryz.f12 rfl rfl rfl rfl rfl rfl rfl ⟨rfl, rfl, rfl, rfl, rfl⟩ rfl rfl rfl rfl rfl z81 Tryz.func12 joined
    (of_decide_eq_true (by kernel_rfl)) (by unfold Func.isWrapper; first | (rw [if_pos (by decide +kernel)]; kernel_rfl) | (rw [if_neg (by decide +kernel)]; exact ⟨rfl, rfl⟩))
    (fun os started H enc _ => lifted os started H enc)
theorem proved : Rows.RunRightCardSaid :=
  Claim7.holds_tied_plain_at .later [] [.data, .data, .data] true (true, "03e846287e32e368a15fd01bd9b24ee967bf80212e6ecd887e4c280104ba7b74") true over (fun _ h => by cases h) (by kernel_rfl) (fun _ h => by cases h) runRight_row_tie rfl ⟨rfl, rfl⟩ z8y rfl
    (fun f fn hf hfn => by
      obtain rfl : f = 12 := Option.some.inj (z81.symm.trans hf) |>.symm
      obtain rfl : fn = Tryz.f12 := (Option.some.inj (Tryz.func12.symm.trans hfn)).symm
      refine ⟨z9A, fun j t ht => ?_⟩
      have hall : (Tryz.f12.params.toList.all fun t => !Tryz.prog.wantsStandIn t) = true := by kernel_rfl
      have hm : t ∈ Tryz.f12.params.toList := Array.mem_toList_iff.2 (Array.mem_of_getElem? ht)
      have := List.all_eq_true.1 hall t hm
      exact (show Tryz.prog.wantsStandIn t = false by simpa using this))
    z8x
end Go.Proofs.YtgebkpchpliahaaGreatDoor.RRunRight
namespace Go.Proofs.YtgebkpchpliahaaGreatDoor
theorem runRight_holds : Rows.RunRightCardSaid := RRunRight.proved
#print axioms runRight_holds
end Go.Proofs.YtgebkpchpliahaaGreatDoor
