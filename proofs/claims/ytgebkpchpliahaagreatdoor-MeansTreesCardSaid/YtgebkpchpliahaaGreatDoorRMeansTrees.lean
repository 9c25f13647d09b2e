/- THE LAW roadbook/roadbooklaw07.MeansTrees AS IT IS GIVEN: for every input the call returns true, and each argument reads behind the call as it read before; out of what it tells of plain values, and the abstract machine's soundness. Conditions: none beyond the given row's. -/
import Derived.Test.YtgebkpchpliahaaGreatDoorA24
namespace Go.Proofs.YtgebkpchpliahaaGreatDoor.RMeansTrees
open Go.ChangeShapes Go.WideShapes Go.ChangeAt Go.RowKit Go.Ab Go.Cf
set_option linter.unusedVariables false
set_option maxRecDepth 100000
theorem joined : joinedFacts Tryz.pinned.checked.prog 10 Tryz.f10 Rows.meansTreesSpec Rows.meansTreesRow = true := by
  unfold joinedFacts
  rw [z3g, z3a, z3b, z3c, z3d, z3j, z3e, z3f, jf_mk]
  kernel_rfl
theorem over : Rows.meansTreesRow.holds Tryz.pinned (OpenSpec.ofChange Rows.meansTreesSpec) :=
  OpenClaim.holds_of_wide 10 Tryz.f10 rfl rfl rfl rfl rfl rfl rfl ⟨rfl, rfl, rfl, rfl, rfl⟩ rfl rfl rfl rfl rfl z3I Tryz.func10 joined
    (of_decide_eq_true (by kernel_rfl)) (by unfold Func.isWrapper; first | (rw [if_pos (by decide +kernel)]; kernel_rfl) | (rw [if_neg (by decide +kernel)]; exact ⟨rfl, rfl⟩))
    (fun os started H enc _ => lifted os started H enc)
theorem proved : Rows.MeansTreesCardSaid :=
  Claim7.holds_tied_plain_at .later [] [.data, .data, .data] true (true, "03e846287e32e368a15fd01bd9b24ee967bf80212e6ecd887e4c280104ba7b74") true over (fun _ h => by cases h) (by kernel_rfl) (fun _ h => by cases h) meansTrees_row_tie rfl ⟨rfl, rfl⟩ z3i rfl
    (fun f fn hf hfn => by
      obtain rfl : f = 10 := Option.some.inj (z3I.symm.trans hf) |>.symm
      obtain rfl : fn = Tryz.f10 := (Option.some.inj (Tryz.func10.symm.trans hfn)).symm
      refine ⟨z3k, fun j t ht => ?_⟩
      have hall : (Tryz.f10.params.toList.all fun t => !Tryz.prog.wantsStandIn t) = true := by kernel_rfl
      have hm : t ∈ Tryz.f10.params.toList := Array.mem_toList_iff.2 (Array.mem_of_getElem? ht)
      have := List.all_eq_true.1 hall t hm
      exact (show Tryz.prog.wantsStandIn t = false by simpa using this))
    z3h
end Go.Proofs.YtgebkpchpliahaaGreatDoor.RMeansTrees
namespace Go.Proofs.YtgebkpchpliahaaGreatDoor
theorem meansTrees_holds : Rows.MeansTreesCardSaid := RMeansTrees.proved
#print axioms meansTrees_holds
end Go.Proofs.YtgebkpchpliahaaGreatDoor
