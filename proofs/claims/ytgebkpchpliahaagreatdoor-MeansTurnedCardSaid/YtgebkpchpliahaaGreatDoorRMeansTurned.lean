/- THE LAW roadbook/roadbooklaw07.MeansTurned AS IT IS GIVEN: for every input the call returns true, and each argument reads behind the call as it read before; out of what it tells of plain values, and the abstract machine's soundness. Conditions: none beyond the given row's. -/
import Derived.Test.YtgebkpchpliahaaGreatDoorA22
namespace Go.Proofs.YtgebkpchpliahaaGreatDoor.RMeansTurned
open Go.ChangeShapes Go.WideShapes Go.ChangeAt Go.RowKit Go.Ab Go.Cf
set_option linter.unusedVariables false
set_option maxRecDepth 100000
theorem joined : joinedFacts Tryz.pinned.checked.prog 7 Tryz.f7 Rows.meansTurnedSpec Rows.meansTurnedRow = true := by
  unfold joinedFacts
  rw [zYo, zYi, zYj, zYk, zYl, zYr, zYm, zYn, jf_mk]
  kernel_rfl
theorem over : Rows.meansTurnedRow.holds Tryz.pinned (OpenSpec.ofChange Rows.meansTurnedSpec) :=
  OpenClaim.holds_of_wide 7 Tryz.f7 rfl rfl rfl rfl rfl rfl rfl ⟨rfl, rfl, rfl, rfl, rfl⟩ rfl rfl rfl rfl rfl zYX Tryz.func7 joined
    (of_decide_eq_true (by kernel_rfl)) (by unfold Func.isWrapper; first | (rw [if_pos (by decide +kernel)]; kernel_rfl) | (rw [if_neg (by decide +kernel)]; exact ⟨rfl, rfl⟩))
    (fun os started H enc _ => lifted os started H enc)
theorem proved : Rows.MeansTurnedCardSaid :=
  Claim7.holds_tied_plain_at .later [] [.data, .data, .data] true (true, "03e846287e32e368a15fd01bd9b24ee967bf80212e6ecd887e4c280104ba7b74") true over (fun _ h => by cases h) (by kernel_rfl) (fun _ h => by cases h) meansTurned_row_tie rfl ⟨rfl, rfl⟩ zYq rfl
    (fun f fn hf hfn => by
      obtain rfl : f = 7 := Option.some.inj (zYX.symm.trans hf) |>.symm
      obtain rfl : fn = Tryz.f7 := (Option.some.inj (Tryz.func7.symm.trans hfn)).symm
      refine ⟨zYs, fun j t ht => ?_⟩
      have hall : (Tryz.f7.params.toList.all fun t => !Tryz.prog.wantsStandIn t) = true := by kernel_rfl
      have hm : t ∈ Tryz.f7.params.toList := Array.mem_toList_iff.2 (Array.mem_of_getElem? ht)
      have := List.all_eq_true.1 hall t hm
      exact (show Tryz.prog.wantsStandIn t = false by simpa using this))
    zYp
end Go.Proofs.YtgebkpchpliahaaGreatDoor.RMeansTurned
namespace Go.Proofs.YtgebkpchpliahaaGreatDoor
theorem meansTurned_holds : Rows.MeansTurnedCardSaid := RMeansTurned.proved
#print axioms meansTurned_holds
end Go.Proofs.YtgebkpchpliahaaGreatDoor
