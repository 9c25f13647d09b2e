/- THE LAW roadbook/roadbooklaw12.RunCount AS IT IS GIVEN: for every input the call returns true, and each argument reads behind the call as it read before; out of what it tells of plain values, and the abstract machine's soundness. Conditions: none beyond the given row's. -/
import Derived.Test.YtgebkpchpliahaaGreatDoorBRunCount7
namespace Go.Proofs.YtgebkpchpliahaaGreatDoor.RRunCount
open Go.ChangeShapes Go.WideShapes Go.ChangeAt Go.RowKit Go.Ab Go.Cf
set_option linter.unusedVariables false
set_option maxRecDepth 100000
theorem joined : joinedFacts Tryz.pinned.checked.prog 3 Tryz.f3 Rows.runCountSpec Rows.runCountRow = true := by
  unfold joinedFacts
  rw [jf_wf, jf_ip, jf_un, jf_re, jf_na, jf_sh, jf_me, jf_li, jf_mk]
  kernel_rfl
theorem over : Rows.runCountRow.holds Tryz.pinned (OpenSpec.ofChange Rows.runCountSpec) :=
  OpenClaim.holds_of_wide 3 Tryz.f3 rfl rfl rfl rfl rfl rfl rfl ⟨rfl, rfl, rfl, rfl, rfl⟩ rfl rfl rfl rfl rfl jf_fn Tryz.func3 joined
    (of_decide_eq_true (by kernel_rfl)) (by unfold Func.isWrapper; first | (rw [if_pos (by decide +kernel)]; kernel_rfl) | (rw [if_neg (by decide +kernel)]; exact ⟨rfl, rfl⟩))
    (fun os started H enc _ => lifted os started H enc)
theorem proved : Rows.RunCountCardSaid :=
  Claim7.holds_tied_plain_at .later [] [.data, .data, .data] true (true, "03e846287e32e368a15fd01bd9b24ee967bf80212e6ecd887e4c280104ba7b74") true over (fun _ h => by cases h) (by kernel_rfl) (fun _ h => by cases h) runCount_row_tie rfl ⟨rfl, rfl⟩ jf_hm rfl
    (fun f fn hf hfn => by
      obtain rfl : f = 3 := Option.some.inj (jf_fn.symm.trans hf) |>.symm
      obtain rfl : fn = Tryz.f3 := (Option.some.inj (Tryz.func3.symm.trans hfn)).symm
      refine ⟨jf_lk, fun j t ht => ?_⟩
      have hall : (Tryz.f3.params.toList.all fun t => !Tryz.prog.wantsStandIn t) = true := by kernel_rfl
      have hm : t ∈ Tryz.f3.params.toList := Array.mem_toList_iff.2 (Array.mem_of_getElem? ht)
      have := List.all_eq_true.1 hall t hm
      exact (show Tryz.prog.wantsStandIn t = false by simpa using this))
    jf_hg
end Go.Proofs.YtgebkpchpliahaaGreatDoor.RRunCount
namespace Go.Proofs.YtgebkpchpliahaaGreatDoor
theorem runCount_holds : Rows.RunCountCardSaid := RRunCount.proved
#print axioms runCount_holds
end Go.Proofs.YtgebkpchpliahaaGreatDoor
