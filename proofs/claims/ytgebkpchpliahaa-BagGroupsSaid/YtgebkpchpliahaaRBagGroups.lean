/- THE LAW roadbook/roadbooklaw03.BagGroups AS IT IS GIVEN: for every input the call returns true, and each argument reads behind the call as it read before; out of what it tells of plain values, and the abstract machine's soundness. Conditions: none beyond the given row's. -/
import Derived.Test.YtgebkpchpliahaaA13
import Derived.Test.YtgebkpchpliahaaRows
import Derived.WalkKit
import Derived.ProofKit
import Derived.OpenShut
import Derived.ShutString
import Derived.ChangeOld
import Derived.Below
import Derived.SizedLaws
import Derived.Carry
namespace Go.Proofs.Ytgebkpchpliahaa.RBagGroups
open Go.ChangeShapes Go.WideShapes Go.ChangeAt Go.RowKit Go.Ab Go.Cf
set_option linter.unusedVariables false
set_option maxRecDepth 100000
theorem own : ownKnob Try.prog.godebug = none := by kernel_rfl
theorem laidOut : laidOutB Try.prog = true := by kernel_rfl
theorem data : dataB cfg [43, 3, 41, 31, 32, 34] = true := by kernel_rfl
theorem callok : CallOK Try.prog W := by rw [W_eq]; exact evw_sound (tysB_ok tys) (fun f fi h => allF_look fns f fi h) exts
set_option maxRecDepth 100000 in
set_option maxHeartbeats 1000000 in
theorem lifted (os : Os) (started : os.Started) (H : Type) (enc : TypeId × Value → H) :
    ReturnsInHanded {} Try.checked os 7 .any (Rows.bagGroupsSpec.pre6 enc Try.prog Try.f7 Rows.bagGroupsRow.domain false) (Rows.bagGroupsSpec.post enc Try.prog Try.f7 false true false false) := by
  refine returnsInHanded_of_change_sized (C := Try.checked) own started (by kernel_rfl) Try.func7
    (ChangeSpec.witness6 (enc := enc) (C := Try.checked) false ⟨#[], #[.agg #[.slice none 0 0, .slice none 0 0], .int .i64 0, .slice none 0 0], []⟩ 8 (by kernel_rfl) (by kernel_rfl) (by kernel_rfl) (by kernel_rfl)) ?_
  intro W0 base args ds gs before hval0 hW hcnd hsz0 _
  have hval : ∀ (j : Nat) t v, Try.f7.params[j]? = some t → args[j]? = some v → Value.okWide Try.prog W0 .any base t v := hval0
  have hW' := hW
  obtain ⟨p, q, hA0, hV, rfl, hfz, hnd⟩ := hW
  have hA : DataW.TrodAll enc Try.prog W0 0 (fun _ => true) true Try.f7.params.toList args.toList ds p := hA0
  rw [Try.params7] at hA hval
  obtain ⟨v0, vs0, d0, ds0, p0, q0, hargs, rfl, rfl, h0, r0⟩ := trodAll_cons hA
  obtain ⟨v1, vs1, d1, ds1, p1, q1, rfl, rfl, rfl, h1, r1⟩ := trodAll_cons r0
  obtain ⟨v2, vs2, d2, ds2, p2, q2, rfl, rfl, rfl, h2, r2⟩ := trodAll_cons r1
  obtain ⟨rfl, rfl, rfl⟩ := trodAll_nil r2
  obtain rfl : args = #[v0, v1, v2] := by cases args; simp_all
  obtain ⟨rfl, rfl⟩ := trodVars_none hV
  have k0 := h0
  have lt0 : ∀ x ∈ p0, x.block < W0.heap.size := by obtain ⟨m, hm⟩ := k0; exact DataW.trod_lt m _ _ _ hm
  obtain ⟨z0, t0, y0⟩ := open_vp (tysB_ok tys) data (by simp) (hval 0 43 v0 rfl rfl) h0
  obtain ⟨x0, rfl, w0⟩ := ty_api_Bag t0
  have k1 := h1
  have lt1 : ∀ x ∈ p1, x.block < W0.heap.size := by obtain ⟨m, hm⟩ := k1; exact DataW.trod_lt m _ _ _ hm
  obtain ⟨z1, t1, y1⟩ := open_vp (tysB_ok tys) data (by simp) (hval 1 3 v1 rfl rfl) h1
  obtain ⟨x1, rfl, w1⟩ := ty_int t1
  have k2 := h2
  have lt2 : ∀ x ∈ p2, x.block < W0.heap.size := by obtain ⟨m, hm⟩ := k2; exact DataW.trod_lt m _ _ _ hm
  obtain ⟨z2, t2, y2⟩ := open_vp (tysB_ok tys) data (by simp) (hval 2 41 v2 rfl rfl) h2
  obtain ⟨x2, rfl, w2⟩ := ty_s_int t2
  refine (law_calls callok ⟨Try.f7, Try.func7, by kernel_rfl, by kernel_rfl⟩ (law_BagGroups x0 x1 x2 w0 w1 w2) (fun _ _ h => (show False from h).elim) (VPs.cons y0 (VPs.cons y1 (VPs.cons y2 (VPs.nil _))))).mono fun e W' ⟨he, bel⟩ => ?_
  subst he
  exact ⟨_, rfl, _, _, _, [], _, [], hW', trodAll_mk1 (shut_bool Try.underlying4 _), (trodAll_cons_mk (Below.trod laidOut (by kernel_rfl) (of_decide_eq_true (by kernel_rfl)) k0 bel lt0) (trodAll_cons_mk (Below.trod laidOut (by kernel_rfl) (of_decide_eq_true (by kernel_rfl)) k1 bel lt1) (trodAll_cons_mk (Below.trod laidOut (by kernel_rfl) (of_decide_eq_true (by kernel_rfl)) k2 bel lt2) trodAll_mk0))), rfl, bel.frame _, fun h => by cases h⟩
theorem over : Rows.bagGroupsRow.holds Try.pinned (OpenSpec.ofChange Rows.bagGroupsSpec) :=
  OpenClaim.holds_of_wide 7 Try.f7 rfl rfl rfl rfl rfl rfl rfl ⟨rfl, rfl, rfl, rfl, rfl⟩ rfl rfl rfl rfl rfl (by kernel_rfl) Try.func7 (by kernel_rfl)
    (of_decide_eq_true (by kernel_rfl)) (by unfold Func.isWrapper; first | (rw [if_pos (by decide +kernel)]; kernel_rfl) | (rw [if_neg (by decide +kernel)]; exact ⟨rfl, rfl⟩))
    (fun os started H enc _ => lifted os started H enc)
theorem proved : Rows.BagGroupsSaid := over
end Go.Proofs.Ytgebkpchpliahaa.RBagGroups
namespace Go.Proofs.Ytgebkpchpliahaa
theorem bagGroups_holds : Rows.BagGroupsSaid := RBagGroups.proved
#print axioms bagGroups_holds
end Go.Proofs.Ytgebkpchpliahaa
