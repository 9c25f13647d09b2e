/- THE LAW roadbook/roadbooklaw03.BagPicks AS IT IS GIVEN: for every input the call returns true, and each argument reads behind the call as it read before; out of what it tells of plain values, and the abstract machine's soundness. Conditions: none beyond the given row's. -/
import Derived.Test.YtgebkpchpliahaaGreatA13
import Derived.Test.YtgebkpchpliahaaGreatRows
import Derived.WalkKit
import Derived.ProofKit
import Derived.OpenShut
import Derived.ShutString
import Derived.ChangeOld
import Derived.Below
import Derived.SizedLaws
import Derived.Carry
namespace Go.Proofs.YtgebkpchpliahaaGreat.RBagPicks
open Go.ChangeShapes Go.WideShapes Go.ChangeAt Go.RowKit Go.Ab Go.Cf
set_option linter.unusedVariables false
set_option maxRecDepth 100000
theorem own : ownKnob Tryz.prog.godebug = none := by kernel_rfl
theorem laidOut : laidOutB Tryz.prog = true := by kernel_rfl
theorem data : dataB cfg [40, 29, 28, 38, 52, 3, 64, 50] = true := by kernel_rfl
theorem callok : CallOK Tryz.prog W := by rw [W_eq]; exact evw_sound (tysB_ok tys) (fun f fi h => allF_look fns f fi h) exts
set_option maxRecDepth 100000 in
set_option maxHeartbeats 1000000 in
theorem lifted (os : Os) (started : os.Started) (H : Type) (enc : TypeId × Value → H) :
    ReturnsInHanded {} Tryz.checked os 4 .any (Rows.bagPicksSpec.pre6 enc Tryz.prog Tryz.f4 Rows.bagPicksRow.domain false) (Rows.bagPicksSpec.post enc Tryz.prog Tryz.f4 false true false false) := by
  refine returnsInHanded_of_change_sized (C := Tryz.checked) own started (by kernel_rfl) Tryz.func4
    (ChangeSpec.witness6 (enc := enc) (C := Tryz.checked) false ⟨#[], #[.agg #[.slice none 0 0, .slice none 0 0], .slice none 0 0, .slice none 0 0, .slice none 0 0], []⟩ 8 (by kernel_rfl) (by kernel_rfl) (by kernel_rfl) (by kernel_rfl)) ?_
  intro W0 base args ds gs before hval0 hW hcnd hsz0 _
  have hval : ∀ (j : Nat) t v, Tryz.f4.params[j]? = some t → args[j]? = some v → Value.okWide Tryz.prog W0 .any base t v := hval0
  have hW' := hW
  obtain ⟨p, q, hA0, hV, rfl, hfz, hnd⟩ := hW
  have hA : DataW.TrodAll enc Tryz.prog W0 0 (fun _ => true) true Tryz.f4.params.toList args.toList ds p := hA0
  rw [Tryz.params4] at hA hval
  obtain ⟨v0, vs0, d0, ds0, p0, q0, hargs, rfl, rfl, h0, r0⟩ := trodAll_cons hA
  obtain ⟨v1, vs1, d1, ds1, p1, q1, rfl, rfl, rfl, h1, r1⟩ := trodAll_cons r0
  obtain ⟨v2, vs2, d2, ds2, p2, q2, rfl, rfl, rfl, h2, r2⟩ := trodAll_cons r1
  obtain ⟨v3, vs3, d3, ds3, p3, q3, rfl, rfl, rfl, h3, r3⟩ := trodAll_cons r2
  obtain ⟨rfl, rfl, rfl⟩ := trodAll_nil r3
  obtain rfl : args = #[v0, v1, v2, v3] := by cases args; simp_all
  obtain ⟨rfl, rfl⟩ := trodVars_none hV
  have k0 := h0
  have lt0 : ∀ x ∈ p0, x.block < W0.heap.size := by obtain ⟨m, hm⟩ := k0; exact DataW.trod_lt m _ _ _ hm
  obtain ⟨z0, t0, y0⟩ := open_vp (tysB_ok tys) data (by simp) (hval 0 40 v0 rfl rfl) h0
  obtain ⟨x0, rfl, w0⟩ := ty_api_Bag t0
  have k1 := h1
  have lt1 : ∀ x ∈ p1, x.block < W0.heap.size := by obtain ⟨m, hm⟩ := k1; exact DataW.trod_lt m _ _ _ hm
  obtain ⟨z1, t1, y1⟩ := open_vp (tysB_ok tys) data (by simp) (hval 1 29 v1 rfl rfl) h1
  obtain ⟨x1, rfl, w1⟩ := ty_s_api_Expr t1
  have k2 := h2
  have lt2 : ∀ x ∈ p2, x.block < W0.heap.size := by obtain ⟨m, hm⟩ := k2; exact DataW.trod_lt m _ _ _ hm
  obtain ⟨z2, t2, y2⟩ := open_vp (tysB_ok tys) data (by simp) (hval 2 28 v2 rfl rfl) h2
  obtain ⟨x2, rfl, w2⟩ := ty_s_int t2
  have k3 := h3
  have lt3 : ∀ x ∈ p3, x.block < W0.heap.size := by obtain ⟨m, hm⟩ := k3; exact DataW.trod_lt m _ _ _ hm
  obtain ⟨z3, t3, y3⟩ := open_vp (tysB_ok tys) data (by simp) (hval 3 28 v3 rfl rfl) h3
  obtain ⟨x3, rfl, w3⟩ := ty_s_int t3
  refine (law_calls callok ⟨Tryz.f4, Tryz.func4, by kernel_rfl, by kernel_rfl⟩ (law_BagPicks x0 x1 x2 x3 w0 w1 w2 w3) (fun _ _ h => (show False from h).elim) (VPs.cons y0 (VPs.cons y1 (VPs.cons y2 (VPs.cons y3 (VPs.nil _)))))).mono fun e W' ⟨he, bel⟩ => ?_
  subst he
  exact ⟨_, rfl, _, _, _, [], _, [], hW', trodAll_mk1 (shut_bool Tryz.underlying4 _), (trodAll_cons_mk (Below.trod laidOut (by kernel_rfl) (of_decide_eq_true (by kernel_rfl)) k0 bel lt0) (trodAll_cons_mk (Below.trod laidOut (by kernel_rfl) (of_decide_eq_true (by kernel_rfl)) k1 bel lt1) (trodAll_cons_mk (Below.trod laidOut (by kernel_rfl) (of_decide_eq_true (by kernel_rfl)) k2 bel lt2) (trodAll_cons_mk (Below.trod laidOut (by kernel_rfl) (of_decide_eq_true (by kernel_rfl)) k3 bel lt3) trodAll_mk0)))), rfl, bel.frame _, fun h => by cases h⟩
theorem over : Rows.bagPicksRow.holds Tryz.pinned (OpenSpec.ofChange Rows.bagPicksSpec) :=
  OpenClaim.holds_of_wide 4 Tryz.f4 rfl rfl rfl rfl rfl rfl rfl ⟨rfl, rfl, rfl, rfl, rfl⟩ rfl rfl rfl rfl rfl (by kernel_rfl) Tryz.func4 (by kernel_rfl)
    (of_decide_eq_true (by kernel_rfl)) (by unfold Func.isWrapper; first | (rw [if_pos (by decide +kernel)]; kernel_rfl) | (rw [if_neg (by decide +kernel)]; exact ⟨rfl, rfl⟩))
    (fun os started H enc _ => lifted os started H enc)
theorem proved : Rows.BagPicksSaid := over
end Go.Proofs.YtgebkpchpliahaaGreat.RBagPicks
namespace Go.Proofs.YtgebkpchpliahaaGreat
theorem bagPicks_holds : Rows.BagPicksSaid := RBagPicks.proved
#print axioms bagPicks_holds
end Go.Proofs.YtgebkpchpliahaaGreat
