/- THE LAW roadbook/roadbooklaw03.BagSorts AS IT IS GIVEN: for every input the call returns true, and each argument reads behind the call as it read before; out of what it tells of plain values, and the abstract machine's soundness. Conditions: none beyond the given row's. -/
import Derived.Test.YtgebkpchpliahaaDoorA13
import Derived.Test.YtgebkpchpliahaaDoorRows
import Derived.Test.YtgebkpchpliahaaDoorCards
import Derived.Test.YtgebkpchpliahaaDoorTie
import Derived.LaidHandle
import Derived.LaidLaws
import Derived.Lib.LaidIn
import Derived.Lib.LaidTab
import Derived.Stop.LaidErr
import Derived.SevenTiedAt
import Derived.WalkKit
import Derived.ProofKit
import Derived.OpenShut
import Derived.ShutString
import Derived.ChangeOld
import Derived.Below
import Derived.SizedLaws
import Derived.Carry
namespace Go.Proofs.YtgebkpchpliahaaDoor.RBagSorts
open Go.ChangeShapes Go.WideShapes Go.ChangeAt Go.RowKit Go.Ab Go.Cf
set_option linter.unusedVariables false
set_option maxRecDepth 100000
theorem own : ownKnob Tryd.prog.godebug = none := by kernel_rfl
theorem laidOut : laidOutB Tryd.prog = true := by kernel_rfl
theorem data : dataB cfg [25, 3, 22, 23, 30, 39] = true := by kernel_rfl
theorem gT : Tryd.prog.globalNamed "internal/strconv.uint64pow10" = some 0 := by kernel_rfl
theorem gTType : (Tryd.prog.globals[0]?).map (·.type) = some 129 := by kernel_rfl
theorem callok (t : TypeId) (fr : Nat × Nat) : @CallOK (Gl.one 0 (.cells (Lib.pow10Tab.map fun z => Value.int .u64 z).toArray t fr)) Tryd.prog W := by rw [W_eq]; exact @evw_sound (Gl.one 0 (.cells (Lib.pow10Tab.map fun z => Value.int .u64 z).toArray t fr)) _ _ (tysB_ok tys) (fun f fi h => allF_look fns f fi h) (exts (GL := Gl.one 0 (.cells (Lib.pow10Tab.map fun z => Value.int .u64 z).toArray t fr)) ⟨0, t, fr, gT, rfl, rfl⟩)
def cellsOf : DataW Unit → Array Value
  | .agg l => (l.map fun | .lit (.int k n) => Value.int k n | _ => undef).toArray
  | _ => #[]
noncomputable def laidWorld (os : Os) : World :=
  let w0 := World.holding Tryd.prog os ⟨#[], #[], []⟩
  let put (h : Array Obj) (g : Nat) (cs : Array Value) : Array Obj := h.modify g fun
    | .cells _ t frozen => .cells cs t frozen
    | o => o
  { w0 with heap := put (put (put (w0.heap) 1 (cellsOf Rows.laid_math_bits_deBruijn32tab)) 2 (cellsOf Rows.laid_math_bits_deBruijn64tab)) 0 (cellsOf Rows.laid_internal_strconv_uint64pow10) }
theorem laid_met (os : Os) (args : Array Value) : laidMet Tryd.prog Rows.bagSortsRow.laid ((laidWorld os).forCall (fun _ _ => 0) ⟨#[], args, []⟩).memory :=
  (LaidIn.of_run [1, 2, 0] 8 (by kernel_rfl) (by kernel_rfl) (by kernel_rfl) (by kernel_rfl)).met
theorem tab_of (W0 : World) (hL : laidMetH Tryd.prog Rows.bagSortsRow.laid W0) : ∃ t fr, W0.heap[0]? = some (.cells (Lib.pow10Tab.map fun z => Value.int .u64 z).toArray t fr) := by
  have hL' : laidMet Tryd.prog Rows.bagSortsRow.laid W0 := hL
  have h3 : laidMet Tryd.prog (("internal/strconv.uint64pow10", Lib.tabData .u64 Lib.pow10Tab) :: _) W0 := laidMet.tail (laidMet.tail (hL'))
  have htab : Lib.TabIs Tryd.prog W0 "internal/strconv.uint64pow10" .u64 Lib.pow10Tab := Lib.tabIs_of_head gT gTType Tryd.underlying129 Tryd.underlying91 (by kernel_rfl) (by kernel_rfl) h3
  unfold Lib.TabIs World.var? at htab
  rw [gT] at htab
  simp only [Option.bind_some] at htab
  split at htab
  · rename_i cs t fr hh
    simp only [Option.some.injEq] at htab
    subst htab
    exact ⟨t, fr, hh⟩
  · cases htab
set_option maxRecDepth 100000 in
set_option maxHeartbeats 1000000 in
theorem lifted (os : Os) (started : os.Started) (H : Type) (enc : TypeId × Value → H) :
    ReturnsInHanded {} Tryd.checked os 3 .any (fun w args => (Rows.bagSortsSpec.pre enc Tryd.prog Tryd.f3 [] false w args ∧ laidMetH Tryd.prog Rows.bagSortsRow.laid w) ∧ sizedMet enc Tryd.prog Tryd.f3 (OpenSpec.ofChange Rows.bagSortsSpec) false w args) (Rows.bagSortsSpec.post enc Tryd.prog Tryd.f3 false true false false) := by
  refine returnsInHanded_of_change_and (C := Tryd.checked) (X := fun w _ => laidMetH Tryd.prog Rows.bagSortsRow.laid w) (fun _ _ _ hh h => h.of_heap hh) own started (by kernel_rfl) Tryd.func3
    (ChangeSpec.witness_at (enc := enc) (C := Tryd.checked) (os := os) (X := fun w _ => laidMetH Tryd.prog Rows.bagSortsRow.laid w) false (laidWorld os) #[.agg #[.slice none 0 0, .slice none 0 0], .int .i64 0] 8 rfl (by kernel_rfl) (by kernel_rfl) (by kernel_rfl) (by kernel_rfl) (by kernel_rfl) (laidMetH_of_parts (laid_met os _) (by kernel_rfl))) ?_
  intro W0 base args ds gs before hval0 hW _ _ hL _
  obtain ⟨tP, frP, hgl⟩ := tab_of W0 hL
  have hval : ∀ (j : Nat) t v, Tryd.f3.params[j]? = some t → args[j]? = some v → Value.okWide Tryd.prog W0 .any base t v := hval0
  have hW' := hW
  obtain ⟨p, q, hA0, hV, rfl, hfz, hnd⟩ := hW
  have hA : DataW.TrodAll enc Tryd.prog W0 0 (fun _ => true) true Tryd.f3.params.toList args.toList ds p := hA0
  rw [Tryd.params3] at hA hval
  obtain ⟨v0, vs0, d0, ds0, p0, q0, hargs, rfl, rfl, h0, r0⟩ := trodAll_cons hA
  obtain ⟨v1, vs1, d1, ds1, p1, q1, rfl, rfl, rfl, h1, r1⟩ := trodAll_cons r0
  obtain ⟨rfl, rfl, rfl⟩ := trodAll_nil r1
  obtain rfl : args = #[v0, v1] := by cases args; simp_all
  obtain ⟨rfl, rfl⟩ := trodVars_none hV
  have k0 := h0
  have lt0 : ∀ x ∈ p0, x.block < W0.heap.size := by obtain ⟨m, hm⟩ := k0; exact DataW.trod_lt m _ _ _ hm
  obtain ⟨z0, t0, y0⟩ := open_vp (tysB_ok tys) data (by simp) (hval 0 25 v0 rfl rfl) h0
  obtain ⟨x0, rfl, w0⟩ := ty_api_Bag t0
  have k1 := h1
  have lt1 : ∀ x ∈ p1, x.block < W0.heap.size := by obtain ⟨m, hm⟩ := k1; exact DataW.trod_lt m _ _ _ hm
  obtain ⟨z1, t1, y1⟩ := open_vp (tysB_ok tys) data (by simp) (hval 1 3 v1 rfl rfl) h1
  obtain ⟨x1, rfl, w1⟩ := ty_int t1
  refine (law_calls (GL := Gl.one 0 (.cells (Lib.pow10Tab.map fun z => Value.int .u64 z).toArray tP frP)) (callok tP frP) ⟨Tryd.f3, Tryd.func3, by kernel_rfl, by kernel_rfl⟩ (law_BagSorts x0 x1 w0 w1) (Gl.one_here hgl) (VPs.cons y0 (VPs.cons y1 (VPs.nil _)))).mono fun e W' ⟨he, bel⟩ => ?_
  subst he
  exact ⟨_, rfl, _, _, _, [], _, [], hW', trodAll_mk1 (shut_bool Tryd.underlying4 _), (trodAll_cons_mk (Below.trod laidOut (by kernel_rfl) (of_decide_eq_true (by kernel_rfl)) k0 bel lt0) (trodAll_cons_mk (Below.trod laidOut (by kernel_rfl) (of_decide_eq_true (by kernel_rfl)) k1 bel lt1) trodAll_mk0)), rfl, bel.frame _, fun h => by cases h⟩
theorem over : Rows.bagSortsRow.holds Tryd.pinned (OpenSpec.ofChange Rows.bagSortsSpec) :=
  OpenClaim.holds_of_wide 3 Tryd.f3 rfl rfl rfl rfl rfl rfl rfl ⟨rfl, rfl, rfl, rfl, rfl⟩ rfl rfl rfl rfl rfl (by kernel_rfl) Tryd.func3 (by kernel_rfl)
    (of_decide_eq_true (by kernel_rfl)) (by unfold Func.isWrapper; first | (rw [if_pos (by decide +kernel)]; kernel_rfl) | (rw [if_neg (by decide +kernel)]; exact ⟨rfl, rfl⟩))
    (fun os started H enc _ => lifted os started H enc)
theorem proved : Rows.BagSortsCardSaid :=
  Claim7.holds_tied_plain_at .later [] [.data, .data, .data] true (true, "142ae206b28a6c929accc310159568096682536fa89f354042cd23377d120668") false over (fun _ h => by cases h) (by kernel_rfl) (fun _ h => by cases h) bagSorts_row_tie rfl ⟨rfl, rfl⟩ (by kernel_rfl) rfl
    (fun f fn hf hfn => by
      obtain rfl : f = 3 := Option.some.inj ((show Tryd.prog.funcNamed Rows.bagSortsRow.func = some 3 by kernel_rfl).symm.trans hf) |>.symm
      obtain rfl : fn = Tryd.f3 := (Option.some.inj (Tryd.func3.symm.trans hfn)).symm
      refine ⟨by kernel_rfl, fun j t ht => ?_⟩
      have hall : (Tryd.f3.params.toList.all fun t => !Tryd.prog.wantsStandIn t) = true := by kernel_rfl
      have hm : t ∈ Tryd.f3.params.toList := Array.mem_toList_iff.2 (Array.mem_of_getElem? ht)
      have := List.all_eq_true.1 hall t hm
      exact (show Tryd.prog.wantsStandIn t = false by simpa using this))
    (by kernel_rfl)
end Go.Proofs.YtgebkpchpliahaaDoor.RBagSorts
namespace Go.Proofs.YtgebkpchpliahaaDoor
theorem bagSorts_holds : Rows.BagSortsCardSaid := RBagSorts.proved
#print axioms bagSorts_holds
end Go.Proofs.YtgebkpchpliahaaDoor
