/- Part 1 of the proof: an abstract machine that runs the program's code over plain values, its soundness, and what the functions tell of plain values. Conditions: those in each theorem. -/
import Derived.Test.YtgebkpchpliahaaGreatDoorA16
import Derived.Test.YtgebkpchpliahaaGreatDoorRows
import Derived.Test.YtgebkpchpliahaaGreatDoorCards
import Derived.Test.YtgebkpchpliahaaGreatDoorTie
import Derived.LaidHandle
import Derived.LaidLaws
import Derived.Lib.LaidIn
import Derived.Lib.LaidTab
import Derived.Stop.LaidErr
import Derived.SevenTiedAt
import Derived.WalkKit
import Derived.ProofKit
import Derived.OpenShut
import Derived.ShutString
import Derived.ChangeOld
import Derived.Below
import Derived.SizedLaws
import Derived.Carry
set_option linter.unusedSectionVars false
set_option linter.unusedVariables false
set_option linter.unusedSimpArgs false
noncomputable section
namespace Go.Proofs.YtgebkpchpliahaaGreatDoor.RRunCount
open Go.ChangeShapes Go.WideShapes Go.ChangeAt Go.RowKit Go.Ab Go.Cf
set_option maxRecDepth 100000
theorem own:ownKnob Tryz.prog.godebug=none:=by kernel_rfl
theorem laidOut:laidOutB Tryz.prog=true:=by kernel_rfl
theorem data:z0x cfg [24,27,31,35,22,25,28,29,3,32,33,141,38,48,54,46]=true:=by kernel_rfl
theorem gT:Tryz.prog.globalNamed "internal/strconv.uint64pow10" =some 0:=by kernel_rfl
theorem gTType:(Tryz.prog.globals[0]?).map (·.type)=some 269:=by kernel_rfl
theorem callok(t:TypeId) (fr:Nat×Nat):@CallOK (Gl.one 0 (.cells (Lib.pow10Tab.map λ z=>Value.int .u64 z).toArray t fr)) Tryz.prog W:=by rw[W_eq];exact @zSw (Gl.one 0 (.cells (Lib.pow10Tab.map λ z=>Value.int .u64 z).toArray t fr)) _ _ (tysB_ok tys) (λ f fi h=>zPC fns f fi h) (exts (GL:=Gl.one 0 (.cells (Lib.pow10Tab.map λ z=>Value.int .u64 z).toArray t fr)) ⟨0,t,fr,gT,rfl,rfl⟩)
def cellsOf:DataW Unit->Array Value
 | .agg l=>(l.map λ | .lit (.int k n)=>Value.int k n | _=>undef).toArray
 |_=> #[]
def laidWorld(os:Os):World :=
 let w0:=World.holding Tryz.prog os ⟨#[], #[],[]⟩
 let put (h:Array Obj) (g:Nat) (cs:Array Value):Array Obj:=h.modify g fun
  | .cells _ t frozen=> .cells cs t frozen
  |o=>o
 { w0 with heap:=put (put (put (w0.heap) 1 (cellsOf Rows.laid_math_bits_deBruijn32tab)) 2 (cellsOf Rows.laid_math_bits_deBruijn64tab)) 0 (cellsOf Rows.laid_internal_strconv_uint64pow10) }
theorem laid_met(os:Os) (args:Array Value):laidMet Tryz.prog Rows.runCountRow.laid ((laidWorld os).forCall (λ _ _=>0) ⟨#[],args,[]⟩).memory :=
 (LaidIn.of_run [1,2,0] 8 (by kernel_rfl) (by kernel_rfl) (by kernel_rfl) (by kernel_rfl)).met
theorem tab_of(W0:World) (hL:laidMetH Tryz.prog Rows.runCountRow.laid W0):∃ t fr,W0.heap[0]? =some (.cells (Lib.pow10Tab.map λ z=>Value.int .u64 z).toArray t fr):=by
 have hL' :laidMet Tryz.prog Rows.runCountRow.laid W0:=hL
 have h3:laidMet Tryz.prog (("internal/strconv.uint64pow10",Lib.tabData .u64 Lib.pow10Tab)::_) W0:=laidMet.tail (laidMet.tail (hL'))
 have htab:Lib.TabIs Tryz.prog W0 "internal/strconv.uint64pow10" .u64 Lib.pow10Tab:=Lib.tabIs_of_head gT gTType Tryz.underlying269 Tryz.underlying217 (by kernel_rfl) (by kernel_rfl) h3
 unfold Lib.TabIs World.var? at htab
 rw[gT]at htab
 simp only[zB]at htab
 split at htab
 ·rename_i cs t fr hh
  simp only[zE]at htab
  subst htab
  exact⟨t,fr,hh⟩
 ·cases htab
set_option maxRecDepth 100000 in
set_option maxHeartbeats 1000000 in
theorem lifted(os:Os) (started:os.Started) (H:Type) (enc:TypeId×Value->H) :
 ReturnsInHanded {} Tryz.checked os 3 .any (λ w args=>(Rows.runCountSpec.pre enc Tryz.prog Tryz.f3 [] false w args/\laidMetH Tryz.prog Rows.runCountRow.laid w)/\sizedMet enc Tryz.prog Tryz.f3 (OpenSpec.ofChange Rows.runCountSpec) false w args) (Rows.runCountSpec.post enc Tryz.prog Tryz.f3 false true false false):=by
 refine returnsInHanded_of_change_and (C:=Tryz.checked) (X:=λ w _=>laidMetH Tryz.prog Rows.runCountRow.laid w) (λ _ _ _ hh h=>h.of_heap hh) own started (by kernel_rfl) Tryz.func3
  (ChangeSpec.witness_at (enc:=enc) (C:=Tryz.checked) (os:=os) (X:=λ w _=>laidMetH Tryz.prog Rows.runCountRow.laid w) false (laidWorld os) #[.agg #[.slice none 0 0],.agg #[.slice none 0 0],.agg #[.slice none 0 0,.slice none 0 0,.int .i64 0,.slice none 0 0,.slice none 0 0,.int .i64 0],.agg #[.int .i64 0,.int .i64 0,.int .i64 0,.int .i64 0,.slice none 0 0]] 8 rfl (by kernel_rfl) (by kernel_rfl) (by kernel_rfl) (by kernel_rfl) (by kernel_rfl) (laidMetH_of_parts (laid_met os _) (by kernel_rfl))) ?_
 intro W0 base args ds gs before hval0 hW _ _ hL _
 obtain⟨tP,frP,hgl⟩:=tab_of W0 hL
 have hval:∀(j:Nat) t v,Tryz.f3.params[j]? =some t->args[j]? =some v->Value.okWide Tryz.prog W0 .any base t v:=hval0
 have hW' :=hW
 obtain⟨p,q,hA0,hV,rfl,hfz,hnd⟩:=hW
 have hA:DataW.TrodAll enc Tryz.prog W0 0 (λ _=>true) true Tryz.f3.params.toList args.toList ds p:=hA0
 rw[Tryz.params3]at hA hval
 obtain⟨v0,vs0,d0,ds0,p0,q0,hargs,rfl,rfl,h0,r0⟩:=trodAll_cons hA
 obtain⟨v1,vs1,d1,ds1,p1,q1,rfl,rfl,rfl,h1,r1⟩:=trodAll_cons r0
 obtain⟨v2,vs2,d2,ds2,p2,q2,rfl,rfl,rfl,h2,r2⟩:=trodAll_cons r1
 obtain⟨v3,vs3,d3,ds3,p3,q3,rfl,rfl,rfl,h3,r3⟩:=trodAll_cons r2
 obtain⟨rfl,rfl,rfl⟩:=trodAll_nil r3
 obtain rfl:args= #[v0,v1,v2,v3]:=by cases args;simp_all
 obtain⟨rfl,rfl⟩:=trodVars_none hV
 have k0:=h0
 have lt0:∀ x∈p0,x.block<W0.heap.size:=by obtain⟨m,hm⟩:=k0;exact DataW.trod_lt m _ _ _ hm
 obtain⟨z0,t0,y0⟩:=zJW (tysB_ok tys) data (by simp) (hval 0 24 v0 rfl rfl) h0
 obtain⟨x0,rfl,w0⟩:=zQu t0
 have k1:=h1
 have lt1:∀ x∈p1,x.block<W0.heap.size:=by obtain⟨m,hm⟩:=k1;exact DataW.trod_lt m _ _ _ hm
 obtain⟨z1,t1,y1⟩:=zJW (tysB_ok tys) data (by simp) (hval 1 27 v1 rfl rfl) h1
 obtain⟨x1,rfl,w1⟩:=zPd t1
 have k2:=h2
 have lt2:∀ x∈p2,x.block<W0.heap.size:=by obtain⟨m,hm⟩:=k2;exact DataW.trod_lt m _ _ _ hm
 obtain⟨z2,t2,y2⟩:=zJW (tysB_ok tys) data (by simp) (hval 2 31 v2 rfl rfl) h2
 obtain⟨x2,rfl,w2⟩:=zNa t2
 have k3:=h3
 have lt3:∀ x∈p3,x.block<W0.heap.size:=by obtain⟨m,hm⟩:=k3;exact DataW.trod_lt m _ _ _ hm
 obtain⟨z3,t3,y3⟩:=zJW (tysB_ok tys) data (by simp) (hval 3 35 v3 rfl rfl) h3
 obtain⟨x3,rfl,w3⟩:=zPx t3
 refine(zTA (GL:=Gl.one 0 (.cells (Lib.pow10Tab.map λ z=>Value.int .u64 z).toArray tP frP)) (callok tP frP) ⟨Tryz.f3,Tryz.func3,by kernel_rfl,by kernel_rfl⟩ (zUR x0 x1 x2 x3 w0 w1 w2 w3) (Gl.one_here hgl) (VPs.cons y0 (VPs.cons y1 (VPs.cons y2 (VPs.cons y3 (VPs.nil _)))))).mono λ e W' ⟨he,bel⟩=> ?_
 subst he
 exact⟨_,rfl,_,_,_,[],_,[],hW',trodAll_mk1 (shut_bool Tryz.underlying4 _),(trodAll_cons_mk (Below.trod laidOut (by kernel_rfl) (zAM (by kernel_rfl)) k0 bel lt0) (trodAll_cons_mk (Below.trod laidOut (by kernel_rfl) (zAM (by kernel_rfl)) k1 bel lt1) (trodAll_cons_mk (Below.trod laidOut (by kernel_rfl) (zAM (by kernel_rfl)) k2 bel lt2) (trodAll_cons_mk (Below.trod laidOut (by kernel_rfl) (zAM (by kernel_rfl)) k3 bel lt3) trodAll_mk0)))),rfl,bel.frame _,λ h=>by cases h⟩
end Go.Proofs.YtgebkpchpliahaaGreatDoor.RRunCount
