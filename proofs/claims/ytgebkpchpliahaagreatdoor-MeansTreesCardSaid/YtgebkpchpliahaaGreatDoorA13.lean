/- Part 14 of the proof: an abstract machine that runs the program's code over plain values, its soundness, and what the functions tell of plain values. Conditions: those in each theorem. -/
import Derived.Test.YtgebkpchpliahaaGreatDoorA12
import Derived.WalkKit
import Derived.Tactics
import Derived.Tactics2
import Derived.Defers
import Derived.Recover
import Derived.Test.YtgebkpchpliahaaGreatDoorProg
import Derived.Deep.RegionWith
import Derived.LoopN
set_option linter.unusedSectionVars false
namespace Go.Proofs
open Go.RowKit
set_option linter.unusedVariables false
set_option maxHeartbeats 1000000
set_option maxRecDepth 100000
theorem Tryz.cellSet(w:World) (b o:Nat) (cs:Array Value) (t:TypeId) (v:Value) (h:w.heap[b]? =some (.cells cs t)):w.setCell ⟨b,o,none⟩ v={ w with heap:=w.heap.setIfInBounds b (.cells (cs.setIfInBounds o v) t) }:=by
 unfold World.setCell
 congr 1
 apply Array.ext_getElem?
 intro k
 rw[Array.getElem?_modify]
 by_cases e:b=k
 ·subst e
  have hlt:=(Array.getElem?_eq_some_iff.1 h).1
  rw[if_pos rfl,h,Array.getElem?_setIfInBounds_self_of_lt hlt];rfl
 ·rw[if_neg e,Array.getElem?_setIfInBounds_ne e]
theorem Tryz.told_idle(p q:Addr) (w:World) :
 CallsD Tryz.prog 127 #[.pointer (some p), .pointer (some q)] .returning w λ e u' w' =>e= .returned (.tuple #[])∧u' = .returning∧w' =w:=by
 refine callsD_of_wpS Tryz.func127 rfl λ c₀ cs hu=> ?_
 apply wpS_seq
 apply wpS_region
 simp[wpOpsS,go_sem,recoverD,hu,Tryz.ntmps127,Exit.thenS]
 refine wpS_of_wp ?_
 go_wp2
 cases c₀;simp_all[bodyPostS,results,Tryz.results127]
theorem Tryz.told_run(g:FuncId) (fs cs:Array Value) (w:World) (Q:Value→Value→World→Prop)
 (eg:∀ w' args,(callFunc g args).run Tryz.prog w' = .ok (.enter g args) w')
 (hc:Calls Tryz.prog g (fs++cs) ((w.alloc (.cells #[.slice none 0 0, .slice none 0 0] 40)).alloc (.cells #[.bool false] 4)) (λ e w3=>∃ x y,e= .returned (.agg #[x,y])∧x.oneCell' =true∧y.oneCell' =true ∧
  w3.heap[w.heap.size]? =some (.cells #[.slice none 0 0, .slice none 0 0] 40)∧w3.heap[w.heap.size+1]? =some (.cells #[.bool false] 4)∧Q x y w3)) :
 Calls Tryz.prog 61 #[.func (.func g) fs cs] w λ e w' =>∃ x y w3,e= .returned (.tuple #[.agg #[x,y], .bool true])∧Q x y w3∧w3.heap[w.heap.size]? =some (.cells #[.slice none 0 0, .slice none 0 0] 40)∧w3.heap[w.heap.size+1]? =some (.cells #[.bool false] 4) ∧
  w' ={ w3 with heap:=(w3.heap.setIfInBounds w.heap.size (.cells #[x,y] 40)).setIfInBounds (w.heap.size+1) (.cells #[.bool true] 4) }:=by
 have hmf:∀(fn:Fn) (first cap:Array Value) (w:World),(Instr.makeFunc fn first cap).run Tryz.prog w= .ok (.func fn first cap) w:=λ _ _ _ _=>rfl
 go_enter_defers Tryz.func61,Tryz.ntmps61
 go_wp2
 refine hc.mono ?_
 rintro e w3 ⟨x,y,rfl,ox,oy,h1,h2,hq⟩
 have c0:w3.cell? ⟨w.heap.size,0,none⟩=some (.slice none 0 0):=by unfold World.cell?;simp only[h1];rfl
 have c1:w3.cell? ⟨w.heap.size,1,none⟩=some (.slice none 0 0):=by unfold World.cell?;simp only[h1];rfl
 have c2:w3.cell? ⟨w.heap.size+1,0,none⟩=some (.bool false):=by unfold World.cell?;simp only[h2];rfl
 have f0:w3.frozen? ⟨w.heap.size,0,none⟩=false:=by unfold World.frozen?;simp only[h1];rfl
 have f1:w3.frozen? ⟨w.heap.size,1,none⟩=false:=by unfold World.frozen?;simp only[h1];rfl
 have f2:w3.frozen? ⟨w.heap.size+1,0,none⟩=false:=by unfold World.frozen?;simp only[h2];rfl
 clear hc
 have sx:∀(w:World) (a:Addr) (m:Mode),(store a x m).run Tryz.prog w=stored Tryz.prog w a x m:=λ w a m=>run_store _ w a x m ox
 have sy:∀(w:World) (a:Addr) (m:Mode),(store a y m).run Tryz.prog w=stored Tryz.prog w a y m:=λ w a m=>run_store _ w a y m oy
 have hlt:w.heap.size<w3.heap.size:=(Array.getElem?_eq_some_iff.1 h1).1
 have hlt2:w.heap.size+1<w3.heap.size:=(Array.getElem?_eq_some_iff.1 h2).1
 have hW:((w3.setCell ⟨w.heap.size,0,none⟩ x).setCell ⟨w.heap.size,1,none⟩ y).setCell ⟨w.heap.size+1,0,none⟩ (.bool true)={ w3 with heap:=(w3.heap.setIfInBounds w.heap.size (.cells #[x,y] 40)).setIfInBounds (w.heap.size+1) (.cells #[.bool true] 4) }:=by
  rw[Tryz.cellSet _ _ _ _ _ _ h1]
  rw[Tryz.cellSet _ w.heap.size 1 #[x, .slice none 0 0] 40 y (by simp[hlt])]
  rw[Tryz.cellSet _ (w.heap.size+1) 0 #[.bool false] 4 (.bool true) (by
   show((w3.heap.setIfInBounds w.heap.size _).setIfInBounds w.heap.size _)[w.heap.size+1]? =_
   rw[Array.getElem?_setIfInBounds_ne (by omega),Array.getElem?_setIfInBounds_ne (by omega)];exact h2)]
  congr 1
  simp
 go_wp2
 refine leaves_cons (f:=127) (args:= #[.pointer (some ⟨w.heap.size,0,none⟩), .pointer (some ⟨w.heap.size+1,0,none⟩)]) (by simp) (by simp[go_sem]) ?_
 refine(Tryz.told_idle _ _ _).mono ?_
 rintro e u' w'' ⟨rfl,rfl,rfl⟩
 have e0:World.cell? { w3 with heap:=(w3.heap.setIfInBounds w.heap.size (.cells #[x,y] 40)).setIfInBounds (w.heap.size+1) (.cells #[.bool true] 4) } ⟨w.heap.size,0,none⟩=some x:=by
  unfold World.cell?
  simp[hlt]
 have e1:World.cell? { w3 with heap:=(w3.heap.setIfInBounds w.heap.size (.cells #[x,y] 40)).setIfInBounds (w.heap.size+1) (.cells #[.bool true] 4) } ⟨w.heap.size,1,none⟩=some y:=by
  unfold World.cell?
  simp[hlt]
 have e2:World.cell? { w3 with heap:=(w3.heap.setIfInBounds w.heap.size (.cells #[x,y] 40)).setIfInBounds (w.heap.size+1) (.cells #[.bool true] 4) } ⟨w.heap.size+1,0,none⟩=some (.bool true):=by
  unfold World.cell?
  simp[hlt2]
 generalize hG:({ w3 with heap:=(w3.heap.setIfInBounds w.heap.size (.cells #[x,y] 40)).setIfInBounds (w.heap.size+1) (.cells #[.bool true] 4) }:World)=W5 at e0 e1 e2 ⊢
 simp[Leaves,settle,results,Tryz.results61,go_sem,e0,e1,e2]
 exact⟨x,y,⟨rfl,rfl⟩,w3,hq,h1,h2,hG.symm⟩
theorem Tryz.toldC:Go.Ab.ToldC Tryz.prog [62,81] 61 40 4 (.slice none 0 0) (.slice none 0 0) :=
 ⟨⟨Tryz.f61,Tryz.func61,by kernel_rfl,by kernel_rfl⟩,λ g hg=>by
   simp only[List.mem_cons,List.not_mem_nil,or_false]at hg
   rcases hg with rfl | rfl
   ·exact⟨Tryz.f62,Tryz.func62,by kernel_rfl,by kernel_rfl⟩
   ·exact⟨Tryz.f81,Tryz.func81,by kernel_rfl,by kernel_rfl⟩,λ g fs cs w Q eg hc=>Tryz.told_run g fs cs w Q eg hc⟩
end Go.Proofs

namespace Go.Proofs
open Go.Shelf Go.RowKit Go.Lib Go.Sort
def Tryz.sortK_ren:Go.Shelf.Ren:=⟨λ | 6=>155 | 15=>190 | 14=>199 | 28=>233 | 29=>234 | 20=>238 | 21=>239 | 22=>240 | 23=>241 | 24=>242 | 25=>243 | 26=>244 | 27=>245 | 46=>273 | 47=>267 | 48=>268 | 49=>274 | 50=>275 | 57=>302 | n=>n,λ | 22=>177 | 24=>100 | 25=>99 | 3=>3 | 39=>209 | 0=>0 | 53=>246 | 55=>217 | 4=>4 | 46=>240 | 45=>239 | 50=>124 | 5=>5 | 9=>9 | 66=>259 | 70=>263 | 76=>276 | 77=>277 | n=>n,λ | n=>n⟩
theorem Tryz.sortK:Go.Proofs.SlLaysF0.n6 Tryz.prog Tryz.sortK_ren:={
 mixed:=by kernel_rfl
 f6:=⟨Tryz.f155.name,by decide,Tryz.func155.trans (congrArg some (by kernel_rfl))⟩
 f14:=⟨Tryz.f199.name,by decide,Tryz.func199.trans (congrArg some (by kernel_rfl))⟩
 f15:=Tryz.func190.trans (congrArg some (by kernel_rfl))
 f20:=⟨Tryz.f238.name,by decide,Tryz.func238.trans (congrArg some (by kernel_rfl))⟩
 f21:=⟨Tryz.f239.name,by decide,Tryz.func239.trans (congrArg some (by kernel_rfl))⟩
 f22:=⟨Tryz.f240.name,by decide,Tryz.func240.trans (congrArg some (by kernel_rfl))⟩
 f23:=⟨Tryz.f241.name,by decide,Tryz.func241.trans (congrArg some (by kernel_rfl))⟩
 f24:=⟨Tryz.f242.name,by decide,Tryz.func242.trans (congrArg some (by kernel_rfl))⟩
 f25:=⟨Tryz.f243.name,by decide,Tryz.func243.trans (congrArg some (by kernel_rfl))⟩
 f26:=⟨Tryz.f244.name,by decide,Tryz.func244.trans (congrArg some (by kernel_rfl))⟩
 f27:=⟨Tryz.f245.name,by decide,Tryz.func245.trans (congrArg some (by kernel_rfl))⟩
 f28:=Tryz.func233.trans (congrArg some (by kernel_rfl))
 f29:=Tryz.func234.trans (congrArg some (by kernel_rfl))
 f46:=⟨Tryz.f273.name,by decide,Tryz.func273.trans (congrArg some (by kernel_rfl))⟩
 f47:=Tryz.func267.trans (congrArg some (by kernel_rfl))
 f48:=Tryz.func268.trans (congrArg some (by kernel_rfl))
 f49:=⟨Tryz.f274.name,by decide,Tryz.func274.trans (congrArg some (by kernel_rfl))⟩
 f50:=⟨Tryz.f275.name,by decide,Tryz.func275.trans (congrArg some (by kernel_rfl))⟩
 f57:=⟨Tryz.f302.name,by decide,Tryz.func302.trans (congrArg some (by kernel_rfl))⟩
 t0:=Tryz.underlying0
 a0:=Tryz.isAgg0
 z0:=Tryz.sizeOf0
 v0:=Tryz.zeroValue0
 t3:=Tryz.underlying3
 a3:=Tryz.isAgg3
 z3:=Tryz.sizeOf3
 v3:=Tryz.zeroValue3
 t4:=Tryz.underlying4
 a4:=Tryz.isAgg4
 z4:=Tryz.sizeOf4
 v4:=Tryz.zeroValue4
 t5:=Tryz.underlying5
 a5:=Tryz.isAgg5
 z5:=Tryz.sizeOf5
 v5:=Tryz.zeroValue5
 t9:=Tryz.underlying9
 a9:=Tryz.isAgg9
 z9:=Tryz.sizeOf9
 v9:=Tryz.zeroValue9
 t22:=Tryz.underlying177
 a22:=Tryz.isAgg177
 z22:=Tryz.sizeOf177
 v22:=Tryz.zeroValue177
 t25:=Tryz.underlying99
 a25:=Tryz.isAgg99
 z25:=Tryz.sizeOf99
 v25:=Tryz.zeroValue99
 t39:=Tryz.underlying209
 a39:=Tryz.isAgg209
 z39:=Tryz.sizeOf209
 v39:=Tryz.zeroValue209
 t45:=Tryz.underlying239
 a45:=Tryz.isAgg239
 z45:=Tryz.sizeOf239
 v45:=Tryz.zeroValue239
 t46:=Tryz.underlying240
 a46:=Tryz.isAgg240
 z46:=Tryz.sizeOf240
 v46:=Tryz.zeroValue240
 t50:=Tryz.underlying124
 a50:=Tryz.isAgg124
 z50:=Tryz.sizeOf124
 v50:=Tryz.zeroValue124
 t53:=Tryz.underlying246
 a53:=Tryz.isAgg246
 z53:=Tryz.sizeOf246
 v53:=Tryz.zeroValue246
 t55:=Tryz.underlying217
 a55:=Tryz.isAgg217
 z55:=Tryz.sizeOf217
 v55:=Tryz.zeroValue217
 t66:=Tryz.underlying259
 a66:=Tryz.isAgg259
 z66:=Tryz.sizeOf259
 v66:=Tryz.zeroValue259
 t70:=Tryz.underlying263
 a70:=Tryz.isAgg263
 z70:=Tryz.sizeOf263
 v70:=Tryz.zeroValue263
 t76:=Tryz.underlying276
 a76:=Tryz.isAgg276
 z76:=Tryz.sizeOf276
 v76:=Tryz.zeroValue276
 t77:=Tryz.underlying277
 a77:=Tryz.isAgg277
 z77:=Tryz.sizeOf277
 v77:=Tryz.zeroValue277 }
set_option linter.unusedVariables false
set_option maxHeartbeats 1000000
set_option maxRecDepth 100000
theorem Tryz.walk_isNaN(x:Int) (w:World):Calls Tryz.prog 221 #[.int .i64 x] w λ e w' =>e= .returned (.bool false)∧w' =w:=by
 go_enter Tryz.func221,Tryz.ntmps221
 go_wp2
 go_ret
 exact⟨by simp,rfl⟩
def Tryz.cz(x y:Int):Int:=if x<y then -1 else if x>y then 1 else 0
theorem Tryz.walk_cmp(x y:Int) (w:World):Calls Tryz.prog 182 #[.int .i64 x, .int .i64 y] w λ e w' =>e= .returned (.int .i64 (Tryz.cz x y))∧w' =w:=by
 unfold Tryz.cz
 go_enter Tryz.func182,Tryz.ntmps182
 go_wp2_with (go_at_call 221;refine(Tryz.walk_isNaN _ _).mono ?_;rintro e w' ⟨rfl,hw⟩;rw[hw])
 all_goals (go_ret;refine⟨?_,rfl⟩;(repeat' split)<;>first | rfl | (exfalso;omega))
theorem Tryz.walk_Compare(b1 b2:Nat) (x1 x2 y1 y2:Int) (w:World) (h1:w.cell? ⟨b1,0,none⟩=some (.int .i64 x1)) (h2:w.cell? ⟨b1,1,none⟩=some (.int .i64 x2)) (h3:w.cell? ⟨b2,0,none⟩=some (.int .i64 y1)) (h4:w.cell? ⟨b2,1,none⟩=some (.int .i64 y2)) :
 Calls Tryz.prog 124 #[.slice (some ⟨b1,0,none⟩) 2 2, .slice (some ⟨b2,0,none⟩) 2 2] w λ e w' =>e= .returned (.int .i64 (if Tryz.cz x1 y1=0 then Tryz.cz x2 y2 else Tryz.cz x1 y1))∧w' =w:=by
 have k1:=λ W=>Tryz.walk_cmp x1 y1 W
 have k2:=λ W=>Tryz.walk_cmp x2 y2 W
 generalize Tryz.cz x1 y1=c1 at k1 ⊢
 generalize Tryz.cz x2 y2=c2 at k2 ⊢
 by_cases hc:c1=0
 ·subst hc
  rw[if_pos rfl]
  by_cases hd:c2=0
  ·subst hd
   go_enter Tryz.func124,Tryz.ntmps124
   go_wp2
   refine wp_loop_rounds 3 ?_
   rw[rounds_succ]
   go_wp2_with (go_at_call 182;refine(k1 _).mono ?_;rintro e w' ⟨rfl,hw⟩;rw[hw])
   rw[rounds_succ]
   go_wp2_with (go_at_call 182;refine(k2 _).mono ?_;rintro e w' ⟨rfl,hw⟩;rw[hw])
   rw[rounds_succ]
   go_wp2
   go_ret
   exact⟨rfl,rfl⟩
  ·have hb:(c2 != 0)=true:=by simpa using hd
   go_enter Tryz.func124,Tryz.ntmps124
   go_wp2
   refine wp_loop_rounds 3 ?_
   rw[rounds_succ]
   go_wp2_with (go_at_call 182;refine(k1 _).mono ?_;rintro e w' ⟨rfl,hw⟩;rw[hw])
   rw[rounds_succ]
   go_wp2_with (go_at_call 182;refine(k2 _).mono ?_;rintro e w' ⟨rfl,hw⟩;rw[hw])
   go_ret
   exact⟨rfl,rfl⟩
 ·rw[if_neg hc]
  have hb:(c1 != 0)=true:=by simpa using hc
  go_enter Tryz.func124,Tryz.ntmps124
  go_wp2
  refine wp_loop_rounds 3 ?_
  rw[rounds_succ]
  go_wp2_with (go_at_call 182;refine(k1 _).mono ?_;rintro e w' ⟨rfl,hw⟩;rw[hw])
  go_ret
  exact⟨rfl,rfl⟩
def Tryz.kty:List Go.Ab.TyI:=(List.range 101).map λ i=>bif i==3 then⟨.int .i64,1,8,[.pv (.int .i64 0)]⟩else bif i==100 then⟨.arr 2 3,2,16,[.pv (.int .i64 0), .pv (.int .i64 0)]⟩else⟨.other,0,0,[]⟩
noncomputable def Tryz.kcfg:Go.Ab.Cfg:=⟨Tryz.kty,λ _=>none,λ _=>none⟩
theorem Tryz.ktys:Go.Ab.tysB Tryz.prog Tryz.kcfg=true:=by kernel_rfl
theorem Tryz.keyEq0 [GL:Go.Ab.Gl] (x1 x2 y1 y2:Int) (w:World):(Op.equalIn 10000 100 (.agg #[.int .i64 x1, .int .i64 x2]) (.agg #[.int .i64 y1, .int .i64 y2])).run Tryz.prog w= .ok (x1==y1&&x2==y2) w:=by
 have hv:∀ a b:Int,Go.Ab.VP (λ _ _=>none) (.agg #[.int .i64 a, .int .i64 b]) (.agg [.int .i64 a, .int .i64 b]):=λ a b =>
  .agg _ _ rfl (λ v hv=>by simp at hv;rcases hv with rfl | rfl<;>rfl) (λ j v p hv hp=>by
   match j with
   | 0=>simp at hv hp;subst hv;subst hp;exact .int _ _
   | 1=>simp at hv hp;subst hv;subst hp;exact .int _ _
   |j+2=>simp at hp)
 refine Go.Ab.eqP_sound (Go.Ab.tysB_ok Tryz.ktys) 6 10000 100 _ _ _ _ _ (by omega) (hv x1 x2) (hv y1 y2) ?_
 show(bif (x1==y1)then(bif (x2==y2)then some true else some false)else some false)=_
 cases x1==y1<;>cases x2==y2<;>rfl
theorem Tryz.keyEq(x1 x2 y1 y2:Int) (w:World):(Op.equalIn 10000 100 (.agg #[.int .i64 x1, .int .i64 x2]) (.agg #[.int .i64 y1, .int .i64 y2])).run Tryz.prog w= .ok (x1==y1&&x2==y2) w:=Tryz.keyEq0 (GL:=Go.Ab.Gl.triv) x1 x2 y1 y2 w
theorem Tryz.walk_compare(x1 x2 y1 y2:Int) (W:World) :
 Calls Tryz.prog 57 #[.agg #[.int .i64 x1, .int .i64 x2], .agg #[.int .i64 y1, .int .i64 y2]] W λ e w' =>e= .returned (.int .i64 (if (x1==y1&&x2==y2)=true then 0 else if Tryz.cz x1 y1=0 then Tryz.cz x2 y2 else Tryz.cz x1 y1))∧∃ q os',w' =grow (W.drewN q) os' :=by
 have he:=λ w=>Tryz.keyEq x1 x2 y1 y2 w
 generalize (x1==y1&&x2==y2)=b at he ⊢
 have hc:=λ b1 b2 w h1 h2 h3 h4=>Tryz.walk_Compare b1 b2 x1 x2 y1 y2 w h1 h2 h3 h4
 generalize (if Tryz.cz x1 y1=0 then Tryz.cz x2 y2 else Tryz.cz x1 y1)=c at hc ⊢
 cases b with
 |true =>
  go_enter Tryz.func57,Tryz.ntmps57
  go_wp2
  all_goals (go_ret;exact⟨by simp,0,_,by rw[alloc_eq_grow,alloc_eq_grow,grow_grow];rfl⟩)
 |false =>
  go_enter Tryz.func57,Tryz.ntmps57
  go_wp2
  have s1:∀ o1 o2:Obj,((W.alloc o1).alloc o2).drew.heap[W.heap.size]? =some o1:=λ o1 o2=>by
   show((W.heap.push o1).push o2)[W.heap.size]? =_
   simp[Array.getElem?_push]
  have s2:∀ o1 o2:Obj,((W.alloc o1).alloc o2).drew.heap[W.heap.size+1]? =some o2:=λ o1 o2=>by
   show((W.heap.push o1).push o2)[W.heap.size+1]? =_
   rw[Array.getElem?_push];simp
  all_goals (go_region_with (go_at_call 124;refine(hc W.heap.size (W.heap.size+1) _ (by unfold World.cell?;simp only[s1];rfl) (by unfold World.cell?;simp only[s1];rfl) (by unfold World.cell?;simp only[s2];rfl) (by unfold World.cell?;simp only[s2];rfl)).mono ?_;rintro e w' ⟨rfl,hw⟩;rw[hw]))
  all_goals (go_wp2;go_ret;exact⟨by simp,1,_,by show((W.drew).alloc _).alloc _=_;rw[alloc_eq_grow,alloc_eq_grow,grow_grow];rfl⟩)
theorem Tryz.keyCmp(x y:Int×Int):(if (x.1==y.1&&x.2==y.2)=true then 0 else if Tryz.cz x.1 y.1=0 then Tryz.cz x.2 y.2 else Tryz.cz x.1 y.1)=Go.Ab.cmpK x y:=by
 unfold Tryz.cz Go.Ab.cmpK
 by_cases h1:x.1=y.1
 ·by_cases h2:x.2=y.2
  ·simp[h1,h2]
  ·simp[h1,h2]
 ·rcases Int.lt_or_gt_of_ne h1 with h | h
  ·simp[h1,h]
  ·simp[h1,h,show ¬ x.1<y.1 by omega]
theorem Tryz.keyLt(x y:Int×Int):ltOf Go.Ab.cmpK x y=true↔x.1<y.1∨(x.1=y.1∧x.2<y.2):=by
 unfold ltOf Go.Ab.cmpK
 rw[decide_eq_true_eq]
 split
 ·constructor<;>intro<;>omega
 ·split
  ·constructor<;>intro<;>omega
  ·split
   ·constructor<;>intro<;>omega
   ·split<;>constructor<;>intro<;>omega
theorem Tryz.keySwo:SWO (ltOf Go.Ab.cmpK) where
 irrefl x:=by rw[Bool.eq_false_iff];intro h;rw[Tryz.keyLt]at h;omega
 trans x y z h1 h2:=by rw[Tryz.keyLt]at *;omega
 ntrans x y z h1 h2:=by rw[Bool.eq_false_iff]at *;intro h;simp only[ne_eq,Tryz.keyLt]at *;omega
theorem Tryz.keyTot(x y:Int×Int) (h1:ltOf Go.Ab.cmpK x y=false) (h2:ltOf Go.Ab.cmpK y x=false):x=y:=by
 rw[Bool.eq_false_iff]at h1 h2
 simp only[ne_eq,Tryz.keyLt]at h1 h2
 obtain⟨a,b⟩:=x
 obtain⟨c,d⟩:=y
 simp only[Prod.mk.injEq]at *
 omega
theorem Tryz.keySort:Go.Ab.SortKC Tryz.prog 155 57 :=
 ⟨⟨Tryz.f155,Tryz.func155,by kernel_rfl,by kernel_rfl⟩,λ blk off cap d w h1 h2 h3=>by
   have eg:∀ args w,(callFunc 57 args).run Tryz.prog w= .ok (.enter 57 args) w:=enters_of Tryz.func57 (by kernel_rfl) rfl
   have hc:CmpLays Tryz.prog 57 #[] Go.Ab.encK 2 Go.Ab.cmpK blk off d.size w:=λ m os dk _ x y=>by
    rw[← Tryz.keyCmp x y];exact Tryz.walk_compare x.1 x.2 y.1 y.2 _
   rw[Go.Ab.sortKeys_eq]
   exact AnyQ.slices_SortFunc_total Tryz.sortK 2 Tryz.isAgg100 Tryz.sizeOf100 Go.Ab.encK (λ _=>rfl) (λ x v hv=>by simp[Go.Ab.encK]at hv;rcases hv with rfl | rfl<;>rfl) Go.Ab.cmpK Tryz.keySwo 57 #[] blk off cap d w eg hc h1 h2 h3 Tryz.keyTot,
   λ p cap fv w=>AnyF.slices_SortFunc_none Tryz.sortK p cap fv w⟩
end Go.Proofs

namespace Go.Cf
open Go Go.Ab Go.Proofs
set_option maxRecDepth 100000
def ty:List TyI:=[⟨.other,1,0,[]⟩,
 ⟨.scalar,1,8,[.pv .nilfn]⟩,
 ⟨(.int .i64),1,8,[.pv (.int .i64 0)]⟩,
 ⟨(.int .i64),1,8,[.pv (.int .i64 0)]⟩,
 ⟨.bool,1,1,[.pv (.bool false)]⟩,
 ⟨(.int .u8),1,1,[.pv (.int .u8 0)]⟩,
 ⟨(.int .u8),1,1,[.pv (.int .u8 0)]⟩,
 ⟨(.struct [(2,0),(3,1),(4,2),(6,3)]),4,24,[.pv (.int .i64 0), .pv (.int .i64 0), .pv (.bool false), .pv (.int .u8 0)]⟩,
 ⟨(.struct [(2,0),(3,1),(4,2),(6,3)]),4,24,[.pv (.int .i64 0), .pv (.int .i64 0), .pv (.bool false), .pv (.int .u8 0)]⟩,
 ⟨.str,1,16,[.pv (.str ⟨#[]⟩)]⟩,
 ⟨.str,1,16,[.pv (.str ⟨#[]⟩)]⟩,
 ⟨.str,1,16,[.pv (.str ⟨#[]⟩)]⟩,
 ⟨(.int .u64),1,8,[.pv (.int .u64 0)]⟩,
 ⟨.other,2,24,[]⟩,
 ⟨.other,2,24,[]⟩,
 ⟨.scalar,1,8,[.pv (.con (.pointer none))]⟩,
 ⟨.scalar,1,8,[.pv (.con (.pointer none))]⟩,
 ⟨.scalar,1,8,[.pv (.con (.pointer none))]⟩,
 ⟨.other,1,8,[]⟩,
 ⟨.other,1,8,[]⟩,
 ⟨.scalar,1,16,[.pv (.con .nilIface)]⟩,
 ⟨(.int .i32),1,4,[.pv (.int .i32 0)]⟩,
 ⟨(.slice 141),1,24,[.nil 3]⟩,
 ⟨(.struct [(22,0)]),1,24,[.nil 3]⟩,
 ⟨(.struct [(22,0)]),1,24,[.nil 3]⟩,
 ⟨(.slice 38),1,24,[.nil 0]⟩,
 ⟨(.struct [(25,0)]),1,24,[.nil 0]⟩,
 ⟨(.struct [(25,0)]),1,24,[.nil 0]⟩,
 ⟨(.slice 3),1,24,[.nil 0]⟩,
 ⟨(.slice 48),1,24,[.nil 6]⟩,
 ⟨(.struct [(28,0),(29,1),(3,2),(28,3),(28,4),(3,5)]),6,112,[.nil 0, .nil 6, .pv (.int .i64 0), .nil 0, .nil 0, .pv (.int .i64 0)]⟩,
 ⟨(.struct [(28,0),(29,1),(3,2),(28,3),(28,4),(3,5)]),6,112,[.nil 0, .nil 6, .pv (.int .i64 0), .nil 0, .nil 0, .pv (.int .i64 0)]⟩,
 ⟨(.arr 2 3),2,16,[.pv (.int .i64 0), .pv (.int .i64 0)]⟩,
 ⟨(.slice 35),1,24,[.nil 6]⟩,
 ⟨(.struct [(3,0),(3,1),(32,2),(33,4)]),5,56,[.pv (.int .i64 0), .pv (.int .i64 0), .pv (.int .i64 0), .pv (.int .i64 0), .nil 6]⟩,
 ⟨(.struct [(3,0),(3,1),(32,2),(33,4)]),5,56,[.pv (.int .i64 0), .pv (.int .i64 0), .pv (.int .i64 0), .pv (.int .i64 0), .nil 6]⟩,
 ⟨.scalar,1,8,[.pv .nilfn]⟩,
 ⟨.scalar,1,8,[.pv .nilfn]⟩,
 ⟨(.slice 54),1,24,[.nil 0]⟩,
 ⟨(.struct [(28,0),(38,1)]),2,48,[.nil 0, .nil 0]⟩,
 ⟨(.struct [(28,0),(38,1)]),2,48,[.nil 0, .nil 0]⟩,
 ⟨.other,1,0,[]⟩,
 ⟨.scalar,1,8,[.pv .nilfn]⟩,
 ⟨.scalar,1,8,[.pv .nilfn]⟩,
 ⟨.scalar,1,8,[.pv .nilfn]⟩,
 ⟨(.struct [(3,0),(3,1)]),2,16,[.pv (.int .i64 0), .pv (.int .i64 0)]⟩,
 ⟨(.struct [(3,0),(3,1)]),2,16,[.pv (.int .i64 0), .pv (.int .i64 0)]⟩,
 ⟨(.struct [(3,0),(3,1),(46,2),(29,4)]),5,56,[.pv (.int .i64 0), .pv (.int .i64 0), .pv (.int .i64 0), .pv (.int .i64 0), .nil 6]⟩,
 ⟨(.struct [(3,0),(3,1),(46,2),(29,4)]),5,56,[.pv (.int .i64 0), .pv (.int .i64 0), .pv (.int .i64 0), .pv (.int .i64 0), .nil 6]⟩,
 ⟨.scalar,1,8,[.pv .nilfn]⟩,
 ⟨.scalar,1,8,[.pv .nilfn]⟩,
 ⟨.scalar,1,8,[.pv .nilfn]⟩,
 ⟨.scalar,1,8,[.pv .nilfn]⟩,
 ⟨.scalar,1,8,[.pv .nilfn]⟩,
 ⟨(.slice 46),1,24,[.nil 3]⟩,
 ⟨.scalar,1,8,[.pv .nilfn]⟩,
 ⟨(.slice 58),1,24,[.nil 3]⟩,
 ⟨(.struct [(3,0),(56,1)]),2,32,[.pv (.int .i64 0), .nil 3]⟩,
 ⟨(.struct [(3,0),(56,1)]),2,32,[.pv (.int .i64 0), .nil 3]⟩,
 ⟨.other,1,0,[]⟩,
 ⟨.scalar,1,8,[.pv .nilfn]⟩,
 ⟨.scalar,1,8,[.pv .nilfn]⟩,
 ⟨.scalar,1,8,[.pv .nilfn]⟩,
 ⟨.scalar,1,8,[.pv .nilfn]⟩,
 ⟨.scalar,1,8,[.pv .nilfn]⟩,
 ⟨.scalar,1,8,[.pv .nilfn]⟩,
 ⟨.scalar,1,8,[.pv .nilfn]⟩,
 ⟨.scalar,1,8,[.pv .nilfn]⟩,
 ⟨.scalar,1,8,[.pv .nilfn]⟩,
 ⟨.scalar,1,8,[.pv .nilfn]⟩,
 ⟨.scalar,1,8,[.pv .nilfn]⟩,
 ⟨.scalar,1,8,[.pv .nilfn]⟩,
 ⟨.scalar,1,8,[.pv .nilfn]⟩,
 ⟨.scalar,1,8,[.pv .nilfn]⟩,
 ⟨.scalar,1,8,[.pv .nilfn]⟩,
 ⟨.scalar,1,8,[.pv .nilfn]⟩,
 ⟨.scalar,1,8,[.pv .nilfn]⟩,
 ⟨.scalar,1,8,[.pv .nilfn]⟩,
 ⟨.scalar,1,8,[.pv .nilfn]⟩,
 ⟨(.struct [(35,0),(3,5),(4,6)]),7,72,[.pv (.int .i64 0), .pv (.int .i64 0), .pv (.int .i64 0), .pv (.int .i64 0), .nil 6, .pv (.int .i64 0), .pv (.bool false)]⟩,
 ⟨(.struct [(35,0),(3,5),(4,6)]),7,72,[.pv (.int .i64 0), .pv (.int .i64 0), .pv (.int .i64 0), .pv (.int .i64 0), .nil 6, .pv (.int .i64 0), .pv (.bool false)]⟩,
 ⟨.scalar,1,8,[.pv .nilfn]⟩,
 ⟨.scalar,1,8,[.pv .nilfn]⟩,
 ⟨.scalar,1,8,[.pv .nilfn]⟩,
 ⟨.scalar,1,8,[.pv .nilfn]⟩,
 ⟨.other,1,0,[]⟩,
 ⟨.scalar,1,8,[.pv .nilfn]⟩,
 ⟨.scalar,1,8,[.pv .nilfn]⟩,
 ⟨.scalar,1,8,[.pv .nilfn]⟩,
 ⟨.scalar,1,8,[.pv .nilfn]⟩,
 ⟨.scalar,1,8,[.pv .nilfn]⟩,
 ⟨(.struct [(24,0),(27,1),(31,2)]),8,160,[.nil 3, .nil 0, .nil 0, .nil 6, .pv (.int .i64 0), .nil 0, .nil 0, .pv (.int .i64 0)]⟩,
 ⟨(.struct [(24,0),(27,1),(31,2)]),8,160,[.nil 3, .nil 0, .nil 0, .nil 6, .pv (.int .i64 0), .nil 0, .nil 0, .pv (.int .i64 0)]⟩,
 ⟨.scalar,1,8,[.pv .nilfn]⟩,
 ⟨.scalar,1,8,[.pv .nilfn]⟩,
 ⟨(.map 9 3),1,8,[.pv (.con (.map none))]⟩,
 ⟨.scalar,1,8,[.pv .nilfn]⟩,
 ⟨.scalar,1,8,[.pv .nilfn]⟩,
 ⟨.scalar,1,8,[.pv .nilfn]⟩,
 ⟨.scalar,1,8,[.pv .nilfn]⟩,
 ⟨(.arr 2 3),2,16,[.pv (.int .i64 0), .pv (.int .i64 0)]⟩,
 ⟨.scalar,1,8,[.pv .nilfn]⟩,
 ⟨.scalar,1,8,[.pv .nilfn]⟩,
 ⟨.scalar,1,8,[.pv .nilfn]⟩,
 ⟨.scalar,1,8,[.pv .nilfn]⟩,
 ⟨.scalar,1,8,[.pv .nilfn]⟩,
 ⟨.scalar,1,8,[.pv .nilfn]⟩,
 ⟨.scalar,1,8,[.pv .nilfn]⟩,
 ⟨.scalar,1,8,[.pv .nilfn]⟩,
 ⟨.scalar,1,8,[.pv .nilfn]⟩,
 ⟨.scalar,1,8,[.pv .nilfn]⟩,
 ⟨.scalar,1,8,[.pv .nilfn]⟩,
 ⟨.scalar,1,8,[.pv .nilfn]⟩,
 ⟨.scalar,1,8,[.pv .nilfn]⟩,
 ⟨.scalar,1,8,[.pv .nilfn]⟩,
 ⟨.scalar,1,8,[.pv .nilfn]⟩,
 ⟨.scalar,1,8,[.pv .nilfn]⟩,
 ⟨.scalar,1,8,[.pv .nilfn]⟩,
 ⟨.scalar,1,8,[.pv .nilfn]⟩,
 ⟨.scalar,1,8,[.pv .nilfn]⟩,
 ⟨.scalar,1,8,[.pv .nilfn]⟩,
 ⟨.scalar,1,8,[.pv .nilfn]⟩,
 ⟨.scalar,1,8,[.pv .nilfn]⟩,
 ⟨(.int .i64),1,8,[.pv (.int .i64 0)]⟩,
 ⟨.other,1,0,[]⟩,
 ⟨.scalar,1,8,[.pv .nilfn]⟩,
 ⟨.scalar,1,8,[.pv .nilfn]⟩,
 ⟨.scalar,1,8,[.pv .nilfn]⟩,
 ⟨.scalar,1,8,[.pv .nilfn]⟩,
 ⟨.scalar,1,8,[.pv .nilfn]⟩,
 ⟨.scalar,1,8,[.pv .nilfn]⟩,
 ⟨(.arr 16 4),16,16,[.pv (.bool false), .pv (.bool false), .pv (.bool false), .pv (.bool false), .pv (.bool false), .pv (.bool false), .pv (.bool false), .pv (.bool false), .pv (.bool false), .pv (.bool false), .pv (.bool false), .pv (.bool false), .pv (.bool false), .pv (.bool false), .pv (.bool false), .pv (.bool false)]⟩,
 ⟨.scalar,1,8,[.pv .nilfn]⟩,
 ⟨.scalar,1,8,[.pv .nilfn]⟩,
 ⟨.scalar,1,8,[.pv .nilfn]⟩,
 ⟨.scalar,1,8,[.pv .nilfn]⟩,
 ⟨.scalar,1,8,[.pv .nilfn]⟩,
 ⟨.scalar,1,8,[.pv .nilfn]⟩,
 ⟨.scalar,1,8,[.pv .nilfn]⟩,
 ⟨.scalar,1,8,[.pv .nilfn]⟩,
 ⟨(.struct [(3,0),(3,1)]),2,16,[.pv (.int .i64 0), .pv (.int .i64 0)]⟩,
 ⟨(.struct [(3,0),(3,1)]),2,16,[.pv (.int .i64 0), .pv (.int .i64 0)]⟩,
 ⟨.scalar,1,8,[.pv .nilfn]⟩,
 ⟨(.struct [(35,0)]),5,56,[.pv (.int .i64 0), .pv (.int .i64 0), .pv (.int .i64 0), .pv (.int .i64 0), .nil 6]⟩,
 ⟨(.struct [(35,0)]),5,56,[.pv (.int .i64 0), .pv (.int .i64 0), .pv (.int .i64 0), .pv (.int .i64 0), .nil 6]⟩,
 ⟨.scalar,1,8,[.pv .nilfn]⟩,
 ⟨.scalar,1,8,[.pv .nilfn]⟩,
 ⟨.scalar,1,8,[.pv .nilfn]⟩,
 ⟨.scalar,1,8,[.pv .nilfn]⟩,
 ⟨.scalar,1,8,[.pv .nilfn]⟩,
 ⟨.scalar,1,8,[.pv (.con (.pointer none))]⟩,
 ⟨(.slice 5),1,24,[.nil 0]⟩,
 ⟨(.struct [(150,0),(151,1)]),2,32,[.pv (.con (.pointer none)), .nil 0]⟩,
 ⟨(.struct [(150,0),(151,1)]),2,32,[.pv (.con (.pointer none)), .nil 0]⟩,
 ⟨.scalar,1,16,[.pv (.con .nilIface)]⟩,
 ⟨.scalar,1,16,[.pv (.con .nilIface)]⟩,
 ⟨.other,1,0,[]⟩,
 ⟨.scalar,1,8,[.pv .nilfn]⟩,
 ⟨.scalar,1,8,[.pv .nilfn]⟩,
 ⟨.scalar,1,8,[.pv .nilfn]⟩,
 ⟨.scalar,1,8,[.pv .nilfn]⟩,
 ⟨.scalar,1,8,[.pv .nilfn]⟩,
 ⟨.other,0,0,[]⟩,
 ⟨.other,0,0,[]⟩,
 ⟨.scalar,1,8,[.pv .nilfn]⟩,
 ⟨.scalar,1,8,[.pv .nilfn]⟩,
 ⟨.scalar,1,8,[.pv .nilfn]⟩,
 ⟨.scalar,1,8,[.pv .nilfn]⟩,
 ⟨.scalar,1,8,[.pv .nilfn]⟩,
 ⟨.scalar,1,8,[.pv .nilfn]⟩,
 ⟨.scalar,1,8,[.pv .nilfn]⟩,
 ⟨.scalar,1,8,[.pv .nilfn]⟩,
 ⟨.scalar,1,8,[.pv .nilfn]⟩,
 ⟨.scalar,1,8,[.pv .nilfn]⟩,
 ⟨.scalar,1,8,[.pv .nilfn]⟩,
 ⟨.scalar,1,8,[.pv .nilfn]⟩,
 ⟨(.map 100 38),1,8,[.pv (.con (.map none))]⟩,
 ⟨(.slice 100),1,24,[.nil 3]⟩,
 ⟨.scalar,1,8,[.pv .nilfn]⟩,
 ⟨.scalar,1,8,[.pv .nilfn]⟩,
 ⟨.scalar,1,8,[.pv .nilfn]⟩,
 ⟨.scalar,1,8,[.pv .nilfn]⟩,
 ⟨(.slice 4),1,24,[.nil 0]⟩,
 ⟨.scalar,1,8,[.pv .nilfn]⟩,
 ⟨.scalar,1,8,[.pv .nilfn]⟩,
 ⟨.scalar,1,8,[.pv .nilfn]⟩,
 ⟨.scalar,1,8,[.pv .nilfn]⟩,
 ⟨.scalar,1,8,[.pv .nilfn]⟩,
 ⟨.scalar,1,8,[.pv .nilfn]⟩,
 ⟨.scalar,1,8,[.pv .nilfn]⟩,
 ⟨.scalar,1,8,[.pv .nilfn]⟩,
 ⟨.scalar,1,8,[.pv .nilfn]⟩,
 ⟨(.slice 32),1,24,[.nil 3]⟩,
 ⟨.scalar,1,8,[.pv .nilfn]⟩,
 ⟨.scalar,1,8,[.pv .nilfn]⟩,
 ⟨(.map 196 38),1,8,[.pv (.con (.map none))]⟩,
 ⟨(.arr 2 3),2,16,[.pv (.int .i64 0), .pv (.int .i64 0)]⟩,
 ⟨.other,1,0,[]⟩,
 ⟨.scalar,1,8,[.pv .nilfn]⟩,
 ⟨.scalar,1,8,[.pv .nilfn]⟩,
 ⟨.scalar,1,8,[.pv .nilfn]⟩,
 ⟨.scalar,1,8,[.pv .nilfn]⟩,
 ⟨.scalar,1,8,[.pv (.con (.pointer none))]⟩,
 ⟨(.slice 28),1,24,[.nil 0]⟩,
 ⟨.scalar,1,8,[.pv .nilfn]⟩,
 ⟨.scalar,1,8,[.pv .nilfn]⟩,
 ⟨.scalar,1,8,[.pv .nilfn]⟩,
 ⟨.scalar,1,8,[.pv .nilfn]⟩,
 ⟨.scalar,1,8,[.pv .nilfn]⟩,
 ⟨(.int .u64),1,8,[.pv (.int .u64 0)]⟩,
 ⟨.scalar,1,8,[.pv .nilfn]⟩,
 ⟨.other,1,0,[]⟩,
 ⟨.scalar,1,8,[.pv .nilfn]⟩,
 ⟨.scalar,1,8,[.pv .nilfn]⟩,
 ⟨.scalar,1,8,[.pv .nilfn]⟩,
 ⟨.scalar,1,8,[.pv .nilfn]⟩,
 ⟨.scalar,1,8,[.pv .nilfn]⟩,
 ⟨(.int .u64),1,8,[.pv (.int .u64 0)]⟩,
 ⟨.other,1,0,[]⟩,
 ⟨.scalar,1,8,[.pv .nilfn]⟩,
 ⟨.scalar,1,8,[.pv .nilfn]⟩,
 ⟨.scalar,1,8,[.pv .nilfn]⟩,
 ⟨.scalar,1,8,[.pv .nilfn]⟩,
 ⟨.scalar,1,8,[.pv .nilfn]⟩,
 ⟨.scalar,1,8,[.pv .nilfn]⟩,
 ⟨.other,1,0,[]⟩,
 ⟨.scalar,1,8,[.pv .nilfn]⟩,
 ⟨.scalar,1,8,[.pv .nilfn]⟩,
 ⟨.other,1,0,[]⟩,
 ⟨.scalar,1,8,[.pv .nilfn]⟩,
 ⟨.scalar,1,8,[.pv .nilfn]⟩,
 ⟨.other,1,8,[]⟩,
 ⟨.scalar,1,8,[.pv .nilfn]⟩,
 ⟨.scalar,1,8,[.pv .nilfn]⟩,
 ⟨.scalar,1,8,[.pv .nilfn]⟩,
 ⟨(.struct [(3,0),(3,1),(181,2)]),3,24,[.pv (.int .i64 0), .pv (.int .i64 0), .pv .nilfn]⟩,
 ⟨(.struct [(3,0),(3,1),(181,2)]),3,24,[.pv (.int .i64 0), .pv (.int .i64 0), .pv .nilfn]⟩,
 ⟨.scalar,1,8,[.pv .nilfn]⟩,
 ⟨.scalar,1,8,[.pv .nilfn]⟩,
 ⟨(.int .i64),1,8,[.pv (.int .i64 0)]⟩,
 ⟨.other,1,0,[]⟩,
 ⟨.scalar,1,8,[.pv .nilfn]⟩,
 ⟨.scalar,1,8,[.pv .nilfn]⟩,
 ⟨.scalar,1,8,[.pv .nilfn]⟩,
 ⟨.scalar,1,8,[.pv .nilfn]⟩,
 ⟨.scalar,1,8,[.pv .nilfn]⟩,
 ⟨(.int .u32),1,4,[.pv (.int .u32 0)]⟩,
 ⟨.scalar,1,8,[.pv .nilfn]⟩,
 ⟨.scalar,1,8,[.pv .nilfn]⟩,
 ⟨.scalar,1,8,[.pv .nilfn]⟩,
 ⟨.scalar,1,8,[.pv .nilfn]⟩,
 ⟨.scalar,1,8,[.pv .nilfn]⟩,
 ⟨.scalar,1,8,[.pv .nilfn]⟩,
 ⟨.scalar,1,8,[.pv .nilfn]⟩,
 ⟨(.arr 24 5),24,24,[.pv (.int .u8 0), .pv (.int .u8 0), .pv (.int .u8 0), .pv (.int .u8 0), .pv (.int .u8 0), .pv (.int .u8 0), .pv (.int .u8 0), .pv (.int .u8 0), .pv (.int .u8 0), .pv (.int .u8 0), .pv (.int .u8 0), .pv (.int .u8 0), .pv (.int .u8 0), .pv (.int .u8 0), .pv (.int .u8 0), .pv (.int .u8 0), .pv (.int .u8 0), .pv (.int .u8 0), .pv (.int .u8 0), .pv (.int .u8 0), .pv (.int .u8 0), .pv (.int .u8 0), .pv (.int .u8 0), .pv (.int .u8 0)]⟩,
 ⟨.scalar,1,8,[.pv .nilfn]⟩,
 ⟨.other,1,0,[]⟩,
 ⟨.scalar,1,8,[.pv .nilfn]⟩,
 ⟨.scalar,1,8,[.pv .nilfn]⟩,
 ⟨(.int .u64),1,8,[.pv (.int .u64 0)]⟩,
 ⟨.scalar,1,8,[.pv .nilfn]⟩,
 ⟨.scalar,1,8,[.pv .nilfn]⟩,
 ⟨.scalar,1,8,[.pv .nilfn]⟩,
 ⟨.scalar,1,8,[.pv (.con (.pointer none))]⟩,
 ⟨.scalar,1,8,[.pv .nilfn]⟩,
 ⟨.scalar,1,8,[.pv .nilfn]⟩,
 ⟨.scalar,1,8,[.pv .nilfn]⟩,
 ⟨.scalar,1,8,[.pv .nilfn]⟩,
 ⟨.scalar,1,8,[.pv .nilfn]⟩,
 ⟨(.arr 20 217),20,160,[.pv (.int .u64 0), .pv (.int .u64 0), .pv (.int .u64 0), .pv (.int .u64 0), .pv (.int .u64 0), .pv (.int .u64 0), .pv (.int .u64 0), .pv (.int .u64 0), .pv (.int .u64 0), .pv (.int .u64 0), .pv (.int .u64 0), .pv (.int .u64 0), .pv (.int .u64 0), .pv (.int .u64 0), .pv (.int .u64 0), .pv (.int .u64 0), .pv (.int .u64 0), .pv (.int .u64 0), .pv (.int .u64 0), .pv (.int .u64 0)]⟩,
 ⟨.other,65,65,[]⟩,
 ⟨.scalar,1,8,[.pv .nilfn]⟩,
 ⟨.scalar,1,8,[.pv .nilfn]⟩,
 ⟨.scalar,1,8,[.pv .nilfn]⟩,
 ⟨.scalar,1,8,[.pv .nilfn]⟩,
 ⟨.scalar,1,8,[.pv .nilfn]⟩,
 ⟨.scalar,1,8,[.pv (.con (.pointer none))]⟩,
 ⟨.other,1,0,[]⟩,
 ⟨.scalar,1,8,[.pv .nilfn]⟩,
 ⟨.scalar,1,8,[.pv .nilfn]⟩,
 ⟨.scalar,1,8,[.pv .nilfn]⟩,
 ⟨.scalar,1,8,[.pv .nilfn]⟩,
 ⟨(.arr 32 5),32,32,[.pv (.int .u8 0), .pv (.int .u8 0), .pv (.int .u8 0), .pv (.int .u8 0), .pv (.int .u8 0), .pv (.int .u8 0), .pv (.int .u8 0), .pv (.int .u8 0), .pv (.int .u8 0), .pv (.int .u8 0), .pv (.int .u8 0), .pv (.int .u8 0), .pv (.int .u8 0), .pv (.int .u8 0), .pv (.int .u8 0), .pv (.int .u8 0), .pv (.int .u8 0), .pv (.int .u8 0), .pv (.int .u8 0), .pv (.int .u8 0), .pv (.int .u8 0), .pv (.int .u8 0), .pv (.int .u8 0), .pv (.int .u8 0), .pv (.int .u8 0), .pv (.int .u8 0), .pv (.int .u8 0), .pv (.int .u8 0), .pv (.int .u8 0), .pv (.int .u8 0), .pv (.int .u8 0), .pv (.int .u8 0)]⟩,
 ⟨(.arr 64 5),64,64,[.pv (.int .u8 0), .pv (.int .u8 0), .pv (.int .u8 0), .pv (.int .u8 0), .pv (.int .u8 0), .pv (.int .u8 0), .pv (.int .u8 0), .pv (.int .u8 0), .pv (.int .u8 0), .pv (.int .u8 0), .pv (.int .u8 0), .pv (.int .u8 0), .pv (.int .u8 0), .pv (.int .u8 0), .pv (.int .u8 0), .pv (.int .u8 0), .pv (.int .u8 0), .pv (.int .u8 0), .pv (.int .u8 0), .pv (.int .u8 0), .pv (.int .u8 0), .pv (.int .u8 0), .pv (.int .u8 0), .pv (.int .u8 0), .pv (.int .u8 0), .pv (.int .u8 0), .pv (.int .u8 0), .pv (.int .u8 0), .pv (.int .u8 0), .pv (.int .u8 0), .pv (.int .u8 0), .pv (.int .u8 0), .pv (.int .u8 0), .pv (.int .u8 0), .pv (.int .u8 0), .pv (.int .u8 0), .pv (.int .u8 0), .pv (.int .u8 0), .pv (.int .u8 0), .pv (.int .u8 0), .pv (.int .u8 0), .pv (.int .u8 0), .pv (.int .u8 0), .pv (.int .u8 0), .pv (.int .u8 0), .pv (.int .u8 0), .pv (.int .u8 0), .pv (.int .u8 0), .pv (.int .u8 0), .pv (.int .u8 0), .pv (.int .u8 0), .pv (.int .u8 0), .pv (.int .u8 0), .pv (.int .u8 0), .pv (.int .u8 0), .pv (.int .u8 0), .pv (.int .u8 0), .pv (.int .u8 0), .pv (.int .u8 0), .pv (.int .u8 0), .pv (.int .u8 0), .pv (.int .u8 0), .pv (.int .u8 0), .pv (.int .u8 0)]⟩,
 ⟨.other,4,40,[]⟩,
 ⟨.other,4,40,[]⟩,
 ⟨.other,0,0,[]⟩,
 ⟨.other,0,0,[]⟩,
 ⟨.other,0,0,[]⟩,
 ⟨(.int .u8),1,1,[.pv (.int .u8 0)]⟩,
 ⟨(.int .u8),1,1,[.pv (.int .u8 0)]⟩,
 ⟨.scalar,1,8,[.pv .nilfn]⟩,
 ⟨(.int .i32),1,4,[.pv (.int .i32 0)]⟩,
 ⟨(.int .i32),1,4,[.pv (.int .i32 0)]⟩,
 ⟨.other,11,48,[]⟩,
 ⟨.other,11,48,[]⟩]
def h10:Hint:=⟨4,⟨[],[],[],[],[],[]⟩,[(8,[4,5,6,7,11,12,13,14])],[(8,[4,5,6,7,11,12,13])],[],[(5,[4,5,6,7]),(13,[4,5,6,11]),(19,[4,5,6,15,17])]⟩
noncomputable def fi10:FnI:=mkFn Tryz.f10 h10
def h16:Hint:=⟨2,⟨[],[],[],[],[],[]⟩,[(5,[2,3,5,27,28]),(11,[51])],[(5,[5]),(11,[4])],[],[(3,[2,3])]⟩
noncomputable def fi16:FnI:=zUj Tryz.f16 h16 3 5
def h17:Hint:=⟨2,⟨[],[12,13],[],[],[],[]⟩,[],[],[],[]⟩
noncomputable def fi17:FnI:=mkFn Tryz.f17 h17
def h18:Hint:=⟨0,⟨[],[],[],[],[],[]⟩,[],[],[],[]⟩
noncomputable def fi18:FnI:=mkFn Tryz.f18 h18
def h19:Hint:=⟨3,⟨[],[],[],[],[],[]⟩,[],[],[],[]⟩
noncomputable def fi19:FnI:=mkFn Tryz.f19 h19
def h20:Hint:=⟨2,⟨[],[],[],[],[],[]⟩,[(5,[2,5,6])],[(5,[4])],[],[(4,[2,5])]⟩
noncomputable def fi20:FnI:=mkFn Tryz.f20 h20
def h21:Hint:=⟨3,⟨[],[],[],[],[],[]⟩,[],[],[],[(3,[3,4,5,6])]⟩
noncomputable def fi21:FnI:=mkFn Tryz.f21 h21
def h22:Hint:=⟨2,⟨[],[],[],[],[],[]⟩,[(6,[3,6,43,44,45])],[(6,[3,4,6])],[],[(4,[2,3]),(14,[3,10])]⟩
noncomputable def fi22:FnI:=mkFn Tryz.f22 h22
def h23:Hint:=⟨2,⟨[],[],[],[],[],[]⟩,[(4,[0,1,5])],[(4,[4])],[],[]⟩
noncomputable def fi23:FnI:=mkFn Tryz.f23 h23
def h25:Hint:=⟨4,⟨[],[36,37,38],[],[],[],[]⟩,[],[],[],[(3,[4,5,6,7,8])]⟩
noncomputable def fi25:FnI:=mkFn Tryz.f25 h25
def h28:Hint:=⟨1,⟨[],[],[],[],[],[]⟩,[],[],[],[]⟩
noncomputable def fi28:FnI:=mkFn Tryz.f28 h28
def h29:Hint:=⟨2,⟨[],[],[],[],[],[]⟩,[(3,[1,2,5,6])],[(3,[5])],[],[(5,[1,2,5,6])]⟩
noncomputable def fi29:FnI:=mkFn Tryz.f29 h29
def h32:Hint:=⟨2,⟨[],[],[],[],[],[]⟩,[],[],[],[]⟩
noncomputable def fi32:FnI:=mkFn Tryz.f32 h32
def h35:Hint:=⟨2,⟨[],[],[],[],[],[]⟩,[(5,[2,3,6])],[(5,[4])],[],[(4,[2,3])]⟩
noncomputable def fi35:FnI:=mkFn Tryz.f35 h35
def h36:Hint:=⟨4,⟨[],[],[],[],[],[]⟩,[],[],[],[]⟩
noncomputable def fi36:FnI:=mkFn Tryz.f36 h36
def h39:Hint:=⟨2,⟨[6,10,13,42,66,72],[],[],[],[],[]⟩,[(5,[1,2,4,6,26,27,28]),(14,[4,6,10,48,49,50]),(18,[4,6,10,12,13,48,49,50,54,55,56])],[(5,[1,2,4,5,6]),(14,[4,10]),(18,[4,6,10,13,48,49,50])],[(22,[26]),(24,[20])],[(3,[1,2,4])]⟩
noncomputable def fi39:FnI:=mkFn Tryz.f39 h39
def h40:Hint:=⟨2,⟨[],[],[],[],[],[]⟩,[],[],[],[]⟩
noncomputable def fi40:FnI:=mkFn Tryz.f40 h40
def h41:Hint:=⟨1,⟨[3],[],[],[],[],[]⟩,[(3,[1,3,10,11,12]),(11,[1,6,31,32,33])],[(3,[1,2]),(11,[1,2])],[],[]⟩
noncomputable def fi41:FnI:=mkFn Tryz.f41 h41
def h42:Hint:=⟨2,⟨[],[],[],[],[],[]⟩,[],[],[],[]⟩
noncomputable def fi42:FnI:=mkFn Tryz.f42 h42
def h43:Hint:=⟨2,⟨[5],[8,15,16],[8],[(8,[(.agg [.pv (.slice 0 []), .view 0 0 none],[.row false 0 0 []])])],[16],[]⟩,[],[],[(3,[]),(4,[])],[]⟩
noncomputable def fi43:FnI:=mkFn Tryz.f43 h43
def h46:Hint:=⟨0,⟨[],[],[],[],[],[]⟩,[],[],[],[]⟩
noncomputable def fi46:FnI:=mkFn Tryz.f46 h46
def h50:Hint:=⟨2,⟨[],[28,35],[],[],[],[]⟩,[(4,[2,21,22,23])],[(4,[4])],[],[(3,[2,3])]⟩
noncomputable def fi50:FnI:=mkFn Tryz.f50 h50
def h52:Hint:=⟨2,⟨[],[],[],[],[],[]⟩,[(4,[0,1,12,13])],[(4,[4])],[],[]⟩ -- slices.Equal[[]int,int]
noncomputable def fi52:FnI:=mkFn Tryz.f52 h52
def h53:Hint:=⟨1,⟨[],[21,23],[],[],[],[]⟩,[(3,[3,6,7,8])],[(3,[3])],[],[]⟩
noncomputable def fi53:FnI:=mkFn Tryz.f53 h53
def h54:Hint:=⟨2,⟨[],[],[],[],[],[]⟩,[(2,[0,1,7,8])],[(2,[4])],[],[]⟩ -- slices.Index[[]int,int]
noncomputable def fi54:FnI:=mkFn Tryz.f54 h54
def h55:Hint:=⟨2,⟨[],[23],[],[],[],[]⟩,[(2,[0,1,5])],[(2,[4])],[],[]⟩ -- slices.IsSortedFunc[[][]roadbook/api.Val,[]roadbook/api.Val]
noncomputable def fi55:FnI:=mkFn Tryz.f55 h55
def h56:Hint:=⟨3,⟨[],[],[],[],[],[]⟩,[],[],[],[]⟩
noncomputable def fi56:FnI:=mkFn Tryz.f56 h56
def h57:Hint:=⟨2,⟨[],[],[],[],[],[]⟩,[],[],[],[]⟩
noncomputable def fi57:FnI:=mkFn Tryz.f57 h57
def h58:Hint:=⟨2,⟨[],[],[],[],[],[]⟩,[],[],[],[(3,[0,1,4]),(6,[4,5])]⟩
noncomputable def fi58:FnI:=mkFn Tryz.f58 h58
def h59:Hint:=⟨2,⟨[],[],[],[],[],[]⟩,[],[],[],[]⟩
noncomputable def fi59:FnI:=mkFn Tryz.f59 h59
def h60:Hint:=⟨1,⟨[],[],[],[],[],[]⟩,[],[],[],[]⟩
noncomputable def fi60:FnI:=mkFn Tryz.f60 h60
def h61:Hint:=⟨1,⟨[],[],[],[],[],[]⟩,[],[],[],[]⟩
noncomputable def fi61:FnI:=mkFn Tryz.f61 h61
def h62:Hint:=⟨3,⟨[],[],[],[],[],[]⟩,[(3,[0,1,2,3,4,5])],[(3,[2,3,4])],[],[]⟩
noncomputable def fi62:FnI:=mkFn Tryz.f62 h62
def h63:Hint:=⟨2,⟨[],[],[],[],[],[]⟩,[],[],[],[]⟩
noncomputable def fi63:FnI:=mkFn Tryz.f63 h63
def h64:Hint:=⟨4,⟨[10,45],[],[],[],[],[]⟩,[(5,[2,3,5,8,10,36,37])],[(5,[2,5,8,10])],[(9,[20])],[(3,[2,3,4,5,8])]⟩
noncomputable def fi64:FnI:=mkFn Tryz.f64 h64
def h65:Hint:=⟨2,⟨[6,65],[],[],[],[],[]⟩,[(5,[3,4,6,45,46,47]),(8,[3,4,6,8,45,46,47,52,53,54])],[(5,[4,6]),(8,[3,4,6,45,46,47])],[(2,[12]),(13,[12])],[(4,[2,3,4,6])]⟩
noncomputable def fi65:FnI:=mkFn Tryz.f65 h65
def h66:Hint:=⟨2,⟨[],[],[],[],[],[]⟩,[],[],[],[]⟩
noncomputable def fi66:FnI:=mkFn Tryz.f66 h66
def h67:Hint:=⟨1,⟨[],[],[],[],[],[]⟩,[],[],[],[]⟩
noncomputable def fi67:FnI:=mkFn Tryz.f67 h67
def h68:Hint:=⟨2,⟨[],[],[],[],[],[]⟩,[],[],[],[]⟩ -- slices.ContainsFunc[[]int,int]
noncomputable def fi68:FnI:=mkFn Tryz.f68 h68
def h69:Hint:=⟨3,⟨[7,52],[],[],[],[],[]⟩,[(3,[2,3,4,7,14,15]),(8,[2,3,4,7,8,14,15,43,44])],[(3,[7]),(8,[2,3,4,7,14,15])],[],[(7,[2,3,4,7,8,9,14,15])]⟩
noncomputable def fi69:FnI:=mkFn Tryz.f69 h69
def h70:Hint:=⟨1,⟨[],[],[],[],[],[]⟩,[],[],[],[]⟩
noncomputable def fi70:FnI:=mkFn Tryz.f70 h70
def h71:Hint:=⟨1,⟨[3],[8,9,11,13],[],[(13,[(.pv .undef,[.dead])])],[11],[]⟩,[],[],[(4,[]),(5,[]),(6,[])],[]⟩
noncomputable def fi71:FnI:=mkFn Tryz.f71 h71
def h72:Hint:=⟨2,⟨[],[],[],[],[],[]⟩,[],[],[],[]⟩
noncomputable def fi72:FnI:=mkFn Tryz.f72 h72
def h73:Hint:=⟨1,⟨[],[5,7,9],[5],[(5,[(.view 0 0 none,[.row false 0 0 []])]),(9,[(.pv .undef,[.dead])])],[7],[]⟩,[],[],[(2,[]),(3,[])],[]⟩
noncomputable def fi73:FnI:=mkFn Tryz.f73 h73
def h74:Hint:=⟨2,⟨[],[],[],[],[],[]⟩,[],[],[],[]⟩ -- slices.Contains[[]int,int]
noncomputable def fi74:FnI:=mkFn Tryz.f74 h74
def h77:Hint:=⟨1,⟨[],[],[],[],[],[]⟩,[],[],[],[]⟩
noncomputable def fi77:FnI:=mkFn Tryz.f77 h77
def h78:Hint:=⟨5,⟨[],[41,47],[],[],[],[8,9,41,47]⟩,[],[],[],[]⟩
noncomputable def fi78:FnI:=mkFn Tryz.f78 h78
def h79:Hint:=⟨2,⟨[5,21],[],[],[],[],[]⟩,[(3,[2,5,8,9,10])],[(3,[5])],[],[]⟩
noncomputable def fi79:FnI:=mkFn Tryz.f79 h79
def h80:Hint:=⟨3,⟨[],[16,17],[],[],[],[]⟩,[],[],[],[]⟩
noncomputable def fi80:FnI:=mkFn Tryz.f80 h80
def h81:Hint:=⟨2,⟨[],[5],[],[],[],[]⟩,[],[],[],[]⟩
noncomputable def fi81:FnI:=mkFn Tryz.f81 h81
def h83:Hint:=⟨2,⟨[],[],[],[],[],[]⟩,[],[],[],[(4,[1,2,11]),(7,[2,6])]⟩
noncomputable def fi83:FnI:=mkFn Tryz.f83 h83
def h87:Hint:=⟨3,⟨[11,15,19,23,49,68,71,75,81,93,112,137,143,149],[79],[],[],[79],[]⟩,[(8,[1,2,3,6,8,10,11,51,52,53]),(18,[2,3,6,10,11,15,84,85]),(23,[2,3,6,10,15,96,97,98]),(27,[2,3,6,10,15,18,19,96,97,98,113,114,115]),(32,[2,3,6,10,15,18,19,22,23,96,97,98,113,114,115,125,126,127])],[(8,[1,2,3,6,10,11]),(18,[2,3,6,10,11,15]),(23,[6,15]),(27,[2,3,6,10,15,19,96,97,98]),(32,[2,3,6,10,15,18,19,23,96,97,98,113,114,115])],[(15,[]),(36,[46]),(38,[38]),(40,[30])],[(5,[1,2,3,6,8]),(13,[1,2,3,6,8,10,11,13,14,51,52,53])]⟩
noncomputable def fi87:FnI:=mkFn Tryz.f87 h87
def h93:Hint:=⟨2,⟨[],[],[],[],[],[]⟩,[(4,[0,1,5])],[(4,[4])],[],[]⟩
noncomputable def fi93:FnI:=mkFn Tryz.f93 h93
def h96:Hint:=⟨1,⟨[2,5,7],[],[],[],[],[]⟩,[],[],[],[]⟩ -- slices.Clone[[]int,int]
noncomputable def fi96:FnI:=mkFn Tryz.f96 h96
def h97:Hint:=⟨2,⟨[5,23],[19],[],[],[],[]⟩,[(3,[1,5,9,10,11])],[(3,[5])],[],[]⟩
noncomputable def fi97:FnI:=mkFn Tryz.f97 h97
def h98:Hint:=⟨2,⟨[],[],[],[],[],[]⟩,[],[],[],[]⟩
noncomputable def fi98:FnI:=mkFn Tryz.f98 h98
def h99:Hint:=⟨1,⟨[],[],[],[],[],[]⟩,[],[],[],[]⟩
noncomputable def fi99:FnI:=mkFn Tryz.f99 h99
def h100:Hint:=⟨1,⟨[],[],[],[],[],[]⟩,[],[],[],[]⟩
noncomputable def z12:FnI:=mkFn Tryz.f100 h100
def h101:Hint:=⟨2,⟨[],[],[],[],[],[]⟩,[],[],[],[]⟩ -- slices.ContainsFunc[[]roadbook/api.Val,roadbook/api.Val]
noncomputable def z13:FnI:=mkFn Tryz.f101 h101
def h102:Hint:=⟨2,⟨[5,27],[],[],[],[],[]⟩,[(3,[1,4,5,13,14,15])],[(3,[4,5])],[(8,[])],[]⟩
noncomputable def zSV:FnI:=mkFn Tryz.f102 h102
def h103:Hint:=⟨3,⟨[],[],[],[],[],[]⟩,[],[],[],[]⟩
noncomputable def z14:FnI:=mkFn Tryz.f103 h103
def h104:Hint:=⟨2,⟨[],[],[],[],[],[]⟩,[],[],[],[]⟩ -- slices.ContainsFunc[[]roadbook/api.Expr,roadbook/api.Expr]
noncomputable def z15:FnI:=mkFn Tryz.f104 h104
def h105:Hint:=⟨3,⟨[],[],[],[],[],[]⟩,[],[],[],[]⟩
noncomputable def z16:FnI:=mkFn Tryz.f105 h105
def h106:Hint:=⟨3,⟨[],[],[],[],[],[]⟩,[],[],[],[]⟩
noncomputable def z17:FnI:=mkFn Tryz.f106 h106
def h107:Hint:=⟨1,⟨[],[],[],[],[],[]⟩,[],[],[],[]⟩
noncomputable def z18:FnI:=mkFn Tryz.f107 h107
def h108:Hint:=⟨2,⟨[],[8],[],[],[],[]⟩,[],[],[],[]⟩ -- slices.SortStableFunc[[][]roadbook/api.Val,[]roadbook/api.Val]
noncomputable def z19:FnI:=mkFn Tryz.f108 h108
def h109:Hint:=⟨3,⟨[],[],[],[],[],[]⟩,[],[],[],[]⟩
noncomputable def z1a:FnI:=mkFn Tryz.f109 h109
def h113:Hint:=⟨3,⟨[],[],[],[],[],[]⟩,[],[],[],[]⟩
noncomputable def z1b:FnI:=mkFn Tryz.f113 h113
def h114:Hint:=⟨2,⟨[],[],[],[],[],[]⟩,[],[],[],[]⟩
noncomputable def z1c:FnI:=mkFn Tryz.f114 h114
def h115:Hint:=⟨2,⟨[],[7],[],[],[],[]⟩,[],[],[],[]⟩ -- slices.ContainsFunc[[][]roadbook/api.Val,[]roadbook/api.Val]
noncomputable def z1d:FnI:=mkFn Tryz.f115 h115
def h124:Hint:=⟨2,⟨[],[],[],[],[],[]⟩,[(2,[0,1,9,10,11])],[(2,[0,1,4])],[],[]⟩ -- slices.Compare[[]int,int]
noncomputable def zY1:FnI:=mkFn Tryz.f124 h124
def h125:Hint:=⟨2,⟨[],[],[],[],[],[]⟩,[(3,[3,5,6])],[(3,[5])],[],[(2,[3,5]),(5,[3,6])]⟩
noncomputable def zQh:FnI:=mkFn Tryz.f125 h125
def h126:Hint:=⟨1,⟨[],[],[],[],[],[]⟩,[(3,[1,3,4]),(7,[1,3,4,5])],[(3,[3]),(7,[1,3,4])],[],[(5,[1,4]),(9,[1,4,5])]⟩
noncomputable def zNi:FnI:=mkFn Tryz.f126 h126
def h128:Hint:=⟨3,⟨[],[],[],[],[],[]⟩,[],[],[],[]⟩
noncomputable def z1e:FnI:=mkFn Tryz.f128 h128
def h129:Hint:=⟨2,⟨[],[],[],[],[],[]⟩,[],[],[],[(3,[0,1])]⟩
noncomputable def zY2:FnI:=mkFn Tryz.f129 h129
def h130:Hint:=⟨1,⟨[6,24,33],[24],[24],[(24,[(.view 0 0 none,[.row false 0 0 []])])],[],[]⟩,[(3,[0,3,9,10,11]),(11,[6,25,26,27])],[(3,[0,3]),(11,[6])],[],[]⟩ -- slices.Concat[[]int,int]
noncomputable def zUm:FnI:=mkFn Tryz.f130 h130
def h131:Hint:=⟨1,⟨[6,24,33],[24],[24],[(24,[(.view 0 0 none,[.row false 0 3 []])])],[],[]⟩,[(3,[0,3,9,10,11]),(11,[6,25,26,27])],[(3,[0,3]),(11,[6])],[],[]⟩ -- slices.Concat[[]roadbook/api.Val,roadbook/api.Val]
noncomputable def zUn:FnI:=mkFn Tryz.f131 h131
def h132:Hint:=⟨2,⟨[],[],[],[],[],[]⟩,[],[],[],[]⟩ -- slices.ContainsFunc[[]roadbook/api.Def,roadbook/api.Def]
noncomputable def z1f:FnI:=mkFn Tryz.f132 h132
def h133:Hint:=⟨1,⟨[],[],[],[],[],[]⟩,[],[],[],[]⟩
noncomputable def z1g:FnI:=mkFn Tryz.f133 h133
def h134:Hint:=⟨1,⟨[],[],[],[],[],[]⟩,[],[],[],[]⟩
noncomputable def z1h:FnI:=mkFn Tryz.f134 h134
def h135:Hint:=⟨2,⟨[],[],[],[],[],[]⟩,[(2,[0,1,7,8])],[(2,[4])],[],[]⟩ -- slices.IndexFunc[[]int,int]
noncomputable def zY3:FnI:=mkFn Tryz.f135 h135
def h136:Hint:=⟨1,⟨[],[5,6],[],[],[],[]⟩,[],[],[],[]⟩
noncomputable def z1i:FnI:=mkFn Tryz.f136 h136
def h137:Hint:=⟨3,⟨[],[12,25],[],[],[],[]⟩,[(4,[1,2,15,16,17])],[(4,[6])],[],[]⟩
noncomputable def zSW:FnI:=mkFn Tryz.f137 h137
def h138:Hint:=⟨3,⟨[2,13],[],[],[],[],[]⟩,[],[],[],[]⟩
noncomputable def z1j:FnI:=mkFn Tryz.f138 h138
def h139:Hint:=⟨1,⟨[],[],[],[],[],[]⟩,[],[],[],[]⟩ -- slices.Sort[[]int,int]
noncomputable def z3N:FnI:=mkFn Tryz.f139 h139
def h140:Hint:=⟨1,⟨[0],[],[],[],[],[]⟩,[(4,[0,3]),(9,[0,3,4,5])],[(4,[0,2]),(9,[0,3])],[],[]⟩ -- slices.Compact[[]int,int]
noncomputable def z3O:FnI:=mkFn Tryz.f140 h140
def h141:Hint:=⟨2,⟨[],[],[],[],[],[]⟩,[],[],[],[]⟩
noncomputable def z1k:FnI:=mkFn Tryz.f141 h141
def h145:Hint:=⟨4,⟨[],[],[],[],[],[]⟩,[],[],[],[]⟩
noncomputable def z1l:FnI:=mkFn Tryz.f145 h145
def h154:Hint:=⟨2,⟨[],[],[],[],[],[]⟩,[],[],[],[]⟩
noncomputable def z1m:FnI:=mkFn Tryz.f154 h154
def h155:Hint:=⟨2,⟨[],[13],[],[],[],[]⟩,[],[],[],[]⟩ -- slices.SortFunc[[]roadbook/bag.key,roadbook/bag.key]
noncomputable def z3P:FnI:=mkFn Tryz.f155 h155
def h156:Hint:=⟨1,⟨[],[],[],[],[],[]⟩,[],[],[],[]⟩
noncomputable def z1n:FnI:=mkFn Tryz.f156 h156
def h157:Hint:=⟨1,⟨[],[],[],[],[],[]⟩,[(6,[2,3,4,5,14,15,16])],[(6,[2,3,4,5])],[],[]⟩
noncomputable def zY4:FnI:=mkFn Tryz.f157 h157
def h164:Hint:=⟨1,⟨[],[],[],[],[],[]⟩,[],[],[],[]⟩
noncomputable def z1o:FnI:=mkFn Tryz.f164 h164
def h165:Hint:=⟨2,⟨[],[],[],[],[],[]⟩,[(2,[0,1,7,8])],[(2,[4])],[],[]⟩ -- slices.IndexFunc[[]roadbook/api.Val,roadbook/api.Val]
noncomputable def zY5:FnI:=mkFn Tryz.f165 h165
def h166:Hint:=⟨1,⟨[2,5,7],[],[],[],[],[]⟩,[],[],[],[]⟩ -- slices.Clone[[]roadbook/api.Val,roadbook/api.Val]
noncomputable def z1p:FnI:=mkFn Tryz.f166 h166
def h167:Hint:=⟨2,⟨[],[],[],[],[],[]⟩,[(2,[0,1,7,8])],[(2,[4])],[],[]⟩ -- slices.IndexFunc[[]roadbook/api.Expr,roadbook/api.Expr]
noncomputable def zY6:FnI:=mkFn Tryz.f167 h167
def h168:Hint:=⟨1,⟨[],[],[],[],[],[]⟩,[],[],[],[]⟩
noncomputable def z1q:FnI:=mkFn Tryz.f168 h168
def h169:Hint:=⟨3,⟨[],[],[],[],[],[]⟩,[],[],[],[]⟩
noncomputable def z1r:FnI:=mkFn Tryz.f169 h169
def h170:Hint:=⟨3,⟨[],[18,27,43,60],[],[],[],[]⟩,[(2,[0,1,2,6,7,8]),(7,[0,1,2,6]),(9,[0,1,2,6,7,8])],[(2,[0,1,2,6,7]),(7,[]),(9,[0,1,2,6,7])],[],[]⟩
noncomputable def zQi:FnI:=mkFn Tryz.f170 h170
def h174:Hint:=⟨1,⟨[],[],[],[],[],[]⟩,[],[],[],[]⟩
noncomputable def z1s:FnI:=mkFn Tryz.f174 h174
def h175:Hint:=⟨2,⟨[],[16],[],[],[],[]⟩,[(2,[0,1,7,8])],[(2,[4])],[],[]⟩ -- slices.IndexFunc[[][]roadbook/api.Val,[]roadbook/api.Val]
noncomputable def zY7:FnI:=mkFn Tryz.f175 h175
def h179:Hint:=⟨2,⟨[],[],[],[],[],[]⟩,[],[],[],[]⟩
noncomputable def z1t:FnI:=mkFn Tryz.f179 h179
def h182:Hint:=⟨2,⟨[],[],[],[],[],[]⟩,[],[],[],[]⟩
noncomputable def z1u:FnI:=mkFn Tryz.f182 h182
def h183:Hint:=⟨2,⟨[],[],[],[],[],[]⟩,[],[],[],[]⟩
noncomputable def z1v:FnI:=mkFn Tryz.f183 h183
def h184:Hint:=⟨2,⟨[0,4,22],[],[],[],[],[]⟩,[],[],[],[(3,[0,1])]⟩ -- slices.Grow[[]int,int]
noncomputable def zY8:FnI:=mkFn Tryz.f184 h184
def h185:Hint:=⟨2,⟨[0,4,22],[],[],[],[],[]⟩,[],[],[],[(3,[0,1])]⟩ -- slices.Grow[[]roadbook/api.Val,roadbook/api.Val]
noncomputable def zY9:FnI:=mkFn Tryz.f185 h185
def h186:Hint:=⟨2,⟨[],[],[],[],[],[]⟩,[(2,[0,1,7,8])],[(2,[4])],[],[]⟩ -- slices.IndexFunc[[]roadbook/api.Def,roadbook/api.Def]
noncomputable def zYa:FnI:=mkFn Tryz.f186 h186
def h187:Hint:=⟨3,⟨[],[],[],[],[],[]⟩,[],[],[],[]⟩
noncomputable def z1w:FnI:=mkFn Tryz.f187 h187
def h188:Hint:=⟨1,⟨[],[],[],[],[],[]⟩,[],[],[],[(3,[1,4]),(4,[1,4,5]),(5,[1,4,5,6])]⟩
noncomputable def zQj:FnI:=mkFn Tryz.f188 h188
def h200:Hint:=⟨2,⟨[],[],[],[],[],[]⟩,[],[],[],[]⟩
noncomputable def z1x:FnI:=mkFn Tryz.f200 h200
def h201:Hint:=⟨1,⟨[],[],[],[],[],[]⟩,[],[],[],[]⟩
noncomputable def z1y:FnI:=mkFn Tryz.f201 h201
def h202:Hint:=⟨0,⟨[],[],[],[],[],[]⟩,[],[],[],[]⟩
noncomputable def z1z:FnI:=mkFn Tryz.f202 h202
def h204:Hint:=⟨0,⟨[],[],[],[],[],[]⟩,[],[],[],[]⟩
noncomputable def z2A:FnI:=mkFn Tryz.f204 h204
def h209:Hint:=⟨1,⟨[],[],[],[],[],[]⟩,[(3,[3,9,10,11])],[(3,[3])],[],[]⟩
noncomputable def zYb:FnI:=mkFn Tryz.f209 h209
def h210:Hint:=⟨3,⟨[8,49],[],[],[],[],[]⟩,[(11,[1,2,3,6,8,37,38,39])],[(11,[3,6,8])],[(15,[16])],[(8,[2,6,7])]⟩
noncomputable def zUo:FnI:=mkFn Tryz.f210 h210
def h211:Hint:=⟨4,⟨[0],[32],[],[],[],[]⟩,[(1,[0,1,2,3,8]),(4,[0,1,2,3,8,9])],[(1,[]),(4,[0,1,2,3,8])],[],[(6,[0,1,2,3,8,9])]⟩
noncomputable def zQk:FnI:=mkFn Tryz.f211 h211
def h212:Hint:=⟨5,⟨[0],[49,101,169,191,205,219],[],[],[],[]⟩,[(3,[0,1,4,10,11]),(9,[0,10,13]),(15,[0,2,4,14,15]),(21,[0,14,17]),(33,[0,1,2,3,4,18,19,20,21,22])],[(3,[0,1,10]),(9,[]),(15,[0,2,14]),(21,[]),(33,[0,1,2,3,4,18,19,20])],[(40,[0]),(42,[0]),(44,[0])],[(32,[0,1,2,3,4,18,19,20,21]),(40,[0,1,2,3,4,18,20,24,185]),(41,[0,1,3,4,18,20,24]),(42,[0,1,3,4,18,20,24,199]),(43,[0,3,4,18,24]),(44,[0,3,4,18,24,213])]⟩
noncomputable def zEt:FnI:=mkFn Tryz.f212 h212
def h215:Hint:=⟨1,⟨[],[],[],[],[],[]⟩,[],[],[],[]⟩
noncomputable def z2B:FnI:=mkFn Tryz.f215 h215
def h217:Hint:=⟨1,⟨[],[],[],[],[],[]⟩,[],[],[],[]⟩
noncomputable def z2C:FnI:=mkFn Tryz.f217 h217
def h218:Hint:=⟨1,⟨[],[],[],[],[],[]⟩,[],[],[],[]⟩
noncomputable def z2D:FnI:=mkFn Tryz.f218 h218
def h221:Hint:=⟨1,⟨[],[],[],[],[],[]⟩,[],[],[],[]⟩
noncomputable def z2E:FnI:=mkFn Tryz.f221 h221
def h222:Hint:=⟨2,⟨[],[],[],[],[],[]⟩,[(3,[1,2,5,6])],[(3,[5])],[],[(5,[1,2,5,6])]⟩
noncomputable def zUp:FnI:=mkFn Tryz.f222 h222
def h223:Hint:=⟨1,⟨[],[],[],[],[],[]⟩,[],[],[],[]⟩
noncomputable def z2F:FnI:=mkFn Tryz.f223 h223
def h246:Hint:=⟨2,⟨[],[],[],[],[],[]⟩,[],[],[],[]⟩
noncomputable def z2G:FnI:=mkFn Tryz.f246 h246
def h248:Hint:=⟨1,⟨[],[],[],[],[],[]⟩,[],[],[],[]⟩
noncomputable def z2H:FnI:=mkFn Tryz.f248 h248
def h249:Hint:=⟨5,⟨[],[31,46,57],[],[],[],[]⟩,[(2,[0,2,4,10,11])],[(2,[0,2,4,10])],[],[]⟩
noncomputable def zYc:FnI:=mkFn Tryz.f249 h249
def h254:Hint:=⟨1,⟨[],[],[],[],[],[]⟩,[],[],[],[]⟩
noncomputable def z2I:FnI:=mkFn Tryz.f254 h254
def h255:Hint:=⟨2,⟨[],[],[],[],[],[]⟩,[],[],[],[]⟩
noncomputable def z2J:FnI:=mkFn Tryz.f255 h255
def h256:Hint:=⟨2,⟨[],[],[],[],[],[]⟩,[],[],[],[]⟩
noncomputable def z2K:FnI:=mkFn Tryz.f256 h256
def h257:Hint:=⟨2,⟨[],[],[],[],[],[]⟩,[],[],[],[]⟩
noncomputable def z2L:FnI:=mkFn Tryz.f257 h257
def h258:Hint:=⟨2,⟨[],[],[],[],[],[]⟩,[],[],[],[]⟩
noncomputable def z2M:FnI:=mkFn Tryz.f258 h258
def h259:Hint:=⟨2,⟨[],[],[],[],[],[]⟩,[],[],[],[]⟩
noncomputable def z2N:FnI:=mkFn Tryz.f259 h259
def h260:Hint:=⟨1,⟨[],[],[],[],[],[]⟩,[],[],[],[]⟩
noncomputable def z2O:FnI:=mkFn Tryz.f260 h260
def h261:Hint:=⟨1,⟨[],[],[],[],[],[]⟩,[],[],[],[]⟩
noncomputable def z2P:FnI:=mkFn Tryz.f261 h261
def h262:Hint:=⟨1,⟨[],[],[],[],[],[]⟩,[],[],[],[]⟩
noncomputable def z2Q:FnI:=mkFn Tryz.f262 h262
def h263:Hint:=⟨1,⟨[],[],[],[],[],[]⟩,[],[],[],[]⟩
noncomputable def z2R:FnI:=mkFn Tryz.f263 h263
def h264:Hint:=⟨1,⟨[],[],[],[],[],[]⟩,[],[],[],[]⟩
noncomputable def z2S:FnI:=mkFn Tryz.f264 h264
def h265:Hint:=⟨1,⟨[],[],[],[],[],[]⟩,[],[],[],[]⟩
noncomputable def z2T:FnI:=mkFn Tryz.f265 h265
def h285:Hint:=⟨5,⟨[0],[],[],[],[],[]⟩,[(1,[0,1,2,3,10])],[(1,[])],[],[]⟩
noncomputable def zYd:FnI:=mkFn Tryz.f285 h285
def h290:Hint:=⟨2,⟨[],[],[],[],[],[]⟩,[],[],[],[]⟩
noncomputable def z2U:FnI:=mkFn Tryz.f290 h290
def h291:Hint:=⟨3,⟨[],[],[],[],[],[]⟩,[],[],[],[]⟩
noncomputable def z2V:FnI:=mkFn Tryz.f291 h291
def h292:Hint:=⟨2,⟨[],[],[],[],[],[]⟩,[],[],[],[]⟩
noncomputable def z2W:FnI:=mkFn Tryz.f292 h292
def h293:Hint:=⟨2,⟨[],[],[],[],[],[]⟩,[],[],[],[]⟩
noncomputable def z2X:FnI:=mkFn Tryz.f293 h293
def h294:Hint:=⟨2,⟨[],[],[],[],[],[]⟩,[],[],[],[(5,[0,1,6,7,8])]⟩
noncomputable def zYe:FnI:=mkFn Tryz.f294 h294
def h295:Hint:=⟨2,⟨[],[],[],[],[],[]⟩,[],[],[],[]⟩
noncomputable def z3Q:FnI:=mkFn Tryz.f295 h295
def h296:Hint:=⟨1,⟨[],[],[],[],[],[]⟩,[],[],[],[]⟩
noncomputable def z2Y:FnI:=mkFn Tryz.f296 h296
def h297:Hint:=⟨2,⟨[],[],[],[],[],[]⟩,[],[],[],[(3,[0,1])]⟩
noncomputable def zYf:FnI:=mkFn Tryz.f297 h297
def h298:Hint:=⟨4,⟨[],[],[],[],[],[]⟩,[],[],[],[]⟩
noncomputable def z2Z:FnI:=mkFn Tryz.f298 h298
def h299:Hint:=⟨1,⟨[],[],[],[],[],[]⟩,[],[],[],[]⟩
noncomputable def z21:FnI:=mkFn Tryz.f299 h299
noncomputable def tab:List (Nat×FnI):=[(10,fi10),(16,fi16),(17,fi17),(18,fi18),(19,fi19),(20,fi20),(21,fi21),(22,fi22),(23,fi23),(25,fi25),(28,fi28),(29,fi29),(32,fi32),(35,fi35),(36,fi36),(39,fi39),(40,fi40),(41,fi41),(42,fi42),(43,fi43),(46,fi46),(50,fi50),(52,fi52),(53,fi53),(54,fi54),(55,fi55),(56,fi56),(57,fi57),(58,fi58),(59,fi59),(60,fi60),(61,fi61),(62,fi62),(63,fi63),(64,fi64),(65,fi65),(66,fi66),(67,fi67),(68,fi68),(69,fi69),(70,fi70),(71,fi71),(72,fi72),(73,fi73),(74,fi74),(77,fi77),(78,fi78),(79,fi79),(80,fi80),(81,fi81),(83,fi83),(87,fi87),(93,fi93),(96,fi96),(97,fi97),(98,fi98),(99,fi99),(100,z12),(101,z13),(102,zSV),(103,z14),(104,z15),(105,z16),(106,z17),(107,z18),(108,z19),(109,z1a),(113,z1b),(114,z1c),(115,z1d),(124,zY1),(125,zQh),(126,zNi),(128,z1e),(129,zY2),(130,zUm),(131,zUn),(132,z1f),(133,z1g),(134,z1h),(135,zY3),(136,z1i),(137,zSW),(138,z1j),(139,z3N),(140,z3O),(141,z1k),(145,z1l),(154,z1m),(155,z3P),(156,z1n),(157,zY4),(164,z1o),(165,zY5),(166,z1p),(167,zY6),(168,z1q),(169,z1r),(170,zQi),(174,z1s),(175,zY7),(179,z1t),(182,z1u),(183,z1v),(184,zY8),(185,zY9),(186,zYa),(187,z1w),(188,zQj),(200,z1x),(201,z1y),(202,z1z),(204,z2A),(209,zYb),(210,zUo),(211,zQk),(212,zEt),(215,z2B),(217,z2C),(218,z2D),(221,z2E),(222,zUp),(223,z2F),(246,z2G),(248,z2H),(249,zYc),(254,z2I),(255,z2J),(256,z2K),(257,z2L),(258,z2M),(259,z2N),(260,z2O),(261,z2P),(262,z2Q),(263,z2R),(264,z2S),(265,z2T),(285,zYd),(290,z2U),(291,z2V),(292,z2W),(293,z2X),(294,zYe),(295,z3Q),(296,z2Y),(297,zYf),(298,z2Z),(299,z21)]
noncomputable def etab:List (Nat×ExtF):=[(96,zEZ 0),(166,zEZ 3),(53,zJB),(61,(zPH [62,81])),(139,zKb),(140,zEO),(155,(zIS 57)),(295,zGj),(203,zGk)]
noncomputable def cfg:Cfg:=⟨ty,zYQ tab,zYS etab⟩
instance gl0:Gl:=Gl.triv
theorem z01:zW6 cfg fi96 0:=λ call xs=>⟨by kernel_rfl,by kernel_rfl,by kernel_rfl,by kernel_rfl⟩
theorem zYg:zW6 cfg z1p 3:=λ call xs=>⟨by kernel_rfl,by kernel_rfl,by kernel_rfl,by kernel_rfl⟩
theorem tys:tysB Tryz.prog cfg=true:=by kernel_rfl
theorem fns:AllF Tryz.prog cfg tab:=⟨zC Tryz.func10 (by kernel_rfl),z0P (r:=4) Tryz.func16 rfl (by kernel_rfl),zC Tryz.func17 (by kernel_rfl),zC Tryz.func18 (by kernel_rfl),zC Tryz.func19 (by kernel_rfl),zC Tryz.func20 (by kernel_rfl),zC Tryz.func21 (by kernel_rfl),zC Tryz.func22 (by kernel_rfl),zC Tryz.func23 (by kernel_rfl),zC Tryz.func25 (by kernel_rfl),zC Tryz.func28 (by kernel_rfl),zC Tryz.func29 (by kernel_rfl),zC Tryz.func32 (by kernel_rfl),zC Tryz.func35 (by kernel_rfl),zC Tryz.func36 (by kernel_rfl),zC Tryz.func39 (by kernel_rfl),zC Tryz.func40 (by kernel_rfl),zC Tryz.func41 (by kernel_rfl),zC Tryz.func42 (by kernel_rfl),zC Tryz.func43 (by kernel_rfl),zC Tryz.func46 (by kernel_rfl),zC Tryz.func50 (by kernel_rfl),zC Tryz.func52 (by kernel_rfl),zC Tryz.func53 (by kernel_rfl),zC Tryz.func54 (by kernel_rfl),zC Tryz.func55 (by kernel_rfl),zC Tryz.func56 (by kernel_rfl),zC Tryz.func57 (by kernel_rfl),zC Tryz.func58 (by kernel_rfl),zC Tryz.func59 (by kernel_rfl),zC Tryz.func60 (by kernel_rfl),zC Tryz.func61 (by kernel_rfl),zC Tryz.func62 (by kernel_rfl),zC Tryz.func63 (by kernel_rfl),zC Tryz.func64 (by kernel_rfl),zC Tryz.func65 (by kernel_rfl),zC Tryz.func66 (by kernel_rfl),zC Tryz.func67 (by kernel_rfl),zC Tryz.func68 (by kernel_rfl),zC Tryz.func69 (by kernel_rfl),zC Tryz.func70 (by kernel_rfl),zC Tryz.func71 (by kernel_rfl),zC Tryz.func72 (by kernel_rfl),zC Tryz.func73 (by kernel_rfl),zC Tryz.func74 (by kernel_rfl),zC Tryz.func77 (by kernel_rfl),zC Tryz.func78 (by kernel_rfl),zC Tryz.func79 (by kernel_rfl),zC Tryz.func80 (by kernel_rfl),zC Tryz.func81 (by kernel_rfl),zC Tryz.func83 (by kernel_rfl),zC Tryz.func87 (by kernel_rfl),zC Tryz.func93 (by kernel_rfl),zC Tryz.func96 (by kernel_rfl),zC Tryz.func97 (by kernel_rfl),zC Tryz.func98 (by kernel_rfl),zC Tryz.func99 (by kernel_rfl),zC Tryz.func100 (by kernel_rfl),zC Tryz.func101 (by kernel_rfl),zC Tryz.func102 (by kernel_rfl),zC Tryz.func103 (by kernel_rfl),zC Tryz.func104 (by kernel_rfl),zC Tryz.func105 (by kernel_rfl),zC Tryz.func106 (by kernel_rfl),zC Tryz.func107 (by kernel_rfl),zC Tryz.func108 (by kernel_rfl),zC Tryz.func109 (by kernel_rfl),zC Tryz.func113 (by kernel_rfl),zC Tryz.func114 (by kernel_rfl),zC Tryz.func115 (by kernel_rfl),zC Tryz.func124 (by kernel_rfl),zC Tryz.func125 (by kernel_rfl),zC Tryz.func126 (by kernel_rfl),zC Tryz.func128 (by kernel_rfl),zC Tryz.func129 (by kernel_rfl),zC Tryz.func130 (by kernel_rfl),zC Tryz.func131 (by kernel_rfl),zC Tryz.func132 (by kernel_rfl),zC Tryz.func133 (by kernel_rfl),zC Tryz.func134 (by kernel_rfl),zC Tryz.func135 (by kernel_rfl),zC Tryz.func136 (by kernel_rfl),zC Tryz.func137 (by kernel_rfl),zC Tryz.func138 (by kernel_rfl),zC Tryz.func139 (by kernel_rfl),zC Tryz.func140 (by kernel_rfl),zC Tryz.func141 (by kernel_rfl),zC Tryz.func145 (by kernel_rfl),zC Tryz.func154 (by kernel_rfl),zC Tryz.func155 (by kernel_rfl),zC Tryz.func156 (by kernel_rfl),zC Tryz.func157 (by kernel_rfl),zC Tryz.func164 (by kernel_rfl),zC Tryz.func165 (by kernel_rfl),zC Tryz.func166 (by kernel_rfl),zC Tryz.func167 (by kernel_rfl),zC Tryz.func168 (by kernel_rfl),zC Tryz.func169 (by kernel_rfl),zC Tryz.func170 (by kernel_rfl),zC Tryz.func174 (by kernel_rfl),zC Tryz.func175 (by kernel_rfl),zC Tryz.func179 (by kernel_rfl),zC Tryz.func182 (by kernel_rfl),zC Tryz.func183 (by kernel_rfl),zC Tryz.func184 (by kernel_rfl),zC Tryz.func185 (by kernel_rfl),zC Tryz.func186 (by kernel_rfl),zC Tryz.func187 (by kernel_rfl),zC Tryz.func188 (by kernel_rfl),zC Tryz.func200 (by kernel_rfl),zC Tryz.func201 (by kernel_rfl),zC Tryz.func202 (by kernel_rfl),zC Tryz.func204 (by kernel_rfl),zC Tryz.func209 (by kernel_rfl),zC Tryz.func210 (by kernel_rfl),zC Tryz.func211 (by kernel_rfl),zC Tryz.func212 (by kernel_rfl),zC Tryz.func215 (by kernel_rfl),zC Tryz.func217 (by kernel_rfl),zC Tryz.func218 (by kernel_rfl),zC Tryz.func221 (by kernel_rfl),zC Tryz.func222 (by kernel_rfl),zC Tryz.func223 (by kernel_rfl),zC Tryz.func246 (by kernel_rfl),zC Tryz.func248 (by kernel_rfl),zC Tryz.func249 (by kernel_rfl),zC Tryz.func254 (by kernel_rfl),zC Tryz.func255 (by kernel_rfl),zC Tryz.func256 (by kernel_rfl),zC Tryz.func257 (by kernel_rfl),zC Tryz.func258 (by kernel_rfl),zC Tryz.func259 (by kernel_rfl),zC Tryz.func260 (by kernel_rfl),zC Tryz.func261 (by kernel_rfl),zC Tryz.func262 (by kernel_rfl),zC Tryz.func263 (by kernel_rfl),zC Tryz.func264 (by kernel_rfl),zC Tryz.func265 (by kernel_rfl),zC Tryz.func285 (by kernel_rfl),zC Tryz.func290 (by kernel_rfl),zC Tryz.func291 (by kernel_rfl),zC Tryz.func292 (by kernel_rfl),zC Tryz.func293 (by kernel_rfl),zC Tryz.func294 (by kernel_rfl),zC Tryz.func295 (by kernel_rfl),zC Tryz.func296 (by kernel_rfl),zC Tryz.func297 (by kernel_rfl),zC Tryz.func298 (by kernel_rfl),zC Tryz.func299 (by kernel_rfl),trivial⟩
theorem exts [GL:Gl] (hG:∃ g t fr,Tryz.prog.globalNamed "internal/strconv.uint64pow10" =some g∧GL.tab g (.cells (Lib.pow10Tab.map λ z=>Value.int .u64 z).toArray t fr)):∀ f g,cfg.ext f=some g→zL9 Tryz.prog f g:=zQa (tab:=etab) ⟨zT9 (tysB_ok tys) (zC Tryz.func96 (by kernel_rfl)) z01,zT9 (tysB_ok tys) (zC Tryz.func166 (by kernel_rfl)) zYg,z0Z ⟨⟨Tryz.f53,Tryz.func53,by kernel_rfl,by kernel_rfl⟩,λ b c xs w h1 h2 h3 h4 h5=>Tryz.text b c xs w h1 h2 h3 h4 h5⟩ hG,z00 Tryz.toldC,z0W ⟨⟨Tryz.f139,Tryz.func139,by kernel_rfl,by kernel_rfl⟩,λ b o c z w h1 h2 h3=>Tryz.slices_Sort_int b o c z w h1 h2 h3,λ p c w=>Tryz.slices_Sort_int_none p c w⟩,zUk ⟨⟨Tryz.f140,Tryz.func140,by kernel_rfl,by kernel_rfl⟩,λ b o c z w h1 h2 h3=>Tryz.slices_Compact_int b o c z w h1 h2 h3,λ p c w=>Tryz.slices_Compact_int_empty p c w⟩,zYZ Tryz.keySort,zYT ⟨⟨Tryz.f295,Tryz.func295,by kernel_rfl,by kernel_rfl⟩,λ x y h1 h2 w=>Tryz.bits_Mul64 x y h1 h2 w⟩,zYU (λ x y c h1 h2 h3 h4 w=>by rw[run_callFunc_extern Tryz.func203 (by kernel_rfl) (by kernel_rfl) (by kernel_rfl) (e:=Go.add64Entry) (by kernel_rfl),Go.run_add64 x y c h1 h2 h3 h4 w];rfl),trivial⟩
theorem zQl:cfg.ext 96=some (zEZ 0):=by kernel_rfl
theorem zUq:cfg.ext 166=some (zEZ 3):=by kernel_rfl
theorem zWg:cfg.ext 53=some zJB:=by kernel_rfl
theorem zWh:cfg.ext 61=some (zPH [62,81]):=by kernel_rfl
theorem zUr:cfg.ext 139=some zKb:=by kernel_rfl
theorem zUs:cfg.ext 140=some zEO:=by kernel_rfl
theorem zUt:cfg.ext 155=some (zIS 57):=by kernel_rfl
theorem zUu:cfg.ext 295=some zGj:=by kernel_rfl
theorem zUv:cfg.ext 203=some zGk:=by kernel_rfl
end Go.Cf

namespace Go.Cf
open Go Go.Ab
set_option linter.unusedVariables false
set_option maxRecDepth 100000
def zBk:Nat:=10
def zIT:Nat:=16
def zHf:Nat:=17
def zE4:Nat:=18
def zBd:Nat:=19
def zCl:Nat:=20
def zJC:Nat:=21
def zGl:Nat:=22
def zHg:Nat:=25
def zEP:Nat:=28
def zCC:Nat:=29
def zE0:Nat:=32
def zGm:Nat:=36
def zKc:Nat:=39
def zJD:Nat:=40
def zE5:Nat:=41
def zDf:Nat:=42
def zKd:Nat:=43
def zFY:Nat:=50
def zC8:Nat:=52
def zIU:Nat:=53
def zAG:Nat:=54
def zB3:Nat:=55
def zC4:Nat:=56
def zB4:Nat:=57
def zGn:Nat:=58
def zFZ:Nat:=59
def zF0:Nat:=60
def zE6:Nat:=61
def zCX:Nat:=62
def zCR:Nat:=63
def zGU:Nat:=64
def zGo:Nat:=65
def zGp:Nat:=66
def zIV:Nat:=67
def zA0:Nat:=68
def zJE:Nat:=69
def zGq:Nat:=70
def zGr:Nat:=71
def zC5:Nat:=72
def zHh:Nat:=73
def zAk:Nat:=74
def zKe:Nat:=77
def zJ:Nat:=78
def zIW:Nat:=79
def zJF:Nat:=80
def zB9:Nat:=81
def zDg:Nat:=83
def zJG:Nat:=87
def zAj:Nat:=96
def zFs:Nat:=97
def zAq:Nat:=98
def zF1:Nat:=99
def zF2:Nat:=100
def zN:Nat:=101
def zGV:Nat:=102
def zFt:Nat:=103
def zA7:Nat:=104
def zE1:Nat:=105
def zHi:Nat:=106
def zE7:Nat:=107
def zA8:Nat:=108
def zD:Nat:=109
def zB5:Nat:=113
def zKf:Nat:=114
def zA1:Nat:=115
def zDh:Nat:=124
def zBe:Nat:=125
def zD8:Nat:=126
def zDx:Nat:=128
def zGW:Nat:=129
def zCY:Nat:=130
def zBG:Nat:=131
def zAf:Nat:=132
def zFu:Nat:=133
def zKg:Nat:=134
def zBl:Nat:=135
def zIX:Nat:=136
def zCm:Nat:=137
def zBr:Nat:=138
def zCn:Nat:=139
def zCI:Nat:=140
def zEi:Nat:=141
def zCz:Nat:=145
def zGs:Nat:=154
def zAJ:Nat:=155
def zD1:Nat:=156
def zNA:Nat:=157
def zIY:Nat:=164
def zA9:Nat:=165
def zBR:Nat:=166
def zAl:Nat:=167
def zGX:Nat:=168
def zJH:Nat:=169
def zCS:Nat:=170
def zFv:Nat:=174
def zBS:Nat:=175
def zMA:Nat:=179
def zEQ:Nat:=182
def zD9:Nat:=183
def zCo:Nat:=184
def zB0:Nat:=185
def zAw:Nat:=186
def zCT:Nat:=187
def zJI:Nat:=188
def zAz:Nat:=200
def zGY:Nat:=201
def zF3:Nat:=202
def zLS:Nat:=203
def zIZ:Nat:=204
def zKh:Nat:=209
def zGt:Nat:=210
def zAS:Nat:=211
def zY:Nat:=212
def zKi:Nat:=215
def zF4:Nat:=217
def zJm:Nat:=218
def zF5:Nat:=221
def zCD:Nat:=222
def zGu:Nat:=223
def zBs:Nat:=246
def zHj:Nat:=248
def zBT:Nat:=249
def zDi:Nat:=254
def zJn:Nat:=255
def zJo:Nat:=256
def zJp:Nat:=257
def zJq:Nat:=258
def zMB:Nat:=259
def zEu:Nat:=260
def zNB:Nat:=261
def zEv:Nat:=262
def zPI:Nat:=263
def zEw:Nat:=264
def zNC:Nat:=265
def zAK:Nat:=285
def zBa:Nat:=290
def zDj:Nat:=291
def zJJ:Nat:=292
def zJK:Nat:=293
def zGv:Nat:=294
def zLT:Nat:=295
def zI0:Nat:=296
def zJL:Nat:=297
def zGw:Nat:=298
def zEx:Nat:=299
def zND:Nat:=3
def zSX:Nat:=22
def zWi:Nat:=24
def zNE:Nat:=25
def zUw:Nat:=27
def zPJ:Nat:=28
def zHk:Nat:=29
def zSY:Nat:=31
def zJr:Nat:=38
def zNF:Nat:=46
def zC6:Nat:=48
def zNG:Nat:=54
def zQm:Nat:=56
def zGZ:Nat:=58
def zQn:Nat:=141
theorem exW:∃ W:Wf,W=evw cfg:=⟨_,rfl⟩
noncomputable def W:Wf:=Classical.choose exW
theorem W_eq:W=evw cfg:=Classical.choose_spec exW
theorem exT(fi:FnI) {R:Type} (fin:Ex→St→Option R):∃ jl:Jn R×Ln R,Tied cfg W fi fin jl.1 jl.2:=⟨(_,_),tied cfg W fi fin⟩
noncomputable def jN_(x:FnI):Jn PV:=(Classical.choose (exT x (fin cfg x))).1
noncomputable def lN_(x:FnI):Ln PV:=(Classical.choose (exT x (fin cfg x))).2
theorem tN_(x:FnI):Tied cfg W x (fin cfg x) (jN_ x) (lN_ x):=Classical.choose_spec (exT x (fin cfg x))
noncomputable def jO_(x:FnI) (b:Bool) (n:Nat):Jn (AV×List Ob):=(Classical.choose (exT x (finO cfg x b n))).1
noncomputable def lO_(x:FnI) (b:Bool) (n:Nat):Ln (AV×List Ob):=(Classical.choose (exT x (finO cfg x b n))).2
theorem tO_(x:FnI) (b:Bool) (n:Nat):Tied cfg W x (finO cfg x b n) (jO_ x b n) (lO_ x b n):=Classical.choose_spec (exT x (finO cfg x b n))
theorem wq{f:FuncId} {fi:FnI} (he:cfg.ext f=none) (hf:cfg.fn f=some fi) (args:List PV):wc W f args=body cfg W lpw fi args:=by rw[W_eq];exact z1W he hf args
theorem wqO{f:FuncId} {fi:FnI} (he:cfg.ext f=none) (hf:cfg.fn f=some fi) (raw:Bool) (args:List AV) (ow:List Ob):W f raw args ow=bodyO cfg W lpw fi raw args ow:=by rw[W_eq];exact zSO he hf raw args ow
theorem go{f:FuncId} {fi:FnI} {args:List PV} {r:Option PV} {jn:Jn PV} {ln:Ln PV} (he:cfg.ext f=none) (hf:cfg.fn f=some fi) (h:Tied cfg W fi (fin cfg fi) jn ln) (e:(bif args.length==fi.np then Gf cfg W fi jn ln fi.code [] ⟨zUT 0 args,[]⟩ (fin cfg fi)else none)=r):wc W f args=r:=(wq he hf args).trans ((h.body args).trans e)
theorem goO{f:FuncId} {fi:FnI} {raw:Bool} {n:Nat} {args:List AV} {ow:List Ob} {r:Option (AV×List Ob)} {jn:Jn (AV×List Ob)} {ln:Ln (AV×List Ob)} (he:cfg.ext f=none) (hf:cfg.fn f=some fi) (h:Tied cfg W fi (finO cfg fi raw n) jn ln) (hn:ow.length=n) (e:(bif args.length==fi.np then Gf cfg W fi jn ln fi.code [] ⟨zHH 0 args,ow⟩ (finO cfg fi raw n)else none)=r):W f raw args ow=r:=(wqO he hf raw args ow).trans ((h.bodyO args ow hn).trans e)
def c_b{R:Type} (p:PV) (K:Bool→Option R):Option R:=(PV.asBool p).bind λ zzx0=>K zzx0
@[simp] theorem c_b_mk(zzx0:Bool) {R:Type} (K:Bool→Option R):c_b (PV.bool zzx0) K=K zzx0:=rfl
def zB{R:Type} (p:PV) (K:Int→Int→Option R):Option R:=(PV.asAgg p).bind λ c0=>(c0[0]?).bind λ p1=>(PV.asIntK .i64 p1).bind λ zzx2=>(c0[1]?).bind λ p3=>(PV.asIntK .i64 p3).bind λ zzx4=>bif c0.length==2 then(K zzx2 zzx4)else none
@[simp] theorem c_g_i64_i64_mk(zzx2:Int) (zzx4:Int) {R:Type} (K:Int→Int→Option R):zB (PV.agg [(PV.int .i64 zzx2),(PV.int .i64 zzx4)]) K=K zzx2 zzx4:=rfl
def zL{R:Type} (p:PV) (K:Int→Int→Int→Int→List PV→Option R):Option R:=(PV.asAgg p).bind λ c0=>(c0[0]?).bind λ p1=>(PV.asIntK .i64 p1).bind λ zzx2=>(c0[1]?).bind λ p3=>(PV.asIntK .i64 p3).bind λ zzx4=>(c0[2]?).bind λ p5=>(PV.asIntK .i64 p5).bind λ zzx6=>(c0[3]?).bind λ p7=>(PV.asIntK .i64 p7).bind λ zzx8=>(c0[4]?).bind λ p9=>(PV.asSlice 6 p9).bind λ zzx10=>bif c0.length==5 then(K zzx2 zzx4 zzx6 zzx8 zzx10)else none
@[simp] theorem c_g_i64_i64_i64_i64_s6_mk(zzx2:Int) (zzx4:Int) (zzx6:Int) (zzx8:Int) (zzx10:List PV) {R:Type} (K:Int→Int→Int→Int→List PV→Option R):zL (PV.agg [(PV.int .i64 zzx2),(PV.int .i64 zzx4),(PV.int .i64 zzx6),(PV.int .i64 zzx8),(PV.slice 6 zzx10)]) K=K zzx2 zzx4 zzx6 zzx8 zzx10:=rfl
def zB6{R:Type} (p:PV) (K:Int→Int→PV→Option R):Option R:=(PV.asAgg p).bind λ c0=>(c0[0]?).bind λ p1=>(PV.asIntK .i64 p1).bind λ zzx2=>(c0[1]?).bind λ p3=>(PV.asIntK .i64 p3).bind λ zzx4=>(c0[2]?).bind λ p5=>(some p5).bind λ zzx6=>bif c0.length==3 then(K zzx2 zzx4 zzx6)else none
@[simp] theorem c_g_i64_i64_p_mk(zzx2:Int) (zzx4:Int) (zzx6:PV) {R:Type} (K:Int→Int→PV→Option R):zB6 (PV.agg [(PV.int .i64 zzx2),(PV.int .i64 zzx4),zzx6]) K=K zzx2 zzx4 zzx6:=rfl
def zDA{R:Type} (p:PV) (K:Int→List PV→Option R):Option R:=(PV.asAgg p).bind λ c0=>(c0[0]?).bind λ p1=>(PV.asIntK .i64 p1).bind λ zzx2=>(c0[1]?).bind λ p3=>(PV.asSlice 3 p3).bind λ zzx4=>bif c0.length==2 then(K zzx2 zzx4)else none
@[simp] theorem c_g_i64_s3_mk(zzx2:Int) (zzx4:List PV) {R:Type} (K:Int→List PV→Option R):zDA (PV.agg [(PV.int .i64 zzx2),(PV.slice 3 zzx4)]) K=K zzx2 zzx4:=rfl
def zZ3{R:Type} (p:PV) (K:List PV→Option R):Option R:=(PV.asAgg p).bind λ c0=>(c0[0]?).bind λ p1=>(PV.asSlice 0 p1).bind λ zzx2=>bif c0.length==1 then(K zzx2)else none
@[simp] theorem c_g_s0_mk(zzx2:List PV) {R:Type} (K:List PV→Option R):zZ3 (PV.agg [(PV.slice 0 zzx2)]) K=K zzx2:=rfl
def zAI{R:Type} (p:PV) (K:List PV→List PV→Option R):Option R:=(PV.asAgg p).bind λ c0=>(c0[0]?).bind λ p1=>(PV.asSlice 0 p1).bind λ zzx2=>(c0[1]?).bind λ p3=>(PV.asSlice 0 p3).bind λ zzx4=>bif c0.length==2 then(K zzx2 zzx4)else none
@[simp] theorem c_g_s0_s0_mk(zzx2:List PV) (zzx4:List PV) {R:Type} (K:List PV→List PV→Option R):zAI (PV.agg [(PV.slice 0 zzx2),(PV.slice 0 zzx4)]) K=K zzx2 zzx4:=rfl
def zZ4{R:Type} (p:PV) (K:List PV→Option R):Option R:=(PV.asAgg p).bind λ c0=>(c0[0]?).bind λ p1=>(PV.asSlice 3 p1).bind λ zzx2=>bif c0.length==1 then(K zzx2)else none
@[simp] theorem c_g_s3_mk(zzx2:List PV) {R:Type} (K:List PV→Option R):zZ4 (PV.agg [(PV.slice 3 zzx2)]) K=K zzx2:=rfl
def zA5{R:Type} (p:PV) (K:Int→Option R):Option R:=(PV.asIntK .i64 p).bind λ zzx0=>K zzx0
@[simp] theorem c_i64_mk(zzx0:Int) {R:Type} (K:Int→Option R):zA5 (PV.int .i64 zzx0) K=K zzx0:=rfl
def c_s0{R:Type} (p:PV) (K:List PV→Option R):Option R:=(PV.asSlice 0 p).bind λ zzx0=>K zzx0
@[simp] theorem c_s0_mk(zzx0:List PV) {R:Type} (K:List PV→Option R):c_s0 (PV.slice 0 zzx0) K=K zzx0:=rfl
def c_s3{R:Type} (p:PV) (K:List PV→Option R):Option R:=(PV.asSlice 3 p).bind λ zzx0=>K zzx0
@[simp] theorem c_s3_mk(zzx0:List PV) {R:Type} (K:List PV→Option R):c_s3 (PV.slice 3 zzx0) K=K zzx0:=rfl
def c_s6{R:Type} (p:PV) (K:List PV→Option R):Option R:=(PV.asSlice 6 p).bind λ zzx0=>K zzx0
@[simp] theorem c_s6_mk(zzx0:List PV) {R:Type} (K:List PV→Option R):c_s6 (PV.slice 6 zzx0) K=K zzx0:=rfl
def c_t{R:Type} (p:PV) (K:ByteArray→Option R):Option R:=(PV.asStr p).bind λ zzx0=>K zzx0
@[simp] theorem c_t_mk(zzx0:ByteArray) {R:Type} (K:ByteArray→Option R):c_t (PV.str zzx0) K=K zzx0:=rfl
def zSZ{R:Type} (p:PV) (K:Int→Option R):Option R:=(PV.asIntK .u64 p).bind λ zzx0=>K zzx0
@[simp] theorem c_u64_mk(zzx0:Int) {R:Type} (K:Int→Option R):zSZ (PV.int IntKind.u64 zzx0) K=K zzx0:=rfl
def zPK{R:Type} (z:AV×List Ob) (K:PV→Int→Int→Int→Option R):Option R:=(AV.asPv z.1).bind λ q0=>(some q0).bind λ zzx1=>(z.2[0]?).bind λ p2=>(Ob.asVar false 0 p2).bind λ a3=>(AV.asPv a3).bind λ q4=>(PV.asIntK .i64 q4).bind λ zzx5=>(z.2[1]?).bind λ p6=>(Ob.asVar false 0 p6).bind λ a7=>(AV.asPv a7).bind λ q8=>(PV.asIntK .i64 q8).bind λ zzx9=>(z.2[2]?).bind λ p10=>(Ob.asVar false 0 p10).bind λ a11=>(AV.asPv a11).bind λ q12=>(PV.asIntK .i64 q12).bind λ zzx13=>bif z.2.length==3 then(K zzx1 zzx5 zzx9 zzx13)else none
@[simp] theorem k_10961c_mk(zzx1:PV) (zzx5:Int) (zzx9:Int) (zzx13:Int) {R:Type} (K:PV→Int→Int→Int→Option R):zPK ((AV.pv zzx1),[(Ob.var false 0 (AV.pv (PV.int .i64 zzx5))),(Ob.var false 0 (AV.pv (PV.int .i64 zzx9))),(Ob.var false 0 (AV.pv (PV.int .i64 zzx13)))]) K=K zzx1 zzx5 zzx9 zzx13:=rfl
def zDB{R:Type} (z:AV×List Ob) (K:PV→Int→Option R):Option R:=(AV.asPv z.1).bind λ q0=>(some q0).bind λ zzx1=>(z.2[0]?).bind λ p2=>(Ob.asVar false 0 p2).bind λ a3=>(AV.asPv a3).bind λ q4=>(PV.asIntK .i64 q4).bind λ zzx5=>bif z.2.length==1 then(K zzx1 zzx5)else none
@[simp] theorem k_5b106d_mk(zzx1:PV) (zzx5:Int) {R:Type} (K:PV→Int→Option R):zDB ((AV.pv zzx1),[(Ob.var false 0 (AV.pv (PV.int .i64 zzx5)))]) K=K zzx1 zzx5:=rfl
def zTf{R:Type} (z:AV×List Ob) (K:List PV→Option R):Option R:=bif AV.isView 0 z.1 then((z.2[0]?).bind λ p0=>(Ob.asRow false 0 3 p0).bind λ zzx1=>bif z.2.length==1 then(K zzx1)else none)else none
@[simp] theorem k_83ed81_mk(zzx1:List PV) {R:Type} (K:List PV→Option R):zTf ((AV.view 0 0 none),[(Ob.row false 0 (3:Nat) zzx1)]) K=K zzx1:=rfl
def zTg{R:Type} (z:AV×List Ob) (K:List PV→List PV→Option R):Option R:=(AV.asAggA z.1).bind λ c0=>(c0[0]?).bind λ p1=>(AV.asPv p1).bind λ q2=>(PV.asSlice 0 q2).bind λ zzx3=>(c0[1]?).bind λ p4=>bif AV.isView 0 p4 then(bif c0.length==2 then((z.2[0]?).bind λ p5=>(Ob.asRow false 0 0 p5).bind λ zzx6=>bif z.2.length==1 then(K zzx3 zzx6)else none)else none)else none
@[simp] theorem k_8de13e_mk(zzx3:List PV) (zzx6:List PV) {R:Type} (K:List PV→List PV→Option R):zTg ((AV.agg [(AV.pv (PV.slice 0 zzx3)),(AV.view 0 0 none)]),[(Ob.row false 0 (0:Nat) zzx6)]) K=K zzx3 zzx6:=rfl
def zMC{R:Type} (z:AV×List Ob) (K:PV→List PV→Option R):Option R:=(AV.asPv z.1).bind λ q0=>(some q0).bind λ zzx1=>(z.2[0]?).bind λ p2=>(Ob.asFix 0 3 p2).bind λ zzx3=>bif z.2.length==1 then(K zzx1 zzx3)else none
@[simp] theorem k_a0f1d3_mk(zzx1:PV) (zzx3:List PV) {R:Type} (K:PV→List PV→Option R):zMC ((AV.pv zzx1),[(Ob.fix 0 3 zzx3)]) K=K zzx1 zzx3:=rfl
def zI1{R:Type} (z:AV×List Ob) (K:PV→List PV→List PV→List PV→List PV→Int→List PV→List PV→Int→Option R):Option R:=(AV.asPv z.1).bind λ q0=>(some q0).bind λ zzx1=>(z.2[0]?).bind λ p2=>(Ob.asVar false 0 p2).bind λ a3=>(AV.asFnv zJ a3).bind λ y4=>bif y4.1.length==0 then((y4.2[0]?).bind λ p5=>(AV.asPv p5).bind λ q6=>(PV.asImm 2 0 q6).bind λ v7=>(PV.asAgg v7).bind λ c8=>(c8[0]?).bind λ p9=>(PV.asSlice 3 p9).bind λ zzx10=>bif c8.length==1 then((y4.2[1]?).bind λ p11=>(AV.asPv p11).bind λ q12=>(PV.asImm 2 0 q12).bind λ v13=>(PV.asAgg v13).bind λ c14=>(c14[0]?).bind λ p15=>(PV.asSlice 0 p15).bind λ zzx16=>bif c14.length==1 then((y4.2[2]?).bind λ p17=>(AV.asPv p17).bind λ q18=>(PV.asImm 7 0 q18).bind λ v19=>(PV.asAgg v19).bind λ c20=>(c20[0]?).bind λ p21=>(PV.asSlice 0 p21).bind λ zzx22=>(c20[1]?).bind λ p23=>(PV.asSlice 6 p23).bind λ zzx24=>(c20[2]?).bind λ p25=>(PV.asIntK .i64 p25).bind λ zzx26=>(c20[3]?).bind λ p27=>(PV.asSlice 0 p27).bind λ zzx28=>(c20[4]?).bind λ p29=>(PV.asSlice 0 p29).bind λ zzx30=>(c20[5]?).bind λ p31=>(PV.asIntK .i64 p31).bind λ zzx32=>bif c20.length==6 then((y4.2[3]?).bind λ p33=>bif AV.isOwn 0 0 p33 then(bif y4.2.length==4 then(bif z.2.length==1 then(K zzx1 zzx10 zzx16 zzx22 zzx24 zzx26 zzx28 zzx30 zzx32)else none)else none)else none)else none)else none)else none)else none
@[simp] theorem k_abad21_mk(zzx1:PV) (zzx10:List PV) (zzx16:List PV) (zzx22:List PV) (zzx24:List PV) (zzx26:Int) (zzx28:List PV) (zzx30:List PV) (zzx32:Int) {R:Type} (K:PV→List PV→List PV→List PV→List PV→Int→List PV→List PV→Int→Option R):zI1 ((AV.pv zzx1),[(Ob.var false 0 (AV.fnv zJ [] [(AV.pv (PV.imm 2 (PV.agg [(PV.slice 3 zzx10)]) 0)),(AV.pv (PV.imm 2 (PV.agg [(PV.slice 0 zzx16)]) 0)),(AV.pv (PV.imm 7 (PV.agg [(PV.slice 0 zzx22),(PV.slice 6 zzx24),(PV.int .i64 zzx26),(PV.slice 0 zzx28),(PV.slice 0 zzx30),(PV.int .i64 zzx32)]) 0)),(AV.own (Prod.fst ((0:Nat),(0:Nat))) 0)]))]) K=K zzx1 zzx10 zzx16 zzx22 zzx24 zzx26 zzx28 zzx30 zzx32:=rfl
def zMD{R:Type} (z:AV×List Ob) (K:PV→List PV→Option R):Option R:=(AV.asPv z.1).bind λ q0=>(some q0).bind λ zzx1=>(z.2[0]?).bind λ p2=>(Ob.asVar false 0 p2).bind λ a3=>bif AV.isView 1 a3 then((z.2[1]?).bind λ p4=>(Ob.asRow false 0 0 p4).bind λ zzx5=>bif z.2.length==2 then(K zzx1 zzx5)else none)else none
@[simp] theorem k_b2223f_mk(zzx1:PV) (zzx5:List PV) {R:Type} (K:PV→List PV→Option R):zMD ((AV.pv zzx1),[(Ob.var false 0 (AV.view 1 0 none)),(Ob.row false 0 0 zzx5)]) K=K zzx1 zzx5:=rfl
def zPL{R:Type} (z:AV×List Ob) (K:PV→Option R):Option R:=(AV.asPv z.1).bind λ q0=>(some q0).bind λ zzx1=>(z.2[0]?).bind λ p2=>bif Ob.isDead p2 then(bif z.2.length==1 then(K zzx1)else none)else none
@[simp] theorem k_b7636c_mk(zzx1:PV) {R:Type} (K:PV→Option R):zPL ((AV.pv zzx1),[Ob.dead]) K=K zzx1:=rfl
def zDC{R:Type} (z:AV×List Ob) (K:PV→List PV→Int→Option R):Option R:=(AV.asPv z.1).bind λ q0=>(some q0).bind λ zzx1=>(z.2[0]?).bind λ p2=>(Ob.asFix 0 0 p2).bind λ zzx3=>(z.2[1]?).bind λ p4=>(Ob.asVar false 0 p4).bind λ a5=>(AV.asPv a5).bind λ q6=>(PV.asIntK .i64 q6).bind λ zzx7=>bif z.2.length==2 then(K zzx1 zzx3 zzx7)else none
@[simp] theorem k_c4d914_mk(zzx1:PV) (zzx3:List PV) (zzx7:Int) {R:Type} (K:PV→List PV→Int→Option R):zDC ((AV.pv zzx1),[(Ob.fix 0 0 zzx3),(Ob.var false 0 (AV.pv (PV.int .i64 zzx7)))]) K=K zzx1 zzx3 zzx7:=rfl
def zPM{R:Type} (z:AV×List Ob) (K:PV→List PV→Option R):Option R:=(AV.asPv z.1).bind λ q0=>(some q0).bind λ zzx1=>(z.2[0]?).bind λ p2=>(Ob.asFix 0 0 p2).bind λ zzx3=>bif z.2.length==1 then(K zzx1 zzx3)else none
@[simp] theorem k_cad770_mk(zzx1:PV) (zzx3:List PV) {R:Type} (K:PV→List PV→Option R):zPM ((AV.pv zzx1),[(Ob.fix 0 0 zzx3)]) K=K zzx1 zzx3:=rfl
def zPN{R:Type} (z:AV×List Ob) (K:List PV→Option R):Option R:=bif AV.isView 0 z.1 then((z.2[0]?).bind λ p0=>(Ob.asRow false 0 0 p0).bind λ zzx1=>bif z.2.length==1 then(K zzx1)else none)else none
@[simp] theorem k_d697de_mk(zzx1:List PV) {R:Type} (K:List PV→Option R):zPN ((AV.view 0 0 none),[(Ob.row false 0 (0:Nat) zzx1)]) K=K zzx1:=rfl
theorem zUx(xs:List PV) (l:List (Int×Int)) (hp:zLR xs=some l) (hl:xs.length≤1000000):wc W zIU [.slice 3 xs]=some (.str (zY0 l)):=by rw[W_eq];exact z10 zWg xs l hp hl
theorem zLU(raw:List AV) (ow:List Ob):W zE6 false raw ow=zUl [zCX,zB9] W raw ow:=by rw[W_eq];exact zGI zWh false raw ow
theorem zC9(xs:List PV) (h:xs.length≤4294967296):wc W zAj [PV.slice 0 xs]=some (PV.slice 0 xs):=by rw[W_eq];exact zW7 zQl xs h
theorem zFg(xs:List PV) (h:xs.length≤4294967296):W zAj true [.pv (.slice 0 xs)] []=some (.view 0 0 none,[.row false 0 0 xs]):=by rw[W_eq];exact zW8 zQl xs h
theorem zE8(raw:Bool) (ver:Nat) (zs:List Int) (hl:zs.length≤4294967296):W zCn raw [.fx 0 0] [.fix ver 0 (zs.map (.int .i64))]=some (.pv (.tup []),[.fix ver 0 ((zEs zs).map (.int .i64))]):=by rw[W_eq];exact z1Z zUr raw ver zs hl
theorem zDk(ver:Nat) (zs:List Int) (hl:zs.length≤4294967296):W zCI false [.view 0 ver none] [.row false ver 0 (zs.map (.int .i64))]=some (.pv (.slice 0 ((Lib.compact zs).map (.int .i64))),[.dead]):=by rw[W_eq];exact zWc zUs ver zs hl
theorem zDy(ver:Nat) (zs:List (Int×Int)) (hl:zs.length≤4294967296):W zAJ false [.fx 0 3, .pv (.fn zB4 [] [])] [.fix ver 3 (zs.map keyP)]=some (.pv (.tup []),[.fix ver 3 ((zA6 zs).map keyP)]):=by rw[W_eq];exact z0X zUt ver zs hl
theorem zCU(xs:List PV) (h:xs.length≤4294967296):wc W zBR [PV.slice 3 xs]=some (PV.slice 3 xs):=by rw[W_eq];exact zW7 zUq xs h
theorem zQo(x y:Int) (h1:0≤x) (h2:x<18446744073709551616) (h3:0≤y) (h4:y<18446744073709551616):wc W zLT [.int .u64 x, .int .u64 y]=some (.tup [.int .u64 ((x.toNat*y.toNat / 18446744073709551616:Nat):Int), .int .u64 ((x.toNat*y.toNat % 18446744073709551616:Nat):Int)]):=by rw[W_eq];exact z0T zUu x y h1 h2 h3 h4
theorem zQp(x y z:Int) (h1:0≤x) (h2:0≤y) (h3:0≤z) (h4:z≤1):wc W zLS [.int .u64 x, .int .u64 y, .int .u64 z]=some (.tup [.int .u64 ((x+y+z) % 18446744073709551616), .int .u64 ((x+y+z) / 18446744073709551616)]):=by rw[W_eq];exact z0U zUv x y z h1 h2 h3 h4
end Go.Cf

namespace Go.Cf
open Go Go.Ab
set_option linter.unusedVariables false
set_option maxRecDepth 100000
noncomputable def zCc(j a b c:List PV) (d:Int) (e f:List PV) (g h:Int) (i:List PV):Option PV:=(jN_ fi10) [1,1,1,1] (St.mk [(4, .pv (.imm 2 (.agg [.slice 3 j]) 0)),(5, .pv (.imm 2 (.agg [.slice 0 a]) 0)),(6, .pv (.imm 7 (.agg [.slice 0 b, .slice 6 c, .int .i64 d, .slice 0 e, .slice 0 f, .int .i64 g]) 0)),(7, .pv (.imm 3 (.agg [.int .i64 h, .slice 3 i]) 0))] [])
noncomputable def zZ(a b c d:List PV) (e:Int) (f g:List PV) (h i:Int) (j:List PV) (k:Bool) (l m:Int) (n o:List PV):Option PV:=(lN_ fi10) [0,1,0,1,1,1,1,1,1] 1 (St.mk [(4, .pv (.imm 2 (.agg [.slice 3 a]) 0)),(5, .pv (.imm 2 (.agg [.slice 0 b]) 0)),(6, .pv (.imm 7 (.agg [.slice 0 c, .slice 6 d, .int .i64 e, .slice 0 f, .slice 0 g, .int .i64 h]) 0)),(7, .pv (.imm 3 (.agg [.int .i64 i, .slice 3 j]) 0)),(11, .own 0 0),(12, .pv (.bool k)),(13, .pv (.int .i64 l)),(14, .pv (.int .i64 m))] [.var false 3 (.pv (.agg [.slice 0 n, .slice 0 o]))])
noncomputable def zCd(a b c d:List PV) (e:Int) (f g:List PV) (h:Int) (i j:List PV):Option PV:=(jN_ fi10) [1,1,1,1,1,1,1,1] (St.mk [(4, .pv (.imm 2 (.agg [.slice 3 a]) 0)),(5, .pv (.imm 2 (.agg [.slice 0 b]) 0)),(6, .pv (.imm 7 (.agg [.slice 0 c, .slice 6 d, .int .i64 e, .slice 0 f, .slice 0 g, .int .i64 h]) 0)),(11, .own 0 0)] [.var false 3 (.pv (.agg [.slice 0 i, .slice 0 j]))])
noncomputable def zAu(a b c d:List PV) (e:Int) (f g:List PV) (h:Int) (i j k l m n:List PV):Option PV:=(jN_ fi10) [1,1,1,1,1,1,1,1,1,1,1,1] (St.mk [(4, .pv (.imm 2 (.agg [.slice 3 a]) 0)),(5, .pv (.imm 2 (.agg [.slice 0 b]) 0)),(6, .pv (.imm 7 (.agg [.slice 0 c, .slice 6 d, .int .i64 e, .slice 0 f, .slice 0 g, .int .i64 h]) 0)),(15, .own 1 0),(17, .own 2 0)] [.var false 3 (.pv (.agg [.slice 0 i, .slice 0 j])), .var false 3 (.pv (.agg [.slice 0 k, .slice 0 l])), .var false 3 (.pv (.agg [.slice 0 m, .slice 0 n]))])
theorem zER(k a b c:List PV) (d:Int) (e f:List PV) (g h:Int) (i:List PV):zCc k a b c d e f g h i =
 (wc W zHg [.agg [.slice 3 k], .agg [.slice 0 a], .agg [.slice 0 b, .slice 6 c, .int .i64 d, .slice 0 e, .slice 0 f, .int .i64 g], .agg [.int .i64 h, .slice 3 i]]).bind λ j=>j.asTup.bind λ l=>l[0]?.bind λ m=>zAI m λ n o=>j.asTup.bind λ p=>p[1]?.bind λ q=>c_b q λ r=>zZ k a b c d e f g h i r (1:Int) (0:Int) n o:=((tN_ fi10).join [1,1,1,1] _).trans (by kernel_rfl)
theorem zAb(b c a d:List PV) (e:Int) (f g:List PV) (h i:Int) (j:List PV) (k:Bool) (l m:Int) (n o:List PV):zZ b c a d e f g h i j k l m n o =
 bif decide (m<(a.length:Int))then zZ b c a d e f g h i j k (IntKind.wrap .i64 ((2:Int)*l:Int)) (IntKind.wrap .i64 (m+1)) n o else bif !k then some (.bool true)else(wc W zEP [.agg [.int .i64 i, .slice 3 j]]).bind λ p=>zA5 p λ q=>bif q != (IntKind.wrap .i64 (l-1))then some (.bool true)else zCd b c a d e f g h n o:=((tN_ fi10).loop [1,1,1,1,1,1,0,1,0] 1 _ rfl).trans (by kernel_rfl)
theorem zES(k l b c:List PV) (d:Int) (e f:List PV) (a:Int) (g h:List PV):zCd k l b c d e f a g h =
 (wc W zE0 [.agg [.slice 0 b, .slice 6 c, .int .i64 d, .slice 0 e, .slice 0 f, .int .i64 a], .agg [.slice 0 g, .slice 0 h]]).bind λ m=>m.asTup.bind λ n=>n[0]?.bind λ o=>zAI o λ i j=>m.asTup.bind λ p=>p[1]?.bind λ q=>c_b q λ r=>bif !r then some (.bool false)else bif a != (-1:Int)then(wc W zKd [.agg [.slice 0 i, .slice 0 j], .int .i64 a]).bind λ s=>zAI s λ t u=>zAu k l b c d e f a g h i j t u else zAu k l b c d e f a g h i j i j:=((tN_ fi10).join [1,1,1,1,1,1,1,1] _).trans (by kernel_rfl)
theorem zET(c d e f:List PV) (g:Int) (h i:List PV) (j:Int) (m n k l a b:List PV):zAu c d e f g h i j m n k l a b =
 (wc W zGm [.agg [.slice 3 c], .agg [.slice 0 d], .agg [.slice 0 e, .slice 6 f, .int .i64 g, .slice 0 h, .slice 0 i, .int .i64 j], .agg [.slice 0 a, .slice 0 b]]).bind λ o=>c_b o λ p=>bif p then(wc W zIT [.agg [.slice 0 k, .slice 0 l], .agg [.slice 0 a, .slice 0 b]]).bind λ q=>c_b q λ r=>some (.bool r)else some (.bool false):=((tN_ fi10).join [1,1,1,1,1,1,1,1,1,1,1,1] _).trans (by kernel_rfl)
theorem zFh(h a b c:List PV) (d:Int) (e f:List PV) (g i:Int) (j:List PV):wc W zBk [.agg [.slice 3 h], .agg [.slice 0 a], .agg [.slice 0 b, .slice 6 c, .int .i64 d, .slice 0 e, .slice 0 f, .int .i64 g], .agg [.int .i64 i, .slice 3 j]] =
 (wc W zE4 []).bind λ l=>c_b l λ k=>(wc W zBd [.agg [.slice 3 h], .agg [.slice 0 a], .agg [.slice 0 b, .slice 6 c, .int .i64 d, .slice 0 e, .slice 0 f, .int .i64 g]]).bind λ m=>c_b m λ n=>bif !k then some (.bool k)else bif !n then some (.bool k)else(wc W zCl [.agg [.slice 0 a], .agg [.slice 0 b, .slice 6 c, .int .i64 d, .slice 0 e, .slice 0 f, .int .i64 g]]).bind λ o=>zA5 o λ p=>bif p != (0:Int)then some (.bool k)else(wc W zCC [.agg [.int .i64 i, .slice 3 j], .int .i64 (100:Int)]).bind λ q=>zA5 q λ r=>bif decide (GT.gt r (100:Int))then some (.bool k)else zCc h a b c d e f g i j:=go (by kernel_rfl) (by kernel_rfl) (tN_ fi10) (by kernel_rfl)
noncomputable def zLV(a b c d:List PV):Option PV:=(jN_ fi16) [1,1] (St.mk [(2, .pv (.imm 3 (.agg [.slice 0 a, .slice 0 b]) 0)),(3, .pv (.imm 3 (.agg [.slice 0 c, .slice 0 d]) 0))] [])
noncomputable def zFw(e f g a:List PV) (b c:Int) (d:List (PV×PV)):Option PV:=(lN_ fi16) [0,1,1,1,1] 1 (St.mk [(2, .pv (.imm 3 (.agg [.slice 0 e, .slice 0 f]) 0)),(3, .pv (.imm 3 (.agg [.slice 0 g, .slice 0 a]) 0)),(5,AV.mp 0),(27, .pv (.int .i64 b)),(28, .pv (.int .i64 c))] [.map false d])
theorem zNH(b a c d:List PV):zLV b a c d =
 zFw b a c d (a.length:Int) (0:Int) []:=((tN_ fi16).join [1,1] _).trans (by kernel_rfl)
theorem zHl(i:List PV) (h:List PV) (j:List PV) (c:List PV) (d:Int) (a:Int) (b:List (PV×PV)):zFw i h j c d a b =
 bif decide (a<d)then bif decide ((0:Int)≤a)then h[Int.toNat a]?.bind λ k=>c_s3 k λ l=>(wc W zIU [.slice 3 l]).bind λ m=>c_t m λ e=>(zIa (eqP Cf.cfg (6:Nat) (9:TypeId)) (.str e) b).bind λ n=>(intP BinOp.add (Option.getD n (.int .i64 (0:Int))) (.int .i64 (1:Int))).bind λ o=>zA5 o λ p=>(mput (eqP Cf.cfg (6:Nat) (9:TypeId)) (.str e) (.int .i64 p) b).bind λ f=>bif decide ((0:Int)≤a)then c[Int.toNat a]?.bind λ q=>c_s3 q λ r=>(wc W zIU [.slice 3 r]).bind λ s=>c_t s λ g=>(zIa (eqP Cf.cfg (6:Nat) (9:TypeId)) (.str g) f).bind λ t=>(intP BinOp.sub (Option.getD t (.int .i64 (0:Int))) (.int .i64 (1:Int))).bind λ u=>zA5 u λ v=>(mput (eqP Cf.cfg (6:Nat) (9:TypeId)) (.str g) (.int .i64 v) f).bind λ w=>zFw i h j c d (IntKind.wrap .i64 (a+1)) w else none else none else(zQE b).bind λ x=>some (.bool x):=((tN_ fi16).loop [1,1,1,1,0] 1 _ rfl).trans (by kernel_rfl)
theorem zUy(a b c d:List PV):wc W zIT [.agg [.slice 0 a, .slice 0 b], .agg [.slice 0 c, .slice 0 d]] =
 (wc W zC8 [.slice 0 a, .slice 0 c]).bind λ e=>c_b e λ f=>bif !f then some (.bool false)else bif (b.length:Int) != (d.length:Int)then some (.bool false)else zLV a b c d:=go (by kernel_rfl) (by kernel_rfl) (tN_ fi16) (by kernel_rfl)
theorem zQq(a b:List PV) (c:Int):wc W zHf [.agg [.slice 0 a, .slice 0 b], .int .i64 c] =
 (wc W zAG [.slice 0 a, .int .i64 c]).bind λ d=>zA5 d λ e=>(W zB3 false [.pv (.slice 0 b), .fnv zC4 [] [.own 0 0]] [.var false 0 (.pv (.int .i64 e))]).bind λ f=>zDB f λ g i=>c_b g λ h=>some (.bool h):=go (by kernel_rfl) (by kernel_rfl) (tN_ fi17) (by kernel_rfl)
theorem zJM(a b c d:List PV) (e:Int) (f g:List PV) (h:Int):wc W zBd [.agg [.slice 3 a], .agg [.slice 0 b], .agg [.slice 0 c, .slice 6 d, .int .i64 e, .slice 0 f, .slice 0 g, .int .i64 h]] =
 (wc W zFZ [.agg [.slice 3 a], .agg [.slice 0 c, .slice 6 d, .int .i64 e, .slice 0 f, .slice 0 g, .int .i64 h]]).bind λ i=>zA5 i λ j=>bif j==(0:Int)then(wc W zF0 [.agg [.slice 0 b]]).bind λ k=>zA5 k λ l=>some (.bool (l==(0:Int)))else some (.bool false):=go (by kernel_rfl) (by kernel_rfl) (tN_ fi19) (by kernel_rfl)
noncomputable def zB7(a:List PV) (b:Int):Option PV:=(jN_ fi20) [1,1,1] (St.mk [(2, .pv (.imm 2 (.agg [.slice 0 a]) 0)),(5, .pv (.int .i64 b))] [])
noncomputable def zB8(a:List PV) (b c:Int):Option PV:=(lN_ fi20) [0,1,0,1,1,1] 0 (St.mk [(2, .pv (.imm 2 (.agg [.slice 0 a]) 0)),(5, .pv (.int .i64 b)),(6, .pv (.int .i64 c))] [])
theorem zFi(a:List PV) (b:Int):zB7 a b =
 zB8 a b (0:Int):=((tN_ fi20).join [1,1,1] _).trans (by kernel_rfl)
theorem zDM(b:List PV) (c a:Int):zB8 b c a =
 bif decide (a<(b.length:Int))then bif decide ((0:Int)≤a)then b[Int.toNat a]?.bind λ d=>c_s0 d λ e=>bif decide (GT.gt (e.length:Int) c)then some (.int .i64 (1:Int))else zB8 b c (IntKind.wrap .i64 (a+1))else none else some (.int .i64 (0:Int)):=((tN_ fi20).loop [1,1,1,0,1,0] 0 _ rfl).trans (by kernel_rfl)
theorem zHm(a b c:List PV) (d:Int) (e f:List PV) (g:Int):wc W zCl [.agg [.slice 0 a], .agg [.slice 0 b, .slice 6 c, .int .i64 d, .slice 0 e, .slice 0 f, .int .i64 g]] =
 bif decide (GT.gt (b.length:Int) (3:Int))then zB7 a (3:Int)else zB7 a (5:Int):=go (by kernel_rfl) (by kernel_rfl) (tN_ fi20) (by kernel_rfl)
noncomputable def zJs(d e f g:List PV) (h:Int) (a b:List PV) (c:Int):Option PV:=(jN_ fi21) [1,1] (St.mk [(3, .pv (.imm 2 (.agg [.slice 3 d]) 0)),(4, .pv (.imm 2 (.agg [.slice 0 e]) 0)),(5, .pv (.imm 7 (.agg [.slice 0 f, .slice 6 g, .int .i64 h, .slice 0 a, .slice 0 b, .int .i64 c]) 0)),(6, .own 0 0)] [.var false 3 (.agg [AV.nil 0,AV.nil 0])])
theorem zLa(e f g h:List PV) (i:Int) (a b:List PV) (c:Int):zJs e f g h i a b c =
 (wc W zE6 [.fn zCX [] [.imm 2 (.agg [.slice 3 e]) 0, .imm 2 (.agg [.slice 0 f]) 0, .imm 7 (.agg [.slice 0 g, .slice 6 h, .int .i64 i, .slice 0 a, .slice 0 b, .int .i64 c]) 0]]).bind λ d=>d.asTup.bind λ j=>j[0]?.bind λ k=>zAI k λ l m=>d.asTup.bind λ n=>n[1]?.bind λ o=>c_b o λ p=>some (.tup [.agg [.slice 0 l, .slice 0 m], .bool p]):=((tN_ fi21).join [1,1] _).trans (by kernel_rfl)
theorem zS0(a b c d:List PV) (e:Int) (f g:List PV) (h:Int):wc W zJC [.agg [.slice 3 a], .agg [.slice 0 b], .agg [.slice 0 c, .slice 6 d, .int .i64 e, .slice 0 f, .slice 0 g, .int .i64 h]] =
 (wc W zGl [.agg [.slice 3 a], .agg [.slice 0 c, .slice 6 d, .int .i64 e, .slice 0 f, .slice 0 g, .int .i64 h]]).bind λ i=>c_b i λ j=>bif !j then some (.tup [.agg [.slice 0 [], .slice 0 []], .bool false])else(wc W zFY [.agg [.slice 3 a], .agg [.slice 0 b]]).bind λ k=>c_b k λ l=>bif !l then some (.tup [.agg [.slice 0 [], .slice 0 []], .bool false])else zJs a b c d e f g h:=go (by kernel_rfl) (by kernel_rfl) (tN_ fi21) (by kernel_rfl)
noncomputable def zJt(c d e:List PV) (f:Int) (g a:List PV) (b:Int):Option PV:=(jN_ fi22) [1,1,1] (St.mk [(2, .pv (.imm 2 (.agg [.slice 3 c]) 0)),(3, .pv (.imm 7 (.agg [.slice 0 d, .slice 6 e, .int .i64 f, .slice 0 g, .slice 0 a, .int .i64 b]) 0))] [])
noncomputable def zDz(a b:List PV) (c:Int) (d e:List PV) (f:Int) (g h:List PV) (i j:Int):Option PV:=(lN_ fi22) [0,1,0,1,1,1,1] 0 (St.mk [(3, .pv (.imm 7 (.agg [.slice 0 a, .slice 6 b, .int .i64 c, .slice 0 d, .slice 0 e, .int .i64 f]) 0)),(6, .pv (.slice 0 g)),(43, .pv (.slice 6 h)),(44, .pv (.int .i64 i)),(45, .pv (.int .i64 j))] [])
noncomputable def zDD(a b:List PV) (c:Int) (d e:List PV) (f:Int) (g:Bool):Option PV:=(jN_ fi22) [1,0,1,0,1,1,1,1,1] (St.mk [(3, .pv (.imm 7 (.agg [.slice 0 a, .slice 6 b, .int .i64 c, .slice 0 d, .slice 0 e, .int .i64 f]) 0)),(10, .pv (.bool g))] [])
theorem zLb(g d a:List PV) (e:Int) (f b:List PV) (c:Int):zJt g d a e f b c =
 (wc W zJE [.agg [.slice 3 g], .agg [.slice 0 d, .slice 6 a, .int .i64 e, .slice 0 f, .slice 0 b, .int .i64 c], .fn zGq [] []]).bind λ h=>c_s0 h λ i=>zDz d a e f b c i a (a.length:Int) (0:Int):=((tN_ fi22).join [1,1,1] _).trans (by kernel_rfl)
theorem zHK(e f:List PV) (b:Int) (c a:List PV) (d:Int) (g i:List PV) (j h:Int):zDz e f b c a d g i j h =
 bif decide (h<j)then bif decide ((0:Int)≤h)then i[Int.toNat h]?.bind λ l=>zL l λ m n o p q=>(wc W zGr [.agg [.int .i64 m, .int .i64 n, .int .i64 o, .int .i64 p, .slice 6 q]]).bind λ r=>c_s0 r λ k=>bif (k.length:Int)==(0:Int)then some (.bool false)else(wc W zC5 [.slice 0 k, .slice 0 g]).bind λ s=>c_b s λ t=>bif !t then some (.bool false)else zDz e f b c a d g i j (IntKind.wrap .i64 (h+1))else none else bif b==(-1:Int)then bif decide (GE.ge (a.length:Int) (1:Int))then bif decide ((a.length:Int)≤(8:Int))then(wc W zHh [.slice 0 a]).bind λ u=>c_b u λ v=>bif v then(wc W zC5 [.slice 0 a, .slice 0 g]).bind λ w=>c_b w λ x=>zDD e f b c a d x else zDD e f b c a d false else zDD e f b c a d false else zDD e f b c a d false else(wc W zC5 [.slice 0 [.int .i64 b], .slice 0 g]).bind λ y=>c_b y λ z=>bif z then bif decide ((c.length:Int)≤(4:Int))then(wc W zC5 [.slice 0 c, .slice 0 g]).bind λ A=>c_b A λ B=>bif B then bif (a.length:Int)==(0:Int)then bif d==(-1:Int)then some (.bool true)else some (.bool (d==b))else some (.bool false)else some (.bool false)else some (.bool false)else some (.bool false):=((tN_ fi22).loop [1,1,1,1,0,1,0] 0 _ rfl).trans (by kernel_rfl)
theorem zLc(e f:List PV) (g:Int) (b c:List PV) (a:Int) (d:Bool):zDD e f g b c a d =
 bif d then bif (b.length:Int)==(0:Int)then bif a==(-1:Int)then some (.bool true)else(wc W zAk [.slice 0 c, .int .i64 a]).bind λ h=>c_b h λ i=>some (.bool i)else some (.bool false)else some (.bool false):=((tN_ fi22).join [1,1,1,1,1,0,1,0,1] _).trans (by kernel_rfl)
theorem zS1(b a c:List PV) (d:Int) (e f:List PV) (g:Int):wc W zGl [.agg [.slice 3 b], .agg [.slice 0 a, .slice 6 c, .int .i64 d, .slice 0 e, .slice 0 f, .int .i64 g]] =
 (wc W zIV [.agg [.slice 3 b]]).bind λ h=>c_b h λ i=>bif !i then some (.bool false)else bif decide ((a.length:Int)<(1:Int))then some (.bool false)else bif decide (GT.gt (a.length:Int) (4:Int))then some (.bool false)else(wc W zA0 [.slice 0 a, .fn zGp [] [.imm 2 (.agg [.slice 3 b]) 0]]).bind λ j=>c_b j λ k=>bif k then some (.bool false)else bif decide (GT.gt (c.length:Int) (6:Int))then some (.bool false)else zJt b a c d e f g:=go (by kernel_rfl) (by kernel_rfl) (tN_ fi22) (by kernel_rfl)
noncomputable def zIj(j a b c:List PV) (d:Int) (e f:List PV) (g h:Int) (i:List PV):Option PV:=(jN_ fi25) [1,1] (St.mk [(4, .pv (.imm 2 (.agg [.slice 3 j]) 0)),(5, .pv (.imm 2 (.agg [.slice 0 a]) 0)),(6, .pv (.imm 7 (.agg [.slice 0 b, .slice 6 c, .int .i64 d, .slice 0 e, .slice 0 f, .int .i64 g]) 0)),(7, .pv (.imm 3 (.agg [.int .i64 h, .slice 3 i]) 0)),(8, .own 0 0)] [.var false 3 (.agg [AV.nil 0,AV.nil 0])])
theorem zKj(k a b c:List PV) (d:Int) (e f:List PV) (g h:Int) (i:List PV):zIj k a b c d e f g h i =
 (W zE6 false [.fnv zB9 [] [.own 0 0, .pv (.imm 3 (.agg [.int .i64 h, .slice 3 i]) 0)]] [.var false 0 (.fnv zJ [] [.pv (.imm 2 (.agg [.slice 3 k]) 0), .pv (.imm 2 (.agg [.slice 0 a]) 0), .pv (.imm 7 (.agg [.slice 0 b, .slice 6 c, .int .i64 d, .slice 0 e, .slice 0 f, .int .i64 g]) 0), .own 0 0])]).bind λ l=>zI1 l λ j t u v w x y z A=>j.asTup.bind λ m=>m[0]?.bind λ n=>zAI n λ o p=>j.asTup.bind λ q=>q[1]?.bind λ r=>c_b r λ s=>some (.tup [.agg [.slice 0 o, .slice 0 p], .bool s]):=((tN_ fi25).join [1,1] _).trans (by kernel_rfl)
theorem zQr(a e b f:List PV) (g:Int) (h i:List PV) (j c:Int) (d:List PV):wc W zHg [.agg [.slice 3 a], .agg [.slice 0 e], .agg [.slice 0 b, .slice 6 f, .int .i64 g, .slice 0 h, .slice 0 i, .int .i64 j], .agg [.int .i64 c, .slice 3 d]] =
 (wc W zGl [.agg [.slice 3 a], .agg [.slice 0 b, .slice 6 f, .int .i64 g, .slice 0 h, .slice 0 i, .int .i64 j]]).bind λ k=>c_b k λ l=>bif !l then some (.tup [.agg [.slice 0 [], .slice 0 []], .bool false])else(wc W zFY [.agg [.slice 3 a], .agg [.slice 0 e]]).bind λ m=>c_b m λ n=>bif !n then some (.tup [.agg [.slice 0 [], .slice 0 []], .bool false])else(wc W zKe [.agg [.int .i64 c, .slice 3 d]]).bind λ o=>c_b o λ p=>bif !p then some (.tup [.agg [.slice 0 [], .slice 0 []], .bool false])else(wc W zEP [.agg [.int .i64 c, .slice 3 d]]).bind λ q=>zA5 q λ r=>bif decide (GT.gt (Int.fdiv r (HPow.hPow (2:Int) (Min.min (Int.toNat (b.length:Int)) 64))) (0:Int))then some (.tup [.agg [.slice 0 [], .slice 0 []], .bool false])else zIj a e b f g h i j c d:=go (by kernel_rfl) (by kernel_rfl) (tN_ fi25) (by kernel_rfl)
theorem zUz(a:Int) (b:List PV):wc W zEP [.agg [.int .i64 a, .slice 3 b]] =
 (wc W zDg [.agg [.int .i64 a, .slice 3 b], .int .i64 (4:Int)]).bind λ c=>c.asTup.bind λ d=>d[0]?.bind λ e=>zA5 e λ f=>c.asTup.bind λ g=>g[1]?.bind λ h=>c_b h λ i=>bif !i then some (.int .i64 (0:Int))else some (.int .i64 f):=go (by kernel_rfl) (by kernel_rfl) (tN_ fi28) (by kernel_rfl)
noncomputable def zBg(a b:Int) (c:List PV) (d e:Int):Option PV:=(lN_ fi29) [0,1,0,1,1] 0 (St.mk [(1, .pv (.int .i64 a)),(2, .pv (.imm 3 (.agg [.int .i64 b, .slice 3 c]) 0)),(5, .pv (.int .i64 d)),(6, .pv (.int .i64 e))] [])
noncomputable def zEE(b c:Int) (d:List PV) (e a:Int):Option PV:=(jN_ fi29) [1,0,0,1,0,1,1] (St.mk [(1, .pv (.int .i64 b)),(2, .pv (.imm 3 (.agg [.int .i64 c, .slice 3 d]) 0)),(5, .pv (.int .i64 e)),(6, .pv (.int .i64 a))] [])
theorem zDX(b e:Int) (c:List PV) (a d:Int):zBg b e c a d =
 bif decide (d<(c.length:Int))then bif decide (a≤b)then zEE b e c a d else some (.int .i64 a)else some (.int .i64 a):=((tN_ fi29).loop [1,1,0,1,0] 0 _ rfl).trans (by kernel_rfl)
theorem zGJ(b e:Int) (c:List PV) (d a:Int):zEE b e c d a =
 bif decide ((0:Int)≤a)then c[Int.toNat a]?.bind λ f=>zDA f λ g h=>(wc W zCC [.agg [.int .i64 g, .slice 3 h], .int .i64 (IntKind.wrap .i64 (b-d:Int))]).bind λ i=>zA5 i λ j=>zBg b e c (IntKind.wrap .i64 (d+j:Int)) (IntKind.wrap .i64 (a+1))else none:=((tN_ fi29).join [1,1,0,1,0,0,1] _).trans (by kernel_rfl)
theorem zIc(a:Int) (b:List PV) (c:Int):wc W zCC [.agg [.int .i64 a, .slice 3 b], .int .i64 c] =
 zBg c a b (1:Int) (0:Int):=go (by kernel_rfl) (by kernel_rfl) (tN_ fi29) (by kernel_rfl)
theorem zNj(f g:List PV) (a:Int) (d e:List PV) (h:Int) (b c:List PV):wc W zE0 [.agg [.slice 0 f, .slice 6 g, .int .i64 a, .slice 0 d, .slice 0 e, .int .i64 h], .agg [.slice 0 b, .slice 0 c]] =
 bif a != (-1:Int)then(wc W zJG [.agg [.slice 0 b, .slice 0 c], .int .i64 a, .slice 0 d]).bind λ i=>i.asTup.bind λ r=>r[0]?.bind λ s=>zAI s λ t u=>i.asTup.bind λ v=>v[1]?.bind λ w=>c_b w λ x=>some (.tup [.agg [.slice 0 t, .slice 0 u], .bool x])else(wc W zKc [.agg [.slice 0 b, .slice 0 c], .slice 0 e]).bind λ j=>j.asTup.bind λ k=>k[0]?.bind λ l=>zAI l λ m n=>j.asTup.bind λ o=>o[1]?.bind λ p=>c_b p λ q=>some (.tup [.agg [.slice 0 m, .slice 0 n], .bool q]):=go (by kernel_rfl) (by kernel_rfl) (tN_ fi32) (by kernel_rfl)
theorem zPO(d e f g:List PV) (h:Int) (i j:List PV) (a:Int) (b c:List PV):wc W zGm [.agg [.slice 3 d], .agg [.slice 0 e], .agg [.slice 0 f, .slice 6 g, .int .i64 h, .slice 0 i, .slice 0 j, .int .i64 a], .agg [.slice 0 b, .slice 0 c]] =
 (wc W zJC [.agg [.slice 3 d], .agg [.slice 0 e], .agg [.slice 0 f, .slice 6 g, .int .i64 h, .slice 0 i, .slice 0 j, .int .i64 a]]).bind λ k=>k.asTup.bind λ o=>o[0]?.bind λ p=>zAI p λ q r=>k.asTup.bind λ s=>s[1]?.bind λ t=>c_b t λ u=>bif u then(wc W zIT [.agg [.slice 0 q, .slice 0 r], .agg [.slice 0 b, .slice 0 c]]).bind λ v=>c_b v λ l=>bif l then bif a==(-1:Int)then some (.bool true)else(wc W zHf [.agg [.slice 0 b, .slice 0 c], .int .i64 a]).bind λ m=>c_b m λ n=>some (.bool n)else some (.bool false)else some (.bool false):=go (by kernel_rfl) (by kernel_rfl) (tN_ fi36) (by kernel_rfl)
noncomputable def zLW(a b c:List PV):Option PV:=(jN_ fi39) [1,1] (St.mk [(1, .pv (.slice 0 a)),(2, .pv (.imm 3 (.agg [.slice 0 b, .slice 0 c]) 0)),(4, .own 0 0)] [.var false 3 (.agg [AV.nil 0,AV.nil 0])])
noncomputable def zFx(f g a b:List PV) (c d:Int) (e:List PV):Option PV:=(lN_ fi39) [0,1,0,1,1,1] 2 (St.mk [(1, .pv (.slice 0 f)),(2, .pv (.imm 3 (.agg [.slice 0 g, .slice 0 a]) 0)),(4, .own 0 0),(6, .view 1 0 none),(26, .pv (.slice 0 b)),(27, .pv (.int .i64 c)),(28, .pv (.int .i64 d))] [.var false 3 (.agg [AV.nil 0,AV.nil 0]), .row false 0 0 e])
noncomputable def zE9(a:List PV) (b c:Int) (d e f g h:List PV):Option PV:=(lN_ fi39) [0,1,0,1,1,1,1,1] 6 (St.mk [(4, .own 0 0),(6, .view 1 0 none),(10, .own 4 0),(48, .pv (.slice 0 a)),(49, .pv (.int .i64 b)),(50, .pv (.int .i64 c))] [.var false 3 (.agg [AV.nil 0,AV.nil 0]), .row false 0 0 d, .row false 0 0 e, .row false 0 0 f, .var false 3 (.agg [.pv (.slice 0 g), .view 5 0 none]), .row false 0 0 h])
noncomputable def zFy(a b:List PV) (c d e f:Int) (g h i j k l:List PV):Option PV:=(lN_ fi39) [0,1,0,1,1,0,0,1,1,6,0,1,0,1,1,1,1,1] 7 (St.mk [(4, .own 0 0),(6, .view 1 0 none),(10, .own 4 0),(12, .pv (.slice 3 a)),(13, .view 6 0 none),(48, .pv (.slice 0 b)),(49, .pv (.int .i64 c)),(50, .pv (.int .i64 d)),(54, .view 1 0 none),(55, .pv (.int .i64 e)),(56, .pv (.int .i64 f))] [.var false 3 (.agg [AV.nil 0,AV.nil 0]), .row false 0 0 g, .row false 0 0 h, .row false 0 0 i, .var false 3 (.agg [.pv (.slice 0 j), .view 5 0 none]), .row false 0 0 k, .row false 0 3 l])
theorem zNI(a b c:List PV):zLW a b c =
 zFx a b c a (a.length:Int) (0:Int) []:=((tN_ fi39).join [1,1] _).trans (by kernel_rfl)
theorem zHn(g h b d:List PV) (e a:Int) (c:List PV):zFx g h b d e a c =
 bif decide (a<e)then bif decide ((0:Int)≤a)then d[Int.toNat a]?.bind λ i=>zA5 i λ j=>(wc W zAG [.slice 0 h, .int .i64 j]).bind λ k=>zA5 k λ f=>bif decide (f<(0:Int))then some (.tup [.agg [.slice 0 [], .slice 0 []], .bool false])else bif true&&(decide (((List.length c)+1:Nat)≤4294967296))then zFx g h b d e (IntKind.wrap .i64 (a+1)) (c++[.int .i64 f])else none else none else(wc W zAj [.slice 0 g]).bind λ l=>c_s0 l λ m=>zE9 b (b.length:Int) (0:Int) c [] [] m []:=((tN_ fi39).loop [1,1,1,0,1,0] 2 _ rfl).trans (by kernel_rfl)
theorem zHo(b:List PV) (c a:Int) (d g h e f:List PV):zE9 b c a d g h e f =
 bif decide (a<c)then bif decide ((0:Int)≤a)then b[Int.toNat a]?.bind λ i=>c_s3 i λ j=>zFy j b c a (d.length:Int) (0:Int) d g h e f []else none else some (.tup [.agg [.slice 0 e, .slice 0 f], .bool true]):=((tN_ fi39).loop [1,1,1,1,1,0,1,0] 6 _ rfl).trans (by kernel_rfl)
theorem zHp(e f:List PV) (g h i a:Int) (b j k l c d:List PV):zFy e f g h i a b j k l c d =
 bif decide (a<i)then bif (true&&(decide ((0:Int)≤a)))&&(decide (a<(b.length:Int)))then b[(0+(Int.toNat a):Nat)]?.bind λ n=>zA5 n λ m=>bif decide ((0:Int)≤m)then e[Int.toNat m]?.bind λ o=>zB o λ p q=>bif true&&(decide (((List.length d)+1:Nat)≤4294967296))then zFy e f g h i (IntKind.wrap .i64 (a+1)) b j k l c (d++[.agg [.int .i64 p, .int .i64 q]])else none else none else none else bif true&&(decide (((List.length c)+1:Nat)≤4294967296))then zE9 f g (IntKind.wrap .i64 (h+1)) b j k l (c++[.slice 3 d])else none:=((tN_ fi39).loop [1,1,1,1,1,0,1,0,6,1,1,0,0,1,1,0,1,0] 7 _ rfl).trans (by kernel_rfl)
theorem zVA(a b c:List PV):wc W zKc [.agg [.slice 0 a, .slice 0 b], .slice 0 c] =
 (wc W zE5 [.agg [.slice 0 a, .slice 0 b]]).bind λ d=>c_b d λ e=>bif !e then some (.tup [.agg [.slice 0 [], .slice 0 []], .bool false])else(wc W zE5 [.agg [.slice 0 c, .slice 0 []]]).bind λ f=>c_b f λ g=>bif !g then some (.tup [.agg [.slice 0 [], .slice 0 []], .bool false])else zLW c a b:=go (by kernel_rfl) (by kernel_rfl) (tN_ fi39) (by kernel_rfl)
theorem zS2(a b:List PV) (c:Int) (d e:List PV) (f g:Int):wc W zJD [.agg [.slice 0 a, .slice 6 b, .int .i64 c, .slice 0 d, .slice 0 e, .int .i64 f], .int .i64 g] =
 (wc W zFs [.agg [.slice 0 a, .slice 6 b, .int .i64 c, .slice 0 d, .slice 0 e, .int .i64 f], .fn zAq [.int .i64 g] []]).bind λ h=>c_s0 h λ i=>some (.slice 0 i):=go (by kernel_rfl) (by kernel_rfl) (tN_ fi40) (by kernel_rfl)
noncomputable def zGx(m n o:List PV) (p q:Int) (r s t u a b c d e f g h i j k l:Bool):Option PV:=(lN_ fi41) [0,1,0,1,1] 1 (St.mk [(1, .pv (.imm 3 (.agg [.slice 0 m, .slice 0 n]) 0)),(3, .own 0 0),(10, .pv (.slice 0 o)),(11, .pv (.int .i64 p)),(12, .pv (.int .i64 q))] [.var false 17 (.pv (.agg [.bool r, .bool s, .bool t, .bool u, .bool a, .bool b, .bool c, .bool d, .bool e, .bool f, .bool g, .bool h, .bool i, .bool j, .bool k, .bool l]))])
noncomputable def zGy(a b c:List PV) (d e:Int) (f g h i j k l m n o p q r s t u:Bool):Option PV:=(lN_ fi41) [0,1,0,1,1,1,1] 1 (St.mk [(1, .pv (.imm 3 (.agg [.slice 0 a, .slice 0 b]) 0)),(6, .pv (.fn zF1 [] [])),(31, .pv (.slice 0 c)),(32, .pv (.int .i64 d)),(33, .pv (.int .i64 e))] [.var false 17 (.pv (.agg [.bool f, .bool g, .bool h, .bool i, .bool j, .bool k, .bool l, .bool m, .bool n, .bool o, .bool p, .bool q, .bool r, .bool s, .bool t, .bool u]))])
theorem zIk(t n u:List PV) (v o:Int) (p q r s b c d e f g h i j k l m:Bool):zGx t n u v o p q r s b c d e f g h i j k l m =
 bif decide (o<v)then bif decide ((0:Int)≤o)then u[Int.toNat o]?.bind λ w=>zA5 w λ a=>bif decide (a<(0:Int))then some (.bool false)else bif decide (GT.gt a (15:Int))then some (.bool false)else bif (decide ((0:Int)≤a))&&(decide (a<(16:Int)))then(PV.load 17 (.agg [.bool p, .bool q, .bool r, .bool s, .bool b, .bool c, .bool d, .bool e, .bool f, .bool g, .bool h, .bool i, .bool j, .bool k, .bool l, .bool m]) (0+((Int.toNat a)*1:Nat):Nat) 0).bind λ x=>c_b x λ y=>bif y then some (.bool false)else bif (decide ((0:Int)≤a))&&(decide (a<(16:Int)))then bif (decide (((0+((Int.toNat a)*1:Nat):Nat)+1:Nat)≤16))&&true then zGx t n u v (IntKind.wrap .i64 (o+1)) (bif 0==(0+((Int.toNat a)*1:Nat):Nat)then true else p) (bif 1==(0+((Int.toNat a)*1:Nat):Nat)then true else q) (bif 2==(0+((Int.toNat a)*1:Nat):Nat)then true else r) (bif 3==(0+((Int.toNat a)*1:Nat):Nat)then true else s) (bif 4==(0+((Int.toNat a)*1:Nat):Nat)then true else b) (bif 5==(0+((Int.toNat a)*1:Nat):Nat)then true else c) (bif 6==(0+((Int.toNat a)*1:Nat):Nat)then true else d) (bif 7==(0+((Int.toNat a)*1:Nat):Nat)then true else e) (bif 8==(0+((Int.toNat a)*1:Nat):Nat)then true else f) (bif 9==(0+((Int.toNat a)*1:Nat):Nat)then true else g) (bif 10==(0+((Int.toNat a)*1:Nat):Nat)then true else h) (bif 11==(0+((Int.toNat a)*1:Nat):Nat)then true else i) (bif 12==(0+((Int.toNat a)*1:Nat):Nat)then true else j) (bif 13==(0+((Int.toNat a)*1:Nat):Nat)then true else k) (bif 14==(0+((Int.toNat a)*1:Nat):Nat)then true else l) (bif 15==(0+((Int.toNat a)*1:Nat):Nat)then true else m)else none else none else none else none else zGy t n n (n.length:Int) (0:Int) p q r s b c d e f g h i j k l m:=((tN_ fi41).loop [1,1,0,1,0] 1 _ rfl).trans (by kernel_rfl)
theorem zIl(b c d:List PV) (e a:Int) (f g h i j k l m n o p q r s t u:Bool):zGy b c d e a f g h i j k l m n o p q r s t u =
 bif decide (a<e)then bif decide ((0:Int)≤a)then d[Int.toNat a]?.bind λ w=>c_s3 w λ v=>bif (v.length:Int) != (b.length:Int)then some (.bool false)else(wc W zN [.slice 3 v, .fn zF1 [] []]).bind λ x=>c_b x λ y=>bif y then some (.bool false)else zGy b c d e (IntKind.wrap .i64 (a+1)) f g h i j k l m n o p q r s t u else none else some (.bool (decide ((c.length:Int)≤(5000:Int)))):=((tN_ fi41).loop [1,1,1,1,0,1,0] 1 _ rfl).trans (by kernel_rfl)
theorem zWj(a b:List PV):wc W zE5 [.agg [.slice 0 a, .slice 0 b]] =
 zGx a b a (a.length:Int) (0:Int) false false false false false false false false false false false false false false false false:=go (by kernel_rfl) (by kernel_rfl) (tN_ fi41) (by kernel_rfl)
theorem zVB(a b c:List PV):wc W zDf [.agg [.slice 0 a, .slice 0 b], .slice 6 c] =
 (wc W zGV [.agg [.slice 0 a, .slice 0 b], .fn zFt [] [.imm 0 (.slice 6 c) 0, .imm 3 (.agg [.slice 0 a, .slice 0 b]) 0]]).bind λ d=>zAI d λ e f=>some (.agg [.slice 0 e, .slice 0 f]):=go (by kernel_rfl) (by kernel_rfl) (tN_ fi42) (by kernel_rfl)
theorem zVC(a b:List PV) (c:Int):wc W zKd [.agg [.slice 0 a, .slice 0 b], .int .i64 c] =
 (W zGV true [.pv (.agg [.slice 0 a, .slice 0 b]), .pv (.fn zE7 [] [])] []).bind λ f=>zTg f λ g h=>(wc W zAG [.slice 0 a, .int .i64 c]).bind λ i=>zA5 i λ j=>(W zA8 false [AV.fx 0 0, .fnv zD [] [.own 1 0]] [.fix 0 0 h, .var false 0 (.pv (.int .i64 j))]).bind λ d=>zDC d λ k e l=>some (.agg [.slice 0 g, .slice 0 e]):=go (by kernel_rfl) (by kernel_rfl) (tN_ fi43) (by kernel_rfl)
noncomputable def zJu(a b:List PV):Option PV:=(jN_ fi50) [1,1] (St.mk [(2, .pv (.imm 2 (.agg [.slice 3 a]) 0)),(3, .pv (.imm 2 (.agg [.slice 0 b]) 0))] [])
noncomputable def zEy(a b:List PV) (c d:Int):Option PV:=(lN_ fi50) [0,1,0,1,1] 0 (St.mk [(2, .pv (.imm 2 (.agg [.slice 3 a]) 0)),(21, .pv (.slice 0 b)),(22, .pv (.int .i64 c)),(23, .pv (.int .i64 d))] [])
theorem zLd(b a:List PV):zJu b a =
 zEy b a (a.length:Int) (0:Int):=((tN_ fi50).join [1,1] _).trans (by kernel_rfl)
theorem zHL(c d:List PV) (e a:Int):zEy c d e a =
 bif decide (a<e)then bif decide ((0:Int)≤a)then d[Int.toNat a]?.bind λ i=>c_s0 i λ b=>bif decide (GT.gt (b.length:Int) (8:Int))then some (.bool false)else(W zA1 false [.pv (.slice 0 b), .fnv zB5 [] [.pv (.imm 2 (.agg [.slice 3 c]) 0), .own 0 0]] [.var false 0 (.pv (.int .i64 a))]).bind λ f=>zDB f λ g j=>c_b g λ h=>bif h then some (.bool false)else zEy c d e (IntKind.wrap .i64 (a+1))else none else some (.bool true):=((tN_ fi50).loop [1,1,0,1,0] 0 _ rfl).trans (by kernel_rfl)
theorem zS3(a b:List PV):wc W zFY [.agg [.slice 3 a], .agg [.slice 0 b]] =
 (wc W zIV [.agg [.slice 3 a]]).bind λ c=>c_b c λ d=>bif !d then some (.bool false)else bif (b.length:Int) != (a.length:Int)then some (.bool false)else zJu a b:=go (by kernel_rfl) (by kernel_rfl) (tN_ fi50) (by kernel_rfl)
noncomputable def zBW(a b:List PV) (c d:Int):Option PV:=(lN_ fi52) [0,1,0,1,1] 0 (St.mk [(0, .pv (.slice 0 a)),(1, .pv (.slice 0 b)),(12, .pv (.int .i64 c)),(13, .pv (.int .i64 d))] [])
theorem zCp(b c:List PV) (d a:Int):zBW b c d a =
 bif decide (a<d)then bif decide ((0:Int)≤a)then b[Int.toNat a]?.bind λ e=>zA5 e λ f=>bif decide ((0:Int)≤a)then c[Int.toNat a]?.bind λ g=>zA5 g λ h=>bif f != h then some (.bool false)else zBW b c d (IntKind.wrap .i64 (a+1))else none else none else some (.bool true):=((tN_ fi52).loop [1,1,0,1,0] 0 _ rfl).trans (by kernel_rfl)
theorem zHX(a b:List PV):wc W zC8 [.slice 0 a, .slice 0 b] =
 bif (a.length:Int) != (b.length:Int)then some (.bool false)else zBW a b (a.length:Int) (0:Int):=go (by kernel_rfl) (by kernel_rfl) (tN_ fi52) (by kernel_rfl)
noncomputable def zBX(a:List PV) (b c d:Int):Option PV:=(lN_ fi54) [0,1,0,1] 0 (St.mk [(0, .pv (.slice 0 a)),(1, .pv (.int .i64 b)),(7, .pv (.int .i64 c)),(8, .pv (.int .i64 d))] [])
theorem zCq(b:List PV) (c d a:Int):zBX b c d a =
 bif decide (a<d)then bif decide ((0:Int)≤a)then b[Int.toNat a]?.bind λ e=>zA5 e λ f=>bif c==f then some (.int .i64 a)else zBX b c d (IntKind.wrap .i64 (a+1))else none else some (.int .i64 (-1:Int)):=((tN_ fi54).loop [1,0,1,0] 0 _ rfl).trans (by kernel_rfl)
theorem zHY(a:List PV) (b:Int):wc W zAG [.slice 0 a, .int .i64 b] =
 zBX a b (a.length:Int) (0:Int):=go (by kernel_rfl) (by kernel_rfl) (tN_ fi54) (by kernel_rfl)
noncomputable def zAC(a:List PV) (b c:Int):Option (AV×List Ob):=(lO_ fi55 false 1) [0,1,0,1] 1 (St.mk [(0, .pv (.slice 0 a)),(1, .fnv zC4 [] [.own 0 0]),(5, .pv (.int .i64 b))] [.var false 0 (.pv (.int .i64 c))])
theorem zAU(b:List PV) (a d:Int):zAC b a d =
 bif decide (GT.gt a (0:Int))then bif decide ((0:Int)≤a)then b[Int.toNat a]?.bind λ h=>c_s3 h λ i=>bif decide ((0:Int)≤(IntKind.wrap .i64 (a-1)))then b[Int.toNat (IntKind.wrap .i64 (a-1))]?.bind λ j=>c_s3 j λ k=>(W zC4 false [.pv (.slice 3 i), .pv (.slice 3 k), .own 0 0] [.var false 0 (.pv (.int .i64 d))]).bind λ e=>zDB e λ f c=>zA5 f λ g=>bif decide (g<(0:Int))then some (.pv (.bool false),[.var false 0 (.pv (.int .i64 c))])else zAC b (IntKind.wrap .i64 (a-1)) c else none else none else some (.pv (.bool true),[.var false 0 (.pv (.int .i64 d))]):=((tO_ fi55 false 1).loop [1,0,1,0] 1 _ rfl).trans (by kernel_rfl)
theorem zC1(a:List PV) (b:Int):W zB3 false [.pv (.slice 0 a), .fnv zC4 [] [.own 0 0]] [.var false 0 (.pv (.int .i64 b))] =
 zAC a (IntKind.wrap .i64 ((a.length:Int)-(1:Int):Int)) b:=goO (by kernel_rfl) (by kernel_rfl) (tO_ fi55 false 1) rfl (by kernel_rfl)
theorem zJN(b c:List PV) (a:Int):W zC4 false [.pv (.slice 3 b), .pv (.slice 3 c), .own 0 0] [.var false 0 (.pv (.int .i64 a))] =
 (wc W zGn [.slice 3 b, .int .i64 a]).bind λ d=>zB d λ e f=>(wc W zGn [.slice 3 c, .int .i64 a]).bind λ g=>zB g λ h i=>(wc W zB4 [.agg [.int .i64 e, .int .i64 f], .agg [.int .i64 h, .int .i64 i]]).bind λ j=>zA5 j λ k=>some (.pv (.int .i64 k),[.var false 0 (.pv (.int .i64 a))]):=goO (by kernel_rfl) (by kernel_rfl) (tO_ fi56 false 1) rfl (by kernel_rfl)
theorem zPP(a b c d:Int):wc W zB4 [.agg [.int .i64 a, .int .i64 b], .agg [.int .i64 c, .int .i64 d]] =
 ((bif a==c then bif b==d then some true else some false else some false).bind λ e=>some (.bool e)).bind λ f=>c_b f λ g=>bif g then some (.int .i64 (0:Int))else(wc W zDh [.slice 0 [.int .i64 a, .int .i64 b], .slice 0 [.int .i64 c, .int .i64 d]]).bind λ h=>zA5 h λ i=>some (.int .i64 i):=go (by kernel_rfl) (by kernel_rfl) (tN_ fi57) (by kernel_rfl)
noncomputable def zOU(a:List PV) (b c d:Int):Option PV:=(jN_ fi58) [1,1] (St.mk [(0, .pv (.slice 3 a)),(1, .pv (.int .i64 b)),(4, .own 0 0)] [.var false 3 (.pv (.agg [.int .i64 c, .int .i64 d]))])
noncomputable def zKk(a b c d:Int):Option PV:=(jN_ fi58) [1,1,1,1] (St.mk [(4, .own 0 0),(5, .own 1 0)] [.var false 3 (.pv (.agg [.int .i64 a, .int .i64 b])), .var false 3 (.pv (.agg [.int .i64 c, .int .i64 d]))])
theorem zPQ(d:List PV) (a b c:Int):zOU d a b c =
 bif decide ((0:Int)≤a)then d[Int.toNat a]?.bind λ g=>zB g λ e f=>(wc W zF2 [.agg [.int .i64 e, .int .i64 f]]).bind λ h=>c_b h λ i=>bif !i then zKk b c (2:Int) (0:Int)else zKk b c e f else none:=((tN_ fi58).join [1,1] _).trans (by kernel_rfl)
theorem zPR(c d a b:Int):zKk c d a b =
 some (.agg [.int .i64 a, .int .i64 b]):=((tN_ fi58).join [1,1,1,1] _).trans (by kernel_rfl)
theorem zYh(b:List PV) (a:Int):wc W zGn [.slice 3 b, .int .i64 a] =
 bif decide (a<(0:Int))then some (.agg [.int .i64 (0:Int), .int .i64 (0:Int)])else bif decide (GE.ge a (b.length:Int))then some (.agg [.int .i64 (0:Int), .int .i64 (0:Int)])else zOU b a (0:Int) (0:Int):=go (by kernel_rfl) (by kernel_rfl) (tN_ fi58) (by kernel_rfl)
theorem zJO(a b c:List PV) (d:Int) (e f:List PV) (g:Int):wc W zFZ [.agg [.slice 3 a], .agg [.slice 0 b, .slice 6 c, .int .i64 d, .slice 0 e, .slice 0 f, .int .i64 g]] =
 (wc W zBe [.agg [.slice 3 a], .agg [.slice 0 b, .slice 6 c, .int .i64 d, .slice 0 e, .slice 0 f, .int .i64 g]]).bind λ h=>c_b h λ i=>bif i then some (.int .i64 (0:Int))else some (.int .i64 (1:Int)):=go (by kernel_rfl) (by kernel_rfl) (tN_ fi59) (by kernel_rfl)
theorem zJP(a:List PV):wc W zF0 [.agg [.slice 0 a]] =
 (wc W zD8 [.agg [.slice 0 a]]).bind λ b=>c_b b λ c=>bif c then some (.int .i64 (0:Int))else some (.int .i64 (1:Int)):=go (by kernel_rfl) (by kernel_rfl) (tN_ fi60) (by kernel_rfl)
noncomputable def zEA(a b c d:List PV) (e:Int) (f g:List PV) (h i:Int) (j k:List PV):Option PV:=(lN_ fi62) [0,1,0,1,1] 2 (St.mk [(0, .pv (.imm 2 (.agg [.slice 3 a]) 0)),(1, .pv (.imm 2 (.agg [.slice 0 b]) 0)),(2, .pv (.imm 7 (.agg [.slice 0 c, .slice 6 d, .int .i64 e, .slice 0 f, .slice 0 g, .int .i64 h]) 0)),(3, .own 0 0),(4, .own 1 0),(5, .pv (.int .i64 i))] [.var false 3 (.agg [AV.nil 0,AV.nil 0]), .var false 3 (.pv (.agg [.slice 0 j, .slice 0 k]))])
theorem zFz(d e b c:List PV) (f:Int) (g h:List PV) (i a:Int) (j k:List PV):zEA d e b c f g h i a j k =
 bif decide (a<(b.length:Int))then bif decide ((0:Int)≤a)then b[Int.toNat a]?.bind λ o=>zA5 o λ p=>(wc W zGU [.agg [.slice 3 d], .agg [.slice 0 e], .int .i64 p, .int .i64 a]).bind λ l=>l.asTup.bind λ q=>q[0]?.bind λ r=>zAI r λ s t=>l.asTup.bind λ u=>u[1]?.bind λ v=>c_b v λ w=>(wc W zCR [.agg [.slice 0 s, .slice 0 t], .bool w]).bind λ x=>zAI x λ y z=>(wc W zGo [.agg [.slice 0 j, .slice 0 k], .agg [.slice 0 y, .slice 0 z]]).bind λ m=>m.asTup.bind λ A=>A[0]?.bind λ B=>zAI B λ C D=>m.asTup.bind λ E=>E[1]?.bind λ F=>c_b F λ G=>(wc W zCR [.agg [.slice 0 C, .slice 0 D], .bool G]).bind λ H=>zAI H λ I J=>zEA d e b c f g h i (IntKind.wrap .i64 (a+1)) I J else none else(wc W zDf [.agg [.slice 0 j, .slice 0 k], .slice 6 c]).bind λ K=>zAI K λ L M=>(wc W zE0 [.agg [.slice 0 b, .slice 6 c, .int .i64 f, .slice 0 g, .slice 0 h, .int .i64 i], .agg [.slice 0 L, .slice 0 M]]).bind λ n=>n.asTup.bind λ N=>N[0]?.bind λ O=>zAI O λ P Q=>n.asTup.bind λ R=>R[1]?.bind λ S=>c_b S λ T=>(wc W zCR [.agg [.slice 0 P, .slice 0 Q], .bool T]).bind λ U=>zAI U λ V X=>some (.agg [.slice 0 V, .slice 0 X]):=((tN_ fi62).loop [1,1,0,1,0] 2 _ rfl).trans (by kernel_rfl)
theorem zPS(a b c d:List PV) (e:Int) (f g:List PV) (h:Int):wc W zCX [.imm 2 (.agg [.slice 3 a]) 0, .imm 2 (.agg [.slice 0 b]) 0, .imm 7 (.agg [.slice 0 c, .slice 6 d, .int .i64 e, .slice 0 f, .slice 0 g, .int .i64 h]) 0] =
 c[0]?.bind λ n=>zA5 n λ o=>(wc W zGU [.agg [.slice 3 a], .agg [.slice 0 b], .int .i64 o, .int .i64 (0:Int)]).bind λ i=>i.asTup.bind λ p=>p[0]?.bind λ q=>zAI q λ r s=>i.asTup.bind λ t=>t[1]?.bind λ u=>c_b u λ j=>(wc W zCR [.agg [.slice 0 r, .slice 0 s], .bool j]).bind λ k=>zAI k λ l m=>zEA a b c d e f g h (1:Int) l m:=go (by kernel_rfl) (by kernel_rfl) (tN_ fi62) (by kernel_rfl)
theorem zQs(a b:List PV) (c:Bool):wc W zCR [.agg [.slice 0 a, .slice 0 b], .bool c] =
 bif !c then none else some (.agg [.slice 0 a, .slice 0 b]):=go (by kernel_rfl) (by kernel_rfl) (tN_ fi63) (by kernel_rfl)
noncomputable def zNJ(b c:Int) (d a:List PV):Option PV:=(jN_ fi64) [1,1] (St.mk [(2, .pv (.int .i64 b)),(3, .pv (.int .i64 c)),(4, .pv (.imm 2 (.agg [.slice 3 d]) 0)),(5, .pv (.imm 2 (.agg [.slice 0 a]) 0)),(8, .own 0 0)] [.var false 3 (.agg [AV.nil 0,AV.nil 0])])
noncomputable def zF6(a b:Int) (c:List PV) (d e:Int) (f:List PV):Option PV:=(lN_ fi64) [0,1,0,1,1,1] 2 (St.mk [(2, .pv (.int .i64 a)),(3, .pv (.int .i64 b)),(5, .pv (.imm 2 (.agg [.slice 0 c]) 0)),(8, .own 0 0),(10, .view 1 0 none),(36, .pv (.int .i64 d)),(37, .pv (.int .i64 e))] [.var false 3 (.agg [AV.nil 0,AV.nil 0]), .row false 0 0 f])
theorem zNk(a c:Int) (d b:List PV):zNJ a c d b =
 bif decide ((0:Int)≤a)then d[Int.toNat a]?.bind λ e=>(PV.load 3 e 0 0).bind λ f=>zA5 f λ g=>zF6 a c b g (0:Int) []else none:=((tN_ fi64).join [1,1] _).trans (by kernel_rfl)
theorem zIm(a d:Int) (e:List PV) (f b:Int) (c:List PV):zF6 a d e f b c =
 bif decide (b<f)then(wc W zGW [.int .i64 d, .int .i64 b]).bind λ g=>zA5 g λ h=>bif true&&(decide (((List.length c)+1:Nat)≤4294967296))then zF6 a d e f (IntKind.wrap .i64 (b+1)) (c++[.int .i64 h])else none else bif decide ((0:Int)≤a)then e[Int.toNat a]?.bind λ i=>c_s0 i λ j=>(wc W zDf [.agg [.slice 0 c, .slice 0 j], .slice 6 []]).bind λ k=>zAI k λ l m=>some (.tup [.agg [.slice 0 l, .slice 0 m], .bool true])else none:=((tN_ fi64).loop [1,1,1,0,1,0] 2 _ rfl).trans (by kernel_rfl)
theorem zWk(a b:List PV) (c d:Int):wc W zGU [.agg [.slice 3 a], .agg [.slice 0 b], .int .i64 c, .int .i64 d] =
 (wc W zFY [.agg [.slice 3 a], .agg [.slice 0 b]]).bind λ e=>c_b e λ f=>bif !f then some (.tup [.agg [.slice 0 [], .slice 0 []], .bool false])else(wc W zDx [.int .i64 c, .int .i64 (0:Int), .int .i64 (IntKind.wrap .i64 ((a.length:Int)-(1:Int):Int))]).bind λ g=>c_b g λ h=>bif !h then some (.tup [.agg [.slice 0 [], .slice 0 []], .bool false])else(wc W zGW [.int .i64 d, .int .i64 (0:Int)]).bind λ i=>zA5 i λ j=>bif j==(-1:Int)then some (.tup [.agg [.slice 0 [], .slice 0 []], .bool false])else zNJ c d a b:=go (by kernel_rfl) (by kernel_rfl) (tN_ fi64) (by kernel_rfl)
noncomputable def zJv(h a b c d e f g:List PV):Option PV:=(jN_ fi65) [1,1,1] (St.mk [(2, .pv (.imm 3 (.agg [.slice 0 h, .slice 0 a]) 0)),(3, .pv (.imm 3 (.agg [.slice 0 b, .slice 0 c]) 0)),(4, .own 0 0),(6, .own 3 0)] [.var false 3 (.agg [AV.nil 0,AV.nil 0]), .row false 0 0 d, .row false 0 0 e, .var false 3 (.agg [.pv (.slice 0 f), .view 4 0 none]), .row true 0 0 g])
noncomputable def zEB(a b c:List PV) (d e:Int) (f g h i:List PV):Option PV:=(lN_ fi65) [0,1,0,1,1,1] 5 (St.mk [(3, .pv (.imm 3 (.agg [.slice 0 a, .slice 0 b]) 0)),(4, .own 0 0),(6, .own 3 0),(45, .pv (.slice 0 c)),(46, .pv (.int .i64 d)),(47, .pv (.int .i64 e))] [.var false 3 (.agg [AV.nil 0,AV.nil 0]), .row false 0 0 f, .row false 0 0 g, .var false 3 (.agg [.pv (.slice 0 h), .view 4 0 none]), .row true 0 0 i])
noncomputable def zEz(a b c d:List PV) (e f:Int) (g:List PV) (h i:Int) (j k l m:List PV):Option PV:=(lN_ fi65) [0,1,1,0,0,1,1,5,0,1,0,1,1,1] 5 (St.mk [(3, .pv (.imm 3 (.agg [.slice 0 a, .slice 0 b]) 0)),(4, .own 0 0),(6, .own 3 0),(8, .pv (.slice 3 c)),(45, .pv (.slice 0 d)),(46, .pv (.int .i64 e)),(47, .pv (.int .i64 f)),(52, .pv (.slice 0 g)),(53, .pv (.int .i64 h)),(54, .pv (.int .i64 i))] [.var false 3 (.agg [AV.nil 0,AV.nil 0]), .row false 0 0 j, .row false 0 0 k, .var false 3 (.agg [.pv (.slice 0 l), .view 4 0 none]), .row true 0 0 m])
theorem zLe(h a b c d e f g:List PV):zJv h a b c d e f g =
 zEB b c a (a.length:Int) (0:Int) d e f g:=((tN_ fi65).join [1,1,1] _).trans (by kernel_rfl)
theorem zHM(g b c:List PV) (d a:Int) (h i e f:List PV):zEB g b c d a h i e f =
 bif decide (a<d)then bif decide ((0:Int)≤a)then c[Int.toNat a]?.bind λ j=>c_s3 j λ k=>zEz g b k c d a b (b.length:Int) (0:Int) h i e f else none else some (.tup [.agg [.slice 0 e, .slice 0 f], .bool true]):=((tN_ fi65).loop [1,1,1,0,1,0] 5 _ rfl).trans (by kernel_rfl)
theorem zHN(c d e f:List PV) (g h:Int) (i:List PV) (j a:Int) (k l m b:List PV):zEz c d e f g h i j a k l m b =
 bif decide (a<j)then bif decide ((0:Int)≤a)then i[Int.toNat a]?.bind λ n=>c_s3 n λ o=>(wc W zBG [.slice 0 [.slice 3 e, .slice 3 o]]).bind λ p=>c_s3 p λ q=>bif true&&(decide (((List.length b)+1:Nat)≤4294967296))then zEz c d e f g h i j (IntKind.wrap .i64 (a+1)) k l m (b++[.slice 3 q])else none else none else zEB c d f g (IntKind.wrap .i64 (h+1)) k l m b:=((tN_ fi65).loop [1,1,1,0,1,0,5,1,1,0,0,1,1,0] 5 _ rfl).trans (by kernel_rfl)
theorem zS4(a b c d:List PV):wc W zGo [.agg [.slice 0 a, .slice 0 b], .agg [.slice 0 c, .slice 0 d]] =
 (wc W zCY [.slice 0 [.slice 0 a, .slice 0 c]]).bind λ f=>c_s0 f λ e=>(wc W zE5 [.agg [.slice 0 a, .slice 0 b]]).bind λ g=>c_b g λ h=>bif !h then some (.tup [.agg [.slice 0 [], .slice 0 []], .bool false])else(wc W zE5 [.agg [.slice 0 c, .slice 0 d]]).bind λ i=>c_b i λ j=>bif !j then some (.tup [.agg [.slice 0 [], .slice 0 []], .bool false])else(wc W zE5 [.agg [.slice 0 e, .slice 0 []]]).bind λ k=>c_b k λ l=>bif !l then some (.tup [.agg [.slice 0 [], .slice 0 []], .bool false])else bif decide (GT.gt (IntKind.wrap .i64 ((b.length:Int)*(d.length:Int):Int)) (5000:Int))then some (.tup [.agg [.slice 0 [], .slice 0 []], .bool false])else zJv a b c d [] [] e []:=go (by kernel_rfl) (by kernel_rfl) (tN_ fi65) (by kernel_rfl)
theorem zPT(b:Int) (a:List PV):wc W zGp [.int .i64 b, .imm 2 (.agg [.slice 3 a]) 0] =
 bif decide (b<(0:Int))then some (.bool true)else some (.bool (decide (GE.ge b (a.length:Int)))):=go (by kernel_rfl) (by kernel_rfl) (tN_ fi66) (by kernel_rfl)
theorem zVD(a:List PV):wc W zIV [.agg [.slice 3 a]] =
 (wc W zDx [.int .i64 (a.length:Int), .int .i64 (1:Int), .int .i64 (4:Int)]).bind λ b=>c_b b λ c=>bif c then(wc W zAf [.slice 3 a, .fn zFu [] []]).bind λ d=>c_b d λ e=>some (.bool !e)else some (.bool false):=go (by kernel_rfl) (by kernel_rfl) (tN_ fi67) (by kernel_rfl)
theorem zEj(a:List PV) (b:PV):wc W zA0 [.slice 0 a,b] =
 (wc W zBl [.slice 0 a,b]).bind λ c=>zA5 c λ d=>some (.bool (decide (GE.ge d (0:Int)))):=go (by kernel_rfl) (by kernel_rfl) (tN_ fi68) (by kernel_rfl)
noncomputable def zBt(c:PV) (d e f:List PV) (g:Int) (h i:List PV) (j k a:Int) (b:List PV):Option PV:=(lN_ fi69) [0,1,0,1,1] 1 (St.mk [(2, .pv c),(3, .pv (.imm 2 (.agg [.slice 3 d]) 0)),(4, .pv (.imm 7 (.agg [.slice 0 e, .slice 6 f, .int .i64 g, .slice 0 h, .slice 0 i, .int .i64 j]) 0)),(7, .view 0 0 none),(14, .pv (.int .i64 k)),(15, .pv (.int .i64 a))] [.row false 0 0 b])
noncomputable def zJw(a:PV) (b c d:List PV) (e:Int) (f g:List PV) (h i j k l:Int) (m:List PV):Option PV:=(jN_ fi69) [1,1,1,0,0,1,1,1,0,1,0,1,1] (St.mk [(2, .pv a),(3, .pv (.imm 2 (.agg [.slice 3 b]) 0)),(4, .pv (.imm 7 (.agg [.slice 0 c, .slice 6 d, .int .i64 e, .slice 0 f, .slice 0 g, .int .i64 h]) 0)),(7, .view 0 0 none),(8, .pv (.int .i64 i)),(9, .pv (.int .i64 j)),(14, .pv (.int .i64 k)),(15, .pv (.int .i64 l))] [.row false 0 0 m])
noncomputable def zFA(a:PV) (b c d:List PV) (e:Int) (f g:List PV) (h i j k l m:Int) (n:List PV):Option PV:=(lN_ fi69) [0,1,1,1,1,0,0,1,1,1,0,1,0,1,1] 1 (St.mk [(2, .pv a),(3, .pv (.imm 2 (.agg [.slice 3 b]) 0)),(4, .pv (.imm 7 (.agg [.slice 0 c, .slice 6 d, .int .i64 e, .slice 0 f, .slice 0 g, .int .i64 h]) 0)),(7, .view 0 0 none),(8, .pv (.int .i64 i)),(14, .pv (.int .i64 j)),(15, .pv (.int .i64 k)),(43, .pv (.int .i64 l)),(44, .pv (.int .i64 m))] [.row false 0 0 n])
theorem zHO(c:PV) (d e g:List PV) (h:Int) (i j:List PV) (k f a:Int) (b:List PV):zBt c d e g h i j k f a b =
 bif decide (a<f)then bif decide ((0:Int)≤a)then e[Int.toNat a]?.bind λ n=>zA5 n λ l=>(PV.asFn c).bind λ m=>(wc W (Prod.fst m) (((Prod.fst (Prod.snd m))++[.int .i64 a])++(Prod.snd (Prod.snd m)))).bind λ o=>c_b o λ p=>bif !p then zBt c d e g h i j k f (IntKind.wrap .i64 (a+1)) b else bif decide (l<(0:Int))then zBt c d e g h i j k f (IntKind.wrap .i64 (a+1)) b else bif decide (GE.ge l (d.length:Int))then zBt c d e g h i j k f (IntKind.wrap .i64 (a+1)) b else zJw c d e g h i j k a l f a b else none else some (.slice 0 b):=((tN_ fi69).loop [1,1,0,1,0] 1 _ rfl).trans (by kernel_rfl)
theorem zLf(c:PV) (a d e:List PV) (f:Int) (g h:List PV) (i j b k l:Int) (m:List PV):zJw c a d e f g h i j b k l m =
 bif decide ((0:Int)≤b)then a[Int.toNat b]?.bind λ n=>(PV.load 3 n 0 0).bind λ o=>zA5 o λ p=>zFA c a d e f g h i j k l p (0:Int) m else none:=((tN_ fi69).join [1,1,0,1,0,1,1,1,0,0,1,1,1] _).trans (by kernel_rfl)
theorem zHP(c:PV) (d e f:List PV) (g:Int) (h i:List PV) (j k l m n a:Int) (b:List PV):zFA c d e f g h i j k l m n a b =
 bif decide (a<n)then(wc W zGW [.int .i64 k, .int .i64 a]).bind λ o=>zA5 o λ p=>bif true&&(decide (((List.length b)+1:Nat)≤4294967296))then zFA c d e f g h i j k l m n (IntKind.wrap .i64 (a+1)) (b++[.int .i64 p])else none else zBt c d e f g h i j l (IntKind.wrap .i64 (m+1)) b:=((tN_ fi69).loop [1,1,0,1,0,1,1,1,0,0,1,1,1,1,0] 1 _ rfl).trans (by kernel_rfl)
theorem zS5(b a c:List PV) (d:Int) (e f:List PV) (g:Int) (h:PV):wc W zJE [.agg [.slice 3 b], .agg [.slice 0 a, .slice 6 c, .int .i64 d, .slice 0 e, .slice 0 f, .int .i64 g],h] =
 zBt h b a c d e f g (bif decide ((4:Int)<(a.length:Int))then(4:Int)else(a.length:Int)) (0:Int) []:=go (by kernel_rfl) (by kernel_rfl) (tN_ fi69) (by kernel_rfl)
theorem zPU(a:Int):wc W zGq [.int .i64 a] =
 some (.bool true):=go (by kernel_rfl) (by kernel_rfl) (tN_ fi70) (by kernel_rfl)
theorem zS6(a b c d:Int) (e:List PV):wc W zGr [.agg [.int .i64 a, .int .i64 b, .int .i64 c, .int .i64 d, .slice 6 e]] =
 (wc W zIX [.agg [.int .i64 a, .int .i64 b, .int .i64 c, .int .i64 d, .slice 6 e]]).bind λ n=>c_b n λ o=>bif !o then some (.slice 0 [])else(W zCm false [.pv (.agg [.int .i64 a, .int .i64 b, .int .i64 c, .int .i64 d, .slice 6 e]), .pv (.int .i64 (1:Int)), .fnv zBr [] [.own 0 0]] [.var false 0 (.view 1 0 none), .row false 0 0 []]).bind λ f=>zMD f λ g h=>c_b g λ p=>(W zCn false [AV.fx 0 0] [.fix 0 0 h]).bind λ i=>zPM i λ q j=>(W zCI false [.view 0 0 none] [.row false 0 0 j]).bind λ k=>zPL k λ l=>c_s0 l λ m=>some (.slice 0 m):=go (by kernel_rfl) (by kernel_rfl) (tN_ fi71) (by kernel_rfl)
theorem zNl(a b:List PV):wc W zC5 [.slice 0 a, .slice 0 b] =
 (wc W zA0 [.slice 0 a, .fn zEi [] [.imm 0 (.slice 0 b) 0]]).bind λ c=>c_b c λ d=>some (.bool !d):=go (by kernel_rfl) (by kernel_rfl) (tN_ fi72) (by kernel_rfl)
theorem zQt(a:List PV):wc W zHh [.slice 0 a] =
 (W zAj true [.pv (.slice 0 a)] []).bind λ d=>zPN d λ e=>(W zCn false [AV.fx 0 0] [.fix 0 0 e]).bind λ f=>zPM f λ i g=>(W zCI false [.view 0 0 none] [.row false 0 0 g]).bind λ h=>zPL h λ b=>c_s0 b λ c=>some (.bool ((c.length:Int)==(a.length:Int))):=go (by kernel_rfl) (by kernel_rfl) (tN_ fi73) (by kernel_rfl)
theorem zGK(a:List PV) (b:Int):wc W zAk [.slice 0 a, .int .i64 b] =
 (wc W zAG [.slice 0 a, .int .i64 b]).bind λ c=>zA5 c λ d=>some (.bool (decide (GE.ge d (0:Int)))):=go (by kernel_rfl) (by kernel_rfl) (tN_ fi74) (by kernel_rfl)
theorem zVE(a:Int) (b:List PV):wc W zKe [.agg [.int .i64 a, .slice 3 b]] =
 (wc W zDg [.agg [.int .i64 a, .slice 3 b], .int .i64 (4:Int)]).bind λ c=>c.asTup.bind λ d=>d[0]?.bind λ e=>zA5 e λ i=>c.asTup.bind λ f=>f[1]?.bind λ g=>c_b g λ h=>some (.bool h):=go (by kernel_rfl) (by kernel_rfl) (tN_ fi77) (by kernel_rfl)
theorem zJQ(k:Int) (i I J j l:List PV) (m:Int) (n o:List PV) (p:Int) (a b c d:List PV) (e:Int) (f g:List PV) (h:Int):W zJ false [.pv (.agg [.int .i64 k, .slice 3 i]), .pv (.imm 2 (.agg [.slice 3 I]) 0), .pv (.imm 2 (.agg [.slice 0 J]) 0), .pv (.imm 7 (.agg [.slice 0 j, .slice 6 l, .int .i64 m, .slice 0 n, .slice 0 o, .int .i64 p]) 0), .own 0 0] [.var false 0 (.fnv zJ [] [.pv (.imm 2 (.agg [.slice 3 a]) 0), .pv (.imm 2 (.agg [.slice 0 b]) 0), .pv (.imm 7 (.agg [.slice 0 c, .slice 6 d, .int .i64 e, .slice 0 f, .slice 0 g, .int .i64 h]) 0), .own 0 0])] =
 bif (i.length:Int)==(0:Int)then bif decide ((0:Int)≤k)then j[Int.toNat k]?.bind λ v1=>zA5 v1 λ v2=>(wc W zGU [.agg [.slice 3 I], .agg [.slice 0 J], .int .i64 v2, .int .i64 k]).bind λ K=>K.asTup.bind λ v4=>v4[0]?.bind λ v5=>zAI v5 λ v6 v7=>K.asTup.bind λ v8=>v8[1]?.bind λ v9=>c_b v9 λ L=>(wc W zCR [.agg [.slice 0 v6, .slice 0 v7], .bool L]).bind λ M=>zAI M λ N O=>(wc W zEP [.agg [.int .i64 k, .slice 3 i]]).bind λ P=>zA5 P λ Q=>(wc W zJD [.agg [.slice 0 j, .slice 6 l, .int .i64 m, .slice 0 n, .slice 0 o, .int .i64 p], .int .i64 Q]).bind λ R=>c_s0 R λ S=>(wc W zIW [.agg [.slice 0 j, .slice 6 l, .int .i64 m, .slice 0 n, .slice 0 o, .int .i64 p], .slice 0 S]).bind λ T=>c_s6 T λ U=>(wc W zDf [.agg [.slice 0 N, .slice 0 O], .slice 6 U]).bind λ V=>zAI V λ X Y=>some (.pv (.agg [.slice 0 X, .slice 0 Y]),[.var false 0 (.fnv zJ [] [.pv (.imm 2 (.agg [.slice 3 a]) 0), .pv (.imm 2 (.agg [.slice 0 b]) 0), .pv (.imm 7 (.agg [.slice 0 c, .slice 6 d, .int .i64 e, .slice 0 f, .slice 0 g, .int .i64 h]) 0), .own 0 0])])else none else i[0]?.bind λ Z=>zDA Z λ a0 a1=>(W zJ false [.pv (.agg [.int .i64 a0, .slice 3 a1]), .pv (.imm 2 (.agg [.slice 3 a]) 0), .pv (.imm 2 (.agg [.slice 0 b]) 0), .pv (.imm 7 (.agg [.slice 0 c, .slice 6 d, .int .i64 e, .slice 0 f, .slice 0 g, .int .i64 h]) 0), .own 0 0] [.var false 0 (.fnv zJ [] [.pv (.imm 2 (.agg [.slice 3 a]) 0), .pv (.imm 2 (.agg [.slice 0 b]) 0), .pv (.imm 7 (.agg [.slice 0 c, .slice 6 d, .int .i64 e, .slice 0 f, .slice 0 g, .int .i64 h]) 0), .own 0 0])]).bind λ a2=>zI1 a2 λ a3 a4 a5 a6 a7 a8 a9 b0 b1=>bif eqOw [.var false 0 (.fnv zJ [] [.pv (.imm 2 (.agg [.slice 3 a4]) 0), .pv (.imm 2 (.agg [.slice 0 a5]) 0), .pv (.imm 7 (.agg [.slice 0 a6, .slice 6 a7, .int .i64 a8, .slice 0 a9, .slice 0 b0, .int .i64 b1]) 0), .own 0 0]), .var false 3 (.agg [AV.nil 0,AV.nil 0])] [.var false 0 (.fnv zJ [] [.pv (.imm 2 (.agg [.slice 3 a]) 0), .pv (.imm 2 (.agg [.slice 0 b]) 0), .pv (.imm 7 (.agg [.slice 0 c, .slice 6 d, .int .i64 e, .slice 0 f, .slice 0 g, .int .i64 h]) 0), .own 0 0]), .var false 3 (.agg [AV.nil 0,AV.nil 0])]then zAI a3 λ b2 b3=>i[1]?.bind λ b4=>zDA b4 λ b5 b6=>(W zJ false [.pv (.agg [.int .i64 b5, .slice 3 b6]), .pv (.imm 2 (.agg [.slice 3 a]) 0), .pv (.imm 2 (.agg [.slice 0 b]) 0), .pv (.imm 7 (.agg [.slice 0 c, .slice 6 d, .int .i64 e, .slice 0 f, .slice 0 g, .int .i64 h]) 0), .own 0 0] [.var false 0 (.fnv zJ [] [.pv (.imm 2 (.agg [.slice 3 a]) 0), .pv (.imm 2 (.agg [.slice 0 b]) 0), .pv (.imm 7 (.agg [.slice 0 c, .slice 6 d, .int .i64 e, .slice 0 f, .slice 0 g, .int .i64 h]) 0), .own 0 0])]).bind λ b7=>zI1 b7 λ b8 b9 c0 c1 c2 c3 c4 c5 c6=>bif eqOw [.var false 0 (.fnv zJ [] [.pv (.imm 2 (.agg [.slice 3 b9]) 0), .pv (.imm 2 (.agg [.slice 0 c0]) 0), .pv (.imm 7 (.agg [.slice 0 c1, .slice 6 c2, .int .i64 c3, .slice 0 c4, .slice 0 c5, .int .i64 c6]) 0), .own 0 0]), .var false 3 (.agg [AV.nil 0,AV.nil 0])] [.var false 0 (.fnv zJ [] [.pv (.imm 2 (.agg [.slice 3 a]) 0), .pv (.imm 2 (.agg [.slice 0 b]) 0), .pv (.imm 7 (.agg [.slice 0 c, .slice 6 d, .int .i64 e, .slice 0 f, .slice 0 g, .int .i64 h]) 0), .own 0 0]), .var false 3 (.agg [AV.nil 0,AV.nil 0])]then zAI b8 λ c7 c8=>(wc W zGo [.agg [.slice 0 b2, .slice 0 b3], .agg [.slice 0 c7, .slice 0 c8]]).bind λ q=>q.asTup.bind λ c9=>c9[0]?.bind λ d0=>zAI d0 λ d1 d2=>q.asTup.bind λ d3=>d3[1]?.bind λ d4=>c_b d4 λ d5=>(wc W zCR [.agg [.slice 0 d1, .slice 0 d2], .bool d5]).bind λ d6=>zAI d6 λ d7 d8=>i[0]?.bind λ r=>zDA r λ s t=>(wc W zEP [.agg [.int .i64 s, .slice 3 t]]).bind λ u=>zA5 u λ v=>i[1]?.bind λ w=>zDA w λ x y=>(wc W zEP [.agg [.int .i64 x, .slice 3 y]]).bind λ z=>zA5 z λ A=>(wc W zJF [.agg [.slice 0 j, .slice 6 l, .int .i64 m, .slice 0 n, .slice 0 o, .int .i64 p], .int .i64 v, .int .i64 A]).bind λ B=>c_s0 B λ C=>(wc W zIW [.agg [.slice 0 j, .slice 6 l, .int .i64 m, .slice 0 n, .slice 0 o, .int .i64 p], .slice 0 C]).bind λ D=>c_s6 D λ E=>(wc W zDf [.agg [.slice 0 d7, .slice 0 d8], .slice 6 E]).bind λ F=>zAI F λ G H=>some (.pv (.agg [.slice 0 G, .slice 0 H]),[.var false 0 (.fnv zJ [] [.pv (.imm 2 (.agg [.slice 3 a]) 0), .pv (.imm 2 (.agg [.slice 0 b]) 0), .pv (.imm 7 (.agg [.slice 0 c, .slice 6 d, .int .i64 e, .slice 0 f, .slice 0 g, .int .i64 h]) 0), .own 0 0])])else none else none:=goO (by kernel_rfl) (by kernel_rfl) (tO_ fi78 false 1) rfl (by kernel_rfl)
end Go.Cf

namespace Go.Cf
open Go Go.Ab
set_option linter.unusedVariables false
set_option maxRecDepth 100000
noncomputable def zGA(b c:List PV) (d:Int) (e f:List PV) (g:Int) (h:List PV) (i j:Int) (a:List PV):Option PV:=(lN_ fi79) [0,1,0,1,1] 1 (St.mk [(2, .pv (.imm 7 (.agg [.slice 0 b, .slice 6 c, .int .i64 d, .slice 0 e, .slice 0 f, .int .i64 g]) 0)),(5, .view 0 0 none),(8, .pv (.slice 0 h)),(9, .pv (.int .i64 i)),(10, .pv (.int .i64 j))] [.row false 0 6 a])
theorem zHq(g d:List PV) (h:Int) (i j:List PV) (k:Int) (e:List PV) (f b:Int) (a:List PV):zGA g d h i j k e f b a =
 bif decide (b<f)then bif decide ((0:Int)≤b)then e[Int.toNat b]?.bind λ l=>zA5 l λ c=>bif decide ((0:Int)≤c)then d[Int.toNat c]?.bind λ m=>zL m λ n o p q r=>bif true&&(decide (((List.length a)+1:Nat)≤4294967296))then zGA g d h i j k e f (IntKind.wrap .i64 (b+1)) (a++[.agg [.int .i64 n, .int .i64 o, .int .i64 p, .int .i64 q, .slice 6 r]])else none else none else none else some (.slice 6 a):=((tN_ fi79).loop [1,1,0,1,0] 1 _ rfl).trans (by kernel_rfl)
theorem zVF(a b:List PV) (c:Int) (d e:List PV) (f:Int) (g:List PV):wc W zIW [.agg [.slice 0 a, .slice 6 b, .int .i64 c, .slice 0 d, .slice 0 e, .int .i64 f], .slice 0 g] =
 zGA a b c d e f g (g.length:Int) (0:Int) []:=go (by kernel_rfl) (by kernel_rfl) (tN_ fi79) (by kernel_rfl)
theorem zS7(a b:List PV) (c:Int) (d e:List PV) (f g h:Int):wc W zJF [.agg [.slice 0 a, .slice 6 b, .int .i64 c, .slice 0 d, .slice 0 e, .int .i64 f], .int .i64 g, .int .i64 h] =
 (W zFs false [.pv (.agg [.slice 0 a, .slice 6 b, .int .i64 c, .slice 0 d, .slice 0 e, .int .i64 f]), .fnv zCz [] [.own 0 0, .own 1 0, .own 2 0]] [.var false 0 (.pv (.int .i64 (IntKind.wrap .i64 (((BitVec.toNat (HOr.hOr (BitVec.ofInt 64 g) (BitVec.ofInt 64 h))):Nat):Int)))), .var false 0 (.pv (.int .i64 g)), .var false 0 (.pv (.int .i64 h))]).bind λ i=>zPK i λ j l m n=>c_s0 j λ k=>some (.slice 0 k):=go (by kernel_rfl) (by kernel_rfl) (tN_ fi80) (by kernel_rfl)
theorem zJR(i:Int) (j a b c d:List PV) (e:Int) (f g:List PV) (h:Int):W zB9 false [.own 0 0, .pv (.imm 3 (.agg [.int .i64 i, .slice 3 j]) 0)] [.var false 0 (.fnv zJ [] [.pv (.imm 2 (.agg [.slice 3 a]) 0), .pv (.imm 2 (.agg [.slice 0 b]) 0), .pv (.imm 7 (.agg [.slice 0 c, .slice 6 d, .int .i64 e, .slice 0 f, .slice 0 g, .int .i64 h]) 0), .own 0 0])] =
 (W zJ false [.pv (.agg [.int .i64 i, .slice 3 j]), .pv (.imm 2 (.agg [.slice 3 a]) 0), .pv (.imm 2 (.agg [.slice 0 b]) 0), .pv (.imm 7 (.agg [.slice 0 c, .slice 6 d, .int .i64 e, .slice 0 f, .slice 0 g, .int .i64 h]) 0), .own 0 0] [.var false 0 (.fnv zJ [] [.pv (.imm 2 (.agg [.slice 3 a]) 0), .pv (.imm 2 (.agg [.slice 0 b]) 0), .pv (.imm 7 (.agg [.slice 0 c, .slice 6 d, .int .i64 e, .slice 0 f, .slice 0 g, .int .i64 h]) 0), .own 0 0])]).bind λ k=>zI1 k λ l m n o p q r s t=>zAI l λ u v=>some (.pv (.agg [.slice 0 u, .slice 0 v]),[.var false 0 (.fnv zJ [] [.pv (.imm 2 (.agg [.slice 3 m]) 0), .pv (.imm 2 (.agg [.slice 0 n]) 0), .pv (.imm 7 (.agg [.slice 0 o, .slice 6 p, .int .i64 q, .slice 0 r, .slice 0 s, .int .i64 t]) 0), .own 0 0])]):=goO (by kernel_rfl) (by kernel_rfl) (tO_ fi81 false 1) rfl (by kernel_rfl)
noncomputable def zCr(a b:Int) (c:List PV) (d:Bool):Option PV:=(jN_ fi83) [1,0,0,1] (St.mk [(1, .pv (.int .i64 a)),(2, .pv (.imm 3 (.agg [.int .i64 b, .slice 3 c]) 0)),(11, .pv (.bool d))] [])
noncomputable def zHr(a:Int) (b:List PV) (c:Bool):Option PV:=(jN_ fi83) [1,0,1,1,1,0,0,1] (St.mk [(2, .pv (.imm 3 (.agg [.int .i64 a, .slice 3 b]) 0)),(6, .pv (.bool c))] [])
theorem zCJ(g d:Int) (c:List PV) (h:Bool):zCr g d c h =
 bif h then some (.tup [.int .i64 (0:Int), .bool false])else bif (c.length:Int)==(0:Int)then bif decide (GE.ge d (0:Int))then zHr d c (decide (d<(4:Int)))else zHr d c false else c[0]?.bind λ w=>zDA w λ x i=>(wc W zDg [.agg [.int .i64 x, .slice 3 i], .int .i64 (IntKind.wrap .i64 (g-1))]).bind λ e=>e.asTup.bind λ j=>j[0]?.bind λ k=>zA5 k λ a=>e.asTup.bind λ l=>l[1]?.bind λ m=>c_b m λ n=>c[1]?.bind λ o=>zDA o λ p q=>(wc W zDg [.agg [.int .i64 p, .slice 3 q], .int .i64 (IntKind.wrap .i64 (g-1))]).bind λ f=>f.asTup.bind λ r=>r[0]?.bind λ s=>zA5 s λ b=>f.asTup.bind λ t=>t[1]?.bind λ u=>c_b u λ v=>bif n then bif v then some (.tup [.int .i64 (IntKind.wrap .i64 (((BitVec.toNat (HOr.hOr (BitVec.ofInt 64 a) (BitVec.ofInt 64 b))):Nat):Int)), .bool ((IntKind.wrap .i64 (((BitVec.toNat (HAnd.hAnd (BitVec.ofInt 64 a) (BitVec.ofInt 64 b))):Nat):Int))==(0:Int))])else some (.tup [.int .i64 (IntKind.wrap .i64 (((BitVec.toNat (HOr.hOr (BitVec.ofInt 64 a) (BitVec.ofInt 64 b))):Nat):Int)), .bool false])else some (.tup [.int .i64 (IntKind.wrap .i64 (((BitVec.toNat (HOr.hOr (BitVec.ofInt 64 a) (BitVec.ofInt 64 b))):Nat):Int)), .bool false]):=((tN_ fi83).join [1,0,0,1] _).trans (by kernel_rfl)
theorem zNK(a:Int) (e:List PV) (b:Bool):zHr a e b =
 (bif decide ((bif decide ((Int.tmod a (4:Int))<(0:Int))then(0:Int)else Int.tmod a (4:Int))<(0:Int))then none else some (.int .i64 (IntKind.wrap .i64 ((1:Int)*(HPow.hPow (2:Int) (Min.min (Int.toNat (bif decide ((Int.tmod a (4:Int))<(0:Int))then(0:Int)else Int.tmod a (4:Int))) 64)):Int)))).bind λ c=>zA5 c λ d=>some (.tup [.int .i64 d, .bool b]):=((tN_ fi83).join [1,0,0,1,1,1,0,1] _).trans (by kernel_rfl)
theorem zOV(b:Int) (a:List PV) (c:Int):wc W zDg [.agg [.int .i64 b, .slice 3 a], .int .i64 c] =
 bif c==(0:Int)then zCr c b a (c==(0:Int))else bif (a.length:Int) != (0:Int)then bif (a.length:Int) != (2:Int)then zCr c b a ((a.length:Int) != (2:Int))else bif (a.length:Int)==(2:Int)then zCr c b a (b != (0:Int))else zCr c b a false else bif (a.length:Int)==(2:Int)then zCr c b a (b != (0:Int))else zCr c b a false:=go (by kernel_rfl) (by kernel_rfl) (tN_ fi83) (by kernel_rfl)
noncomputable def zJx(c:Int) (d e a:List PV) (b:Int):Option PV:=(jN_ fi87) [1,1,1,1] (St.mk [(1, .pv (.int .i64 c)),(2, .pv (.slice 0 d)),(3, .pv (.imm 3 (.agg [.slice 0 e, .slice 0 a]) 0)),(6, .own 0 0),(8, .pv (.int .i64 b))] [.var false 3 (.agg [AV.nil 0,AV.nil 0])])
noncomputable def zFB(a:Int) (b c d:List PV) (e:Int) (f:List PV) (g h:Int) (i:List (PV×PV)) (j k:List PV):Option PV:=(lN_ fi87) [0,1,0,1,1,1,1,1,1] 4 (St.mk [(1, .pv (.int .i64 a)),(2, .pv (.slice 0 b)),(3, .pv (.imm 3 (.agg [.slice 0 c, .slice 0 d]) 0)),(6, .own 0 0),(8, .pv (.int .i64 e)),(10,AV.gm 1),(11, .view 3 0 none),(51, .pv (.slice 0 f)),(52, .pv (.int .i64 g)),(53, .pv (.int .i64 h))] [.var false 3 (.agg [AV.nil 0,AV.nil 0]), .grp 0 none i, .row true 0 0 j, .row false 0 3 k])
noncomputable def zFC(a:Int) (b c d:List PV) (e:Int) (f g:List PV) (h i:Int) (j:List (PV×PV)) (k l:List PV) (m n:Int):Option PV:=(jN_ fi87) [1,1,1,0,0,1,1,4,0,1,0,1,1,1,1,1,1] (St.mk [(1, .pv (.int .i64 a)),(2, .pv (.slice 0 b)),(3, .pv (.imm 3 (.agg [.slice 0 c, .slice 0 d]) 0)),(6, .own 0 0),(8, .pv (.int .i64 e)),(10,AV.gm 1),(11, .view 3 0 none),(13, .pv (.slice 3 f)),(14, .own 4 0),(51, .pv (.slice 0 g)),(52, .pv (.int .i64 h)),(53, .pv (.int .i64 i))] [.var false 3 (.agg [AV.nil 0,AV.nil 0]), .grp 0 none j, .row true 0 0 k, .row false 0 3 l, .var false 3 (.pv (.agg [.int .i64 m, .int .i64 n]))])
noncomputable def zDE(a b c:List PV) (d e:Int) (f:List (PV×PV)) (g h i j k l:List PV):Option PV:=(lN_ fi87) [0,1,0,1,1,1,1,1,1,1,1,1] 9 (St.mk [(2, .pv (.slice 0 a)),(3, .pv (.imm 3 (.agg [.slice 0 b, .slice 0 c]) 0)),(6, .own 0 0),(10,AV.gm 1),(11, .view 3 0 none),(15, .own 7 0),(84, .pv (.int .i64 d)),(85, .pv (.int .i64 e))] [.var false 3 (.agg [AV.nil 0,AV.nil 0]), .grp 0 none f, .row true 0 0 g, .row false 0 3 h, .row false 0 0 i, .row false 0 0 j, .row false 0 0 k, .var false 3 (.agg [.view 4 0 none, .view 8 0 none]), .row false 0 0 l])
noncomputable def zDF(a b c:List PV) (d e:Int) (f:List (PV×PV)) (g h i j k l:List PV):Option PV:=(lN_ fi87) [0,1,0,1,1,1,1,1,1,1,1,1,1] 9 (St.mk [(2, .pv (.slice 0 a)),(3, .pv (.imm 3 (.agg [.slice 0 b, .slice 0 c]) 0)),(6, .own 0 0),(10,AV.gm 1),(15, .own 7 0),(96, .view 3 0 none),(97, .pv (.int .i64 d)),(98, .pv (.int .i64 e))] [.var false 3 (.agg [AV.nil 0,AV.nil 0]), .grp 0 none f, .row true 0 0 g, .row false 0 3 h, .row false 0 0 i, .row false 0 0 j, .row false 0 0 k, .var false 3 (.agg [.view 4 0 none, .view 8 0 none]), .row false 0 0 l])
noncomputable def zEC(a b c:List PV) (d e:Int) (f:List PV) (g h:Int) (i:List (PV×PV)) (j k l m n o:List PV) (p q:Int) (r:List PV):Option PV:=(lN_ fi87) [0,1,0,1,1,0,0,1,1,9,0,1,0,1,1,1,1,1,1,1,1,1,1] 11 (St.mk [(2, .pv (.slice 0 a)),(3, .pv (.imm 3 (.agg [.slice 0 b, .slice 0 c]) 0)),(6, .own 0 0),(10,AV.gm 1),(15, .own 7 0),(18, .own 9 0),(19, .view 10 0 none),(96, .view 3 0 none),(97, .pv (.int .i64 d)),(98, .pv (.int .i64 e)),(113, .pv (.slice 0 f)),(114, .pv (.int .i64 g)),(115, .pv (.int .i64 h))] [.var false 3 (.agg [AV.nil 0,AV.nil 0]), .grp 0 none i, .row true 0 0 j, .row false 0 3 k, .row false 0 0 l, .row false 0 0 m, .row false 0 0 n, .var false 3 (.agg [.view 4 0 none, .view 8 0 none]), .row false 0 0 o, .var false 3 (.pv (.agg [.int .i64 p, .int .i64 q])), .row false 0 3 r])
noncomputable def zFD(a b c:List PV) (d e f:Int) (g:List PV) (h i:Int) (j:PV) (k l:Int) (m:List (PV×PV)) (n o p q r s:List PV) (t u:Int) (v w:List PV):Option PV:=(lN_ fi87) [0,1,0,1,1,1,0,0,1,1,11,0,1,0,1,1,0,0,1,1,9,0,1,0,1,1,1,1,1,1,1,1,1,1] 12 (St.mk [(2, .pv (.slice 0 a)),(3, .pv (.imm 3 (.agg [.slice 0 b, .slice 0 c]) 0)),(6, .own 0 0),(10,AV.gm 1),(15, .own 7 0),(18, .own 9 0),(19, .view 10 0 none),(22, .pv (.int .i64 d)),(23, .view 11 0 none),(96, .view 3 0 none),(97, .pv (.int .i64 e)),(98, .pv (.int .i64 f)),(113, .pv (.slice 0 g)),(114, .pv (.int .i64 h)),(115, .pv (.int .i64 i)),(125, .pv j),(126, .pv (.int .i64 k)),(127, .pv (.int .i64 l))] [.var false 3 (.agg [AV.nil 0,AV.nil 0]), .grp 0 none m, .row true 0 0 n, .row false 0 3 o, .row false 0 0 p, .row false 0 0 q, .row false 0 0 r, .var false 3 (.agg [.view 4 0 none, .view 8 0 none]), .row false 0 0 s, .var false 3 (.pv (.agg [.int .i64 t, .int .i64 u])), .row false 0 3 v, .row false 0 3 w])
theorem zLg(c:Int) (d e a:List PV) (b:Int):zJx c d e a b =
 zFB c d e a b a (a.length:Int) (0:Int) [] [] []:=((tN_ fi87).join [1,1,1,1] _).trans (by kernel_rfl)
theorem zHQ(e:Int) (b:List PV) (f:List PV) (g:List PV) (h:Int) (i:List PV) (j:Int) (a:Int) (c:List (PV×PV)) (k:List PV) (d:List PV):zFB e b f g h i j a c k d =
 bif decide (a<j)then bif decide ((0:Int)≤a)then i[Int.toNat a]?.bind λ o=>c_s3 o λ n=>(wc W zGn [.slice 3 n, .int .i64 h]).bind λ p=>zB p λ l m=>(zIa (eqP Cf.cfg (6:Nat) (100:TypeId)) (.agg [.int .i64 l, .int .i64 m]) c).bind λ q=>(PV.asSlice 0 (Option.getD q (.slice 0 []))).bind λ r=>bif (r.length:Int)==(0:Int)then bif true&&(decide (((List.length d)+1:Nat)≤4294967296))then zFC e b f g h n i j a c k (d++[.agg [.int .i64 l, .int .i64 m]]) l m else none else zFC e b f g h n i j a c k d l m else none else(W zAJ false [AV.fx 0 3, .pv (.fn zB4 [] [])] [.fix 0 3 d]).bind λ s=>zMC s λ u t=>zDE b f g (b.length:Int) (0:Int) c k t [.int .i64 e, .int .i64 (16:Int)] [] [] []:=((tN_ fi87).loop [1,1,1,1,1,1,0,1,0] 4 _ rfl).trans (by kernel_rfl)
theorem zLh(e:Int) (f:List PV) (g:List PV) (h:List PV) (i:Int) (j:List PV) (k:List PV) (l:Int) (m:Int) (b:List (PV×PV)) (p:List PV) (n:List PV) (c:Int) (d:Int):zFC e f g h i j k l m b p n c d =
 (gidx (eqP Cf.cfg (6:Nat) (100:TypeId)) (.agg [.int .i64 c, .int .i64 d]) b).bind λ a=>(zRg 0 a b).bind λ o=>bif true&&(decide (((List.length o)+1:Nat)≤4294967296))then bif (((decide (((a:Nat):Int)=((a:Nat):Int)))&&true)&&true)&&true then zFB e f g h i k l (IntKind.wrap .i64 (m+1)) (gset (.slice 0 (o++[.slice 3 j])) a (gput (.agg [.int .i64 c, .int .i64 d]) 0 a b)) [] n else none else none:=((tN_ fi87).join [1,1,1,1,1,1,0,1,0,4,1,1,0,0,1,1,1] _).trans (by kernel_rfl)
theorem zHR(d:List PV) (e:List PV) (f:List PV) (g:Int) (a:Int) (h:List (PV×PV)) (i:List PV) (b:List PV) (c:List PV) (j:List PV) (k:List PV) (l:List PV):zDE d e f g a h i b c j k l =
 bif decide (a<g)then bif true&&(decide (((List.length c)+1:Nat)≤4294967296))then zDE d e f g (IntKind.wrap .i64 (a+1)) h i b (c++[.int .i64 (IntKind.wrap .i64 ((17:Int)+a:Int))]) j k l else none else zDF d e f (b.length:Int) (0:Int) h i b c j k l:=((tN_ fi87).loop [1,1,1,1,1,1,1,1,1,0,1,0] 9 _ rfl).trans (by kernel_rfl)
theorem zHS(b:List PV) (j:List PV) (k:List PV) (d:Int) (a:Int) (e:List (PV×PV)) (l:List PV) (c:List PV) (f:List PV) (m:List PV) (n:List PV) (g:List PV):zDF b j k d a e l c f m n g =
 bif decide (a<d)then bif (true&&(decide ((0:Int)≤a)))&&(decide (a<(c.length:Int)))then c[(0+(Int.toNat a):Nat)]?.bind λ o=>zB o λ h i=>(zIa (eqP Cf.cfg (6:Nat) (100:TypeId)) (.agg [.int .i64 h, .int .i64 i]) e).bind λ p=>(PV.asSlice 0 (Option.getD p (.slice 0 []))).bind λ q=>(wc W zD1 [.int .i64 (q.length:Int)]).bind λ r=>zB r λ s t=>zEC b j k d a b (b.length:Int) (0:Int) e l c f m n g h i [.agg [.int .i64 h, .int .i64 i], .agg [.int .i64 s, .int .i64 t]]else none else some (.tup [.agg [.slice 0 f, .slice 0 g], .bool true]):=((tN_ fi87).loop [1,1,1,1,1,1,1,1,1,1,0,1,0] 9 _ rfl).trans (by kernel_rfl)
theorem zHT(e:List PV) (b:List PV) (f:List PV) (g:Int) (h:Int) (i:List PV) (j:Int) (a:Int) (c:List (PV×PV)) (k:List PV) (l:List PV) (m:List PV) (n:List PV) (o:List PV) (d:List PV) (p:Int) (q:Int) (r:List PV):zEC e b f g h i j a c k l m n o d p q r =
 bif decide (a<j)then bif decide ((0:Int)≤a)then i[Int.toNat a]?.bind λ t=>zA5 t λ u=>(wc W zAG [.slice 0 b, .int .i64 u]).bind λ v=>zA5 v λ w=>(zIa (eqP Cf.cfg (6:Nat) (100:TypeId)) (.agg [.int .i64 p, .int .i64 q]) c).bind λ s=>(PV.asSlice 0 (Option.getD s (.slice 0 []))).bind λ x=>zFD e b f w g h i j a (Option.getD s (.slice 0 [])) (x.length:Int) (0:Int) c k l m n o d p q r []else none else bif true&&(decide (((List.length d)+1:Nat)≤4294967296))then zDF e b f g (IntKind.wrap .i64 (h+1)) c k l m n o (d++[.slice 3 r])else none:=((tN_ fi87).loop [1,1,1,1,1,1,1,1,1,1,0,1,0,9,1,1,0,0,1,1,0,1,0] 11 _ rfl).trans (by kernel_rfl)
theorem zHU(e:List PV) (f:List PV) (g:List PV) (b:Int) (h:Int) (i:Int) (j:List PV) (k:Int) (l:Int) (m:PV) (n:Int) (a:Int) (o:List (PV×PV)) (p:List PV) (q:List PV) (r:List PV) (s:List PV) (t:List PV) (u:List PV) (v:Int) (w:Int) (c:List PV) (d:List PV):zFD e f g b h i j k l m n a o p q r s t u v w c d =
 bif decide (a<n)then(PV.asSlice 0 m).bind λ x=>bif decide ((0:Int)≤a)then x[Int.toNat a]?.bind λ y=>c_s3 y λ z=>bif decide ((0:Int)≤b)then z[Int.toNat b]?.bind λ A=>zB A λ B C=>bif true&&(decide (((List.length d)+1:Nat)≤4294967296))then zFD e f g b h i j k l m n (IntKind.wrap .i64 (a+1)) o p q r s t u v w c (d++[.agg [.int .i64 B, .int .i64 C]])else none else none else none else(wc W zNA [.slice 3 d]).bind λ D=>zB D λ E F=>bif true&&(decide (((List.length c)+1:Nat)≤4294967296))then zEC e f g h i j k (IntKind.wrap .i64 (l+1)) o p q r s t u v w (c++[.agg [.int .i64 E, .int .i64 F]])else none:=((tN_ fi87).loop [1,1,1,1,1,1,1,1,1,1,0,1,0,9,1,1,0,0,1,1,0,1,0,11,1,1,0,0,1,1,1,0,1,0] 12 _ rfl).trans (by kernel_rfl)
theorem zS8(a b:List PV) (d:Int) (c:List PV):wc W zJG [.agg [.slice 0 a, .slice 0 b], .int .i64 d, .slice 0 c] =
 (wc W zAG [.slice 0 a, .int .i64 d]).bind λ f=>zA5 f λ e=>(wc W zE5 [.agg [.slice 0 a, .slice 0 b]]).bind λ g=>c_b g λ h=>bif !h then some (.tup [.agg [.slice 0 [], .slice 0 []], .bool false])else bif decide (e<(0:Int))then some (.tup [.agg [.slice 0 [], .slice 0 []], .bool false])else bif decide (GT.gt (c.length:Int) (4:Int))then some (.tup [.agg [.slice 0 [], .slice 0 []], .bool false])else(wc W zA0 [.slice 0 c, .fn zGs [] [.imm 3 (.agg [.slice 0 a, .slice 0 b]) 0]]).bind λ i=>c_b i λ j=>bif j then some (.tup [.agg [.slice 0 [], .slice 0 []], .bool false])else zJx d c a b e:=go (by kernel_rfl) (by kernel_rfl) (tN_ fi87) (by kernel_rfl)
noncomputable def zDY(a:PV) (b:List PV) (c d:Int) (e:List PV):Option PV:=(lN_ fi97) [0,1,0,1,1] 1 (St.mk [(1, .pv a),(5, .view 0 0 none),(9, .pv (.slice 6 b)),(10, .pv (.int .i64 c)),(11, .pv (.int .i64 d))] [.row false 0 0 e])
theorem zG0(d:PV) (e:List PV) (f a:Int) (b:List PV):zDY d e f a b =
 bif decide (a<f)then bif decide ((0:Int)≤a)then e[Int.toNat a]?.bind λ m=>zL m λ n o p g h=>(wc W zIY [.agg [.int .i64 n, .int .i64 o, .int .i64 p, .int .i64 g, .slice 6 h]]).bind λ i=>zA5 i λ j=>(PV.asFn d).bind λ c=>(wc W (Prod.fst c) (((Prod.fst (Prod.snd c))++[.int .i64 j])++(Prod.snd (Prod.snd c)))).bind λ k=>c_b k λ l=>bif l then bif true&&(decide (((List.length b)+1:Nat)≤4294967296))then zDY d e f (IntKind.wrap .i64 (a+1)) (b++[.int .i64 a])else none else zDY d e f (IntKind.wrap .i64 (a+1)) b else none else some (.slice 0 b):=((tN_ fi97).loop [1,1,0,1,0] 1 _ rfl).trans (by kernel_rfl)
theorem zQu(b a:List PV) (c:Int) (d e:List PV) (f:Int) (g:PV):wc W zFs [.agg [.slice 0 b, .slice 6 a, .int .i64 c, .slice 0 d, .slice 0 e, .int .i64 f],g] =
 zDY g a (a.length:Int) (0:Int) []:=go (by kernel_rfl) (by kernel_rfl) (tN_ fi97) (by kernel_rfl)
noncomputable def zCK(a:List PV) (b c d e f:Int) (g:List PV):Option (AV×List Ob):=(lO_ fi97 false 3) [0,1,0,1,1] 4 (St.mk [(1, .fnv zCz [] [.own 0 0, .own 1 0, .own 2 0]),(5, .view 3 0 none),(9, .pv (.slice 6 a)),(10, .pv (.int .i64 b)),(11, .pv (.int .i64 c))] [.var false 0 (.pv (.int .i64 d)), .var false 0 (.pv (.int .i64 e)), .var false 0 (.pv (.int .i64 f)), .row false 0 0 g])
theorem zEp(c:List PV) (d a h i j:Int) (b:List PV):zCK c d a h i j b =
 bif decide (a<d)then bif decide ((0:Int)≤a)then c[Int.toNat a]?.bind λ t=>zL t λ u k l m n=>(wc W zIY [.agg [.int .i64 u, .int .i64 k, .int .i64 l, .int .i64 m, .slice 6 n]]).bind λ o=>zA5 o λ p=>(W zCz false [.pv (.int .i64 p), .own 0 0, .own 1 0, .own 2 0] [.var false 0 (.pv (.int .i64 h)), .var false 0 (.pv (.int .i64 i)), .var false 0 (.pv (.int .i64 j))]).bind λ q=>zPK q λ r e f g=>c_b r λ s=>bif s then bif true&&(decide (((List.length b)+1:Nat)≤4294967296))then zCK c d (IntKind.wrap .i64 (a+1)) e f g (b++[.int .i64 a])else none else zCK c d (IntKind.wrap .i64 (a+1)) e f g b else none else some (.pv (.slice 0 b),[.var false 0 (.pv (.int .i64 h)), .var false 0 (.pv (.int .i64 i)), .var false 0 (.pv (.int .i64 j))]):=((tO_ fi97 false 3).loop [1,1,0,1,0] 4 _ rfl).trans (by kernel_rfl)
theorem zKl(e a:List PV) (f:Int) (g h:List PV) (i b c d:Int):W zFs false [.pv (.agg [.slice 0 e, .slice 6 a, .int .i64 f, .slice 0 g, .slice 0 h, .int .i64 i]), .fnv zCz [] [.own 0 0, .own 1 0, .own 2 0]] [.var false 0 (.pv (.int .i64 b)), .var false 0 (.pv (.int .i64 c)), .var false 0 (.pv (.int .i64 d))] =
 zCK a (a.length:Int) (0:Int) b c d []:=goO (by kernel_rfl) (by kernel_rfl) (tO_ fi97 false 3) rfl (by kernel_rfl)
theorem zKm(b a:Int):wc W zAq [.int .i64 b, .int .i64 a] =
 some (.bool ((IntKind.wrap .i64 (((BitVec.toNat (HAnd.hAnd (BitVec.ofInt 64 b) (BitVec.ofInt 64 a))):Nat):Int))==a)):=go (by kernel_rfl) (by kernel_rfl) (tN_ fi98) (by kernel_rfl)
theorem zS9(a b:Int):wc W zF1 [.agg [.int .i64 a, .int .i64 b]] =
 (wc W zF2 [.agg [.int .i64 a, .int .i64 b]]).bind λ c=>c_b c λ d=>some (.bool !d):=go (by kernel_rfl) (by kernel_rfl) (tN_ fi99) (by kernel_rfl)
theorem zWl(a b:Int):wc W zF2 [.agg [.int .i64 a, .int .i64 b]] =
 bif decide (GE.ge a (0:Int))then bif decide (a<(3:Int))then bif a==(0:Int)then some (.bool true)else some (.bool (b==(0:Int)))else some (.bool false)else some (.bool false):=go (by kernel_rfl) (by kernel_rfl) (tN_ z12) (by kernel_rfl)
theorem zC2(a:List PV) (b:PV):wc W zN [.slice 3 a,b] =
 (wc W zA9 [.slice 3 a,b]).bind λ c=>zA5 c λ d=>some (.bool (decide (GE.ge d (0:Int)))):=go (by kernel_rfl) (by kernel_rfl) (tN_ z13) (by kernel_rfl)
noncomputable def zEa(b:PV) (c:List PV) (d e:Int) (f g h a:List PV):Option PV:=(lN_ zSV) [0,1,0,1,1] 5 (St.mk [(1, .pv b),(4, .own 0 0),(5, .own 3 0),(13, .pv (.slice 0 c)),(14, .pv (.int .i64 d)),(15, .pv (.int .i64 e))] [.var false 3 (.agg [AV.nil 0,AV.nil 0]), .row false 0 0 f, .row false 0 0 g, .var false 3 (.agg [.pv (.slice 0 h), .view 4 0 none]), .row false 0 0 a])
theorem zHs(d:PV) (e:List PV) (f b:Int) (i j g a:List PV):zEa d e f b i j g a =
 bif decide (b<f)then bif decide ((0:Int)≤b)then e[Int.toNat b]?.bind λ k=>c_s3 k λ h=>(PV.asFn d).bind λ c=>(wc W (Prod.fst c) (((Prod.fst (Prod.snd c))++[.slice 3 h])++(Prod.snd (Prod.snd c)))).bind λ l=>c_b l λ m=>bif m then(wc W zBR [.slice 3 h]).bind λ n=>c_s3 n λ o=>bif true&&(decide (((List.length a)+1:Nat)≤4294967296))then zEa d e f (IntKind.wrap .i64 (b+1)) i j g (a++[.slice 3 o])else none else zEa d e f (IntKind.wrap .i64 (b+1)) i j g a else none else some (.agg [.slice 0 g, .slice 0 a]):=((tN_ zSV).loop [1,1,0,1,0] 5 _ rfl).trans (by kernel_rfl)
theorem zVG(b a:List PV) (c:PV):wc W zGV [.agg [.slice 0 b, .slice 0 a],c] =
 (wc W zAj [.slice 0 b]).bind λ d=>c_s0 d λ e=>zEa c a (a.length:Int) (0:Int) [] [] e []:=go (by kernel_rfl) (by kernel_rfl) (tN_ zSV) (by kernel_rfl)
noncomputable def zCs(a:List PV) (b c:Int) (d e f g:List PV):Option (AV×List Ob):=(lO_ zSV true 0) [0,1,0,1,1] 5 (St.mk [(1, .pv (.fn zE7 [] [])),(4, .own 0 0),(5, .own 3 0),(13, .pv (.slice 0 a)),(14, .pv (.int .i64 b)),(15, .pv (.int .i64 c))] [.var false 3 (.agg [AV.nil 0,AV.nil 0]), .row false 0 0 d, .row false 0 0 e, .var false 3 (.agg [.pv (.slice 0 f), .view 4 0 none]), .row false 0 0 g])
theorem zGB(c:List PV) (d a:Int) (g h e b:List PV):zCs c d a g h e b =
 bif decide (a<d)then bif decide ((0:Int)≤a)then c[Int.toNat a]?.bind λ i=>c_s3 i λ f=>(wc W zE7 [.slice 3 f]).bind λ j=>c_b j λ k=>bif k then(wc W zBR [.slice 3 f]).bind λ l=>c_s3 l λ m=>bif true&&(decide (((List.length b)+1:Nat)≤4294967296))then zCs c d (IntKind.wrap .i64 (a+1)) g h e (b++[.slice 3 m])else none else zCs c d (IntKind.wrap .i64 (a+1)) g h e b else none else some (.agg [.pv (.slice 0 e), .view 0 0 none],[.row false 0 0 b]):=((tO_ zSV true 0).loop [1,1,0,1,0] 5 _ rfl).trans (by kernel_rfl)
theorem zNL(b a:List PV):W zGV true [.pv (.agg [.slice 0 b, .slice 0 a]), .pv (.fn zE7 [] [])] [] =
 (wc W zAj [.slice 0 b]).bind λ c=>c_s0 c λ d=>zCs a (a.length:Int) (0:Int) [] [] d []:=goO (by kernel_rfl) (by kernel_rfl) (tO_ zSV true 0) rfl (by kernel_rfl)
theorem zQv(c d a b:List PV):wc W zFt [.slice 3 c, .imm 0 (.slice 6 d) 0, .imm 3 (.agg [.slice 0 a, .slice 0 b]) 0] =
 (wc W zA7 [.slice 6 d, .fn zE1 [] [.imm 3 (.agg [.slice 0 a, .slice 0 b]) 0, .imm 0 (.slice 3 c) 0]]).bind λ e=>c_b e λ f=>some (.bool !f):=go (by kernel_rfl) (by kernel_rfl) (tN_ z14) (by kernel_rfl)
theorem zCt(a:List PV) (b:PV):wc W zA7 [.slice 6 a,b] =
 (wc W zAl [.slice 6 a,b]).bind λ c=>zA5 c λ d=>some (.bool (decide (GE.ge d (0:Int)))):=go (by kernel_rfl) (by kernel_rfl) (tN_ z15) (by kernel_rfl)
theorem zNm(a b c d:Int) (e f g h:List PV):wc W zE1 [.agg [.int .i64 a, .int .i64 b, .int .i64 c, .int .i64 d, .slice 6 e], .imm 3 (.agg [.slice 0 f, .slice 0 g]) 0, .imm 0 (.slice 3 h) 0] =
 (wc W zHi [.agg [.int .i64 a, .int .i64 b, .int .i64 c, .int .i64 d, .slice 6 e], .slice 0 f, .slice 3 h]).bind λ i=>c_b i λ j=>some (.bool !j):=go (by kernel_rfl) (by kernel_rfl) (tN_ z16) (by kernel_rfl)
theorem zQw(a b c d:Int) (e f g:List PV):wc W zHi [.agg [.int .i64 a, .int .i64 b, .int .i64 c, .int .i64 d, .slice 6 e], .slice 0 f, .slice 3 g] =
 (wc W zJH [.agg [.int .i64 a, .int .i64 b, .int .i64 c, .int .i64 d, .slice 6 e], .slice 0 f, .slice 3 g]).bind λ h=>zB h λ i j=>(wc W zGX [.agg [.int .i64 i, .int .i64 j]]).bind λ k=>c_b k λ l=>some (.bool l):=go (by kernel_rfl) (by kernel_rfl) (tN_ z17) (by kernel_rfl)
theorem zQx(a:List PV):wc W zE7 [.slice 3 a] =
 some (.bool true):=go (by kernel_rfl) (by kernel_rfl) (tN_ z18) (by kernel_rfl)
theorem zCO(a:List PV) (b:Int):W zA8 false [AV.fx 0 0, .fnv zD [] [.own 1 0]] [.fix 0 0 a, .var false 0 (.pv (.int .i64 b))] =
 (W zCS false [AV.fx 0 0, .pv (.int .i64 (a.length:Int)), .fnv zD [] [.own 1 0]] [.fix 0 0 a, .var false 0 (.pv (.int .i64 b))]).bind λ c=>zDC c λ f d e=>some (.pv (.tup []),[.fix 0 0 d, .var false 0 (.pv (.int .i64 e))]):=goO (by kernel_rfl) (by kernel_rfl) (tO_ z19 false 2) rfl (by kernel_rfl)
theorem zKn(b c:List PV) (a:Int):W zD false [.pv (.slice 3 b), .pv (.slice 3 c), .own 0 0] [.var false 0 (.pv (.int .i64 a))] =
 (wc W zGn [.slice 3 b, .int .i64 a]).bind λ d=>zB d λ e f=>(wc W zGn [.slice 3 c, .int .i64 a]).bind λ g=>zB g λ h i=>(wc W zB4 [.agg [.int .i64 e, .int .i64 f], .agg [.int .i64 h, .int .i64 i]]).bind λ j=>zA5 j λ k=>some (.pv (.int .i64 k),[.var false 0 (.pv (.int .i64 a))]):=goO (by kernel_rfl) (by kernel_rfl) (tO_ z1a false 1) rfl (by kernel_rfl)
theorem zJy(b c:List PV) (a:Int):W zB5 false [.pv (.slice 3 b), .pv (.imm 2 (.agg [.slice 3 c]) 0), .own 0 0] [.var false 0 (.pv (.int .i64 a))] =
 bif decide ((0:Int)≤a)then c[Int.toNat a]?.bind λ d=>(PV.load 3 d 0 0).bind λ e=>zA5 e λ f=>(wc W zKf [.slice 3 b, .int .i64 f]).bind λ g=>c_b g λ h=>some (.pv (.bool !h),[.var false 0 (.pv (.int .i64 a))])else none:=goO (by kernel_rfl) (by kernel_rfl) (tO_ z1b false 1) rfl (by kernel_rfl)
theorem zVH(a:List PV) (b:Int):wc W zKf [.slice 3 a, .int .i64 b] =
 bif (a.length:Int)==b then(wc W zN [.slice 3 a, .fn zFv [] []]).bind λ c=>c_b c λ d=>some (.bool !d)else some (.bool false):=go (by kernel_rfl) (by kernel_rfl) (tN_ z1c) (by kernel_rfl)
theorem zBy(a b:List PV) (c:Int):W zA1 false [.pv (.slice 0 a), .fnv zB5 [] [.pv (.imm 2 (.agg [.slice 3 b]) 0), .own 0 0]] [.var false 0 (.pv (.int .i64 c))] =
 (W zBS false [.pv (.slice 0 a), .fnv zB5 [] [.pv (.imm 2 (.agg [.slice 3 b]) 0), .own 0 0]] [.var false 0 (.pv (.int .i64 c))]).bind λ d=>zDB d λ e f=>zA5 e λ g=>some (.pv (.bool (decide (GE.ge g (0:Int)))),[.var false 0 (.pv (.int .i64 f))]):=goO (by kernel_rfl) (by kernel_rfl) (tO_ z1d false 1) rfl (by kernel_rfl)
noncomputable def zBm(a b c:List PV) (d e:Int):Option PV:=(lN_ zY1) [0,1,0,1] 0 (St.mk [(0, .pv (.slice 0 a)),(1, .pv (.slice 0 b)),(9, .pv (.slice 0 c)),(10, .pv (.int .i64 d)),(11, .pv (.int .i64 e))] [])
theorem zB1(d b e:List PV) (f a:Int):zBm d b e f a =
 bif decide (a<f)then bif decide ((0:Int)≤a)then e[Int.toNat a]?.bind λ h=>zA5 h λ i=>bif decide (GE.ge a (b.length:Int))then some (.int .i64 (1:Int))else bif decide ((0:Int)≤a)then b[Int.toNat a]?.bind λ j=>zA5 j λ k=>(wc W zEQ [.int .i64 i, .int .i64 k]).bind λ g=>zA5 g λ c=>bif c != (0:Int)then some (.int .i64 c)else zBm d b e f (IntKind.wrap .i64 (a+1))else none else none else bif decide ((d.length:Int)<(b.length:Int))then some (.int .i64 (-1:Int))else some (.int .i64 (0:Int)):=((tN_ zY1).loop [1,0,1,0] 0 _ rfl).trans (by kernel_rfl)
theorem zG1(a b:List PV):wc W zDh [.slice 0 a, .slice 0 b] =
 zBm a b a (a.length:Int) (0:Int):=go (by kernel_rfl) (by kernel_rfl) (tN_ zY1) (by kernel_rfl)
noncomputable def zAa(a b:List PV) (c:Int) (d e:List PV) (f:Int) (g:Bool):Option PV:=(jN_ zQh) [1,1] (St.mk [(3, .pv (.imm 7 (.agg [.slice 0 a, .slice 6 b, .int .i64 c, .slice 0 d, .slice 0 e, .int .i64 f]) 0)),(5, .pv (.bool g))] [])
noncomputable def zBu(g h:List PV) (a:Int) (b c:List PV) (d:Int) (e:Bool) (f:Int):Option PV:=(lN_ zQh) [0,1,0,1,1] 0 (St.mk [(3, .pv (.imm 7 (.agg [.slice 0 g, .slice 6 h, .int .i64 a, .slice 0 b, .slice 0 c, .int .i64 d]) 0)),(5, .pv (.bool e)),(6, .pv (.int .i64 f))] [])
noncomputable def zEb(a b:List PV) (c:Int) (d e:List PV) (f g:Int):Option PV:=(jN_ zQh) [1,0,0,1,0,1,1] (St.mk [(3, .pv (.imm 7 (.agg [.slice 0 a, .slice 6 b, .int .i64 c, .slice 0 d, .slice 0 e, .int .i64 f]) 0)),(6, .pv (.int .i64 g))] [])
theorem zG2(a b:List PV) (c:Int) (d e:List PV) (f:Int) (g:Bool):zAa a b c d e f g =
 zBu a b c d e f g (0:Int):=((tN_ zQh).join [1,1] _).trans (by kernel_rfl)
theorem zDl(h g:List PV) (c:Int) (d e:List PV) (f:Int) (a:Bool) (b:Int):zBu h g c d e f a b =
 bif decide (b<(g.length:Int))then bif a then zEb h g c d e f b else some (.bool a)else some (.bool a):=((tN_ zQh).loop [1,1,0,1,0] 0 _ rfl).trans (by kernel_rfl)
theorem zG3(c b:List PV) (d:Int) (e f:List PV) (g a:Int):zEb c b d e f g a =
 bif decide ((0:Int)≤a)then b[Int.toNat a]?.bind λ h=>zL h λ i j k l m=>(wc W zD9 [.agg [.int .i64 i, .int .i64 j, .int .i64 k, .int .i64 l, .slice 6 m], .int .i64 (60:Int)]).bind λ n=>c_b n λ o=>zBu c b d e f g o (IntKind.wrap .i64 (a+1))else none:=((tN_ zQh).join [1,1,0,1,0,0,1] _).trans (by kernel_rfl)
theorem zJS(g a b:List PV) (e:Int) (c d:List PV) (f:Int):wc W zBe [.agg [.slice 3 g], .agg [.slice 0 a, .slice 6 b, .int .i64 e, .slice 0 c, .slice 0 d, .int .i64 f]] =
 bif decide ((g.length:Int)≤(10:Int))then bif decide ((a.length:Int)≤(20:Int))then bif decide ((b.length:Int)≤(8:Int))then bif decide ((c.length:Int)≤(20:Int))then zAa a b e c d f (decide ((d.length:Int)≤(20:Int)))else zAa a b e c d f false else zAa a b e c d f false else zAa a b e c d f false else zAa a b e c d f false:=go (by kernel_rfl) (by kernel_rfl) (tN_ zQh) (by kernel_rfl)
noncomputable def zAr(a:List PV) (b:Bool) (c:Int):Option PV:=(lN_ zNi) [0,1,0,1,1] 0 (St.mk [(1, .pv (.imm 2 (.agg [.slice 0 a]) 0)),(3, .pv (.bool b)),(4, .pv (.int .i64 c))] [])
noncomputable def zEc(a:List PV) (b:Int):Option PV:=(jN_ zNi) [1,0,0,1,0,1,1] (St.mk [(1, .pv (.imm 2 (.agg [.slice 0 a]) 0)),(4, .pv (.int .i64 b))] [])
noncomputable def zBv(c:List PV) (d:Bool) (a b:Int):Option PV:=(lN_ zNi) [0,1,1,0,0,1,0,0,1,0,1,1] 0 (St.mk [(1, .pv (.imm 2 (.agg [.slice 0 c]) 0)),(3, .pv (.bool d)),(4, .pv (.int .i64 a)),(5, .pv (.int .i64 b))] [])
noncomputable def zEd(a:List PV) (b c:Int):Option PV:=(jN_ zNi) [1,0,0,1,1,0,0,1,0,0,1,0,1,1] (St.mk [(1, .pv (.imm 2 (.agg [.slice 0 a]) 0)),(4, .pv (.int .i64 b)),(5, .pv (.int .i64 c))] [])
theorem zDm(b:List PV) (a:Bool) (c:Int):zAr b a c =
 bif decide (c<(b.length:Int))then bif a then zEc b c else some (.bool a)else some (.bool a):=((tN_ zNi).loop [1,1,0,1,0] 0 _ rfl).trans (by kernel_rfl)
theorem zG4(b:List PV) (a:Int):zEc b a =
 bif decide ((0:Int)≤a)then b[Int.toNat a]?.bind λ c=>c_s0 c λ d=>zBv b (decide ((d.length:Int)≤(20:Int))) a (0:Int)else none:=((tN_ zNi).join [1,1,0,1,0,0,1] _).trans (by kernel_rfl)
theorem zDn(b:List PV) (d:Bool) (a c:Int):zBv b d a c =
 bif decide ((0:Int)≤a)then b[Int.toNat a]?.bind λ e=>c_s0 e λ f=>bif decide (c<(f.length:Int))then bif d then zEd b a c else zAr b d (IntKind.wrap .i64 (a+1))else zAr b d (IntKind.wrap .i64 (a+1))else none:=((tN_ zNi).loop [1,1,0,1,0,0,1,0,0,1,1,0] 0 _ rfl).trans (by kernel_rfl)
theorem zG5(c:List PV) (a b:Int):zEd c a b =
 bif decide ((0:Int)≤a)then c[Int.toNat a]?.bind λ d=>c_s0 d λ e=>bif decide ((0:Int)≤b)then e[Int.toNat b]?.bind λ f=>c_s3 f λ g=>zBv c (decide ((g.length:Int)≤(20:Int))) a (IntKind.wrap .i64 (b+1))else none else none:=((tN_ zNi).join [1,1,0,1,0,0,1,0,0,1,1,0,0,1] _).trans (by kernel_rfl)
theorem zJT(a:List PV):wc W zD8 [.agg [.slice 0 a]] =
 zAr a (decide ((a.length:Int)≤(10:Int))) (0:Int):=go (by kernel_rfl) (by kernel_rfl) (tN_ zNi) (by kernel_rfl)
theorem zWm(a b c:Int):wc W zDx [.int .i64 a, .int .i64 b, .int .i64 c] =
 bif decide (GE.ge a b)then some (.bool (decide (a≤c)))else some (.bool false):=go (by kernel_rfl) (by kernel_rfl) (tN_ z1e) (by kernel_rfl)
noncomputable def zLX(a b:Int):Option PV:=(jN_ zY2) [1,1] (St.mk [(0, .pv (.int .i64 a)),(1, .pv (.int .i64 b))] [])
theorem zNM(a b:Int):zLX a b =
 some (.int .i64 (IntKind.wrap .i64 ((IntKind.wrap .i64 ((4:Int)*a:Int))+b:Int))):=((tN_ zY2).join [1,1] _).trans (by kernel_rfl)
theorem zVI(a b:Int):wc W zGW [.int .i64 a, .int .i64 b] =
 (wc W zDx [.int .i64 a, .int .i64 (0:Int), .int .i64 (3:Int)]).bind λ c=>c_b c λ d=>bif !d then some (.int .i64 (-1:Int))else(wc W zDx [.int .i64 b, .int .i64 (0:Int), .int .i64 (3:Int)]).bind λ e=>c_b e λ f=>bif !f then some (.int .i64 (-1:Int))else zLX a b:=go (by kernel_rfl) (by kernel_rfl) (tN_ zY2) (by kernel_rfl)
noncomputable def zBQ(a:List PV) (b:Int) (c:List PV) (d e:Int):Option PV:=(lN_ zUm) [0,1,0,1,1] 0 (St.mk [(0, .pv (.slice 0 a)),(3, .pv (.int .i64 b)),(9, .pv (.slice 0 c)),(10, .pv (.int .i64 d)),(11, .pv (.int .i64 e))] [])
noncomputable def zAm(a:List PV) (b c:Int) (d:List PV):Option PV:=(lN_ zUm) [0,1,0,1,1,1,1] 1 (St.mk [(6, .view 0 0 none),(25, .pv (.slice 0 a)),(26, .pv (.int .i64 b)),(27, .pv (.int .i64 c))] [.row false 0 0 d])
theorem zCe(b:List PV) (c:Int) (d:List PV) (e a:Int):zBQ b c d e a =
 bif decide (a<e)then bif decide ((0:Int)≤a)then d[Int.toNat a]?.bind λ h=>c_s0 h λ f=>bif decide ((IntKind.wrap .i64 (c+(f.length:Int):Int))<(0:Int))then none else zBQ b (IntKind.wrap .i64 (c+(f.length:Int):Int)) d e (IntKind.wrap .i64 (a+1))else none else(W zCo true [AV.nil 0, .pv (.int .i64 c)] []).bind λ i=>zPN i λ g=>zAm b (b.length:Int) (0:Int) g:=((tN_ zUm).loop [1,1,0,1,0] 0 _ rfl).trans (by kernel_rfl)
theorem zCf(c:List PV) (d a:Int) (b:List PV):zAm c d a b =
 bif decide (a<d)then bif decide ((0:Int)≤a)then c[Int.toNat a]?.bind λ f=>c_s0 f λ e=>bif true&&(decide (((List.length b)+(List.length e):Nat)≤4294967296))then zAm c d (IntKind.wrap .i64 (a+1)) (b++e)else none else none else some (.slice 0 b):=((tN_ zUm).loop [1,1,1,1,0,1,0] 1 _ rfl).trans (by kernel_rfl)
theorem zGz(a:List PV):wc W zCY [.slice 0 a] =
 zBQ a (0:Int) a (a.length:Int) (0:Int):=go (by kernel_rfl) (by kernel_rfl) (tN_ zUm) (by kernel_rfl)
noncomputable def zA3(a:List PV) (b:Int) (c:List PV) (d e:Int):Option PV:=(lN_ zUn) [0,1,0,1,1] 0 (St.mk [(0, .pv (.slice 0 a)),(3, .pv (.int .i64 b)),(9, .pv (.slice 0 c)),(10, .pv (.int .i64 d)),(11, .pv (.int .i64 e))] [])
noncomputable def zAL(a:List PV) (b c:Int) (d:List PV):Option PV:=(lN_ zUn) [0,1,0,1,1,1,1] 1 (St.mk [(6, .view 0 0 none),(25, .pv (.slice 0 a)),(26, .pv (.int .i64 b)),(27, .pv (.int .i64 c))] [.row false 0 3 d])
theorem zBb(b:List PV) (c:Int) (d:List PV) (e a:Int):zA3 b c d e a =
 bif decide (a<e)then bif decide ((0:Int)≤a)then d[Int.toNat a]?.bind λ h=>c_s3 h λ f=>bif decide ((IntKind.wrap .i64 (c+(f.length:Int):Int))<(0:Int))then none else zA3 b (IntKind.wrap .i64 (c+(f.length:Int):Int)) d e (IntKind.wrap .i64 (a+1))else none else(W zB0 true [AV.nil 3, .pv (.int .i64 c)] []).bind λ i=>zTf i λ g=>zAL b (b.length:Int) (0:Int) g:=((tN_ zUn).loop [1,1,0,1,0] 0 _ rfl).trans (by kernel_rfl)
theorem zBc(c:List PV) (d a:Int) (b:List PV):zAL c d a b =
 bif decide (a<d)then bif decide ((0:Int)≤a)then c[Int.toNat a]?.bind λ f=>c_s3 f λ e=>bif true&&(decide (((List.length b)+(List.length e):Nat)≤4294967296))then zAL c d (IntKind.wrap .i64 (a+1)) (b++e)else none else none else some (.slice 3 b):=((tN_ zUn).loop [1,1,1,1,0,1,0] 1 _ rfl).trans (by kernel_rfl)
theorem zEU(a:List PV):wc W zBG [.slice 0 a] =
 zA3 a (0:Int) a (a.length:Int) (0:Int):=go (by kernel_rfl) (by kernel_rfl) (tN_ zUn) (by kernel_rfl)
theorem zDQ(a:List PV) (b:PV):wc W zAf [.slice 3 a,b] =
 (wc W zAw [.slice 3 a,b]).bind λ c=>zA5 c λ d=>some (.bool (decide (GE.ge d (0:Int)))):=go (by kernel_rfl) (by kernel_rfl) (tN_ z1f) (by kernel_rfl)
theorem zQy(a b:Int):wc W zFu [.agg [.int .i64 a, .int .i64 b]] =
 (wc W zKg [.agg [.int .i64 a, .int .i64 b]]).bind λ c=>c_b c λ d=>some (.bool !d):=go (by kernel_rfl) (by kernel_rfl) (tN_ z1g) (by kernel_rfl)
theorem zVJ(a b:Int):wc W zKg [.agg [.int .i64 a, .int .i64 b]] =
 ((bif a==(0:Int)then bif b==(0:Int)then some true else some false else some false).bind λ c=>some (.bool !c)).bind λ d=>c_b d λ e=>bif e then(wc W zDx [.int .i64 a, .int .i64 (1:Int), .int .i64 (4:Int)]).bind λ f=>c_b f λ g=>bif g then(wc W zDx [.int .i64 b, .int .i64 (1:Int), .int .i64 (1000000:Int)]).bind λ h=>c_b h λ i=>some (.bool i)else some (.bool false)else some (.bool false):=go (by kernel_rfl) (by kernel_rfl) (tN_ z1h) (by kernel_rfl)
noncomputable def zAv(a:List PV) (b:PV) (c d:Int):Option PV:=(lN_ zY3) [0,1,0,1] 0 (St.mk [(0, .pv (.slice 0 a)),(1, .pv b),(7, .pv (.int .i64 c)),(8, .pv (.int .i64 d))] [])
theorem zCL(b:List PV) (c:PV) (d a:Int):zAv b c d a =
 bif decide (a<d)then bif decide ((0:Int)≤a)then b[Int.toNat a]?.bind λ f=>zA5 f λ g=>(PV.asFn c).bind λ e=>(wc W (Prod.fst e) (((Prod.fst (Prod.snd e))++[.int .i64 g])++(Prod.snd (Prod.snd e)))).bind λ h=>c_b h λ i=>bif i then some (.int .i64 a)else zAv b c d (IntKind.wrap .i64 (a+1))else none else some (.int .i64 (-1:Int)):=((tN_ zY3).loop [1,0,1,0] 0 _ rfl).trans (by kernel_rfl)
theorem zFj(a:List PV) (b:PV):wc W zBl [.slice 0 a,b] =
 zAv a b (a.length:Int) (0:Int):=go (by kernel_rfl) (by kernel_rfl) (tN_ zY3) (by kernel_rfl)
theorem zVK(a b c d:Int) (e:List PV):wc W zIX [.agg [.int .i64 a, .int .i64 b, .int .i64 c, .int .i64 d, .slice 6 e]] =
 (W zCm false [.pv (.agg [.int .i64 a, .int .i64 b, .int .i64 c, .int .i64 d, .slice 6 e]), .pv (.int .i64 (1:Int)), .fnv zCT [] [.own 0 0]] [.var false 0 (.pv (.int .i64 (0:Int)))]).bind λ g=>zDB g λ h i=>c_b h λ f=>some (.bool f):=go (by kernel_rfl) (by kernel_rfl) (tN_ z1i) (by kernel_rfl)
noncomputable def zD2(a:Int) (b:List PV) (c d e:Int):Option (AV×List Ob):=(lO_ zSW false 1) [0,1,0,1,1] 1 (St.mk [(1, .pv (.int .i64 a)),(2, .fnv zCT [] [.own 0 0]),(15, .pv (.slice 6 b)),(16, .pv (.int .i64 c)),(17, .pv (.int .i64 d))] [.var false 0 (.pv (.int .i64 e))])
theorem zF7(b:Int) (c:List PV) (d a e:Int):zD2 b c d a e =
 bif decide (a<d)then bif decide ((0:Int)≤a)then c[Int.toNat a]?.bind λ g=>zL g λ h i j k l=>(W zCm false [.pv (.agg [.int .i64 h, .int .i64 i, .int .i64 j, .int .i64 k, .slice 6 l]), .pv (.int .i64 (IntKind.wrap .i64 (b+1))), .fnv zCT [] [.own 0 0]] [.var false 0 (.pv (.int .i64 e))]).bind λ m=>zDB m λ n f=>c_b n λ o=>bif !o then some (.pv (.bool false),[.var false 0 (.pv (.int .i64 f))])else zD2 b c d (IntKind.wrap .i64 (a+1)) f else none else some (.pv (.bool true),[.var false 0 (.pv (.int .i64 e))]):=((tO_ zSW false 1).loop [1,1,0,1,0] 1 _ rfl).trans (by kernel_rfl)
theorem zLi(d e f g:Int) (a:List PV) (c h:Int):W zCm false [.pv (.agg [.int .i64 d, .int .i64 e, .int .i64 f, .int .i64 g, .slice 6 a]), .pv (.int .i64 c), .fnv zCT [] [.own 0 0]] [.var false 0 (.pv (.int .i64 h))] =
 (W zCT false [.pv (.agg [.int .i64 d, .int .i64 e, .int .i64 f, .int .i64 g, .slice 6 a]), .pv (.int .i64 c), .own 0 0] [.var false 0 (.pv (.int .i64 h))]).bind λ j=>zDB j λ k b=>c_b k λ i=>bif !i then some (.pv (.bool false),[.var false 0 (.pv (.int .i64 b))])else zD2 c a (a.length:Int) (0:Int) b:=goO (by kernel_rfl) (by kernel_rfl) (tO_ zSW false 1) rfl (by kernel_rfl)
noncomputable def zD3(a:Int) (b:List PV) (c d:Int) (e:List PV):Option (AV×List Ob):=(lO_ zSW false 2) [0,1,0,1,1] 2 (St.mk [(1, .pv (.int .i64 a)),(2, .fnv zBr [] [.own 0 0]),(15, .pv (.slice 6 b)),(16, .pv (.int .i64 c)),(17, .pv (.int .i64 d))] [.var false 0 (.view 1 0 none), .row false 0 0 e])
theorem zF8(b:Int) (c:List PV) (d a:Int) (e:List PV):zD3 b c d a e =
 bif decide (a<d)then bif decide ((0:Int)≤a)then c[Int.toNat a]?.bind λ g=>zL g λ h i j k l=>(W zCm false [.pv (.agg [.int .i64 h, .int .i64 i, .int .i64 j, .int .i64 k, .slice 6 l]), .pv (.int .i64 (IntKind.wrap .i64 (b+1))), .fnv zBr [] [.own 0 0]] [.var false 0 (.view 1 0 none), .row false 0 0 e]).bind λ m=>zMD m λ n f=>c_b n λ o=>bif !o then some (.pv (.bool false),[.var false 0 (.view 1 0 none), .row false 0 0 f])else zD3 b c d (IntKind.wrap .i64 (a+1)) f else none else some (.pv (.bool true),[.var false 0 (.view 1 0 none), .row false 0 0 e]):=((tO_ zSW false 2).loop [1,1,0,1,0] 2 _ rfl).trans (by kernel_rfl)
theorem zLj(d e f g:Int) (a:List PV) (c:Int) (h:List PV):W zCm false [.pv (.agg [.int .i64 d, .int .i64 e, .int .i64 f, .int .i64 g, .slice 6 a]), .pv (.int .i64 c), .fnv zBr [] [.own 0 0]] [.var false 0 (.view 1 0 none), .row false 0 0 h] =
 (W zBr false [.pv (.agg [.int .i64 d, .int .i64 e, .int .i64 f, .int .i64 g, .slice 6 a]), .pv (.int .i64 c), .own 0 0] [.var false 0 (.view 1 0 none), .row false 0 0 h]).bind λ j=>zMD j λ k b=>c_b k λ i=>bif !i then some (.pv (.bool false),[.var false 0 (.view 1 0 none), .row false 0 0 b])else zD3 c a (a.length:Int) (0:Int) b:=goO (by kernel_rfl) (by kernel_rfl) (tO_ zSW false 2) rfl (by kernel_rfl)
theorem zJz(b c d e:Int) (f:List PV) (g:Int) (a:List PV):W zBr false [.pv (.agg [.int .i64 b, .int .i64 c, .int .i64 d, .int .i64 e, .slice 6 f]), .pv (.int .i64 g), .own 0 0] [.var false 0 (.view 1 0 none), .row false 0 0 a] =
 bif b==(1:Int)then bif true&&(decide (((List.length a)+1:Nat)≤4294967296))then some (.pv (.bool true),[.var false 0 (.view 1 0 none), .row false 0 0 (a++[.int .i64 c])])else none else some (.pv (.bool true),[.var false 0 (.view 1 0 none), .row false 0 0 a]):=goO (by kernel_rfl) (by kernel_rfl) (tO_ z1j false 2) rfl (by kernel_rfl)
theorem zLk(a:Int) (b:List PV):wc W zEi [.int .i64 a, .imm 0 (.slice 0 b) 0] =
 (wc W zAk [.slice 0 b, .int .i64 a]).bind λ c=>c_b c λ d=>some (.bool !d):=go (by kernel_rfl) (by kernel_rfl) (tN_ z1k) (by kernel_rfl)
theorem zKA(d a b c:Int):W zCz false [.pv (.int .i64 d), .own 0 0, .own 1 0, .own 2 0] [.var false 0 (.pv (.int .i64 a)), .var false 0 (.pv (.int .i64 b)), .var false 0 (.pv (.int .i64 c))] =
 (wc W zAq [.int .i64 a, .int .i64 d]).bind λ e=>c_b e λ f=>bif f then(wc W zAq [.int .i64 b, .int .i64 d]).bind λ g=>c_b g λ h=>bif !h then(wc W zAq [.int .i64 c, .int .i64 d]).bind λ i=>c_b i λ j=>some (.pv (.bool !j),[.var false 0 (.pv (.int .i64 a)), .var false 0 (.pv (.int .i64 b)), .var false 0 (.pv (.int .i64 c))])else some (.pv (.bool false),[.var false 0 (.pv (.int .i64 a)), .var false 0 (.pv (.int .i64 b)), .var false 0 (.pv (.int .i64 c))])else some (.pv (.bool false),[.var false 0 (.pv (.int .i64 a)), .var false 0 (.pv (.int .i64 b)), .var false 0 (.pv (.int .i64 c))]):=goO (by kernel_rfl) (by kernel_rfl) (tO_ z1l false 3) rfl (by kernel_rfl)
theorem zPV(c:Int) (a b:List PV):wc W zGs [.int .i64 c, .imm 3 (.agg [.slice 0 a, .slice 0 b]) 0] =
 (wc W zAk [.slice 0 a, .int .i64 c]).bind λ d=>c_b d λ e=>some (.bool !e):=go (by kernel_rfl) (by kernel_rfl) (tN_ z1m) (by kernel_rfl)
theorem zME(a:Int):wc W zD1 [.int .i64 a] =
 some (.agg [.int .i64 (0:Int), .int .i64 a]):=go (by kernel_rfl) (by kernel_rfl) (tN_ z1n) (by kernel_rfl)
noncomputable def zF9(f g h:Int) (a:List PV) (b c d e:Int):Option PV:=(lN_ zY4) [0,1,0,1,1,1,1] 1 (St.mk [(2, .own 0 0),(3, .pv (.int IntKind.u64 f)),(4, .pv (.int IntKind.u64 g)),(5, .pv (.int .i64 h)),(14, .pv (.slice 3 a)),(15, .pv (.int .i64 b)),(16, .pv (.int .i64 c))] [.var false 3 (.pv (.agg [.int .i64 d, .int .i64 e]))])
theorem zIn(g d h:Int) (b:List PV) (c a e f:Int):zF9 g d h b c a e f =
 bif decide (a<c)then bif decide ((0:Int)≤a)then b[Int.toNat a]?.bind λ k=>zB k λ l i=>bif l != (0:Int)then zF9 g d h b c (IntKind.wrap .i64 (a+1)) e f else(wc W zLS [.int IntKind.u64 d, .int IntKind.u64 (IntKind.wrap .u64 i), .int IntKind.u64 (0:Int)]).bind λ j=>j.asTup.bind λ m=>m[0]?.bind λ n=>zSZ n λ o=>j.asTup.bind λ p=>p[1]?.bind λ q=>zSZ q λ r=>zF9 (IntKind.wrap .u64 (g+(IntKind.wrap .u64 (r+(IntKind.wrap .u64 (Int.fdiv i (9223372036854775808:Int))):Int)):Int)) o (IntKind.wrap .i64 (h+1)) b c (IntKind.wrap .i64 (a+1)) e f else none else bif h==(0:Int)then(wc W zIZ []).bind λ s=>zB s λ t u=>some (.agg [.int .i64 t, .int .i64 u])else bif g != (IntKind.wrap .u64 (Int.fdiv (IntKind.wrap .i64 d) (9223372036854775808:Int)))then(wc W zF3 []).bind λ v=>zB v λ w x=>some (.agg [.int .i64 w, .int .i64 x])else(wc W zD1 [.int .i64 (IntKind.wrap .i64 d)]).bind λ y=>zB y λ z A=>some (.agg [.int .i64 z, .int .i64 A]):=((tN_ zY4).loop [1,1,1,1,0,1,0] 1 _ rfl).trans (by kernel_rfl)
theorem zWn(a:List PV):wc W zNA [.slice 3 a] =
 (wc W zGY [.int .i64 (2:Int)]).bind λ b=>(wc W zAz [.slice 3 a,b]).bind λ c=>c_b c λ d=>bif d then(wc W zF3 []).bind λ e=>zB e λ f g=>some (.agg [.int .i64 f, .int .i64 g])else zF9 (0:Int) (0:Int) (0:Int) a (a.length:Int) (0:Int) (0:Int) (0:Int):=go (by kernel_rfl) (by kernel_rfl) (tN_ zY4) (by kernel_rfl)
theorem zVL(a b c d:Int) (e:List PV):wc W zIY [.agg [.int .i64 a, .int .i64 b, .int .i64 c, .int .i64 d, .slice 6 e]] =
 (wc W zGr [.agg [.int .i64 a, .int .i64 b, .int .i64 c, .int .i64 d, .slice 6 e]]).bind λ f=>c_s0 f λ g=>(wc W zKh [.slice 0 g]).bind λ h=>zA5 h λ i=>some (.int .i64 i):=go (by kernel_rfl) (by kernel_rfl) (tN_ z1o) (by kernel_rfl)
noncomputable def zAH(a:List PV) (b:PV) (c d:Int):Option PV:=(lN_ zY5) [0,1,0,1] 0 (St.mk [(0, .pv (.slice 3 a)),(1, .pv b),(7, .pv (.int .i64 c)),(8, .pv (.int .i64 d))] [])
theorem zAx(b:List PV) (c:PV) (d a:Int):zAH b c d a =
 bif decide (a<d)then bif decide ((0:Int)≤a)then b[Int.toNat a]?.bind λ g=>zB g λ h i=>(PV.asFn c).bind λ e=>(wc W (Prod.fst e) (((Prod.fst (Prod.snd e))++[.agg [.int .i64 h, .int .i64 i]])++(Prod.snd (Prod.snd e)))).bind λ j=>c_b j λ f=>bif f then some (.int .i64 a)else zAH b c d (IntKind.wrap .i64 (a+1))else none else some (.int .i64 (-1:Int)):=((tN_ zY5).loop [1,0,1,0] 0 _ rfl).trans (by kernel_rfl)
theorem zCu(a:List PV) (b:PV):wc W zA9 [.slice 3 a,b] =
 zAH a b (a.length:Int) (0:Int):=go (by kernel_rfl) (by kernel_rfl) (tN_ zY5) (by kernel_rfl)
noncomputable def zAN(a:List PV) (b:PV) (c d:Int):Option PV:=(lN_ zY6) [0,1,0,1] 0 (St.mk [(0, .pv (.slice 6 a)),(1, .pv b),(7, .pv (.int .i64 c)),(8, .pv (.int .i64 d))] [])
theorem zBC(c:List PV) (d:PV) (e a:Int):zAN c d e a =
 bif decide (a<e)then bif decide ((0:Int)≤a)then c[Int.toNat a]?.bind λ i=>zL i λ j k l m f=>(PV.asFn d).bind λ b=>(wc W (Prod.fst b) (((Prod.fst (Prod.snd b))++[.agg [.int .i64 j, .int .i64 k, .int .i64 l, .int .i64 m, .slice 6 f]])++(Prod.snd (Prod.snd b)))).bind λ g=>c_b g λ h=>bif h then some (.int .i64 a)else zAN c d e (IntKind.wrap .i64 (a+1))else none else some (.int .i64 (-1:Int)):=((tN_ zY6).loop [1,0,1,0] 0 _ rfl).trans (by kernel_rfl)
theorem zDZ(a:List PV) (b:PV):wc W zAl [.slice 6 a,b] =
 zAN a b (a.length:Int) (0:Int):=go (by kernel_rfl) (by kernel_rfl) (tN_ zY6) (by kernel_rfl)
theorem zVM(a b:Int):wc W zGX [.agg [.int .i64 a, .int .i64 b]] =
 bif a==(0:Int)then some (.bool (b != (0:Int)))else some (.bool false):=go (by kernel_rfl) (by kernel_rfl) (tN_ z1q) (by kernel_rfl)
theorem zSa(a b c d:Int) (e f g:List PV):wc W zJH [.agg [.int .i64 a, .int .i64 b, .int .i64 c, .int .i64 d, .slice 6 e], .slice 0 f, .slice 3 g] =
 (wc W zIX [.agg [.int .i64 a, .int .i64 b, .int .i64 c, .int .i64 d, .slice 6 e]]).bind λ h=>c_b h λ i=>bif !i then some (.agg [.int .i64 (2:Int), .int .i64 (0:Int)])else(wc W zGt [.agg [.int .i64 a, .int .i64 b, .int .i64 c, .int .i64 d, .slice 6 e], .slice 0 f, .slice 3 g]).bind λ j=>zB j λ k l=>some (.agg [.int .i64 k, .int .i64 l]):=go (by kernel_rfl) (by kernel_rfl) (tN_ z1r) (by kernel_rfl)
noncomputable def zAX(a b c d:Int) (e:List PV) (f:Int):Option (AV×List Ob):=(lO_ zQi false 2) [0,0,1,1] 2 (St.mk [(0,AV.fx 0 0),(1, .pv (.int .i64 a)),(2, .fnv zD [] [.own 1 0]),(6, .pv (.int .i64 b)),(7, .pv (.int .i64 c)),(8, .pv (.int .i64 d))] [.fix 0 0 e, .var false 0 (.pv (.int .i64 f))])
noncomputable def zAE(a b:Int) (c:List PV) (d:Int):Option (AV×List Ob):=(lO_ zQi false 2) [0,1,1,1,1] 2 (St.mk [(0,AV.fx 0 0),(1, .pv (.int .i64 a)),(2, .fnv zD [] [.own 1 0]),(6, .pv (.int .i64 b))] [.fix 0 0 c, .var false 0 (.pv (.int .i64 d))])
noncomputable def zAY(a b c d:Int) (e:List PV) (f:Int):Option (AV×List Ob):=(lO_ zQi false 2) [0,0,1,0,1,2,0,1,1,1,1] 2 (St.mk [(0,AV.fx 0 0),(1, .pv (.int .i64 a)),(2, .fnv zD [] [.own 1 0]),(6, .pv (.int .i64 b)),(7, .pv (.int .i64 c)),(8, .pv (.int .i64 d))] [.fix 0 0 e, .var false 0 (.pv (.int .i64 f))])
theorem zDG(a c d b:Int) (e:List PV) (f:Int):zAX a c d b e f =
 bif decide (b≤a)then(W zAS false [AV.fx 0 0, .pv (.int .i64 d), .pv (.int .i64 b), .fnv zD [] [.own 1 0]] [.fix 0 0 e, .var false 0 (.pv (.int .i64 f))]).bind λ g=>zDC g λ m h i=>zAX a c b (IntKind.wrap .i64 (b+c:Int)) h i else(W zAS false [AV.fx 0 0, .pv (.int .i64 d), .pv (.int .i64 a), .fnv zD [] [.own 1 0]] [.fix 0 0 e, .var false 0 (.pv (.int .i64 f))]).bind λ j=>zDC j λ n k l=>zAE a c k l:=((tO_ zQi false 2).loop [1,1,0,0] 2 _ rfl).trans (by kernel_rfl)
theorem zBY(b a:Int) (c:List PV) (d:Int):zAE b a c d =
 bif decide (a<b)then zAY b a (0:Int) (IntKind.wrap .i64 ((2:Int)*a:Int)) c d else some (.pv (.tup []),[.fix 0 0 c, .var false 0 (.pv (.int .i64 d))]):=((tO_ zQi false 2).loop [1,1,1,1,0] 2 _ rfl).trans (by kernel_rfl)
theorem zDH(b a c d:Int) (e:List PV) (f:Int):zAY b a c d e f =
 bif decide (d≤b)then(W zY false [AV.fx 0 0, .pv (.int .i64 c), .pv (.int .i64 (IntKind.wrap .i64 (c+a:Int))), .pv (.int .i64 d), .fnv zD [] [.own 1 0]] [.fix 0 0 e, .var false 0 (.pv (.int .i64 f))]).bind λ g=>zDC g λ m h i=>zAY b a d (IntKind.wrap .i64 (d+(IntKind.wrap .i64 ((2:Int)*a:Int)):Int)) h i else bif decide ((IntKind.wrap .i64 (c+a:Int))<b)then(W zY false [AV.fx 0 0, .pv (.int .i64 c), .pv (.int .i64 (IntKind.wrap .i64 (c+a:Int))), .pv (.int .i64 b), .fnv zD [] [.own 1 0]] [.fix 0 0 e, .var false 0 (.pv (.int .i64 f))]).bind λ j=>zDC j λ n k l=>zAE b (IntKind.wrap .i64 (a*(2:Int):Int)) k l else zAE b (IntKind.wrap .i64 (a*(2:Int):Int)) e f:=((tO_ zQi false 2).loop [1,1,1,1,0,2,1,0,1,0,0] 2 _ rfl).trans (by kernel_rfl)
theorem zDa(a:Int) (b:List PV) (c:Int):W zCS false [AV.fx 0 0, .pv (.int .i64 a), .fnv zD [] [.own 1 0]] [.fix 0 0 b, .var false 0 (.pv (.int .i64 c))] =
 zAX a (20:Int) (0:Int) (20:Int) b c:=goO (by kernel_rfl) (by kernel_rfl) (tO_ zQi false 2) rfl (by kernel_rfl)
theorem zQz(a b:Int):wc W zFv [.agg [.int .i64 a, .int .i64 b]] =
 (wc W zF2 [.agg [.int .i64 a, .int .i64 b]]).bind λ c=>c_b c λ d=>some (.bool !d):=go (by kernel_rfl) (by kernel_rfl) (tN_ z1s) (by kernel_rfl)
noncomputable def zS(a b:List PV) (c d e:Int):Option (AV×List Ob):=(lO_ zY7 false 1) [0,1,0,1] 1 (St.mk [(0, .pv (.slice 0 a)),(1, .fnv zB5 [] [.pv (.imm 2 (.agg [.slice 3 b]) 0), .own 0 0]),(7, .pv (.int .i64 c)),(8, .pv (.int .i64 d))] [.var false 0 (.pv (.int .i64 e))])
theorem zAn(c d:List PV) (e a f:Int):zS c d e a f =
 bif decide (a<e)then bif decide ((0:Int)≤a)then c[Int.toNat a]?.bind λ j=>c_s3 j λ k=>(W zB5 false [.pv (.slice 3 k), .pv (.imm 2 (.agg [.slice 3 d]) 0), .own 0 0] [.var false 0 (.pv (.int .i64 f))]).bind λ g=>zDB g λ h b=>c_b h λ i=>bif i then some (.pv (.int .i64 a),[.var false 0 (.pv (.int .i64 b))])else zS c d e (IntKind.wrap .i64 (a+1)) b else none else some (.pv (.int .i64 (-1:Int)),[.var false 0 (.pv (.int .i64 f))]):=((tO_ zY7 false 1).loop [1,0,1,0] 1 _ rfl).trans (by kernel_rfl)
theorem zCP(a b:List PV) (c:Int):W zBS false [.pv (.slice 0 a), .fnv zB5 [] [.pv (.imm 2 (.agg [.slice 3 b]) 0), .own 0 0]] [.var false 0 (.pv (.int .i64 c))] =
 zS a b (a.length:Int) (0:Int) c:=goO (by kernel_rfl) (by kernel_rfl) (tO_ zY7 false 1) rfl (by kernel_rfl)
theorem zYi(a b c d:Int):wc W zMA [.agg [.int .i64 a, .int .i64 b], .agg [.int .i64 c, .int .i64 d]] =
 (wc W zF4 [.slice 3 [.agg [.int .i64 a, .int .i64 b], .agg [.int .i64 c, .int .i64 d]]]).bind λ e=>e.asTup.bind λ k=>k[0]?.bind λ l=>zB l λ m n=>e.asTup.bind λ o=>o[1]?.bind λ p=>c_b p λ q=>bif q then some (.agg [.int .i64 m, .int .i64 n])else((bif a==c then bif b==d then some true else some false else some false).bind λ r=>some (.bool r)).bind λ f=>c_b f λ g=>(wc W zJm [.bool g]).bind λ h=>zB h λ i j=>some (.agg [.int .i64 i, .int .i64 j]):=go (by kernel_rfl) (by kernel_rfl) (tN_ z1t) (by kernel_rfl)
theorem zKo(a b:Int):wc W zEQ [.int .i64 a, .int .i64 b] =
 (wc W zF5 [.int .i64 a]).bind λ d=>c_b d λ e=>(wc W zF5 [.int .i64 b]).bind λ f=>c_b f λ c=>bif e then bif c then some (.int .i64 (0:Int))else some (.int .i64 (-1:Int))else bif c then some (.int .i64 (1:Int))else bif decide (a<b)then some (.int .i64 (-1:Int))else bif decide (GT.gt a b)then some (.int .i64 (1:Int))else some (.int .i64 (0:Int)):=go (by kernel_rfl) (by kernel_rfl) (tN_ z1u) (by kernel_rfl)
theorem zJU(a b c d:Int) (e:List PV) (f:Int):wc W zD9 [.agg [.int .i64 a, .int .i64 b, .int .i64 c, .int .i64 d, .slice 6 e], .int .i64 f] =
 (wc W zCD [.agg [.int .i64 a, .int .i64 b, .int .i64 c, .int .i64 d, .slice 6 e], .int .i64 f]).bind λ g=>zA5 g λ h=>some (.bool (decide (h≤f))):=go (by kernel_rfl) (by kernel_rfl) (tN_ z1v) (by kernel_rfl)
noncomputable def zDN(a:Int) (b:List PV):Option (AV×List Ob):=(jO_ zY8 true 0) [1,1] (St.mk [(0,AV.nil 0),(1, .pv (.int .i64 a))] [.row false 0 0 b])
theorem zEk(a:Int) (b:List PV):zDN a b =
 bif decide (GT.gt (IntKind.wrap .i64 (a-(0:Int):Int)) (0:Int))then bif (((decide ((0:Int)<(IntKind.wrap .i64 (a-(0:Int):Int))))&&(decide ((IntKind.wrap .i64 (a-(0:Int):Int))≤(4294967296:Int))))&&true)&&true then some (.view 0 0 none,[.row false 0 0 []])else none else some (.view 0 0 none,[.row false 0 0 []]):=((tO_ zY8 true 0).join [1,1] _).trans (by kernel_rfl)
theorem zFk(a:Int):W zCo true [AV.nil 0, .pv (.int .i64 a)] [] =
 bif decide (a<(0:Int))then none else zDN a []:=goO (by kernel_rfl) (by kernel_rfl) (tO_ zY8 true 0) rfl (by kernel_rfl)
end Go.Cf

namespace Go.Cf
open Go Go.Ab
set_option linter.unusedVariables false
set_option maxRecDepth 100000
noncomputable def zBj(a:Int) (b:List PV):Option (AV×List Ob):=(jO_ zY9 true 0) [1,1] (St.mk [(0,AV.nil 3),(1, .pv (.int .i64 a))] [.row false 0 3 b])
theorem zDR(a:Int) (b:List PV):zBj a b =
 bif decide (GT.gt (IntKind.wrap .i64 (a-(0:Int):Int)) (0:Int))then bif (((decide ((0:Int)<(IntKind.wrap .i64 (a-(0:Int):Int))))&&(decide ((IntKind.wrap .i64 (a-(0:Int):Int))≤(4294967296:Int))))&&true)&&true then some (.view 0 0 none,[.row false 0 3 []])else none else some (.view 0 0 none,[.row false 0 3 []]):=((tO_ zY9 true 0).join [1,1] _).trans (by kernel_rfl)
theorem zDq(a:Int):W zB0 true [AV.nil 3, .pv (.int .i64 a)] [] =
 bif decide (a<(0:Int))then none else zBj a []:=goO (by kernel_rfl) (by kernel_rfl) (tO_ zY9 true 0) rfl (by kernel_rfl)
noncomputable def zAW(a:List PV) (b:PV) (c d:Int):Option PV:=(lN_ zYa) [0,1,0,1] 0 (St.mk [(0, .pv (.slice 3 a)),(1, .pv b),(7, .pv (.int .i64 c)),(8, .pv (.int .i64 d))] [])
theorem zBU(b:List PV) (c:PV) (d a:Int):zAW b c d a =
 bif decide (a<d)then bif decide ((0:Int)≤a)then b[Int.toNat a]?.bind λ g=>zB g λ h i=>(PV.asFn c).bind λ e=>(wc W (Prod.fst e) (((Prod.fst (Prod.snd e))++[.agg [.int .i64 h, .int .i64 i]])++(Prod.snd (Prod.snd e)))).bind λ j=>c_b j λ f=>bif f then some (.int .i64 a)else zAW b c d (IntKind.wrap .i64 (a+1))else none else some (.int .i64 (-1:Int)):=((tN_ zYa).loop [1,0,1,0] 0 _ rfl).trans (by kernel_rfl)
theorem zDr(a:List PV) (b:PV):wc W zAw [.slice 3 a,b] =
 zAW a b (a.length:Int) (0:Int):=go (by kernel_rfl) (by kernel_rfl) (tN_ zYa) (by kernel_rfl)
theorem zKp(b c d e:Int) (f:List PV) (g a:Int):W zCT false [.pv (.agg [.int .i64 b, .int .i64 c, .int .i64 d, .int .i64 e, .slice 6 f]), .pv (.int .i64 g), .own 0 0] [.var false 0 (.pv (.int .i64 a))] =
 bif decide ((IntKind.wrap .i64 (a+1))≤(30:Int))then bif decide (g≤(6:Int))then(wc W zJI [.agg [.int .i64 b, .int .i64 c, .int .i64 d, .int .i64 e, .slice 6 f]]).bind λ h=>c_b h λ i=>some (.pv (.bool i),[.var false 0 (.pv (.int .i64 (IntKind.wrap .i64 (a+1))))])else some (.pv (.bool false),[.var false 0 (.pv (.int .i64 (IntKind.wrap .i64 (a+1))))])else some (.pv (.bool false),[.var false 0 (.pv (.int .i64 (IntKind.wrap .i64 (a+1))))]):=goO (by kernel_rfl) (by kernel_rfl) (tO_ z1w false 1) rfl (by kernel_rfl)
noncomputable def zFE(e f g h:Int) (i:List PV) (a:Bool) (b c:Int) (d:PV):Option PV:=(jN_ zQj) [1,1,1] (St.mk [(1, .pv (.imm 6 (.agg [.int .i64 e, .int .i64 f, .int .i64 g, .int .i64 h, .slice 6 i]) 0)),(4, .pv (.bool a))] [.var false 4 (.pv (.agg [.int .i64 b, .int .i64 c,d]))])
noncomputable def zDI(a b c d:Int) (e:List PV) (f g:Bool) (h i:Int) (j:PV):Option PV:=(jN_ zQj) [1,1,1,1] (St.mk [(1, .pv (.imm 6 (.agg [.int .i64 a, .int .i64 b, .int .i64 c, .int .i64 d, .slice 6 e]) 0)),(4, .pv (.bool f)),(5, .pv (.bool g))] [.var false 4 (.pv (.agg [.int .i64 h, .int .i64 i,j]))])
noncomputable def zED(a b c d:Int) (e:List PV) (f g h:Bool) (i j:Int) (k:PV):Option PV:=(jN_ zQj) [1,1,1,1,1] (St.mk [(1, .pv (.imm 6 (.agg [.int .i64 a, .int .i64 b, .int .i64 c, .int .i64 d, .slice 6 e]) 0)),(4, .pv (.bool f)),(5, .pv (.bool g)),(6, .pv (.bool h))] [.var false 4 (.pv (.agg [.int .i64 i, .int .i64 j,k]))])
theorem zLl(f a g h:Int) (i:List PV) (b:Bool) (c d:Int) (e:PV):zFE f a g h i b c d e =
 bif a==(0:Int)then zDI f a g h i b true c d e else bif f==(1:Int)then bif decide (GT.gt a (0:Int))then zDI f a g h i b (decide (a≤(15:Int))) c d e else zDI f a g h i b false c d e else zDI f a g h i b false c d e:=((tN_ zQj).join [1,1,1] _).trans (by kernel_rfl)
theorem zLm(c d a b:Int) (e:List PV) (f g:Bool) (h i:Int) (j:PV):zDI c d a b e f g h i j =
 ((bif a==(0:Int)then bif b==(0:Int)then some true else some false else some false).bind λ k=>some (.bool k)).bind λ l=>c_b l λ m=>bif m then zED c d a b e f g true h i j else bif c==(0:Int)then(wc W zF2 [.agg [.int .i64 a, .int .i64 b]]).bind λ n=>c_b n λ o=>zED c d a b e f g o h i j else zED c d a b e f g false h i j:=((tN_ zQj).join [1,1,1,1] _).trans (by kernel_rfl)
theorem zLn(a e f g:Int) (h:List PV) (b c d:Bool) (i j:Int) (k:PV):zED a e f g h b c d i j k =
 bif decide (GE.ge a (0:Int))then bif decide (a<(11:Int))then bif b then bif c then some (.bool d)else some (.bool false)else some (.bool false)else some (.bool false)else some (.bool false):=((tN_ zQj).join [1,1,1,1,1] _).trans (by kernel_rfl)
theorem zSb(b c d e:Int) (a:List PV):wc W zJI [.agg [.int .i64 b, .int .i64 c, .int .i64 d, .int .i64 e, .slice 6 a]] =
 (wc W zGu [.int .i64 b]).bind λ i=>zB6 i λ f g h=>bif decide (GE.ge (a.length:Int) f)then zFE b c d e a (decide ((a.length:Int)≤g)) f g h else zFE b c d e a false f g h:=go (by kernel_rfl) (by kernel_rfl) (tN_ zQj) (by kernel_rfl)
theorem zGC(a:List PV) (b:PV):wc W zAz [.slice 3 a,b] =
 (wc W zN [.slice 3 a,b]).bind λ c=>c_b c λ d=>some (.bool d):=go (by kernel_rfl) (by kernel_rfl) (tN_ z1x) (by kernel_rfl)
theorem zOW(a:Int):wc W zGY [.int .i64 a] =
 some (.fn zBs [] [.imm 0 (.int .i64 a) 0]):=go (by kernel_rfl) (by kernel_rfl) (tN_ z1y) (by kernel_rfl)
theorem zKB  :wc W zF3 [] =
 some (.agg [.int .i64 (2:Int), .int .i64 (0:Int)]):=go (by kernel_rfl) (by kernel_rfl) (tN_ z1z) (by kernel_rfl)
theorem zOX  :wc W zIZ [] =
 some (.agg [.int .i64 (1:Int), .int .i64 (0:Int)]):=go (by kernel_rfl) (by kernel_rfl) (tN_ z2A) (by kernel_rfl)
noncomputable def zGD(a:Int) (b:List PV) (c d:Int):Option PV:=(lN_ zYb) [0,1,0,1,1] 0 (St.mk [(3, .pv (.int .i64 a)),(9, .pv (.slice 0 b)),(10, .pv (.int .i64 c)),(11, .pv (.int .i64 d))] [])
theorem zHt(c:Int) (d:List PV) (e a:Int):zGD c d e a =
 bif decide (a<e)then bif decide ((0:Int)≤a)then d[Int.toNat a]?.bind λ m=>zA5 m λ n=>(wc W zHj [.int .i64 n]).bind λ f=>f.asTup.bind λ o=>o[0]?.bind λ p=>zA5 p λ b=>f.asTup.bind λ g=>g[1]?.bind λ h=>zA5 h λ q=>f.asTup.bind λ i=>i[2]?.bind λ j=>c_b j λ r=>(bif decide (b<(0:Int))then none else some (.int .i64 (IntKind.wrap .i64 ((1:Int)*(HPow.hPow (2:Int) (Min.min (Int.toNat b) 64)):Int)))).bind λ k=>zA5 k λ l=>zGD (IntKind.wrap .i64 (((BitVec.toNat (HOr.hOr (BitVec.ofInt 64 c) (BitVec.ofInt 64 l))):Nat):Int)) d e (IntKind.wrap .i64 (a+1))else none else some (.int .i64 c):=((tN_ zYb).loop [1,1,0,1,0] 0 _ rfl).trans (by kernel_rfl)
theorem zVN(a:List PV):wc W zKh [.slice 0 a] =
 zGD (0:Int) a (a.length:Int) (0:Int):=go (by kernel_rfl) (by kernel_rfl) (tN_ zYb) (by kernel_rfl)
noncomputable def zKC(a:List PV) (b c d:Int):Option PV:=(jN_ zUo) [1,1,0,1,1,1,0,1,0,1] (St.mk [(2, .pv (.slice 3 a)),(6, .own 0 0),(7, .pv (.int .i64 b))] [.var false 3 (.pv (.agg [.int .i64 c, .int .i64 d]))])
noncomputable def zFF(k l:List PV) (m a b c:Int) (d e:List PV) (f g h i:Int) (j:List PV):Option PV:=(lN_ zUo) [0,1,0,1,1,1] 2 (St.mk [(1, .pv (.slice 0 k)),(2, .pv (.slice 3 l)),(3, .pv (.imm 6 (.agg [.int .i64 m, .int .i64 a, .int .i64 b, .int .i64 c, .slice 6 d]) 0)),(6, .own 0 0),(8, .view 1 0 none),(37, .pv (.slice 6 e)),(38, .pv (.int .i64 f)),(39, .pv (.int .i64 g))] [.var false 3 (.pv (.agg [.int .i64 h, .int .i64 i])), .row false 0 3 j])
theorem zLo(b:List PV) (a f g:Int):zKC b a f g =
 bif decide ((0:Int)≤a)then b[Int.toNat a]?.bind λ c=>zB c λ d e=>some (.agg [.int .i64 d, .int .i64 e])else none:=((tN_ zUo).join [1,0,1,0,1,1,1,0,1,1] _).trans (by kernel_rfl)
theorem zHV(l m:List PV) (n f g h:Int) (i c:List PV) (d a j k:Int) (b:List PV):zFF l m n f g h i c d a j k b =
 bif decide (a<d)then bif decide ((0:Int)≤a)then c[Int.toNat a]?.bind λ o=>zL o λ p q r s t=>(wc W zGt [.agg [.int .i64 p, .int .i64 q, .int .i64 r, .int .i64 s, .slice 6 t], .slice 0 l, .slice 3 m]).bind λ u=>zB u λ v w=>bif true&&(decide (((List.length b)+1:Nat)≤4294967296))then zFF l m n f g h i c d (IntKind.wrap .i64 (a+1)) j k (b++[.agg [.int .i64 v, .int .i64 w]])else none else none else(wc W zGu [.int .i64 n]).bind λ x=>zB6 x λ C D y=>(PV.asFn y).bind λ e=>(wc W (Prod.fst e) (((Prod.fst (Prod.snd e))++[.slice 3 b])++(Prod.snd (Prod.snd e)))).bind λ z=>zB z λ A B=>some (.agg [.int .i64 A, .int .i64 B]):=((tN_ zUo).loop [1,1,1,0,1,0] 2 _ rfl).trans (by kernel_rfl)
theorem zSc(a c d e:Int) (b g f:List PV):wc W zGt [.agg [.int .i64 a, .int .i64 c, .int .i64 d, .int .i64 e, .slice 6 b], .slice 0 g, .slice 3 f] =
 bif a==(0:Int)then some (.agg [.int .i64 d, .int .i64 e])else bif a==(1:Int)then(wc W zAG [.slice 0 g, .int .i64 c]).bind λ i=>zA5 i λ h=>bif decide (h<(0:Int))then some (.agg [.int .i64 (2:Int), .int .i64 (0:Int)])else bif decide (GE.ge h (f.length:Int))then some (.agg [.int .i64 (2:Int), .int .i64 (0:Int)])else zKC f h (0:Int) (0:Int)else zFF g f a c d e b b (b.length:Int) (0:Int) (0:Int) (0:Int) []:=go (by kernel_rfl) (by kernel_rfl) (tN_ zUo) (by kernel_rfl)
noncomputable def zO(a b c:Int) (d:List PV) (e:Int):Option (AV×List Ob):=(lO_ zQk false 2) [0,1] 2 (St.mk [(0,AV.fx 0 0),(1, .pv (.int .i64 a)),(2, .pv (.int .i64 b)),(3, .fnv zD [] [.own 1 0]),(8, .pv (.int .i64 c))] [.fix 0 0 d, .var false 0 (.pv (.int .i64 e))])
noncomputable def zAD(c d e f:Int) (a:List PV) (b:Int):Option (AV×List Ob):=(lO_ zQk false 2) [0,1,0,0,1,2,0,1] 2 (St.mk [(0,AV.fx 0 0),(1, .pv (.int .i64 c)),(2, .pv (.int .i64 d)),(3, .fnv zD [] [.own 1 0]),(8, .pv (.int .i64 e)),(9, .pv (.int .i64 f))] [.fix 0 0 a, .var false 0 (.pv (.int .i64 b))])
noncomputable def zBA(a b c d:Int) (e:List PV) (f:Int):Option (AV×List Ob):=(jO_ zQk false 2) [1,2,0,1,0,0,1,2,0,1] (St.mk [(0,AV.fx 0 0),(1, .pv (.int .i64 a)),(2, .pv (.int .i64 b)),(3, .fnv zD [] [.own 1 0]),(8, .pv (.int .i64 c)),(9, .pv (.int .i64 d))] [.fix 0 0 e, .var false 0 (.pv (.int .i64 f))])
theorem zAV(e b a:Int) (c:List PV) (d:Int):zO e b a c d =
 bif decide (a<b)then zAD e b a a c d else some (.pv (.tup []),[.fix 0 0 c, .var false 0 (.pv (.int .i64 d))]):=((tO_ zQk false 2).loop [1,0] 2 _ rfl).trans (by kernel_rfl)
theorem zAs(c e f b:Int) (a:List PV) (d:Int):zAD c e f b a d =
 bif decide (GT.gt b c)then bif (true&&(decide ((0:Int)≤b)))&&(decide (b<(a.length:Int)))then a[Int.toNat b]?.bind λ h=>c_s3 h λ i=>bif (true&&(decide ((0:Int)≤(IntKind.wrap .i64 (b-1)))))&&(decide ((IntKind.wrap .i64 (b-1))<(a.length:Int)))then a[Int.toNat (IntKind.wrap .i64 (b-1))]?.bind λ j=>c_s3 j λ k=>(W zD false [.pv (.slice 3 i), .pv (.slice 3 k), .own 0 0] [.var false 0 (.pv (.int .i64 d))]).bind λ l=>zDB l λ m g=>zA5 m λ n=>bif decide (n<(0:Int))then zBA c e f b a g else zO c e (IntKind.wrap .i64 (f+1)) a g else none else none else zO c e (IntKind.wrap .i64 (f+1)) a d:=((tO_ zQk false 2).loop [1,0,2,1,0,0,1,0] 2 _ rfl).trans (by kernel_rfl)
theorem zCM(d e f a:Int) (b:List PV) (g:Int):zBA d e f a b g =
 bif (true&&(decide ((0:Int)≤(IntKind.wrap .i64 (a-1)))))&&(decide ((IntKind.wrap .i64 (a-1))<(b.length:Int)))then b[Int.toNat (IntKind.wrap .i64 (a-1))]?.bind λ h=>c_s3 h λ c=>bif (true&&(decide ((0:Int)≤a)))&&(decide (a<(b.length:Int)))then b[Int.toNat a]?.bind λ i=>c_s3 i λ j=>bif (true&&(decide ((0:Int)≤a)))&&(decide (a<(b.length:Int)))then b[Int.toNat a]?.bind λ k=>bif (true&&(decide ((0:Int)≤(IntKind.wrap .i64 (a-1)))))&&(decide ((IntKind.wrap .i64 (a-1))<(((List.length (List.set b (Int.toNat a) (.slice 3 c))):Nat):Int)))then((List.set b (Int.toNat a) (.slice 3 c))[Int.toNat (IntKind.wrap .i64 (a-1))]?).bind λ l=>zAD d e f (IntKind.wrap .i64 (a-1)) (List.set (List.set b (Int.toNat a) (.slice 3 c)) (Int.toNat (IntKind.wrap .i64 (a-1))) (.slice 3 j)) g else none else none else none else none:=((tO_ zQk false 2).join [1,0,2,1,0,0,1,0,2,1] _).trans (by kernel_rfl)
theorem zC3(a b:Int) (c:List PV) (d:Int):W zAS false [AV.fx 0 0, .pv (.int .i64 a), .pv (.int .i64 b), .fnv zD [] [.own 1 0]] [.fix 0 0 c, .var false 0 (.pv (.int .i64 d))] =
 zO a b (IntKind.wrap .i64 (a+1)) c d:=goO (by kernel_rfl) (by kernel_rfl) (tO_ zQk false 2) rfl (by kernel_rfl)
noncomputable def zT(a b c:Int) (d:List PV) (e:Int):Option (AV×List Ob):=(lO_ zEt false 2) [0,0,1,1,0,1,0] 2 (St.mk [(0,AV.fx 0 0),(1, .pv (.int .i64 a)),(4, .fnv zD [] [.own 1 0]),(10, .pv (.int .i64 b)),(11, .pv (.int .i64 c))] [.fix 0 0 d, .var false 0 (.pv (.int .i64 e))])
noncomputable def zU(b c d:Int) (e:List PV) (a:Int):Option (AV×List Ob):=(lO_ zEt false 2) [0,0,1,1,0,1,0,1] 2 (St.mk [(0,AV.fx 0 0),(2, .pv (.int .i64 b)),(4, .fnv zD [] [.own 1 0]),(14, .pv (.int .i64 c)),(15, .pv (.int .i64 d))] [.fix 0 0 e, .var false 0 (.pv (.int .i64 a))])
noncomputable def zAg(a b c d e f g:Int) (h:List PV) (i:Int):Option (AV×List Ob):=(jO_ zEt false 2) [1,1,1,1,1,1] (St.mk [(0,AV.fx 0 0),(1, .pv (.int .i64 a)),(2, .pv (.int .i64 b)),(3, .pv (.int .i64 c)),(4, .fnv zD [] [.own 1 0]),(18, .pv (.int .i64 d)),(19, .pv (.int .i64 e)),(20, .pv (.int .i64 f)),(21, .pv (.int .i64 g))] [.fix 0 0 h, .var false 0 (.pv (.int .i64 i))])
noncomputable def zV(a b:Int) (c:List PV) (d:Int):Option (AV×List Ob):=(lO_ zEt false 2) [0,1,0,1,1,1,0,1,0] 2 (St.mk [(0,AV.fx 0 0),(10, .pv (.int .i64 a)),(13, .pv (.int .i64 b))] [.fix 0 0 c, .var false 0 (.pv (.int .i64 d))])
noncomputable def zW(a b:Int) (c:List PV) (d:Int):Option (AV×List Ob):=(lO_ zEt false 2) [0,1,0,1,1,1,0,1,0,1] 2 (St.mk [(0,AV.fx 0 0),(14, .pv (.int .i64 a)),(17, .pv (.int .i64 b))] [.fix 0 0 c, .var false 0 (.pv (.int .i64 d))])
noncomputable def zX(a b c d e f g h:Int) (i:List PV) (j:Int):Option (AV×List Ob):=(lO_ zEt false 2) [0,0,1,1,1,1,1,1,1] 2 (St.mk [(0,AV.fx 0 0),(1, .pv (.int .i64 a)),(2, .pv (.int .i64 b)),(3, .pv (.int .i64 c)),(4, .fnv zD [] [.own 1 0]),(18, .pv (.int .i64 d)),(19, .pv (.int .i64 e)),(20, .pv (.int .i64 f)),(21, .pv (.int .i64 g)),(22, .pv (.int .i64 h))] [.fix 0 0 i, .var false 0 (.pv (.int .i64 j))])
noncomputable def zE(a b c d e f:Int) (g:Bool) (h:List PV) (i:Int):Option (AV×List Ob):=(jO_ zEt false 2) [1,0,1,1,1,1,1,1,1,1,1] (St.mk [(0,AV.fx 0 0),(1, .pv (.int .i64 a)),(2, .pv (.int .i64 b)),(3, .pv (.int .i64 c)),(4, .fnv zD [] [.own 1 0]),(18, .pv (.int .i64 d)),(20, .pv (.int .i64 e)),(24, .pv (.int .i64 f)),(185, .pv (.bool g))] [.fix 0 0 h, .var false 0 (.pv (.int .i64 i))])
noncomputable def zAT(a b c d e:Int) (f:List PV) (g:Int):Option (AV×List Ob):=(jO_ zEt false 2) [1,1,1,1,1,1,1,1,1,1] (St.mk [(0,AV.fx 0 0),(1, .pv (.int .i64 a)),(3, .pv (.int .i64 b)),(4, .fnv zD [] [.own 1 0]),(18, .pv (.int .i64 c)),(20, .pv (.int .i64 d)),(24, .pv (.int .i64 e))] [.fix 0 0 f, .var false 0 (.pv (.int .i64 g))])
noncomputable def zAh(a b c d e:Int) (f:Bool) (g:List PV) (h:Int):Option (AV×List Ob):=(jO_ zEt false 2) [1,0,1,1,1,1,1,1,1,1,1,1] (St.mk [(0,AV.fx 0 0),(1, .pv (.int .i64 a)),(3, .pv (.int .i64 b)),(4, .fnv zD [] [.own 1 0]),(18, .pv (.int .i64 c)),(20, .pv (.int .i64 d)),(24, .pv (.int .i64 e)),(199, .pv (.bool f))] [.fix 0 0 g, .var false 0 (.pv (.int .i64 h))])
noncomputable def zAO(a b c:Int) (d:List PV) (e:Int):Option (AV×List Ob):=(jO_ zEt false 2) [1,1,1,1,1,1,1,1,1,1,1] (St.mk [(0,AV.fx 0 0),(3, .pv (.int .i64 a)),(4, .fnv zD [] [.own 1 0]),(18, .pv (.int .i64 b)),(24, .pv (.int .i64 c))] [.fix 0 0 d, .var false 0 (.pv (.int .i64 e))])
noncomputable def zAc(a b c:Int) (d:Bool) (e:List PV) (f:Int):Option (AV×List Ob):=(jO_ zEt false 2) [1,1,1,1,1,1,1,1,1,1,1,1] (St.mk [(0,AV.fx 0 0),(3, .pv (.int .i64 a)),(4, .fnv zD [] [.own 1 0]),(18, .pv (.int .i64 b)),(24, .pv (.int .i64 c)),(213, .pv (.bool d))] [.fix 0 0 e, .var false 0 (.pv (.int .i64 f))])
theorem zBH(d a b:Int) (c:List PV) (f:Int):zT d a b c f =
 bif decide (a<b)then bif (true&&(decide ((0:Int)≤(IntKind.wrap .i64 (Int.fdiv (IntKind.wrap .u64 (IntKind.wrap .i64 (a+b:Int))) (2:Int))))))&&(decide ((IntKind.wrap .i64 (Int.fdiv (IntKind.wrap .u64 (IntKind.wrap .i64 (a+b:Int))) (2:Int)))<(c.length:Int)))then c[Int.toNat (IntKind.wrap .i64 (Int.fdiv (IntKind.wrap .u64 (IntKind.wrap .i64 (a+b:Int))) (2:Int)))]?.bind λ g=>c_s3 g λ h=>bif (true&&(decide ((0:Int)≤d)))&&(decide (d<(c.length:Int)))then c[Int.toNat d]?.bind λ i=>c_s3 i λ j=>(W zD false [.pv (.slice 3 h), .pv (.slice 3 j), .own 0 0] [.var false 0 (.pv (.int .i64 f))]).bind λ k=>zDB k λ l e=>zA5 l λ m=>bif decide (m<(0:Int))then zT d (IntKind.wrap .i64 ((IntKind.wrap .i64 (Int.fdiv (IntKind.wrap .u64 (IntKind.wrap .i64 (a+b:Int))) (2:Int)))+(1:Int):Int)) b c e else zT d a (IntKind.wrap .i64 (Int.fdiv (IntKind.wrap .u64 (IntKind.wrap .i64 (a+b:Int))) (2:Int))) c e else none else none else zV a d c f:=((tO_ zEt false 2).loop [0,1,0,1,1,0,0] 2 _ rfl).trans (by kernel_rfl)
theorem zBI(d a b:Int) (c:List PV) (e:Int):zU d a b c e =
 bif decide (a<b)then bif (true&&(decide ((0:Int)≤d)))&&(decide (d<(c.length:Int)))then c[Int.toNat d]?.bind λ g=>c_s3 g λ h=>bif (true&&(decide ((0:Int)≤(IntKind.wrap .i64 (Int.fdiv (IntKind.wrap .u64 (IntKind.wrap .i64 (a+b:Int))) (2:Int))))))&&(decide ((IntKind.wrap .i64 (Int.fdiv (IntKind.wrap .u64 (IntKind.wrap .i64 (a+b:Int))) (2:Int)))<(c.length:Int)))then c[Int.toNat (IntKind.wrap .i64 (Int.fdiv (IntKind.wrap .u64 (IntKind.wrap .i64 (a+b:Int))) (2:Int)))]?.bind λ i=>c_s3 i λ j=>(W zD false [.pv (.slice 3 h), .pv (.slice 3 j), .own 0 0] [.var false 0 (.pv (.int .i64 e))]).bind λ k=>zDB k λ l f=>zA5 l λ m=>bif !(decide (m<(0:Int)))then zU d (IntKind.wrap .i64 ((IntKind.wrap .i64 (Int.fdiv (IntKind.wrap .u64 (IntKind.wrap .i64 (a+b:Int))) (2:Int)))+(1:Int):Int)) b c f else zU d a (IntKind.wrap .i64 (Int.fdiv (IntKind.wrap .u64 (IntKind.wrap .i64 (a+b:Int))) (2:Int))) c f else none else none else zW a d c e:=((tO_ zEt false 2).loop [1,0,1,0,1,1,0,0] 2 _ rfl).trans (by kernel_rfl)
theorem zBJ(b c d e a f g:Int) (h:List PV) (i:Int):zAg b c d e a f g h i =
 zX b c d e a f g (IntKind.wrap .i64 (a-1)) h i:=((tO_ zEt false 2).join [1,1,1,1,1,1] _).trans (by kernel_rfl)
theorem zBK(c a:Int) (b:List PV) (d:Int):zV c a b d =
 bif decide (a<(IntKind.wrap .i64 (c-1)))then bif (true&&(decide ((0:Int)≤(IntKind.wrap .i64 (a+1)))))&&(decide ((IntKind.wrap .i64 (a+1))<(b.length:Int)))then b[Int.toNat (IntKind.wrap .i64 (a+1))]?.bind λ f=>c_s3 f λ e=>bif (true&&(decide ((0:Int)≤a)))&&(decide (a<(b.length:Int)))then b[Int.toNat a]?.bind λ g=>c_s3 g λ h=>bif (true&&(decide ((0:Int)≤a)))&&(decide (a<(b.length:Int)))then b[Int.toNat a]?.bind λ i=>bif (true&&(decide ((0:Int)≤(IntKind.wrap .i64 (a+1)))))&&(decide ((IntKind.wrap .i64 (a+1))<(((List.length (List.set b (Int.toNat a) (.slice 3 e))):Nat):Int)))then((List.set b (Int.toNat a) (.slice 3 e))[Int.toNat (IntKind.wrap .i64 (a+1))]?).bind λ j=>zV c (IntKind.wrap .i64 (a+1)) (List.set (List.set b (Int.toNat a) (.slice 3 e)) (Int.toNat (IntKind.wrap .i64 (a+1))) (.slice 3 h)) d else none else none else none else none else some (.pv (.tup []),[.fix 0 0 b, .var false 0 (.pv (.int .i64 d))]):=((tO_ zEt false 2).loop [0,1,0,1,1,1,0,1,0] 2 _ rfl).trans (by kernel_rfl)
theorem zBL(c a:Int) (b:List PV) (d:Int):zW c a b d =
 bif decide (GT.gt a c)then bif (true&&(decide ((0:Int)≤(IntKind.wrap .i64 (a-1)))))&&(decide ((IntKind.wrap .i64 (a-1))<(b.length:Int)))then b[Int.toNat (IntKind.wrap .i64 (a-1))]?.bind λ f=>c_s3 f λ e=>bif (true&&(decide ((0:Int)≤a)))&&(decide (a<(b.length:Int)))then b[Int.toNat a]?.bind λ g=>c_s3 g λ h=>bif (true&&(decide ((0:Int)≤a)))&&(decide (a<(b.length:Int)))then b[Int.toNat a]?.bind λ i=>bif (true&&(decide ((0:Int)≤(IntKind.wrap .i64 (a-1)))))&&(decide ((IntKind.wrap .i64 (a-1))<(((List.length (List.set b (Int.toNat a) (.slice 3 e))):Nat):Int)))then((List.set b (Int.toNat a) (.slice 3 e))[Int.toNat (IntKind.wrap .i64 (a-1))]?).bind λ j=>zW c (IntKind.wrap .i64 (a-1)) (List.set (List.set b (Int.toNat a) (.slice 3 e)) (Int.toNat (IntKind.wrap .i64 (a-1))) (.slice 3 h)) d else none else none else none else none else some (.pv (.tup []),[.fix 0 0 b, .var false 0 (.pv (.int .i64 d))]):=((tO_ zEt false 2).loop [1,0,1,0,1,1,1,0,1,0] 2 _ rfl).trans (by kernel_rfl)
theorem zBM(g d h i e a b f:Int) (c:List PV) (j:Int):zX g d h i e a b f c j =
 bif decide (a<b)then bif (true&&(decide ((0:Int)≤(IntKind.wrap .i64 (f-(IntKind.wrap .i64 (Int.fdiv (IntKind.wrap .u64 (IntKind.wrap .i64 (a+b:Int))) (2:Int))):Int)))))&&(decide ((IntKind.wrap .i64 (f-(IntKind.wrap .i64 (Int.fdiv (IntKind.wrap .u64 (IntKind.wrap .i64 (a+b:Int))) (2:Int))):Int))<(c.length:Int)))then c[Int.toNat (IntKind.wrap .i64 (f-(IntKind.wrap .i64 (Int.fdiv (IntKind.wrap .u64 (IntKind.wrap .i64 (a+b:Int))) (2:Int))):Int))]?.bind λ l=>c_s3 l λ m=>bif (true&&(decide ((0:Int)≤(IntKind.wrap .i64 (Int.fdiv (IntKind.wrap .u64 (IntKind.wrap .i64 (a+b:Int))) (2:Int))))))&&(decide ((IntKind.wrap .i64 (Int.fdiv (IntKind.wrap .u64 (IntKind.wrap .i64 (a+b:Int))) (2:Int)))<(c.length:Int)))then c[Int.toNat (IntKind.wrap .i64 (Int.fdiv (IntKind.wrap .u64 (IntKind.wrap .i64 (a+b:Int))) (2:Int)))]?.bind λ n=>c_s3 n λ o=>(W zD false [.pv (.slice 3 m), .pv (.slice 3 o), .own 0 0] [.var false 0 (.pv (.int .i64 j))]).bind λ p=>zDB p λ q k=>zA5 q λ r=>bif !(decide (r<(0:Int)))then zX g d h i e (IntKind.wrap .i64 ((IntKind.wrap .i64 (Int.fdiv (IntKind.wrap .u64 (IntKind.wrap .i64 (a+b:Int))) (2:Int)))+(1:Int):Int)) b f c k else zX g d h i e a (IntKind.wrap .i64 (Int.fdiv (IntKind.wrap .u64 (IntKind.wrap .i64 (a+b:Int))) (2:Int))) f c k else none else none else bif decide (a<d)then zE g d h i a (IntKind.wrap .i64 (e-a:Int)) (decide (d<(IntKind.wrap .i64 (e-a:Int)))) c j else zE g d h i a (IntKind.wrap .i64 (e-a:Int)) false c j:=((tO_ zEt false 2).loop [1,1,1,1,1,1,1,0,0] 2 _ rfl).trans (by kernel_rfl)
theorem zBN(c h d e a b:Int) (i:Bool) (f:List PV) (g:Int):zE c h d e a b i f g =
 bif i then(W zBT false [AV.fx 0 0, .pv (.int .i64 a), .pv (.int .i64 h), .pv (.int .i64 b), .fnv zD [] [.own 1 0]] [.fix 0 0 f, .var false 0 (.pv (.int .i64 g))]).bind λ k=>zDC k λ m l j=>zAT c d e a b l j else zAT c d e a b f g:=((tO_ zEt false 2).join [1,1,1,1,1,1,1,1,1,0,1] _).trans (by kernel_rfl)
theorem zCh(b d c a e:Int) (f:List PV) (g:Int):zAT b d c a e f g =
 bif decide (b<a)then zAh b d c a e (decide (a<c)) f g else zAh b d c a e false f g:=((tO_ zEt false 2).join [1,1,1,1,1,1,1,1,1,1] _).trans (by kernel_rfl)
theorem zBO(f b a g c:Int) (h:Bool) (d:List PV) (e:Int):zAh f b a g c h d e =
 bif h then(W zY false [AV.fx 0 0, .pv (.int .i64 f), .pv (.int .i64 g), .pv (.int .i64 a), .fnv zD [] [.own 1 0]] [.fix 0 0 d, .var false 0 (.pv (.int .i64 e))]).bind λ i=>zDC i λ l j k=>zAO b a c j k else zAO b a c d e:=((tO_ zEt false 2).join [1,1,1,1,1,1,1,1,1,1,0,1] _).trans (by kernel_rfl)
theorem zCa(b c a:Int) (d:List PV) (e:Int):zAO b c a d e =
 bif decide (c<a)then zAc b c a (decide (a<b)) d e else zAc b c a false d e:=((tO_ zEt false 2).join [1,1,1,1,1,1,1,1,1,1,1] _).trans (by kernel_rfl)
theorem zBD(c d e:Int) (f:Bool) (a:List PV) (b:Int):zAc c d e f a b =
 bif f then(W zY false [AV.fx 0 0, .pv (.int .i64 d), .pv (.int .i64 e), .pv (.int .i64 c), .fnv zD [] [.own 1 0]] [.fix 0 0 a, .var false 0 (.pv (.int .i64 b))]).bind λ g=>zDC g λ j h i=>some (.pv (.tup []),[.fix 0 0 h, .var false 0 (.pv (.int .i64 i))])else some (.pv (.tup []),[.fix 0 0 a, .var false 0 (.pv (.int .i64 b))]):=((tO_ zEt false 2).join [1,1,1,1,1,1,1,1,1,1,1,1] _).trans (by kernel_rfl)
theorem zDS(a b c:Int) (d:List PV) (e:Int):W zY false [AV.fx 0 0, .pv (.int .i64 a), .pv (.int .i64 b), .pv (.int .i64 c), .fnv zD [] [.own 1 0]] [.fix 0 0 d, .var false 0 (.pv (.int .i64 e))] =
 bif (IntKind.wrap .i64 (b-a:Int))==(1:Int)then zT a b c d e else bif (IntKind.wrap .i64 (c-b:Int))==(1:Int)then zU b a b d e else bif decide (GT.gt b (IntKind.wrap .i64 (Int.fdiv (IntKind.wrap .u64 (IntKind.wrap .i64 (a+c:Int))) (2:Int))))then zAg a b c (IntKind.wrap .i64 (Int.fdiv (IntKind.wrap .u64 (IntKind.wrap .i64 (a+c:Int))) (2:Int))) (IntKind.wrap .i64 ((IntKind.wrap .i64 (Int.fdiv (IntKind.wrap .u64 (IntKind.wrap .i64 (a+c:Int))) (2:Int)))+b:Int)) (IntKind.wrap .i64 ((IntKind.wrap .i64 ((IntKind.wrap .i64 (Int.fdiv (IntKind.wrap .u64 (IntKind.wrap .i64 (a+c:Int))) (2:Int)))+b:Int))-c:Int)) (IntKind.wrap .i64 (Int.fdiv (IntKind.wrap .u64 (IntKind.wrap .i64 (a+c:Int))) (2:Int))) d e else zAg a b c (IntKind.wrap .i64 (Int.fdiv (IntKind.wrap .u64 (IntKind.wrap .i64 (a+c:Int))) (2:Int))) (IntKind.wrap .i64 ((IntKind.wrap .i64 (Int.fdiv (IntKind.wrap .u64 (IntKind.wrap .i64 (a+c:Int))) (2:Int)))+b:Int)) a b d e:=goO (by kernel_rfl) (by kernel_rfl) (tO_ zEt false 2) rfl (by kernel_rfl)
theorem zVO(a b:Int):wc W zKi [.agg [.int .i64 a, .int .i64 b]] =
 (wc W zF2 [.agg [.int .i64 a, .int .i64 b]]).bind λ c=>c_b c λ d=>bif !d then(wc W zF3 []).bind λ e=>zB e λ f g=>some (.agg [.int .i64 f, .int .i64 g])else some (.agg [.int .i64 a, .int .i64 b]):=go (by kernel_rfl) (by kernel_rfl) (tN_ z2B) (by kernel_rfl)
theorem zWo(a:List PV):wc W zF4 [.slice 3 a] =
 (wc W zGY [.int .i64 (2:Int)]).bind λ e=>(wc W zAz [.slice 3 a,e]).bind λ f=>c_b f λ g=>bif g then(wc W zF3 []).bind λ h=>zB h λ i j=>some (.tup [.agg [.int .i64 i, .int .i64 j], .bool true])else(wc W zGY [.int .i64 (1:Int)]).bind λ k=>(wc W zAz [.slice 3 a,k]).bind λ l=>c_b l λ m=>bif m then(wc W zIZ []).bind λ b=>zB b λ c d=>some (.tup [.agg [.int .i64 c, .int .i64 d], .bool true])else some (.tup [.agg [.int .i64 (0:Int), .int .i64 (0:Int)], .bool false]):=go (by kernel_rfl) (by kernel_rfl) (tN_ z2C) (by kernel_rfl)
theorem zYj(a:Bool):wc W zJm [.bool a] =
 bif a then(wc W zD1 [.int .i64 (1:Int)]).bind λ b=>zB b λ c d=>some (.agg [.int .i64 c, .int .i64 d])else(wc W zD1 [.int .i64 (0:Int)]).bind λ e=>zB e λ f g=>some (.agg [.int .i64 f, .int .i64 g]):=go (by kernel_rfl) (by kernel_rfl) (tN_ z2D) (by kernel_rfl)
theorem zHu(a:Int):wc W zF5 [.int .i64 a] =
 some (.bool (a != a)):=go (by kernel_rfl) (by kernel_rfl) (tN_ z2E) (by kernel_rfl)
noncomputable def zBh(a b c d e:Int) (f:List PV) (g h:Int):Option PV:=(lN_ zUp) [0,1,0,1,1] 0 (St.mk [(1, .pv (.int .i64 a)),(2, .pv (.imm 6 (.agg [.int .i64 b, .int .i64 c, .int .i64 d, .int .i64 e, .slice 6 f]) 0)),(5, .pv (.int .i64 g)),(6, .pv (.int .i64 h))] [])
noncomputable def zEF(h a b c d:Int) (e:List PV) (f g:Int):Option PV:=(jN_ zUp) [1,0,0,1,0,1,1] (St.mk [(1, .pv (.int .i64 h)),(2, .pv (.imm 6 (.agg [.int .i64 a, .int .i64 b, .int .i64 c, .int .i64 d, .slice 6 e]) 0)),(5, .pv (.int .i64 f)),(6, .pv (.int .i64 g))] [])
theorem zD0(b e f g h:Int) (c:List PV) (a d:Int):zBh b e f g h c a d =
 bif decide (d<(c.length:Int))then bif decide (a≤b)then zEF b e f g h c a d else some (.int .i64 a)else some (.int .i64 a):=((tN_ zUp).loop [1,1,0,1,0] 0 _ rfl).trans (by kernel_rfl)
theorem zGL(h d e f g:Int) (b:List PV) (c a:Int):zEF h d e f g b c a =
 bif decide ((0:Int)≤a)then b[Int.toNat a]?.bind λ i=>zL i λ j k l m n=>(wc W zCD [.agg [.int .i64 j, .int .i64 k, .int .i64 l, .int .i64 m, .slice 6 n], .int .i64 (IntKind.wrap .i64 (h-c:Int))]).bind λ o=>zA5 o λ p=>zBh h d e f g b (IntKind.wrap .i64 (c+p:Int)) (IntKind.wrap .i64 (a+1))else none:=((tN_ zUp).join [1,1,0,1,0,0,1] _).trans (by kernel_rfl)
theorem zId(a b c d:Int) (e:List PV) (f:Int):wc W zCD [.agg [.int .i64 a, .int .i64 b, .int .i64 c, .int .i64 d, .slice 6 e], .int .i64 f] =
 zBh f a b c d e (1:Int) (0:Int):=go (by kernel_rfl) (by kernel_rfl) (tN_ zUp) (by kernel_rfl)
theorem zSd(a:Int):wc W zGu [.int .i64 a] =
 bif a==(2:Int)then(wc W zDi [.fn zJn [] []]).bind λ q=>zB6 q λ r s t=>some (.agg [.int .i64 r, .int .i64 s,t])else bif a==(3:Int)then(wc W zDi [.fn zJo [] []]).bind λ u=>zB6 u λ v w x=>some (.agg [.int .i64 v, .int .i64 w,x])else bif a==(4:Int)then(wc W zDi [.fn zJp [] []]).bind λ y=>zB6 y λ b c d=>some (.agg [.int .i64 b, .int .i64 c,d])else bif a==(5:Int)then(wc W zDi [.fn zJq [] []]).bind λ e=>zB6 e λ f g h=>some (.agg [.int .i64 f, .int .i64 g,h])else bif a==(6:Int)then(wc W zDi [.fn zMA [] []]).bind λ i=>zB6 i λ j k l=>some (.agg [.int .i64 j, .int .i64 k,l])else bif a==(7:Int)then(wc W zDi [.fn zMB [] []]).bind λ m=>zB6 m λ n o p=>some (.agg [.int .i64 n, .int .i64 o,p])else bif a==(8:Int)then some (.agg [.int .i64 (0:Int), .int .i64 (4:Int), .fn zEu [] []])else bif a==(9:Int)then some (.agg [.int .i64 (0:Int), .int .i64 (4:Int), .fn zEv [] []])else bif a==(10:Int)then some (.agg [.int .i64 (1:Int), .int .i64 (1:Int), .fn zEw [] []])else some (.agg [.int .i64 (0:Int), .int .i64 (0:Int),PV.nilfn]):=go (by kernel_rfl) (by kernel_rfl) (tN_ z2F) (by kernel_rfl)
theorem zRA(a b c:Int):wc W zBs [.agg [.int .i64 a, .int .i64 b], .imm 0 (.int .i64 c) 0] =
 (wc W zKi [.agg [.int .i64 a, .int .i64 b]]).bind λ d=>zB d λ e f=>some (.bool (e==c)):=go (by kernel_rfl) (by kernel_rfl) (tN_ z2G) (by kernel_rfl)
theorem zRB(a:Int):wc W zHj [.int .i64 a] =
 (wc W zDx [.int .i64 a, .int .i64 (0:Int), .int .i64 (15:Int)]).bind λ b=>c_b b λ c=>bif !c then some (.tup [.int .i64 (0:Int), .int .i64 (0:Int), .bool false])else some (.tup [.int .i64 (IntKind.wrap .i64 (Int.tdiv a (4:Int))), .int .i64 (Int.tmod a (4:Int)), .bool true]):=go (by kernel_rfl) (by kernel_rfl) (tN_ z2H) (by kernel_rfl)
noncomputable def zAF(a b c:Int) (d:List PV) (e:Int):Option (AV×List Ob):=(lO_ zYc false 2) [0,0,1,1] 2 (St.mk [(0,AV.fx 0 0),(2, .pv (.int .i64 a)),(4, .fnv zD [] [.own 1 0]),(10, .pv (.int .i64 b)),(11, .pv (.int .i64 c))] [.fix 0 0 d, .var false 0 (.pv (.int .i64 e))])
theorem zDJ(b a c:Int) (d:List PV) (e:Int):zAF b a c d e =
 bif a != c then bif decide (GT.gt a c)then(W zAK false [AV.fx 0 0, .pv (.int .i64 (IntKind.wrap .i64 (b-a:Int))), .pv (.int .i64 b), .pv (.int .i64 c), .fnv zD [] [.own 1 0]] [.fix 0 0 d, .var false 0 (.pv (.int .i64 e))]).bind λ f=>zDC f λ o g h=>zAF b (IntKind.wrap .i64 (a-c:Int)) c g h else(W zAK false [AV.fx 0 0, .pv (.int .i64 (IntKind.wrap .i64 (b-a:Int))), .pv (.int .i64 (IntKind.wrap .i64 ((IntKind.wrap .i64 (b+c:Int))-a:Int))), .pv (.int .i64 a), .fnv zD [] [.own 1 0]] [.fix 0 0 d, .var false 0 (.pv (.int .i64 e))]).bind λ i=>zDC i λ p j k=>zAF b a (IntKind.wrap .i64 (c-a:Int)) j k else(W zAK false [AV.fx 0 0, .pv (.int .i64 (IntKind.wrap .i64 (b-a:Int))), .pv (.int .i64 b), .pv (.int .i64 a), .fnv zD [] [.own 1 0]] [.fix 0 0 d, .var false 0 (.pv (.int .i64 e))]).bind λ l=>zDC l λ q m n=>some (.pv (.tup []),[.fix 0 0 m, .var false 0 (.pv (.int .i64 n))]):=((tO_ zYc false 2).loop [1,1,0,0] 2 _ rfl).trans (by kernel_rfl)
theorem zDb(b a c:Int) (d:List PV) (e:Int):W zBT false [AV.fx 0 0, .pv (.int .i64 b), .pv (.int .i64 a), .pv (.int .i64 c), .fnv zD [] [.own 1 0]] [.fix 0 0 d, .var false 0 (.pv (.int .i64 e))] =
 zAF a (IntKind.wrap .i64 (a-b:Int)) (IntKind.wrap .i64 (c-a:Int)) d e:=goO (by kernel_rfl) (by kernel_rfl) (tO_ zYc false 2) rfl (by kernel_rfl)
theorem zVP(a:PV):wc W zDi [a] =
 bif PV.okSh 0 a then some (.agg [.int .i64 (2:Int), .int .i64 (2:Int), .fn zBa [] [.imm 0 a 0]])else none:=go (by kernel_rfl) (by kernel_rfl) (tN_ z2I) (by kernel_rfl)
theorem zWp(a b c d:Int):wc W zJn [.agg [.int .i64 a, .int .i64 b], .agg [.int .i64 c, .int .i64 d]] =
 (wc W zDj [.agg [.int .i64 a, .int .i64 b], .agg [.int .i64 c, .int .i64 d], .fn zJJ [] []]).bind λ e=>zB e λ f g=>some (.agg [.int .i64 f, .int .i64 g]):=go (by kernel_rfl) (by kernel_rfl) (tN_ z2J) (by kernel_rfl)
theorem zWq(a b c d:Int):wc W zJo [.agg [.int .i64 a, .int .i64 b], .agg [.int .i64 c, .int .i64 d]] =
 (wc W zDj [.agg [.int .i64 a, .int .i64 b], .agg [.int .i64 c, .int .i64 d], .fn zJK [] []]).bind λ e=>zB e λ f g=>some (.agg [.int .i64 f, .int .i64 g]):=go (by kernel_rfl) (by kernel_rfl) (tN_ z2K) (by kernel_rfl)
theorem zWr(a b c d:Int):wc W zJp [.agg [.int .i64 a, .int .i64 b], .agg [.int .i64 c, .int .i64 d]] =
 (wc W zDj [.agg [.int .i64 a, .int .i64 b], .agg [.int .i64 c, .int .i64 d], .fn zGv [] []]).bind λ e=>zB e λ f g=>some (.agg [.int .i64 f, .int .i64 g]):=go (by kernel_rfl) (by kernel_rfl) (tN_ z2L) (by kernel_rfl)
theorem zWs(a b c d:Int):wc W zJq [.agg [.int .i64 a, .int .i64 b], .agg [.int .i64 c, .int .i64 d]] =
 (wc W zDj [.agg [.int .i64 a, .int .i64 b], .agg [.int .i64 c, .int .i64 d], .fn zJL [] []]).bind λ e=>zB e λ f g=>some (.agg [.int .i64 f, .int .i64 g]):=go (by kernel_rfl) (by kernel_rfl) (tN_ z2M) (by kernel_rfl)
theorem zYk(c a d b:Int):wc W zMB [.agg [.int .i64 c, .int .i64 a], .agg [.int .i64 d, .int .i64 b]] =
 (wc W zF4 [.slice 3 [.agg [.int .i64 c, .int .i64 a], .agg [.int .i64 d, .int .i64 b]]]).bind λ e=>e.asTup.bind λ h=>h[0]?.bind λ i=>zB i λ j k=>e.asTup.bind λ l=>l[1]?.bind λ m=>c_b m λ n=>bif n then some (.agg [.int .i64 j, .int .i64 k])else(wc W zJm [.bool (decide (a<b))]).bind λ o=>zB o λ f g=>some (.agg [.int .i64 f, .int .i64 g]):=go (by kernel_rfl) (by kernel_rfl) (tN_ z2N) (by kernel_rfl)
theorem zPW(a:List PV):wc W zEu [.slice 3 a] =
 (wc W zNB [.slice 3 a]).bind λ b=>zB b λ c d=>some (.agg [.int .i64 c, .int .i64 d]):=go (by kernel_rfl) (by kernel_rfl) (tN_ z2O) (by kernel_rfl)
theorem zWt(a:List PV):wc W zNB [.slice 3 a] =
 (wc W zD1 [.int .i64 (0:Int)]).bind λ b=>zB b λ c d=>(wc W zD1 [.int .i64 (1:Int)]).bind λ e=>zB e λ f g=>(wc W zGw [.slice 3 a, .fn zEx [] [], .agg [.int .i64 c, .int .i64 d], .agg [.int .i64 f, .int .i64 g]]).bind λ h=>zB h λ i j=>some (.agg [.int .i64 i, .int .i64 j]):=go (by kernel_rfl) (by kernel_rfl) (tN_ z2P) (by kernel_rfl)
theorem zPX(a:List PV):wc W zEv [.slice 3 a] =
 (wc W zPI [.slice 3 a]).bind λ b=>zB b λ c d=>some (.agg [.int .i64 c, .int .i64 d]):=go (by kernel_rfl) (by kernel_rfl) (tN_ z2Q) (by kernel_rfl)
theorem zYl(a:List PV):wc W zPI [.slice 3 a] =
 (wc W zD1 [.int .i64 (1:Int)]).bind λ b=>zB b λ c d=>(wc W zD1 [.int .i64 (0:Int)]).bind λ e=>zB e λ f g=>(wc W zGw [.slice 3 a, .fn zGX [] [], .agg [.int .i64 c, .int .i64 d], .agg [.int .i64 f, .int .i64 g]]).bind λ h=>zB h λ i j=>some (.agg [.int .i64 i, .int .i64 j]):=go (by kernel_rfl) (by kernel_rfl) (tN_ z2R) (by kernel_rfl)
theorem zPY(a:List PV):wc W zEw [.slice 3 a] =
 a[0]?.bind λ b=>zB b λ c d=>(wc W zNC [.agg [.int .i64 c, .int .i64 d]]).bind λ e=>zB e λ f g=>some (.agg [.int .i64 f, .int .i64 g]):=go (by kernel_rfl) (by kernel_rfl) (tN_ z2S) (by kernel_rfl)
theorem zWu(b a:Int):wc W zNC [.agg [.int .i64 b, .int .i64 a]] =
 (wc W zF4 [.slice 3 [.agg [.int .i64 b, .int .i64 a]]]).bind λ c=>c.asTup.bind λ f=>f[0]?.bind λ g=>zB g λ h i=>c.asTup.bind λ j=>j[1]?.bind λ k=>c_b k λ l=>bif l then some (.agg [.int .i64 h, .int .i64 i])else(wc W zJm [.bool (a==(0:Int))]).bind λ m=>zB m λ d e=>some (.agg [.int .i64 d, .int .i64 e]):=go (by kernel_rfl) (by kernel_rfl) (tN_ z2T) (by kernel_rfl)
noncomputable def zAP(a b c d:Int) (e:List PV) (f:Int):Option (AV×List Ob):=(lO_ zYd false 2) [0,1] 2 (St.mk [(0,AV.fx 0 0),(1, .pv (.int .i64 a)),(2, .pv (.int .i64 b)),(3, .pv (.int .i64 c)),(10, .pv (.int .i64 d))] [.fix 0 0 e, .var false 0 (.pv (.int .i64 f))])
theorem zBE(b d e a:Int) (c:List PV) (f:Int):zAP b d e a c f =
 bif decide (a<e)then bif (true&&(decide ((0:Int)≤(IntKind.wrap .i64 (d+a:Int)))))&&(decide ((IntKind.wrap .i64 (d+a:Int))<(c.length:Int)))then c[Int.toNat (IntKind.wrap .i64 (d+a:Int))]?.bind λ i=>c_s3 i λ g=>bif (true&&(decide ((0:Int)≤(IntKind.wrap .i64 (b+a:Int)))))&&(decide ((IntKind.wrap .i64 (b+a:Int))<(c.length:Int)))then c[Int.toNat (IntKind.wrap .i64 (b+a:Int))]?.bind λ j=>c_s3 j λ h=>bif (true&&(decide ((0:Int)≤(IntKind.wrap .i64 (b+a:Int)))))&&(decide ((IntKind.wrap .i64 (b+a:Int))<(c.length:Int)))then c[Int.toNat (IntKind.wrap .i64 (b+a:Int))]?.bind λ k=>bif (true&&(decide ((0:Int)≤(IntKind.wrap .i64 (d+a:Int)))))&&(decide ((IntKind.wrap .i64 (d+a:Int))<(((List.length (List.set c (Int.toNat (IntKind.wrap .i64 (b+a:Int))) (.slice 3 g))):Nat):Int)))then((List.set c (Int.toNat (IntKind.wrap .i64 (b+a:Int))) (.slice 3 g))[Int.toNat (IntKind.wrap .i64 (d+a:Int))]?).bind λ l=>zAP b d e (IntKind.wrap .i64 (a+1)) (List.set (List.set c (Int.toNat (IntKind.wrap .i64 (b+a:Int))) (.slice 3 g)) (Int.toNat (IntKind.wrap .i64 (d+a:Int))) (.slice 3 h)) f else none else none else none else none else some (.pv (.tup []),[.fix 0 0 c, .var false 0 (.pv (.int .i64 f))]):=((tO_ zYd false 2).loop [1,0] 2 _ rfl).trans (by kernel_rfl)
theorem zDK(a b c:Int) (d:List PV) (e:Int):W zAK false [AV.fx 0 0, .pv (.int .i64 a), .pv (.int .i64 b), .pv (.int .i64 c), .fnv zD [] [.own 1 0]] [.fix 0 0 d, .var false 0 (.pv (.int .i64 e))] =
 zAP a b c (0:Int) d e:=goO (by kernel_rfl) (by kernel_rfl) (tO_ zYd false 2) rfl (by kernel_rfl)
theorem zRC(a:List PV) (c:PV):wc W zBa [.slice 3 a, .imm 0 c 0] =
 a[0]?.bind λ e=>zB e λ f g=>a[1]?.bind λ h=>zB h λ i j=>(PV.asFn c).bind λ b=>(wc W (Prod.fst b) (((Prod.fst (Prod.snd b))++[.agg [.int .i64 f, .int .i64 g], .agg [.int .i64 i, .int .i64 j]])++(Prod.snd (Prod.snd b)))).bind λ k=>zB k λ l d=>some (.agg [.int .i64 l, .int .i64 d]):=go (by kernel_rfl) (by kernel_rfl) (tN_ z2U) (by kernel_rfl)
theorem zRD(c a d b:Int) (g:PV):wc W zDj [.agg [.int .i64 c, .int .i64 a], .agg [.int .i64 d, .int .i64 b],g] =
 (wc W zF4 [.slice 3 [.agg [.int .i64 c, .int .i64 a], .agg [.int .i64 d, .int .i64 b]]]).bind λ h=>h.asTup.bind λ u=>u[0]?.bind λ v=>zB v λ w x=>h.asTup.bind λ y=>y[1]?.bind λ z=>c_b z λ A=>bif A then some (.agg [.int .i64 w, .int .i64 x])else(PV.asFn g).bind λ f=>(wc W (Prod.fst f) (((Prod.fst (Prod.snd f))++[.int .i64 a, .int .i64 b])++(Prod.snd (Prod.snd f)))).bind λ e=>e.asTup.bind λ i=>i[0]?.bind λ j=>zA5 j λ k=>e.asTup.bind λ l=>l[1]?.bind λ m=>c_b m λ n=>bif !n then(wc W zF3 []).bind λ o=>zB o λ p q=>some (.agg [.int .i64 p, .int .i64 q])else(wc W zD1 [.int .i64 k]).bind λ r=>zB r λ s t=>some (.agg [.int .i64 s, .int .i64 t]):=go (by kernel_rfl) (by kernel_rfl) (tN_ z2V) (by kernel_rfl)
theorem zSe(a b:Int):wc W zJJ [.int .i64 a, .int .i64 b] =
 some (.tup [.int .i64 (IntKind.wrap .i64 (a+b:Int)), .bool ((decide ((IntKind.wrap .i64 (a+b:Int))<a))==(decide (b<(0:Int))))]):=go (by kernel_rfl) (by kernel_rfl) (tN_ z2W) (by kernel_rfl)
theorem zSf(a b:Int):wc W zJK [.int .i64 a, .int .i64 b] =
 some (.tup [.int .i64 (IntKind.wrap .i64 (a-b:Int)), .bool ((decide (GT.gt (IntKind.wrap .i64 (a-b:Int)) a))==(decide (b<(0:Int))))]):=go (by kernel_rfl) (by kernel_rfl) (tN_ z2X) (by kernel_rfl)
noncomputable def zFG(a b c d e:Int):Option PV:=(jN_ zYe) [1,1,1,1] (St.mk [(0, .pv (.int .i64 a)),(1, .pv (.int .i64 b)),(6, .pv (.int IntKind.u64 c)),(7, .pv (.int IntKind.u64 d)),(8, .pv (.int IntKind.u64 e))] [])
theorem zLp(a b c d e:Int):zFG a b c d e =
 bif c==(0:Int)then some (.tup [.int .i64 (IntKind.wrap .i64 (a*b:Int)), .bool (decide (d≤e))])else some (.tup [.int .i64 (IntKind.wrap .i64 (a*b:Int)), .bool false]):=((tN_ zYe).join [1,1,1,1] _).trans (by kernel_rfl)
theorem zSg(a b:Int):wc W zGv [.int .i64 a, .int .i64 b] =
 (wc W zI0 [.int .i64 a]).bind λ g=>zSZ g λ h=>(wc W zI0 [.int .i64 b]).bind λ i=>zSZ i λ j=>(wc W zLT [.int IntKind.u64 h, .int IntKind.u64 j]).bind λ d=>d.asTup.bind λ k=>k[0]?.bind λ l=>zSZ l λ e=>d.asTup.bind λ m=>m[1]?.bind λ f=>zSZ f λ c=>bif !((decide (a<(0:Int)))==(decide (b<(0:Int))))then zFG a b e c (9223372036854775808:Int)else zFG a b e c (9223372036854775807:Int):=go (by kernel_rfl) (by kernel_rfl) (tN_ zYe) (by kernel_rfl)
theorem zVQ(a:Int):wc W zI0 [.int .i64 a] =
 bif decide (a<(0:Int))then some (.int IntKind.u64 (IntKind.wrap .u64 ((0:Int)-(IntKind.wrap .u64 a):Int)))else some (.int IntKind.u64 (IntKind.wrap .u64 a)):=go (by kernel_rfl) (by kernel_rfl) (tN_ z2Y) (by kernel_rfl)
noncomputable def zFH(a b:Int):Option PV:=(jN_ zYf) [1,1] (St.mk [(0, .pv (.int .i64 a)),(1, .pv (.int .i64 b))] [])
theorem zLq(b a:Int):zFH b a =
 (bif a==(0:Int)then none else some (.int .i64 (IntKind.wrap .i64 (Int.tdiv b a)))).bind λ c=>zA5 c λ d=>some (.tup [.int .i64 d, .bool true]):=((tN_ zYf).join [1,1] _).trans (by kernel_rfl)
theorem zSh(b a:Int):wc W zJL [.int .i64 b, .int .i64 a] =
 bif a==(0:Int)then some (.tup [.int .i64 (0:Int), .bool false])else bif b==(-9223372036854775808:Int)then bif a==(-1:Int)then some (.tup [.int .i64 (0:Int), .bool false])else zFH b a else zFH b a:=go (by kernel_rfl) (by kernel_rfl) (tN_ zYf) (by kernel_rfl)
theorem zSi(e:List PV) (f:PV) (a b c d:Int):wc W zGw [.slice 3 e,f, .agg [.int .i64 a, .int .i64 b], .agg [.int .i64 c, .int .i64 d]] =
 (wc W zAz [.slice 3 e,f]).bind λ i=>c_b i λ j=>bif j then some (.agg [.int .i64 a, .int .i64 b])else(wc W zF4 [.slice 3 e]).bind λ g=>g.asTup.bind λ k=>k[0]?.bind λ l=>zB l λ m n=>g.asTup.bind λ o=>o[1]?.bind λ p=>c_b p λ h=>bif h then some (.agg [.int .i64 m, .int .i64 n])else some (.agg [.int .i64 c, .int .i64 d]):=go (by kernel_rfl) (by kernel_rfl) (tN_ z2Z) (by kernel_rfl)
theorem zPZ(a b:Int):wc W zEx [.agg [.int .i64 a, .int .i64 b]] =
 (wc W zD1 [.int .i64 (0:Int)]).bind λ c=>zB c λ d e=>((bif a==d then bif b==e then some true else some false else some false).bind λ f=>some (.bool f)).bind λ g=>c_b g λ h=>some (.bool h):=go (by kernel_rfl) (by kernel_rfl) (tN_ z21) (by kernel_rfl)
end Go.Cf



namespace Go.Cf
open Go Go.Ab
set_option linter.unusedVariables false
def I64(n:Int):Prop:= -9223372036854775808≤n∧n≤9223372036854775807
theorem zQ{n:Int} (h1: -9223372036854775808≤n) (h2:n≤9223372036854775807):IntKind.wrap .i64 n=n:=by
 simp only[IntKind.wrap,IntKind.bits,IntKind.signed]
 simp
 omega
theorem zYm{n:Nat} (h:n≤9223372036854775807):IntKind.wrap .i64 (n:Int)=n:=zQ (by omega) (by omega)
theorem zI{n:Nat} (h:n<9223372036854775807):IntKind.wrap .i64 ((n:Int)+1)=((n+1:Nat):Int):=by rw[zQ (by omega) (by omega)];omega
@[simp] theorem asTup_mk(l:List PV):PV.asTup (.tup l)=some l:=rfl
@[simp] theorem asFn_mk(f:Nat) (a b:List PV):PV.asFn (.fn f a b)=some (f,a,b):=rfl
@[simp] theorem zAM(n:Nat):decide ((0:Int)≤(n:Int))=true:=by simp
theorem z23{n:Int} (h:(Lit.int .i64 n).wf=true):I64 n:=by
 simp only[Lit.wf,Bool.and_eq_true,decide_eq_true_eq]at h
 exact h
theorem zMF{R:Type} (L:Int→Option R) (n:Nat) (p:Nat→Bool) (r s:Option R) (hs:∀ i:Nat,i<n→L (i:Int)=bif p i then L ((i:Int)+1)else r) (he:L (n:Int)=s) :
 L 0=bif (List.range n).all p then s else r:=by
 have:∀ k i:Nat,i+k=n→L (i:Int)=bif (List.range' i k).all p then s else r:=by
  intro k
  induction k with
  |zero=>intro i h;simp at h;subst h;simpa using he
  |succ k ih =>
   intro i h
   rw[hs i (by omega),show((i:Int)+1)=((i+1:Nat):Int) by omega,ih (i+1) (by omega),List.range'_succ,List.all_cons]
   cases p i<;>simp
 have h0:=this n 0 (by omega)
 rw[List.range_eq_range']
 exact h0
theorem zWv{α:Type} (l:List α) (q:α→Bool):((List.range l.length).all λ i=>(l[i]?).all q)=l.all q:=by
 rw[Bool.eq_iff_iff,List.all_eq_true,List.all_eq_true]
 constructor
 ·intro h x hx
  obtain⟨i,hi,rfl⟩:=List.mem_iff_getElem.1 hx
  have:=h i (by simpa using hi)
  simpa [List.getElem?_eq_getElem hi]using this
 ·intro h i hi
  have hi' :i<l.length:=by simpa using hi
  simpa [List.getElem?_eq_getElem hi']using h _ (List.getElem_mem hi')
theorem zP{i n:Nat} (h:i<n):decide ((i:Int)<(n:Int))=true:=by simpa using h
theorem zBz{n:Nat}:decide ((n:Int)<(n:Int))=false:=by simp
theorem zHv{α:Type} [BEq α] [LawfulBEq α] {a b:α} (h:a≠b):(a != b)=true:=by simpa using h
theorem zJV{α:Type} [BEq α] [LawfulBEq α] {a b:α} (h:a=b):(a != b)=false:=by simpa using h
theorem zKq{α:Type} [BEq α] [LawfulBEq α] {a b:α} (h:a=b):(a==b)=true:=by simpa using h
theorem zEV{α:Type} [BEq α] [LawfulBEq α] {a b:α} (h:a≠b):(a==b)=false:=by simpa using h
theorem z24{α:Type} [DecidableEq α] (a b:List α) (e:a.length=b.length):((List.range a.length).all λ i=>decide (a[i]? =b[i]?))=decide (a=b):=by
 by_cases hab:a=b
 ·subst hab;simp
 ·rw[decide_eq_false hab,Bool.eq_false_iff]
  intro hall
  apply hab
  rw[List.all_eq_true]at hall
  apply List.ext_getElem?
  intro i
  by_cases hi:i<a.length
  ·simpa using hall i (by simpa using hi)
  ·rw[List.getElem?_eq_none (by omega),List.getElem?_eq_none (by omega)]
end Go.Cf

namespace Go.Cf
open Go Go.Ab
set_option linter.unusedVariables false
set_option linter.unusedSimpArgs false
structure Val where
 K:Int
 N:Int
 deriving DecidableEq
def Val.pv(v:Val):PV:= .agg [.int .i64 v.K, .int .i64 v.N]
@[simp] theorem Val.fold(v:Val):PV.agg [.int .i64 v.K, .int .i64 v.N]=v.pv:=rfl
@[simp] theorem Val.c_mk(v:Val) {R:Type} (f:Int→Int→Option R):zB v.pv f=f v.K v.N:=rfl
structure Def where
 Cols:Int
 Rows:Int
 deriving DecidableEq
def Def.pv(d:Def):PV:= .agg [.int .i64 d.Cols, .int .i64 d.Rows]
@[simp] theorem Def.fold(v:Def):PV.agg [.int .i64 v.Cols, .int .i64 v.Rows]=v.pv:=rfl
@[simp] theorem Def.c_mk(v:Def) {R:Type} (f:Int→Int→Option R):zB v.pv f=f v.Cols v.Rows:=rfl
@[simp] theorem Def.load0(v:Def):PV.load 3 v.pv 0 0=some (.int .i64 v.Cols):=rfl
@[simp] theorem Def.load1(v:Def):PV.load 3 v.pv 1 0=some (.int .i64 v.Rows):=rfl
def rowp(r:List Val):PV:= .slice 3 (r.map Val.pv)
def tabp(t:List (List Val)):PV:= .slice 0 (t.map rowp)
@[simp] theorem zCv(r:List Val) {R:Type} (f:List PV→Option R):c_s3 (rowp r) f=f (r.map Val.pv):=rfl
@[simp] theorem zNN(t:List (List Val)) {R:Type} (f:List PV→Option R):c_s0 (tabp t) f=f (t.map rowp):=rfl
@[simp] theorem zH(r:List Val):PV.slice 3 (r.map Val.pv)=rowp r:=rfl
@[simp] theorem zR(t:List (List Val)):PV.slice 0 (t.map rowp)=tabp t:=rfl
def intp(n:Int):PV:= .int .i64 n
@[simp] theorem zG6(n:Int) {R:Type} (f:Int→Option R):zA5 (intp n) f=f n:=rfl
def zBV(l:List Int):PV:= .slice 0 (l.map intp)
@[simp] theorem zA(l:List Int):PV.slice 0 (l.map intp)=zBV l:=rfl
@[simp] theorem zEl(l:List Int) {R:Type} (f:List PV→Option R):c_s0 (zBV l) f=f (l.map intp):=rfl
def idxI{α:Type} (l:List α) (f:α→Bool):Int:=match l.findIdx? f with | some i=>(i:Int) | none=> -1
theorem zI2{α:Type} (l:List α) (f:α→Bool):decide (idxI l f≥0)=l.any f:=by
 unfold idxI
 cases h:l.findIdx? f with
 |some i =>
  have:=List.findIdx?_eq_some_iff_getElem.1 h
  obtain⟨hi,h1,_⟩:=this
  have:l.any f=true:=List.any_eq_true.2 ⟨_,List.getElem_mem hi,h1⟩
  rw[this];simp
 |none =>
  have:=List.findIdx?_eq_none_iff.1 h
  have:l.any f=false:=by
   rw[Bool.eq_false_iff]
   intro e
   obtain⟨x,hx,e⟩:=List.any_eq_true.1 e
   rw[this x hx]at e;cases e
  rw[this];rfl
theorem zI3{R α:Type} (L:Int→Option R) (l:List α) (f:α→Bool) (g:Int→Option R) (hs:∀(i:Nat) (h:i<l.length),L (i:Int)=bif f l[i]then g (i:Int)else L ((i:Int)+1)) (he:L (l.length:Int)=g (-1)) :
 L 0=g (idxI l f):=by
 have:∀ k i:Nat,i+k=l.length→L (i:Int)=g (match (l.drop i).findIdx? f with | some j=>((i+j:Nat):Int) | none=> -1):=by
  intro k
  induction k with
  |zero =>
   intro i h;simp at h;subst h
   rw[he,List.drop_of_length_le (Nat.le_refl _)];rfl
  |succ k ih =>
   intro i h
   have hi:i<l.length:=by omega
   rw[hs i hi,List.drop_eq_getElem_cons hi,List.findIdx?_cons]
   cases f l[i] with
   |true=>simp
   |false =>
    simp only[cond_false,Bool.false_eq_true,if_false]
    rw[show((i:Int)+1)=((i+1:Nat):Int) by omega,ih (i+1) (by omega)]
    cases (List.drop (i+1) l).findIdx? f with
    |none=>rfl
    |some j =>
     simp only[Option.map_some]
     congr 1;omega
 have h0:=this l.length 0 (by omega)
 simp only[Nat.zero_add,List.drop_zero]at h0
 exact h0
theorem zYn(l:List Val) (g:Nat) (fs cs:List PV) (f:Val→Bool) (hl:l.length≤9223372036854775807) (hf:∀ x∈l,wc W g (fs++[x.pv]++cs)=some (.bool (f x))) :
 wc W zA9 [rowp l, .fn g fs cs]=some (.int .i64 (idxI l f)):=by
 unfold rowp
 rw[zCu,List.length_map]
 refine zI3 (λ i=>zAH (l.map Val.pv) (.fn g fs cs) l.length i) l f (λ n=>some (.int .i64 n)) (λ i hi=> ?_) ?_
 ·rw[zAx]
  simp only[zP hi,zAM,cond_true,Int.toNat_natCast,List.getElem?_map,List.getElem?_eq_getElem hi,Option.map_some,Option.bind_some,Val.c_mk,asFn_mk,Val.fold]
  rw[hf _ (List.getElem_mem hi),zQ (by omega) (by omega)]
  simp only[Option.bind_some,c_b_mk]
 ·rw[zAx];simp
theorem zMG(l:List Val) (g:Nat) (fs cs:List PV) (f:Val→Bool) (hl:l.length≤9223372036854775807) (hf:∀ x∈l,wc W g (fs++[x.pv]++cs)=some (.bool (f x))) :
 wc W zN [rowp l, .fn g fs cs]=some (.bool (l.any f)):=by
 have h:=zC2 (l.map Val.pv) (.fn g fs cs)
 rw[zH]at h
 rw[h,zYn l g fs cs f hl hf]
 simp[← zI2]
def mayV(v:Val):Bool:=decide (v.K=0) || ((decide (v.K=1) || decide (v.K=2))&&decide (v.N=0))
theorem zHw(v:Val):wc W zF2 [v.pv]=some (.bool (mayV v)):=by
 have h:=zWl v.K v.N
 rw[Val.fold]at h
 rw[h]
 unfold mayV
 by_cases h0:v.K=0
 ·rw[h0];simp
 ·by_cases h1:v.K=1
  ·rw[h1];simp[BEq.beq]
  ·by_cases h2:v.K=2
   ·rw[h2];simp[BEq.beq]
   ·by_cases a:v.K≥0
    ·rw[decide_eq_true a,decide_eq_false (show ¬ v.K<3 by omega)];simp[h0,h1,h2]
    ·rw[decide_eq_false a];simp[h0,h1,h2]
end Go.Cf

namespace Go.Cf
open Go Go.Ab
set_option linter.unusedVariables false
set_option linter.unusedSimpArgs false
def bagp(c:List Int) (r:List (List Val)):PV:= .agg [zBV c,tabp r]
@[simp] theorem zAA(c:List Int) (r:List (List Val)):PV.agg [zBV c,tabp r]=bagp c r:=rfl
@[simp] theorem zEG(c:List Int) (r:List (List Val)) {R:Type} (f:List PV→List PV→Option R):zAI (bagp c r) f=f (c.map intp) (r.map rowp):=rfl
theorem zJW{α:Type} (l:List α) (f:α→Bool):(!l.any λ x=> !f x)=l.all f:=by
 induction l with
 |nil=>rfl
 |cons a l ih=>simp only[List.any_cons,List.all_cons,Bool.not_or,Bool.not_not,ih]
def upd(f:Nat→Bool) (v:Nat):Nat→Bool:=λ k=>bif k==0+v*1 then true else f k
def goC:(Nat→Bool)→List Int→Option (Nat→Bool)
 |f,[]=>some f
 |f,c::r=>bif (decide (0≤c)&&decide (c≤15))&& !f c.toNat then goC (upd f c.toNat) r else none
noncomputable def M1(l1 l2 l3:List PV) (n i:Int) (f:Nat→Bool):Option PV:=zGx l1 l2 l3 n i (f 0) (f 1) (f 2) (f 3) (f 4) (f 5) (f 6) (f 7) (f 8) (f 9) (f 10) (f 11) (f 12) (f 13) (f 14) (f 15)
noncomputable def M2(l1 l2 l3:List PV) (n i:Int) (f:Nat→Bool):Option PV:=zGy l1 l2 l3 n i (f 0) (f 1) (f 2) (f 3) (f 4) (f 5) (f 6) (f 7) (f 8) (f 9) (f 10) (f 11) (f 12) (f 13) (f 14) (f 15)
theorem z26(f:Nat→Bool):∀ v:Nat,v<16→PV.load 17 (.agg [.bool (f 0), .bool (f 1), .bool (f 2), .bool (f 3), .bool (f 4), .bool (f 5), .bool (f 6), .bool (f 7), .bool (f 8), .bool (f 9), .bool (f 10), .bool (f 11), .bool (f 12), .bool (f 13), .bool (f 14), .bool (f 15)]) (0+v*1) 0=some (.bool (f v))
 | 0,_=>rfl | 1,_=>rfl | 2,_=>rfl | 3,_=>rfl | 4,_=>rfl | 5,_=>rfl | 6,_=>rfl | 7,_=>rfl
 | 8,_=>rfl | 9,_=>rfl | 10,_=>rfl | 11,_=>rfl | 12,_=>rfl | 13,_=>rfl | 14,_=>rfl | 15,_=>rfl
 |n+16,h=>by omega
theorem zRE(cols:List Int) (rows:List PV) (hl:cols.length≤9223372036854775807):∀(k i:Nat) (f:Nat→Bool),i+k=cols.length →
 M1 (cols.map intp) rows (cols.map intp) (cols.length:Int) (i:Int) f=match goC f (cols.drop i)with | some f' =>M2 (cols.map intp) rows rows ((rows.length:Nat):Int) 0 f' | none=>some (.bool false)
 | 0,i,f,h=>by
  unfold M1
  rw[zIk,show i=cols.length by omega]
  simp only[zBz,cond_false,List.drop_length,goC]
  rfl
 |k+1,i,f,h=>by
  have hi:i<cols.length:=by omega
  unfold M1
  rw[zIk,List.drop_eq_getElem_cons hi,goC]
  simp only[zP hi,zAM,cond_true,Int.toNat_natCast,List.getElem?_map,List.getElem?_eq_getElem hi,Option.map_some,Option.bind_some,zG6]
  by_cases h0:cols[i]<0
  ·rw[decide_eq_true h0,decide_eq_false (show ¬ 0≤cols[i] by omega)];rfl
  rw[decide_eq_false h0,decide_eq_true (show 0≤cols[i] by omega)]
  by_cases h15:cols[i]>15
  ·rw[decide_eq_true h15,decide_eq_false (show ¬ cols[i]≤15 by omega)];rfl
  rw[decide_eq_false h15,decide_eq_true (show cols[i]≤15 by omega),decide_eq_true (show cols[i]<16 by omega)]
  simp only[cond_false,Bool.and_self,cond_true,Bool.true_and,z26 f cols[i].toNat (by omega),Option.bind_some,c_b_mk]
  cases hf:f cols[i].toNat with
  |true=>rfl
  |false =>
   simp only[cond_false,Bool.not_false,cond_true,decide_eq_true (show 0+cols[i].toNat*1+1≤16 by omega),Bool.and_true]
   rw[zQ (by omega) (by omega)]
   exact zRE cols rows hl k (i+1) (upd f cols[i].toNat) (by omega)
theorem zWw:∀(cols:List Int) (f:Nat→Bool),(goC f cols).isSome=true↔(∀ c∈cols,(0≤c∧c≤15)∧f c.toNat=false)∧cols.Nodup
 | [],f=>by simp[goC]
 |c::r,f=>by
  unfold goC
  cases hb:(decide (0≤c)&&decide (c≤15))&& !f c.toNat with
  |false =>
   simp only[cond_false,Option.isSome_none,Bool.false_eq_true,false_iff,not_and]
   intro h
   have:=h c (by simp)
   rw[decide_eq_true this.1.1,decide_eq_true this.1.2,this.2]at hb
   cases hb
  |true =>
   simp only[cond_true]
   rw[zWw r]
   simp only[Bool.and_eq_true,decide_eq_true_eq,Bool.not_eq_true']at hb
   obtain⟨⟨c0,c15⟩,hf⟩:=hb
   simp only[List.nodup_cons,List.mem_cons,forall_eq_or_imp,upd,Nat.zero_add,Nat.mul_one]
   constructor
   ·rintro⟨h1,h2⟩
    refine⟨⟨⟨⟨c0,c15⟩,hf⟩,λ x hx=>⟨(h1 x hx).1,?_⟩⟩,?_,h2⟩
    ·have:=(h1 x hx).2
     cases e:(x.toNat==c.toNat) with
     |true=>rw[e]at this;cases this
     |false=>rw[e]at this;exact this
    ·intro hc
     have:=(h1 c hc).2
     rw[zKq rfl]at this;cases this
   ·rintro⟨⟨_,h1⟩,h2,h3⟩
    refine⟨λ x hx=>⟨(h1 x hx).1,?_⟩,h3⟩
    have hne:x≠c:=λ e=>h2 (e▸hx)
    have:=(h1 x hx).1
    rw[zEV (show x.toNat≠c.toNat by omega)]
    exact(h1 x hx).2
def zSj(cols:List Int):Bool:=(goC (λ _=>false) cols).isSome
theorem zHx(cols:List Int):zSj cols=true↔(∀ c∈cols,0≤c∧c≤15)∧cols.Nodup:=by
 unfold zSj
 rw[zWw]
 simp
def rowB(n:Nat) (r:List Val):Bool:=decide (r.length=n)&&r.all mayV
def mayB(c:List Int) (r:List (List Val)):Bool:=zSj c&&r.all (rowB c.length)&&decide (r.length≤5000)
theorem z02(v:Val):wc W zF1 [v.pv]=some (.bool (!mayV v)):=by
 have h:=zS9 v.K v.N
 rw[Val.fold]at h
 rw[h,zHw];rfl
theorem zG7(c:List Int) (r:List (List Val)) (hc:c.length≤9223372036854775807) (hr:r.length≤9223372036854775807) (hl:∀ x∈r,x.length≤9223372036854775807):wc W zE5 [bagp c r]=some (.bool (mayB c r)):=by
 have h:=zWj (c.map intp) (r.map rowp)
 rw[zA,zR,zAA]at h
 have h1:=zRE c (r.map rowp) hc c.length 0 (λ _=>false) (by omega)
 rw[List.drop_zero]at h1
 rw[h,List.length_map]
 refine h1.trans ?_
 unfold mayB zSj
 cases hg:goC (λ _=>false) c with
 |none=>rfl
 |some f =>
  simp only[Option.isSome_some,Bool.true_and,List.length_map]
  rw[zMF (λ i=>M2 (c.map intp) (r.map rowp) (r.map rowp) (r.length:Int) i f) r.length (λ i=>(r[i]?).all (rowB c.length)) (some (.bool false)) (some (.bool (decide (r.length≤5000)))) ?_ ?_,zWv]
  ·cases r.all (rowB c.length)<;>rfl
  ·intro i hi
   unfold M2
   rw[zIl]
   simp only[List.length_map,zP hi,zAM,cond_true,Int.toNat_natCast,List.getElem?_map,List.getElem?_eq_getElem hi,Option.map_some,Option.bind_some,zCv,zH,Option.all_some,zMG r[i] zF1 [] [] (λ v=> !mayV v) (hl _ (List.getElem_mem hi)) (λ x _=>z02 x),c_b_mk]
   rw[zQ (by omega) (by omega)]
   unfold rowB
   by_cases e:r[i].length=c.length
   ·rw[zJV (by rw[e]),decide_eq_true e,←zJW]
    cases r[i].any λ v=> !mayV v<;>rfl
   ·rw[zHv (by omega),decide_eq_false e];rfl
  ·unfold M2
   rw[zIl]
   simp only[List.length_map,zBz,cond_false]
   congr 2
   have:((r.length:Int)≤5000)=(r.length≤5000):=by apply propext;omega
   simp only[this]
theorem zWx{c:List Int} (h:zSj c=true):c.length≤16:=by
 obtain⟨h1,h2⟩:=(zHx c).1 h
 have hsub:c ⊆ (List.range 16).map λ n:Nat=>(n:Int):=by
  intro x hx
  have:=h1 x hx
  rw[List.mem_map]
  exact⟨x.toNat,by simp;omega,by omega⟩
 have:=List.Nodup.length_le_of_subset h2 hsub
 simpa using this
theorem zCZ{c:List Int} {r:List (List Val)} (h:mayB c r=true):c.length≤16∧r.length≤5000∧∀ x∈r,x.length=c.length∧x.all mayV=true:=by
 unfold mayB at h
 simp only[Bool.and_eq_true,decide_eq_true_eq,List.all_eq_true]at h
 refine⟨zWx h.1.1,h.2,λ x hx=> ?_⟩
 have:=h.1.2 x hx
 unfold rowB at this
 simp only[Bool.and_eq_true,decide_eq_true_eq]at this
 exact this
def bagR(x:Option (List Int×List (List Val))):PV:=match x with | some b=> .tup [bagp b.1 b.2, .bool true] | none=> .tup [bagp [] [], .bool false]
end Go.Cf

namespace Go.Cf
open Go Go.Ab
set_option linter.unusedVariables false
set_option linter.unusedSimpArgs false
def badV:Val:=⟨2,0⟩
def VOk(v:Val):Prop:=I64 v.K∧I64 v.N
def zDT(cols:List Int) (row:List Val) (c:Int):Val:=bif decide (idxI cols (λ x=>c==x)<0)then badV else bif decide (idxI cols (λ x=>c==x)≥(row.length:Int))then badV else row.getD (idxI cols (λ x=>c==x)).toNat badV
theorem zJX(l:List Int) (n:Int) (hl:l.length≤9223372036854775807):wc W zAG [zBV l, .int .i64 n]=some (.int .i64 (idxI l (λ x=>n==x))):=by
 have h:=zHY (l.map intp) n
 rw[zA]at h
 rw[h,List.length_map]
 refine zI3 (λ i=>zBX (l.map intp) n l.length i) l (λ x=>n==x) (λ n=>some (.int .i64 n)) (λ i hi=> ?_) ?_
 ·rw[zCq]
  simp only[zP hi,zAM,cond_true,Int.toNat_natCast,List.getElem?_map,List.getElem?_eq_getElem hi,Option.map_some,Option.bind_some,zG6]
  rw[zQ (by omega) (by omega)]
 ·rw[zCq];simp
theorem zWy{α:Type} [DecidableEq α] {R:Type} (L:Int→Option R) (a b:List α) (e:a.length=b.length) (r s:Option R) (hs:∀ i:Nat,∀(h:i<a.length) (h' :i<b.length),L (i:Int)=bif decide (a[i]=b[i])then L ((i:Int)+1)else r) (he:L (a.length:Int)=s) :
 L 0=bif decide (a=b)then s else r:=by
 rw[zMF L a.length (λ i=>decide (a[i]? =b[i]?)) r s (λ i hi=> ?_) he,z24 a b e]
 have hi' :i<b.length:=by omega
 rw[hs i hi hi',List.getElem?_eq_getElem hi,List.getElem?_eq_getElem hi']
 simp only[Option.some.injEq]
theorem zP0(cols:List Int) {row:List Val} (h:∀ v∈row,VOk v) (c:Int):VOk (zDT cols row c):=by
 have hb:VOk badV:=⟨⟨by decide,by decide⟩,⟨by decide,by decide⟩⟩
 unfold zDT
 cases decide (idxI cols (λ x=>c==x)<0) with
 |true=>exact hb
 |false =>
  cases decide (idxI cols (λ x=>c==x)≥(row.length:Int)) with
  |true=>exact hb
  |false =>
   simp only[cond_false]
   rw[List.getD_eq_getElem?_getD]
   cases hr:row[(idxI cols (λ x=>c==x)).toNat]? with
   |none=>exact hb
   |some v=>exact h v (List.mem_of_getElem? hr)
def ROk(r:List Val):Prop:=∀ v∈r,VOk v
def inC(c:List Int) (x:Int):Bool:=decide (x∈c)
theorem zJY{c:List Int} {x:Int}:decide (idxI c (λ y=>x==y)<0)= !inC c x:=by
 have h:=zI2 c (λ y=>x==y)
 have h2:c.any (λ y=>x==y)=inC c x:=by
  unfold inC
  rw[Bool.eq_iff_iff,List.any_eq_true,decide_eq_true_eq]
  constructor
  ·rintro⟨y,hy,e⟩;rw[beq_iff_eq]at e;subst e;exact hy
  ·intro h;exact⟨x,h,by simp⟩
 rw[h2]at h
 rw[← h]
 by_cases hh:idxI c (λ y=>x==y)<0
 ·rw[decide_eq_true hh,decide_eq_false (by omega)];rfl
 ·rw[decide_eq_false hh,decide_eq_true (by omega)];rfl
theorem zTh(c:List Int) (x:Int):idxI c (λ y=>x==y)<(c.length:Int):=by
 unfold idxI
 cases h:c.findIdx? (λ y=>x==y) with
 |none=>simp only;omega
 |some i =>
  obtain⟨hi,_⟩:=List.findIdx?_eq_some_iff_getElem.1 h
  simp only;omega
theorem zFI{c:List Int} {row:List Val} {x:Int} (h:inC c x=true) (hl:row.length=c.length):(row[(idxI c (λ y=>x==y)).toNat]? =some (zDT c row x))∧0≤idxI c (λ y=>x==y):=by
 have h1:decide (idxI c (λ y=>x==y)<0)=false:=by rw[zJY,h];rfl
 have h2:=of_decide_eq_false h1
 have h3:=zTh c x
 refine⟨?_,by omega⟩
 unfold zDT
 rw[h1,decide_eq_false (show ¬ idxI c (λ y=>x==y)≥(row.length:Int) by omega)]
 have hlt:(idxI c (λ y=>x==y)).toNat<row.length:=by omega
 simp only[cond_false,List.getElem?_eq_getElem hlt,List.getD_eq_getElem?_getD,Option.getD_some]
def atC(c cols:List Int):List Int:=cols.map λ x=>idxI c (λ y=>x==y)
def zBF(c cols:List Int) (row:List Val):List Val:=cols.map (zDT c row)
theorem zTi{c:List Int} {x:Int} (h:inC c x=true):c[(idxI c (λ y=>x==y)).toNat]? =some x:=by
 have h1:decide (idxI c (λ y=>x==y)<0)=false:=by rw[zJY,h];rfl
 have h2:=of_decide_eq_false h1
 unfold idxI at h2 ⊢
 cases hf:c.findIdx? (λ y=>x==y) with
 |none=>rw[hf]at h2;simp only at h2;omega
 |some i =>
  obtain⟨hi,e,_⟩:=List.findIdx?_eq_some_iff_getElem.1 hf
  simp only[Int.toNat_natCast,List.getElem?_eq_getElem hi]
  rw[beq_iff_eq]at e
  rw[e]
theorem zKD{c cols:List Int} {row:List Val} {y:Int} (h:inC cols y=true):zDT cols (zBF c cols row) y=zDT c row y:=by
 have h1:=(zFI (row:=zBF c cols row) h (by unfold zBF;rw[List.length_map])).1
 have h2:=zTi h
 unfold zBF at h1
 rw[List.getElem?_map,h2,Option.map_some]at h1
 exact(Option.some.inj h1).symm
theorem zNO{α:Type}:∀{l:List α},l.Nodup→∀{j k:Nat} {o:α},l[j]? =some o→l[k]? =some o→j=k
 | [],_,_,_,_,h,_=>by simp at h
 |x::r,hn,0,0,o,h,hk=>rfl
 |x::r,hn,0,k+1,o,h,hk=>by
  simp only[List.getElem?_cons_zero,Option.some.injEq]at h;subst h
  exact absurd (List.mem_of_getElem? (by simpa using hk)) (List.nodup_cons.1 hn).1
 |x::r,hn,j+1,0,o,h,hk=>by
  simp only[List.getElem?_cons_zero,Option.some.injEq]at hk;subst hk
  exact absurd (List.mem_of_getElem? (by simpa using h)) (List.nodup_cons.1 hn).1
 |x::r,hn,j+1,k+1,o,h,hk=>by
  exact congrArg (· +1) (zNO (o:=o) (List.nodup_cons.1 hn).2 (by simpa using h) (by simpa using hk))
theorem place_of{is:List Nat} (hn:is.Nodup) {o j:Nat} (h:is[j]? =some o):zEI is o=some j:=by
 cases hp:zEI is o with
 |none=>exact absurd (List.mem_of_getElem? h) (zKW hp)
 |some k =>
  have hk:=zEL hp
  exact congrArg some (zNO hn h hk).symm
theorem zKE{c:List Int} {row:List Val} (hn:c.Nodup) (hl:row.length=c.length):zBF c c row=row:=by
 unfold zBF
 apply List.ext_getElem?
 intro i
 rw[List.getElem?_map]
 by_cases hi:i<c.length
 ·rw[List.getElem?_eq_getElem hi,Option.map_some]
  have hin:inC c c[i]=true:=by unfold inC;exact decide_eq_true (List.getElem_mem hi)
  have h1:=(zFI hin hl).1
  have h2:=zTi hin
  have hlt:=(List.getElem?_eq_some_iff.1 h2).1
  have e:(idxI c (λ y=>c[i]==y)).toNat=i:=zNO hn h2 (List.getElem?_eq_getElem hi)
  rw[e]at h1
  exact h1.symm
 ·rw[List.getElem?_eq_none (by omega),List.getElem?_eq_none (by omega)];rfl
theorem zOY{c:List Int} {r:List (List Val)} (h:mayB c r=true):zSj c=true∧r.all (rowB c.length)=true∧r.length≤5000:=by
 unfold mayB at h
 simp only[Bool.and_eq_true,decide_eq_true_eq]at h
 exact⟨h.1.1,h.1.2,h.2⟩
theorem zYo{c:List Int} {r:List (List Val)} (h:mayB c r=true):mayB c []=true:=by
 unfold mayB;rw[(zOY h).1];rfl
end Go.Cf
