/- Part 14 of the proof: an abstract machine that runs the program's code over plain values, its soundness, and what the functions tell of plain values. Conditions: those in each theorem. -/
import Derived.Test.YtgebkpchpliahaaGreatDoorA12
import Derived.WalkKit
import Derived.Tactics
import Derived.Tactics2
import Derived.Defers
import Derived.Recover
import Derived.Test.YtgebkpchpliahaaGreatDoorProg
import Derived.Deep.RegionWith
import Derived.LoopN
set_option linter.unusedSectionVars false
set_option linter.unusedVariables false
set_option linter.unusedSimpArgs false
noncomputable section
namespace Go.Proofs
open Go.RowKit
set_option maxHeartbeats 1000000
set_option maxRecDepth 100000
theorem Tryz.cellSet(w:World) (b o:Nat) (cs:Array Value) (t:TypeId) (v:Value) (h:w.heap[b]? =some (.cells cs t)):w.setCell ⟨b,o,none⟩ v={ w with heap:=w.heap.setIfInBounds b (.cells (cs.setIfInBounds o v) t) }:=by
 unfold World.setCell
 congr 1
 apply Array.ext_getElem?
 intro k
 rw[Array.getElem?_modify]
 by_cases e:b=k
 ·subst e
  have hlt:=(Array.getElem?_eq_some_iff.1 h).1
  rw[if_pos rfl,h,Array.getElem?_setIfInBounds_self_of_lt hlt];rfl
 ·rw[if_neg e,Array.getElem?_setIfInBounds_ne e]
theorem Tryz.told_idle(p q:Addr) (w:World) :
 CallsD Tryz.prog 127 #[.pointer (some p),.pointer (some q)] .returning w λ e u' w' =>e= .returned (.tuple #[])/\u' = .returning/\w' =w:=by
 refine callsD_of_wpS Tryz.func127 rfl λ c₀ cs hu=> ?_
 apply wpS_seq
 apply wpS_region
 simp[wpOpsS,go_sem,recoverD,hu,Tryz.ntmps127,Exit.thenS]
 refine wpS_of_wp ?_
 go_wp2
 cases c₀;simp_all[bodyPostS,results,Tryz.results127]
theorem Tryz.told_run(g:FuncId) (fs cs:Array Value) (w:World) (Q:Value->Value->World->Prop)
 (eg:∀ w' args,(callFunc g args).run Tryz.prog w' = .ok (.enter g args) w')
 (hc:Calls Tryz.prog g (fs++cs) ((w.alloc (.cells #[.slice none 0 0,.slice none 0 0] 40)).alloc (.cells #[.bool false] 4)) (λ e w3=>∃ x y,e= .returned (.agg #[x,y])/\x.oneCell' =true/\y.oneCell' =true /\
  w3.heap[w.heap.size]? =some (.cells #[.slice none 0 0,.slice none 0 0] 40)/\w3.heap[w.heap.size+1]? =some (.cells #[.bool false] 4)/\Q x y w3)) :
 Calls Tryz.prog 61 #[.func (.func g) fs cs] w λ e w' =>∃ x y w3,e= .returned (.tuple #[.agg #[x,y],.bool true])/\Q x y w3/\w3.heap[w.heap.size]? =some (.cells #[.slice none 0 0,.slice none 0 0] 40)/\w3.heap[w.heap.size+1]? =some (.cells #[.bool false] 4) /\
  w' ={ w3 with heap:=(w3.heap.setIfInBounds w.heap.size (.cells #[x,y] 40)).setIfInBounds (w.heap.size+1) (.cells #[.bool true] 4) }:=by
 have hmf:∀(fn:Fn) (first cap:Array Value) (w:World),(Instr.makeFunc fn first cap).run Tryz.prog w= .ok (.func fn first cap) w:=λ _ _ _ _=>rfl
 go_enter_defers Tryz.func61,Tryz.ntmps61
 go_wp2
 refine hc.mono ?_
 rintro e w3 ⟨x,y,rfl,ox,oy,h1,h2,hq⟩
 have c0:w3.cell? ⟨w.heap.size,0,none⟩=some (.slice none 0 0):=by unfold World.cell?;simp only[h1];rfl
 have c1:w3.cell? ⟨w.heap.size,1,none⟩=some (.slice none 0 0):=by unfold World.cell?;simp only[h1];rfl
 have c2:w3.cell? ⟨w.heap.size+1,0,none⟩=some (.bool false):=by unfold World.cell?;simp only[h2];rfl
 have f0:w3.frozen? ⟨w.heap.size,0,none⟩=false:=by unfold World.frozen?;simp only[h1];rfl
 have f1:w3.frozen? ⟨w.heap.size,1,none⟩=false:=by unfold World.frozen?;simp only[h1];rfl
 have f2:w3.frozen? ⟨w.heap.size+1,0,none⟩=false:=by unfold World.frozen?;simp only[h2];rfl
 clear hc
 have sx:∀(w:World) (a:Addr) (m:Mode),(store a x m).run Tryz.prog w=stored Tryz.prog w a x m:=λ w a m=>run_store _ w a x m ox
 have sy:∀(w:World) (a:Addr) (m:Mode),(store a y m).run Tryz.prog w=stored Tryz.prog w a y m:=λ w a m=>run_store _ w a y m oy
 have hlt:w.heap.size<w3.heap.size:=(Array.getElem?_eq_some_iff.1 h1).1
 have hlt2:w.heap.size+1<w3.heap.size:=(Array.getElem?_eq_some_iff.1 h2).1
 have hW:((w3.setCell ⟨w.heap.size,0,none⟩ x).setCell ⟨w.heap.size,1,none⟩ y).setCell ⟨w.heap.size+1,0,none⟩ (.bool true)={ w3 with heap:=(w3.heap.setIfInBounds w.heap.size (.cells #[x,y] 40)).setIfInBounds (w.heap.size+1) (.cells #[.bool true] 4) }:=by
  rw[Tryz.cellSet _ _ _ _ _ _ h1]
  rw[Tryz.cellSet _ w.heap.size 1 #[x,.slice none 0 0] 40 y (by simp[hlt])]
  rw[Tryz.cellSet _ (w.heap.size+1) 0 #[.bool false] 4 (.bool true) (by
   show((w3.heap.setIfInBounds w.heap.size _).setIfInBounds w.heap.size _)[w.heap.size+1]? =_
   rw[Array.getElem?_setIfInBounds_ne (by omega),Array.getElem?_setIfInBounds_ne (by omega)];exact h2)]
  congr 1
  simp
 go_wp2
 refine leaves_cons (f:=127) (args:= #[.pointer (some ⟨w.heap.size,0,none⟩),.pointer (some ⟨w.heap.size+1,0,none⟩)]) (by simp) (by simp[go_sem]) ?_
 refine(Tryz.told_idle _ _ _).mono ?_
 rintro e u' w'' ⟨rfl,rfl,rfl⟩
 have e0:World.cell? { w3 with heap:=(w3.heap.setIfInBounds w.heap.size (.cells #[x,y] 40)).setIfInBounds (w.heap.size+1) (.cells #[.bool true] 4) } ⟨w.heap.size,0,none⟩=some x:=by
  unfold World.cell?
  simp[hlt]
 have e1:World.cell? { w3 with heap:=(w3.heap.setIfInBounds w.heap.size (.cells #[x,y] 40)).setIfInBounds (w.heap.size+1) (.cells #[.bool true] 4) } ⟨w.heap.size,1,none⟩=some y:=by
  unfold World.cell?
  simp[hlt]
 have e2:World.cell? { w3 with heap:=(w3.heap.setIfInBounds w.heap.size (.cells #[x,y] 40)).setIfInBounds (w.heap.size+1) (.cells #[.bool true] 4) } ⟨w.heap.size+1,0,none⟩=some (.bool true):=by
  unfold World.cell?
  simp[hlt2]
 generalize hG:({ w3 with heap:=(w3.heap.setIfInBounds w.heap.size (.cells #[x,y] 40)).setIfInBounds (w.heap.size+1) (.cells #[.bool true] 4) }:World)=W5 at e0 e1 e2 ⊢
 simp[Leaves,settle,results,Tryz.results61,go_sem,e0,e1,e2]
 exact⟨x,y,⟨rfl,rfl⟩,w3,hq,h1,h2,hG.symm⟩
theorem Tryz.toldC:Go.Ab.ToldC Tryz.prog [62,81] 61 40 4 (.slice none 0 0) (.slice none 0 0) :=
 ⟨⟨Tryz.f61,Tryz.func61,by kernel_rfl,by kernel_rfl⟩,λ g hg=>by
   simp only[zAE,List.not_mem_nil,or_false]at hg
   rcases hg with rfl | rfl
   ·exact⟨Tryz.f62,Tryz.func62,by kernel_rfl,by kernel_rfl⟩
   ·exact⟨Tryz.f81,Tryz.func81,by kernel_rfl,by kernel_rfl⟩,λ g fs cs w Q eg hc=>Tryz.told_run g fs cs w Q eg hc⟩
end Go.Proofs

namespace Go.Proofs
open Go.Shelf Go.RowKit Go.Lib Go.Sort
def Tryz.sortK_ren:Go.Shelf.Ren:=⟨λ | 6=>155 | 15=>190 | 14=>199 | 28=>233 | 29=>234 | 20=>238 | 21=>239 | 22=>240 | 23=>241 | 24=>242 | 25=>243 | 26=>244 | 27=>245 | 46=>273 | 47=>267 | 48=>268 | 49=>274 | 50=>275 | 57=>302 | n=>n,λ | 22=>177 | 24=>100 | 25=>99 | 3=>3 | 39=>209 | 0=>0 | 53=>246 | 55=>217 | 4=>4 | 46=>240 | 45=>239 | 50=>124 | 5=>5 | 9=>9 | 66=>259 | 70=>263 | 76=>276 | 77=>277 | n=>n,λ | n=>n⟩
theorem Tryz.sortK:Go.Proofs.SlLaysF0.n6 Tryz.prog Tryz.sortK_ren:={
 mixed:=by kernel_rfl
 f6:=⟨Tryz.f155.name,by decide,Tryz.func155.trans (congrArg some (by kernel_rfl))⟩
 f14:=⟨Tryz.f199.name,by decide,Tryz.func199.trans (congrArg some (by kernel_rfl))⟩
 f15:=Tryz.func190.trans (congrArg some (by kernel_rfl))
 f20:=⟨Tryz.f238.name,by decide,Tryz.func238.trans (congrArg some (by kernel_rfl))⟩
 f21:=⟨Tryz.f239.name,by decide,Tryz.func239.trans (congrArg some (by kernel_rfl))⟩
 f22:=⟨Tryz.f240.name,by decide,Tryz.func240.trans (congrArg some (by kernel_rfl))⟩
 f23:=⟨Tryz.f241.name,by decide,Tryz.func241.trans (congrArg some (by kernel_rfl))⟩
 f24:=⟨Tryz.f242.name,by decide,Tryz.func242.trans (congrArg some (by kernel_rfl))⟩
 f25:=⟨Tryz.f243.name,by decide,Tryz.func243.trans (congrArg some (by kernel_rfl))⟩
 f26:=⟨Tryz.f244.name,by decide,Tryz.func244.trans (congrArg some (by kernel_rfl))⟩
 f27:=⟨Tryz.f245.name,by decide,Tryz.func245.trans (congrArg some (by kernel_rfl))⟩
 f28:=Tryz.func233.trans (congrArg some (by kernel_rfl))
 f29:=Tryz.func234.trans (congrArg some (by kernel_rfl))
 f46:=⟨Tryz.f273.name,by decide,Tryz.func273.trans (congrArg some (by kernel_rfl))⟩
 f47:=Tryz.func267.trans (congrArg some (by kernel_rfl))
 f48:=Tryz.func268.trans (congrArg some (by kernel_rfl))
 f49:=⟨Tryz.f274.name,by decide,Tryz.func274.trans (congrArg some (by kernel_rfl))⟩
 f50:=⟨Tryz.f275.name,by decide,Tryz.func275.trans (congrArg some (by kernel_rfl))⟩
 f57:=⟨Tryz.f302.name,by decide,Tryz.func302.trans (congrArg some (by kernel_rfl))⟩
 t0:=Tryz.underlying0
 a0:=Tryz.isAgg0
 z0:=Tryz.sizeOf0
 v0:=Tryz.zeroValue0
 t3:=Tryz.underlying3
 a3:=Tryz.isAgg3
 z3:=Tryz.sizeOf3
 v3:=Tryz.zeroValue3
 t4:=Tryz.underlying4
 a4:=Tryz.isAgg4
 z4:=Tryz.sizeOf4
 v4:=Tryz.zeroValue4
 t5:=Tryz.underlying5
 a5:=Tryz.isAgg5
 z5:=Tryz.sizeOf5
 v5:=Tryz.zeroValue5
 t9:=Tryz.underlying9
 a9:=Tryz.isAgg9
 z9:=Tryz.sizeOf9
 v9:=Tryz.zeroValue9
 t22:=Tryz.underlying177
 a22:=Tryz.isAgg177
 z22:=Tryz.sizeOf177
 v22:=Tryz.zeroValue177
 t25:=Tryz.underlying99
 a25:=Tryz.isAgg99
 z25:=Tryz.sizeOf99
 v25:=Tryz.zeroValue99
 t39:=Tryz.underlying209
 a39:=Tryz.isAgg209
 z39:=Tryz.sizeOf209
 v39:=Tryz.zeroValue209
 t45:=Tryz.underlying239
 a45:=Tryz.isAgg239
 z45:=Tryz.sizeOf239
 v45:=Tryz.zeroValue239
 t46:=Tryz.underlying240
 a46:=Tryz.isAgg240
 z46:=Tryz.sizeOf240
 v46:=Tryz.zeroValue240
 t50:=Tryz.underlying124
 a50:=Tryz.isAgg124
 z50:=Tryz.sizeOf124
 v50:=Tryz.zeroValue124
 t53:=Tryz.underlying246
 a53:=Tryz.isAgg246
 z53:=Tryz.sizeOf246
 v53:=Tryz.zeroValue246
 t55:=Tryz.underlying217
 a55:=Tryz.isAgg217
 z55:=Tryz.sizeOf217
 v55:=Tryz.zeroValue217
 t66:=Tryz.underlying259
 a66:=Tryz.isAgg259
 z66:=Tryz.sizeOf259
 v66:=Tryz.zeroValue259
 t70:=Tryz.underlying263
 a70:=Tryz.isAgg263
 z70:=Tryz.sizeOf263
 v70:=Tryz.zeroValue263
 t76:=Tryz.underlying276
 a76:=Tryz.isAgg276
 z76:=Tryz.sizeOf276
 v76:=Tryz.zeroValue276
 t77:=Tryz.underlying277
 a77:=Tryz.isAgg277
 z77:=Tryz.sizeOf277
 v77:=Tryz.zeroValue277 }
set_option maxHeartbeats 1000000
set_option maxRecDepth 100000
theorem Tryz.walk_isNaN(x:Int) (w:World):Calls Tryz.prog 221 #[.int .i64 x] w λ e w' =>e= .returned (.bool false)/\w' =w:=by
 go_enter Tryz.func221,Tryz.ntmps221
 go_wp2
 go_ret
 exact⟨by simp,rfl⟩
def Tryz.cz(x y:Int):Int:=if x<y then -1 else if x>y then 1 else 0
theorem Tryz.walk_cmp(x y:Int) (w:World):Calls Tryz.prog 182 #[.int .i64 x,.int .i64 y] w λ e w' =>e= .returned (.int .i64 (Tryz.cz x y))/\w' =w:=by
 unfold Tryz.cz
 go_enter Tryz.func182,Tryz.ntmps182
 go_wp2_with (go_at_call 221;refine(Tryz.walk_isNaN _ _).mono ?_;rintro e w' ⟨rfl,hw⟩;rw[hw])
 all_goals (go_ret;refine⟨?_,rfl⟩;(repeat' split)<;>first | rfl | (exfalso;omega))
theorem Tryz.walk_Compare(b1 b2:Nat) (x1 x2 y1 y2:Int) (w:World) (h1:w.cell? ⟨b1,0,none⟩=some (.int .i64 x1)) (h2:w.cell? ⟨b1,1,none⟩=some (.int .i64 x2)) (h3:w.cell? ⟨b2,0,none⟩=some (.int .i64 y1)) (h4:w.cell? ⟨b2,1,none⟩=some (.int .i64 y2)) :
 Calls Tryz.prog 124 #[.slice (some ⟨b1,0,none⟩) 2 2,.slice (some ⟨b2,0,none⟩) 2 2] w λ e w' =>e= .returned (.int .i64 (if Tryz.cz x1 y1=0 then Tryz.cz x2 y2 else Tryz.cz x1 y1))/\w' =w:=by
 have k1:=λ W=>Tryz.walk_cmp x1 y1 W
 have k2:=λ W=>Tryz.walk_cmp x2 y2 W
 generalize Tryz.cz x1 y1=c1 at k1 ⊢
 generalize Tryz.cz x2 y2=c2 at k2 ⊢
 by_cases hc:c1=0
 ·subst hc
  rw[if_pos rfl]
  by_cases hd:c2=0
  ·subst hd
   go_enter Tryz.func124,Tryz.ntmps124
   go_wp2
   refine wp_loop_rounds 3 ?_
   rw[rounds_succ]
   go_wp2_with (go_at_call 182;refine(k1 _).mono ?_;rintro e w' ⟨rfl,hw⟩;rw[hw])
   rw[rounds_succ]
   go_wp2_with (go_at_call 182;refine(k2 _).mono ?_;rintro e w' ⟨rfl,hw⟩;rw[hw])
   rw[rounds_succ]
   go_wp2
   go_ret
   exact⟨rfl,rfl⟩
  ·have hb:(c2 != 0)=true:=by simpa using hd
   go_enter Tryz.func124,Tryz.ntmps124
   go_wp2
   refine wp_loop_rounds 3 ?_
   rw[rounds_succ]
   go_wp2_with (go_at_call 182;refine(k1 _).mono ?_;rintro e w' ⟨rfl,hw⟩;rw[hw])
   rw[rounds_succ]
   go_wp2_with (go_at_call 182;refine(k2 _).mono ?_;rintro e w' ⟨rfl,hw⟩;rw[hw])
   go_ret
   exact⟨rfl,rfl⟩
 ·rw[if_neg hc]
  have hb:(c1 != 0)=true:=by simpa using hc
  go_enter Tryz.func124,Tryz.ntmps124
  go_wp2
  refine wp_loop_rounds 3 ?_
  rw[rounds_succ]
  go_wp2_with (go_at_call 182;refine(k1 _).mono ?_;rintro e w' ⟨rfl,hw⟩;rw[hw])
  go_ret
  exact⟨rfl,rfl⟩
def Tryz.kty:List Go.Ab.TyI:=(List.range 101).map λ i=>bif i==3 then⟨.int .i64,1,8,[.pv (.int .i64 0)]⟩else bif i==100 then⟨.arr 2 3,2,16,[.pv (.int .i64 0),.pv (.int .i64 0)]⟩else⟨.other,0,0,[]⟩
def Tryz.kcfg:Go.Ab.Cfg:=⟨Tryz.kty,λ _=>none,λ _=>none⟩
theorem Tryz.ktys:Go.Ab.tysB Tryz.prog Tryz.kcfg=true:=by kernel_rfl
theorem Tryz.keyEq0 [GL:Go.Ab.Gl] (x1 x2 y1 y2:Int) (w:World):(Op.equalIn 10000 100 (.agg #[.int .i64 x1,.int .i64 x2]) (.agg #[.int .i64 y1,.int .i64 y2])).run Tryz.prog w= .ok (x1==y1&&x2==y2) w:=by
 have hv:∀ a b:Int,Go.Ab.VP (λ _ _=>none) (.agg #[.int .i64 a,.int .i64 b]) (.agg [.int .i64 a,.int .i64 b]):=λ a b =>
  .agg _ _ rfl (λ v hv=>by simp at hv;rcases hv with rfl | rfl<;>rfl) (λ j v p hv hp=>by
   match j with
   | 0=>simp at hv hp;subst hv;subst hp;exact .int _ _
   | 1=>simp at hv hp;subst hv;subst hp;exact .int _ _
   |j+2=>simp at hp)
 refine Go.Ab.eqP_sound (Go.Ab.tysB_ok Tryz.ktys) 6 10000 100 _ _ _ _ _ (by omega) (hv x1 x2) (hv y1 y2) ?_
 show(bif (x1==y1)then(bif (x2==y2)then some true else some false)else some false)=_
 cases x1==y1<;>cases x2==y2<;>rfl
theorem Tryz.keyEq(x1 x2 y1 y2:Int) (w:World):(Op.equalIn 10000 100 (.agg #[.int .i64 x1,.int .i64 x2]) (.agg #[.int .i64 y1,.int .i64 y2])).run Tryz.prog w= .ok (x1==y1&&x2==y2) w:=Tryz.keyEq0 (GL:=Go.Ab.Gl.triv) x1 x2 y1 y2 w
theorem Tryz.walk_compare(x1 x2 y1 y2:Int) (W:World) :
 Calls Tryz.prog 57 #[.agg #[.int .i64 x1,.int .i64 x2],.agg #[.int .i64 y1,.int .i64 y2]] W λ e w' =>e= .returned (.int .i64 (if (x1==y1&&x2==y2)=true then 0 else if Tryz.cz x1 y1=0 then Tryz.cz x2 y2 else Tryz.cz x1 y1))/\∃ q os',w' =grow (W.drewN q) os' :=by
 have he:=λ w=>Tryz.keyEq x1 x2 y1 y2 w
 generalize (x1==y1&&x2==y2)=b at he ⊢
 have hc:=λ b1 b2 w h1 h2 h3 h4=>Tryz.walk_Compare b1 b2 x1 x2 y1 y2 w h1 h2 h3 h4
 generalize (if Tryz.cz x1 y1=0 then Tryz.cz x2 y2 else Tryz.cz x1 y1)=c at hc ⊢
 cases b with
 |true =>
  go_enter Tryz.func57,Tryz.ntmps57
  go_wp2
  all_goals (go_ret;exact⟨by simp,0,_,by rw[alloc_eq_grow,alloc_eq_grow,grow_grow];rfl⟩)
 |false =>
  go_enter Tryz.func57,Tryz.ntmps57
  go_wp2
  have s1:∀ o1 o2:Obj,((W.alloc o1).alloc o2).drew.heap[W.heap.size]? =some o1:=λ o1 o2=>by
   show((W.heap.push o1).push o2)[W.heap.size]? =_
   simp[Array.getElem?_push]
  have s2:∀ o1 o2:Obj,((W.alloc o1).alloc o2).drew.heap[W.heap.size+1]? =some o2:=λ o1 o2=>by
   show((W.heap.push o1).push o2)[W.heap.size+1]? =_
   rw[Array.getElem?_push];simp
  all_goals (go_region_with (go_at_call 124;refine(hc W.heap.size (W.heap.size+1) _ (by unfold World.cell?;simp only[s1];rfl) (by unfold World.cell?;simp only[s1];rfl) (by unfold World.cell?;simp only[s2];rfl) (by unfold World.cell?;simp only[s2];rfl)).mono ?_;rintro e w' ⟨rfl,hw⟩;rw[hw]))
  all_goals (go_wp2;go_ret;exact⟨by simp,1,_,by show((W.drew).alloc _).alloc _=_;rw[alloc_eq_grow,alloc_eq_grow,grow_grow];rfl⟩)
theorem Tryz.keyCmp(x y:Int×Int):(if (x.1==y.1&&x.2==y.2)=true then 0 else if Tryz.cz x.1 y.1=0 then Tryz.cz x.2 y.2 else Tryz.cz x.1 y.1)=Go.Ab.cmpK x y:=by
 unfold Tryz.cz Go.Ab.cmpK
 by_cases h1:x.1=y.1
 ·by_cases h2:x.2=y.2
  ·simp[h1,h2]
  ·simp[h1,h2]
 ·rcases Int.lt_or_gt_of_ne h1 with h | h
  ·simp[h1,h]
  ·simp[h1,h,show ¬ x.1<y.1 by omega]
theorem Tryz.keyLt(x y:Int×Int):ltOf Go.Ab.cmpK x y=true↔x.1<y.1∨(x.1=y.1/\x.2<y.2):=by
 unfold ltOf Go.Ab.cmpK
 rw[zU]
 split
 ·constructor<;>intro<;>omega
 ·split
  ·constructor<;>intro<;>omega
  ·split
   ·constructor<;>intro<;>omega
   ·split<;>constructor<;>intro<;>omega
theorem Tryz.keySwo:SWO (ltOf Go.Ab.cmpK) where
 irrefl x:=by rw[Bool.eq_false_iff];intro h;rw[Tryz.keyLt]at h;omega
 trans x y z h1 h2:=by rw[Tryz.keyLt]at *;omega
 ntrans x y z h1 h2:=by rw[Bool.eq_false_iff]at *;intro h;simp only[ne_eq,Tryz.keyLt]at *;omega
theorem Tryz.keyTot(x y:Int×Int) (h1:ltOf Go.Ab.cmpK x y=false) (h2:ltOf Go.Ab.cmpK y x=false):x=y:=by
 rw[Bool.eq_false_iff]at h1 h2
 simp only[ne_eq,Tryz.keyLt]at h1 h2
 obtain⟨a,b⟩:=x
 obtain⟨c,d⟩:=y
 simp only[zAl]at *
 omega
theorem Tryz.keySort:Go.Ab.SortKC Tryz.prog 155 57 :=
 ⟨⟨Tryz.f155,Tryz.func155,by kernel_rfl,by kernel_rfl⟩,λ blk off cap d w h1 h2 h3=>by
   have eg:∀ args w,(callFunc 57 args).run Tryz.prog w= .ok (.enter 57 args) w:=enters_of Tryz.func57 (by kernel_rfl) rfl
   have hc:CmpLays Tryz.prog 57 #[] Go.Ab.encK 2 Go.Ab.cmpK blk off d.size w:=λ m os dk _ x y=>by
    rw[<- Tryz.keyCmp x y];exact Tryz.walk_compare x.1 x.2 y.1 y.2 _
   rw[Go.Ab.sortKeys_eq]
   exact AnyQ.slices_SortFunc_total Tryz.sortK 2 Tryz.isAgg100 Tryz.sizeOf100 Go.Ab.encK (λ _=>rfl) (λ x v hv=>by simp[Go.Ab.encK]at hv;rcases hv with rfl | rfl<;>rfl) Go.Ab.cmpK Tryz.keySwo 57 #[] blk off cap d w eg hc h1 h2 h3 Tryz.keyTot,
   λ p cap fv w=>AnyF.slices_SortFunc_none Tryz.sortK p cap fv w⟩
end Go.Proofs

namespace Go.Cf
open Go Go.Ab Go.Proofs
set_option maxRecDepth 100000
def tY_0:TyI:=⟨.scalar,1,8,[.pv .nilfn]⟩
def tY_1:TyI:=⟨.other,1,0,[]⟩
def tY_2:TyI:=⟨.scalar,1,8,[.pv (.con (.pointer none))]⟩
def tY_3:TyI:=⟨.other,0,0,[]⟩
def tY_4:TyI:=⟨(.int .i64),1,8,[.pv (.int .i64 0)]⟩
def tY_5:TyI:=⟨(.int .u8),1,1,[.pv (.int .u8 0)]⟩
def tY_6:TyI:=⟨(.int .u64),1,8,[.pv (.int .u64 0)]⟩
def tY_7:TyI:=⟨(.struct [(3,0),(3,1)]),2,16,[.pv (.int .i64 0),.pv (.int .i64 0)]⟩
def ty:List TyI:=[⟨.other,1,0,[]⟩,tY_0,tY_4,tY_4,
 ⟨.bool,1,1,[.pv (.bool false)]⟩,tY_5,tY_5,
 ⟨(.struct [(2,0),(3,1),(4,2),(6,3)]),4,24,[.pv (.int .i64 0),.pv (.int .i64 0),.pv (.bool false),.pv (.int .u8 0)]⟩,
 ⟨(.struct [(2,0),(3,1),(4,2),(6,3)]),4,24,[.pv (.int .i64 0),.pv (.int .i64 0),.pv (.bool false),.pv (.int .u8 0)]⟩,
 ⟨.str,1,16,[.pv (.str ⟨#[]⟩)]⟩,
 ⟨.str,1,16,[.pv (.str ⟨#[]⟩)]⟩,
 ⟨.str,1,16,[.pv (.str ⟨#[]⟩)]⟩,tY_6,
 ⟨.other,2,24,[]⟩,
 ⟨.other,2,24,[]⟩,tY_2,tY_2,tY_2,
 ⟨.other,1,8,[]⟩,
 ⟨.other,1,8,[]⟩,
 ⟨.scalar,1,16,[.pv (.con .nilIface)]⟩,
 ⟨(.int .i32),1,4,[.pv (.int .i32 0)]⟩,
 ⟨(.slice 141),1,24,[.nil 3]⟩,
 ⟨(.struct [(22,0)]),1,24,[.nil 3]⟩,
 ⟨(.struct [(22,0)]),1,24,[.nil 3]⟩,
 ⟨(.slice 38),1,24,[.nil 0]⟩,
 ⟨(.struct [(25,0)]),1,24,[.nil 0]⟩,
 ⟨(.struct [(25,0)]),1,24,[.nil 0]⟩,
 ⟨(.slice 3),1,24,[.nil 0]⟩,
 ⟨(.slice 48),1,24,[.nil 6]⟩,
 ⟨(.struct [(28,0),(29,1),(3,2),(28,3),(28,4),(3,5)]),6,112,[.nil 0,.nil 6,.pv (.int .i64 0),.nil 0,.nil 0,.pv (.int .i64 0)]⟩,
 ⟨(.struct [(28,0),(29,1),(3,2),(28,3),(28,4),(3,5)]),6,112,[.nil 0,.nil 6,.pv (.int .i64 0),.nil 0,.nil 0,.pv (.int .i64 0)]⟩,
 ⟨(.arr 2 3),2,16,[.pv (.int .i64 0),.pv (.int .i64 0)]⟩,
 ⟨(.slice 35),1,24,[.nil 6]⟩,
 ⟨(.struct [(3,0),(3,1),(32,2),(33,4)]),5,56,[.pv (.int .i64 0),.pv (.int .i64 0),.pv (.int .i64 0),.pv (.int .i64 0),.nil 6]⟩,
 ⟨(.struct [(3,0),(3,1),(32,2),(33,4)]),5,56,[.pv (.int .i64 0),.pv (.int .i64 0),.pv (.int .i64 0),.pv (.int .i64 0),.nil 6]⟩,tY_0,tY_0,
 ⟨(.slice 54),1,24,[.nil 0]⟩,
 ⟨(.struct [(28,0),(38,1)]),2,48,[.nil 0,.nil 0]⟩,
 ⟨(.struct [(28,0),(38,1)]),2,48,[.nil 0,.nil 0]⟩,tY_1,tY_0,tY_0,tY_0,tY_7,tY_7,
 ⟨(.struct [(3,0),(3,1),(46,2),(29,4)]),5,56,[.pv (.int .i64 0),.pv (.int .i64 0),.pv (.int .i64 0),.pv (.int .i64 0),.nil 6]⟩,
 ⟨(.struct [(3,0),(3,1),(46,2),(29,4)]),5,56,[.pv (.int .i64 0),.pv (.int .i64 0),.pv (.int .i64 0),.pv (.int .i64 0),.nil 6]⟩,tY_0,tY_0,tY_0,tY_0,tY_0,
 ⟨(.slice 46),1,24,[.nil 3]⟩,tY_0,
 ⟨(.slice 58),1,24,[.nil 3]⟩,
 ⟨(.struct [(3,0),(56,1)]),2,32,[.pv (.int .i64 0),.nil 3]⟩,
 ⟨(.struct [(3,0),(56,1)]),2,32,[.pv (.int .i64 0),.nil 3]⟩,tY_1,tY_0,tY_0,tY_0,tY_0,tY_0,tY_0,tY_0,tY_0,tY_0,tY_0,tY_0,tY_0,tY_0,tY_0,tY_0,tY_0,tY_0,tY_0,tY_0,
 ⟨(.struct [(35,0),(3,5),(4,6)]),7,72,[.pv (.int .i64 0),.pv (.int .i64 0),.pv (.int .i64 0),.pv (.int .i64 0),.nil 6,.pv (.int .i64 0),.pv (.bool false)]⟩,
 ⟨(.struct [(35,0),(3,5),(4,6)]),7,72,[.pv (.int .i64 0),.pv (.int .i64 0),.pv (.int .i64 0),.pv (.int .i64 0),.nil 6,.pv (.int .i64 0),.pv (.bool false)]⟩,tY_0,tY_0,tY_0,tY_0,tY_1,tY_0,tY_0,tY_0,tY_0,tY_0,
 ⟨(.struct [(24,0),(27,1),(31,2)]),8,160,[.nil 3,.nil 0,.nil 0,.nil 6,.pv (.int .i64 0),.nil 0,.nil 0,.pv (.int .i64 0)]⟩,
 ⟨(.struct [(24,0),(27,1),(31,2)]),8,160,[.nil 3,.nil 0,.nil 0,.nil 6,.pv (.int .i64 0),.nil 0,.nil 0,.pv (.int .i64 0)]⟩,tY_0,tY_0,
 ⟨(.map 9 3),1,8,[.pv (.con (.map none))]⟩,tY_0,tY_0,tY_0,tY_0,
 ⟨(.arr 2 3),2,16,[.pv (.int .i64 0),.pv (.int .i64 0)]⟩,tY_0,tY_0,tY_0,tY_0,tY_0,tY_0,tY_0,tY_0,tY_0,tY_0,tY_0,tY_0,tY_0,tY_0,tY_0,tY_0,tY_0,tY_0,tY_0,tY_0,tY_0,tY_0,tY_4,tY_1,tY_0,tY_0,tY_0,tY_0,tY_0,tY_0,
 ⟨(.arr 16 4),16,16,[.pv (.bool false),.pv (.bool false),.pv (.bool false),.pv (.bool false),.pv (.bool false),.pv (.bool false),.pv (.bool false),.pv (.bool false),.pv (.bool false),.pv (.bool false),.pv (.bool false),.pv (.bool false),.pv (.bool false),.pv (.bool false),.pv (.bool false),.pv (.bool false)]⟩,tY_0,tY_0,tY_0,tY_0,tY_0,tY_0,tY_0,tY_0,tY_7,tY_7,tY_0,
 ⟨(.struct [(35,0)]),5,56,[.pv (.int .i64 0),.pv (.int .i64 0),.pv (.int .i64 0),.pv (.int .i64 0),.nil 6]⟩,
 ⟨(.struct [(35,0)]),5,56,[.pv (.int .i64 0),.pv (.int .i64 0),.pv (.int .i64 0),.pv (.int .i64 0),.nil 6]⟩,tY_0,tY_0,tY_0,tY_0,tY_0,tY_2,
 ⟨(.slice 5),1,24,[.nil 0]⟩,
 ⟨(.struct [(150,0),(151,1)]),2,32,[.pv (.con (.pointer none)),.nil 0]⟩,
 ⟨(.struct [(150,0),(151,1)]),2,32,[.pv (.con (.pointer none)),.nil 0]⟩,
 ⟨.scalar,1,16,[.pv (.con .nilIface)]⟩,
 ⟨.scalar,1,16,[.pv (.con .nilIface)]⟩,tY_1,tY_0,tY_0,tY_0,tY_0,tY_0,tY_3,tY_3,tY_0,tY_0,tY_0,tY_0,tY_0,tY_0,tY_0,tY_0,tY_0,tY_0,tY_0,tY_0,
 ⟨(.map 100 38),1,8,[.pv (.con (.map none))]⟩,
 ⟨(.slice 100),1,24,[.nil 3]⟩,tY_0,tY_0,tY_0,tY_0,
 ⟨(.slice 4),1,24,[.nil 0]⟩,tY_0,tY_0,tY_0,tY_0,tY_0,tY_0,tY_0,tY_0,tY_0,
 ⟨(.slice 32),1,24,[.nil 3]⟩,tY_0,tY_0,
 ⟨(.map 196 38),1,8,[.pv (.con (.map none))]⟩,
 ⟨(.arr 2 3),2,16,[.pv (.int .i64 0),.pv (.int .i64 0)]⟩,tY_1,tY_0,tY_0,tY_0,tY_0,tY_2,
 ⟨(.slice 28),1,24,[.nil 0]⟩,tY_0,tY_0,tY_0,tY_0,tY_0,tY_6,tY_0,tY_1,tY_0,tY_0,tY_0,tY_0,tY_0,tY_6,tY_1,tY_0,tY_0,tY_0,tY_0,tY_0,tY_0,tY_1,tY_0,tY_0,tY_1,tY_0,tY_0,
 ⟨.other,1,8,[]⟩,tY_0,tY_0,tY_0,
 ⟨(.struct [(3,0),(3,1),(181,2)]),3,24,[.pv (.int .i64 0),.pv (.int .i64 0),.pv .nilfn]⟩,
 ⟨(.struct [(3,0),(3,1),(181,2)]),3,24,[.pv (.int .i64 0),.pv (.int .i64 0),.pv .nilfn]⟩,tY_0,tY_0,tY_4,tY_1,tY_0,tY_0,tY_0,tY_0,tY_0,
 ⟨(.int .u32),1,4,[.pv (.int .u32 0)]⟩,tY_0,tY_0,tY_0,tY_0,tY_0,tY_0,tY_0,
 ⟨(.arr 24 5),24,24,(List.replicate 24 (.pv (.int .u8 0)))⟩,tY_0,tY_1,tY_0,tY_0,tY_6,tY_0,tY_0,tY_0,tY_2,tY_0,tY_0,tY_0,tY_0,tY_0,
 ⟨(.arr 20 217),20,160,[.pv (.int .u64 0),.pv (.int .u64 0),.pv (.int .u64 0),.pv (.int .u64 0),.pv (.int .u64 0),.pv (.int .u64 0),.pv (.int .u64 0),.pv (.int .u64 0),.pv (.int .u64 0),.pv (.int .u64 0),.pv (.int .u64 0),.pv (.int .u64 0),.pv (.int .u64 0),.pv (.int .u64 0),.pv (.int .u64 0),.pv (.int .u64 0),.pv (.int .u64 0),.pv (.int .u64 0),.pv (.int .u64 0),.pv (.int .u64 0)]⟩,
 ⟨.other,65,65,[]⟩,tY_0,tY_0,tY_0,tY_0,tY_0,tY_2,tY_1,tY_0,tY_0,tY_0,tY_0,
 ⟨(.arr 32 5),32,32,(List.replicate 32 (.pv (.int .u8 0)))⟩,
 ⟨(.arr 64 5),64,64,(List.replicate 64 (.pv (.int .u8 0)))⟩,
 ⟨.other,4,40,[]⟩,
 ⟨.other,4,40,[]⟩,tY_3,tY_3,tY_3,tY_5,tY_5,tY_0,
 ⟨(.int .i32),1,4,[.pv (.int .i32 0)]⟩,
 ⟨(.int .i32),1,4,[.pv (.int .i32 0)]⟩,
 ⟨.other,11,48,[]⟩,
 ⟨.other,11,48,[]⟩]
def h3:Hint:=⟨4,⟨[],[],[],[],[],[]⟩,[],[],[],[(6,[4,5,6,7,11])]⟩
def hZ_(n:Nat):Hint:=⟨n,⟨[],[],[],[],[],[]⟩,[],[],[],[]⟩
def fi3:FnI:=mkFn Tryz.f3 h3
def h5:Hint:=⟨4,⟨[],[],[],[],[],[]⟩,[],[],[],[(5,[4,5,6,7])]⟩
def fi5:FnI:=mkFn Tryz.f5 h5
def fi11:FnI:=mkFn Tryz.f11 ⟨5,⟨[],[],[],[],[],[]⟩,[],[],[],[(6,[5,6,7,8,9])]⟩
def fi13:FnI:=mkFn Tryz.f13 (hZ_ 0)
def fi14:FnI:=mkFn Tryz.f14 (hZ_ 4)
def fi15:FnI:=mkFn Tryz.f15 ⟨4,⟨[],[],[],[],[],[]⟩,[],[],[],[(3,[4,5,6,7,8])]⟩
def fi16:FnI:=zX7 Tryz.f16 ⟨2,⟨[],[],[],[],[],[]⟩,[(5,[2,3,5,27,28]),(11,[51])],[(5,[5]),(11,[4])],[],[(3,[2,3])]⟩ 3 5
def fi17:FnI:=mkFn Tryz.f17 ⟨2,⟨[],[12,13],[],[],[],[]⟩,[],[],[],[]⟩
def fi19:FnI:=mkFn Tryz.f19 (hZ_ 3)
def fi20:FnI:=mkFn Tryz.f20 ⟨2,⟨[],[],[],[],[],[]⟩,[(5,[2,5,6])],[(5,[4])],[],[(4,[2,5])]⟩
def fi22:FnI:=mkFn Tryz.f22 ⟨2,⟨[],[],[],[],[],[]⟩,[(6,[3,6,43,44,45])],[(6,[3,4,6])],[],[(4,[2,3]),(14,[3,10])]⟩
def fi23:FnI:=mkFn Tryz.f23 ⟨2,⟨[],[],[],[],[],[]⟩,[(4,[0,1,5])],[(4,[4])],[],[]⟩
def fi24:FnI:=mkFn Tryz.f24 (hZ_ 1)
def fi25:FnI:=mkFn Tryz.f25 ⟨4,⟨[],[36,37,38],[],[],[],[]⟩,[],[],[],[(3,[4,5,6,7,8])]⟩
def fi26:FnI:=mkFn Tryz.f26 ⟨1,⟨[1],[],[],[],[],[]⟩,[(3,[1])],[(3,[1])],[(1,[2])],[(6,[1,20])]⟩
def fi27:FnI:=mkFn Tryz.f27 (hZ_ 3)
def fi28:FnI:=mkFn Tryz.f28 (hZ_ 1)
def fi32:FnI:=mkFn Tryz.f32 (hZ_ 2)
def fi35:FnI:=mkFn Tryz.f35 ⟨2,⟨[],[],[],[],[],[]⟩,[(5,[2,3,6])],[(5,[4])],[],[(4,[2,3])]⟩
def fi38:FnI:=mkFn Tryz.f38 (hZ_ 2)
def fi39:FnI:=mkFn Tryz.f39 ⟨2,⟨[6,10,13,42,66,72],[],[],[],[],[]⟩,[(5,[1,2,4,6,26,27,28]),(14,[4,6,10,48,49,50]),(18,[4,6,10,12,13,48,49,50,54,55,56])],[(5,[1,2,4,5,6]),(14,[4,10]),(18,[4,6,10,13,48,49,50])],[(22,[26]),(24,[20])],[(3,[1,2,4])]⟩
def fi40:FnI:=mkFn Tryz.f40 (hZ_ 2)
def fi41:FnI:=mkFn Tryz.f41 ⟨1,⟨[3],[],[],[],[],[]⟩,[(3,[1,3,10,11,12]),(11,[1,6,31,32,33])],[(3,[1,2]),(11,[1,2])],[],[]⟩
def fi42:FnI:=mkFn Tryz.f42 (hZ_ 2)
def fi43:FnI:=mkFn Tryz.f43 ⟨2,⟨[5],[8,15,16],[8],[(8,[(.agg [.pv (.slice 0 []),.view 0 0 none],[.row false 0 0 []])])],[16],[]⟩,[],[],[(3,[]),(4,[])],[]⟩
def fi44:FnI:=mkFn Tryz.f44 ⟨4,⟨[],[],[],[],[],[]⟩,[],[],[],[(3,[4,5,6,7,8]),(5,[6,8,10,11,40]),(6,[8,10,11])]⟩
def fi45:FnI:=mkFn Tryz.f45 ⟨3,⟨[],[],[],[],[],[]⟩,[],[],[],[(4,[4,5])]⟩
def fi46:FnI:=mkFn Tryz.f46 (hZ_ 0)
def fi47:FnI:=mkFn Tryz.f47 (hZ_ 3)
def fi48:FnI:=mkFn Tryz.f48 ⟨2,⟨[],[],[],[],[],[]⟩,[(3,[1,2,5,6])],[(3,[5])],[],[(5,[1,2,5,6])]⟩
def fi49:FnI:=mkFn Tryz.f49 ⟨3,⟨[],[],[],[],[],[]⟩,[],[],[],[(4,[3,4,5])]⟩
def fi50:FnI:=mkFn Tryz.f50 ⟨2,⟨[],[28,35],[],[],[],[]⟩,[(4,[2,21,22,23])],[(4,[4])],[],[(3,[2,3])]⟩
def fi51:FnI:=mkFn Tryz.f51 ⟨2,⟨[],[],[],[],[],[]⟩,[],[],[],[(13,[2,3,4,7])]⟩
def fi52:FnI:=mkFn Tryz.f52 ⟨2,⟨[],[],[],[],[],[]⟩,[(4,[0,1,12,13])],[(4,[4])],[],[]⟩
def fi53:FnI:=mkFn Tryz.f53 ⟨1,⟨[],[21,23],[],[],[],[]⟩,[(3,[3,6,7,8])],[(3,[3])],[],[]⟩
def fi54:FnI:=mkFn Tryz.f54 ⟨2,⟨[],[],[],[],[],[]⟩,[(2,[0,1,7,8])],[(2,[4])],[],[]⟩
def fi55:FnI:=mkFn Tryz.f55 ⟨2,⟨[],[23],[],[],[],[]⟩,[(2,[0,1,5])],[(2,[4])],[],[]⟩
def fi56:FnI:=mkFn Tryz.f56 (hZ_ 3)
def fi57:FnI:=mkFn Tryz.f57 (hZ_ 2)
def fi58:FnI:=mkFn Tryz.f58 ⟨2,⟨[],[],[],[],[],[]⟩,[],[],[],[(3,[0,1,4]),(6,[4,5])]⟩
def fi59:FnI:=mkFn Tryz.f59 (hZ_ 2)
def fi60:FnI:=mkFn Tryz.f60 (hZ_ 1)
def fi61:FnI:=mkFn Tryz.f61 (hZ_ 1)
def fi63:FnI:=mkFn Tryz.f63 (hZ_ 2)
def fi64:FnI:=mkFn Tryz.f64 ⟨4,⟨[10,45],[],[],[],[],[]⟩,[(5,[2,3,5,8,10,36,37])],[(5,[2,5,8,10])],[(9,[20])],[(3,[2,3,4,5,8])]⟩
def fi65:FnI:=mkFn Tryz.f65 ⟨2,⟨[6,65],[],[],[],[],[]⟩,[(5,[3,4,6,45,46,47]),(8,[3,4,6,8,45,46,47,52,53,54])],[(5,[4,6]),(8,[3,4,6,45,46,47])],[(2,[12]),(13,[12])],[(4,[2,3,4,6])]⟩
def fi66:FnI:=mkFn Tryz.f66 (hZ_ 2)
def fi67:FnI:=mkFn Tryz.f67 (hZ_ 1)
def fi68:FnI:=mkFn Tryz.f68 (hZ_ 2)
def fi69:FnI:=mkFn Tryz.f69 ⟨3,⟨[7,52],[],[],[],[],[]⟩,[(3,[2,3,4,7,14,15]),(8,[2,3,4,7,8,14,15,43,44])],[(3,[7]),(8,[2,3,4,7,14,15])],[],[(7,[2,3,4,7,8,9,14,15])]⟩
def fi70:FnI:=mkFn Tryz.f70 (hZ_ 1)
def fi71:FnI:=mkFn Tryz.f71 ⟨1,⟨[3],[8,9,11,13],[],[(13,[(.pv .undef,[.dead])])],[11],[]⟩,[],[],[(4,[]),(5,[]),(6,[])],[]⟩
def fi72:FnI:=mkFn Tryz.f72 (hZ_ 2)
def fi73:FnI:=mkFn Tryz.f73 ⟨1,⟨[],[5,7,9],[5],[(5,[(.view 0 0 none,[.row false 0 0 []])]),(9,[(.pv .undef,[.dead])])],[7],[]⟩,[],[],[(2,[]),(3,[])],[]⟩
def fi74:FnI:=mkFn Tryz.f74 (hZ_ 2)
def fi75:FnI:=mkFn Tryz.f75 ⟨1,⟨[],[5,6],[],[],[],[]⟩,[],[],[],[]⟩
def fi76:FnI:=mkFn Tryz.f76 (hZ_ 1)
def fi77:FnI:=mkFn Tryz.f77 (hZ_ 1)
def fi78:FnI:=mkFn Tryz.f78 ⟨5,⟨[],[41,47],[],[],[],[8,9,41,47]⟩,[],[],[],[]⟩
def fi79:FnI:=mkFn Tryz.f79 ⟨2,⟨[5,21],[],[],[],[],[]⟩,[(3,[2,5,8,9,10])],[(3,[5])],[],[]⟩
def fi80:FnI:=mkFn Tryz.f80 ⟨3,⟨[],[16,17],[],[],[],[]⟩,[],[],[],[]⟩
def fi81:FnI:=mkFn Tryz.f81 ⟨2,⟨[],[5],[],[],[],[]⟩,[],[],[],[]⟩
def fi82:FnI:=mkFn Tryz.f82 (hZ_ 2)
def fi83:FnI:=mkFn Tryz.f83 ⟨2,⟨[],[],[],[],[],[]⟩,[],[],[],[(4,[1,2,11]),(7,[2,6])]⟩
def fi87:FnI:=mkFn Tryz.f87 ⟨3,⟨[11,15,19,23,49,68,71,75,81,93,112,137,143,149],[79],[],[],[79],[]⟩,[(8,[1,2,3,6,8,10,11,51,52,53]),(18,[2,3,6,10,11,15,84,85]),(23,[2,3,6,10,15,96,97,98]),(27,[2,3,6,10,15,18,19,96,97,98,113,114,115]),(32,[2,3,6,10,15,18,19,22,23,96,97,98,113,114,115,125,126,127])],[(8,[1,2,3,6,10,11]),(18,[2,3,6,10,11,15]),(23,[6,15]),(27,[2,3,6,10,15,19,96,97,98]),(32,[2,3,6,10,15,18,19,23,96,97,98,113,114,115])],[(15,[]),(36,[46]),(38,[38]),(40,[30])],[(5,[1,2,3,6,8]),(13,[1,2,3,6,8,10,11,13,14,51,52,53])]⟩
def fi93:FnI:=mkFn Tryz.f93 ⟨2,⟨[],[],[],[],[],[]⟩,[(4,[0,1,5])],[(4,[4])],[],[]⟩
def fi96:FnI:=mkFn Tryz.f96 ⟨1,⟨[2,5,7],[],[],[],[],[]⟩,[],[],[],[]⟩
def fi97:FnI:=mkFn Tryz.f97 ⟨2,⟨[5,23],[19],[],[],[],[]⟩,[(3,[1,5,9,10,11])],[(3,[5])],[],[]⟩
def fi98:FnI:=mkFn Tryz.f98 (hZ_ 2)
def fi99:FnI:=mkFn Tryz.f99 (hZ_ 1)
def z4Q:FnI:=mkFn Tryz.f100 (hZ_ 1)
def z4R:FnI:=mkFn Tryz.f101 (hZ_ 2)
def zUx:FnI:=mkFn Tryz.f102 ⟨2,⟨[5,27],[],[],[],[],[]⟩,[(3,[1,4,5,13,14,15])],[(3,[4,5])],[(8,[])],[]⟩
def z4S:FnI:=mkFn Tryz.f103 (hZ_ 3)
def z4T:FnI:=mkFn Tryz.f104 (hZ_ 2)
def z4U:FnI:=mkFn Tryz.f105 (hZ_ 3)
def z4V:FnI:=mkFn Tryz.f106 (hZ_ 3)
def z4W:FnI:=mkFn Tryz.f107 (hZ_ 1)
def z4X:FnI:=mkFn Tryz.f108 ⟨2,⟨[],[8],[],[],[],[]⟩,[],[],[],[]⟩
def z4Y:FnI:=mkFn Tryz.f109 (hZ_ 3)
def zUy:FnI:=mkFn Tryz.f110 ⟨2,⟨[],[10,21],[],[],[],[]⟩,[(4,[1,13,14,15])],[(4,[4])],[],[]⟩
def z4Z:FnI:=mkFn Tryz.f111 (hZ_ 3)
def z1H:FnI:=mkFn Tryz.f112 ⟨3,⟨[],[],[],[],[],[7,8]⟩,[],[],[],[(4,[3,4,5,12,13])]⟩
def z40:FnI:=mkFn Tryz.f113 (hZ_ 3)
def z41:FnI:=mkFn Tryz.f114 (hZ_ 2)
def z42:FnI:=mkFn Tryz.f115 ⟨2,⟨[],[7],[],[],[],[]⟩,[],[],[],[]⟩
def z1I:FnI:=mkFn Tryz.f116 ⟨2,⟨[5,22],[],[],[],[],[]⟩,[(3,[2,5,8,9,10])],[(3,[5])],[],[]⟩
def z43:FnI:=mkFn Tryz.f117 (hZ_ 1)
def z44:FnI:=mkFn Tryz.f118 (hZ_ 4)
def zTH:FnI:=mkFn Tryz.f119 ⟨4,⟨[16,33,50,54,93],[],[],[],[],[]⟩,[(4,[6,7,8,9,10,11,35,36,37]),(12,[8,9,11,16,65,66,67]),(17,[8,9,11,16,18,65,66,67,81,82,83])],[(4,[6,7,8,9,11]),(12,[8,16]),(17,[8,9,11,16,65,66,67])],[(22,[32])],[]⟩
def zNl:FnI:=mkFn Tryz.f120 ⟨4,⟨[11,96],[],[],[],[],[]⟩,[(5,[7,8,9,10,11,12,34,35,36]),(7,[7,8,9,10,11,12,14,34,35,36]),(10,[7,8,9,10,11,12,14,15,34,35,36])],[(5,[8,11]),(7,[7,8,9,10,11,12,14,34,35,36]),(10,[7,8,9,10,11,12,34,35,36])],[(14,[22])],[(9,[7,8,9,10,11,12,14,34,35,36]),(12,[7,8,9,10,11,12,14,15,34,35,36])]⟩
def z1J:FnI:=mkFn Tryz.f124 ⟨2,⟨[],[],[],[],[],[]⟩,[(2,[0,1,9,10,11])],[(2,[0,1,4])],[],[]⟩
def zTI:FnI:=mkFn Tryz.f125 ⟨2,⟨[],[],[],[],[],[]⟩,[(3,[3,5,6])],[(3,[5])],[],[(2,[3,5]),(5,[3,6])]⟩
def zQE:FnI:=mkFn Tryz.f126 ⟨1,⟨[],[],[],[],[],[]⟩,[(3,[1,3,4]),(7,[1,3,4,5])],[(3,[3]),(7,[1,3,4])],[],[(5,[1,4]),(9,[1,4,5])]⟩
def z47:FnI:=mkFn Tryz.f128 (hZ_ 3)
def z1K:FnI:=mkFn Tryz.f129 ⟨2,⟨[],[],[],[],[],[]⟩,[],[],[],[(3,[0,1])]⟩
def zX9:FnI:=mkFn Tryz.f130 ⟨1,⟨[6,24,33],[24],[24],[(24,[(.view 0 0 none,[.row false 0 0 []])])],[],[]⟩,[(3,[0,3,9,10,11]),(11,[6,25,26,27])],[(3,[0,3]),(11,[6])],[],[]⟩
def zXa:FnI:=mkFn Tryz.f131 ⟨1,⟨[6,24,33],[24],[24],[(24,[(.view 0 0 none,[.row false 0 3 []])])],[],[]⟩,[(3,[0,3,9,10,11]),(11,[6,25,26,27])],[(3,[0,3]),(11,[6])],[],[]⟩
def z48:FnI:=mkFn Tryz.f132 (hZ_ 2)
def z49:FnI:=mkFn Tryz.f133 (hZ_ 1)
def z4a:FnI:=mkFn Tryz.f134 (hZ_ 1)
def z1L:FnI:=mkFn Tryz.f135 ⟨2,⟨[],[],[],[],[],[]⟩,[(2,[0,1,7,8])],[(2,[4])],[],[]⟩
def z4b:FnI:=mkFn Tryz.f136 ⟨1,⟨[],[5,6],[],[],[],[]⟩,[],[],[],[]⟩
def zUz:FnI:=mkFn Tryz.f137 ⟨3,⟨[],[12,25],[],[],[],[]⟩,[(4,[1,2,15,16,17])],[(4,[6])],[],[]⟩
def z4c:FnI:=mkFn Tryz.f138 ⟨3,⟨[2,13],[],[],[],[],[]⟩,[],[],[],[]⟩
def z6W:FnI:=mkFn Tryz.f139 (hZ_ 1)
def z6X:FnI:=mkFn Tryz.f140 ⟨1,⟨[0],[],[],[],[],[]⟩,[(4,[0,3]),(9,[0,3,4,5])],[(4,[0,2]),(9,[0,3])],[],[]⟩
def z4d:FnI:=mkFn Tryz.f141 (hZ_ 2)
def z4e:FnI:=mkFn Tryz.f142 (hZ_ 2)
def zXb:FnI:=mkFn Tryz.f143 ⟨1,⟨[],[],[],[],[],[]⟩,[],[],[],[(2,[1,3]),(3,[1,3,4])]⟩
def z4f:FnI:=mkFn Tryz.f144 (hZ_ 1)
def z4g:FnI:=mkFn Tryz.f145 (hZ_ 4)
def z6Y:FnI:=mkFn Tryz.f154 (hZ_ 2)
def z6Z:FnI:=mkFn Tryz.f155 ⟨2,⟨[],[13],[],[],[],[]⟩,[],[],[],[]⟩
def z4h:FnI:=mkFn Tryz.f156 (hZ_ 1)
def z60:FnI:=mkFn Tryz.f157 ⟨1,⟨[],[],[],[],[],[]⟩,[(6,[2,3,4,5,14,15,16])],[(6,[2,3,4,5])],[],[]⟩
def z4i:FnI:=mkFn Tryz.f164 (hZ_ 1)
def z1M:FnI:=mkFn Tryz.f165 ⟨2,⟨[],[],[],[],[],[]⟩,[(2,[0,1,7,8])],[(2,[4])],[],[]⟩
def z4j:FnI:=mkFn Tryz.f166 ⟨1,⟨[2,5,7],[],[],[],[],[]⟩,[],[],[],[]⟩
def z1N:FnI:=mkFn Tryz.f167 ⟨2,⟨[],[],[],[],[],[]⟩,[(2,[0,1,7,8])],[(2,[4])],[],[]⟩
def z4k:FnI:=mkFn Tryz.f168 (hZ_ 1)
def z4l:FnI:=mkFn Tryz.f169 (hZ_ 3)
def zTJ:FnI:=mkFn Tryz.f170 ⟨3,⟨[],[18,27,43,60],[],[],[],[]⟩,[(2,[0,1,2,6,7,8]),(7,[0,1,2,6]),(9,[0,1,2,6,7,8])],[(2,[0,1,2,6,7]),(7,[]),(9,[0,1,2,6,7])],[],[]⟩
def z4m:FnI:=mkFn Tryz.f171 (hZ_ 1)
def z4n:FnI:=mkFn Tryz.f172 (hZ_ 2)
def zTK:FnI:=mkFn Tryz.f173 ⟨3,⟨[7,61],[],[],[],[],[]⟩,[(3,[1,2,3,7,18,19,20]),(8,[1,2,3,7,18,19,20,42,43,44])],[(3,[7]),(8,[1,2,3,7,18,19,20])],[(10,[29])],[(11,[1,2,3,7,14,18,19,20,42,43,44,57])]⟩
def z4o:FnI:=mkFn Tryz.f174 (hZ_ 1)
def z1O:FnI:=mkFn Tryz.f175 ⟨2,⟨[],[16],[],[],[],[]⟩,[(2,[0,1,7,8])],[(2,[4])],[],[]⟩
def z4p:FnI:=mkFn Tryz.f176 ⟨2,⟨[],[],[],[],[],[]⟩,[],[],[(2,[100013])],[]⟩
def z4q:FnI:=mkFn Tryz.f177 (hZ_ 2)
def z4r:FnI:=mkFn Tryz.f178 ⟨2,⟨[2,3],[],[],[],[],[]⟩,[],[],[(1,[4,6]),(2,[4,6])],[]⟩
def z4s:FnI:=mkFn Tryz.f179 (hZ_ 2)
def z4t:FnI:=mkFn Tryz.f182 (hZ_ 2)
def z4u:FnI:=mkFn Tryz.f183 (hZ_ 2)
def z1P:FnI:=mkFn Tryz.f184 ⟨2,⟨[0,4,22],[],[],[],[],[]⟩,[],[],[],[(3,[0,1])]⟩
def z1Q:FnI:=mkFn Tryz.f185 ⟨2,⟨[0,4,22],[],[],[],[],[]⟩,[],[],[],[(3,[0,1])]⟩
def z1R:FnI:=mkFn Tryz.f186 ⟨2,⟨[],[],[],[],[],[]⟩,[(2,[0,1,7,8])],[(2,[4])],[],[]⟩
def z4v:FnI:=mkFn Tryz.f187 (hZ_ 3)
def zTL:FnI:=mkFn Tryz.f188 ⟨1,⟨[],[],[],[],[],[]⟩,[],[],[],[(3,[1,4]),(4,[1,4,5]),(5,[1,4,5,6])]⟩
def z4w:FnI:=mkFn Tryz.f191 (hZ_ 1)
def z4x:FnI:=mkFn Tryz.f200 (hZ_ 2)
def z4y:FnI:=mkFn Tryz.f201 (hZ_ 1)
def z4z:FnI:=mkFn Tryz.f202 (hZ_ 0)
def z5A:FnI:=mkFn Tryz.f204 (hZ_ 0)
def z1S:FnI:=mkFn Tryz.f209 ⟨1,⟨[],[],[],[],[],[]⟩,[(3,[3,9,10,11])],[(3,[3])],[],[]⟩
def zXc:FnI:=mkFn Tryz.f210 ⟨3,⟨[8,49],[],[],[],[],[]⟩,[(11,[1,2,3,6,8,37,38,39])],[(11,[3,6,8])],[(15,[16])],[(8,[2,6,7])]⟩
def zTM:FnI:=mkFn Tryz.f211 ⟨4,⟨[0],[32],[],[],[],[]⟩,[(1,[0,1,2,3,8]),(4,[0,1,2,3,8,9])],[(1,[]),(4,[0,1,2,3,8])],[],[(6,[0,1,2,3,8,9])]⟩
def zG2:FnI:=mkFn Tryz.f212 ⟨5,⟨[0],[49,101,169,191,205,219],[],[],[],[]⟩,[(3,[0,1,4,10,11]),(9,[0,10,13]),(15,[0,2,4,14,15]),(21,[0,14,17]),(33,[0,1,2,3,4,18,19,20,21,22])],[(3,[0,1,10]),(9,[]),(15,[0,2,14]),(21,[]),(33,[0,1,2,3,4,18,19,20])],[(40,[0]),(42,[0]),(44,[0])],[(32,[0,1,2,3,4,18,19,20,21]),(40,[0,1,2,3,4,18,20,24,185]),(41,[0,1,3,4,18,20,24]),(42,[0,1,3,4,18,20,24,199]),(43,[0,3,4,18,24]),(44,[0,3,4,18,24,213])]⟩
def z1T:FnI:=mkFn Tryz.f213 ⟨2,⟨[],[],[],[],[],[]⟩,[(2,[0,3,7,8])],[(2,[4])],[],[]⟩
def zXd:FnI:=mkFn Tryz.f214 ⟨1,⟨[],[],[],[],[],[5,6]⟩,[],[],[],[(3,[1]),(6,[5,6])]⟩
def z5B:FnI:=mkFn Tryz.f215 (hZ_ 1)
def z1U:FnI:=mkFn Tryz.f216 ⟨1,⟨[],[],[],[],[],[]⟩,[(3,[3,6,7,8])],[(3,[2,3])],[],[]⟩
def z5C:FnI:=mkFn Tryz.f217 (hZ_ 1)
def z5D:FnI:=mkFn Tryz.f218 (hZ_ 1)
def z5E:FnI:=mkFn Tryz.f221 (hZ_ 1)
def zXe:FnI:=mkFn Tryz.f222 ⟨2,⟨[],[],[],[],[],[]⟩,[(3,[1,2,5,6])],[(3,[5])],[],[(5,[1,2,5,6])]⟩
def z5F:FnI:=mkFn Tryz.f223 (hZ_ 1)
def z5G:FnI:=mkFn Tryz.f246 (hZ_ 2)
def z5H:FnI:=mkFn Tryz.f248 (hZ_ 1)
def z1V:FnI:=mkFn Tryz.f249 ⟨5,⟨[],[31,46,57],[],[],[],[]⟩,[(2,[0,2,4,10,11])],[(2,[0,2,4,10])],[],[]⟩
def z5I:FnI:=mkFn Tryz.f254 (hZ_ 1)
def z5J:FnI:=mkFn Tryz.f255 (hZ_ 2)
def z5K:FnI:=mkFn Tryz.f256 (hZ_ 2)
def z5L:FnI:=mkFn Tryz.f257 (hZ_ 2)
def z5M:FnI:=mkFn Tryz.f258 (hZ_ 2)
def z5N:FnI:=mkFn Tryz.f259 (hZ_ 2)
def z5O:FnI:=mkFn Tryz.f260 (hZ_ 1)
def z5P:FnI:=mkFn Tryz.f261 (hZ_ 1)
def z5Q:FnI:=mkFn Tryz.f262 (hZ_ 1)
def z5R:FnI:=mkFn Tryz.f263 (hZ_ 1)
def z5S:FnI:=mkFn Tryz.f264 (hZ_ 1)
def z5T:FnI:=mkFn Tryz.f265 (hZ_ 1)
def z1W:FnI:=mkFn Tryz.f285 ⟨5,⟨[0],[],[],[],[],[]⟩,[(1,[0,1,2,3,10])],[(1,[])],[],[]⟩
def z5U:FnI:=mkFn Tryz.f290 (hZ_ 2)
def z5V:FnI:=mkFn Tryz.f291 (hZ_ 3)
def z5W:FnI:=mkFn Tryz.f292 (hZ_ 2)
def z5X:FnI:=mkFn Tryz.f293 (hZ_ 2)
def z1X:FnI:=mkFn Tryz.f294 ⟨2,⟨[],[],[],[],[],[]⟩,[],[],[],[(5,[0,1,6,7,8])]⟩
def z61:FnI:=mkFn Tryz.f295 (hZ_ 2)
def z5Y:FnI:=mkFn Tryz.f296 (hZ_ 1)
def z1Y:FnI:=mkFn Tryz.f297 ⟨2,⟨[],[],[],[],[],[]⟩,[],[],[],[(3,[0,1])]⟩
def z5Z:FnI:=mkFn Tryz.f298 (hZ_ 4)
def z52:FnI:=mkFn Tryz.f299 (hZ_ 1)
def tab:List (Nat×FnI):=[(3,fi3),(5,fi5),(11,fi11),(13,fi13),(14,fi14),(15,fi15),(16,fi16),(17,fi17),(19,fi19),(20,fi20),(22,fi22),(23,fi23),(24,fi24),(25,fi25),(26,fi26),(27,fi27),(28,fi28),(32,fi32),(35,fi35),(38,fi38),(39,fi39),(40,fi40),(41,fi41),(42,fi42),(43,fi43),(44,fi44),(45,fi45),(46,fi46),(47,fi47),(48,fi48),(49,fi49),(50,fi50),(51,fi51),(52,fi52),(53,fi53),(54,fi54),(55,fi55),(56,fi56),(57,fi57),(58,fi58),(59,fi59),(60,fi60),(61,fi61),(63,fi63),(64,fi64),(65,fi65),(66,fi66),(67,fi67),(68,fi68),(69,fi69),(70,fi70),(71,fi71),(72,fi72),(73,fi73),(74,fi74),(75,fi75),(76,fi76),(77,fi77),(78,fi78),(79,fi79),(80,fi80),(81,fi81),(82,fi82),(83,fi83),(87,fi87),(93,fi93),(96,fi96),(97,fi97),(98,fi98),(99,fi99),(100,z4Q),(101,z4R),(102,zUx),(103,z4S),(104,z4T),(105,z4U),(106,z4V),(107,z4W),(108,z4X),(109,z4Y),(110,zUy),(111,z4Z),(112,z1H),(113,z40),(114,z41),(115,z42),(116,z1I),(117,z43),(118,z44),(119,zTH),(120,zNl),(124,z1J),(125,zTI),(126,zQE),(128,z47),(129,z1K),(130,zX9),(131,zXa),(132,z48),(133,z49),(134,z4a),(135,z1L),(136,z4b),(137,zUz),(138,z4c),(139,z6W),(140,z6X),(141,z4d),(142,z4e),(143,zXb),(144,z4f),(145,z4g),(154,z6Y),(155,z6Z),(156,z4h),(157,z60),(164,z4i),(165,z1M),(166,z4j),(167,z1N),(168,z4k),(169,z4l),(170,zTJ),(171,z4m),(172,z4n),(173,zTK),(174,z4o),(175,z1O),(176,z4p),(177,z4q),(178,z4r),(179,z4s),(182,z4t),(183,z4u),(184,z1P),(185,z1Q),(186,z1R),(187,z4v),(188,zTL),(191,z4w),(200,z4x),(201,z4y),(202,z4z),(204,z5A),(209,z1S),(210,zXc),(211,zTM),(212,zG2),(213,z1T),(214,zXd),(215,z5B),(216,z1U),(217,z5C),(218,z5D),(221,z5E),(222,zXe),(223,z5F),(246,z5G),(248,z5H),(249,z1V),(254,z5I),(255,z5J),(256,z5K),(257,z5L),(258,z5M),(259,z5N),(260,z5O),(261,z5P),(262,z5Q),(263,z5R),(264,z5S),(265,z5T),(285,z1W),(290,z5U),(291,z5V),(292,z5W),(293,z5X),(294,z1X),(295,z61),(296,z5Y),(297,z1Y),(298,z5Z),(299,z52)]
def etab:List (Nat×ExtF):=[(96,zFt 0),(166,zFt 3),(53,zKz),(61,(zR1 [62,81])),(139,zMc),(140,zFi),(155,(zR0 57)),(295,zI0),(203,zOP)]
def cfg:Cfg:=⟨ty,z0w tab,z0z etab⟩
instance gl0:Gl:=Gl.triv
theorem z3N:zZO cfg fi96 0:=λ call xs=>⟨by kernel_rfl,by kernel_rfl,by kernel_rfl,by kernel_rfl⟩
theorem z1Z:zZO cfg z4j 3:=λ call xs=>⟨by kernel_rfl,by kernel_rfl,by kernel_rfl,by kernel_rfl⟩
theorem tys:tysB Tryz.prog cfg=true:=by kernel_rfl
theorem fns:AllF Tryz.prog cfg tab:=⟨zO Tryz.func3 (by kernel_rfl),zO Tryz.func5 (by kernel_rfl),zO Tryz.func11 (by kernel_rfl),zO Tryz.func13 (by kernel_rfl),zO Tryz.func14 (by kernel_rfl),zO Tryz.func15 (by kernel_rfl),z3D (r:=4) Tryz.func16 rfl (by kernel_rfl),zO Tryz.func17 (by kernel_rfl),zO Tryz.func19 (by kernel_rfl),zO Tryz.func20 (by kernel_rfl),zO Tryz.func22 (by kernel_rfl),zO Tryz.func23 (by kernel_rfl),zO Tryz.func24 (by kernel_rfl),zO Tryz.func25 (by kernel_rfl),zO Tryz.func26 (by kernel_rfl),zO Tryz.func27 (by kernel_rfl),zO Tryz.func28 (by kernel_rfl),zO Tryz.func32 (by kernel_rfl),zO Tryz.func35 (by kernel_rfl),zO Tryz.func38 (by kernel_rfl),zO Tryz.func39 (by kernel_rfl),zO Tryz.func40 (by kernel_rfl),zO Tryz.func41 (by kernel_rfl),zO Tryz.func42 (by kernel_rfl),zO Tryz.func43 (by kernel_rfl),zO Tryz.func44 (by kernel_rfl),zO Tryz.func45 (by kernel_rfl),zO Tryz.func46 (by kernel_rfl),zO Tryz.func47 (by kernel_rfl),zO Tryz.func48 (by kernel_rfl),zO Tryz.func49 (by kernel_rfl),zO Tryz.func50 (by kernel_rfl),zO Tryz.func51 (by kernel_rfl),zO Tryz.func52 (by kernel_rfl),zO Tryz.func53 (by kernel_rfl),zO Tryz.func54 (by kernel_rfl),zO Tryz.func55 (by kernel_rfl),zO Tryz.func56 (by kernel_rfl),zO Tryz.func57 (by kernel_rfl),zO Tryz.func58 (by kernel_rfl),zO Tryz.func59 (by kernel_rfl),zO Tryz.func60 (by kernel_rfl),zO Tryz.func61 (by kernel_rfl),zO Tryz.func63 (by kernel_rfl),zO Tryz.func64 (by kernel_rfl),zO Tryz.func65 (by kernel_rfl),zO Tryz.func66 (by kernel_rfl),zO Tryz.func67 (by kernel_rfl),zO Tryz.func68 (by kernel_rfl),zO Tryz.func69 (by kernel_rfl),zO Tryz.func70 (by kernel_rfl),zO Tryz.func71 (by kernel_rfl),zO Tryz.func72 (by kernel_rfl),zO Tryz.func73 (by kernel_rfl),zO Tryz.func74 (by kernel_rfl),zO Tryz.func75 (by kernel_rfl),zO Tryz.func76 (by kernel_rfl),zO Tryz.func77 (by kernel_rfl),zO Tryz.func78 (by kernel_rfl),zO Tryz.func79 (by kernel_rfl),zO Tryz.func80 (by kernel_rfl),zO Tryz.func81 (by kernel_rfl),zO Tryz.func82 (by kernel_rfl),zO Tryz.func83 (by kernel_rfl),zO Tryz.func87 (by kernel_rfl),zO Tryz.func93 (by kernel_rfl),zO Tryz.func96 (by kernel_rfl),zO Tryz.func97 (by kernel_rfl),zO Tryz.func98 (by kernel_rfl),zO Tryz.func99 (by kernel_rfl),zO Tryz.func100 (by kernel_rfl),zO Tryz.func101 (by kernel_rfl),zO Tryz.func102 (by kernel_rfl),zO Tryz.func103 (by kernel_rfl),zO Tryz.func104 (by kernel_rfl),zO Tryz.func105 (by kernel_rfl),zO Tryz.func106 (by kernel_rfl),zO Tryz.func107 (by kernel_rfl),zO Tryz.func108 (by kernel_rfl),zO Tryz.func109 (by kernel_rfl),zO Tryz.func110 (by kernel_rfl),zO Tryz.func111 (by kernel_rfl),zO Tryz.func112 (by kernel_rfl),zO Tryz.func113 (by kernel_rfl),zO Tryz.func114 (by kernel_rfl),zO Tryz.func115 (by kernel_rfl),zO Tryz.func116 (by kernel_rfl),zO Tryz.func117 (by kernel_rfl),zO Tryz.func118 (by kernel_rfl),zO Tryz.func119 (by kernel_rfl),zO Tryz.func120 (by kernel_rfl),zO Tryz.func124 (by kernel_rfl),zO Tryz.func125 (by kernel_rfl),zO Tryz.func126 (by kernel_rfl),zO Tryz.func128 (by kernel_rfl),zO Tryz.func129 (by kernel_rfl),zO Tryz.func130 (by kernel_rfl),zO Tryz.func131 (by kernel_rfl),zO Tryz.func132 (by kernel_rfl),zO Tryz.func133 (by kernel_rfl),zO Tryz.func134 (by kernel_rfl),zO Tryz.func135 (by kernel_rfl),zO Tryz.func136 (by kernel_rfl),zO Tryz.func137 (by kernel_rfl),zO Tryz.func138 (by kernel_rfl),zO Tryz.func139 (by kernel_rfl),zO Tryz.func140 (by kernel_rfl),zO Tryz.func141 (by kernel_rfl),zO Tryz.func142 (by kernel_rfl),zO Tryz.func143 (by kernel_rfl),zO Tryz.func144 (by kernel_rfl),zO Tryz.func145 (by kernel_rfl),zO Tryz.func154 (by kernel_rfl),zO Tryz.func155 (by kernel_rfl),zO Tryz.func156 (by kernel_rfl),zO Tryz.func157 (by kernel_rfl),zO Tryz.func164 (by kernel_rfl),zO Tryz.func165 (by kernel_rfl),zO Tryz.func166 (by kernel_rfl),zO Tryz.func167 (by kernel_rfl),zO Tryz.func168 (by kernel_rfl),zO Tryz.func169 (by kernel_rfl),zO Tryz.func170 (by kernel_rfl),zO Tryz.func171 (by kernel_rfl),zO Tryz.func172 (by kernel_rfl),zO Tryz.func173 (by kernel_rfl),zO Tryz.func174 (by kernel_rfl),zO Tryz.func175 (by kernel_rfl),zO Tryz.func176 (by kernel_rfl),zO Tryz.func177 (by kernel_rfl),zO Tryz.func178 (by kernel_rfl),zO Tryz.func179 (by kernel_rfl),zO Tryz.func182 (by kernel_rfl),zO Tryz.func183 (by kernel_rfl),zO Tryz.func184 (by kernel_rfl),zO Tryz.func185 (by kernel_rfl),zO Tryz.func186 (by kernel_rfl),zO Tryz.func187 (by kernel_rfl),zO Tryz.func188 (by kernel_rfl),zO Tryz.func191 (by kernel_rfl),zO Tryz.func200 (by kernel_rfl),zO Tryz.func201 (by kernel_rfl),zO Tryz.func202 (by kernel_rfl),zO Tryz.func204 (by kernel_rfl),zO Tryz.func209 (by kernel_rfl),zO Tryz.func210 (by kernel_rfl),zO Tryz.func211 (by kernel_rfl),zO Tryz.func212 (by kernel_rfl),zO Tryz.func213 (by kernel_rfl),zO Tryz.func214 (by kernel_rfl),zO Tryz.func215 (by kernel_rfl),zO Tryz.func216 (by kernel_rfl),zO Tryz.func217 (by kernel_rfl),zO Tryz.func218 (by kernel_rfl),zO Tryz.func221 (by kernel_rfl),zO Tryz.func222 (by kernel_rfl),zO Tryz.func223 (by kernel_rfl),zO Tryz.func246 (by kernel_rfl),zO Tryz.func248 (by kernel_rfl),zO Tryz.func249 (by kernel_rfl),zO Tryz.func254 (by kernel_rfl),zO Tryz.func255 (by kernel_rfl),zO Tryz.func256 (by kernel_rfl),zO Tryz.func257 (by kernel_rfl),zO Tryz.func258 (by kernel_rfl),zO Tryz.func259 (by kernel_rfl),zO Tryz.func260 (by kernel_rfl),zO Tryz.func261 (by kernel_rfl),zO Tryz.func262 (by kernel_rfl),zO Tryz.func263 (by kernel_rfl),zO Tryz.func264 (by kernel_rfl),zO Tryz.func265 (by kernel_rfl),zO Tryz.func285 (by kernel_rfl),zO Tryz.func290 (by kernel_rfl),zO Tryz.func291 (by kernel_rfl),zO Tryz.func292 (by kernel_rfl),zO Tryz.func293 (by kernel_rfl),zO Tryz.func294 (by kernel_rfl),zO Tryz.func295 (by kernel_rfl),zO Tryz.func296 (by kernel_rfl),zO Tryz.func297 (by kernel_rfl),zO Tryz.func298 (by kernel_rfl),zO Tryz.func299 (by kernel_rfl),trivial⟩
theorem exts [GL:Gl] (hG:∃ g t fr,Tryz.prog.globalNamed "internal/strconv.uint64pow10" =some g/\GL.tab g (.cells (Lib.pow10Tab.map λ z=>Value.int .u64 z).toArray t fr)):∀ f g,cfg.ext f=some g->zNk Tryz.prog f g:=zTB (tab:=etab) ⟨zWP (tysB_ok tys) (zO Tryz.func96 (by kernel_rfl)) z3N,zWP (tysB_ok tys) (zO Tryz.func166 (by kernel_rfl)) z1Z,z3L ⟨⟨Tryz.f53,Tryz.func53,by kernel_rfl,by kernel_rfl⟩,λ b c xs w h1 h2 h3 h4 h5=>Tryz.text b c xs w h1 h2 h3 h4 h5⟩ hG,z3M Tryz.toldC,z3I ⟨⟨Tryz.f139,Tryz.func139,by kernel_rfl,by kernel_rfl⟩,λ b o c z w h1 h2 h3=>Tryz.slices_Sort_int b o c z w h1 h2 h3,λ p c w=>Tryz.slices_Sort_int_none p c w⟩,zX8 ⟨⟨Tryz.f140,Tryz.func140,by kernel_rfl,by kernel_rfl⟩,λ b o c z w h1 h2 h3=>Tryz.slices_Compact_int b o c z w h1 h2 h3,λ p c w=>Tryz.slices_Compact_int_empty p c w⟩,z1F Tryz.keySort,z1A ⟨⟨Tryz.f295,Tryz.func295,by kernel_rfl,by kernel_rfl⟩,λ x y h1 h2 w=>Tryz.bits_Mul64 x y h1 h2 w⟩,z1B (λ x y c h1 h2 h3 h4 w=>by rw[run_callFunc_extern Tryz.func203 (by kernel_rfl) (by kernel_rfl) (by kernel_rfl) (e:=Go.add64Entry) (by kernel_rfl),Go.run_add64 x y c h1 h2 h3 h4 w];rfl),trivial⟩
theorem zTN:cfg.ext 96=some (zFt 0):=by kernel_rfl
theorem zXf:cfg.ext 166=some (zFt 3):=by kernel_rfl
theorem zZY:cfg.ext 53=some zKz:=by kernel_rfl
theorem zZZ:cfg.ext 61=some (zR1 [62,81]):=by kernel_rfl
theorem zXg:cfg.ext 139=some zMc:=by kernel_rfl
theorem zXh:cfg.ext 140=some zFi:=by kernel_rfl
theorem zXi:cfg.ext 295=some zI0:=by kernel_rfl
end Go.Cf

namespace Go.Cf
open Go Go.Ab
set_option maxRecDepth 100000
def zDI:Nat:=3
def zDJ:Nat:=5
def zDz:Nat:=13
def zBX:Nat:=14
def zFj:Nat:=15
def zKP:Nat:=16
def zH6:Nat:=17
def zCb:Nat:=19
def zEA:Nat:=20
def zGy:Nat:=22
def zGz:Nat:=24
def zJ0:Nat:=25
def zFz:Nat:=26
def zGA:Nat:=27
def zDK:Nat:=28
def zLA:Nat:=38
def zI2:Nat:=40
def zJ1:Nat:=41
def zDL:Nat:=42
def zMd:Nat:=43
def zHA:Nat:=47
def zDC:Nat:=48
def zMe:Nat:=49
def zHB:Nat:=50
def zAk:Nat:=51
def zDl:Nat:=52
def zKQ:Nat:=53
def zAZ:Nat:=54
def zC1:Nat:=55
def zDh:Nat:=56
def zG3:Nat:=57
def zKR:Nat:=58
def zHC:Nat:=59
def zHD:Nat:=60
def zJ2:Nat:=61
def zLi:Nat:=62
def zH7:Nat:=63
def zJ3:Nat:=64
def zI3:Nat:=65
def zI4:Nat:=66
def zKS:Nat:=67
def zB8:Nat:=68
def zI5:Nat:=69
def zI6:Nat:=70
def zI7:Nat:=71
def zDi:Nat:=72
def zJ4:Nat:=73
def zB4:Nat:=74
def zKT:Nat:=75
def zD6:Nat:=76
def zKU:Nat:=77
def zAI:Nat:=78
def zKV:Nat:=79
def zEp:Nat:=80
def zCx:Nat:=81
def zFR:Nat:=82
def zEy:Nat:=83
def zBt:Nat:=96
def zH8:Nat:=97
def zAz:Nat:=98
def zHE:Nat:=99
def zHF:Nat:=100
def zAP:Nat:=101
def zID:Nat:=102
def zH9:Nat:=103
def zBO:Nat:=104
def zFu:Nat:=105
def zJ5:Nat:=106
def zGB:Nat:=107
def zBP:Nat:=108
def zR:Nat:=109
def zEB:Nat:=110
def zGC:Nat:=111
def zGO:Nat:=112
def zC3:Nat:=113
def zMf:Nat:=114
def zBH:Nat:=115
def zDj:Nat:=116
def zFS:Nat:=117
def zD9:Nat:=118
def zDa:Nat:=119
def zDM:Nat:=120
def zEz:Nat:=124
def zCc:Nat:=125
def zEq:Nat:=126
def zFT:Nat:=128
def zIE:Nat:=129
def zBl:Nat:=130
def zBT:Nat:=131
def zBY:Nat:=132
def zHa:Nat:=133
def zMg:Nat:=134
def zCi:Nat:=135
def zIF:Nat:=136
def zEC:Nat:=137
def zCp:Nat:=138
def zED:Nat:=139
def zDN:Nat:=140
def zGP:Nat:=141
def zEE:Nat:=142
def zGQ:Nat:=143
def zLB:Nat:=144
def zER:Nat:=145
def zFv:Nat:=156
def zKW:Nat:=164
def zBQ:Nat:=165
def zCL:Nat:=166
def zB5:Nat:=167
def zGk:Nat:=168
def zLC:Nat:=169
def zD0:Nat:=170
def zEF:Nat:=171
def zCW:Nat:=172
def zI8:Nat:=173
def zHb:Nat:=174
def zCM:Nat:=175
def zI9:Nat:=176
def zKX:Nat:=177
def zMh:Nat:=178
def zLj:Nat:=179
def zDO:Nat:=182
def zEr:Nat:=183
def zEG:Nat:=184
def zCX:Nat:=185
def zBh:Nat:=186
def zD1:Nat:=187
def zLD:Nat:=188
def zFk:Nat:=191
def zCq:Nat:=200
def zKY:Nat:=201
def zJ6:Nat:=202
def zMi:Nat:=204
def zGl:Nat:=209
def zIa:Nat:=210
def zAx:Nat:=211
def zA8:Nat:=212
def zE1:Nat:=213
def zLE:Nat:=214
def zIG:Nat:=215
def zJ7:Nat:=216
def zHG:Nat:=217
def zLk:Nat:=218
def zHH:Nat:=221
def zDD:Nat:=222
def zIb:Nat:=223
def zFA:Nat:=246
def zJ8:Nat:=248
def zCN:Nat:=249
def zFB:Nat:=254
def zLl:Nat:=255
def zLm:Nat:=256
def zLn:Nat:=257
def zLo:Nat:=258
def zOQ:Nat:=259
def zG4:Nat:=260
def zPP:Nat:=261
def zG5:Nat:=262
def zR2:Nat:=263
def zG6:Nat:=264
def zPQ:Nat:=265
def zAm:Nat:=285
def zC8:Nat:=290
def zFC:Nat:=291
def zLF:Nat:=292
def zLG:Nat:=293
def zIc:Nat:=294
def zNZ:Nat:=295
def zKZ:Nat:=296
def zLH:Nat:=297
def zId:Nat:=298
def zG7:Nat:=299
def zMj:Nat:=3
def zVA:Nat:=22
def zZ0:Nat:=24
def zPR:Nat:=25
def zXj:Nat:=27
def zR3:Nat:=28
def zJ9:Nat:=29
def zVB:Nat:=31
def zWV:Nat:=32
def zTO:Nat:=33
def zES:Nat:=35
def zLp:Nat:=38
def zPS:Nat:=46
def zDk:Nat:=48
def zPT:Nat:=54
def zTP:Nat:=141
theorem exW:∃ W:Wf,W=evw cfg:=⟨_,rfl⟩
def W:Wf:=Classical.choose exW
theorem W_eq:W=evw cfg:=Classical.choose_spec exW
theorem exT(fi:FnI) {R:Type} (fin:Ex->St->Option R):∃ jl:Jn R×Ln R,Tied cfg W fi fin jl.1 jl.2:=⟨(_,_),tied cfg W fi fin⟩
def jN_(x:FnI):Jn PV:=(Classical.choose (exT x (fin cfg x))).1
def lN_(x:FnI):Ln PV:=(Classical.choose (exT x (fin cfg x))).2
theorem tN_(x:FnI):Tied cfg W x (fin cfg x) (jN_ x) (lN_ x):=Classical.choose_spec (exT x (fin cfg x))
def jO_(x:FnI) (b:Bool) (n:Nat):Jn (AV×List Ob):=(Classical.choose (exT x (finO cfg x b n))).1
def lO_(x:FnI) (b:Bool) (n:Nat):Ln (AV×List Ob):=(Classical.choose (exT x (finO cfg x b n))).2
theorem tO_(x:FnI) (b:Bool) (n:Nat):Tied cfg W x (finO cfg x b n) (jO_ x b n) (lO_ x b n):=Classical.choose_spec (exT x (finO cfg x b n))
theorem wq{f:FuncId} {fi:FnI} (he:cfg.ext f=none) (hf:cfg.fn f=some fi) (args:List PV):wc W f args=body cfg W lpw fi args:=by rw[W_eq];exact z4K he hf args
theorem wqO{f:FuncId} {fi:FnI} (he:cfg.ext f=none) (hf:cfg.fn f=some fi) (raw:Bool) (args:List AV) (ow:List Ob):W f raw args ow=bodyO cfg W lpw fi raw args ow:=by rw[W_eq];exact zUr he hf raw args ow
theorem go{f:FuncId} {fi:FnI} {args:List PV} {r:Option PV} {jn:Jn PV} {ln:Ln PV} (he:cfg.ext f=none) (hf:cfg.fn f=some fi) (h:Tied cfg W fi (fin cfg fi) jn ln) (e:(bif args.length==fi.np then Gf cfg W fi jn ln fi.code [] ⟨zUY 0 args,[]⟩ (fin cfg fi)else none)=r):wc W f args=r:=(wq he hf args).trans ((h.body args).trans e)
theorem gA_{f:FuncId} {fi:FnI} {args:List PV} {r:Option PV} {jn:Jn PV} {ln:Ln PV} (h:Tied cfg W fi (fin cfg fi) jn ln) (he:cfg.ext f=none:=by kernel_rfl) (hf:cfg.fn f=some fi:=by kernel_rfl) (e:(bif args.length==fi.np then Gf cfg W fi jn ln fi.code [] ⟨zUY 0 args,[]⟩ (fin cfg fi)else none)=r:=by kernel_rfl):wc W f args=r:=go he hf h e
theorem goO{f:FuncId} {fi:FnI} {raw:Bool} {n:Nat} {args:List AV} {ow:List Ob} {r:Option (AV×List Ob)} {jn:Jn (AV×List Ob)} {ln:Ln (AV×List Ob)} (he:cfg.ext f=none) (hf:cfg.fn f=some fi) (h:Tied cfg W fi (finO cfg fi raw n) jn ln) (hn:ow.length=n) (e:(bif args.length==fi.np then Gf cfg W fi jn ln fi.code [] ⟨zIs 0 args,ow⟩ (finO cfg fi raw n)else none)=r):W f raw args ow=r:=(wqO he hf raw args ow).trans ((h.bodyO args ow hn).trans e)
def c_b{R:Type} (p:PV) (K:Bool->Option R):Option R:=(PV.asBool p).bind λ zzx0=>K zzx0
@[simp] theorem c_b_mk(zzx0:Bool) {R:Type} (K:Bool->Option R):c_b (PV.bool zzx0) K=K zzx0:=rfl
def zP{R:Type} (p:PV) (K:Int->Int->Option R):Option R:=(PV.asAgg p).bind λ c0=>(c0[0]?).bind λ p1=>(PV.asIntK .i64 p1).bind λ zzx2=>(c0[1]?).bind λ p3=>(PV.asIntK .i64 p3).bind λ zzx4=>bif c0.length==2 then(K zzx2 zzx4)else none
@[simp] theorem c_g_i64_i64_mk(zzx2:Int) (zzx4:Int) {R:Type} (K:Int->Int->Option R):zP (PV.agg [(PV.int .i64 zzx2),(PV.int .i64 zzx4)]) K=K zzx2 zzx4:=rfl
def zG{R:Type} (p:PV) (K:Int->Int->Int->Int->List PV->Option R):Option R:=(PV.asAgg p).bind λ c0=>(c0[0]?).bind λ p1=>(PV.asIntK .i64 p1).bind λ zzx2=>(c0[1]?).bind λ p3=>(PV.asIntK .i64 p3).bind λ zzx4=>(c0[2]?).bind λ p5=>(PV.asIntK .i64 p5).bind λ zzx6=>(c0[3]?).bind λ p7=>(PV.asIntK .i64 p7).bind λ zzx8=>(c0[4]?).bind λ p9=>(PV.asSlice 6 p9).bind λ zzx10=>bif c0.length==5 then(K zzx2 zzx4 zzx6 zzx8 zzx10)else none
@[simp] theorem c_g_i64_i64_i64_i64_s6_mk(zzx2:Int) (zzx4:Int) (zzx6:Int) (zzx8:Int) (zzx10:List PV) {R:Type} (K:Int->Int->Int->Int->List PV->Option R):zG (PV.agg [(PV.int .i64 zzx2),(PV.int .i64 zzx4),(PV.int .i64 zzx6),(PV.int .i64 zzx8),(PV.slice 6 zzx10)]) K=K zzx2 zzx4 zzx6 zzx8 zzx10:=rfl
def zC4{R:Type} (p:PV) (K:Int->Int->PV->Option R):Option R:=(PV.asAgg p).bind λ c0=>(c0[0]?).bind λ p1=>(PV.asIntK .i64 p1).bind λ zzx2=>(c0[1]?).bind λ p3=>(PV.asIntK .i64 p3).bind λ zzx4=>(c0[2]?).bind λ p5=>(some p5).bind λ zzx6=>bif c0.length==3 then(K zzx2 zzx4 zzx6)else none
@[simp] theorem c_g_i64_i64_p_mk(zzx2:Int) (zzx4:Int) (zzx6:PV) {R:Type} (K:Int->Int->PV->Option R):zC4 (PV.agg [(PV.int .i64 zzx2),(PV.int .i64 zzx4),zzx6]) K=K zzx2 zzx4 zzx6:=rfl
def zB3{R:Type} (p:PV) (K:Int->List PV->Option R):Option R:=(PV.asAgg p).bind λ c0=>(c0[0]?).bind λ p1=>(PV.asIntK .i64 p1).bind λ zzx2=>(c0[1]?).bind λ p3=>(PV.asSlice 3 p3).bind λ zzx4=>bif c0.length==2 then(K zzx2 zzx4)else none
@[simp] theorem c_g_i64_s3_mk(zzx2:Int) (zzx4:List PV) {R:Type} (K:Int->List PV->Option R):zB3 (PV.agg [(PV.int .i64 zzx2),(PV.slice 3 zzx4)]) K=K zzx2 zzx4:=rfl
def z2R{R:Type} (p:PV) (K:List PV->Option R):Option R:=(PV.asAgg p).bind λ c0=>(c0[0]?).bind λ p1=>(PV.asSlice 0 p1).bind λ zzx2=>bif c0.length==1 then(K zzx2)else none
@[simp] theorem c_g_s0_mk(zzx2:List PV) {R:Type} (K:List PV->Option R):z2R (PV.agg [(PV.slice 0 zzx2)]) K=K zzx2:=rfl
def zAT{R:Type} (p:PV) (K:List PV->List PV->Option R):Option R:=(PV.asAgg p).bind λ c0=>(c0[0]?).bind λ p1=>(PV.asSlice 0 p1).bind λ zzx2=>(c0[1]?).bind λ p3=>(PV.asSlice 0 p3).bind λ zzx4=>bif c0.length==2 then(K zzx2 zzx4)else none
@[simp] theorem c_g_s0_s0_mk(zzx2:List PV) (zzx4:List PV) {R:Type} (K:List PV->List PV->Option R):zAT (PV.agg [(PV.slice 0 zzx2),(PV.slice 0 zzx4)]) K=K zzx2 zzx4:=rfl
def z2S{R:Type} (p:PV) (K:List PV->Option R):Option R:=(PV.asAgg p).bind λ c0=>(c0[0]?).bind λ p1=>(PV.asSlice 3 p1).bind λ zzx2=>bif c0.length==1 then(K zzx2)else none
@[simp] theorem c_g_s3_mk(zzx2:List PV) {R:Type} (K:List PV->Option R):z2S (PV.agg [(PV.slice 3 zzx2)]) K=K zzx2:=rfl
def zA2{R:Type} (p:PV) (K:Int->Option R):Option R:=(PV.asIntK .i64 p).bind λ zzx0=>K zzx0
@[simp] theorem c_i64_mk(zzx0:Int) {R:Type} (K:Int->Option R):zA2 (PV.int .i64 zzx0) K=K zzx0:=rfl
def c_s0{R:Type} (p:PV) (K:List PV->Option R):Option R:=(PV.asSlice 0 p).bind λ zzx0=>K zzx0
@[simp] theorem c_s0_mk(zzx0:List PV) {R:Type} (K:List PV->Option R):c_s0 (PV.slice 0 zzx0) K=K zzx0:=rfl
def c_s3{R:Type} (p:PV) (K:List PV->Option R):Option R:=(PV.asSlice 3 p).bind λ zzx0=>K zzx0
@[simp] theorem c_s3_mk(zzx0:List PV) {R:Type} (K:List PV->Option R):c_s3 (PV.slice 3 zzx0) K=K zzx0:=rfl
def c_s6{R:Type} (p:PV) (K:List PV->Option R):Option R:=(PV.asSlice 6 p).bind λ zzx0=>K zzx0
@[simp] theorem c_s6_mk(zzx0:List PV) {R:Type} (K:List PV->Option R):c_s6 (PV.slice 6 zzx0) K=K zzx0:=rfl
def c_t{R:Type} (p:PV) (K:ByteArray->Option R):Option R:=(PV.asStr p).bind λ zzx0=>K zzx0
@[simp] theorem c_t_mk(zzx0:ByteArray) {R:Type} (K:ByteArray->Option R):c_t (PV.str zzx0) K=K zzx0:=rfl
def zZ1{R:Type} (p:PV) (K:Int->Option R):Option R:=(PV.asIntK .u64 p).bind λ zzx0=>K zzx0
@[simp] theorem c_u64_mk(zzx0:Int) {R:Type} (K:Int->Option R):zZ1 (PV.int IntKind.u64 zzx0) K=K zzx0:=rfl
def zR4{R:Type} (z:AV×List Ob) (K:PV->Int->Int->Int->Option R):Option R:=(AV.asPv z.1).bind λ q0=>(some q0).bind λ zzx1=>(z.2[0]?).bind λ p2=>(Ob.asVar false 0 p2).bind λ a3=>(AV.asPv a3).bind λ q4=>(PV.asIntK .i64 q4).bind λ zzx5=>(z.2[1]?).bind λ p6=>(Ob.asVar false 0 p6).bind λ a7=>(AV.asPv a7).bind λ q8=>(PV.asIntK .i64 q8).bind λ zzx9=>(z.2[2]?).bind λ p10=>(Ob.asVar false 0 p10).bind λ a11=>(AV.asPv a11).bind λ q12=>(PV.asIntK .i64 q12).bind λ zzx13=>bif z.2.length==3 then(K zzx1 zzx5 zzx9 zzx13)else none
@[simp] theorem k_10961c_mk(zzx1:PV) (zzx5:Int) (zzx9:Int) (zzx13:Int) {R:Type} (K:PV->Int->Int->Int->Option R):zR4 ((AV.pv zzx1),[(Ob.var false 0 (AV.pv (PV.int .i64 zzx5))),(Ob.var false 0 (AV.pv (PV.int .i64 zzx9))),(Ob.var false 0 (AV.pv (PV.int .i64 zzx13)))]) K=K zzx1 zzx5 zzx9 zzx13:=rfl
def zDE{R:Type} (z:AV×List Ob) (K:PV->Int->Option R):Option R:=(AV.asPv z.1).bind λ q0=>(some q0).bind λ zzx1=>(z.2[0]?).bind λ p2=>(Ob.asVar false 0 p2).bind λ a3=>(AV.asPv a3).bind λ q4=>(PV.asIntK .i64 q4).bind λ zzx5=>bif z.2.length==1 then(K zzx1 zzx5)else none
@[simp] theorem k_5b106d_mk(zzx1:PV) (zzx5:Int) {R:Type} (K:PV->Int->Option R):zDE ((AV.pv zzx1),[(Ob.var false 0 (AV.pv (PV.int .i64 zzx5)))]) K=K zzx1 zzx5:=rfl
def zWW{R:Type} (z:AV×List Ob) (K:List PV->Option R):Option R:=bif AV.isView 0 z.1 then((z.2[0]?).bind λ p0=>(Ob.asRow false 0 3 p0).bind λ zzx1=>bif z.2.length==1 then(K zzx1)else none)else none
@[simp] theorem k_83ed81_mk(zzx1:List PV) {R:Type} (K:List PV->Option R):zWW ((AV.view 0 0 none),[(Ob.row false 0 (3:Nat) zzx1)]) K=K zzx1:=rfl
def zWX{R:Type} (z:AV×List Ob) (K:List PV->List PV->Option R):Option R:=(AV.asAggA z.1).bind λ c0=>(c0[0]?).bind λ p1=>(AV.asPv p1).bind λ q2=>(PV.asSlice 0 q2).bind λ zzx3=>(c0[1]?).bind λ p4=>bif AV.isView 0 p4 then(bif c0.length==2 then((z.2[0]?).bind λ p5=>(Ob.asRow false 0 0 p5).bind λ zzx6=>bif z.2.length==1 then(K zzx3 zzx6)else none)else none)else none
@[simp] theorem k_8de13e_mk(zzx3:List PV) (zzx6:List PV) {R:Type} (K:List PV->List PV->Option R):zWX ((AV.agg [(AV.pv (PV.slice 0 zzx3)),(AV.view 0 0 none)]),[(Ob.row false 0 (0:Nat) zzx6)]) K=K zzx3 zzx6:=rfl
def z10{R:Type} (z:AV×List Ob) (K:PV->List PV->Option R):Option R:=(AV.asPv z.1).bind λ q0=>(some q0).bind λ zzx1=>(z.2[0]?).bind λ p2=>(Ob.asFix 0 3 p2).bind λ zzx3=>bif z.2.length==1 then(K zzx1 zzx3)else none
@[simp] theorem k_a0f1d3_mk(zzx1:PV) (zzx3:List PV) {R:Type} (K:PV->List PV->Option R):z10 ((AV.pv zzx1),[(Ob.fix 0 3 zzx3)]) K=K zzx1 zzx3:=rfl
def zK0{R:Type} (z:AV×List Ob) (K:PV->List PV->List PV->List PV->List PV->Int->List PV->List PV->Int->Option R):Option R:=(AV.asPv z.1).bind λ q0=>(some q0).bind λ zzx1=>(z.2[0]?).bind λ p2=>(Ob.asVar false 0 p2).bind λ a3=>(AV.asFnv zAI a3).bind λ y4=>bif y4.1.length==0 then((y4.2[0]?).bind λ p5=>(AV.asPv p5).bind λ q6=>(PV.asImm 2 0 q6).bind λ v7=>(PV.asAgg v7).bind λ c8=>(c8[0]?).bind λ p9=>(PV.asSlice 3 p9).bind λ zzx10=>bif c8.length==1 then((y4.2[1]?).bind λ p11=>(AV.asPv p11).bind λ q12=>(PV.asImm 2 0 q12).bind λ v13=>(PV.asAgg v13).bind λ c14=>(c14[0]?).bind λ p15=>(PV.asSlice 0 p15).bind λ zzx16=>bif c14.length==1 then((y4.2[2]?).bind λ p17=>(AV.asPv p17).bind λ q18=>(PV.asImm 7 0 q18).bind λ v19=>(PV.asAgg v19).bind λ c20=>(c20[0]?).bind λ p21=>(PV.asSlice 0 p21).bind λ zzx22=>(c20[1]?).bind λ p23=>(PV.asSlice 6 p23).bind λ zzx24=>(c20[2]?).bind λ p25=>(PV.asIntK .i64 p25).bind λ zzx26=>(c20[3]?).bind λ p27=>(PV.asSlice 0 p27).bind λ zzx28=>(c20[4]?).bind λ p29=>(PV.asSlice 0 p29).bind λ zzx30=>(c20[5]?).bind λ p31=>(PV.asIntK .i64 p31).bind λ zzx32=>bif c20.length==6 then((y4.2[3]?).bind λ p33=>bif AV.isOwn 0 0 p33 then(bif y4.2.length==4 then(bif z.2.length==1 then(K zzx1 zzx10 zzx16 zzx22 zzx24 zzx26 zzx28 zzx30 zzx32)else none)else none)else none)else none)else none)else none)else none
@[simp] theorem k_abad21_mk(zzx1:PV) (zzx10:List PV) (zzx16:List PV) (zzx22:List PV) (zzx24:List PV) (zzx26:Int) (zzx28:List PV) (zzx30:List PV) (zzx32:Int) {R:Type} (K:PV->List PV->List PV->List PV->List PV->Int->List PV->List PV->Int->Option R):zK0 ((AV.pv zzx1),[(Ob.var false 0 (AV.fnv zAI [] [(AV.pv (PV.imm 2 (PV.agg [(PV.slice 3 zzx10)]) 0)),(AV.pv (PV.imm 2 (PV.agg [(PV.slice 0 zzx16)]) 0)),(AV.pv (PV.imm 7 (PV.agg [(PV.slice 0 zzx22),(PV.slice 6 zzx24),(PV.int .i64 zzx26),(PV.slice 0 zzx28),(PV.slice 0 zzx30),(PV.int .i64 zzx32)]) 0)),(AV.own (Prod.fst ((0:Nat),(0:Nat))) 0)]))]) K=K zzx1 zzx10 zzx16 zzx22 zzx24 zzx26 zzx28 zzx30 zzx32:=rfl
def zOR{R:Type} (z:AV×List Ob) (K:PV->List PV->Option R):Option R:=(AV.asPv z.1).bind λ q0=>(some q0).bind λ zzx1=>(z.2[0]?).bind λ p2=>(Ob.asVar false 0 p2).bind λ a3=>bif AV.isView 1 a3 then((z.2[1]?).bind λ p4=>(Ob.asRow false 0 0 p4).bind λ zzx5=>bif z.2.length==2 then(K zzx1 zzx5)else none)else none
@[simp] theorem k_b2223f_mk(zzx1:PV) (zzx5:List PV) {R:Type} (K:PV->List PV->Option R):zOR ((AV.pv zzx1),[(Ob.var false 0 (AV.view 1 0 none)),(Ob.row false 0 0 zzx5)]) K=K zzx1 zzx5:=rfl
def zR5{R:Type} (z:AV×List Ob) (K:PV->Option R):Option R:=(AV.asPv z.1).bind λ q0=>(some q0).bind λ zzx1=>(z.2[0]?).bind λ p2=>bif Ob.isDead p2 then(bif z.2.length==1 then(K zzx1)else none)else none
@[simp] theorem k_b7636c_mk(zzx1:PV) {R:Type} (K:PV->Option R):zR5 ((AV.pv zzx1),[Ob.dead]) K=K zzx1:=rfl
def zET{R:Type} (z:AV×List Ob) (K:PV->List PV->Int->Option R):Option R:=(AV.asPv z.1).bind λ q0=>(some q0).bind λ zzx1=>(z.2[0]?).bind λ p2=>(Ob.asFix 0 0 p2).bind λ zzx3=>(z.2[1]?).bind λ p4=>(Ob.asVar false 0 p4).bind λ a5=>(AV.asPv a5).bind λ q6=>(PV.asIntK .i64 q6).bind λ zzx7=>bif z.2.length==2 then(K zzx1 zzx3 zzx7)else none
@[simp] theorem k_c4d914_mk(zzx1:PV) (zzx3:List PV) (zzx7:Int) {R:Type} (K:PV->List PV->Int->Option R):zET ((AV.pv zzx1),[(Ob.fix 0 0 zzx3),(Ob.var false 0 (AV.pv (PV.int .i64 zzx7)))]) K=K zzx1 zzx3 zzx7:=rfl
def zR6{R:Type} (z:AV×List Ob) (K:PV->List PV->Option R):Option R:=(AV.asPv z.1).bind λ q0=>(some q0).bind λ zzx1=>(z.2[0]?).bind λ p2=>(Ob.asFix 0 0 p2).bind λ zzx3=>bif z.2.length==1 then(K zzx1 zzx3)else none
@[simp] theorem k_cad770_mk(zzx1:PV) (zzx3:List PV) {R:Type} (K:PV->List PV->Option R):zR6 ((AV.pv zzx1),[(Ob.fix 0 0 zzx3)]) K=K zzx1 zzx3:=rfl
def zR7{R:Type} (z:AV×List Ob) (K:List PV->Option R):Option R:=bif AV.isView 0 z.1 then((z.2[0]?).bind λ p0=>(Ob.asRow false 0 0 p0).bind λ zzx1=>bif z.2.length==1 then(K zzx1)else none)else none
@[simp] theorem k_d697de_mk(zzx1:List PV) {R:Type} (K:List PV->Option R):zR7 ((AV.view 0 0 none),[(Ob.row false 0 (0:Nat) zzx1)]) K=K zzx1:=rfl
theorem zXk(xs:List PV) (l:List (Int×Int)) (hp:zNY xs=some l) (hl:xs.length<=1000000):wc W zKQ [.slice 3 xs]=some (.str (z1G l)):=by rw[W_eq];exact z4O zZY xs l hp hl
theorem zTQ(raw:List AV) (ow:List Ob):W zJ2 false raw ow=zZW [zLi,zCx] W raw ow:=by rw[W_eq];exact zJX zZZ false raw ow
theorem zF3(xs:List PV) (h:xs.length<=4294967296):wc W zBt [PV.slice 0 xs]=some (PV.slice 0 xs):=by rw[W_eq];exact zZP zTN xs h
theorem zHT(xs:List PV) (h:xs.length<=4294967296):W zBt true [.pv (.slice 0 xs)] []=some (.view 0 0 none,[.row false 0 0 xs]):=by rw[W_eq];exact zZQ zTN xs h
theorem zGD(raw:Bool) (ver:Nat) (zs:List Int) (hl:zs.length<=4294967296):W zED raw [.fx 0 0] [.fix ver 0 (zs.map (.int .i64))]=some (.pv (.tup []),[.fix ver 0 ((zHr zs).map (.int .i64))]):=by rw[W_eq];exact z4N zXg raw ver zs hl
theorem zFD(ver:Nat) (zs:List Int) (hl:zs.length<=4294967296):W zDN false [.view 0 ver none] [.row false ver 0 (zs.map (.int .i64))]=some (.pv (.slice 0 ((Lib.compact zs).map (.int .i64))),[.dead]):=by rw[W_eq];exact zZT zXh ver zs hl
theorem zD2(xs:List PV) (h:xs.length<=4294967296):wc W zCL [PV.slice 3 xs]=some (PV.slice 3 xs):=by rw[W_eq];exact zZP zXf xs h
theorem zTR(x y:Int) (h1:0<=x) (h2:x<18446744073709551616) (h3:0<=y) (h4:y<18446744073709551616):wc W zNZ [.int .u64 x,.int .u64 y]=some (.tup [.int .u64 ((x.toNat*y.toNat / 18446744073709551616:Nat):Int),.int .u64 ((x.toNat*y.toNat % 18446744073709551616:Nat):Int)]):=by rw[W_eq];exact z3G zXi x y h1 h2 h3 h4
end Go.Cf

namespace Go.Cf
open Go Go.Ab
def I64(n:Int):Prop:= -9223372036854775808<=n/\n<=9223372036854775807
theorem zAU{n:Int} (h1: -9223372036854775808<=n) (h2:n<=9223372036854775807):IntKind.wrap .i64 n=n:=by
 simp only[IntKind.wrap,IntKind.bits,IntKind.signed]
 simp
 omega
theorem z11{n:Nat} (h:n<=9223372036854775807):IntKind.wrap .i64 (n:Int)=n:=zAU (by omega) (by omega)
theorem zAB{n:Nat} (h:n<9223372036854775807):IntKind.wrap .i64 ((n:Int)+1)=((n+1:Nat):Int):=by rw[zAU (by omega) (by omega)];omega
@[simp] theorem asTup_mk(l:List PV):PV.asTup (.tup l)=some l:=rfl
@[simp] theorem asFn_mk(f:Nat) (a b:List PV):PV.asFn (.fn f a b)=some (f,a,b):=rfl
@[simp] theorem zAc(n:Nat):decide ((0:Int)<=(n:Int))=true:=by simp
theorem z54{n:Int} (h:(Lit.int .i64 n).wf=true):I64 n:=by
 simp only[Lit.wf,zF,zU]at h
 exact h
theorem zOS{R:Type} (L:Int->Option R) (n:Nat) (p:Nat->Bool) (r s:Option R) (hs:∀ i:Nat,i<n->L (i:Int)=bif p i then L ((i:Int)+1)else r) (he:L (n:Int)=s) :
 L 0=bif (List.range n).all p then s else r:=by
 have:∀ k i:Nat,i+k=n->L (i:Int)=bif (List.range' i k).all p then s else r:=by
  intro k
  induction k with
  |zero=>intro i h;simp at h;subst h;simpa using he
  |succ k ih =>
   intro i h
   rw[hs i (by omega),show((i:Int)+1)=((i+1:Nat):Int) by omega,ih (i+1) (by omega),List.range'_succ,List.all_cons]
   cases p i<;>simp
 have h0:=this n 0 (by omega)
 rw[List.range_eq_range']
 exact h0
theorem zZ2{α:Type} (l:List α) (q:α->Bool):((List.range l.length).all λ i=>(l[i]?).all q)=l.all q:=by
 rw[Bool.eq_iff_iff,zAF,zAF]
 constructor
 ·intro h x hx
  obtain⟨i,hi,rfl⟩:=List.mem_iff_getElem.1 hx
  have:=h i (by simpa using hi)
  simpa [zH hi]using this
 ·intro h i hi
  have hi' :i<l.length:=by simpa using hi
  simpa [zH hi']using h _ (zAC hi')
theorem zAQ{i n:Nat} (h:i<n):decide ((i:Int)<(n:Int))=true:=by simpa using h
theorem zFU{n:Nat}:decide ((n:Int)<(n:Int))=false:=by simp
theorem zLI{α:Type} [BEq α] [LawfulBEq α] {a b:α} (h:a≠b):(a != b)=true:=by simpa using h
theorem zLq{α:Type} [BEq α] [LawfulBEq α] {a b:α} (h:a=b):(a != b)=false:=by simpa using h
theorem zIH{α:Type} [BEq α] [LawfulBEq α] {a b:α} (h:a=b):(a==b)=true:=by simpa using h
theorem zDP{α:Type} [BEq α] [LawfulBEq α] {a b:α} (h:a≠b):(a==b)=false:=by simpa using h
theorem z56{α:Type} [DecidableEq α] (a b:List α) (e:a.length=b.length):((List.range a.length).all λ i=>decide (a[i]? =b[i]?))=decide (a=b):=by
 by_cases hab:a=b
 ·subst hab;simp
 ·rw[zL hab,Bool.eq_false_iff]
  intro hall
  apply hab
  rw[zAF]at hall
  apply List.ext_getElem?
  intro i
  by_cases hi:i<a.length
  ·simpa using hall i (by simpa using hi)
  ·rw[zGZ (by omega),zGZ (by omega)]
end Go.Cf
