/- Part 14 of the proof: an abstract machine that runs the program's code over plain values, its soundness, and what the functions tell of plain values. Conditions: those in each theorem. -/
import Derived.Test.YtgebkpchpliahaaGreatDoorA12
import Derived.WalkKit
import Derived.Tactics
import Derived.Tactics2
import Derived.Defers
import Derived.Recover
import Derived.Test.YtgebkpchpliahaaGreatDoorProg
import Derived.Deep.RegionWith
import Derived.LoopN
set_option linter.unusedSectionVars false
set_option linter.unusedVariables false
set_option linter.unusedSimpArgs false
noncomputable section
namespace Go.Proofs
open Go.RowKit
set_option maxHeartbeats 1000000
set_option maxRecDepth 100000
theorem Tryz.cellSet(w:World) (b o:Nat) (cs:Array Value) (t:TypeId) (v:Value) (h:w.heap[b]? =some (.cells cs t)):w.setCell ⟨b,o,none⟩ v={ w with heap:=w.heap.setIfInBounds b (.cells (cs.setIfInBounds o v) t) }:=by
 unfold World.setCell
 congr 1
 apply Array.ext_getElem?
 intro k
 rw[Array.getElem?_modify]
 by_cases e:b=k
 ·subst e
  have hlt:=(Array.getElem?_eq_some_iff.1 h).1
  rw[if_pos rfl,h,Array.getElem?_setIfInBounds_self_of_lt hlt];rfl
 ·rw[if_neg e,Array.getElem?_setIfInBounds_ne e]
theorem Tryz.told_idle(p q:Addr) (w:World) :
 CallsD Tryz.prog 127 #[.pointer (some p),.pointer (some q)] .returning w λ e u' w' =>e= .returned (.tuple #[])/\u' = .returning/\w' =w:=by
 refine callsD_of_wpS Tryz.func127 rfl λ c₀ cs hu=> ?_
 apply wpS_seq
 apply wpS_region
 simp[wpOpsS,go_sem,recoverD,hu,Tryz.ntmps127,Exit.thenS]
 refine wpS_of_wp ?_
 go_wp2
 cases c₀;simp_all[bodyPostS,results,Tryz.results127]
theorem Tryz.told_run(g:FuncId) (fs cs:Array Value) (w:World) (Q:Value->Value->World->Prop)
 (eg:∀ w' args,(callFunc g args).run Tryz.prog w' = .ok (.enter g args) w')
 (hc:Calls Tryz.prog g (fs++cs) ((w.alloc (.cells #[.slice none 0 0,.slice none 0 0] 40)).alloc (.cells #[.bool false] 4)) (λ e w3=>∃ x y,e= .returned (.agg #[x,y])/\x.oneCell' =true/\y.oneCell' =true /\
  w3.heap[w.heap.size]? =some (.cells #[.slice none 0 0,.slice none 0 0] 40)/\w3.heap[w.heap.size+1]? =some (.cells #[.bool false] 4)/\Q x y w3)) :
 Calls Tryz.prog 61 #[.func (.func g) fs cs] w λ e w' =>∃ x y w3,e= .returned (.tuple #[.agg #[x,y],.bool true])/\Q x y w3/\w3.heap[w.heap.size]? =some (.cells #[.slice none 0 0,.slice none 0 0] 40)/\w3.heap[w.heap.size+1]? =some (.cells #[.bool false] 4) /\
  w' ={ w3 with heap:=(w3.heap.setIfInBounds w.heap.size (.cells #[x,y] 40)).setIfInBounds (w.heap.size+1) (.cells #[.bool true] 4) }:=by
 have hmf:∀(fn:Fn) (first cap:Array Value) (w:World),(Instr.makeFunc fn first cap).run Tryz.prog w= .ok (.func fn first cap) w:=λ _ _ _ _=>rfl
 go_enter_defers Tryz.func61,Tryz.ntmps61
 go_wp2
 refine hc.mono ?_
 rintro e w3 ⟨x,y,rfl,ox,oy,h1,h2,hq⟩
 have c0:w3.cell? ⟨w.heap.size,0,none⟩=some (.slice none 0 0):=by unfold World.cell?;simp only[h1];rfl
 have c1:w3.cell? ⟨w.heap.size,1,none⟩=some (.slice none 0 0):=by unfold World.cell?;simp only[h1];rfl
 have c2:w3.cell? ⟨w.heap.size+1,0,none⟩=some (.bool false):=by unfold World.cell?;simp only[h2];rfl
 have f0:w3.frozen? ⟨w.heap.size,0,none⟩=false:=by unfold World.frozen?;simp only[h1];rfl
 have f1:w3.frozen? ⟨w.heap.size,1,none⟩=false:=by unfold World.frozen?;simp only[h1];rfl
 have f2:w3.frozen? ⟨w.heap.size+1,0,none⟩=false:=by unfold World.frozen?;simp only[h2];rfl
 clear hc
 have sx:∀(w:World) (a:Addr) (m:Mode),(store a x m).run Tryz.prog w=stored Tryz.prog w a x m:=λ w a m=>run_store _ w a x m ox
 have sy:∀(w:World) (a:Addr) (m:Mode),(store a y m).run Tryz.prog w=stored Tryz.prog w a y m:=λ w a m=>run_store _ w a y m oy
 have hlt:w.heap.size<w3.heap.size:=(Array.getElem?_eq_some_iff.1 h1).1
 have hlt2:w.heap.size+1<w3.heap.size:=(Array.getElem?_eq_some_iff.1 h2).1
 have hW:((w3.setCell ⟨w.heap.size,0,none⟩ x).setCell ⟨w.heap.size,1,none⟩ y).setCell ⟨w.heap.size+1,0,none⟩ (.bool true)={ w3 with heap:=(w3.heap.setIfInBounds w.heap.size (.cells #[x,y] 40)).setIfInBounds (w.heap.size+1) (.cells #[.bool true] 4) }:=by
  rw[Tryz.cellSet _ _ _ _ _ _ h1]
  rw[Tryz.cellSet _ w.heap.size 1 #[x,.slice none 0 0] 40 y (by simp[hlt])]
  rw[Tryz.cellSet _ (w.heap.size+1) 0 #[.bool false] 4 (.bool true) (by
   show((w3.heap.setIfInBounds w.heap.size _).setIfInBounds w.heap.size _)[w.heap.size+1]? =_
   rw[Array.getElem?_setIfInBounds_ne (by omega),Array.getElem?_setIfInBounds_ne (by omega)];exact h2)]
  congr 1
  simp
 go_wp2
 refine leaves_cons (f:=127) (args:= #[.pointer (some ⟨w.heap.size,0,none⟩),.pointer (some ⟨w.heap.size+1,0,none⟩)]) (by simp) (by simp[go_sem]) ?_
 refine(Tryz.told_idle _ _ _).mono ?_
 rintro e u' w'' ⟨rfl,rfl,rfl⟩
 have e0:World.cell? { w3 with heap:=(w3.heap.setIfInBounds w.heap.size (.cells #[x,y] 40)).setIfInBounds (w.heap.size+1) (.cells #[.bool true] 4) } ⟨w.heap.size,0,none⟩=some x:=by
  unfold World.cell?
  simp[hlt]
 have e1:World.cell? { w3 with heap:=(w3.heap.setIfInBounds w.heap.size (.cells #[x,y] 40)).setIfInBounds (w.heap.size+1) (.cells #[.bool true] 4) } ⟨w.heap.size,1,none⟩=some y:=by
  unfold World.cell?
  simp[hlt]
 have e2:World.cell? { w3 with heap:=(w3.heap.setIfInBounds w.heap.size (.cells #[x,y] 40)).setIfInBounds (w.heap.size+1) (.cells #[.bool true] 4) } ⟨w.heap.size+1,0,none⟩=some (.bool true):=by
  unfold World.cell?
  simp[hlt2]
 generalize hG:({ w3 with heap:=(w3.heap.setIfInBounds w.heap.size (.cells #[x,y] 40)).setIfInBounds (w.heap.size+1) (.cells #[.bool true] 4) }:World)=W5 at e0 e1 e2 ⊢
 simp[Leaves,settle,results,Tryz.results61,go_sem,e0,e1,e2]
 exact⟨x,y,⟨rfl,rfl⟩,w3,hq,h1,h2,hG.symm⟩
theorem Tryz.toldC:Go.Ab.ToldC Tryz.prog [62,81] 61 40 4 (.slice none 0 0) (.slice none 0 0) :=
 ⟨⟨Tryz.f61,Tryz.func61,by kernel_rfl,by kernel_rfl⟩,λ g hg=>by
   simp only[zAD,List.not_mem_nil,or_false]at hg
   rcases hg with rfl | rfl
   ·exact⟨Tryz.f62,Tryz.func62,by kernel_rfl,by kernel_rfl⟩
   ·exact⟨Tryz.f81,Tryz.func81,by kernel_rfl,by kernel_rfl⟩,λ g fs cs w Q eg hc=>Tryz.told_run g fs cs w Q eg hc⟩
end Go.Proofs

namespace Go.Proofs
open Go.Shelf Go.RowKit Go.Lib Go.Sort
def Tryz.sortK_ren:Go.Shelf.Ren:=⟨λ | 6=>155 | 15=>190 | 14=>199 | 28=>233 | 29=>234 | 20=>238 | 21=>239 | 22=>240 | 23=>241 | 24=>242 | 25=>243 | 26=>244 | 27=>245 | 46=>273 | 47=>267 | 48=>268 | 49=>274 | 50=>275 | 57=>302 | n=>n,λ | 22=>177 | 24=>100 | 25=>99 | 3=>3 | 39=>209 | 0=>0 | 53=>246 | 55=>217 | 4=>4 | 46=>240 | 45=>239 | 50=>124 | 5=>5 | 9=>9 | 66=>259 | 70=>263 | 76=>276 | 77=>277 | n=>n,λ | n=>n⟩
theorem Tryz.sortK:Go.Proofs.SlLaysF0.n6 Tryz.prog Tryz.sortK_ren:={
 mixed:=by kernel_rfl
 f6:=⟨Tryz.f155.name,by decide,Tryz.func155.trans (congrArg some (by kernel_rfl))⟩
 f14:=⟨Tryz.f199.name,by decide,Tryz.func199.trans (congrArg some (by kernel_rfl))⟩
 f15:=Tryz.func190.trans (congrArg some (by kernel_rfl))
 f20:=⟨Tryz.f238.name,by decide,Tryz.func238.trans (congrArg some (by kernel_rfl))⟩
 f21:=⟨Tryz.f239.name,by decide,Tryz.func239.trans (congrArg some (by kernel_rfl))⟩
 f22:=⟨Tryz.f240.name,by decide,Tryz.func240.trans (congrArg some (by kernel_rfl))⟩
 f23:=⟨Tryz.f241.name,by decide,Tryz.func241.trans (congrArg some (by kernel_rfl))⟩
 f24:=⟨Tryz.f242.name,by decide,Tryz.func242.trans (congrArg some (by kernel_rfl))⟩
 f25:=⟨Tryz.f243.name,by decide,Tryz.func243.trans (congrArg some (by kernel_rfl))⟩
 f26:=⟨Tryz.f244.name,by decide,Tryz.func244.trans (congrArg some (by kernel_rfl))⟩
 f27:=⟨Tryz.f245.name,by decide,Tryz.func245.trans (congrArg some (by kernel_rfl))⟩
 f28:=Tryz.func233.trans (congrArg some (by kernel_rfl))
 f29:=Tryz.func234.trans (congrArg some (by kernel_rfl))
 f46:=⟨Tryz.f273.name,by decide,Tryz.func273.trans (congrArg some (by kernel_rfl))⟩
 f47:=Tryz.func267.trans (congrArg some (by kernel_rfl))
 f48:=Tryz.func268.trans (congrArg some (by kernel_rfl))
 f49:=⟨Tryz.f274.name,by decide,Tryz.func274.trans (congrArg some (by kernel_rfl))⟩
 f50:=⟨Tryz.f275.name,by decide,Tryz.func275.trans (congrArg some (by kernel_rfl))⟩
 f57:=⟨Tryz.f302.name,by decide,Tryz.func302.trans (congrArg some (by kernel_rfl))⟩
 t0:=Tryz.underlying0
 a0:=Tryz.isAgg0
 z0:=Tryz.sizeOf0
 v0:=Tryz.zeroValue0
 t3:=Tryz.underlying3
 a3:=Tryz.isAgg3
 z3:=Tryz.sizeOf3
 v3:=Tryz.zeroValue3
 t4:=Tryz.underlying4
 a4:=Tryz.isAgg4
 z4:=Tryz.sizeOf4
 v4:=Tryz.zeroValue4
 t5:=Tryz.underlying5
 a5:=Tryz.isAgg5
 z5:=Tryz.sizeOf5
 v5:=Tryz.zeroValue5
 t9:=Tryz.underlying9
 a9:=Tryz.isAgg9
 z9:=Tryz.sizeOf9
 v9:=Tryz.zeroValue9
 t22:=Tryz.underlying177
 a22:=Tryz.isAgg177
 z22:=Tryz.sizeOf177
 v22:=Tryz.zeroValue177
 t25:=Tryz.underlying99
 a25:=Tryz.isAgg99
 z25:=Tryz.sizeOf99
 v25:=Tryz.zeroValue99
 t39:=Tryz.underlying209
 a39:=Tryz.isAgg209
 z39:=Tryz.sizeOf209
 v39:=Tryz.zeroValue209
 t45:=Tryz.underlying239
 a45:=Tryz.isAgg239
 z45:=Tryz.sizeOf239
 v45:=Tryz.zeroValue239
 t46:=Tryz.underlying240
 a46:=Tryz.isAgg240
 z46:=Tryz.sizeOf240
 v46:=Tryz.zeroValue240
 t50:=Tryz.underlying124
 a50:=Tryz.isAgg124
 z50:=Tryz.sizeOf124
 v50:=Tryz.zeroValue124
 t53:=Tryz.underlying246
 a53:=Tryz.isAgg246
 z53:=Tryz.sizeOf246
 v53:=Tryz.zeroValue246
 t55:=Tryz.underlying217
 a55:=Tryz.isAgg217
 z55:=Tryz.sizeOf217
 v55:=Tryz.zeroValue217
 t66:=Tryz.underlying259
 a66:=Tryz.isAgg259
 z66:=Tryz.sizeOf259
 v66:=Tryz.zeroValue259
 t70:=Tryz.underlying263
 a70:=Tryz.isAgg263
 z70:=Tryz.sizeOf263
 v70:=Tryz.zeroValue263
 t76:=Tryz.underlying276
 a76:=Tryz.isAgg276
 z76:=Tryz.sizeOf276
 v76:=Tryz.zeroValue276
 t77:=Tryz.underlying277
 a77:=Tryz.isAgg277
 z77:=Tryz.sizeOf277
 v77:=Tryz.zeroValue277 }
set_option maxHeartbeats 1000000
set_option maxRecDepth 100000
theorem Tryz.walk_isNaN(x:Int) (w:World):Calls Tryz.prog 221 #[.int .i64 x] w λ e w' =>e= .returned (.bool false)/\w' =w:=by
 go_enter Tryz.func221,Tryz.ntmps221
 go_wp2
 go_ret
 exact⟨by simp,rfl⟩
def Tryz.cz(x y:Int):Int:=if x<y then -1 else if x>y then 1 else 0
theorem Tryz.walk_cmp(x y:Int) (w:World):Calls Tryz.prog 182 #[.int .i64 x,.int .i64 y] w λ e w' =>e= .returned (.int .i64 (Tryz.cz x y))/\w' =w:=by
 unfold Tryz.cz
 go_enter Tryz.func182,Tryz.ntmps182
 go_wp2_with (go_at_call 221;refine(Tryz.walk_isNaN _ _).mono ?_;rintro e w' ⟨rfl,hw⟩;rw[hw])
 all_goals (go_ret;refine⟨?_,rfl⟩;(repeat' split)<;>first | rfl | (exfalso;omega))
theorem Tryz.walk_Compare(b1 b2:Nat) (x1 x2 y1 y2:Int) (w:World) (h1:w.cell? ⟨b1,0,none⟩=some (.int .i64 x1)) (h2:w.cell? ⟨b1,1,none⟩=some (.int .i64 x2)) (h3:w.cell? ⟨b2,0,none⟩=some (.int .i64 y1)) (h4:w.cell? ⟨b2,1,none⟩=some (.int .i64 y2)) :
 Calls Tryz.prog 124 #[.slice (some ⟨b1,0,none⟩) 2 2,.slice (some ⟨b2,0,none⟩) 2 2] w λ e w' =>e= .returned (.int .i64 (if Tryz.cz x1 y1=0 then Tryz.cz x2 y2 else Tryz.cz x1 y1))/\w' =w:=by
 have k1:=λ W=>Tryz.walk_cmp x1 y1 W
 have k2:=λ W=>Tryz.walk_cmp x2 y2 W
 generalize Tryz.cz x1 y1=c1 at k1 ⊢
 generalize Tryz.cz x2 y2=c2 at k2 ⊢
 by_cases hc:c1=0
 ·subst hc
  rw[if_pos rfl]
  by_cases hd:c2=0
  ·subst hd
   go_enter Tryz.func124,Tryz.ntmps124
   go_wp2
   refine wp_loop_rounds 3 ?_
   rw[rounds_succ]
   go_wp2_with (go_at_call 182;refine(k1 _).mono ?_;rintro e w' ⟨rfl,hw⟩;rw[hw])
   rw[rounds_succ]
   go_wp2_with (go_at_call 182;refine(k2 _).mono ?_;rintro e w' ⟨rfl,hw⟩;rw[hw])
   rw[rounds_succ]
   go_wp2
   go_ret
   exact⟨rfl,rfl⟩
  ·have hb:(c2 != 0)=true:=by simpa using hd
   go_enter Tryz.func124,Tryz.ntmps124
   go_wp2
   refine wp_loop_rounds 3 ?_
   rw[rounds_succ]
   go_wp2_with (go_at_call 182;refine(k1 _).mono ?_;rintro e w' ⟨rfl,hw⟩;rw[hw])
   rw[rounds_succ]
   go_wp2_with (go_at_call 182;refine(k2 _).mono ?_;rintro e w' ⟨rfl,hw⟩;rw[hw])
   go_ret
   exact⟨rfl,rfl⟩
 ·rw[if_neg hc]
  have hb:(c1 != 0)=true:=by simpa using hc
  go_enter Tryz.func124,Tryz.ntmps124
  go_wp2
  refine wp_loop_rounds 3 ?_
  rw[rounds_succ]
  go_wp2_with (go_at_call 182;refine(k1 _).mono ?_;rintro e w' ⟨rfl,hw⟩;rw[hw])
  go_ret
  exact⟨rfl,rfl⟩
def Tryz.kty:List Go.Ab.TyI:=(List.range 101).map λ i=>bif i==3 then⟨.int .i64,1,8,[.pv (.int .i64 0)]⟩else bif i==100 then⟨.arr 2 3,2,16,[.pv (.int .i64 0),.pv (.int .i64 0)]⟩else⟨.other,0,0,[]⟩
def Tryz.kcfg:Go.Ab.Cfg:=⟨Tryz.kty,λ _=>none,λ _=>none⟩
theorem Tryz.ktys:Go.Ab.tysB Tryz.prog Tryz.kcfg=true:=by kernel_rfl
theorem Tryz.keyEq0 [GL:Go.Ab.Gl] (x1 x2 y1 y2:Int) (w:World):(Op.equalIn 10000 100 (.agg #[.int .i64 x1,.int .i64 x2]) (.agg #[.int .i64 y1,.int .i64 y2])).run Tryz.prog w= .ok (x1==y1&&x2==y2) w:=by
 have hv:∀ a b:Int,Go.Ab.VP (λ _ _=>none) (.agg #[.int .i64 a,.int .i64 b]) (.agg [.int .i64 a,.int .i64 b]):=λ a b =>
  .agg _ _ rfl (λ v hv=>by simp at hv;rcases hv with rfl | rfl<;>rfl) (λ j v p hv hp=>by
   match j with
   | 0=>simp at hv hp;subst hv;subst hp;exact .int _ _
   | 1=>simp at hv hp;subst hv;subst hp;exact .int _ _
   |j+2=>simp at hp)
 refine Go.Ab.eqP_sound (Go.Ab.tysB_ok Tryz.ktys) 6 10000 100 _ _ _ _ _ (by omega) (hv x1 x2) (hv y1 y2) ?_
 show(bif (x1==y1)then(bif (x2==y2)then some true else some false)else some false)=_
 cases x1==y1<;>cases x2==y2<;>rfl
theorem Tryz.keyEq(x1 x2 y1 y2:Int) (w:World):(Op.equalIn 10000 100 (.agg #[.int .i64 x1,.int .i64 x2]) (.agg #[.int .i64 y1,.int .i64 y2])).run Tryz.prog w= .ok (x1==y1&&x2==y2) w:=Tryz.keyEq0 (GL:=Go.Ab.Gl.triv) x1 x2 y1 y2 w
theorem Tryz.walk_compare(x1 x2 y1 y2:Int) (W:World) :
 Calls Tryz.prog 57 #[.agg #[.int .i64 x1,.int .i64 x2],.agg #[.int .i64 y1,.int .i64 y2]] W λ e w' =>e= .returned (.int .i64 (if (x1==y1&&x2==y2)=true then 0 else if Tryz.cz x1 y1=0 then Tryz.cz x2 y2 else Tryz.cz x1 y1))/\∃ q os',w' =grow (W.drewN q) os' :=by
 have he:=λ w=>Tryz.keyEq x1 x2 y1 y2 w
 generalize (x1==y1&&x2==y2)=b at he ⊢
 have hc:=λ b1 b2 w h1 h2 h3 h4=>Tryz.walk_Compare b1 b2 x1 x2 y1 y2 w h1 h2 h3 h4
 generalize (if Tryz.cz x1 y1=0 then Tryz.cz x2 y2 else Tryz.cz x1 y1)=c at hc ⊢
 cases b with
 |true =>
  go_enter Tryz.func57,Tryz.ntmps57
  go_wp2
  all_goals (go_ret;exact⟨by simp,0,_,by rw[alloc_eq_grow,alloc_eq_grow,grow_grow];rfl⟩)
 |false =>
  go_enter Tryz.func57,Tryz.ntmps57
  go_wp2
  have s1:∀ o1 o2:Obj,((W.alloc o1).alloc o2).drew.heap[W.heap.size]? =some o1:=λ o1 o2=>by
   show((W.heap.push o1).push o2)[W.heap.size]? =_
   simp[Array.getElem?_push]
  have s2:∀ o1 o2:Obj,((W.alloc o1).alloc o2).drew.heap[W.heap.size+1]? =some o2:=λ o1 o2=>by
   show((W.heap.push o1).push o2)[W.heap.size+1]? =_
   rw[Array.getElem?_push];simp
  all_goals (go_region_with (go_at_call 124;refine(hc W.heap.size (W.heap.size+1) _ (by unfold World.cell?;simp only[s1];rfl) (by unfold World.cell?;simp only[s1];rfl) (by unfold World.cell?;simp only[s2];rfl) (by unfold World.cell?;simp only[s2];rfl)).mono ?_;rintro e w' ⟨rfl,hw⟩;rw[hw]))
  all_goals (go_wp2;go_ret;exact⟨by simp,1,_,by show((W.drew).alloc _).alloc _=_;rw[alloc_eq_grow,alloc_eq_grow,grow_grow];rfl⟩)
theorem Tryz.keyCmp(x y:Int×Int):(if (x.1==y.1&&x.2==y.2)=true then 0 else if Tryz.cz x.1 y.1=0 then Tryz.cz x.2 y.2 else Tryz.cz x.1 y.1)=Go.Ab.cmpK x y:=by
 unfold Tryz.cz Go.Ab.cmpK
 by_cases h1:x.1=y.1
 ·by_cases h2:x.2=y.2
  ·simp[h1,h2]
  ·simp[h1,h2]
 ·rcases Int.lt_or_gt_of_ne h1 with h | h
  ·simp[h1,h]
  ·simp[h1,h,show ¬ x.1<y.1 by omega]
theorem Tryz.keyLt(x y:Int×Int):ltOf Go.Ab.cmpK x y=true↔x.1<y.1∨(x.1=y.1/\x.2<y.2):=by
 unfold ltOf Go.Ab.cmpK
 rw[zR]
 split
 ·constructor<;>intro<;>omega
 ·split
  ·constructor<;>intro<;>omega
  ·split
   ·constructor<;>intro<;>omega
   ·split<;>constructor<;>intro<;>omega
theorem Tryz.keySwo:SWO (ltOf Go.Ab.cmpK) where
 irrefl x:=by rw[Bool.eq_false_iff];intro h;rw[Tryz.keyLt]at h;omega
 trans x y z h1 h2:=by rw[Tryz.keyLt]at *;omega
 ntrans x y z h1 h2:=by rw[Bool.eq_false_iff]at *;intro h;simp only[ne_eq,Tryz.keyLt]at *;omega
theorem Tryz.keyTot(x y:Int×Int) (h1:ltOf Go.Ab.cmpK x y=false) (h2:ltOf Go.Ab.cmpK y x=false):x=y:=by
 rw[Bool.eq_false_iff]at h1 h2
 simp only[ne_eq,Tryz.keyLt]at h1 h2
 obtain⟨a,b⟩:=x
 obtain⟨c,d⟩:=y
 simp only[zA4]at *
 omega
theorem Tryz.keySort:Go.Ab.SortKC Tryz.prog 155 57 :=
 ⟨⟨Tryz.f155,Tryz.func155,by kernel_rfl,by kernel_rfl⟩,λ blk off cap d w h1 h2 h3=>by
   have eg:∀ args w,(callFunc 57 args).run Tryz.prog w= .ok (.enter 57 args) w:=enters_of Tryz.func57 (by kernel_rfl) rfl
   have hc:CmpLays Tryz.prog 57 #[] Go.Ab.encK 2 Go.Ab.cmpK blk off d.size w:=λ m os dk _ x y=>by
    rw[<- Tryz.keyCmp x y];exact Tryz.walk_compare x.1 x.2 y.1 y.2 _
   rw[Go.Ab.sortKeys_eq]
   exact AnyQ.slices_SortFunc_total Tryz.sortK 2 Tryz.isAgg100 Tryz.sizeOf100 Go.Ab.encK (λ _=>rfl) (λ x v hv=>by simp[Go.Ab.encK]at hv;rcases hv with rfl | rfl<;>rfl) Go.Ab.cmpK Tryz.keySwo 57 #[] blk off cap d w eg hc h1 h2 h3 Tryz.keyTot,
   λ p cap fv w=>AnyF.slices_SortFunc_none Tryz.sortK p cap fv w⟩
end Go.Proofs

namespace Go.Cf
open Go Go.Ab Go.Proofs
set_option maxRecDepth 100000
def tY_0:TyI:=⟨.scalar,1,8,[.pv .nilfn]⟩
def tY_1:TyI:=⟨.other,1,0,[]⟩
def tY_2:TyI:=⟨.scalar,1,8,[.pv (.con (.pointer none))]⟩
def tY_3:TyI:=⟨.other,0,0,[]⟩
def tY_4:TyI:=⟨(.int .i64),1,8,[.pv (.int .i64 0)]⟩
def tY_5:TyI:=⟨(.int .u8),1,1,[.pv (.int .u8 0)]⟩
def tY_6:TyI:=⟨(.int .u64),1,8,[.pv (.int .u64 0)]⟩
def tY_7:TyI:=⟨(.struct [(3,0),(3,1)]),2,16,[.pv (.int .i64 0),.pv (.int .i64 0)]⟩
def ty:List TyI:=[⟨.other,1,0,[]⟩,tY_0,tY_4,tY_4,
 ⟨.bool,1,1,[.pv (.bool false)]⟩,tY_5,tY_5,
 ⟨(.struct [(2,0),(3,1),(4,2),(6,3)]),4,24,[.pv (.int .i64 0),.pv (.int .i64 0),.pv (.bool false),.pv (.int .u8 0)]⟩,
 ⟨(.struct [(2,0),(3,1),(4,2),(6,3)]),4,24,[.pv (.int .i64 0),.pv (.int .i64 0),.pv (.bool false),.pv (.int .u8 0)]⟩,
 ⟨.str,1,16,[.pv (.str ⟨#[]⟩)]⟩,
 ⟨.str,1,16,[.pv (.str ⟨#[]⟩)]⟩,
 ⟨.str,1,16,[.pv (.str ⟨#[]⟩)]⟩,tY_6,
 ⟨.other,2,24,[]⟩,
 ⟨.other,2,24,[]⟩,tY_2,tY_2,tY_2,
 ⟨.other,1,8,[]⟩,
 ⟨.other,1,8,[]⟩,
 ⟨.scalar,1,16,[.pv (.con .nilIface)]⟩,
 ⟨(.int .i32),1,4,[.pv (.int .i32 0)]⟩,
 ⟨(.slice 141),1,24,[.nil 3]⟩,
 ⟨(.struct [(22,0)]),1,24,[.nil 3]⟩,
 ⟨(.struct [(22,0)]),1,24,[.nil 3]⟩,
 ⟨(.slice 38),1,24,[.nil 0]⟩,
 ⟨(.struct [(25,0)]),1,24,[.nil 0]⟩,
 ⟨(.struct [(25,0)]),1,24,[.nil 0]⟩,
 ⟨(.slice 3),1,24,[.nil 0]⟩,
 ⟨(.slice 48),1,24,[.nil 6]⟩,
 ⟨(.struct [(28,0),(29,1),(3,2),(28,3),(28,4),(3,5)]),6,112,[.nil 0,.nil 6,.pv (.int .i64 0),.nil 0,.nil 0,.pv (.int .i64 0)]⟩,
 ⟨(.struct [(28,0),(29,1),(3,2),(28,3),(28,4),(3,5)]),6,112,[.nil 0,.nil 6,.pv (.int .i64 0),.nil 0,.nil 0,.pv (.int .i64 0)]⟩,
 ⟨(.arr 2 3),2,16,[.pv (.int .i64 0),.pv (.int .i64 0)]⟩,
 ⟨(.slice 35),1,24,[.nil 6]⟩,
 ⟨(.struct [(3,0),(3,1),(32,2),(33,4)]),5,56,[.pv (.int .i64 0),.pv (.int .i64 0),.pv (.int .i64 0),.pv (.int .i64 0),.nil 6]⟩,
 ⟨(.struct [(3,0),(3,1),(32,2),(33,4)]),5,56,[.pv (.int .i64 0),.pv (.int .i64 0),.pv (.int .i64 0),.pv (.int .i64 0),.nil 6]⟩,tY_0,tY_0,
 ⟨(.slice 54),1,24,[.nil 0]⟩,
 ⟨(.struct [(28,0),(38,1)]),2,48,[.nil 0,.nil 0]⟩,
 ⟨(.struct [(28,0),(38,1)]),2,48,[.nil 0,.nil 0]⟩,tY_1,tY_0,tY_0,tY_0,tY_7,tY_7,
 ⟨(.struct [(3,0),(3,1),(46,2),(29,4)]),5,56,[.pv (.int .i64 0),.pv (.int .i64 0),.pv (.int .i64 0),.pv (.int .i64 0),.nil 6]⟩,
 ⟨(.struct [(3,0),(3,1),(46,2),(29,4)]),5,56,[.pv (.int .i64 0),.pv (.int .i64 0),.pv (.int .i64 0),.pv (.int .i64 0),.nil 6]⟩,tY_0,tY_0,tY_0,tY_0,tY_0,
 ⟨(.slice 46),1,24,[.nil 3]⟩,tY_0,
 ⟨(.slice 58),1,24,[.nil 3]⟩,
 ⟨(.struct [(3,0),(56,1)]),2,32,[.pv (.int .i64 0),.nil 3]⟩,
 ⟨(.struct [(3,0),(56,1)]),2,32,[.pv (.int .i64 0),.nil 3]⟩,tY_1,tY_0,tY_0,tY_0,tY_0,tY_0,tY_0,tY_0,tY_0,tY_0,tY_0,tY_0,tY_0,tY_0,tY_0,tY_0,tY_0,tY_0,tY_0,tY_0,
 ⟨(.struct [(35,0),(3,5),(4,6)]),7,72,[.pv (.int .i64 0),.pv (.int .i64 0),.pv (.int .i64 0),.pv (.int .i64 0),.nil 6,.pv (.int .i64 0),.pv (.bool false)]⟩,
 ⟨(.struct [(35,0),(3,5),(4,6)]),7,72,[.pv (.int .i64 0),.pv (.int .i64 0),.pv (.int .i64 0),.pv (.int .i64 0),.nil 6,.pv (.int .i64 0),.pv (.bool false)]⟩,tY_0,tY_0,tY_0,tY_0,tY_1,tY_0,tY_0,tY_0,tY_0,tY_0,
 ⟨(.struct [(24,0),(27,1),(31,2)]),8,160,[.nil 3,.nil 0,.nil 0,.nil 6,.pv (.int .i64 0),.nil 0,.nil 0,.pv (.int .i64 0)]⟩,
 ⟨(.struct [(24,0),(27,1),(31,2)]),8,160,[.nil 3,.nil 0,.nil 0,.nil 6,.pv (.int .i64 0),.nil 0,.nil 0,.pv (.int .i64 0)]⟩,tY_0,tY_0,
 ⟨(.map 9 3),1,8,[.pv (.con (.map none))]⟩,tY_0,tY_0,tY_0,tY_0,
 ⟨(.arr 2 3),2,16,[.pv (.int .i64 0),.pv (.int .i64 0)]⟩,tY_0,tY_0,tY_0,tY_0,tY_0,tY_0,tY_0,tY_0,tY_0,tY_0,tY_0,tY_0,tY_0,tY_0,tY_0,tY_0,tY_0,tY_0,tY_0,tY_0,tY_0,tY_0,tY_4,tY_1,tY_0,tY_0,tY_0,tY_0,tY_0,tY_0,
 ⟨(.arr 16 4),16,16,[.pv (.bool false),.pv (.bool false),.pv (.bool false),.pv (.bool false),.pv (.bool false),.pv (.bool false),.pv (.bool false),.pv (.bool false),.pv (.bool false),.pv (.bool false),.pv (.bool false),.pv (.bool false),.pv (.bool false),.pv (.bool false),.pv (.bool false),.pv (.bool false)]⟩,tY_0,tY_0,tY_0,tY_0,tY_0,tY_0,tY_0,tY_0,tY_7,tY_7,tY_0,
 ⟨(.struct [(35,0)]),5,56,[.pv (.int .i64 0),.pv (.int .i64 0),.pv (.int .i64 0),.pv (.int .i64 0),.nil 6]⟩,
 ⟨(.struct [(35,0)]),5,56,[.pv (.int .i64 0),.pv (.int .i64 0),.pv (.int .i64 0),.pv (.int .i64 0),.nil 6]⟩,tY_0,tY_0,tY_0,tY_0,tY_0,tY_2,
 ⟨(.slice 5),1,24,[.nil 0]⟩,
 ⟨(.struct [(150,0),(151,1)]),2,32,[.pv (.con (.pointer none)),.nil 0]⟩,
 ⟨(.struct [(150,0),(151,1)]),2,32,[.pv (.con (.pointer none)),.nil 0]⟩,
 ⟨.scalar,1,16,[.pv (.con .nilIface)]⟩,
 ⟨.scalar,1,16,[.pv (.con .nilIface)]⟩,tY_1,tY_0,tY_0,tY_0,tY_0,tY_0,tY_3,tY_3,tY_0,tY_0,tY_0,tY_0,tY_0,tY_0,tY_0,tY_0,tY_0,tY_0,tY_0,tY_0,
 ⟨(.map 100 38),1,8,[.pv (.con (.map none))]⟩,
 ⟨(.slice 100),1,24,[.nil 3]⟩,tY_0,tY_0,tY_0,tY_0,
 ⟨(.slice 4),1,24,[.nil 0]⟩,tY_0,tY_0,tY_0,tY_0,tY_0,tY_0,tY_0,tY_0,tY_0,
 ⟨(.slice 32),1,24,[.nil 3]⟩,tY_0,tY_0,
 ⟨(.map 196 38),1,8,[.pv (.con (.map none))]⟩,
 ⟨(.arr 2 3),2,16,[.pv (.int .i64 0),.pv (.int .i64 0)]⟩,tY_1,tY_0,tY_0,tY_0,tY_0,tY_2,
 ⟨(.slice 28),1,24,[.nil 0]⟩,tY_0,tY_0,tY_0,tY_0,tY_0,tY_6,tY_0,tY_1,tY_0,tY_0,tY_0,tY_0,tY_0,tY_6,tY_1,tY_0,tY_0,tY_0,tY_0,tY_0,tY_0,tY_1,tY_0,tY_0,tY_1,tY_0,tY_0,
 ⟨.other,1,8,[]⟩,tY_0,tY_0,tY_0,
 ⟨(.struct [(3,0),(3,1),(181,2)]),3,24,[.pv (.int .i64 0),.pv (.int .i64 0),.pv .nilfn]⟩,
 ⟨(.struct [(3,0),(3,1),(181,2)]),3,24,[.pv (.int .i64 0),.pv (.int .i64 0),.pv .nilfn]⟩,tY_0,tY_0,tY_4,tY_1,tY_0,tY_0,tY_0,tY_0,tY_0,
 ⟨(.int .u32),1,4,[.pv (.int .u32 0)]⟩,tY_0,tY_0,tY_0,tY_0,tY_0,tY_0,tY_0,
 ⟨(.arr 24 5),24,24,[.pv (.int .u8 0),.pv (.int .u8 0),.pv (.int .u8 0),.pv (.int .u8 0),.pv (.int .u8 0),.pv (.int .u8 0),.pv (.int .u8 0),.pv (.int .u8 0),.pv (.int .u8 0),.pv (.int .u8 0),.pv (.int .u8 0),.pv (.int .u8 0),.pv (.int .u8 0),.pv (.int .u8 0),.pv (.int .u8 0),.pv (.int .u8 0),.pv (.int .u8 0),.pv (.int .u8 0),.pv (.int .u8 0),.pv (.int .u8 0),.pv (.int .u8 0),.pv (.int .u8 0),.pv (.int .u8 0),.pv (.int .u8 0)]⟩,tY_0,tY_1,tY_0,tY_0,tY_6,tY_0,tY_0,tY_0,tY_2,tY_0,tY_0,tY_0,tY_0,tY_0,
 ⟨(.arr 20 217),20,160,[.pv (.int .u64 0),.pv (.int .u64 0),.pv (.int .u64 0),.pv (.int .u64 0),.pv (.int .u64 0),.pv (.int .u64 0),.pv (.int .u64 0),.pv (.int .u64 0),.pv (.int .u64 0),.pv (.int .u64 0),.pv (.int .u64 0),.pv (.int .u64 0),.pv (.int .u64 0),.pv (.int .u64 0),.pv (.int .u64 0),.pv (.int .u64 0),.pv (.int .u64 0),.pv (.int .u64 0),.pv (.int .u64 0),.pv (.int .u64 0)]⟩,
 ⟨.other,65,65,[]⟩,tY_0,tY_0,tY_0,tY_0,tY_0,tY_2,tY_1,tY_0,tY_0,tY_0,tY_0,
 ⟨(.arr 32 5),32,32,[.pv (.int .u8 0),.pv (.int .u8 0),.pv (.int .u8 0),.pv (.int .u8 0),.pv (.int .u8 0),.pv (.int .u8 0),.pv (.int .u8 0),.pv (.int .u8 0),.pv (.int .u8 0),.pv (.int .u8 0),.pv (.int .u8 0),.pv (.int .u8 0),.pv (.int .u8 0),.pv (.int .u8 0),.pv (.int .u8 0),.pv (.int .u8 0),.pv (.int .u8 0),.pv (.int .u8 0),.pv (.int .u8 0),.pv (.int .u8 0),.pv (.int .u8 0),.pv (.int .u8 0),.pv (.int .u8 0),.pv (.int .u8 0),.pv (.int .u8 0),.pv (.int .u8 0),.pv (.int .u8 0),.pv (.int .u8 0),.pv (.int .u8 0),.pv (.int .u8 0),.pv (.int .u8 0),.pv (.int .u8 0)]⟩,
 ⟨(.arr 64 5),64,64,[.pv (.int .u8 0),.pv (.int .u8 0),.pv (.int .u8 0),.pv (.int .u8 0),.pv (.int .u8 0),.pv (.int .u8 0),.pv (.int .u8 0),.pv (.int .u8 0),.pv (.int .u8 0),.pv (.int .u8 0),.pv (.int .u8 0),.pv (.int .u8 0),.pv (.int .u8 0),.pv (.int .u8 0),.pv (.int .u8 0),.pv (.int .u8 0),.pv (.int .u8 0),.pv (.int .u8 0),.pv (.int .u8 0),.pv (.int .u8 0),.pv (.int .u8 0),.pv (.int .u8 0),.pv (.int .u8 0),.pv (.int .u8 0),.pv (.int .u8 0),.pv (.int .u8 0),.pv (.int .u8 0),.pv (.int .u8 0),.pv (.int .u8 0),.pv (.int .u8 0),.pv (.int .u8 0),.pv (.int .u8 0),.pv (.int .u8 0),.pv (.int .u8 0),.pv (.int .u8 0),.pv (.int .u8 0),.pv (.int .u8 0),.pv (.int .u8 0),.pv (.int .u8 0),.pv (.int .u8 0),.pv (.int .u8 0),.pv (.int .u8 0),.pv (.int .u8 0),.pv (.int .u8 0),.pv (.int .u8 0),.pv (.int .u8 0),.pv (.int .u8 0),.pv (.int .u8 0),.pv (.int .u8 0),.pv (.int .u8 0),.pv (.int .u8 0),.pv (.int .u8 0),.pv (.int .u8 0),.pv (.int .u8 0),.pv (.int .u8 0),.pv (.int .u8 0),.pv (.int .u8 0),.pv (.int .u8 0),.pv (.int .u8 0),.pv (.int .u8 0),.pv (.int .u8 0),.pv (.int .u8 0),.pv (.int .u8 0),.pv (.int .u8 0)]⟩,
 ⟨.other,4,40,[]⟩,
 ⟨.other,4,40,[]⟩,tY_3,tY_3,tY_3,tY_5,tY_5,tY_0,
 ⟨(.int .i32),1,4,[.pv (.int .i32 0)]⟩,
 ⟨(.int .i32),1,4,[.pv (.int .i32 0)]⟩,
 ⟨.other,11,48,[]⟩,
 ⟨.other,11,48,[]⟩]
def hZ_(n:Nat):Hint:=⟨n,⟨[],[],[],[],[],[]⟩,[],[],[],[]⟩
def fi12:FnI:=mkFn Tryz.f12 ⟨4,⟨[],[],[],[],[],[]⟩,[],[],[],[(5,[4,5,6,7]),(9,[4,5,6,11,12])]⟩
def fi13:FnI:=mkFn Tryz.f13 (hZ_ 0)
def fi14:FnI:=mkFn Tryz.f14 (hZ_ 4)
def fi15:FnI:=mkFn Tryz.f15 ⟨4,⟨[],[],[],[],[],[]⟩,[],[],[],[(3,[4,5,6,7,8])]⟩
def fi16:FnI:=zYm Tryz.f16 ⟨2,⟨[],[],[],[],[],[]⟩,[(5,[2,3,5,27,28]),(11,[51])],[(5,[5]),(11,[4])],[],[(3,[2,3])]⟩ 3 5
def fi17:FnI:=mkFn Tryz.f17 ⟨2,⟨[],[12,13],[],[],[],[]⟩,[],[],[],[]⟩
def fi19:FnI:=mkFn Tryz.f19 (hZ_ 3)
def fi20:FnI:=mkFn Tryz.f20 ⟨2,⟨[],[],[],[],[],[]⟩,[(5,[2,5,6])],[(5,[4])],[],[(4,[2,5])]⟩
def fi21:FnI:=mkFn Tryz.f21 ⟨3,⟨[],[],[],[],[],[]⟩,[],[],[],[(3,[3,4,5,6])]⟩
def fi22:FnI:=mkFn Tryz.f22 ⟨2,⟨[],[],[],[],[],[]⟩,[(6,[3,6,43,44,45])],[(6,[3,4,6])],[],[(4,[2,3]),(14,[3,10])]⟩
def fi23:FnI:=mkFn Tryz.f23 ⟨2,⟨[],[],[],[],[],[]⟩,[(4,[0,1,5])],[(4,[4])],[],[]⟩
def fi24:FnI:=mkFn Tryz.f24 (hZ_ 1)
def fi26:FnI:=mkFn Tryz.f26 ⟨1,⟨[1],[],[],[],[],[]⟩,[(3,[1])],[(3,[1])],[(1,[2])],[(6,[1,20])]⟩
def fi27:FnI:=mkFn Tryz.f27 (hZ_ 3)
def fi28:FnI:=mkFn Tryz.f28 (hZ_ 1)
def fi32:FnI:=mkFn Tryz.f32 (hZ_ 2)
def fi35:FnI:=mkFn Tryz.f35 ⟨2,⟨[],[],[],[],[],[]⟩,[(5,[2,3,6])],[(5,[4])],[],[(4,[2,3])]⟩
def fi36:FnI:=mkFn Tryz.f36 (hZ_ 4)
def fi38:FnI:=mkFn Tryz.f38 (hZ_ 2)
def fi39:FnI:=mkFn Tryz.f39 ⟨2,⟨[6,10,13,42,66,72],[],[],[],[],[]⟩,[(5,[1,2,4,6,26,27,28]),(14,[4,6,10,48,49,50]),(18,[4,6,10,12,13,48,49,50,54,55,56])],[(5,[1,2,4,5,6]),(14,[4,10]),(18,[4,6,10,13,48,49,50])],[(22,[26]),(24,[20])],[(3,[1,2,4])]⟩
def fi40:FnI:=mkFn Tryz.f40 (hZ_ 2)
def fi41:FnI:=mkFn Tryz.f41 ⟨1,⟨[3],[],[],[],[],[]⟩,[(3,[1,3,10,11,12]),(11,[1,6,31,32,33])],[(3,[1,2]),(11,[1,2])],[],[]⟩
def fi42:FnI:=mkFn Tryz.f42 (hZ_ 2)
def fi43:FnI:=mkFn Tryz.f43 ⟨2,⟨[5],[8,15,16],[8],[(8,[(.agg [.pv (.slice 0 []),.view 0 0 none],[.row false 0 0 []])])],[16],[]⟩,[],[],[(3,[]),(4,[])],[]⟩
def fi44:FnI:=mkFn Tryz.f44 ⟨4,⟨[],[],[],[],[],[]⟩,[],[],[],[(3,[4,5,6,7,8]),(5,[6,8,10,11,40]),(6,[8,10,11])]⟩
def fi45:FnI:=mkFn Tryz.f45 ⟨3,⟨[],[],[],[],[],[]⟩,[],[],[],[(4,[4,5])]⟩
def fi46:FnI:=mkFn Tryz.f46 (hZ_ 0)
def fi47:FnI:=mkFn Tryz.f47 (hZ_ 3)
def fi48:FnI:=mkFn Tryz.f48 ⟨2,⟨[],[],[],[],[],[]⟩,[(3,[1,2,5,6])],[(3,[5])],[],[(5,[1,2,5,6])]⟩
def fi49:FnI:=mkFn Tryz.f49 ⟨3,⟨[],[],[],[],[],[]⟩,[],[],[],[(4,[3,4,5])]⟩
def fi50:FnI:=mkFn Tryz.f50 ⟨2,⟨[],[28,35],[],[],[],[]⟩,[(4,[2,21,22,23])],[(4,[4])],[],[(3,[2,3])]⟩
def fi51:FnI:=mkFn Tryz.f51 ⟨2,⟨[],[],[],[],[],[]⟩,[],[],[],[(13,[2,3,4,7])]⟩
def fi52:FnI:=mkFn Tryz.f52 ⟨2,⟨[],[],[],[],[],[]⟩,[(4,[0,1,12,13])],[(4,[4])],[],[]⟩
def fi53:FnI:=mkFn Tryz.f53 ⟨1,⟨[],[21,23],[],[],[],[]⟩,[(3,[3,6,7,8])],[(3,[3])],[],[]⟩
def fi54:FnI:=mkFn Tryz.f54 ⟨2,⟨[],[],[],[],[],[]⟩,[(2,[0,1,7,8])],[(2,[4])],[],[]⟩
def fi55:FnI:=mkFn Tryz.f55 ⟨2,⟨[],[23],[],[],[],[]⟩,[(2,[0,1,5])],[(2,[4])],[],[]⟩
def fi56:FnI:=mkFn Tryz.f56 (hZ_ 3)
def fi57:FnI:=mkFn Tryz.f57 (hZ_ 2)
def fi58:FnI:=mkFn Tryz.f58 ⟨2,⟨[],[],[],[],[],[]⟩,[],[],[],[(3,[0,1,4]),(6,[4,5])]⟩
def fi59:FnI:=mkFn Tryz.f59 (hZ_ 2)
def fi60:FnI:=mkFn Tryz.f60 (hZ_ 1)
def fi61:FnI:=mkFn Tryz.f61 (hZ_ 1)
def fi62:FnI:=mkFn Tryz.f62 ⟨3,⟨[],[],[],[],[],[]⟩,[(3,[0,1,2,3,4,5])],[(3,[2,3,4])],[],[]⟩
def fi63:FnI:=mkFn Tryz.f63 (hZ_ 2)
def fi64:FnI:=mkFn Tryz.f64 ⟨4,⟨[10,45],[],[],[],[],[]⟩,[(5,[2,3,5,8,10,36,37])],[(5,[2,5,8,10])],[(9,[20])],[(3,[2,3,4,5,8])]⟩
def fi65:FnI:=mkFn Tryz.f65 ⟨2,⟨[6,65],[],[],[],[],[]⟩,[(5,[3,4,6,45,46,47]),(8,[3,4,6,8,45,46,47,52,53,54])],[(5,[4,6]),(8,[3,4,6,45,46,47])],[(2,[12]),(13,[12])],[(4,[2,3,4,6])]⟩
def fi66:FnI:=mkFn Tryz.f66 (hZ_ 2)
def fi67:FnI:=mkFn Tryz.f67 (hZ_ 1)
def fi68:FnI:=mkFn Tryz.f68 (hZ_ 2)
def fi69:FnI:=mkFn Tryz.f69 ⟨3,⟨[7,52],[],[],[],[],[]⟩,[(3,[2,3,4,7,14,15]),(8,[2,3,4,7,8,14,15,43,44])],[(3,[7]),(8,[2,3,4,7,14,15])],[],[(7,[2,3,4,7,8,9,14,15])]⟩
def fi70:FnI:=mkFn Tryz.f70 (hZ_ 1)
def fi71:FnI:=mkFn Tryz.f71 ⟨1,⟨[3],[8,9,11,13],[],[(13,[(.pv .undef,[.dead])])],[11],[]⟩,[],[],[(4,[]),(5,[]),(6,[])],[]⟩
def fi72:FnI:=mkFn Tryz.f72 (hZ_ 2)
def fi73:FnI:=mkFn Tryz.f73 ⟨1,⟨[],[5,7,9],[5],[(5,[(.view 0 0 none,[.row false 0 0 []])]),(9,[(.pv .undef,[.dead])])],[7],[]⟩,[],[],[(2,[]),(3,[])],[]⟩
def fi74:FnI:=mkFn Tryz.f74 (hZ_ 2)
def fi75:FnI:=mkFn Tryz.f75 ⟨1,⟨[],[5,6],[],[],[],[]⟩,[],[],[],[]⟩
def fi76:FnI:=mkFn Tryz.f76 (hZ_ 1)
def fi77:FnI:=mkFn Tryz.f77 (hZ_ 1)
def fi80:FnI:=mkFn Tryz.f80 ⟨3,⟨[],[16,17],[],[],[],[]⟩,[],[],[],[]⟩
def fi82:FnI:=mkFn Tryz.f82 (hZ_ 2)
def fi83:FnI:=mkFn Tryz.f83 ⟨2,⟨[],[],[],[],[],[]⟩,[],[],[],[(4,[1,2,11]),(7,[2,6])]⟩
def fi87:FnI:=mkFn Tryz.f87 ⟨3,⟨[11,15,19,23,49,68,71,75,81,93,112,137,143,149],[79],[],[],[79],[]⟩,[(8,[1,2,3,6,8,10,11,51,52,53]),(18,[2,3,6,10,11,15,84,85]),(23,[2,3,6,10,15,96,97,98]),(27,[2,3,6,10,15,18,19,96,97,98,113,114,115]),(32,[2,3,6,10,15,18,19,22,23,96,97,98,113,114,115,125,126,127])],[(8,[1,2,3,6,10,11]),(18,[2,3,6,10,11,15]),(23,[6,15]),(27,[2,3,6,10,15,19,96,97,98]),(32,[2,3,6,10,15,18,19,23,96,97,98,113,114,115])],[(15,[]),(36,[46]),(38,[38]),(40,[30])],[(5,[1,2,3,6,8]),(13,[1,2,3,6,8,10,11,13,14,51,52,53])]⟩
def fi93:FnI:=mkFn Tryz.f93 ⟨2,⟨[],[],[],[],[],[]⟩,[(4,[0,1,5])],[(4,[4])],[],[]⟩
def fi96:FnI:=mkFn Tryz.f96 ⟨1,⟨[2,5,7],[],[],[],[],[]⟩,[],[],[],[]⟩
def fi97:FnI:=mkFn Tryz.f97 ⟨2,⟨[5,23],[19],[],[],[],[]⟩,[(3,[1,5,9,10,11])],[(3,[5])],[],[]⟩
def fi98:FnI:=mkFn Tryz.f98 (hZ_ 2)
def fi99:FnI:=mkFn Tryz.f99 (hZ_ 1)
def z6T:FnI:=mkFn Tryz.f100 (hZ_ 1)
def z6U:FnI:=mkFn Tryz.f101 (hZ_ 2)
def zWD:FnI:=mkFn Tryz.f102 ⟨2,⟨[5,27],[],[],[],[],[]⟩,[(3,[1,4,5,13,14,15])],[(3,[4,5])],[(8,[])],[]⟩
def z6V:FnI:=mkFn Tryz.f103 (hZ_ 3)
def z6W:FnI:=mkFn Tryz.f104 (hZ_ 2)
def z6X:FnI:=mkFn Tryz.f105 (hZ_ 3)
def z6Y:FnI:=mkFn Tryz.f106 (hZ_ 3)
def z6Z:FnI:=mkFn Tryz.f107 (hZ_ 1)
def z60:FnI:=mkFn Tryz.f108 ⟨2,⟨[],[8],[],[],[],[]⟩,[],[],[],[]⟩
def z61:FnI:=mkFn Tryz.f109 (hZ_ 3)
def zWE:FnI:=mkFn Tryz.f110 ⟨2,⟨[],[10,21],[],[],[],[]⟩,[(4,[1,13,14,15])],[(4,[4])],[],[]⟩
def z62:FnI:=mkFn Tryz.f111 (hZ_ 3)
def z2r:FnI:=mkFn Tryz.f112 ⟨3,⟨[],[],[],[],[],[7,8]⟩,[],[],[],[(4,[3,4,5,12,13])]⟩
def z63:FnI:=mkFn Tryz.f113 (hZ_ 3)
def z64:FnI:=mkFn Tryz.f114 (hZ_ 2)
def z65:FnI:=mkFn Tryz.f115 ⟨2,⟨[],[7],[],[],[],[]⟩,[],[],[],[]⟩
def z2s:FnI:=mkFn Tryz.f116 ⟨2,⟨[5,22],[],[],[],[],[]⟩,[(3,[2,5,8,9,10])],[(3,[5])],[],[]⟩
def z67:FnI:=mkFn Tryz.f117 (hZ_ 1)
def z68:FnI:=mkFn Tryz.f118 (hZ_ 4)
def zUL:FnI:=mkFn Tryz.f119 ⟨4,⟨[16,33,50,54,93],[],[],[],[],[]⟩,[(4,[6,7,8,9,10,11,35,36,37]),(12,[8,9,11,16,65,66,67]),(17,[8,9,11,16,18,65,66,67,81,82,83])],[(4,[6,7,8,9,11]),(12,[8,16]),(17,[8,9,11,16,65,66,67])],[(22,[32])],[]⟩
def zOZ:FnI:=mkFn Tryz.f120 ⟨4,⟨[11,96],[],[],[],[],[]⟩,[(5,[7,8,9,10,11,12,34,35,36]),(7,[7,8,9,10,11,12,14,34,35,36]),(10,[7,8,9,10,11,12,14,15,34,35,36])],[(5,[8,11]),(7,[7,8,9,10,11,12,14,34,35,36]),(10,[7,8,9,10,11,12,34,35,36])],[(14,[22])],[(9,[7,8,9,10,11,12,14,34,35,36]),(12,[7,8,9,10,11,12,14,15,34,35,36])]⟩
def z2t:FnI:=mkFn Tryz.f124 ⟨2,⟨[],[],[],[],[],[]⟩,[(2,[0,1,9,10,11])],[(2,[0,1,4])],[],[]⟩
def zUM:FnI:=mkFn Tryz.f125 ⟨2,⟨[],[],[],[],[],[]⟩,[(3,[3,5,6])],[(3,[5])],[],[(2,[3,5]),(5,[3,6])]⟩
def zQt:FnI:=mkFn Tryz.f126 ⟨1,⟨[],[],[],[],[],[]⟩,[(3,[1,3,4]),(7,[1,3,4,5])],[(3,[3]),(7,[1,3,4])],[],[(5,[1,4]),(9,[1,4,5])]⟩
def z69:FnI:=mkFn Tryz.f128 (hZ_ 3)
def z2u:FnI:=mkFn Tryz.f129 ⟨2,⟨[],[],[],[],[],[]⟩,[],[],[],[(3,[0,1])]⟩
def zYo:FnI:=mkFn Tryz.f130 ⟨1,⟨[6,24,33],[24],[24],[(24,[(.view 0 0 none,[.row false 0 0 []])])],[],[]⟩,[(3,[0,3,9,10,11]),(11,[6,25,26,27])],[(3,[0,3]),(11,[6])],[],[]⟩
def zYp:FnI:=mkFn Tryz.f131 ⟨1,⟨[6,24,33],[24],[24],[(24,[(.view 0 0 none,[.row false 0 3 []])])],[],[]⟩,[(3,[0,3,9,10,11]),(11,[6,25,26,27])],[(3,[0,3]),(11,[6])],[],[]⟩
def z6a:FnI:=mkFn Tryz.f132 (hZ_ 2)
def z6b:FnI:=mkFn Tryz.f133 (hZ_ 1)
def z6c:FnI:=mkFn Tryz.f134 (hZ_ 1)
def z2v:FnI:=mkFn Tryz.f135 ⟨2,⟨[],[],[],[],[],[]⟩,[(2,[0,1,7,8])],[(2,[4])],[],[]⟩
def z6d:FnI:=mkFn Tryz.f136 ⟨1,⟨[],[5,6],[],[],[],[]⟩,[],[],[],[]⟩
def zWF:FnI:=mkFn Tryz.f137 ⟨3,⟨[],[12,25],[],[],[],[]⟩,[(4,[1,2,15,16,17])],[(4,[6])],[],[]⟩
def z6e:FnI:=mkFn Tryz.f138 ⟨3,⟨[2,13],[],[],[],[],[]⟩,[],[],[],[]⟩
def z86:FnI:=mkFn Tryz.f139 (hZ_ 1)
def z87:FnI:=mkFn Tryz.f140 ⟨1,⟨[0],[],[],[],[],[]⟩,[(4,[0,3]),(9,[0,3,4,5])],[(4,[0,2]),(9,[0,3])],[],[]⟩
def z6f:FnI:=mkFn Tryz.f141 (hZ_ 2)
def z6g:FnI:=mkFn Tryz.f142 (hZ_ 2)
def zYq:FnI:=mkFn Tryz.f143 ⟨1,⟨[],[],[],[],[],[]⟩,[],[],[],[(2,[1,3]),(3,[1,3,4])]⟩
def z6h:FnI:=mkFn Tryz.f144 (hZ_ 1)
def z6i:FnI:=mkFn Tryz.f145 (hZ_ 4)
def z6j:FnI:=mkFn Tryz.f154 (hZ_ 2)
def z88:FnI:=mkFn Tryz.f155 ⟨2,⟨[],[13],[],[],[],[]⟩,[],[],[],[]⟩
def z6k:FnI:=mkFn Tryz.f156 (hZ_ 1)
def z2w:FnI:=mkFn Tryz.f157 ⟨1,⟨[],[],[],[],[],[]⟩,[(6,[2,3,4,5,14,15,16])],[(6,[2,3,4,5])],[],[]⟩
def z6l:FnI:=mkFn Tryz.f164 (hZ_ 1)
def z2x:FnI:=mkFn Tryz.f165 ⟨2,⟨[],[],[],[],[],[]⟩,[(2,[0,1,7,8])],[(2,[4])],[],[]⟩
def z6m:FnI:=mkFn Tryz.f166 ⟨1,⟨[2,5,7],[],[],[],[],[]⟩,[],[],[],[]⟩
def z2y:FnI:=mkFn Tryz.f167 ⟨2,⟨[],[],[],[],[],[]⟩,[(2,[0,1,7,8])],[(2,[4])],[],[]⟩
def z6n:FnI:=mkFn Tryz.f168 (hZ_ 1)
def z6o:FnI:=mkFn Tryz.f169 (hZ_ 3)
def zUN:FnI:=mkFn Tryz.f170 ⟨3,⟨[],[18,27,43,60],[],[],[],[]⟩,[(2,[0,1,2,6,7,8]),(7,[0,1,2,6]),(9,[0,1,2,6,7,8])],[(2,[0,1,2,6,7]),(7,[]),(9,[0,1,2,6,7])],[],[]⟩
def z6p:FnI:=mkFn Tryz.f171 (hZ_ 1)
def z6q:FnI:=mkFn Tryz.f172 (hZ_ 2)
def zUO:FnI:=mkFn Tryz.f173 ⟨3,⟨[7,61],[],[],[],[],[]⟩,[(3,[1,2,3,7,18,19,20]),(8,[1,2,3,7,18,19,20,42,43,44])],[(3,[7]),(8,[1,2,3,7,18,19,20])],[(10,[29])],[(11,[1,2,3,7,14,18,19,20,42,43,44,57])]⟩
def z6r:FnI:=mkFn Tryz.f174 (hZ_ 1)
def z2z:FnI:=mkFn Tryz.f175 ⟨2,⟨[],[16],[],[],[],[]⟩,[(2,[0,1,7,8])],[(2,[4])],[],[]⟩
def z6s:FnI:=mkFn Tryz.f176 ⟨2,⟨[],[],[],[],[],[]⟩,[],[],[(2,[100013])],[]⟩
def z6t:FnI:=mkFn Tryz.f177 (hZ_ 2)
def z6u:FnI:=mkFn Tryz.f178 ⟨2,⟨[2,3],[],[],[],[],[]⟩,[],[],[(1,[4,6]),(2,[4,6])],[]⟩
def z6v:FnI:=mkFn Tryz.f179 (hZ_ 2)
def z6w:FnI:=mkFn Tryz.f182 (hZ_ 2)
def z6x:FnI:=mkFn Tryz.f183 (hZ_ 2)
def z3A:FnI:=mkFn Tryz.f184 ⟨2,⟨[0,4,22],[],[],[],[],[]⟩,[],[],[],[(3,[0,1])]⟩
def z3B:FnI:=mkFn Tryz.f185 ⟨2,⟨[0,4,22],[],[],[],[],[]⟩,[],[],[],[(3,[0,1])]⟩
def z3C:FnI:=mkFn Tryz.f186 ⟨2,⟨[],[],[],[],[],[]⟩,[(2,[0,1,7,8])],[(2,[4])],[],[]⟩
def z6y:FnI:=mkFn Tryz.f187 (hZ_ 3)
def zUP:FnI:=mkFn Tryz.f188 ⟨1,⟨[],[],[],[],[],[]⟩,[],[],[],[(3,[1,4]),(4,[1,4,5]),(5,[1,4,5,6])]⟩
def z6z:FnI:=mkFn Tryz.f191 (hZ_ 1)
def z7A:FnI:=mkFn Tryz.f200 (hZ_ 2)
def z7B:FnI:=mkFn Tryz.f201 (hZ_ 1)
def z7C:FnI:=mkFn Tryz.f202 (hZ_ 0)
def z7D:FnI:=mkFn Tryz.f204 (hZ_ 0)
def z3D:FnI:=mkFn Tryz.f209 ⟨1,⟨[],[],[],[],[],[]⟩,[(3,[3,9,10,11])],[(3,[3])],[],[]⟩
def zYr:FnI:=mkFn Tryz.f210 ⟨3,⟨[8,49],[],[],[],[],[]⟩,[(11,[1,2,3,6,8,37,38,39])],[(11,[3,6,8])],[(15,[16])],[(8,[2,6,7])]⟩
def zUQ:FnI:=mkFn Tryz.f211 ⟨4,⟨[0],[32],[],[],[],[]⟩,[(1,[0,1,2,3,8]),(4,[0,1,2,3,8,9])],[(1,[]),(4,[0,1,2,3,8])],[],[(6,[0,1,2,3,8,9])]⟩
def zGj:FnI:=mkFn Tryz.f212 ⟨5,⟨[0],[49,101,169,191,205,219],[],[],[],[]⟩,[(3,[0,1,4,10,11]),(9,[0,10,13]),(15,[0,2,4,14,15]),(21,[0,14,17]),(33,[0,1,2,3,4,18,19,20,21,22])],[(3,[0,1,10]),(9,[]),(15,[0,2,14]),(21,[]),(33,[0,1,2,3,4,18,19,20])],[(40,[0]),(42,[0]),(44,[0])],[(32,[0,1,2,3,4,18,19,20,21]),(40,[0,1,2,3,4,18,20,24,185]),(41,[0,1,3,4,18,20,24]),(42,[0,1,3,4,18,20,24,199]),(43,[0,3,4,18,24]),(44,[0,3,4,18,24,213])]⟩
def z3E:FnI:=mkFn Tryz.f213 ⟨2,⟨[],[],[],[],[],[]⟩,[(2,[0,3,7,8])],[(2,[4])],[],[]⟩
def zYs:FnI:=mkFn Tryz.f214 ⟨1,⟨[],[],[],[],[],[5,6]⟩,[],[],[],[(3,[1]),(6,[5,6])]⟩
def z7E:FnI:=mkFn Tryz.f215 (hZ_ 1)
def z3F:FnI:=mkFn Tryz.f216 ⟨1,⟨[],[],[],[],[],[]⟩,[(3,[3,6,7,8])],[(3,[2,3])],[],[]⟩
def z7F:FnI:=mkFn Tryz.f217 (hZ_ 1)
def z7G:FnI:=mkFn Tryz.f218 (hZ_ 1)
def z7H:FnI:=mkFn Tryz.f221 (hZ_ 1)
def zYt:FnI:=mkFn Tryz.f222 ⟨2,⟨[],[],[],[],[],[]⟩,[(3,[1,2,5,6])],[(3,[5])],[],[(5,[1,2,5,6])]⟩
def z7I:FnI:=mkFn Tryz.f223 (hZ_ 1)
def z7J:FnI:=mkFn Tryz.f246 (hZ_ 2)
def z7K:FnI:=mkFn Tryz.f248 (hZ_ 1)
def z3G:FnI:=mkFn Tryz.f249 ⟨5,⟨[],[31,46,57],[],[],[],[]⟩,[(2,[0,2,4,10,11])],[(2,[0,2,4,10])],[],[]⟩
def z7L:FnI:=mkFn Tryz.f254 (hZ_ 1)
def z7M:FnI:=mkFn Tryz.f255 (hZ_ 2)
def z7N:FnI:=mkFn Tryz.f256 (hZ_ 2)
def z7O:FnI:=mkFn Tryz.f257 (hZ_ 2)
def z7P:FnI:=mkFn Tryz.f258 (hZ_ 2)
def z7Q:FnI:=mkFn Tryz.f259 (hZ_ 2)
def z7R:FnI:=mkFn Tryz.f260 (hZ_ 1)
def z7S:FnI:=mkFn Tryz.f261 (hZ_ 1)
def z7T:FnI:=mkFn Tryz.f262 (hZ_ 1)
def z7U:FnI:=mkFn Tryz.f263 (hZ_ 1)
def z7V:FnI:=mkFn Tryz.f264 (hZ_ 1)
def z7W:FnI:=mkFn Tryz.f265 (hZ_ 1)
def z3H:FnI:=mkFn Tryz.f285 ⟨5,⟨[0],[],[],[],[],[]⟩,[(1,[0,1,2,3,10])],[(1,[])],[],[]⟩
def z7X:FnI:=mkFn Tryz.f290 (hZ_ 2)
def z7Y:FnI:=mkFn Tryz.f291 (hZ_ 3)
def z7Z:FnI:=mkFn Tryz.f292 (hZ_ 2)
def z71:FnI:=mkFn Tryz.f293 (hZ_ 2)
def z3I:FnI:=mkFn Tryz.f294 ⟨2,⟨[],[],[],[],[],[]⟩,[],[],[],[(5,[0,1,6,7,8])]⟩
def z89:FnI:=mkFn Tryz.f295 (hZ_ 2)
def z73:FnI:=mkFn Tryz.f296 (hZ_ 1)
def z3J:FnI:=mkFn Tryz.f297 ⟨2,⟨[],[],[],[],[],[]⟩,[],[],[],[(3,[0,1])]⟩
def z74:FnI:=mkFn Tryz.f298 (hZ_ 4)
def z75:FnI:=mkFn Tryz.f299 (hZ_ 1)
def tab:List (Nat×FnI):=[(12,fi12),(13,fi13),(14,fi14),(15,fi15),(16,fi16),(17,fi17),(19,fi19),(20,fi20),(21,fi21),(22,fi22),(23,fi23),(24,fi24),(26,fi26),(27,fi27),(28,fi28),(32,fi32),(35,fi35),(36,fi36),(38,fi38),(39,fi39),(40,fi40),(41,fi41),(42,fi42),(43,fi43),(44,fi44),(45,fi45),(46,fi46),(47,fi47),(48,fi48),(49,fi49),(50,fi50),(51,fi51),(52,fi52),(53,fi53),(54,fi54),(55,fi55),(56,fi56),(57,fi57),(58,fi58),(59,fi59),(60,fi60),(61,fi61),(62,fi62),(63,fi63),(64,fi64),(65,fi65),(66,fi66),(67,fi67),(68,fi68),(69,fi69),(70,fi70),(71,fi71),(72,fi72),(73,fi73),(74,fi74),(75,fi75),(76,fi76),(77,fi77),(80,fi80),(82,fi82),(83,fi83),(87,fi87),(93,fi93),(96,fi96),(97,fi97),(98,fi98),(99,fi99),(100,z6T),(101,z6U),(102,zWD),(103,z6V),(104,z6W),(105,z6X),(106,z6Y),(107,z6Z),(108,z60),(109,z61),(110,zWE),(111,z62),(112,z2r),(113,z63),(114,z64),(115,z65),(116,z2s),(117,z67),(118,z68),(119,zUL),(120,zOZ),(124,z2t),(125,zUM),(126,zQt),(128,z69),(129,z2u),(130,zYo),(131,zYp),(132,z6a),(133,z6b),(134,z6c),(135,z2v),(136,z6d),(137,zWF),(138,z6e),(139,z86),(140,z87),(141,z6f),(142,z6g),(143,zYq),(144,z6h),(145,z6i),(154,z6j),(155,z88),(156,z6k),(157,z2w),(164,z6l),(165,z2x),(166,z6m),(167,z2y),(168,z6n),(169,z6o),(170,zUN),(171,z6p),(172,z6q),(173,zUO),(174,z6r),(175,z2z),(176,z6s),(177,z6t),(178,z6u),(179,z6v),(182,z6w),(183,z6x),(184,z3A),(185,z3B),(186,z3C),(187,z6y),(188,zUP),(191,z6z),(200,z7A),(201,z7B),(202,z7C),(204,z7D),(209,z3D),(210,zYr),(211,zUQ),(212,zGj),(213,z3E),(214,zYs),(215,z7E),(216,z3F),(217,z7F),(218,z7G),(221,z7H),(222,zYt),(223,z7I),(246,z7J),(248,z7K),(249,z3G),(254,z7L),(255,z7M),(256,z7N),(257,z7O),(258,z7P),(259,z7Q),(260,z7R),(261,z7S),(262,z7T),(263,z7U),(264,z7V),(265,z7W),(285,z3H),(290,z7X),(291,z7Y),(292,z7Z),(293,z71),(294,z3I),(295,z89),(296,z73),(297,z3J),(298,z74),(299,z75)]
def etab:List (Nat×ExtF):=[(96,zGC 0),(166,zGC 3),(53,zL9),(61,(zSS [62,81])),(139,zNX),(140,zFs),(155,(zKp 57)),(295,zIy),(203,zIz)]
def cfg:Cfg:=⟨ty,z2g tab,z2i etab⟩
instance gl0:Gl:=Gl.triv
theorem z5I:z0d cfg fi96 0:=λ call xs=>⟨by kernel_rfl,by kernel_rfl,by kernel_rfl,by kernel_rfl⟩
theorem z3K:z0d cfg z6m 3:=λ call xs=>⟨by kernel_rfl,by kernel_rfl,by kernel_rfl,by kernel_rfl⟩
theorem tys:tysB Tryz.prog cfg=true:=by kernel_rfl
theorem fns:AllF Tryz.prog cfg tab:=⟨zP Tryz.func12 (by kernel_rfl),zP Tryz.func13 (by kernel_rfl),zP Tryz.func14 (by kernel_rfl),zP Tryz.func15 (by kernel_rfl),z4w (r:=4) Tryz.func16 rfl (by kernel_rfl),zP Tryz.func17 (by kernel_rfl),zP Tryz.func19 (by kernel_rfl),zP Tryz.func20 (by kernel_rfl),zP Tryz.func21 (by kernel_rfl),zP Tryz.func22 (by kernel_rfl),zP Tryz.func23 (by kernel_rfl),zP Tryz.func24 (by kernel_rfl),zP Tryz.func26 (by kernel_rfl),zP Tryz.func27 (by kernel_rfl),zP Tryz.func28 (by kernel_rfl),zP Tryz.func32 (by kernel_rfl),zP Tryz.func35 (by kernel_rfl),zP Tryz.func36 (by kernel_rfl),zP Tryz.func38 (by kernel_rfl),zP Tryz.func39 (by kernel_rfl),zP Tryz.func40 (by kernel_rfl),zP Tryz.func41 (by kernel_rfl),zP Tryz.func42 (by kernel_rfl),zP Tryz.func43 (by kernel_rfl),zP Tryz.func44 (by kernel_rfl),zP Tryz.func45 (by kernel_rfl),zP Tryz.func46 (by kernel_rfl),zP Tryz.func47 (by kernel_rfl),zP Tryz.func48 (by kernel_rfl),zP Tryz.func49 (by kernel_rfl),zP Tryz.func50 (by kernel_rfl),zP Tryz.func51 (by kernel_rfl),zP Tryz.func52 (by kernel_rfl),zP Tryz.func53 (by kernel_rfl),zP Tryz.func54 (by kernel_rfl),zP Tryz.func55 (by kernel_rfl),zP Tryz.func56 (by kernel_rfl),zP Tryz.func57 (by kernel_rfl),zP Tryz.func58 (by kernel_rfl),zP Tryz.func59 (by kernel_rfl),zP Tryz.func60 (by kernel_rfl),zP Tryz.func61 (by kernel_rfl),zP Tryz.func62 (by kernel_rfl),zP Tryz.func63 (by kernel_rfl),zP Tryz.func64 (by kernel_rfl),zP Tryz.func65 (by kernel_rfl),zP Tryz.func66 (by kernel_rfl),zP Tryz.func67 (by kernel_rfl),zP Tryz.func68 (by kernel_rfl),zP Tryz.func69 (by kernel_rfl),zP Tryz.func70 (by kernel_rfl),zP Tryz.func71 (by kernel_rfl),zP Tryz.func72 (by kernel_rfl),zP Tryz.func73 (by kernel_rfl),zP Tryz.func74 (by kernel_rfl),zP Tryz.func75 (by kernel_rfl),zP Tryz.func76 (by kernel_rfl),zP Tryz.func77 (by kernel_rfl),zP Tryz.func80 (by kernel_rfl),zP Tryz.func82 (by kernel_rfl),zP Tryz.func83 (by kernel_rfl),zP Tryz.func87 (by kernel_rfl),zP Tryz.func93 (by kernel_rfl),zP Tryz.func96 (by kernel_rfl),zP Tryz.func97 (by kernel_rfl),zP Tryz.func98 (by kernel_rfl),zP Tryz.func99 (by kernel_rfl),zP Tryz.func100 (by kernel_rfl),zP Tryz.func101 (by kernel_rfl),zP Tryz.func102 (by kernel_rfl),zP Tryz.func103 (by kernel_rfl),zP Tryz.func104 (by kernel_rfl),zP Tryz.func105 (by kernel_rfl),zP Tryz.func106 (by kernel_rfl),zP Tryz.func107 (by kernel_rfl),zP Tryz.func108 (by kernel_rfl),zP Tryz.func109 (by kernel_rfl),zP Tryz.func110 (by kernel_rfl),zP Tryz.func111 (by kernel_rfl),zP Tryz.func112 (by kernel_rfl),zP Tryz.func113 (by kernel_rfl),zP Tryz.func114 (by kernel_rfl),zP Tryz.func115 (by kernel_rfl),zP Tryz.func116 (by kernel_rfl),zP Tryz.func117 (by kernel_rfl),zP Tryz.func118 (by kernel_rfl),zP Tryz.func119 (by kernel_rfl),zP Tryz.func120 (by kernel_rfl),zP Tryz.func124 (by kernel_rfl),zP Tryz.func125 (by kernel_rfl),zP Tryz.func126 (by kernel_rfl),zP Tryz.func128 (by kernel_rfl),zP Tryz.func129 (by kernel_rfl),zP Tryz.func130 (by kernel_rfl),zP Tryz.func131 (by kernel_rfl),zP Tryz.func132 (by kernel_rfl),zP Tryz.func133 (by kernel_rfl),zP Tryz.func134 (by kernel_rfl),zP Tryz.func135 (by kernel_rfl),zP Tryz.func136 (by kernel_rfl),zP Tryz.func137 (by kernel_rfl),zP Tryz.func138 (by kernel_rfl),zP Tryz.func139 (by kernel_rfl),zP Tryz.func140 (by kernel_rfl),zP Tryz.func141 (by kernel_rfl),zP Tryz.func142 (by kernel_rfl),zP Tryz.func143 (by kernel_rfl),zP Tryz.func144 (by kernel_rfl),zP Tryz.func145 (by kernel_rfl),zP Tryz.func154 (by kernel_rfl),zP Tryz.func155 (by kernel_rfl),zP Tryz.func156 (by kernel_rfl),zP Tryz.func157 (by kernel_rfl),zP Tryz.func164 (by kernel_rfl),zP Tryz.func165 (by kernel_rfl),zP Tryz.func166 (by kernel_rfl),zP Tryz.func167 (by kernel_rfl),zP Tryz.func168 (by kernel_rfl),zP Tryz.func169 (by kernel_rfl),zP Tryz.func170 (by kernel_rfl),zP Tryz.func171 (by kernel_rfl),zP Tryz.func172 (by kernel_rfl),zP Tryz.func173 (by kernel_rfl),zP Tryz.func174 (by kernel_rfl),zP Tryz.func175 (by kernel_rfl),zP Tryz.func176 (by kernel_rfl),zP Tryz.func177 (by kernel_rfl),zP Tryz.func178 (by kernel_rfl),zP Tryz.func179 (by kernel_rfl),zP Tryz.func182 (by kernel_rfl),zP Tryz.func183 (by kernel_rfl),zP Tryz.func184 (by kernel_rfl),zP Tryz.func185 (by kernel_rfl),zP Tryz.func186 (by kernel_rfl),zP Tryz.func187 (by kernel_rfl),zP Tryz.func188 (by kernel_rfl),zP Tryz.func191 (by kernel_rfl),zP Tryz.func200 (by kernel_rfl),zP Tryz.func201 (by kernel_rfl),zP Tryz.func202 (by kernel_rfl),zP Tryz.func204 (by kernel_rfl),zP Tryz.func209 (by kernel_rfl),zP Tryz.func210 (by kernel_rfl),zP Tryz.func211 (by kernel_rfl),zP Tryz.func212 (by kernel_rfl),zP Tryz.func213 (by kernel_rfl),zP Tryz.func214 (by kernel_rfl),zP Tryz.func215 (by kernel_rfl),zP Tryz.func216 (by kernel_rfl),zP Tryz.func217 (by kernel_rfl),zP Tryz.func218 (by kernel_rfl),zP Tryz.func221 (by kernel_rfl),zP Tryz.func222 (by kernel_rfl),zP Tryz.func223 (by kernel_rfl),zP Tryz.func246 (by kernel_rfl),zP Tryz.func248 (by kernel_rfl),zP Tryz.func249 (by kernel_rfl),zP Tryz.func254 (by kernel_rfl),zP Tryz.func255 (by kernel_rfl),zP Tryz.func256 (by kernel_rfl),zP Tryz.func257 (by kernel_rfl),zP Tryz.func258 (by kernel_rfl),zP Tryz.func259 (by kernel_rfl),zP Tryz.func260 (by kernel_rfl),zP Tryz.func261 (by kernel_rfl),zP Tryz.func262 (by kernel_rfl),zP Tryz.func263 (by kernel_rfl),zP Tryz.func264 (by kernel_rfl),zP Tryz.func265 (by kernel_rfl),zP Tryz.func285 (by kernel_rfl),zP Tryz.func290 (by kernel_rfl),zP Tryz.func291 (by kernel_rfl),zP Tryz.func292 (by kernel_rfl),zP Tryz.func293 (by kernel_rfl),zP Tryz.func294 (by kernel_rfl),zP Tryz.func295 (by kernel_rfl),zP Tryz.func296 (by kernel_rfl),zP Tryz.func297 (by kernel_rfl),zP Tryz.func298 (by kernel_rfl),zP Tryz.func299 (by kernel_rfl),trivial⟩
theorem exts [GL:Gl] (hG:∃ g t fr,Tryz.prog.globalNamed "internal/strconv.uint64pow10" =some g/\GL.tab g (.cells (Lib.pow10Tab.map λ z=>Value.int .u64 z).toArray t fr)):∀ f g,cfg.ext f=some g->zOY Tryz.prog f g:=zUE (tab:=etab) ⟨zX4 (tysB_ok tys) (zP Tryz.func96 (by kernel_rfl)) z5I,zX4 (tysB_ok tys) (zP Tryz.func166 (by kernel_rfl)) z3K,z5G ⟨⟨Tryz.f53,Tryz.func53,by kernel_rfl,by kernel_rfl⟩,λ b c xs w h1 h2 h3 h4 h5=>Tryz.text b c xs w h1 h2 h3 h4 h5⟩ hG,z5H Tryz.toldC,z5D ⟨⟨Tryz.f139,Tryz.func139,by kernel_rfl,by kernel_rfl⟩,λ b o c z w h1 h2 h3=>Tryz.slices_Sort_int b o c z w h1 h2 h3,λ p c w=>Tryz.slices_Sort_int_none p c w⟩,zYn ⟨⟨Tryz.f140,Tryz.func140,by kernel_rfl,by kernel_rfl⟩,λ b o c z w h1 h2 h3=>Tryz.slices_Compact_int b o c z w h1 h2 h3,λ p c w=>Tryz.slices_Compact_int_empty p c w⟩,z2p Tryz.keySort,z2j ⟨⟨Tryz.f295,Tryz.func295,by kernel_rfl,by kernel_rfl⟩,λ x y h1 h2 w=>Tryz.bits_Mul64 x y h1 h2 w⟩,z2k (λ x y c h1 h2 h3 h4 w=>by rw[run_callFunc_extern Tryz.func203 (by kernel_rfl) (by kernel_rfl) (by kernel_rfl) (e:=Go.add64Entry) (by kernel_rfl),Go.run_add64 x y c h1 h2 h3 h4 w];rfl),trivial⟩
theorem zUR:cfg.ext 96=some (zGC 0):=by kernel_rfl
theorem zYu:cfg.ext 166=some (zGC 3):=by kernel_rfl
theorem z0o:cfg.ext 53=some zL9:=by kernel_rfl
theorem z0p:cfg.ext 61=some (zSS [62,81]):=by kernel_rfl
theorem zYv:cfg.ext 139=some zNX:=by kernel_rfl
theorem zYw:cfg.ext 140=some zFs:=by kernel_rfl
theorem zYx:cfg.ext 155=some (zKp 57):=by kernel_rfl
theorem zYy:cfg.ext 295=some zIy:=by kernel_rfl
theorem zYz:cfg.ext 203=some zIz:=by kernel_rfl
end Go.Cf

namespace Go.Cf
open Go Go.Ab
set_option maxRecDepth 100000
def zDQ:Nat:=12
def zGI:Nat:=13
def zC6:Nat:=14
def zNY:Nat:=16
def zKE:Nat:=17
def zCi:Nat:=19
def zEE:Nat:=20
def zJA:Nat:=21
def zHS:Nat:=22
def zHT:Nat:=24
def zGJ:Nat:=26
def zKF:Nat:=27
def zHD:Nat:=28
def zGD:Nat:=32
def zJB:Nat:=36
def zLa:Nat:=38
def zNZ:Nat:=39
def zLb:Nat:=40
def zGK:Nat:=41
def zEW:Nat:=42
def zKq:Nat:=43
def zST:Nat:=44
def zJC:Nat:=45
def zHU:Nat:=47
def zDK:Nat:=48
def zN0:Nat:=49
def zHV:Nat:=50
def zAp:Nat:=51
def zDq:Nat:=52
def zKr:Nat:=53
def zAG:Nat:=54
def zC7:Nat:=55
def zDl:Nat:=56
def zC8:Nat:=57
def zJD:Nat:=58
def zHW:Nat:=59
def zHX:Nat:=60
def zKG:Nat:=61
def zEX:Nat:=62
def zFG:Nat:=63
def zI8:Nat:=64
def zJE:Nat:=65
def zJF:Nat:=66
def zKs:Nat:=67
def zBK:Nat:=68
def zJG:Nat:=69
def zJH:Nat:=70
def zJI:Nat:=71
def zDm:Nat:=72
def zKH:Nat:=73
def zBN:Nat:=74
def zKt:Nat:=75
def zDa:Nat:=76
def zN1:Nat:=77
def zFt:Nat:=80
def zLS:Nat:=81
def zF0:Nat:=82
def zFH:Nat:=83
def zLc:Nat:=87
def zB6:Nat:=96
def zHt:Nat:=97
def zBB:Nat:=98
def zHY:Nat:=99
def zHZ:Nat:=100
def zAW:Nat:=101
def zI9:Nat:=102
def zHu:Nat:=103
def zBT:Nat:=104
def zGE:Nat:=105
def zKI:Nat:=106
def zGL:Nat:=107
def zBU:Nat:=108
def zS:Nat:=109
def zEF:Nat:=110
def zGM:Nat:=111
def zG2:Nat:=112
def zC9:Nat:=113
def zN2:Nat:=114
def zBL:Nat:=115
def zDn:Nat:=116
def zF1:Nat:=117
def zDf:Nat:=118
def zDg:Nat:=119
def zDR:Nat:=120
def zFI:Nat:=124
def zCj:Nat:=125
def zEz:Nat:=126
def zF2:Nat:=128
def zIa:Nat:=129
def zBp:Nat:=130
def zBX:Nat:=131
def zB1:Nat:=132
def zHv:Nat:=133
def zN3:Nat:=134
def zCq:Nat:=135
def zIb:Nat:=136
def zEG:Nat:=137
def zCx:Nat:=138
def zEH:Nat:=139
def zDS:Nat:=140
def zG3:Nat:=141
def zEI:Nat:=142
def zG4:Nat:=143
def zLd:Nat:=144
def zEY:Nat:=145
def zJJ:Nat:=154
def zAq:Nat:=155
def zEq:Nat:=156
def zQB:Nat:=157
def zKu:Nat:=164
def zBV:Nat:=165
def zCQ:Nat:=166
def zB8:Nat:=167
def zHE:Nat:=168
def zLe:Nat:=169
def zD3:Nat:=170
def zEJ:Nat:=171
def zC0:Nat:=172
def zJK:Nat:=173
def zHw:Nat:=174
def zCR:Nat:=175
def zJL:Nat:=176
def zKv:Nat:=177
def zN4:Nat:=178
def zMU:Nat:=179
def zDT:Nat:=182
def zFA:Nat:=183
def zEK:Nat:=184
def zC1:Nat:=185
def zBj:Nat:=186
def zD4:Nat:=187
def zLf:Nat:=188
def zFu:Nat:=191
def zBq:Nat:=200
def zIc:Nat:=201
def zH0:Nat:=202
def zOG:Nat:=203
def zKw:Nat:=204
def zHF:Nat:=209
def zJM:Nat:=210
def zAz:Nat:=211
def zAc:Nat:=212
def zEa:Nat:=213
def zLg:Nat:=214
def zId:Nat:=215
def zKJ:Nat:=216
def zH1:Nat:=217
def zMV:Nat:=218
def zH2:Nat:=221
def zDL:Nat:=222
def zJN:Nat:=223
def zCy:Nat:=246
def zKK:Nat:=248
def zCS:Nat:=249
def zFJ:Nat:=254
def zMW:Nat:=255
def zMX:Nat:=256
def zMY:Nat:=257
def zMZ:Nat:=258
def zPA:Nat:=259
def zGk:Nat:=260
def zQC:Nat:=261
def zGl:Nat:=262
def zSU:Nat:=263
def zGm:Nat:=264
def zQD:Nat:=265
def zAr:Nat:=285
def zCe:Nat:=290
def zFK:Nat:=291
def zLh:Nat:=292
def zLi:Nat:=293
def zJO:Nat:=294
def zOH:Nat:=295
def zKx:Nat:=296
def zLj:Nat:=297
def zJP:Nat:=298
def zGn:Nat:=299
def zM0:Nat:=3
def z78:Nat:=4
def zWG:Nat:=22
def z0q:Nat:=24
def zQE:Nat:=25
def zZA:Nat:=27
def zSV:Nat:=28
def zKL:Nat:=29
def zWH:Nat:=31
def zXa:Nat:=32
def zUS:Nat:=33
def zDo:Nat:=35
def zM1:Nat:=38
def zQF:Nat:=46
def zDp:Nat:=48
def zQG:Nat:=54
def zWI:Nat:=80
def zUT:Nat:=141
theorem exW:∃ W:Wf,W=evw cfg:=⟨_,rfl⟩
def W:Wf:=Classical.choose exW
theorem W_eq:W=evw cfg:=Classical.choose_spec exW
theorem exT(fi:FnI) {R:Type} (fin:Ex->St->Option R):∃ jl:Jn R×Ln R,Tied cfg W fi fin jl.1 jl.2:=⟨(_,_),tied cfg W fi fin⟩
def jN_(x:FnI):Jn PV:=(Classical.choose (exT x (fin cfg x))).1
def lN_(x:FnI):Ln PV:=(Classical.choose (exT x (fin cfg x))).2
theorem tN_(x:FnI):Tied cfg W x (fin cfg x) (jN_ x) (lN_ x):=Classical.choose_spec (exT x (fin cfg x))
def jO_(x:FnI) (b:Bool) (n:Nat):Jn (AV×List Ob):=(Classical.choose (exT x (finO cfg x b n))).1
def lO_(x:FnI) (b:Bool) (n:Nat):Ln (AV×List Ob):=(Classical.choose (exT x (finO cfg x b n))).2
theorem tO_(x:FnI) (b:Bool) (n:Nat):Tied cfg W x (finO cfg x b n) (jO_ x b n) (lO_ x b n):=Classical.choose_spec (exT x (finO cfg x b n))
theorem wq{f:FuncId} {fi:FnI} (he:cfg.ext f=none) (hf:cfg.fn f=some fi) (args:List PV):wc W f args=body cfg W lpw fi args:=by rw[W_eq];exact z6N he hf args
theorem wqO{f:FuncId} {fi:FnI} (he:cfg.ext f=none) (hf:cfg.fn f=some fi) (raw:Bool) (args:List AV) (ow:List Ob):W f raw args ow=bodyO cfg W lpw fi raw args ow:=by rw[W_eq];exact zVw he hf raw args ow
theorem go{f:FuncId} {fi:FnI} {args:List PV} {r:Option PV} {jn:Jn PV} {ln:Ln PV} (he:cfg.ext f=none) (hf:cfg.fn f=some fi) (h:Tied cfg W fi (fin cfg fi) jn ln) (e:(bif args.length==fi.np then Gf cfg W fi jn ln fi.code [] ⟨zV3 0 args,[]⟩ (fin cfg fi)else none)=r):wc W f args=r:=(wq he hf args).trans ((h.body args).trans e)
theorem gA_{f:FuncId} {fi:FnI} {args:List PV} {r:Option PV} {jn:Jn PV} {ln:Ln PV} (h:Tied cfg W fi (fin cfg fi) jn ln) (he:cfg.ext f=none:=by kernel_rfl) (hf:cfg.fn f=some fi:=by kernel_rfl) (e:(bif args.length==fi.np then Gf cfg W fi jn ln fi.code [] ⟨zV3 0 args,[]⟩ (fin cfg fi)else none)=r:=by kernel_rfl):wc W f args=r:=go he hf h e
theorem goO{f:FuncId} {fi:FnI} {raw:Bool} {n:Nat} {args:List AV} {ow:List Ob} {r:Option (AV×List Ob)} {jn:Jn (AV×List Ob)} {ln:Ln (AV×List Ob)} (he:cfg.ext f=none) (hf:cfg.fn f=some fi) (h:Tied cfg W fi (finO cfg fi raw n) jn ln) (hn:ow.length=n) (e:(bif args.length==fi.np then Gf cfg W fi jn ln fi.code [] ⟨zJ3 0 args,ow⟩ (finO cfg fi raw n)else none)=r):W f raw args ow=r:=(wqO he hf raw args ow).trans ((h.bodyO args ow hn).trans e)
def c_b{R:Type} (p:PV) (K:Bool->Option R):Option R:=(PV.asBool p).bind λ zzx0=>K zzx0
@[simp] theorem c_b_mk(zzx0:Bool) {R:Type} (K:Bool->Option R):c_b (PV.bool zzx0) K=K zzx0:=rfl
def zM{R:Type} (p:PV) (K:Int->Int->Option R):Option R:=(PV.asAgg p).bind λ c0=>(c0[0]?).bind λ p1=>(PV.asIntK .i64 p1).bind λ zzx2=>(c0[1]?).bind λ p3=>(PV.asIntK .i64 p3).bind λ zzx4=>bif c0.length==2 then(K zzx2 zzx4)else none
@[simp] theorem c_g_i64_i64_mk(zzx2:Int) (zzx4:Int) {R:Type} (K:Int->Int->Option R):zM (PV.agg [(PV.int .i64 zzx2),(PV.int .i64 zzx4)]) K=K zzx2 zzx4:=rfl
def zJ{R:Type} (p:PV) (K:Int->Int->Int->Int->List PV->Option R):Option R:=(PV.asAgg p).bind λ c0=>(c0[0]?).bind λ p1=>(PV.asIntK .i64 p1).bind λ zzx2=>(c0[1]?).bind λ p3=>(PV.asIntK .i64 p3).bind λ zzx4=>(c0[2]?).bind λ p5=>(PV.asIntK .i64 p5).bind λ zzx6=>(c0[3]?).bind λ p7=>(PV.asIntK .i64 p7).bind λ zzx8=>(c0[4]?).bind λ p9=>(PV.asSlice 6 p9).bind λ zzx10=>bif c0.length==5 then(K zzx2 zzx4 zzx6 zzx8 zzx10)else none
@[simp] theorem c_g_i64_i64_i64_i64_s6_mk(zzx2:Int) (zzx4:Int) (zzx6:Int) (zzx8:Int) (zzx10:List PV) {R:Type} (K:Int->Int->Int->Int->List PV->Option R):zJ (PV.agg [(PV.int .i64 zzx2),(PV.int .i64 zzx4),(PV.int .i64 zzx6),(PV.int .i64 zzx8),(PV.slice 6 zzx10)]) K=K zzx2 zzx4 zzx6 zzx8 zzx10:=rfl
def zCa{R:Type} (p:PV) (K:Int->Int->PV->Option R):Option R:=(PV.asAgg p).bind λ c0=>(c0[0]?).bind λ p1=>(PV.asIntK .i64 p1).bind λ zzx2=>(c0[1]?).bind λ p3=>(PV.asIntK .i64 p3).bind λ zzx4=>(c0[2]?).bind λ p5=>(some p5).bind λ zzx6=>bif c0.length==3 then(K zzx2 zzx4 zzx6)else none
@[simp] theorem c_g_i64_i64_p_mk(zzx2:Int) (zzx4:Int) (zzx6:PV) {R:Type} (K:Int->Int->PV->Option R):zCa (PV.agg [(PV.int .i64 zzx2),(PV.int .i64 zzx4),zzx6]) K=K zzx2 zzx4 zzx6:=rfl
def zCV{R:Type} (p:PV) (K:Int->List PV->Option R):Option R:=(PV.asAgg p).bind λ c0=>(c0[0]?).bind λ p1=>(PV.asIntK .i64 p1).bind λ zzx2=>(c0[1]?).bind λ p3=>(PV.asSlice 3 p3).bind λ zzx4=>bif c0.length==2 then(K zzx2 zzx4)else none
@[simp] theorem c_g_i64_s3_mk(zzx2:Int) (zzx4:List PV) {R:Type} (K:Int->List PV->Option R):zCV (PV.agg [(PV.int .i64 zzx2),(PV.slice 3 zzx4)]) K=K zzx2 zzx4:=rfl
def z4G{R:Type} (p:PV) (K:List PV->Option R):Option R:=(PV.asAgg p).bind λ c0=>(c0[0]?).bind λ p1=>(PV.asSlice 0 p1).bind λ zzx2=>bif c0.length==1 then(K zzx2)else none
@[simp] theorem c_g_s0_mk(zzx2:List PV) {R:Type} (K:List PV->Option R):z4G (PV.agg [(PV.slice 0 zzx2)]) K=K zzx2:=rfl
def zAR{R:Type} (p:PV) (K:List PV->List PV->Option R):Option R:=(PV.asAgg p).bind λ c0=>(c0[0]?).bind λ p1=>(PV.asSlice 0 p1).bind λ zzx2=>(c0[1]?).bind λ p3=>(PV.asSlice 0 p3).bind λ zzx4=>bif c0.length==2 then(K zzx2 zzx4)else none
@[simp] theorem c_g_s0_s0_mk(zzx2:List PV) (zzx4:List PV) {R:Type} (K:List PV->List PV->Option R):zAR (PV.agg [(PV.slice 0 zzx2),(PV.slice 0 zzx4)]) K=K zzx2 zzx4:=rfl
def z4H{R:Type} (p:PV) (K:List PV->Option R):Option R:=(PV.asAgg p).bind λ c0=>(c0[0]?).bind λ p1=>(PV.asSlice 3 p1).bind λ zzx2=>bif c0.length==1 then(K zzx2)else none
@[simp] theorem c_g_s3_mk(zzx2:List PV) {R:Type} (K:List PV->Option R):z4H (PV.agg [(PV.slice 3 zzx2)]) K=K zzx2:=rfl
def zA6{R:Type} (p:PV) (K:Int->Option R):Option R:=(PV.asIntK .i64 p).bind λ zzx0=>K zzx0
@[simp] theorem c_i64_mk(zzx0:Int) {R:Type} (K:Int->Option R):zA6 (PV.int .i64 zzx0) K=K zzx0:=rfl
def c_s0{R:Type} (p:PV) (K:List PV->Option R):Option R:=(PV.asSlice 0 p).bind λ zzx0=>K zzx0
@[simp] theorem c_s0_mk(zzx0:List PV) {R:Type} (K:List PV->Option R):c_s0 (PV.slice 0 zzx0) K=K zzx0:=rfl
def c_s3{R:Type} (p:PV) (K:List PV->Option R):Option R:=(PV.asSlice 3 p).bind λ zzx0=>K zzx0
@[simp] theorem c_s3_mk(zzx0:List PV) {R:Type} (K:List PV->Option R):c_s3 (PV.slice 3 zzx0) K=K zzx0:=rfl
def c_s6{R:Type} (p:PV) (K:List PV->Option R):Option R:=(PV.asSlice 6 p).bind λ zzx0=>K zzx0
@[simp] theorem c_s6_mk(zzx0:List PV) {R:Type} (K:List PV->Option R):c_s6 (PV.slice 6 zzx0) K=K zzx0:=rfl
def c_t{R:Type} (p:PV) (K:ByteArray->Option R):Option R:=(PV.asStr p).bind λ zzx0=>K zzx0
@[simp] theorem c_t_mk(zzx0:ByteArray) {R:Type} (K:ByteArray->Option R):c_t (PV.str zzx0) K=K zzx0:=rfl
def zWJ{R:Type} (p:PV) (K:Int->Option R):Option R:=(PV.asIntK .u64 p).bind λ zzx0=>K zzx0
@[simp] theorem c_u64_mk(zzx0:Int) {R:Type} (K:Int->Option R):zWJ (PV.int IntKind.u64 zzx0) K=K zzx0:=rfl
def zSW{R:Type} (z:AV×List Ob) (K:PV->Int->Int->Int->Option R):Option R:=(AV.asPv z.1).bind λ q0=>(some q0).bind λ zzx1=>(z.2[0]?).bind λ p2=>(Ob.asVar false 0 p2).bind λ a3=>(AV.asPv a3).bind λ q4=>(PV.asIntK .i64 q4).bind λ zzx5=>(z.2[1]?).bind λ p6=>(Ob.asVar false 0 p6).bind λ a7=>(AV.asPv a7).bind λ q8=>(PV.asIntK .i64 q8).bind λ zzx9=>(z.2[2]?).bind λ p10=>(Ob.asVar false 0 p10).bind λ a11=>(AV.asPv a11).bind λ q12=>(PV.asIntK .i64 q12).bind λ zzx13=>bif z.2.length==3 then(K zzx1 zzx5 zzx9 zzx13)else none
@[simp] theorem k_10961c_mk(zzx1:PV) (zzx5:Int) (zzx9:Int) (zzx13:Int) {R:Type} (K:PV->Int->Int->Int->Option R):zSW ((AV.pv zzx1),[(Ob.var false 0 (AV.pv (PV.int .i64 zzx5))),(Ob.var false 0 (AV.pv (PV.int .i64 zzx9))),(Ob.var false 0 (AV.pv (PV.int .i64 zzx13)))]) K=K zzx1 zzx5 zzx9 zzx13:=rfl
def zDM{R:Type} (z:AV×List Ob) (K:PV->Int->Option R):Option R:=(AV.asPv z.1).bind λ q0=>(some q0).bind λ zzx1=>(z.2[0]?).bind λ p2=>(Ob.asVar false 0 p2).bind λ a3=>(AV.asPv a3).bind λ q4=>(PV.asIntK .i64 q4).bind λ zzx5=>bif z.2.length==1 then(K zzx1 zzx5)else none
@[simp] theorem k_5b106d_mk(zzx1:PV) (zzx5:Int) {R:Type} (K:PV->Int->Option R):zDM ((AV.pv zzx1),[(Ob.var false 0 (AV.pv (PV.int .i64 zzx5)))]) K=K zzx1 zzx5:=rfl
def zXb{R:Type} (z:AV×List Ob) (K:List PV->Option R):Option R:=bif AV.isView 0 z.1 then((z.2[0]?).bind λ p0=>(Ob.asRow false 0 3 p0).bind λ zzx1=>bif z.2.length==1 then(K zzx1)else none)else none
@[simp] theorem k_83ed81_mk(zzx1:List PV) {R:Type} (K:List PV->Option R):zXb ((AV.view 0 0 none),[(Ob.row false 0 (3:Nat) zzx1)]) K=K zzx1:=rfl
def zXc{R:Type} (z:AV×List Ob) (K:List PV->List PV->Option R):Option R:=(AV.asAggA z.1).bind λ c0=>(c0[0]?).bind λ p1=>(AV.asPv p1).bind λ q2=>(PV.asSlice 0 q2).bind λ zzx3=>(c0[1]?).bind λ p4=>bif AV.isView 0 p4 then(bif c0.length==2 then((z.2[0]?).bind λ p5=>(Ob.asRow false 0 0 p5).bind λ zzx6=>bif z.2.length==1 then(K zzx3 zzx6)else none)else none)else none
@[simp] theorem k_8de13e_mk(zzx3:List PV) (zzx6:List PV) {R:Type} (K:List PV->List PV->Option R):zXc ((AV.agg [(AV.pv (PV.slice 0 zzx3)),(AV.view 0 0 none)]),[(Ob.row false 0 (0:Nat) zzx6)]) K=K zzx3 zzx6:=rfl
def zPB{R:Type} (z:AV×List Ob) (K:PV->List PV->Option R):Option R:=(AV.asPv z.1).bind λ q0=>(some q0).bind λ zzx1=>(z.2[0]?).bind λ p2=>(Ob.asFix 0 3 p2).bind λ zzx3=>bif z.2.length==1 then(K zzx1 zzx3)else none
@[simp] theorem k_a0f1d3_mk(zzx1:PV) (zzx3:List PV) {R:Type} (K:PV->List PV->Option R):zPB ((AV.pv zzx1),[(Ob.fix 0 3 zzx3)]) K=K zzx1 zzx3:=rfl
def zPC{R:Type} (z:AV×List Ob) (K:PV->List PV->Option R):Option R:=(AV.asPv z.1).bind λ q0=>(some q0).bind λ zzx1=>(z.2[0]?).bind λ p2=>(Ob.asVar false 0 p2).bind λ a3=>bif AV.isView 1 a3 then((z.2[1]?).bind λ p4=>(Ob.asRow false 0 0 p4).bind λ zzx5=>bif z.2.length==2 then(K zzx1 zzx5)else none)else none
@[simp] theorem k_b2223f_mk(zzx1:PV) (zzx5:List PV) {R:Type} (K:PV->List PV->Option R):zPC ((AV.pv zzx1),[(Ob.var false 0 (AV.view 1 0 none)),(Ob.row false 0 0 zzx5)]) K=K zzx1 zzx5:=rfl
def zSX{R:Type} (z:AV×List Ob) (K:PV->Option R):Option R:=(AV.asPv z.1).bind λ q0=>(some q0).bind λ zzx1=>(z.2[0]?).bind λ p2=>bif Ob.isDead p2 then(bif z.2.length==1 then(K zzx1)else none)else none
@[simp] theorem k_b7636c_mk(zzx1:PV) {R:Type} (K:PV->Option R):zSX ((AV.pv zzx1),[Ob.dead]) K=K zzx1:=rfl
def zEZ{R:Type} (z:AV×List Ob) (K:PV->List PV->Int->Option R):Option R:=(AV.asPv z.1).bind λ q0=>(some q0).bind λ zzx1=>(z.2[0]?).bind λ p2=>(Ob.asFix 0 0 p2).bind λ zzx3=>(z.2[1]?).bind λ p4=>(Ob.asVar false 0 p4).bind λ a5=>(AV.asPv a5).bind λ q6=>(PV.asIntK .i64 q6).bind λ zzx7=>bif z.2.length==2 then(K zzx1 zzx3 zzx7)else none
@[simp] theorem k_c4d914_mk(zzx1:PV) (zzx3:List PV) (zzx7:Int) {R:Type} (K:PV->List PV->Int->Option R):zEZ ((AV.pv zzx1),[(Ob.fix 0 0 zzx3),(Ob.var false 0 (AV.pv (PV.int .i64 zzx7)))]) K=K zzx1 zzx3 zzx7:=rfl
def zSY{R:Type} (z:AV×List Ob) (K:PV->List PV->Option R):Option R:=(AV.asPv z.1).bind λ q0=>(some q0).bind λ zzx1=>(z.2[0]?).bind λ p2=>(Ob.asFix 0 0 p2).bind λ zzx3=>bif z.2.length==1 then(K zzx1 zzx3)else none
@[simp] theorem k_cad770_mk(zzx1:PV) (zzx3:List PV) {R:Type} (K:PV->List PV->Option R):zSY ((AV.pv zzx1),[(Ob.fix 0 0 zzx3)]) K=K zzx1 zzx3:=rfl
def zSZ{R:Type} (z:AV×List Ob) (K:List PV->Option R):Option R:=bif AV.isView 0 z.1 then((z.2[0]?).bind λ p0=>(Ob.asRow false 0 0 p0).bind λ zzx1=>bif z.2.length==1 then(K zzx1)else none)else none
@[simp] theorem k_d697de_mk(zzx1:List PV) {R:Type} (K:List PV->Option R):zSZ ((AV.view 0 0 none),[(Ob.row false 0 (0:Nat) zzx1)]) K=K zzx1:=rfl
theorem zZB(xs:List PV) (l:List (Int×Int)) (hp:zOF xs=some l) (hl:xs.length<=1000000):wc W zKr [.slice 3 xs]=some (.str (z2q l)):=by rw[W_eq];exact z6R z0o xs l hp hl
theorem zUU(raw:List AV) (ow:List Ob):W zKG false raw ow=z0m [zEX,zLS] W raw ow:=by rw[W_eq];exact zIR z0p false raw ow
theorem zDr(xs:List PV) (h:xs.length<=4294967296):wc W zB6 [PV.slice 0 xs]=some (PV.slice 0 xs):=by rw[W_eq];exact z0e zUR xs h
theorem zHh(xs:List PV) (h:xs.length<=4294967296):W zB6 true [.pv (.slice 0 xs)] []=some (.view 0 0 none,[.row false 0 0 xs]):=by rw[W_eq];exact z0f zUR xs h
theorem zGN(raw:Bool) (ver:Nat) (zs:List Int) (hl:zs.length<=4294967296):W zEH raw [.fx 0 0] [.fix ver 0 (zs.map (.int .i64))]=some (.pv (.tup []),[.fix ver 0 ((zGi zs).map (.int .i64))]):=by rw[W_eq];exact z6Q zYv raw ver zs hl
theorem zFL(ver:Nat) (zs:List Int) (hl:zs.length<=4294967296):W zDS false [.view 0 ver none] [.row false ver 0 (zs.map (.int .i64))]=some (.pv (.slice 0 ((Lib.compact zs).map (.int .i64))),[.dead]):=by rw[W_eq];exact z0j zYw ver zs hl
theorem zF3(ver:Nat) (zs:List (Int×Int)) (hl:zs.length<=4294967296):W zAq false [.fx 0 3,.pv (.fn zC8 [] [])] [.fix ver 3 (zs.map keyP)]=some (.pv (.tup []),[.fix ver 3 ((zBP zs).map keyP)]):=by rw[W_eq];exact z5E zYx ver zs hl
theorem zD5(xs:List PV) (h:xs.length<=4294967296):wc W zCQ [PV.slice 3 xs]=some (PV.slice 3 xs):=by rw[W_eq];exact z0e zYu xs h
theorem zUV(x y:Int) (h1:0<=x) (h2:x<18446744073709551616) (h3:0<=y) (h4:y<18446744073709551616):wc W zOH [.int .u64 x,.int .u64 y]=some (.tup [.int .u64 ((x.toNat*y.toNat / 18446744073709551616:Nat):Int),.int .u64 ((x.toNat*y.toNat % 18446744073709551616:Nat):Int)]):=by rw[W_eq];exact z5A zYy x y h1 h2 h3 h4
theorem zUW(x y z:Int) (h1:0<=x) (h2:0<=y) (h3:0<=z) (h4:z<=1):wc W zOG [.int .u64 x,.int .u64 y,.int .u64 z]=some (.tup [.int .u64 ((x+y+z) % 18446744073709551616),.int .u64 ((x+y+z) / 18446744073709551616)]):=by rw[W_eq];exact z5B zYz x y z h1 h2 h3 h4
end Go.Cf

namespace Go.Cf
open Go Go.Ab
def I64(n:Int):Prop:= -9223372036854775808<=n/\n<=9223372036854775807
theorem zAZ{n:Int} (h1: -9223372036854775808<=n) (h2:n<=9223372036854775807):IntKind.wrap .i64 n=n:=by
 simp only[IntKind.wrap,IntKind.bits,IntKind.signed]
 simp
 omega
theorem z3L{n:Nat} (h:n<=9223372036854775807):IntKind.wrap .i64 (n:Int)=n:=zAZ (by omega) (by omega)
theorem zX{n:Nat} (h:n<9223372036854775807):IntKind.wrap .i64 ((n:Int)+1)=((n+1:Nat):Int):=by rw[zAZ (by omega) (by omega)];omega
@[simp] theorem asTup_mk(l:List PV):PV.asTup (.tup l)=some l:=rfl
@[simp] theorem asFn_mk(f:Nat) (a b:List PV):PV.asFn (.fn f a b)=some (f,a,b):=rfl
@[simp] theorem zA2(n:Nat):decide ((0:Int)<=(n:Int))=true:=by simp
theorem z79{n:Int} (h:(Lit.int .i64 n).wf=true):I64 n:=by
 simp only[Lit.wf,zF,zR]at h
 exact h
theorem zPD{R:Type} (L:Int->Option R) (n:Nat) (p:Nat->Bool) (r s:Option R) (hs:∀ i:Nat,i<n->L (i:Int)=bif p i then L ((i:Int)+1)else r) (he:L (n:Int)=s) :
 L 0=bif (List.range n).all p then s else r:=by
 have:∀ k i:Nat,i+k=n->L (i:Int)=bif (List.range' i k).all p then s else r:=by
  intro k
  induction k with
  |zero=>intro i h;simp at h;subst h;simpa using he
  |succ k ih =>
   intro i h
   rw[hs i (by omega),show((i:Int)+1)=((i+1:Nat):Int) by omega,ih (i+1) (by omega),List.range'_succ,List.all_cons]
   cases p i<;>simp
 have h0:=this n 0 (by omega)
 rw[List.range_eq_range']
 exact h0
theorem z0r{α:Type} (l:List α) (q:α->Bool):((List.range l.length).all λ i=>(l[i]?).all q)=l.all q:=by
 rw[Bool.eq_iff_iff,zAB,zAB]
 constructor
 ·intro h x hx
  obtain⟨i,hi,rfl⟩:=List.mem_iff_getElem.1 hx
  have:=h i (by simpa using hi)
  simpa [zI hi]using this
 ·intro h i hi
  have hi' :i<l.length:=by simpa using hi
  simpa [zI hi']using h _ (zAF hi')
theorem zAK{i n:Nat} (h:i<n):decide ((i:Int)<(n:Int))=true:=by simpa using h
theorem zDG{n:Nat}:decide ((n:Int)<(n:Int))=false:=by simp
theorem zH3{α:Type} [BEq α] [LawfulBEq α] {a b:α} (h:a≠b):(a != b)=true:=by simpa using h
theorem zIS{α:Type} [BEq α] [LawfulBEq α] {a b:α} (h:a=b):(a != b)=false:=by simpa using h
theorem zIT{α:Type} [BEq α] [LawfulBEq α] {a b:α} (h:a=b):(a==b)=true:=by simpa using h
theorem zDI{α:Type} [BEq α] [LawfulBEq α] {a b:α} (h:a≠b):(a==b)=false:=by simpa using h
theorem z7a{α:Type} [DecidableEq α] (a b:List α) (e:a.length=b.length):((List.range a.length).all λ i=>decide (a[i]? =b[i]?))=decide (a=b):=by
 by_cases hab:a=b
 ·subst hab;simp
 ·rw[zK hab,Bool.eq_false_iff]
  intro hall
  apply hab
  rw[zAB]at hall
  apply List.ext_getElem?
  intro i
  by_cases hi:i<a.length
  ·simpa using hall i (by simpa using hi)
  ·rw[zFV (by omega),zFV (by omega)]
end Go.Cf
