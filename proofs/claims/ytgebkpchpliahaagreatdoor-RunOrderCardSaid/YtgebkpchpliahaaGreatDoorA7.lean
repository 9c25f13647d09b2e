/- Part 8 of the proof: an abstract machine that runs the program's code over plain values, its soundness, and what the functions tell of plain values. Conditions: those in each theorem. -/
import Derived.Test.YtgebkpchpliahaaGreatDoorA6
import Derived.Maps.RangeRun
import Derived.Orders
set_option linter.unusedSectionVars false
set_option linter.unusedVariables false
set_option linter.unusedSimpArgs false
noncomputable section
namespace Go.Ab
open Go.RowKit (Below)
open Go.ChangeMaps (setBlock)
variable [GL:Gl]
def z0o(c:Cfg) (nt m r:Nat) (B:Code):Bool:=match B with
 | .seq (.seq (.region _ ⟨[⟨some m1,.move (.tmp m'),_,_,_,none⟩,⟨some it,.range t (.tmp m1'),_,_,_,none⟩]⟩ false)
  (.block k (.loop (.seq (.region _ ⟨[⟨some nx,.next (.tmp it1) false,_,_,_,none⟩,⟨some ok,.extract (.tmp nx') 0,_,_,_,none⟩]⟩ false)
   (.seq (.cond (.tmp ok') .skip (.exit k'))
    (.block _ (.seq (.region _ ⟨[⟨some en,.entry (.tmp it2),_,_,_,none⟩,⟨some v,.extract (.tmp en') 1,_,_,_,none⟩,⟨some vv,.assign (.tmp v'),_,_,_,none⟩]⟩ false)
     (.seq (.region _ ⟨[⟨some vm,.move (.tmp vv'),_,_,_,none⟩,⟨some bb,.binOp .neq _ (.tmp vm') (.const (.int .i64 z)) _,_,_,_,none⟩]⟩ false)
      (.cond (.tmp bb') (.seq (.region _ ⟨[⟨some r1,.assign (.const (.bool false)),_,_,_,none⟩]⟩ false) .ret) .skip)))))))))
  (.seq (.region _ ⟨[⟨some r2,.assign (.const (.bool true)),_,_,_,none⟩]⟩ false) .ret) =>
  (m==m' &&m1==m1' &&it==it1&&it==it2&&nx==nx' &&ok==ok' &&k==k' &&en==en' &&v==v' &&vv==vv' &&vm==vm' &&bb==bb' &&r==r1&&r==r2&&z==0) &&
  ([m,m1,it,nx,ok,en,v,vv,vm,bb,r].all λ x=>decide (x<nt))&&([nx,ok,en,v,vv,vm,bb].all λ x=>x != it)&&(match (c.at_ t).k with | .map _ _=>true | _=>false)
 |_=>false
section
variable {P:Program} {ops:Array Oper} {Q:Exit->Act->World->Prop} {a:Act} {w:World} {rest:List Oper} {o:Oper}
theorem zFh(hg:o.guard=none) {v:Value} {w' :World} (hr:(execOp a.eval o).run P w= .ok (.value v) w') (h:wpList P ops Q rest (a.put o.dst v) w'):wpList P ops Q (o::rest) a w:=by
 have hw:Region.wanted o (yielded ops a.tmps)=true:=by unfold Region.wanted;rw[hg]
 show(if _ then _ else _)
 rw[if_pos hw]
 refine .inl (zSo (G:=λ x y=>x=v/\y=w') (by rw[hr];exact⟨rfl,rfl⟩) ?_)
 rintro x y ⟨rfl,rfl⟩
 exact h
theorem zDH{s t:Nat} {v:Value} (h:t<a.tmps.size):(a.put (some t) v).tmps.getD s undef=if t=s then v else a.tmps.getD s undef:=by
 simp only[Act.put,Array.getD_eq_getD_getElem?]
 by_cases e:t=s
 ·subst e;simp[h]
 ·rw[if_neg e];simp[Array.getElem?_setIfInBounds_ne e]
theorem zDn(a:Act) (t:Nat):a.eval (.tmp t)=a.tmps.getD t undef:=rfl
end
theorem zQa{S:Pr}:∀{es:List (PV×PV)} {z:Bool},zS4 es=some z->∀(vs:List Value),vs.length=es.length->(∀(j:Nat) (v:Value) (p:PV×PV),vs[j]? =some v->es[j]? =some p->VP S v p.2) ->
 (∀ v∈vs,∃ x,v= .int .i64 x/\(x≠0->z=false))/\((∀ v∈vs,v= .int .i64 0)->z=true)
 | [],z,h,vs,hl,hv=>by
  have h:some true=some z:=h
  cases h
  have:vs=[]:=zCJ.1 hl
  subst this
  exact⟨λ v hv=>by simp at hv,λ _=>rfl⟩
 |(k,p)::es,z,h,[],hl,hv=>by simp at hl
 |(k,p)::es,z,h,v::vs,hl,hv=>by
  have h0:=hv 0 v (k,p) rfl rfl
  unfold zS4 at h
  split at h
  ·rename_i e;cases e
  ·rename_i q n r e
   simp only[List.cons.injEq,zAl]at e
   obtain⟨⟨rfl,rfl⟩,rfl⟩:=e
   obtain⟨y,hy,rfl⟩:=Option.map_eq_some_iff.1 h
   cases h0
   obtain⟨k1,k2⟩:=zQa (S:=S) hy vs (by simpa using hl) (λ j v p h1 h2=>hv (j+1) v p (by simpa using h1) (by simpa using h2))
   refine⟨λ v hv=> ?_,λ hall=> ?_⟩
   ·rcases zAE.1 hv with rfl | hm
    ·exact⟨n,rfl,λ hne=>by simp[hne]⟩
    ·obtain⟨x,e,hx⟩:=k1 v hm
     exact⟨x,e,λ hne=>by rw[hx hne];simp⟩
   ·have e1:=hall (.int .i64 n) (by simp)
    simp only[Value.int.injEq,true_and]at e1
    rw[e1,k2 (λ v hv=>hall v (by simp[hv]))];rfl
  ·cases h
theorem zSq{w:World} {r:Nat} {o:Obj} (h:r<w.heap.size):(setBlock w r o).heap[r]? =some o:=by simp[setBlock,h]
theorem zOv{w:World} {r k:Nat} {o:Obj} (h:k≠r):(setBlock w r o).heap[k]? =w.heap[k]? :=by
 simp only[setBlock];exact Array.getElem?_setIfInBounds_ne (Ne.symm h)
section
variable {P:Program} {c:Cfg} {S:Pr} {Q:Exit->Act->World->Prop}
structure ScanI (a0:Act) (w0:World) (b n it:Nat) (as:Array MapEntry) (a:Act) (w:World) (seen:Array Nat) (c0:Nat):Prop where
 defers:a.defers=a0.defers
 size:a.tmps.size=a0.tmps.size
 ptr:a.tmps.getD it undef= .pointer (some ⟨w0.heap.size,0,none⟩)
 iter:w.heap[w0.heap.size]? =some (.mapIter (some b) n seen c0)
 clock:n<=c0
 below:Below w0.heap.size w0 w
 zero:∀ e∈as.toList,seen.contains e.born=true->e.val= .int .i64 0
theorem z2x(hT:TyOK P c) {nt m r:Nat} {B:Code} (hB:z0o c nt m r B=true) {a:Act} {w:World} {b n:Nat} {as:Array MapEntry} {es:List (PV×PV)}
 (hsz:nt<=a.tmps.size) (hm:a.tmps.getD m undef= .map (some b)) (hh:w.heap[b]? =some (.map as n)) (hl:as.size=es.length) (hn:n=as.size)
 (hborn:∀(j:Nat) (e:MapEntry),as[j]? =some e->e.born=j) (hv:∀(j:Nat) (e:MapEntry) (p:PV×PV),as[j]? =some e->es[j]? =some p->VP S e.val p.2) {z:Bool} (hz:zS4 es=some z)
 (hQ:∀ a' w',a'.defers=a.defers->a'.tmps.getD r undef= .bool z->Below w.heap.size w w' ->Q .ret a' w'):B.wp P Q a w:=by
 unfold z0o at hB
 split at hB
 ·rename_i r1 m1 m' ty1 p1 af1 it t m1' ty2 p2 af2 k r2 nx it1 ty3 p3 af3 ok nx' ty4 p4 af4 ok' k' k2 r3 en it2 ty5 p5 af5 v en' ty6 p6 af6 vv v' ty7 p7 af7 r4 vm vv' ty8 p8 af8 bb xt vm' zz yt ty9 p9 af9 bb' r5 rr1 ty10 p10 af10 r6 rr2 ty11 p11 af11
  simp only[zF,beq_iff_eq,List.all_cons,List.all_nil,Bool.and_true,zU,bne_iff_ne]at hB
  obtain⟨⟨⟨⟨⟨⟨⟨⟨⟨⟨⟨⟨⟨⟨⟨⟨⟨rfl,rfl⟩,rfl⟩,rfl⟩,rfl⟩,rfl⟩,rfl⟩,rfl⟩,rfl⟩,rfl⟩,rfl⟩,rfl⟩,rfl⟩,rfl⟩,rfl⟩,⟨h1,h2,h3,h4,h5,h6,h7,h8,h9,h10,h11⟩⟩,⟨g1,g2,g3,g4,g5,g6,g7⟩⟩,hk⟩:=hB
  have hk2:=hT.kind t
  obtain⟨tk,te,hkt⟩:∃ tk te,(c.at_ t).k= .map tk te:=by
   cases hkk:(c.at_ t).k<;>rw[hkk]at hk<;>first | exact⟨_,_,rfl⟩ | cases hk
  rw[hkt]at hk2
  have hlist:as.toList.length=es.length:=by simpa using hl
  obtain⟨hval,hall⟩:=zQa (S:=S) hz (as.toList.map (·.val)) (by simpa using hl) (λ j v p h1 h2=>by
   rw[zN]at h1
   cases he:as.toList[j]? with
   |none=>rw[he]at h1;cases h1
   |some e=>rw[he]at h1;simp at h1;subst h1;exact hv j e p (by simpa using he) h2)
  have hold:∀ x∈as.toList,x.born<n:=λ x hx=>by
   obtain⟨j,hj,e⟩:=List.getElem_of_mem hx
   have:=hborn j x (by rw[<- e];simp at hj ⊢)
   simp at hj;omega
  have hnod:(as.toList.map (·.born)).Nodup:=by
   have e:as.toList.map (·.born)=List.range as.size:=by
    apply List.ext_getElem (by simp)
    intro i i1 i2
    simp only[List.getElem_map,List.getElem_range,Array.getElem_toList]
    exact hborn i _ (zAj (by simpa using i2))
   rw[e];exact List.nodup_range
  have hbw:b<w.heap.size:=by
   rcases Nat.lt_or_ge b w.heap.size with h | h
   ·exact h
   ·simp[Array.getElem?_eq_none h]at hh
  refine wp_seq (wp_seq (wp_region_lit ?_))
  refine zFh rfl (v:= .map (some b)) (w' :=w) (by simp[execOp,zDn,hm]) ?_
  have hp1:(a.put (some m1) (.map (some b))).tmps.getD m1 undef= .map (some b):=by rw[zDH (by omega),if_pos rfl]
  refine zFh rfl (v:= .pointer (some ⟨w.heap.size,0,none⟩)) (w' :=w.alloc (.mapIter (some b) n #[] n)) (by
   simp only[execOp,zDn,hp1,Sem.run_bind]
   rw[run_range_map w t tk te b as n hk2.1 hh];rfl) ?_
  show(Code.block _ _).wp P _ _ _
  refine wp_block (wp_loop (λ a' w' =>∃ seen c0,ScanI a w b n it as a' w' seen c0)
   (λ a' w' =>(leftOf as (w'.iterSeen w.heap.size)).size) ⟨#[],n,?_⟩ ?_)
  ·refine⟨rfl,by simp[Act.put],?_,?_,zM _,(Below.refl _ _).alloc (zM _) _,λ e _ h=>by simp at h⟩
   ·rw[zDH (by simp[Act.put];omega),if_pos rfl]
   ·show(w.heap.push _)[w.heap.size]? =_;simp
  ·rintro a1 wa ⟨seen,c0,hI⟩
   have hs1:=hI.size
   have hba:wa.heap[b]? =some (.map as n):=(hI.below.block b hbw).trans hh
   have hit:w.heap.size<wa.heap.size:=by
    rcases Nat.lt_or_ge w.heap.size wa.heap.size with h | h
    ·exact h
    ·have:=hI.iter;simp[Array.getElem?_eq_none h]at this
   have hseen:wa.iterSeen w.heap.size=seen:=by unfold World.iterSeen;rw[hI.iter]
   rcases run_next_at (P:=P) wa ty3 w.heap.size b n c0 seen as n hI.iter hba hold hI.clock with⟨h0,hrun⟩ | ⟨e,he,wb,hwb,hrun⟩
   ·refine wp_seq (wp_region_lit ?_)
    refine zFh rfl (v:= .tuple #[.bool false]) (w' :=wa) (by simp only[execOp,zDn,hI.ptr,Sem.run_bind,hrun];rfl) ?_
    have hp2:(a1.put (some nx) (.tuple #[.bool false])).tmps.getD nx undef= .tuple #[.bool false]:=by rw[zDH (by omega),if_pos rfl]
    refine zFh rfl (v:= .bool false) (w' :=wa) (by simp[execOp,zDn,hp2,Instr.extract]) ?_
    show Code.wp P _ _ _ _
    refine wp_seq (wp_cond_false (by rw[zDn,zDH (by simp[Act.put];omega),if_pos rfl]) (wp_exit ?_))
    show(if k=k then _ else _)
    rw[if_pos rfl]
    show Code.wp P _ _ _ _
    refine wp_seq (wp_region_lit ?_)
    refine zFh rfl (v:= .bool true) (w' :=wa) (by simp[execOp,Act.eval]) ?_
    show Code.wp P _ _ _ _
    refine wp_ret ?_
    have hzt:z=true:=hall λ v hv=>by
     obtain⟨x,hx,rfl⟩:=zAh.1 hv
     refine hI.zero x hx ?_
     have h2:leftOf as seen= #[]:=Array.eq_empty_of_size_eq_zero h0
     unfold leftOf at h2
     rw[Array.filter_eq_empty_iff]at h2
     have h3:=h2 x (Array.mem_toList_iff.1 hx)
     cases hc:seen.contains x.born with
     |true=>rfl
     |false=>rw[hc]at h3;simp at h3
    subst hzt
    exact hQ _ _ hI.defers (by rw[zDH (by simp[Act.put];omega),if_pos rfl]) hI.below
   ·have hmem:=mem_left he
    have hbb:Below w.heap.size w wb:=by
     rcases hwb with rfl | rfl
     ·exact hI.below
     ·exact hI.below.trans ⟨rfl,rfl,rfl,zM _,λ _ _=>rfl⟩
    have hsb:wb.heap.size=wa.heap.size:=by rcases hwb with rfl | rfl<;>rfl
    have hgb:∀ i:Nat,wb.heap[i]? =wa.heap[i]? :=λ i=>by rcases hwb with rfl | rfl<;>rfl
    generalize hW:setBlock wb w.heap.size (.mapIter (some b) n (seen.push e.born) n)=W at hrun
    have hWi:W.heap[w.heap.size]? =some (.mapIter (some b) n (seen.push e.born) n):=by rw[<- hW];exact zSq (by omega)
    have hWb:W.heap[b]? =some (.map as n):=by rw[<- hW,zOv (by omega),hgb];exact hba
    have hWB:Below w.heap.size w W:=by
     rw[<- hW]
     exact⟨hbb.os,hbb.tape,hbb.output,by simpa [setBlock]using hbb.size,λ k hk=>(zOv (by omega)).trans (hbb.block k hk)⟩
    obtain⟨x,hx,hxz⟩:=hval e.val (zAh.2 ⟨e,hmem.1,rfl⟩)
    refine wp_seq (wp_region_lit ?_)
    refine zFh rfl (v:= .tuple #[.bool true,e.key,e.val]) (w' :=W) (by simp only[execOp,zDn,hI.ptr,Sem.run_bind,hrun];rfl) ?_
    have hp2:(a1.put (some nx) (.tuple #[.bool true,e.key,e.val])).tmps.getD nx undef= .tuple #[.bool true,e.key,e.val]:=by rw[zDH (by omega),if_pos rfl]
    refine zFh rfl (v:= .bool true) (w' :=W) (by simp[execOp,zDn,hp2,Instr.extract]) ?_
    show Code.wp P _ _ _ _
    refine wp_seq (wp_cond_true (by rw[zDn,zDH (by simp[Act.put];omega),if_pos rfl]) (wp_skip ?_))
    show Code.wp P _ _ _ _
    refine wp_block (wp_seq (wp_region_lit ?_))
    generalize hA:(a1.put (some nx) (.tuple #[.bool true,e.key,e.val])).put (some ok) (.bool true)=A
    have hAs:A.tmps.size=a.tmps.size:=by rw[<- hA];simp[Act.put,hs1]
    have hAd:A.defers=a.defers:=by rw[<- hA];exact hI.defers
    have hAp:A.tmps.getD it undef= .pointer (some ⟨w.heap.size,0,none⟩):=by
     rw[<- hA,zDH (by simp[Act.put];omega),if_neg g2,zDH (by omega),if_neg g1];exact hI.ptr
    refine zFh rfl (v:= .tuple #[e.key,e.val]) (w' :=W) (by
     simp only[execOp,zDn,hAp,Sem.run_bind]
     rw[run_entry_at W w.heap.size b n seen as n e hWi hWb hmem.1 hnod];rfl) ?_
    have hp3:(A.put (some en) (.tuple #[e.key,e.val])).tmps.getD en undef= .tuple #[e.key,e.val]:=by rw[zDH (by omega),if_pos rfl]
    refine zFh rfl (v:= .int .i64 x) (w' :=W) (by
     simp only[execOp,zDn,hp3,Instr.extract]
     simp[hx]) ?_
    have hp4:((A.put (some en) (.tuple #[e.key,e.val])).put (some v) (.int .i64 x)).tmps.getD v undef= .int .i64 x:=by rw[zDH (by simp[Act.put];omega),if_pos rfl]
    refine zFh rfl (v:= .int .i64 x) (w' :=W) (by simp only[execOp,zDn,hp4];rfl) ?_
    show Code.wp P _ _ _ _
    generalize hA2:((A.put (some en) (.tuple #[e.key,e.val])).put (some v) (.int .i64 x)).put (some vv) (.int .i64 x)=A2
    have hA2s:A2.tmps.size=a.tmps.size:=by rw[<- hA2];simp[Act.put,hAs]
    have hA2d:A2.defers=a.defers:=by rw[<- hA2];exact hAd
    have hA2p:A2.tmps.getD it undef= .pointer (some ⟨w.heap.size,0,none⟩):=by
     rw[<- hA2,zDH (by simp[Act.put];omega),if_neg g5,zDH (by simp[Act.put];omega),if_neg g4,zDH (by omega),if_neg g3];exact hAp
    have hA2v:A2.tmps.getD vv undef= .int .i64 x:=by rw[<- hA2,zDH (by simp[Act.put];omega),if_pos rfl]
    refine wp_seq (wp_region_lit ?_)
    refine zFh rfl (v:= .int .i64 x) (w' :=W) (by simp only[execOp,zDn,hA2v];rfl) ?_
    have hp5:(A2.put (some vm) (.int .i64 x)).tmps.getD vm undef= .int .i64 x:=by rw[zDH (by omega),if_pos rfl]
    refine zFh rfl (v:= .bool (x != 0)) (w' :=W) (by
     simp only[execOp,zDn,hp5,Sem.run_bind,Act.eval]
     simp[eqGuard_at_int,binOp,Op.intArith,Op.intBits,Op.intCmp]) ?_
    show Code.wp P _ _ _ _
    generalize hA3:(A2.put (some vm) (.int .i64 x)).put (some bb) (.bool (x != 0))=A3
    have hA3s:A3.tmps.size=a.tmps.size:=by rw[<- hA3];simp[Act.put,hA2s]
    have hA3d:A3.defers=a.defers:=by rw[<- hA3];exact hA2d
    have hA3p:A3.tmps.getD it undef= .pointer (some ⟨w.heap.size,0,none⟩):=by
     rw[<- hA3,zDH (by simp[Act.put];omega),if_neg g7,zDH (by omega),if_neg g6];exact hA2p
    have hA3v:A3.eval (.tmp bb)= .bool (x != 0):=by rw[zDn,<-hA3,zDH (by simp[Act.put];omega),if_pos rfl]
    by_cases hx0:x=0
    ·refine wp_cond_false (by rw[hA3v];simp[hx0]) (wp_skip ?_)
     refine⟨⟨seen.push e.born,n,hA3d,hA3s,hA3p,hWi,zM _,hWB,λ y hy hc=> ?_⟩,?_⟩
     ·rw[contains_push]at hc
      cases hs:seen.contains y.born with
      |true=>exact hI.zero y hy hs
      |false =>
       rw[hs]at hc
       simp only[Bool.false_or,beq_iff_eq]at hc
       obtain⟨i,hi,ei⟩:=List.getElem_of_mem hy
       obtain⟨j,hj,ej⟩:=List.getElem_of_mem hmem.1
       have b1:=hborn i y (by rw[<- ei];simp at hi ⊢)
       have b2:=hborn j e (by rw[<- ej];simp at hj ⊢)
       have:i=j:=by omega
       subst this
       rw[<- ei,ej,hx,hx0]
     ·have hsW:W.iterSeen w.heap.size=seen.push e.born:=by unfold World.iterSeen;rw[hWi]
      rw[hsW,hseen]
      exact left_shrinks as seen e he
    ·refine wp_cond_true (by rw[hA3v];simp[hx0]) (wp_seq (wp_region_lit ?_))
     refine zFh rfl (v:= .bool false) (w' :=W) (by simp[execOp,Act.eval]) ?_
     show Code.wp P _ _ _ _
     refine wp_ret ?_
     have hzf:=hxz hx0
     subst hzf
     exact hQ _ _ hA3d (by rw[zDH (by omega),if_pos rfl]) hWB
 ·cases hB
end
end Go.Ab

namespace Go.Ab
open Go.RowKit (Below)
variable [GL:Gl]
section congr
variable {c:Cfg} {call:Wf} {own:Hi} {o:Oper} {ow:List Ob}
theorem zJU{ps:Array (Nat×Operand)} {p:Nat×Operand} (h:p∈ps.toList):p.2∈(ps.toList.map (·.2)).toArray:=by
 simp only[List.mem_toArray];exact zAh.2 ⟨p,h,rfl⟩
theorem zYw{r1 r2:Operand->TypeId->AV} (h:∀ x,x∈o.op.operands->∀ t,r1 x t=r2 x t):opD c call own o r1 ow=opD c call own o r2 ow:=by
 unfold opD op1
 cases hop:o.op<;>rw[hop]at h<;>simp only[Op.operands]at h<;>simp only
 case move x=>simp only[h x (by simp)]
 case assign x=>simp only[h x (by simp)]
 case pick q a b=>simp only[h q (by simp),h a (by simp),h b (by simp)]
 case box t x=>simp only[h x (by simp)]
 case build t ps =>
  have e:∀ f:Nat->TypeId,(ps.toList.map λ p=>(p.1,r1 p.2 (f p.1)))=ps.toList.map λ p=>(p.1,r2 p.2 (f p.1)):=λ f =>
   zKE λ p hp=>by rw[h p.2 (zJU hp)]
  cases (c.at_ t).k<;>try rfl
  ·simp only;rw[show(ps.toList.map λ(p:Nat×Operand)=>(p.1,r1 p.2 _))=ps.toList.map λ p=>(p.1,r2 p.2 _)from e (λ _=>_)]
  ·rename_i fs
   simp only;rw[show(ps.toList.map λ(p:Nat×Operand)=>(p.1,r1 p.2 (zSU fs p.1)))=ps.toList.map λ p=>(p.1,r2 p.2 (zSU fs p.1))from e (λ i=>zSU fs i)]
 case buildSlice t n ps =>
  have e:∀ f:TypeId,(ps.toList.map λ p=>r1 p.2 f)=ps.toList.map λ p=>r2 p.2 f:=λ f =>
   zKE λ p hp=>by rw[h p.2 (zJU hp)]
  cases (c.at_ t).k<;>try rfl
  rename_i e0
  simp only;rw[show(ps.toList.map λ(p:Nat×Operand)=>r1 p.2 e0)=ps.toList.map λ p=>r2 p.2 e0 from e e0]
 case load t x=>simp only[h x (by simp)]
 case store t x y=>simp only[h x (by simp),h y (by simp)]
 case nilCheck x=>simp only[h x (by simp)]
 case binOp op xT x y yT=>simp only[h x (by simp),h y (by simp)]
 case unOp op t x=>simp only[h x (by simp)]
 case convert s d x=>simp only[h x (by simp)]
 case makeFunc f fi cs =>
  cases f<;>try rfl
  have e:∀ xs:Array Operand,(∀ x∈xs.toList,x∈fi++cs)->(xs.toList.map λ x=>r1 x 0)=xs.toList.map λ x=>r2 x 0:=λ xs hxs=>zKE λ x hx=>h x (hxs x hx) 0
  have e' :∀ xs:Array Operand,(∀ x∈xs.toList,x∈fi++cs)->(xs.toList.map λ x=>(r1 x 0).cap)=xs.toList.map λ x=>(r2 x 0).cap:=λ xs hxs=>zKE λ x hx=>by rw[h x (hxs x hx) 0]
  have h1:∀ x∈fi.toList,x∈fi++cs:=λ x hx=>by simp[Array.mem_toList_iff.1 hx]
  have h2:∀ x∈cs.toList,x∈fi++cs:=λ x hx=>by simp[Array.mem_toList_iff.1 hx]
  simp only
  rw[e fi h1,e cs h2,e' fi h1,e' cs h2]
 case lookup t x i ok=>simp only[h x (by simp),h i (by simp)]
 case mapUpdate t m i x=>simp only[h m (by simp),h i (by simp),h x (by simp)]
 case insert t m i x=>simp only[h m (by simp),h i (by simp),h x (by simp)]
 case mapEntry t m i=>simp only[h m (by simp),h i (by simp)]
 case entryStore t m s x=>simp only[h m (by simp),h s (by simp),h x (by simp)]
 case makeSlice t l n=>simp only[h l (by simp),h n (by simp)]
 case fieldAddr s x f=>simp only[h x (by simp)]
 case field s x f=>simp only[h x (by simp)]
 case indexAddr t x i=>simp only[h x (by simp),h i (by simp)]
 case index t x i=>simp only[h x (by simp),h i (by simp)]
 case slice t x lo hi mx =>
  have hb:∀{R:Type} (z:Option Operand) (d:Int),(∀ y,z=some y->y∈ #[x]++lo.toArray++hi.toArray++mx.toArray)->(bnd r1 z d:(Int->Option R)->Option R)=bnd r2 z d:=λ z d hz=>by
   cases z with
   |none=>rfl
   |some y=>funext k;simp only[bnd,h y (hz y rfl)]
  have hlo:∀{R:Type} (d:Int),(bnd r1 lo d:(Int->Option R)->Option R)=bnd r2 lo d:=λ d=>hb lo d (λ y e=>by simp[e])
  have hhi:∀{R:Type} (d:Int),(bnd r1 hi d:(Int->Option R)->Option R)=bnd r2 hi d:=λ d=>hb hi d (λ y e=>by simp[e])
  simp only[h x (by simp),hlo,hhi]
 case range t x=>simp only[h x (by simp)]
 case next x b=>cases b<;>simp only[h x (by simp)]
 case extract x j=>simp only[h x (by simp)]
 case call cl =>
  obtain⟨ce,args,ats⟩:=cl
  simp only[Call.operands]at h
  cases ce with
  |value f =>
   simp only
   rw[zL1 (own:=own) (o:=o) (h f (by simp) 0) λ x hx=>h x (by simp[Array.mem_toList_iff.1 hx]) 0]
   simp only[h f (by simp)]
   have e:((args.toList.zip ats.toList).map λ p=>r1 p.1 p.2)=(args.toList.zip ats.toList).map λ p=>r2 p.1 p.2:=zKE λ p hp=>by
    have:=(List.of_mem_zip hp).1
    rw[h p.1 (by simp[Array.mem_toList_iff.1 this])]
   rw[show((args.toList.zip ats.toList).map λ(p:Operand×TypeId)=>r1 p.1 p.2)=(args.toList.zip ats.toList).map λ p=>r2 p.1 p.2 from e]
  |invoke x m=>rfl
  |builtin b =>
   have ha:∀ x,x∈args.toList->∀ t,r1 x t=r2 x t:=λ x hx t=>h x (by simp[Array.mem_toList_iff.1 hx]) t
   cases b<;>try rfl
   all_goals
    simp only
    rcases hl:args.toList with _ | ⟨x,_ | ⟨y,_ | ⟨z,l⟩⟩⟩<;>rcases hl2:ats.toList with _ | ⟨t,_ | ⟨u,_ | ⟨v,l2⟩⟩⟩
    all_goals first
     |rfl
     |(have hx:=ha x (by rw[hl];simp);simp only[hx];done)
     |(have hx:=ha x (by rw[hl];simp);have hy:=ha y (by rw[hl];simp);simp only[hx,hy];done)
structure Even (r:Operand->TypeId->AV):Prop where
 ow:∀ x t,isOw (r x t)=isOw (r x 0)
 nil:∀ x t,(∃ s,r x 0= .nil s)->∃ s,r x t= .nil s
theorem zGi{a:AV} (h:isOw a=false):(∃ p,a= .pv p)∨∃ s,a= .nil s:=by
 cases a<;>simp[isOw]at h<;>first | exact .inl ⟨_,rfl⟩ | exact .inr ⟨_,rfl⟩
theorem zM5{a:AV} (h:isOw a=false) (ow ow2:List Ob) {R:Type} (k:PV->Option R):zDW ow a k=zDW ow2 a k:=by
 rcases zGi h with⟨p,rfl⟩ | ⟨s,rfl⟩<;>rfl
theorem zX0{a:AV} (h:isOw a=false) (sh:Nat) (ow ow2:List Ob) {R:Type} (k:List PV->Option R):zHp sh ow a k=zHp sh ow2 a k:=by
 rcases zGi h with⟨p,rfl⟩ | ⟨s,rfl⟩<;>rfl
theorem zUg{a:AV} (h:isOw a=false) (sh:Nat) (ow ow2:List Ob) {R:Type} (k:AV->Option R):zGW ow a sh k=zGW ow2 a sh k:=by
 rcases zGi h with⟨p,rfl⟩ | ⟨s,rfl⟩
 ·cases p<;>rfl
 ·rfl
theorem zYx{a:AV} (h:isOw a=false) (ow ow2:List Ob) {R:Type} (k:List (PV×PV)->Option R):mapO ow a k=mapO ow2 a k:=by
 rcases zGi h with⟨p,rfl⟩ | ⟨s,rfl⟩<;>rfl
theorem zUh{l:List AV} (h:∀ a∈l,isOw a=false) (ow ow2:List Ob) {R:Type} (k:List PV->Option R):zFO ow l k=zFO ow2 l k:=by
 induction l generalizing k with
 |nil=>rfl
 |cons a r ih =>
  simp only[zFO]
  rw[zM5 (h a (by simp)) ow ow2]
  congr 1;funext p
  exact ih (λ b hb=>h b (by simp[hb])) _
theorem zUi{l:List AV} (h:∀ a∈l,isOw a=false) (sh:Nat) (ow ow2:List Ob) {R:Type} (k:List PV->Option R):zFx sh ow l k=zFx sh ow2 l k:=by
 induction l generalizing k with
 |nil=>rfl
 |cons a r ih =>
  simp only[zFx]
  rw[zM5 (h a (by simp)) ow ow2]
  congr 1;funext p
  rw[ih (λ b hb=>h b (by simp[hb])) _]
def zFI(f:List Ob->Option (AV×List Ob)):Prop:=∃ g:Option AV,∀ ow,f ow=g.map λ a=>(a,ow)
theorem zCn{xs:List Operand} {r:Operand->TypeId->AV} (h:(bif xs.any (λ x=>isOw (r x 0))then 1 else 0)=0):∀ x∈xs,isOw (r x 0)=false:=by
 intro x hx
 cases hb:xs.any (λ x=>isOw (r x 0)) with
 |true=>rw[hb]at h;cases h
 |false=>simpa using(List.any_eq_false.1 hb x hx)
theorem zX1{r:Operand->TypeId->AV} (ev:Even r) (h:zKb own o r=0):zFI λ ow=>opD c call own o r ow:=by
 have none_:zFI λ _=>none:=⟨none,λ _=>rfl⟩
 have pure_:∀ a:AV,zFI λ ow=>some (a,ow):=λ a=>⟨some a,λ _=>rfl⟩
 have bind_:∀{α:Type} (x:Option α) (f:α->List Ob->Option (AV×List Ob)),(∀ a,zFI (f a))->zFI λ ow=>x.bind λ a=>f a ow:=λ x f hf=>by
  cases x with
  |none=>exact none_
  |some a=>exact hf a
 have pv_:∀(x:AV) (f:PV->List Ob->Option (AV×List Ob)),(∀ a,zFI (f a))->zFI λ ow=>pvOf x λ a=>f a ow:=λ x f hf=>by
  cases x with
  |pv p=>exact hf p
  |_=>exact none_
 have if_:∀(b:Bool) (f g:List Ob->Option (AV×List Ob)),zFI f->zFI g->zFI λ ow=>bif b then f ow else g ow:=λ b f g hf hg=>by cases b<;>assumption
 have bound_:∀(x:AV) (f:Int->List Ob->Option (AV×List Ob)),(∀ a,zFI (f a))->zFI λ ow=>zFP x λ a=>f a ow:=λ x f hf=>pv_ x (λ p ow=>p.asInt.bind λ n=>f n ow) λ p=>bind_ _ f hf
 have port_:∀(x:AV) (f:PV->List Ob->Option (AV×List Ob)),isOw x=false->(∀ a,zFI (f a))->zFI λ ow=>zDW ow x λ a=>f a ow:=λ x f hx hf=>by
  obtain⟨g,hg⟩:=bind_ (zDW [] x some) f hf
  exact⟨g,λ ow=>(zAN ow x _).trans (by rw[zM5 hx ow []];exact hg ow)⟩
 have ports_:∀(l:List AV) (f:List PV->List Ob->Option (AV×List Ob)),(∀ a∈l,isOw a=false)->(∀ a,zFI (f a))->zFI λ ow=>zFO ow l λ a=>f a ow:=λ l f hl hf=>by
  obtain⟨g,hg⟩:=bind_ (zFO [] l some) f hf
  exact⟨g,λ ow=>(zDG ow l _).trans (by rw[zUh hl ow []];exact hg ow)⟩
 have elems_:∀(sh:Nat) (l:List AV) (f:List PV->List Ob->Option (AV×List Ob)),(∀ a∈l,isOw a=false)->(∀ a,zFI (f a))->zFI λ ow=>zFx sh ow l λ a=>f a ow:=λ sh l f hl hf=>by
  obtain⟨g,hg⟩:=bind_ (zFx sh [] l some) f hf
  exact⟨g,λ ow=>(zEx sh ow l _).trans (by rw[zUi hl sh ow []];exact hg ow)⟩
 have read_:∀(sh:Nat) (x:AV) (f:List PV->List Ob->Option (AV×List Ob)),isOw x=false->(∀ a,zFI (f a))->zFI λ ow=>zHp sh ow x λ a=>f a ow:=λ sh x f hx hf=>by
  obtain⟨g,hg⟩:=bind_ (zHp sh [] x some) f hf
  exact⟨g,λ ow=>(zD8 sh ow x _).trans (by rw[zX0 hx sh ow []];exact hg ow)⟩
 have load_:∀(sh:Nat) (x:AV) (f:AV->List Ob->Option (AV×List Ob)),isOw x=false->(∀ a,zFI (f a))->zFI λ ow=>zGW ow x sh λ a=>f a ow:=λ sh x f hx hf=>by
  obtain⟨g,hg⟩:=bind_ (zGW [] x sh some) f hf
  exact⟨g,λ ow=>(zEQ ow x sh _).trans (by rw[zUg hx sh ow []];exact hg ow)⟩
 have fill_:∀(pl:Nat->Option (Nat×Nat)) (cs:List AV) (l:List (Nat×AV)) (f:List AV->List Ob->Option (AV×List Ob)),(∀ a,zFI (f a))->zFI λ ow=>zJE pl cs l λ a=>f a ow:=λ pl cs l f hf=>by
  obtain⟨g,hg⟩:=bind_ (zJE pl cs l some) f hf
  exact⟨g,λ ow=>(zGr pl l cs _).trans (hg ow)⟩
 have bnd_:∀(x:Option Operand) (d:Int) (f:Int->List Ob->Option (AV×List Ob)),(∀ a,zFI (f a))->zFI λ ow=>bnd r x d λ a=>f a ow:=λ x d f hf=>by
  cases x with
  |none=>exact hf d
  |some l=>exact bound_ _ f hf
 have map_:∀(x:AV) (f:List (PV×PV)->List Ob->Option (AV×List Ob)),isOw x=false->(∀ a,zFI (f a))->zFI λ ow=>mapO ow x λ a=>f a ow:=λ x f hx hf=>by
  obtain⟨g,hg⟩:=bind_ (mapO [] x some) f hf
  exact⟨g,λ ow=>(zKH ow x _).trans (by rw[zYx hx ow []];exact hg ow)⟩
 have zero_:∀(x:AV) (f:PV->List Ob->Option (AV×List Ob)),(∀ a,zFI (f a))->zFI λ ow=>zDW [] x λ a=>f a ow:=λ x f hf=>by
  obtain⟨g,hg⟩:=bind_ (zDW [] x some) f hf
  exact⟨g,λ ow=>(zAN [] x _).trans (hg ow)⟩
 have f0:∀ x t,isOw (r x 0)=false->isOw (r x t)=false:=λ x t hx=>by rw[ev.ow];exact hx
 unfold opD op1
 unfold zKb at h
 cases hop:o.op<;>rw[hop]at h<;>simp only at h<;>try (cases h;done)
 case move x =>
  simp only
  cases hd:zDF own o with
  |false=>simp only[zC];exact pure_ _
  |true =>
   rw[hd]at h
   simp only[zA]at h ⊢
   cases hr:r x o.type<;>rw[hr]at h<;>first | exact pure_ _ | (cases h;done) | (rename_i sb;cases sb<;>first | exact pure_ _ | cases h)
 case assign x =>
  simp only
  cases hd:zDF own o with
  |false=>simp only[zC];exact pure_ _
  |true =>
   rw[hd]at h
   simp only[zA]at h ⊢
   cases hr:r x o.type<;>rw[hr]at h<;>first | exact pure_ _ | (cases h;done) | (rename_i sb;cases sb<;>first | exact pure_ _ | cases h)
 case pick q a b=>exact pv_ _ _ λ p=>bind_ _ _ λ z=>pure_ _
 case box t x =>
  cases hd:zDF own o with
  |true=>rw[hd]at h;cases h
  |false =>
   rw[hd]at h
   simp only[zC]at h ⊢
   have hx:=zCn h x (by simp)
   exact if_ _ _ _ none_ (port_ _ _ (f0 _ _ hx) λ p=>if_ _ _ _ (pure_ _) none_)
 case build t ps =>
  simp only
  cases (c.at_ t).k<;>try exact none_
  all_goals exact fill_ _ _ _ _ λ cs=>pure_ _
 case buildSlice t n ps =>
  cases hd:zDF own o with
  |true=>rw[hd]at h;cases h
  |false =>
   rw[hd]at h
   simp only[zC]at h ⊢
   have hx:=zCn h
   cases (c.at_ t).k<;>try exact none_
   exact if_ _ _ _ (elems_ _ _ _ (λ a ha=>by
    obtain⟨p,hp,rfl⟩:=zAh.1 ha
    exact f0 _ _ (hx p.2 (zAh.2 ⟨p,hp,rfl⟩))) λ xs=>pure_ _) none_
 case load t x=>exact if_ _ _ _ none_ (load_ _ _ _ (zCn h x (by simp)) λ a=>pure_ _)
 case nilCheck x =>
  simp only
  cases r x 0<;>try exact none_
  ·rename_i p;cases p<;>first | exact none_ | exact pure_ _
  all_goals exact pure_ _
 case binOp op xT x y yT =>
  simp only
  cases zMP (c.at_ xT).k op (r x xT) y with
  |some b=>exact pure_ _
  |none=>exact pv_ _ _ λ p=>pv_ _ _ λ q=>bind_ _ _ λ z=>pure_ _
 case unOp op t x=>exact pv_ _ _ λ p=>bind_ _ _ λ z=>pure_ _
 case convert s d x=>exact pv_ _ _ λ p=>bind_ _ _ λ z=>pure_ _
 case makeFunc f fi cs =>
  cases f<;>try exact none_
  cases hop:zST own o with
  |true=>exact pure_ _
  |false =>
   rw[hop]at h
   simp only[zC]at h ⊢
   exact ports_ _ _ (λ a ha=>by
    obtain⟨p,hp,rfl⟩:=zAh.1 ha
    exact zCn h p (by simp at hp ⊢;exact .inl hp)) λ qs=>ports_ _ _ (λ a ha=>by
    obtain⟨p,hp,rfl⟩:=zAh.1 ha
    exact zCn h p (by simp at hp ⊢;exact .inr hp)) λ ps=>pure_ _
 case lookup t x i ok =>
  simp only
  cases (c.at_ t).k<;>try exact none_
  exact map_ _ _ (f0 _ _ (zCn h x (by simp))) λ es=>port_ _ _ (f0 _ _ (zCn h i (by simp))) λ kp=>zero_ _ _ λ d=>if_ _ _ _ (bind_ _ _ λ z=>pure_ _) none_
 case makeSlice t l n =>
  cases hd:zDF own o with
  |true=>rw[hd]at h;cases h
  |false =>
   simp only[zC]
   refine bound_ _ _ λ x=>bound_ _ _ λ y=> ?_
   cases (c.at_ t).k<;>try exact none_
   exact if_ _ _ _ (zero_ _ _ λ d=>if_ _ _ _ (pure_ _) none_) none_
 case fieldAddr s x f =>
  simp only
  cases (c.at_ s).k<;>try exact none_
  refine bind_ _ _ λ g=> ?_
  cases r x 0<;>try exact none_
  ·rename_i p;cases p<;>first | exact none_ | exact pure_ _
  ·exact pure_ _
  ·exact pure_ _
 case field s x f =>
  simp only
  cases (c.at_ s).k<;>try exact none_
  exact bind_ _ _ λ g=>port_ _ _ (f0 _ _ (zCn h x (by simp))) λ p=>if_ _ _ _ (bind_ _ _ λ z=>pure_ _) none_
 case indexAddr t x i =>
  have hx:=zCn h x (by simp)
  simp only
  refine bound_ _ _ λ n=> ?_
  cases (c.at_ t).k<;>try exact none_
  ·have hxt:=f0 x t hx
   rcases zGi hxt with⟨p,hp⟩ | ⟨s,hs⟩
   ·simp only[hp];exact pv_ _ _ λ p=>bind_ _ _ λ xs=>if_ _ _ _ (bind_ _ _ λ v=>pure_ _) none_
   ·simp only[hs];exact none_
  ·refine if_ _ _ _ ?_ none_
   cases r x 0<;>try exact none_
   ·rename_i p;cases p<;>first | exact none_ | exact pure_ _
   ·exact pure_ _
   ·exact pure_ _
 case index t x i =>
  have hx:=zCn h x (by simp)
  simp only
  refine bound_ _ _ λ n=> ?_
  cases (c.at_ t).k<;>try exact none_
  ·exact pv_ _ _ λ p=>bind_ _ _ λ s=>if_ _ _ _ (bind_ _ _ λ b=>pure_ _) none_
  ·exact port_ _ _ (f0 _ _ hx) λ p=>if_ _ _ _ (bind_ _ _ λ z=>pure_ _) none_
 case slice t x lo hi mx =>
  have hx:=zCn h x (by simp)
  simp only
  cases (c.at_ t).k<;>try exact none_
  ·exact pv_ _ _ λ p=>bind_ _ _ λ s=>bnd_ _ _ _ λ l=>bnd_ _ _ _ λ k=>if_ _ _ _ (pure_ _) none_
  ·cases mx with
   |some m=>simp only;split<;>first | exact none_ | exact read_ _ _ _ (f0 _ _ hx) λ _=>pure_ _
   |none =>
    simp only
    rcases zGi (f0 x t hx)with⟨p,hp⟩ | ⟨s,hs⟩
    ·simp only[hp,cutO];exact read_ _ _ _ rfl λ xs=>bnd_ _ _ _ λ l=>bnd_ _ _ _ λ k=>if_ _ _ _ (pure_ _) none_
    ·simp only[hs,cutO];exact bnd_ _ _ _ λ l=>bnd_ _ _ _ λ k=>if_ _ _ _ (pure_ _) none_
  ·exact port_ _ _ (f0 _ _ hx) λ q=>bind_ _ _ λ xs=>bnd_ _ _ _ λ l=>bnd_ _ _ _ λ k=>if_ _ _ _ (pure_ _) none_
 case extract x j =>
  simp only
  cases r x 0<;>first | exact none_ | exact bind_ _ _ λ a=>pure_ _ | exact pv_ _ _ λ p=>bind_ _ _ λ vs=>bind_ _ _ λ v=>pure_ _
 case call cl =>
  obtain⟨ce,args,ats⟩:=cl
  cases ce with
  |invoke x m=>cases h
  |value f =>
   try simp only at h ⊢
   cases hop:zIS own o r f args.toList with
   |true=>rw[hop]at h;cases hro:isRo own o<;>rw[hro]at h<;>cases h
   |false =>
   rw[hop]at h
   simp only[zC]at h ⊢
   have hx:=zCn h
   exact pv_ _ _ λ p=>bind_ _ _ λ g=>ports_ _ _ (λ a ha=>by
    obtain⟨p,hp,rfl⟩:=zAh.1 ha
    exact f0 _ _ (hx p.1 (List.of_mem_zip hp).1)) λ ps=>if_ _ _ _ (bind_ _ _ λ z=>pure_ _) none_
  |builtin b =>
   cases b<;>simp only at h<;>try (cases h;done)
   ·
    simp only
    rcases hl:args.toList with _ | ⟨s,_ | ⟨x,_ | ⟨z,l⟩⟩⟩<;>rcases hl2:ats.toList with _ | ⟨t,_ | ⟨u,_ | ⟨v,l2⟩⟩⟩<;>try exact none_
    rw[hl]at h
    simp only at h ⊢
    cases (c.at_ t).k<;>cases (c.at_ u).k<;>try exact none_
    ·cases hs:r s 0<;>rw[hs]at h<;>simp only at h<;>try (cases h;done)
     cases hd:zDF own o with
     |true=>rw[hd]at h;cases h
     |false=>simp only[zL8];exact none_
    ·rename_i e1
     simp only
     cases (c.at_ e1).k<;>try exact none_
     rename_i kk;cases kk<;>try exact none_
     refine if_ _ _ _ ?_ none_
     cases hs:r s 0<;>rw[hs]at h<;>simp only at h<;>try (cases h;done)
     obtain⟨sh0,hs0⟩:=ev.nil s t ⟨_,hs⟩
     cases hd:zDF own o with
     |true=>rw[hd]at h;cases h
     |false =>
      unfold zFN
      simp only[hs0,zC]
      exact pv_ _ _ λ p=>bind_ _ _ λ bs=>if_ _ _ _ (pure_ _) none_
    refine if_ _ _ _ ?_ none_
    cases hs:r s 0<;>rw[hs]at h<;>simp only at h<;>try (cases h;done)
    obtain⟨sh0,hs0⟩:=ev.nil s t ⟨_,hs⟩
    cases hd:zDF own o with
    |true=>rw[hd]at h;cases h
    |false =>
     rw[hd]at h
     simp only[zC]at h
     have hx:=zCn h x (by simp)
     unfold zFq zFN
     simp only[hs0,zC]
     exact read_ _ _ _ (f0 _ _ hx) λ ys=>if_ _ _ _ (pure_ _) none_
   ·
    simp only
    rcases hl:args.toList with _ | ⟨x,_ | ⟨z,l⟩⟩<;>rcases hl2:ats.toList with _ | ⟨t,_ | ⟨u,l2⟩⟩<;>try exact none_
    have hx:=zCn h x (by rw[hl];simp)
    simp only
    cases (c.at_ t).k<;>try exact none_
    ·exact pv_ _ _ λ p=>bind_ _ _ λ s=>pure_ _
    ·exact read_ _ _ _ (f0 _ _ hx) λ xs=>pure_ _
    ·exact pure_ _
    ·exact map_ _ _ (f0 _ _ hx) λ es=>pure_ _
   ·simp only
    rcases hl:args.toList with _ | ⟨x,_ | ⟨y,_ | ⟨z,l⟩⟩⟩<;>try exact none_
    exact pv_ _ _ λ p=>pv_ _ _ λ q=>bind_ _ _ λ z=>pure_ _
   ·simp only
    rcases hl:args.toList with _ | ⟨x,_ | ⟨y,_ | ⟨z,l⟩⟩⟩<;>try exact none_
    exact pv_ _ _ λ p=>pv_ _ _ λ q=>bind_ _ _ λ z=>pure_ _
def Keeps(ow:List Ob) (f:Option (AV×List Ob)):Prop:=∀ v ow',f=some (v,ow')->ow' =ow
theorem zUj{r:Operand->TypeId->AV} (ev:Even r) (h:zKb own o r≠2):Keeps ow (opD c call own o r ow):=by
 have none_:Keeps ow none:=λ _ _ h=>by cases h
 have pure_:∀ a:AV,Keeps ow (some (a,ow)):=λ a v ow' h=>by simp at h;exact h.2.symm
 have bind_:∀{α:Type} (x:Option α) (f:α->Option (AV×List Ob)),(∀ a,Keeps ow (f a))->Keeps ow (x.bind f):=λ x f hf=>by
  cases x with
  |none=>exact none_
  |some a=>exact hf a
 have pv_:∀(x:AV) (f:PV->Option (AV×List Ob)),(∀ a,Keeps ow (f a))->Keeps ow (pvOf x f):=λ x f hf=>by
  cases x with
  |pv p=>exact hf p
  |_=>exact none_
 have if_:∀(b:Bool) (f g:Option (AV×List Ob)),Keeps ow f->Keeps ow g->Keeps ow (bif b then f else g):=λ b f g hf hg=>by cases b<;>assumption
 have bound_:∀(x:AV) (f:Int->Option (AV×List Ob)),(∀ a,Keeps ow (f a))->Keeps ow (zFP x f):=λ x f hf=>pv_ x _ λ p=>bind_ _ f hf
 have port_:∀(x:AV) (f:PV->Option (AV×List Ob)),(∀ a,Keeps ow (f a))->Keeps ow (zDW ow x f):=λ x f hf=>by rw[zAN];exact bind_ _ f hf
 have ports_:∀(l:List AV) (f:List PV->Option (AV×List Ob)),(∀ a,Keeps ow (f a))->Keeps ow (zFO ow l f):=λ l f hf=>by rw[zDG];exact bind_ _ f hf
 have elems_:∀(sh:Nat) (l:List AV) (f:List PV->Option (AV×List Ob)),(∀ a,Keeps ow (f a))->Keeps ow (zFx sh ow l f):=λ sh l f hf=>by rw[zEx];exact bind_ _ f hf
 have read_:∀(sh:Nat) (x:AV) (f:List PV->Option (AV×List Ob)),(∀ a,Keeps ow (f a))->Keeps ow (zHp sh ow x f):=λ sh x f hf=>by rw[zD8];exact bind_ _ f hf
 have load_:∀(sh:Nat) (x:AV) (f:AV->Option (AV×List Ob)),(∀ a,Keeps ow (f a))->Keeps ow (zGW ow x sh f):=λ sh x f hf=>by rw[zEQ];exact bind_ _ f hf
 have fill_:∀(pl:Nat->Option (Nat×Nat)) (cs:List AV) (l:List (Nat×AV)) (f:List AV->Option (AV×List Ob)),(∀ a,Keeps ow (f a))->Keeps ow (zJE pl cs l f):=λ pl cs l f hf=>by rw[zGr];exact bind_ _ f hf
 have map_:∀(x:AV) (f:List (PV×PV)->Option (AV×List Ob)),(∀ a,Keeps ow (f a))->Keeps ow (mapO ow x f):=λ x f hf=>by rw[zKH];exact bind_ _ f hf
 have zero_:∀(x:AV) (f:PV->Option (AV×List Ob)),(∀ a,Keeps ow (f a))->Keeps ow (zDW [] x f):=λ x f hf=>by rw[zAN];exact bind_ _ f hf
 have bnd_:∀(x:Option Operand) (d:Int) (f:Int->Option (AV×List Ob)),(∀ a,Keeps ow (f a))->Keeps ow (bnd r x d f):=λ x d f hf=>by
  cases x with
  |none=>exact hf d
  |some l=>exact bound_ _ f hf
 unfold opD op1
 unfold zKb at h
 cases hop:o.op<;>rw[hop]at h<;>simp only at h<;>simp only
 case move x =>
  cases hd:zDF own o with
  |false=>simp only[zC];exact pure_ _
  |true =>
   rw[hd]at h
   simp only[zA]at h ⊢
   cases hr:r x o.type<;>rw[hr]at h<;>first | exact pure_ _ | exact absurd rfl h | (rename_i sb;cases sb<;>first | exact pure_ _ | exact absurd rfl h)
 case assign x =>
  cases hd:zDF own o with
  |false=>simp only[zC];exact pure_ _
  |true =>
   rw[hd]at h
   simp only[zA]at h ⊢
   cases hr:r x o.type<;>rw[hr]at h<;>first | exact pure_ _ | exact absurd rfl h | (rename_i sb;cases sb<;>first | exact pure_ _ | exact absurd rfl h)
 case pick q a b=>exact pv_ _ _ λ p=>bind_ _ _ λ z=>pure_ _
 case alloc t=>exact absurd rfl h
 case store t x y=>exact absurd rfl h
 case range t x=>exact absurd rfl h
 case next x b=>exact absurd rfl h
 case makeMap t x=>exact absurd rfl h
 case mapUpdate t m i x=>exact absurd rfl h
 case mapEntry t m i=>exact absurd rfl h
 case entryStore t m s x=>exact absurd rfl h
 case insert t m i x=>exact absurd rfl h
 case lookup t x i ok =>
  cases (c.at_ t).k<;>try exact none_
  exact map_ _ _ λ es=>port_ _ _ λ kp=>zero_ _ _ λ d=>if_ _ _ _ (bind_ _ _ λ z=>pure_ _) none_
 case makeSlice t l n =>
  cases hd:zDF own o with
  |true=>rw[hd]at h;exact absurd rfl h
  |false =>
   simp only[zC]
   refine bound_ _ _ λ x=>bound_ _ _ λ y=> ?_
   cases (c.at_ t).k<;>try exact none_
   exact if_ _ _ _ (zero_ _ _ λ d=>if_ _ _ _ (pure_ _) none_) none_
 case box t x =>
  cases hd:zDF own o with
  |true=>rw[hd]at h;exact absurd rfl h
  |false =>
   simp only[zC]
   exact if_ _ _ _ none_ (port_ _ _ λ p=>if_ _ _ _ (pure_ _) none_)
 case build t ps =>
  cases (c.at_ t).k<;>try exact none_
  all_goals exact fill_ _ _ _ _ λ cs=>pure_ _
 case buildSlice t n ps =>
  cases hd:zDF own o with
  |true=>rw[hd]at h;exact absurd rfl h
  |false =>
   simp only[zC]
   cases (c.at_ t).k<;>try exact none_
   exact if_ _ _ _ (elems_ _ _ _ λ xs=>pure_ _) none_
 case load t x=>exact if_ _ _ _ none_ (load_ _ _ _ λ a=>pure_ _)
 case nilCheck x =>
  cases r x 0<;>try exact none_
  ·rename_i p;cases p<;>first | exact none_ | exact pure_ _
  all_goals exact pure_ _
 case binOp op xT x y yT =>
  cases zMP (c.at_ xT).k op (r x xT) y with
  |some b=>exact pure_ _
  |none=>exact pv_ _ _ λ p=>pv_ _ _ λ q=>bind_ _ _ λ z=>pure_ _
 case unOp op t x=>exact pv_ _ _ λ p=>bind_ _ _ λ z=>pure_ _
 case convert s d x=>exact pv_ _ _ λ p=>bind_ _ _ λ z=>pure_ _
 case makeFunc f fi cs =>
  cases f<;>try exact none_
  exact if_ _ _ _ (pure_ _) (ports_ _ _ λ qs=>ports_ _ _ λ ps=>pure_ _)
 case fieldAddr s x f =>
  cases (c.at_ s).k<;>try exact none_
  refine bind_ _ _ λ g=> ?_
  cases r x 0<;>try exact none_
  ·rename_i p;cases p<;>first | exact none_ | exact pure_ _
  ·exact pure_ _
  ·exact pure_ _
 case field s x f =>
  cases (c.at_ s).k<;>try exact none_
  exact bind_ _ _ λ g=>port_ _ _ λ p=>if_ _ _ _ (bind_ _ _ λ z=>pure_ _) none_
 case indexAddr t x i =>
  refine bound_ _ _ λ n=> ?_
  cases (c.at_ t).k<;>try exact none_
  ·cases r x t<;>try exact none_
   ·exact pv_ _ _ λ p=>bind_ _ _ λ xs=>if_ _ _ _ (bind_ _ _ λ v=>pure_ _) none_
   ·simp only;split<;>first | exact none_ | exact if_ _ _ _ (pure_ _) none_
   ·simp only;split<;>first | exact none_ | exact if_ _ _ _ (pure_ _) none_
  ·refine if_ _ _ _ ?_ none_
   cases r x 0<;>try exact none_
   ·rename_i p;cases p<;>first | exact none_ | exact pure_ _
   ·exact pure_ _
   ·exact pure_ _
 case index t x i =>
  refine bound_ _ _ λ n=> ?_
  cases (c.at_ t).k<;>try exact none_
  ·exact pv_ _ _ λ p=>bind_ _ _ λ s=>if_ _ _ _ (bind_ _ _ λ b=>pure_ _) none_
  ·exact port_ _ _ λ p=>if_ _ _ _ (bind_ _ _ λ z=>pure_ _) none_
 case slice t x lo hi mx =>
  cases (c.at_ t).k<;>try exact none_
  ·exact pv_ _ _ λ p=>bind_ _ _ λ s=>bnd_ _ _ _ λ l=>bnd_ _ _ _ λ k=>if_ _ _ _ (pure_ _) none_
  ·cases mx with
   |some m=>simp only;split<;>first | exact none_ | exact read_ _ _ _ λ _=>pure_ _
   |none=>simp only;rw[zOL];exact bind_ _ _ λ a=>pure_ _
  ·exact port_ _ _ λ q=>bind_ _ _ λ xs=>bnd_ _ _ _ λ l=>bnd_ _ _ _ λ k=>if_ _ _ _ (pure_ _) none_
 case extract x j=>cases r x 0<;>first | exact none_ | exact bind_ _ _ λ a=>pure_ _ | exact pv_ _ _ λ p=>bind_ _ _ λ vs=>bind_ _ _ λ v=>pure_ _
 case call cl =>
  obtain⟨ce,args,ats⟩:=cl
  cases ce with
  |invoke x m=>exact none_
  |value f =>
   try simp only at h ⊢
   cases hop:zIS own o r f args.toList with
   |true =>
    rw[hop]at h
    cases hro:isRo own o with
    |false=>rw[hro]at h;exact absurd rfl h
    |true =>
     simp only[zA]
     refine if_ _ _ _ ?_ none_
     have e:zKo (isLk own o) call (z04 own o) (look own.tm (o.dst.getD 0)) ow (r f 0) ((args.toList.zip ats.toList).map λ(x,t)=>r x t) (roK true ow λ a b=>some (a,b))=(zKo (isLk own o) call (z04 own o) (look own.tm (o.dst.getD 0)) ow (r f 0) ((args.toList.zip ats.toList).map λ(x,t)=>r x t) λ a b=>some (a,b)).bind λ x=>roK true ow (λ a b=>some (a,b)) x.1 x.2:=by rw[zM2];rfl
     rw[e]
     refine bind_ _ _ λ x=> ?_
     unfold roK
     simp only[zA]
     exact if_ _ _ _ (pure_ _) none_
   |false =>
    simp only[zC]
    exact pv_ _ _ λ p=>bind_ _ _ λ g=>ports_ _ _ λ ps=>if_ _ _ _ (bind_ _ _ λ z=>pure_ _) none_
  |builtin b =>
   cases b<;>simp only at h⊢ <;>try exact none_
   ·rcases hl:args.toList with _ | ⟨s,_ | ⟨x,_ | ⟨z,l⟩⟩⟩<;>rcases hl2:ats.toList with _ | ⟨t,_ | ⟨u,_ | ⟨v,l2⟩⟩⟩<;>try exact none_
    rw[hl]at h
    simp only at h ⊢
    cases (c.at_ t).k<;>cases (c.at_ u).k<;>try exact none_
    ·cases hs:r s 0<;>rw[hs]at h<;>simp only at h<;>try exact absurd rfl h
     cases hd:zDF own o with
     |true=>rw[hd]at h;exact absurd rfl h
     |false=>simp only[zL8];exact none_
    ·rename_i e1
     simp only
     cases (c.at_ e1).k<;>try exact none_
     rename_i kk;cases kk<;>try exact none_
     refine if_ _ _ _ ?_ none_
     cases hs:r s 0<;>rw[hs]at h<;>simp only at h<;>try exact absurd rfl h
     obtain⟨sh0,hs0⟩:=ev.nil s t ⟨_,hs⟩
     cases hd:zDF own o with
     |true=>rw[hd]at h;exact absurd rfl h
     |false =>
      unfold zFN
      simp only[hs0,zC]
      exact pv_ _ _ λ p=>bind_ _ _ λ bs=>if_ _ _ _ (pure_ _) none_
    refine if_ _ _ _ ?_ none_
    cases hs:r s 0<;>rw[hs]at h<;>simp only at h<;>try exact absurd rfl h
    obtain⟨sh0,hs0⟩:=ev.nil s t ⟨_,hs⟩
    cases hd:zDF own o with
    |true=>rw[hd]at h;exact absurd rfl h
    |false =>
     unfold zFq zFN
     simp only[hs0,zC]
     exact read_ _ _ _ λ ys=>if_ _ _ _ (pure_ _) none_
   ·rcases hl:args.toList with _ | ⟨x,_ | ⟨z,l⟩⟩<;>rcases hl2:ats.toList with _ | ⟨t,_ | ⟨u,l2⟩⟩<;>try exact none_
    simp only
    cases (c.at_ t).k<;>try exact none_
    cases r x t<;>first | exact none_ | exact pure_ _
   ·rcases hl:args.toList with _ | ⟨x,_ | ⟨z,l⟩⟩<;>rcases hl2:ats.toList with _ | ⟨t,_ | ⟨u,l2⟩⟩<;>try exact none_
    simp only
    cases (c.at_ t).k<;>try exact none_
    ·exact pv_ _ _ λ p=>bind_ _ _ λ s=>pure_ _
    ·exact read_ _ _ _ λ xs=>pure_ _
    ·exact pure_ _
    ·exact map_ _ _ λ es=>pure_ _
   ·rcases hl:args.toList with _ | ⟨x,_ | ⟨y,_ | ⟨z,l⟩⟩⟩<;>try exact none_
    exact pv_ _ _ λ p=>pv_ _ _ λ q=>bind_ _ _ λ z=>pure_ _
   ·rcases hl:args.toList with _ | ⟨x,_ | ⟨y,_ | ⟨z,l⟩⟩⟩<;>try exact none_
    exact pv_ _ _ λ p=>pv_ _ _ λ q=>bind_ _ _ λ z=>pure_ _
 all_goals exact none_
end congr
theorem zWD(c:Cfg) (fr:List (Nat×AV)):Even (λ x t=>ρ fr x t c) where
 ow:=λ x t=>by
  cases x<;>try rfl
  rename_i v
  simp only[ρ,AV.ofConst]
  split<;>(try rfl)<;>(split<;>first | rfl | simp_all[isOw])
 nil:=λ x t h=>by
  cases x with
  |tmp s=>exact h
  |const v =>
   obtain⟨s,hs⟩:=h
   simp only[ρ,AV.ofConst]at hs ⊢
   split at hs<;>first | exact⟨_,rfl⟩ | cases hs
  |global g=>exact h
  |func f=>exact h
end Go.Ab

namespace Go.Ab
variable [GL:Gl]
section
variable {c:Cfg} {call:Wf} {own:Hi} {ops:Array Oper}
theorem zOw{xs:List Operand} {r1 r2:Operand->TypeId->AV} (h:∀ x∈xs,∀ t,r1 x t=r2 x t) :
 (xs.any λ x=>isOw (r1 x 0))=xs.any λ x=>isOw (r2 x 0):=by
 induction xs with
 |nil=>rfl
 |cons x l ih=>simp only[List.any_cons,h x (by simp) 0,ih λ y hy=>h y (by simp[hy])]
theorem zUk{o:Oper} {r1 r2:Operand->TypeId->AV} (h:∀ x,x∈o.op.operands->∀ t,r1 x t=r2 x t):zKb own o r1=zKb own o r2:=by
 unfold zKb
 cases hop:o.op<;>rw[hop]at h<;>simp only[Op.operands]at h<;>simp only
 case move x=>simp only[h x (by simp)]
 case assign x=>simp only[h x (by simp)]
 case box t x=>simp only[List.any_cons,List.any_nil,h x (by simp)]
 case buildSlice t n ps =>
  rw[zOw (r1:=r1) (r2:=r2) λ x hx t=>h x (by simpa using hx) t]
 case load t x=>simp only[List.any_cons,List.any_nil,h x (by simp)]
 case makeFunc f fi cs =>
  rw[zOw (r1:=r1) (r2:=r2) λ x hx t=>h x (by simpa using hx) t]
 case lookup t x i ok=>simp only[List.any_cons,List.any_nil,h x (by simp),h i (by simp)]
 case field s x f=>simp only[List.any_cons,List.any_nil,h x (by simp)]
 case indexAddr t x i=>simp only[List.any_cons,List.any_nil,h x (by simp)]
 case index t x i=>simp only[List.any_cons,List.any_nil,h x (by simp)]
 case slice t x lo hi mx=>simp only[List.any_cons,List.any_nil,h x (by simp)]
 case call cl =>
  obtain⟨ce,args,ats⟩:=cl
  simp only[Call.operands]at h
  have ha:∀ x,x∈args.toList->∀ t,r1 x t=r2 x t:=λ x hx t=>h x (by simp[Array.mem_toList_iff.1 hx]) t
  have he:=zOw (r1:=r1) (r2:=r2) ha
  cases ce with
  |value f=>simp only[he,zL1 (own:=own) (o:=o) (h f (by simp) 0) (λ x hx=>ha x hx 0)]
  |invoke x m=>rfl
  |builtin b =>
   cases b<;>try rfl
   ·simp only
    rcases hl:args.toList with _ | ⟨s,_ | ⟨x,_ | ⟨z,l⟩⟩⟩<;>try rfl
    simp only[ha s (by rw[hl];simp),List.any_cons,List.any_nil,ha x (by rw[hl];simp)]
   ·simp only[he]
theorem zYy{o:Oper} {fr fr' :List (Nat×AV)} (h:∀ s∈o.looksAt ops,get fr' s=get fr s) (x:Operand) (hx:x∈o.op.operands) (t:TypeId):ρ fr' x t c=ρ fr x t c:=by
 cases x with
 |tmp s =>
  refine h s (List.mem_append_left _ (List.mem_filterMap.2 ⟨.tmp s,by simpa using hx,rfl⟩))
 |_=>rfl
theorem zOx{o:Oper} {j d:Nat} {want:Bool} (hg:o.guard=some (j,want)) (hd:(ops[j]?).bind (·.dst)=some d):d∈o.looksAt ops:=by
 refine List.mem_append_right _ ?_
 simp only[hg,hd]
 simp
theorem OneStep.congr{o:Oper} {fr fr' :List (Nat×AV)} {ow ow' :List Ob} {av:AV} {t:Nat} (h:OneStep c call own ops o fr ow av ow' t) (e:∀ s∈o.looksAt ops,get fr' s=get fr s) :
 OneStep c call own ops o fr' ow av ow' t:=by
 cases h with
 |run _ _ h hg =>
  have h1:∀ x,x∈o.op.operands->∀ t,(λ x t=>ρ fr x t c) x t=(λ x t=>ρ fr' x t c) x t:=λ x hx t=>(zYy e x hx t).symm
  rw[zYw h1]at h
  rw[zUk h1]
  exact .run av ow' h λ j want hj=>by
   obtain⟨d,h2,h3⟩:=hg j want hj
   exact⟨d,h2,by rw[e d (zOx hj h2)];exact h3⟩
 |skip j want hg d hd hp=>exact .skip j want hg d hd (by rw[e d (zOx hg hd)];exact hp)
theorem OneStep.keeps{o:Oper} {fr:List (Nat×AV)} {ow ow' :List Ob} {av:AV} {t:Nat} (h:OneStep c call own ops o fr ow av ow' t) (ht:t≠2):ow' =ow:=by
 cases h with
 |run _ _ h hg=>exact zUj (zWD c fr) ht _ _ h
 |skip=>rfl
theorem OneStep.free{o:Oper} {fr:List (Nat×AV)} {ow ow' :List Ob} {av:AV} {t:Nat} (h:OneStep c call own ops o fr ow av ow' t) (ht:t=0) (ow2:List Ob):OneStep c call own ops o fr ow2 av ow2 t:=by
 cases h with
 |run _ _ h hg =>
  obtain⟨g,h1⟩:=zX1 (c:=c) (call:=call) (zWD c fr) ht
  have h2:=h1 ow
  have h3:=h1 ow2
  simp only at h2 h3
  rw[h]at h2
  cases g with
  |none=>cases h2
  |some a =>
   simp at h2
   obtain⟨rfl,rfl⟩:=h2
   exact .run _ _ h3 hg
 |skip j want hg d hd hp=>exact .skip j want hg d hd hp
theorem zKx{dst:Option Tmp} {a:AV} {fr:List (Nat×AV)} {s:Nat} (h:∀ d,dst=some d->d≠s):get (putD dst a fr) s=get fr s:=by
 cases dst with
 |none=>rfl
 |some d=>simp only[putD,zFg,if_neg (h d rfl)]
theorem zSr{d1 d2:Option Tmp} {a b:AV} {fr:List (Nat×AV)} (h:∀ d,d1=some d->d2≠some d):get (putD d1 a (putD d2 b fr))=get (putD d2 b (putD d1 a fr)):=by
 cases d1 with
 |none=>rfl
 |some d =>
  cases d2 with
  |none=>rfl
  |some e =>
   have hne:d≠e:=λ x=>h d rfl (x▸rfl)
   funext s
   simp only[putD,zFg]
   by_cases h1:d=s
   ·subst h1;simp[Ne.symm hne]
   ·simp[h1]
theorem zIB{dst:Option Tmp} {a:AV} {fr fr' :List (Nat×AV)} (h:get fr' =get fr):get (putD dst a fr')=get (putD dst a fr):=by
 cases dst with
 |none=>exact h
 |some d=>funext s;simp only[putD,zFg,h]
theorem swap{x y:Oper} {fr:List (Nat×AV)} {ow owx owy:List Ob} {avx avy:AV} {tx ty:Nat} (hap:x.apart ops y=true)
 (h1:OneStep c call own ops x fr ow avx owx tx) (h2:OneStep c call own ops y (putD x.dst avx fr) owx avy owy ty) (ht:tx=0∨ty=0∨(tx=1/\ty=1)) :
 ∃ ow1,OneStep c call own ops y fr ow avy ow1 ty/\OneStep c call own ops x (putD y.dst avy fr) ow1 avx owy tx:=by
 obtain⟨a1,a2,a3⟩:=Oper.apart_spec hap
 have h2' :OneStep c call own ops y fr owx avy owy ty:=h2.congr λ s hs=>(zKx λ d hd e=>a1 d hd (e▸hs)).symm
 have go:∀ ow1,OneStep c call own ops x fr ow1 avx owy tx->OneStep c call own ops x (putD y.dst avy fr) ow1 avx owy tx:=λ ow1 h =>
  h.congr λ s hs=>zKx λ d hd e=>a3 d hd (e▸hs)
 rcases ht with rfl | rfl | ⟨rfl,rfl⟩
 ·have e:=h1.keeps (by decide);subst e
  exact⟨owy,h2',go _ (h1.free rfl owy)⟩
 ·have e:=h2'.keeps (by decide);subst e
  exact⟨ow,h2'.free rfl ow,go _ h1⟩
 ·have e:=h1.keeps (by decide);subst e
  have e:=h2'.keeps (by decide);subst e
  exact⟨_,h2',go _ h1⟩
inductive Tr (c:Cfg) (call:Wf) (own:Hi) (ops:Array Oper) (τ:Nat->Nat):List (Nat×Oper)->List (Nat×AV)->List Ob->List (Nat×AV)->List Ob->Prop
 |nil (fr fr' :List (Nat×AV)) (ow:List Ob) (h:get fr' =get fr):Tr c call own ops τ [] fr ow fr' ow
 |cons (i:Nat) (o:Oper) (l:List (Nat×Oper)) (fr fr' :List (Nat×AV)) (ow ow1 ow' :List Ob) (av:AV) (h:OneStep c call own ops o fr ow av ow1 (τ i)) (ht:Tr c call own ops τ l (putD o.dst av fr) ow1 fr' ow') :
  Tr c call own ops τ ((i,o)::l) fr ow fr' ow'
theorem Tr.congr{τ:Nat->Nat} {l:List (Nat×Oper)} {fr fr' fr1 fr1' :List (Nat×AV)} {ow ow' :List Ob} (h:Tr c call own ops τ l fr ow fr' ow') (e:get fr1=get fr) (e' :get fr1' =get fr'):Tr c call own ops τ l fr1 ow fr1' ow' :=by
 induction h generalizing fr1 with
 |nil fr fr' ow h=>exact .nil _ _ _ (by rw[e,e',h])
 |cons i o l fr fr' ow ow1 ow' av h ht ih=>exact .cons i o l _ _ _ ow1 _ av (h.congr λ s _=>by rw[e]) (ih (zIB e) e')
theorem Tr.front{τ:Nat->Nat} {j:Nat} {y:Oper} {l2:List (Nat×Oper)}:∀{l1:List (Nat×Oper)} {fr fr' :List (Nat×AV)} {ow ow' :List Ob},Tr c call own ops τ (l1++(j,y)::l2) fr ow fr' ow' ->
 (∀ p∈l1,p.2.apart ops y=true/\(τ p.1=0∨τ j=0∨(τ p.1=1/\τ j=1)))->∃ av ow1,OneStep c call own ops y fr ow av ow1 (τ j)/\Tr c call own ops τ (l1++l2) (putD y.dst av fr) ow1 fr' ow'
 | [],fr,fr',ow,ow',h,_=>by
  cases h with
  |cons _ _ _ _ _ _ ow1 _ av h ht=>exact⟨av,ow1,h,ht⟩
 |(i,x)::l1,fr,fr',ow,ow',h,hp=>by
  cases h with
  |cons _ _ _ _ _ _ owx _ avx h ht =>
   obtain⟨avy,owy,h1,h2⟩:=Tr.front ht λ p hq=>hp p (by simp[hq])
   obtain⟨ha,hτ⟩:=hp (i,x) (by simp)
   obtain⟨ow1,h3,h4⟩:=swap ha h h1 hτ
   refine⟨avy,ow1,h3,?_⟩
   refine .cons i x (l1++l2) _ _ _ owy _ avx h4 (h2.congr ?_ rfl)
   exact zSr λ d hd e=>(Oper.apart_spec ha).2.1 d hd e
end
theorem zOy(acc:Array Nat) (es:List Edge) (s i:Nat) (h:(es.foldl (λ s e=>if Region.binds .any e then s ||| 2 ^ e.on ||| acc.getD e.on 0 else s) s).testBit i=true) :
 s.testBit i=true∨∃ e∈es,Region.binds .any e=true/\(e.on=i∨(acc.getD e.on 0).testBit i=true):=by
 induction es generalizing s with
 |nil=>exact .inl h
 |cons e r ih =>
  simp only[List.foldl_cons]at h
  rcases ih _ h with h1 | ⟨e',he,hb⟩
  ·by_cases hb:Region.binds .any e=true
   ·rw[if_pos hb]at h1
    simp only[Nat.testBit_or,zFM,Nat.testBit_two_pow]at h1
    rcases h1 with(h1 | h1) | h1
    ·exact .inl h1
    ·exact .inr ⟨e,by simp,hb,.inl (by simpa using h1)⟩
    ·exact .inr ⟨e,by simp,hb,.inr h1⟩
   ·rw[if_neg hb]at h1;exact .inl h1
  ·exact .inr ⟨e',by simp[he],hb⟩
theorem zYz(l:List Oper):∀(acc:Array Nat) (pre:List Oper),acc.size=pre.length ->
 (∀ j i,(acc.getD j 0).testBit i=true->∃ o,pre[j]? =some o/\∃ e∈o.after,Region.binds .any e=true/\(e.on=i∨(e.on<j/\(acc.getD e.on 0).testBit i=true))) ->
 ∀ j i,((l.foldl (λ(acc:Array Nat) o=>acc.push (o.after.foldl (λ s e=>if Region.binds .any e then s ||| 2 ^ e.on ||| acc.getD e.on 0 else s) 0)) acc).getD j 0).testBit i=true ->
  ∃ o,(pre++l)[j]? =some o/\∃ e∈o.after,Region.binds .any e=true/\(e.on=i∨(e.on<j/\((l.foldl (λ(acc:Array Nat) o=>acc.push (o.after.foldl (λ s e=>if Region.binds .any e then s ||| 2 ^ e.on ||| acc.getD e.on 0 else s) 0)) acc).getD e.on 0).testBit i=true)):=by
 induction l with
 |nil=>intro acc pre hs h j i hb;simpa using h j i (by simpa using hb)
 |cons o r ih =>
  intro acc pre hs h j i hb
  simp only[List.foldl_cons]at hb ⊢
  have:=ih _ (pre++[o]) (by simp[hs]) ?_ j i hb
  ·simpa using this
  ·intro j i hb
   rcases Nat.lt_trichotomy j acc.size with hj | hj | hj
   ·have e1:(acc.push (o.after.foldl (λ s e=>if Region.binds .any e then s ||| 2 ^ e.on ||| acc.getD e.on 0 else s) 0)).getD j 0=acc.getD j 0:=by
     simp[Array.getElem?_push,Nat.ne_of_lt hj]
    rw[e1]at hb
    obtain⟨o',h1,e,he,hbi,h2⟩:=h j i hb
    refine⟨o',by rw[zAW (by omega)];exact h1,e,he,hbi,h2.imp id λ h3=>⟨h3.1,?_⟩⟩
    have e2:(acc.push (o.after.foldl (λ s e=>if Region.binds .any e then s ||| 2 ^ e.on ||| acc.getD e.on 0 else s) 0)).getD e.on 0=acc.getD e.on 0:=by
     simp[Array.getElem?_push,Nat.ne_of_lt (Nat.lt_trans h3.1 hj)]
    rw[e2];exact h3.2
   ·subst hj
    have hb' :(o.after.toList.foldl (λ s e=>if Region.binds .any e then s ||| 2 ^ e.on ||| acc.getD e.on 0 else s) 0).testBit i=true:=by
     rw[Array.foldl_toList]
     simpa [Array.getD_eq_getD_getElem?,Array.getElem?_push]using hb
    rcases zOy acc _ 0 i hb' with h1 | ⟨e,he,hbi,h2⟩
    ·simp at h1
    ·refine⟨o,by rw[hs];simp,e,Array.mem_toList_iff.1 he,hbi,h2.imp id λ h3=> ?_⟩
     have hlt:e.on<acc.size:=by
      rcases Nat.lt_or_ge e.on acc.size with h' | h'
      ·exact h'
      ·simp[Array.getElem?_eq_none h']at h3
     refine⟨hlt,?_⟩
     simp only[Array.getD_eq_getD_getElem?,Array.getElem?_push,if_neg (Nat.ne_of_lt hlt)]
     simpa [Array.getD_eq_getD_getElem?]using h3
   ·rw[Array.getD_eq_getD_getElem?,Array.getElem?_eq_none (by simp;omega)]at hb
    simp at hb
theorem zQb{ops:Array Oper} {j i:Nat} (h:((Region.before ops).getD j 0).testBit i=true) :
 ∃ o,ops[j]? =some o/\∃ e∈o.after,Region.binds .any e=true/\(e.on=i∨(e.on<j/\((Region.before ops).getD e.on 0).testBit i=true)):=by
 unfold Region.before at h ⊢
 rw[<- Array.foldl_toList]at h ⊢
 have:=zYz ops.toList #[] [] rfl (by simp) j i h
 simpa using this
def Closed(ops:Array Oper) (listed:Array Bool):Prop:=∀ j o,ops[j]? =some o->listed.getD j false=true->∀ e∈o.after,Region.binds .any e=true->listed.getD e.on false=true
theorem Closed.bit{ops:Array Oper} {listed:Array Bool} (h:Closed ops listed):∀(j i:Nat),listed.getD j false=true->((Region.before ops).getD j 0).testBit i=true->listed.getD i false=true:=by
 intro j
 induction j using Nat.strongRecOn with
 |ind j ih =>
  intro i hl hb
  obtain⟨o,ho,e,he,hbi,h1⟩:=zQb hb
  have h2:=h j o ho hl e he hbi
  rcases h1 with rfl | ⟨h3,h4⟩
  ·exact h2
  ·exact ih e.on h3 i h2 h4
theorem Closed.ready{ops:Array Oper} {listed:Array Bool} (h:Closed ops listed) {j i:Nat} (hj:j∈Region.ready .any ops listed) (hi:listed.getD i false=false):((Region.before ops).getD j 0).testBit i=false:=by
 cases hb:((Region.before ops).getD j 0).testBit i with
 |false=>rfl
 |true =>
  obtain⟨_,o,ho,hall⟩:=mem_ready.1 hj
  obtain⟨o',ho',e,he,hbi,h1⟩:=zQb hb
  rw[ho]at ho';cases ho'
  have h2:=hall e he hbi
  rcases h1 with rfl | ⟨h3,h4⟩
  ·rw[hi]at h2;cases h2
  ·have:=h.bit e.on i h2 h4
   rw[hi]at this;cases this
def zRR(ops:Array Oper):Bool :=
 let b:=Region.before ops
 let l:=ops.toList.zipIdx
 l.all λ q=>q.1.after.toList.all (λ e=> !Region.binds .any e || decide (e.on<q.2)) &&
  l.all λ p=>decide (q.2<=p.2) || (b.getD q.2 0).testBit p.2 || p.1.apart ops q.1
theorem zX2{ops:Array Oper} (h:zRR ops=true) {j:Nat} {o:Oper} (ho:ops[j]? =some o) {e:Edge} (he:e∈o.after) (hb:Region.binds .any e=true):e.on<j:=by
 have h1:=zAF.1 h (o,j) (by rw[List.mem_zipIdx_iff_getElem?];simpa using ho)
 simp only[zF]at h1
 have h2:=zAF.1 h1.1 e (Array.mem_toList_iff.2 he)
 simpa [hb]using h2
theorem zOz{ops:Array Oper} (h:zRR ops=true) {i j:Nat} {x y:Oper} (hx:ops[i]? =some x) (hy:ops[j]? =some y) (hij:i<j) (hb:((Region.before ops).getD j 0).testBit i=false):x.apart ops y=true:=by
 have h1:=zAF.1 h (y,j) (by rw[List.mem_zipIdx_iff_getElem?];simpa using hy)
 simp only[zF]at h1
 have h2:=zAF.1 h1.2 (x,i) (by rw[List.mem_zipIdx_iff_getElem?];simpa using hx)
 simp only[hb,Bool.or_false,zFM,zU]at h2
 exact h2.resolve_left (by omega)
section
variable {P:Program} {c:Cfg} {call:Wf} {own:Hi} {ops:Array Oper}
structure Left (ops:Array Oper) (listed:Array Bool) (l:List (Nat×Oper)):Prop where
 size:listed.size=ops.size
 mem:∀ i o,(i,o)∈l↔ops[i]? =some o/\listed.getD i true=false
 sorted:l.Pairwise λ p q=>p.1<q.1
 closed:Closed ops listed
theorem zPA{listed:Array Bool} {i:Nat} (h:listed.getD i true=false):listed.getD i false=false:=by
 cases e:listed[i]? with
 |none=>simp[Array.getD_eq_getD_getElem?,e]
 |some b=>simpa [Array.getD_eq_getD_getElem?,e]using h
theorem Left.take{listed:Array Bool} {l1 l2:List (Nat×Oper)} {j:Nat} {y:Oper} (h:Left ops listed (l1++(j,y)::l2)) (hj:j∈Region.ready .any ops listed) :
 Left ops (listed.setIfInBounds j true) (l1++l2):=by
 have hs:=List.pairwise_append.1 h.sorted
 have hs2:=List.pairwise_cons.1 hs.2.1
 refine⟨by simp[h.size],λ i o=> ?_,?_,?_⟩
 ·constructor
  ·intro hm
   have hm' :(i,o)∈l1++(j,y)::l2:=by
    rcases List.mem_append.1 hm with hm | hm
    ·exact List.mem_append_left _ hm
    ·exact List.mem_append_right _ (by simp[hm])
   obtain⟨h1,h2⟩:=(h.mem i o).1 hm'
   refine⟨h1,?_⟩
   have hne:j≠i:=by
    rcases List.mem_append.1 hm with hm | hm
    ·exact Nat.ne_of_gt (hs.2.2 (i,o) hm (j,y) (by simp))
    ·exact Nat.ne_of_lt (hs2.1 (i,o) hm)
   rw[getD_set_ne true hne];exact h2
  ·rintro⟨h1,h2⟩
   by_cases hne:j=i
   ·subst hne
    have hlt:j<listed.size:=by rw[h.size];exact(Array.getElem?_eq_some_iff.1 h1).1
    simp[hlt]at h2
   ·rw[getD_set_ne true hne]at h2
    rcases List.mem_append.1 ((h.mem i o).2 ⟨h1,h2⟩)with hm | hm
    ·exact List.mem_append_left _ hm
    ·rcases zAE.1 hm with e | hm
     ·cases e;exact absurd rfl hne
     ·exact List.mem_append_right _ hm
 ·exact List.pairwise_append.2 ⟨hs.1,hs2.2,λ p hp q hq=>hs.2.2 p hp q (by simp[hq])⟩
 ·intro k o ho hl e he hb
  by_cases hne:j=k
  ·subst hne
   obtain⟨_,o',ho',hall⟩:=mem_ready.1 hj
   rw[ho]at ho';cases ho'
   exact getD_set_true (hall e he hb)
  ·rw[getD_set_ne false hne]at hl
   exact getD_set_true (h.closed k o ho hl e he hb)
theorem Left.done{listed:Array Bool} {l:List (Nat×Oper)} (h:Left ops listed l) (hok:zRR ops=true) (hr:Region.ready .any ops listed=[]):l=[]:=by
 cases l with
 |nil=>rfl
 |cons p l =>
  obtain⟨i,o⟩:=p
  exfalso
  obtain⟨h1,h2⟩:=(h.mem i o).1 (by simp)
  have:i∈Region.ready .any ops listed:=mem_ready.2 ⟨h2,o,h1,λ e he hb=>by
   have hlt:=zX2 hok h1 he hb
   have hsz:e.on<ops.size:=Nat.lt_trans hlt (Array.getElem?_eq_some_iff.1 h1).1
   cases hl:listed.getD e.on true with
   |false =>
    have hm:=(h.mem e.on ops[e.on]).2 ⟨by simp[hsz],hl⟩
    rcases zAE.1 hm with e' | hm
    ·cases e';omega
    ·have:=(List.pairwise_cons.1 h.sorted).1 _ hm
     simp only at this;omega
   |true =>
    have hsz' :e.on<listed.size:=by rw[h.size];exact hsz
    simpa [hsz']using hl⟩
  rw[hr]at this;cases this
theorem z4F{w0:Base} {S0:Pr} {nt:Nat} (hT:TyOK P c) (hcall:CallOK P call) (hok:zRR ops=true) (hd:∀(j:Nat) (o:Oper),ops[j]? =some o->∀ d,o.dst=some d->d<nt) {τ:Nat->Nat}
 (hτ:∀ i j,i<j->j<ops.size->τ i=0∨τ j=0∨(τ i=1/\τ j=1)∨((Region.before ops).getD j 0).testBit i=true) {Q:Exit->Act->World->Prop} {fr' :List (Nat×AV)} {ow' :List Ob}
 (hQ:∀ fr'' a w S L,get fr'' =get fr' ->StR c w0 S0 nt fr'' ow' a w S L->Q .normal a w) :
 ∀(n:Nat) (l:List (Nat×Oper)) (listed:Array Bool) (fr:List (Nat×AV)) (ow:List Ob) (a:Act) (w:World) (S:Pr) (L:List Loc),l.length=n->Left ops listed l->Tr c call own ops τ l fr ow fr' ow' ->
  StR c w0 S0 nt fr ow a w S L->wpAny P .any ops Q n listed a w:=by
 have fin:∀(l:List (Nat×Oper)) (listed:Array Bool) (fr:List (Nat×AV)) (ow:List Ob) (a:Act) (w:World) (S:Pr) (L:List Loc),Left ops listed l->Tr c call own ops τ l fr ow fr' ow' ->
  StR c w0 S0 nt fr ow a w S L->Region.ready .any ops listed=[]->Q .normal a w:=λ l listed fr ow a w S L hl ht st hr=>by
  have e:=hl.done hok hr
  subst e
  cases ht with
  |nil _ _ _ h=>exact hQ fr a w S L h.symm st
 intro n
 induction n with
 |zero =>
  intro l listed fr ow a w S L hn hl ht st
  have e:=zCJ.1 hn
  subst e
  have hr:Region.ready .any ops listed=[]:=by
   cases hr:Region.ready .any ops listed with
   |nil=>rfl
   |cons j r =>
    obtain⟨h0,o,ho,_⟩:=mem_ready.1 (show j∈Region.ready .any ops listed by rw[hr];simp)
    have:=(hl.mem j o).2 ⟨ho,h0⟩
    cases this
  exact⟨hr,fin [] listed fr ow a w S L hl ht st hr⟩
 |succ n ih =>
  intro l listed fr ow a w S L hn hl ht st
  refine⟨fin l listed fr ow a w S L hl ht st,λ j hj=> ?_⟩
  obtain⟨h0,y,ho,_⟩:=mem_ready.1 hj
  obtain⟨l1,l2,rfl⟩:=List.append_of_mem ((hl.mem j y).2 ⟨ho,h0⟩)
  obtain⟨av,ow1,h1,h2⟩:=ht.front λ p hp=>by
   obtain⟨i,x⟩:=p
   have hlt:i<j:=(List.pairwise_append.1 hl.sorted).2.2 (i,x) hp (j,y) (by simp)
   obtain⟨hx,hun⟩:=(hl.mem i x).1 (by simp[hp])
   have hb:=hl.closed.ready hj (zPA hun)
   refine⟨zOz hok hx ho hlt hb,?_⟩
   rcases hτ i j hlt (Array.getElem?_eq_some_iff.1 ho).1 with h | h | h | h
   ·exact .inl h
   ·exact .inr (.inl h)
   ·exact .inr (.inr h)
   ·rw[hb]at h;cases h
  refine zYv hT hcall st ho (hd j y ho) h1 λ v w' S' L' st' _ _=> ?_
  exact ih (l1++l2) _ _ _ _ _ S' L' (by simp at hn ⊢;omega) (hl.take hj) h2 st'
theorem z0p(o:Oper) (r:Operand->TypeId->AV):zKb own o r<=2:=by
 have hc:∀(b:Bool) (x y:Nat),x<=2->y<=2->(bif b then x else y)<=2:=λ b x y hx hy=>by cases b<;>assumption
 have h1:∀(b:Bool) ,(bif b then 1 else 0)<=2:=λ b=>hc b 1 0 (by decide) (by decide)
 unfold zKb
 cases o.op<;>try simp only
 case call cl =>
  cases cl.callee<;>try simp only
  ·exact hc _ _ _ (hc _ 1 2 (by decide) (by decide)) (h1 _)
  ·exact zM _
  ·rename_i b
   cases b<;>try simp only
   all_goals first | exact zM _ | exact h1 _ | exact Nat.zero_le _ | skip
   split<;>first | exact zM _ | skip
   split<;>first | exact zM _ | exact hc _ _ _ (by decide) (h1 _)
 all_goals first
  |exact zM _ | exact Nat.zero_le _ | exact h1 _ | exact hc _ _ _ (by decide) (h1 _) | exact hc _ _ _ (by decide) (by decide)
  |(refine hc _ _ _ ?_ (by decide);split<;>decide)
theorem OneStep.le{o:Oper} {fr:List (Nat×AV)} {ow ow' :List Ob} {av:AV} {t:Nat} (h:OneStep c call own ops o fr ow av ow' t):t<=2:=by
 cases h with
 |run=>exact z0p _ _
 |skip=>exact Nat.zero_le _
theorem zWE{R:Type} {k:St->List Nat->Option R} {y:R} :
 ∀(rest:List Oper) (i:Nat) (st:St) (ts:List Nat),ts.length=i->zE6 c call own ops rest st ts k=some y ->
  ∃(fr' :List (Nat×AV)) (ow' :List Ob) (ts' :List Nat),ts'.length=rest.length/\(∀ t∈ts',t<=2)/\(∀ τ:Nat->Nat,(∀ j t,ts'[j]? =some t->τ (i+j)=t)->Tr c call own ops τ (rest.mapIdx λ j o=>(i+j,o)) st.fr st.ow fr' ow')/\k ⟨fr',ow'⟩ (ts'.reverse++ts)=some y
 | [],i,st,ts,_,h=>⟨st.fr,st.ow,[],rfl,by simp,λ τ _=> .nil _ _ _ rfl,h⟩
 |o::rest,i,st,ts,hi,h=>by
  obtain⟨fr1,av,ow1,t,he,h1,h2⟩:=zKN h
  obtain⟨fr',ow',ts',hl,hle,h3,h4⟩:=zWE rest (i+1) _ (t::ts) (by simp[hi]) h2
  refine⟨fr',ow',t::ts',by simp[hl],λ t' ht' => ?_,λ τ hτ=> ?_,by simpa using h4⟩
  ·rcases zAE.1 ht' with rfl | ht'
   ·exact h1.le
   ·exact hle _ ht'
  have:=h3 τ λ j t hj=>by have:=hτ (j+1) t (by simpa using hj);rwa [show i+1+j=i+(j+1) by omega]
  have e0:τ i=t:=by simpa using hτ 0 t rfl
  rw[List.mapIdx_cons]
  refine .cons (i+0) o _ _ _ _ ow1 _ av (by subst e0;exact h1) ?_
  have e:(λ j (o:Oper)=>(i+(j+1),o))=λ j o=>(i+1+j,o):=by funext j o;rw[show i+(j+1)=i+1+j by omega]
  rw[e]
  exact this.congr (zIB he.symm) rfl
theorem zUl{ts:List Nat} (h:zS0 ops ts=true) (hts:∀ t∈ts,t<=2) {i j:Nat} (hij:i<j) {ti tj:Nat} (hi:ts[i]? =some ti) (hj:ts[j]? =some tj) :
 ti=0∨tj=0∨(ti=1/\tj=1)∨((Region.before ops).getD j 0).testBit i=true:=by
 by_cases h0:ti=0
 ·exact .inl h0
 by_cases h1:tj=0
 ·exact .inr (.inl h1)
 by_cases h2:ti=1/\tj=1
 ·exact .inr (.inr (.inl h2))
 refine .inr (.inr (.inr ?_))
 have m:∀ k t,ts[k]? =some t->t≠0->(t,k)∈ts.zipIdx.filter λ p=>p.1 != 0:=λ k t hk ht=>by
  rw[zBS,List.mem_zipIdx_iff_getElem?];exact⟨hk,by simpa using ht⟩
 have mi:=m i ti hi h0
 have mj:=m j tj hj h1
 unfold zS0 at h
 have hc:ts.contains 2=true:=by
  have b1:=hts ti (zAV hi)
  have b2:=hts tj (zAV hj)
  have:ti=2∨tj=2:=by omega
  rcases this with rfl | rfl
  ·simpa using zAV hi
  ·simpa using zAV hj
 rw[hc]at h
 simp only[zAH,zC]at h
 have hlen:¬ (ts.zipIdx.filter λ p=>p.1 != 0).length<=1:=λ hle=>by
  generalize (ts.zipIdx.filter λ p=>p.1 != 0)=l at mi mj hle
  match l,hle with
  | [],_=>cases mi
  | [x],_ =>
   simp only[zBf]at mi mj
   have:=congrArg Prod.snd (mi.trans mj.symm)
   simp only at this;omega
 rw[show decide ((ts.zipIdx.filter λ p=>p.1 != 0).length<=1)=false by simpa using hlen]at h
 simp only[zC]at h
 have h3:=zAF.1 (zAF.1 h _ mi) _ mj
 simp only[zYW,zFM,zF,beq_iff_eq]at h3
 rcases h3 with(h3 | h3) | h3
 ·omega
 ·exact absurd h3 h2
 ·rwa [Nat.max_eq_right (by omega),Nat.min_eq_left (by omega)]at h3
theorem zZA{R:Type} {w0:Base} {S0:Pr} {nt:Nat} (hm:P.follows .mixedOrders=true) (hT:TyOK P c) (hcall:CallOK P call) (hok:zRR ops=true) (hd:zQ9 nt ops.toList=true) {Q:Exit->Act->World->Prop}
 {k:St->List Nat->Option R} {y:R} {id:Nat} {st:St} {a:Act} {w:World} {S:Pr} {L:List Loc} (hst:StR c w0 S0 nt st.fr st.ow a { w with drawn:=w.drawn+1 } S L)
 (h:zE6 c call own ops ops.toList st [] (λ st' ts=>bif zS0 ops ts.reverse then k st' ts else none)=some y)
 (hQ:∀ st' ts' a' w' S' L',StR c w0 S0 nt st'.fr st'.ow a' w' S' L' ->k st' ts' =some y->Q .normal a' w'):(Code.region id ops true).wp P Q a w:=by
 refine wp_region_any hm ?_
 obtain⟨fr',ow',ts',hlen,hle,htr,hk⟩:=zWE ops.toList 0 st [] rfl h
 simp only[zBN,List.reverse_reverse]at hk
 cases hdr:zS0 ops ts' with
 |false=>rw[hdr]at hk;cases hk
 |true =>
  rw[hdr]at hk
  simp only[zA]at hk
  have ht:=htr (λ i=>ts'.getD i 0) (λ j t hj=>by simp[zA0,hj])
  refine z4F hT hcall hok (λ j o ho d e=> ?_) (τ:=λ i=>ts'.getD i 0) (λ i j hij hj=> ?_) (fr' :=fr') (ow' :=ow') (λ fr'' a w S L he h1=>hQ ⟨fr',ow'⟩ _ a w S L ⟨h1.inv,h1.frs.same he.symm,h1.size,h1.defers⟩ hk)
   ops.size _ _ _ _ a _ S L (by simp) ?_ ht hst
  ·have:=zAF.1 hd o (Array.mem_toList_iff.2 (Array.mem_of_getElem? ho))
   rw[e]at this
   simpa using this
  ·have hj' :j<ts'.length:=by rw[hlen];simpa using hj
   have hi' :i<ts'.length:=Nat.lt_trans hij hj'
   have:=zUl hdr hle hij (zH hi') (zH hj')
   simpa [zA0,hi',hj']using this
  ·refine⟨by simp,λ i o=> ?_,?_,λ j o ho hl=> ?_⟩
   ·rw[List.mem_mapIdx]
    constructor
    ·rintro⟨j,hj,e⟩
     simp only[zAl,Nat.zero_add]at e
     obtain⟨rfl,rfl⟩:=e
     have:j<ops.size:=by simpa using hj
     simp[this]
    ·rintro⟨h1,_⟩
     obtain⟨h2,h3⟩:=Array.getElem?_eq_some_iff.1 h1
     exact⟨i,by simpa using h2,by simp[h3]⟩
   ·rw[List.pairwise_iff_getElem]
    intro i j hi hj hij
    simpa using hij
   ·simp only[Array.getD_eq_getD_getElem?]at hl
    cases e:(Array.replicate ops.size false)[j]? with
    |none=>rw[e]at hl;simp at hl
    |some b =>
     rw[Array.getElem?_replicate]at e
     split at e
     ·cases e;rename_i h';simp[h']at hl
     ·cases e
end
end Go.Ab

namespace Go.Ab
open Go.RowKit (Below)
variable [GL:Gl]
def Gho(w0:Base) (w:World) (S0:Pr) (ow ow' :List Ob):Prop:=∀ S L,Inv w0 S0 S L ow w->∃ S' L',Inv w0 S0 S' L' ow' w/\Evo S L ow S' L' ow'
section
variable {w0:Base} {w:World} {S0:Pr} {ow ow' ow'' :List Ob}
theorem Gho.refl:Gho w0 w S0 ow ow:=λ S L h=>⟨S,L,h,Evo.refl _ _ _⟩
theorem Gho.trans(h:Gho w0 w S0 ow ow') (k:Gho w0 w S0 ow' ow''):Gho w0 w S0 ow ow'' :=λ S L i=>by
 obtain⟨S1,L1,i1,e1⟩:=h S L i
 obtain⟨S2,L2,i2,e2⟩:=k S1 L1 i1
 exact⟨S2,L2,i2,e1.trans e2⟩
theorem zWF{α:Type} {l:List α} {i:Nat} {x:α} (h:l[i]? =some x):l.set i x=l:=by
 apply List.ext_getElem?
 intro j
 by_cases e:j=i
 ·subst e
  obtain⟨hlt,_⟩:=zQ.1 h
  rw[zAJ hlt,h]
 ·rw[zAr (Ne.symm e)]
def Pr.addM(S:Pr) (b:Nat) (v:Value):Pr:=λ b' o=>if b' =b/\o=0 then some v else S b' o
theorem Gho.shutRow{o:Nat} {ob:Ob} (ho:ow[o]? =some ob):Gho w0 w S0 ow (ow.set o (zEl ob)):=by
 cases ob with
 |row sl ver sh xs =>
  intro S L inv
  have hltL:o<L.length:=by rw[inv.len];exact(zQ.1 ho).1
  obtain⟨l,hl⟩:∃ l,L[o]? =some l:=⟨L[o],by simp[hltL]⟩
  have hob:=inv.obs o _ _ ho hl
  cases l with
  |grp b rs=>exact hob.elim
  |fix s0 b0 n0 k0=>exact hob.elim
  |blk b=>exact hob.elim
  |row base cap =>
   obtain⟨hc,hs,hx⟩:=hob
   simp only[zEl]
   rcases hx with rfl | ⟨b,o0,cs,t,rfl,hh,hfit,hcell⟩
   ·have hE:Evo S L ow S (L.set o (.row base 0)) (ow.set o (.row true ver sh xs)):=Evo.turn ho hl (Pr.le_refl S) (λ _ h k=>by cases h;cases k) ⟨rfl,zM _,λ _=>⟨rfl,rfl⟩⟩
    exact⟨S,_,inv.turn ho hl hE (zM _) rfl rfl rfl (λ _ _ _=>rfl) (λ _ _ _ _=>rfl) inv.prot ⟨hc,hs,.inl rfl⟩ (λ b hb=>by simp[zZ]at hb),hE⟩
   ·by_cases hcap:cap=0
    ·subst hcap
     have hE:Evo S L ow S (L.set o (.row (some ⟨b,o0,none⟩) 0)) (ow.set o (.row true ver sh xs)):=Evo.turn ho hl (Pr.le_refl S) (λ _ h k=>by cases h;cases k) ⟨rfl,zM _,λ _=>⟨rfl,rfl⟩⟩
     exact⟨S,_,inv.turn ho hl hE (zM _) rfl rfl rfl (λ _ _ _=>rfl) (λ _ _ _ _=>rfl) inv.prot ⟨hc,hs,.inl rfl⟩ (λ b hb=>by simp[zZ]at hb),hE⟩
    ·have hle:=zY9 (lo:=o0) (hi:=o0+xs.length*szOf sh) inv.prot hh
     have hblk:∀ s,zZ (.row s ver sh xs) (.row (some ⟨b,o0,none⟩) cap)=[b]:=λ s=>by simp[zZ,hcap]
     have hown:=inv.own o _ _ b ho hl (by rw[hblk sl];simp)
     have hE:Evo S L ow (S.add b o0 (o0+xs.length*szOf sh) cs) (L.set o (.row (some ⟨b,o0,none⟩) cap)) (ow.set o (.row true ver sh xs)) :=
      Evo.turn ho hl hle (λ _ h k=>by cases h;cases k) ⟨rfl,zM _,λ _=>⟨rfl,rfl⟩⟩
     refine⟨_,_,inv.turn ho hl hE (zM _) rfl rfl rfl (λ _ _ _=>rfl) (λ b' j _ hne=>zOa λ e=>hne (by rw[e,hblk sl];simp)) (zRH inv.prot hh)
      ⟨hc,hs,.inr ⟨b,o0,cs,t,rfl,hh,hfit,λ i j hi hj=> ?_⟩⟩ (λ b' hb=> ?_),hE⟩
     ·obtain⟨v,h1,h2,h3,_⟩:=hcell i j hi hj
      refine⟨v,h1,h2,λ x p hx hp=>(h3 x p hx hp).mono hle,λ _=> ?_⟩
      have:i*szOf sh+j<xs.length*szOf sh:=zB1 (by omega:i*szOf sh+j<i*szOf sh+szOf sh) (by rw[<- Nat.succ_mul];exact Nat.mul_le_mul_right _ hi)
      unfold Pr.add
      rw[if_pos ⟨rfl,by omega,by omega⟩]
      exact zKF h1 h2
     ·have e:b' =b:=by rw[hblk true]at hb;exact zBf.1 hb
      subst e
      refine⟨.inr (by rw[hblk sl];simp),hown.2.1,λ j v hv=> ?_⟩
      simp only[mayS,true_and]
      unfold Pr.add at hv
      split at hv
      ·rename_i h;exact h.2.2
      ·have:=hown.2.2 j v hv
       simp only[mayS]at this
       exact this.2
 |map sl es =>
  intro S L inv
  have hltL:o<L.length:=by rw[inv.len];exact(zQ.1 ho).1
  obtain⟨l,hl⟩:∃ l,L[o]? =some l:=⟨L[o],by simp[hltL]⟩
  have hob:=inv.obs o _ _ ho hl
  cases l with
  |grp b rs=>exact hob.elim
  |fix s0 b0 n0 k0=>exact hob.elim
  |row base cap=>exact hob.elim
  |blk b =>
   obtain⟨as,n,h1,h2,hB,h3,h4⟩:=hob
   obtain⟨k1,k2,k3⟩:=inv.own o _ _ b ho hl (by simp[zZ])
   have hmem:=z08 h1
   have hle:S.le (S.addM b (zIt as)):=λ b' j v hv=>by
    unfold Pr.addM
    split
    ·rename_i e;obtain⟨rfl,rfl⟩:=e
     have:=inv.prot _ _ _ hv
     rw[hmem]at this;exact this
    ·exact hv
   have hE:Evo S L ow (S.addM b (zIt as)) (L.set o (.blk b)) (ow.set o (.map true es)):=Evo.turn ho hl hle (λ _ h _=>h) (by trivial)
   simp only[zEl]
   refine⟨_,_,inv.turn ho hl hE (zM _) rfl rfl rfl (λ _ _ _=>rfl) (λ b' j _ hne=> ?_) (λ b' j v hv=> ?_)
    ⟨as,n,h1,h2,hB,λ j e p he hp=>⟨(h3 j e p he hp).1.mono hle,(h3 j e p he hp).2.mono hle⟩,λ _=>by simp[Pr.addM]⟩ (λ b' hb=> ?_),hE⟩
   ·unfold Pr.addM;rw[if_neg (λ e=>hne (by rw[e.1];simp[zZ]))]
   ·unfold Pr.addM at hv
    split at hv
    ·rename_i e;obtain⟨rfl,rfl⟩:=e
     rw[hmem];exact hv
    ·exact inv.prot _ _ _ hv
   ·have e:b' =b:=by simpa [zZ]using hb
    subst e
    refine⟨.inr (by simp[zZ]),k2,λ j v hv=> ?_⟩
    simp only[mayS,true_and]
    unfold Pr.addM at hv
    split at hv
    ·rename_i e;exact e.2
    ·have:=k3 j v hv;simp only[mayS]at this;exact this.2
 |_=>simp only[zEl];rw[zWF ho];exact Gho.refl
theorem Gho.sealAt(o:Nat):Gho w0 w S0 ow (Ab.sealAt ow o):=by
 unfold Ab.sealAt
 cases h:ow[o]? with
 |none=>exact Gho.refl
 |some ob=>exact Gho.shutRow h
theorem zZB{a:AV} {p:PV} {sh:Nat} (h:a.okSh sh=true) (hp:AV.port ow a=some p):p.okSh sh=true:=by
 have hL:∀(cs:List AV) (ps:List PV),AV.portL ow cs=some ps->ps.length=cs.length:=by
  intro cs
  induction cs with
  |nil=>intro ps h;simp only[AV.portL,zE]at h;subst h;rfl
  |cons a r ih =>
   intro ps h
   simp only[AV.portL]at h
   cases h1:AV.port1 ow a with
   |none=>rw[h1]at h;cases h
   |some q =>
    rw[h1]at h
    cases h2:AV.portL ow r with
    |none=>rw[h2]at h;cases h
    |some qs=>rw[h2]at h;simp only[zE]at h;subst h;simp[ih qs h2]
 cases a with
 |pv q=>simp only[AV.port,AV.port1,zE]at hp;subst hp;exact h
 |agg cs =>
  simp only[AV.port]at hp
  cases hc:AV.portL ow cs with
  |none=>rw[hc]at hp;cases hp
  |some ps =>
   rw[hc]at hp
   simp only[zE]at hp
   subst hp
   have e:sh=cs.length+1:=by simpa [AV.okSh]using h
   subst e
   simp[PV.okSh,hL _ _ hc]
 |nil s =>
  have e:sh=0:=by simpa [AV.okSh]using h
  subst e
  simp only[AV.port,AV.port1,zE]at hp;subst hp;rfl
 |sl bb s xs =>
  have e:sh=0:=by simpa [AV.okSh]using h
  subst e
  simp only[AV.port,AV.port1,zE]at hp;subst hp;rfl
 |gm o=>cases hp
 |fx o s=>cases hp
 |fe o i off=>cases hp
 |view o ver s =>
  have e:sh=0:=by simpa [AV.okSh]using h
  subst e
  simp only[AV.port,AV.port1]at hp
  split at hp
  ·cases hb:(ver==_) with
   |false=>rw[hb]at hp;cases hp
   |true=>rw[hb]at hp;simp only[zA,zE]at hp;subst hp;rfl
  ·cases hp
 |own o off =>
  have e:sh=0:=by simpa [AV.okSh]using h
  subst e
  simp only[AV.port,AV.port1]at hp
  split at hp
  ·simp only[zE]at hp;subst hp;rfl
  ·cases hp
 |elem o ver i off=>simp[AV.port,AV.port1]at hp
 |fnv f fs cs=>simp[AV.port,AV.port1]at hp
 |tupA as=>simp[AV.port,AV.port1]at hp
 |mp o =>
  have e:sh=0:=by simpa [AV.okSh]using h
  subst e
  simp only[AV.port,AV.port1]at hp
  split at hp
  ·simp only[zE]at hp;subst hp;rfl
  ·cases hp
theorem Gho.freeze{o sh:Nat} {fz:Bool} {a:AV} {p:PV} (ho:ow[o]? =some (.var fz sh a)) (hp:AV.port ow a=some p):Gho w0 w S0 ow (ow.set o (.var true sh (.pv p))):=by
 intro S L inv
 have hltL:o<L.length:=by rw[inv.len];exact(zQ.1 ho).1
 obtain⟨l,hl⟩:∃ l,L[o]? =some l:=⟨L[o],by simp[hltL]⟩
 have hob:=inv.obs o _ _ ho hl
 cases l with
 |grp b rs=>exact hob.elim
 |fix s0 b0 n0 k0=>exact hob.elim
 |row base cap=>exact hob.elim
 |blk b =>
  obtain⟨cs,t,v,hh,hv,hsh,hcs,_⟩:=hob
  have hown:=inv.own o _ _ b ho hl (by simp[zZ])
  have hle:=zY9 (lo:=0) (hi:=cs.size) inv.prot hh
  have hE:Evo S L ow (S.add b 0 cs.size cs) (L.set o (.blk b)) (ow.set o (.var true sh (.pv p))):=Evo.turn ho hl hle (λ _ h _=>h) trivial
  refine⟨_,_,inv.turn ho hl hE (zM _) rfl rfl rfl (λ _ _ _=>rfl) (λ b' j _ hne=>zOa λ e=>hne (by rw[e];simp[zZ])) (zRH inv.prot hh)
   ⟨cs,t,v,hh,(zQT inv hv hp).mono hle,zZB hsh hp,hcs,λ _=>⟨⟨p,rfl⟩,λ j x hx=> ?_⟩⟩ (λ b' hb=> ?_),hE⟩
  ·have hlt:j<cs.size:=(Array.getElem?_eq_some_iff.1 hx).1
   unfold Pr.add
   rw[if_pos ⟨rfl,Nat.zero_le _,hlt⟩]
   exact zKF hx ((hv.cells hsh).2.1 x (by rw[hcs];exact Array.mem_of_getElem? hx))
  ·have e:b' =b:=by simpa [zZ]using hb
   subst e
   exact⟨.inr (by simp[zZ]),hown.2.1,λ j v hv=>rfl⟩
theorem Gho.sealCells(cs:List AV) (ow:List Ob):Gho w0 w S0 ow (Ab.sealCells cs ow):=by
 induction cs generalizing ow with
 |nil=>exact Gho.refl
 |cons a r ih =>
  cases a<;>simp only[Ab.sealCells]<;>first | exact ih _ | exact(Gho.sealAt _).trans (ih _)
theorem zQc{o o' sh:Nat} {fz:Bool} {a:AV} (h:ow[o]? =some (.var fz sh a)):(Ab.sealAt ow o')[o]? =some (.var fz sh a):=by
 unfold Ab.sealAt
 cases h1:ow[o']? with
 |none=>exact h
 |some ob =>
  by_cases e:o' =o
  ·subst e
   rw[h]at h1
   cases h1
   simp only[zEl]
   rw[zWF h];exact h
  ·simp only;rw[zAr e];exact h
theorem zRS{o sh:Nat} {fz:Bool} {a:AV} (cs:List AV) {ow:List Ob} (h:ow[o]? =some (.var fz sh a)):(Ab.sealCells cs ow)[o]? =some (.var fz sh a):=by
 induction cs generalizing ow with
 |nil=>exact h
 |cons x r ih=>cases x<;>simp only[Ab.sealCells]<;>first | exact ih h | exact ih (zQc h)
theorem zX3{o sh:Nat} {fz:Bool} {a x:AV} (h:ow[o]? =some (.var fz sh a)):(Ab.sealIn x ow)[o]? =some (.var fz sh a):=by
 unfold Ab.sealIn
 cases x<;>first | exact h | exact zQc h | exact zRS _ h
theorem Gho.sealIn(x:AV):Gho w0 w S0 ow (Ab.sealIn x ow):=by
 unfold Ab.sealIn
 cases x<;>first | exact Gho.refl | exact Gho.sealAt _ | exact Gho.sealCells _ _
theorem Gho.sealT(fr:List (Nat×AV)) (m:Nat):Gho w0 w S0 ow (Ab.sealT fr ow m):=by
 unfold Ab.sealT
 cases get fr (m / 2 % 50000)<;>try exact Gho.refl
 ·exact Gho.sealAt _
 rotate_left
 ·exact Gho.sealAt _
 ·rename_i o off
  simp only
  cases h:ow[o]? with
  |none=>exact Gho.refl
  |some ob =>
   cases ob<;>try exact Gho.refl
   rename_i fz sh a
   simp only
   cases (m % 2==0) with
   |true=>exact Gho.sealIn _
   |false =>
    simp only[zC]
    cases hp:AV.port (Ab.sealIn a ow) a with
    |none=>exact Gho.sealIn _
    |some p=>exact(Gho.sealIn a).trans (Gho.freeze (zX3 h) hp)
theorem Gho.sealTs(fr:List (Nat×AV)) (ms:List Nat) (ow:List Ob):Gho w0 w S0 ow (Ab.sealTs fr ms ow):=by
 induction ms generalizing ow with
 |nil=>exact Gho.refl
 |cons m r ih=>exact(Gho.sealT fr m).trans (ih _)
theorem zUm{α:Type} (l r:List α) (x y:α):(l++x::r).set l.length y=l++y::r:=by simp
theorem Gho.sealRows(pre rest:List Ob):Gho w0 w S0 (pre++rest) (pre++rest.map zEl):=by
 induction rest generalizing pre with
 |nil=>exact Gho.refl
 |cons x r ih =>
  have h1:Gho w0 w S0 (pre++x::r) (pre++zEl x::r):=by
   have:=Gho.shutRow (w0:=w0) (w:=w) (S0:=S0) (ow:=pre++x::r) (o:=pre.length) (ob:=x) (by simp)
   rwa [zUm]at this
  have h2:=ih (pre++[zEl x])
  simp only[zAG,List.singleton_append]at h2
  exact h1.trans h2
def Good2(ow ow' :List Ob):Prop:=∀ o:Nat,(∀ ver sh xs,ow[o]? =some (Ob.row true ver sh xs)->ow'[o]? =some (Ob.row true ver sh xs))/\(∀ sh p,ow[o]? =some (Ob.var true sh (.pv p))->ow'[o]? =some (Ob.var true sh (.pv p)))/\(∀ es,ow[o]? =some (Ob.map true es)->ow'[o]? =some (Ob.map true es))
theorem Good2.port1(h:Good2 ow ow') {a:AV} {p:PV} (hp:AV.port1 ow a=some p):AV.port1 ow' a=some p:=by
 cases a<;>simp only[AV.port1]at hp⊢ <;>try exact hp
 ·rename_i o ver s
  split at hp
  ·rename_i ver' sh xs hq
   rw[(h o).1 _ _ _ hq];exact hp
  ·cases hp
 ·rename_i o off
  split at hp
  ·rename_i sh q hq
   rw[(h o).2.1 _ _ hq];exact hp
  ·cases hp
 ·rename_i o
  split at hp
  ·rename_i es hq
   rw[(h o).2.2 _ hq];exact hp
  ·cases hp
theorem Good2.port(h:Good2 ow ow') {a:AV} {p:PV} (hp:AV.port ow a=some p):AV.port ow' a=some p:=by
 have hL:∀(cs:List AV) (ps:List PV),AV.portL ow cs=some ps->AV.portL ow' cs=some ps:=by
  intro cs
  induction cs with
  |nil=>intro ps h;exact h
  |cons a r ih =>
   intro ps h'
   simp only[AV.portL]at h' ⊢
   cases h1:AV.port1 ow a with
   |none=>rw[h1]at h';cases h'
   |some q =>
    rw[h1]at h'
    rw[h.port1 h1]
    cases h2:AV.portL ow r with
    |none=>rw[h2]at h';cases h'
    |some qs=>rw[h2]at h';rw[ih qs h2];exact h'
 cases a with
 |agg cs =>
  simp only[AV.port]at hp ⊢
  cases hc:AV.portL ow cs with
  |none=>rw[hc]at hp;cases hp
  |some ps=>rw[hc]at hp;rw[hL _ _ hc];exact hp
 |pv p=>exact h.port1 (a:= .pv p) hp
 |nil sh=>exact h.port1 (a:= .nil sh) hp
 |sl bb sh xxs=>exact h.port1 (a:= .sl bb sh xxs) hp
 |gm o=>exact h.port1 (a:= .gm o) hp
 |fx o s=>exact h.port1 (a:= .fx o s) hp
 |fe o i off=>exact h.port1 (a:= .fe o i off) hp
 |view o ver s=>exact h.port1 (a:= .view o ver s) hp
 |own o off=>exact h.port1 (a:= .own o off) hp
 |elem o ver i off=>exact h.port1 (a:= .elem o ver i off) hp
 |mp o=>exact h.port1 (a:= .mp o) hp
 |fnv f fs cs=>exact h.port1 (a:= .fnv f fs cs) hp
 |tupA as=>exact h.port1 (a:= .tupA as) hp
theorem Gho.freezeAll(ow0:List Ob) (pre rest:List Ob) (h:Good2 ow0 (pre++rest)):Gho w0 w S0 (pre++rest) (pre++Ab.freezeAll ow0 rest):=by
 induction rest generalizing pre with
 |nil=>exact Gho.refl
 |cons x r ih =>
  have skip:Gho w0 w S0 (pre++x::r) (pre++x::Ab.freezeAll ow0 r):=by
   have h2:=ih (pre++[x]) (by simpa using h)
   simpa using h2
  cases x with
  |var fz sh a =>
   simp only[Ab.freezeAll]
   cases hp:AV.port ow0 a with
   |none=>exact skip
   |some p =>
    simp only
    have h1:Gho w0 w S0 (pre++ .var fz sh a::r) (pre++ .var true sh (.pv p)::r):=by
     have:=Gho.freeze (w0:=w0) (w:=w) (S0:=S0) (ow:=pre++ .var fz sh a::r) (o:=pre.length) (sh:=sh) (fz:=fz) (a:=a) (by simp) (h.port hp)
     rwa [zUm]at this
    have hg:Good2 ow0 ((pre++[.var true sh (.pv p)])++r):=λ o=>by
     have hx:=h o
     by_cases e:o=pre.length
     ·subst e
      refine⟨λ ver sh' xs h3=> ?_,λ sh' q h3=> ?_,λ es h3=> ?_⟩
      ·have:=hx.1 _ _ _ h3;simp at this
      rotate_left
      ·have:=hx.2.2 _ h3;simp at this
      ·have:=hx.2.1 _ _ h3
       simp at this
       obtain⟨_,rfl,rfl⟩:=this
       simp only[AV.port,AV.port1,zE]at hp
       subst hp;simp
     ·have e2:((pre++[.var true sh (.pv p)])++r)[o]? =(pre++ .var fz sh a::r)[o]? :=by
       rw[zAG,List.singleton_append,<-zUm pre r (.var fz sh a),zAr (Ne.symm e)]
      rw[e2];exact hx
    have h2:=ih _ hg
    simp only[zAG,List.singleton_append]at h2
    exact h1.trans h2
  |_=>exact skip
theorem Gho.sealAll(ow:List Ob):Gho w0 w S0 ow (Ab.sealAll ow):=by
 have h1:=Gho.sealRows (w0:=w0) (w:=w) (S0:=S0) [] ow
 have h2:=Gho.freezeAll (w0:=w0) (w:=w) (S0:=S0) (ow.map zEl) [] (ow.map zEl) (λ o=>⟨λ _ _ _ h=>h,λ _ _ h=>h,λ _ h=>h⟩)
 exact Gho.trans h1 h2
theorem Gho.sealFrom(n:Nat) (ow:List Ob):Gho w0 w S0 ow (Ab.sealFrom n ow):=by
 have h1:=Gho.sealRows (w0:=w0) (w:=w) (S0:=S0) (ow.take n) (ow.drop n)
 rw[List.take_append_drop]at h1
 unfold Ab.sealFrom
 generalize ow.take n++(ow.drop n).map zEl=ow1 at h1
 have h2:=Gho.freezeAll (w0:=w0) (w:=w) (S0:=S0) ow1 (ow1.take n) (ow1.drop n) (λ o=>by rw[List.take_append_drop];exact⟨λ _ _ _ h=>h,λ _ _ h=>h,λ _ h=>h⟩)
 rw[List.take_append_drop]at h2
 exact Gho.trans h1 h2
end
end Go.Ab

namespace Go.Ab
open Go.RowKit (Below)
variable [GL:Gl]
section
variable {w0:Base} {w:World} {S0 S:Pr} {L:List Loc} {ow:List Ob}
def late(w0:Base) (w:World) (X:Go.Obj):Base:=⟨w.alloc X,λ b=>¬ w0.old b/\b≠w.heap.size,w0.anc⟩
theorem zIY{X:Go.Obj} {b:Nat}:(late w0 w X).old b↔b<w.heap.size+1/\(w0.old b∨b=w.heap.size):=by
 have e:(w.alloc X).heap.size=w.heap.size+1:=by show(w.heap.push X).size=_;simp
 unfold Base.old late
 rw[e]
 simp only[Classical.not_and_iff_not_or_not,Classical.not_not]
 rfl
theorem Inv.late(inv:Inv w0 S0 S L ow w) (X:Go.Obj):Inv (Ab.late w0 w X) S S L ow (w.alloc X):=by
 have hB:=zDx w X
 have g:=inv.grow hB (Pr.le_refl S) (λ _ _ _=>rfl) (zEw inv X)
 have hsz:=inv.below.size
 exact{
  len:=inv.len
  below:=Stays.refl _
  prot:=g.prot
  old:=λ _ _ _=>rfl
  le:=Pr.le_refl S
  glob:=λ g' X' hg=>by
   obtain⟨h1,h2⟩:=inv.glob g' X' hg
   have hlt:g' <w.heap.size:=zB1 h1.1 hsz
   exact⟨zIY.2 ⟨by omega,.inl h1⟩,by
    show(w.alloc X).heap[g']? =_
    rw[hB.block g' hlt,inv.below.block g' h1,h2]⟩
  anc:=g.anc
  obs:=g.obs
  own:=λ o ob l b ho hl hb=>by
   obtain⟨h1,h2,h3⟩:=g.own o ob l b ho hl hb
   have hb2:=(inv.own o ob l b ho hl hb).2.1
   refine⟨λ h=> ?_,h2,h3⟩
   rcases(zIY.1 h).2 with h | h
   ·exact h1 h
   ·omega
  sep:=g.sep }
theorem Inv.back{w' :World} {S' :Pr} {L' :List Loc} {ow' :List Ob} {X:Go.Obj} (inv:Inv w0 S0 S L ow w) (inv' :Inv (Ab.late w0 w X) S S' L' ow' w'):Inv w0 S0 S' L' ow' w' :=by
 have hB:=zDx w X
 have hsz:=inv.below.size
 have h01:∀ b,w0.old b->(Ab.late w0 w X).old b:=λ b h=>zIY.2 ⟨by have:=h.1;omega,.inl h⟩
 exact{
  len:=inv'.len
  below:={
   os:=inv'.below.os.trans (hB.os.trans inv.below.os)
   tape:=inv'.below.tape.trans (hB.tape.trans inv.below.tape)
   output:=inv'.below.output.trans (hB.output.trans inv.below.output)
   size:=Nat.le_trans hsz (Nat.le_trans hB.size inv'.below.size)
   block:=λ k hk=>(inv'.below.block k (h01 k hk)).trans ((hB.block k (zB1 hk.1 hsz)).trans (inv.below.block k hk)) }
  prot:=inv'.prot
  old:=λ b o h=>(inv'.old b o (h01 b h)).trans (inv.old b o h)
  le:=Pr.le_trans inv.le inv'.le
  glob:=inv.glob
  anc:=inv'.anc
  obs:=inv'.obs
  own:=λ o ob l b ho hl hb=>by
   obtain⟨h1,h2,h3⟩:=inv'.own o ob l b ho hl hb
   exact⟨λ h=>h1 (h01 b h),h2,h3⟩
  sep:=inv'.sep }
theorem Inv.pending{w' :World} {S' :Pr} {L' :List Loc} {ow' :List Ob} {X:Go.Obj} (inv:Inv w0 S0 S L ow w) (inv' :Inv (Ab.late w0 w X) S S' L' ow' w') :
 w'.heap[w.heap.size]? =some X/\w.heap.size<w'.heap.size/\(∀ o,S' w.heap.size o=none)/\¬ w0.old w.heap.size/\∀(o:Nat) (ob:Ob) (l:Loc),ow'[o]? =some ob->L'[o]? =some l->w.heap.size∉zZ ob l:=by
 have hold:(Ab.late w0 w X).old w.heap.size:=zIY.2 ⟨Nat.lt_succ_self _,.inr rfl⟩
 have h1:w'.heap[w.heap.size]? =some X:=by
  rw[inv'.below.block _ hold]
  show(w.heap.push X)[w.heap.size]? =_
  simp
 refine⟨h1,?_,λ o=> ?_,λ h=>absurd h.1 (by have:=inv.below.size;omega),λ o ob l ho hl hb=>(inv'.own o ob l _ ho hl hb).1 hold⟩
 ·rcases Nat.lt_or_ge w.heap.size w'.heap.size with h | h
  ·exact h
  ·rw[Array.getElem?_eq_none h]at h1;cases h1
 ·rw[inv'.old _ o hold]
  cases h:S w.heap.size o with
  |none=>rfl
  |some v=>exact(zJP inv o v h).elim
theorem Inv.adopt{b:Nat} {ob:Ob} {cs cs' :Array Value} {t:TypeId} (inv:Inv w0 S0 S L ow w) (hh:w.heap[b]? =some (.cells cs t (0,0))) (hS:∀ o,S b o=none) (ho:¬ w0.old b)
 (hfree:∀(o:Nat) (ob:Ob) (l:Loc),ow[o]? =some ob->L[o]? =some l->b∉zZ ob l)
 (hob:ObR S (L++[.blk b]) (ow++[ob]) { w with heap:=w.heap.setIfInBounds b (.cells cs' t (0,0)) } ob (.blk b)) (hblk:zZ ob (.blk b)=[b]) :
 Inv w0 S0 S (L++[.blk b]) (ow++[ob]) { w with heap:=w.heap.setIfInBounds b (.cells cs' t (0,0)) }/\Evo S L ow S (L++[.blk b]) (ow++[ob]):=by
 have hE:Evo S L ow S (L++[.blk b]) (ow++[ob]):=Evo.push S L ow inv.len (.blk b) ob
 have hlt:b<w.heap.size:=by
  rcases Nat.lt_or_ge b w.heap.size with h | h
  ·exact h
  ·rw[Array.getElem?_eq_none h]at hh;cases hh
 have hother:∀ k,k≠b->(w.heap.setIfInBounds b (.cells cs' t (0,0)))[k]? =w.heap[k]? :=λ k hk=>Array.getElem?_setIfInBounds_ne (Ne.symm hk)
 have at_:∀ o x,(ow++[ob])[o]? =some x->(ow[o]? =some x/\o<ow.length)∨(o=ow.length/\x=ob):=λ o x hx=>by
  rcases Nat.lt_or_ge o ow.length with h | h
  ·rw[zAW h]at hx;exact .inl ⟨hx,h⟩
  ·rw[zAO h]at hx
   have hlt:=(zQ.1 hx).1
   simp at hlt
   have:o=ow.length:=by omega
   subst this;simp at hx;exact .inr ⟨rfl,hx.symm⟩
 have atL:∀ o x,o<ow.length->(L++[Loc.blk b])[o]? =some x->L[o]? =some x:=λ o x h hx=>by
  rwa [zAW (by rw[inv.len];exact h)]at hx
 have atN:∀ x,(L++[Loc.blk b])[ow.length]? =some x->x= .blk b:=λ x hx=>by
  rw[zAO (by rw[inv.len];exact zM _),inv.len]at hx;simp at hx;exact hx.symm
 refine⟨{
  len:=by simp[inv.len]
  below:=⟨inv.below.os,inv.below.tape,inv.below.output,by simpa using inv.below.size,λ k hk=>(hother k (λ e=>ho (e▸hk))).trans (inv.below.block k hk)⟩
  prot:=λ k o v hv=>by
   have hne:k≠b:=λ e=>by subst e;rw[hS o]at hv;cases hv
   rw[zCk (w:=w) (hother k hne)];exact inv.prot k o v hv
  old:=inv.old
  le:=inv.le
  glob:=inv.glob
  anc:=hE.anc inv.anc
  obs:=λ o x y hx hy=> ?_
  own:=λ o x y k hx hy hb=> ?_
  sep:=λ o o' x x' y y' k hx hy hx' hy' hb hb' => ?_ },hE⟩
 ·rcases at_ o x hx with⟨h,hlt'⟩ | ⟨rfl,rfl⟩
  ·exact(inv.obs o x y h (atL _ _ hlt' hy)).keep hE (λ k hk=>hother k (λ e=>hfree o x y h (atL _ _ hlt' hy) (e▸hk)))
  ·rw[atN _ hy];exact hob
 ·rcases at_ o x hx with⟨h,hlt'⟩ | ⟨rfl,rfl⟩
  ·obtain⟨h1,h2,h3⟩:=inv.own o x y k h (atL _ _ hlt' hy) hb
   exact⟨h1,by simpa using h2,h3⟩
  ·rw[atN _ hy,hblk]at hb
   simp only[zBf]at hb
   subst hb
   exact⟨ho,by simpa using hlt,λ j v hv=>by rw[hS j]at hv;cases hv⟩
 ·rcases at_ o x hx with⟨h,hlt'⟩ | ⟨rfl,rfl⟩<;>rcases at_ o' x' hx' with⟨h',hlt''⟩ | ⟨rfl,rfl⟩
  ·exact inv.sep o o' x x' y y' k h (atL _ _ hlt' hy) h' (atL _ _ hlt'' hy') hb hb'
  ·rw[atN _ hy',hblk]at hb'
   simp only[zBf]at hb'
   subst hb'
   exact absurd hb (hfree o x y h (atL _ _ hlt' hy))
  ·rw[atN _ hy,hblk]at hb
   simp only[zBf]at hb
   subst hb
   exact absurd hb' (hfree o' x' y' h' (atL _ _ hlt'' hy'))
  ·rfl
end
section
variable {P:Program} {c:Cfg} {call:Wf} {own:Hi} {ops:Array Oper}
theorem zSs{R:Type} (l1 l2:List Oper):∀(st:St) (ts:List Nat) (k:St->List Nat->Option R),zE6 c call own ops (l1++l2) st ts k=zE6 c call own ops l1 st ts λ st' ts' =>zE6 c call own ops l2 st' ts' k:=by
 induction l1 with
 |nil=>intro st ts k;rfl
 |cons o r ih =>
  intro st ts k
  simp only[List.cons_append,zE6,ih]
theorem zPB{R:Type} {k:St->List Nat->Option R} {y:R} :
 ∀(rest:List Oper) (idx:List Nat) (st:St) (ts:List Nat),idx.length=rest.length->zE6 c call own ops rest st ts k=some y ->
  ∃(fr' :List (Nat×AV)) (ow' :List Ob) (ts' :List Nat),ts'.length=rest.length/\(∀ t∈ts',t<=2)/\(∀ τ:Nat->Nat,(∀(j t i:Nat),ts'[j]? =some t->idx[j]? =some i->τ i=t)->Tr c call own ops τ (idx.zip rest) st.fr st.ow fr' ow')/\k ⟨fr',ow'⟩ (ts'.reverse++ts)=some y
 | [],[],st,ts,_,h=>⟨st.fr,st.ow,[],rfl,by simp,λ τ _=> .nil _ _ _ rfl,h⟩
 | [],_::_,st,ts,hl,h=>by simp at hl
 |_::_,[],st,ts,hl,h=>by simp at hl
 |o::rest,i::idx,st,ts,hl,h=>by
  obtain⟨fr1,av,ow1,t,he,h1,h2⟩:=zKN h
  obtain⟨fr',ow',ts',hl',hle,h3,h4⟩:=zPB rest idx _ (t::ts) (by simpa using hl) h2
  refine⟨fr',ow',t::ts',by simp[hl'],λ t' ht' => ?_,λ τ hτ=> ?_,by simpa using h4⟩
  ·rcases zAE.1 ht' with rfl | ht'
   ·exact h1.le
   ·exact hle _ ht'
  have:=h3 τ λ j t i hj hi=>hτ (j+1) t i (by simpa using hj) (by simpa using hi)
  have e0:τ i=t:=hτ 0 t i rfl rfl
  rw[List.zip_cons_cons]
  exact .cons i o _ _ _ _ ow1 _ av (by subst e0;exact h1) (this.congr (zIB he.symm) rfl)
def zBq(o:Oper):Nat×TypeId:=((o.dst).getD 0,match o.op with | .alloc t=>t | _=>0)
theorem zEo{o:Oper} (h:zNK own o=true):o.op= .alloc (zBq o).2/\o.dst=some (zBq o).1/\zDF own o=false:=by
 unfold zNK at h
 split at h
 ·rename_i t e
  cases hd:o.dst with
  |none=>rw[hd]at h;cases h
  |some d =>
   rw[hd]at h
   simp only[zF,Bool.not_eq_true']at h
   refine⟨by rw[e];simp[zBq,e],by simp[zBq,hd],h.2⟩
 ·cases h
def putL(c:Cfg):List (Nat×TypeId)->List (Nat×AV)->List Ob->List (Nat×AV)×List Ob
 | [],fr,ow=>(fr,ow)
 |q::r,fr,ow=>putL c r (putD (some q.1) (.own ow.length 0) fr) (ow++[.var false (c.sh q.2) (c.zero q.2)])
theorem zGj:∀(ds:List (Nat×TypeId)) {fr fr' :List (Nat×AV)} (ow:List Ob),get fr=get fr' ->get (putL c ds fr ow).1=get (putL c ds fr' ow).1/\(putL c ds fr ow).2=(putL c ds fr' ow).2
 | [],_,_,_,h=>⟨h,rfl⟩
 |q::r,_,_,ow,h=>zGj r _ (zIB h)
theorem zNR{R:Type} {k:St->List Nat->Option R} {y:R}:∀(os:List Oper),(∀ o∈os,zNK own o=true/\o.guard=none)->∀(st:St) (ts:List Nat),zE6 c call own ops os st ts k=some y ->
 ∃(fr' :List (Nat×AV)) (ts' :List Nat),ts'.length=os.length/\get fr' =get (putL c (os.map zBq) st.fr st.ow).1/\(∀ o∈os,c.known (zBq o).2=true)/\k ⟨fr',(putL c (os.map zBq) st.fr st.ow).2⟩ (ts'.reverse++ts)=some y
 | [],_,st,ts,h=>⟨st.fr,[],rfl,rfl,by simp,h⟩
 |o::os,ho,st,ts,h=>by
  obtain⟨hl,hg⟩:=ho o (by simp)
  obtain⟨e1,e2,e3⟩:=zEo hl
  obtain⟨fr1,av,ow1,t,he,h1,h2⟩:=zKN h
  have hx1:c.known (zBq o).2=true/\av= .own st.ow.length 0/\ow1=st.ow++[.var false (c.sh (zBq o).2) (c.zero (zBq o).2)]:=by
   cases h1 with
   |run _ _ hh _ =>
    unfold opD op1 at hh
    rw[e1]at hh
    simp only at hh
    cases hkn:c.known (zBq o).2 with
    |false=>rw[hkn]at hh;cases hh
    |true =>
     rw[hkn,e3]at hh
     simp only[zAH,zC]at hh
     obtain⟨e1,e2⟩:=zT hh
     exact⟨rfl,e1.symm,e2.symm⟩
   |skip j want hg' _ _ _=>rw[hg]at hg';cases hg'
  obtain⟨hkn,rfl,rfl⟩:=hx1
  obtain⟨fr',ts',hlen,hfr,hkn',hk⟩:=zNR os (λ x hx=>ho x (by simp[hx])) _ _ h2
  rw[e2]at hfr hk
  obtain⟨c1,c2⟩:=zGj (c:=c) (os.map zBq) (st.ow++[.var false (c.sh (zBq o).2) (c.zero (zBq o).2)]) (zIB (dst:=some (zBq o).1) (a:= .own st.ow.length 0) he)
  refine⟨fr',t::ts',by simp[hlen],hfr.trans c1,λ x hx=> ?_,?_⟩
  ·rcases zAE.1 hx with rfl | hx
   ·exact hkn
   ·exact hkn' x hx
  ·simp only[List.reverse_cons,zAG,List.singleton_append]
   simp only[c2]at hk
   exact hk
inductive Pb (w0:Base) (S0:Pr):List (Nat×Nat×Go.Obj)->Base->Pr->Prop
 |nil:Pb w0 S0 [] w0 S0
 |cons {ps:List (Nat×Nat×Go.Obj)} {B:Base} {S1 S:Pr} {L:List Loc} {ow:List Ob} {w:World} (d:Nat) (X:Go.Obj) (h:Pb w0 S0 ps B S1) (inv:Inv B S1 S L ow w):Pb w0 S0 ((d,w.heap.size,X)::ps) (late B w X) S
theorem Pb.out{w0:Base} {S0:Pr} {ps:List (Nat×Nat×Go.Obj)} {B:Base} {S1:Pr} (h:Pb w0 S0 ps B S1):∀{S:Pr} {L:List Loc} {ow:List Ob} {w:World},Inv B S1 S L ow w ->
 Inv w0 S0 S L ow w/\(∀ b,w0.old b->B.old b)/\(∀ q∈ps,w.heap[q.2.1]? =some q.2.2/\(∀ o,S q.2.1 o=none)/\¬ w0.old q.2.1/\∀(o:Nat) (ob:Ob) (l:Loc),ow[o]? =some ob->L[o]? =some l->q.2.1∉zZ ob l) /\
 (∀ q∈ps,∀ q' ∈ps,q.2.1=q'.2.1->q=q'):=by
 induction h with
 |nil=>intro S L ow w inv;exact⟨inv,λ _ h=>h,by simp,by simp⟩
 | @cons ps B1 Sa Sb La owa wa d X h inv1 ih =>
  intro S L ow w inv
  have inv2:=inv1.back inv
  obtain⟨i1,i2,i3,i4⟩:=ih inv2
  obtain⟨k1,k2,k3,k4,k5⟩:=inv1.pending inv
  obtain⟨_,_,j3,_⟩:=ih inv1
  have hne:∀ q∈ps,q.2.1≠wa.heap.size:=λ q hq e=>by
   have:=(j3 q hq).1
   have hlt:=(Array.getElem?_eq_some_iff.1 this).1
   rw[e]at hlt
   exact Nat.lt_irrefl _ hlt
  refine⟨i1,λ b hb=>zIY.2 ⟨by have:=(i2 b hb).1;have:=inv1.below.size;omega,.inl (i2 b hb)⟩,λ q hq=> ?_,λ q hq q' hq' e=> ?_⟩
  ·rcases zAE.1 hq with rfl | hq
   ·exact⟨k1,k3,λ h=>k4 (i2 _ h),k5⟩
   ·exact i3 q hq
  ·rcases zAE.1 hq with rfl | hq<;>rcases zAE.1 hq' with rfl | hq'
   ·rfl
   ·exact absurd e.symm (hne _ hq')
   ·exact absurd e (hne _ hq)
   ·exact i4 q hq q' hq' e
inductive Pn (c:Cfg) (w0:Base) (S0:Pr) (nt:Nat) (ps:List (Nat×Nat×Go.Obj)) (fr:List (Nat×AV)) (ow:List Ob) (a:Act) (w:World):Prop
 |mk (B:Base) (S1 S:Pr) (L:List Loc) (pb:Pb w0 S0 ps B S1) (st:StR c B S1 nt fr ow a w S L) (hp:∀ q∈ps,a.tmps.getD q.1 Go.undef= .pointer (some ⟨q.2.1,0,none⟩))
theorem zRT{a:Act} {dst:Option Tmp} {v:Value} {d:Nat} (h:dst≠some d):(a.put dst v).tmps.getD d Go.undef=a.tmps.getD d Go.undef:=by
 cases dst with
 |none=>rfl
 |some e =>
  have:e≠d:=λ x=>h (by rw[x])
  simp[Act.put,Array.getElem?_setIfInBounds_ne this]
theorem Pn.step{w0:Base} {S0:Pr} {nt:Nat} {ps:List (Nat×Nat×Go.Obj)} {fr:List (Nat×AV)} {ow ow' :List Ob} {a:Act} {w:World} (hT:TyOK P c) (hcall:CallOK P call) (h:Pn c w0 S0 nt ps fr ow a w) {i:Nat} {o:Oper} (ho:ops[i]? =some o)
 (hd:∀ d,o.dst=some d->d<nt) (hne:∀ q∈ps,o.dst≠some q.1) {av:AV} {t:Nat} (h1:OneStep c call own ops o fr ow av ow' t) {K:Act->World->Prop} {Q:Exit->Act->World->Prop}
 (hK:∀ v w',Pn c w0 S0 nt ps (putD o.dst av fr) ow' (a.put o.dst v) w' ->K (a.put o.dst v) w'):wpOp P ops Q i K a w:=by
 cases h with
 |mk B S1 S L pb st hp=>exact zYv hT hcall st ho hd h1 λ v w' S' L' st' _ _=>hK v w' (.mk B S1 S' L' pb st' λ q hq=>by rw[zRT (hne q hq)];exact hp q hq)
theorem z4G{α:Type} {xs:Array α} {i:Nat} {x:α} (h:xs[i]? =some x):xs.setIfInBounds i x=xs:=by
 apply Array.ext_getElem?
 intro j
 by_cases e:i=j
 ·subst e
  obtain⟨hlt,_⟩:=Array.getElem?_eq_some_iff.1 h
  rw[Array.getElem?_setIfInBounds_self_of_lt hlt,h]
 ·rw[Array.getElem?_setIfInBounds_ne e]
def zKy(a:Act) (d:Nat):Nat:=match a.tmps.getD d Go.undef with | .pointer (some p)=>p.block | _=>0
theorem z2J{w0:Base} {S0:Pr} {nt:Nat} {a:Act} {w:World} {S:Pr}:∀(ds:List (Nat×TypeId)) (fr:List (Nat×AV)) (ow:List Ob) (L:List Loc),ds.Pairwise (λ q q' =>zKy a q.1≠zKy a q'.1) ->
 (∀ q∈ds,∃ z,zKf (c.sh q.2) z (c.at_ q.2).zero/\a.tmps.getD q.1 Go.undef= .pointer (some ⟨zKy a q.1,0,none⟩)/\w.heap[zKy a q.1]? =some (.cells z.cells q.2 (0,0))/\(∀ o,S (zKy a q.1) o=none)/\¬ w0.old (zKy a q.1) /\
  ∀(o:Nat) (ob:Ob) (l:Loc),ow[o]? =some ob->L[o]? =some l->zKy a q.1∉zZ ob l) ->
 StR c w0 S0 nt fr ow a w S L->∃ L',StR c w0 S0 nt (putL c ds fr ow).1 (putL c ds fr ow).2 a w S L'
 | [],fr,ow,L,_,_,st=>⟨L,st⟩
 |q::ds,fr,ow,L,hp,hq,st=>by
  have hp2:=List.pairwise_cons.1 hp
  obtain⟨z,hz,ht,k1,k3,k4,k5⟩:=hq q (by simp)
  have inv2:=st.inv
  obtain⟨hva,hvs⟩:=zMU (S:=S) (L:=L) (ow:=ow) hz
  have hE:=Evo.push S L ow inv2.len (.blk (zKy a q.1)) (.var false (c.sh q.2) (c.zero q.2))
  have hw:({ w with heap:=w.heap.setIfInBounds (zKy a q.1) (.cells z.cells q.2 (0,0)) }:World)=w:=by
   rw[z4G k1]
  have:=inv2.adopt (cs' :=z.cells) (ob:= .var false (c.sh q.2) (c.zero q.2)) k1 k3 k4 k5 ⟨z.cells,q.2,z,by rw[hw];exact k1,hE.2 _ _ hva,hvs,rfl,λ hz=>by cases hz⟩ rfl
  rw[hw]at this
  refine z2J ds _ _ (L++[.blk (zKy a q.1)]) hp2.2 (λ q' hq' => ?_) ⟨this.1,λ s=> ?_,st.size,st.defers⟩
  ·obtain⟨z',hz',ht',m1,m3,m4,m5⟩:=hq q' (by simp[hq'])
   refine⟨z',hz',ht',m1,m3,m4,λ o ob l ho hl hb=> ?_⟩
   rcases Nat.lt_or_ge o ow.length with h | h
   ·rw[zAW h]at ho
    rw[zAW (by rw[inv2.len];exact h)]at hl
    exact m5 o ob l ho hl hb
   ·rw[zAO h]at ho
    have hlt:=(zQ.1 ho).1
    simp at hlt
    have e:o=ow.length:=by omega
    subst e
    rw[zAO (by rw[inv2.len];exact zM _),inv2.len]at hl
    simp at ho hl
    subst ho;subst hl
    simp only[zZ,zBf]at hb
    exact hp2.1 q' hq' hb.symm
  ·simp only[putD,zFg]
   by_cases e:q.1=s
   ·subst e
    rw[if_pos rfl,ht]
    exact⟨zKy a q.1,by rw[<- inv2.len];simp,by simp,rfl⟩
   ·rw[if_neg e];exact this.2.2 _ _ (st.frs s)
theorem Tr.join{τ:Nat->Nat} {l1 l2:List (Nat×Oper)} {fr fr1 fr2:List (Nat×AV)} {ow ow1 ow2:List Ob} (h:Tr c call own ops τ l1 fr ow fr1 ow1) (h2:Tr c call own ops τ l2 fr1 ow1 fr2 ow2):Tr c call own ops τ (l1++l2) fr ow fr2 ow2:=by
 induction h with
 |nil fr fr' ow e=>exact h2.congr e.symm rfl
 |cons i o l fr fr' ow ow1 ow' av h ht ih=>exact .cons i o _ _ _ _ ow1 _ av h (ih h2)
theorem Tr.tau{τ τ' :Nat->Nat} {l:List (Nat×Oper)} {fr fr1:List (Nat×AV)} {ow ow1:List Ob} (h:Tr c call own ops τ l fr ow fr1 ow1) (e:∀ q∈l,τ' q.1=τ q.1):Tr c call own ops τ' l fr ow fr1 ow1:=by
 induction h with
 |nil fr fr' ow h=>exact .nil _ _ _ h
 |cons i o l fr fr' ow ow1 ow' av h ht ih=>exact .cons i o l _ _ _ ow1 _ av (by rw[e (i,o) (by simp)];exact h) (ih λ q hq=>e q (by simp[hq]))
theorem zWG:∀(ds:List (Nat×TypeId)) (fr fr' :List (Nat×AV)) (ow:List Ob),(putL c ds fr ow).2=(putL c ds fr' ow).2
 | [],_,_,_=>rfl
 |q::ds,fr,fr',ow=>zWG ds _ _ _
theorem zWH:∀(ds:List (Nat×TypeId)) (fr:List (Nat×AV)) (ow:List Ob) (s:Nat),(∀ q∈ds,q.1≠s)->get (putL c ds fr ow).1 s=get fr s
 | [],_,_,_,_=>rfl
 |q::ds,fr,ow,s,h=>by
  refine(zWH ds _ _ s λ q' hq' =>h q' (by simp[hq'])).trans ?_
  simp only[putD,zFg,if_neg (h q (by simp))]
theorem zSt{dst:Option Tmp} {av:AV}:∀(ds:List (Nat×TypeId)) (fr:List (Nat×AV)) (ow:List Ob),(∀ q∈ds,dst≠some q.1)->get (putL c ds (putD dst av fr) ow).1=get (putD dst av (putL c ds fr ow).1)/\(putL c ds (putD dst av fr) ow).2=(putL c ds fr ow).2
 | [],_,_,_=>⟨rfl,rfl⟩
 |q::ds,fr,ow,h=>by
  have e:get (putD (some q.1) (.own ow.length 0) (putD dst av fr))=get (putD dst av (putD (some q.1) (.own ow.length 0) fr)):=zSr λ d hd x=>h q (by simp) (by rw[x,hd])
  obtain⟨c1,c2⟩:=zGj (c:=c) ds (ow++[.var false (c.sh q.2) (c.zero q.2)]) e
  obtain⟨i1,i2⟩:=zSt (dst:=dst) (av:=av) ds (putD (some q.1) (.own ow.length 0) fr) (ow++[.var false (c.sh q.2) (c.zero q.2)]) λ q' hq' =>h q' (by simp[hq'])
  exact⟨c1.trans i1,c2.trans i2⟩
theorem Tr.float{τ:Nat->Nat} {ds:List (Nat×TypeId)} {l:List (Nat×Oper)} {fr fr1:List (Nat×AV)} {ow ow1:List Ob} (h:Tr c call own ops τ l fr ow fr1 ow1) :
 (∀ q∈l,τ q.1=0/\(∀ d∈ds,d.1∉q.2.looksAt ops)/\∀ d∈ds,q.2.dst≠some d.1)->ow1=ow/\Tr c call own ops τ l (putL c ds fr ow).1 (putL c ds fr ow).2 (putL c ds fr1 ow).1 (putL c ds fr ow).2:=by
 induction h with
 |nil fr fr' ow e =>
  intro _
  exact⟨rfl,.nil _ _ _ (zGj (c:=c) ds ow e).1⟩
 |cons i o l fr fr' ow ow1 ow' av h ht ih =>
  intro hq
  obtain⟨h0,hl,hd⟩:=hq (i,o) (by simp)
  have e:=h.keeps (by rw[h0];decide)
  subst e
  obtain⟨e1,e2⟩:=ih λ q hq' =>hq q (by simp[hq'])
  subst e1
  obtain⟨p1,p2⟩:=zSt (c:=c) (dst:=o.dst) (av:=av) ds fr ow' λ q hq' =>hd q hq'
  refine⟨rfl,.cons i o l _ _ _ (putL c ds fr ow').2 _ av ?_ ?_⟩
  ·refine(h.free h0 (putL c ds fr ow').2).congr λ s hs=>zWH ds fr ow' s λ q hq' e=>hl q hq' (e▸hs)
  ·rw[p2]at e2
   exact e2.congr p1.symm rfl
theorem zNS{n0:Nat}:∀{l:List (Nat×Oper)},(l.Pairwise λ p q=>p.1<q.1)->l=l.filter (λ q=>decide (q.1<n0))++l.filter λ q=>decide (n0<=q.1)
 | [],_=>rfl
 |q::l,h=>by
  have h2:=List.pairwise_cons.1 h
  have ih:=zNS (n0:=n0) h2.2
  by_cases hq:q.1<n0
  ·rw[List.filter_cons_of_pos (by simpa using hq),List.filter_cons_of_neg (by simpa using hq),List.cons_append,<-ih]
  ·have e:l.filter (λ q=>decide (q.1<n0))=[]:=List.filter_eq_nil_iff.2 λ z hz hc=>by
    have:=h2.1 z hz
    have hc:=zAM hc
    omega
   rw[e]at ih
   rw[List.filter_cons_of_neg (by simpa using hq),List.filter_cons_of_pos (by simp;omega),e,List.nil_append]
   rw[List.nil_append]at ih
   rw[<- ih]
theorem z0q{w0:Base} {S0:Pr} {nt:Nat} (hT:TyOK P c) (hcall:CallOK P call) (hok:zRR ops=true) (hd:∀(j:Nat) (o:Oper),ops[j]? =some o->∀ d,o.dst=some d->d<nt) {τ τ' :Nat->Nat} {n0:Nat} {lt:Nat->Bool}
 {ks:List Nat} (hks:∀ i∈ks,i<n0/\lt i=true/\i<ops.size) (hnd:ks.Nodup)
 (hlt:∀(i:Nat) (o:Oper),ops[i]? =some o->lt i=true->zNK own o=true/\o.guard=none/\i∈ks/\∃ z,zKf (c.sh (zBq o).2) z (c.at_ (zBq o).2).zero/\∀(a:Act) (w:World),(execOp a.eval o).run P w= .ok (.value (.pointer (some ⟨w.heap.size,0,none⟩))) (w.alloc (.cells z.cells (zBq o).2)))
 (hdst:∀(i j:Nat) (o x:Oper),ops[i]? =some o->ops[j]? =some x->i≠j->lt j=true->o.dst≠some (zBq x).1)
 (hall:∀ j,n0<=j->j<ops.size->∀ i<j,((Region.before ops).getD j 0).testBit i=true∨(i<n0/\lt i=false/\τ i=0/\∀(o:Oper),ops[i]? =some o->∀ k∈ks,(zBq (opAt ops k)).1∉o.looksAt ops))
 (hτ:∀ i j,i<j->j<n0->lt i=false->lt j=false->τ i=0∨τ j=0∨(τ i=1/\τ j=1)∨((Region.before ops).getD j 0).testBit i=true) (hτ' :∀ i,i<n0->τ' i=0)
 {Q:Exit->Act->World->Prop} {fr1 fr2:List (Nat×AV)} {ow1 ow2:List Ob}
 {TL:List (Nat×Oper)} (htail:Tr c call own ops τ' TL (putL c (ks.map λ i=>zBq (opAt ops i)) fr1 ow1).1 (putL c (ks.map λ i=>zBq (opAt ops i)) fr1 ow1).2 fr2 ow2)
 (hQ:∀ fr'' a w S L,get fr'' =get fr2->StR c w0 S0 nt fr'' ow2 a w S L->Q .normal a w) :
 ∀(m:Nat) (l:List (Nat×Oper)) (listed:Array Bool) (fr:List (Nat×AV)) (ow:List Ob) (a:Act) (w:World) (ps:List (Nat×Nat×Go.Obj)),l.length=m->Left ops listed l->l.filter (λ q=>decide (n0<=q.1))=TL ->
  Tr c call own ops τ (l.filter λ q=>decide (q.1<n0)&& !lt q.1) fr ow fr1 ow1->Pn c w0 S0 nt ps fr ow a w ->
  (∀(j:Nat) (x:Oper),ops[j]? =some x->lt j=true->get fr (zBq x).1= .undef/\(listed.getD j true=true->∃ b z,((zBq x).1,b,.cells z.cells (zBq x).2 (0,0))∈ps/\zKf (c.sh (zBq x).2) z (c.at_ (zBq x).2).zero)) ->
  (∀ q∈ps,∃ j x,ops[j]? =some x/\lt j=true/\q.1=(zBq x).1/\listed.getD j true=true)->wpAny P .any ops Q m listed a w:=by
 have fin:∀(m:Nat) (l:List (Nat×Oper)) (listed:Array Bool) (fr:List (Nat×AV)) (ow:List Ob) (a:Act) (w:World) (ps:List (Nat×Nat×Go.Obj)),l.length=m->Left ops listed l->l.filter (λ q=>decide (n0<=q.1))=TL ->
  Tr c call own ops τ (l.filter λ q=>decide (q.1<n0)&& !lt q.1) fr ow fr1 ow1->Pn c w0 S0 nt ps fr ow a w ->
  (∀(j:Nat) (x:Oper),ops[j]? =some x->lt j=true->get fr (zBq x).1= .undef/\(listed.getD j true=true->∃ b z,((zBq x).1,b,.cells z.cells (zBq x).2 (0,0))∈ps/\zKf (c.sh (zBq x).2) z (c.at_ (zBq x).2).zero)) ->
  (∀ i<n0,listed.getD i true=true∨(lt i=false/\τ i=0/\∀(o:Oper),ops[i]? =some o->∀ k∈ks,(zBq (opAt ops k)).1∉o.looksAt ops))->wpAny P .any ops Q m listed a w:=by
  intro m l listed fr ow a w ps hm hl htl ht hph hps hdone
  have hat:∀ i∈ks,∃ x,ops[i]? =some x/\opAt ops i=x/\lt i=true:=λ i hi=>by
   obtain⟨h1,h2,h5⟩:=hks i hi
   exact⟨ops[i],by simp[h5],by simp[opAt,h5],h2⟩
  have hflt:l.filter (λ q=>decide (q.1<n0)&& !lt q.1)=l.filter λ q=>decide (q.1<n0):=List.filter_congr λ q hq=>by
   by_cases hn:q.1<n0
   ·rcases hdone _ hn with h | ⟨h,_⟩
    ·have:=((hl.mem q.1 q.2).1 hq).2
     rw[h]at this;cases this
    ·rw[h,zD hn];rfl
   ·rw[zL hn];rfl
  rw[hflt]at ht
  obtain⟨eow,ht2⟩:=ht.float (ds:=ks.map λ i=>zBq (opAt ops i)) λ q hq=>by
   obtain⟨hq1,hq2⟩:=zBS.1 hq
   have hqn:=zAM hq2
   obtain⟨hx,hun⟩:=(hl.mem q.1 q.2).1 hq1
   rcases hdone _ hqn with h | ⟨h1,h2,h3⟩
   ·rw[h]at hun;cases hun
   ·refine⟨h2,λ d hd=> ?_,λ d hd=> ?_⟩
    ·obtain⟨i,hi,rfl⟩:=zAh.1 hd
     exact h3 q.2 hx i hi
    ·obtain⟨i,hi,rfl⟩:=zAh.1 hd
     obtain⟨x,hx',ex,hlx⟩:=hat i hi
     rw[ex]
     exact hdst q.1 i q.2 x hx hx' (λ e=>by rw[e,hlx]at h1;cases h1) hlx
  have hsplit:=zNS (n0:=n0) hl.sorted
  rw[htl]at hsplit
  have htl0:=htail
  rw[eow]at htl0
  obtain⟨q1,q2⟩:=zGj (c:=c) (ks.map λ i=>zBq (opAt ops i)) ow (fr:=fr) (fr' :=fr) rfl
  have hsnd:(putL c (ks.map λ i=>zBq (opAt ops i)) fr1 ow).2=(putL c (ks.map λ i=>zBq (opAt ops i)) fr ow).2:=zWG _ _ _ _
  have hjn:=(ht2.tau (τ' :=τ') λ q hq=>by
   obtain⟨hq1,hq2⟩:=zBS.1 hq
   have hqn:=zAM hq2
   obtain⟨hx,hun⟩:=(hl.mem q.1 q.2).1 hq1
   rcases hdone _ hqn with h | ⟨h1,h2,h3⟩
   ·rw[h]at hun;cases hun
   ·rw[hτ' _ hqn,h2]).join (by rw[hsnd]at htl0;exact htl0)
  rw[<- hsplit]at hjn
  ·skip
   cases hph with
   |mk B S1 S L pb st hp =>
    obtain⟨inv,_,h3,h4⟩:=pb.out st.inv
    have hb:∀ i∈ks,∃ z,((zBq (opAt ops i)).1,zKy a (zBq (opAt ops i)).1,.cells z.cells (zBq (opAt ops i)).2 (0,0))∈ps/\zKf (c.sh (zBq (opAt ops i)).2) z (c.at_ (zBq (opAt ops i)).2).zero /\
     a.tmps.getD (zBq (opAt ops i)).1 Go.undef= .pointer (some ⟨zKy a (zBq (opAt ops i)).1,0,none⟩):=λ i hi=>by
     obtain⟨x,hx,ex,hlx⟩:=hat i hi
     obtain⟨_,h6⟩:=hps i x hx hlx
     obtain⟨b,z,h7,h8⟩:=h6 (by
      rcases hdone i (hks i hi).1 with h | ⟨h,_⟩
      ·exact h
      ·rw[hlx]at h;cases h)
     have h9:=hp _ h7
     have e:zKy a (zBq x).1=b:=by unfold zKy;rw[h9]
     rw[ex]
     exact⟨z,by rw[e];exact h7,h8,by rw[e];exact h9⟩
    obtain⟨L',st'⟩:=z2J (c:=c) (w0:=w0) (S0:=S0) (nt:=nt) (a:=a) (w:=w) (S:=S) (ks.map λ i=>zBq (opAt ops i)) fr ow L
     (List.pairwise_map.2 (hnd.imp_of_mem λ{i j} hi hj hij e=>by
      obtain⟨z1,m1,_,_⟩:=hb i hi
      obtain⟨z2,m2,_,_⟩:=hb j hj
      have:=congrArg Prod.fst (h4 _ m1 _ m2 e)
      obtain⟨x,hx,ex,hlx⟩:=hat i hi
      obtain⟨x',hx',ex',hlx'⟩:=hat j hj
      refine hdst i j x x' hx hx' hij hlx' ?_
      rw[ex,ex']at this
      have h10:=(zEo (hlt i x hx hlx).1).2.1
      rw[h10];exact congrArg some this))
     (λ q hq=>by
      obtain⟨i,hi,rfl⟩:=zAh.1 hq
      obtain⟨z,m1,m2,m3⟩:=hb i hi
      obtain⟨n1,n2,n3,n4⟩:=h3 _ m1
      exact⟨z,m2,m3,n1,n2,n3,n4⟩)
     ⟨inv,st.frs,st.size,st.defers⟩
    refine z4F hT hcall hok hd (τ:=τ') (λ i j hij hj=> ?_) hQ m l listed _ _ a w S L' hm hl hjn st'
    rcases Nat.lt_or_ge i n0 with hi | hi
    ·exact .inl (hτ' i hi)
    ·rcases hall j (by omega) hj i hij with h | ⟨h,_⟩
     ·exact .inr (.inr (.inr h))
     ·omega
 intro m
 induction m with
 |zero =>
  intro l listed fr ow a w ps hm hl htl ht hph hps hpq
  refine fin 0 l listed fr ow a w ps hm hl htl ht hph hps λ i hi=> .inl ?_
  have e:=zCJ.1 hm
  subst e
  cases hb:listed.getD i true with
  |true=>rfl
  |false =>
   have hi2:i<ops.size:=by
    rw[<- hl.size]
    rcases Nat.lt_or_ge i listed.size with h | h
    ·exact h
    ·rw[Array.getD_eq_getD_getElem?,Array.getElem?_eq_none h]at hb;cases hb
   have:=(hl.mem i ops[i]).2 ⟨by simp[hi2],hb⟩
   cases this
 |succ m ih =>
  intro l listed fr ow a w ps hm hl htl ht hph hps hpq
  by_cases hdone:∀ i<n0,listed.getD i true=true∨(lt i=false/\τ i=0/\∀(o:Oper),ops[i]? =some o->∀ k∈ks,(zBq (opAt ops k)).1∉o.looksAt ops)
  ·exact fin _ l listed fr ow a w ps hm hl htl ht hph hps hdone
  refine⟨λ hr=> ?_,λ j hj=> ?_⟩
  ·have e:=hl.done hok hr
   subst e
   cases hm
  ·obtain⟨h0,oj,ho,_⟩:=mem_ready.1 hj
   obtain⟨l1,l2,rfl⟩:=List.append_of_mem ((hl.mem j oj).2 ⟨ho,h0⟩)
   have hlen:(l1++l2).length=m:=by simp at hm ⊢;omega
   have hsz:listed.size=ops.size:=hl.size
   have hjs:j<ops.size:=(Array.getElem?_eq_some_iff.1 ho).1
   have hjn:j<n0:=by
    rcases Nat.lt_or_ge j n0 with h | h
    ·exact h
    ·refine absurd (λ i hi=> ?_) hdone
     cases hb:listed.getD i true with
     |true=>exact .inl rfl
     |false =>
      have:=hl.closed.ready hj (zPA hb)
      rcases hall j h hjs i (by omega)with h' | ⟨_,h'⟩
      ·rw[h']at this;cases this
      ·exact .inr h'
   have htl' :(l1++l2).filter (λ q=>decide (n0<=q.1))=TL:=by
    rw[<- htl];simp[List.filter_append,show ¬ n0<=j by omega]
   have hset:(listed.setIfInBounds j true).getD j true=true:=by simp[show j<listed.size by omega]
   have hmono:∀ i,listed.getD i true=true->(listed.setIfInBounds j true).getD i true=true:=λ i hi=>by
    by_cases e:j=i
    ·subst e;exact hset
    ·rw[getD_set_ne true e];exact hi
   cases hlj:lt j with
   |true =>
    obtain⟨hil,hgd,hmk,z,hz,hrun⟩:=hlt j oj ho hlj
    obtain⟨e1,e2,e3⟩:=zEo hil
    cases hph with
    |mk B S1 S L pb st hp =>
     have hfil:(l1++(j,oj)::l2).filter (λ q=>decide (q.1<n0)&& !lt q.1)=(l1++l2).filter λ q=>decide (q.1<n0)&& !lt q.1:=by simp[List.filter_append,hlj]
     rw[hfil]at ht
     unfold wpOp
     simp only[ho]
     have hw:Region.wanted oj (yielded ops a.tmps)=true:=by unfold Region.wanted;rw[hgd]
     rw[if_pos hw]
     refine .inl ?_
     unfold Oper.wp
     rw[hrun a w]
     simp only[Oper.upon]
     have hdn:(zBq oj).1<a.tmps.size:=zB1 (hd j oj ho _ e2) st.size
     have hfresh:∀ q∈ps,oj.dst≠some q.1:=λ q hq e=>by
      obtain⟨j',x',hx',hl',eq',hli'⟩:=hpq q hq
      by_cases ejj:j=j'
      ·subst ejj
       rw[h0]at hli';cases hli'
      ·exact hdst j j' oj x' ho hx' ejj hl' (by rw[e,eq'])
     refine ih (l1++l2) _ fr ow _ _ (((zBq oj).1,w.heap.size,.cells z.cells (zBq oj).2 (0,0))::ps) hlen (hl.take hj) htl' ht (.mk (late B w (.cells z.cells (zBq oj).2 (0,0))) S S L (.cons _ _ pb st.inv) ⟨st.inv.late _,λ s=> ?_,by rw[zRQ];exact st.size,by rw[zM3];exact st.defers⟩ λ q hq=> ?_) (λ i x hx hlx=> ?_) λ q hq=> ?_
     ·by_cases e:(zBq oj).1=s
      ·subst e
       rw[(hps j oj ho hlj).1];exact VP.undef _
      ·have:(a.put oj.dst (.pointer (some ⟨w.heap.size,0,none⟩))).tmps.getD s Go.undef=a.tmps.getD s Go.undef:=zRT (by rw[e2];simpa using e)
       rw[this];exact st.frs s
     ·rcases zAE.1 hq with rfl | hq
      ·rw[e2];simp[Act.put,hdn]
      ·rw[zRT (hfresh q hq)];exact hp q hq
     ·obtain⟨g1,g2⟩:=hps i x hx hlx
      refine⟨g1,λ hli=> ?_⟩
      by_cases ei:j=i
      ·subst ei
       have:=Option.some.inj (ho.symm.trans hx);subst this
       exact⟨w.heap.size,z,by simp,hz⟩
      ·rw[getD_set_ne true ei]at hli
       obtain⟨b,z',h5,h6⟩:=g2 hli
       exact⟨b,z',by simp[h5],h6⟩
     ·rcases zAE.1 hq with rfl | hq
      ·exact⟨j,oj,ho,hlj,rfl,hset⟩
      ·obtain⟨j',x',k1,k2,k3,k4⟩:=hpq q hq
       exact⟨j',x',k1,k2,k3,hmono _ k4⟩
   |false =>
    have hfil:(l1++(j,oj)::l2).filter (λ q=>decide (q.1<n0)&& !lt q.1)=l1.filter (λ q=>decide (q.1<n0)&& !lt q.1)++(j,oj)::l2.filter λ q=>decide (q.1<n0)&& !lt q.1:=by
     simp[List.filter_append,hlj,hjn]
    rw[hfil]at ht
    obtain⟨av,ow2,h1,h2⟩:=ht.front λ q hq=>by
     obtain⟨i,o⟩:=q
     simp only[zBS,zF,Bool.not_eq_true',zU]at hq
     obtain⟨hq,q1,q2⟩:=hq
     have hlt' :i<j:=(List.pairwise_append.1 hl.sorted).2.2 (i,o) hq (j,oj) (by simp)
     obtain⟨hxi,huni⟩:=(hl.mem i o).1 (by simp[hq])
     have hb:=hl.closed.ready hj (zPA huni)
     refine⟨zOz hok hxi ho hlt' hb,?_⟩
     rcases hτ i j hlt' hjn q2 hlj with h | h | h | h
     ·exact .inl h
     ·exact .inr (.inl h)
     ·exact .inr (.inr h)
     ·rw[hb]at h;cases h
    have hne:∀(i:Nat) (x:Oper),ops[i]? =some x->lt i=true->oj.dst≠some (zBq x).1:=λ i x hx hlx=>hdst j i oj x ho hx (λ e=>by subst e;rw[hlj]at hlx;cases hlx) hlx
    refine hph.step hT hcall ho (hd j oj ho) (λ q hq e=> ?_) h1 λ v w' hph' => ?_
    ·obtain⟨j',x',hx',hl',eq',_⟩:=hpq q hq
     exact hne j' x' hx' hl' (by rw[e,eq'])
    refine ih (l1++l2) _ _ _ _ _ ps hlen (hl.take hj) htl' (by rw[List.filter_append];exact h2) hph' (λ i x hx hlx=> ?_) λ q hq=> ?_
    ·obtain⟨g1,g2⟩:=hps i x hx hlx
     refine⟨by rw[zKx λ e he x' =>hne i x hx hlx (by rw[he,x'])];exact g1,λ hli=>g2 ?_⟩
     by_cases ei:j=i
     ·subst ei;rw[hlj]at hlx;cases hlx
     ·rwa [getD_set_ne true ei]at hli
    ·obtain⟨j',x',k1,k2,k3,k4⟩:=hpq q hq
     exact⟨j',x',k1,k2,k3,hmono _ k4⟩
theorem z6U(ops:Array Oper):Left ops (Array.replicate ops.size false) (ops.toList.mapIdx λ j o=>(0+j,o)):=by
 refine⟨by simp,λ i o=> ?_,?_,λ j o ho hl=> ?_⟩
 ·rw[List.mem_mapIdx]
  constructor
  ·rintro⟨j,hj,e⟩
   simp only[zAl,Nat.zero_add]at e
   obtain⟨rfl,rfl⟩:=e
   have:j<ops.size:=by simpa using hj
   simp[this]
  ·rintro⟨h1,_⟩
   obtain⟨h2,h3⟩:=Array.getElem?_eq_some_iff.1 h1
   exact⟨i,by simpa using h2,by simp[h3]⟩
 ·rw[List.pairwise_iff_getElem]
  intro i j hi hj hij
  simpa using hij
 ·simp only[Array.getD_eq_getD_getElem?]at hl
  cases e:(Array.replicate ops.size false)[j]? with
  |none=>rw[e]at hl;simp at hl
  |some b =>
   rw[Array.getElem?_replicate]at e
   split at e
   ·cases e;rename_i h';simp[h']at hl
   ·cases e
theorem zRU:∀(idx ts:List Nat),idx.Nodup->∃ τ:Nat->Nat,(∀ j t i:Nat,ts[j]? =some t->idx[j]? =some i->τ i=t)/\∀ i,i∉idx->τ i=0
 | [],ts,_=>⟨λ _=>0,λ j t i _ h=>by simp at h,λ _ _=>rfl⟩
 |a::idx,[],h=>⟨λ _=>0,λ j t i h _=>by simp at h,λ _ _=>rfl⟩
 |a::idx,t0::ts,h=>by
  have h2:=List.nodup_cons.1 h
  obtain⟨τ,h3,h4⟩:=zRU idx ts h2.2
  refine⟨λ i=>if i=a then t0 else τ i,λ j t i ht hi=> ?_,λ i hi=> ?_⟩
  ·cases j with
   |zero=>simp at ht hi;subst ht;subst hi;simp
   |succ j =>
    simp only[zAq]at ht hi
    have:i≠a:=λ e=>h2.1 (e▸zAV hi)
    simp only[if_neg this];exact h3 j t i ht hi
  ·simp only[zAE,not_or]at hi
   simp only[if_neg hi.1];exact h4 i hi.2
theorem zWI{α:Type} (g:Nat->α):∀ l:List Nat,l.zip (l.map g)=l.map λ i=>(i,g i)
 | []=>rfl
 |a::l=>by simp only[zAX,List.zip_cons_cons,zWI g l]
theorem zWJ(ops:Array Oper) (f:Nat->Bool):(ops.toList.mapIdx λ j o=>(0+j,o)).filter (λ q=>f q.1)=((List.range ops.size).filter f).zip (((List.range ops.size).filter f).map (opAt ops)):=by
 have e:(ops.toList.mapIdx λ j o=>(0+j,o))=(List.range ops.size).map λ i=>(i,opAt ops i):=by
  apply List.ext_getElem?
  intro i
  rw[List.getElem?_mapIdx,zN]
  by_cases h:i<ops.size
  ·rw[List.getElem?_range h];simp[opAt,h]
  ·rw[zGZ (by simpa using h),zGZ (by simpa using h)];rfl
 rw[e,zWI,List.filter_map];rfl
theorem zM6(ops:Array Oper):∀(ks:List Nat) (fr:List (Nat×AV)) (s:Nat),(get (ks.foldl (λ fr i=>putD (opAt ops i).dst .undef fr) fr) s= .undef∨get (ks.foldl (λ fr i=>putD (opAt ops i).dst .undef fr) fr) s=get fr s) /\
 ((get fr s= .undef∨∃ i∈ks,(opAt ops i).dst=some s)->get (ks.foldl (λ fr i=>putD (opAt ops i).dst .undef fr) fr) s= .undef)
 | [],fr,s=>⟨.inr rfl,λ h=>by
  rcases h with h | ⟨i,hi,_⟩
  ·exact h
  ·cases hi⟩
 |i::ks,fr,s=>by
  obtain⟨h1,h2⟩:=zM6 ops ks (putD (opAt ops i).dst .undef fr) s
  have e:get (putD (opAt ops i).dst .undef fr) s= .undef∨get (putD (opAt ops i).dst .undef fr) s=get fr s/\(opAt ops i).dst≠some s:=by
   cases hd:(opAt ops i).dst with
   |none=>exact .inr ⟨rfl,by simp⟩
   |some d =>
    simp only[putD,zFg]
    by_cases hds:d=s
    ·rw[if_pos hds];exact .inl rfl
    ·rw[if_neg hds];exact .inr ⟨rfl,λ x=>hds (Option.some.inj x)⟩
  refine⟨?_,λ h=> ?_⟩
  ·rcases h1 with h1 | h1
   ·exact .inl h1
   ·rcases e with e | e
    ·exact .inl (h1.trans e)
    ·exact .inr (h1.trans e.1)
  ·refine h2 ?_
   rcases e with e | e
   ·exact .inl e
   ·rcases h with h | ⟨j,hj,hdj⟩
    ·exact .inl (e.1.trans h)
    ·rcases zAE.1 hj with rfl | hj
     ·exact absurd hdj e.2
     ·exact .inr ⟨j,hj,hdj⟩
theorem zX4{R:Type} {w0:Base} {S0:Pr} {nt:Nat} (hm:P.follows .mixedOrders=true) (hT:TyOK P c) (hcall:CallOK P call) (hok:zRR ops=true) (hd:zQ9 nt ops.toList=true) {Q:Exit->Act->World->Prop}
 {k:St->List Nat->Option R} {y:R} {id:Nat} {st:St} {a:Act} {w:World} {S:Pr} {L:List Loc} (hst:StR c w0 S0 nt st.fr st.ow a { w with drawn:=w.drawn+1 } S L)
 (h:zE6 c call own ops (zYX own true ops) ⟨zS2 own true ops st.fr,st.ow⟩ [] (λ st' ts=>bif zUW own ops ts.reverse then k st' ts else none)=some y)
 (hQ:∀ st' ts' a' w' S' L',StR c w0 S0 nt st'.fr st'.ow a' w' S' L' ->k st' ts' =some y->Q .normal a' w'):(Code.region id ops true).wp P Q a w:=by
 unfold zYX zS2 zUW at h
 cases hp:zS1 own ops with
 |nil =>
  rw[hp]at h
  exact zZA hm hT hcall hok hd hst h hQ
 |cons i0 kr =>
  rw[hp]at h
  simp only[zA]at h
  have hkl:(i0::kr).length=kr.length+1:=rfl
  have hstat:(List.range ops.size).filter (zNg own ops)=i0::kr/\zOJ own ops (i0::kr)=true:=by
   unfold zS1 at hp
   split at hp
   ·cases hp
   ·cases hs:zOJ own ops ((List.range ops.size).filter (zNg own ops)) with
    |false=>rw[hs]at hp;cases hp
    |true=>rw[hs]at hp;simp only[zA]at hp;rw[hp]at hs;exact⟨hp,hs⟩
  obtain⟨hks,hstat⟩:=hstat
  generalize i0::kr=ks at h hks hstat hkl
  generalize kr.length+1=k0 at h hkl
  subst hkl
  unfold zOJ at hstat
  simp only[zF]at hstat
  obtain⟨⟨s1,s2⟩,s3⟩:=hstat
  have hmem:∀ i,i∈ks↔i<ops.size/\zNg own ops i=true:=λ i=>by rw[<- hks,zBS,List.mem_range]
  have hks1:∀ i∈ks,i+ks.length<ops.size/\(opAt ops i).guard=none:=λ i hi=>by
   have:=zAF.1 s1 i hi
   simp only[zF,zU]at this
   exact⟨this.1,Option.isNone_iff_eq_none.1 this.2⟩
  have hat:∀(i:Nat) (o:Oper),ops[i]? =some o->opAt ops i=o:=λ i o ho=>by simp[opAt,ho]
  rw[zSs]at h
  obtain⟨fr1,ow1,ts1,hlen,hle,htr,hk1⟩:=zPB _ (zNh own ops ks.length) _ _ (by simp) h
  rw[zSs]at hk1
  obtain⟨fr2,ts2,hl2,hfr2,hkn,hk2⟩:=zNR (ks.map (opAt ops)) (λ o ho=>by
   obtain⟨i,hi,rfl⟩:=zAh.1 ho
   exact⟨((hmem i).1 hi).2,(hks1 i hi).2⟩) _ _ hk1
  obtain⟨fr3,ow3,ts3,hlen3,hle3,htr3,hk3⟩:=zPB _ (zO7 ops ks.length) _ _ (by simp) hk2
  cases hdl:zYY own ops ks (ts3.reverse++(ts2.reverse++(ts1.reverse++[]))).reverse with
  |false=>rw[hdl]at hk3;cases hk3
  |true =>
   rw[hdl]at hk3
   simp only[zA]at hk3
   unfold zYY z3v at hdl
   rw[zF]at hdl
   obtain⟨hdl,hdl2⟩:=hdl
   have hdB:∀(j:Nat) (o:Oper),ops[j]? =some o->∀ d,o.dst=some d->d<nt:=λ j o ho d e=>by
    have:=zAF.1 hd o (Array.mem_toList_iff.2 (Array.mem_of_getElem? ho))
    rw[e]at this
    simpa using this
   have hndR:(zNh own ops ks.length).Nodup:=List.nodup_range.filter _
   have hndT:(zO7 ops ks.length).Nodup:=List.nodup_range.filter _
   obtain⟨τ,t1,t2⟩:=zRU (zNh own ops ks.length) ts1 hndR
   obtain⟨τ',u1,u2⟩:=zRU (zO7 ops ks.length) ts3 hndT
   have hTr:=htr τ t1
   have hTr3:=htr3 τ' u1
   have hlR:ts1.length=(zNh own ops ks.length).length:=by rw[hlen];simp
   have hpair:∀ i,i<ops.size-ks.length->zNg own ops i=false->(i,τ i)∈(zNh own ops ks.length).zip (ts3.reverse++(ts2.reverse++(ts1.reverse++[]))).reverse:=λ i hi hl=>by
    have hm:i∈zNh own ops ks.length:=by
     unfold zNh
     rw[zBS,List.mem_range]
     exact⟨by omega,by simp only[zF,zU,hl,Bool.not_false,and_true];omega⟩
    obtain⟨j,hj⟩:=List.mem_iff_getElem?.1 hm
    have hjl:j<ts1.length:=by rw[hlR];exact(zQ.1 hj).1
    have e:=t1 j _ i (zH hjl) hj
    have e2:(ts3.reverse++(ts2.reverse++(ts1.reverse++[]))).reverse=ts1++(ts2++ts3):=by simp
    refine List.mem_iff_getElem?.2 ⟨j,?_⟩
    rw[e2]
    exact List.getElem?_zip_eq_some.2 ⟨hj,by rw[zAW hjl,zH hjl,e]⟩
   refine wp_region_any hm ?_
   refine z0q (own:=own) hT hcall hok hdB (τ:=τ) (τ' :=τ') (n0:=ops.size-ks.length) (lt:=zNg own ops) (ks:=ks) (λ i hi=> ?_) (by rw[<- hks];exact List.nodup_range.filter _) (λ i o ho hl=> ?_) (λ i j o x ho hx hij hl e=> ?_) (λ j h1 h2 i hij=> ?_)
    (λ i j hij hj hi hjl=> ?_) (λ i hi=>u2 i λ hm=> ?_) (fr1:=fr1) (ow1:=ow1) (TL:=(zO7 ops ks.length).zip ((zO7 ops ks.length).map (opAt ops))) ?_ (λ fr'' a w S L hfr h6=>hQ ⟨_,ow3⟩ _ a w S L ⟨h6.inv,h6.frs.same hfr.symm,h6.size,h6.defers⟩ hk3) ops.size _ _ st.ow a _ [] (by simp) (z6U ops) ?_ ?_
    (.mk w0 S0 S L .nil ⟨hst.inv,λ s=> ?_,hst.size,hst.defers⟩ (by simp)) (λ j x hx hl=>⟨?_,λ hc=> ?_⟩) (by simp) (fr:=ks.foldl (λ fr i=>putD (opAt ops i).dst .undef fr) st.fr)
   ·have:=(hks1 i hi).1
    exact⟨by omega,((hmem i).1 hi).2,by omega⟩
   ·have hi:i<ops.size:=(Array.getElem?_eq_some_iff.1 ho).1
    have hik:=(hmem i).2 ⟨hi,hl⟩
    have hla:zNK own o=true:=by rw[<- hat i o ho];exact hl
    obtain⟨z,hz,hzok⟩:=hT.zeroValue (hkn o (zAh.2 ⟨i,hik,hat i o ho⟩))
    exact⟨hla,by rw[<- hat i o ho];exact(hks1 i hik).2,hik,z,hzok,λ a w=>by simp[execOp,(zEo hla).1,Instr.alloc,hz,hT.newVar]⟩
   ·have hj:j<ops.size:=(Array.getElem?_eq_some_iff.1 hx).1
    have hi:i<ops.size:=(Array.getElem?_eq_some_iff.1 ho).1
    have h1:=zAF.1 s3 j (List.mem_range.2 hj)
    rw[hl]at h1
    simp only[zAH,Bool.false_or]at h1
    have h2:=zAF.1 h1 i (List.mem_range.2 hi)
    have hla:zNK own x=true:=by rw[<- hat j x hx];exact hl
    rw[hat i o ho,hat j x hx,e,(zEo hla).2.1]at h2
    simp only[zFM,beq_iff_eq,Bool.not_eq_true',zBj,Bool.true_eq_false,or_false]at h2
    exact hij h2.symm
   ·have h3:=zAF.1 s2 j (List.mem_range.2 h2)
    rw[zL (by omega),Bool.false_or]at h3
    have h4:=zAF.1 h3 i (List.mem_range.2 hij)
    rw[zFM,zF,zU,Bool.not_eq_true']at h4
    rcases h4 with h4 | ⟨h4,h5⟩
    ·exact .inl h4
    ·have h6:=zAF.1 hdl2 _ (hpair i (by omega) h5)
     unfold zVr at h6
     rw[zFM,zF,beq_iff_eq]at h6
     rcases h6 with h6 | ⟨h6,h7⟩
     ·refine .inl (zAF.1 h6 j ?_)
      unfold zO7
      rw[zBS,List.mem_range]
      exact⟨h2,by rw[zL (by omega)];rfl⟩
     ·refine .inr ⟨by omega,h5,h6,λ o ho k hk hm=> ?_⟩
      have h8:=zAF.1 h7 k hk
      have hla:=zEo ((hmem k).1 hk).2
      rw[hla.2.1,hat i o ho]at h8
      simp only[Bool.not_eq_true']at h8
      rw[List.contains_iff_mem.2 hm]at h8
      cases h8
   ·have h3:=zAF.1 (zAF.1 hdl _ (hpair i (by omega) hi)) _ (hpair j hj hjl)
    simp only[zFM,zF,beq_iff_eq,Bool.not_eq_true',decide_eq_false_iff_not]at h3
    rcases h3 with(((h3 | h3) | h3) | h3) | h3
    ·exact absurd hij h3
    ·exact .inl h3
    ·exact .inr (.inl h3)
    ·exact .inr (.inr (.inl h3))
    ·exact .inr (.inr (.inr h3))
   ·unfold zO7 at hm
    rw[zBS]at hm
    have:=hm.2
    simp only[Bool.not_eq_true',decide_eq_false_iff_not]at this
    omega
   ·have:=zGj (c:=c) (ks.map λ i=>zBq (opAt ops i)) ow1 (fr:=fr1) (fr' :=fr1) rfl
    have e:(ks.map (opAt ops)).map zBq=ks.map λ i=>zBq (opAt ops i):=by rw[List.map_map];rfl
    rw[e]at hfr2 hTr3
    exact hTr3.congr hfr2.symm rfl
   ·have e:=zWJ ops λ i=>decide (ops.size-ks.length<=i)
    rw[e]
    have:(List.range ops.size).filter (λ i=>decide (ops.size-ks.length<=i))=zO7 ops ks.length:=by
     unfold zO7
     refine List.filter_congr λ i hi=> ?_
     have:=List.mem_range.1 hi
     by_cases h:i+ks.length<ops.size
     ·rw[zD h,zL (by omega)];rfl
     ·rw[zL h,zD (by omega)];rfl
    rw[this]
   ·have e:=zWJ ops λ i=>decide (i<ops.size-ks.length)&& !zNg own ops i
    rw[e]
    have:(List.range ops.size).filter (λ i=>decide (i<ops.size-ks.length)&& !zNg own ops i)=zNh own ops ks.length:=by
     unfold zNh
     refine List.filter_congr λ i hi=> ?_
     have:=List.mem_range.1 hi
     by_cases h:i+ks.length<ops.size
     ·rw[zD h,zD (by omega)]
     ·rw[zL h,zL (by omega)]
    rw[this]
    exact hTr
   ·rcases(zM6 ops ks st.fr s).1 with h | h
    ·rw[h];exact VP.undef _
    ·rw[h];exact hst.frs s
   ·have hj:j<ops.size:=(Array.getElem?_eq_some_iff.1 hx).1
    have hla:zNK own x=true:=by rw[<- hat j x hx];exact hl
    exact(zM6 ops ks st.fr _).2 (.inr ⟨j,(hmem j).2 ⟨hj,hl⟩,by rw[hat j x hx];exact(zEo hla).2.1⟩)
   ·have hj:j<ops.size:=(Array.getElem?_eq_some_iff.1 hx).1
    simp[hj]at hc
end
end Go.Ab
