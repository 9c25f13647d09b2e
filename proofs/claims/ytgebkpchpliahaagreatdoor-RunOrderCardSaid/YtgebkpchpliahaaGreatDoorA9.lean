/- Part 10 of the proof: an abstract machine that runs the program's code over plain values, its soundness, and what the functions tell of plain values. Conditions: those in each theorem. -/
import Derived.Test.YtgebkpchpliahaaGreatDoorA8
import Derived.OpenShut
import Derived.ShutString
import Derived.WideShapes
import Derived.DataReads
set_option linter.unusedSectionVars false
set_option linter.unusedVariables false
set_option linter.unusedSimpArgs false
noncomputable section
namespace Go.Ab
open Go.WideShapes Go.RowKit
variable [GL:Gl]
inductive Typed (c:Cfg):TypeId->PV->Prop
 |int (t:TypeId) (k:IntKind) (n:Int) (h:(c.at_ t).k= .int k) (hw:(Lit.int k n).wf=true):Typed c t (.int k n)
 |bool (t:TypeId) (b:Bool) (h:(c.at_ t).k= .bool):Typed c t (.bool b)
 |str (t:TypeId) (s:ByteArray) (h:(c.at_ t).k= .str) (hs:s.size<=maxLen):Typed c t (.str s)
 |slice (t e:TypeId) (xs:List PV) (h:(c.at_ t).k= .slice e) (hl:xs.length<=maxLen) (hx:∀ x∈xs,Typed c e x):Typed c t (.slice (c.sh e) xs)
 |struct (t:TypeId) (fs:List (TypeId×Nat)) (ps:List PV) (h:(c.at_ t).k= .struct fs) (hl:ps.length=fs.length)
  (hp:∀(i:Nat) (f:TypeId×Nat) (p:PV),fs[i]? =some f->ps[i]? =some p->Typed c f.1 p):Typed c t (.agg (ps.flatMap PV.cells))
 |arr (t e:TypeId) (n:Nat) (ps:List PV) (h:(c.at_ t).k= .arr n e) (hl:ps.length=n) (hp:∀ p∈ps,Typed c e p):Typed c t (.agg (ps.flatMap PV.cells))
def zLf(c:Cfg):List (TypeId×Nat)->Nat->Nat->Bool
 | [],off,tot=>off==tot
 |f::r,off,tot=>f.2==off&&zLf c r (off+szOf (c.sh f.1)) tot
def z0x(c:Cfg) (ts:List TypeId):Bool:=ts.all λ t=>match (c.at_ t).k with
 | .bool=>true
 | .int _=>true
 | .str=>true
 | .slice e=>ts.contains e
 | .struct fs=>fs.all (λ f=>ts.contains f.1)&&zLf c fs 0 (c.at_ t).sz
 | .arr n e=>ts.contains e&&(c.at_ t).sz==n*szOf (c.sh e)
 |_=>false
theorem zPD{α:Type} {Q:Nat->α->Prop}:∀ n,(∀ i,i<n->∃ y,Q i y)->∃ ys:List α,ys.length=n/\∀ j p,ys[j]? =some p->Q j p
 | 0,_=>⟨[],rfl,λ j p h=>by simp at h⟩
 |n+1,h=>by
  obtain⟨ys,hl,hy⟩:=zPD n (λ i hi=>h i (by omega))
  obtain⟨y,hq⟩:=h n (by omega)
  refine⟨ys++[y],by simp[hl],λ j p hj=> ?_⟩
  rcases Nat.lt_or_ge j ys.length with hlt | hge
  ·rw[zAW hlt]at hj
   exact hy j p hj
  ·have hlt:=(zQ.1 hj).1
   simp only[zAK,List.length_singleton]at hlt
   have hjn:j=n:=by omega
   rw[zAO hge,hjn,hl,Nat.sub_self]at hj
   have:y=p:=by simpa using hj
   rw[hjn,<-this]
   exact hq
def memP(w:World):Pr:=λ b o=>memV w b o
theorem zZJ{w:World} {b o:Nat} {v:Value} (h:memP w b o=some v):memV w b o=some v:=h
def zRW(S:Pr) (c:Cfg) (t:TypeId) (cs:List Value) (p:PV):Prop :=
 p.okSh (c.sh t)=true/\cs.length=szOf (c.sh t)/\(∀ v∈cs,v.oneCell' =true)/\∀(j:Nat) (v:Value) (q:PV),cs[j]? =some v->p.cells[j]? =some q->VP S v q
section
variable {H:Type} {enc:TypeId×Value->H} {P:Program} {c:Cfg} {W:World} {base:Nat} {spare:Nat->Bool} {held:Bool}
theorem TyOK.cellsOf(hT:TyOK P c) {t:TypeId} (hk:c.known t=true):P.cellsOf t=szOf (c.sh t):=by
 obtain⟨i,h1,h2,_⟩:=hT.info t hk
 simp[Program.cellsOf,h1,h2]
theorem zGx{S:Pr} {t:TypeId} {v:Value} {p:PV} (hs:c.sh t=0) (hp:p.okSh 0=true) (h1:v.oneCell' =true) (hc:p.cells=[p]) (h:VP S v p):zRW S c t [v] p:=by
 refine⟨by rw[hs];exact hp,by rw[hs];rfl,by simpa using h1,λ j u q hu hq=> ?_⟩
 rw[hc]at hq
 cases j with
 |zero=>simp at hu hq;subst hu;subst hq;exact h
 |succ j=>simp at hu
theorem zZK{w:World} {a:Addr} {v:Value} (h:w.cell? a=some v):a=⟨a.block,a.off,none⟩:=by
 obtain⟨b,o,s⟩:=a
 unfold World.cell? at h
 split at h
 ·cases s with
  |none=>rfl
  |some x=>simp at h
 ·cases h
theorem zPE(hT:TyOK P c) {S:Pr} {cs:List Value}:∀{fs:List (TypeId×Nat)} {off tot:Nat},zLf c fs off tot=true->cs.length=tot ->
 (∀(i:Nat) (f:TypeId×Nat),fs[i]? =some f->c.known f.1=true/\∃ p,Typed c f.1 p/\zRW S c f.1 ((cs.drop f.2).take (szOf (c.sh f.1))) p) ->
 off<=tot/\∃ ps:List PV,ps.length=fs.length/\(∀(i:Nat) (f:TypeId×Nat) (p:PV),fs[i]? =some f->ps[i]? =some p->Typed c f.1 p)/\(ps.flatMap PV.cells).length=tot-off /\
  (∀ v∈cs.drop off,v.oneCell' =true)/\∀(j:Nat) (v:Value) (q:PV),(cs.drop off)[j]? =some v->(ps.flatMap PV.cells)[j]? =some q->VP S v q
 | [],off,tot,hc,hl,h=>by
  have e:off=tot:=by simpa [zLf]using hc
  subst e
  refine⟨zM _,[],rfl,λ i f p h=>by simp at h,by simp,λ v hv=> ?_,λ j v q _ hq=>by simp at hq⟩
  rw[List.drop_of_length_le (by omega)]at hv;cases hv
 |f::fs,off,tot,hc,hl,h=>by
  simp only[zLf,zF,beq_iff_eq]at hc
  obtain⟨e,hc⟩:=hc
  obtain⟨hk,p,hp,hok,hlen,h1,hv⟩:=h 0 f rfl
  obtain⟨hle,ps,k1,k2,k3,k4,k5⟩:=zPE hT hc hl (λ i g hi=>h (i+1) g (by simpa using hi))
  subst e
  have hpl:p.cells.length=szOf (c.sh f.1):=PV.cells_len hok
  have hsplit:cs.drop f.2=(cs.drop f.2).take (szOf (c.sh f.1))++cs.drop (f.2+szOf (c.sh f.1)):=by
   rw[<- List.drop_drop];exact(List.take_append_drop _ _).symm
  refine⟨by omega,p::ps,by simp[k1],λ i g q hi hq=> ?_,?_,λ v hm=> ?_,λ j v q hj hq=> ?_⟩
  ·cases i with
   |zero=>simp at hi hq;subst hi;subst hq;exact hp
   |succ i=>exact k2 i g q (by simpa using hi) (by simpa using hq)
  ·simp only[zC2,zAK,k3,hpl];omega
  ·rw[hsplit,List.mem_append]at hm
   rcases hm with hm | hm
   ·exact h1 v hm
   ·exact k4 v hm
  ·simp only[zC2]at hq
   rw[hsplit]at hj
   rcases Nat.lt_or_ge j (szOf (c.sh f.1))with hlt | hge
   ·rw[zAW (by rw[hlen];exact hlt)]at hj
    rw[zAW (by rw[hpl];exact hlt)]at hq
    exact hv j v q hj hq
   ·rw[zAO (by rw[hlen];exact hge),hlen]at hj
    rw[zAO (by rw[hpl];exact hge),hpl]at hq
    exact k5 _ v q hj hq
theorem zQg(c:Cfg) (e:TypeId):∀(m k:Nat),zLf c ((List.range' k m).map λ i=>(e,i*szOf (c.sh e))) (k*szOf (c.sh e)) ((k+m)*szOf (c.sh e))=true
 | 0,k=>by simp[zLf]
 |m+1,k=>by
  rw[List.range'_succ,zAX]
  have h:=zQg c e m (k+1)
  rw[zAw k 1,Nat.one_mul,show k+1+m=k+(m+1) by omega]at h
  simp only[zLf,zF,beq_iff_eq,true_and]
  exact h
theorem z3E(hT:TyOK P c) {ts:List TypeId} (hd:z0x c ts=true):∀(fuel:Nat) (t:TypeId) (cs:List Value) (x:DataW H×List MemPlace),t∈ts->DataW.trod enc P W base spare held fuel t cs=some x ->
 ∃ p,Typed c t p/\zRW (memP W) c t cs p:=by
 intro fuel
 induction fuel using Nat.strongRecOn with
 |ind fuel ih =>
  intro t cs x ht hx
  have h1:=zAF.1 hd t ht
  have hK:=hT.kind t
  cases hk:(c.at_ t).k<;>rw[hk]at h1 hK<;>simp only at h1 hK<;>try (cases h1;done)
  ·obtain⟨b,rfl,_⟩:=DataW.trod_bool hK hx
   exact⟨.bool b,.bool t b hk,zGx (by unfold Cfg.sh;rw[hk]) rfl rfl rfl (VP.bool b)⟩
  ·rename_i k
   obtain⟨n,rfl,_,hw⟩:=DataW.trod_int hK hx
   exact⟨.int k n,.int t k n hk hw,zGx (by unfold Cfg.sh;rw[hk]) rfl rfl rfl (VP.int k n)⟩
  ·obtain⟨s,rfl,_,hw⟩:=DataW.trod_string hK hx
   exact⟨.str s,.str t s hk hw,zGx (by unfold Cfg.sh;rw[hk]) rfl rfl rfl (VP.str s)⟩
  ·rename_i e
   have hke:=hK.2
   have hsz:=hT.cellsOf hke
   have he:e∈ts:=by simpa using h1
   have hpos:0<szOf (c.sh e):=by obtain⟨i,_,_,_,h,_⟩:=hT.info e hke;exact h
   rcases DataW.trod_slice hK.1 hx with⟨rfl,_⟩ | ⟨a,len,cap,elems,rest,n,hn,rfl,_,_,hl,hm,hlen,hel,_,_⟩
   ·exact⟨.slice (c.sh e) [],.slice t e [] hk (by simp) (by simp),zGx (by unfold Cfg.sh;rw[hk]) rfl rfl rfl
     (VP.slice none 0 0 (c.sh e) [] 0 0 (λ _ _=>undef) rfl (zM _) (λ h=>absurd h (Nat.lt_irrefl _)) (by simp) (λ i j hi=>absurd hi (Nat.not_lt_zero _)) (λ i j x p hx=>by simp at hx))⟩
   ·obtain⟨ys,hyl,hy⟩:=zPD (Q:=λ i y=>Typed c e y/\∃ cc:List Value,zRW (memP W) c e cc y/\∀ q,q<szOf (c.sh e)->W.cell? (a.add (i*szOf (c.sh e)+q))=cc[q]?) len (λ i hi=>by
     have h1:=hel i hi
     rw[zH (by omega)]at h1
     obtain⟨cc,hc,htr⟩:=zJ.1 h1
     obtain⟨y,hty,hK⟩:=ih n (by omega) e cc _ he htr
     obtain⟨_,hcl,hcc⟩:=World.cells?_some hc
     refine⟨y,hty,cc,hK,λ q hq=> ?_⟩
     have:=hcc q (by rw[hsz];exact hq)
     rw[hsz]at this
     rw[show a.add (i*szOf (c.sh e)+q)=(a.add (i*szOf (c.sh e))).add q from(Addr.add_add _ _ _).symm]
     exact this)
    have ha:0<len->a=⟨a.block,a.off,none⟩:=λ h0=>by
     obtain⟨y,hy0⟩:∃ y,ys[0]? =some y:=⟨ys[0]'(by omega),by simp⟩
     obtain⟨_,cc,⟨_,hl2,_⟩,hcc⟩:=hy 0 y hy0
     have:=hcc 0 hpos
     rw[zH (by omega)]at this
     have:=zZK this
     simp[Addr.add]at this
     obtain⟨b,o,s⟩:=a
     simp at this
     rw[this]
    have hcell:∀(i j:Nat),i<len->j<szOf (c.sh e)->∃ v,memP W a.block (a.off+i*szOf (c.sh e)+j)=some v/\v.oneCell' =true/\∀(x p:PV),ys[i]? =some x->x.cells[j]? =some p->VP (memP W) v p:=λ i j hi hj=>by
     obtain⟨y,hyi⟩:∃ y,ys[i]? =some y:=⟨ys[i]'(by omega),by simp⟩
     obtain⟨_,cc,⟨_,hl2,ho,hv⟩,hcc⟩:=hy i y hyi
     have h3:=hcc j hj
     rw[zH (by omega)]at h3
     have hadd:a.add (i*szOf (c.sh e)+j)=⟨a.block,a.off+i*szOf (c.sh e)+j,none⟩:=by
      have:=ha (by omega)
      rw[this,Addr.add_lit]
      simp only[Addr.mk.injEq,true_and,and_true];omega
     rw[hadd]at h3
     refine⟨_,zY6 h3 (ho _ (zAC _)),ho _ (zAC _),λ x p hx hp=> ?_⟩
     rw[hyi]at hx;cases hx
     exact hv j _ p (zH _) hp
    refine⟨.slice (c.sh e) ys,.slice t e ys hk (by omega) (λ y hmem=> ?_),zGx (by unfold Cfg.sh;rw[hk]) rfl rfl rfl ?_⟩
    ·obtain⟨j,hj,rfl⟩:=List.mem_iff_getElem.1 hmem
     exact(hy j _ (zH hj)).1
    ·refine VP.slice (some a) len cap (c.sh e) ys a.block a.off (λ i j=>(memP W a.block (a.off+i*szOf (c.sh e)+j)).getD undef) hyl hl (λ h0=>congrArg some (ha h0)) (λ y hmem=> ?_) (λ i j hi hj=> ?_) (λ i j x p hx hp=> ?_)
     ·obtain⟨j,hj,rfl⟩:=List.mem_iff_getElem.1 hmem
      obtain⟨_,cc,h5,_⟩:=hy j _ (zH hj)
      exact h5.1
     ·obtain⟨v,h3,h4,_⟩:=hcell i j hi hj
      rw[h3];exact⟨rfl,h4⟩
     ·have hi:i<len:=by rw[<- hyl];exact(zQ.1 hx).1
      obtain⟨_,cc,h5,_⟩:=hy i x hx
      have hj:j<szOf (c.sh e):=by rw[<- PV.cells_len h5.1];exact(zQ.1 hp).1
      obtain⟨v,h3,h4,h6⟩:=hcell i j hi hj
      rw[h3];exact h6 x p hx hp
  ·rename_i n e
   simp only[zF,beq_iff_eq]at h1
   obtain⟨hin,hsz⟩:=h1
   obtain⟨hu,hke⟩:=hK
   obtain⟨xs,m,hn,_,hl,hxl,hf⟩:=DataW.trod_array hu hx
   have hkt:c.known t=true:=by unfold Cfg.known;rw[hk]
   have hsh:c.sh t=(c.at_ t).sz+1:=by unfold Cfg.sh;rw[hk]
   have hlen:cs.length=(c.at_ t).sz:=by rw[hl,hT.cellsOf hkt,hsh];rfl
   have hcont:zLf c ((List.range' 0 n).map λ i=>(e,i*szOf (c.sh e))) 0 (c.at_ t).sz=true:=by
    have:=zQg c e n 0
    rw[Nat.zero_mul,Nat.zero_add]at this
    rw[hsz];exact this
   obtain⟨_,ps,k1,k2,k3,k4,k5⟩:=zPE hT (S:=memP W) (cs:=cs) hcont hlen (λ i f hi=>by
    rw[zN]at hi
    obtain⟨q,hq,rfl⟩:=Option.map_eq_some_iff.1 hi
    have hin' :i<n:=by have:=(zQ.1 hq).1;simpa using this
    rw[List.getElem?_range' (by simpa using hin')]at hq
    simp only[Nat.zero_add,Nat.one_mul,zE]at hq;subst hq
    have h2:=hf i hin'
    rw[zH (by omega),hT.cellsOf hke]at h2
    exact⟨hke,ih m (by omega) e _ _ (by simpa using hin) h2⟩)
   have hpl:ps.length=n:=by simpa using k1
   refine⟨_,.arr t e n ps hk hpl (λ p hp=> ?_),?_,by rw[hsh,hlen];rfl,by simpa using k4,λ j v q hv hq=>k5 j v q (by simpa using hv) hq⟩
   ·obtain⟨i,hi,rfl⟩:=List.mem_iff_getElem.1 hp
    exact k2 i (e,i*szOf (c.sh e)) _ (by
     rw[zN,List.getElem?_range' (by omega)]
     simp) (zH hi)
   ·rw[hsh]
    simpa [PV.okSh]using k3
  ·rename_i fs
   simp only[zF]at h1
   obtain⟨hin,hcont⟩:=h1
   obtain⟨fds,hu,hfd,_,hkn⟩:=hK
   obtain⟨xs,n,hn,_,hl,hxl,hf⟩:=DataW.trod_struct hu hx
   have hkt:c.known t=true:=by unfold Cfg.known;rw[hk]
   have hsh:c.sh t=(c.at_ t).sz+1:=by unfold Cfg.sh;rw[hk]
   have hlen:cs.length=(c.at_ t).sz:=by rw[hl,hT.cellsOf hkt,hsh];rfl
   obtain⟨_,ps,k1,k2,k3,k4,k5⟩:=zPE hT (S:=memP W) (cs:=cs) hcont hlen (λ i f hi=>by
    have hm:=zAV hi
    have hkf:=(hkn f hm).1
    rw[<- hfd,zN]at hi
    obtain⟨fd,hfi,rfl⟩:=Option.map_eq_some_iff.1 hi
    have hfi' :fds[i]? =some fd:=by simpa using hfi
    have h2:=hf i fd hfi'
    have hlt:i<xs.length:=by have:=(Array.getElem?_eq_some_iff.1 hfi').1;omega
    rw[zH hlt]at h2
    refine⟨hkf,?_⟩
    have hmem:fd.type∈ts:=by
     have:=zAF.1 hin (fd.type,fd.offset) hm
     simpa using this
    rw[hT.cellsOf hkf]at h2
    exact ih n (by omega) fd.type _ _ hmem h2)
   refine⟨_,.struct t fs ps hk k1 k2,?_,by rw[hsh,hlen];rfl,by simpa using k4,λ j v q hv hq=>k5 j v q (by simpa using hv) hq⟩
   rw[hsh]
   simpa [PV.okSh]using k3
theorem zJW(hT:TyOK P c) {ts:List TypeId} (hd:z0x c ts=true) {t:TypeId} (ht:t∈ts) {r:Reach} {b0:Nat} {v:Value} {d:DataW H} {ps:List MemPlace} (hval:Value.okWide P W r b0 t v)
 (h:DataW.Trod enc P W base spare held t v d ps):∃ p,Typed c t p/\VP (memP W) v p:=by
 obtain⟨fuel,hf⟩:=h
 obtain⟨p,hp,hok,hl,h1,hv⟩:=z3E hT hd fuel t _ _ ht hf
 refine⟨p,hp,?_⟩
 have hK:=hT.kind t
 have one:∀ u,v=u->u.cells= #[u]->p.cells=[p]->VP (memP W) v p:=λ u e hu hc=>by
  subst e
  refine hv 0 v p ?_ (by rw[hc];rfl)
  rw[hu];rfl
 cases hp with
 |int _ k n h =>
  rw[h]at hK
  obtain⟨n',rfl⟩:=okWide_int hK hval
  exact one _ rfl rfl rfl
 |bool _ b h =>
  rw[h]at hK
  obtain⟨n',rfl⟩:=okWide_bool hK hval
  exact one _ rfl rfl rfl
 |str _ s h =>
  rw[h]at hK
  obtain⟨n',rfl⟩:=okWide_string hK hval
  exact one _ rfl rfl rfl
 |slice _ e xs h =>
  rw[h]at hK
  obtain⟨a,l,k,rfl⟩:=okWide_slice hK.1 hval
  exact one _ rfl rfl rfl
 |arr _ e n qs h hql hqp =>
  rw[h]at hK
  have hval' :=hval
  simp only[Value.okWide,hK.1]at hval'
  obtain⟨cs,rfl,_⟩:=hval'
  refine VP.agg cs _ ?_ (λ x hx=>h1 x (by simpa [Value.cells]using hx)) (λ j x q hx hq=>hv j x q (by simpa [Value.cells]using hx) hq)
  have h3:(PV.agg (qs.flatMap PV.cells)).cells.length=szOf (c.sh t):=PV.cells_len hok
  have h4:cs.toList.length=szOf (c.sh t):=hl
  have h5:(PV.agg (qs.flatMap PV.cells)).cells=qs.flatMap PV.cells:=rfl
  rw[h5]at h3
  rw[h3,<-h4];simp
 |struct _ fs qs h hql hqp =>
  rw[h]at hK
  obtain⟨fds,hu,_⟩:=hK
  obtain⟨cs,rfl,_⟩:=okWide_struct hu hval
  refine VP.agg cs _ ?_ (λ x hx=>h1 x (by simpa [Value.cells]using hx)) (λ j x q hx hq=>hv j x q (by simpa [Value.cells]using hx) hq)
  have h3:(PV.agg (qs.flatMap PV.cells)).cells.length=szOf (c.sh t):=PV.cells_len hok
  have h4:cs.toList.length=szOf (c.sh t):=hl
  have h5:(PV.agg (qs.flatMap PV.cells)).cells=qs.flatMap PV.cells:=rfl
  rw[h5]at h3
  rw[h3,<-h4];simp
end
end Go.Ab

namespace Go.Ab
variable [GL:Gl]
section
variable {c:Cfg} {call:Wf} {lp:(St->Option (Ex×St))->St->Option (Ex×St)} {fi:FnI}
theorem zLg{own:Hi} {ops:Array Oper} {R R' :Type} (g:R->Option R'):∀(rest:List Oper) (st:St) (ts:List Nat) (k:St->List Nat->Option R),
 (zE6 c call own ops rest st ts k).bind g=zE6 c call own ops rest st ts λ st ts=>(k st ts).bind g
 | [],st,ts,k=>rfl
 |o::rest,st,ts,k=>by
  have run:∀ fr,((op1 c call own o (λ x t=>ρ fr x t c) st.ow λ a ow' =>zKn c o a λ a' =>zE6 c call own ops rest ⟨putD o.dst a' fr,ow'⟩ (zKb own o (λ x t=>ρ fr x t c)::ts) k)).bind g =
   (op1 c call own o (λ x t=>ρ fr x t c) st.ow λ a ow' =>zKn c o a λ a' =>zE6 c call own ops rest ⟨putD o.dst a' fr,ow'⟩ (zKb own o (λ x t=>ρ fr x t c)::ts) λ st ts=>(k st ts).bind g):=λ fr=>by
   rw[zRP,zRP (R:=R'),zDu]
   congr 1;funext z
   rw[zS8]
   congr 1;funext a'
   exact zLg g rest _ _ k
  simp only[zE6]
  cases hg:o.guard with
  |none=>exact run _
  |some q =>
   obtain⟨j,want⟩:=q
   simp only
   cases hd:(ops[j]?).bind (·.dst) with
   |none=>rfl
   |some d =>
    simp only[zCm,zDu]
    congr 1;funext p
    congr 1;funext x
    cases x with
    |none=>exact zLg g rest _ _ k
    |some b=>cases b<;>cases want<;>simp only[zA,zC]<;>first | exact run _ | exact zLg g rest _ _ k
theorem zUp:∀(x:Code) {R R' :Type} (g:R->Option R') (st:St) (k:Ex->St->Option R),(F c call lp fi x st k).bind g=F c call lp fi x st λ e st' =>(k e st').bind g
 | .skip,_,_,g,st,k=>rfl
 | .exit id,_,_,g,st,k=>rfl
 | .ret,_,_,g,st,k=>rfl
 | .region id ops draw,_,_,g,st,k=>by
  simp only[zGn,zD5,zJM,zGX,zE7,zGo,zGp,zKp]
  rw[zLg]
  congr 1;funext st' ts
  cases draw with
  |false=>rfl
  |true=>simp only[zAH,zC];cases zUW fi.own ops ts.reverse<;>rfl
 | .seq a b,_,_,g,st,k=>by
  simp only[zGn,zD5,zJM,zGX,zE7,zGo,zGp,zKp]
  rw[zUp a]
  congr 1;funext e st'
  cases e with
  |normal =>
   simp only[seqK]
   unfold zY0
   split<;>exact zUp b g _ k
  |exit id=>rfl
  |ret=>rfl
 | .cond q a b,_,_,g,st,k=>by
  simp only[zGn,zD5,zJM,zGX,zE7,zGo,zGp,zKp,zCm,zDu]
  congr 1;funext p
  congr 1;funext z
  cases z with
  |true=>exact zUp a g st k
  |false=>exact zUp b g st k
 | .block id a,_,_,g,st,k=>by
  simp only[zGn,zD5,zJM,zGX,zE7,zGo,zGp,zKp]
  rw[zUp a]
  congr 1;funext e st'
  cases e with
  |normal=>rfl
  |ret=>rfl
  |exit i=>simp only[zJL];cases (i==id)<;>rfl
 | .loop a,_,_,g,st,k=>by simp only[zGn,zD5,zJM,zGX,zE7,zGo,zGp,zKp,zUX,zDu]
 | .label ..,_,_,_,_,_=>rfl
 | .goto ..,_,_,_,_,_=>rfl
 | .scope ..,_,_,_,_,_=>rfl
 | .rangeFunc ..,_,_,_,_,_=>rfl
 | .refuse ..,_,_,_,_,_=>rfl
end
def z3F(c:Cfg) (call:Wf) (lp:(St->Option (Ex×St))->St->Option (Ex×St)) (fi:FnI) (a:Code):St->Option (Ex×St) :=
 λ st=>F c call lp fi a st λ e st' =>some (rnd (look fi.lives (zBG a)) (look fi.outs (zBG a)) st.ow.length e st')
def LK{R:Type} (c:Cfg) (call:Wf) (fi:FnI) (a:Code) (n:Nat) (k:Ex->St->Option R) (s:St):Option R:=zUX lpw (z3F c call lpw fi a) (look fi.outs (zBG a)) n k s
def z0y{R:Type} (c:Cfg) (call:Wf) (fi:FnI) (a:Code) (n m:Nat) (k:Ex->St->Option R):Ex->St->Option R:=λ e st' =>match e with
 | .normal=>LK c call fi a n k (norm (look fi.lives (zBG a)) m st')
 |e=>k e (spell (look fi.outs (zBG a)) n (norm (look fi.outs (zBG a)) m st'))
theorem z6V{R:Type} (c:Cfg) (call:Wf) (fi:FnI) (a:Code) (n:Nat) (k:Ex->St->Option R) (s:St) :
 LK c call fi a n k s=F c call lpw fi a s (z0y c call fi a n s.ow.length k):=by
 unfold LK zUX
 rw[z4J]
 show(Option.bind (Option.bind (z3F c call lpw fi a s) _) _)=_
 rw[zDu]
 unfold z3F
 rw[zUp]
 congr 1;funext e st'
 cases e<;>rfl
def subC:Code->List Nat->Code
 | .seq a b,i::p=>bif i==0 then subC a p else subC b p
 | .cond _ a b,i::p=>bif i==0 then subC a p else subC b p
 | .block _ a,_::p=>subC a p
 | .loop a,_::p=>subC a p
 |x,_=>x
def cont{R:Type} (c:Cfg) (call:Wf) (fi:FnI):Code->List Nat->(Ex->St->Option R)->Ex->St->Option R
 | .seq a b,i::p,k=>bif i==0 then cont c call fi a p (seqK (look fi.joins (zBG b)) (λ s=>F c call lpw fi b s k) k)else cont c call fi b p k
 | .cond _ a b,i::p,k=>bif i==0 then cont c call fi a p k else cont c call fi b p k
 | .block id a,_::p,k=>cont c call fi a p (zJL id k)
 | .loop a,n::p,k=>cont c call fi a p (z0y c call fi a n n k)
 |_,_,k=>k
def z2N(c:Cfg) (call:Wf) (fi:FnI) {R:Type} (fin:Ex->St->Option R) (p:List Nat) (s:St):Option R:=F c call lpw fi (subC fi.code p) s (cont c call fi fi.code p fin)
def zSy(c:Cfg) (call:Wf) (fi:FnI) {R:Type} (fin:Ex->St->Option R) (p:List Nat) (n:Nat) (s:St):Option R :=
 match subC fi.code p with
 | .loop a=>LK c call fi a n (cont c call fi fi.code p fin) s
 |_=>none
def zUq(c:Cfg) (call:Wf) (fi:FnI) {R:Type} (fin:Ex->St->Option R) (p:List Nat) (n:Nat) (s:St):Option R :=
 match subC fi.code p with
 | .loop a=>F c call lpw fi a s (z0y c call fi a n s.ow.length (cont c call fi fi.code p fin))
 |_=>none
theorem zZL(c:Cfg) (call:Wf) (fi:FnI) {R:Type} (fin:Ex->St->Option R) (p:List Nat) (n:Nat) (s:St):zSy c call fi fin p n s=zUq c call fi fin p n s:=by
 unfold zSy zUq
 cases subC fi.code p<;>first | rfl | exact z6V _ _ _ _ _ _ _
theorem zUr{c:Cfg} {f:FuncId} {fi:FnI} (he:c.ext f=none) (hf:c.fn f=some fi) (raw:Bool) (args:List AV) (ow:List Ob):evw c f raw args ow=bodyO c (evw c) lpw fi raw args ow:=by
 apply Option.ext
 intro r
 constructor
 ·intro h
  cases zIZ.1 h with
  |ext _ g _ _ _ _ _ he' =>rw[he]at he';cases he'
  |mk _ fi' call _ _ _ _ _ hf' hc hb =>
   rw[hf]at hf';cases hf'
   exact zOO (λ g raw a ow s hs=>zIZ.2 (hc g raw a ow s hs)) zZF hb
 ·exact λ h=>zIZ.2 (.mk f fi (evw c) raw args ow r he hf (λ _ _ _ _ _ h=>zIZ.1 h) h)
theorem zJX{c:Cfg} {f:FuncId} {g:ExtF} (he:c.ext f=some g) (raw:Bool) (args:List AV) (ow:List Ob):evw c f raw args ow=g.g (evw c) raw args ow:=by
 apply Option.ext
 intro r
 constructor
 ·intro h
  cases zIZ.1 h with
  |ext _ g' call _ _ _ _ he' hc hb =>
   rw[he]at he';cases he'
   exact g.mono _ _ _ _ _ _ (λ g raw a ow s hs=>zIZ.2 (hc g raw a ow s hs)) hb
  |mk _ fi' call _ _ _ _ he' =>rw[he]at he';cases he'
 ·exact λ h=>zIZ.2 (.ext f g (evw c) raw args ow r he (λ _ _ _ _ _ h=>zIZ.1 h) h)
theorem zLh(ow:List Ob):sealFrom 0 ow=sealAll ow:=by simp[sealFrom,sealAll]
theorem zZM(c:Cfg) (fi:FnI) (e:Ex) (st:St):finO c fi false 0 e st=(fin c fi e st).bind λ p=>some (.pv p,[]):=by
 cases e with
 |exit id=>rfl
 |normal =>
  unfold finO fin
  cases hs:fi.scan with
  |none =>
   show resO c (sealFrom 0 st.ow) st.fr fi.res _=Option.bind (resO c (sealAll st.ow) st.fr fi.res _) _
   rw[zLh,zH1,zH1 (k:=λ ps=>some (oneP ps)),zBD]
   congr 1
  |some s =>
   show(zY4 s.2.1 st).bind _=(zY4 s.2.1 st).bind _
   congr 1
 |ret =>
  show resO c (sealFrom 0 st.ow) st.fr fi.res _=Option.bind (resO c (sealAll st.ow) st.fr fi.res _) _
  rw[zLh,zH1,zH1 (k:=λ ps=>some (oneP ps)),zBD]
  congr 1
theorem zSz:∀(ps:List PV) (i:Nat),zIs i (ps.map .pv)=zUY i ps
 | [],_=>rfl
 |p::r,i=>by simp[zIs,zUY,zSz r (i+1)]
theorem zUs(c:Cfg) (call:Wf) (fi:FnI) (ps:List PV):bodyO c call lpw fi false (ps.map .pv) []=(body c call lpw fi ps).bind λ p=>some (.pv p,[]):=by
 unfold bodyO body
 rw[zK]
 cases (ps.length==fi.np) with
 |false=>rfl
 |true =>
  simp only[zA]
  rw[zUp,zSz]
  congr 1;funext e st
  exact zZM c fi e st
theorem z4K{c:Cfg} {f:FuncId} {fi:FnI} (he:c.ext f=none) (hf:c.fn f=some fi) (args:List PV):wc (evw c) f args=body c (evw c) lpw fi args:=by
 unfold wc
 rw[zUr he hf,zUs,zBD]
 cases body c (evw c) lpw fi args<;>rfl
theorem zUt{c:Cfg}:∀(n:Nat),zIr (evF c n) (evw c)
 | 0,f,raw,args,ow,r,h=>by cases h
 |n+1,f,raw,args,ow,r,h=>by
  simp only[evF]at h
  cases he:c.ext f with
  |some g=>rw[he]at h;rw[zJX he];exact g.mono _ _ _ _ _ _ (zUt n) h
  |none =>
   rw[he]at h
   simp only at h
   obtain⟨fi,hf,hb⟩:=zJ.1 h
   rw[zUr he hf]
   refine zOO (zUt n) (λ b b' hb s x hx=> ?_) hb
   exact zQf (zUn hb n hx)
theorem zTA{P:Program} {W:Wf} (hcall:CallOK P W) {f:FuncId} {ps:List PV} {b:Bool} (hf:zNi P f) (h:wc W f ps=some (.bool b)) {w:World} {vs:List Value} (hq:Gl.here w) (hvs:VPs (memP w) vs ps) :
 Calls P f vs.toArray w λ e w' =>e= .returned (.bool b)/\Go.RowKit.Below w.heap.size w w' :=by
 have k:=(hcall.plain h) (memP w) w vs hq (λ _ _ _ h=>zZJ h) hvs
 rw[zH3 hf]at k
 refine Calls.mono k λ e w' ⟨v,he,S',_,_,_,hv,hb⟩=> ?_
 rw[zGN hv]at he
 exact⟨he,hb⟩
end Go.Ab

namespace Go.Ab
variable [GL:Gl]
abbrev Jn (R:Type):=List Nat->St->Option R
abbrev Ln (R:Type):=List Nat->Nat->St->Option R
section
variable {R:Type} (c:Cfg) (call:Wf) (fi:FnI) (jn:Jn R) (ln:Ln R)
def seqG(l:List Nat) (p:List Nat) (f:St->Option R) (k:Ex->St->Option R):Ex->St->Option R:=λ e st' =>match e with
 | .normal=>(match l with
  | []=>f st'
  |t::r=>jn p (norm (t::r) st'.ow.length st'))
 |e=>k e st'
def z4L(a:Code) (p:List Nat) (n:Nat) (k:Ex->St->Option R):Ex->St->Option R:=λ e st' =>match e with
 | .normal=>ln p n (norm (look fi.lives (zBG a)) n st')
 |e=>k e (spell (look fi.outs (zBG a)) n (norm (look fi.outs (zBG a)) n st'))
def Gf(x:Code) (p:List Nat) (st:St) (k:Ex->St->Option R):Option R :=
 @Code.rec (λ _=>List Nat->St->(Ex->St->Option R)->Option R)
  (λ _ st k=>k .normal st)
  (λ id ops draw _ st k=>zE6 c call fi.own ops (zYX fi.own draw ops) ⟨zS2 fi.own draw ops (sealFr (sealTs st.fr (look fi.seals id) st.ow) (look fi.seals id) st.fr),sealTs st.fr (look fi.seals id) st.ow⟩ [] λ st' ts =>
   bif !draw then k .normal st' else bif zUW fi.own ops ts.reverse then k .normal st' else none)
  (λ a b ra rb p st k=>ra (0::p) st (seqG jn (look fi.joins (zBG b)) (1::p) (λ s=>rb (1::p) s k) k))
  (λ x a b ra rb p st k=>pvOf (ρ st.fr x 0 c) λ q=>q.asBool.bind λ z=>bif z then ra (0::p) st k else rb (1::p) st k)
  (λ id a ra p st k=>ra (0::p) st (zJL id k))
  (λ a ra p st k=>ln p st.ow.length (norm (look fi.lives (zBG a)) st.ow.length st))
  (λ _ _ _ _ _ _ _ _ _=>none)
  (λ id _ st k=>k (.exit id) st)
  (λ _ _ _ _ _=>none)
  (λ _ _ _ _=>none)
  (λ _ _ _ _=>none)
  (λ _ st k=>k .ret st)
  (λ _ _ _ _=>none)
  x p st k
def zMb:Code->List Nat->List Nat->(Ex->St->Option R)->Ex->St->Option R
 | .seq a b,i::q,p,k=>bif i==0 then zMb a q (0::p) (seqG jn (look fi.joins (zBG b)) (1::p) (λ s=>Gf c call fi jn ln b (1::p) s k) k)else zMb b q (1::p) k
 | .cond _ a b,i::q,p,k=>bif i==0 then zMb a q (0::p) k else zMb b q (1::p) k
 | .block id a,_::q,p,k=>zMb a q (0::p) (zJL id k)
 | .loop a,n::q,p,k=>zMb a q (n::p) (z4L fi ln a p n k)
 |_,_,_,k=>k
structure Tied (c:Cfg) (call:Wf) (fi:FnI) {R:Type} (fin:Ex->St->Option R) (jn:Jn R) (ln:Ln R):Prop where
 join:∀(p:List Nat) (s:St),jn p.reverse s=Gf c call fi jn ln (subC fi.code p) p.reverse s (zMb c call fi jn ln fi.code p [] fin)
 loop:∀(p:List Nat) (n:Nat) (s:St),s.ow.length=n->ln p.reverse n s=(match subC fi.code p with
  | .loop a=>Gf c call fi jn ln a (n::p.reverse) s (z4L fi ln a p.reverse n (zMb c call fi jn ln fi.code p [] fin))
  |_=>none)
 whole:∀ s:St,F c call lpw fi fi.code s fin=Gf c call fi jn ln fi.code [] s fin
end
theorem Tied.body{c:Cfg} {call:Wf} {fi:FnI} {jn:Jn PV} {ln:Ln PV} (h:Tied c call fi (fin c fi) jn ln) (args:List PV) :
 body c call lpw fi args=bif args.length==fi.np then Gf c call fi jn ln fi.code [] ⟨zUY 0 args,[]⟩ (fin c fi)else none:=by
 unfold Ab.body
 cases (args.length==fi.np) with
 |false=>rfl
 |true=>exact h.whole _
theorem Tied.bodyO{c:Cfg} {call:Wf} {fi:FnI} {raw:Bool} {n:Nat} {jn:Jn (AV×List Ob)} {ln:Ln (AV×List Ob)} (h:Tied c call fi (finO c fi raw n) jn ln) (args:List AV) (ow:List Ob) (hn:ow.length=n) :
 bodyO c call lpw fi raw args ow=bif args.length==fi.np then Gf c call fi jn ln fi.code [] ⟨zIs 0 args,ow⟩ (finO c fi raw n)else none:=by
 subst hn
 unfold Ab.bodyO
 cases (args.length==fi.np) with
 |false=>rfl
 |true=>exact h.whole _
section
variable {c:Cfg} {call:Wf} {fi:FnI} {R:Type} {fin:Ex->St->Option R}
def jnF(c:Cfg) (call:Wf) (fi:FnI) {R:Type} (fin:Ex->St->Option R):Jn R:=λ p s=>z2N c call fi fin p.reverse s
def lnF(c:Cfg) (call:Wf) (fi:FnI) {R:Type} (fin:Ex->St->Option R):Ln R:=λ p n s=>zSy c call fi fin p.reverse n s
theorem zCv:∀(x:Code) (p q:List Nat),subC x (p++q)=subC (subC x p) q
 |x,[],q=>by cases x<;>rfl
 | .seq a b,i::p,q=>by
  simp only[List.cons_append,subC]
  cases (i==0)<;>simp only[zA,zC]<;>exact zCv _ p q
 | .cond _ a b,i::p,q=>by
  simp only[List.cons_append,subC]
  cases (i==0)<;>simp only[zA,zC]<;>exact zCv _ p q
 | .block _ a,_::p,q=>by simp only[List.cons_append,subC];exact zCv _ p q
 | .loop a,_::p,q=>by simp only[List.cons_append,subC];exact zCv _ p q
 | .skip,_::p,q=>by cases q<;>rfl
 | .region ..,_::p,q=>by cases q<;>rfl
 | .rangeFunc ..,_::p,q=>by cases q<;>rfl
 | .exit _,_::p,q=>by cases q<;>rfl
 | .scope _,_::p,q=>by cases q<;>rfl
 | .label _,_::p,q=>by cases q<;>rfl
 | .goto _,_::p,q=>by cases q<;>rfl
 | .ret,_::p,q=>by cases q<;>rfl
 | .refuse _,_::p,q=>by cases q<;>rfl
theorem zCw{R:Type}:∀(x:Code) (p q:List Nat) (k:Ex->St->Option R),cont c call fi x (p++q) k=cont c call fi (subC x p) q (cont c call fi x p k)
 |x,[],q,k=>by cases x<;>rfl
 | .seq a b,i::p,q,k=>by
  simp only[List.cons_append,subC,cont]
  cases (i==0)<;>simp only[zA,zC]<;>exact zCw _ p q _
 | .cond _ a b,i::p,q,k=>by
  simp only[List.cons_append,subC,cont]
  cases (i==0)<;>simp only[zA,zC]<;>exact zCw _ p q _
 | .block _ a,_::p,q,k=>by simp only[List.cons_append,subC,cont];exact zCw _ p q _
 | .loop a,_::p,q,k=>by simp only[List.cons_append,subC,cont];exact zCw _ p q _
 | .skip,_::p,q,k=>by cases q<;>rfl
 | .region ..,_::p,q,k=>by cases q<;>rfl
 | .rangeFunc ..,_::p,q,k=>by cases q<;>rfl
 | .exit _,_::p,q,k=>by cases q<;>rfl
 | .scope _,_::p,q,k=>by cases q<;>rfl
 | .label _,_::p,q,k=>by cases q<;>rfl
 | .goto _,_::p,q,k=>by cases q<;>rfl
 | .ret,_::p,q,k=>by cases q<;>rfl
 | .refuse _,_::p,q,k=>by cases q<;>rfl
structure At (c:Cfg) (call:Wf) (fi:FnI) {R:Type} (fin:Ex->St->Option R) (x:Code) (p:List Nat) (k:Ex->St->Option R):Prop where
 sub:subC fi.code p.reverse=x
 con:cont c call fi fi.code p.reverse fin=k
theorem At.snd{a b:Code} {p:List Nat} {k:Ex->St->Option R} (h:At c call fi fin (.seq a b) p k):At c call fi fin b (1::p) k:=by
 refine⟨?_,?_⟩
 ·rw[List.reverse_cons,zCv,h.sub];cases b<;>rfl
 ·rw[List.reverse_cons,zCw,h.sub,h.con];cases b<;>rfl
theorem At.fst{a b:Code} {p:List Nat} {k:Ex->St->Option R} (h:At c call fi fin (.seq a b) p k):At c call fi fin a (0::p) (seqK (look fi.joins (zBG b)) (λ s=>F c call lpw fi b s k) k):=by
 refine⟨?_,?_⟩
 ·rw[List.reverse_cons,zCv,h.sub];cases a<;>rfl
 ·rw[List.reverse_cons,zCw,h.sub,h.con];cases a<;>rfl
theorem At.thn{q:Operand} {a b:Code} {p:List Nat} {k:Ex->St->Option R} (h:At c call fi fin (.cond q a b) p k):At c call fi fin a (0::p) k:=by
 refine⟨?_,?_⟩
 ·rw[List.reverse_cons,zCv,h.sub];cases a<;>rfl
 ·rw[List.reverse_cons,zCw,h.sub,h.con];cases a<;>rfl
theorem At.els{q:Operand} {a b:Code} {p:List Nat} {k:Ex->St->Option R} (h:At c call fi fin (.cond q a b) p k):At c call fi fin b (1::p) k:=by
 refine⟨?_,?_⟩
 ·rw[List.reverse_cons,zCv,h.sub];cases b<;>rfl
 ·rw[List.reverse_cons,zCw,h.sub,h.con];cases b<;>rfl
theorem At.blk{id:Nat} {a:Code} {p:List Nat} {k:Ex->St->Option R} (h:At c call fi fin (.block id a) p k):At c call fi fin a (0::p) (zJL id k):=by
 refine⟨?_,?_⟩
 ·rw[List.reverse_cons,zCv,h.sub];cases a<;>rfl
 ·rw[List.reverse_cons,zCw,h.sub,h.con];cases a<;>rfl
theorem At.rnd{a:Code} {p:List Nat} {k:Ex->St->Option R} (h:At c call fi fin (.loop a) p k) (n:Nat):At c call fi fin a (n::p) (z0y c call fi a n n k):=by
 refine⟨?_,?_⟩
 ·rw[List.reverse_cons,zCv,h.sub];cases a<;>rfl
 ·rw[List.reverse_cons,zCw,h.sub,h.con];cases a<;>rfl
theorem At.join{x:Code} {p:List Nat} {k:Ex->St->Option R} (h:At c call fi fin x p k) (s:St):jnF c call fi fin p s=F c call lpw fi x s k:=by
 unfold jnF z2N;rw[h.sub,h.con]
theorem At.loop{a:Code} {p:List Nat} {k:Ex->St->Option R} (h:At c call fi fin (.loop a) p k) (n:Nat) (s:St):lnF c call fi fin p n s=LK c call fi a n k s:=by
 unfold lnF zSy;rw[h.sub,h.con]
theorem z2O{l p:List Nat} {f fG:St->Option R} {k kG:Ex->St->Option R} (hf:∀ s,f s=fG s) (hj:∀ s,jnF c call fi fin p s=f s) (hk:k=kG):seqK l f k=seqG (jnF c call fi fin) l p fG kG:=by
 subst hk
 funext e st'
 cases e with
 |normal =>
  simp only[seqK,seqG]
  cases l with
  |nil=>exact hf st'
  |cons t r=>exact(hj _).symm
 |exit id=>rfl
 |ret=>rfl
theorem F_G:∀(x:Code) (p:List Nat) (s:St) (k kG:Ex->St->Option R),At c call fi fin x p k->k=kG->F c call lpw fi x s k=Gf c call fi (jnF c call fi fin) (lnF c call fi fin) x p s kG
 | .skip,p,s,k,kG,h,e=>by subst e;rfl
 | .exit _,p,s,k,kG,h,e=>by subst e;rfl
 | .ret,p,s,k,kG,h,e=>by subst e;rfl
 | .label _,p,s,k,kG,h,e=>rfl
 | .goto _,p,s,k,kG,h,e=>rfl
 | .scope _,p,s,k,kG,h,e=>rfl
 | .refuse _,p,s,k,kG,h,e=>rfl
 | .rangeFunc ..,p,s,k,kG,h,e=>rfl
 | .region id ops draw,p,s,k,kG,h,e=>by subst e;rfl
 | .seq a b,p,s,k,kG,h,e=>by
  rw[zJM,F_G a (0::p) s _ _ h.fst (z2O (λ s=>F_G b (1::p) s k kG h.snd e) (λ s=>h.snd.join s) e)]
  rfl
 | .cond q a b,p,s,k,kG,h,e=>by
  rw[zGX]
  show pvOf _ _=pvOf _ _
  congr 1;funext q
  congr 1;funext z
  cases z with
  |true=>exact F_G a (0::p) s k kG h.thn e
  |false=>exact F_G b (1::p) s k kG h.els e
 | .block id a,p,s,k,kG,h,e=>by
  rw[zE7,F_G a (0::p) s _ _ h.blk (congrArg (zJL id) e)]
  rfl
 | .loop a,p,s,k,kG,h,e=>(h.loop s.ow.length _).symm
theorem zNV:∀(x:Code) (q p:List Nat) (k kG:Ex->St->Option R),At c call fi fin x p k->k=kG->cont c call fi x q k=zMb c call fi (jnF c call fi fin) (lnF c call fi fin) x q p kG
 | .seq a b,i::q,p,k,kG,h,e=>by
  simp only[cont,zMb]
  cases (i==0) with
  |true=>exact zNV a q (0::p) _ _ h.fst (z2O (λ s=>F_G b (1::p) s k kG h.snd e) (λ s=>h.snd.join s) e)
  |false=>exact zNV b q (1::p) k kG h.snd e
 | .cond _ a b,i::q,p,k,kG,h,e=>by
  simp only[cont,zMb]
  cases (i==0) with
  |true=>exact zNV a q (0::p) k kG h.thn e
  |false=>exact zNV b q (1::p) k kG h.els e
 | .block id a,_::q,p,k,kG,h,e=>by
  simp only[cont,zMb]
  exact zNV a q (0::p) _ _ h.blk (congrArg (zJL id) e)
 | .loop a,n::q,p,k,kG,h,e=>by
  simp only[cont,zMb]
  refine zNV a q (n::p) _ _ (h.rnd n) ?_
  subst e
  funext ex st'
  cases ex with
  |normal=>exact(h.loop n _).symm
  |exit id=>rfl
  |ret=>rfl
 |x,[],p,k,kG,h,e=>by subst e;cases x<;>rfl
 | .skip,_::q,p,k,kG,h,e=>by subst e;rfl
 | .region ..,_::q,p,k,kG,h,e=>by subst e;rfl
 | .rangeFunc ..,_::q,p,k,kG,h,e=>by subst e;rfl
 | .exit _,_::q,p,k,kG,h,e=>by subst e;rfl
 | .scope _,_::q,p,k,kG,h,e=>by subst e;rfl
 | .label _,_::q,p,k,kG,h,e=>by subst e;rfl
 | .goto _,_::q,p,k,kG,h,e=>by subst e;rfl
 | .ret,_::q,p,k,kG,h,e=>by subst e;rfl
 | .refuse _,_::q,p,k,kG,h,e=>by subst e;rfl
theorem zZN:At c call fi fin fi.code [] fin:=⟨by cases fi.code<;>rfl,by cases fi.code<;>rfl⟩
theorem tied(c:Cfg) (call:Wf) (fi:FnI) {R:Type} (fin:Ex->St->Option R):Tied c call fi fin (jnF c call fi fin) (lnF c call fi fin) where
 join:=λ p s=>by
  have h:At c call fi fin (subC fi.code p) p.reverse (cont c call fi fi.code p fin):=⟨by rw[List.reverse_reverse],by rw[List.reverse_reverse]⟩
  rw[h.join s]
  exact F_G _ _ s _ _ h (zNV fi.code p [] _ _ zZN rfl)
 loop:=λ p n s hs=>by
  have hl:lnF c call fi fin p.reverse n s=zSy c call fi fin p n s:=by unfold lnF;rw[List.reverse_reverse]
  rw[hl,zZL]
  unfold zUq
  cases hx:subC fi.code p<;>try rfl
  rename_i a
  have h:At c call fi fin (.loop a) p.reverse (cont c call fi fi.code p fin):=⟨by rw[List.reverse_reverse];exact hx,by rw[List.reverse_reverse]⟩
  simp only
  rw[hs]
  refine F_G a _ s _ _ (h.rnd n) ?_
  rw[<- zNV fi.code p [] _ _ zZN rfl]
  funext e st'
  cases e with
  |normal=>exact(h.loop n _).symm
  |exit id=>rfl
  |ret=>rfl
 whole:=λ s=>F_G fi.code [] _ _ _ zZN rfl
end
end Go.Ab

namespace Go.Ab
variable [GL:Gl]
def zWO(sh:Nat) (raw:Bool) (args:List AV) (ow:List Ob):Option (AV×List Ob) :=
 match raw,args,ow with
 |false,[.pv (.slice sh' xs)],[]=>bif sh==sh' &&decide (xs.length<=lim)then some (.pv (.slice sh xs),[])else none
 |true,[.pv (.slice sh' xs)],[]=>bif sh==sh' &&decide (xs.length<=lim)then some (.view 0 0 none,[.row false 0 sh xs])else none
 |_,_,_=>none
def zFt(sh:Nat):ExtF:=⟨λ _=>zWO sh,λ _ _ _ _ _ _ _ h=>h⟩
def zZO(c:Cfg) (fi:FnI) (sh:Nat):Prop:=∀(call:Wf) (xs:List PV),
 bodyO c call lpw fi false [.sl true sh []] []=some (.pv (.slice sh []),[]) /\
 bodyO c call lpw fi false [.sl false sh xs] []=(bif decide (0+xs.length<=lim)then some (.pv (.slice sh xs),[])else none) /\
 bodyO c call lpw fi true [.sl true sh []] []=some (.view 0 0 none,[.row false 0 sh []]) /\
 bodyO c call lpw fi true [.sl false sh xs] []=(bif decide (0+xs.length<=lim)then some (.view 0 0 none,[.row false 0 sh xs])else none)
theorem zWP{P:Program} {c:Cfg} (hT:TyOK P c) {f:FuncId} {fi:FnI} {sh:Nat} (hf:FnOK P c f fi) (hb:zZO c fi sh):zNk P f (zFt sh):=by
 intro call hcall raw args ow r ow' h
 simp only[zFt,zWO]at h
 split at h
 ·rename_i sh' xs
  cases he:(sh==sh' &&decide (xs.length<=lim)) with
  |false=>rw[he]at h;cases h
  |true =>
   rw[he]at h
   simp only[zA,zE,zAl]at h
   obtain⟨rfl,rfl⟩:=h
   simp only[zF,beq_iff_eq]at he
   obtain⟨rfl,hl⟩:=he
   have b2:=(hb call xs).2.1
   rw[Nat.zero_add,hl,zA]at b2
   have v2:=zIC hT hcall zNU hf b2
   have v1:=zIC hT hcall zNU hf (hb call []).1
   intro S L w vs inv hvs
   obtain⟨hlen,hv⟩:=hvs
   match vs,hlen,hv with
   | [v],_,hv =>
    have hp:VP S v (.slice sh xs):=hv 0 v _ rfl rfl
    cases hp with
    |slice base len cap _ _ b o vals hl' hc hb' hsh hS hV =>
     have hp:VP S (.slice base len cap) (.slice sh xs):= .slice base len cap sh xs b o vals hl' hc hb' hsh hS hV
     cases base with
     |some a =>
      exact v2 S L w _ inv ⟨rfl,λ j x y hx hy=>by
       cases j with
       |zero=>simp at hx hy;subst hx;subst hy;exact⟨hp,_,_,_,rfl,rfl⟩
       |succ j=>simp at hx⟩
     |none =>
      have h0:len=0:=by
       rcases Nat.eq_zero_or_pos len with h | h
       ·exact h
       ·exact absurd (hb' h) (by simp)
      have hx0:xs=[]:=zD3 (by omega)
      subst hx0
      exact v1 S L w _ inv ⟨rfl,λ j x y hx hy=>by
       cases j with
       |zero=>simp at hx hy;subst hx;subst hy;exact⟨hp,_,_,_,rfl,rfl⟩
       |succ j=>simp at hx⟩
 ·rename_i sh' xs
  cases he:(sh==sh' &&decide (xs.length<=lim)) with
  |false=>rw[he]at h;cases h
  |true =>
   rw[he]at h
   simp only[zA,zE,zAl]at h
   obtain⟨rfl,rfl⟩:=h
   simp only[zF,beq_iff_eq]at he
   obtain⟨rfl,hl⟩:=he
   have b2:=(hb call xs).2.2.2
   rw[Nat.zero_add,hl,zA]at b2
   have v2:=zIC hT hcall zNU hf b2
   have v1:=zIC hT hcall zNU hf (hb call []).2.2.1
   intro S L w vs inv hvs
   obtain⟨hlen,hv⟩:=hvs
   match vs,hlen,hv with
   | [v],_,hv =>
    have hp:VP S v (.slice sh xs):=hv 0 v _ rfl rfl
    cases hp with
    |slice base len cap _ _ b o vals hl' hc hb' hsh hS hV =>
     have hp:VP S (.slice base len cap) (.slice sh xs):= .slice base len cap sh xs b o vals hl' hc hb' hsh hS hV
     cases base with
     |some a =>
      exact v2 S L w _ inv ⟨rfl,λ j x y hx hy=>by
       cases j with
       |zero=>simp at hx hy;subst hx;subst hy;exact⟨hp,_,_,_,rfl,rfl⟩
       |succ j=>simp at hx⟩
     |none =>
      have h0:len=0:=by
       rcases Nat.eq_zero_or_pos len with h | h
       ·exact h
       ·exact absurd (hb' h) (by simp)
      have hx0:xs=[]:=zD3 (by omega)
      subst hx0
      exact v1 S L w _ inv ⟨rfl,λ j x y hx hy=>by
       cases j with
       |zero=>simp at hx hy;subst hx;subst hy;exact⟨hp,_,_,_,rfl,rfl⟩
       |succ j=>simp at hx⟩
 ·cases h
theorem zZP{c:Cfg} {f:FuncId} {sh:Nat} (he:c.ext f=some (zFt sh)) (xs:List PV) (hl:xs.length<=lim):wc (evw c) f [.slice sh xs]=some (.slice sh xs):=by
 unfold wc
 rw[zJX he]
 simp[zFt,zWO,hl,AV.asPv]
theorem zZQ{c:Cfg} {f:FuncId} {sh:Nat} (he:c.ext f=some (zFt sh)) (xs:List PV) (hl:xs.length<=lim):evw c f true [.pv (.slice sh xs)] []=some (.view 0 0 none,[.row false 0 sh xs]):=by
 rw[zJX he]
 simp[zFt,zWO,hl]
def z0z:List (Nat×ExtF)->Nat->Option ExtF
 | [],_=>none
 |(a,i)::r,n=>bif a==n then some i else z0z r n
def AllE(P:Program):List (Nat×ExtF)->Prop
 | []=>True
 |x::r=>zNk P x.1 x.2/\AllE P r
theorem zTB{P:Program}:∀{tab:List (Nat×ExtF)},AllE P tab->∀ f g,z0z tab f=some g->zNk P f g
 | [],_,f,g,h=>by cases h
 |(a,i)::r,hA,f,g,h=>by
  simp only[z0z]at h
  cases e:(a==f) with
  |true =>
   rw[e]at h
   have e2:=beq_iff_eq.1 e;subst e2
   simp only[zA,zE]at h
   subst h
   exact hA.1
  |false=>rw[e]at h;exact zTB hA.2 f g h
end Go.Ab
