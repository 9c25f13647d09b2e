/- Part 7 of the proof: an abstract machine that runs the program's code over plain values, its soundness, and what the functions tell of plain values. Conditions: those in each theorem. -/
import Derived.Test.YtgebkpchpliahaaGreatDoorA5
import Derived.Laws.MakeOwn
set_option linter.unusedSectionVars false
set_option linter.unusedVariables false
set_option linter.unusedSimpArgs false
noncomputable section
namespace Go.Ab
open Go.RowKit (Below)
variable [GL:Gl]
section
variable {P:Program} {c:Cfg} {w0:Base} {w:World} {S0 S:Pr} {L:List Loc} {ow:List Ob} {call:Wf} {own:Hi} {o:Oper} {r:Operand->TypeId->AV} {act:Act} {av:AV} {ow' :List Ob}
theorem zOf{v u:Value} {p q:PV} (hv:VP S v p) (hu:VP S u q) (h:zXE p q=true) (n:Nat):Instr.sameBits n v u=true:=by
 cases p<;>cases q<;>simp only[zXE]at h<;>try (cases h;done)
 ·simp only[zF,zU,beq_iff_eq]at h
  obtain⟨rfl,rfl⟩:=h
  rw[zE0 hv,zE0 hu];cases n<;>simp[Instr.sameBits]
 ·have e:=beq_iff_eq.1 h;subst e
  rw[zGN hv,zGN hu];cases n<;>simp[Instr.sameBits]
 ·rename_i s s'
  have e:s=s' :=by
   have h1:=beq_iff_eq.1 h
   rw[ByteArray.toList_eq,ByteArray.toList_eq]at h1
   have h2:s.data=s'.data:=Array.ext' h1
   cases s;cases s';simpa using h2
  subst e
  have hb:(s==s)=true:=by show(s.data==s.data)=true;simp
  rw[zIu hv,zIu hu];cases n<;>simp[Instr.sameBits,hb]
theorem zNP:∀{vs us:List Value} {ps qs:List PV},VPs S vs ps->VPs S us qs->zSW ps qs=true->∀ n:Nat,vs.length=us.length/\(vs.zip us).all (λ x=>Instr.sameBits n x.1 x.2)=true
 |vs,us,[],[],hv,hu,h,n=>by
  have e1:=zD3 (hv.1.trans rfl);have e2:=zD3 (hu.1.trans rfl)
  subst e1;subst e2;exact⟨rfl,rfl⟩
 |v::vs,u::us,p::ps,q::qs,hv,hu,h,n=>by
  simp only[zSW,zF]at h
  have k:=zNP (vs:=vs) (us:=us) ⟨by have:=hv.1;simpa using this,λ j x y hx hy=>hv.2 (j+1) x y (by simpa using hx) (by simpa using hy)⟩ ⟨by have:=hu.1;simpa using this,λ j x y hx hy=>hu.2 (j+1) x y (by simpa using hx) (by simpa using hy)⟩ h.2 n
  refine⟨by simp[k.1],?_⟩
  simp only[List.zip_cons_cons,List.all_cons,zF]
  exact⟨zOf (hv.2 0 v p rfl rfl) (hu.2 0 u q rfl rfl) h.1 n,k.2⟩
 | [],_,p::ps,_,hv,_,_,_=>by have:=hv.1;simp at this
 |_,[],_,q::qs,_,hu,_,_=>by have:=hu.1;simp at this
 |_,_,[],q::qs,_,_,h,_=>by cases h
 |_,_,p::ps,[],_,_,h,_=>by cases h
theorem zOg{v u:Value} {p q:PV} (hv:VP S v p) (hu:VP S u q) (h:zPy p q=true) (n:Nat):Instr.sameBits (n+1) v u=true:=by
 unfold zPy at h
 split at h
 ·rename_i ps qs
  cases hv with
  |agg cs _ hl _ hc =>
   cases hu with
   |agg ds _ hm _ hd =>
    have k:=zNP (vs:=cs.toList) (us:=ds.toList) ⟨by simpa using hl,λ j x y hx hy=>hc j x y (by simpa using hx) hy⟩ ⟨by simpa using hm,λ j x y hx hy=>hd j x y (by simpa using hx) hy⟩ h n
    simp only[Instr.sameBits,zF,beq_iff_eq]
    exact⟨by simpa using k.1,k.2⟩
 ·exact zOf hv hu h _
theorem zJR{α:Type} (g:α->Unit->Sem (ForInStep Unit)):∀(l:List α),(∀ x∈l,(g x ()).run P w= .ok (.yield ()) w)->(forIn l () g).run P w= .ok () w
 | [],_=>by simp
 |x::l,h=>by
  rw[List.forIn_cons,Sem.run_bind,h x (by simp)]
  simp only[Result.andThen_ok]
  exact zJR g l λ y hy=>h y (by simp[hy])
theorem zGs(hT:TyOK P c) (em:Bool):∀(n d:Nat) (t:TypeId) (v:Value) (p:PV),n<=d->VP S v p->zNe c n t p=true->(Instr.checkKey em d t v).run P w= .ok () w
 | 0,_,_,_,_,_,_,h=>by cases h
 |n+1,0,_,_,_,hd,_,_=>by omega
 |n+1,d+1,t,v,p,hd,hv,h=>by
  have hk:=hT.kind t
  simp only[zNe]at h
  cases hkk:(c.at_ t).k<;>rw[hkk]at h hk<;>(try simp only at h)<;>(try simp only at hk)<;>try (cases h;done)
  case bool=>cases p<;>simp[PV.asBool]at h;rw[zGN hv];simp[Instr.checkKey,run_underlying hk]
  case int kd=>cases p<;>simp[PV.asInt]at h;rw[zE0 hv];simp[Instr.checkKey,run_underlying hk]
  case str=>cases p<;>simp[PV.asStr]at h;rw[zIu hv];simp[Instr.checkKey,run_underlying hk]
  case struct fs =>
   obtain⟨fds,hu,hfs,hnm,hkn⟩:=hk
   simp only[zF]at h
   obtain⟨hsh,hall⟩:=h
   have hs1:c.sh t=(c.at_ t).sz+1:=by unfold Cfg.sh;rw[hkk]
   rw[hs1]at hsh
   obtain⟨ps,rfl,hpl⟩:=zG0 hsh
   cases hv with
   |agg cs _ hl h1 hc =>
    have hx:VP S (.agg cs) (.agg ps):= .agg cs ps hl h1 hc
    simp only[Instr.checkKey,Sem.run_bind,run_underlying hu,Result.andThen_ok]
    rw[<- Array.forIn_toList]
    rw[zJR _ _ ?side]
    ·rfl
    intro f hf
    have hf:f∈fds:=by simpa using hf
    have hfm:(f.type,f.offset)∈fs:=by rw[<- hfs];exact zAh.2 ⟨f,by simpa using hf,rfl⟩
    have hload:=zAF.1 hall _ hfm
    simp only[PV.cells]at hload
    cases hq:PV.load (ps.length+1) (.agg ps) f.offset (c.sh f.type) with
    |none=>rw[hq]at hload;cases hload
    |some q =>
     rw[hq]at hload
     obtain⟨u,k1,k2⟩:=zFd (w:=w) hT (hkn _ hfm).1 hx hq
     have hck:=zGs hT em n d f.type u q (by omega) k2 hload
     have hne:=hnm f hf
     simp[hne,k1,hck]
  case arr m e =>
   obtain⟨hu,hke⟩:=hk
   simp only[zF]at h
   obtain⟨hsh,hall⟩:=h
   have hs1:c.sh t=(c.at_ t).sz+1:=by unfold Cfg.sh;rw[hkk]
   rw[hs1]at hsh
   obtain⟨ps,rfl,hpl⟩:=zG0 hsh
   cases hv with
   |agg cs _ hl h1 hc =>
    have hx:VP S (.agg cs) (.agg ps):= .agg cs ps hl h1 hc
    have hsz:=hT.sizeOf hke w
    simp only[Instr.checkKey,Sem.run_bind,run_underlying hu,Result.andThen_ok]
    rw[Std.Legacy.Range.forIn_eq_forIn_range']
    rw[zJR _ _ ?side2]
    ·rfl
    intro i hi
    have hi:i<m:=by simp[List.mem_range']at hi;omega
    have hload:=zAF.1 hall i (by simpa using hi)
    simp only[PV.cells]at hload
    cases hq:PV.load (ps.length+1) (.agg ps) (i*szOf (c.sh e)) (c.sh e) with
    |none=>rw[hq]at hload;cases hload
    |some q =>
     rw[hq]at hload
     obtain⟨u,k1,k2⟩:=zFd (w:=w) hT hke hx hq
     have hck:=zGs hT em n d e u q (by omega) k2 hload
     simp[hsz,k1,hck]
def EntsR(S:Pr) (es:List MapEntry) (ps:List (PV×PV)):Prop:=es.length=ps.length /\
 ∀(j:Nat) (e:MapEntry) (p:PV×PV),es[j]? =some e->ps[j]? =some p->VP S e.key p.1/\VP S e.val p.2
theorem EntsR.tail{e:MapEntry} {es:List MapEntry} {p:PV×PV} {ps:List (PV×PV)} (h:EntsR S (e::es) (p::ps)):(VP S e.key p.1/\VP S e.val p.2)/\EntsR S es ps :=
 ⟨h.2 0 e p rfl rfl,by have:=h.1;simpa using this,λ j x q hx hq=>h.2 (j+1) x q (by simpa using hx) (by simpa using hq)⟩
theorem zSe(hT:TyOK P c) {kt:TypeId} {k:Value} {kp:PV} (hk:VP S k kp):∀(es:List MapEntry) (ps:List (PV×PV)) (i:Nat) (z:Option PV),EntsR S es ps->zL2 (eqP c 6 kt) kp ps=some z ->
 ∃ r,(Instr.findAsking kt k es i).run P w= .ok r w/\match z with
  |none=>r=none
  |some v=>∃ j val,r=some (j,val)/\VP S val v
 | [],[],i,z,_,h=>by simp[zL2]at h;subst h;exact⟨none,rfl,rfl⟩
 | [],_::_,_,_,h,_=>by have:=h.1;simp at this
 |_::_,[],_,_,h,_=>by have:=h.1;simp at this
 |e::es,(x,u)::ps,i,z,he,h=>by
  obtain⟨⟨h1,h2⟩,h3⟩:=he.tail
  simp only[zL2,zJ]at h
  obtain⟨b,hb,h⟩:=h
  have heq:(Op.equal kt k e.key).run P w= .ok b w:=eqP_sound hT 6 Op.maxDepth kt k e.key kp x b (by decide) hk h1 hb
  cases b with
  |true =>
   simp only[zA,zE]at h
   subst h
   exact⟨some (i,e.val),by simp[Instr.findAsking,heq],i,e.val,rfl,h2⟩
  |false =>
   simp only[zC]at h
   obtain⟨r,k1,k2⟩:=zSe hT hk es ps (i+1) z h3 h
   exact⟨r,by simp[Instr.findAsking,heq,k1],k2⟩
theorem zVw(hT:TyOK P c) {kt:TypeId} {k:Value} {kp v:PV} (hk:VP S k kp):∀(es:List MapEntry) (ps:List (PV×PV)) (i:Nat) (qs:List (PV×PV)),EntsR S es ps->mput (eqP c 6 kt) kp v ps=some qs ->
 ∃ r,(Instr.findAsking kt k es i).run P w= .ok r w/\match r with
  |none=>qs=ps++[(kp,v)]
  |some (j,_)=>∃ n x u,j=i+n/\ps[n]? =some (x,u)/\qs=ps.set n (kp,v)/\zPy x kp=true
 | [],[],i,z,_,h=>by simp[mput]at h;subst h;exact⟨none,rfl,rfl⟩
 | [],_::_,_,_,h,_=>by have:=h.1;simp at this
 |_::_,[],_,_,h,_=>by have:=h.1;simp at this
 |e::es,(x,u)::ps,i,z,he,h=>by
  obtain⟨⟨h1,h2⟩,h3⟩:=he.tail
  simp only[mput,zJ]at h
  obtain⟨b,hb,h⟩:=h
  have heq:(Op.equal kt k e.key).run P w= .ok b w:=eqP_sound hT 6 Op.maxDepth kt k e.key kp x b (by decide) hk h1 hb
  cases b with
  |true =>
   simp only[zA]at h
   cases hs:zPy x kp with
   |false=>rw[hs]at h;cases h
   |true =>
    rw[hs]at h
    simp only[zA,zE]at h
    subst h
    exact⟨some (i,e.val),by simp[Instr.findAsking,heq],0,x,u,rfl,rfl,rfl,hs⟩
  |false =>
   simp only[zC,zJ,zE]at h
   obtain⟨qs,h4,rfl⟩:=h
   obtain⟨r,k1,k2⟩:=zVw hT hk es ps (i+1) qs h3 h4
   refine⟨r,by simp[Instr.findAsking,heq,k1],?_⟩
   cases r with
   |none=>simp only at k2 ⊢;rw[k2];rfl
   |some q =>
    obtain⟨j,val⟩:=q
    obtain⟨n,x',u',e1,e2,e3,e4⟩:=k2
    exact⟨n+1,x',u',by omega,by simpa using e2,by rw[e3];rfl,e4⟩
theorem zLb{kt:TypeId} {d:TypeDesc} (hd:P.underlying kt=some d) {a b:Value} {x:Bool} (h:Instr.sameNow d a b=some x):(Op.equal kt a b).run P w= .ok x w:=by
 unfold Instr.sameNow at h
 split at h
 ·split at h
  ·rename_i e;subst e
   simp only[zE]at h;subst h
   show(Op.equalIn (9999+1) kt _ _).run P w=_
   rw[Op.equalIn];simp[run_underlying hd]
  ·cases h
 ·simp only[zE]at h;subst h
  show(Op.equalIn (9999+1) kt _ _).run P w=_
  rw[Op.equalIn];simp[run_underlying hd]
 ·simp only[zE]at h;subst h
  show(Op.equalIn (9999+1) kt _ _).run P w=_
  rw[Op.equalIn];simp[run_underlying hd]
 ·cases h
theorem zQ0{kt:TypeId} {d:TypeDesc} (hd:P.underlying kt=some d) {k:Value}:∀(es:List MapEntry) (i:Nat) (r:Option (Nat×Value)),Instr.findNow d k es i=some r->(Instr.findAsking kt k es i).run P w= .ok r w
 | [],i,r,h=>by simp[Instr.findNow]at h;subst h;rfl
 |e::es,i,r,h=>by
  simp only[Instr.findNow]at h
  split at h
  ·rename_i hs
   simp only[zE]at h;subst h
   simp[Instr.findAsking,zLb hd hs]
  ·rename_i hs
   simp[Instr.findAsking,zLb hd hs,zQ0 hd es (i+1) r h]
  ·cases h
theorem zKu{kt:TypeId} {d:TypeDesc} (hd:P.underlying kt=some d) {k:Value} {es:List MapEntry} {r:Option (Nat×Value)} (h:(Instr.findAsking kt k es 0).run P w= .ok r w):(Instr.findKey kt k es).run P w= .ok r w:=by
 simp only[Instr.findKey,Sem.run_bind,run_underlying hd,Result.andThen_ok]
 cases hn:Instr.findNow d k es 0 with
 |none=>exact h
 |some r' =>
  have:=zQ0 (P:=P) (w:=w) hd es 0 r' hn
  rw[h]at this
  simp only[Result.ok.injEq,and_true]at this
  subst this
  rfl
theorem TyOK.under(hT:TyOK P c) {t:TypeId} (hk:c.known t=true):∃ d,P.underlying t=some d:=by
 have h:=hT.kind t
 unfold Cfg.known at hk
 cases hkk:(c.at_ t).k<;>rw[hkk]at h hk<;>(try simp only at h)<;>(try simp only at hk)
 case other=>cases hk
 case struct fs=>obtain⟨fds,h1,_⟩:=h;exact⟨_,h1⟩
 case scalar=>obtain⟨d,h1,_⟩:=h;exact⟨_,h1⟩
 case slice e=>exact⟨_,h.1⟩
 case arr n e=>exact⟨_,h.1⟩
 case map k e=>exact⟨_,h.1⟩
 all_goals exact⟨_,h⟩
theorem zQ1(inv:Inv w0 S0 S L ow w) {v:Value} {a:AV} {ps:List (PV×PV)} (h:VA S L ow v a) (hp:mapO ow a some=some ps) :
 (v= .map none/\ps=[])∨∃ r es n,v= .map (some r)/\w.heap[r]? =some (.map es n)/\EntsR S es.toList ps:=by
 unfold mapO at hp
 cases a with
 |pv p =>
  simp only[zJ,zE,exists_eq_right]at hp
  have h' :VP S v p:=h
  cases p<;>try (simp only[PV.asMap]at hp;cases hp;done)
  ·rename_i qs
   simp only[PV.asMap,zE]at hp;subst hp
   cases h' with
   |map r es _ hl hS hk hv =>
    obtain⟨es',n,hb,he⟩:=z07 (inv.prot _ _ _ hS)
    simp only[zIt,Value.tuple.injEq,Array.mk.injEq,List.cons.injEq,and_true]at he
    obtain⟨e1,e2⟩:=he
    have hsz:es'.size=es.size:=by have:=congrArg Array.size e1;simpa using this
    refine .inr ⟨r,es',n,rfl,hb,by simpa [hsz]using hl,λ j e p he hp=> ?_⟩
    have hj:j<es'.size:=(Array.getElem?_eq_some_iff.1 (show es'[j]? =some e by simpa using he)).1
    have he' :es'[j]? =some e:=by simpa using he
    have hx:es[j]? =some es[j]:=zAj (by omega)
    have k1:(es'.map (·.key))[j]? =(es.map (·.key))[j]? :=by rw[e1]
    have k2:(es'.map (·.val))[j]? =(es.map (·.val))[j]? :=by rw[e2]
    rw[Array.getElem?_map,Array.getElem?_map,he',hx]at k1 k2
    simp only[zV,zE]at k1 k2
    rw[k1,k2]
    exact⟨hk j _ p hx hp,hv j _ p hx hp⟩
  ·rename_i v0
   unfold PV.asMap at hp
   split at hp
   ·rename_i heq;cases heq
   ·rename_i heq
    cases heq
    simp only[zE]at hp;subst hp
    cases h';exact .inl ⟨rfl,rfl⟩
   ·cases hp
 |mp o =>
  simp only at hp
  cases hob:ow[o]? with
  |none=>rw[hob]at hp;cases hp
  |some ob =>
   rw[hob]at hp
   cases ob<;>(try simp only at hp)<;>try (cases hp;done)
   rename_i sl es
   simp only[zE]at hp;subst hp
   obtain⟨b,hL,ho,rfl⟩:=h
   obtain⟨as,n,hh,hl,_,hkv,hz⟩:=inv.obs o _ _ hob hL
   exact .inr ⟨b,as,n,rfl,hh,by simpa using hl,λ j e p he hp=>hkv j e p (by simpa using he) hp⟩
 |gm o =>
  simp only at hp
  obtain⟨b,rfl,h⟩:=h
  cases hob:ow[o]? with
  |none=>rw[hob]at hp;cases hp
  |some ob =>
   rw[hob]at hp h
   cases ob<;>(try simp only at hp)<;>try (cases hp;done)
   rename_i sh out es
   simp only[zE]at hp;subst hp
   obtain⟨rs,hL⟩:=h
   obtain⟨as,n,hh,hl,hrs,_,hkv,_⟩:=inv.obs o _ _ hob hL
   refine .inr ⟨b,as,n,rfl,hh,by simpa using hl,λ j e p he hp=> ?_⟩
   have hj:j<rs.length:=by rw[hrs];exact(zQ.1 hp).1
   obtain⟨k1,k2,_⟩:=hkv j e p rs[j] (by simpa using he) hp (zH hj)
   exact⟨k1,k2⟩
 |_=>cases hp
theorem zFe{r:Nat} {es:Array MapEntry} {n:Nat} (h:w.heap[r]? =some (.map es n)):(getObj r).run P w= .ok (.map es n) w:=by simp[getObj,Sem.run,h]
theorem zHz{r:Nat} {es:Array MapEntry} {n:Nat} (h:w.heap[r]? =some (.map es n)) (o:Obj):(setObj r o).run P w= .ok () { w with heap:=w.heap.setIfInBounds r o }:=by simp[setObj,Sem.run,h]
theorem zXN(pre:Pre P c w0 w S0 S L ow r act) {t:TypeId} {x:Option Operand} (ho:o.op= .makeMap t x) (h:opD c call own o r ow=some (av,ow')) :
 Res P (G w0 S0 S L ow av ow') ((execOp act.eval o).run P w):=by
 unfold opD op1 at h;rw[ho]at h;simp only at h
 have hk:=pre.hT.kind t
 cases x with
 |some x=>cases h
 |none =>
 cases hkk:(c.at_ t).k<;>rw[hkk]at h hk<;>(try simp only at h)<;>(try simp only at hk)<;>try (cases h;done)
 have hrun:(execOp act.eval o).run P w= .ok (.value (.map (some w.heap.size))) (w.alloc (.map #[] 0)):=by
  simp[execOp,ho,Instr.makeMap,newObj,Sem.run]
 rw[hrun]
 cases hds:zDF own o with
 |true =>
  rw[hds]at h
  simp only[zA]at h
  split at h
  ·rename_i e _
   obtain⟨rfl,rfl⟩:=zT h
   obtain⟨k1,k2⟩:=pre.inv.push (ob:= .grp (c.sh e) none []) (l:= .grp w.heap.size []) (zDx w (.map #[] 0)) (Pr.le_refl S) (λ _ _ _=>rfl) (zEw pre.inv _)
    ⟨#[],0,by show(w.heap.push _)[w.heap.size]? =_;simp,rfl,rfl,rfl,λ j e p r h=>by simp at h,λ i j b' r r' h=>by simp at h,λ j r h=>by simp at h,λ j h=>by cases h⟩
    (λ b hb=>by
     simp only[zZ,zA9,List.flatten_nil,zBf]at hb;subst hb
     exact⟨zM _,by simp,λ j v hv=>(zJP pre.inv j v hv).elim⟩)
   obtain⟨m1,m2⟩:=k1.push (ob:= .row true 0 (c.sh e) []) (l:= .row none 0) (zHy _) (Pr.le_refl S) (λ _ _ _=>rfl) k1.prot
    ⟨zM _,by simp,.inl rfl⟩ (λ b hb=>by simp[zZ]at hb)
   have ea:ow++[.grp (c.sh e) none []]++[.row true 0 (c.sh e) []]=ow++[.grp (c.sh e) none [],.row true 0 (c.sh e) []]:=by simp
   rw[ea]at m1 m2
   refine⟨S,_,m1,k2.trans m2,w.heap.size,rfl,?_⟩
   rw[zAO (zM _),Nat.sub_self]
   exact⟨[],by rw[zAG,<-pre.inv.len,zAO (zM _),Nat.sub_self];rfl⟩
  ·cases h
 |false =>
 rw[hds]at h
 simp only[zC]at h
 obtain⟨rfl,rfl⟩:=zT h
 obtain⟨k1,k2⟩:=pre.inv.push (ob:= .map false []) (l:= .blk w.heap.size) (zDx w (.map #[] 0)) (Pr.le_refl S) (λ _ _ _=>rfl) (zEw pre.inv _)
  ⟨#[],0,by show(w.heap.push _)[w.heap.size]? =_;simp,rfl,⟨rfl,λ j e h=>by simp at h⟩,λ j e p h=>by simp at h,λ h=>by cases h⟩
  (λ b hb=>by
   simp only[zZ,zBf]at hb;subst hb
   exact⟨zM _,by simp,λ j v hv=>(zJP pre.inv j v hv).elim⟩)
 exact⟨S,_,k1,k2,⟨w.heap.size,by rw[<- pre.inv.len];simp,by simp,rfl⟩⟩
theorem zKH{R:Type} (ow:List Ob) (a:AV) (k:List (PV×PV)->Option R):mapO ow a k=(mapO ow a some).bind k:=by
 unfold mapO
 cases a with
 |pv p=>simp only;cases p.asMap<;>rfl
 |mp o =>
  simp only
  cases ow[o]? with
  |none=>rfl
  |some ob=>cases ob<;>rfl
 |gm o =>
  simp only
  cases ow[o]? with
  |none=>rfl
  |some ob=>cases ob<;>rfl
 |_=>rfl
theorem z6T(hT:TyOK P c) {t:TypeId} (hk:c.known t=true) {d:PV} (h:zDW [] (c.zero t) some=some d):∃ z,(∀ w,(zeroValue t).run P w= .ok z w)/\∀ S,VP S z d:=by
 obtain⟨z,hz,hzok⟩:=hT.zeroValue hk
 refine⟨z,hz,λ S=> ?_⟩
 obtain⟨hva,_⟩:=zMU (S:=λ _ _=>none) (L:=[]) (ow:=[]) hzok
 have inv:Inv (GL:=Gl.triv) (hand [] [] (default:World)) (λ _ _=>none) (λ _ _=>none) [] [] (default:World):=zOK (GL:=Gl.triv) (λ _ _ h=>h.elim) (by simp)
 exact(zB9 (GL:=Gl.triv) inv hva h).mono (λ b o v h=>by cases h)
theorem VPs.tup2{v u:Value} {p q:PV} (h:VP S v p) (k:VP S u q):VP S (.tuple #[v,u]) (.tup [p,q]) :=
 VP.tup _ _ rfl (λ j x y hx hy=>by
  match j,hx,hy with
  | 0,hx,hy=>simp at hx hy;subst hx;subst hy;exact h
  | 1,hx,hy=>simp at hx hy;subst hx;subst hy;exact k
  |(n+2),hx,hy=>simp at hx)
theorem zYf(pre:Pre P c w0 w S0 S L ow r act) {t:TypeId} {x i:Operand} {ok:Bool} (ho:o.op= .lookup t x i ok) (h:opD c call own o r ow=some (av,ow')) :
 Res P (G w0 S0 S L ow av ow') ((execOp act.eval o).run P w):=by
 unfold opD op1 at h;rw[ho]at h;simp only at h
 have hk:=pre.hT.kind t
 cases hkk:(c.at_ t).k<;>rw[hkk]at h hk<;>(try simp only at h)<;>(try simp only at hk)<;>try (cases h;done)
 rename_i kt et
 obtain⟨hu,hkk1,hke⟩:=hk
 rw[zKH]at h
 obtain⟨ps,hps,h1⟩:=zJ.1 h
 rw[zAN]at h1
 obtain⟨kp,hkp,h2⟩:=zJ.1 h1
 rw[zAN]at h2
 obtain⟨d,hd,h3⟩:=zJ.1 h2
 clear h h1 h2
 cases hok:zNe c 6 kt kp with
 |false=>rw[hok]at h3;cases h3
 |true =>
 rw[hok]at h3
 simp only[zA]at h3
 obtain⟨z,hz,h4⟩:=zJ.1 h3
 obtain⟨rfl,rfl⟩:=zT h4
 clear h3 h4
 have hkv:=zB9 pre.inv (pre.hr i kt) hkp
 obtain⟨zv,hzv,hzp⟩:=z6T pre.hT hke hd
 obtain⟨d1,hd1⟩:=pre.hT.under hkk1
 have hck:∀ em,(Instr.checkKey em 10000 kt (act.eval i)).run P w= .ok () w:=λ em=>zGs pre.hT em 6 10000 kt _ _ (by decide) hkv hok
 have hrun:∀ u,(Instr.lookup t (act.eval x) (act.eval i) ok).run P w= .ok u w->(execOp act.eval o).run P w= .ok (.value u) w:=λ u hu=>by simp[execOp,ho,hu]
 have fin:∀(es:Array MapEntry),EntsR S es.toList ps->(act.eval x= .map none/\es= #[]∨∃ m n,act.eval x= .map (some m)/\w.heap[m]? =some (.map es n)) ->
  ∃ u,(Instr.lookup t (act.eval x) (act.eval i) ok).run P w= .ok u w/\VP S u (bif ok then .tup [z.getD d,.bool z.isSome]else z.getD d):=λ es hes hx=>by
  obtain⟨rr,k1,k2⟩:=zSe (w:=w) pre.hT hkv es.toList ps 0 z hes hz
  have k3:=zKu hd1 k1
  have step:(Instr.lookup t (act.eval x) (act.eval i) ok).run P w=((Instr.findKey kt (act.eval i) es.toList).run P w).andThen λ a w' =>(match a with
   |some (_,v)=>(.ok (if ok then .tuple #[v,.bool true]else v) w' :Result Value)
   |none=> .ok (if ok then .tuple #[zv,.bool false]else zv) w'):=by
   rcases hx with⟨e,rfl⟩ | ⟨m,n,e,hh⟩
   ·simp only[Instr.lookup,Sem.run_bind,run_underlying hu,Result.andThen_ok,e,Sem.run_pure,hck]
    cases (Instr.findKey kt (act.eval i) _).run P w with
    |halt hh w' =>rfl
    |ok a w' =>cases a<;>simp[hzv]
   ·simp only[Instr.lookup,Sem.run_bind,run_underlying hu,Result.andThen_ok,e,zFe hh,Sem.run_pure,hck]
    cases (Instr.findKey kt (act.eval i) _).run P w with
    |halt hh w' =>rfl
    |ok a w' =>cases a<;>simp[hzv]
  rw[step,k3]
  cases z with
  |none =>
   simp only at k2;subst k2
   refine⟨_,rfl,?_⟩
   cases ok with
   |true=>exact VPs.tup2 (hzp S) (.bool _)
   |false=>exact hzp S
  |some v =>
   obtain⟨j,val,rfl,k4⟩:=k2
   refine⟨_,rfl,?_⟩
   cases ok with
   |true=>exact VPs.tup2 k4 (.bool _)
   |false=>exact k4
 rcases zQ1 pre.inv (pre.hr x t) hps with⟨e,rfl⟩ | ⟨m,es,n,e,hh,hes⟩
 ·obtain⟨u,k1,k2⟩:=fin #[] ⟨rfl,λ j e p h=>by simp at h⟩ (.inl ⟨e,rfl⟩)
  rw[hrun u k1]
  exact Good.same pre.inv k2
 ·obtain⟨u,k1,k2⟩:=fin es hes (.inr ⟨m,n,e,hh⟩)
  rw[hrun u k1]
  exact Good.same pre.inv k2
theorem zVx(inv:Inv w0 S0 S L ow w) {o b n n' :Nat} {ps qs:List (PV×PV)} {es es' :Array MapEntry} (hob:ow[o]? =some (.map false ps)) (hL:L[o]? =some (.blk b)) (hh:w.heap[b]? =some (.map es n))
 (hq:EntsR S es'.toList qs) (hB:n' =es'.size/\∀(j:Nat) (e:MapEntry),es'[j]? =some e->e.born=j) :
 ∃ L',Inv w0 S0 S L' (ow.set o (.map false qs)) { w with heap:=w.heap.setIfInBounds b (.map es' n') }/\Evo S L ow S L' (ow.set o (.map false qs)):=by
 have hE:Evo S L ow S (L.set o (.blk b)) (ow.set o (.map false qs)):=Evo.turn hob hL (Pr.le_refl S) (λ _ h _=>h) (by trivial)
 have mine:b∈zZ (.map false ps) (.blk b):=by simp[zZ]
 obtain⟨hb0,hblt,hSn⟩:=inv.own o _ _ b hob hL mine
 have noS:∀ j v,S b j=some v->False:=λ j v hv=>by have:=hSn j v hv;simp[mayS]at this
 have hother:∀ b',b' ≠b->(w.heap.setIfInBounds b (.map es' n'))[b']? =w.heap[b']? :=λ b' hne=>Array.getElem?_setIfInBounds_ne (Ne.symm hne)
 refine⟨_,inv.turn hob hL hE (by simp) rfl rfl rfl (λ b' hb' hne=>hother b' (λ e' =>hne (by rw[e'];exact mine))) (λ _ _ _ _=>rfl) ?_ ?_ ?_,hE⟩
 ·intro b' o' v hv
  by_cases e' :b' =b
  ·subst e';exact(noS o' v hv).elim
  ·rw[zCk (w:=w) (hother b' e')];exact inv.prot b' o' v hv
 ·refine⟨es',n',?_,by simpa using hq.1,hB,λ j e p he hp=>hq.2 j e p (by simpa using he) hp,λ h=>by cases h⟩
  show(w.heap.setIfInBounds b _)[b]? =_
  simp[hblt]
 ·intro b' hb'
  simp only[zZ,zBf]at hb';subst hb'
  exact⟨.inr mine,by simpa using hblt,λ j v hv=>(noS j v hv).elim⟩
theorem zVy{R:Type} (c:Cfg) (ow:List Ob) (kt et:TypeId) (m key x:AV) (k:AV->List Ob->Option R):putO c ow kt et m key x k=(putO c ow kt et m key x λ a b=>some (a,b)).bind λ z=>k z.1 z.2:=by
 unfold putO
 cases m<;>try rfl
 rename_i o
 simp only
 cases ow[o]? with
 |none=>rfl
 |some ob =>
  cases ob<;>try rfl
  rename_i sl es
  cases sl<;>try rfl
  simp only
  rw[zAN (R:=R),zAN (R:=AV×List Ob)]
  cases zDW ow key some with
  |none=>rfl
  |some kp =>
   simp only[zB]
   rw[zAN (R:=R),zAN (R:=AV×List Ob)]
   cases zDW ow x some with
   |none=>rfl
   |some v =>
    simp only[zB]
    cases zNe c 6 kt kp with
    |false=>rfl
    |true =>
     simp only[zA]
     cases mput (eqP c 6 kt) kp v es<;>rfl
theorem zXO(pre:Pre P c w0 w S0 S L ow r act) {t kt et:TypeId} (hkk:(c.at_ t).k= .map kt et) {m i x:Operand} (h:putO c ow kt et (r m t) (r i kt) (r x et) (λ a b=>some (a,b))=some (av,ow')) :
 ∃ w',(Instr.mapUpdate t (act.eval m) (act.eval i) (act.eval x)).run P w= .ok () w' /\G w0 S0 S L ow av ow' undef w' :=by
 have hk:=pre.hT.kind t
 rw[hkk]at hk
 obtain⟨hu,hkk1,hke⟩:=hk
 have hm:=pre.hr m t
 unfold putO at h
 cases hmv:r m t<;>rw[hmv]at h hm<;>try (cases h;done)
 rename_i ob
 simp only at h
 cases hob:ow[ob]? with
 |none=>rw[hob]at h;cases h
 |some oo =>
 rw[hob]at h
 cases oo<;>(try simp only at h)<;>try (cases h;done)
 rename_i sl ps
 cases sl with
 |true=>cases h
 |false =>
 simp only at h
 rw[zAN]at h
 obtain⟨kp,hkp,h1⟩:=zJ.1 h
 rw[zAN]at h1
 obtain⟨v,hv,h2⟩:=zJ.1 h1
 clear h h1
 cases hok:zNe c 6 kt kp with
 |false=>rw[hok]at h2;cases h2
 |true =>
 rw[hok]at h2
 simp only[zA]at h2
 obtain⟨qs,hqs,h3⟩:=zJ.1 h2
 clear h2
 obtain⟨rfl,rfl⟩:=zT h3
 obtain⟨b,hL,hlt,em⟩:=hm
 obtain⟨as,n,hh,hl,hBo,hkv,_⟩:=pre.inv.obs ob _ _ hob hL
 have hkvp:=zB9 pre.inv (pre.hr i kt) hkp
 have hxp:=zB9 pre.inv (pre.hr x et) hv
 have hes:EntsR S as.toList ps:=⟨by simpa using hl,λ j e p he hp=>hkv j e p (by simpa using he) hp⟩
 obtain⟨d1,hd1⟩:=pre.hT.under hkk1
 obtain⟨rr,k1,k2⟩:=zVw (w:=w) pre.hT (v:=v) hkvp as.toList ps 0 qs hes hqs
 have k3:=zKu hd1 k1
 have hck:(Instr.checkKey false 10000 kt (act.eval i)).run P w= .ok () w:=zGs pre.hT false 6 10000 kt _ _ (by decide) hkvp hok
 cases rr with
 |none =>
  simp only at k2
  obtain⟨L',m1,m2⟩:=zVx (n' :=n+1) (es' :=as.push { key:=act.eval i,val:=act.eval x,born:=n }) (qs:=qs) pre.inv hob hL hh (by
   rw[k2]
   refine⟨by simp[hl],λ j e p he hp=> ?_⟩
   simp only[Array.toList_push]at he
   by_cases hj:j<ps.length
   ·rw[zAW (by rw[hes.1];exact hj)]at he
    rw[zAW hj]at hp
    exact hes.2 j e p he hp
   ·have hj' :j=ps.length:=by
     have:=(zQ.1 hp).1
     simp at this;omega
    subst hj'
    rw[zAO (by rw[hes.1];exact zM _),hes.1]at he
    rw[zAO (zM _)]at hp
    simp at he hp
    subst he;subst hp
    exact⟨hkvp,hxp⟩) ⟨by simp[hBo.1],λ j e he=>by
     rw[Array.getElem?_push]at he
     split at he
     ·rename_i hj;simp only[zE]at he;subst he;exact hBo.1.trans hj.symm
     ·exact hBo.2 j e he⟩
  refine⟨_,?_,S,L',m1,m2,VP.undef _⟩
  simp only[Instr.mapUpdate,Sem.run_bind,run_underlying hu,Result.andThen_ok,em,zFe hh,hck,k3,zHz hh]
 |some q =>
  obtain⟨j,val⟩:=q
  obtain⟨n1,x1,u1,e1,e2,e3,e4⟩:=k2
  have ej:j=n1:=by omega
  subst ej
  have hjl:j<ps.length:=(zQ.1 e2).1
  have hja:j<as.size:=by rw[hl];exact hjl
  have hget:as[j]? =some as[j]:=zAj hja
  have hkeys:=hkv j as[j] (x1,u1) hget e2
  have hsb:Instr.sameBits 10000 as[j].key (act.eval i)=true:=zOg hkeys.1 hkvp e4 9999
  obtain⟨L',m1,m2⟩:=zVx (n' :=n) (es' :=as.modify j λ e=>{ e with key:=act.eval i,val:=act.eval x }) (qs:=qs) pre.inv hob hL hh (by
   rw[e3]
   refine⟨by simp[hl],λ j' e p he hp=> ?_⟩
   rw[Array.getElem?_toList,Array.getElem?_modify]at he
   by_cases hjj:j=j'
   ·subst hjj
    rw[zAJ hjl]at hp
    simp only[if_true,hget,zV,zE]at he hp
    subst he;subst hp
    exact⟨hkvp,hxp⟩
   ·rw[if_neg hjj]at he
    rw[zAr hjj]at hp
    exact hkv j' e p (by simpa using he) hp) ⟨by simp[hBo.1],λ j' e he=>by
     rw[Array.getElem?_modify]at he
     by_cases hjj:j=j'
     ·subst hjj
      simp only[if_true,hget,zV,zE]at he
      subst he
      exact hBo.2 j as[j] hget
     ·rw[if_neg hjj]at he;exact hBo.2 j' e he⟩
  refine⟨_,?_,S,L',m1,m2,VP.undef _⟩
  simp only[Instr.mapUpdate,Sem.run_bind,run_underlying hu,Result.andThen_ok,em,zFe hh,hck,k3,hget,zV,Option.getD_some,Instr.keyThatStays,hsb,if_true,Sem.run_pure,zHz hh]
theorem zNQ(pre:Pre P c w0 w S0 S L ow r act) {t:TypeId} {m i x:Operand} (ho:o.op= .mapUpdate t m i x∨o.op= .insert t m i x) (h:opD c call own o r ow=some (av,ow')) :
 Res P (G w0 S0 S L ow av ow') ((execOp act.eval o).run P w):=by
 have h' :(match (c.at_ t).k with | .map kt et=>putO c ow kt et (r m t) (r i kt) (r x et) (λ a b=>some (a,b)) | _=>none)=some (av,ow'):=by
  unfold opD op1 at h
  rcases ho with ho | ho<;>rw[ho]at h<;>exact h
 cases hkk:(c.at_ t).k<;>rw[hkk]at h' <;>(try simp only at h')<;>try (cases h';done)
 obtain⟨w',k1,k2⟩:=zXO pre hkk h'
 have hrun:(execOp act.eval o).run P w= .ok .skip w' :=by rcases ho with ho | ho<;>simp[execOp,ho,k1]
 rw[hrun]
 exact k2
theorem zSf(pre:Pre P c w0 w S0 S L ow r act) {t:TypeId} {l n:Operand} (ho:o.op= .makeSlice t l n) (h:opD c call own o r ow=some (av,ow')) :
 Res P (G w0 S0 S L ow av ow') ((execOp act.eval o).run P w):=by
 unfold opD op1 at h;rw[ho]at h;simp only at h
 obtain⟨kd,x,hx,h1⟩:=zEn h
 obtain⟨kd',y,hy,h2⟩:=zEn h1
 clear h h1
 have hlx:=zSc pre hx
 have hny:=zSc pre hy
 have hk:=pre.hT.kind t
 cases hkk:(c.at_ t).k<;>rw[hkk]at h2 hk<;>(try simp only at h2)<;>(try simp only at hk)<;>try (cases h2;done)
 rename_i e
 obtain⟨hu,hke⟩:=hk
 cases hc:(decide (x=y)&&decide (0<=x)&&decide (x<=(lim:Int))&&decide ((c.at_ e).by_<=4096)) with
 |false=>rw[hc]at h2;cases h2
 |true =>
 rw[hc]at h2
 simp only[zF,zU]at hc
 obtain⟨⟨⟨rfl,h0⟩,hlim⟩,hby⟩:=hc
 simp only[zA]at h2
 rw[zAN]at h2
 obtain⟨d,hd,h3⟩:=zJ.1 h2
 clear h2
 cases hds:d.okSh (c.sh e) with
 |false=>rw[hds]at h3;cases h3
 |true =>
 rw[hds]at h3
 simp only[zA]at h3
 obtain⟨inf,i1,i2,i3,i4,z,i5,hzok⟩:=pre.hT.info e hke
 have hzp:VP S z d:=by
  obtain⟨hva,_⟩:=zMU (S:=λ _ _=>none) (L:=[]) (ow:=[]) hzok
  have inv:Inv (GL:=Gl.triv) (hand [] [] (default:World)) (λ _ _=>none) (λ _ _=>none) [] [] (default:World):=zOK (GL:=Gl.triv) (λ _ _ h=>h.elim) (by simp)
  exact(zB9 (GL:=Gl.triv) inv hva hd).mono (λ b o v h=>by cases h)
 obtain⟨c1,c2,c3⟩:=hzp.cells hds
 have hlenp:=PV.cells_len hds
 obtain⟨m,rfl⟩:∃ m:Nat,x=m:=⟨x.toNat,by omega⟩
 have hm:m<=4294967296:=by unfold lim at hlim;omega
 have hrun:(execOp act.eval o).run P w= .ok (.value (.slice (some ⟨w.heap.size,0,none⟩) m m)) (w.alloc (.cells (madeCells z.cells (m*inf.size)) e)):=by
  have:=run_make (P:=P) w t e inf z hu i1 i5 kd kd' m m h0 (Int.le_refl _) (by
   rw[i3]
   have h2:((c.at_ e).by_*m:Nat)<=(281474976710656:Nat):=Nat.le_trans (Nat.mul_le_mul hby hm) (by decide)
   have h3:(((c.at_ e).by_*m:Nat):Int)<=((281474976710656:Nat):Int):=Int.ofNat_le.2 h2
   rw[Int.natCast_mul]at h3
   exact h3) (by omega)
  simp[execOp,ho,hlx,hny,this]
 rw[hrun]
 simp only[zY]at h3
 have hxl:(List.replicate m d).length=m:=by simp
 have hxs:∀ y∈List.replicate m d,y.okSh (c.sh e)=true:=λ y hy=>by rw[(List.mem_replicate.1 hy).2];exact hds
 have hcells:CellsOf S (λ j=>(madeCells z.cells (m*inf.size))[j]?) (c.sh e) (List.replicate m d):=λ i j hi hj=>by
  rw[hxl]at hi
  rw[i2]
  have hlt:i*szOf (c.sh e)+j<m*szOf (c.sh e):=by
   have:(i+1)*szOf (c.sh e)<=m*szOf (c.sh e):=Nat.mul_le_mul_right _ hi
   rw[zAw,Nat.one_mul]at this;omega
  have hmod:(i*szOf (c.sh e)+j) % z.cells.size=j:=by
   rw[c1,Nat.mul_comm,Nat.mul_add_mod,Nat.mod_eq_of_lt hj]
  have hjz:j<z.cells.size:=by rw[c1];exact hj
  refine⟨z.cells[j],?_,c2 _ (Array.getElem_mem hjz),λ y p hy hp=> ?_⟩
  ·simp only[madeCells]
   rw[Array.getElem?_map,Array.getElem?_range,if_pos hlt]
   simp only[zV,hmod]
   rw[getElem!_pos z.cells j hjz]
  ·have ey:y=d:=by
    rw[List.getElem?_replicate]at hy
    split at hy
    ·exact(Option.some.inj hy).symm
    ·exact absurd hi ‹_›
   subst ey
   exact c3 j _ p (zAj hjz) hp
 cases hd' :zDF own o with
 |true =>
  rw[hd']at h3
  simp only[zA]at h3
  obtain⟨rfl,rfl⟩:=zT h3
  obtain⟨L',n1,n2,n3⟩:=zKG (cap:=m) pre.inv e hxl (zM _) (by rw[size_madeCells,i2];exact zM _) hxs hcells
  exact⟨S,L',n1,n2,n3⟩
 |false =>
  rw[hd']at h3
  simp only[zC]at h3
  obtain⟨rfl,rfl⟩:=zT h3
  obtain⟨n1,n2,n3⟩:=zMS (cap:=m) pre.inv e hxl (zM _) hxs hcells
  exact⟨_,L,n1,Evo.grow n2 _ _,n3⟩
end
end Go.Ab

namespace Go.Ab
open Go.RowKit (Below)
variable [GL:Gl]
section like
variable {R:Type}
theorem zGh{α:Type} {like:α->α->(α->Option R)->Option R} (h:∀ z p k y,like z p k=some y->k p=some y)
 {likes:List α->Nat->List α->(List α->Option R)->Option R} (h0:∀ i cs k,likes [] i cs k=bif cs.length==i then k []else none)
 (h1:∀ z zs i cs k,likes (z::zs) i cs k=(cs[i]?).bind λ p=>like z p λ p' =>likes zs (i+1) cs λ ps' =>k (p' ::ps')) :
 ∀(zs:List α) (i:Nat) (cs:List α) (k:List α->Option R) (y:R),likes zs i cs k=some y->k (cs.drop i)=some y
 | [],i,cs,k,y,e=>by
  rw[h0]at e
  cases hc:(cs.length==i) with
  |false=>rw[hc]at e;cases e
  |true =>
   rw[hc]at e
   have:=beq_iff_eq.1 hc
   rw[List.drop_of_length_le (by omega)];exact e
 |z::zs,i,cs,k,y,e=>by
  rw[h1]at e
  obtain⟨p,hp,e⟩:=zJ.1 e
  have e:=zGh h h0 h1 zs (i+1) cs _ y (h _ _ _ _ e)
  obtain⟨hi,rfl⟩:=zQ.1 hp
  rw[zAv hi];exact e
theorem zYg{k:IntKind} {p:PV} {n:Int} (h:PV.asIntK k p=some n):p= .int k n:=by
 cases p<;>simp only[PV.asIntK]at h<;>try (cases h;done)
 rename_i k' m
 cases hd:decide (k' =k) with
 |false=>rw[hd]at h;cases h
 |true =>
  rw[hd]at h
  have e:=zAM hd
  subst e
  simp only[zA,zE]at h;subst h;rfl
theorem zXP{sh:Nat} {p:PV} {xs:List PV} (h:PV.asSlice sh p=some xs):p= .slice sh xs:=by
 cases p<;>simp only[PV.asSlice]at h<;>try (cases h;done)
 rename_i sh' ys
 cases he:(sh==sh') with
 |false=>rw[he]at h;cases h
 |true =>
  rw[he]at h
  have e:=beq_iff_eq.1 he;subst e
  simp only[zA,zE]at h;subst h;rfl
theorem zYh{p:PV} {es:List (PV×PV)} (h:PV.asMapS p=some es):p= .map es:=by
 cases p<;>simp only[PV.asMapS]at h<;>try (cases h;done)
 simp only[zE]at h;rw[h]
theorem zVz{p:PV} {cs:List PV} (h:PV.asAgg p=some cs):p= .agg cs:=by
 cases p<;>simp only[PV.asAgg]at h<;>try (cases h;done)
 simp only[zE]at h;rw[h]
theorem zWA{sh off:Nat} {p v:PV} (h:PV.asImm sh off p=some v):p= .imm sh v off:=by
 cases p<;>simp only[PV.asImm]at h<;>try (cases h;done)
 rename_i sh' v' off'
 cases he:(sh==sh' &&off==off') with
 |false=>rw[he]at h;cases h
 |true =>
  rw[he]at h
  simp only[zF,beq_iff_eq]at he
  obtain⟨rfl,rfl⟩:=he
  simp only[zA,zE]at h;subst h;rfl
theorem zKv{t p:PV} {k:PV->Option R} {y:R} (h:zL4 t p k=some y):k p=some y:=by
 unfold zL4 at h
 split at h
 ·obtain⟨n,hn,h⟩:=zJ.1 h;rw[zYg hn];exact h
 ·obtain⟨n,hn,h⟩:=zJ.1 h;rw[zGq hn];exact h
 ·obtain⟨n,hn,h⟩:=zJ.1 h;rw[zH0 hn];exact h
 ·obtain⟨n,hn,h⟩:=zJ.1 h;rw[zXP hn];exact h
 ·obtain⟨n,hn,h⟩:=zJ.1 h;rw[zYh hn];exact h
 ·exact h
theorem zOh{zs:List PV} {i:Nat} {cs:List PV} {k:List PV->Option R} {y:R} (h:zL5 zs i cs k=some y):k (cs.drop i)=some y :=
 zGh (like:=zL4) (likes:=zL5) (λ _ _ _ _=>zKv) (λ _ _ _=>rfl) (λ _ _ _ _ _=>rfl) zs i cs k y h
theorem zQ2{t p:PV} {k:PV->Option R} {y:R} (h:zUU t p k=some y):k p=some y:=by
 unfold zUU at h
 split at h
 ·obtain⟨n,hn,h⟩:=zJ.1 h;rw[zVz hn];exact zOh h
 ·obtain⟨n,hn,h⟩:=zJ.1 h
  obtain⟨m,hm,h⟩:=zJ.1 h
  rw[zWA hn,zVz hm];exact zOh h
 ·rename_i sh t off _
  obtain⟨n,hn,h⟩:=zJ.1 h;rw[zWA hn];exact zKv (k:=λ v' =>k (.imm sh v' off)) h
 ·exact zKv h
theorem AV.asPv_of{a:AV} {p:PV} (h:a.asPv=some p):a= .pv p:=by
 cases a<;>simp only[AV.asPv]at h<;>try (cases h;done)
 simp only[zE]at h;rw[h]
theorem AV.isOwn_of{a:AV} {o off:Nat} (h:a.isOwn o off=true):a= .own o off:=by
 cases a<;>simp only[AV.isOwn]at h<;>try (cases h;done)
 simp only[zF,beq_iff_eq]at h;rw[h.1,h.2]
theorem AV.isMp_of{a:AV} {o:Nat} (h:a.isMp o=true):a= .mp o:=by
 cases a<;>simp only[AV.isMp]at h<;>try (cases h;done)
 simp only[beq_iff_eq]at h;rw[h]
theorem AV.isNil_of{a:AV} {o:Nat} (h:a.isNil o=true):a= .nil o:=by
 cases a<;>simp only[AV.isNil]at h<;>try (cases h;done)
 simp only[beq_iff_eq]at h;rw[h]
theorem AV.isView_of{a:AV} {o:Nat} (h:a.isView o=true):a= .view o 0 none:=by
 unfold AV.isView at h
 split at h
 ·simp only[beq_iff_eq]at h;rw[h]
 ·cases h
theorem AV.asAggA_of{a:AV} {cs:List AV} (h:a.asAggA=some cs):a= .agg cs:=by
 cases a<;>simp only[AV.asAggA]at h<;>try (cases h;done)
 simp only[zE]at h;rw[h]
theorem AV.asTupA_of{a:AV} {cs:List AV} (h:a.asTupA=some cs):a= .tupA cs:=by
 cases a<;>simp only[AV.asTupA]at h<;>try (cases h;done)
 simp only[zE]at h;rw[h]
theorem AV.asFnv_of{a:AV} {f:FuncId} {x:List AV×List AV} (h:a.asFnv f=some x):a= .fnv f x.1 x.2:=by
 cases a<;>simp only[AV.asFnv]at h<;>try (cases h;done)
 rename_i g fs cs
 cases hd:(f==g) with
 |false=>rw[hd]at h;cases h
 |true =>
  rw[hd]at h
  simp only[zA,zE]at h;subst h
  rw[beq_iff_eq.1 hd]
theorem bif_some{b:Bool} {x:Option R} {y:R} (h:(bif b then x else none)=some y):b=true/\x=some y:=by
 cases b with
 |true=>exact⟨rfl,h⟩
 |false=>cases h
theorem zXQ{t p:AV} {k:AV->Option R} {y:R} (h:zUV t p k=some y):k p=some y:=by
 unfold zUV at h
 split at h
 ·obtain⟨n,hn,h⟩:=zJ.1 h;rw[AV.asPv_of hn];exact zQ2 h
 ·obtain⟨hb,h⟩:=bif_some h;rw[AV.isOwn_of hb];exact h
 ·obtain⟨hb,h⟩:=bif_some h;rw[AV.isMp_of hb];exact h
 ·cases h
theorem zOi{zs:List AV} {i:Nat} {cs:List AV} {k:List AV->Option R} {y:R} (h:zL6 zs i cs k=some y):k (cs.drop i)=some y :=
 zGh (like:=zUV) (likes:=zL6) (λ _ _ _ _=>zXQ) (λ _ _ _=>rfl) (λ _ _ _ _ _=>rfl) zs i cs k y h
theorem zQ3{t p:AV} {k:AV->Option R} {y:R} (h:zSY t p k=some y):k p=some y:=by
 unfold zSY at h
 split at h
 ·obtain⟨n,hn,h⟩:=zJ.1 h;rw[AV.asPv_of hn];exact zQ2 h
 ·obtain⟨hb,h⟩:=bif_some h;rw[AV.isNil_of hb];exact h
 ·obtain⟨hb,h⟩:=bif_some h;rw[AV.isView_of hb];exact h
 ·obtain⟨hb,h⟩:=bif_some h;rw[AV.isOwn_of hb];exact h
 ·obtain⟨hb,h⟩:=bif_some h;rw[AV.isMp_of hb];exact h
 ·obtain⟨x,hx,h⟩:=zJ.1 h
  rw[AV.asFnv_of hx]
  have h2:=zOi h
  simp only[List.drop_zero]at h2
  have h3:=zOi h2
  simpa only[List.drop_zero]using h3
 ·cases h
theorem zU5{zs:List AV} {i:Nat} {cs:List AV} {k:List AV->Option R} {y:R} (h:zNH zs i cs k=some y):k (cs.drop i)=some y :=
 zGh (like:=zSY) (likes:=zNH) (λ _ _ _ _=>zQ3) (λ _ _ _=>rfl) (λ _ _ _ _ _=>rfl) zs i cs k y h
theorem zMW{t p:AV} {k:AV->Option R} {y:R} (h:zRC t p k=some y):k p=some y:=by
 unfold zRC at h
 split at h
 ·obtain⟨n,hn,h⟩:=zJ.1 h;rw[AV.asAggA_of hn];simpa only[List.drop_zero]using zU5 h
 ·exact zQ3 h
theorem zU6{zs:List AV} {i:Nat} {cs:List AV} {k:List AV->Option R} {y:R} (h:zNI zs i cs k=some y):k (cs.drop i)=some y :=
 zGh (like:=zRC) (likes:=zNI) (λ _ _ _ _=>zMW) (λ _ _ _=>rfl) (λ _ _ _ _ _=>rfl) zs i cs k y h
theorem zXR{t p:AV} {k:AV->Option R} {y:R} (h:zXF t p k=some y):k p=some y:=by
 unfold zXF at h
 split at h
 ·obtain⟨n,hn,h⟩:=zJ.1 h;rw[AV.asTupA_of hn];simpa only[List.drop_zero]using zU6 h
 ·exact zMW h
theorem zU7{t p:Ob} {k:Ob->Option R} {y:R} (h:zO6 t p k=some y):k p=some y:=by
 unfold zO6 at h
 split at h
 ·obtain⟨a,ha,h2⟩:=zJ.1 h
  cases p<;>simp only[Ob.asVar]at ha<;>try (cases ha;done)
  obtain⟨hb,ha2⟩:=bif_some ha
  clear ha
  simp only[zF,beq_iff_eq]at hb
  obtain⟨rfl,rfl⟩:=hb
  cases ha2
  exact zMW h2
 ·obtain⟨a,ha,h2⟩:=zJ.1 h
  cases p<;>simp only[Ob.asRow]at ha<;>try (cases ha;done)
  obtain⟨hb,ha2⟩:=bif_some ha
  clear ha
  simp only[zF,beq_iff_eq]at hb
  obtain⟨⟨rfl,rfl⟩,rfl⟩:=hb
  cases ha2
  exact h2
 ·obtain⟨a,ha,h2⟩:=zJ.1 h
  cases p<;>simp only[Ob.asMapB]at ha<;>try (cases ha;done)
  obtain⟨hb,ha2⟩:=bif_some ha
  clear ha
  simp only[beq_iff_eq]at hb
  subst hb
  cases ha2
  exact h2
 ·obtain⟨a,ha,h2⟩:=zJ.1 h
  cases p<;>simp only[Ob.asSit]at ha<;>try (cases ha;done)
  cases ha
  exact h2
 ·obtain⟨a,ha,h2⟩:=zJ.1 h
  cases p<;>simp only[Ob.asFix]at ha<;>try (cases ha;done)
  obtain⟨hb,ha2⟩:=bif_some ha
  clear ha
  simp only[zF,beq_iff_eq]at hb
  obtain⟨rfl,rfl⟩:=hb
  cases ha2
  exact h2
 ·obtain⟨a,ha,h2⟩:=zJ.1 h
  cases p<;>try (simp only[Ob.asGrp]at ha;cases ha;done)
  rename_i sh' out es
  cases out with
  |some j=>simp only[Ob.asGrp]at ha;cases ha
  |none =>
  simp only[Ob.asGrp]at ha
  obtain⟨hb,ha2⟩:=bif_some ha
  clear ha
  simp only[beq_iff_eq]at hb
  subst hb
  cases ha2
  exact h2
 ·obtain⟨hb,h⟩:=bif_some h
  cases p<;>simp only[Ob.isDead]at hb<;>try (cases hb;done)
  exact h
theorem zSg{zs:List Ob} {i:Nat} {cs:List Ob} {k:List Ob->Option R} {y:R} (h:zJK zs i cs k=some y):k (cs.drop i)=some y :=
 zGh (like:=zO6) (likes:=zJK) (λ _ _ _ _=>zU7) (λ _ _ _=>rfl) (λ _ _ _ _ _=>rfl) zs i cs k y h
theorem zOj{t z:AV×List Ob} {k:AV×List Ob->Option R} {y:R} (h:zNJ t z k=some y):k z=some y:=by
 unfold zNJ at h
 have h2:=zSg (zXR h)
 simpa only[List.drop_zero]using h2
theorem zXS{ts:List (AV×List Ob)} {z:AV×List Ob} {k:AV×List Ob->Option R} {y:R} (h:zXG ts z k=some y):k z=some y:=by
 unfold zXG at h
 split at h
 ·cases h
 ·exact zOj h
 ·cases hb:z.1.headOwn<;>rw[hb]at h<;>exact zOj h
end like
end Go.Ab

namespace Go.Ab
open Go.RowKit (Below)
variable [GL:Gl]
section
variable {P:Program} {c:Cfg} {w0:Base} {w:World} {S0 S:Pr} {L:List Loc} {ow:List Ob}
def Mv(f:Nat->Option (Nat×Nat)) (L:List Loc) (ow:List Ob) (L' :List Loc) (ow' :List Ob):Prop :=
 ∀(o:Nat) (x:Nat×Nat),f o=some x->o<ow.length->x.1<ow'.length/\L'[x.1]? =L[o]? /\
  ∀ sl ver sh xs,ow[o]? =some (.row sl ver sh xs)->ow'[x.1]? =some .dead∨∃ sl',ow'[x.1]? =some (.row sl' x.2 sh xs)
theorem Mv.va0{f:Nat->Option (Nat×Nat)} {L' :List Loc} {ow' :List Ob} {S' :Pr} (m:Mv f L ow L' ow') (hS:S.le S') {v:Value} {a:AV} (h:VA0 S L ow.length v a):VA0 S' L' ow'.length v (mv0 f a):=by
 cases a with
 |pv p=>exact VP.mono hS h
 |own o off =>
  obtain⟨b,h1,h2,h3⟩:=h
  simp only[mv0]
  cases hf:f o with
  |none=>exact VP.undef v
  |some x=>obtain⟨k1,k2,_⟩:=m o x hf h2;exact⟨b,k2.trans h1,k1,h3⟩
 |mp o =>
  obtain⟨b,h1,h2,h3⟩:=h
  simp only[mv0]
  cases hf:f o with
  |none=>exact VP.undef v
  |some x=>obtain⟨k1,k2,_⟩:=m o x hf h2;exact⟨b,k2.trans h1,k1,h3⟩
 |_=>exact VP.undef v
theorem Mv.va1{f:Nat->Option (Nat×Nat)} {L' :List Loc} {ow' :List Ob} {S' :Pr} (m:Mv f L ow L' ow') (hS:S.le S') {v:Value} {a:AV} (h:VA1 S L ow v a):VA1 S' L' ow' v (mv1 ow f a):=by
 cases a with
 |pv p=>exact VP.mono hS h
 |nil sh=>exact h
 |sl bb sh xxs=>exact VP.undef v
 |gm o=>exact VP.undef v
 |fe o i off=>exact VP.undef v
 |fx o s =>
  obtain⟨base,k,cap,h1,h2,h3⟩:=h
  simp only[mv1]
  cases hf:f o with
  |none=>exact VP.undef v
  |some x=>obtain⟨k1,k2,_⟩:=m o x hf h2;exact⟨base,k,cap,k2.trans h1,k1,h3⟩
 |agg cs=>exact VP.undef v
 |tupA as=>exact VP.undef v
 |own o off =>
  obtain⟨b,h1,h2,h3⟩:=h
  simp only[mv1]
  cases hf:f o with
  |none=>exact VP.undef v
  |some x=>obtain⟨k1,k2,_⟩:=m o x hf h2;exact⟨b,k2.trans h1,k1,h3⟩
 |mp o =>
  obtain⟨b,h1,h2,h3⟩:=h
  simp only[mv1]
  cases hf:f o with
  |none=>exact VP.undef v
  |some x=>obtain⟨k1,k2,_⟩:=m o x hf h2;exact⟨b,k2.trans h1,k1,h3⟩
 |fnv g first caps =>
  obtain⟨fs,cs,e,hm,hl,k1,k2⟩:=h
  refine⟨fs,cs,e,by simpa using hm,by simpa using hl,λ j x a hx ha=> ?_,λ j x a hx ha=> ?_⟩
  ·rw[zN]at ha
   cases hc:first[j]? with
   |none=>rw[hc]at ha;cases ha
   |some a0=>rw[hc]at ha;simp at ha;subst ha;exact m.va0 hS (k1 j x a0 hx hc)
  ·rw[zN]at ha
   cases hc:caps[j]? with
   |none=>rw[hc]at ha;cases ha
   |some a0=>rw[hc]at ha;simp at ha;subst ha;exact m.va0 hS (k2 j x a0 hx hc)
 |view o ver s =>
  simp only[mv1]
  obtain⟨h1,h2⟩:=h
  cases hob:ow[o]? with
  |none=>exact VP.undef v
  |some ob =>
   rw[hob]at h2
   cases ob<;>simp only at h2⊢ <;>first | exact VP.undef v | skip
   rename_i sl ver' sh xs
   cases hv:(ver==ver') with
   |false=>exact VP.undef v
   |true =>
    simp only[zA]
    cases hf:f o with
    |none=>exact VP.undef v
    |some x =>
     obtain⟨k1,k2,k3⟩:=m o x hf (zQ.1 hob).1
     obtain⟨base,cap,m1,m2⟩:=h2.2 (beq_iff_eq.1 hv)
     refine⟨h1,?_⟩
     rcases k3 _ _ _ _ hob with e | ⟨sl',e⟩<;>rw[e]
     ·trivial
     ·exact⟨zM _,λ _=>⟨base,cap,k2.trans m1,m2⟩⟩
 |elem o ver i off =>
  simp only[mv1]
  obtain⟨h1,h2⟩:=h
  cases hob:ow[o]? with
  |none=>exact VP.undef v
  |some ob =>
   rw[hob]at h2
   cases ob<;>simp only at h2⊢ <;>first | exact VP.undef v | skip
   rename_i sl ver' sh xs
   cases hv:(ver==ver') with
   |false=>exact VP.undef v
   |true =>
    simp only[zA]
    cases hf:f o with
    |none=>exact VP.undef v
    |some x =>
     obtain⟨k1,k2,k3⟩:=m o x hf (zQ.1 hob).1
     obtain⟨hi,b,o0,cap,m1,m2⟩:=h2.2 (beq_iff_eq.1 hv)
     refine⟨h1,?_⟩
     rcases k3 _ _ _ _ hob with e | ⟨sl',e⟩<;>rw[e]
     ·trivial
     ·exact⟨zM _,λ _=>⟨hi,b,o0,cap,k2.trans m1,m2⟩⟩
theorem zJS{f:Nat->Option (Nat×Nat)} {a:AV}:(∀ cs,mv1 ow f a≠ .agg cs)/\∀ cs,mv1 ow f a≠ .tupA cs:=by
 cases a with
 |pv p=>exact⟨λ _ h=>(by cases h),λ _ h=>(by cases h)⟩
 |nil sh=>exact⟨λ _ h=>(by cases h),λ _ h=>(by cases h)⟩
 |sl bb sh xxs=>exact⟨λ _ h=>(by cases h),λ _ h=>(by cases h)⟩
 |gm o=>exact⟨λ _ h=>(by cases h),λ _ h=>(by cases h)⟩
 |fe o i off=>exact⟨λ _ h=>(by cases h),λ _ h=>(by cases h)⟩
 |fx o s=>simp only[mv1];split<;>exact⟨λ _ h=>(by cases h),λ _ h=>(by cases h)⟩
 |agg l=>exact⟨λ _ h=>(by cases h),λ _ h=>(by cases h)⟩
 |tupA l=>exact⟨λ _ h=>(by cases h),λ _ h=>(by cases h)⟩
 |fnv g fs cs=>exact⟨λ _ h=>(by cases h),λ _ h=>(by cases h)⟩
 |own o off=>simp only[mv1];cases f o<;>exact⟨λ _ h=>(by cases h),λ _ h=>(by cases h)⟩
 |mp o=>simp only[mv1];cases f o<;>exact⟨λ _ h=>(by cases h),λ _ h=>(by cases h)⟩
 |view o ver s =>
  simp only[mv1]
  split
  ·rename_i ver' _ _ _
   cases (ver==ver') with
   |false=>exact⟨λ _ h=>(by cases h),λ _ h=>(by cases h)⟩
   |true=>simp only[zA];cases f o<;>exact⟨λ _ h=>(by cases h),λ _ h=>(by cases h)⟩
  ·exact⟨λ _ h=>(by cases h),λ _ h=>(by cases h)⟩
 |elem o ver i off =>
  simp only[mv1]
  split
  ·rename_i ver' _ _ _
   cases (ver==ver') with
   |false=>exact⟨λ _ h=>(by cases h),λ _ h=>(by cases h)⟩
   |true=>simp only[zA];cases f o<;>exact⟨λ _ h=>(by cases h),λ _ h=>(by cases h)⟩
  ·exact⟨λ _ h=>(by cases h),λ _ h=>(by cases h)⟩
theorem VA.ofVA1{L' :List Loc} {ow' :List Ob} {v:Value} {a:AV} (hn:(∀ cs,a≠ .agg cs)/\∀ cs,a≠ .tupA cs) (h:VA1 S L' ow' v a):VA S L' ow' v a:=by
 cases a<;>first | exact h | exact absurd rfl (hn.1 _) | exact absurd rfl (hn.2 _)
theorem VA2.ofVA1{L' :List Loc} {ow' :List Ob} {v:Value} {a:AV} (hn:(∀ cs,a≠ .agg cs)/\∀ cs,a≠ .tupA cs) (h:VA1 S L' ow' v a):VA2 S L' ow' v a:=by
 cases a<;>first | exact h | exact absurd rfl (hn.1 _) | exact absurd rfl (hn.2 _)
theorem Mv.cells{f:Nat->Option (Nat×Nat)} {L' :List Loc} {ow' :List Ob} {S' :Pr} (m:Mv f L ow L' ow') (hS:S.le S') {vs:Array Value} {cs:List AV}
 (h:∀(j:Nat) (x:Value) (c:AV),vs[j]? =some x->cs[j]? =some c->VA1 S L ow x c):∀(j:Nat) (x:Value) (c:AV),vs[j]? =some x->(cs.map (mv1 ow f))[j]? =some c->VA1 S' L' ow' x c:=λ j x c hx hc=>by
 rw[zN]at hc
 cases hcs:cs[j]? with
 |none=>rw[hcs]at hc;cases hc
 |some a0=>rw[hcs]at hc;simp at hc;subst hc;exact m.va1 hS (h j x a0 hx hcs)
theorem Mv.va2{f:Nat->Option (Nat×Nat)} {L' :List Loc} {ow' :List Ob} {S' :Pr} (m:Mv f L ow L' ow') (hS:S.le S') {v:Value} {a:AV} (h:VA2 S L ow v a):VA2 S' L' ow' v (mv2 ow f a):=by
 cases a with
 |agg cs =>
  obtain⟨vs,e,hl,h1,h2⟩:=h
  exact⟨vs,e,by simpa using hl,h1,m.cells hS h2⟩
 |tupA as=>exact h.elim
 |pv p=>exact VA2.ofVA1 (zJS (f:=f) (ow:=ow) (a:= .pv p)) (m.va1 hS (a:= .pv p) h)
 |nil sh=>exact VA2.ofVA1 (zJS (f:=f) (ow:=ow) (a:= .nil sh)) (m.va1 hS (a:= .nil sh) h)
 |sl bb sh xxs=>exact VA2.ofVA1 (zJS (f:=f) (ow:=ow) (a:= .sl bb sh xxs)) (m.va1 hS (a:= .sl bb sh xxs) h)
 |gm o=>exact VA2.ofVA1 (zJS (f:=f) (ow:=ow) (a:= .gm o)) (m.va1 hS (a:= .gm o) h)
 |fx o s=>exact VA2.ofVA1 (zJS (f:=f) (ow:=ow) (a:= .fx o s)) (m.va1 hS (a:= .fx o s) h)
 |fe o i off=>exact VA2.ofVA1 (zJS (f:=f) (ow:=ow) (a:= .fe o i off)) (m.va1 hS (a:= .fe o i off) h)
 |view o ver s=>exact VA2.ofVA1 (zJS (f:=f) (ow:=ow) (a:= .view o ver s)) (m.va1 hS (a:= .view o ver s) h)
 |own o off=>exact VA2.ofVA1 (zJS (f:=f) (ow:=ow) (a:= .own o off)) (m.va1 hS (a:= .own o off) h)
 |elem o ver i off=>exact VA2.ofVA1 (zJS (f:=f) (ow:=ow) (a:= .elem o ver i off)) (m.va1 hS (a:= .elem o ver i off) h)
 |mp o=>exact VA2.ofVA1 (zJS (f:=f) (ow:=ow) (a:= .mp o)) (m.va1 hS (a:= .mp o) h)
 |fnv g fs cs=>exact VA2.ofVA1 (zJS (f:=f) (ow:=ow) (a:= .fnv g fs cs)) (m.va1 hS (a:= .fnv g fs cs) h)
theorem Mv.va{f:Nat->Option (Nat×Nat)} {L' :List Loc} {ow' :List Ob} {S' :Pr} (m:Mv f L ow L' ow') (hS:S.le S') {v:Value} {a:AV} (h:VA S L ow v a):VA S' L' ow' v (mv ow f a):=by
 cases a with
 |tupA as =>
  obtain⟨vs,e,hl,h2⟩:=h
  refine⟨vs,e,by simpa using hl,λ j x c hx hc=> ?_⟩
  rw[zN]at hc
  cases hcs:as[j]? with
  |none=>rw[hcs]at hc;cases hc
  |some a0=>rw[hcs]at hc;simp at hc;subst hc;exact m.va2 hS (h2 j x a0 hx hcs)
 |agg cs=>exact VA.of2 (m.va2 hS (a:= .agg cs) h)
 |pv p=>exact VA.of2 (m.va2 hS (a:= .pv p) h)
 |nil sh=>exact VA.of2 (m.va2 hS (a:= .nil sh) h)
 |sl bb sh xxs=>exact VA.of2 (m.va2 hS (a:= .sl bb sh xxs) h)
 |gm o=>exact VA.of2 (m.va2 hS (a:= .gm o) h)
 |fx o s=>exact VA.of2 (m.va2 hS (a:= .fx o s) h)
 |fe o i off=>exact VA.of2 (m.va2 hS (a:= .fe o i off) h)
 |view o ver s=>exact VA.of2 (m.va2 hS (a:= .view o ver s) h)
 |own o off=>exact VA.of2 (m.va2 hS (a:= .own o off) h)
 |elem o ver i off=>exact VA.of2 (m.va2 hS (a:= .elem o ver i off) h)
 |mp o=>exact VA.of2 (m.va2 hS (a:= .mp o) h)
 |fnv g fs cs=>exact VA.of2 (m.va2 hS (a:= .fnv g fs cs) h)
theorem VA.two{v:Value} {a:AV} {sh:Nat} (h:VA S L ow v a) (hs:a.okSh sh=true):VA2 S L ow v a:=by
 cases a<;>first | exact h | simp[AV.okSh]at hs
theorem Mv.ob{f:Nat->Option (Nat×Nat)} {L' :List Loc} {ow' :List Ob} {S' :Pr} {w' :World} (m:Mv f L ow L' ow') (hS:S.le S') {ob:Ob} {l:Loc} (h:ObR S L ow w ob l)
 (hb:∀ b,b∈zZ ob l->w'.heap[b]? =w.heap[b]?) (ver:Nat):ObR S' L' ow' w' (mvOb ow f ver ob) l:=by
 cases ob with
 |dead=>trivial
 |grp sh out es=>trivial
 |fix ver0 sh xs =>
  cases l with
  |grp b rs=>exact h.elim
  |blk b=>exact h.elim
  |row base cap=>exact h.elim
  |fix s base n cap =>
   obtain⟨h1,h2,h3,h4,h5⟩:=h
   refine⟨h1,h2,h3,h4,?_⟩
   rcases h5 with h5 | ⟨b,o0,cs,t,e,hh,hs,hx⟩
   ·exact .inl h5
   ·by_cases hc:cap=0
    ·exact .inl hc
    ·refine .inr ⟨b,o0,cs,t,e,by rw[hb b (by simp[zZ,hc,e])];exact hh,hs,λ i j hi hj=> ?_⟩
     obtain⟨v,k1,k2,k3⟩:=hx i j hi hj
     exact⟨v,k1,k2,λ x p hx hp=>(k3 x p hx hp).mono hS⟩
 |var fz sh a =>
  cases l with
  |grp b rs=>exact h.elim
  |fix s0 b0 n0 k0=>exact h.elim
  |row base cap=>exact h.elim
  |blk b =>
   obtain⟨cs,t,v,h1,h2,h3,h4,h5⟩:=h
   simp only[mvOb]
   cases hk:(mv2 ow f a).okSh sh with
   |false=>trivial
   |true =>
    simp only[zA]
    refine⟨cs,t,v,by rw[hb b (by simp[zZ])];exact h1,VA.of2 (m.va2 hS (h2.two h3)),hk,h4,λ hz=> ?_⟩
    obtain⟨⟨p,rfl⟩,h6⟩:=h5 hz
    exact⟨⟨p,rfl⟩,λ j x hx=>hS _ _ _ (h6 j x hx)⟩
 |row sl ver0 sh xs =>
  cases l with
  |grp b rs=>exact h.elim
  |fix s0 b0 n0 k0=>exact h.elim
  |blk b=>exact h.elim
  |row base cap =>
   obtain⟨h1,h2,h3⟩:=h
   refine⟨h1,h2,?_⟩
   rcases h3 with h3 | ⟨b,o0,cs,t,e,hh,hs,hx⟩
   ·exact .inl h3
   ·by_cases hc:cap=0
    ·exact .inl hc
    ·refine .inr ⟨b,o0,cs,t,e,by rw[hb b (by simp[zZ,hc,e])];exact hh,hs,λ i j hi hj=> ?_⟩
     obtain⟨v,k1,k2,k3,k4⟩:=hx i j hi hj
     exact⟨v,k1,k2,λ x p hx hp=>(k3 x p hx hp).mono hS,λ hz=>hS _ _ _ (k4 hz)⟩
 |sit s pos =>
  cases l with
  |grp b rs=>exact h.elim
  |fix s0 b0 n0 k0=>exact h.elim
  |row base cap=>exact h.elim
  |blk b=>show w'.heap[b]? =_;rw[hb b (by simp[zZ])];exact h
 |map sl es =>
  cases l with
  |grp b rs=>exact h.elim
  |fix s0 b0 n0 k0=>exact h.elim
  |row base cap=>exact h.elim
  |blk b =>
   obtain⟨as,n,h1,h2,hB,h3,h4⟩:=h
   exact⟨as,n,by rw[hb b (by simp[zZ])];exact h1,h2,hB,λ j e p he hp=>⟨(h3 j e p he hp).1.mono hS,(h3 j e p he hp).2.mono hS⟩,λ hz=>hS _ _ _ (h4 hz)⟩
theorem zFs{f:Nat->Option (Nat×Nat)} {ver:Nat} {ob:Ob} {l:Loc} {b:Nat} (h:b∈zZ (mvOb ow f ver ob) l):b∈zZ ob l/\∀ b j,mayS ob l b j->mayS (mvOb ow f ver ob) l b j:=by
 cases ob with
 |var fz sh a =>
  simp only[mvOb]at h ⊢
  cases hk:(mv2 ow f a).okSh sh with
  |false=>rw[hk]at h;simp[zZ]at h
  |true =>
   rw[hk]at h
   simp only[zA]at h ⊢
   cases l<;>exact⟨h,λ b j hj=>hj⟩
 |row sl ver0 sh xs =>
  cases l with
  |grp b rs=>exact⟨h,λ b j hj=>hj⟩
  |fix s0 b0 n0 k0=>exact⟨h,λ b j hj=>hj⟩
  |blk b=>exact⟨h,λ b j hj=>hj⟩
  |row base cap=>exact⟨h,λ b j hj=>by cases base<;>exact hj⟩
 |grp sh out es=>simp[mvOb,zZ]at h
 |fix ver0 sh xs=>cases l<;>exact⟨h,λ b j hj=>hj⟩
 |_=>exact⟨h,λ b j hj=>hj⟩
end
theorem mem_iff{n:Nat}:∀{l:List Nat},mem n l=true↔n∈l
 | []=>by simp[mem]
 |m::r=>by
  simp only[mem,zAE]
  cases h:(n==m) with
  |true=>simp[beq_iff_eq.1 h]
  |false =>
   simp only[zC]
   rw[mem_iff (l:=r)]
   have:n≠m:=by simpa using h
   simp[this]
theorem zLc(ow:List Ob):∀(n:Nat) (todo acc:List Nat),acc.Nodup->(∀ i∈acc,i<ow.length)->(zRB ow n todo acc).Nodup/\∀ i∈zRB ow n todo acc,i<ow.length
 | 0,_,acc,h1,h2=>⟨h1,h2⟩
 |n+1,[],acc,h1,h2=>⟨h1,h2⟩
 |n+1,i::r,acc,h1,h2=>by
  simp only[zRB]
  cases hm:mem i acc with
  |true=>exact zLc ow n r acc h1 h2
  |false =>
   simp only[zC]
   cases ho:ow[i]? with
   |none=>exact zLc ow n r acc h1 h2
   |some ob =>
    have hn:i∉acc:=λ h=>by rw[mem_iff.2 h]at hm;cases hm
    refine zLc ow n _ _ ?_ ?_
    ·rw[List.nodup_append]
     exact⟨h1,by simp,λ a ha b hb=>by simp at hb;subst hb;exact λ e=>hn (e▸ha)⟩
    ·intro k hk
     rcases List.mem_append.1 hk with hk | hk
     ·exact h2 k hk
     ·simp at hk;subst hk;exact(zQ.1 ho).1
theorem zFf:∀{is:List Nat} {o j:Nat},zFc is o=some j->is[j]? =some o
 | [],_,_,h=>by cases h
 |x::r,o,j,h=>by
  simp only[zFc]at h
  cases he:(x==o) with
  |true=>rw[he]at h;simp at h;subst h;simp[beq_iff_eq.1 he]
  |false =>
   rw[he]at h
   simp only[zC]at h
   cases hp:zFc r o with
   |none=>rw[hp]at h;cases h
   |some n=>rw[hp]at h;simp at h;subst h;simpa using zFf hp
theorem zMX:∀{is:List Nat} {o:Nat},zFc is o=none->o∉is
 | [],_,_=>by simp
 |x::r,o,h=>by
  simp only[zFc]at h
  cases he:(x==o) with
  |true=>rw[he]at h;cases h
  |false =>
   rw[he]at h
   simp only[zC]at h
   cases hp:zFc r o with
   |none =>
    have:x≠o:=by simpa using he
    simp only[zAE,not_or]
    exact⟨λ e=>this e.symm,zMX hp⟩
   |some n=>rw[hp]at h;cases h
theorem zOk:∀{l:List Nat},l.Nodup->∀{j k o:Nat},l[j]? =some o->l[k]? =some o->j=k
 | [],_,_,_,_,h,_=>by simp at h
 |x::r,hn,0,0,o,h,hk=>rfl
 |x::r,hn,0,k+1,o,h,hk=>by
  simp only[zAS,zE]at h;subst h
  exact absurd (zAV (by simpa using hk)) (List.nodup_cons.1 hn).1
 |x::r,hn,j+1,0,o,h,hk=>by
  simp only[zAS,zE]at hk;subst hk
  exact absurd (zAV (by simpa using h)) (List.nodup_cons.1 hn).1
 |x::r,hn,j+1,k+1,o,h,hk=>by
  exact congrArg (· +1) (zOk (o:=o) (List.nodup_cons.1 hn).2 (by simpa using h) (by simpa using hk))
theorem place_of{is:List Nat} (hn:is.Nodup) {o j:Nat} (h:is[j]? =some o):zFc is o=some j:=by
 cases hp:zFc is o with
 |none=>exact absurd (zAV h) (zMX hp)
 |some k =>
  have hk:=zFf hp
  exact congrArg some (zOk hn h hk).symm
section
variable {P:Program} {c:Cfg} {w0:Base} {w:World} {S0 S:Pr} {L:List Loc} {ow:List Ob}
def zLd(ow:List Ob) (is:List Nat):List Ob:=is.map λ i=>mvOb ow (zUT is) 0 (ow.getD i .dead)
def zDZ(L:List Loc) (is:List Nat):List Loc:=is.map λ i=>L.getD i (.blk 0)
theorem zGt(inv:Inv w0 S0 S L ow w) {is:List Nat} (hlt:∀ i∈is,i<ow.length) {j:Nat} {x:Ob} (h:(zLd ow is)[j]? =some x) :
 ∃ i ob l,is[j]? =some i/\ow[i]? =some ob/\L[i]? =some l/\x=mvOb ow (zUT is) 0 ob/\(zDZ L is)[j]? =some l:=by
 simp only[zLd,zN,Option.map_eq_some_iff]at h
 obtain⟨i,hi,rfl⟩:=h
 have h1:=hlt i (zAV hi)
 have h2:i<L.length:=by rw[inv.len];exact h1
 refine⟨i,ow[i],L[i],hi,by simp[h1],by simp[h2],by simp[zA0,h1],?_⟩
 simp[zDZ,hi,zA0,h2]
theorem z2H(inv:Inv w0 S0 S L ow w) {is:List Nat} (hn:is.Nodup) (hlt:∀ i∈is,i<ow.length):Mv (zUT is) L ow (zDZ L is) (zLd ow is):=λ o x hx ho=>by
 unfold zUT at hx
 cases hp:zFc is o with
 |none=>rw[hp]at hx;cases hx
 |some j =>
  rw[hp]at hx
  simp only[zE]at hx;subst hx
  have hj:=zFf hp
  have hjl:=(zQ.1 hj).1
  have h2:o<L.length:=by rw[inv.len];exact ho
  refine⟨by simpa [zLd]using hjl,?_,λ sl ver sh xs hr=> .inr ⟨sl,?_⟩⟩
  ·simp[zDZ,hj,zA0,h2]
  ·simp[zLd,hj,zA0,hr,mvOb]
theorem z2s(inv:Inv w0 S0 S L ow w) {is:List Nat} (hn:is.Nodup) (hlt:∀ i∈is,i<ow.length):Inv (hand (zDZ L is) (zLd ow is) w) S S (zDZ L is) (zLd ow is) w where
 len:=by simp[zDZ,zLd]
 below:=Stays.refl _
 prot:=inv.prot
 old:=λ _ _ _=>rfl
 le:=Pr.le_refl S
 glob:=λ g X hg=>by
  have h0:=inv.glob g X hg
  have h1:=Gl.ok_here inv.glob inv.below g X hg
  refine⟨⟨?_,?_⟩,h1⟩
  ·rcases Nat.lt_or_ge g w.heap.size with h' | h'
   ·exact h'
   ·rw[Array.getElem?_eq_none h']at h1;cases h1
  ·rintro⟨o,ob,l,ho,hl,hb⟩
   obtain⟨i,ob',l',k1,k2,k3,rfl,k5⟩:=zGt inv hlt ho
   rw[hl]at k5;cases k5
   obtain⟨m1,_⟩:=zFs hb
   exact(inv.own i ob' l g k2 k3 m1).1 h0.1
 anc:=λ j b h _=>⟨h,by have:=(zQ.1 (show(zDZ L is)[j]? =some b from h)).1;simpa [zDZ,zLd]using this⟩
 obs:=λ j x l hx hl=>by
  obtain⟨i,ob,l',h1,h2,h3,rfl,h5⟩:=zGt inv hlt hx
  rw[hl]at h5;cases h5
  exact(z2H inv hn hlt).ob (Pr.le_refl S) (inv.obs i ob l h2 h3) (λ _ _=>rfl) 0
 own:=λ j x l b hx hl hb=>by
  obtain⟨i,ob,l',h1,h2,h3,rfl,h5⟩:=zGt inv hlt hx
  rw[hl]at h5;cases h5
  obtain⟨k1,k2⟩:=zFs hb
  obtain⟨m1,m2,m3⟩:=inv.own i ob l b h2 h3 k1
  exact⟨λ h=>h.2 ⟨j,_,l,hx,hl,hb⟩,m2,λ q v hv=>k2 _ q (m3 q v hv)⟩
 sep:=λ j j' x x' l l' b hx hl hx' hl' hb hb' =>by
  obtain⟨i,ob,l1,h1,h2,h3,rfl,h5⟩:=zGt inv hlt hx
  rw[hl]at h5;cases h5
  obtain⟨i',ob',l1',h1',h2',h3',rfl,h5'⟩:=zGt inv hlt hx'
  rw[hl']at h5';cases h5'
  have e:=inv.sep i i' ob ob' l l' b h2 h3 h2' h3' (zFs hb).1 (zFs hb').1
  subst e
  have e1:=place_of hn h1
  have e2:=place_of hn h1'
  rw[e1]at e2
  exact Option.some.inj e2
end
end Go.Ab

namespace Go.Ab
open Go.RowKit (Below)
variable [GL:Gl]
section
variable {P:Program} {c:Cfg} {w0:Base} {w w2:World} {S0 S S2:Pr} {L L2:List Loc} {ow ow2:List Ob} {is:List Nat}
def zOl(n:Nat) (is:List Nat) (j:Nat):Nat:=match is[j]? with | some i=>i | none=>n+(j-is.length)
def zH4(L:List Loc) (is:List Nat) (L2:List Loc):List Loc :=
 (List.range L.length).map (λ i=>match zFc is i with | some j=>L2.getD j (.blk 0) | none=>L.getD i (.blk 0))++L2.drop is.length
theorem zLe{n j i:Nat} (h:is[j]? =some i):zOl n is j=i:=by unfold zOl;rw[h]
theorem zU8{n j:Nat} (h:is.length<=j):zOl n is j=n+(j-is.length):=by unfold zOl;rw[zGZ h]
theorem zYi(j:Nat):zD4 ow is j=some (zOl ow.length is j,match is[j]? with | some i=>zO5 (ow.getD i .dead)+1 | none=>0):=by
 unfold zD4 zOl;cases is[j]? <;>rfl
def zIA(ow:List Ob) (is:List Nat) (ow2:List Ob) (j:Nat) (y:Ob):Ob:=match is[j]? with
 |some i=>zL3 (ow.getD i .dead) (mvOb ow2 (zD4 ow is) (zO5 (ow.getD i .dead)+1) y)
 |none=>mvOb ow2 (zD4 ow is) 0 y
theorem zKI{i:Nat} (hi:i<ow.length) (hn:i∉is):(merge ow is ow2)[i]? =ow[i]? :=by
 unfold merge
 rw[zAW (by simpa using hi),zN,List.getElem?_range hi]
 simp only[zV]
 cases hp:zFc is i with
 |none=>simp[zA0,hi]
 |some j=>exact absurd (zAV (zFf hp)) hn
theorem zGu{i:Nat} (hi:i<L.length) (hn:i∉is):(zH4 L is L2)[i]? =L[i]? :=by
 unfold zH4
 rw[zAW (by simpa using hi),zN,List.getElem?_range hi]
 simp only[zV]
 cases hp:zFc is i with
 |none=>simp[zA0,hi]
 |some j=>exact absurd (zAV (zFf hp)) hn
theorem zKJ(hnd:is.Nodup) (hlt:∀ i∈is,i<ow.length) {j:Nat} {y:Ob} (h:ow2[j]? =some y):(merge ow is ow2)[zOl ow.length is j]? =some (zIA ow is ow2 j y):=by
 unfold merge zIA
 cases hj:is[j]? with
 |some i =>
  have hi:=hlt i (zAV hj)
  rw[zLe hj,zAW (by simpa using hi),zN,List.getElem?_range hi]
  simp only[zV,place_of hnd hj,zA0,h,Option.getD_some]
 |none =>
  have hl:is.length<=j:=by simpa using hj
  rw[zU8 hl,zAO (by simp)]
  simp only[zK,List.length_range,Nat.add_sub_cancel_left,zN,List.getElem?_drop]
  rw[show is.length+(j-is.length)=j by omega,h];rfl
theorem zGv(hnd:is.Nodup) (hlt:∀ i∈is,i<L.length) {j:Nat} {y:Loc} (h:L2[j]? =some y):(zH4 L is L2)[zOl L.length is j]? =some y:=by
 unfold zH4
 cases hj:is[j]? with
 |some i =>
  have hi:=hlt i (zAV hj)
  rw[zLe hj,zAW (by simpa using hi),zN,List.getElem?_range hi]
  simp only[zV,place_of hnd hj,zA0,h,Option.getD_some]
 |none =>
  have hl:is.length<=j:=by simpa using hj
  rw[zU8 hl,zAO (by simp)]
  simp only[zK,List.length_range,Nat.add_sub_cancel_left,List.getElem?_drop]
  rw[show is.length+(j-is.length)=j by omega,h]
theorem zKK(hnd:is.Nodup) (hle:is.length<=ow2.length) {i:Nat} {x:Ob} (h:(merge ow is ow2)[i]? =some x) :
 (i<ow.length/\i∉is/\ow[i]? =some x)∨∃ j y,ow2[j]? =some y/\zOl ow.length is j=i/\x=zIA ow is ow2 j y:=by
 rcases Nat.lt_or_ge i ow.length with hi | hi
 ·by_cases hm:i∈is
  ·obtain⟨j,hj⟩:=List.getElem?_of_mem hm
   have hjl:j<ow2.length:=zB1 (zQ.1 hj).1 hle
   refine .inr ⟨j,ow2[j],by simp[hjl],zLe hj,?_⟩
   unfold merge at h
   rw[zAW (by simpa using hi),zN,List.getElem?_range hi]at h
   simp only[zV,place_of hnd hj,zE]at h
   unfold zIA
   rw[hj,<-h]
   simp[zA0,hjl]
  ·rw[zKI hi hm]at h
   exact .inl ⟨hi,hm,h⟩
 ·unfold merge at h
  rw[zAO (by simpa using hi)]at h
  simp only[zK,List.length_range,zN,List.getElem?_drop,Option.map_eq_some_iff]at h
  obtain⟨y,hy,rfl⟩:=h
  have hj:is[is.length+(i-ow.length)]? =none:=zGZ (by omega)
  refine .inr ⟨is.length+(i-ow.length),y,hy,?_,?_⟩
  ·rw[zU8 (by omega)];omega
  ·unfold zIA;rw[hj]
theorem zU9{sh:Nat} {out:Option Nat} {es:List (PV×PV)} (x:Ob):zL3 (.grp sh out es) x= .dead:=by cases x<;>rfl
theorem zJT(x:Ob):zL3 .dead x= .dead:=by cases x<;>rfl
theorem zOm{sl:Bool} {ver sh:Nat} {xs:List PV} {f:Nat->Option (Nat×Nat)} {v:Nat} (x:Ob):zL3 (.row sl ver sh xs) (mvOb ow2 f v x)= .dead∨∃ sl' sh' xs',zL3 (.row sl ver sh xs) (mvOb ow2 f v x)= .row sl' v sh' xs' :=by
 cases x with
 |var fz sh a=>simp only[mvOb];cases (mv2 ow2 f a).okSh sh<;>exact .inl rfl
 |row sl' ver' sh' xs' =>exact .inr ⟨sl',sh',xs',rfl⟩
 |_=>exact .inl rfl
theorem zKw{ver sh:Nat} {xs:List PV} {f:Nat->Option (Nat×Nat)} {v:Nat} (x:Ob):zL3 (.fix ver sh xs) (mvOb ow2 f v x)= .dead∨∃ ver' sh' xs',x= .fix ver' sh' xs' /\zL3 (.fix ver sh xs) (mvOb ow2 f v x)= .fix ver sh' xs' :=by
 cases x with
 |var fz sh a=>simp only[mvOb];cases (mv2 ow2 f a).okSh sh<;>exact .inl rfl
 |fix ver' sh' xs' =>exact .inr ⟨ver',sh',xs',rfl,rfl⟩
 |_=>exact .inl rfl
theorem zOn(j:Nat) (y:Ob):zIA ow is ow2 j y= .dead∨∃ v,zIA ow is ow2 j y=mvOb ow2 (zD4 ow is) v y/\(∀ sl ver sh xs,y= .row sl ver sh xs->∀ x,zD4 ow is j=some x->x.2=v):=by
 unfold zIA
 cases hj:is[j]? with
 |none=>exact .inr ⟨0,rfl,λ _ _ _ _ _ x hx=>by unfold zD4 at hx;rw[hj]at hx;simp at hx;rw[<- hx]⟩
 |some i =>
  simp only
  generalize ho:ow.getD i .dead=old
  generalize hv:zO5 old+1=v
  have hf:∀ x,zD4 ow is j=some x->x.2=v:=λ x hx=>by
   unfold zD4 at hx;rw[hj]at hx
   simp only[ho,zE]at hx;rw[<- hx];exact hv
  by_cases hfx:∃ ver sh xs,old= .fix ver sh xs
  ·obtain⟨ver,sh,xs,rfl⟩:=hfx
   rcases zKw (ver:=ver) (sh:=sh) (xs:=xs) (ow2:=ow2) (f:=zD4 ow is) (v:=v) y with e | ⟨ver',sh',xs',rfl,e⟩
   ·exact .inl e
   ·exact .inr ⟨ver,e,λ _ _ _ _ h=>by cases h⟩
  ·have hf' :∀ sl ver sh xs,y= .row sl ver sh xs->∀ x,zD4 ow is j=some x->x.2=v:=λ _ _ _ _ _=>hf
   unfold zL3
   split<;>first | exact .inr ⟨v,by assumption,hf'⟩ | exact .inl rfl | exact .inr ⟨v,rfl,hf'⟩ | exact absurd ⟨_,_,_,rfl⟩ hfx
section
variable (inv:Inv w0 S0 S L ow w) (hnd:is.Nodup) (hlt:∀ i∈is,i<ow.length) (inv2:Inv (hand (zDZ L is) (zLd ow is) w) S S2 L2 ow2 w2) (hle:is.length<=ow2.length)
include inv hnd hlt inv2 hle
theorem zXT:(zH4 L is L2).length=(merge ow is ow2).length:=by
 simp[zH4,merge,inv.len,inv2.len]
theorem zYj:Mv (zD4 ow is) L2 ow2 (zH4 L is L2) (merge ow is ow2):=λ j x hx hj=>by
 rw[zYi]at hx
 simp only[zE]at hx
 have hx1:x.1=zOl ow.length is j:=by rw[<- hx]
 have hy:ow2[j]? =some ow2[j]:=by simp[hj]
 have hb:=zKJ hnd hlt hy
 have hjL:j<L2.length:=by rw[inv2.len];exact hj
 have hl:L2[j]? =some L2[j]:=by simp[hjL]
 have hbL:=zGv (L:=L) hnd (λ i hi=>by rw[inv.len];exact hlt i hi) hl
 rw[inv.len]at hbL
 rw[hx1]
 refine⟨(zQ.1 hb).1,by rw[hbL,hl],λ sl ver sh xs hr=> ?_⟩
 rw[hb]
 rcases zOn (ow:=ow) (is:=is) (ow2:=ow2) j ow2[j]with e | ⟨v,e,hv⟩
 ·exact .inl (by rw[e])
 ·right
  rw[hy]at hr
  simp only[zE]at hr
  rw[e,hr]
  have:x.2=v:=hv sl ver sh xs hr x (by rw[zYi,<-hx])
  exact⟨sl,by rw[this];rfl⟩
theorem zSh:Evo S L ow S2 (zH4 L is L2) (merge ow is ow2):=by
 have hlen:ow.length<=(merge ow is ow2).length:=by simp[merge]
 have hLk:∀(i:Nat) b,L[i]? =some b->b.kept=true->i<ow.length->(zH4 L is L2)[i]? =some b/\i<(merge ow is ow2).length:=λ i b h1 hk h2=>by
  refine⟨?_,zB1 h2 hlen⟩
  by_cases hm:i∈is
  ·obtain⟨j,hj⟩:=List.getElem?_of_mem hm
   have hs:(zDZ L is)[j]? =some b:=by
    have h3:i<L.length:=by rw[inv.len];exact h2
    simp[zDZ,hj,zA0,h1]
   have h4:=(inv2.anc j b hs hk).1
   have:=zGv (L:=L) hnd (λ i hi=>by rw[inv.len];exact hlt i hi) h4
   rwa [zLe hj]at this
  ·rw[zGu (by rw[inv.len];exact h2) hm];exact h1
 have hLo:∀(i:Nat) b,L[i]? =some (.blk b)->i<ow.length->(zH4 L is L2)[i]? =some (.blk b)/\i<(merge ow is ow2).length:=λ i b h1 h2=>hLk i _ h1 rfl h2
 refine .of1 inv2.le λ v a h=> ?_
 cases a with
 |pv p=>exact VP.mono inv2.le h
 |nil sh=>exact h
 |sl bb sh xxs=>exact⟨VP.mono inv2.le h.1,h.2⟩
 |fx i sh=>obtain⟨base,n,cap,h1,h2,h3⟩:=h;exact⟨base,n,cap,(hLk _ _ h1 rfl h2).1,(hLk _ _ h1 rfl h2).2,h3⟩
 |fe i k off=>obtain⟨sh,b,o0,n,cap,h1,h2,h3⟩:=h;exact⟨sh,b,o0,n,cap,(hLk _ _ h1 rfl h2).1,(hLk _ _ h1 rfl h2).2,h3⟩
 |gm i =>
  simp only[VA1]at h ⊢
  obtain⟨b,eb,h⟩:=h
  refine⟨b,eb,?_⟩
  cases hob:ow[i]? with
  |none=>rw[hob]at h;exact h.elim
  |some ob =>
   have hi:=(zQ.1 hob).1
   by_cases hm:i∈is
   ·obtain⟨j,hj⟩:=List.getElem?_of_mem hm
    have hjl:j<ow2.length:=zB1 (zQ.1 hj).1 hle
    have hb:=zKJ (ow2:=ow2) (j:=j) hnd hlt (y:=ow2[j]) (by simp[hjl])
    rw[zLe hj]at hb
    rw[hb]
    unfold zIA
    rw[hj]
    simp only
    have hgd:ow.getD i .dead=ob:=by simp[zA0,hob]
    rw[hgd]
    rw[hob]at h
    cases ob<;>(try simp only at h)<;>try exact h.elim
    ·rw[zU9];trivial
    ·rw[zJT];trivial
   ·rw[zKI hi hm,zGu (by rw[inv.len];exact hi) hm];exact h
 |agg cs=>exact h
 |tupA as=>exact h
 |own i off=>obtain⟨b,h1,h2,h3⟩:=h;exact⟨b,(hLo _ _ h1 h2).1,(hLo _ _ h1 h2).2,h3⟩
 |mp i=>obtain⟨b,h1,h2,h3⟩:=h;exact⟨b,(hLo _ _ h1 h2).1,(hLo _ _ h1 h2).2,h3⟩
 |fnv f first caps =>
  obtain⟨fs,cs,e,hm,hl,k1,k2⟩:=h
  exact⟨fs,cs,e,hm,hl,λ j x a hx ha=>(k1 j x a hx ha).to inv2.le hLo,λ j x a hx ha=>(k2 j x a hx ha).to inv2.le hLo⟩
 |view i ver sb =>
  simp only[VA1]at h ⊢
  refine⟨h.1,?_⟩
  replace h:=h.2
  cases hob:ow[i]? with
  |none=>rw[hob]at h;exact h.elim
  |some ob =>
   have hi:=(zQ.1 hob).1
   by_cases hm:i∈is
   ·obtain⟨j,hj⟩:=List.getElem?_of_mem hm
    have hjl:j<ow2.length:=zB1 (zQ.1 hj).1 hle
    have hb:=zKJ (ow2:=ow2) (j:=j) hnd hlt (y:=ow2[j]) (by simp[hjl])
    rw[zLe hj]at hb
    rw[hb]
    unfold zIA
    rw[hj]
    simp only
    have hgd:ow.getD i .dead=ob:=by simp[zA0,hob]
    rw[hgd]
    rw[hob]at h
    cases ob<;>(try simp only at h)<;>try exact h.elim
    ·rename_i sl ver' sh xs
     rcases zOm (sl:=sl) (ver:=ver') (sh:=sh) (xs:=xs) (ow2:=ow2) (f:=zD4 ow is) (v:=zO5 (.row sl ver' sh xs)+1) ow2[j]with e | ⟨sl',sh',xs',e⟩<;>rw[e]
     ·trivial
     ·simp only[zO5]
      exact⟨by omega,λ e=>by omega⟩
    ·rename_i ver0 sh0 xs0
     rcases zKw (ver:=ver0) (sh:=sh0) (xs:=xs0) (ow2:=ow2) (f:=zD4 ow is) (v:=zO5 (.fix ver0 sh0 xs0)+1) ow2[j]with e | ⟨ver',sh',xs',ey,e⟩<;>rw[e]
     ·trivial
     ·refine⟨h.1,λ ee=> ?_⟩
      obtain⟨base,cap,h1,h2⟩:=h.2 ee
      obtain⟨hl1,_⟩:=hLk i _ h1 rfl hi
      have hjL:j<L2.length:=by rw[inv2.len];exact hjl
      have hl2:L2[j]? =some (.fix sh0 base xs0.length cap):=by
       have:=zGv (L:=L) hnd (λ i hi=>by rw[inv.len];exact hlt i hi) (show L2[j]? =some L2[j] by simp[hjL])
       rw[zLe hj,hl1]at this
       simp only[zE]at this
       rw[this];simp[hjL]
      obtain⟨e1,e2,_⟩:=inv2.obs j (.fix ver' sh' xs') _ (by rw[<- ey];simp[hjl]) hl2
      subst e1
      refine⟨base,cap,by rw[<- e2];exact hl1,?_⟩
      cases sb with
      |none=>rw[<- e2];exact h2
      |some x=>rw[<- e2];exact h2
    ·rw[zJT];trivial
   ·rw[zKI hi hm,zGu (by rw[inv.len];exact hi) hm];exact h
 |elem i ver k off =>
  simp only[VA1]at h ⊢
  refine⟨h.1,?_⟩
  replace h:=h.2
  cases hob:ow[i]? with
  |none=>rw[hob]at h;exact h.elim
  |some ob =>
   have hi:=(zQ.1 hob).1
   by_cases hm:i∈is
   ·obtain⟨j,hj⟩:=List.getElem?_of_mem hm
    have hjl:j<ow2.length:=zB1 (zQ.1 hj).1 hle
    have hb:=zKJ (ow2:=ow2) (j:=j) hnd hlt (y:=ow2[j]) (by simp[hjl])
    rw[zLe hj]at hb
    rw[hb]
    unfold zIA
    rw[hj]
    simp only
    have hgd:ow.getD i .dead=ob:=by simp[zA0,hob]
    rw[hgd]
    rw[hob]at h
    cases ob<;>(try simp only at h)<;>try exact h.elim
    ·rename_i sl ver' sh xs
     rcases zOm (sl:=sl) (ver:=ver') (sh:=sh) (xs:=xs) (ow2:=ow2) (f:=zD4 ow is) (v:=zO5 (.row sl ver' sh xs)+1) ow2[j]with e | ⟨sl',sh',xs',e⟩<;>rw[e]
     ·trivial
     ·simp only[zO5]
      exact⟨by omega,λ e=>by omega⟩
    ·rename_i ver0 sh0 xs0
     rcases zKw (ver:=ver0) (sh:=sh0) (xs:=xs0) (ow2:=ow2) (f:=zD4 ow is) (v:=zO5 (.fix ver0 sh0 xs0)+1) ow2[j]with e | ⟨ver',sh',xs',ey,e⟩<;>rw[e]
     ·trivial
     ·refine⟨h.1,λ ee=> ?_⟩
      obtain⟨hk,b,o0,cap,h1,h2⟩:=h.2 ee
      obtain⟨hl1,_⟩:=hLk i _ h1 rfl hi
      have hjL:j<L2.length:=by rw[inv2.len];exact hjl
      have hl2:L2[j]? =some (.fix sh0 (some ⟨b,o0,none⟩) xs0.length cap):=by
       have:=zGv (L:=L) hnd (λ i hi=>by rw[inv.len];exact hlt i hi) (show L2[j]? =some L2[j] by simp[hjL])
       rw[zLe hj,hl1]at this
       simp only[zE]at this
       rw[this];simp[hjL]
      obtain⟨e1,e2,_⟩:=inv2.obs j (.fix ver' sh' xs') _ (by rw[<- ey];simp[hjl]) hl2
      subst e1
      exact⟨by omega,b,o0,cap,by rw[<- e2];exact hl1,h2⟩
    ·rw[zJT];trivial
   ·rw[zKI hi hm,zGu (by rw[inv.len];exact hi) hm];exact h
theorem zOM{i b:Nat} {ob:Ob} {l:Loc} (ho:ow[i]? =some ob) (hl:L[i]? =some l) (hb:b∈zZ ob l) (hm:i∉is):(hand (zDZ L is) (zLd ow is) w).old b:=by
 refine⟨(inv.own i ob l b ho hl hb).2.1,?_⟩
 rintro⟨j,x,l',hx,hl',hb'⟩
 obtain⟨i',ob',l1,h1,h2,h3,rfl,h5⟩:=zGt inv hlt hx
 rw[show(zDZ L is)[j]? =some l' from hl']at h5;cases h5
 have e:=inv.sep i i' ob ob' l l' b ho hl h2 h3 hb (zFs hb').1
 subst e
 exact hm (zAV h1)
theorem z2t{b:Nat} (h:(hand (zDZ L is) (zLd ow is) w).ex b):¬ w0.old b:=by
 obtain⟨j,x,l',hx,hl',hb'⟩:=h
 obtain⟨i',ob',l1,h1,h2,h3,rfl,h5⟩:=zGt inv hlt hx
 rw[show(zDZ L is)[j]? =some l' from hl']at h5;cases h5
 exact(inv.own i' ob' l' b h2 h3 (zFs hb').1).1
theorem zOo{j:Nat} {y:Ob} {l:Loc} {b:Nat} (h:b∈zZ (zIA ow is ow2 j y) l):b∈zZ y l/\∀ b q,mayS y l b q->mayS (zIA ow is ow2 j y) l b q:=by
 rcases zOn (ow:=ow) (is:=is) (ow2:=ow2) j y with e | ⟨v,e,_⟩
 ·rw[e]at h;simp[zZ]at h
 ·rw[e]at h ⊢;exact zFs h
theorem zYk:Inv w0 S0 S2 (zH4 L is L2) (merge ow is ow2) w2:=by
 have hE:=zSh inv hnd hlt inv2 hle
 have hM:=zYj inv hnd hlt inv2 hle
 have hold:∀ b,w0.old b->(hand (zDZ L is) (zLd ow is) w).old b:=λ b hb =>
  ⟨zB1 hb.1 inv.below.size,λ h=>z2t inv hnd hlt inv2 hle h hb⟩
 have hloc:∀ j y l,ow2[j]? =some y->(zH4 L is L2)[zOl ow.length is j]? =some l->L2[j]? =some l:=λ j y l hy hl=>by
  have hjL:j<L2.length:=by rw[inv2.len];exact(zQ.1 hy).1
  have hbL:=zGv (L:=L) hnd (λ i hi=>by rw[inv.len];exact hlt i hi) (show L2[j]? =some L2[j] by simp[hjL])
  rw[inv.len,hl]at hbL
  rw[hbL];simp[hjL]
 have hkeepL:∀ i,i<ow.length->i∉is->(zH4 L is L2)[i]? =L[i]? :=λ i hi hm=>zGu (by rw[inv.len];exact hi) hm
 refine⟨zXT inv hnd hlt inv2 hle,⟨inv2.below.os.trans inv.below.os,inv2.below.tape.trans inv.below.tape,inv2.below.output.trans inv.below.output,Nat.le_trans inv.below.size inv2.below.size,?_⟩,inv2.prot,?_,Pr.le_trans inv.le inv2.le,inv.glob,hE.anc inv.anc,?_,?_,?_⟩
 ·intro k hk
  exact(inv2.below.block k (hold k hk)).trans (inv.below.block k hk)
 ·intro b o hb
  exact(inv2.old b o (hold b hb)).trans (inv.old b o hb)
 ·intro i x l hx hl
  rcases zKK hnd hle hx with⟨hi,hm,ho⟩ | ⟨j,y,hy,hp,rfl⟩
  ·rw[hkeepL i hi hm]at hl
   exact(inv.obs i x l ho hl).keep hE λ b hb=>inv2.below.block b (zOM inv hnd hlt inv2 hle ho hl hb hm)
  ·subst hp
   have hl2:=hloc j y l hy hl
   rcases zOn (ow:=ow) (is:=is) (ow2:=ow2) j y with e | ⟨v,e,_⟩
   ·rw[e];cases l<;>trivial
   ·rw[e];exact hM.ob (Pr.le_refl S2) (inv2.obs j y l hy hl2) (λ _ _=>rfl) v
 ·intro i x l b hx hl hb
  rcases zKK hnd hle hx with⟨hi,hm,ho⟩ | ⟨j,y,hy,hp,rfl⟩
  ·rw[hkeepL i hi hm]at hl
   obtain⟨k1,k2,k3⟩:=inv.own i x l b ho hl hb
   have ho2:=zOM inv hnd hlt inv2 hle ho hl hb hm
   exact⟨k1,zB1 k2 inv2.below.size,λ q v hv=>k3 q v (by rw[inv2.old b q ho2]at hv;exact hv)⟩
  ·subst hp
   have hl2:=hloc j y l hy hl
   obtain⟨m1,m2⟩:=zOo inv hnd hlt inv2 hle hb
   obtain⟨k1,k2,k3⟩:=inv2.own j y l b hy hl2 m1
   exact⟨λ h=>k1 (hold b h),k2,λ q v hv=>m2 _ q (k3 q v hv)⟩
 ·intro i i' x x' l l' b hx hl hx' hl' hb hb'
  rcases zKK hnd hle hx with⟨hi,hm,ho⟩ | ⟨j,y,hy,hp,rfl⟩<;>rcases zKK hnd hle hx' with⟨hi',hm',ho'⟩ | ⟨j',y',hy',hp',rfl⟩
  ·rw[hkeepL i hi hm]at hl
   rw[hkeepL i' hi' hm']at hl'
   exact inv.sep i i' x x' l l' b ho hl ho' hl' hb hb'
  ·rw[hkeepL i hi hm]at hl
   subst hp'
   have hl2:=hloc j' y' l' hy' hl'
   exact absurd (zOM inv hnd hlt inv2 hle ho hl hb hm) (inv2.own j' y' l' b hy' hl2 (zOo inv hnd hlt inv2 hle hb').1).1
  ·rw[hkeepL i' hi' hm']at hl'
   subst hp
   have hl2:=hloc j y l hy hl
   exact absurd (zOM inv hnd hlt inv2 hle ho' hl' hb' hm') (inv2.own j y l b hy hl2 (zOo inv hnd hlt inv2 hle hb).1).1
  ·subst hp;subst hp'
   have e:=inv2.sep j j' y y' l l' b hy (hloc j y l hy hl) hy' (hloc j' y' l' hy' hl') (zOo inv hnd hlt inv2 hle hb).1 (zOo inv hnd hlt inv2 hle hb').1
   rw[e]
end
end
end Go.Ab

namespace Go.Ab
open Go.RowKit (Below)
variable [GL:Gl]
section nat
variable {R:Type}
theorem zMY{R' :Type} (g:R->Option R') (t p:PV) (k:PV->Option R):(zL4 t p k).bind g=zL4 t p λ q=>(k q).bind g:=by
 unfold zL4
 cases t<;>simp only[zBD]
theorem zMZ{R' :Type} (g:R->Option R'):∀(zs:List PV) (i:Nat) (cs:List PV) (k:List PV->Option R),(zL5 zs i cs k).bind g=zL5 zs i cs λ q=>(k q).bind g
 | [],i,cs,k=>by simp only[zL5];cases (cs.length==i)<;>rfl
 |z::zs,i,cs,k=>by
  simp only[zL5,zBD]
  congr 1;funext p
  rw[zMY]
  congr 1;funext p'
  exact zMZ g zs (i+1) cs _
theorem zSi{R' :Type} (g:R->Option R') (t p:PV) (k:PV->Option R):(zUU t p k).bind g=zUU t p λ q=>(k q).bind g:=by
 unfold zUU
 split
 ·rw[zBD];congr 1;funext cs;exact zMZ g _ 0 cs _
 ·rw[zBD];congr 1;funext v
  rw[zBD];congr 1;funext cs;exact zMZ g _ 0 cs _
 ·rw[zBD];congr 1;funext v;exact zMY g _ v _
 ·exact zMY g _ _ _
theorem zG1{R' :Type} (b:Bool) (x:Option R) (g:R->Option R'):(bif b then x else none).bind g=bif b then x.bind g else none:=by cases b<;>rfl
theorem zYl{R' :Type} (g:R->Option R') (t a:AV) (k:AV->Option R):(zUV t a k).bind g=zUV t a λ q=>(k q).bind g:=by
 unfold zUV
 split
 ·rw[zBD];congr 1;funext v;exact zSi g _ v _
 ·exact zG1 _ _ g
 ·exact zG1 _ _ g
 ·rfl
theorem zM0{R' :Type} (g:R->Option R'):∀(zs:List AV) (i:Nat) (cs:List AV) (k:List AV->Option R),(zL6 zs i cs k).bind g=zL6 zs i cs λ q=>(k q).bind g
 | [],i,cs,k=>by simp only[zL6];cases (cs.length==i)<;>rfl
 |z::zs,i,cs,k=>by
  simp only[zL6,zBD]
  congr 1;funext p
  rw[zYl]
  congr 1;funext p'
  exact zM0 g zs (i+1) cs _
theorem zSj{R' :Type} (g:R->Option R') (t a:AV) (k:AV->Option R):(zSY t a k).bind g=zSY t a λ q=>(k q).bind g:=by
 unfold zSY
 split
 ·rw[zBD];congr 1;funext v;exact zSi g _ v _
 ·exact zG1 _ _ g
 ·exact zG1 _ _ g
 ·exact zG1 _ _ g
 ·exact zG1 _ _ g
 ·rw[zBD];congr 1;funext x
  rw[zM0];congr 1;funext fs
  exact zM0 g _ 0 x.2 _
 ·rfl
theorem zQ4{R' :Type} (g:R->Option R'):∀(zs:List AV) (i:Nat) (cs:List AV) (k:List AV->Option R),(zNH zs i cs k).bind g=zNH zs i cs λ q=>(k q).bind g
 | [],i,cs,k=>by simp only[zNH];cases (cs.length==i)<;>rfl
 |z::zs,i,cs,k=>by
  simp only[zNH,zBD]
  congr 1;funext p
  rw[zSj]
  congr 1;funext p'
  exact zQ4 g zs (i+1) cs _
theorem zOp{R' :Type} (g:R->Option R') (t a:AV) (k:AV->Option R):(zRC t a k).bind g=zRC t a λ q=>(k q).bind g:=by
 unfold zRC
 split
 ·rw[zBD];congr 1;funext v;exact zQ4 g _ 0 v _
 ·exact zSj g _ a k
theorem zQ5{R' :Type} (g:R->Option R'):∀(zs:List AV) (i:Nat) (cs:List AV) (k:List AV->Option R),(zNI zs i cs k).bind g=zNI zs i cs λ q=>(k q).bind g
 | [],i,cs,k=>by simp only[zNI];cases (cs.length==i)<;>rfl
 |z::zs,i,cs,k=>by
  simp only[zNI,zBD]
  congr 1;funext p
  rw[zOp]
  congr 1;funext p'
  exact zQ5 g zs (i+1) cs _
theorem zYm{R' :Type} (g:R->Option R') (t a:AV) (k:AV->Option R):(zXF t a k).bind g=zXF t a λ q=>(k q).bind g:=by
 unfold zXF
 split
 ·rw[zBD];congr 1;funext v;exact zQ5 g _ 0 v _
 ·exact zOp g _ a k
theorem zXU{R' :Type} (g:R->Option R') (t o:Ob) (k:Ob->Option R):(zO6 t o k).bind g=zO6 t o λ q=>(k q).bind g:=by
 unfold zO6
 split
 ·rw[zBD];congr 1;funext v;exact zOp g _ v _
 ·rw[zBD]
 ·rw[zBD]
 ·rw[zBD]
 ·rw[zBD]
 ·rw[zBD]
 ·exact zG1 _ _ g
theorem zOq{R' :Type} (g:R->Option R'):∀(zs:List Ob) (i:Nat) (cs:List Ob) (k:List Ob->Option R),(zJK zs i cs k).bind g=zJK zs i cs λ q=>(k q).bind g
 | [],i,cs,k=>by simp only[zJK];cases (cs.length==i)<;>rfl
 |z::zs,i,cs,k=>by
  simp only[zJK,zBD]
  congr 1;funext p
  rw[zXU]
  congr 1;funext p'
  exact zOq g zs (i+1) cs _
theorem zQ6{R' :Type} (g:R->Option R') (t z:AV×List Ob) (k:AV×List Ob->Option R):(zNJ t z k).bind g=zNJ t z λ q=>(k q).bind g:=by
 unfold zNJ
 rw[zYm];congr 1;funext a
 exact zOq g _ 0 z.2 _
theorem zYn{R' :Type} (g:R->Option R') (ts:List (AV×List Ob)) (z:AV×List Ob) (k:AV×List Ob->Option R):(zXG ts z k).bind g=zXG ts z λ q=>(k q).bind g:=by
 unfold zXG
 split
 ·rfl
 ·exact zQ6 g _ z k
 ·cases z.1.headOwn<;>exact zQ6 g _ z k
theorem zM1(call:Wf) (raw:Bool) (tm:List (AV×List Ob)) (ow:List Ob) (f:FuncId) (as:List AV) (k:AV->List Ob->Option R) {R' :Type} (g:R->Option R') :
 (zNf call raw tm ow f as k).bind g=zNf call raw tm ow f as λ a b=>(k a b).bind g:=by
 unfold zNf
 rw[zBD]
 congr 1;funext z
 rw[zYn]
 congr 1;funext z'
 exact zG1 _ _ g
theorem zQ7(lk:Bool) (call:Wf) (raw:Bool) (tm:List (AV×List Ob)) (ow:List Ob) (f:FuncId) (as:List AV) (k:AV->List Ob->Option R) {R' :Type} (g:R->Option R') :
 (zPz lk call raw tm ow f as k).bind g=zPz lk call raw tm ow f as λ a b=>(k a b).bind g:=by
 unfold zPz
 cases lk with
 |false=>exact zM1 _ _ _ _ _ _ _ g
 |true =>
  simp only[zA]
  split
  ·split
   ·rename_i o ver r _ ver' sh xs ho
    cases (ver==ver') with
    |false=>rfl
    |true =>
     simp only[zA]
     rw[zM1]
     congr 1;funext a b
     unfold unlK
     split
     ·exact zG1 _ _ g
     ·rfl
   ·rfl
  ·rfl
theorem zM2(lk:Bool) (call:Wf) (raw:Bool) (tm:List (AV×List Ob)) (ow:List Ob) (f:AV) (as:List AV) (k:AV->List Ob->Option R) {R' :Type} (g:R->Option R') :
 (zKo lk call raw tm ow f as k).bind g=zKo lk call raw tm ow f as λ a b=>(k a b).bind g:=by
 unfold zKo
 cases f<;>try rfl
 ·simp only;rw[zBD];congr 1;funext x;exact zQ7 _ _ _ _ _ _ _ _ g
 ·exact zQ7 _ _ _ _ _ _ _ _ g
end nat
section
variable {P:Program} {c:Cfg} {w0:Base} {w:World} {S0 S:Pr} {L:List Loc} {ow:List Ob} {call:Wf} {own:Hi} {o:Oper} {r:Operand->TypeId->AV} {act:Act} {av:AV} {ow' :List Ob}
theorem zOr(inv:Inv w0 S0 S L ow w) (hcall:CallOK P call) {raw:Bool} {tm:List (AV×List Ob)} {f:FuncId} {as:List AV} {vs:List Value} (hvs:VAs S L ow vs as)
 (h:zNf call raw tm ow f as (λ a b=>some (a,b))=some (av,ow')):Res P (G w0 S0 S L ow av ow') ((callFunc f vs.toArray).run P w):=by
 unfold zNf at h
 generalize hi:zRB ow 64 (as.map AV.refs).flatten []=is at h
 obtain⟨hnd,hlt⟩:is.Nodup/\∀ i∈is,i<ow.length:=by rw[<- hi];exact zLc ow 64 _ [] List.nodup_nil (by simp)
 obtain⟨⟨z,ow2⟩,h1,h2⟩:=zJ.1 h
 have h3:=zXS h2
 obtain⟨hle,h4⟩:=bif_some h3
 have hle:=zAM hle
 obtain⟨rfl,rfl⟩:=zT h4
 clear h h2 h3 h4
 have hC:=hcall f raw _ _ _ _ h1
 have hargs:VAs S (zDZ L is) (zLd ow is) vs (as.map (mv ow (zUT is))):=by
  refine⟨by simpa using hvs.1,λ j v a hv ha=> ?_⟩
  rw[zN]at ha
  cases hc:as[j]? with
  |none=>rw[hc]at ha;cases ha
  |some a0=>rw[hc]at ha;simp at ha;subst ha;exact(z2H inv hnd hlt).va (Pr.le_refl S) (hvs.2 j v a0 hv hc)
 refine Res.mono ?_ (hC S (zDZ L is) w vs (z2s inv hnd hlt) hargs)
 rintro v w' ⟨S2,L2,hi2,hv⟩
 exact⟨S2,zH4 L is L2,zYk inv hnd hlt hi2 hle,zSh inv hnd hlt hi2 hle,(zYj inv hnd hlt hi2 hle).va (Pr.le_refl S2) hv⟩
theorem unl1{o ver sh:Nat} {xs:List PV} {base:Option Addr} {cap:Nat} (ho:ow[o]? =some (.fix ver sh xs)) (hl:L[o]? =some (.fix sh base xs.length cap)) {v:Value} {a:AV} (h:VA1 S L ow v a) (hn:a.noFx1 o=true) :
 VA1 S (L.set o (.row base cap)) (ow.set o (.row false ver sh xs)) v a:=by
 have hlt:o<ow.length:=(zQ.1 ho).1
 have hltL:o<L.length:=(zQ.1 hl).1
 have hLn:∀ i (k:Loc),i≠o->L[i]? =some k->(L.set o (.row base cap))[i]? =some k:=λ i k e h=>by rw[zAr (Ne.symm e)];exact h
 have hblk:∀ i b,L[i]? =some (.blk b)->i<ow.length->(L.set o (.row base cap))[i]? =some (.blk b)/\i<(ow.set o (.row false ver sh xs)).length:=λ i b h1 h2 =>
  ⟨hLn i _ (λ e=>by subst e;rw[hl]at h1;cases h1) h1,by simpa using h2⟩
 cases a with
 |pv p=>exact h
 |nil s=>exact h
 |sl b s ys=>exact h
 |agg cs=>exact h
 |tupA cs=>exact h
 |own i off=>obtain⟨b,h1,h2,h3⟩:=h;exact⟨b,(hblk _ _ h1 h2).1,(hblk _ _ h1 h2).2,h3⟩
 |mp i=>obtain⟨b,h1,h2,h3⟩:=h;exact⟨b,(hblk _ _ h1 h2).1,(hblk _ _ h1 h2).2,h3⟩
 |fx i s =>
  have e:i≠o:=by simpa [AV.noFx1]using hn
  obtain⟨b,n,k,h1,h2,h3⟩:=h
  exact⟨b,n,k,hLn _ _ e h1,by simpa using h2,h3⟩
 |fe i j off =>
  have e:i≠o:=by simpa [AV.noFx1]using hn
  obtain⟨s,b,o0,n,k,h1,h2,h3⟩:=h
  exact⟨s,b,o0,n,k,hLn _ _ e h1,by simpa using h2,h3⟩
 |fnv f first caps =>
  obtain⟨fs,cs,e,hm,hl,k1,k2⟩:=h
  exact⟨fs,cs,e,hm,hl,λ j x a hx ha=>(k1 j x a hx ha).to (Pr.le_refl S) hblk,λ j x a hx ha=>(k2 j x a hx ha).to (Pr.le_refl S) hblk⟩
 |gm i =>
  obtain⟨b,eb,h⟩:=h
  refine⟨b,eb,?_⟩
  by_cases e:i=o
  ·subst e;rw[ho]at h;exact h.elim
  ·rw[zAr (Ne.symm e),zAr (Ne.symm e)];exact h
 |view i ver' sb =>
  refine⟨h.1,?_⟩
  replace h:=h.2
  by_cases e:i=o
  ·subst e
   rw[zAJ hlt];rw[ho]at h
   refine⟨h.1,λ e=> ?_⟩
   obtain⟨base',cap',h1,h2⟩:=h.2 e
   rw[hl]at h1;cases h1
   exact⟨base,cap,zAJ hltL,h2⟩
  ·rw[zAr (Ne.symm e),zAr (Ne.symm e)];exact h
 |elem i ver' j off =>
  refine⟨h.1,?_⟩
  replace h:=h.2
  by_cases e:i=o
  ·subst e
   rw[zAJ hlt];rw[ho]at h
   refine⟨h.1,λ e=> ?_⟩
   obtain⟨hj,b,o0,cap',h1,h2⟩:=h.2 e
   rw[hl]at h1;cases h1
   exact⟨hj,b,o0,cap,zAJ hltL,h2⟩
  ·rw[zAr (Ne.symm e),zAr (Ne.symm e)];exact h
theorem z4A(inv:Inv w0 S0 S L ow w) {o ver sh:Nat} {xs:List PV} {base:Option Addr} {cap:Nat} (ho:ow[o]? =some (.fix ver sh xs)) (hl:L[o]? =some (.fix sh base xs.length cap))
 (hc:ow.all (Ob.noFx o)=true) (hA:∀(l:Loc),w0.anc[o]? =some l->l.kept=true->False) :
 Inv w0 S0 S (L.set o (.row base cap)) (ow.set o (.row false ver sh xs)) w:=by
 have hlt:o<ow.length:=(zQ.1 ho).1
 have hltL:o<L.length:=(zQ.1 hl).1
 have at_:∀ i x y,(ow.set o (.row false ver sh xs))[i]? =some x->(L.set o (.row base cap))[i]? =some y->(i≠o/\ow[i]? =some x/\L[i]? =some y)∨(i=o/\x= .row false ver sh xs/\y= .row base cap):=λ i x y hx hy=>by
  by_cases e:i=o
  ·subst e
   rw[zAJ hlt]at hx
   rw[zAJ hltL]at hy
   exact .inr ⟨rfl,(Option.some.inj hx).symm,(Option.some.inj hy).symm⟩
  ·rw[zAr (Ne.symm e)]at hx hy
   exact .inl ⟨e,hx,hy⟩
 have hown:=λ b=>inv.own o _ _ b ho hl
 refine⟨by simp[inv.len],inv.below,inv.prot,inv.old,inv.le,inv.glob,λ j l hj hk=> ?_,?_,?_,?_⟩
 ·have e:j≠o:=λ e=>by subst e;exact hA l hj hk
  obtain⟨h1,h2⟩:=inv.anc j l hj hk
  exact⟨by rw[zAr (Ne.symm e)];exact h1,by simpa using h2⟩
 ·intro i x y hx hy
  rcases at_ i x y hx hy with⟨e,h,h'⟩ | ⟨rfl,rfl,rfl⟩
  ·have hr:=inv.obs i x y h h'
   have hno:x.noFx o=true:=zAF.1 hc x (zAV h)
   cases x with
   |var fz s a =>
    cases y<;>try exact hr.elim
    rename_i b
    obtain⟨cs,t,v,h1,h2,h3,h4,h5⟩:=hr
    refine⟨cs,t,v,h1,?_,h3,h4,h5⟩
    simp only[Ob.noFx]at hno
    cases a with
    |agg as =>
     obtain⟨us,e1,e2,e3,e4⟩:=h2
     exact⟨us,e1,e2,e3,λ j x c hx hc=>unl1 ho hl (e4 j x c hx hc) (zAF.1 hno c (zAV hc))⟩
    |tupA as=>cases hno
    |pv p=>exact unl1 (S:=S) (a:= .pv p) ho hl h2 hno
    |nil s=>exact unl1 (S:=S) (a:= .nil s) ho hl h2 hno
    |view i ver sb=>exact unl1 (S:=S) (a:= .view i ver sb) ho hl h2 hno
    |own i off=>exact unl1 (S:=S) (a:= .own i off) ho hl h2 hno
    |elem i v j off=>exact unl1 (S:=S) (a:= .elem i v j off) ho hl h2 hno
    |mp i=>exact unl1 (S:=S) (a:= .mp i) ho hl h2 hno
    |fnv f fs cs=>exact unl1 (S:=S) (a:= .fnv f fs cs) ho hl h2 hno
    |sl b s ys=>exact unl1 (S:=S) (a:= .sl b s ys) ho hl h2 hno
    |gm i=>exact unl1 (S:=S) (a:= .gm i) ho hl h2 hno
    |fx i s=>exact unl1 (S:=S) (a:= .fx i s) ho hl h2 hno
    |fe i j off=>exact unl1 (S:=S) (a:= .fe i j off) ho hl h2 hno
   |_=>cases y<;>exact hr
  ·obtain⟨_,_,r1,r2,r3⟩:=inv.obs i _ _ ho hl
   refine⟨r1,r2,?_⟩
   rcases r3 with r3 | ⟨b,o0,cs,t,e,hh,hfit,hx⟩
   ·exact .inl r3
   ·refine .inr ⟨b,o0,cs,t,e,hh,hfit,λ i j hi hj=> ?_⟩
    obtain⟨u,h1,h2,h3⟩:=hx i j hi hj
    exact⟨u,h1,h2,h3,λ hz=>by cases hz⟩
 ·intro i x y b hx hy hb
  rcases at_ i x y hx hy with⟨e,h,h'⟩ | ⟨rfl,rfl,rfl⟩
  ·exact inv.own i x y b h h' hb
  ·obtain⟨h1,h2,h3⟩:=hown b hb
   exact⟨h1,h2,λ j v hv=>(h3 j v hv).elim⟩
 ·intro i i' x x' y y' b hx hy hx' hy' hb hb'
  rcases at_ i x y hx hy with⟨e,h,h'⟩ | ⟨rfl,rfl,rfl⟩<;>rcases at_ i' x' y' hx' hy' with⟨f,k,k'⟩ | ⟨rfl,rfl,rfl⟩
  ·exact inv.sep i i' x x' y y' b h h' k k' hb hb'
  ·exact inv.sep i i' x _ y _ b h h' ho hl hb hb'
  ·exact inv.sep i i' _ x' _ y' b ho hl k k' hb hb'
  ·rfl
theorem zOs(inv:Inv w0 S0 S L ow w) (hcall:CallOK P call) {lk raw:Bool} {tm:List (AV×List Ob)} {f:FuncId} {as:List AV} {vs:List Value} (hvs:VAs S L ow vs as)
 (h:zPz lk call raw tm ow f as (λ a b=>some (a,b))=some (av,ow')):Res P (G w0 S0 S L ow av ow') ((callFunc f vs.toArray).run P w):=by
 unfold zPz at h
 cases lk with
 |false=>exact zOr inv hcall hvs h
 |true =>
 simp only[zA]at h
 split at h
 ·rename_i o ver r
  split at h
  ·rename_i ver' sh xs ho
   cases hv:(ver==ver') with
   |false=>rw[hv]at h;cases h
   |true =>
   rw[hv]at h
   simp only[zA]at h
   have e0:=beq_iff_eq.1 hv
   subst e0
   have h1:∃ a ow1,zNf call raw tm (ow.set o (.fix ver sh xs)) f (.fx o sh::r) (λ a b=>some (a,b))=some (a,ow1)/\∃ p xs',a= .pv p/\ow1[o]? =some (.fix ver sh xs')/\ow1.all (Ob.noFx o)=true/\av= .pv p/\ow' =ow1.set o (.row false ver sh xs'):=by
    have h' :(zNf call raw tm (ow.set o (.fix ver sh xs)) f (.fx o sh::r) (λ a b=>some (a,b))).bind (λ z=>unlK o ver sh (λ a b=>some (a,b)) z.1 z.2)=some (av,ow'):=by
     rw[zM1];exact h
    obtain⟨⟨a,ow1⟩,k1,k2⟩:=zJ.1 h'
    refine⟨a,ow1,k1,?_⟩
    simp only[unlK]at k2
    split at k2
    ·rename_i p ver'' sh'' xs' hx
     obtain⟨k3,k4⟩:=bif_some k2
     obtain⟨rfl,rfl⟩:=zT k4
     simp only[zF,beq_iff_eq]at k3
     obtain⟨⟨rfl,rfl⟩,k5⟩:=k3
     exact⟨p,xs',rfl,hx,k5,rfl,rfl⟩
    ·cases k2
   obtain⟨a,ow1,k1,p,xs',rfl,hx1,hall,rfl,rfl⟩:=h1
   have hlt:o<ow.length:=(zQ.1 ho).1
   have hltL:o<L.length:=by rw[inv.len];exact hlt
   obtain⟨v0,hv0⟩:∃ v,vs[0]? =some v:=⟨vs[0]'(by rw[hvs.1];simp),by simp⟩
   obtain⟨_,hvw⟩:=(show VA1 S L ow v0 (.view o ver none)from hvs.2 0 v0 _ hv0 rfl)
   rw[ho]at hvw
   obtain⟨base,cap,hL,hve⟩:=hvw.2 rfl
   simp only at hve
   obtain⟨r1,r2,r3⟩:=inv.obs o _ _ ho hL
   have hE:Evo S L ow S (L.set o (.fix sh base xs.length cap)) (ow.set o (.fix ver sh xs)):=Evo.turn ho hL (Pr.le_refl S) (λ _ h k=>by cases h;cases k) ⟨rfl,rfl,rfl,base,cap,rfl,rfl⟩
   have invL:=inv.turn ho hL hE (zM _) rfl rfl rfl (λ _ _ _=>rfl) (λ _ _ _ _=>rfl) inv.prot
    ⟨rfl,rfl,r1,r2,by
     rcases r3 with r3 | ⟨b,o0,cs,t,e,hh,hfit,hx⟩
     ·exact .inl r3
     ·refine .inr ⟨b,o0,cs,t,e,hh,hfit,λ i j hi hj=> ?_⟩
      obtain⟨u,m1,m2,m3,_⟩:=hx i j hi hj
      exact⟨u,m1,m2,m3⟩⟩
    (λ b hb=>by
     have hb' :b∈zZ (.row false ver sh xs) (.row base cap):=hb
     obtain⟨m1,m2,m3⟩:=inv.own o _ _ b ho hL hb'
     exact⟨.inr hb',m2,λ j v hv=>by
      have:=m3 j v hv
      cases base with
      |none=>exact this.elim
      |some a=>have:=this.1;cases this⟩)
   have hargs:VAs S (L.set o (.fix sh base xs.length cap)) (ow.set o (.fix ver sh xs)) vs (.fx o sh::r):=by
    refine⟨by simpa using hvs.1,λ j v a hv ha=> ?_⟩
    cases j with
    |zero =>
     simp only[zAS,zE]at ha
     subst ha
     rw[hv0]at hv;cases hv
     exact⟨base,xs.length,cap,zAJ hltL,by simpa using hlt,hve⟩
    |succ j=>exact hE.2 _ _ (hvs.2 (j+1) v a hv ha)
   refine(zOr invL hcall hargs k1).mono λ v w' hg=> ?_
   obtain⟨S',L',inv',E',hva⟩:=hg
   obtain⟨base',n',cap',hL',_,he⟩:=E'.2 (.slice base xs.length cap) (.fx o sh) ⟨base,xs.length,cap,zAJ hltL,by simpa using hlt,rfl⟩
   simp only[Value.slice.injEq]at he
   obtain⟨rfl,hn,rfl⟩:=he
   obtain⟨_,hn',_⟩:=inv'.obs o _ _ hx1 hL'
   have hL2:L'[o]? =some (.fix sh base xs'.length cap):=by rw[<- hn'];exact hL'
   refine⟨S',_,z4A inv' hx1 hL2 hall (λ l hj hk=> ?_),.of1 (Pr.le_trans (Pr.le_refl S) E'.1) λ v a hv=> ?_,hva⟩
   ·obtain⟨m1,_⟩:=inv.anc o l hj hk
    rw[hL]at m1;cases m1;cases hk
   ·refine unl1 hx1 hL2 ((hE.trans E').cell hv) ?_
    cases a with
    |fx i s=>simp only[AV.noFx1,bne_iff_ne,ne_eq];intro e;subst e;obtain⟨_,_,_,m1,_⟩:=hv;rw[hL]at m1;cases m1
    |fe i j off=>simp only[AV.noFx1,bne_iff_ne,ne_eq];intro e;subst e;obtain⟨_,_,_,_,_,m1,_⟩:=hv;rw[hL]at m1;cases m1
    |_=>rfl
  ·cases h
 ·cases h
theorem VAs.append{vs us:List Value} {as bs:List AV} (h:VAs S L ow vs as) (k:VAs S L ow us bs):VAs S L ow (vs++us) (as++bs):=by
 refine⟨by simp[h.1,k.1],λ j v a hv ha=> ?_⟩
 by_cases hj:j<as.length
 ·rw[zAW (by rw[h.1];exact hj)]at hv
  rw[zAW hj]at ha
  exact h.2 j v a hv ha
 ·rw[zAO (by rw[h.1];omega),h.1]at hv
  rw[zAO (by omega)]at ha
  exact k.2 _ v a hv ha
theorem VA0.va{v:Value} {a:AV} (h:VA0 S L ow.length v a):VA S L ow v a:=by
 cases a<;>first | exact h | exact h.elim
theorem zYo(pre:Pre P c w0 w S0 S L ow r act) {args:Array Operand} {ats:Array TypeId} (hsz:args.size=ats.size) :
 VAs S L ow (args.toList.map act.eval) ((args.toList.zip ats.toList).map λ(x,t)=>r x t):=by
 refine⟨by simp[hsz],λ j v a hv ha=> ?_⟩
 simp only[zN,Option.map_eq_some_iff]at hv ha
 obtain⟨x,hx,rfl⟩:=hv
 obtain⟨q,hq,rfl⟩:=ha
 have:args.toList[j]? =some q.1:=by
  rw[List.getElem?_zip_eq_some]at hq;exact hq.1
 rw[hx]at this
 simp only[zE]at this
 rw[this]
 exact pre.hr _ _
theorem zRM{f:Operand} {args:Array Operand} {ats:Array TypeId} (ho:o.op= .call ⟨.value f,args,ats⟩) {f' :FuncId} {fs cs:Array Value} (hu:act.eval f= .func (.func f') fs cs) :
 (execOp act.eval o).run P w=(callFunc f' (fs.toList++args.toList.map act.eval++cs.toList).toArray).run P w:=by
 have ea:fs++args.map act.eval++cs=(fs.toList++(args.toList.map act.eval)++cs.toList).toArray:=by
  apply Array.ext';simp
 simp[execOp,ho,resolve,hu,Deferred.ofValue,invoke,ea]
theorem zUa(pre:Pre P c w0 w S0 S L ow r act) (hcall:CallOK P call) {f:Operand} {args:Array Operand} {ats:Array TypeId} (ho:o.op= .call ⟨.value f,args,ats⟩) (hsz:args.size=ats.size) {lk raw:Bool} {tm:List (AV×List Ob)}
 (h:zKo lk call raw tm ow (r f 0) ((args.toList.zip ats.toList).map λ(x,t)=>r x t) (λ a b=>some (a,b))=some (av,ow')) :
 Res P (G w0 S0 S L ow av ow') ((execOp act.eval o).run P w):=by
 have hargs:=zYo pre hsz
 have hf:=pre.hr f 0
 unfold zKo at h
 cases hfv:r f 0<;>rw[hfv]at h hf<;>try (cases h;done)
 ·rename_i p
  simp only at h
  obtain⟨g,hg,h1⟩:=zJ.1 h
  have e:p= .fn g.1 g.2.1 g.2.2:=by cases p<;>simp[PV.asFn]at hg;rw[<- hg]
  subst e
  have hf' :VP S (act.eval f) (.fn g.1 g.2.1 g.2.2):=hf
  generalize hu:act.eval f=u at hf'
  cases hf' with
  |fn _ fs cs _ _ hm hl k1 k2 =>
   rw[zRM ho hu]
   refine zOs pre.inv hcall ?_ h1
   refine(VAs.append (VAs.append (VAs.ofP ⟨by simpa using hm,λ j v p hv hp=>k1 j v p (by simpa using hv) hp⟩) hargs) (VAs.ofP ⟨by simpa using hl,λ j v p hv hp=>k2 j v p (by simpa using hv) hp⟩))
 ·rename_i g first caps
  simp only at h
  obtain⟨fs,cs,hu,hm,hl,k1,k2⟩:=hf
  rw[zRM ho hu]
  refine zOs pre.inv hcall ?_ h
  exact VAs.append (VAs.append ⟨by simpa using hm,λ j v p hv hp=>(k1 j v p (by simpa using hv) hp).va⟩ hargs) ⟨by simpa using hl,λ j v p hv hp=>(k2 j v p (by simpa using hv) hp).va⟩
theorem z0h{lk:Bool} {call:Wf} {raw:Bool} {tm:List (AV×List Ob)} {ow:List Ob} {f:AV} {as:List AV} {ro:Bool} {av:AV} {ow' :List Ob}
 (h:zKo lk call raw tm ow f as (roK ro ow λ a b=>some (a,b))=some (av,ow')):zKo lk call raw tm ow f as (λ a b=>some (a,b))=some (av,ow'):=by
 have e:zKo lk call raw tm ow f as (roK ro ow λ a b=>some (a,b))=(zKo lk call raw tm ow f as λ a b=>some (a,b)).bind λ x=>roK ro ow (λ a b=>some (a,b)) x.1 x.2:=by rw[zM2];rfl
 rw[e]at h
 obtain⟨x,h1,h2⟩:=zJ.1 h
 rw[h1]
 unfold roK at h2
 cases ro with
 |false =>
  simp only[zC,zE,zAl]at h2
  obtain⟨rfl,rfl⟩:=h2
  rfl
 |true =>
  simp only[zA]at h2
  obtain⟨h3,h4⟩:=bif_some h2
  have:=z2l h3
  simp only[zE,zAl]at h4
  obtain⟨rfl,rfl⟩:=h4
  obtain⟨a,b⟩:=x
  simp only at this
  rw[this]
theorem zXV(inv:Inv w0 S0 S L ow w) (hcall:CallOK P call) {f:FuncId} {ps:List PV} {z:PV} {vs:List Value} (hv:VPs S vs ps) (h:wc call f ps=some z) :
 Res P (G w0 S0 S L ow (.pv z) ow) ((callFunc f vs.toArray).run P w):=by
 have hC:=hcall.plain h
 refine Res.mono ?_ (hC S w vs (Gl.ok_here inv.glob inv.below) inv.prot hv)
 rintro v w' ⟨S',hle,hold,hprot,hvp,hB⟩
 exact⟨S',L,inv.grow hB hle hold hprot,Evo.grow hle _ _,hvp⟩
theorem z0i(pre:Pre P c w0 w S0 S L ow r act) (hcall:CallOK P call) {f:Operand} {args:Array Operand} {ats:Array TypeId} (ho:o.op= .call ⟨.value f,args,ats⟩) (h:opD c call own o r ow=some (av,ow')) :
 Res P (G w0 S0 S L ow av ow') ((execOp act.eval o).run P w):=by
 unfold opD op1 at h;rw[ho]at h;simp only at h
 cases hop:zIS own o r f args.toList with
 |true =>
  rw[hop]at h
  simp only[zA]at h
  obtain⟨hsz,h1⟩:=bif_some h
  exact zUa pre hcall ho (beq_iff_eq.1 hsz) (z0h h1)
 |false =>
 rw[hop]at h
 simp only[zC]at h
 obtain⟨p,hp,h1⟩:=zBV h
 obtain⟨g,hg,h2⟩:=zJ.1 h1
 rw[zDG]at h2
 obtain⟨ps,hps,h3⟩:=zJ.1 h2
 clear h h1 h2
 obtain⟨hc,h3⟩:=bif_some h3
 obtain⟨z,hz,h4⟩:=zJ.1 h3
 obtain⟨rfl,rfl⟩:=zT h4
 have e:p= .fn g.1 g.2.1 g.2.2:=by cases p<;>simp[PV.asFn]at hg;rw[<- hg]
 subst e
 have hf:=pre.hr f 0;rw[hp]at hf
 have hf' :VP S (act.eval f) (.fn g.1 g.2.1 g.2.2):=hf
 have hsz:args.size=ats.size:=beq_iff_eq.1 hc
 have hargs:VPs S (args.toList.map act.eval) ps:=zH2 pre.inv (zYo pre hsz) hps
 generalize hu:act.eval f=u at hf'
 cases hf' with
 |fn _ fs cs _ _ hm hl k1 k2 =>
  have hcaps:VPs S cs.toList g.2.2:=⟨by simpa using hl,λ j v p hv hp=>k2 j v p (by simpa using hv) hp⟩
  have hfst:VPs S fs.toList g.2.1:=⟨by simpa using hm,λ j v p hv hp=>k1 j v p (by simpa using hv) hp⟩
  rw[zRM ho hu]
  exact zXV pre.inv hcall ((hfst.append hargs).append hcaps) hz
end
end Go.Ab

namespace Go.Ab
open Go.RowKit (Below)
variable [GL:Gl]
section
variable {P:Program} {c:Cfg} {call:Wf} {w0:Base} {w:World} {S0 S:Pr} {L:List Loc} {ow:List Ob} {own:Hi} {o:Oper} {r:Operand->TypeId->AV} {act:Act} {av:AV} {ow' :List Ob}
theorem Inv.turn2{w' :World} (inv:Inv w0 S0 S L ow w) {o p:Nat} {ob ob' pb pb' :Ob} {l l' m m' :Loc} (ho:ow[o]? =some ob) (hl:L[o]? =some l) (hp:ow[p]? =some pb) (hm:L[p]? =some m) (hne:o≠p)
 (hE:Evo S L ow S ((L.set o l').set p m') ((ow.set o ob').set p pb'))
 (hsz:w.heap.size<=w'.heap.size) (hos:w'.os=w.os) (htape:w'.tape=w.tape) (hout:w'.output=w.output)
 (hb:∀ b,b<w.heap.size->b∉zZ ob l->b∉zZ pb m->w'.heap[b]? =w.heap[b]?)
 (hpr:∀ b o v,S b o=some v->memV w' b o=some v)
 (hob:ObR S ((L.set o l').set p m') ((ow.set o ob').set p pb') w' ob' l') (hpb:ObR S ((L.set o l').set p m') ((ow.set o ob').set p pb') w' pb' m')
 (hn:∀ b,b∈zZ ob' l' ->(w.heap.size<=b∨b∈zZ ob l∨b∈zZ pb m)/\b<w'.heap.size/\∀ j v,S b j=some v->mayS ob' l' b j)
 (hn2:∀ b,b∈zZ pb' m' ->(w.heap.size<=b∨b∈zZ ob l∨b∈zZ pb m)/\b<w'.heap.size/\∀ j v,S b j=some v->mayS pb' m' b j)
 (hd:∀ b,b∈zZ ob' l' ->b∉zZ pb' m') :
 Inv w0 S0 S ((L.set o l').set p m') ((ow.set o ob').set p pb') w' :=by
 have hlt:o<ow.length:=(zQ.1 ho).1
 have hltL:o<L.length:=(zQ.1 hl).1
 have plt:p<ow.length:=(zQ.1 hp).1
 have pltL:p<L.length:=(zQ.1 hm).1
 have at_:∀ i x y,((ow.set o ob').set p pb')[i]? =some x->((L.set o l').set p m')[i]? =some y->(i≠o/\i≠p/\ow[i]? =some x/\L[i]? =some y)∨(i=o/\x=ob' /\y=l')∨(i=p/\x=pb' /\y=m'):=λ i x y hx hy=>by
  by_cases e:i=p
  ·subst e
   rw[zAJ (by simpa using plt)]at hx
   rw[zAJ (by simpa using pltL)]at hy
   exact .inr (.inr ⟨rfl,(Option.some.inj hx).symm,(Option.some.inj hy).symm⟩)
  ·rw[zAr (Ne.symm e)]at hx hy
   by_cases e2:i=o
   ·subst e2
    rw[zAJ hlt]at hx
    rw[zAJ hltL]at hy
    exact .inr (.inl ⟨rfl,(Option.some.inj hx).symm,(Option.some.inj hy).symm⟩)
   ·rw[zAr (Ne.symm e2)]at hx hy
    exact .inl ⟨e2,e,hx,hy⟩
 have mine:∀ b,b∈zZ ob l->¬ w0.old b:=λ b h=>(inv.own o ob l b ho hl h).1
 have mine2:∀ b,b∈zZ pb m->¬ w0.old b:=λ b h=>(inv.own p pb m b hp hm h).1
 have far:∀ i x y b,i≠o->i≠p->ow[i]? =some x->L[i]? =some y->b∈zZ x y->b∉zZ ob l/\b∉zZ pb m:=λ i x y b e e2 hx hy hbk =>
  ⟨λ h=>e (inv.sep i o x ob y l b hx hy ho hl hbk h),λ h=>e2 (inv.sep i p x pb y m b hx hy hp hm hbk h)⟩
 have notOld:∀ b,(w.heap.size<=b∨b∈zZ ob l∨b∈zZ pb m)->¬ w0.old b:=λ b h=>by
  rcases h with h | h | h
  ·exact λ k=>absurd (zB1 k.1 (Nat.le_trans inv.below.size h)) (Nat.lt_irrefl _)
  ·exact mine b h
  ·exact mine2 b h
 have clash:∀ i x y b,i≠o->i≠p->ow[i]? =some x->L[i]? =some y->b∈zZ x y->(w.heap.size<=b∨b∈zZ ob l∨b∈zZ pb m)->False:=λ i x y b e e2 hx hy hbk h=>by
  have h2:=(inv.own i x y b hx hy hbk).2.1
  obtain⟨f1,f2⟩:=far i x y b e e2 hx hy hbk
  rcases h with h | h | h
  ·omega
  ·exact f1 h
  ·exact f2 h
 refine⟨by simp[inv.len],⟨hos.trans inv.below.os,htape.trans inv.below.tape,hout.trans inv.below.output,Nat.le_trans inv.below.size hsz,?_⟩,hpr,inv.old,inv.le,inv.glob,hE.anc inv.anc,?_,?_,?_⟩
 ·intro k hk
  rw[hb k (zB1 hk.1 inv.below.size) (λ e=>mine k e hk) (λ e=>mine2 k e hk)]
  exact inv.below.block k hk
 ·intro i x y hx hy
  rcases at_ i x y hx hy with⟨e,e2,h,h'⟩ | ⟨rfl,rfl,rfl⟩ | ⟨rfl,rfl,rfl⟩
  ·exact(inv.obs i x y h h').keep hE (λ b hbk=>hb b (inv.own i x y b h h' hbk).2.1 (far i x y b e e2 h h' hbk).1 (far i x y b e e2 h h' hbk).2)
  ·exact hob
  ·exact hpb
 ·intro i x y b hx hy hbk
  rcases at_ i x y hx hy with⟨e,e2,h,h'⟩ | ⟨rfl,rfl,rfl⟩ | ⟨rfl,rfl,rfl⟩
  ·obtain⟨h1,h2,h3⟩:=inv.own i x y b h h' hbk
   exact⟨h1,zB1 h2 hsz,h3⟩
  ·obtain⟨h1,h2,h3⟩:=hn b hbk
   exact⟨notOld b h1,h2,h3⟩
  ·obtain⟨h1,h2,h3⟩:=hn2 b hbk
   exact⟨notOld b h1,h2,h3⟩
 ·intro i i' x x' y y' b hx hy hx' hy' hbk hbk'
  rcases at_ i x y hx hy with⟨e,e2,h,h'⟩ | ⟨rfl,rfl,rfl⟩ | ⟨rfl,rfl,rfl⟩<;>rcases at_ i' x' y' hx' hy' with⟨f,f2,k,k'⟩ | ⟨rfl,rfl,rfl⟩ | ⟨rfl,rfl,rfl⟩
  ·exact inv.sep i i' x x' y y' b h h' k k' hbk hbk'
  ·exact(clash i x y b e e2 h h' hbk (hn b hbk').1).elim
  ·exact(clash i x y b e e2 h h' hbk (hn2 b hbk').1).elim
  ·exact(clash i' x' y' b f f2 k k' hbk' (hn b hbk).1).elim
  ·rfl
  ·exact(hd b hbk hbk').elim
  ·exact(clash i' x' y' b f f2 k k' hbk' (hn2 b hbk).1).elim
  ·exact(hd b hbk' hbk).elim
  ·rfl
theorem zYp{R:Type} (c:Cfg) (ow:List Ob) (kt:TypeId) (z m key:AV) (k:AV->List Ob->Option R):zYV c ow kt z m key k=(zYV c ow kt z m key λ a b=>some (a,b)).bind λ z=>k z.1 z.2:=by
 unfold zYV
 split
 ·split
  ·rw[zAN (R:=R),zAN (R:=AV×List Ob)]
   simp only[zBD]
   congr 1;funext kp
   rename_i sh es ver sh' xs0 _ _
   cases (zNe c 6 kt kp&&sh==sh') with
   |false=>rfl
   |true =>
    simp only[zA]
    cases gidx (eqP c 6 kt) kp es with
    |none=>rfl
    |some j =>
     simp only[zB]
     cases zUS sh j es<;>rfl
  ·rfl
 ·rfl
theorem zXW{R:Type} (ow:List Ob) (m s x:AV) (k:AV->List Ob->Option R):zSX ow m s x k=(zSX ow m s x λ a b=>some (a,b)).bind λ z=>k z.1 z.2:=by
 have hb:∀{A B:Type} (a:AV) (f:Int->Option A) (g:A->Option B),zFP a (λ n=>(f n).bind g)=(zFP a f).bind g:=λ a f g=>by
  unfold zFP pvOf idxI
  cases a with
  |pv p=>simp only;cases p.asInt<;>rfl
  |_=>rfl
 unfold zSX
 split
 ·split
  ·split
   ·rw[<- hb]
    congr 1;funext n
    rename_i ob _ _ sh j es ver sh' xs _ _ _ o' ver'
    cases (decide (n=(j:Int))&&sh==sh' &&ver==ver' &&o' ==ob+1)<;>rfl
   ·rfl
  ·rfl
 ·rfl
theorem zWB(hT:TyOK P c) {kt:TypeId} {k:Value} {kp:PV} (hk:VP S k kp):∀(es:List MapEntry) (ps:List (PV×PV)) (i j:Nat),EntsR S es ps->gidx (eqP c 6 kt) kp ps=some j ->
 ∃ r,(Instr.findAsking kt k es i).run P w= .ok r w/\match r with
  |none=>j=ps.length
  |some (q,val)=>∃ e x u,q=i+j/\es[j]? =some e/\ps[j]? =some (x,u)/\e.val=val/\zPy x kp=true
 | [],[],i,z,_,h=>by simp[gidx]at h;subst h;exact⟨none,rfl,rfl⟩
 | [],_::_,_,_,h,_=>by have:=h.1;simp at this
 |_::_,[],_,_,h,_=>by have:=h.1;simp at this
 |e::es,(x,u)::ps,i,z,he,h=>by
  obtain⟨⟨h1,h2⟩,h3⟩:=he.tail
  simp only[gidx,zJ]at h
  obtain⟨b,hb,h⟩:=h
  have heq:(Op.equal kt k e.key).run P w= .ok b w:=eqP_sound hT 6 Op.maxDepth kt k e.key kp x b (by decide) hk h1 hb
  cases b with
  |true =>
   simp only[zA]at h
   cases hs:zPy x kp with
   |false=>rw[hs]at h;cases h
   |true =>
    rw[hs]at h
    simp only[zA,zE]at h
    subst h
    exact⟨some (i,e.val),by simp[Instr.findAsking,heq],e,x,u,rfl,rfl,rfl,rfl,hs⟩
  |false =>
   simp only[zC,zJ,zE]at h
   obtain⟨j,h4,rfl⟩:=h
   obtain⟨r,k1,k2⟩:=zWB hT hk es ps (i+1) j h3 h4
   refine⟨r,by simp[Instr.findAsking,heq,k1],?_⟩
   cases r with
   |none=>simp only at k2 ⊢;rw[k2];rfl
   |some q =>
    obtain⟨q,val⟩:=q
    obtain⟨e',x',u',e1,e2,e3,e4,e5⟩:=k2
    exact⟨e',x',u',by omega,by simpa using e2,by simpa using e3,e4,e5⟩
theorem zH5{rs:List (Option Addr×Nat)} {b:Nat}:b∈(rs.map rowB).flatten↔∃(j:Nat) (r:Option Addr×Nat),rs[j]? =some r/\b∈rowB r:=by
 simp only[List.mem_flatten,zAh]
 constructor
 ·rintro⟨l,⟨r,hr,rfl⟩,hb⟩
  obtain⟨j,hj⟩:=List.getElem?_of_mem hr
  exact⟨j,r,hj,hb⟩
 ·rintro⟨j,r,hr,hb⟩
  exact⟨_,⟨r,zAV hr,rfl⟩,hb⟩
theorem zYq{sl:Bool} {ver sh:Nat} {xs:List PV} {r:Option Addr×Nat}:zZ (.row sl ver sh xs) (.row r.1 r.2)=rowB r:=rfl
theorem zUb{r:Option Addr×Nat} {b:Nat} (h:b∈rowB r):r.2≠0/\∃ a,r.1=some a/\b=a.block:=by
 unfold rowB at h
 split at h
 ·cases h
 ·rename_i hc
  refine⟨hc,?_⟩
  cases hr:r.1 with
  |none=>rw[hr]at h;simp at h
  |some a=>rw[hr]at h;simp at h;exact⟨a,rfl,h⟩
theorem Evo.grp2{ob b sh sh' ver ver2:Nat} {out out' :Option Nat} {es es' :List (PV×PV)} {rs rs' :List (Option Addr×Nat)} {xs ys:List PV} {r r' :Option Addr×Nat} (hob:ow[ob]? =some (.grp sh out es)) (hL:L[ob]? =some (.grp b rs))
 (hrow:ow[ob+1]? =some (.row true ver sh' xs)) (hLr:L[ob+1]? =some (.row r.1 r.2)) (hv:ver<ver2) :
 Evo S L ow S ((L.set ob (.grp b rs')).set (ob+1) (.row r'.1 r'.2)) ((ow.set ob (.grp sh out' es')).set (ob+1) (.row true ver2 sh' ys)):=by
 have h1:Evo S L ow S (L.set ob (.grp b rs')) (ow.set ob (.grp sh out' es')):=Evo.turn hob hL (Pr.le_refl S) (λ _ h k=>by cases h;cases k) ⟨b,rs,rs',rfl,rfl⟩
 have hne:ob≠ob+1:=by omega
 have h2:(ow.set ob (.grp sh out' es'))[ob+1]? =some (.row true ver sh' xs):=by rw[zAr hne];exact hrow
 have h3:(L.set ob (.grp b rs'))[ob+1]? =some (.row r.1 r.2):=by rw[zAr hne];exact hLr
 exact h1.trans (Evo.turn h2 h3 (Pr.le_refl S) (λ _ h k=>by cases h;cases k) ⟨rfl,by omega,λ e=>by omega⟩)
theorem zWC(inv:Inv w0 S0 S L ow w) {ob b sh:Nat} {out:Option Nat} {es:List (PV×PV)} {rs:List (Option Addr×Nat)} (hob:ow[ob]? =some (.grp sh out es)) (hL:L[ob]? =some (.grp b rs)) :
 (∀ j v,S b j=some v->False)/\∀(q b' :Nat) (r:Option Addr×Nat) (j:Nat) (v:Value),rs[q]? =some r->b' ∈rowB r->S b' j=some v ->
  ∃(a:Addr) (p:PV×PV) (xs:List PV),r.1=some a/\r.2≠0/\es[q]? =some p/\p.2= .slice sh xs/\b' =a.block/\j<a.off+xs.length*szOf sh:=by
 obtain⟨as,n,hh,hl,hrs,hn,hkv,hsep,hbr,hout⟩:=inv.obs ob _ _ hob hL
 constructor
 ·intro j v hv
  obtain⟨i,a,cap,p,xs,h1,h2,h3,h4,h5,h6⟩:=(inv.own ob _ _ b hob hL (by simp[zZ])).2.2 j v hv
  exact hbr i _ h1 (by simp[rowB,h2,h5])
 ·intro q b' r j v hq hb' hv
  have hmem:b' ∈zZ (.grp sh out es) (.grp b rs):=by
   simp only[zZ,zAE];exact .inr (zH5.2 ⟨q,r,hq,hb'⟩)
  obtain⟨i,a,cap,p,xs,h1,h2,h3,h4,h5,h6⟩:=(inv.own ob _ _ b' hob hL hmem).2.2 j v hv
  have e:i=q:=hsep i q b' _ r h1 hq (by simp[rowB,h2,h5]) hb'
  subst e
  rw[h1]at hq;cases hq
  exact⟨a,p,xs,rfl,h2,h3,h4,h5,h6⟩
theorem zYr(inv:Inv w0 S0 S L ow w) {ob b sh ver n n' j:Nat} {xs0 xs:List PV} {es es' :List (PV×PV)} {rs rs' :List (Option Addr×Nat)} {as as' :Array MapEntry} {rj r0:Option Addr×Nat}
 (hob:ow[ob]? =some (.grp sh none es)) (hL:L[ob]? =some (.grp b rs)) (hrow:ow[ob+1]? =some (.row true ver sh xs0)) (hLr:L[ob+1]? =some (.row r0.1 r0.2)) (hh:w.heap[b]? =some (.map as n))
 (hc1:as'.size=es'.length) (hc2:rs'.length=es'.length) (hc3:n' =es'.length)
 (hkv' :∀(q:Nat) (e:MapEntry) (p:PV×PV) (r:Option Addr×Nat),as'[q]? =some e->es'[q]? =some p->rs'[q]? =some r->VP S e.key p.1/\VP S e.val p.2/\e.born=q/\(q=j->r=(none,0)) /\
  (q≠j->∃ ys,p.2= .slice sh ys/\e.val= .slice r.1 ys.length r.2/\RowR S w sh ys r.1 r.2))
 (hj' :j<es'.length)
 (hold:∀(q:Nat) (r:Option Addr×Nat),rs'[q]? =some r->r.2≠0->q≠j/\rs[q]? =some r)
 (hesq:∀(q:Nat),q≠j->q<es.length->es'[q]? =es[q]?)
 (hR:RowR S w sh xs rj.1 rj.2) (hrj:rj.2≠0->rs[j]? =some rj/\∃ p,es[j]? =some p/\p.2= .slice sh xs) :
 ∃ L',Inv w0 S0 S L' ((ow.set ob (.grp sh (some j) es')).set (ob+1) (.row true (ver+1) sh xs)) { w with heap:=w.heap.setIfInBounds b (.map as' n') } /\
  Evo S L ow S L' ((ow.set ob (.grp sh (some j) es')).set (ob+1) (.row true (ver+1) sh xs)) /\
  VA S L' ((ow.set ob (.grp sh (some j) es')).set (ob+1) (.row true (ver+1) sh xs)) (.slice rj.1 xs.length rj.2) (.view (ob+1) (ver+1) none):=by
 obtain⟨as0,n0,hh0,hl,hrs,hn,hkv,hsep,hbr,hout⟩:=inv.obs ob _ _ hob hL
 obtain⟨hb0,hblt,_⟩:=inv.own ob _ _ b hob hL (by simp[zZ])
 obtain⟨noS,mS⟩:=zWC inv hob hL
 have hne:ob≠ob+1:=by omega
 have hother:∀ b',b' ≠b->(w.heap.setIfInBounds b (.map as' n'))[b']? =w.heap[b']? :=λ b' hne=>Array.getElem?_setIfInBounds_ne (Ne.symm hne)
 have hrb:∀(q:Nat) (r:Option Addr×Nat) (b' :Nat),rs'[q]? =some r->b' ∈rowB r->q≠j/\rs[q]? =some r:=λ q r b' hq hb' =>hold q r hq (zUb hb').1
 have hrjb:∀ b',b' ∈rowB rj->rs[j]? =some rj/\∃ p,es[j]? =some p/\p.2= .slice sh xs:=λ b' hb' =>hrj (zUb hb').1
 have hE:=Evo.grp2 (S:=S) (out' :=some j) (es' :=es') (rs' :=rs') (r' :=rj) (ys:=xs) hob hL hrow hLr (Nat.lt_succ_self ver)
 refine⟨_,inv.turn2 hob hL hrow hLr hne hE (by simp) rfl rfl rfl (λ b' _ h1 _=>hother b' λ e=>h1 (by rw[e];simp[zZ])) ?_ ?_ ?_ ?_ ?_ ?_,hE,?_⟩
 ·intro b' o' v hv
  by_cases e' :b' =b
  ·subst e';exact(noS o' v hv).elim
  ·rw[zCk (w:=w) (hother b' e')];exact inv.prot b' o' v hv
 ·refine⟨as',n',by show(w.heap.setIfInBounds b _)[b]? =_;simp[hblt],hc1,hc2,hc3,λ q e p r h1 h2 h3=> ?_,λ i q b' r r' h1 h2 h3 h4=> ?_,λ q r h1 h2=> ?_,λ q e=>by cases e;exact hj'⟩
  ·obtain⟨k1,k2,k3,k4,k5⟩:=hkv' q e p r h1 h2 h3
   refine⟨k1,k2,k3,λ e=>k4 (Option.some.inj e).symm,λ hq=> ?_⟩
   obtain⟨ys,m1,m2,m3⟩:=k5 (λ e=>hq (by rw[e]))
   exact⟨ys,m1,m2,m3.keep (Pr.le_refl S) λ b' hb' =>hother b' λ e=>hbr q r (hrb q r b' h3 hb').2 (e▸hb')⟩
  ·exact hsep i q b' r r' (hrb i r b' h1 h3).2 (hrb q r' b' h2 h4).2 h3 h4
  ·exact hbr q r (hrb q r b h1 h2).2 h2
 ·exact hR.keep (Pr.le_refl S) λ b' hb' =>hother b' λ e=>hbr j rj (hrjb b' hb').1 (e▸hb')
 ·intro b' hb'
  simp only[zZ,zAE,zH5]at hb'
  rcases hb' with rfl | ⟨q,r,hq,hb'⟩
  ·exact⟨.inr (.inl (by simp[zZ])),by simpa using hblt,λ jj v hv=>(noS jj v hv).elim⟩
  ·obtain⟨hqj,hq0⟩:=hrb q r b' hq hb'
   have hmem:b' ∈zZ (.grp sh none es) (.grp b rs):=by simp only[zZ,zAE];exact .inr (zH5.2 ⟨q,r,hq0,hb'⟩)
   refine⟨.inr (.inl hmem),by simpa using(inv.own ob _ _ b' hob hL hmem).2.1,λ jj v hv=> ?_⟩
   obtain⟨a,p,ys,m1,m2,m3,m4,m5,m6⟩:=mS q b' r jj v hq0 hb' hv
   exact⟨q,a,r.2,p,ys,by rw[hq,<-m1],m2,by rw[hesq q hqj (zQ.1 m3).1];exact m3,m4,m5,m6⟩
 ·intro b' hb'
  rw[zYq]at hb'
  obtain⟨hj0,p,hp,hpx⟩:=hrjb b' hb'
  have hmem:b' ∈zZ (.grp sh none es) (.grp b rs):=by simp only[zZ,zAE];exact .inr (zH5.2 ⟨j,rj,hj0,hb'⟩)
  refine⟨.inr (.inl hmem),by simpa using(inv.own ob _ _ b' hob hL hmem).2.1,λ jj v hv=> ?_⟩
  obtain⟨a,p',ys,m1,m2,m3,m4,m5,m6⟩:=mS j b' rj jj v hj0 hb' hv
  rw[hp]at m3;cases m3
  rw[hpx]at m4;cases m4
  rw[m1]
  exact⟨rfl,m6⟩
 ·intro b' hb' hb2
  rw[zYq]at hb2
  simp only[zZ,zAE,zH5]at hb'
  rcases hb' with rfl | ⟨q,r,hq,hb'⟩
  ·exact hbr j rj (hrjb _ hb2).1 hb2
  ·exact(hrb q r b' hq hb').1 (hsep q j b' r rj (hrb q r b' hq hb').2 (hrjb b' hb2).1 hb' hb2)
 ·refine⟨⟨_,_,_,rfl⟩,?_⟩
  have plt:ob+1<ow.length:=(zQ.1 hrow).1
  have pltL:ob+1<L.length:=(zQ.1 hLr).1
  rw[zAJ (by simpa using plt)]
  exact⟨zM _,λ _=>⟨rj.1,rj.2,by rw[zAJ (by simpa using pltL)],rfl⟩⟩
theorem z0j(inv:Inv w0 S0 S L ow w) {ob b sh ver n j:Nat} {xs:List PV} {es:List (PV×PV)} {rs:List (Option Addr×Nat)} {as:Array MapEntry} {r0:Option Addr×Nat}
 (hob:ow[ob]? =some (.grp sh (some j) es)) (hL:L[ob]? =some (.grp b rs)) (hrow:ow[ob+1]? =some (.row true ver sh xs)) (hLr:L[ob+1]? =some (.row r0.1 r0.2)) (hh:w.heap[b]? =some (.map as n))
 (hjl:j<es.length) (hx:VP S (.slice r0.1 xs.length r0.2) (.slice sh xs)) :
 ∃ L',Inv w0 S0 S L' ((ow.set ob (.grp sh none (gset (.slice sh xs) j es))).set (ob+1) (.row true (ver+1) sh [])) { w with heap:=w.heap.setIfInBounds b (.map (as.modify j λ e=>{ e with val:= .slice r0.1 xs.length r0.2 }) n) } /\
  Evo S L ow S L' ((ow.set ob (.grp sh none (gset (.slice sh xs) j es))).set (ob+1) (.row true (ver+1) sh [])):=by
 obtain⟨as0,n0,hh0,hl,hrs,hn,hkv,hsep,hbr,hout⟩:=inv.obs ob _ _ hob hL
 rw[hh]at hh0;cases hh0
 obtain⟨hb0,hblt,_⟩:=inv.own ob _ _ b hob hL (by simp[zZ])
 obtain⟨noS,mS⟩:=zWC inv hob hL
 have hne:ob≠ob+1:=by omega
 have hother:∀ b',b' ≠b->(w.heap.setIfInBounds b (.map (as.modify j λ e=>{ e with val:= .slice r0.1 xs.length r0.2 }) n))[b']? =w.heap[b']? :=λ b' hne=>Array.getElem?_setIfInBounds_ne (Ne.symm hne)
 have hjr:j<rs.length:=by rw[hrs];exact hjl
 have hRow:RowR S w sh xs r0.1 r0.2:=inv.obs (ob+1) _ _ hrow hLr
 have hr0b:b∉rowB r0:=λ h=>hne (inv.sep ob (ob+1) _ _ _ _ b hob hL hrow hLr (by simp[zZ]) h)
 have hr0q:∀(q:Nat) (r:Option Addr×Nat) (b' :Nat),rs[q]? =some r->b' ∈rowB r->b' ∉rowB r0:=λ q r b' hq hb' h =>
  hne (inv.sep ob (ob+1) _ _ _ _ b' hob hL hrow hLr (by simp only[zZ,zAE];exact .inr (zH5.2 ⟨q,r,hq,hb'⟩)) h)
 have hset:∀(q:Nat) (r:Option Addr×Nat),(rs.set j r0)[q]? =some r->(q=j/\r=r0)∨(q≠j/\rs[q]? =some r):=λ q r hq=>by
  by_cases e:q=j
  ·subst e;rw[zAJ hjr]at hq;exact .inl ⟨rfl,(Option.some.inj hq).symm⟩
  ·rw[zAr (Ne.symm e)]at hq;exact .inr ⟨e,hq⟩
 have hE:=Evo.grp2 (S:=S) (out' :=none) (es' :=gset (.slice sh xs) j es) (rs' :=rs.set j r0) (r' :=(none,0)) (ys:=[]) hob hL hrow hLr (Nat.lt_succ_self ver)
 have hgl:(gset (.slice sh xs) j es).length=es.length:=by simp[gset]
 have hgj:(gset (.slice sh xs) j es)[j]? =some ((es.getD j default).1,.slice sh xs):=by simp only[gset];rw[zAJ hjl]
 have hgq:∀ q,q≠j->(gset (.slice sh xs) j es)[q]? =es[q]? :=λ q e=>by simp only[gset];rw[zAr (Ne.symm e)]
 refine⟨_,inv.turn2 hob hL hrow hLr hne hE (by simp) rfl rfl rfl (λ b' _ h1 _=>hother b' λ e=>h1 (by rw[e];simp[zZ])) ?_ ?_ ⟨zM _,by simp,.inl rfl⟩ ?_ (λ b' hb' =>by simp[zZ]at hb') (λ b' _ hb' =>by simp[zZ]at hb'),hE⟩
 ·intro b' o' v hv
  by_cases e' :b' =b
  ·subst e';exact(noS o' v hv).elim
  ·rw[zCk (w:=w) (hother b' e')];exact inv.prot b' o' v hv
 ·refine⟨as.modify j λ e=>{ e with val:= .slice r0.1 xs.length r0.2 },n,by show(w.heap.setIfInBounds b _)[b]? =_;simp[hblt],by simp[hl,hgl],by simp[hrs,hgl],by rw[hgl];exact hn,λ q e p r h1 h2 h3=> ?_,λ i q b' r r' h1 h2 h3 h4=> ?_,λ q r h1 h2=> ?_,λ q e=>by cases e⟩
  ·rw[Array.getElem?_modify]at h1
   rcases hset q r h3 with⟨rfl,rfl⟩ | ⟨e',h3'⟩
   ·rw[hgj]at h2
    simp only[zE]at h2;subst h2
    have hja:q<as.size:=by rw[hl];exact hjl
    have hget:as[q]? =some as[q]:=zAj hja
    simp only[if_true,hget,zV,zE]at h1
    subst h1
    have hgd:es[q]? =some (es.getD q default):=by simp[zA0,hjl]
    obtain⟨k1,k2,k3,k4,k5⟩:=hkv q as[q] _ rs[q] hget hgd (zH hjr)
    refine⟨k1,hx,k3,λ e=>(by cases e),λ _=>⟨xs,rfl,rfl,hRow.keep (Pr.le_refl S) λ b' hb' =>hother b' λ e=>hr0b (e▸hb')⟩⟩
   ·rw[if_neg (Ne.symm e')]at h1
    rw[hgq q e']at h2
    obtain⟨k1,k2,k3,k4,k5⟩:=hkv q e p r h1 h2 h3'
    refine⟨k1,k2,k3,λ e=>(by cases e),λ _=> ?_⟩
    obtain⟨ys,m1,m2,m3⟩:=k5 (λ e=>e' (Option.some.inj e).symm)
    exact⟨ys,m1,m2,m3.keep (Pr.le_refl S) λ b' hb' =>hother b' λ e=>hbr q r h3' (e▸hb')⟩
  ·rcases hset i r h1 with⟨rfl,rfl⟩ | ⟨e1,h1'⟩<;>rcases hset q r' h2 with⟨rfl,rfl⟩ | ⟨e2,h2'⟩
   ·rfl
   ·exact(hr0q q r' b' h2' h4 h3).elim
   ·exact(hr0q i r b' h1' h3 h4).elim
   ·exact hsep i q b' r r' h1' h2' h3 h4
  ·rcases hset q r h1 with⟨rfl,rfl⟩ | ⟨e1,h1'⟩
   ·exact hr0b h2
   ·exact hbr q r h1' h2
 ·intro b' hb'
  simp only[zZ,zAE,zH5]at hb'
  rcases hb' with rfl | ⟨q,r,hq,hb'⟩
  ·exact⟨.inr (.inl (by simp[zZ])),by simpa using hblt,λ jj v hv=>(noS jj v hv).elim⟩
  ·rcases hset q r hq with⟨rfl,rfl⟩ | ⟨e1,hq0⟩
   ·obtain⟨_,o2,o3⟩:=inv.own (ob+1) _ _ b' hrow hLr hb'
    refine⟨.inr (.inr hb'),by simpa using o2,λ jj v hv=> ?_⟩
    have:=o3 jj v hv
    obtain⟨hc,a,ha,hba⟩:=zUb hb'
    rw[ha]at this
    exact⟨q,a,r.2,_,xs,by rw[hq,<-ha],hc,hgj,rfl,hba,this.2⟩
   ·have hmem:b' ∈zZ (.grp sh (some j) es) (.grp b rs):=by simp only[zZ,zAE];exact .inr (zH5.2 ⟨q,r,hq0,hb'⟩)
    refine⟨.inr (.inl hmem),by simpa using(inv.own ob _ _ b' hob hL hmem).2.1,λ jj v hv=> ?_⟩
    obtain⟨a,p,ys,m1,m2,m3,m4,m5,m6⟩:=mS q b' r jj v hq0 hb' hv
    exact⟨q,a,r.2,p,ys,by rw[hq,<-m1],m2,by rw[hgq q e1];exact m3,m4,m5,m6⟩
theorem zUc(pre:Pre P c w0 w S0 S L ow r act) {t:TypeId} {m i:Operand} (ho:o.op= .mapEntry t m i) (h:opD c call own o r ow=some (av,ow')) :
 Res P (G w0 S0 S L ow av ow') ((execOp act.eval o).run P w):=by
 unfold opD op1 at h;rw[ho]at h;simp only at h
 have hk:=pre.hT.kind t
 cases hkk:(c.at_ t).k<;>rw[hkk]at h hk<;>(try simp only at h)<;>(try simp only at hk)<;>try (cases h;done)
 rename_i kt et
 obtain⟨hu,hkk1,hke⟩:=hk
 have hm:=pre.hr m t
 obtain⟨zv,hzv,hzok⟩:=pre.hT.zeroValue hke
 obtain⟨hzva,_⟩:=zMU (S:=S) (L:=L) (ow:=ow) hzok
 unfold zYV at h
 split at h
 ·rename_i ob zs hmv hzz
  rw[hmv]at hm
  rw[hzz]at hzva
  obtain⟨za,rfl⟩:=hzva
  split at h
  ·rename_i sh es ver sh' xs0 hob hrow
   rw[zAN]at h
   obtain⟨kp,hkp,h1⟩:=zJ.1 h
   cases hok:(zNe c 6 kt kp&&sh==sh') with
   |false=>rw[hok]at h1;cases h1
   |true =>
   rw[hok]at h1
   simp only[zA]at h1
   simp only[zF,beq_iff_eq]at hok
   obtain⟨hok,rfl⟩:=hok
   obtain⟨j,hj,h2⟩:=zJ.1 h1
   obtain⟨xs,hxs,h3⟩:=zJ.1 h2
   clear h h1 h2
   obtain⟨rfl,rfl⟩:=zT h3
   obtain⟨b,em,hL⟩:=hm
   rw[hob]at hL
   obtain⟨rs,hL⟩:=hL
   obtain⟨as,n,hh,hl,hrs,hn,hkv,hsep,hbr,hout⟩:=pre.inv.obs ob _ _ hob hL
   obtain⟨lr,hLr⟩:∃ l,L[ob+1]? =some l:=⟨L[ob+1]'(by rw[pre.inv.len];exact(zQ.1 hrow).1),by simp⟩
   have hrr:=pre.inv.obs (ob+1) _ _ hrow hLr
   obtain⟨base0,cap0,rfl⟩:∃ b0 k0,lr= .row b0 k0:=by
    cases lr with
    |row b0 k0=>exact⟨_,_,rfl⟩
    |_=>exact hrr.elim
   have hkvp:=zB9 pre.inv (pre.hr i kt) hkp
   have hent:∀(q:Nat) (e:MapEntry) (p:PV×PV),as[q]? =some e->es[q]? =some p->VP S e.key p.1/\VP S e.val p.2:=λ q e p he hp=>by
    have hq:q<rs.length:=by rw[hrs];exact(zQ.1 hp).1
    obtain⟨k1,k2,_⟩:=hkv q e p rs[q] he hp (zH hq)
    exact⟨k1,k2⟩
   have hes:EntsR S as.toList es:=⟨by simpa using hl,λ j e p he hp=>hent j e p (by simpa using he) hp⟩
   obtain⟨d1,hd1⟩:=pre.hT.under hkk1
   obtain⟨rr,k1,k2⟩:=zWB (w:=w) pre.hT hkvp as.toList es 0 j hes hj
   have k3:=zKu hd1 k1
   have hck:(Instr.checkKey false 10000 kt (act.eval i)).run P w= .ok () w:=zGs pre.hT false 6 10000 kt _ _ (by decide) hkvp hok
   have hrun:∀ u w',(Instr.mapEntry t (act.eval m) (act.eval i)).run P w= .ok u w' ->(execOp act.eval o).run P w= .ok (.value u) w' :=λ u w' hu=>by simp[execOp,ho,hu]
   have tup:∀{L' :List Loc} {ow2:List Ob} {v:Value},VA S L' ow2 v (.view (ob+1) (ver+1) none)->VA S L' ow2 (.tuple #[v,.int .i64 j]) (.tupA [.view (ob+1) (ver+1) none,.pv (.int .i64 j)]):=λ hv =>
    ⟨_,rfl,rfl,λ q x a hx ha=>by
     match q,hx,ha with
     | 0,hx,ha=>simp at hx ha;subst hx;subst ha;exact hv
     | 1,hx,ha=>simp at hx ha;subst hx;subst ha;exact VP.int _ _
     |(n+2),hx,ha=>simp at hx⟩
   cases rr with
   |none =>
    simp only at k2
    subst k2
    have hgp:gput kp sh es.length es=es++[(kp,.slice sh [])]:=by simp[gput]
    have hxs0:xs=[]:=by simpa [zUS]using hxs.symm
    subst hxs0
    have app:∀{α:Type} (l:List α) (x:α) (q:Nat) (y:α),(l++[x])[q]? =some y->(q<l.length/\l[q]? =some y)∨(q=l.length/\y=x):=λ l x q y h=>by
     by_cases hq:q<l.length
     ·rw[zAW hq]at h;exact .inl ⟨hq,h⟩
     ·have:=(zQ.1 h).1
      simp at this
      have e:q=l.length:=by omega
      subst e
      rw[zAO (zM _)]at h
      simp at h
      exact .inr ⟨rfl,h.symm⟩
    obtain⟨L',m1,m2,m3⟩:=zYr (n' :=n+1) (as' :=as.push { key:=act.eval i,val:= .slice za 0 0,born:=n }) (es' :=gput kp sh es.length es) (rs' :=rs++[(none,0)]) (rj:=(za,0)) (r0:=(base0,cap0)) (xs:=[]) (j:=es.length) pre.inv hob hL hrow hLr hh
     (by rw[hgp];simp[hl]) (by rw[hgp];simp[hrs]) (by rw[hgp];simp[hn])
     (λ q e p r' he hp hr=>by
      rw[hgp]at hp
      have he' :(as.toList++[({ key:=act.eval i,val:= .slice za 0 0,born:=n }:MapEntry)])[q]? =some e:=by rw[<- Array.toList_push,Array.getElem?_toList];exact he
      rcases app _ _ _ _ hr with⟨q1,hr'⟩ | ⟨q1,rfl⟩
      ·rcases app _ _ _ _ he' with⟨_,he''⟩ | ⟨q2,_⟩
       ·rcases app _ _ _ _ hp with⟨q3,hp''⟩ | ⟨q3,_⟩
        ·obtain⟨k1,k2,k3,k4,k5⟩:=hkv q e p r' (by simpa using he'') hp'' hr'
         exact⟨k1,k2,k3,λ e=>absurd e (by omega),λ _=>k5 (by simp)⟩
        ·omega
       ·simp at q2;omega
      ·rcases app _ _ _ _ he' with⟨q2,_⟩ | ⟨_,rfl⟩
       ·simp at q2;omega
       ·rcases app _ _ _ _ hp with⟨q3,_⟩ | ⟨_,rfl⟩
        ·omega
        ·exact⟨hkvp,zQS (sh' :=sh) ⟨za,rfl⟩,by show n=q;omega,λ _=>rfl,λ e=>absurd (by omega) e⟩)
     (by rw[hgp];simp)
     (λ q r' hr hc=>by
      rcases app _ _ _ _ hr with⟨q1,hr'⟩ | ⟨_,rfl⟩
      ·exact⟨by omega,hr'⟩
      ·exact absurd rfl hc)
     (λ q _ hq=>by rw[hgp,zAW hq])
     ⟨zM _,by simp,.inl rfl⟩ (λ h=>absurd rfl h)
    rw[hrun (.tuple #[.slice za 0 0,.int .i64 (es.length:Nat)]) { w with heap:=w.heap.setIfInBounds b (.map (as.push { key:=act.eval i,val:= .slice za 0 0,born:=n }) (n+1)) } (by
     simp only[Instr.mapEntry,Sem.run_bind,run_underlying hu,Result.andThen_ok,em,zFe hh,hck,k3,hzv,zHz hh,Sem.run_pure,goInt,hn])]
    exact⟨S,L',m1,m2,tup m3⟩
   |some q =>
    obtain⟨q,val⟩:=q
    obtain⟨e0,x1,u1,e1,e2,e3,e4,e5⟩:=k2
    have eq0:q=j:=by omega
    subst eq0
    have hjl:q<es.length:=(zQ.1 e3).1
    have hja:q<as.size:=by rw[hl];exact hjl
    have hjr:q<rs.length:=by rw[hrs];exact hjl
    have hget:as[q]? =some as[q]:=zAj hja
    have he0:as[q]=e0:=by
     have:as[q]? =some e0:=by simpa using e2
     rw[hget]at this;exact Option.some.inj this
    obtain⟨k1',k2',k3',k4',k5'⟩:=hkv q as[q] (x1,u1) rs[q] hget e3 (zH hjr)
    obtain⟨ys,y1,y2,y3⟩:=k5' (by simp)
    simp only at y1
    subst y1
    have hys:xs=ys:=by
     simp only[zUS,e3,PV.asSlice,zBj,zA,zE]at hxs
     exact hxs.symm
    subst hys
    have hsb:Instr.sameBits 10000 as[q].key (act.eval i)=true:=zOg k1' hkvp e5 9999
    have hgd:es.getD q default=(x1,.slice sh xs):=by simp[zA0,e3]
    have hgp:gput kp sh q es=es.set q (kp,.slice sh xs):=by unfold gput;rw[zD hjl,hgd];rfl
    obtain⟨L',m1,m2,m3⟩:=zYr (n' :=n) (as' :=as.modify q λ e=>{ e with key:=act.eval i }) (es' :=gput kp sh q es) (rs' :=rs.set q (none,0)) (rj:=rs[q]) (r0:=(base0,cap0)) (xs:=xs) (j:=q) pre.inv hob hL hrow hLr hh
     (by rw[hgp];simp[hl]) (by rw[hgp];simp[hrs]) (by rw[hgp];simp[hn])
     (λ p e z r' he hp hr=>by
      rw[hgp]at hp
      rw[Array.getElem?_modify]at he
      by_cases hpq:p=q
      ·subst hpq
       rw[zAJ hjl]at hp
       rw[zAJ hjr]at hr
       simp only[if_true,hget,zV,zE]at he hp hr
       subst he;subst hp;subst hr
       exact⟨hkvp,k2',k3',λ _=>rfl,λ e=>absurd rfl e⟩
      ·rw[if_neg (Ne.symm hpq)]at he
       rw[zAr (Ne.symm hpq)]at hp hr
       obtain⟨n1,n2,n3,n4,n5⟩:=hkv p e z r' he hp hr
       exact⟨n1,n2,n3,λ e=>absurd e hpq,λ _=>n5 (by simp)⟩)
     (by rw[hgp];simpa using hjl)
     (λ p r' hr hc=>by
      by_cases hpq:p=q
      ·subst hpq
       rw[zAJ hjr]at hr
       simp only[zE]at hr;subst hr
       exact absurd rfl hc
      ·rw[zAr (Ne.symm hpq)]at hr
       exact⟨hpq,hr⟩)
     (λ p hp _=>by rw[hgp,zAr (Ne.symm hp)])
     y3 (λ _=>⟨zH hjr,_,e3,rfl⟩)
    have hval:val= .slice rs[q].1 xs.length rs[q].2:=by rw[<- e4,<-he0];exact y2
    subst hval
    rw[hrun (.tuple #[.slice rs[q].1 xs.length rs[q].2,.int .i64 (q:Nat)]) { w with heap:=w.heap.setIfInBounds b (.map (as.modify q λ e=>{ e with key:=act.eval i }) n) } (by
     simp only[Instr.mapEntry,Sem.run_bind,run_underlying hu,Result.andThen_ok,em,zFe hh,hck,k3,hget,zV,Option.getD_some,Instr.keyThatStays,hsb,if_true,Sem.run_pure,zHz hh,goInt,k3'])]
    exact⟨S,L',m1,m2,tup m3⟩
  ·cases h
 ·cases h
theorem zRN(pre:Pre P c w0 w S0 S L ow r act) {t:TypeId} {m s x:Operand} (ho:o.op= .entryStore t m s x) (h:opD c call own o r ow=some (av,ow')) :
 Res P (G w0 S0 S L ow av ow') ((execOp act.eval o).run P w):=by
 unfold opD op1 at h;rw[ho]at h;simp only at h
 cases hkk:(c.at_ t).k<;>rw[hkk]at h<;>(try simp only at h)<;>try (cases h;done)
 rename_i kt et
 have hm:=pre.hr m t
 have hx:=pre.hr x et
 unfold zSX at h
 split at h
 ·rename_i ob hmv
  rw[hmv]at hm
  split at h
  ·rename_i sh j es ver sh' xs hob hrow
   split at h
   ·rename_i o' ver' hxv
    rw[hxv]at hx
    obtain⟨kd,n,hs,h1⟩:=zEn h
    clear h
    have hsv:=zSc pre hs
    cases hc:(decide (n=(j:Int))&&sh==sh' &&ver==ver' &&o' ==ob+1) with
    |false=>rw[hc]at h1;cases h1
    |true =>
    rw[hc]at h1
    simp only[zA]at h1
    simp only[zF,beq_iff_eq,zU]at hc
    obtain⟨⟨⟨rfl,rfl⟩,rfl⟩,rfl⟩:=hc
    obtain⟨rfl,rfl⟩:=zT h1
    clear h1
    obtain⟨b,em,hL⟩:=hm
    rw[hob]at hL
    obtain⟨rs,hL⟩:=hL
    obtain⟨as,nn,hh,hl,hrs,hn,hkv,hsep,hbr,hout⟩:=pre.inv.obs ob _ _ hob hL
    obtain⟨_,hxr⟩:=(show VA1 S L ow (act.eval x) (.view (ob+1) ver none)from hx)
    rw[hrow]at hxr
    obtain⟨_,hxr⟩:=hxr
    obtain⟨base,cap,hLr,hxe⟩:=hxr rfl
    simp only at hxe
    have hvp:VP S (act.eval x) (.slice sh xs):=zBk pre.inv (a:= .view (ob+1) ver none) hx (by simp[AV.port1,hrow,AV.sub])
    rw[hxe]at hvp
    have hborn:∀(q:Nat) (hq:q<as.size),as[q].born=q:=λ q hq=>by
     have h1:q<es.length:=by rw[<- hl];exact hq
     have h2:q<rs.length:=by rw[hrs];exact h1
     exact(hkv q as[q] es[q] rs[q] (zAj hq) (zH h1) (zH h2)).2.2.1
    by_cases hjl:j<es.length
    ·have hja:j<as.size:=by rw[hl];exact hjl
     have hfind:as.findIdx? (λ e=>(e.born:Int)==(j:Int))=some j:=by
      rw[Array.findIdx?_eq_some_iff_getElem]
      refine⟨hja,by simp[hborn j hja],λ q hq=> ?_⟩
      have hqa:q<as.size:=by omega
      simp[hborn q hqa];omega
     obtain⟨L',m1,m2⟩:=z0j (r0:=(base,cap)) pre.inv hob hL hrow hLr hh hjl hvp
     have hrun:(execOp act.eval o).run P w= .ok .skip { w with heap:=w.heap.setIfInBounds b (.map (as.modify j λ e=>{ e with val:= .slice base xs.length cap }) nn) }:=by
      have hai:(asInt (.int kd (j:Int))).run P w= .ok (j:Int) w:=rfl
      simp[execOp,ho,Instr.entryStore,em,zFe hh,hsv,hai,hfind,hxe,zHz hh]
     rw[hrun]
     exact⟨S,L',m1,m2,VP.undef _⟩
    ·exact absurd (hout j rfl) hjl
   ·cases h
  ·cases h
 ·cases h
end
end Go.Ab

namespace Go.Ab
open Go.RowKit (Below)
variable [GL:Gl]
section
variable {P:Program} {c:Cfg} {w0:Base} {w:World} {S0 S:Pr} {L:List Loc} {ow:List Ob} {call:Wf} {own:Hi} {o:Oper} {r:Operand->TypeId->AV} {act:Act} {av:AV} {ow' :List Ob}
theorem z0k(pre:Pre P c w0 w S0 S L ow r act) {t:TypeId} {x:Operand} (ho:o.op= .range t x) (h:opD c call own o r ow=some (av,ow')) :
 Res P (G w0 S0 S L ow av ow') ((execOp act.eval o).run P w):=by
 unfold opD op1 at h;rw[ho]at h;simp only at h
 have hk:=pre.hT.kind t
 cases hkk:(c.at_ t).k<;>rw[hkk]at h hk<;>(try simp only at h)<;>(try simp only at hk)<;>try (cases h;done)
 obtain⟨p,hp,h1⟩:=zBV h
 obtain⟨s,hs,h2⟩:=zJ.1 h1
 clear h h1
 have e:=zH0 hs;subst e
 have hx:=pre.hr x t;rw[hp]at hx
 have ex:=zIu hx
 obtain⟨rfl,rfl⟩:=zT h2
 have hrun:(execOp act.eval o).run P w= .ok (.value (.pointer (some ⟨w.heap.size,0,none⟩))) (w.alloc (.stringIter s 0)):=by
  simp[execOp,ho,Instr.range,run_underlying hk,ex]
 rw[hrun]
 obtain⟨k1,k2⟩:=pre.inv.push (ob:= .sit s 0) (l:= .blk w.heap.size) (zDx w (.stringIter s 0)) (Pr.le_refl S) (λ _ _ _=>rfl) (zEw pre.inv _)
  (by show(w.heap.push _)[w.heap.size]? =_;simp)
  (λ b hb=>by
   simp only[zZ,zBf]at hb;subst hb
   exact⟨zM _,by simp,λ j v hv=>(zJP pre.inv j v hv).elim⟩)
 exact⟨S,_,k1,k2,⟨w.heap.size,by rw[<- pre.inv.len];simp,by simp,rfl⟩⟩
theorem z2u(pre:Pre P c w0 w S0 S L ow r act) {x:Operand} (ho:o.op= .next x true) (h:opD c call own o r ow=some (av,ow')) :
 Res P (G w0 S0 S L ow av ow') ((execOp act.eval o).run P w):=by
 unfold opD op1 at h;rw[ho]at h;simp only at h
 have hx:=pre.hr x 0
 cases ha:r x 0 with
 |own ob off =>
  rw[ha]at h hx
  cases off with
  |succ n=>cases h
  |zero =>
  simp only at h
  obtain⟨b,hL,hlt,ex⟩:=hx.own_ptr
  cases hob:ow[ob]? with
  |none=>rw[hob]at h;cases h
  |some oo =>
   rw[hob]at h
   cases oo<;>(try simp only at h)<;>try (cases h;done)
   rename_i s pos
   have hh:w.heap[b]? =some (.stringIter s pos):=pre.inv.obs ob _ _ hob hL
   have hget:(getObj b).run P w= .ok (.stringIter s pos) w:=by simp[getObj,Sem.run,hh]
   cases hd:decide (pos<s.size) with
   |false =>
    rw[hd]at h
    simp only[zC]at h
    obtain⟨rfl,rfl⟩:=zT h
    have hn:¬ pos<s.size:=of_decide_eq_false hd
    have hrun:(execOp act.eval o).run P w= .ok (.value (.tuple #[.bool false])) w:=by
     simp[execOp,ho,Instr.next,ex,hget,hn]
    rw[hrun]
    exact Good.same pre.inv (VP.tup _ _ rfl (λ j v p hv hp=>by
     cases j with
     |zero=>simp at hv hp;subst hv;subst hp;exact .bool _
     |succ j=>simp at hv))
   |true =>
    rw[hd]at h
    simp only[zA]at h
    obtain⟨rfl,rfl⟩:=zT h
    have hn:pos<s.size:=zAM hd
    have hset:(setObj b (.stringIter s (pos+(Utf8.decode s pos).2))).run P w= .ok () { w with heap:=w.heap.setIfInBounds b (.stringIter s (pos+(Utf8.decode s pos).2)) }:=by
     simp[setObj,Sem.run,hh]
    have hrun:(execOp act.eval o).run P w= .ok (.value (.tuple #[.bool true,.int .i64 pos,.int .i32 (Utf8.decode s pos).1])) { w with heap:=w.heap.setIfInBounds b (.stringIter s (pos+(Utf8.decode s pos).2)) }:=by
     simp[execOp,ho,Instr.next,ex,hget,hn,hset,goInt]
    rw[hrun]
    have hE:Evo S L ow S (L.set ob (.blk b)) (ow.set ob (.sit s (pos+(Utf8.decode s pos).2))):=Evo.turn hob hL (Pr.le_refl S) (λ _ h _=>h) (by trivial)
    have mine:b∈zZ (.sit s pos) (.blk b):=by simp[zZ]
    obtain⟨hb0,hblt,hSn⟩:=pre.inv.own ob _ _ b hob hL mine
    have noS:∀ j v,S b j=some v->False:=λ j v hv=>by have:=hSn j v hv;simp[mayS]at this
    have hother:∀ b',b' ≠b->(w.heap.setIfInBounds b (.stringIter s (pos+(Utf8.decode s pos).2)))[b']? =w.heap[b']? :=λ b' hne=>Array.getElem?_setIfInBounds_ne (Ne.symm hne)
    refine⟨S,_,pre.inv.turn hob hL hE (by simp) rfl rfl rfl (λ b' hb' hne=>hother b' (λ e' =>hne (by rw[e'];exact mine))) (λ _ _ _ _=>rfl) ?_ ?_ ?_,hE,?_⟩
    ·intro b' o' v hv
     by_cases e' :b' =b
     ·subst e';exact(noS o' v hv).elim
     ·have:=pre.inv.prot b' o' v hv
      rw[zCk (w:=w) (hother b' e')];exact this
    ·show(w.heap.setIfInBounds b _)[b]? =_
     simp[hblt]
    ·intro b' hb'
     simp only[zZ,zBf]at hb';subst hb'
     exact⟨.inr mine,by simpa using hblt,λ j v hv=>(noS j v hv).elim⟩
    ·refine VP.tup _ _ rfl (λ j v p hv hp=> ?_)
     match j,hv,hp with
     | 0,hv,hp=>simp at hv hp;subst hv;subst hp;exact .bool _
     | 1,hv,hp=>simp at hv hp;subst hv;subst hp;exact .int _ _
     | 2,hv,hp=>simp at hv hp;subst hv;subst hp;exact .int _ _
     |(n+3),hv,hp=>simp at hv
 |pv p=>rw[ha]at h;cases h
 |nil sh=>rw[ha]at h;cases h
 |sl bb sh xxs=>rw[ha]at h;cases h
 |gm o=>rw[ha]at h;cases h
 |fx o s=>rw[ha]at h;cases h
 |fe o i off=>rw[ha]at h;cases h
 |agg cs=>rw[ha]at h;cases h
 |view ob ver sb=>rw[ha]at h;cases h
 |elem ob ver i off=>rw[ha]at h;cases h
 |mp ob=>rw[ha]at h;cases h
 |fnv f fs cs=>rw[ha]at h;cases h
 |tupA as=>rw[ha]at h;cases h
theorem zXX(pre:Pre P c w0 w S0 S L ow r act) {x:Operand} {j:Nat} (ho:o.op= .extract x j) (h:opD c call own o r ow=some (av,ow')) :
 Res P (G w0 S0 S L ow av ow') ((execOp act.eval o).run P w):=by
 unfold opD op1 at h;rw[ho]at h;simp only at h
 have h0:(∃ as,r x 0= .tupA as/\(as[j]?).bind (λ a=>some (a,ow))=some (av,ow'))∨(pvOf (r x 0) λ p=>p.asTup.bind λ vs=>(vs[j]?).bind λ v=>some (AV.pv v,ow))=some (av,ow'):=by
  cases hr:r x 0<;>rw[hr]at h<;>first | exact .inr h | exact .inl ⟨_,rfl,h⟩
 clear h
 rcases h0 with⟨as,hp,h⟩ | h
 ·obtain⟨a,ha,h1⟩:=zJ.1 h
  obtain⟨rfl,rfl⟩:=zT h1
  have hx:=pre.hr x 0;rw[hp]at hx
  obtain⟨vs,hv,hl,h2⟩:=hx
  have hlt:j<vs.size:=by rw[hl];exact(zQ.1 ha).1
  have hg:vs[j]? =some vs[j]:=zAj hlt
  have hrun:(execOp act.eval o).run P w= .ok (.value vs[j]) w:=by
   simp[execOp,ho,hv,Instr.extract,hg]
  rw[hrun]
  exact Good.same pre.inv (VA.of2 (h2 j _ a hg ha))
 obtain⟨p,hp,h1⟩:=zBV h
 obtain⟨vs,hvs,h2⟩:=zJ.1 h1
 obtain⟨v,hv,h3⟩:=zJ.1 h2
 clear h h1 h2
 obtain⟨rfl,rfl⟩:=zT h3
 have e:p= .tup vs:=by cases p<;>simp[PV.asTup]at hvs;rw[hvs]
 subst e
 have hx:=pre.hr x 0;rw[hp]at hx
 have hx' :VP S (act.eval x) (.tup vs):=hx
 generalize hu:act.eval x=u at hx'
 cases hx' with
 |tup cs _ hl hc =>
  have hlt:j<cs.size:=by rw[hl];exact(zQ.1 hv).1
  have hg:cs[j]? =some cs[j]:=zAj hlt
  have hrun:(execOp act.eval o).run P w= .ok (.value cs[j]) w:=by
   simp[execOp,ho,hu,Instr.extract,hg]
  rw[hrun]
  exact Good.same pre.inv (hc j _ v hg hv)
theorem z4B(pre:Pre P c w0 w S0 S L ow r act) {args:Array Operand} {ats:Array TypeId} (ho:o.op= .call ⟨.builtin .len,args,ats⟩) (h:opD c call own o r ow=some (av,ow')) :
 Res P (G w0 S0 S L ow av ow') ((execOp act.eval o).run P w):=by
 unfold opD op1 at h;rw[ho]at h;simp only at h
 split at h
 ·rename_i x t hxs hts
  have ea:args= #[x]:=by apply Array.ext';simpa using hxs
  have et:ats= #[t]:=by apply Array.ext';simpa using hts
  subst ea;subst et
  have hk:=pre.hT.kind t
  have hx:=pre.hr x t
  have hrun:∀ n:Int,(Builtin.len_ #[t] o.type #[act.eval x]).run P w= .ok (.int .i64 n) w->(execOp act.eval o).run P w= .ok (.value (.int .i64 n)) w:=λ n hn=>by
   simp[execOp,ho,resolve,invoke,builtin,hn]
  cases hkk:(c.at_ t).k<;>rw[hkk]at h hk<;>(try simp only at h)<;>(try simp only at hk)<;>try (cases h;done)
  case str =>
   obtain⟨p,hp,h1⟩:=zBV h
   obtain⟨s,hs,h2⟩:=zJ.1 h1
   clear h h1
   have e:=zH0 hs;subst e
   rw[hp]at hx
   have ex:=zIu hx
   obtain⟨rfl,rfl⟩:=zT h2
   rw[hrun s.size (by simp[Builtin.len_,run_underlying hk,ex,goInt])]
   exact Good.same pre.inv (VP.int _ _)
  case slice e =>
   rw[zD8]at h
   obtain⟨ys,hys,h2⟩:=zJ.1 h
   obtain⟨rfl,rfl⟩:=zT h2
   obtain⟨base,n,cap,b,o0,ex,hl,_⟩:=zKr pre.inv hx hys
   rw[hrun ys.length (by simp[Builtin.len_,run_underlying hk.1,ex,goInt,hl])]
   exact Good.same pre.inv (VP.int _ _)
  case arr n e =>
   obtain⟨rfl,rfl⟩:=zT h
   have:(Builtin.len_ #[t] o.type #[act.eval x]).run P w= .ok (.int .i64 n) w:=by
    cases hv:act.eval x<;>simp[Builtin.len_,run_underlying hk.1,goInt]
   rw[hrun n this]
   exact Good.same pre.inv (VP.int _ _)
  case map kt et =>
   rw[zKH]at h
   obtain⟨ps,hps,h2⟩:=zJ.1 h
   obtain⟨rfl,rfl⟩:=zT h2
   rcases zQ1 pre.inv hx hps with⟨e,rfl⟩ | ⟨m,es,n,e,hh,hes⟩
   ·rw[hrun 0 (by simp[Builtin.len_,run_underlying hk.1,e,goInt])]
    exact Good.same pre.inv (VP.int _ _)
   ·have hl:es.size=ps.length:=by simpa using hes.1
    rw[hrun ps.length (by simp[Builtin.len_,run_underlying hk.1,e,zFe hh,goInt,hl])]
    exact Good.same pre.inv (VP.int _ _)
 ·cases h
theorem z4C(pre:Pre P c w0 w S0 S L ow r act) {args:Array Operand} {ats:Array TypeId} (ho:o.op= .call ⟨.builtin .cap,args,ats⟩) (h:opD c call own o r ow=some (av,ow')) :
 Res P (G w0 S0 S L ow av ow') ((execOp act.eval o).run P w):=by
 unfold opD op1 at h;rw[ho]at h;simp only at h
 split at h
 ·rename_i x t hxs hts
  have ea:args= #[x]:=by apply Array.ext';simpa using hxs
  have et:ats= #[t]:=by apply Array.ext';simpa using hts
  subst ea;subst et
  have hk:=pre.hT.kind t
  have hx:=pre.hr x t
  split at h
  ·rename_i e sh hkk hxx
   rw[hkk]at hk
   rw[hxx]at hx
   obtain⟨base,ex⟩:=hx
   obtain⟨rfl,rfl⟩:=zT h
   have hrun:(execOp act.eval o).run P w= .ok (.value (.int .i64 0)) w:=by
    simp[execOp,ho,resolve,invoke,builtin,Builtin.cap_,run_underlying hk.1,ex,goInt]
   rw[hrun]
   exact Good.same pre.inv (VP.int _ _)
  ·cases h
 ·cases h
theorem zNj(hT:TyOK P c) {t u ty e:TypeId} {ku:IntKind} (ht:(c.at_ t).k= .slice e) (hu:(c.at_ u).k= .int ku) (a:Option Addr) (kd:IntKind) (n:Nat) (h0:0<n) (h63:n<=4294967296) (hby:(c.at_ e).by_<=4096)
 {i:TypeInfo} {z:Value} (hi:P.info? e=some i) (hisz:i.size=szOf (c.sh e)) (hiby:i.bytes=(c.at_ e).by_) (hpos:0<szOf (c.sh e)) (hz:i.zero=some z) (hzs:z.cells.size=szOf (c.sh e)) :
 ∃ cap,n<=cap/\(Builtin.append_ #[t,u] ty #[.slice a 0 0,.int kd n]).run P w= .ok (.slice (some ⟨w.heap.size,0,none⟩) n cap) (w.drew.alloc (.cells (Builtin.zeroCells z.cells n++Builtin.zeroCells z.cells (cap-n)) e)):=by
 have hk:=hT.kind t
 rw[ht]at hk
 obtain⟨hut,hke⟩:=hk
 have hk2:=hT.kind u
 rw[hu]at hk2
 have hbytes:Builtin.nextslicecap (0+n) 0*i.bytes<=281474976710656:=growslice_fits (by omega) (by
  rw[hiby]
  calc (0+n)*(c.at_ e).by_<=4294967296*4096:=Nat.mul_le_mul (by omega) hby
   _<=140737488355328:=by decide)
 rw[Nat.zero_add]at hbytes
 have hw:IntKind.wrap .i64 (n:Int)=n:=by
  simp only[IntKind.wrap,IntKind.bits,IntKind.signed];simp;omega
 have h48' :¬ (281474976710656<Builtin.nextslicecap n 0*i.bytes):=by omega
 have hnb:¬ (281474976710656<(n:Int)*(i.bytes:Int)):=by
  have h1:n*i.bytes<=4294967296*4096:=by rw[hiby];exact Nat.mul_le_mul h63 hby
  have h2:((n*i.bytes:Nat):Int)<=((4294967296*4096:Nat):Int):=Int.ofNat_le.2 h1
  rw[Int.natCast_mul]at h2
  omega
 have hge:=grownCap_ge w n 0 e
 have hn0:¬ n=0:=by omega
 have hs0:¬ szOf (c.sh e)=0:=by omega
 have hf:(Builtin.firstCells (szOf (c.sh e)) 0 (.slice a 0 0)).run P w.drew= .ok #[] w.drew:=by cases a<;>simp[Builtin.firstCells,loadCells,loadCellsFrom]
 refine⟨grownCap w n 0 e,hge,?_⟩
 have h63' :¬ (9223372036854775807<(n:Int)):=by omega
 have hai:∀ w:World,(asInt (.int kd (n:Int))).run P w= .ok (n:Int) w:=λ w=>rfl
 simp only at hk2
 simp[hai,Builtin.append_,run_underlying hut,run_underlying hk2,sizeOf,typeInfo,zeroValue,hi,hz,hw,hnb,hn0,hs0,h63',h48',Question.forced,hisz,hf,newRow,grownCap,show ¬ ((n:Int)<0) by omega]
 intro hz0
 exact absurd hz0 (Nat.ne_of_gt (Nat.mul_pos h0 hpos))
theorem zUd(pre:Pre P c w0 w S0 S L ow r act) {s x:Operand} {t u e:TypeId} {kk:IntKind} (ho:o.op= .call ⟨.builtin .append, #[s,x], #[t,u]⟩) (hkt:(c.at_ t).k= .slice e) (hku:(c.at_ u).k= .int kk)
 (h:zHq c e (zDF own o) ow (r s t) (r x u) (λ a b=>some (a,b))=some (av,ow')):Res P (G w0 S0 S L ow av ow') ((execOp act.eval o).run P w):=by
 unfold zHq at h
 cases hs:r s t<;>rw[hs]at h<;>simp only at h<;>try (cases h;done)
 rename_i shn
 have hvs:=pre.hr s t;rw[hs]at hvs
 obtain⟨a,hvs⟩:=id hvs
 obtain⟨kd,n,hx,h1⟩:=zEn h
 have hxv:=pre.hr x u
 rw[hx]at hxv
 have hlx:=zE0 hxv
 clear h
 obtain⟨hc,h2⟩:=bif_some h1
 simp only[zF,zU]at hc
 obtain⟨⟨⟨h0,hlim⟩,hby⟩,hmk⟩:=hc
 rw[zAN]at h2
 obtain⟨d,hd,h3⟩:=zJ.1 h2
 obtain⟨hds,h4⟩:=bif_some h3
 obtain⟨rfl,rfl⟩:=zT h4
 have hk:=pre.hT.kind t
 rw[hkt]at hk
 obtain⟨hu,hke⟩:=hk
 obtain⟨inf,i1,i2,i3,i4,z,i5,hzok⟩:=pre.hT.info e hke
 have hzp:VP S z d:=by
  obtain⟨hva,_⟩:=zMU (S:=λ _ _=>none) (L:=[]) (ow:=[]) hzok
  have inv:Inv (GL:=Gl.triv) (hand [] [] (default:World)) (λ _ _=>none) (λ _ _=>none) [] [] (default:World):=zOK (GL:=Gl.triv) (λ _ _ h=>h.elim) (by simp)
  exact(zB9 (GL:=Gl.triv) inv hva hd).mono (λ b o v h=>by cases h)
 obtain⟨c1,c2,c3⟩:=hzp.cells hds
 obtain⟨m,rfl⟩:∃ m:Nat,n=m:=⟨n.toNat,by omega⟩
 have hm:m<=4294967296:=by unfold lim at hlim;omega
 obtain⟨cap,hcap,hrun0⟩:=zNj (P:=P) (w:=w) (ty:=o.type) pre.hT hkt hku a kd m (by omega) hm hby i1 i2 i3 i4 i5 c1
 have hrun:(execOp act.eval o).run P w= .ok (.value (.slice (some ⟨w.heap.size,0,none⟩) m cap)) (w.drew.alloc (.cells (Builtin.zeroCells z.cells m++Builtin.zeroCells z.cells (cap-m)) e)):=by
  simp[execOp,ho,resolve,invoke,builtin,hvs,hlx,hrun0]
 rw[hrun]
 simp only[zY]
 have hxl:(List.replicate m d).length=m:=by simp
 have hxs:∀ y∈List.replicate m d,y.okSh (c.sh e)=true:=λ y hy=>by rw[(List.mem_replicate.1 hy).2];exact hds
 have hsz:(Builtin.zeroCells z.cells m).size=m*szOf (c.sh e):=by simp[Builtin.zeroCells,c1]
 have hcells:CellsOf S (λ j=>(Builtin.zeroCells z.cells m++Builtin.zeroCells z.cells (cap-m))[j]?) (c.sh e) (List.replicate m d):=λ i j hi hj=>by
  rw[hxl]at hi
  have hlt:i*szOf (c.sh e)+j<m*szOf (c.sh e):=by
   have:(i+1)*szOf (c.sh e)<=m*szOf (c.sh e):=Nat.mul_le_mul_right _ hi
   rw[zAw,Nat.one_mul]at this;omega
  have hmod:(i*szOf (c.sh e)+j) % z.cells.size=j:=by
   rw[c1,Nat.mul_comm,Nat.mul_add_mod,Nat.mod_eq_of_lt hj]
  have hjz:j<z.cells.size:=by rw[c1];exact hj
  refine⟨z.cells[j],?_,c2 _ (Array.getElem_mem hjz),λ y p hy hp=> ?_⟩
  ·show(Builtin.zeroCells z.cells m++Builtin.zeroCells z.cells (cap-m))[i*szOf (c.sh e)+j]? =_
   rw[Array.getElem?_append_left (by rw[hsz];exact hlt)]
   simp only[Builtin.zeroCells]
   rw[Array.getElem?_map,Array.getElem?_range,if_pos (by rw[c1];exact hlt)]
   simp only[zV,hmod]
   rw[getElem!_pos z.cells j hjz]
  ·have ey:y=d:=by
    rw[List.getElem?_replicate]at hy
    split at hy
    ·exact(Option.some.inj hy).symm
    ·exact absurd hi ‹_›
   subst ey
   exact c3 j _ p (zAj hjz) hp
 have invD:Inv w0 S0 S L ow w.drew:=pre.inv.drewN 1
 obtain⟨L',n1,n2,n3⟩:=zKG (cap:=cap) invD e hxl hcap (by
  rw[Array.size_append,hsz]
  have:(Builtin.zeroCells z.cells (cap-m)).size=(cap-m)*szOf (c.sh e):=by simp[Builtin.zeroCells,c1]
  rw[this,<-zAw]
  exact Nat.le_of_eq (congrArg (· *szOf (c.sh e)) (by omega))) hxs hcells
 exact⟨S,L',n1,n2,n3⟩
theorem zYs(pre:Pre P c w0 w S0 S L ow r act) {args:Array Operand} {ats:Array TypeId} (ho:o.op= .call ⟨.builtin .append,args,ats⟩) (h:opD c call own o r ow=some (av,ow')) :
 Res P (G w0 S0 S L ow av ow') ((execOp act.eval o).run P w):=by
 unfold opD op1 at h;rw[ho]at h;simp only at h
 split at h
 ·rename_i s x t u hxs hts
  have ea:args= #[s,x]:=by apply Array.ext';simpa using hxs
  have et:ats= #[t,u]:=by apply Array.ext';simpa using hts
  subst ea;subst et
  split at h
  ·rename_i e e' hkt hku
   cases hb:decide ((c.at_ e).by_<=4096) with
   |false=>rw[hb]at h;cases h
   |true =>
   rw[hb]at h
   simp only[zA]at h
   obtain⟨v,w',S',L',k1,k2,k3,k4⟩:=zQB (ty:=o.type) pre.hT pre.inv hkt ⟨e',hku⟩ (zAM hb) (pre.hr s t) (pre.hr x t) h
   have hrun:(execOp act.eval o).run P w= .ok (.value v) w' :=by
    simp[execOp,ho,resolve,invoke,builtin,k1]
   rw[hrun]
   exact⟨S',L',k2,k3,k4⟩
  ·rename_i e kk hkt hku
   exact zUd pre ho hkt hku h
  ·rename_i e hkt hku
   split at h
   ·rename_i hke
    cases hb:decide ((c.at_ e).by_<=4096) with
    |false=>rw[hb]at h;cases h
    |true =>
    rw[hb]at h
    simp only[zA]at h
    obtain⟨p,hp,h⟩:=zBV h
    obtain⟨bs,hbs,h⟩:=zJ.1 h
    have hx:=pre.hr x u
    rw[hp]at hx
    have hp2:p= .str bs:=by
     cases p<;>simp only[PV.asStr]at hbs<;>try (cases hbs;done)
     simp only[zE]at hbs
     rw[hbs]
    subst hp2
    have hxe:act.eval x= .string bs:=by
     have hx' :VP S (act.eval x) (.str bs):=hx
     generalize act.eval x=u at hx'
     cases hx';rfl
    obtain⟨v,w',S',L',k1,k2,k3,k4⟩:=zRJ (ty:=o.type) pre.hT pre.inv hkt hku hke (zAM hb) (pre.hr s t) h
    have hrun:(execOp act.eval o).run P w= .ok (.value v) w' :=by
     simp[execOp,ho,resolve,invoke,builtin,hxe,k1]
    rw[hrun]
    exact⟨S',L',k2,k3,k4⟩
   ·cases h
  ·cases h
 ·cases h
theorem z4D(pre:Pre P c w0 w S0 S L ow r act) {args:Array Operand} {ats:Array TypeId} (ho:o.op= .call ⟨.builtin .max,args,ats⟩) (h:opD c call own o r ow=some (av,ow')) :
 Res P (G w0 S0 S L ow av ow') ((execOp act.eval o).run P w):=by
 unfold opD op1 at h;rw[ho]at h;simp only at h
 split at h
 ·rename_i x y hxs
  have ea:args= #[x,y]:=by apply Array.ext';simpa using hxs
  subst ea
  obtain⟨p,hp,h1⟩:=zBV h
  obtain⟨q,hq,h2⟩:=zBV h1
  obtain⟨z,hz,h3⟩:=zJ.1 h2
  obtain⟨rfl,rfl⟩:=zT h3
  unfold maxP at hz
  split at hz
  ·rename_i kd a kd' b
   cases hd:decide (kd=kd') with
   |false=>rw[hd]at hz;cases hz
   |true =>
   rw[hd]at hz
   simp only[zA,zE]at hz
   have ek:=zAM hd
   subst ek;subst hz
   have hx:=pre.hr x 0;rw[hp]at hx
   have hy:=pre.hr y 0;rw[hq]at hy
   have ex:=zE0 hx
   have ey:=zE0 hy
   have hrun:(execOp act.eval o).run P w= .ok (.value (.int kd (bif decide (a<b)then b else a))) w:=by
    simp[execOp,ho,resolve,invoke,builtin,ex,ey,Builtin.max_,Builtin.max2,cond_eq_ite]
   rw[hrun]
   exact Good.same pre.inv (VP.int _ _)
  ·cases hz
 ·cases h
theorem z4E(pre:Pre P c w0 w S0 S L ow r act) {args:Array Operand} {ats:Array TypeId} (ho:o.op= .call ⟨.builtin .min,args,ats⟩) (h:opD c call own o r ow=some (av,ow')) :
 Res P (G w0 S0 S L ow av ow') ((execOp act.eval o).run P w):=by
 unfold opD op1 at h;rw[ho]at h;simp only at h
 split at h
 ·rename_i x y hxs
  have ea:args= #[x,y]:=by apply Array.ext';simpa using hxs
  subst ea
  obtain⟨p,hp,h1⟩:=zBV h
  obtain⟨q,hq,h2⟩:=zBV h1
  obtain⟨z,hz,h3⟩:=zJ.1 h2
  obtain⟨rfl,rfl⟩:=zT h3
  unfold minP at hz
  split at hz
  ·rename_i kd a kd' b
   cases hd:decide (kd=kd') with
   |false=>rw[hd]at hz;cases hz
   |true =>
   rw[hd]at hz
   simp only[zA,zE]at hz
   have ek:=zAM hd
   subst ek;subst hz
   have hx:=pre.hr x 0;rw[hp]at hx
   have hy:=pre.hr y 0;rw[hq]at hy
   have ex:=zE0 hx
   have ey:=zE0 hy
   have hrun:(execOp act.eval o).run P w= .ok (.value (.int kd (bif decide (b<a)then b else a))) w:=by
    simp[execOp,ho,resolve,invoke,builtin,ex,ey,Builtin.min_,Builtin.min2,cond_eq_ite]
   rw[hrun]
   exact Good.same pre.inv (VP.int _ _)
  ·cases hz
 ·cases h
theorem z0l(pre:Pre P c w0 w S0 S L ow r act) (hcall:CallOK P call) (h:opD c call own o r ow=some (av,ow')):Res P (G w0 S0 S L ow av ow') ((execOp act.eval o).run P w):=by
 cases ho:o.op with
 |move x=>exact zYd pre (.inl ho) h
 |assign x=>exact zYd pre (.inr ho) h
 |pick q a b=>exact z2p pre ho h
 |alloc t=>exact z0b pre ho h
 |box t x=>exact z3y pre ho h
 |build t ps=>exact z0c pre ho h
 |buildSlice t n ps=>exact zRL pre ho h
 |load t x=>exact z2q pre ho h
 |store t x y=>exact z0d pre ho h
 |nilCheck x=>exact zU3 pre ho h
 |binOp op xT x y yT=>exact z3z pre ho h
 |unOp op t x=>exact z6S pre ho h
 |convert s d x=>exact z2r pre ho h
 |makeFunc f fi cs=>exact zU4 pre ho h
 |fieldAddr s x f=>exact zSb pre ho h
 |field s x f=>exact z0e pre ho h
 |indexAddr t x i=>exact zSd pre ho h
 |index t x i=>exact z0f pre ho h
 |slice t x lo hi mx=>exact z0g pre ho h
 |range t x=>exact z0k pre ho h
 |next x b =>
  cases b with
  |true=>exact z2u pre ho h
  |false=>unfold opD op1 at h;rw[ho]at h;cases h
 |extract x j=>exact zXX pre ho h
 |makeMap t x=>exact zXN pre ho h
 |lookup t x i ok=>exact zYf pre ho h
 |mapUpdate t m i x=>exact zNQ pre (.inl ho) h
 |insert t m i x=>exact zNQ pre (.inr ho) h
 |mapEntry t m i=>exact zUc pre ho h
 |entryStore t m s x=>exact zRN pre ho h
 |makeSlice t l n=>exact zSf pre ho h
 |call cl =>
  obtain⟨ce,args,ats⟩:=cl
  cases ce with
  |value f=>exact z0i pre hcall ho h
  |invoke x m=>unfold opD op1 at h;rw[ho]at h;cases h
  |builtin b =>
   cases b with
   |len=>exact z4B pre ho h
   |cap=>exact z4C pre ho h
   |append=>exact zYs pre ho h
   |max=>exact z4D pre ho h
   |min=>exact z4E pre ho h
   |_=>unfold opD op1 at h;rw[ho]at h;cases h
 |_=>unfold opD op1 at h;rw[ho]at h;cases h
end
end Go.Ab

namespace Go.Ab
open Go.RowKit (Below)
variable [GL:Gl]
section nat
variable {c:Cfg} {call:Wf} {own:Hi} {o:Oper} {r:Operand->TypeId->AV} {ow:List Ob} {R:Type}
theorem zCm(a:AV) (f:PV->Option R) {R' :Type} (g:R->Option R'):(pvOf a f).bind g=pvOf a λ p=>(f p).bind g:=by cases a<;>rfl
theorem zBb(b:Bool) (x y:Option R) {R' :Type} (g:R->Option R'):(bif b then x else y).bind g=bif b then x.bind g else y.bind g:=by cases b<;>rfl
theorem zDu(x:Option R) {R' R'' :Type} (f:R->Option R') (g:R' ->Option R''):(x.bind f).bind g=x.bind λ a=>(f a).bind g:=by cases x<;>rfl
theorem zKL(a:AV) (f:Int->Option R) {R' :Type} (g:R->Option R'):(zFP a f).bind g=zFP a λ p=>(f p).bind g:=by
 unfold zFP
 rw[zCm]
 congr 1;funext p
 show(p.asInt.bind f).bind g=p.asInt.bind λ n=>(f n).bind g
 rw[zDu]
theorem z2v(x:Option Operand) (d:Int) (f:Int->Option R) {R' :Type} (g:R->Option R'):(bnd r x d f).bind g=bnd r x d λ p=>(f p).bind g:=by
 cases x with
 |none=>rfl
 |some l=>exact zKL _ f g
theorem zKM(a:AV) (f:PV->Option R) {R' :Type} (g:R->Option R'):(zDW ow a f).bind g=zDW ow a λ p=>(f p).bind g:=by
 rw[zAN,zAN (R:=R'),zDu]
theorem zOt(l:List AV) (f:List PV->Option R) {R' :Type} (g:R->Option R'):(zFO ow l f).bind g=zFO ow l λ p=>(f p).bind g:=by
 rw[zDG,zDG (R:=R'),zDu]
theorem zUe(sh:Nat) (l:List AV) (f:List PV->Option R) {R' :Type} (g:R->Option R'):(zFx sh ow l f).bind g=zFx sh ow l λ p=>(f p).bind g:=by
 rw[zEx,zEx (R:=R'),zDu]
theorem zXY(pl:Nat->Option (Nat×Nat)) (cs:List AV) (l:List (Nat×AV)) (f:List AV->Option R) {R' :Type} (g:R->Option R'):(zJE pl cs l f).bind g=zJE pl cs l λ p=>(f p).bind g:=by
 rw[zGr,zGr (R:=R'),zDu]
theorem zUf(ad:AV) (sh:Nat) (f:AV->Option R) {R' :Type} (g:R->Option R'):(zGW ow ad sh f).bind g=zGW ow ad sh λ p=>(f p).bind g:=by
 rw[zEQ,zEQ (R:=R'),zDu]
theorem zSk(ad:AV) (sh:Nat) (x:AV) (f:List Ob->Option R) {R' :Type} (g:R->Option R'):(zHo ow ad sh x f).bind g=zHo ow ad sh x λ p=>(f p).bind g:=by
 rw[zKs,zKs (R:=R'),zDu]
theorem zQ8(sh:Nat) (a:AV) (f:List PV->Option R) {R' :Type} (g:R->Option R'):(zHp sh ow a f).bind g=zHp sh ow a λ p=>(f p).bind g:=by
 rw[zD8,zD8 (R:=R'),zDu]
theorem zSl(sh:Nat) (mk:Bool) (s:AV) (ys:List PV) (f:AV->List Ob->Option R) {R' :Type} (g:R->Option R'):(zFN sh mk ow s ys f).bind g=zFN sh mk ow s ys λ a b=>(f a b).bind g:=by
 rw[zKt,zKt (R:=R'),zDu]
theorem zRO(sh:Nat) (mk:Bool) (s x:AV) (f:AV->List Ob->Option R) {R' :Type} (g:R->Option R'):(zFq sh mk ow s x f).bind g=zFq sh mk ow s x λ a b=>(f a b).bind g:=by
 rw[zNL,zNL (R:=R'),zDu]
theorem zSm(c:Cfg) (e:TypeId) (mk:Bool) (s x:AV) (f:AV->List Ob->Option R) {R' :Type} (g:R->Option R'):(zHq c e mk ow s x f).bind g=zHq c e mk ow s x λ a b=>(f a b).bind g:=by
 rw[zOb,zOb (R:=R'),zDu]
theorem zYt(sh:Nat) (a:AV) (lo hi:Option Operand) (f:AV->Option R) {R' :Type} (g:R->Option R') :
 (cutO sh ow a (bnd r lo 0) (λ d=>bnd r hi d) f).bind g=cutO sh ow a (bnd r lo 0) (λ d=>bnd r hi d) λ p=>(f p).bind g:=by
 rw[zOL,zOL (R:=R'),zDu]
theorem zSn(a:AV) (f:List (PV×PV)->Option R) {R' :Type} (g:R->Option R'):(mapO ow a f).bind g=mapO ow a λ p=>(f p).bind g:=by
 rw[zKH,zKH (R:=R'),zDu]
theorem zOu(ow:List Ob) (a:AV) (f:PV->Option R) {R' :Type} (g:R->Option R'):(zDW ow a f).bind g=zDW ow a λ p=>(f p).bind g:=by
 rw[zAN,zAN (R:=R'),zDu]
theorem zBW{R' :Type} (g:R->Option R'):(none:Option R).bind g=none:=rfl
theorem zRP(k:AV->List Ob->Option R):op1 c call own o r ow k=(opD c call own o r ow).bind λ z=>k z.1 z.2:=by
 unfold opD op1
 cases o.op with
 |move x=>simp only[zBb,zB]
 |assign x=>simp only[zBb,zB]
 |alloc t=>simp only[zBb,zB,zBW]
 |box t x=>simp only[zBb,zB,zBW,zKM]
 |build t ps=>simp only;cases (c.at_ t).k<;>simp only[zXY,zB,zBW]
 |buildSlice t n ps=>simp only;cases (c.at_ t).k<;>simp only[zUe,zBb,zB,zBW]
 |load t x=>simp only[zBb,zUf,zB,zBW]
 |store t x y=>simp only[zBb,zSk,zB,zBW]
 |nilCheck x =>
  simp only
  cases r x 0<;>try rfl
  rename_i p
  cases p<;>rfl
 |makeFunc f fi cs=>cases f<;>simp only[zBb,zOt,zB,zBW]
 |fieldAddr s x f =>
  simp only
  cases (c.at_ s).k<;>try rfl
  simp only[zDu]
  congr 1;funext g
  cases r x 0<;>try rfl
  rename_i p
  cases p<;>rfl
 |field s x f =>
  simp only
  cases (c.at_ s).k<;>simp only[zDu,zKM,zBb,zB,zBW]
 |indexAddr t x i =>
  simp only[zKL]
  congr 1;funext n
  cases (c.at_ t).k<;>try rfl
  ·simp only
   cases r x t<;>simp only[zCm,zDu,zBb,zB,zBW]
   all_goals (split<;>simp only[zBb,zB,zBW])
  ·simp only[zBb,zBW]
   cases r x 0<;>try rfl
   rename_i p
   cases p<;>rfl
 |index t x i =>
  simp only[zKL]
  congr 1;funext n
  cases (c.at_ t).k<;>simp only[zCm,zDu,zBb,zKM,zB,zBW]
 |slice t x lo hi mx =>
  simp only
  cases (c.at_ t).k<;>simp only[zCm,zDu,zBb,z2v,zKM,zB,zBW]
  cases mx with
  |none=>simp only[zYt,zB]
  |some m=>simp only;split<;>simp only[zQ8,zB,zBW]
 |range t x=>simp only;cases (c.at_ t).k<;>simp only[zCm,zDu,zB,zBW]
 |next x b =>
  cases b<;>try rfl
  simp only
  cases r x 0<;>try rfl
  rename_i ob off
  cases off<;>try rfl
  simp only
  cases ow[ob]? <;>try rfl
  rename_i oo
  cases oo<;>simp only[zBb,zB,zBW]
 |call cl =>
  obtain⟨ce,args,ats⟩:=cl
  cases ce with
  |value f=>simp only[zCm,zDu,zOt,zBb,zM2,z05,zB,zBW]
  |invoke x m=>rfl
  |builtin b =>
   cases b<;>try rfl
   ·simp only
    split
    ·split
     ·simp only[zBb,zRO,zB,zBW]
     ·simp only[zSm,zB]
     ·split<;>simp only[zBb,zSl,zCm,zDu,zB,zBW]
     ·rfl
    ·rfl
   ·simp only
    split
    ·split<;>rfl
    ·rfl
   ·simp only
    split
    ·cases (c.at_ _).k<;>simp only[zCm,zDu,zQ8,zSn,zB,zBW]
    ·rfl
   ·simp only
    split
    ·simp only[zCm,zDu,zB]
    ·rfl
   ·simp only
    split
    ·simp only[zCm,zDu,zB]
    ·rfl
 |pick q a b=>simp only[zCm,zDu,zB]
 |binOp op xT x y yT =>
  simp only
  cases zMP (c.at_ xT).k op (r x xT) y with
  |some b=>rfl
  |none=>simp only[zCm,zDu,zB]
 |unOp op t x=>simp only[zCm,zDu,zB]
 |convert s d x=>simp only[zCm,zDu,zB]
 |extract x j =>
  simp only
  cases r x 0<;>simp only[zCm,zDu,zB]
 |makeMap t x =>
  cases x with
  |some x=>rfl
  |none =>
   simp only
   cases (c.at_ t).k<;>try rfl
   rename_i kt et
   simp only
   cases zDF own o with
   |false=>rfl
   |true=>simp only[zA];cases (c.at_ et).k<;>rfl
 |mapEntry t m i=>simp only;cases (c.at_ t).k<;>first | rfl | exact zYp _ _ _ _ _ _ _
 |entryStore t m s x=>simp only;cases (c.at_ t).k<;>first | rfl | exact zXW _ _ _ _ _
 |lookup t x i ok=>simp only;cases (c.at_ t).k<;>simp only[zSn,zOu,zBb,zDu,zB,zBW]
 |mapUpdate t m i x=>simp only;cases (c.at_ t).k<;>first | rfl | exact zVy _ _ _ _ _ _ _ _
 |insert t m i x=>simp only;cases (c.at_ t).k<;>first | rfl | exact zVy _ _ _ _ _ _ _ _
 |makeSlice t l n =>
  simp only[zKL]
  congr 1;funext x
  congr 1;funext y
  cases (c.at_ t).k<;>simp only[zBb,zOu,zB,zBW]
 |_=>rfl
end nat
theorem zFg{fr:List (Nat×AV)} {d t:Nat} {a:AV}:get ((d,a)::fr) t=if d=t then a else get fr t:=by
 simp only[get]
 by_cases h:d=t
 ·simp[h]
 ·have:(d==t)=false:=by simpa using h
  rw[this,if_neg h];rfl
def FrR(S:Pr) (L:List Loc) (ow:List Ob) (tmps:Array Value) (fr:List (Nat×AV)):Prop:=∀ t,VA S L ow (tmps.getD t undef) (get fr t)
section
variable {P:Program} {c:Cfg} {w0:Base} {w:World} {S0 S:Pr} {L:List Loc} {ow:List Ob} {call:Wf} {own:Hi}
theorem FrR.evo{S' :Pr} {L' :List Loc} {ow' :List Ob} {tmps:Array Value} {fr:List (Nat×AV)} (h:FrR S L ow tmps fr) (hE:Evo S L ow S' L' ow'):FrR S' L' ow' tmps fr:=λ t=>hE.2 _ _ (h t)
theorem FrR.put{a:Act} {fr:List (Nat×AV)} {dst:Option Tmp} {v:Value} {av:AV} (h:FrR S L ow a.tmps fr) (hv:VA S L ow v av) (hd:∀ d,dst=some d->d<a.tmps.size) :
 FrR S L ow (a.put dst v).tmps (putD dst av fr):=by
 cases dst with
 |none=>exact h
 |some d =>
  intro t
  simp only[putD,zFg,Act.put]
  by_cases e:d=t
  ·subst e
   have:=hd d rfl
   rw[if_pos rfl]
   simpa [this]using hv
  ·rw[if_neg e]
   have:=h t
   simpa [Array.getElem?_setIfInBounds_ne e]using this
theorem zRQ(a:Act) (dst:Option Tmp) (v:Value):(a.put dst v).tmps.size=a.tmps.size:=by cases dst<;>simp[Act.put]
theorem zM3(a:Act) (dst:Option Tmp) (v:Value):(a.put dst v).defers=a.defers:=by cases dst<;>rfl
theorem zXZ(v:Value) (t:Nat):VA S L ow v (AV.ofConst t v):=by
 unfold AV.ofConst
 split
 ·exact VP.int _ _
 ·exact VP.bool _
 ·exact VP.str _
 ·exact⟨none,rfl⟩
 ·exact VP.nilfn
 ·exact VP.con _ rfl
 ·exact VP.con _ rfl
 ·exact VP.con _ rfl
 ·exact VP.undef _
theorem z2I{a:Act} {fr:List (Nat×AV)} (h:FrR S L ow a.tmps fr) (x:Operand) (t:TypeId):VA S L ow (a.eval x) (ρ fr x t c):=by
 cases x with
 |tmp s=>exact h s
 |const v=>exact zXZ v _
 |global g=>exact VP.undef _
 |func f=>exact VP.fn f #[] #[] [] [] rfl rfl (λ j v p hv hp=>by simp at hv) (λ j v p hv hp=>by simp at hv)
structure StR (c:Cfg) (w0:Base) (S0:Pr) (nt:Nat) (fr:List (Nat×AV)) (ow:List Ob) (a:Act) (w:World) (S:Pr) (L:List Loc):Prop where
 inv:Inv w0 S0 S L ow w
 frs:FrR S L ow a.tmps fr
 size:nt<=a.tmps.size
 defers:a.defers=[]
theorem zSo{o:Oper} {a:Act} {G:Value->World->Prop} {K:Act->World->Prop} {Q:Exit->Act->World->Prop} (h:Res P G ((execOp a.eval o).run P w)) (hK:∀ v w',G v w' ->K (a.put o.dst v) w'):o.wp P a w K Q:=by
 unfold Oper.wp
 generalize (execOp a.eval o).run P w=r at h
 cases r with
 |halt x w' =>exact h.elim
 |ok n w' =>
  cases n<;>simp only[Res]at h<;>simp only[Oper.upon]
  case value v=>exact hK v w' h
  case skip=>exact hK _ w' h
  case enter f args =>
   refine Calls.mono h ?_
   rintro e w'' ⟨v,rfl,hg⟩
   exact hK v w'' hg
def zQ9(nt:Nat) (ops:List Oper):Bool:=ops.all λ o=>match o.dst with | some d=>decide (d<nt) | none=>true
theorem z2w{nt:Nat} {fr:List (Nat×AV)} {a:Act} (hT:TyOK P c) (hcall:CallOK P call) (st:StR c w0 S0 nt fr ow a w S L) {o:Oper} (hd:∀ d,o.dst=some d->d<nt) {av:AV} {ow' :List Ob}
 (h:opD c call own o (λ x t=>ρ fr x t c) ow=some (av,ow')) {K:Act->World->Prop} {Q:Exit->Act->World->Prop}
 (hK:∀ v w' S' L',StR c w0 S0 nt (putD o.dst av fr) ow' (a.put o.dst v) w' S' L' ->VA S' L' ow' v av->Evo S L ow S' L' ow' ->K (a.put o.dst v) w'):o.wp P a w K Q:=by
 have pre:Pre P c w0 w S0 S L ow (λ x t=>ρ fr x t c) a:=⟨hT,st.inv,λ x t=>z2I st.frs x t⟩
 refine zSo (z0l pre hcall h) ?_
 rintro v w' ⟨S',L',k1,k2,k3⟩
 exact hK v w' S' L' ⟨k1,(st.frs.evo k2).put k3 (λ d e=>zB1 (hd d e) st.size),by rw[zRQ];exact st.size,by rw[zM3];exact st.defers⟩ k3 k2
theorem zM4{fr:List (Nat×AV)} {a:Act} {ops:Array Oper} {j d:Nat} (hf:FrR S L ow a.tmps fr) (hd:(ops[j]?).bind (·.dst)=some d) {p:PV} (hp:get fr d= .pv p) :
 (∀ b,p= .bool b->yielded ops a.tmps j=some b)/\(p= .off->yielded ops a.tmps j=none):=by
 have h:=hf d
 rw[hp]at h
 have h' :VP S (a.tmps.getD d Go.undef) p:=h
 refine⟨λ b e=> ?_,λ e=> ?_⟩
 ·subst e
  have:=zGN h'
  unfold yielded
  rw[hd]
  simp only[zB]
  cases ht:a.tmps[d]? with
  |none=>rw[Array.getD_eq_getD_getElem?,ht]at this;simp[undef]at this
  |some v=>rw[Array.getD_eq_getD_getElem?,ht]at this;simp at this;rw[this]
 ·subst e
  have:a.tmps.getD d Go.undef=Go.undef:=by
   generalize a.tmps.getD d Go.undef=v at h'
   cases h';rfl
  unfold yielded
  rw[hd]
  simp only[zB]
  cases ht:a.tmps[d]? with
  |none=>rfl
  |some v=>rw[Array.getD_eq_getD_getElem?,ht]at this;simp at this;rw[this];rfl
theorem zYu{p:PV} {x:Option Bool} (h:zYZ p=some x):(∀ b,x=some b->p= .bool b)/\(x=none->p= .off):=by
 cases p<;>simp[zYZ]at h
 ·exact⟨(λ b e=>by rw[<- h]at e;cases e),(λ _=>rfl)⟩
 ·exact⟨(λ b e=>by rw[<- h]at e;simp at e;rw[e]),(λ e=>by rw[<- h]at e;cases e)⟩
inductive OneStep (c:Cfg) (call:Wf) (own:Hi) (ops:Array Oper) (o:Oper) (fr:List (Nat×AV)) (ow:List Ob):AV->List Ob->Nat->Prop
 |run (av:AV) (ow' :List Ob) (h:opD c call own o (λ x t=>ρ fr x t c) ow=some (av,ow'))
  (hg:∀ j want,o.guard=some (j,want)->∃ d,(ops[j]?).bind (·.dst)=some d/\get fr d= .pv (.bool want)):OneStep c call own ops o fr ow av ow' (zKb own o (λ x t=>ρ fr x t c))
 |skip (j:Nat) (want:Bool) (hg:o.guard=some (j,want)) (d:Nat) (hd:(ops[j]?).bind (·.dst)=some d) (hp:get fr d= .pv .off∨get fr d= .pv (.bool (!want))):OneStep c call own ops o fr ow (.pv .off) ow 0
theorem z0m{fr:List (Nat×AV)} {d:Nat} {a:AV} (h:get fr d=a):get ((d,a)::fr)=get fr:=by
 funext t
 rw[zFg]
 split
 ·rename_i e;rw[<- e];exact h.symm
 ·rfl
theorem z0n{fr fr' :List (Nat×AV)} (h:get fr' =get fr) (x:Operand) (t:TypeId):ρ fr' x t c=ρ fr x t c:=by
 cases x<;>simp only[ρ,h]
theorem zKN{R:Type} {ops:Array Oper} {o:Oper} {rest:List Oper} {st:St} {ts:List Nat} {k:St->List Nat->Option R} {y:R} (h:zE6 c call own ops (o::rest) st ts k=some y) :
 ∃ fr' av ow' t,get fr' =get st.fr/\OneStep c call own ops o st.fr st.ow av ow' t/\zE6 c call own ops rest ⟨putD o.dst av fr',ow'⟩ (t::ts) k=some y:=by
 have run:∀ fr',get fr' =get st.fr->(∀ j want,o.guard=some (j,want)->∃ d,(ops[j]?).bind (·.dst)=some d/\get st.fr d= .pv (.bool want)) ->
  (op1 c call own o (λ x t=>ρ fr' x t c) st.ow λ a ow' =>zKn c o a λ a' =>zE6 c call own ops rest ⟨putD o.dst a' fr',ow'⟩ (zKb own o (λ x t=>ρ fr' x t c)::ts) k)=some y ->
  ∃ fr' av ow' t,get fr' =get st.fr/\OneStep c call own ops o st.fr st.ow av ow' t/\zE6 c call own ops rest ⟨putD o.dst av fr',ow'⟩ (t::ts) k=some y:=λ fr' he hg h=>by
  have hρ:(λ x t=>ρ fr' x t c)=(λ x t=>ρ st.fr x t c):=by funext x t;exact z0n he x t
  rw[hρ,zRP]at h
  obtain⟨⟨av,ow'⟩,h1,h2⟩:=zJ.1 h
  exact⟨fr',av,ow',_,he,.run av ow' h1 hg,zQW h2⟩
 simp only[zE6]at h
 cases hgd:o.guard with
 |none =>
  rw[hgd]at h
  exact run st.fr rfl (λ j want e=>by rw[hgd]at e;cases e) h
 |some q =>
  obtain⟨j,want⟩:=q
  rw[hgd]at h
  simp only at h
  cases hd:(ops[j]?).bind (·.dst) with
  |none=>rw[hd]at h;cases h
  |some d =>
   rw[hd]at h
   simp only at h
   obtain⟨p,hp,h1⟩:=zBV h
   obtain⟨x,hx,h2⟩:=zJ.1 h1
   obtain⟨gb,gn⟩:=zYu hx
   cases x with
   |none =>
    have e:=gn rfl;subst e
    exact⟨st.fr,_,_,_,rfl,.skip j want hgd d hd (.inl hp),h2⟩
   |some b =>
    have e:=gb b rfl;subst e
    have hsame:=z0m hp
    cases b with
    |true =>
     simp only[zA]at h2
     cases want with
     |true =>
      simp only[zA]at h2
      exact run _ hsame (λ j' w' e=>by rw[hgd]at e;simp at e;obtain⟨rfl,rfl⟩:=e;exact⟨d,hd,hp⟩) h2
     |false =>
      simp only[zC]at h2
      exact⟨_,_,_,_,hsame,.skip j false hgd d hd (.inr hp),h2⟩
    |false =>
     simp only[zC]at h2
     cases want with
     |true =>
      simp only[zA]at h2
      exact⟨_,_,_,_,hsame,.skip j true hgd d hd (.inr hp),h2⟩
     |false =>
      simp only[zC]at h2
      exact run _ hsame (λ j' w' e=>by rw[hgd]at e;simp at e;obtain⟨rfl,rfl⟩:=e;exact⟨d,hd,hp⟩) h2
theorem FrR.same{tmps:Array Value} {fr fr' :List (Nat×AV)} (h:FrR S L ow tmps fr) (e:get fr' =get fr):FrR S L ow tmps fr' :=λ t=>by rw[e];exact h t
theorem zYv{nt:Nat} {fr:List (Nat×AV)} {a:Act} (hT:TyOK P c) (hcall:CallOK P call) (st:StR c w0 S0 nt fr ow a w S L) {ops:Array Oper} {i:Nat} {o:Oper} (ho:ops[i]? =some o)
 (hd:∀ d,o.dst=some d->d<nt) {av:AV} {ow' :List Ob} {t:Nat} (h:OneStep c call own ops o fr ow av ow' t) {K:Act->World->Prop} {Q:Exit->Act->World->Prop}
 (hK:∀ v w' S' L',StR c w0 S0 nt (putD o.dst av fr) ow' (a.put o.dst v) w' S' L' ->VA S' L' ow' v av->Evo S L ow S' L' ow' ->K (a.put o.dst v) w'):wpOp P ops Q i K a w:=by
 unfold wpOp
 simp only[ho]
 cases h with
 |run _ _ h hg =>
  have hw:Region.wanted o (yielded ops a.tmps)=true:=by
   unfold Region.wanted
   cases hgd:o.guard with
   |none=>rfl
   |some q =>
    obtain⟨j,want⟩:=q
    obtain⟨d,h1,h2⟩:=hg j want hgd
    have:=(zM4 st.frs h1 h2).1 want rfl
    simp[this]
  rw[if_pos hw]
  exact .inl (z2w hT hcall st hd h hK)
 |skip j want hg d hdd hp =>
  have hw:Region.wanted o (yielded ops a.tmps)=false:=by
   unfold Region.wanted
   rw[hg]
   rcases hp with hp | hp
   ·have:=(zM4 st.frs hdd hp).2 rfl
    simp[this]
   ·have:=(zM4 st.frs hdd hp).1 _ rfl
    simp[this]
  rw[if_neg (by rw[hw];simp)]
  refine hK undef w S L ⟨st.inv,st.frs.put VP.off (λ d e=>zB1 (hd d e) st.size),by rw[zRQ];exact st.size,by rw[zM3];exact st.defers⟩ VP.off (Evo.refl _ _ _)
theorem zSp{R:Type} (hT:TyOK P c) (hcall:CallOK P call) {nt:Nat} {ops:Array Oper} {Q:Exit->Act->World->Prop} {k:St->List Nat->Option R} {y:R} :
 ∀(rest:List Oper) (i:Nat) (st:St) (ts:List Nat) (a:Act) (w:World) (S:Pr) (L:List Loc),(∀ j o,rest[j]? =some o->ops[i+j]? =some o)->zQ9 nt rest=true ->
  StR c w0 S0 nt st.fr st.ow a w S L->zE6 c call own ops rest st ts k=some y ->
  (∀ st' ts' a' w' S' L',StR c w0 S0 nt st'.fr st'.ow a' w' S' L' ->k st' ts' =some y->Q .normal a' w')->wpOps P ops Q (List.range' i rest.length) a w
 | [],i,st,ts,a,w,S,L,_,_,hst,h,hQ=>hQ st ts a w S L hst h
 |o::rest,i,st,ts,a,w,S,L,hops,hds,hst,h,hQ=>by
  obtain⟨fr',av,ow',t,he,h1,h2⟩:=zKN h
  have ho:ops[i]? =some o:=by simpa using hops 0 o rfl
  have hd:∀ d,o.dst=some d->d<nt:=λ d e=>by
   simp only[zQ9,List.all_cons,zF]at hds
   have:=hds.1
   rw[e]at this
   simpa using this
  simp only[List.length_cons,List.range'_succ]
  rw[wpOps_cons]
  refine zYv hT hcall hst ho hd h1 λ v w' S' L' st' _ _=> ?_
  refine zSp hT hcall rest (i+1) ⟨putD o.dst av fr',ow'⟩ _ _ _ S' L' (λ j o' hj=>by have:=hops (j+1) o' (by simpa using hj);rwa [Nat.add_assoc,Nat.add_comm 1]) (by
   simp only[zQ9,List.all_cons,zF]at hds;exact hds.2) ⟨st'.inv,st'.frs.same ?_,st'.size,st'.defers⟩ h2 hQ
  cases o.dst with
  |none=>exact he
  |some d=>simp only[putD];funext t;rw[zFg,zFg,he]
end
end Go.Ab
