/- Part 5 of the proof: an abstract machine that runs the program's code over plain values, its soundness, and what the functions tell of plain values. Conditions: those in each theorem. -/
import Derived.Test.YtgebkpchpliahaaGreatDoorA3
import Derived.Laws.Tables
import Derived.ChangeFn
set_option linter.unusedSectionVars false
set_option linter.unusedVariables false
set_option linter.unusedSimpArgs false
noncomputable section
namespace Go.Ab
open Go.RowKit (Below)
variable [GL:Gl]
theorem zS9(off:Nat):∀(l:List Value) (k:Nat) (cells:Array Value),off+k+l.length<=cells.size ->
 (l.zipIdx k).foldl (λ cs (p:Value×Nat)=>cs.setIfInBounds (off+p.2) p.1) cells=zDw cells (off+k) l
 | [],k,cells,h=>by
  simp only[List.zipIdx_nil,List.foldl_nil]
  apply Array.ext'
  simp[zDw]
 |v::l,k,cells,h=>by
  simp only[List.length_cons]at h
  simp only[List.zipIdx_cons,List.foldl_cons]
  rw[zS9 off l (k+1) (cells.setIfInBounds (off+k) v) (by simp;omega)]
  have h1:off+(k+1)+l.length<=(cells.setIfInBounds (off+k) v).size:=by simp;omega
  have h2:off+k+(v::l).length<=cells.size:=by simp;omega
  apply Array.ext_getElem?
  intro j
  rw[zCl h1,zCl h2]
  simp only[List.length_cons]
  by_cases ha:j=off+k
  ·subst ha
   rw[if_neg (by omega),if_pos (by omega)]
   simp only[Nat.sub_self,zAS]
   have:off+k<cells.size:=by omega
   simp[this]
  ·by_cases hb:off+(k+1)<=j/\j<off+(k+1)+l.length
   ·rw[if_pos hb,if_pos (by omega)]
    have:j-(off+k)=(j-(off+(k+1)))+1:=by omega
    rw[this,zAq]
   ·rw[if_neg hb,if_neg (by omega),Array.getElem?_setIfInBounds_ne (Ne.symm ha)]
theorem zOc(off:Nat) (v:Value) (cells:Array Value) (h:off+v.cells.size<=cells.size) :
 v.cells.zipIdx.foldl (λ cs (p:Value×Nat)=>cs.setIfInBounds (off+p.2) p.1) cells=zDw cells off v.cells.toList:=by
 rw[<- Array.foldl_toList,Array.toList_zipIdx]
 exact zS9 off v.cells.toList 0 cells (by simpa using h)
section
variable {P:Program} {c:Cfg} {w0:Base} {w:World} {S0 S:Pr} {L:List Loc} {ow:List Ob}
def CellsR(S:Pr) (L:List Loc) (ow:List Ob) (vs:Array Value) (cs:List AV):Prop :=
 vs.size=cs.length/\(∀ x∈vs,x.oneCell' =true)/\∀(j:Nat) (x:Value) (a:AV),vs[j]? =some x->cs[j]? =some a->VA1 S L ow x a
theorem CellsR.set{vs:Array Value} {cs:List AV} {v:Value} {a:AV} {off sh:Nat} (h:CellsR S L ow vs cs) (hv:VA S L ow v a) (hs:a.okSh sh=true) (hle:off+szOf sh<=cs.length) :
 CellsR S L ow (zDw vs off v.cells.toList) (AV.setAt cs off (a.cellsSh sh)):=by
 obtain⟨h1,h2,h3⟩:=h
 obtain⟨u1,u2,u3,u4,u5⟩:=hv.cells hs
 have hal:=AV.cellsSh_len hv hs
 have hul:v.cells.toList.length=szOf sh:=by simpa using u1
 have hspl:off+v.cells.toList.length<=vs.size:=by rw[hul,h1];exact hle
 refine⟨?_,λ z hz=> ?_,λ j z q hz hq=> ?_⟩
 ·rw[zEm hspl,h1]
  simp only[AV.setAt,zAK,List.length_take,List.length_drop,hal]
  omega
 ·obtain⟨j,hj,rfl⟩:=Array.getElem_of_mem hz
  have hg:=zCl hspl j
  rw[zAj hj]at hg
  split at hg
  ·have:=zAV hg.symm
   exact u2 _ (by simpa using this)
  ·exact h2 _ (Array.mem_of_getElem? hg.symm)
 ·rw[zCl hspl]at hz
  simp only[AV.setAt,zAG,List.getElem?_append,List.length_take,zCP,List.getElem?_drop,hal]at hq
  have hm:min off cs.length=off:=by omega
  rw[hm]at hq
  by_cases c1:j<off
  ·rw[if_neg (by omega)]at hz
   rw[if_pos c1,if_pos c1]at hq
   exact h3 j z q hz hq
  ·rw[if_neg c1]at hq
   by_cases c2:j-off<szOf sh
   ·rw[if_pos ⟨by omega,by rw[hul];omega⟩]at hz
    rw[if_pos c2]at hq
    exact u5 (j-off) z q (by simpa using hz) hq
   ·rw[if_neg (by rw[hul];omega)]at hz
    rw[if_neg c2]at hq
    have e:off+szOf sh+(j-off-szOf sh)=j:=by omega
    rw[e]at hq
    exact h3 j z q hz hq
theorem zMT{pl:Nat->Option (Nat×Nat)} {pl' :Nat->Option (Nat×Nat)} (hpl:∀ i off sh,pl i=some (off,sh)->pl' i=some (off,szOf sh)) :
 ∀(as:List (Nat×AV)) (vs:List (Nat×Value)) (cells:Array Value) (cs out:List AV),as.length=vs.length ->
  (∀(k:Nat) (i i' :Nat) (a:AV) (v:Value),as[k]? =some (i,a)->vs[k]? =some (i',v)->i=i' /\VA S L ow v a) ->
  CellsR S L ow cells cs->zJE pl cs as some=some out->∃ cells',Instr.fill pl' cells vs=some cells' /\CellsR S L ow cells' out
 | [],[],cells,cs,out,_,_,hc,h=>by simp only[zJE,zE]at h;subst h;exact⟨cells,rfl,hc⟩
 |(i,a)::r,(i',v)::vs,cells,cs,out,hl,hv,hc,h=>by
  obtain⟨rfl,hva⟩:=hv 0 i i' a v rfl rfl
  simp only[zJE]at h
  cases hp:pl i with
  |none=>rw[hp]at h;cases h
  |some q =>
   obtain⟨off,sh⟩:=q
   rw[hp]at h
   simp only at h
   cases hd:(a.okSh sh&&decide (off+szOf sh<=cs.length)) with
   |false=>rw[hd]at h;cases h
   |true =>
    rw[hd]at h
    simp only[zA]at h
    simp only[zF,zU]at hd
    have hsz:=(hva.cells hd.1).1
    have hc' :=hc.set hva hd.1 hd.2
    obtain⟨cells',k1,k2⟩:=zMT hpl r vs _ _ out (by simpa using hl) (λ k j j' a v ha hv' =>hv (k+1) j j' a v (by simpa using ha) (by simpa using hv')) hc' h
    refine⟨cells',?_,k2⟩
    simp only[Instr.fill,hpl i off sh hp]
    rw[if_neg (by rw[hsz,hc.1];simp;omega),zOc off v cells (by rw[hsz,hc.1];exact hd.2)]
    exact k1
 | [],_::_,_,_,_,hl,_,_,_=>by simp at hl
 |_::_,[],_,_,_,hl,_,_,_=>by simp at hl
theorem zQX{sh:Nat} {z:Value} {cs:List AV} (h:zKf sh z cs):CellsR S L ow z.cells cs :=
 ⟨h.1,h.2.2.2.2.1,λ j x a hx ha=>(h.2.2.2.2.2 j x a hx ha).2 S L ow⟩
theorem zMU{t:TypeId} {z:Value} (h:zKf (c.sh t) z (c.at_ t).zero):VA S L ow z (c.zero t)/\(c.zero t).okSh (c.sh t)=true:=by
 obtain⟨h1,h2,h3,h4,h5,h6⟩:=h
 unfold Cfg.zero
 cases hs:c.sh t with
 |zero =>
  rw[hs]at h2
  have hz:=h3 hs
  have hc:z.cells= #[z]:=by cases z<;>simp_all[Value.cells,Value.oneCell']
  simp only
  have hlen:(c.at_ t).zero.length=1:=h2
  obtain⟨a,ha⟩:∃ a,(c.at_ t).zero=[a]:=List.length_eq_one_iff.1 hlen
  rw[ha]at h6 ⊢
  obtain⟨k1,k2⟩:=h6 0 z a (by rw[hc];rfl) rfl
  refine⟨?_,k1⟩
  have:=k2 S L ow
  cases a<;>first | exact this | exact this.elim
 |succ n =>
  rw[hs]at h2
  obtain⟨vs,rfl⟩:=h4 (by rw[hs];simp)
  exact⟨VA.mkAgg h1 h5 (λ j x a hx ha=>(h6 j x a hx ha).2 S L ow),AV.mkAgg_okSh h2⟩
theorem zOd(hT:TyOK P c):∀(fs:List Field),(∀ f∈fs,c.known f.type=true) ->
 (fs.mapM λ(f:Field)=>do pure (f.offset,<-Go.sizeOf f.type)).run P w= .ok (fs.map λ f=>(f.offset,szOf (c.sh f.type))) w
 | [],_=>by simp
 |f::r,h=>by
  have:=zOd hT r (λ g hg=>h g (by simp[hg]))
  have hs:=hT.sizeOf (h f (by simp)) w
  simp only[bind_pure_comp]at this
  simp[List.mapM_cons,hs,this]
theorem zU2(hT:TyOK P c) {t:TypeId} {as:List (Nat×AV)} {vs:List (Nat×Value)} {cs:List AV} (hl:as.length=vs.length)
 (hv:∀(k:Nat) (i i' :Nat) (a:AV) (v:Value),as[k]? =some (i,a)->vs[k]? =some (i',v)->i=i' /\VA S L ow v a)
 (h:(match (c.at_ t).k with
  | .struct fs=>zJE (λ i=>(fs[i]?).map λ f=>(f.2,c.sh f.1)) (c.at_ t).zero as some
  | .arr n e=>zJE (λ i=>some (i*szOf (c.sh e),c.sh e)) (c.at_ t).zero as some
  |_=>none)=some cs):∃ u,(Instr.build t vs.toArray).run P w= .ok u w/\VA S L ow u (AV.mkAgg cs):=by
 have hk:=hT.kind t
 cases hkk:(c.at_ t).k<;>rw[hkk]at h hk<;>simp only at h hk<;>try (cases h;done)
 case struct fs =>
  obtain⟨fds,hu,hfs,hnm,hkn⟩:=hk
  have hkt:c.known t=true:=by unfold Cfg.known;rw[hkk]
  obtain⟨z,hz,hzok⟩:=hT.zeroValue hkt
  have hkf:∀ f∈fds.toList,c.known (Field.type f)=true:=λ f hf=>(hkn (f.type,f.offset) (by rw[<- hfs];exact zAh.2 ⟨f,hf,rfl⟩)).1
  have hp:=zOd (P:=P) (w:=w) hT fds.toList hkf
  simp only[bind_pure_comp]at hp
  obtain⟨cells',k1,k2⟩:=zMT (pl' :=λ i=>(fds.toList.map λ f=>(f.offset,szOf (c.sh f.type)))[i]?) (λ i off sh hi=>by
   rw[<- hfs]at hi
   simp only[zN,Option.map_map]at hi ⊢
   cases hf:fds.toList[i]? with
   |none=>rw[hf]at hi;cases hi
   |some f=>rw[hf]at hi;simp at hi ⊢;exact⟨hi.1,by rw[hi.2]⟩) as vs z.cells _ cs hl hv (zQX (S:=S) (L:=L) (ow:=ow) hzok) h
  refine⟨.agg cells',?_,VA.mkAgg k2.1 k2.2.1 k2.2.2⟩
  have k1' :Instr.fill (λ i=>Option.map (λ f:Field=>(f.offset,szOf (c.sh f.type))) fds[i]?) z.cells vs=some cells' :=by
   rw[<- k1];congr 1;funext i;simp[zN]
  simp[Instr.build,hz,run_underlying hu,Array.mapM_eq_mapM_toList,hp,k1']
 case arr n e =>
  have hkt:c.known t=true:=by unfold Cfg.known;rw[hkk]
  obtain⟨z,hz,hzok⟩:=hT.zeroValue hkt
  have hs:=hT.sizeOf hk.2 w
  obtain⟨cells',k1,k2⟩:=zMT (pl' :=λ i=>some (i*szOf (c.sh e),szOf (c.sh e))) (λ i off sh hi=>by
   simp only[zE,zAl]at hi ⊢
   exact⟨hi.1,by rw[hi.2]⟩) as vs z.cells _ cs hl hv (zQX (S:=S) (L:=L) (ow:=ow) hzok) h
  refine⟨.agg cells',?_,VA.mkAgg k2.1 k2.2.1 k2.2.2⟩
  simp[Instr.build,hz,run_underlying hk.1,hs,k1]
end
end Go.Ab

namespace Go.Ab
open Go.RowKit (Below)
variable [GL:Gl]
section
variable {P:Program} {c:Cfg} {w0:Base} {w:World} {S0 S:Pr} {L:List Loc} {ow:List Ob}
def VPs(S:Pr) (vs:List Value) (ps:List PV):Prop:=vs.length=ps.length/\∀(j:Nat) (v:Value) (p:PV),vs[j]? =some v->ps[j]? =some p->VP S v p
theorem VPs.nil(S:Pr):VPs S [] []:=⟨rfl,λ j v p h=>by simp at h⟩
theorem VPs.cons{S:Pr} {v:Value} {p:PV} {vs:List Value} {ps:List PV} (h:VP S v p) (k:VPs S vs ps):VPs S (v::vs) (p::ps) :=
 ⟨by simp[k.1],λ j x q hx hq=>by
  cases j with
  |zero=>simp at hx hq;subst hx;subst hq;exact h
  |succ j=>exact k.2 j x q (by simpa using hx) (by simpa using hq)⟩
theorem VPs.mono{S S' :Pr} {vs:List Value} {ps:List PV} (h:VPs S vs ps) (hS:S.le S'):VPs S' vs ps:=⟨h.1,λ j v p hv hp=>(h.2 j v p hv hp).mono hS⟩
theorem VPs.append{S:Pr} {vs us:List Value} {ps qs:List PV} (h:VPs S vs ps) (k:VPs S us qs):VPs S (vs++us) (ps++qs) :=
 ⟨by simp[h.1,k.1],λ j v p hv hp=>by
  by_cases hj:j<vs.length
  ·rw[zAW hj]at hv
   rw[zAW (h.1▸hj)]at hp
   exact h.2 j v p hv hp
  ·rw[zAO (by omega)]at hv
   rw[zAO (by rw[<- h.1];omega),<-h.1]at hp
   exact k.2 _ v p hv hp⟩
def VAs(S:Pr) (L:List Loc) (ow:List Ob) (vs:List Value) (as:List AV):Prop:=vs.length=as.length/\∀(j:Nat) (v:Value) (a:AV),vs[j]? =some v->as[j]? =some a->VA S L ow v a
theorem VAs.map{α:Type} (f:α->Value) (g:α->AV) (l:List α) (h:∀ x∈l,VA S L ow (f x) (g x)):VAs S L ow (l.map f) (l.map g) :=
 ⟨by simp,λ j v a hv ha=>by
  simp only[zN,Option.map_eq_some_iff]at hv ha
  obtain⟨x,hx,rfl⟩:=hv
  obtain⟨y,hy,rfl⟩:=ha
  rw[hx]at hy;simp only[zE]at hy;subst hy
  exact h x (zAV hx)⟩
theorem VAs.tail{v:Value} {a:AV} {vs:List Value} {as:List AV} (h:VAs S L ow (v::vs) (a::as)):VA S L ow v a/\VAs S L ow vs as :=
 ⟨h.2 0 v a rfl rfl,by have:=h.1;simpa using this,λ j x b hx hb=>h.2 (j+1) x b (by simpa using hx) (by simpa using hb)⟩
theorem zH2(inv:Inv w0 S0 S L ow w):∀{as:List AV} {vs:List Value} {ps:List PV},VAs S L ow vs as->zFO ow as some=some ps->VPs S vs ps
 | [],vs,ps,h,hp=>by
  simp only[zFO,zE]at hp;subst hp
  have:vs=[]:=zD3 h.1
  subst this;exact .nil S
 |a::r,[],ps,h,hp=>by have:=h.1;simp at this
 |a::r,v::vs,ps,h,hp=>by
  simp only[zFO]at hp
  rw[zAN,zJ]at hp
  obtain⟨p,h1,h2⟩:=hp
  rw[zDG,zJ]at h2
  obtain⟨qs,h3,h4⟩:=h2
  simp only[zE]at h4;subst h4
  exact .cons (zB9 inv h.tail.1 h1) (zH2 inv h.tail.2 h3)
theorem zNN(inv:Inv w0 S0 S L ow w) {sh:Nat}:∀{as:List AV} {vs:List Value} {ps:List PV},VAs S L ow vs as->zFx sh ow as some=some ps->VPs S vs ps/\∀ p∈ps,p.okSh sh=true
 | [],vs,ps,h,hp=>by
  simp only[zFx,zE]at hp;subst hp
  have:vs=[]:=zD3 h.1
  subst this;exact⟨.nil S,by simp⟩
 |a::r,[],ps,h,hp=>by have:=h.1;simp at this
 |a::r,v::vs,ps,h,hp=>by
  simp only[zFx]at hp
  rw[zAN,zJ]at hp
  obtain⟨p,h1,h2⟩:=hp
  cases hs:p.okSh sh with
  |false=>rw[hs]at h2;cases h2
  |true =>
   rw[hs]at h2
   simp only[zA]at h2
   rw[zEx,zJ]at h2
   obtain⟨qs,h3,h4⟩:=h2
   simp only[zE]at h4;subst h4
   obtain⟨k1,k2⟩:=zNN inv h.tail.2 h3
   refine⟨.cons (zB9 inv h.tail.1 h1) k1,λ q hq=> ?_⟩
   rcases zAE.1 hq with rfl | hq
   ·exact hs
   ·exact k2 q hq
def flat(vs:List Value):List Value:=vs.flatMap λ v=>v.cells.toList
theorem zQY{sh:Nat}:∀(vs:List Value) (xs:List PV),VPs S vs xs->(∀ x∈xs,x.okSh sh=true)->(flat vs).length=xs.length*szOf sh/\CellsOf S (λ j=>(flat vs)[j]?) sh xs
 | [],xs,h,_=>by
  have:xs=[]:=zD3 h.1.symm
  subst this
  exact⟨by simp[flat],λ i j hi _=>by simp at hi⟩
 |v::vs,[],h,_=>by have:=h.1;simp at this
 |v::vs,x::xs,h,hs=>by
  have hx:=hs x (by simp)
  have hv:VP S v x:=h.2 0 v x rfl rfl
  obtain⟨d1,d2,d3⟩:=hv.cells hx
  obtain⟨l1,c1⟩:=zQY vs xs ⟨by have:=h.1;simp at this;exact this,λ j u p hu hp=>h.2 (j+1) u p (by simpa using hu) (by simpa using hp)⟩ (λ y hy=>hs y (by simp[hy]))
  have hf:flat (v::vs)=v.cells.toList++flat vs:=by simp[flat]
  have hone:CellsOf S (λ j=>v.cells.toList[j]?) sh [x]:=λ i j hi hj=>by
   have h0:i=0:=by simpa using hi
   subst h0
   have hlt:j<v.cells.size:=by rw[d1];exact hj
   have hg:v.cells[j]? =some v.cells[j]:=zAj hlt
   refine⟨v.cells[j],by simp,d2 _ (Array.getElem_mem hlt),λ y p hy hp=> ?_⟩
   simp at hy;subst hy
   exact d3 j _ p hg hp
  refine⟨by rw[hf,zAK,l1];simp[d1,zAw];omega,?_⟩
  rw[hf]
  exact CellsOf.append (xs:=[x]) (by simp[d1]) hone c1
theorem zSa{sz:Nat}:∀(vs:List Value) (k:Nat) (cells:Array Value),(∀ v∈vs,v.cells.size=sz)->(k+vs.length)*sz<=cells.size ->
 Instr.fill (λ i=>some (i*sz,sz)) cells ((List.range' k vs.length).zip vs)=some (zDw cells (k*sz) (flat vs))
 | [],k,cells,_,_=>by
  simp only[List.length_nil,List.range'_zero,List.zip_nil_left,Instr.fill,flat,List.flatMap_nil]
  congr 1
  apply Array.ext'
  simp[zDw]
 |v::vs,k,cells,hv,hle=>by
  have h1:=hv v (by simp)
  have hk:(k+(vs.length+1))*sz=k*sz+sz+vs.length*sz:=by rw[zAw,zAw,Nat.one_mul];omega
  have hfl:∀ us:List Value,(∀ u∈us,u.cells.size=sz)->(flat us).length=us.length*sz:=λ us hu=>by
   induction us with
   |nil=>simp[flat]
   |cons u us ih =>
    have:=ih (λ x hx=>hu x (by simp[hx]))
    simp only[flat,zC2,zAK,Array.length_toList,hu u (by simp),List.length_cons,zAw,Nat.one_mul]at this ⊢
    omega
  simp only[List.length_cons]at hle
  rw[hk]at hle
  simp only[List.length_cons,List.range'_succ,List.zip_cons_cons,Instr.fill]
  rw[if_neg (by rw[h1];simp;omega),zOc _ v cells (by rw[h1];omega)]
  have hs1:k*sz+v.cells.toList.length<=cells.size:=by simp[h1];omega
  have ih:=zSa vs (k+1) (zDw cells (k*sz) v.cells.toList) (λ u hu=>hv u (by simp[hu])) (by
   rw[zEm hs1,zAw,zAw,Nat.one_mul];omega)
  rw[ih]
  congr 1
  have hlv:=hfl vs (λ u hu=>hv u (by simp[hu]))
  have hs2:(k+1)*sz+(flat vs).length<=(zDw cells (k*sz) v.cells.toList).size:=by
   rw[zEm hs1,hlv,zAw,Nat.one_mul];omega
  have hf:flat (v::vs)=v.cells.toList++flat vs:=by simp[flat]
  have hs3:k*sz+(flat (v::vs)).length<=cells.size:=by rw[hf,zAK,hlv];simp[h1];omega
  apply Array.ext_getElem?
  intro j
  rw[zCl hs2,zCl hs1,zCl hs3,hf]
  simp only[zAK,Array.length_toList,h1,hlv,zAw,Nat.one_mul,List.getElem?_append]
  by_cases ca:j<k*sz
  ·rw[if_neg (by omega),if_neg (by omega),if_neg (by omega)]
  ·by_cases cb:j<k*sz+sz
   ·rw[if_neg (by omega),if_pos (by omega),if_pos (by omega),if_pos (by omega)]
   ·by_cases cc:j<k*sz+sz+vs.length*sz
    ·rw[if_pos (by omega),if_pos (by omega),if_neg (by omega)]
     congr 1;omega
    ·rw[if_neg (by omega),if_neg (by omega),if_neg (by omega)]
theorem zQZ{α:Type}:∀(ps:List (Nat×α)) (k:Nat),ps.map (·.1)=List.range' k ps.length->ps=(List.range' k ps.length).zip (ps.map (·.2))
 | [],_,_=>by simp
 |p::r,k,h=>by
  simp only[zAX,List.length_cons,List.range'_succ,List.cons.injEq]at h
  obtain⟨h1,h2⟩:=h
  simp only[List.length_cons,List.range'_succ,zAX,List.zip_cons_cons]
  rw[<- zQZ r (k+1) h2,<-h1]
theorem zQC(hT:TyOK P c) {t e:TypeId} (ht:(c.at_ t).k= .slice e) {n:Nat} {parts:List (Nat×Value)} {xs:List PV} (hn:n=parts.length) (hi:parts.map (·.1)=List.range n)
 (hv:VPs S (parts.map (·.2)) xs) (hs:∀ x∈xs,x.okSh (c.sh e)=true) (h1:n<=4096) (h2:szOf (c.sh e)<=4096) :
 ∃ cs,cs.size=n*szOf (c.sh e)/\CellsOf S (λ j=>cs[j]?) (c.sh e) xs/\(Instr.buildSlice t n parts.toArray).run P w= .ok (.slice (some ⟨w.heap.size,0,none⟩) n n) (w.alloc (.cells cs e)):=by
 have hk:=hT.kind t
 rw[ht]at hk
 obtain⟨hut,hke⟩:=hk
 obtain⟨z,hz,hzok⟩:=hT.zeroValue hke
 have hsz:=hT.sizeOf hke w
 have hzs:z.cells.size=szOf (c.sh e):=by rw[hzok.1,hzok.2.1]
 have hxl:xs.length=n:=by rw[<- hv.1];simp[hn]
 obtain⟨hfl,hcell⟩:=zQY _ xs hv hs
 have hsub:∀ v∈parts.map (·.2),v.cells.size=szOf (c.sh e):=λ v hvm=>by
  obtain⟨j,hj,hg⟩:=List.getElem_of_mem hvm
  have hj' :j<xs.length:=by rw[<- hv.1];exact hj
  have hx:xs[j]? =some xs[j]:=zH hj'
  exact((hv.2 j v xs[j] (by rw[zH hj,hg]) hx).cells (hs _ (zAC hj'))).1
 have hsmall:¬ (n*szOf (c.sh e)>2 ^ 24):=by
  have:n*szOf (c.sh e)<=4096*4096:=Nat.mul_le_mul h1 h2
  omega
 have hzip:parts=(List.range' 0 parts.length).zip (parts.map (·.2)):=zQZ parts 0 (by rw[hi,hn,List.range_eq_range'])
 let cells0:Array Value:=(Array.range (n*szOf (c.sh e))).map (λ i=>z.cells[i % z.cells.size]!)
 have hc0:cells0.size=n*szOf (c.sh e):=by simp[cells0]
 have hff:=zSa (sz:=szOf (c.sh e)) (parts.map (·.2)) 0 cells0 hsub (by rw[hc0];simp[hn])
 simp only[zK]at hff
 rw[<- hzip]at hff
 have hsp:zDw cells0 (0*szOf (c.sh e)) (flat (parts.map (·.2)))=(flat (parts.map (·.2))).toArray:=by
  have:=zQR (cur:=cells0) (vs:=(flat (parts.map (·.2))).toArray) (by rw[hc0];simp[hfl,hxl])
  simpa using this
 rw[hsp]at hff
 refine⟨(flat (parts.map (·.2))).toArray,by simp[hfl,hxl],?_,?_⟩
 ·intro i j hi hj
  obtain⟨u,k1,k2,k3⟩:=hcell i j hi hj
  exact⟨u,by simpa using k1,k2,k3⟩
 ·by_cases h0:n*szOf (c.sh e)=0
  ·have hff' :Instr.fill (λ i=>some (i*szOf (c.sh e),szOf (c.sh e))) #[] parts=some (flat (parts.map (·.2))).toArray:=by
    rw[<- hff];congr 1;exact(Array.eq_empty_of_size_eq_zero (by rw[hc0,h0])).symm
   simp[Instr.buildSlice,run_underlying hut,hsz,h0,newRow]
   rw[show(Array.map (λ x=>(default:Value)) (Array.range 0))= #[]from Array.eq_empty_of_size_eq_zero (by simp),hff']
   simp
  ·have hff' :=hff
   simp only[cells0]at hff'
   simp[Instr.buildSlice,run_underlying hut,hsz,hsmall,h0,hz,hff',newRow]
end
end Go.Ab

namespace Go.Ab
open Go.RowKit (Below)
variable [GL:Gl]
def Res(P:Program) (G:Value->World->Prop):Result Next->Prop
 | .ok (.value v) w' =>G v w'
 | .ok .skip w' =>G undef w'
 | .ok (.enter f args) w1=>Calls P f args w1 λ e w' =>∃ v,e= .returned v/\G v w'
 |_=>False
def zNi(P:Program) (f:FuncId):Prop:=∃ fn,P.funcs[f]? =some fn/\(fn.name== "runtime.NumGoroutine")=false/\fn.body.isNone=false
def hand(L:List Loc) (ow:List Ob) (w:World):Base:=⟨w,λ b=>∃(o:Nat) (ob:Ob) (l:Loc),ow[o]? =some ob/\L[o]? =some l/\b∈zZ ob l,L⟩
def Valid(P:Program) (f:FuncId) (args:List AV) (ow:List Ob) (r:AV) (ow' :List Ob):Prop :=
 ∀(S:Pr) (L:List Loc) (w:World) (vs:List Value),Inv (hand L ow w) S S L ow w->VAs S L ow vs args ->
  Res P (λ v w' =>∃ S' L',Inv (hand L ow w) S S' L' ow' w' /\VA S' L' ow' v r) ((callFunc f vs.toArray).run P w)
theorem zH3{P:Program} {w:World} {f:FuncId} {vs:List Value} (hf:zNi P f):(callFunc f vs.toArray).run P w= .ok (.enter f vs.toArray) w:=by
 obtain⟨fn,h1,h2,h3⟩:=hf
 have h2' :¬ fn.name= "runtime.NumGoroutine" :=by simpa using h2
 have h3' :¬ fn.body=none:=λ e=>by rw[e]at h3;cases h3
 simp[callFunc,h1,h2',h3']
theorem Res.mono{P:Program} {G G' :Value->World->Prop} (h:∀ v w,G v w->G' v w) {r:Result Next} (hr:Res P G r):Res P G' r:=by
 match r,hr with
 | .ok (.value v) w',hr=>exact h _ _ hr
 | .ok .skip w',hr=>exact h _ _ hr
 | .ok (.enter f args) w1,hr=>exact Calls.mono hr λ e w' ⟨v,he,hg⟩=>⟨v,he,h _ _ hg⟩
theorem Valid.of{P:Program} {f:FuncId} {args:List AV} {ow:List Ob} {r:AV} {ow' :List Ob} (hf:zNi P f) (h:∀(S:Pr) (L:List Loc) (w:World) (vs:List Value),Inv (hand L ow w) S S L ow w->VAs S L ow vs args ->
 Calls P f vs.toArray w λ e w' =>∃ v S' L',e= .returned v/\Inv (hand L ow w) S S' L' ow' w' /\VA S' L' ow' v r):Valid P f args ow r ow' :=λ S L w vs inv hvs=>by
 rw[zH3 hf]
 exact Calls.mono (h S L w vs inv hvs) λ e w' ⟨v,S',L',he,hi,hv⟩=>⟨v,he,S',L',hi,hv⟩
def CallOK(P:Program) (call:Wf):Prop:=∀ f raw args ow r ow',call f raw args ow=some (r,ow')->Valid P f args ow r ow'
def z3x(P:Program) (f:FuncId) (args:List PV) (r:PV):Prop :=
 ∀(S:Pr) (w:World) (vs:List Value),Gl.here w->(∀ b o v,S b o=some v->memV w b o=some v)->VPs S vs args ->
  Res P (λ v w' =>∃ S',S.le S' /\(∀ b o,b<w.heap.size->S' b o=S b o) /\
   (∀ b o u,S' b o=some u->memV w' b o=some u)/\VP S' v r/\Below w.heap.size w w') ((callFunc f vs.toArray).run P w)
theorem VAs.ofP{S:Pr} {L:List Loc} {ow:List Ob} {vs:List Value} {ps:List PV} (h:VPs S vs ps):VAs S L ow vs (ps.map .pv):=by
 refine⟨by simpa using h.1,λ j v a hv ha=> ?_⟩
 rw[zN]at ha
 cases hp:ps[j]? with
 |none=>rw[hp]at ha;cases ha
 |some p=>rw[hp]at ha;simp at ha;subst ha;exact h.2 j v p hv hp
theorem zOe{w:World} {b:Nat} (h:b<w.heap.size):(hand [] [] w).old b:=⟨h,λ⟨o,ob,l,h,_⟩=>by simp at h⟩
theorem zOK{S:Pr} {w:World} (hq:Gl.here w) (h:∀ b o v,S b o=some v->memV w b o=some v):Inv (hand [] [] w) S S [] [] w :=
 ⟨rfl,Stays.refl _,h,λ _ _ _=>rfl,Pr.le_refl S,λ g X hg=>⟨zOe (by
  rcases Nat.lt_or_ge g w.heap.size with h' | h'
  ·exact h'
  ·have:=hq g X hg;rw[Array.getElem?_eq_none h']at this;cases this),hq g X hg⟩,λ j b h _=>by simp[hand]at h,λ o ob l h=>by simp at h,λ o ob l b h=>by simp at h,λ o o' ob ob' l l' b h=>by simp at h⟩
theorem CallOK.plain{P:Program} {call:Wf} (h:CallOK P call) {f:FuncId} {ps:List PV} {z:PV} (hz:wc call f ps=some z):z3x P f ps z:=by
 unfold wc at hz
 obtain⟨⟨r,ow'⟩,h1,h2⟩:=zJ.1 hz
 have e:r= .pv z:=by cases r<;>simp[AV.asPv]at h2;rw[h2]
 subst e
 have hC:=h f _ _ _ _ _ h1
 refine λ S w vs hq hp hvs=>Res.mono ?_ (hC S [] w vs (zOK hq hp) (VAs.ofP hvs))
 rintro v w' ⟨S',L',hi,hv⟩
 exact⟨S',hi.le,λ b o hb=>hi.old b o (zOe hb),hi.prot,hv,hi.below.os,hi.below.tape,hi.below.output,hi.below.size,λ k hk=>hi.below.block k (zOe hk)⟩
section
variable {P:Program} {c:Cfg} {w0:Base} {w:World} {S0 S:Pr} {L:List Loc} {ow:List Ob}
def Good(w0:Base) (S0 S:Pr) (L:List Loc) (ow:List Ob) (av:AV) (ow' :List Ob) (v:Value) (w' :World):Prop :=
 ∃ S' L',Inv w0 S0 S' L' ow' w' /\Evo S L ow S' L' ow' /\VA S' L' ow' v av
theorem Good.same(inv:Inv w0 S0 S L ow w) {v:Value} {av:AV} (h:VA S L ow v av):Good w0 S0 S L ow av ow v w:=⟨S,L,inv,Evo.refl _ _ _,h⟩
theorem Good.undef(inv:Inv w0 S0 S L ow w) {v:Value}:Good w0 S0 S L ow .undef ow v w:=Good.same inv (VP.undef v)
theorem zEn{R:Type} {a:AV} {k:Int->Option R} {y:R} (h:zFP a k=some y):∃ kd n,a= .pv (.int kd n)/\k n=some y:=by
 obtain⟨p,rfl,h⟩:=zBV h
 have h' :p.asInt.bind k=some y:=h
 obtain⟨n,hn,h⟩:=zJ.1 h'
 obtain⟨kd,rfl⟩:=zRK hn
 exact⟨kd,n,rfl,h⟩
theorem RowAt.cut{C:Nat->Nat->Option Value} {base:Option Addr} {n cap sh:Nat} {ys:List PV} (h:RowAt C S (.slice base n cap) sh ys) {l k:Nat} (hlk:l<=k) (hk:k<=ys.length) :
 RowAt C S (.slice (if cap=l then base else base.map (·.add (l*szOf sh))) (k-l) (cap-l)) sh ((ys.drop l).take (k-l)):=by
 obtain⟨base',n',cap',b,o,e,hl,hc,hs,hb,hx⟩:=h
 simp only[Value.slice.injEq]at e
 obtain⟨rfl,rfl,rfl⟩:=e
 have hlen:((ys.drop l).take (k-l)).length=k-l:=by simp;omega
 refine⟨_,k-l,cap-l,b,o+l*szOf sh,rfl,hlen,by omega,λ y hy=>hs y (List.mem_of_mem_drop (List.mem_of_mem_take hy)),λ h0=> ?_,λ i j hi hj=> ?_⟩
 ·rw[if_neg (by omega),hb (by omega)]
  simp[zDB]
 ·obtain⟨u,h1,h2,h3⟩:=hx (l+i) j (by omega) hj
  have e:o+l*szOf sh+i*szOf sh+j=o+(l+i)*szOf sh+j:=by rw[zAw];omega
  rw[e]
  refine⟨u,h1,h2,λ y p hy hp=>h3 y p ?_ hp⟩
  rw[zCP,if_pos (by omega),List.getElem?_drop]at hy
  exact hy
theorem zMV(isS:Bool) (len cap:Nat) (low high:Option (IntKind×Int)) (l h:Int) (hl:low.map (·.2)=some l∨low=none/\l=0) (hh:high.map (·.2)=some h∨high=none/\h=len)
 (h0:0<=l) (h1:l<=h) (h2:h<=cap) :
 (Instr.sliceBounds isS len cap (low.map λ q=> .int q.1 q.2) (high.map λ q=> .int q.1 q.2) none).run P w= .ok (l.toNat,h.toNat,cap) w:=by
 have hb:∀(k:IntKind) (x:Int) (y:Nat) (cd:BoundsCode),0<=x->x<=y->(Instr.sliceBound (.int k x) y cd).run P w= .ok x.toNat w:=λ k x y cd a b=>by
  simp[Instr.sliceBound,asIntOf,a,b]
 have hhn:0<=h:=by omega
 unfold Instr.sliceBounds
 cases low with
 |none =>
  obtain⟨_,rfl⟩:=hl.resolve_left (by simp)
  cases high with
  |none =>
   obtain⟨_,rfl⟩:=hh.resolve_left (by simp)
   simp
  |some q =>
   obtain⟨k2,x2⟩:=q
   have e:x2=h:=by simpa using hh
   subst e
   simp[hb k2 x2 cap _ hhn h2]
 |some p =>
  obtain⟨k1,x1⟩:=p
  have e1:x1=l:=by simpa using hl
  subst e1
  cases high with
  |none =>
   obtain⟨_,rfl⟩:=hh.resolve_left (by simp)
   simp[hb k1 x1 len _ h0 h1]
  |some q =>
   obtain⟨k2,x2⟩:=q
   have e:x2=h:=by simpa using hh
   subst e
   simp[hb k2 x2 cap _ hhn h2,hb k1 x1 x2.toNat _ h0 (by omega)]
theorem zFr{R:Type} {r:Operand->TypeId->AV} {x:Option Operand} {d:Int} {k:Int->Option R} {y:R} {act:Act} (hr:∀ x t,VA S L ow (act.eval x) (r x t)) (h:bnd r x d k=some y) :
 ∃(q:Option (IntKind×Int)) (n:Int),x.map act.eval=q.map (λ q=>Value.int q.1 q.2)/\(q.map (·.2)=some n∨q=none/\n=d)/\k n=some y:=by
 cases x with
 |none=>exact⟨none,d,rfl,.inr ⟨rfl,rfl⟩,h⟩
 |some l =>
  obtain⟨kd,n,e,hk⟩:=zEn h
  have:=hr l 0
  rw[e]at this
  have ev:=zE0 this
  exact⟨some (kd,n),n,by simp[ev],.inl rfl,hk⟩
end
end Go.Ab

namespace Go.Ab
open Go.RowKit (Below)
variable [GL:Gl]
section
variable {P:Program} {c:Cfg} {w0:Base} {w:World} {S0 S:Pr} {L:List Loc} {ow:List Ob} {call:Wf} {own:Hi} {o:Oper} {r:Operand->TypeId->AV} {act:Act} {av:AV} {ow' :List Ob}
abbrev opD (c:Cfg) (call:Wf) (own:Hi) (o:Oper) (r:Operand->TypeId->AV) (ow:List Ob):Option (AV×List Ob):=op1 c call own o r ow λ a b=>some (a,b)
structure Pre (P:Program) (c:Cfg) (w0:Base) (w:World) (S0 S:Pr) (L:List Loc) (ow:List Ob) (r:Operand->TypeId->AV) (act:Act):Prop where
 hT:TyOK P c
 inv:Inv w0 S0 S L ow w
 hr:∀ x t,VA S L ow (act.eval x) (r x t)
abbrev G (w0:Base) (S0 S:Pr) (L:List Loc) (ow:List Ob) (av:AV) (ow' :List Ob):Value->World->Prop:=Good w0 S0 S L ow av ow'
theorem zT{a a' :AV} {b b' :List Ob} (h:some (a,b)=some (a',b')):a=a' /\b=b' :=by simpa using h
theorem zYd(pre:Pre P c w0 w S0 S L ow r act) {x:Operand} (ho:o.op= .move x∨o.op= .assign x) (h:opD c call own o r ow=some (av,ow')) :
 Res P (G w0 S0 S L ow av ow') ((execOp act.eval o).run P w):=by
 have hx:=pre.hr x o.type
 have h' :(bif zDF own o then(match zMO (r x o.type) ow with | (a,ow')=>some (a,ow'))else some (r x o.type,ow))=some (av,ow'):=by
  rcases ho with ho | ho<;>(unfold opD op1 at h;rw[ho]at h;exact h)
 have hrun:(execOp act.eval o).run P w= .ok (.value (act.eval x)) w:=by rcases ho with ho | ho<;>simp[execOp,ho]
 rw[hrun]
 cases hd:zDF own o with
 |true =>
  rw[hd]at h'
  obtain⟨L',k1,k2,k3,_⟩:=zIV pre.inv hx
  simp only[zA]at h'
  obtain⟨rfl,rfl⟩:=zT h'
  exact⟨S,L',k1,k2,k3⟩
 |false =>
  rw[hd]at h'
  simp only[zC]at h'
  obtain⟨rfl,rfl⟩:=zT h'
  exact Good.same pre.inv hx
theorem z2p(pre:Pre P c w0 w S0 S L ow r act) {q a b:Operand} (ho:o.op= .pick q a b) (h:opD c call own o r ow=some (av,ow')) :
 Res P (G w0 S0 S L ow av ow') ((execOp act.eval o).run P w):=by
 unfold opD op1 at h;rw[ho]at h;simp only at h
 obtain⟨p,hp,h⟩:=zBV h
 obtain⟨z,hz,h⟩:=zJ.1 h
 have e:=zGq hz;subst e
 have hq:=pre.hr q 0;rw[hp]at hq
 have ev:=zGN hq
 obtain⟨rfl,rfl⟩:=zT h
 have hrun:(execOp act.eval o).run P w= .ok (.value (if z then act.eval a else act.eval b)) w:=by simp[execOp,ho,ev,asBool]
 rw[hrun]
 cases z with
 |true=>exact Good.same pre.inv (pre.hr a o.type)
 |false=>exact Good.same pre.inv (pre.hr b o.type)
theorem z0b(pre:Pre P c w0 w S0 S L ow r act) {t:TypeId} (ho:o.op= .alloc t) (h:opD c call own o r ow=some (av,ow')) :
 Res P (G w0 S0 S L ow av ow') ((execOp act.eval o).run P w):=by
 unfold opD op1 at h;rw[ho]at h;simp only at h
 cases hk:c.known t with
 |false=>rw[hk]at h;cases h
 |true =>
 rw[hk]at h
 simp only[zAH,zC]at h
 obtain⟨z,hz,hzok⟩:=pre.hT.zeroValue hk
 obtain⟨hva,hvs⟩:=zMU (S:=S) (L:=L) (ow:=ow) hzok
 have hrun:(execOp act.eval o).run P w= .ok (.value (.pointer (some ⟨w.heap.size,0,none⟩))) (w.alloc (.cells z.cells t)):=by
  simp[execOp,ho,Instr.alloc,hz,pre.hT.newVar]
 rw[hrun]
 have close:∀(L1:List Loc) (a1:AV) (ow1:List Ob),Inv w0 S0 S L1 ow1 w->Evo S L ow S L1 ow1->VA S L1 ow1 z a1->a1.okSh (c.sh t)=true->av= .own ow1.length 0->ow' =ow1++[.var false (c.sh t) a1] ->
  Good w0 S0 S L ow av ow' (.pointer (some ⟨w.heap.size,0,none⟩)) (w.alloc (.cells z.cells t)):=λ L1 a1 ow1 i1 e1 v1 s1 ea eo=>by
  subst ea;subst eo
  obtain⟨L',k1,k2,k3⟩:=zVv i1 t v1 s1
  exact⟨S,L',k1,e1.trans k2,k3⟩
 cases hd:zDF own o with
 |true =>
  rw[hd]at h
  simp only[zA]at h
  obtain⟨L1,k1,k2,k3,k4⟩:=zIV pre.inv hva
  obtain⟨e1,e2⟩:=zT h
  exact close L1 _ _ k1 k2 k3 (k4 _ hvs) e1.symm e2.symm
 |false =>
  rw[hd]at h
  simp only[zC]at h
  obtain⟨e1,e2⟩:=zT h
  exact close L _ _ pre.inv (Evo.refl _ _ _) hva hvs e1.symm e2.symm
theorem z3y(pre:Pre P c w0 w S0 S L ow r act) {t:TypeId} {x:Operand} (ho:o.op= .box t x) (h:opD c call own o r ow=some (av,ow')) :
 Res P (G w0 S0 S L ow av ow') ((execOp act.eval o).run P w):=by
 unfold opD op1 at h;rw[ho]at h;simp only at h
 cases hk:c.known t with
 |false=>rw[hk]at h;cases h
 |true =>
 rw[hk]at h
 simp only[zAH,zC]at h
 have hx:=pre.hr x t
 have hrun:(execOp act.eval o).run P w= .ok (.value (.pointer (some ⟨w.heap.size,0,none⟩))) (w.alloc (.cells (act.eval x).cells t)):=by
  simp[execOp,ho,Instr.box,pre.hT.newVar]
 rw[hrun]
 cases hd:zDF own o with
 |true =>
  rw[hd]at h
  simp only[zA]at h
  cases hs:(r x t).okSh (c.sh t) with
  |false=>rw[hs]at h;cases h
  |true =>
  rw[hs]at h
  simp only[zA]at h
  obtain⟨L1,k1,k2,k3,k4⟩:=zIV pre.inv hx
  obtain⟨rfl,rfl⟩:=zT h
  obtain⟨L',m1,m2,m3⟩:=zVv k1 t k3 (k4 _ hs)
  exact⟨S,L',m1,k2.trans m2,m3⟩
 |false =>
  rw[hd]at h
  simp only[zC]at h
  rw[zAN]at h
  obtain⟨p,hp,h⟩:=zJ.1 h
  cases hs:p.okSh (c.sh t) with
  |false=>rw[hs]at h;cases h
  |true =>
  rw[hs]at h
  simp only[zA]at h
  obtain⟨rfl,rfl⟩:=zT h
  obtain⟨k1,k2,k3⟩:=z2n pre.inv t (zB9 pre.inv hx hp) hs
  exact⟨_,L,k1,Evo.grow k2 _ _,k3⟩
theorem z0c(pre:Pre P c w0 w S0 S L ow r act) {t:TypeId} {ps:Array (Nat×Operand)} (ho:o.op= .build t ps) (h:opD c call own o r ow=some (av,ow')) :
 Res P (G w0 S0 S L ow av ow') ((execOp act.eval o).run P w):=by
 unfold opD op1 at h;rw[ho]at h;simp only at h
 have key:∀(f:Nat->TypeId) (cs:List AV),(match (c.at_ t).k with
  | .struct fs=>zJE (λ i=>(fs[i]?).map λ f=>(f.2,c.sh f.1)) (c.at_ t).zero (ps.toList.map λ p=>(p.1,r p.2 (f p.1))) some
  | .arr n e=>zJE (λ i=>some (i*szOf (c.sh e),c.sh e)) (c.at_ t).zero (ps.toList.map λ p=>(p.1,r p.2 (f p.1))) some
  |_=>none)=some cs->Res P (G w0 S0 S L ow (AV.mkAgg cs) ow) ((execOp act.eval o).run P w):=λ f cs hcs=>by
  obtain⟨u,k1,k2⟩:=zU2 (w:=w) (vs:=ps.toList.map λ p=>(p.1,act.eval p.2)) pre.hT (by simp) (λ k i i' a v ha hv=>by
   simp only[zN,Option.map_eq_some_iff]at ha hv
   obtain⟨p,hp,ep⟩:=ha
   obtain⟨p',hp',ep'⟩:=hv
   rw[hp]at hp';simp only[zE]at hp';subst hp'
   simp only[zAl]at ep ep'
   obtain⟨rfl,rfl⟩:=ep
   obtain⟨rfl,rfl⟩:=ep'
   exact⟨rfl,pre.hr _ _⟩) hcs
  have hrun:(execOp act.eval o).run P w= .ok (.value u) w:=by
   have e:(ps.map λ(p:Nat×Operand)=>(p.1,act.eval p.2))=(ps.toList.map λ p=>(p.1,act.eval p.2)).toArray:=by apply Array.ext';rw[Array.toList_map]
   simp only[execOp,ho,Sem.run_bind]
   rw[e,k1];rfl
  rw[hrun]
  exact Good.same pre.inv k2
 cases hk:(c.at_ t).k<;>rw[hk]at h key<;>(try simp only at h)<;>(try simp only at key)<;>try (cases h;done)
 case struct fs =>
  rw[zGr]at h
  obtain⟨cs,hcs,h⟩:=zJ.1 h
  obtain⟨rfl,rfl⟩:=zT h
  exact key (λ i=>zSU fs i) cs hcs
 case arr n e =>
  rw[zGr]at h
  obtain⟨cs,hcs,h⟩:=zJ.1 h
  obtain⟨rfl,rfl⟩:=zT h
  exact key (λ _=>e) cs hcs
theorem zRL(pre:Pre P c w0 w S0 S L ow r act) {t:TypeId} {n:Nat} {ps:Array (Nat×Operand)} (ho:o.op= .buildSlice t n ps) (h:opD c call own o r ow=some (av,ow')) :
 Res P (G w0 S0 S L ow av ow') ((execOp act.eval o).run P w):=by
 unfold opD op1 at h;rw[ho]at h;simp only at h
 cases hk:(c.at_ t).k<;>rw[hk]at h<;>(try simp only at h)<;>try (cases h;done)
 rename_i e
 cases hc:(decide (n=ps.size)&&(ps.toList.map (·.1)==List.range n)&&decide (n<=4096)&&decide (szOf (c.sh e)<=4096)) with
 |false=>rw[hc]at h;cases h
 |true =>
 rw[hc]at h
 simp only[zF,zU,beq_iff_eq]at hc
 obtain⟨⟨⟨c1,c2⟩,c3⟩,c4⟩:=hc
 simp only[zA]at h
 rw[zEx]at h
 obtain⟨xs,hxs,h⟩:=zJ.1 h
 obtain⟨k1,k2⟩:=zNN pre.inv (VAs.map (λ p:Nat×Operand=>act.eval p.2) (λ p=>r p.2 e) ps.toList (λ p _=>pre.hr _ _)) hxs
 obtain⟨cs,m1,m2,m3⟩:=zQC (w:=w) (S:=S) (n:=n) (parts:=ps.toList.map λ p=>(p.1,act.eval p.2)) (xs:=xs) pre.hT hk (by simp[c1]) (by rw[<- c2];simp[List.map_map,Function.comp_def]) (by simpa [List.map_map,Function.comp_def]using k1) k2 c3 c4
 have hxl:xs.length=n:=by rw[<- k1.1];simp[c1]
 have hrun:(execOp act.eval o).run P w= .ok (.value (.slice (some ⟨w.heap.size,0,none⟩) n n)) (w.alloc (.cells cs e)):=by
  have e:(ps.map λ(p:Nat×Operand)=>(p.1,act.eval p.2))=(ps.toList.map λ p=>(p.1,act.eval p.2)).toArray:=by apply Array.ext';rw[Array.toList_map]
  simp only[execOp,ho,Sem.run_bind]
  rw[e,m3];rfl
 rw[hrun]
 cases hd:zDF own o with
 |true =>
  rw[hd]at h
  simp only[zA]at h
  obtain⟨rfl,rfl⟩:=zT h
  obtain⟨L',n1,n2,n3⟩:=zKG (cap:=n) pre.inv e hxl (zM _) (by rw[m1];exact zM _) k2 m2
  exact⟨S,L',n1,n2,n3⟩
 |false =>
  rw[hd]at h
  simp only[zC]at h
  obtain⟨rfl,rfl⟩:=zT h
  obtain⟨n1,n2,n3⟩:=zMS (cap:=n) pre.inv e hxl (zM _) k2 m2
  exact⟨_,L,n1,Evo.grow n2 _ _,n3⟩
theorem z2q(pre:Pre P c w0 w S0 S L ow r act) {t:TypeId} {x:Operand} (ho:o.op= .load t x) (h:opD c call own o r ow=some (av,ow')) :
 Res P (G w0 S0 S L ow av ow') ((execOp act.eval o).run P w):=by
 unfold opD op1 at h;rw[ho]at h;simp only at h
 cases hk:c.known t with
 |false=>rw[hk]at h;cases h
 |true =>
 rw[hk]at h
 simp only[zAH,zC]at h
 rw[zEQ]at h
 obtain⟨a,ha,h⟩:=zJ.1 h
 obtain⟨rfl,rfl⟩:=zT h
 obtain⟨u,k1,k2⟩:=zJO pre.hT pre.inv hk (pre.hr x 0) ha
 have hrun:(execOp act.eval o).run P w= .ok (.value u) w:=by simp[execOp,ho,k1]
 rw[hrun]
 exact Good.same pre.inv k2
theorem z0d(pre:Pre P c w0 w S0 S L ow r act) {t:TypeId} {x y:Operand} (ho:o.op= .store t x y) (h:opD c call own o r ow=some (av,ow')) :
 Res P (G w0 S0 S L ow av ow') ((execOp act.eval o).run P w):=by
 unfold opD op1 at h;rw[ho]at h;simp only at h
 cases hk:c.known t with
 |false=>rw[hk]at h;cases h
 |true =>
 rw[hk]at h
 simp only[zAH,zC]at h
 have close:∀(L1:List Loc) (a1:AV) (ow1:List Ob),Inv w0 S0 S L1 ow1 w->Evo S L ow S L1 ow1->VA S L1 ow1 (act.eval y) a1->(zHo ow1 (r x 0) (c.sh t) a1 λ o=>some (AV.undef,o))=some (av,ow') ->
  Res P (G w0 S0 S L ow av ow') ((execOp act.eval o).run P w):=λ L1 a1 ow1 i1 e1 v1 hs=>by
  rw[zKs]at hs
  obtain⟨ow2,h2,h3⟩:=zJ.1 hs
  obtain⟨rfl,rfl⟩:=zT h3
  obtain⟨w',L',k1,k2,k3⟩:=zRD pre.hT i1 hk (e1.2 _ _ (pre.hr x 0)) v1 h2
  have hrun:(execOp act.eval o).run P w= .ok .skip w' :=by simp[execOp,ho,k1]
  rw[hrun]
  exact⟨S,L',k2,e1.trans k3,VP.undef _⟩
 cases hd:z3s own x with
 |true =>
  rw[hd]at h
  simp only[zA]at h
  obtain⟨L1,k1,k2,k3,_⟩:=zIV pre.inv (pre.hr y t)
  exact close L1 _ _ k1 k2 k3 h
 |false =>
  rw[hd]at h
  simp only[zC]at h
  exact close L _ _ pre.inv (Evo.refl _ _ _) (pre.hr y t) h
theorem zU3(pre:Pre P c w0 w S0 S L ow r act) {x:Operand} (ho:o.op= .nilCheck x) (h:opD c call own o r ow=some (av,ow')) :
 Res P (G w0 S0 S L ow av ow') ((execOp act.eval o).run P w):=by
 unfold opD op1 at h;rw[ho]at h;simp only at h
 have hx:=pre.hr x 0
 have close:∀ a,r x 0=a->av=a->ow' =ow->(∀ v,VA S L ow v a->(∃ p,v= .pointer (some p))∨∃ f fs cs,v= .func (.func f) fs cs)->Res P (G w0 S0 S L ow av ow') ((execOp act.eval o).run P w):=λ a ea e1 e2 hv=>by
  subst e1;subst e2
  rw[ea]at hx
  have hrun:(execOp act.eval o).run P w= .ok (.value (act.eval x)) w:=by
   rcases hv _ hx with⟨p,e⟩ | ⟨f,fs,cs,e⟩<;>simp[execOp,ho,e]
  rw[hrun]
  exact Good.same pre.inv hx
 cases ha:r x 0 with
 |own ob off=>rw[ha]at h;obtain⟨e1,e2⟩:=zT h;exact close _ ha e1.symm e2.symm (λ v hv=>by obtain⟨b,_,_,e⟩:=hv.own_ptr;exact .inl ⟨_,e⟩)
 |elem ob ver i off =>
  rw[ha]at h;obtain⟨e1,e2⟩:=zT h
  exact close _ ha e1.symm e2.symm (λ v hv=> .inl (show VA1 S L ow v (.elem ob ver i off)from hv).1)
 |pv p =>
  rw[ha]at h
  cases p<;>simp only at h<;>try (cases h;done)
  ·obtain⟨e1,e2⟩:=zT h
   exact close _ ha e1.symm e2.symm (λ v hv=>by
    have hv' :VP S v _:=hv
    cases hv';exact .inl ⟨_,rfl⟩)
  ·obtain⟨e1,e2⟩:=zT h
   exact close _ ha e1.symm e2.symm (λ v hv=>by
    have hv' :VP S v _:=hv
    cases hv';exact .inr ⟨_,_,_,rfl⟩)
 |fnv f fs cs =>
  rw[ha]at h;obtain⟨e1,e2⟩:=zT h
  exact close _ ha e1.symm e2.symm (λ v hv=> .inr (by obtain⟨fs,cs,e,_⟩:=(show VA1 S L ow v (.fnv f fs cs)from hv);exact⟨_,_,_,e⟩))
 |mp ob=>rw[ha]at h;cases h
 |tupA as=>rw[ha]at h;cases h
 |nil sh=>rw[ha]at h;cases h
 |sl bb sh xxs=>rw[ha]at h;cases h
 |gm o=>rw[ha]at h;cases h
 |fx o s=>rw[ha]at h;cases h
 |fe o i off=>rw[ha]at h;cases h
 |agg cs=>rw[ha]at h;cases h
 |view ob ver sb=>rw[ha]at h;cases h
theorem z3z(pre:Pre P c w0 w S0 S L ow r act) {op:BinOp} {xT yT:TypeId} {x y:Operand} (ho:o.op= .binOp op xT x y yT) (h:opD c call own o r ow=some (av,ow')) :
 Res P (G w0 S0 S L ow av ow') ((execOp act.eval o).run P w):=by
 unfold opD op1 at h;rw[ho]at h;simp only at h
 cases hn:zMP (c.at_ xT).k op (r x xT) y with
 |some b =>
  rw[hn]at h
  obtain⟨rfl,rfl⟩:=zT h
  unfold zMP at hn
  split at hn
  ·rename_i e b' sh xs hk hr
   cases hn
   have hx:=pre.hr x xT;rw[hr]at hx
   obtain⟨_,a,n,k,hv,hb⟩:=hx
   have ht:=pre.hT.kind xT;rw[hk]at ht
   have hrun:(execOp act.eval o).run P w= .ok (.value (.bool b)) w:=by
    have hy:act.eval (.const (.slice none 0 0))= .slice none 0 0:=rfl
    simp only[execOp,ho,hv,hy]
    rw[Sem.run_bind]
    have:=Lib.run_eql_slice_nil (P:=P) w xT e a n k 0 0 ht.1
    rw[hb]at this
    simp[eqGuard_at_slice,this]
   rw[hrun]
   exact Good.same pre.inv (VP.bool b)
  ·cases hn
 |none =>
 rw[hn]at h
 obtain⟨p,hp,h⟩:=zBV h
 obtain⟨q,hq,h⟩:=zBV h
 obtain⟨z,hz,h⟩:=zJ.1 h
 obtain⟨rfl,rfl⟩:=zT h
 have hx:=pre.hr x xT;rw[hp]at hx
 have hy:=pre.hr y yT;rw[hq]at hy
 obtain⟨u,k1,k2⟩:=zXL (w:=w) (xo:=x) (yo:=y) pre.hT hx hy hz
 have hrun:(execOp act.eval o).run P w= .ok (.value u) w:=by
  have k1' :(do eqGuard op xT x y (act.eval x) (act.eval y);binOp op xT (act.eval x) (act.eval y):Sem Value).run P w= .ok u w:=k1
  simp only[execOp,ho]
  rw[Sem.run_bind,k1'];rfl
 rw[hrun]
 exact Good.same pre.inv k2
theorem z6S(pre:Pre P c w0 w S0 S L ow r act) {op:UnOp} {t:TypeId} {x:Operand} (ho:o.op= .unOp op t x) (h:opD c call own o r ow=some (av,ow')) :
 Res P (G w0 S0 S L ow av ow') ((execOp act.eval o).run P w):=by
 unfold opD op1 at h;rw[ho]at h;simp only at h
 obtain⟨p,hp,h⟩:=zBV h
 obtain⟨z,hz,h⟩:=zJ.1 h
 obtain⟨rfl,rfl⟩:=zT h
 have hx:=pre.hr x t;rw[hp]at hx
 obtain⟨u,k1,k2⟩:=zYa (P:=P) (w:=w) hx hz
 have hrun:(execOp act.eval o).run P w= .ok (.value u) w:=by simp[execOp,ho,k1]
 rw[hrun]
 exact Good.same pre.inv k2
theorem z2r(pre:Pre P c w0 w S0 S L ow r act) {s d:TypeId} {x:Operand} (ho:o.op= .convert s d x) (h:opD c call own o r ow=some (av,ow')) :
 Res P (G w0 S0 S L ow av ow') ((execOp act.eval o).run P w):=by
 unfold opD op1 at h;rw[ho]at h;simp only at h
 obtain⟨p,hp,h⟩:=zBV h
 obtain⟨z,hz,h⟩:=zJ.1 h
 obtain⟨rfl,rfl⟩:=zT h
 have hx:=pre.hr x s;rw[hp]at hx
 obtain⟨u,k1,k2⟩:=zU1 (w:=w) pre.hT pre.inv.prot hx hz
 have hrun:(execOp act.eval o).run P w= .ok (.value u) w:=by simp[execOp,ho,k1]
 rw[hrun]
 exact Good.same pre.inv k2
theorem zU4(pre:Pre P c w0 w S0 S L ow r act) {fn:Fn} {fi cs:Array Operand} (ho:o.op= .makeFunc fn fi cs) (h:opD c call own o r ow=some (av,ow')) :
 Res P (G w0 S0 S L ow av ow') ((execOp act.eval o).run P w):=by
 unfold opD op1 at h;rw[ho]at h;simp only at h
 cases fn<;>simp only at h<;>try (cases h;done)
 rename_i f
 have hrun:(execOp act.eval o).run P w= .ok (.value (.func (.func f) (fi.map act.eval) (cs.map act.eval))) w:=by simp[execOp,ho,Instr.makeFunc]
 rw[hrun]
 cases hop:zST own o with
 |true =>
  rw[hop]at h
  simp only[zA]at h
  obtain⟨rfl,rfl⟩:=zT h
  have hcap:∀ x,VA0 S L ow.length (act.eval x) (r x 0).cap:=λ x=>by
   have hx:=pre.hr x 0
   generalize r x 0=a at hx ⊢
   cases a<;>simp only[AV.cap]<;>first | exact hx | exact VP.undef _
  have one:∀(xs:Array Operand) (j:Nat) (v:Value) (a:AV),(xs.map act.eval)[j]? =some v->(xs.toList.map λ x=>(r x 0).cap)[j]? =some a->VA0 S L ow.length v a:=λ xs j v a hv ha=>by
   rw[zN]at ha
   rw[Array.getElem?_map]at hv
   rw[Array.getElem?_toList]at ha
   cases hx:xs[j]? with
   |none=>rw[hx]at hv;cases hv
   |some x=>rw[hx]at hv ha;simp at hv ha;subst hv;subst ha;exact hcap x
  exact Good.same pre.inv (show VA1 S L ow _ (.fnv f _ _)from⟨_,_,rfl,by simp,by simp,one fi,one cs⟩)
 |false =>
  rw[hop]at h
  simp only[zC]at h
  rw[zDG]at h
  obtain⟨qs,hqs,h⟩:=zJ.1 h
  rw[zDG]at h
  obtain⟨ps,hps,h⟩:=zJ.1 h
  obtain⟨rfl,rfl⟩:=zT h
  have k:=zH2 pre.inv (VAs.map (λ x=>act.eval x) (λ x=>r x 0) cs.toList (λ x _=>pre.hr x 0)) hps
  have l:=zH2 pre.inv (VAs.map (λ x=>act.eval x) (λ x=>r x 0) fi.toList (λ x _=>pre.hr x 0)) hqs
  refine Good.same pre.inv (VP.fn f _ _ qs ps (by have:=l.1;simpa using this) (by have:=k.1;simpa using this) (λ j v p hv hp=>l.2 j v p ?_ hp) λ j v p hv hp=>k.2 j v p ?_ hp)
  ·simpa using hv
  ·simpa using hv
theorem zSb(pre:Pre P c w0 w S0 S L ow r act) {s:TypeId} {x:Operand} {f:Nat} (ho:o.op= .fieldAddr s x f) (h:opD c call own o r ow=some (av,ow')) :
 Res P (G w0 S0 S L ow av ow') ((execOp act.eval o).run P w):=by
 unfold opD op1 at h;rw[ho]at h;simp only at h
 have hk:=pre.hT.kind s
 cases hkk:(c.at_ s).k<;>rw[hkk]at h hk<;>simp only at h hk<;>try (cases h;done)
 rename_i fs
 obtain⟨fds,hu,hfs,hnm,hkn⟩:=hk
 obtain⟨g,hg,h⟩:=zJ.1 h
 have hg' :∃ fd,fds[f]? =some fd/\g=(fd.type,fd.offset):=by
  rw[<- hfs,zN,Option.map_eq_some_iff]at hg
  obtain⟨fd,h1,h2⟩:=hg
  exact⟨fd,by simpa using h1,h2.symm⟩
 obtain⟨fd,hfd,rfl⟩:=hg'
 have hkf:=(hkn _ (zAV hg)).1
 have hsz:=pre.hT.sizeOf hkf w
 obtain⟨_,_,_,_,hpos,_⟩:=pre.hT.info _ hkf
 have hpos' :0<szOf (c.sh fd.type):=hpos
 have hne:¬ szOf (c.sh fd.type)=0:=by omega
 have hx:=pre.hr x 0
 have hrunA:∀ a,act.eval x= .pointer (some a)->(execOp act.eval o).run P w= .ok (.value (.pointer (some (a.add fd.offset)))) w:=λ a e=>by
  simp[execOp,ho,Instr.fieldAt,run_underlying hu,hfd,e,Instr.sureAddr,fieldPlace,hsz,hne]
 have hrun:∀ b off,act.eval x= .pointer (some ⟨b,off,none⟩)->(execOp act.eval o).run P w= .ok (.value (.pointer (some ⟨b,off+fd.offset,none⟩))) w:=λ b off e=>by
  rw[hrunA _ e,zDB]
 cases ha:r x 0 with
 |own ob off =>
  rw[ha]at h hx;obtain⟨rfl,rfl⟩:=zT h
  obtain⟨b,h1,h2,h3⟩:=hx.own_ptr
  rw[hrun b off h3]
  exact Good.same pre.inv ⟨b,h1,h2,rfl⟩
 |elem ob ver i off =>
  rw[ha]at h hx;obtain⟨rfl,rfl⟩:=zT h
  obtain⟨⟨a,ea⟩,hx'⟩:=(show VA1 S L ow (act.eval x) (.elem ob ver i off)from hx)
  rw[hrunA a ea]
  refine Good.same pre.inv (show VA1 S L ow _ (.elem ob ver i (off+fd.offset))from⟨⟨_,rfl⟩,?_⟩)
  cases hob:ow[ob]? with
  |none=>rw[hob]at hx';exact hx'.elim
  |some oo =>
   rw[hob]at hx'
   cases oo<;>simp only at hx' ⊢
   all_goals
    refine⟨hx'.1,λ e=> ?_⟩
    obtain⟨hi,b,o0,cap,k1,k2⟩:=hx'.2 e
    refine⟨hi,b,o0,cap,k1,?_⟩
    rw[ea]at k2
    simp only[Value.pointer.injEq,zE]at k2
    rw[k2,zDB,Nat.add_assoc]
 |pv p =>
  rw[ha]at h hx
  cases p<;>simp only at h<;>try (cases h;done)
  rename_i sh v off
  obtain⟨rfl,rfl⟩:=zT h
  have hx' :VP S (act.eval x) (.imm sh v off):=hx
  generalize hv:act.eval x=u at hx' hrun
  cases hx' with
  |imm b ob _ _ _ vals hsh hS hV =>
   rw[hrun b (ob+off) rfl]
   refine Good.same pre.inv (show VP S _ _ from ?_)
   rw[Nat.add_assoc]
   exact .imm b ob sh (off+fd.offset) v vals hsh hS hV
 |nil sh=>rw[ha]at h;cases h
 |sl bb sh xxs=>rw[ha]at h;cases h
 |gm o=>rw[ha]at h;cases h
 |fx o s=>rw[ha]at h;cases h
 |fe o i off=>rw[ha]at h;cases h
 |agg cs=>rw[ha]at h;cases h
 |mp ob=>rw[ha]at h;cases h
 |fnv f fs cs=>rw[ha]at h;cases h
 |tupA as=>rw[ha]at h;cases h
 |view ob ver sb=>rw[ha]at h;cases h
end
end Go.Ab
