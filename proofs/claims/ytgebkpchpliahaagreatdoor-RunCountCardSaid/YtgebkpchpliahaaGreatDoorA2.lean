/- Part 3 of the proof: an abstract machine that runs the program's code over plain values, its soundness, and what the functions tell of plain values. Conditions: those in each theorem. -/
import Derived.Test.YtgebkpchpliahaaGreatDoorA1
import Derived.Laws.Append
import Derived.IntWalk
set_option linter.unusedSectionVars false
set_option linter.unusedVariables false
set_option linter.unusedSimpArgs false
noncomputable section
namespace Go.Ab
open Go.RowKit (Below)
variable [GL:Gl]
def zKf(sh:Nat) (z:Value) (cs:List AV):Prop :=
 z.cells.size=cs.length/\cs.length=szOf sh/\(sh=0->z.oneCell' =true)/\(sh≠0->∃ vs,z= .agg vs)/\(∀ x∈z.cells,x.oneCell' =true) /\
 ∀(j:Nat) (x:Value) (a:AV),z.cells[j]? =some x->cs[j]? =some a->a.okSh 0=true/\∀ S L ow,VA1 S L ow x a
structure TyOK (P:Program) (c:Cfg):Prop where
 kind:∀ t,match (c.at_ t).k with
  | .bool=>P.underlying t=some .bool
  | .int k=>P.underlying t=some (.int k)
  | .str=>P.underlying t=some .string
  | .slice e=>P.underlying t=some (.slice e)/\c.known e=true
  | .arr n e=>P.underlying t=some (.array n e)/\c.known e=true
  | .struct fs=>∃ fds,P.underlying t=some (.struct fds)/\fds.toList.map (λ f=>(f.type,f.offset))=fs/\(∀ f∈fds,f.name≠ "_")/\(∀ f∈fs,c.known f.1=true/\f.2+szOf (c.sh f.1)<=(c.at_ t).sz)
  | .map k e=>P.underlying t=some (.map k e)/\c.known k=true/\c.known e=true
  | .scalar=>∃ d,P.underlying t=some d/\(match d with | .struct _=>False | .array _ _=>False | _=>True)
  | .other=>True
 info:∀ t,c.known t=true->∃ i,P.info? t=some i/\i.size=szOf (c.sh t)/\i.bytes=(c.at_ t).by_/\0<szOf (c.sh t)/\∃ z,i.zero=some z/\zKf (c.sh t) z (c.at_ t).zero
 held:∀ t fs,(c.at_ t).k= .struct fs->P.stoodInHeld t=false
 guard:∀ t,c.sh t≠0->P.eqGuardType P.depth t=false
 mixed:P.follows .mixedOrders=true
section
variable {P:Program} {c:Cfg} (hT:TyOK P c) {w:World}
theorem TyOK.isAgg(hT:TyOK P c) {t:TypeId} (hk:c.known t=true) (w:World):(isAgg t).run P w= .ok (c.sh t != 0) w:=by
 have h:=hT.kind t
 unfold Cfg.known at hk
 unfold Cfg.sh
 cases hkk:(c.at_ t).k<;>rw[hkk]at h hk<;>simp only at h hk ⊢
 case other=>cases hk
 case slice e=>simp[Go.isAgg,run_underlying h.1]
 case map k e=>simp[Go.isAgg,run_underlying h.1]
 case arr n e=>simp[Go.isAgg,run_underlying h.1]
 case struct fs=>obtain⟨fds,h1,_⟩:=h;simp[Go.isAgg,run_underlying h1]
 case scalar=>obtain⟨d,h1,h2⟩:=h;cases d<;>simp at h2<;>simp[Go.isAgg,run_underlying h1]
 all_goals simp[Go.isAgg,run_underlying h]
theorem TyOK.sizeOf(hT:TyOK P c) {t:TypeId} (hk:c.known t=true) (w:World):(sizeOf t).run P w= .ok (szOf (c.sh t)) w:=by
 obtain⟨i,h1,h2,_⟩:=hT.info t hk
 simp[Go.sizeOf,typeInfo,h1,h2]
theorem zDB(b o j:Nat):(⟨b,o,none⟩:Addr).add j=⟨b,o+j,none⟩:=Addr.add_lit b o j
theorem TyOK.loadVar(hT:TyOK P c) {t:TypeId} (hk:c.known t=true) (b o:Nat) (f:Nat->Value) (h:∀ j,j<szOf (c.sh t)->w.cell? ⟨b,o+j,none⟩=some (f j)) :
 (loadVar t ⟨b,o,none⟩).run P w= .ok (match c.sh t with | 0=>f 0 | n+1=> .agg ((List.range n).map f).toArray) w:=by
 have ha:=hT.isAgg hk
 have hs:=hT.sizeOf hk
 simp only[Go.loadVar,Sem.run_bind,ha,Result.andThen_ok]
 cases hsh:c.sh t with
 |zero =>
  rw[hsh]at h
  have h0:=h 0 (by simp[szOf])
  simp only[Nat.add_zero]at h0
  simp[h0]
 |succ n =>
  rw[hsh]at h hs
  have hl:=run_loadCells (P:=P) w ⟨b,o,none⟩ n f (λ j hj=>by rw[zDB];exact h j hj)
  simp[hs,szOf,hl]
theorem TyOK.storeVar(hT:TyOK P c) {t:TypeId} (hk:c.known t=true) (b o:Nat) (v:Value) (cur:Array Value) (e:TypeId) (hg:w.heap[b]? =some (.cells cur e (0,0)))
 (hv:v.cells.size=szOf (c.sh t)) (h1:∀ x∈v.cells,x.oneCell' =true) (hfit:o+szOf (c.sh t)<=cur.size) :
 (storeVar t ⟨b,o,none⟩ v).run P w= .ok () (w.setRow b (cur.toList.take o++v.cells.toList++cur.toList.drop (o+szOf (c.sh t))).toArray):=by
 have hs:=hT.sizeOf hk w
 have hst:=run_storeCells_at P b o e v.cells.toList 0 cur w hg (by simpa [hv]using hfit) (λ x hx=>h1 x (by simpa using hx))
 simp only[Nat.add_zero,Array.length_toList,hv]at hst
 simp[Go.storeVar,hs,hv,hst]
theorem TyOK.newVar(hT:TyOK P c) (t:TypeId) (v:Value):(newVar t v).run P w= .ok ⟨w.heap.size,0,none⟩ (w.alloc (.cells v.cells t)):=by
 simp[Go.newVar,newRow]
theorem TyOK.zeroValue(hT:TyOK P c) {t:TypeId} (hk:c.known t=true):∃ z,(∀ w,(zeroValue t).run P w= .ok z w)/\zKf (c.sh t) z (c.at_ t).zero:=by
 obtain⟨i,h1,_,_,_,z,hz,hok⟩:=hT.info t hk
 exact⟨z,λ w=>by simp[Go.zeroValue,typeInfo,h1,hz],hok⟩
end
end Go.Ab

namespace Go.Ab
open Go.RowKit (Below)
variable [GL:Gl]
def asSh(sh:Nat) (f:Nat->Value):Value:=match sh with | 0=>f 0 | n+1=> .agg ((List.range n).map f).toArray
theorem zY7{sh:Nat} {v:Value} (hz:v.cells.size=szOf sh) (h0:sh=0->v.cells= #[v]) (h1:sh≠0->∃ cs,v= .agg cs):asSh sh (λ j=>v.cells.getD j undef)=v:=by
 cases sh with
 |zero=>simp[asSh,h0 rfl]
 |succ n =>
  obtain⟨cs,rfl⟩:=h1 (by simp)
  simp only[asSh,Value.cells]at hz ⊢
  congr 1
  apply Array.ext
  ·simpa [szOf]using hz.symm
  ·intro i h1 h2
   simp at h1
   simp[h2]
theorem zXI{sh:Nat} {f:Nat->Value} (h1:∀ j,j<szOf sh->(f j).oneCell' =true):(asSh sh f).cells=((List.range (szOf sh)).map f).toArray:=by
 cases sh with
 |zero =>
  have:=h1 0 (by simp[szOf])
  simp only[asSh,szOf]
  cases hf:f 0<;>simp_all[Value.cells,Value.oneCell',List.range_succ]
 |succ n=>rfl
theorem PV.cellsN_get(p:PV):∀(n o j:Nat),(p.cellsN o n)[j]? =if j<n then some (p.cellD (o+j))else none
 | 0,o,j=>by simp[PV.cellsN]
 |n+1,o,j=>by
  simp only[PV.cellsN]
  cases j with
  |zero=>simp
  |succ j=>simp[PV.cellsN_get p n (o+1) j,Nat.add_assoc,Nat.add_comm 1 j]
theorem PV.cellsN_len(p:PV):∀(n o:Nat),(p.cellsN o n).length=n
 | 0,_=>rfl
 |n+1,o=>by simp[PV.cellsN,PV.cellsN_len p n (o+1)]
theorem PV.cellD_of{p:PV} {j:Nat} {q:PV} (h:p.cells[j]? =some q):p.cellD j=q:=by simp[PV.cellD,List.getD,h]
theorem PV.load_sound{S:Pr} {v:PV} {sh off sh' :Nat} {q:PV} {f:Nat->Value} (hsh:v.okSh sh=true) (h1:∀ j,j<szOf sh->(f j).oneCell' =true)
 (hV:∀(j:Nat) (p:PV),v.cells[j]? =some p->VP S (f j) p) (h:v.load sh off sh' =some q) :
 off+szOf sh' <=szOf sh/\VP S (asSh sh' λ j=>f (off+j)) q:=by
 have hlen:=PV.cells_len hsh
 unfold PV.load at h
 cases hc:(sh==sh' &&off==0) with
 |true =>
  rw[hc]at h
  simp only[zA,zE]at h
  simp only[zF,beq_iff_eq]at hc
  obtain⟨rfl,rfl⟩:=hc
  subst h
  refine⟨by omega,?_⟩
  cases sh with
  |zero =>
   have:v.cells=[v]:=by cases v<;>simp[PV.okSh]at hsh<;>rfl
   simpa [asSh]using hV 0 v (by rw[this];rfl)
  |succ n =>
   rw[PV.cells_of_succ hsh]
   simp only[asSh,Nat.zero_add]
   refine .agg _ _ (by simpa [szOf]using hlen.symm) (λ x hx=> ?_) (λ j x p hx hp=> ?_)
   ·simp at hx;obtain⟨j,hj,rfl⟩:=hx;exact h1 j hj
   ·have hj:=(zQ.1 hp).1
    simp only[List.getElem?_toArray,zN]at hx
    rw[List.getElem?_range (by rw[hlen]at hj;exact hj)]at hx
    simp at hx;subst hx
    exact hV j p hp
 |false =>
  rw[hc]at h
  simp only[zC]at h
  cases sh' with
  |zero =>
   simp only[PV.cell]at h
   have hj:=(zQ.1 h).1
   exact⟨by show off+1<=szOf sh;rw[<- hlen];exact hj,by simpa [asSh]using hV off q h⟩
  |succ n =>
   simp only at h
   cases hd:(decide (off+n<=sh-1)&&sh != 0) with
   |false=>rw[hd]at h;cases h
   |true =>
    rw[hd]at h
    simp only[zA,zE]at h
    subst h
    simp only[zF,zU,bne_iff_ne,ne_eq]at hd
    cases sh with
    |zero=>exact absurd rfl hd.2
    |succ m =>
     have hle:off+n<=m:=by simpa using hd.1
     refine⟨by simpa [szOf]using hle,?_⟩
     simp only[asSh]
     refine .agg _ _ (by simp[PV.cellsN_len]) (λ x hx=> ?_) (λ j x p hx hp=> ?_)
     ·simp at hx;obtain⟨j,hj,rfl⟩:=hx;exact h1 _ (by simp[szOf];omega)
     ·rw[PV.cellsN_get]at hp
      split at hp
      ·rename_i hj
       simp only[zE]at hp
       subst hp
       simp only[List.getElem?_toArray,zN]at hx
       rw[List.getElem?_range hj]at hx
       simp at hx;subst hx
       have hlt:off+j<v.cells.length:=by rw[hlen];simp[szOf];omega
       have hq:v.cells[off+j]? =some v.cells[off+j]:=zH hlt
       rw[PV.cellD_of hq]
       exact hV _ _ hq
      ·cases hp
theorem VA.cells{S:Pr} {L:List Loc} {ow:List Ob} {v:Value} {a:AV} {sh:Nat} (h:VA S L ow v a) (hsh:a.okSh sh=true) :
 v.cells.size=szOf sh/\(∀ x∈v.cells,x.oneCell' =true)/\(sh=0->v.cells= #[v])/\(sh≠0->∃ cs,v= .agg cs) /\
 ∀(j:Nat) (x:Value) (q:AV),v.cells[j]? =some x->(a.cellsSh sh)[j]? =some q->VA1 S L ow x q:=by
 cases a with
 |pv p =>
  have h' :VP S v p:=h
  obtain⟨h1,h2,h3⟩:=h'.cells hsh
  refine⟨h1,h2,λ e=> ?_,λ e=> ?_,?_⟩
  ·subst e;exact(h'.one hsh).1
  ·cases sh with
   |zero=>exact absurd rfl e
   |succ n =>
    have hp:=PV.cells_of_succ hsh
    rw[hp]at h'
    cases h'
    exact⟨_,rfl⟩
  ·intro j x q hx hq
   cases sh with
   |zero =>
    simp only[AV.cellsSh]at hq
    cases j with
    |zero =>
     simp at hq;subst hq
     have e:=(h'.one hsh).1
     rw[e]at hx;simp at hx;subst hx
     exact h
    |succ j=>simp at hq
   |succ n =>
    simp only[AV.cellsSh,zN,PV.cellsN_get]at hq
    split at hq
    ·rename_i hj
     simp at hq;subst hq
     have hlen:=PV.cells_len hsh
     have hlt:j<p.cells.length:=by rw[hlen];exact hj
     have hq:p.cells[j]? =some p.cells[j]:=zH hlt
     rw[PV.cellD_of hq]
     exact h3 j x _ hx hq
    ·simp at hq
 |agg cs =>
  obtain⟨vs,rfl,hl,h1,h2⟩:=h
  simp only[AV.okSh,beq_iff_eq]at hsh
  subst hsh
  refine⟨by simpa [Value.cells,szOf]using hl,h1,(λ e=>absurd e (by simp)),(λ _=>⟨_,rfl⟩),?_⟩
  intro j x q hx hq
  exact h2 j x q hx hq
 |nil n =>
  obtain⟨b,rfl⟩:=h
  simp only[AV.okSh,beq_iff_eq]at hsh;subst hsh
  refine⟨rfl,by simp[Value.cells,Value.oneCell'],λ _=>rfl,λ e=>absurd rfl e,?_⟩
  intro j x q hx hq
  cases j<;>simp[Value.cells,AV.cellsSh]at hx hq
  subst hx;subst hq;exact⟨b,rfl⟩
 |sl b n xs =>
  obtain⟨h1,a,l,k,rfl,h2⟩:=h
  simp only[AV.okSh,beq_iff_eq]at hsh;subst hsh
  refine⟨rfl,by simp[Value.cells,Value.oneCell'],λ _=>rfl,λ e=>absurd rfl e,?_⟩
  intro j x q hx hq
  cases j<;>simp[Value.cells,AV.cellsSh]at hx hq
  subst hx;subst hq;exact⟨h1,a,l,k,rfl,h2⟩
 |gm o =>
  obtain⟨b,rfl,h2⟩:=h
  simp only[AV.okSh,beq_iff_eq]at hsh;subst hsh
  refine⟨rfl,by simp[Value.cells,Value.oneCell'],λ _=>rfl,λ e=>absurd rfl e,?_⟩
  intro j x q hx hq
  cases j<;>simp[Value.cells,AV.cellsSh]at hx hq
  subst hx;subst hq;exact⟨b,rfl,h2⟩
 |fx o s =>
  obtain⟨base,n,cap,k1,k2,rfl⟩:=h
  simp only[AV.okSh,beq_iff_eq]at hsh;subst hsh
  refine⟨rfl,by simp[Value.cells,Value.oneCell'],λ _=>rfl,λ e=>absurd rfl e,?_⟩
  intro j x q hx hq
  cases j<;>simp[Value.cells,AV.cellsSh]at hx hq
  subst hx;subst hq;exact⟨base,n,cap,k1,k2,rfl⟩
 |fe o i off =>
  obtain⟨s,b,o0,n,cap,k1,k2,k3,rfl⟩:=h
  simp only[AV.okSh,beq_iff_eq]at hsh;subst hsh
  refine⟨rfl,by simp[Value.cells,Value.oneCell'],λ _=>rfl,λ e=>absurd rfl e,?_⟩
  intro j x q hx hq
  cases j<;>simp[Value.cells,AV.cellsSh]at hx hq
  subst hx;subst hq;exact⟨s,b,o0,n,cap,k1,k2,k3,rfl⟩
 |view o ver sb =>
  simp only[AV.okSh,beq_iff_eq]at hsh;subst hsh
  have hv:v.cells= #[v]/\v.oneCell' =true:=by
   obtain⟨a,n,k,rfl⟩:=(show VA1 S L ow v (.view o ver sb)from h).1
   exact⟨rfl,rfl⟩
  refine⟨by rw[hv.1];rfl,by rw[hv.1];simp[hv.2],λ _=>hv.1,λ e=>absurd rfl e,?_⟩
  intro j x q hx hq
  rw[hv.1]at hx
  cases j<;>simp[AV.cellsSh]at hx hq
  subst hx;subst hq;exact h
 |own o off =>
  obtain⟨b,h1,h2,rfl⟩:=id h
  simp only[AV.okSh,beq_iff_eq]at hsh;subst hsh
  refine⟨rfl,by simp[Value.cells,Value.oneCell'],λ _=>rfl,λ e=>absurd rfl e,?_⟩
  intro j x q hx hq
  cases j<;>simp[Value.cells,AV.cellsSh]at hx hq
  subst hx;subst hq;exact h
 |mp o =>
  obtain⟨b,h1,h2,rfl⟩:=id h
  simp only[AV.okSh,beq_iff_eq]at hsh;subst hsh
  refine⟨rfl,by simp[Value.cells,Value.oneCell'],λ _=>rfl,λ e=>absurd rfl e,?_⟩
  intro j x q hx hq
  cases j<;>simp[Value.cells,AV.cellsSh]at hx hq
  subst hx;subst hq;exact h
 |fnv f fs cs =>
  obtain⟨fs,cs,rfl,h1⟩:=id h
  simp only[AV.okSh,beq_iff_eq]at hsh;subst hsh
  refine⟨rfl,by simp[Value.cells,Value.oneCell'],λ _=>rfl,λ e=>absurd rfl e,?_⟩
  intro j x q hx hq
  cases j<;>simp[Value.cells,AV.cellsSh]at hx hq
  subst hx;subst hq;exact h
 |tupA as=>simp[AV.okSh]at hsh
 |elem o ver i off =>
  simp only[AV.okSh,beq_iff_eq]at hsh;subst hsh
  have hv:v.cells= #[v]/\v.oneCell' =true:=by
   obtain⟨a,rfl⟩:=(show VA1 S L ow v (.elem o ver i off)from h).1
   exact⟨rfl,rfl⟩
  refine⟨by rw[hv.1];rfl,by rw[hv.1];simp[hv.2],λ _=>hv.1,λ e=>absurd rfl e,?_⟩
  intro j x q hx hq
  rw[hv.1]at hx
  cases j<;>simp[AV.cellsSh]at hx hq
  subst hx;subst hq;exact h
theorem AV.allPv_spec:∀{cs:List AV} {ps:List PV},AV.allPv cs=some ps->cs=ps.map .pv
 | [],ps,h=>by simp[AV.allPv]at h;subst h;rfl
 | .pv p::r,ps,h=>by
  simp only[AV.allPv]at h
  cases hr:AV.allPv r with
  |none=>rw[hr]at h;cases h
  |some qs =>
   rw[hr]at h;simp only[zE]at h;subst h
   rw[AV.allPv_spec hr];rfl
 | .nil _::_,_,h=>by simp[AV.allPv]at h
 | .agg _::_,_,h=>by simp[AV.allPv]at h
 | .view _ _ _::_,_,h=>by simp[AV.allPv]at h
 | .own _ _::_,_,h=>by simp[AV.allPv]at h
 | .elem _ _ _ _::_,_,h=>by simp[AV.allPv]at h
theorem VA.mkAgg{S:Pr} {L:List Loc} {ow:List Ob} {vs:Array Value} {cs:List AV} (hl:vs.size=cs.length) (h1:∀ x∈vs,x.oneCell' =true)
 (h:∀(j:Nat) (x:Value) (c:AV),vs[j]? =some x->cs[j]? =some c->VA1 S L ow x c):VA S L ow (.agg vs) (AV.mkAgg cs):=by
 unfold AV.mkAgg
 cases ha:AV.allPv cs with
 |none=>exact⟨vs,rfl,hl,h1,h⟩
 |some ps =>
  have e:=AV.allPv_spec ha
  subst e
  refine VP.agg vs ps (by simpa using hl) h1 λ j v p hv hp=> ?_
  exact h j v (.pv p) hv (by simp[hp])
theorem AV.mkAgg_okSh{cs:List AV} {n:Nat} (h:cs.length=n):(AV.mkAgg cs).okSh (n+1)=true:=by
 unfold AV.mkAgg
 cases ha:AV.allPv cs with
 |none=>simp[AV.okSh,h]
 |some ps =>
  have e:=AV.allPv_spec ha
  subst e
  simp[AV.okSh,PV.okSh]
  simpa using h
theorem zCV{cs:Array Value} {j:Nat} {x:Value} (h:cs[j]? =some x):cs.getD j undef=x:=by
 simp[h]
theorem zUZ{S:Pr} {L:List Loc} {ow:List Ob} {v:Value} {a x:AV} {sh off sh' :Nat} (h:VA S L ow v a) (hs:a.okSh sh=true)
 (hx:zXD sh a off sh' some=some x):off+szOf sh' <=szOf sh/\VA S L ow (asSh sh' λ j=>v.cells.getD (off+j) undef) x:=by
 obtain⟨c1,c2,c3,c4,c5⟩:=h.cells hs
 unfold zXD at hx
 cases hc:(sh==sh' &&off==0) with
 |true =>
  rw[hc]at hx
  simp only[zA,zE]at hx
  simp only[zF,beq_iff_eq]at hc
  obtain⟨rfl,rfl⟩:=hc
  subst hx
  refine⟨by omega,?_⟩
  simp only[Nat.zero_add]
  rw[zY7 c1 c3 c4]
  exact h
 |false =>
  rw[hc]at hx
  simp only[zC]at hx
  cases a with
  |pv p =>
   simp only[zJ,zE]at hx
   obtain⟨q,hq,rfl⟩:=hx
   have h' :VP S v p:=h
   obtain⟨d1,d2,d3⟩:=h'.cells hs
   refine PV.load_sound (f:=λ j=>v.cells.getD j undef) hs (λ j hj=> ?_) (λ j p hp=> ?_) hq
   ·have hlt:j<v.cells.size:=by rw[d1];exact hj
    show(v.cells.getD j undef).oneCell' =true
    rw[zCV (zAj hlt)]
    exact d2 _ (Array.getElem_mem hlt)
   ·have hlt:j<v.cells.size:=by rw[d1,<-PV.cells_len hs];exact(zQ.1 hp).1
    show VP S (v.cells.getD j undef) p
    rw[zCV (zAj hlt)]
    exact d3 j _ _ (zAj hlt) hp
  |agg cs =>
   simp only[AV.okSh,beq_iff_eq]at hs
   subst hs
   cases sh' with
   |zero =>
    simp only at hx
    have hj:=(zQ.1 (show cs[off]? =some x by cases hz:cs[off]? <;>simp_all)).1
    have hx' :cs[off]? =some x:=by cases hz:cs[off]? <;>simp_all
    refine⟨by simp only[szOf];omega,?_⟩
    have hlt:off<v.cells.size:=by rw[c1];exact hj
    have hv:v.cells[off]? =some v.cells[off]:=zAj hlt
    simp only[asSh,Nat.add_zero]
    rw[zCV hv]
    have:=c5 off _ x hv hx'
    cases x<;>first | exact this | exact this.elim
   |succ n =>
    simp only at hx
    cases hd:decide (off+n<=cs.length) with
    |false=>rw[hd]at hx;cases hx
    |true =>
     rw[hd]at hx
     simp only[zA,zE]at hx
     subst hx
     have hle:off+n<=cs.length:=zAM hd
     refine⟨hle,?_⟩
     simp only[asSh]
     refine VA.mkAgg (by simp;omega) (λ x hx=> ?_) (λ j x q hx hq=> ?_)
     ·simp at hx;obtain⟨j,hj,rfl⟩:=hx
      have hlt:off+j<v.cells.size:=by rw[c1];simp only[szOf];omega
      have hv:v.cells[off+j]? =some v.cells[off+j]:=zAj hlt
      rw[hv];exact c2 _ (Array.getElem_mem hlt)
     ·rw[zCP]at hq
      split at hq
      ·rename_i hj
       rw[List.getElem?_drop]at hq
       simp only[List.getElem?_toArray,zN]at hx
       rw[List.getElem?_range hj]at hx
       simp only[zV,zE]at hx
       have hlt:off+j<v.cells.size:=by rw[c1];simp only[szOf];omega
       have hv:v.cells[off+j]? =some v.cells[off+j]:=zAj hlt
       rw[zCV hv]at hx
       exact c5 (off+j) x q (by rw[hv,hx]) hq
      ·cases hq
  |nil n=>cases hx
  |sl b n xs=>cases hx
  |gm o=>cases hx
  |fx o s=>cases hx
  |fe o i off=>cases hx
  |view o ver sb=>cases hx
  |own o off' =>cases hx
  |elem o ver i off' =>cases hx
  |mp o=>cases hx
  |fnv f fs cs=>cases hx
  |tupA as=>cases hx
section
variable {P:Program} {c:Cfg} {w0:Base} {w:World} {S0 S:Pr} {L:List Loc} {ow:List Ob}
theorem VA.own_ptr{v:Value} {o off:Nat} (h:VA S L ow v (.own o off)):∃ b,L[o]? =some (.blk b)/\o<ow.length/\v= .pointer (some ⟨b,off,none⟩):=h
theorem zJO(hT:TyOK P c) (inv:Inv w0 S0 S L ow w) {t:TypeId} (hk:c.known t=true) {ad x:AV} {v:Value} (hv:VA S L ow v ad)
 (h:zGW ow ad (c.sh t) some=some x):∃ u,(Instr.loadAt t v).run P w= .ok u w/\VA S L ow u x:=by
 have fin:∀(b o:Nat) (f:Nat->Value),(∀ j,j<szOf (c.sh t)->w.cell? ⟨b,o+j,none⟩=some (f j)) ->
  (Instr.loadAt t (.pointer (some ⟨b,o,none⟩))).run P w= .ok (asSh (c.sh t) f) w:=λ b o f hf=>by
  have:=hT.loadVar hk b o f hf
  simp only[Instr.loadAt,Instr.sureAddr,Sem.run_bind,Sem.run_pure,Result.andThen_ok,this]
  cases c.sh t<;>rfl
 unfold zGW at h
 cases ad with
 |own o off =>
  obtain⟨b,hL,ho,rfl⟩:=hv.own_ptr
  simp only at h
  cases hob:ow[o]? with
  |none=>rw[hob]at h;cases h
  |some ob =>
   rw[hob]at h
   cases ob<;>simp only at h<;>try (cases h;done)
   rename_i fz sh a
   obtain⟨cs,e,u,hh,hu,hs,hc,_⟩:=inv.obs o _ _ hob hL
   obtain⟨hle,hx⟩:=zUZ hu hs h
   refine⟨_,fin b off (λ j=>u.cells.getD (off+j) undef) (λ j hj=> ?_),hx⟩
   have hlt:off+j<u.cells.size:=by rw[(hu.cells hs).1];omega
   have hv:u.cells[off+j]? =some u.cells[off+j]:=zAj hlt
   rw[zCV hv,cell_of_row w b (off+j) cs e (0,0) hh,<-hc,hv]
 |pv p =>
  cases p<;>simp only at h<;>try (cases h;done)
  rename_i sh pv off
  simp only[zJ,zE]at h
  obtain⟨q,hq,rfl⟩:=h
  have hv' :VP S v (.imm sh pv off):=hv
  cases hv' with
  |imm b o _ _ _ vals hsh hS hV =>
   obtain⟨hle,hx⟩:=PV.load_sound hsh (λ j hj=>(hS j hj).2) hV hq
   refine⟨_,fin b (o+off) (λ j=>vals (off+j)) (λ j hj=> ?_),hx⟩
   have:=zJN (inv.prot _ _ _ (hS (off+j) (by omega)).1) (hS (off+j) (by omega)).2
   rwa [Nat.add_assoc]
 |elem o ver i off =>
  simp only at h
  obtain⟨_,hv⟩:=(show VA1 S L ow v (.elem o ver i off)from hv)
  cases hob:ow[o]? with
  |none=>rw[hob]at h;cases h
  |some ob =>
   rw[hob]at h hv
   cases ob<;>simp only at h hv<;>try (cases h;done)
   rename_i sl ver' sh xs
   cases hver:(ver==ver') with
   |false=>rw[hver]at h;cases h
   |true =>
    rw[hver]at h
    simp only[zA,zJ,zE]at h
    obtain⟨pv,hpv,q,hq,rfl⟩:=h
    obtain⟨hi,b,o0,cap,hL,rfl⟩:=hv.2 (beq_iff_eq.1 hver)
    obtain⟨r1,r2,r3⟩:=inv.obs o _ _ hob hL
    have hmem:pv∈xs:=zAV hpv
    have hsh:=r2 pv hmem
    rcases r3 with r3 | ⟨b',o',cs,e,he,hh,hfit,hx⟩
    ·omega
    ·simp only[zE,Addr.mk.injEq,and_true]at he
     obtain⟨rfl,rfl⟩:=he
     have hcell:∀ j,j<szOf sh->∃ u,cs[o0+i*szOf sh+j]? =some u/\u.oneCell' =true/\(∀(p:PV),pv.cells[j]? =some p->VP S u p):=λ j hj=>by
      obtain⟨u,h1,h2,h3,_⟩:=hx i j hi hj
      exact⟨u,h1,h2,λ p hp=>h3 pv p hpv hp⟩
     have hlen:=PV.cells_len hsh
     obtain⟨hle,hx'⟩:=PV.load_sound (f:=λ j=>cs.getD (o0+i*szOf sh+j) undef) hsh (λ j hj=>by
      obtain⟨u,h1,h2,_⟩:=hcell j hj
      show(cs.getD _ undef).oneCell' =true
      rw[zCV h1];exact h2) (λ j p hp=>by
      have hj:j<szOf sh:=by rw[<- hlen];exact(zQ.1 hp).1
      obtain⟨u,h1,_,h3⟩:=hcell j hj
      show VP S (cs.getD _ undef) p
      rw[zCV h1];exact h3 p hp) hq
     refine⟨_,fin b (o0+i*szOf sh+off) (λ j=>cs.getD (o0+i*szOf sh+(off+j)) undef) (λ j hj=> ?_),hx'⟩
     obtain⟨u,h1,_⟩:=hcell (off+j) (by omega)
     rw[zCV h1,Nat.add_assoc,cell_of_row w b _ cs e (0,0) hh]
     exact h1
 |fe o i off =>
  simp only at h
  obtain⟨s0,b,o0,n0,cap0,hL,ho,hi,rfl⟩:=(show VA1 S L ow v (.fe o i off)from hv)
  cases hob:ow[o]? with
  |none=>rw[hob]at h;cases h
  |some ob =>
   rw[hob]at h
   cases ob<;>simp only at h<;>try (cases h;done)
   rename_i ver' sh xs
   simp only[zJ,zE]at h
   obtain⟨pv,hpv,q,hq,rfl⟩:=h
   obtain⟨rfl,rfl,r1,r2,r3⟩:=inv.obs o _ _ hob hL
   have hmem:pv∈xs:=zAV hpv
   have hsh:=r2 pv hmem
   rcases r3 with r3 | ⟨b',o',cs,e,he,hh,hfit,hx⟩
   ·omega
   ·simp only[zE,Addr.mk.injEq,and_true]at he
    obtain⟨rfl,rfl⟩:=he
    have hcell:∀ j,j<szOf s0->∃ u,cs[o0+i*szOf s0+j]? =some u/\u.oneCell' =true/\(∀(p:PV),pv.cells[j]? =some p->VP S u p):=λ j hj=>by
     obtain⟨u,h1,h2,h3⟩:=hx i j hi hj
     exact⟨u,h1,h2,λ p hp=>h3 pv p hpv hp⟩
    have hlen:=PV.cells_len hsh
    obtain⟨hle,hx'⟩:=PV.load_sound (f:=λ j=>cs.getD (o0+i*szOf s0+j) undef) hsh (λ j hj=>by
     obtain⟨u,h1,h2,_⟩:=hcell j hj
     show(cs.getD _ undef).oneCell' =true
     rw[zCV h1];exact h2) (λ j p hp=>by
     have hj:j<szOf s0:=by rw[<- hlen];exact(zQ.1 hp).1
     obtain⟨u,h1,_,h3⟩:=hcell j hj
     show VP S (cs.getD _ undef) p
     rw[zCV h1];exact h3 p hp) hq
    refine⟨_,fin b (o0+i*szOf s0+off) (λ j=>cs.getD (o0+i*szOf s0+(off+j)) undef) (λ j hj=> ?_),hx'⟩
    obtain⟨u,h1,_⟩:=hcell (off+j) (by omega)
    rw[zCV h1,Nat.add_assoc,cell_of_row w b _ cs e (0,0) hh]
    exact h1
 |nil sh=>cases h
 |sl b sh xs=>cases h
 |gm o=>cases h
 |fx o s=>cases h
 |agg cs=>cases h
 |view o ver sb=>cases h
 |mp o=>cases h
 |fnv f fs cs=>cases h
 |tupA as=>cases h
end
end Go.Ab

namespace Go.Ab
open Go.RowKit (Below)
variable [GL:Gl]
theorem Evo.cell{S S' :Pr} {L L' :List Loc} {ow ow' :List Ob} (h:Evo S L ow S' L' ow') {v:Value} {a:AV} (k:VA1 S L ow v a):VA1 S' L' ow' v a:=by
 cases a with
 |agg cs=>exact k.elim
 |pv p=>exact h.2 v (.pv p) k
 |nil sh=>exact h.2 v (.nil sh) k
 |sl bb sh xxs=>exact h.2 v (.sl bb sh xxs) k
 |gm o=>exact h.2 v (.gm o) k
 |fx o s=>exact h.2 v (.fx o s) k
 |fe o i off=>exact h.2 v (.fe o i off) k
 |view o ver sb=>exact h.2 v (.view o ver sb) k
 |own o off=>exact h.2 v (.own o off) k
 |elem o ver i off=>exact h.2 v (.elem o ver i off) k
 |mp o=>exact h.2 v (.mp o) k
 |fnv f fs cs=>exact h.2 v (.fnv f fs cs) k
 |tupA as=>exact k.elim
def zDw(cur:Array Value) (o:Nat) (vs:List Value):Array Value:=(cur.toList.take o++vs++cur.toList.drop (o+vs.length)).toArray
theorem zEm{cur:Array Value} {o:Nat} {vs:List Value} (h:o+vs.length<=cur.size):(zDw cur o vs).size=cur.size:=by
 simp[zDw];omega
theorem zCl{cur:Array Value} {o:Nat} {vs:List Value} (h:o+vs.length<=cur.size) (j:Nat) :
 (zDw cur o vs)[j]? =if o<=j/\j<o+vs.length then vs[j-o]? else cur[j]? :=by
 simp only[zDw,List.getElem?_toArray,zAG,List.getElem?_append,List.length_take,Array.length_toList,zCP,List.getElem?_drop]
 have hm:min o cur.size=o:=by omega
 rw[hm]
 by_cases h1:j<o
 ·simp[h1,Nat.not_le.2 h1]
 ·by_cases h2:j<o+vs.length
  ·have h3:j-o<vs.length:=by omega
   simp[h1,Nat.not_lt.1 h1,h2,h3]
  ·have h3:¬ j-o<vs.length:=by omega
   have h4:o+vs.length+(j-o-vs.length)=j:=by omega
   simp[h1,Nat.not_lt.1 h1,h2,h3,h4]
theorem zQR{cur:Array Value} {vs:Array Value} (h:vs.size=cur.size):zDw cur 0 vs.toList=vs:=by
 apply Array.ext'
 simp[zDw,h,List.drop_eq_nil_of_le]
theorem PV.put_sound{S:Pr} {v p v' :PV} {sh off sh' :Nat} {f g:Nat->Value} (hsh:v.okSh sh=true) (hsh' :p.okSh sh' =true)
 (hV:∀(j:Nat) (q:PV),v.cells[j]? =some q->VP S (f j) q) (hP:∀(j:Nat) (q:PV),p.cells[j]? =some q->VP S (g j) q)
 (h:PV.put sh v off sh' p=some v'):off+szOf sh' <=szOf sh/\v'.okSh sh=true /\
  ∀(j:Nat) (q:PV),v'.cells[j]? =some q->VP S (if off<=j/\j<off+szOf sh' then g (j-off)else f j) q:=by
 have hl:=PV.cells_len hsh
 have hl' :=PV.cells_len hsh'
 unfold PV.put at h
 cases hc:(sh==sh' &&off==0) with
 |true =>
  rw[hc]at h
  simp only[zA,zE]at h
  simp only[zF,beq_iff_eq]at hc
  obtain⟨rfl,rfl⟩:=hc
  subst h
  refine⟨by omega,hsh',λ j q hq=> ?_⟩
  have hj:j<szOf sh:=by rw[<- hl'];exact(zQ.1 hq).1
  rw[if_pos ⟨Nat.zero_le _,by omega⟩]
  exact hP j q hq
 |false =>
  rw[hc]at h
  simp only[zC]at h
  cases sh with
  |zero=>cases sh' <;>cases h
  |succ n =>
   have hl2:v.cells.length=n:=hl
   cases sh' with
   |zero =>
    simp only at h
    cases hd:decide (off<n) with
    |false=>rw[hd]at h;cases h
    |true =>
     rw[hd]at h
     simp only[zA,zE]at h
     subst h
     have hlt:off<n:=zAM hd
     refine⟨hlt,by simp[PV.okSh,PV.cellsN_len],λ j q hq=> ?_⟩
     simp only[PV.cells,List.getElem?_set,PV.cellsN_get,PV.cellsN_len]at hq
     have hp:p.cells=[p]:=by cases p<;>simp[PV.okSh]at hsh' <;>rfl
     by_cases e:off=j
     ·subst e
      simp[hlt]at hq;subst hq
      rw[if_pos ⟨zM _,by simp[szOf]⟩,Nat.sub_self]
      exact hP 0 p (by rw[hp];rfl)
     ·rw[if_neg e]at hq
      split at hq
      ·rename_i hj
       simp only[zE,Nat.zero_add]at hq
       subst hq
       rw[if_neg (by simp only[szOf];omega)]
       have hlt2:j<v.cells.length:=by omega
       have hv:v.cells[j]? =some v.cells[j]:=zH hlt2
       rw[PV.cellD_of hv]
       exact hV j _ hv
      ·cases hq
   |succ m =>
    simp only at h
    cases hd:decide (off+m<=n) with
    |false=>rw[hd]at h;cases h
    |true =>
     rw[hd]at h
     simp only[zA,zE]at h
     subst h
     have hle:off+m<=n:=zAM hd
     have hl3:p.cells.length=m:=hl'
     refine⟨hle,by simp[PV.okSh,PV.cellsN_len];omega,λ j q hq=> ?_⟩
     simp only[PV.cells,zAG,List.getElem?_append,PV.cellsN_get,PV.cellsN_len,Nat.zero_add]at hq
     by_cases h1:j<off
     ·rw[if_pos h1,if_pos h1]at hq
      simp only[zE]at hq;subst hq
      rw[if_neg (by omega)]
      have hv:v.cells[j]? =some v.cells[j]:=zH (by omega)
      rw[PV.cellD_of hv];exact hV j _ hv
     ·rw[if_neg h1]at hq
      by_cases h2:j-off<m
      ·rw[if_pos h2,if_pos h2]at hq
       simp only[zE]at hq;subst hq
       rw[if_pos ⟨by omega,by show j<off+m;omega⟩]
       have hv:p.cells[j-off]? =some p.cells[j-off]:=zH (by omega)
       rw[PV.cellD_of hv];exact hP _ _ hv
      ·rw[if_neg h2]at hq
       split at hq
       ·rename_i h3
        simp only[zE]at hq;subst hq
        rw[if_neg (by simp only[szOf];omega)]
        have e:off+m+(j-off-m)=j:=by omega
        rw[e]
        have hv:v.cells[j]? =some v.cells[j]:=zH (by omega)
        rw[PV.cellD_of hv];exact hV j _ hv
       ·cases hq
section
variable {P:Program} {c:Cfg} {w0:Base} {w:World} {S0 S:Pr} {L:List Loc} {ow:List Ob}
theorem zMR{w:World} {g b o:Nat} {cs:Array Value} (h:b≠g):memV (w.setRow g cs) b o=memV w b o :=
 zCk (setRow_other w g b cs h) o
theorem zIU(inv:Inv w0 S0 S L ow w) {g:Nat} {cur cs:Array Value} {t:TypeId} (hh:w.heap[g]? =some (.cells cur t (0,0)))
 (hk:∀ j v,S g j=some v->cs[j]? =cur[j]?):∀ b o v,S b o=some v->memV (w.setRow g cs) b o=some v:=by
 intro b o v hS
 by_cases e:b=g
 ·subst e
  rw[zHx (setRow_heap w b cur cs t _ hh),hk o v hS,<-zHx hh]
  exact inv.prot _ _ _ hS
 ·rw[zMR e];exact inv.prot _ _ _ hS
theorem AV.cellsSh_len{L:List Loc} {ow:List Ob} {S:Pr} {v:Value} {a:AV} {sh:Nat} (h:VA S L ow v a) (hs:a.okSh sh=true):(a.cellsSh sh).length=szOf sh:=by
 cases sh with
 |zero=>rfl
 |succ n =>
  cases a with
  |pv p=>simp[AV.cellsSh,PV.cellsN_len,szOf]
  |agg cs=>simp only[AV.okSh,beq_iff_eq]at hs;simp only[AV.cellsSh,szOf];omega
  |_=>simp[AV.okSh]at hs
theorem zRD(hT:TyOK P c) (inv:Inv w0 S0 S L ow w) {t:TypeId} (hk:c.known t=true) {ad x:AV} {v u:Value} (hv:VA S L ow v ad) (hu:VA S L ow u x)
 {ow' :List Ob} (h:zHo ow ad (c.sh t) x some=some ow') :
 ∃ w' L',(Instr.storeAt t v u).run P w= .ok () w' /\Inv w0 S0 S L' ow' w' /\Evo S L ow S L' ow' :=by
 unfold zHo at h
 cases hxs:x.okSh (c.sh t) with
 |false=>rw[hxs]at h;cases h
 |true =>
 rw[hxs]at h
 simp only[zA]at h
 obtain⟨u1,u2,u3,u4,u5⟩:=hu.cells hxs
 have fin:∀(b o:Nat) (cur:Array Value) (e:TypeId),w.heap[b]? =some (.cells cur e (0,0))->o+szOf (c.sh t)<=cur.size ->
  (Instr.storeAt t (.pointer (some ⟨b,o,none⟩)) u).run P w= .ok () (w.setRow b (zDw cur o u.cells.toList)):=λ b o cur e hg hf=>by
  have:=hT.storeVar hk b o u cur e hg u1 u2 hf
  simp only[Instr.storeAt,Instr.sureAddr,Sem.run_bind,Sem.run_pure,Result.andThen_ok,this,zDw,Array.length_toList,u1]
 have hul:u.cells.toList.length=szOf (c.sh t):=by simpa using u1
 cases ad with
 |own o off =>
  obtain⟨b,hL,ho,rfl⟩:=hv.own_ptr
  simp only at h
  cases hob:ow[o]? with
  |none=>rw[hob]at h;cases h
  |some ob =>
   rw[hob]at h
   cases ob<;>(try simp only at h)<;>try (cases h;done)
   rename_i fz sh a
   cases fz with
   |true=>cases h
   |false =>
   simp only at h
   obtain⟨cs,e,y,hh,hy,hs,hcs,_⟩:=inv.obs o _ _ hob hL
   obtain⟨y1,y2,y3,y4,y5⟩:=hy.cells hs
   have hsz:cs.size=szOf sh:=by rw[<- hcs];exact y1
   have mine:b∈zZ (.var false sh a) (.blk b):=by simp[zZ]
   obtain⟨hb0,hblt,hSn⟩:=inv.own o _ _ b hob hL mine
   have noS:∀ j v,S b j=some v->False:=λ j v hv=>by have:=hSn j v hv;simp[mayS]at this
   have done_:∀(a' :AV) (y' :Value),off+szOf (c.sh t)<=cs.size->(∀ L' ow',Evo S L ow S L' ow' ->VA S L' ow' y' a')->a'.okSh sh=true->y'.cells=zDw cs off u.cells.toList->ow' =ow.set o (.var false sh a') ->
    ∃ w' L',(Instr.storeAt t (.pointer (some ⟨b,off,none⟩)) u).run P w= .ok () w' /\Inv w0 S0 S L' ow' w' /\Evo S L ow S L' ow' :=λ a' y' hfit hy' hs' hcs' how=>by
    subst how
    have hE:Evo S L ow S (L.set o (.blk b)) (ow.set o (.var false sh a')):=Evo.turn hob hL (Pr.le_refl S) (λ _ h _=>h) (by trivial)
    refine⟨_,_,fin b off cs e hh hfit,inv.turn hob hL hE (by simp) rfl rfl rfl (λ b' hb' hne=>setRow_other _ _ _ _ (λ e' =>hne (by rw[e'];exact mine))) (λ _ _ _ _=>rfl) ?_ ?_ ?_,hE⟩
    ·exact zIU inv hh (λ j v hv=>(noS j v hv).elim)
    ·exact⟨_,e,y',setRow_heap w b cs _ e _ hh,hy' _ _ hE,hs',hcs',λ hz=>by cases hz⟩
    ·intro b' hb'
     simp only[zZ,zBf]at hb'
     subst hb'
     exact⟨.inr mine,by simpa using hblt,λ j v hv=>(noS j v hv).elim⟩
   cases hc:(sh==c.sh t&&off==0) with
   |true =>
    rw[hc]at h
    simp only[zA,zE]at h
    simp only[zF,beq_iff_eq]at hc
    obtain⟨rfl,rfl⟩:=hc
    refine done_ x u (by omega) (λ L' ow' hE=>hE.2 _ _ hu) hxs ?_ h.symm
    exact(zQR (by rw[u1,hsz])).symm
   |false =>
    rw[hc]at h
    simp only[zC]at h
    cases hd:(decide (off+szOf (c.sh t)<=szOf sh)&&sh != 0) with
    |false=>rw[hd]at h;cases h
    |true =>
     rw[hd]at h
     simp only[zA,zE]at h
     simp only[zF,zU,bne_iff_ne,ne_eq]at hd
     obtain⟨hle,hne⟩:=hd
     cases sh with
     |zero=>exact absurd rfl hne
     |succ n =>
     have hxl:=AV.cellsSh_len hu hxs
     have hal:=AV.cellsSh_len hy hs
     have hfit:off+szOf (c.sh t)<=cs.size:=by rw[hsz];exact hle
     rw[AV.setB_eq (by rw[hxl,hal];exact hle)]at h
     have hsl:(AV.setAt (a.cellsSh (n+1)) off (x.cellsSh (c.sh t))).length=n:=by
      simp only[AV.setAt,zAK,List.length_take,List.length_drop,hxl,hal]
      simp only[szOf]at hle ⊢
      omega
     refine done_ _ (.agg (zDw cs off u.cells.toList)) hfit (λ L' ow' hE=> ?_) (AV.mkAgg_okSh hsl) rfl h.symm
     have hspl:off+u.cells.toList.length<=cs.size:=by rw[hul];exact hfit
     refine VA.mkAgg (by rw[zEm hspl,hsl,hsz];rfl) (λ z hz=> ?_) (λ j z q hz hq=> ?_)
     ·obtain⟨j,hj,rfl⟩:=Array.getElem_of_mem hz
      have hg:=zCl hspl j
      rw[zAj hj]at hg
      split at hg
      ·rename_i hjj
       have:=zAV hg.symm
       exact u2 _ (by simpa using this)
      ·have:=Array.mem_of_getElem? hg.symm
       exact y2 _ (hcs▸this)
     ·rw[zCl hspl]at hz
      simp only[AV.setAt,zAG,List.getElem?_append,List.length_take,hal,zCP,List.getElem?_drop,hxl]at hq
      have hm:min off (szOf (n+1))=off:=by omega
      rw[hm]at hq
      by_cases h1:j<off
      ·rw[if_neg (by omega)]at hz
       rw[if_pos h1,if_pos h1]at hq
       exact hE.cell (y5 j z q (by rw[hcs];exact hz) hq)
      ·rw[if_neg h1]at hq
       by_cases h2:j-off<szOf (c.sh t)
       ·rw[if_pos ⟨by omega,by rw[hul];omega⟩]at hz
        rw[if_pos h2]at hq
        exact hE.cell (u5 (j-off) z q (by simpa using hz) hq)
       ·rw[if_neg (by rw[hul];omega)]at hz
        rw[if_neg h2]at hq
        have e2:off+szOf (c.sh t)+(j-off-szOf (c.sh t))=j:=by omega
        rw[e2]at hq
        exact hE.cell (y5 j z q (by rw[hcs];exact hz) hq)
 |elem o ver i off =>
  simp only at h
  obtain⟨_,hv⟩:=(show VA1 S L ow v (.elem o ver i off)from hv)
  cases hob:ow[o]? with
  |none=>rw[hob]at h;cases h
  |some ob =>
   rw[hob]at h hv
   cases ob<;>(try simp only at hv)<;>(try simp only at h)<;>try (cases h;done)
   rename_i sl ver' sh xs
   cases sl with
   |true=>cases h
   |false =>
   simp only at h
   cases hver:(ver==ver') with
   |false=>rw[hver]at h;cases h
   |true =>
    rw[hver]at h
    have e0:=beq_iff_eq.1 hver
    subst e0
    simp only[zA]at h
    cases x<;>simp only at h<;>try (cases h;done)
    rename_i p
    simp only[zJ,zE]at h
    obtain⟨pv,hpv,pv',hput,how⟩:=h
    obtain⟨hi,b,o0,cap,hL,rfl⟩:=hv.2 rfl
    obtain⟨r1,r2,r3⟩:=inv.obs o _ _ hob hL
    have hmem:pv∈xs:=zAV hpv
    have hsh:=r2 pv hmem
    rcases r3 with r3 | ⟨b',o',cs,e,he,hh,hfit,hx⟩
    ·omega
    ·simp only[zE,Addr.mk.injEq,and_true]at he
     obtain⟨rfl,rfl⟩:=he
     by_cases hc0:cap=0
     ·omega
     have mine:b∈zZ (.row false ver sh xs) (.row (some ⟨b,o0,none⟩) cap):=by simp[zZ,hc0]
     obtain⟨hb0,hblt,hSn⟩:=inv.own o _ _ b hob hL mine
     have noS:∀ j v,S b j=some v->False:=λ j v hv=>by have:=hSn j v hv;simp[mayS]at this
     have hu' :VP S u p:=hu
     obtain⟨d1,d2,d3⟩:=hu'.cells hxs
     have hlp:=PV.cells_len hxs
     have hlv:=PV.cells_len hsh
     obtain⟨hle,hok',hcell'⟩:=PV.put_sound (S:=S) (f:=λ j=>cs.getD (o0+i*szOf sh+j) undef) (g:=λ j=>u.cells.getD j undef) hsh hxs
      (λ j q hq=>by
       have hj:j<szOf sh:=by rw[<- hlv];exact(zQ.1 hq).1
       obtain⟨z,h1,_,h3,_⟩:=hx i j hi hj
       show VP S (cs.getD _ undef) q
       rw[zCV h1];exact h3 pv q hpv hq)
      (λ j q hq=>by
       have hj:j<u.cells.size:=by rw[d1,<-hlp];exact(zQ.1 hq).1
       have hv:u.cells[j]? =some u.cells[j]:=zAj hj
       show VP S (u.cells.getD j undef) q
       rw[zCV hv];exact d3 j _ q hv hq) hput
     have hrow:o0+i*szOf sh+szOf sh<=o0+cap*szOf sh:=by
      have:(i+1)*szOf sh<=cap*szOf sh:=Nat.mul_le_mul_right _ (by omega)
      rw[zAw,Nat.one_mul]at this
      omega
     have hfit' :o0+i*szOf sh+off+szOf (c.sh t)<=cs.size:=by omega
     have hspl:o0+i*szOf sh+off+u.cells.toList.length<=cs.size:=by rw[hul];exact hfit'
     subst how
     have hE:Evo S L ow S (L.set o (.row (some ⟨b,o0,none⟩) cap)) (ow.set o (.row false ver sh (xs.set i pv'))) :=
      Evo.turn hob hL (Pr.le_refl S) (λ _ h k=>by cases h;cases k) ⟨rfl,zM _,λ _=>⟨by simp,rfl⟩⟩
     refine⟨_,_,fin b _ cs e hh hfit',inv.turn hob hL hE (by simp) rfl rfl rfl (λ b' hb' hne=>setRow_other _ _ _ _ (λ e' =>hne (by rw[e'];exact mine))) (λ _ _ _ _=>rfl) ?_ ?_ ?_,hE⟩
     ·exact zIU inv hh (λ j v hv=>(noS j v hv).elim)
     ·refine⟨by simpa using r1,λ z hz=> ?_,.inr ⟨b,o0,_,e,rfl,setRow_heap w b cs _ e _ hh,by rw[zEm hspl];exact hfit,λ i' j hi' hj=> ?_⟩⟩
      ·rcases List.mem_or_eq_of_mem_set hz with hz | hz
       ·exact r2 z hz
       ·rw[hz];exact hok'
      ·have hi2:i' <xs.length:=by simpa using hi'
       obtain⟨z,h1,h2,h3,_⟩:=hx i' j hi2 hj
       rw[zCl hspl]
       by_cases hin:o0+i*szOf sh+off<=o0+i' *szOf sh+j/\o0+i' *szOf sh+j<o0+i*szOf sh+off+u.cells.toList.length
       ·
        have hii:i' =i:=by
         rw[hul]at hin
         rcases Nat.lt_trichotomy i' i with hlt | heq | hgt
         ·have:(i' +1)*szOf sh<=i*szOf sh:=Nat.mul_le_mul_right _ hlt
          rw[zAw,Nat.one_mul]at this
          omega
         ·exact heq
         ·have:(i+1)*szOf sh<=i' *szOf sh:=Nat.mul_le_mul_right _ hgt
          rw[zAw,Nat.one_mul]at this
          omega
        subst hii
        rw[if_pos hin]
        have hjo:off<=j/\j<off+szOf (c.sh t):=by rw[hul]at hin;omega
        have e3:o0+i' *szOf sh+j-(o0+i' *szOf sh+off)=j-off:=by omega
        rw[e3]
        have hlt3:j-off<u.cells.size:=by rw[u1];omega
        refine⟨u.cells[j-off],by simp[hlt3],u2 _ (Array.getElem_mem hlt3),λ q p' hq hp' => ?_,λ hz=>by cases hz⟩
        rw[zAJ hi2]at hq
        simp only[zE]at hq
        subst hq
        have:=hcell' j p' hp'
        rw[if_pos hjo]at this
        rwa [zCV (zAj hlt3)]at this
       ·rw[if_neg hin]
        refine⟨z,h1,h2,λ q p' hq hp' => ?_,λ hz=>by cases hz⟩
        by_cases hii:i' =i
        ·subst hii
         rw[zAJ hi2]at hq
         simp only[zE]at hq
         subst hq
         have:=hcell' j p' hp'
         rw[if_neg (by rw[hul]at hin;omega),zCV h1]at this
         exact this
        ·rw[zAr (Ne.symm hii)]at hq
         exact h3 q p' hq hp'
     ·intro b' hb'
      rw[show zZ (.row false ver sh (xs.set i pv')) (.row (some ⟨b,o0,none⟩) cap)=[b] by simp[zZ,hc0]]at hb'
      simp only[zBf]at hb'
      subst hb'
      exact⟨.inr mine,by simpa using hblt,λ j v hv=>(noS j v hv).elim⟩
 |fe o i off =>
  simp only at h
  obtain⟨s0,b,o0,n0,cap,hL,ho,hi,rfl⟩:=(show VA1 S L ow v (.fe o i off)from hv)
  cases hob:ow[o]? with
  |none=>rw[hob]at h;cases h
  |some ob =>
   rw[hob]at h
   cases ob<;>(try simp only at h)<;>try (cases h;done)
   rename_i ver sh xs
   cases x<;>simp only at h<;>try (cases h;done)
   rename_i p
   simp only[zJ,zE]at h
   obtain⟨pv,hpv,pv',hput,how⟩:=h
   obtain⟨rfl,rfl,r1,r2,r3⟩:=inv.obs o _ _ hob hL
   have hmem:pv∈xs:=zAV hpv
   have hsh:=r2 pv hmem
   rcases r3 with r3 | ⟨b',o',cs,e,he,hh,hfit,hx⟩
   ·omega
   ·simp only[zE,Addr.mk.injEq,and_true]at he
    obtain⟨rfl,rfl⟩:=he
    by_cases hc0:cap=0
    ·omega
    have mine:b∈zZ (.fix ver s0 xs) (.fix s0 (some ⟨b,o0,none⟩) xs.length cap):=by simp[zZ,hc0]
    obtain⟨hb0,hblt,hSn⟩:=inv.own o _ _ b hob hL mine
    have noS:∀ j v,S b j=some v->False:=λ j v hv=>by have:=hSn j v hv;simp[mayS]at this
    have hu' :VP S u p:=hu
    obtain⟨d1,d2,d3⟩:=hu'.cells hxs
    have hlp:=PV.cells_len hxs
    have hlv:=PV.cells_len hsh
    obtain⟨hle,hok',hcell'⟩:=PV.put_sound (S:=S) (f:=λ j=>cs.getD (o0+i*szOf s0+j) undef) (g:=λ j=>u.cells.getD j undef) hsh hxs
     (λ j q hq=>by
      have hj:j<szOf s0:=by rw[<- hlv];exact(zQ.1 hq).1
      obtain⟨z,h1,_,h3⟩:=hx i j hi hj
      show VP S (cs.getD _ undef) q
      rw[zCV h1];exact h3 pv q hpv hq)
     (λ j q hq=>by
      have hj:j<u.cells.size:=by rw[d1,<-hlp];exact(zQ.1 hq).1
      have hv:u.cells[j]? =some u.cells[j]:=zAj hj
      show VP S (u.cells.getD j undef) q
      rw[zCV hv];exact d3 j _ q hv hq) hput
    have hrow:o0+i*szOf s0+szOf s0<=o0+cap*szOf s0:=by
     have:(i+1)*szOf s0<=cap*szOf s0:=Nat.mul_le_mul_right _ (by omega)
     rw[zAw,Nat.one_mul]at this
     omega
    have hfit' :o0+i*szOf s0+off+szOf (c.sh t)<=cs.size:=by omega
    have hspl:o0+i*szOf s0+off+u.cells.toList.length<=cs.size:=by rw[hul];exact hfit'
    subst how
    have hE:Evo S L ow S (L.set o (.fix s0 (some ⟨b,o0,none⟩) xs.length cap)) (ow.set o (.fix ver s0 (xs.set i pv'))) :=
     Evo.turn hob hL (Pr.le_refl S) (λ _ h _=>h) ⟨rfl,rfl,by simp⟩
    refine⟨_,_,fin b _ cs e hh hfit',inv.turn hob hL hE (by simp) rfl rfl rfl (λ b' hb' hne=>setRow_other _ _ _ _ (λ e' =>hne (by rw[e'];exact mine))) (λ _ _ _ _=>rfl) ?_ ?_ ?_,hE⟩
    ·exact zIU inv hh (λ j v hv=>(noS j v hv).elim)
    ·refine⟨rfl,by simp,by simpa using r1,λ z hz=> ?_,.inr ⟨b,o0,_,e,rfl,setRow_heap w b cs _ e _ hh,by rw[zEm hspl];exact hfit,λ i' j hi' hj=> ?_⟩⟩
     ·rcases List.mem_or_eq_of_mem_set hz with hz | hz
      ·exact r2 z hz
      ·rw[hz];exact hok'
     ·have hi2:i' <xs.length:=by simpa using hi'
      obtain⟨z,h1,h2,h3⟩:=hx i' j hi2 hj
      rw[zCl hspl]
      by_cases hin:o0+i*szOf s0+off<=o0+i' *szOf s0+j/\o0+i' *szOf s0+j<o0+i*szOf s0+off+u.cells.toList.length
      ·
       have hii:i' =i:=by
        rw[hul]at hin
        rcases Nat.lt_trichotomy i' i with hlt | heq | hgt
        ·have:(i' +1)*szOf s0<=i*szOf s0:=Nat.mul_le_mul_right _ hlt
         rw[zAw,Nat.one_mul]at this
         omega
        ·exact heq
        ·have:(i+1)*szOf s0<=i' *szOf s0:=Nat.mul_le_mul_right _ hgt
         rw[zAw,Nat.one_mul]at this
         omega
       subst hii
       rw[if_pos hin]
       have hjo:off<=j/\j<off+szOf (c.sh t):=by rw[hul]at hin;omega
       have e3:o0+i' *szOf s0+j-(o0+i' *szOf s0+off)=j-off:=by omega
       rw[e3]
       have hlt3:j-off<u.cells.size:=by rw[u1];omega
       refine⟨u.cells[j-off],by simp[hlt3],u2 _ (Array.getElem_mem hlt3),λ q p' hq hp' => ?_⟩
       rw[zAJ hi2]at hq
       simp only[zE]at hq
       subst hq
       have:=hcell' j p' hp'
       rw[if_pos hjo]at this
       rwa [zCV (zAj hlt3)]at this
      ·rw[if_neg hin]
       refine⟨z,h1,h2,λ q p' hq hp' => ?_⟩
       by_cases hii:i' =i
       ·subst hii
        rw[zAJ hi2]at hq
        simp only[zE]at hq
        subst hq
        have:=hcell' j p' hp'
        rw[if_neg (by rw[hul]at hin;omega),zCV h1]at this
        exact this
       ·rw[zAr (Ne.symm hii)]at hq
        exact h3 q p' hq hp'
    ·intro b' hb'
     rw[show zZ (.fix ver s0 (xs.set i pv')) (.fix s0 (some ⟨b,o0,none⟩) xs.length cap)=[b] by simp[zZ,hc0]]at hb'
     simp only[zBf]at hb'
     subst hb'
     exact⟨.inr mine,by simpa using hblt,λ j v hv=>(noS j v hv).elim⟩
 |nil sh=>cases h
 |sl bb sh xxs=>cases h
 |gm o=>cases h
 |fx o s=>cases h
 |agg cs=>cases h
 |mp o=>cases h
 |fnv f fs cs=>cases h
 |tupA as=>cases h
 |view o ver sb=>cases h
 |pv p=>cases h
end
end Go.Ab

namespace Go.Ab
open Go.RowKit (Below)
variable [GL:Gl]
section
variable {P:Program} {c:Cfg} {w0:Base} {w:World} {S0 S:Pr} {L:List Loc} {ow:List Ob}
theorem zHy(w:World):Below w.heap.size w w:=⟨rfl,rfl,rfl,zM _,λ _ _=>rfl⟩
theorem zRE(inv:Inv w0 S0 S L ow w) {v:Value} {sh:Nat} (h:VA1 S L ow v (.nil sh)) :
 ∃ L',Inv w0 S0 S L' (ow++[.row false 0 sh []]) w/\Evo S L ow S L' (ow++[.row false 0 sh []])/\VA1 S L' (ow++[.row false 0 sh []]) v (.view ow.length 0 none):=by
 obtain⟨a,rfl⟩:=h
 obtain⟨h1,h2⟩:=inv.push (ob:= .row false 0 sh []) (l:= .row a 0) (zHy w) (Pr.le_refl S) (λ _ _ _=>rfl) inv.prot
  ⟨zM _,by simp,.inl rfl⟩ (λ b hb=>by simp[zZ]at hb)
 refine⟨_,h1,h2,⟨a,0,0,rfl⟩,?_⟩
 simp only[zAO (zM _),Nat.sub_self,zAS]
 exact⟨zM _,λ _=>⟨a,0,by rw[<- inv.len];simp,rfl⟩⟩
theorem zKg:∀(cs:List AV) {L:List Loc} {ow:List Ob} (inv:Inv w0 S0 S L ow w) (vs:List Value),
 (∀(j:Nat) (x:Value) (a:AV),vs[j]? =some x->cs[j]? =some a->VA1 S L ow x a) ->
 ∃ L',Inv w0 S0 S L' (zB2 cs ow).2 w/\Evo S L ow S L' (zB2 cs ow).2/\(zB2 cs ow).1.length=cs.length /\
  ∀(j:Nat) (x:Value) (a:AV),vs[j]? =some x->(zB2 cs ow).1[j]? =some a->VA1 S L' (zB2 cs ow).2 x a
 | [],L,ow,inv,vs,_=>⟨L,inv,Evo.refl _ _ _,rfl,λ j x a _ ha=>by simp[zB2]at ha⟩
 |a::r,L,ow,inv,vs,h=>by
  have tail:∀{L1:List Loc} {ow1:List Ob} (i1:Inv w0 S0 S L1 ow1 w) (e1:Evo S L ow S L1 ow1),
   ∃ L',Inv w0 S0 S L' (zB2 r ow1).2 w/\Evo S L1 ow1 S L' (zB2 r ow1).2/\(zB2 r ow1).1.length=r.length /\
    ∀(j:Nat) (x:Value) (a:AV),vs.tail[j]? =some x->(zB2 r ow1).1[j]? =some a->VA1 S L' (zB2 r ow1).2 x a:=λ i1 e1 =>
   zKg r i1 vs.tail (λ j x a hx ha=>e1.cell (h (j+1) x a (by rw[List.getElem?_tail]at hx;exact hx) (by simpa using ha)))
  have same:zB2 (a::r) ow=(a::(zB2 r ow).1,(zB2 r ow).2)->∃ L',Inv w0 S0 S L' (zB2 (a::r) ow).2 w/\Evo S L ow S L' (zB2 (a::r) ow).2/\(zB2 (a::r) ow).1.length=(a::r).length /\
   ∀(j:Nat) (x:Value) (b:AV),vs[j]? =some x->(zB2 (a::r) ow).1[j]? =some b->VA1 S L' (zB2 (a::r) ow).2 x b:=λ hn=>by
   obtain⟨L',i2,e2,l2,c2⟩:=tail inv (Evo.refl _ _ _)
   refine⟨L',by rw[hn];exact i2,by rw[hn];exact e2,by rw[hn];simp[l2],λ j x b hx hb=> ?_⟩
   rw[hn]at hb ⊢
   cases j with
   |zero=>simp at hb;subst hb;exact e2.cell (h 0 x a hx rfl)
   |succ j=>exact c2 j x b (by rw[List.getElem?_tail];exact hx) (by simpa using hb)
  cases a with
  |nil sh =>
   cases vs with
   |nil =>
    obtain⟨h1,h2⟩:=inv.push (ob:= .row false 0 sh []) (l:= .row none 0) (zHy w) (Pr.le_refl S) (λ _ _ _=>rfl) inv.prot
     ⟨zM _,by simp,.inl rfl⟩ (λ b hb=>by simp[zZ]at hb)
    obtain⟨L',i2,e2,l2,c2⟩:=tail h1 h2
    exact⟨L',i2,h2.trans e2,by simp[zB2,l2],λ j x b hx hb=>by simp at hx⟩
   |cons v vs =>
    obtain⟨L1,i1,e1,k1⟩:=zRE inv (h 0 v _ rfl rfl)
    obtain⟨L',i2,e2,l2,c2⟩:=tail i1 e1
    refine⟨L',i2,e1.trans e2,by simp[zB2,l2],λ j x b hx hb=> ?_⟩
    cases j with
    |zero=>simp at hx;subst hx;simp[zB2]at hb;subst hb;exact e2.cell k1
    |succ j=>exact c2 j x b (by simpa using hx) (by simpa [zB2]using hb)
  |pv p=>exact same rfl
  |sl b sh xs=>exact same rfl
  |gm o=>exact same rfl
  |fx o s=>exact same rfl
  |fe o i off=>exact same rfl
  |agg cs=>exact same rfl
  |view o ver sb=>exact same rfl
  |own o off=>exact same rfl
  |elem o ver i off=>exact same rfl
  |mp o=>exact same rfl
  |fnv f fs cs=>exact same rfl
  |tupA as=>exact same rfl
theorem z2m(inv:Inv w0 S0 S L ow w) {v:Value} {o ver ver' sh lo n:Nat} {sl:Bool} {xs:List PV} (h:VA S L ow v (.view o ver (some (lo,n)))) (hob:ow[o]? =some (.row sl ver' sh xs))
 (hc:(lo==0&&ver==ver' && !sl)=true) :
 ∃ L',Inv w0 S0 S L' (ow.set o (.row sl (ver+1) sh (xs.take n))) w/\Evo S L ow S L' (ow.set o (.row sl (ver+1) sh (xs.take n)))/\VA S L' (ow.set o (.row sl (ver+1) sh (xs.take n))) v (.view o (ver+1) none):=by
 simp only[zF,beq_iff_eq,Bool.not_eq_true']at hc
 obtain⟨⟨rfl,rfl⟩,rfl⟩:=hc
 have h' :VA1 S L ow v (.view o ver (some (0,n))):=h
 obtain⟨⟨a0,n0,k0,hv0⟩,h2⟩:=h'
 rw[hob]at h2
 obtain⟨base,cap,hL,hn,base',rfl,hbase⟩:=h2.2 rfl
 simp only[Nat.zero_add,Nat.sub_zero,Nat.zero_mul,Nat.add_zero]at hn hbase
 have hlt:o<ow.length:=(zQ.1 hob).1
 have hltL:o<L.length:=(zQ.1 hL).1
 obtain⟨hcap,hs,hx⟩:=inv.obs o _ _ hob hL
 have hlen:(xs.take n).length=n:=by simp;omega
 have hE:Evo S L ow S (L.set o (.row base' cap)) (ow.set o (.row false (ver+1) sh (xs.take n))):=Evo.turn hob hL (Pr.le_refl S) (λ _ h k=>by cases h;cases k) ⟨rfl,by omega,λ e=>by omega⟩
 have hb:0<cap->base' =base:=λ h0=>by obtain⟨b,o0,e1,e2⟩:=hbase h0;rw[e1,e2]
 have hblk:∀ b,b∈zZ (.row false (ver+1) sh (xs.take n)) (.row base' cap)->b∈zZ (.row false ver sh xs) (.row base cap):=λ b hbk=>by
  by_cases h0:cap=0
  ·simp[zZ,h0]at hbk
  ·rw[hb (by omega)]at hbk;exact hbk
 refine⟨_,inv.turn hob hL hE (zM _) rfl rfl rfl (λ _ _ _=>rfl) (λ _ _ _ _=>rfl) inv.prot ⟨by omega,λ x hx=>hs x (List.mem_of_mem_take hx),?_⟩ (λ b hbk=> ?_),hE,⟨_,_,_,rfl⟩,?_⟩
 ·rcases hx with rfl | ⟨b,o0,cs,t,rfl,hh,hfit,hcell⟩
  ·exact .inl rfl
  ·by_cases h0:cap=0
   ·exact .inl h0
   ·refine .inr ⟨b,o0,cs,t,hb (by omega),hh,hfit,λ i j hi hj=> ?_⟩
    rw[hlen]at hi
    obtain⟨u,k1,k2,k3,k4⟩:=hcell i j (by omega) hj
    exact⟨u,k1,k2,λ x p hx hp=>k3 x p (by rw[zCP,if_pos hi]at hx;exact hx) hp,λ e=>by cases e⟩
 ·have hbk' :=hblk b hbk
  obtain⟨_,k2,k3⟩:=inv.own o _ _ b hob hL hbk'
  refine⟨.inr hbk',k2,λ j u hu=> ?_⟩
  have:=k3 j u hu
  cases base with
  |none=>simp[mayS]at this
  |some a=>simp[mayS]at this
 ·rw[zAJ hlt]
  refine⟨zM _,λ _=>⟨base',cap,zAJ hltL,?_⟩⟩
  simp only[hlen,Nat.sub_zero]
theorem zIV(inv:Inv w0 S0 S L ow w) {v:Value} {a:AV} (h:VA S L ow v a) :
 ∃ L',Inv w0 S0 S L' (zMO a ow).2 w/\Evo S L ow S L' (zMO a ow).2/\VA S L' (zMO a ow).2 v (zMO a ow).1/\∀ sh,a.okSh sh=true->(zMO a ow).1.okSh sh=true:=by
 cases a with
 |nil sh =>
  obtain⟨L',h1,h2,h3⟩:=zRE inv h
  exact⟨L',h1,h2,h3,λ sh h=>h⟩
 |agg cs =>
  obtain⟨vs,rfl,hl,h1,h2⟩:=h
  obtain⟨L',i1,e1,l1,c1⟩:=zKg cs inv vs.toList (λ j x a hx ha=>h2 j x a (by simpa using hx) ha)
  refine⟨L',i1,e1,⟨vs,rfl,by rw[hl,l1],h1,λ j x a hx ha=>c1 j x a (by simpa using hx) ha⟩,λ sh h=> ?_⟩
  simp only[AV.okSh,beq_iff_eq]at h
  simp only[zMO,AV.okSh,beq_iff_eq,l1,h]
 |pv p=>exact⟨L,inv,Evo.refl _ _ _,h,λ sh h=>h⟩
 |sl b sh xs=>exact⟨L,inv,Evo.refl _ _ _,h,λ sh h=>h⟩
 |gm o=>exact⟨L,inv,Evo.refl _ _ _,h,λ sh h=>h⟩
 |fx o s=>exact⟨L,inv,Evo.refl _ _ _,h,λ sh h=>h⟩
 |fe o i off=>exact⟨L,inv,Evo.refl _ _ _,h,λ sh h=>h⟩
 |view o ver sb =>
  cases sb with
  |none=>exact⟨L,inv,Evo.refl _ _ _,h,λ sh h=>h⟩
  |some q =>
   obtain⟨lo,n⟩:=q
   cases hob:ow[o]? with
   |none=>simp only[zMO,hob];exact⟨L,inv,Evo.refl _ _ _,h,λ sh h=>h⟩
   |some ob =>
    cases ob<;>simp only[zMO,hob]<;>try exact⟨L,inv,Evo.refl _ _ _,h,λ sh h=>h⟩
    rename_i sl ver' sh xs
    cases hc:(lo==0&&ver==ver' && !sl) with
    |false=>exact⟨L,inv,Evo.refl _ _ _,h,λ sh h=>h⟩
    |true =>
     simp only[zA]
     obtain⟨L',h1,h2,h3⟩:=z2m inv h hob hc
     exact⟨L',h1,h2,h3,λ sh h=>h⟩
 |own o off=>exact⟨L,inv,Evo.refl _ _ _,h,λ sh h=>h⟩
 |elem o ver i off=>exact⟨L,inv,Evo.refl _ _ _,h,λ sh h=>h⟩
 |mp o=>exact⟨L,inv,Evo.refl _ _ _,h,λ sh h=>h⟩
 |fnv f fs cs=>exact⟨L,inv,Evo.refl _ _ _,h,λ sh h=>h⟩
 |tupA as=>exact⟨L,inv,Evo.refl _ _ _,h,λ sh h=>h⟩
theorem zEw(inv:Inv w0 S0 S L ow w) (o:Go.Obj):∀ b j v,S b j=some v->memV (w.alloc o) b j=some v:=λ b j v h=>by
 have hc:=inv.prot b j v h
 rw[zCk (w:=w) (w' :=w.alloc o) (by show(w.heap.push o)[b]? =_;rw[Array.getElem?_push_lt (zKq hc)];exact(zAj (zKq hc)).symm)]
 exact hc
theorem z09(w:World) (cs:Array Value) (t:TypeId) (j:Nat):memV (w.alloc (.cells cs t)) w.heap.size j=zQA cs[j]? :=
 zHx (t:=t) (fz:=(0,0)) (by show(w.heap.push _)[w.heap.size]? =_;simp) j
theorem zDx(w:World) (o:Go.Obj):Below w.heap.size w (w.alloc o):=(zHy w).alloc (zM _) o
theorem zJP(inv:Inv w0 S0 S L ow w):∀ j v,S w.heap.size j=some v->False:=λ j v h=>by
 have hc:=inv.prot _ j v h
 exact Nat.lt_irrefl _ (zKq hc)
theorem zVv(inv:Inv w0 S0 S L ow w) {v:Value} {a:AV} {sh:Nat} (t:TypeId) (h:VA S L ow v a) (hs:a.okSh sh=true) :
 ∃ L',Inv w0 S0 S L' (ow++[.var false sh a]) (w.alloc (.cells v.cells t))/\Evo S L ow S L' (ow++[.var false sh a]) /\
  VA S L' (ow++[.var false sh a]) (.pointer (some ⟨w.heap.size,0,none⟩)) (.own ow.length 0):=by
 have hE:=Evo.push S L ow inv.len (.blk w.heap.size) (.var false sh a)
 obtain⟨h1,h2⟩:=inv.push (ob:= .var false sh a) (l:= .blk w.heap.size) (zDx w (.cells v.cells t)) (Pr.le_refl S) (λ _ _ _=>rfl) (zEw inv _)
  ⟨v.cells,t,v,by show(w.heap.push _)[w.heap.size]? =_;simp,hE.2 _ _ h,hs,rfl,λ hz=>by cases hz⟩
  (λ b hb=>by
   simp only[zZ,zBf]at hb;subst hb
   exact⟨zM _,by simp,λ j v hv=>(zJP inv j v hv).elim⟩)
 exact⟨_,h1,h2,⟨w.heap.size,by rw[<- inv.len];simp,by simp,rfl⟩⟩
def Pr.with(S:Pr) (b:Nat) (cs:Array Value):Pr:=λ b' o=>if b' =b then zQA cs[o]? else S b' o
theorem zO8(inv:Inv w0 S0 S L ow w) (cs:Array Value):S.le (S.with w.heap.size cs):=λ b o v h=>by
 unfold Pr.with
 split
 ·rename_i e;subst e;exact(zJP inv o v h).elim
 ·exact h
theorem zS5(inv:Inv w0 S0 S L ow w) (cs:Array Value) (t:TypeId):Inv w0 S0 (S.with w.heap.size cs) L ow (w.alloc (.cells cs t)) :=
 inv.grow (zDx w _) (zO8 inv cs) (λ b o hb=>by unfold Pr.with;rw[if_neg (by omega)]) (λ b o v h=>by
  unfold Pr.with at h
  split at h
  ·rename_i e;subst e;rw[z09];exact h
  ·exact zEw inv _ b o v h)
theorem z2n(inv:Inv w0 S0 S L ow w) {v:Value} {p:PV} {sh:Nat} (t:TypeId) (h:VP S v p) (hs:p.okSh sh=true) :
 Inv w0 S0 (S.with w.heap.size v.cells) L ow (w.alloc (.cells v.cells t))/\S.le (S.with w.heap.size v.cells) /\
  VP (S.with w.heap.size v.cells) (.pointer (some ⟨w.heap.size,0,none⟩)) (.imm sh p 0):=by
 refine⟨zS5 inv _ t,zO8 inv _,?_⟩
 obtain⟨h1,h2,h3⟩:=h.cells hs
 have hlen:=PV.cells_len hs
 refine .imm w.heap.size 0 sh 0 p (λ j=>v.cells.getD j undef) hs (λ j hj=> ?_) (λ j q hq=> ?_)
 ·have hlt:j<v.cells.size:=by rw[h1];exact hj
  have hv:v.cells[j]? =some v.cells[j]:=zAj hlt
  show _=some (v.cells.getD j undef)/\(v.cells.getD j undef).oneCell' =true
  rw[zCV hv]
  exact⟨by simp[Pr.with,hv,zKF rfl (h2 _ (Array.getElem_mem hlt))],h2 _ (Array.getElem_mem hlt)⟩
 ·have hlt:j<v.cells.size:=by rw[h1,<-hlen];exact(zQ.1 hq).1
  have hv:v.cells[j]? =some v.cells[j]:=zAj hlt
  show VP _ (v.cells.getD j undef) q
  rw[zCV hv]
  exact(h3 j _ q hv hq).mono (zO8 inv _)
end
end Go.Ab

namespace Go.Ab
open Go.RowKit (Below)
variable [GL:Gl]
def RowAt(C:Nat->Nat->Option Value) (S:Pr) (v:Value) (sh:Nat) (ys:List PV):Prop :=
 ∃(base:Option Addr) (n cap b o:Nat),v= .slice base n cap/\ys.length=n/\n<=cap/\(∀ y∈ys,y.okSh sh=true)/\(0<n->base=some ⟨b,o,none⟩) /\
  ∀(i j:Nat),i<n->j<szOf sh->∃ u,C b (o+i*szOf sh+j)=some u/\u.oneCell' =true/\∀(y p:PV),ys[i]? =some y->y.cells[j]? =some p->VP S u p
theorem RowAt.vp{S:Pr} {v:Value} {sh:Nat} {ys:List PV} (h:RowAt S S v sh ys):VP S v (.slice sh ys):=by
 obtain⟨base,n,cap,b,o,rfl,hl,hc,hs,hb,hx⟩:=h
 refine .slice base n cap sh ys b o (λ i j=>(S b (o+i*szOf sh+j)).getD undef) hl hc hb hs (λ i j hi hj=> ?_) (λ i j x p hi hp=> ?_)
 ·obtain⟨u,h1,h2,_⟩:=hx i j hi hj
  rw[h1];exact⟨rfl,h2⟩
 ·have hi' :i<n:=by rw[<- hl];exact(zQ.1 hi).1
  have hj:j<szOf sh:=by rw[<- PV.cells_len (hs x (zAV hi))];exact(zQ.1 hp).1
  obtain⟨u,h1,_,h3⟩:=hx i j hi' hj
  rw[h1];exact h3 x p hi hp
theorem VP.row{S:Pr} {v:Value} {sh:Nat} {ys:List PV} (h:VP S v (.slice sh ys)):RowAt S S v sh ys:=by
 cases h with
 |slice base n cap _ _ b o vals hl hc hb hsh hS hV =>
  exact⟨base,n,cap,b,o,rfl,hl,hc,hsh,hb,λ i j hi hj=>⟨vals i j,(hS i j hi hj).1,(hS i j hi hj).2,λ y p hy hp=>hV i j y p hy hp⟩⟩
theorem RowAt.mono1{C C' :Nat->Nat->Option Value} {S S' :Pr} {v:Value} {sh:Nat} {ys:List PV} (h:RowAt C S v sh ys) (hC:∀ b o u,C b o=some u->u.oneCell' =true->C' b o=some u) (hS:S.le S') :
 RowAt C' S' v sh ys:=by
 obtain⟨base,n,cap,b,o,e,hl,hc,hs,hb,hx⟩:=h
 refine⟨base,n,cap,b,o,e,hl,hc,hs,hb,λ i j hi hj=> ?_⟩
 obtain⟨u,h1,h2,h3⟩:=hx i j hi hj
 exact⟨u,hC _ _ _ h1 h2,h2,λ y p hy hp=>(h3 y p hy hp).mono hS⟩
theorem RowAt.mono{C C' :Nat->Nat->Option Value} {S S' :Pr} {v:Value} {sh:Nat} {ys:List PV} (h:RowAt C S v sh ys) (hC:∀ b o u,C b o=some u->C' b o=some u) (hS:S.le S') :
 RowAt C' S' v sh ys:=h.mono1 (λ b o u k _=>hC b o u k) hS
abbrev memC (w:World):Nat->Nat->Option Value:=λ b o=>w.cell? ⟨b,o,none⟩
section
variable {P:Program} {c:Cfg} {w0:Base} {w:World} {S0 S:Pr} {L:List Loc} {ow:List Ob}
theorem VP.rowMem(inv:Inv w0 S0 S L ow w) {v:Value} {sh:Nat} {ys:List PV} (h:VP S v (.slice sh ys)):RowAt (memC w) S v sh ys :=
 h.row.mono1 (λ b o u hu h1=>zJN (inv.prot b o u hu) h1) (Pr.le_refl S)
theorem z2o{xs:List PV} {lo n i:Nat} (hi:i<n):(AV.sub xs (some (lo,n)))[i]? =xs[lo+i]? :=by
 simp only[AV.sub,zCP,List.getElem?_drop]
 rw[if_pos hi]
theorem zRF{xs:List PV} {lo n:Nat} (h:lo+n<=xs.length):(AV.sub xs (some (lo,n))).length=n:=by
 simp[AV.sub];omega
theorem zY8{xs:List PV} {s:Option (Nat×Nat)} {y:PV} (h:y∈AV.sub xs s):y∈xs:=by
 cases s with
 |none=>exact h
 |some q=>exact List.mem_of_mem_drop (List.mem_of_mem_take h)
theorem zRG(inv:Inv w0 S0 S L ow w) {v:Value} {o ver sh:Nat} {sb:Option (Nat×Nat)} {sl:Bool} {xs:List PV} (h:VA1 S L ow v (.view o ver sb))
 (hob:ow[o]? =some (.row sl ver sh xs)):RowAt (memC w) S v sh (AV.sub xs sb)/\(sl=true->RowAt S S v sh (AV.sub xs sb)):=by
 obtain⟨_,h⟩:=h
 rw[hob]at h
 obtain⟨base,cap,hL,hv⟩:=h.2 rfl
 obtain⟨r1,r2,r3⟩:=inv.obs o _ _ hob hL
 have key:∀ C:Nat->Nat->Option Value,(∀(b o0:Nat) (cs:Array Value) (t:TypeId),base=some ⟨b,o0,none⟩->w.heap[b]? =some (.cells cs t (0,0)) ->
  ∀(i j:Nat) (u:Value),i<xs.length->j<szOf sh->cs[o0+i*szOf sh+j]? =some u->(sl=true->S b (o0+i*szOf sh+j)=some u)->C b (o0+i*szOf sh+j)=some u) ->
  RowAt C S v sh (AV.sub xs sb):=λ C hC=>by
  cases sb with
  |none =>
   simp only at hv
   rcases r3 with r3 | ⟨b,o0,cs,t,e,hh,hfit,hx⟩
   ·refine⟨base,xs.length,cap,0,0,hv,rfl,r1,r2,λ h0=>by omega,λ i j hi _=>by omega⟩
   ·refine⟨base,xs.length,cap,b,o0,hv,rfl,r1,r2,λ _=>e,λ i j hi hj=> ?_⟩
    obtain⟨u,h1,h2,h3,h4⟩:=hx i j hi hj
    exact⟨u,hC b o0 cs t e hh i j u hi hj h1 h4,h2,h3⟩
  |some q =>
   obtain⟨lo,n⟩:=q
   obtain⟨hle,base',hv,hb'⟩:=hv
   have hmem:∀ y∈AV.sub xs (some (lo,n)),y.okSh sh=true:=λ y hy=>r2 y (zY8 hy)
   rcases r3 with r3 | ⟨b,o0,cs,t,e,hh,hfit,hx⟩
   ·refine⟨base',n,cap-lo,0,0,hv,zRF hle,by omega,hmem,λ h0=>by omega,λ i j hi _=>by omega⟩
   ·refine⟨base',n,cap-lo,b,o0+lo*szOf sh,hv,zRF hle,by omega,hmem,λ h0=> ?_,λ i j hi hj=> ?_⟩
    ·obtain⟨b1,o1,e1,e2⟩:=hb' (by omega)
     rw[e]at e1
     simp only[zE,Addr.mk.injEq,and_true]at e1
     obtain⟨rfl,rfl⟩:=e1
     exact e2
    ·obtain⟨u,h1,h2,h3,h4⟩:=hx (lo+i) j (by omega) hj
     have ea:o0+lo*szOf sh+i*szOf sh+j=o0+(lo+i)*szOf sh+j:=by rw[zAw];omega
     rw[ea]
     exact⟨u,hC b o0 cs t e hh (lo+i) j u (by omega) hj h1 h4,h2,λ y p hy hp=>h3 y p (by rw[<- z2o hi];exact hy) hp⟩
 refine⟨key _ (λ b o0 cs t _ hh i j u _ _ hu _=>by rw[memC,cell_of_row w b _ cs t (0,0) hh];exact hu),λ hz=>key _ (λ b o0 cs t _ _ i j u _ _ _ h4=>h4 hz)⟩
theorem zQS{v:Value} {sh sh' :Nat} (h:∃ a,v= .slice a 0 0):VP S v (.slice sh []):=by
 obtain⟨a,rfl⟩:=h
 exact .slice a 0 0 sh [] 0 0 (λ _ _=>undef) rfl (zM _) (λ h=>by omega) (by simp) (λ i j hi _=>by omega) (λ i j x p hx _=>by simp at hx)
theorem zBk(inv:Inv w0 S0 S L ow w) {v:Value} {a:AV} {p:PV} (h:VA1 S L ow v a) (hp:AV.port1 ow a=some p):VP S v p:=by
 cases a with
 |pv q=>simp only[AV.port1,zE]at hp;subst hp;exact h
 |nil sh=>simp only[AV.port1,zE]at hp;subst hp;exact zQS (sh' :=sh) h
 |sl b sh xs=>simp only[AV.port1,zE]at hp;subst hp;exact h.1
 |gm o=>cases hp
 |fx o s=>cases hp
 |fe o i off=>cases hp
 |agg cs=>simp[AV.port1]at hp
 |elem o ver i off=>simp[AV.port1]at hp
 |fnv f fs cs=>simp[AV.port1]at hp
 |tupA as=>simp[AV.port1]at hp
 |mp o =>
  simp only[AV.port1]at hp
  cases hob:ow[o]? with
  |none=>rw[hob]at hp;cases hp
  |some ob =>
   rw[hob]at hp
   cases ob<;>(try simp only at hp)<;>try (cases hp;done)
   rename_i sl es
   cases sl with
   |false=>cases hp
   |true =>
    simp only[zE]at hp
    subst hp
    obtain⟨b,hL,ho,rfl⟩:=h
    obtain⟨as,n,hh,hl,_,hkv,hz⟩:=inv.obs o _ _ hob hL
    exact .map b as es hl (hz rfl) (λ j e p he hp=>(hkv j e p he hp).1) (λ j e p he hp=>(hkv j e p he hp).2)
 |view o ver sb =>
  simp only[AV.port1]at hp
  cases hob:ow[o]? with
  |none=>rw[hob]at hp;cases hp
  |some ob =>
   rw[hob]at hp
   cases ob<;>(try simp only at hp)<;>try (cases hp;done)
   rename_i sl ver' sh xs
   cases sl with
   |false=>cases hp
   |true =>
    simp only at hp
    cases hv:(ver==ver') with
    |false=>rw[hv]at hp;cases hp
    |true =>
     rw[hv]at hp
     simp only[zA,zE]at hp
     subst hp
     have e:=beq_iff_eq.1 hv;subst e
     exact((zRG inv h hob).2 rfl).vp
 |own o off =>
  simp only[AV.port1]at hp
  cases hob:ow[o]? with
  |none=>rw[hob]at hp;cases hp
  |some ob =>
   rw[hob]at hp
   cases ob<;>(try simp only at hp)<;>try (cases hp;done)
   rename_i fz sh a
   cases fz with
   |false=>cases hp
   |true =>
    cases a<;>(try simp only at hp)<;>try (cases hp;done)
    rename_i q
    simp only[zE]at hp
    subst hp
    obtain⟨b,hL,ho,rfl⟩:=h
    obtain⟨cs,t,u,hh,hu,hs,hc,hz⟩:=inv.obs o _ _ hob hL
    have hu' :VP S u q:=hu
    obtain⟨h1,h2,h3⟩:=hu'.cells hs
    have hlen:=PV.cells_len (sh:=sh) (p:=q) hs
    have:=VP.imm (S:=S) b 0 sh off q (λ j=>cs.getD j undef) hs (λ j hj=>by
     have hlt:j<cs.size:=by rw[<- hc,h1];exact hj
     have hg:cs[j]? =some cs[j]:=zAj hlt
     show _=some (cs.getD j undef)/\(cs.getD j undef).oneCell' =true
     rw[zCV hg]
     exact⟨by rw[Nat.zero_add];exact(hz rfl).2 j _ hg,h2 _ (hc▸Array.getElem_mem hlt)⟩) (λ j p hp=>by
     have hlt:j<cs.size:=by rw[<- hc,h1,<-hlen];exact(zQ.1 hp).1
     have hg:cs[j]? =some cs[j]:=zAj hlt
     show VP S (cs.getD j undef) p
     rw[zCV hg]
     exact h3 j _ p (by rw[hc];exact hg) hp)
    simpa using this
theorem zO9(inv:Inv w0 S0 S L ow w):∀{cs:List AV} {ps:List PV} {vs:List Value},AV.portL ow cs=some ps ->
 (∀(j:Nat) (x:Value) (a:AV),vs[j]? =some x->cs[j]? =some a->VA1 S L ow x a)->ps.length=cs.length/\∀(j:Nat) (x:Value) (p:PV),vs[j]? =some x->ps[j]? =some p->VP S x p
 | [],ps,vs,h,_=>by simp[AV.portL]at h;subst h;exact⟨rfl,λ j x p _ hp=>by simp at hp⟩
 |a::r,ps,vs,h,hV=>by
  simp only[AV.portL]at h
  cases h1:AV.port1 ow a with
  |none=>rw[h1]at h;cases h
  |some p =>
   rw[h1]at h
   cases h2:AV.portL ow r with
   |none=>rw[h2]at h;cases h
   |some qs =>
    rw[h2]at h
    simp only[zE]at h
    subst h
    obtain⟨hl,hx⟩:=zO9 inv (vs:=vs.tail) h2 (λ j x a hx ha=>hV (j+1) x a (by rw[List.getElem?_tail]at hx;exact hx) (by simpa using ha))
    refine⟨by simp[hl],λ j x q hj hq=> ?_⟩
    cases j with
    |zero=>simp at hq;subst hq;exact zBk inv (hV 0 x a hj rfl) h1
    |succ j=>exact hx j x q (by rw[List.getElem?_tail];exact hj) (by simpa using hq)
theorem zQT(inv:Inv w0 S0 S L ow w) {v:Value} {a:AV} {p:PV} (h:VA S L ow v a) (hp:AV.port ow a=some p):VP S v p:=by
 cases a with
 |agg cs =>
  simp only[AV.port]at hp
  cases hc:AV.portL ow cs with
  |none=>rw[hc]at hp;cases hp
  |some ps =>
   rw[hc]at hp
   simp only[zE]at hp
   subst hp
   obtain⟨vs,rfl,hl,h1,h2⟩:=h
   obtain⟨k1,k2⟩:=zO9 inv (vs:=vs.toList) hc (λ j x a hx ha=>h2 j x a (by simpa using hx) ha)
   exact .agg vs ps (by rw[hl,k1]) h1 (λ j x p hx hp=>k2 j x p (by simpa using hx) hp)
 |pv q=>exact zBk inv (a:= .pv q) h hp
 |nil sh=>exact zBk inv (a:= .nil sh) h hp
 |sl b sh xs=>exact zBk inv (a:= .sl b sh xs) h hp
 |gm o=>exact zBk inv (a:= .gm o) h hp
 |fx o s=>exact zBk inv (a:= .fx o s) h hp
 |fe o i off=>exact zBk inv (a:= .fe o i off) h hp
 |view o ver sb=>exact zBk inv (a:= .view o ver sb) h hp
 |own o off=>exact zBk inv (a:= .own o off) h hp
 |elem o ver i off=>exact zBk inv (a:= .elem o ver i off) h hp
 |mp o=>exact zBk inv (a:= .mp o) h hp
 |fnv f fs cs=>exact zBk inv (a:= .fnv f fs cs) h hp
 |tupA as=>simp[AV.port,AV.port1]at hp
theorem zB9(inv:Inv w0 S0 S L ow w) {v:Value} {a:AV} {p:PV} (h:VA S L ow v a) (hp:zDW ow a some=some p):VP S v p:=by
 unfold zDW at hp
 cases a with
 |pv q=>simp only[zE]at hp;subst hp;exact h
 |_=>simp only[zJ,zE,exists_eq_right]at hp;exact zQT inv h hp
theorem zKr(inv:Inv w0 S0 S L ow w) {v:Value} {a:AV} {sh:Nat} {ys:List PV} (h:VA S L ow v a) (hp:zHp sh ow a some=some ys):RowAt (memC w) S v sh ys:=by
 unfold zHp at hp
 cases a with
 |pv q =>
  simp only[zJ,zE,exists_eq_right]at hp
  cases q<;>simp only[PV.asSlice]at hp<;>try (cases hp;done)
  rename_i sh' xs
  cases he:(sh==sh') with
  |false=>rw[he]at hp;cases hp
  |true =>
   rw[he]at hp
   simp only[zA,zE]at hp
   have e:=beq_iff_eq.1 he;subst e;subst hp
   exact VP.rowMem inv h
 |nil sh' =>
  simp only[zE]at hp;subst hp
  exact VP.rowMem inv (zQS (sh' :=sh) h)
 |sl b sh' xs =>
  simp only at hp
  cases he:(sh==sh') with
  |false=>rw[he]at hp;cases hp
  |true =>
   rw[he]at hp
   simp only[zA,zE]at hp
   have e:=beq_iff_eq.1 he;subst e;subst hp
   exact VP.rowMem inv h.1
 |gm o=>cases hp
 |fe o i off=>cases hp
 |fx o s =>
  simp only at hp
  obtain⟨base,n,cap,hL,ho,rfl⟩:=h
  cases hob:ow[o]? with
  |none=>rw[hob]at hp;cases hp
  |some ob =>
   rw[hob]at hp
   cases ob<;>(try simp only at hp)<;>try (cases hp;done)
   rename_i ver' sh' xs
   cases hv:(sh==sh') with
   |false=>rw[hv]at hp;cases hp
   |true =>
    rw[hv]at hp
    simp only[zA,zE]at hp
    subst hp
    have e:=beq_iff_eq.1 hv
    subst e
    obtain⟨rfl,rfl,r1,r2,r3⟩:=inv.obs o _ _ hob hL
    rcases r3 with r3 | ⟨b,o0,cs,t,e,hh,hfit,hx⟩
    ·exact⟨base,xs.length,cap,0,0,rfl,rfl,r1,r2,λ h0=>by omega,λ i j hi _=>by omega⟩
    ·refine⟨base,xs.length,cap,b,o0,rfl,rfl,r1,r2,λ _=>e,λ i j hi hj=> ?_⟩
     obtain⟨u,h1,h2,h3⟩:=hx i j hi hj
     exact⟨u,by simp[memC,World.cell?,hh,h1],h2,h3⟩
 |view o ver sb =>
  simp only at hp
  cases hob:ow[o]? with
  |none=>rw[hob]at hp;cases hp
  |some ob =>
   rw[hob]at hp
   cases ob<;>(try simp only at hp)<;>try (cases hp;done)
   rename_i sl ver' sh' xs
   cases hv:(ver==ver' &&sh==sh') with
   |false=>rw[hv]at hp;cases hp
   |true =>
    rw[hv]at hp
    simp only[zA,zE]at hp
    subst hp
    simp only[zF,beq_iff_eq]at hv
    obtain⟨rfl,rfl⟩:=hv
    exact(zRG inv h hob).1
 |agg cs=>cases hp
 |own o off=>cases hp
 |mp o=>cases hp
 |fnv f fs cs=>cases hp
 |tupA as=>cases hp
 |elem o ver i off=>cases hp
end
end Go.Ab

namespace Go.Ab
open Go.RowKit (Below)
variable [GL:Gl]
def CellsOf(S:Pr) (cs:Nat->Option Value) (sh:Nat) (xs:List PV):Prop :=
 ∀(i j:Nat),i<xs.length->j<szOf sh->∃ u,cs (i*szOf sh+j)=some u/\u.oneCell' =true/\∀(x p:PV),xs[i]? =some x->x.cells[j]? =some p->VP S u p
theorem CellsOf.mono{S S' :Pr} {cs:Nat->Option Value} {sh:Nat} {xs:List PV} (h:CellsOf S cs sh xs) (hS:S.le S'):CellsOf S' cs sh xs:=λ i j hi hj=>by
 obtain⟨u,h1,h2,h3⟩:=h i j hi hj
 exact⟨u,h1,h2,λ x p hx hp=>(h3 x p hx hp).mono hS⟩
theorem CellsOf.append{S:Pr} {as bs:List Value} {sh:Nat} {xs ys:List PV} (hl:as.length=xs.length*szOf sh) (h:CellsOf S (λ j=>as[j]?) sh xs) (k:CellsOf S (λ j=>bs[j]?) sh ys) :
 CellsOf S (λ j=>(as++bs)[j]?) sh (xs++ys):=λ i j hi hj=>by
 by_cases hx:i<xs.length
 ·obtain⟨u,h1,h2,h3⟩:=h i j hx hj
  have hlt:=(zQ.1 h1).1
  exact⟨u,by show(as++bs)[_]? =_;rw[zAW hlt];exact h1,h2,λ x p hxx hp=>h3 x p (by rw[zAW hx]at hxx;exact hxx) hp⟩
 ·have hi2:i-xs.length<ys.length:=by simp at hi;omega
  obtain⟨u,h1,h2,h3⟩:=k (i-xs.length) j hi2 hj
  have e:i*szOf sh+j=as.length+((i-xs.length)*szOf sh+j):=by
   rw[hl,<-Nat.add_assoc,<-zAw];congr 2;omega
  exact⟨u,by show(as++bs)[_]? =_;rw[e,zAO (by omega),Nat.add_sub_cancel_left];exact h1,h2,
   λ x p hxx hp=>h3 x p (by rw[zAO (by omega)]at hxx;exact hxx) hp⟩
theorem RowAt.list{w:World} {S:Pr} {v:Value} {sh:Nat} {ys:List PV} (h:RowAt (memC w) S v sh ys):∃(base:Option Addr) (cap:Nat) (news:List Value),
 v= .slice base ys.length cap/\ys.length<=cap/\news.length=ys.length*szOf sh/\(∀ u∈news,u.oneCell' =true)/\CellsOf S (λ j=>news[j]?) sh ys /\
 (0<ys.length->∃ a,base=some a/\a.spot=none/\∀(j:Nat) (u:Value),news[j]? =some u->w.cell? (a.add j)=some u):=by
 obtain⟨base,n,cap,b,o,rfl,rfl,hc,hs,hb,hx⟩:=h
 let f:Nat->Value:=λ k=>(w.cell? ⟨b,o+k,none⟩).getD undef
 have hf:∀ k,k<ys.length*szOf sh->∃ i j,i<ys.length/\j<szOf sh/\k=i*szOf sh+j:=λ k hk=>by
  have hz:0<szOf sh:=Nat.pos_of_ne_zero λ e=>by rw[e]at hk;simp at hk
  refine⟨k / szOf sh,k % szOf sh,(Nat.div_lt_iff_lt_mul hz).2 hk,Nat.mod_lt _ hz,?_⟩
  rw[Nat.mul_comm];exact(Nat.div_add_mod _ _).symm
 have hg:∀ k,k<ys.length*szOf sh->((List.range (ys.length*szOf sh)).map f)[k]? =some (f k):=λ k hk=>by
  rw[zN,List.getElem?_range hk];rfl
 refine⟨base,cap,(List.range (ys.length*szOf sh)).map f,rfl,hc,by simp,λ u hu=> ?_,λ i j hi hj=> ?_,λ h0=>⟨⟨b,o,none⟩,hb h0,rfl,λ k u hu=> ?_⟩⟩
 ·simp only[zAh,List.mem_range]at hu
  obtain⟨k,hk,rfl⟩:=hu
  obtain⟨i,j,hi,hj,rfl⟩:=hf k hk
  obtain⟨u,h1,h2,_⟩:=hx i j hi hj
  have h1' :w.cell? ⟨b,o+(i*szOf sh+j),none⟩=some u:=by rw[<- Nat.add_assoc];exact h1
  simp only[f,h1'];exact h2
 ·obtain⟨u,h1,h2,h3⟩:=hx i j hi hj
  have h1' :w.cell? ⟨b,o+(i*szOf sh+j),none⟩=some u:=by rw[<- Nat.add_assoc];exact h1
  have hk:i*szOf sh+j<ys.length*szOf sh:=by
   have:(i+1)*szOf sh<=ys.length*szOf sh:=Nat.mul_le_mul_right _ hi
   rw[zAw,Nat.one_mul]at this;omega
  exact⟨u,by show((List.range (ys.length*szOf sh)).map f)[i*szOf sh+j]? =_;rw[hg _ hk];simp only[f,h1',Option.getD_some],h2,h3⟩
 ·have hk:k<ys.length*szOf sh:=by have:=(zQ.1 hu).1;simpa using this
  rw[hg k hk]at hu
  simp only[zE]at hu
  subst hu
  obtain⟨i,j,hi,hj,rfl⟩:=hf k hk
  obtain⟨u,h1,_⟩:=hx i j hi hj
  have h1' :w.cell? ⟨b,o+(i*szOf sh+j),none⟩=some u:=by rw[<- Nat.add_assoc];exact h1
  rw[zDB,h1'];simp only[f,h1',Option.getD_some]
section
variable {P:Program} {c:Cfg} {w0:Base} {w:World} {S0 S:Pr} {L:List Loc} {ow:List Ob}
theorem zMS(inv:Inv w0 S0 S L ow w) {cs:Array Value} {sh n cap:Nat} {xs:List PV} (t:TypeId) (hn:xs.length=n) (hc:n<=cap) (hs:∀ x∈xs,x.okSh sh=true)
 (hx:CellsOf S (λ j=>cs[j]?) sh xs) :
 Inv w0 S0 (S.with w.heap.size cs) L ow (w.alloc (.cells cs t))/\S.le (S.with w.heap.size cs)/\VP (S.with w.heap.size cs) (.slice (some ⟨w.heap.size,0,none⟩) n cap) (.slice sh xs):=by
 refine⟨zS5 inv cs t,zO8 inv cs,RowAt.vp ⟨_,n,cap,w.heap.size,0,rfl,hn,hc,hs,λ _=>rfl,λ i j hi hj=> ?_⟩⟩
 obtain⟨u,h1,h2,h3⟩:=hx i j (by omega) hj
 exact⟨u,by unfold Pr.with;rw[if_pos rfl,Nat.zero_add];exact zKF h1 h2,h2,λ y p hy hp=>(h3 y p hy hp).mono (zO8 inv cs)⟩
theorem zKG(inv:Inv w0 S0 S L ow w) {cs:Array Value} {sh n cap:Nat} {xs:List PV} (t:TypeId) (hn:xs.length=n) (hc:n<=cap) (hfit:cap*szOf sh<=cs.size) (hs:∀ x∈xs,x.okSh sh=true)
 (hx:CellsOf S (λ j=>cs[j]?) sh xs) :
 ∃ L',Inv w0 S0 S L' (ow++[.row false 0 sh xs]) (w.alloc (.cells cs t))/\Evo S L ow S L' (ow++[.row false 0 sh xs]) /\
  VA S L' (ow++[.row false 0 sh xs]) (.slice (some ⟨w.heap.size,0,none⟩) n cap) (.view ow.length 0 none):=by
 obtain⟨h1,h2⟩:=inv.push (ob:= .row false 0 sh xs) (l:= .row (some ⟨w.heap.size,0,none⟩) cap) (zDx w (.cells cs t)) (Pr.le_refl S) (λ _ _ _=>rfl) (zEw inv _)
  ⟨by omega,hs,.inr ⟨w.heap.size,0,cs,t,rfl,by show(w.heap.push _)[w.heap.size]? =_;simp,by omega,λ i j hi hj=>by
   obtain⟨u,k1,k2,k3⟩:=hx i j hi hj
   exact⟨u,by rw[Nat.zero_add];exact k1,k2,k3,λ hz=>by cases hz⟩⟩⟩
  (λ b hb=>by
   by_cases h0:cap=0
   ·simp[zZ,h0]at hb
   ·simp[zZ,h0]at hb;subst hb
    exact⟨zM _,by simp,λ j v hv=>(zJP inv j v hv).elim⟩)
 refine⟨_,h1,h2,⟨_,n,cap,rfl⟩,?_⟩
 simp only[zAO (zM _),Nat.sub_self,zAS]
 exact⟨zM _,λ _=>⟨_,cap,by rw[<- inv.len];simp;rfl,by rw[hn]⟩⟩
end
end Go.Ab

namespace Go.Ab
open Go.RowKit (Below)
variable [GL:Gl]
def Pr.add(S:Pr) (b lo hi:Nat) (cs:Array Value):Pr:=λ b' o=>if b' =b/\lo<=o/\o<hi then zQA cs[o]? else S b' o
theorem zY9{S:Pr} {w:World} {b lo hi:Nat} {cs:Array Value} {t:TypeId} (hp:∀ b o v,S b o=some v->memV w b o=some v) (hh:w.heap[b]? =some (.cells cs t (0,0))) :
 S.le (S.add b lo hi cs):=λ b' o v h=>by
 unfold Pr.add
 split
 ·rename_i e
  obtain⟨rfl,_⟩:=e
  have:=hp _ _ _ h
  rwa [zHx hh]at this
 ·exact h
theorem zRH{S:Pr} {w:World} {b lo hi:Nat} {cs:Array Value} {t:TypeId} (hp:∀ b o v,S b o=some v->memV w b o=some v) (hh:w.heap[b]? =some (.cells cs t (0,0))) :
 ∀ b' o v,S.add b lo hi cs b' o=some v->memV w b' o=some v:=λ b' o v h=>by
 unfold Pr.add at h
 split at h
 ·rename_i e
  obtain⟨rfl,_⟩:=e
  rw[zHx hh];exact h
 ·exact hp _ _ _ h
theorem zOa{S:Pr} {b lo hi:Nat} {cs:Array Value} {b' o:Nat} (h:b' ≠b):S.add b lo hi cs b' o=S b' o:=by
 unfold Pr.add;rw[if_neg (λ e=>h e.1)]
section
variable {P:Program} {c:Cfg} {w0:Base} {w:World} {S0 S:Pr} {L:List Loc} {ow:List Ob}
theorem zIW(inv:Inv w0 S0 S L ow w) {w' :World} {o ver sh:Nat} {sl:Bool} {xs zs:List PV} {l:Loc} (hob:ow[o]? =some (.row sl ver sh xs)) (hL:L[o]? =some l)
 (hsz:w.heap.size<=w'.heap.size) (hos:w'.os=w.os) (htape:w'.tape=w.tape) (hout:w'.output=w.output)
 (hb:∀ b,b<w.heap.size->b∉zZ (.row sl ver sh xs) l->w'.heap[b]? =w.heap[b]?)
 (hp:∀ b o v,S b o=some v->memV w' b o=some v)
 {base:Option Addr} {cap:Nat} (hc:zs.length<=cap) (hs:∀ z∈zs,z.okSh sh=true)
 (hx:cap=0∨∃(b o0:Nat) (cs:Array Value) (t:TypeId),base=some ⟨b,o0,none⟩/\w'.heap[b]? =some (.cells cs t (0,0))/\o0+cap*szOf sh<=cs.size /\
  CellsOf S (λ j=>cs[o0+j]?) sh zs/\(w.heap.size<=b∨b∈zZ (.row sl ver sh xs) l)/\b<w'.heap.size/\∀ j v,S b j=some v->sl=true/\j<o0+zs.length*szOf sh) :
 (∃ S' L',Inv w0 S0 S' L' (ow.set o (.row sl (ver+1) sh zs)) w' /\Evo S L ow S' L' (ow.set o (.row sl (ver+1) sh zs))/\VA S' L' (ow.set o (.row sl (ver+1) sh zs)) (.slice base zs.length cap) (.view o (ver+1) none)) /\
 (∃ S' L',Inv w0 S0 S' L' (ow.set o .dead) w' /\Evo S L ow S' L' (ow.set o .dead)/\VP S' (.slice base zs.length cap) (.slice sh zs)):=by
 have hlt:o<ow.length:=(zQ.1 hob).1
 have hltL:o<L.length:=(zQ.1 hL).1
 have hrow:∃ b0 k0,l= .row b0 k0:=by
  have:=inv.obs o _ _ hob hL
  cases l with
  |grp b rs=>exact this.elim
  |fix s b n k=>exact this.elim
  |blk b=>exact this.elim
  |row b0 k0=>exact⟨_,_,rfl⟩
 obtain⟨b0,k0,rfl⟩:=hrow
 rcases hx with rfl | ⟨b,o0,cs,t,rfl,hh,hfit,hcell,hown,hblt,hSb⟩
 ·
  have hz:zs=[]:=zD3 (by omega)
  subst hz
  constructor
  ·have hE:Evo S L ow S (L.set o (.row base 0)) (ow.set o (.row sl (ver+1) sh [])):=Evo.turn hob hL (Pr.le_refl S) (λ _ h k=>by cases h;cases k) ⟨rfl,by omega,λ e=>by omega⟩
   refine⟨S,_,inv.turn hob hL hE hsz hos htape hout hb (λ _ _ _ _=>rfl) hp ⟨zM _,by simp,.inl rfl⟩ (λ b hb=>by simp[zZ]at hb),hE,⟨_,_,_,rfl⟩,?_⟩
   rw[zAJ hlt]
   exact⟨zM _,λ _=>⟨base,0,by rw[zAJ hltL],rfl⟩⟩
  ·have hE:Evo S L ow S (L.set o (.row base 0)) (ow.set o .dead):=Evo.turn hob hL (Pr.le_refl S) (λ _ h k=>by cases h;cases k) trivial
   exact⟨S,_,inv.turn hob hL hE hsz hos htape hout hb (λ _ _ _ _=>rfl) hp trivial (λ b hb=>by simp[zZ]at hb),hE,zQS (sh' :=sh) ⟨base,rfl⟩⟩
 ·
  have hcb:∀(i j:Nat),i<zs.length->j<szOf sh->∃ u,cs[o0+i*szOf sh+j]? =some u/\u.oneCell' =true/\∀(x p:PV),zs[i]? =some x->x.cells[j]? =some p->VP S u p:=λ i j hi hj=>by
   obtain⟨u,h1,h2,h3⟩:=hcell i j hi hj
   exact⟨u,by rw[Nat.add_assoc];exact h1,h2,h3⟩
  have hrange:∀(i j:Nat),i<zs.length->j<szOf sh->o0<=o0+i*szOf sh+j/\o0+i*szOf sh+j<o0+zs.length*szOf sh:=λ i j hi hj=>by
   have:(i+1)*szOf sh<=zs.length*szOf sh:=Nat.mul_le_mul_right _ hi
   rw[zAw,Nat.one_mul]at this
   omega
  let S1:Pr:=S.add b o0 (o0+zs.length*szOf sh) cs
  have hle1:S.le S1:=zY9 hp hh
  have hp1:∀ b o v,S1 b o=some v->memV w' b o=some v:=zRH hp hh
  have hS1:∀ b' j,b' <w.heap.size->b' ∉zZ (.row sl ver sh xs) (.row b0 k0)->S1 b' j=S b' j:=λ b' j hlt' hne=>zOa (λ e=>by
   subst e
   rcases hown with h | h
   ·omega
   ·exact hne h)
  have hS1b:∀(i j:Nat) (u:Value),i<zs.length->j<szOf sh->cs[o0+i*szOf sh+j]? =some u->u.oneCell' =true->S1 b (o0+i*szOf sh+j)=some u:=λ i j u hi hj hu h1=>by
   show Pr.add S b o0 _ cs b _=_
   unfold Pr.add
   rw[if_pos ⟨rfl,hrange i j hi hj⟩];exact zKF hu h1
  have hbound:∀ j v,S1 b j=some v->j<o0+zs.length*szOf sh:=λ j v hv=>by
   have hv' :Pr.add S b o0 (o0+zs.length*szOf sh) cs b j=some v:=hv
   unfold Pr.add at hv'
   split at hv'
   ·rename_i e;exact e.2.2
   ·exact(hSb j v hv').2
  constructor
  ·by_cases hcap:cap=0
   ·have hz:zs=[]:=zD3 (by omega)
    subst hz;subst hcap
    have hE:Evo S L ow S (L.set o (.row (some ⟨b,o0,none⟩) 0)) (ow.set o (.row sl (ver+1) sh [])):=Evo.turn hob hL (Pr.le_refl S) (λ _ h k=>by cases h;cases k) ⟨rfl,by omega,λ e=>by omega⟩
    refine⟨S,_,inv.turn hob hL hE hsz hos htape hout hb (λ _ _ _ _=>rfl) hp ⟨zM _,by simp,.inl rfl⟩ (λ b hb=>by simp[zZ]at hb),hE,⟨_,_,_,rfl⟩,?_⟩
    rw[zAJ hlt]
    exact⟨zM _,λ _=>⟨_,0,by rw[zAJ hltL],rfl⟩⟩
   have mine:zZ (.row sl (ver+1) sh zs) (.row (some ⟨b,o0,none⟩) cap)=[b]:=by simp[zZ,hcap]
   cases sl with
   |false =>
    have hE:Evo S L ow S (L.set o (.row (some ⟨b,o0,none⟩) cap)) (ow.set o (.row false (ver+1) sh zs)):=Evo.turn hob hL (Pr.le_refl S) (λ _ h k=>by cases h;cases k) ⟨rfl,by omega,λ e=>by omega⟩
    refine⟨S,_,inv.turn hob hL hE hsz hos htape hout hb (λ _ _ _ _=>rfl) hp ⟨hc,hs,.inr ⟨b,o0,cs,t,rfl,hh,hfit,λ i j hi hj=> ?_⟩⟩ (λ b' hb' => ?_),hE,⟨_,_,_,rfl⟩,?_⟩
    ·obtain⟨u,h1,h2,h3⟩:=hcb i j hi hj
     exact⟨u,h1,h2,h3,λ hz=>by cases hz⟩
    ·rw[mine]at hb'
     simp only[zBf]at hb';subst hb'
     exact⟨hown,hblt,λ j v hv=>by have:=(hSb j v hv).1;cases this⟩
    ·rw[zAJ hlt]
     exact⟨zM _,λ _=>⟨_,cap,by rw[zAJ hltL],rfl⟩⟩
   |true =>
    have hE:Evo S L ow S1 (L.set o (.row (some ⟨b,o0,none⟩) cap)) (ow.set o (.row true (ver+1) sh zs)):=Evo.turn hob hL hle1 (λ _ h k=>by cases h;cases k) ⟨rfl,by omega,λ e=>by omega⟩
    refine⟨S1,_,inv.turn hob hL hE hsz hos htape hout hb hS1 hp1 ⟨hc,hs,.inr ⟨b,o0,cs,t,rfl,hh,hfit,λ i j hi hj=> ?_⟩⟩ (λ b' hb' => ?_),hE,⟨_,_,_,rfl⟩,?_⟩
    ·obtain⟨u,h1,h2,h3⟩:=hcb i j hi hj
     exact⟨u,h1,h2,λ x p hx hp=>(h3 x p hx hp).mono hle1,λ _=>hS1b i j u hi hj h1 h2⟩
    ·rw[mine]at hb'
     simp only[zBf]at hb';subst hb'
     exact⟨hown,hblt,λ j v hv=>⟨rfl,hbound j v hv⟩⟩
    ·rw[zAJ hlt]
     exact⟨zM _,λ _=>⟨_,cap,by rw[zAJ hltL],rfl⟩⟩
  ·have hE:Evo S L ow S1 (L.set o (.row (some ⟨b,o0,none⟩) cap)) (ow.set o .dead):=Evo.turn hob hL hle1 (λ _ h k=>by cases h;cases k) trivial
   refine⟨S1,_,inv.turn hob hL hE hsz hos htape hout hb hS1 hp1 trivial (λ b hb=>by simp[zZ]at hb),hE,RowAt.vp ⟨_,zs.length,cap,b,o0,rfl,rfl,hc,hs,λ _=>rfl,λ i j hi hj=> ?_⟩⟩
   obtain⟨u,h1,h2,h3⟩:=hcb i j hi hj
   exact⟨u,hS1b i j u hi hj h1 h2,h2,λ y p hy hp=>(h3 y p hy hp).mono hle1⟩
theorem zJQ{w:World} (size n:Nat) (b:Option Addr) (l k:Nat) (cs:List Value) (hl:cs.length=n*size) (h:0<n->∃ a,b=some a/\∀(j:Nat) (u:Value),cs[j]? =some u->w.cell? (a.add j)=some u) :
 (Builtin.firstCells size n (.slice b l k)).run P w= .ok cs.toArray w:=by
 by_cases hn:n=0
 ·subst hn
  have:cs=[]:=zD3 (by simpa using hl)
  subst this
  cases b<;>simp[Builtin.firstCells,loadCells,loadCellsFrom]
 ·obtain⟨a,rfl,ha⟩:=h (by omega)
  exact run_firstCells_some w size n a l k cs hl ha
theorem zRI{z:Array Value} {need cap:Nat} (h:need<=cap) (olds news:List Value) (size:Nat) (hz:z.size=size) (hl:olds.length+news.length=need*size) :
 (olds.toArray++news.toArray++Builtin.zeroCells z (cap-need)).size=cap*size:=by
 simp only[Array.size_append,List.size_toArray,size_zeroCells,hz]
 rw[hl,<-zAw]
 congr 1;omega
variable (hT:TyOK P c)
theorem zKh(hT:TyOK P c) {t u ty e:TypeId} (ht:(c.at_ t).k= .slice e) (hu:∃ d,P.underlying u=some d/\((∃ e',d= .slice e')∨d= .string))
 (base:Option Addr) (sLen sCap:Nat) (olds:List Value) (hlo:olds.length=sLen*szOf (c.sh e)) (hold:0<sLen->∃ a,base=some a/\∀(j:Nat) (x:Value),olds[j]? =some x->w.cell? (a.add j)=some x)
 (vx:Value) (n:Nat) (news:List Value) (hl:news.length=n*szOf (c.sh e)) (hlen:Builtin.lenOf vx=pure n) (hfc:∀ w',(w' =w∨w' =w.drew)->(Builtin.firstCells (szOf (c.sh e)) n vx).run P w' = .ok news.toArray w')
 (hg:sCap<sLen+n) (h63:sLen+n<=4294967296) (hby:(c.at_ e).by_<=4096) :
 ∃ cap cs,sLen+n<=cap/\cs.size=cap*szOf (c.sh e)/\(∀ j,j<olds.length+news.length->cs[j]? =(olds++news)[j]?) /\
  (Builtin.append_ #[t,u] ty #[.slice base sLen sCap,vx]).run P w= .ok (.slice (some ⟨w.heap.size,0,none⟩) (sLen+n) cap) (w.drew.alloc (.cells cs e)):=by
 have hk:=hT.kind t
 rw[ht]at hk
 obtain⟨hut,hke⟩:=hk
 obtain⟨d2,hk2,hni⟩:=hu
 obtain⟨i,hi,hisz,hiby,hpos,z,hz,hzok⟩:=hT.info e hke
 have hzs:z.cells.size=szOf (c.sh e):=by rw[hzok.1,hzok.2.1]
 have hn:¬ (sLen+n<=sCap):=by omega
 have hbytes:Builtin.nextslicecap (sLen+n) sCap*i.bytes<=281474976710656:=growslice_fits (by omega) (by
  rw[hiby]
  calc (sLen+n)*(c.at_ e).by_<=4294967296*4096:=Nat.mul_le_mul h63 hby
   _<=140737488355328:=by decide)
 have h63' :¬ (9223372036854775807<((sLen:Int)+(n:Int))):=by omega
 have h48' :¬ (281474976710656<Builtin.nextslicecap (sLen+n) sCap*i.bytes):=by omega
 have hf1:=zJQ (P:=P) (w:=w.drew) (szOf (c.sh e)) sLen base sLen sCap olds hlo (by simpa using hold)
 have hf2:=hfc w.drew (.inr rfl)
 have hge:=grownCap_ge w (sLen+n) sCap e
 refine⟨grownCap w (sLen+n) sCap e,olds.toArray++news.toArray++Builtin.zeroCells z.cells (grownCap w (sLen+n) sCap e-(sLen+n)),hge,?_,?_,?_⟩
 ·exact zRI hge olds news _ hzs (by rw[hlo,hl,zAw])
 ·intro j hj
  have:(olds.toArray++news.toArray).size=olds.length+news.length:=by simp
  rw[Array.getElem?_append_left (by rw[this];exact hj)]
  rw[<- List.getElem?_toArray];simp
 ·rcases hni with⟨e',rfl⟩ | rfl <;>
  ·simp[Builtin.append_,run_underlying hut,run_underlying hk2,sizeOf,typeInfo,zeroValue,hi,hz,hlen,hn,h63',h48',Question.forced,hisz,hf1,hf2,newRow,grownCap]
   rw[<- List.append_toArray,Array.append_assoc]
theorem zIX(hT:TyOK P c) {t u ty e:TypeId} (ht:(c.at_ t).k= .slice e) (hu:∃ d,P.underlying u=some d/\((∃ e',d= .slice e')∨d= .string))
 (base:Option Addr) (sLen sCap:Nat) (vx:Value) (n:Nat) (news:List Value) (hl:news.length=n*szOf (c.sh e)) (h1:∀ x∈news,x.oneCell' =true)
 (hlen:Builtin.lenOf vx=pure n) (hfc:∀ w',(w' =w∨w' =w.drew)->(Builtin.firstCells (szOf (c.sh e)) n vx).run P w' = .ok news.toArray w')
 (hg:sLen+n<=sCap) (hb:news≠[]->∃ b o cur t',base=some ⟨b,o,none⟩/\w.heap[b]? =some (.cells cur t' (0,0))/\o+sLen*szOf (c.sh e)+news.length<=cur.size) :
 (Builtin.append_ #[t,u] ty #[.slice base sLen sCap,vx]).run P w= .ok (.slice base (sLen+n) sCap)
  (match base with | some a=>if news=[]then w else w.setRow a.block (zDw ((match w.heap[a.block]? with | some (.cells cur _ _)=>cur | _=> #[])) (a.off+sLen*szOf (c.sh e)) news) | none=>w):=by
 have hk:=hT.kind t
 rw[ht]at hk
 obtain⟨hut,hke⟩:=hk
 obtain⟨d2,hk2,hni⟩:=hu
 obtain⟨i,hi,hisz,hiby,hpos,z,hz,hzok⟩:=hT.info e hke
 have hf2:=hfc w (.inl rfl)
 by_cases hnil:news=[]
 ·subst hnil
  cases base with
  |none=>rcases hni with⟨e',rfl⟩ | rfl<;>simp[Builtin.append_,run_underlying hut,run_underlying hk2,sizeOf,typeInfo,hi,hlen,hg,hisz,hf2]
  |some a=>rcases hni with⟨e',rfl⟩ | rfl<;>simp[Builtin.append_,run_underlying hut,run_underlying hk2,sizeOf,typeInfo,hi,hlen,hg,hisz,hf2,storeCells]
 ·obtain⟨b,o,cur,t',rfl,hh,hfit⟩:=hb hnil
  have hst:=run_storeCells_at P b (o+sLen*szOf (c.sh e)) t' news 0 cur w hh (by simpa using hfit) h1
  simp only[Nat.add_zero]at hst
  rcases hni with⟨e',rfl⟩ | rfl<;>simp[Builtin.append_,run_underlying hut,run_underlying hk2,sizeOf,typeInfo,hi,hlen,hg,hisz,hf2,zDB,hst,hnil,hh,zDw]
end
end Go.Ab

namespace Go.Ab
open Go.RowKit (Below)
variable [GL:Gl]
theorem zD8{R:Type} (sh:Nat) (ow:List Ob) (a:AV) (k:List PV->Option R):zHp sh ow a k=(zHp sh ow a some).bind k:=by
 unfold zHp
 cases a with
 |pv p=>simp only;cases p.asSlice sh<;>rfl
 |view o ver s =>
  simp only
  cases ow[o]? with
  |none=>rfl
  |some ob =>
   cases ob<;>try rfl
   simp only
   cases (_&&_)<;>rfl
 |sl b sh' xs=>simp only;cases (sh==sh')<;>rfl
 |fx o s =>
  simp only
  cases ow[o]? with
  |none=>rfl
  |some ob =>
   cases ob<;>try rfl
   rename_i ver sh' xs
   simp only
   cases (sh==sh')<;>rfl
 |_=>rfl
theorem CellsOf.shift{S:Pr} {cs:Array Value} {ls:List Value} {o sh:Nat} {zs:List PV} (h:CellsOf S (λ j=>ls[j]?) sh zs) (hc:∀ j,j<ls.length->cs[o+j]? =ls[j]?) :
 CellsOf S (λ j=>cs[o+j]?) sh zs:=λ i j hi hj=>by
 obtain⟨u,h1,h2,h3⟩:=h i j hi hj
 exact⟨u,by show cs[o+(i*szOf sh+j)]? =_;rw[hc _ (zQ.1 h1).1];exact h1,h2,h3⟩
section
variable {P:Program} {c:Cfg} {w0:Base} {w:World} {S0 S:Pr} {L:List Loc} {ow:List Ob}
theorem zL7(hT:TyOK P c) (inv:Inv w0 S0 S L ow w) {t u e ty:TypeId} (ht:(c.at_ t).k= .slice e) (hu:∃ d,P.underlying u=some d/\((∃ e',d= .slice e')∨d= .string)) (hby:(c.at_ e).by_<=4096)
 {s:AV} {vs vx:Value} (hs:VA S L ow vs s) {ys:List PV} {news:List Value} (hysh:∀ y∈ys,y.okSh (c.sh e)=true) (hnl:news.length=ys.length*szOf (c.sh e)) (hn1:∀ x∈news,x.oneCell' =true)
 (hnc:CellsOf S (λ j=>news[j]?) (c.sh e) ys) (hlx:Builtin.lenOf vx=pure ys.length) (hfc:∀ w',(w' =w∨w' =w.drew)->(Builtin.firstCells (szOf (c.sh e)) ys.length vx).run P w' = .ok news.toArray w') {mk:Bool} {av:AV} {ow' :List Ob}
 (h:zFN (c.sh e) mk ow s ys (λ a o=>some (a,o))=some (av,ow')) :
 ∃ v w' S' L',(Builtin.append_ #[t,u] ty #[vs,vx]).run P w= .ok v w' /\Inv w0 S0 S' L' ow' w' /\Evo S L ow S' L' ow' /\VA S' L' ow' v av:=by
 unfold zFN at h
 have invD:Inv w0 S0 S L ow w.drew:=inv.drewN 1
 have hz0:ys=[]->news=[]:=λ e=>zD3 (by rw[hnl,e];simp)
 cases s with
 |nil sh0 =>
  obtain⟨a,rfl⟩:=id hs
  simp only at h
  cases hd:decide (ys.length<=lim) with
  |false=>rw[hd]at h;cases h
  |true =>
  rw[hd]at h
  have hlim:ys.length<=4294967296:=zAM hd
  simp only[zA]at h
  by_cases hy:ys=[]
  ·have hnn:=hz0 hy
   subst hy;subst hnn
   have hr:=zIX (P:=P) (w:=w) (ty:=ty) hT ht hu a 0 0 vx 0 [] (by simp) (by simp) hlx hfc (zM _) (λ h=>absurd rfl h)
   have hr' :(Builtin.append_ #[t,u] ty #[.slice a 0 0,vx]).run P w= .ok (.slice a 0 0) w:=by rw[hr];cases a<;>simp
   cases mk with
   |true =>
    simp only[zA,zE,zAl]at h
    obtain⟨rfl,rfl⟩:=h
    obtain⟨L',k1,k2,k3⟩:=zRE (sh:=c.sh e) inv (v:= .slice a 0 0) ⟨a,rfl⟩
    exact⟨_,w,S,L',hr',k1,k2,k3⟩
   |false =>
    simp only[zC,zE,zAl]at h
    obtain⟨rfl,rfl⟩:=h
    exact⟨_,w,S,L,hr',inv,Evo.refl _ _ _,zQS (sh' :=0) ⟨a,rfl⟩⟩
  ·have hpos:0<ys.length:=Nat.pos_of_ne_zero λ e=>hy (zD3 e)
   obtain⟨cap,cs,hcap,hcsz,hcs,hr⟩:=zKh (P:=P) (w:=w) (ty:=ty) hT ht hu a 0 0 [] (by simp) (by simp) vx ys.length news hnl hlx hfc (by omega) (by omega) hby
   have hcell:CellsOf S (λ j=>cs[j]?) (c.sh e) ys:=λ i j hi hj=>by
    obtain⟨u,h1,h2,h3⟩:=hnc i j hi hj
    have hlt:=(zQ.1 h1).1
    exact⟨u,by show cs[i*szOf (c.sh e)+j]? =_;rw[hcs _ (by simpa using hlt)];simpa using h1,h2,h3⟩
   simp only[Nat.zero_add]at hr hcap
   cases mk with
   |true =>
    simp only[zA,zE,zAl]at h
    obtain⟨rfl,rfl⟩:=h
    obtain⟨L',k1,k2,k3⟩:=zKG (cap:=cap) invD e rfl hcap (by omega) hysh hcell
    exact⟨_,_,S,L',hr,k1,k2,k3⟩
   |false =>
    simp only[zC,zE,zAl]at h
    obtain⟨rfl,rfl⟩:=h
    obtain⟨k1,k2,k3⟩:=zMS (cap:=cap) invD e rfl hcap hysh hcell
    exact⟨_,_,_,L,hr,k1,Evo.grow k2 _ _,k3⟩
 |view o ver sb =>
  simp only at h
  cases hob:ow[o]? with
  |none=>rw[hob]at h;cases h
  |some ob =>
  rw[hob]at h
  cases ob<;>(try simp only at h)<;>try (cases h;done)
  rename_i sl ver' sh' xs
  cases hc:(ver==ver' &&c.sh e==sh' &&(!sl || sb.isNone)&&decide ((AV.sub xs sb).length+ys.length<=lim)) with
  |false=>rw[hc]at h;cases h
  |true =>
  rw[hc]at h
  simp only[zF,beq_iff_eq,zU]at hc
  obtain⟨⟨⟨hver,hsh⟩,hslb⟩,hlim⟩:=hc
  subst hver;subst hsh
  have hlim' :(AV.sub xs sb).length+ys.length<=4294967296:=hlim
  simp only[zA]at h
  have hv1:VA1 S L ow vs (.view o ver sb):=hs
  obtain⟨hrowS,_⟩:=zRG inv hv1 hob
  have hold:=hrowS.list
  obtain⟨ob_,ocap,olds,rfl,hocap,holn,hol1,holc,hola⟩:=hold
  have hola' :0<(AV.sub xs sb).length->∃ a,ob_=some a/\∀(j:Nat) (x:Value),olds[j]? =some x->w.cell? (a.add j)=some x:=λ h0=>by
   obtain⟨a,h1,_,h3⟩:=hola h0;exact⟨a,h1,h3⟩
  obtain⟨_,hv2⟩:=hv1
  rw[hob]at hv2
  obtain⟨base,cap0,hL,hv3⟩:=hv2.2 rfl
  obtain⟨r1,r2,r3⟩:=inv.obs o _ _ hob hL
  have hzsh:∀ z∈AV.sub xs sb++ys,z.okSh (c.sh e)=true:=λ z hz=>by
   rcases List.mem_append.1 hz with hz | hz
   ·exact r2 z (zY8 hz)
   ·exact hysh z hz
  have hall:CellsOf S (λ j=>(olds++news)[j]?) (c.sh e) (AV.sub xs sb++ys):=CellsOf.append holn holc hnc
  have close:∀(v:Value) (w' :World),(Builtin.append_ #[t,u] ty #[.slice ob_ (AV.sub xs sb).length ocap,vx]).run P w= .ok v w' ->
   (∃ S' L',Inv w0 S0 S' L' (ow.set o (.row sl (ver+1) (c.sh e) (AV.sub xs sb++ys))) w' /\Evo S L ow S' L' (ow.set o (.row sl (ver+1) (c.sh e) (AV.sub xs sb++ys))) /\
    VA S' L' (ow.set o (.row sl (ver+1) (c.sh e) (AV.sub xs sb++ys))) v (.view o (ver+1) none)) /\
   (∃ S' L',Inv w0 S0 S' L' (ow.set o .dead) w' /\Evo S L ow S' L' (ow.set o .dead)/\VP S' v (.slice (c.sh e) (AV.sub xs sb++ys))) ->
   ∃ v w' S' L',(Builtin.append_ #[t,u] ty #[.slice ob_ (AV.sub xs sb).length ocap,vx]).run P w= .ok v w' /\Inv w0 S0 S' L' ow' w' /\Evo S L ow S' L' ow' /\VA S' L' ow' v av:=λ v w' hr hh=>by
   cases mk with
   |true =>
    simp only[zA,zE,zAl]at h
    obtain⟨rfl,rfl⟩:=h
    obtain⟨S',L',k1,k2,k3⟩:=hh.1
    exact⟨v,w',S',L',hr,k1,k2,k3⟩
   |false =>
    simp only[zC,zE,zAl]at h
    obtain⟨rfl,rfl⟩:=h
    obtain⟨S',L',k1,k2,k3⟩:=hh.2
    exact⟨v,w',S',L',hr,k1,k2,k3⟩
  have hzl:(AV.sub xs sb++ys).length=(AV.sub xs sb).length+ys.length:=zAK
  by_cases hroom:(AV.sub xs sb).length+ys.length<=ocap
  ·
   by_cases hcap0:ocap=0
   ·
    have hy:ys=[]:=zD3 (by omega)
    have hxs0:AV.sub xs sb=[]:=zD3 (by omega)
    have hnn:=hz0 hy
    have hr:=zIX (P:=P) (w:=w) (ty:=ty) hT ht hu ob_ (AV.sub xs sb).length ocap vx ys.length news hnl hn1 hlx hfc hroom (λ h=>absurd hnn h)
    have hr' :(Builtin.append_ #[t,u] ty #[.slice ob_ (AV.sub xs sb).length ocap,vx]).run P w= .ok (.slice ob_ ((AV.sub xs sb).length+ys.length) ocap) w:=by
     rw[hr];cases ob_<;>simp[hnn]
    refine close _ _ hr' ?_
    have:=zIW (w' :=w) (zs:=AV.sub xs sb++ys) (base:=ob_) (cap:=ocap) inv hob hL (zM _) rfl rfl rfl (λ _ _ _=>rfl) inv.prot (by rw[hzl];exact hroom) hzsh (.inl hcap0)
    rw[hzl]at this
    exact this
   ·
    have hblk:∃ b o0 cs t',ob_=some ⟨b,o0,none⟩/\w.heap[b]? =some (.cells cs t' (0,0))/\o0+ocap*szOf (c.sh e)<=cs.size/\b∈zZ (.row sl ver (c.sh e) xs) (.row base cap0) /\
     (∀ j v,S b j=some v->sl=true/\j<o0+(AV.sub xs sb).length*szOf (c.sh e)):=by
     cases sb with
     |none =>
      simp only[Value.slice.injEq]at hv3
      obtain⟨rfl,_,rfl⟩:=hv3
      rcases r3 with r3 | ⟨b,o0,cs,t',e1,hh,hfit,_⟩
      ·exact absurd r3 hcap0
      ·have mine:b∈zZ (.row sl ver (c.sh e) xs) (.row ob_ ocap):=by simp[zZ,hcap0,e1]
       refine⟨b,o0,cs,t',e1,hh,hfit,mine,λ j v hv=> ?_⟩
       have:=(inv.own o _ _ b hob hL mine).2.2 j v hv
       rw[e1]at this
       exact this
     |some q =>
      obtain⟨lo,n⟩:=q
      simp only[Option.isNone_some,Bool.or_false,Bool.not_eq_true']at hslb
      subst hslb
      obtain⟨hle,base',hv4,hb'⟩:=hv3
      simp only[Value.slice.injEq]at hv4
      obtain⟨rfl,_,rfl⟩:=hv4
      obtain⟨b,o0,e1,e2⟩:=hb' (by omega)
      rcases r3 with r3 | ⟨b1,o1,cs,t',e3,hh,hfit,_⟩
      ·omega
      ·rw[e1]at e3
       simp only[zE,Addr.mk.injEq,and_true]at e3
       obtain⟨rfl,rfl⟩:=e3
       have hc00:cap0≠0:=by omega
       have mine:b∈zZ (.row false ver (c.sh e) xs) (.row base cap0):=by simp[zZ,hc00,e1]
       refine⟨b,o0+lo*szOf (c.sh e),cs,t',e2,hh,?_,mine,λ j v hv=> ?_⟩
       ·have:lo*szOf (c.sh e)+(cap0-lo)*szOf (c.sh e)=cap0*szOf (c.sh e):=by rw[<- zAw,Nat.add_sub_cancel' (Nat.le_of_lt (Nat.lt_of_sub_ne_zero hcap0))]
        omega
       ·have:=(inv.own o _ _ b hob hL mine).2.2 j v hv
        rw[e1]at this
        simp[mayS]at this
    obtain⟨b,o0,cs,t',rfl,hh,hfit,mine,hSb⟩:=hblk
    obtain⟨hb0,hblt,_⟩:=inv.own o _ _ b hob hL mine
    have hfit2:o0+(AV.sub xs sb).length*szOf (c.sh e)+news.length<=cs.size:=by
     have:((AV.sub xs sb).length+ys.length)*szOf (c.sh e)<=ocap*szOf (c.sh e):=Nat.mul_le_mul_right _ hroom
     rw[zAw]at this
     rw[hnl];omega
    have hr:=zIX (P:=P) (w:=w) (ty:=ty) hT ht hu (some ⟨b,o0,none⟩) (AV.sub xs sb).length ocap vx ys.length news hnl hn1 hlx hfc hroom (λ _=>⟨b,o0,cs,t',rfl,hh,hfit2⟩)
    have holds:∀(j:Nat),j<olds.length->cs[o0+j]? =olds[j]? :=λ j hj=>by
     have h0:0<(AV.sub xs sb).length:=Nat.pos_of_ne_zero λ e=>by rw[holn,e]at hj;simp at hj
     obtain⟨a,h1,h3⟩:=hola' h0
     simp only[zE]at h1;subst h1
     have hg:olds[j]? =some olds[j]:=zH hj
     have:=h3 j _ hg
     rw[zDB,cell_of_row w b _ cs t' (0,0) hh]at this
     rw[this,hg]
    by_cases hnn:news=[]
    ·have hr' :(Builtin.append_ #[t,u] ty #[.slice (some ⟨b,o0,none⟩) (AV.sub xs sb).length ocap,vx]).run P w= .ok (.slice (some ⟨b,o0,none⟩) ((AV.sub xs sb).length+ys.length) ocap) w:=by
      rw[hr];simp[hnn]
     refine close _ _ hr' ?_
     have:=zIW (w' :=w) (zs:=AV.sub xs sb++ys) (base:=some ⟨b,o0,none⟩) (cap:=ocap) inv hob hL (zM _) rfl rfl rfl (λ _ _ _=>rfl) inv.prot (by rw[hzl];exact hroom) hzsh
      (.inr ⟨b,o0,cs,t',rfl,hh,hfit,CellsOf.shift hall (λ j hj=>by rw[hnn,zBN]at hj ⊢;exact holds j hj),.inr mine,hblt,λ j v hv=>⟨(hSb j v hv).1,by
       rw[hzl,zAw];have:=(hSb j v hv).2;omega⟩⟩)
     rw[hzl]at this
     exact this
    ·have hr' :(Builtin.append_ #[t,u] ty #[.slice (some ⟨b,o0,none⟩) (AV.sub xs sb).length ocap,vx]).run P w =
      .ok (.slice (some ⟨b,o0,none⟩) ((AV.sub xs sb).length+ys.length) ocap) (w.setRow b (zDw cs (o0+(AV.sub xs sb).length*szOf (c.sh e)) news)):=by
      rw[hr];simp[hnn,hh]
     refine close _ _ hr' ?_
     have hsp:=zCl (vs:=news) hfit2
     have hSb' :∀ j v,S b j=some v->sl=true/\j<o0+(AV.sub xs sb++ys).length*szOf (c.sh e):=λ j v hv=>by
      refine⟨(hSb j v hv).1,?_⟩
      have h2:=(hSb j v hv).2
      rw[hzl,zAw];omega
     have:=zIW (w' :=w.setRow b (zDw cs (o0+(AV.sub xs sb).length*szOf (c.sh e)) news)) (zs:=AV.sub xs sb++ys) (base:=some ⟨b,o0,none⟩) (cap:=ocap) inv hob hL (by simp) rfl rfl rfl
      (λ b' hb' hne=>setRow_other _ _ _ _ (λ e' =>hne (by rw[e'];exact mine))) (zIU inv hh (λ j v hv=>by
       rw[hsp];rw[if_neg];have:=(hSb j v hv).2;omega)) (by rw[hzl];exact hroom) hzsh
      (.inr ⟨b,o0,_,t',rfl,setRow_heap w b cs _ t' _ hh,by rw[zEm hfit2];exact hfit,CellsOf.shift hall (λ j hj=>by
       rw[hsp,zAK]at *
       by_cases hjo:j<olds.length
       ·rw[if_neg (by rw[<- holn];omega),zAW hjo];exact holds j hjo
       ·rw[if_pos (by rw[<- holn];omega),zAO (by omega)]
        congr 1;rw[<- holn];omega),.inr mine,by simpa using hblt,hSb'⟩)
     rw[hzl]at this
     exact this
  ·
   obtain⟨cap,cs,hcap,hcsz,hcs,hr⟩:=zKh (P:=P) (w:=w) (ty:=ty) hT ht hu ob_ (AV.sub xs sb).length ocap olds holn hola' vx ys.length news hnl hlx hfc (by omega) hlim' hby
   refine close _ _ hr ?_
   have hB:Below w.heap.size w (w.drew.alloc (.cells cs e)):=((zHy w).drew).alloc (zM _) _
   have:=zIW (w' :=w.drew.alloc (.cells cs e)) (zs:=AV.sub xs sb++ys) (base:=some ⟨w.heap.size,0,none⟩) (cap:=cap) inv hob hL hB.size rfl rfl rfl
    (λ b' hb' _=>hB.block b' hb') (zEw invD _) (by rw[hzl];exact hcap) hzsh
    (.inr ⟨w.heap.size,0,cs,e,rfl,by show(w.heap.push _)[w.heap.size]? =_;simp,by omega,CellsOf.shift hall (λ j hj=>by
     rw[Nat.zero_add];exact hcs j (by simpa using hj)),.inl (zM _),by simp,λ j v hv=>(zJP inv j v hv).elim⟩)
   rw[hzl]at this
   exact this
 |pv p=>cases h
 |sl bb sh1 xxs=>cases h
 |gm o=>cases h
 |fx o s0=>cases h
 |fe o i0 off0=>cases h
 |agg cs=>cases h
 |own o off=>cases h
 |mp o=>cases h
 |fnv f fs cs=>cases h
 |tupA as=>cases h
 |elem o ver i off=>cases h
theorem zQB(hT:TyOK P c) (inv:Inv w0 S0 S L ow w) {t u e ty:TypeId} (ht:(c.at_ t).k= .slice e) (hu:∃ e',(c.at_ u).k= .slice e') (hby:(c.at_ e).by_<=4096)
 {s x:AV} {vs vx:Value} (hs:VA S L ow vs s) (hx:VA S L ow vx x) {mk:Bool} {av:AV} {ow' :List Ob}
 (h:zFq (c.sh e) mk ow s x (λ a o=>some (a,o))=some (av,ow')) :
 ∃ v w' S' L',(Builtin.append_ #[t,u] ty #[vs,vx]).run P w= .ok v w' /\Inv w0 S0 S' L' ow' w' /\Evo S L ow S' L' ow' /\VA S' L' ow' v av:=by
 unfold zFq at h
 rw[zD8,zJ]at h
 obtain⟨ys,hys,h⟩:=h
 have hrow:=zKr inv hx hys
 have hysh:∀ y∈ys,y.okSh (c.sh e)=true:=by obtain⟨_,_,_,_,_,_,_,_,k,_⟩:=hrow;exact k
 obtain⟨xb,xc,news,rfl,hxc,hnl,hn1,hnc,hna⟩:=hrow.list
 have hna' :0<ys.length->∃ a,xb=some a/\∀(j:Nat) (x:Value),news[j]? =some x->w.cell? (a.add j)=some x:=λ h0=>by
  obtain⟨a,h1,_,h3⟩:=hna h0;exact⟨a,h1,h3⟩
 obtain⟨e',hu'⟩:=hu
 have hk2:=hT.kind u
 rw[hu']at hk2
 refine zL7 hT inv ht ⟨_,hk2.1,.inl ⟨_,rfl⟩⟩ hby hs hysh hnl hn1 hnc rfl (λ w' hw=> ?_) h
 refine zJQ (P:=P) (w:=w') (szOf (c.sh e)) ys.length xb ys.length xc news hnl λ h0=> ?_
 obtain⟨a,h1,h2⟩:=hna' h0
 exact⟨a,h1,λ j x hx=>by rcases hw with rfl | rfl<;>exact h2 j x hx⟩
theorem zRJ(hT:TyOK P c) (inv:Inv w0 S0 S L ow w) {t u e ty:TypeId} (ht:(c.at_ t).k= .slice e) (hu:(c.at_ u).k= .str) (he:(c.at_ e).k= .int .u8) (hby:(c.at_ e).by_<=4096)
 {s:AV} {vs:Value} (hs:VA S L ow vs s) {bs:ByteArray} {mk:Bool} {av:AV} {ow' :List Ob}
 (h:zFN (c.sh e) mk ow s (zO3 bs) (λ a o=>some (a,o))=some (av,ow')) :
 ∃ v w' S' L',(Builtin.append_ #[t,u] ty #[vs,.string bs]).run P w= .ok v w' /\Inv w0 S0 S' L' ow' w' /\Evo S L ow S' L' ow' /\VA S' L' ow' v av:=by
 have hk2:=hT.kind u
 rw[hu]at hk2
 have hsh:c.sh e=0:=by unfold Cfg.sh;rw[he]
 have hlb:(zO3 bs).length=bs.size:=by unfold zO3;rw[zK,Array.length_toList];rfl
 refine zL7 (news:=bs.data.toList.map λ b=> .int .u8 b.toNat) hT inv ht ⟨_,hk2,.inr rfl⟩ hby hs (λ y hy=> ?_) (by rw[hlb,hsh,zK,Array.length_toList];show bs.size=bs.size*1;omega) (λ x hx=> ?_) (λ i j hi hj=> ?_) (by rw[hlb];rfl) (λ w' _=> ?_) h
 ·simp only[zO3,zAh]at hy;obtain⟨b,_,rfl⟩:=hy;rw[hsh];rfl
 ·simp only[zAh]at hx;obtain⟨b,_,rfl⟩:=hx;rfl
 ·rw[hsh]at hj ⊢
  simp only[szOf,Nat.lt_one_iff]at hj ⊢
  subst hj
  have hi' :i<bs.data.toList.length:=by rw[hlb]at hi;rw[Array.length_toList];exact hi
  refine⟨.int .u8 (bs.data.toList[i]).toNat,by show(List.map _ _)[i*1+0]? =_;rw[Nat.mul_one,Nat.add_zero,zN,zH hi'];rfl,rfl,λ x p hx hp=> ?_⟩
  simp only[zO3,zN,zH hi',zV,zE]at hx
  subst hx
  simp[PV.cells]at hp
  subst hp
  exact VP.int _ _
 ·have e:bs.extract 0 (zO3 bs).length=bs:=by rw[hlb];exact ByteArray.extract_zero_size
  simp only[Builtin.firstCells,e,Sem.run_pure]
  congr 1
  apply Array.ext'
  simp
end
end Go.Ab
