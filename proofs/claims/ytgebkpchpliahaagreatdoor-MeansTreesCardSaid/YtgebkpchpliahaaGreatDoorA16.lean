/- Part 17 of the proof: an abstract machine that runs the program's code over plain values, its soundness, and what the functions tell of plain values. Conditions: those in each theorem. -/
import Derived.Test.YtgebkpchpliahaaGreatDoorA15
import Derived.Carry
set_option linter.unusedSectionVars false
namespace Go.Ab
open Go.RowKit (Below)
set_option linter.unusedVariables false
set_option linter.unusedSimpArgs false
variable [GL:Gl]
section
variable {c:Cfg} {t e:TypeId} {p:PV}
theorem Typed.int_inv{k:IntKind} (h:Typed c t p) (hk:(c.at_ t).k= .int k):∃ n,p= .int k n∧(Lit.int k n).wf=true:=by
 cases h with
 |int t k' n h hw=>rw[hk]at h;cases h;exact⟨n,rfl,hw⟩
 |bool t b h=>rw[hk]at h;cases h
 |str t s h=>rw[hk]at h;cases h
 |slice t e xs h=>rw[hk]at h;cases h
 |struct t fs ps h=>rw[hk]at h;cases h
 |arr t e n ps h=>rw[hk]at h;cases h
theorem Typed.slice_inv(h:Typed c t p) (hk:(c.at_ t).k= .slice e):∃ xs,p= .slice (c.sh e) xs∧xs.length≤maxLen∧∀ x∈xs,Typed c e x:=by
 cases h with
 |int t k' n h hw=>rw[hk]at h;cases h
 |bool t b h=>rw[hk]at h;cases h
 |str t s h=>rw[hk]at h;cases h
 |slice t e xs h hl hx=>rw[hk]at h;cases h;exact⟨xs,rfl,hl,hx⟩
 |struct t fs ps h=>rw[hk]at h;cases h
 |arr t e n ps h=>rw[hk]at h;cases h
def zOe(c:Cfg):List TypeId→List PV→Prop
 | [],[]=>True
 |t::ts,p::ps=>Typed c t p∧zOe c ts ps
 |_,_=>False
theorem zRb{c:Cfg}:∀{fs:List (TypeId×Nat)} {ps:List PV},ps.length=fs.length→(∀(i:Nat) (f:TypeId×Nat) (p:PV),fs[i]? =some f→ps[i]? =some p→Typed c f.1 p)→zOe c (fs.map (·.1)) ps
 | [],[],_,_=>trivial
 | [],_::_,h,_=>by simp at h
 |_::_,[],h,_=>by simp at h
 |f::fs,p::ps,h,k=>⟨k 0 f p rfl rfl,zRb (by simpa using h) λ i f p hf hp=>k (i+1) f p (by simpa using hf) (by simpa using hp)⟩
theorem Typed.struct_inv{fs:List (TypeId×Nat)} (h:Typed c t p) (hk:(c.at_ t).k= .struct fs):∃ ps:List PV,p= .agg (ps.flatMap PV.cells)∧zOe c (fs.map (·.1)) ps:=by
 cases h with
 |int t k' n h hw=>rw[hk]at h;cases h
 |bool t b h=>rw[hk]at h;cases h
 |str t s h=>rw[hk]at h;cases h
 |slice t e xs h=>rw[hk]at h;cases h
 |struct t fs ps h hl hp=>rw[hk]at h;cases h;exact⟨ps,rfl,zRb hl hp⟩
 |arr t e n ps h=>rw[hk]at h;cases h
theorem zJ5{a:TypeId} {ps:List PV} (h:zOe c [a] ps):∃ x,ps=[x]∧Typed c a x:=by
 match ps,h with
 | [x],h=>exact⟨x,rfl,h.1⟩
theorem zBf{a:TypeId} {ts:List TypeId} {ps:List PV} (h:zOe c (a::ts) ps):∃ x qs,ps=x::qs∧Typed c a x∧zOe c ts qs:=by
 match ps,h with
 |x::qs,h=>exact⟨x,qs,rfl,h.1,h.2⟩
theorem zHF{α:Type} {Q:α→Prop} {f:α→PV}:∀{xs:List PV},(∀ x∈xs,∃ a,x=f a∧Q a)→∃ l:List α,xs=l.map f∧∀ a∈l,Q a
 | [],_=>⟨[],rfl,by simp⟩
 |x::xs,h=>by
  obtain⟨a,rfl,ha⟩:=h x (by simp)
  obtain⟨l,rfl,hl⟩:=zHF (xs:=xs) (λ y hy=>h y (List.mem_cons_of_mem _ hy))
  exact⟨a::l,rfl,by simpa using⟨ha,hl⟩⟩
end
end Go.Ab

namespace Go.Cf
open Go Go.Ab
set_option linter.unusedVariables false
theorem zIo{p:PV} (h:Typed cfg zND p):∃ n:Int,p= .int .i64 n∧I64 n:=by
 obtain⟨n,rfl,hw⟩:=h.int_inv (k:= .i64) (by kernel_rfl)
 exact⟨n,rfl,z23 hw⟩
end Go.Cf

namespace Go.Cf
open Go Go.Ab
set_option linter.unusedVariables false
theorem zTF{n:Nat} (h:n≤maxLen):n≤9223372036854775807:=h
theorem zOf{p:PV} (h:Typed cfg zNF p):∃ v:Val,p=v.pv∧VOk v:=by
 obtain⟨ps,rfl,hl⟩:=h.struct_inv (fs:=[(zND,0),(zND,1)]) (by kernel_rfl)
 obtain⟨x,qs,rfl,hx,hl⟩:=zBf hl
 obtain⟨y,rfl,hy⟩:=zJ5 hl
 obtain⟨a,rfl,ha⟩:=zIo hx
 obtain⟨b,rfl,hb⟩:=zIo hy
 exact⟨⟨a,b⟩,rfl,ha,hb⟩
def Row0(r:List Val):Prop:=r.length≤9223372036854775807∧ROk r
theorem zRc{p:PV} (h:Typed cfg zNG p):∃ r:List Val,p=rowp r∧Row0 r:=by
 obtain⟨xs,rfl,hl,hx⟩:=h.slice_inv (e:=zNF) (by kernel_rfl)
 obtain⟨r,rfl,hr⟩:=zHF (Q:=VOk) (f:=Val.pv) (xs:=xs) (λ x h=>zOf (hx x h))
 exact⟨r,rfl,zTF (by simpa using hl),hr⟩
def Tab0(t:List (List Val)):Prop:=t.length≤9223372036854775807∧∀ r∈t,Row0 r
theorem zNr{p:PV} (h:Typed cfg zJr p):∃ t:List (List Val),p=tabp t∧Tab0 t:=by
 obtain⟨xs,rfl,hl,hx⟩:=h.slice_inv (e:=zNG) (by kernel_rfl)
 obtain⟨r,rfl,hr⟩:=zHF (Q:=Row0) (f:=rowp) (xs:=xs) (λ x h=>zRc (hx x h))
 exact⟨r,rfl,zTF (by simpa using hl),hr⟩
theorem zPm{p:PV} (h:Typed cfg zPJ p):∃ l:List Int,p=zBV l∧(l.length≤9223372036854775807∧∀ n∈l,I64 n):=by
 obtain⟨xs,rfl,hl,hx⟩:=h.slice_inv (e:=zND) (by kernel_rfl)
 obtain⟨r,rfl,hr⟩:=zHF (Q:=I64) (f:=intp) (xs:=xs) (λ x h=>zIo (hx x h))
 exact⟨r,rfl,zTF (by simpa using hl),hr⟩
theorem zUN:∀{l:List Ex},(∀ e∈l,e.lens∧e.vals)→Ex.lensL l∧Ex.valsL l
 | [],_=>⟨trivial,trivial⟩
 |e::r,h=>by
  obtain⟨a,b⟩:=zUN (l:=r) λ x hx=>h x (by simp[hx])
  obtain⟨c,d⟩:=h e (by simp)
  exact⟨⟨c,a⟩,d,b⟩
theorem zL1:∀(n:Nat) (p:PV),SizeOf.sizeOf p<n→Typed cfg zC6 p→∃ x:Ex,p=x.pv∧(x.lens∧x.vals)
 | 0,p,h,_=>by omega
 |n+1,p,h,ht=>by
  obtain⟨ps,rfl,hl⟩:=ht.struct_inv (fs:=[(zND,0),(zND,1),(zNF,2),(zHk,4)]) (by kernel_rfl)
  obtain⟨x,qs,rfl,hx,hl⟩:=zBf hl
  obtain⟨y,qs,rfl,hy,hl⟩:=zBf hl
  obtain⟨z,qs,rfl,hz,hl⟩:=zBf hl
  obtain⟨u,rfl,hu⟩:=zJ5 hl
  obtain⟨o,rfl,ho⟩:=zIo hx
  obtain⟨c,rfl,hc⟩:=zIo hy
  obtain⟨v,rfl,hv⟩:=zOf hz
  obtain⟨xs,rfl,hlen,hxs⟩:=hu.slice_inv (e:=zC6) (by kernel_rfl)
  obtain⟨l,rfl,hlo⟩:=zHF (Q:=λ e:Ex=>e.lens∧e.vals) (f:=Ex.pv) (xs:=xs) (λ x hx=>by
   have h1:=List.sizeOf_lt_of_mem hx
   refine zL1 n x ?_ (hxs x hx)
   have h2:SizeOf.sizeOf (PV.slice (cfg.sh zC6) xs)≤SizeOf.sizeOf (PV.agg (([PV.int .i64 o,PV.int .i64 c,v.pv,PV.slice (cfg.sh zC6) xs]:List PV).flatMap PV.cells)):=by
    have e:([PV.int .i64 o,PV.int .i64 c,v.pv,PV.slice (cfg.sh zC6) xs]:List PV).flatMap PV.cells=[PV.int .i64 o,PV.int .i64 c, .int .i64 v.K, .int .i64 v.N,PV.slice (cfg.sh zC6) xs]:=rfl
    rw[e]
    simp only[PV.agg.sizeOf_spec,List.cons.sizeOf_spec,List.nil.sizeOf_spec]
    omega
   have h3:SizeOf.sizeOf (PV.slice (cfg.sh zC6) xs)=1+SizeOf.sizeOf (cfg.sh zC6)+SizeOf.sizeOf xs:=by simp
   omega)
  obtain⟨a,b⟩:=zUN hlo
  refine⟨.mk o c v l,?_,⟨zTF (by simpa using hlen),a⟩,hv,b⟩
  rw[Ex.pv_mk]
  rfl
theorem zTG{p:PV} (h:Typed cfg zC6 p):∃ x:Ex,p=x.pv∧(x.lens∧x.vals):=zL1 _ p (Nat.lt_succ_self _) h
theorem zPn{p:PV} (h:Typed cfg zHk p):∃ l:List Ex,p=exsp l∧(l.length≤9223372036854775807∧∀ e∈l,e.lens∧e.vals):=by
 obtain⟨xs,rfl,hl,hx⟩:=h.slice_inv (e:=zC6) (by kernel_rfl)
 obtain⟨r,rfl,hr⟩:=zHF (Q:=λ e:Ex=>e.lens∧e.vals) (f:=Ex.pv) (xs:=xs) (λ x h=>zTG (hx x h))
 exact⟨r,rfl,zTF (by simpa using hl),hr⟩
theorem zV9{p:PV} (h:Typed cfg zQn p):∃ v:Def,p=v.pv∧True:=by
 obtain⟨ps,rfl,hl⟩:=h.struct_inv (fs:=[(zND,0),(zND,1)]) (by kernel_rfl)
 obtain⟨x,qs,rfl,hx,hl⟩:=zBf hl
 obtain⟨y,rfl,hy⟩:=zJ5 hl
 obtain⟨a,rfl,ha⟩:=zIo hx
 obtain⟨b,rfl,hb⟩:=zIo hy
 exact⟨⟨a,b⟩,rfl,trivial⟩
theorem zVa{p:PV} (h:Typed cfg zWi p):∃ T:List Def,p=catp T∧T.length≤9223372036854775807:=by
 obtain⟨ps,rfl,hl⟩:=h.struct_inv (fs:=[(zSX,0)]) (by kernel_rfl)
 obtain⟨y,rfl,hy⟩:=zJ5 hl
 obtain⟨xs,rfl,hlen,hx⟩:=hy.slice_inv (e:=zQn) (by kernel_rfl)
 obtain⟨T,rfl,_⟩:=zHF (Q:=λ _=>True) (f:=Def.pv) (xs:=xs) (λ x h=>zV9 (hx x h))
 exact⟨T,rfl,zTF (by simpa using hlen)⟩
theorem zTH{p:PV} (h:Typed cfg zUw p):∃ D:List (List (List Val)),p=zG9 D∧DOk D∧∀ t∈D,∀ r∈t,ROk r:=by
 obtain⟨ps,rfl,hl⟩:=h.struct_inv (fs:=[(zNE,0)]) (by kernel_rfl)
 obtain⟨y,rfl,hy⟩:=zJ5 hl
 obtain⟨xs,rfl,hlen,hx⟩:=hy.slice_inv (e:=zJr) (by kernel_rfl)
 obtain⟨D,rfl,hD⟩:=zHF (Q:=Tab0) (f:=tabp) (xs:=xs) (λ x h=>zNr (hx x h))
 exact⟨D,rfl,⟨zTF (by simpa using hlen),λ t ht=>(hD t ht).1,λ t ht r hr=>((hD t ht).2 r hr).1⟩,λ t ht r hr=>((hD t ht).2 r hr).2⟩
structure QIn where
 (occ:List Int) (P:List Ex) (by_:Int) (sums out:List Int) (ord:Int)
def QIn.pv(q:QIn):PV:=zCA q.occ (q.P.map Ex.pv) q.by_ q.sums q.out q.ord
def z0y(l:List Int):Prop:=l.length≤9223372036854775807∧∀ n∈l,I64 n
structure QIn.Ok (q:QIn):Prop where
 occ:z0y q.occ
 P:q.P.length≤9223372036854775807∧∀ e∈q.P,e.lens∧e.vals
 by_:I64 q.by_
 sums:z0y q.sums
 out:z0y q.out
 ord:I64 q.ord
theorem zRd{p:PV} (h:Typed cfg zSY p):∃ q:QIn,p=q.pv∧q.Ok:=by
 obtain⟨ps,rfl,hl⟩:=h.struct_inv (fs:=[(zPJ,0),(zHk,1),(zND,2),(zPJ,3),(zPJ,4),(zND,5)]) (by kernel_rfl)
 obtain⟨x,qs,rfl,hx,hl⟩:=zBf hl
 obtain⟨y,qs,rfl,hy,hl⟩:=zBf hl
 obtain⟨z,qs,rfl,hz,hl⟩:=zBf hl
 obtain⟨u,qs,rfl,hu,hl⟩:=zBf hl
 obtain⟨v,qs,rfl,hv,hl⟩:=zBf hl
 obtain⟨w,rfl,hw⟩:=zJ5 hl
 obtain⟨a,rfl,ha⟩:=zPm hx
 obtain⟨ps,rfl,hpl,hp⟩:=zPn hy
 obtain⟨b,rfl,hb⟩:=zIo hz
 obtain⟨s,rfl,hs⟩:=zPm hu
 obtain⟨o,rfl,ho⟩:=zPm hv
 obtain⟨d,rfl,hd⟩:=zIo hw
 exact⟨⟨a,ps,b,s,o,d⟩,rfl,ha,⟨hpl,hp⟩,hb,hs,ho,hd⟩
theorem zL2:∀(n:Nat) (p:PV),SizeOf.sizeOf p<n→Typed cfg zGZ p→∃ x:Tree,p=x.pv∧x.Ok
 | 0,p,h,_=>by omega
 |n+1,p,h,ht=>by
  obtain⟨ps,rfl,hl⟩:=ht.struct_inv (fs:=[(zND,0),(zQm,1)]) (by kernel_rfl)
  obtain⟨x,qs,rfl,hx,hl⟩:=zBf hl
  obtain⟨y,rfl,hy⟩:=zJ5 hl
  obtain⟨o,rfl,ho⟩:=zIo hx
  obtain⟨xs,rfl,hlen,hxs⟩:=hy.slice_inv (e:=zGZ) (by kernel_rfl)
  obtain⟨l,rfl,hlo⟩:=zHF (Q:=Tree.Ok) (f:=Tree.pv) (xs:=xs) (λ x hx=>by
   have h1:=List.sizeOf_lt_of_mem hx
   refine zL2 n x ?_ (hxs x hx)
   have h2:SizeOf.sizeOf (PV.agg (([PV.int .i64 o,PV.slice (cfg.sh zGZ) xs]:List PV).flatMap PV.cells))=1+(1+SizeOf.sizeOf (PV.int .i64 o)+(1+(1+SizeOf.sizeOf (cfg.sh zGZ)+SizeOf.sizeOf xs)+1)):=by
    simp[PV.cells,List.flatMap_cons]
   omega)
  refine⟨.mk o l,?_, .mk _ _ ho (by simpa using hlen) hlo⟩
  rw[Tree.pv_mk]
  rfl
theorem zTI{p:PV} (h:Typed cfg zGZ p):∃ x:Tree,p=x.pv∧x.Ok:=zL2 _ p (Nat.lt_succ_self _) h
end Go.Cf

namespace Go.Cf
open Go Go.Ab
set_option linter.unusedVariables false
set_option linter.unusedSimpArgs false
theorem few3(D:List (List (List Val))) (i:Nat) (hi:i<D.length) (hD:DOk D) (next:∀ b,∃ r,zAr (D.map tabp) b ((i:Int)+1)=some (.bool r)):∀(k j:Nat) (b:Bool),j+k=D[i].length→∃ r,zBv (D.map tabp) b (i:Int) (j:Int)=some (.bool r)
 | 0,j,b,h=>by
  have:=hD.len
  obtain⟨r,hr⟩:=next b
  refine⟨r,?_⟩
  rw[zDn,show j=D[i].length by omega]
  simp only[zAM,cond_true,Int.toNat_natCast,List.getElem?_map,List.getElem?_eq_getElem hi,Option.map_some,Option.bind_some,zNN,List.length_map,zBz,cond_false]
  rw[zQ (by omega) (by omega)]
  exact hr
 |k+1,j,b,h=>by
  have:=hD.len
  have hj:j<D[i].length:=by omega
  have:=hD.tab _ (List.getElem_mem hi)
  rw[zDn]
  simp only[zAM,cond_true,Int.toNat_natCast,List.getElem?_map,List.getElem?_eq_getElem hi,Option.map_some,Option.bind_some,zNN,List.length_map,zP hj]
  cases b with
  |true =>
   simp only[cond_true,zG5,zAM,Int.toNat_natCast,List.getElem?_map,List.getElem?_eq_getElem hi,List.getElem?_eq_getElem hj,Option.map_some,Option.bind_some,zNN,zCv]
   rw[zI (by omega)]
   exact few3 D i hi hD next k (j+1) _ (by omega)
  |false =>
   simp only[cond_false]
   rw[zQ (by omega) (by omega)]
   exact next false
theorem few1(D:List (List (List Val))) (hD:DOk D):∀(k i:Nat) (b:Bool),i+k=D.length→∃ r,zAr (D.map tabp) b (i:Int)=some (.bool r)
 | 0,i,b,h=>by
  rw[zDm,show i=D.length by omega]
  exact⟨b,by simp⟩
 |k+1,i,b,h=>by
  have hi:i<D.length:=by omega
  rw[zDm]
  simp only[List.length_map,zP hi,cond_true]
  cases b with
  |true =>
   simp only[cond_true,zG4,zAM,Int.toNat_natCast,List.getElem?_map,List.getElem?_eq_getElem hi,Option.map_some,Option.bind_some,zNN]
   exact few3 D i hi hD (λ b=>few1 D hD k (i+1) b (by omega)) D[i].length 0 _ (by omega)
  |false=>exact⟨false,rfl⟩
theorem z0z(D:List (List (List Val))) (hD:DOk D):∃ r,wc W zD8 [zG9 D]=some (.bool r):=by
 have h:=zJT (D.map tabp)
 rw[zA4]at h
 rw[h]
 exact few1 D hD D.length 0 _ (by omega)
theorem few5(occ:List PV) (P:List Ex) (by_:Int) (sums out:List PV) (ord:Int) (hP:P.length≤9223372036854775807) (he:∀ e∈P,e.lens):∀(k i:Nat) (b:Bool),i+k=P.length →
 zBu occ (P.map Ex.pv) by_ sums out ord b (i:Int)=some (.bool (b&&(P.drop i).all λ e=>decide (e.sz≤60)))
 | 0,i,b,h=>by
  rw[zDl,show i=P.length by omega]
  simp
 |k+1,i,b,h=>by
  have hi:i<P.length:=by omega
  rw[zDl]
  simp only[List.length_map,zP hi,cond_true]
  cases b with
  |false=>rfl
  |true =>
   simp only[cond_true,zG3,zAM,Int.toNat_natCast,List.getElem?_map,List.getElem?_eq_getElem hi,Option.map_some,Option.bind_some,Ex.c_mk,Ex.fold,z2v _ (he _ (List.getElem_mem hi)),c_b_mk]
   rw[zI (by omega),few5 occ P by_ sums out ord hP he k (i+1) _ (by omega),List.drop_eq_getElem_cons hi,List.all_cons]
   rfl
theorem z1A(T:List Def) (q:QIn) (hq:q.Ok):∃ b,wc W zBe [catp T,q.pv]=some (.bool b)∧(b=true→q.P.length≤8∧q.sums.length≤20∧q.out.length≤20∧∀ e∈q.P,e.sz≤60):=by
 obtain⟨occ,P,by_,sums,out,ord⟩:=q
 have h:=zJS (T.map Def.pv) (occ.map intp) (P.map Ex.pv) by_ (sums.map intp) (out.map intp) ord
 simp only[zAR,zA,zAQ,List.length_map]at h
 have h5:=few5 (occ.map intp) P by_ (sums.map intp) (out.map intp) ord hq.P.1 (λ e he=>(hq.P.2 e he).1) P.length 0
 have hj:∀ b,zAa (occ.map intp) (P.map Ex.pv) by_ (sums.map intp) (out.map intp) ord b=some (.bool (b&&P.all λ e=>decide (e.sz≤60))):=λ b=>by
  rw[zG2]
  have:=h5 b (by omega)
  simpa using this
 show ∃ b,wc W zBe [catp T,zCA occ (P.map Ex.pv) by_ sums out ord]=some (.bool b)∧_
 rw[h]
 simp only[hj]
 rw[show decide (((P.length:Nat):Int)≤8)=decide (P.length≤8)from decide_eq_decide.2 (by omega),show decide (((sums.length:Nat):Int)≤20)=decide (sums.length≤20)from decide_eq_decide.2 (by omega),show decide (((out.length:Nat):Int)≤20)=decide (out.length≤20)from decide_eq_decide.2 (by omega)]
 refine⟨decide (((T.length:Nat):Int)≤10)&&(decide (((occ.length:Nat):Int)≤20)&&(decide (P.length≤8)&&(decide (sums.length≤20)&&(decide (out.length≤20)&&P.all λ e=>decide (e.sz≤60))))),?_,λ hb=> ?_⟩
 ·cases decide (((T.length:Nat):Int)≤10)<;>cases decide (((occ.length:Nat):Int)≤20)<;>cases decide (P.length≤8)<;>cases decide (sums.length≤20)<;>rfl
 ·simp only[Bool.and_eq_true,decide_eq_true_eq,List.all_eq_true]at hb
  exact⟨hb.2.2.1,hb.2.2.2.1,hb.2.2.2.2.1,hb.2.2.2.2.2⟩
theorem z1B(T:List Def) (D:List (List (List Val))) (hD:DOk D) (q:QIn) (hq:q.Ok):∃ b,wc W zBd [catp T,zG9 D,q.pv]=some (.bool b)∧(b=true→q.P.length≤8∧q.sums.length≤20∧q.out.length≤20∧∀ e∈q.P,e.sz≤60):=by
 obtain⟨b,h1,h2⟩:=z1A T q hq
 obtain⟨r,h3⟩:=z0z D hD
 obtain⟨occ,P,by_,sums,out,ord⟩:=q
 have e1:=zJM (T.map Def.pv) (D.map tabp) (occ.map intp) (P.map Ex.pv) by_ (sums.map intp) (out.map intp) ord
 have e2:=zJO (T.map Def.pv) (occ.map intp) (P.map Ex.pv) by_ (sums.map intp) (out.map intp) ord
 have e3:=zJP (D.map tabp)
 simp only[zAR,zA4,zA,zAQ]at e1 e2 e3
 have h1' :wc W zBe [catp T,zCA occ (P.map Ex.pv) by_ sums out ord]=some (.bool b):=h1
 rw[h1']at e2
 rw[h3]at e3
 simp only[Option.bind_some,c_b_mk]at e2 e3
 show ∃ b,wc W zBd [catp T,zG9 D,zCA occ (P.map Ex.pv) by_ sums out ord]=some (.bool b)∧_
 rw[e1,e2,e3]
 cases b with
 |false=>exact⟨false,by cases r<;>rfl,λ h=>by cases h⟩
 |true=>cases r with
  |false=>exact⟨false,rfl,λ h=>by cases h⟩
  |true=>exact⟨true,rfl,λ _=>h2 rfl⟩
theorem zZs(D:List (List (List Val))) (n:Int) (hD:D.length≤9223372036854775807):∀(k i:Nat),i+k=D.length→∃ z,zB8 (D.map tabp) n (i:Int)=some (.int .i64 z)
 | 0,i,h=>⟨0,by rw[zDM,show i=D.length by omega];simp⟩
 |k+1,i,h=>by
  have hi:i<D.length:=by omega
  rw[zDM]
  simp only[List.length_map,zP hi,zAM,cond_true,Int.toNat_natCast,List.getElem?_map,List.getElem?_eq_getElem hi,Option.map_some,Option.bind_some,zNN]
  rw[zI (by omega)]
  cases decide (((D[i].length:Nat):Int)>n) with
  |true=>exact⟨1,rfl⟩
  |false=>exact zZs D n hD k (i+1) (by omega)
theorem z1C(D:List (List (List Val))) (hD:DOk D) (occ:List Int) (P:List PV) (by_:Int) (sums out:List Int) (ord:Int):∃ z,wc W zCl [zG9 D,zCA occ P by_ sums out ord]=some (.int .i64 z):=by
 have h:=zHm (D.map tabp) (occ.map intp) P by_ (sums.map intp) (out.map intp) ord
 simp only[zA4,zA,zAQ]at h
 rw[h]
 have hl:D.length≤9223372036854775807:=hD.1
 have j:∀ n,∃ z,zB7 (D.map tabp) n=some (.int .i64 z):=λ n=>by
  rw[zFi];exact zZs D n hl D.length 0 (by omega)
 cases decide ((((occ.map intp).length:Nat):Int)>3) with
 |true=>exact j 3
 |false=>exact j 5
end Go.Cf

namespace Go.Cf
open Go Go.Ab
theorem zZP:wc W zE4 []=some (.bool true):=by rw[W_eq];exact z1T (zSQ 60) (by kernel_rfl)
end Go.Cf

namespace Go.Cf
open Go Go.Ab
set_option linter.unusedVariables false
set_option linter.unusedSimpArgs false
theorem zOg(l9 l10 l11 l12:List PV) (i13:Int) (l14 l15:List PV) (i16 i17:Int) (l18:List PV) (a b:List PV) (hl:l11.length≤9223372036854775807):∀(k i:Nat) (v:Int),i+k=l11.length →
 zZ l9 l10 l11 l12 i13 l14 l15 i16 i17 l18 false v (i:Int) a b=some (.bool true)
 | 0,i,v,h=>by
  rw[zAb,show i=l11.length by omega]
  simp
 |k+1,i,v,h=>by
  have hi:i<l11.length:=by omega
  rw[zAb]
  simp only[zP hi,cond_true]
  rw[zI (by omega)]
  exact zOg l9 l10 l11 l12 i13 l14 l15 i16 i17 l18 a b hl k (i+1) _ (by omega)
theorem zRe(l9 l10 l11 l12:List PV) (i13:Int) (l14 l15:List PV) (i16 i17:Int) (l18:List PV) (a b:List PV) (c:Bool) (hl:l11.length≤4):∀(k i:Nat),i+k=l11.length →
 zZ l9 l10 l11 l12 i13 l14 l15 i16 i17 l18 c ((2 ^ i:Nat):Int) (i:Int) a b=zZ l9 l10 l11 l12 i13 l14 l15 i16 i17 l18 c ((2 ^ l11.length:Nat):Int) (l11.length:Int) a b
 | 0,i,h=>by rw[show i=l11.length by omega]
 |k+1,i,h=>by
  have hi:i<l11.length:=by omega
  conv=>lhs;rw[zAb]
  simp only[zP hi,cond_true]
  have hp:2 ^ i≤2 ^ 4:=Nat.pow_le_pow_right (by omega) (by omega)
  have e:IntKind.wrap .i64 ((2:Int)*((2 ^ i:Nat):Int))=((2 ^ (i+1):Nat):Int):=by
   rw[Nat.pow_succ]
   generalize 2 ^ i=p at hp ⊢
   rw[zQ (by omega) (by omega)];omega
  rw[e,zI (by omega)]
  exact zRe l9 l10 l11 l12 i13 l14 l15 i16 i17 l18 a b c hl k (i+1) (by omega)
theorem zNs(T:List Def) (D:List (List (List Val))) (q:QIn) (t:Tree) (hT:T.length≤9223372036854775807) (hD:DOk D∧∀ t∈D,∀ r∈t,ROk r) (hq:q.Ok) (ht:t.Ok) :
 wc W zBk [catp T,zG9 D,q.pv,t.pv]=some (.bool true):=by
 obtain⟨b7,h7,h7b⟩:=z1B T D hD.1 q hq
 obtain⟨occ,P,by_,sums,out,ord⟩:=q
 have h7' :wc W zBd [catp T,zG9 D,zCA occ (P.map Ex.pv) by_ sums out ord]=some (.bool b7):=h7
 obtain⟨v,hv⟩:=z1C D hD.1 occ (P.map Ex.pv) by_ sums out ord
 obtain⟨n1,hn1⟩:=z0o t 100 ht
 have h:=zFh (T.map Def.pv) (D.map tabp) (occ.map intp) (P.map Ex.pv) by_ (sums.map intp) (out.map intp) ord t.occ (t.l.map Tree.pv)
 simp only[Tree.fold,zAR,zA4,zA,zAQ]at h
 show wc W zBk [catp T,zG9 D,zCA occ (P.map Ex.pv) by_ sums out ord,t.pv]=_
 rw[h,zZP,h7',hv,hn1]
 simp only[Option.bind_some,c_b_mk,c_i64_mk,Bool.not_true,cond_false]
 cases b7 with
 |false=>rfl
 |true =>
 obtain⟨p8,s20,o20,sz60⟩:=h7b rfl
 simp only[Bool.not_true,cond_false]at p8 s20 o20 sz60 ⊢
 cases v != 0 with
 |true=>rfl
 |false =>
 cases decide (n1>100) with
 |true=>rfl
 |false =>
 have hok:∀ e∈P,e.ok∧e.vals:=λ e he=>⟨Ex.ok_of (by have:=sz60 e he;omega),(hq.P.2 e he).2⟩
 have hR:=z3D ⟨T,D,occ,P⟩ by_ sums out ord t hT hq.occ.1 (by simp only;omega) hok (by omega) (by omega) hD.1 hD.2
 simp only[cond_false,zER,Tree.fold,zAR,zA4,zA,zAQ,hR,Option.bind_some]
 have h0:(0:Int)=((0:Nat):Int):=rfl
 have hlen:(occ.map intp).length=occ.length:=List.length_map ..
 have none_case:∀ a b:List PV,zZ (T.map Def.pv) (D.map tabp) (occ.map intp) (P.map Ex.pv) by_ (sums.map intp) (out.map intp) ord t.occ (t.l.map Tree.pv) false 1 0 a b=some (.bool true):=λ a b =>
  zOg _ _ _ _ _ _ _ _ _ _ a b (by rw[hlen];exact hq.occ.1) occ.length 0 1 (by rw[hlen];omega)
 unfold z0w
 cases hs:setO 4 t with
 |none=>simp only[bagR,asTup_mk,Option.bind_some,List.getElem?_cons_zero,List.getElem?_cons_succ,zEG,c_b_mk,none_case]
 |some m =>
  simp only
  cases hc:mayQ T occ P by_ sums out ord&&fits T D&&decide (m<2 ^ occ.length) with
  |false=>simp only[cond_false,bagR,asTup_mk,Option.bind_some,List.getElem?_cons_zero,List.getElem?_cons_succ,zEG,c_b_mk,none_case]
  |true =>
   simp only[Bool.and_eq_true,decide_eq_true_eq]at hc
   obtain⟨⟨hc1,hc2⟩,hm⟩:=hc
   have hparts:=hc1
   unfold mayQ at hparts
   simp only[Bool.and_eq_true,decide_eq_true_eq,List.all_eq_true]at hparts
   have Q:QOk ⟨T,D,occ,P⟩:=⟨hc2,hD.2,hparts.1.1.1.1.2,hparts.1.1.1.2,hT,hD.1,by simp only;omega,hok⟩
   have h4:occ.length≤4:=hparts.1.1.1.1.2
   have hcols:=zOa Q hc1
   have hm16:=zDU _ _ _ hs
   have hset:=zX6 t
   rw[hs,Option.getD_some]at hset
   have hloop:=zRe (T.map Def.pv) (D.map tabp) (occ.map intp) (P.map Ex.pv) by_ (sums.map intp) (out.map intp) ord t.occ (t.l.map Tree.pv) ((zB2 ⟨T,D,occ,P⟩ 4 t).1.map intp) ((zB2 ⟨T,D,occ,P⟩ 4 t).2.map rowp) true (by rw[hlen];exact h4) occ.length 0 (by rw[hlen];omega)
   have p1:((2 ^ 0:Nat):Int)=1:=rfl
   have p0:((0:Nat):Int)=0:=rfl
   rw[p1,p0,hlen]at hloop
   simp only[cond_true,bagR,asTup_mk,Option.bind_some,List.getElem?_cons_zero,List.getElem?_cons_succ,zEG,c_b_mk,hloop]
   rw[zAb]
   simp only[hlen,zBz,cond_false,Bool.not_true,Tree.fold,hset,Option.bind_some,c_i64_mk]
   have hp1:1≤2 ^ occ.length:=Nat.pow_pos (by omega)
   have hp4:2 ^ occ.length≤2 ^ 4:=Nat.pow_le_pow_right (by omega) h4
   have hw:IntKind.wrap .i64 (((2 ^ occ.length:Nat):Int)-1)=((2 ^ occ.length-1:Nat):Int):=by
    generalize 2 ^ occ.length=p at hp1 hp4 ⊢
    rw[zQ (by omega) (by omega)];omega
   rw[hw]
   by_cases hmf:m=2 ^ occ.length-1
   ·rw[zJV (by rw[hmf]),cond_false,zES]
    have hflat:=zKz Q hcols 4 t m hs hm
    have hrt:=zI8 Q.fits Q.vals Q.occ Q.inT 4 t m hs hm
    have hmay:=hrt.may hm16
    obtain⟨m1,m2,m3⟩:=zCZ hmay
    have hl:∀ o,o∈zDV 4 t↔o<occ.length:=λ o=>by
     rw[zDc 4 t m hs,hmf,Nat.testBit_two_pow_sub_one,decide_eq_true_eq]
    obtain⟨d,x,y,f1,f2,f3⟩:=zZN Q hc1 hl (zHE 4 t m hs) (List.Perm.refl _)
    have f1' :finB by_ sums out (zB2 ⟨T,D,occ,P⟩ 4 t).1 (zB2 ⟨T,D,occ,P⟩ 4 t).2=some (d,x):=by
     rw[hflat,hmf];exact f1
    have hrok:∀ r∈(zB2 ⟨T,D,occ,P⟩ 4 t).2,ROk r:=λ r hr=>(hrt.rows r hr).2.2
    have hfin:=zUF occ (P.map Ex.pv) by_ sums out ord (zB2 ⟨T,D,occ,P⟩ 4 t).1 (zB2 ⟨T,D,occ,P⟩ 4 t).2 (by omega) (by omega) (λ r hr=>⟨hrok r hr,by rw[(m3 r hr).1];omega⟩) (by omega)
    rw[f1']at hfin
    obtain⟨g1,g2,g3⟩:=zXj hrok m2 (by omega) f1'
    have hall:allQ ⟨T,D,occ,P⟩ (mayQ T occ P by_ sums out ord) by_ sums out=some (d,y):=by
     unfold allQ
     rw[hc1]
     show(bif true&&fits T D then _ else _)=_
     rw[hc2];exact f2
    have j4:∀ s:List (List Val),s.Perm x→(ord≠ -1→ordB (idxI d (λ z=>ord==z)) s=true)→zAu (T.map Def.pv) (D.map tabp) (occ.map intp) (P.map Ex.pv) by_ (sums.map intp) (out.map intp) ord ((zB2 ⟨T,D,occ,P⟩ 4 t).1.map intp) ((zB2 ⟨T,D,occ,P⟩ 4 t).2.map rowp) (d.map intp) (x.map rowp) (d.map intp) (s.map rowp)=some (.bool true):=λ s hsp hso=>by
     have sr:∀ z∈s,ROk z∧z.length≤1000000:=λ z hz=>by have:=g3 z (hsp.mem_iff.1 hz);exact⟨this.1,by omega⟩
     have hright:=z0x ⟨T,D,occ,P⟩ by_ sums out ord hT hq.occ.1 (by simp only;omega) hok (by omega) (by omega) hD.1 hD.2 d s (by omega) (by rw[hsp.length_eq];omega) sr
     simp only[hall,zXl]at hright
     have hsame:=zRY (c:=d) (f3.symm.trans hsp.symm)
     have hord:(ord== -1 || ordB (idxI d (λ z=>ord==z)) s)=true:=by
      by_cases ho:ord= -1
      ·rw[zKq ho];rfl
      ·rw[hso ho,Bool.or_true]
     rw[hsame,hord]at hright
     have hsx:=zZf d x d s (by omega) (by omega) (by rw[hsp.length_eq];omega) (λ z hz=>⟨(g3 z hz).1,by have:=(g3 z hz).2;omega⟩) sr
     rw[zRY hsp.symm]at hsx
     rw[zET]
     simp only[zAR,zA4,zA,zAQ,zR,zAA,hright,hsx,Option.bind_some,c_b_mk,Bool.and_self,cond_true]
    simp only[zAR,zA4,zA,zAQ,zR,zAA,hfin,bagR,asTup_mk,Option.bind_some,List.getElem?_cons_zero,List.getElem?_cons_succ,zEG,c_b_mk,Bool.not_true,cond_false]
    by_cases ho:ord= -1
    ·rw[zJV ho,cond_false]
     exact j4 x (List.Perm.refl _) (λ h=>absurd ho h)
    ·have hsort:=z2e d x ord (by omega) (by omega) (λ z hz=>by have:=(g3 z hz).2;omega)
     rw[zHv ho]
     simp only[cond_true,hsort,Option.bind_some,zEG]
     obtain⟨s1,s2⟩:=zVU (idxI d (λ z=>ord==z)) x
     exact j4 (z2d d x ord) s2.perm (λ _=>(zMJ _ _).2 s1)
   ·rw[zHv (by omega)];rfl
end Go.Cf
