/- Part 17 of the proof: an abstract machine that runs the program's code over plain values, its soundness, and what the functions tell of plain values. Conditions: those in each theorem. -/
import Derived.Test.YtgebkpchpliahaaGreatDoorA15
set_option linter.unusedSectionVars false
set_option linter.unusedVariables false
set_option linter.unusedSimpArgs false
noncomputable section
namespace Go.Cf
open Go Go.Ab
def mkp(T:List Def) (D:List (List (List Val))) (occ:List Int) (P:List Ex) (by_:Int) (sums out:List Int) (ord:Int):PV :=
 .agg [.slice 3 (T.map Def.pv),.slice 0 (D.map tabp),.slice 0 (occ.map intp),.slice 6 (P.map Ex.pv),.int .i64 by_,.slice 0 (sums.map intp),.slice 0 (out.map intp),.int .i64 ord]
theorem zXC(a1 a2 a3:List PV) (P:List Ex) (by_:Int) (s o:List PV) (ord:Int) (idx:List Nat) (hi:∀ i∈idx,i<P.length) (hl:idx.length<=1000000):∀(k j:Nat) (acc:List Ex),j+k=idx.length->acc.length<=j ->
 zEh a1 a2 a3 (P.map Ex.pv) by_ s o ord ((idx.map λ n:Nat=>(n:Int)).map intp) (idx.length:Int) (j:Int) (acc.map Ex.pv)=some (exsp (acc++exQ P (idx.drop j)))
 | 0,j,acc,h,ha=>by
  rw[zHK,show j=idx.length by omega]
  simp[exQ,exsp]
 |k+1,j,acc,h,ha=>by
  have hj:j<idx.length:=by omega
  have hp:=hi _ (zAC hj)
  rw[zHK,zAv hj]
  simp only[zAQ hj,zAc,zA,zY,zN,zH hj,zV,zB,zJD,zH hp,Ex.c_mk,Ex.fold,zK,zAD,zD (show acc.length+1<=4294967296 by omega)]
  rw[zAB (by omega)]
  have:=zXC a1 a2 a3 P by_ s o ord idx hi hl k (j+1) (acc++[P[idx[j]]]) (by omega) (by simp;omega)
  simp only[zBe,zAX,zA9]at this
  refine this.trans ?_
  have e:exQ P (idx[j]::idx.drop (j+1))=P[idx[j]]::exQ P (idx.drop (j+1)):=by
   unfold exQ
   rw[List.filterMap_cons,zH hp]
  rw[e,zAG];rfl
theorem zUN(T:List Def) (D:List (List (List Val))) (occ:List Int) (P:List Ex) (by_:Int) (sums out:List Int) (ord:Int) (idx:List Nat) (hi:∀ i∈idx,i<P.length) (hl:idx.length<=1000000) :
 wc W zDj [mkp T D occ P by_ sums out ord,zBx (idx.map λ n:Nat=>(n:Int))]=some (exsp (exQ P idx)):=by
 have h:=zQI (T.map Def.pv) (D.map tabp) (occ.map intp) (P.map Ex.pv) by_ (sums.map intp) (out.map intp) ord ((idx.map λ n:Nat=>(n:Int)).map intp)
 refine h.trans ?_
 rw[zK,zK]
 have:=zXC (T.map Def.pv) (D.map tabp) (occ.map intp) P by_ (sums.map intp) (out.map intp) ord idx hi hl idx.length 0 [] (by omega) (by simp)
 simpa using this
theorem zSN{p:Plan} (hf:fewP p=true) (hs:setO 4 (zBL p)=some (setP p)):wc W zFS [p.pv]=some (.int .i64 ((setP p:Nat):Int)):=by
 have h:=zZ6 p.op p.occ p.p0 p.p1 (p.l.map Plan.pv)
 rw[Plan.fold]at h
 have ht:zMM p=some (zBL p):=by unfold zMM;rw[hf,hs];rfl
 have hws:=zTl (zBL p)
 rw[hs,Option.getD_some]at hws
 rw[h,zVm,ht]
 simp only[tupT,zB,asTup_mk,zAS,zAq,Tree.c_mk,Tree.fold,c_b_mk,hws,c_i64_mk]
theorem z6P(m:PV) {m1 m2 m3 m4:List PV} {m5:Int} {m6 m7:List PV} {m8:Int} (hm:m= .agg [.slice 3 m1,.slice 0 m2,.slice 0 m3,.slice 6 m4,.int .i64 m5,.slice 0 m6,.slice 0 m7,.int .i64 m8]) (p0 p1:Int) (ca cb:List Int) (A B:List (List Val)) (ha:mayB ca A=true) (hb:mayB cb B=true) (hab:mayB (ca++cb) []=true) (hl:A.length*B.length<=5000) :
 wc W zD9 [m,.agg [.int .i64 p0,.int .i64 p1],bagp ca A,bagp cb B]=some (bagp (ca++cb) (zC7 A B)):=by
 have h:=zNt m1 m2 m3 m4 m5 m6 m7 m8 p0 p1 (ca.map intp) (A.map rowp) (cb.map intp) (B.map rowp)
 rw[zI,zI,zAa,zAa,zAo,zAo,<-hm]at h
 obtain⟨a1,a2,a3⟩:=zBo ha
 obtain⟨b1,b2,b3⟩:=zBo hb
 have hc:=zZw ca A cb B (by omega) (by omega) (by omega) (λ x hx=>by rw[(a3 x hx).1];omega) (λ x hx=>by rw[(b3 x hx).1];omega)
 have e:zQo ca A cb B=some (ca++cb,zC7 A B):=by
  unfold zQo
  rw[ha,hb,hab,zD hl];rfl
 rw[h,hc,e]
 simp only[bagR,zB,asTup_mk,zAS,zAq,zFa,c_b_mk,zI,zAa,zAo]
theorem z6Q(m:PV) {m1 m2 m3 m4:List PV} {m5:Int} {m6 m7:List PV} {m8:Int} (hm:m= .agg [.slice 3 m1,.slice 0 m2,.slice 0 m3,.slice 6 m4,.int .i64 m5,.slice 0 m6,.slice 0 m7,.int .i64 m8]) (p0 p1:Int) (ca cb:List Int) (A B:List (List Val)) (ha:mayB ca A=true) (hb:mayB cb B=true) (h0:inC ca p0=true) (h1:inC cb p1=true) :
 wc W zDa [m,.agg [.int .i64 p0,.int .i64 p1],bagp ca A,bagp cb B]=some (bagp (ca++cb) (selR (λ x y=>zDg (zW cb y p1) (zW ca x p0)) A B)):=by
 have h:=zNu m1 m2 m3 m4 m5 m6 m7 m8 p0 p1 (ca.map intp) (A.map rowp) (cb.map intp) (B.map rowp)
 obtain⟨a1,a2,a3⟩:=zBo ha
 obtain⟨b1,b2,b3⟩:=zBo hb
 have i0:=zJo ca p0 (by omega)
 have i1:=zJo cb p1 (by omega)
 obtain⟨hh,k1⟩:=z3n ca cb A B (idxI ca λ y=>p0==y) p1 h1 (λ r hr=>(b3 r hr).1) (by omega) (by omega) B.length 0 [] (by omega) (by simp[zMI])
 have k2:=z3o ca cb A B p0 p1 h0 (λ r hr=>(a3 r hr).1) (λ r hr=>by rw[(b3 r hr).1];omega) (by omega) a2 b2 hh [] [] ((ca++cb).map intp) A.length 0 [] (by omega) (by simp only[List.length_nil];omega)
 have z:((0:Nat):Int)=0:=rfl
 have e0:mpG []=[]:=rfl
 rw[z,List.drop_zero,e0]at k1
 rw[z,List.drop_zero,List.nil_append,z2B,zA9]at k2
 rw[k2]at k1
 have ea:PV.agg [.slice 0 (ca.map intp),.slice 0 (A.map rowp)]=bagp ca A:=rfl
 have eb:PV.agg [.slice 0 (cb.map intp),.slice 0 (B.map rowp)]=bagp cb B:=rfl
 have ia:PV.slice 0 (ca.map intp)=zBx ca:=rfl
 have ib:PV.slice 0 (cb.map intp)=zBx cb:=rfl
 rw[ea,eb,ia,ib,<-hm]at h
 rw[h,i0]
 simp only[zB,c_i64_mk,i1,zK,k1]
 rfl
theorem z3q(m:PV) {m1 m2 m3 m4:List PV} {m5:Int} {m6 m7:List PV} {m8:Int} (hm:m= .agg [.slice 3 m1,.slice 0 m2,.slice 0 m3,.slice 6 m4,.int .i64 m5,.slice 0 m6,.slice 0 m7,.int .i64 m8]) (p0 p1:Int) (ca cb:List Int) (A B:List (List Val)) (ha:mayB ca A=true) (hb:mayB cb B=true) (h0:inC ca p0=true) (h1:inC cb p1=true) :
 wc W zDM [m,.agg [.int .i64 p0,.int .i64 p1],bagp ca A,bagp cb B]=some (bagp (ca++cb) (mrgF (λ y x=>ltV' (zW cb y p1) (zW ca x p0)) (λ y x=>zDg (zW cb y p1) (zW ca x p0)) B 0 A)):=by
 have h:=zMq m1 m2 m3 m4 m5 m6 m7 m8 p0 p1 (ca.map intp) (A.map rowp) (cb.map intp) (B.map rowp)
 obtain⟨a1,a2,a3⟩:=zBo ha
 obtain⟨b1,b2,b3⟩:=zBo hb
 have i0:=zJo ca p0 (by omega)
 have i1:=zJo cb p1 (by omega)
 have hc:=zP9 [ca,cb] (by simp) (by simp;omega)
 simp only[zAX,zA9,List.flatten_cons,List.flatten_nil,zBN]at hc
 have hmv:∀ r∈B,r.length=cb.length/\mayV (zW cb r p1)=true:=λ r hr=>⟨(b3 r hr).1,zAF.1 (b3 r hr).2 _ (zAV (zEk h1 (b3 r hr).1).1)⟩
 have k1:=λ x y z=>z2f ca cb A B p0 p1 h0 h1 (λ r hr=>(a3 r hr).1) hmv (by omega) (by omega) a2 b2 x y z A.length 0 0 [] (by omega) (by omega) (by simp only[List.length_nil];omega)
 have z:((0:Nat):Int)=0:=rfl
 simp only[z,List.drop_zero,List.nil_append,zA9]at k1
 have ea:PV.agg [.slice 0 (ca.map intp),.slice 0 (A.map rowp)]=bagp ca A:=rfl
 have eb:PV.agg [.slice 0 (cb.map intp),.slice 0 (B.map rowp)]=bagp cb B:=rfl
 have ia:PV.slice 0 (ca.map intp)=zBx ca:=rfl
 have ib:PV.slice 0 (cb.map intp)=zBx cb:=rfl
 rw[ea,eb,ia,ib,<-hm]at h
 rw[h,i0]
 simp only[zB,c_i64_mk,i1,hc,zCz,zK,k1]
 rfl
@[simp] theorem zKa(T:List Def) (D:List (List (List Val))) (occ:List Int) (P:List Ex) (by_:Int) (sums out:List Int) (ord:Int) :
 PV.agg [.slice 3 (T.map Def.pv),.slice 0 (D.map tabp),zBx occ,.slice 6 (P.map Ex.pv),.int .i64 by_,zBx sums,zBx out,.int .i64 ord]=mkp T D occ P by_ sums out ord:=rfl
theorem PlTells.leaves{q:QT} (hq:QOk q) {p:Plan} (h:PlTells q p):∀ o∈zAb 4 (zBL p),o<q.occ.length:=λ o ho=>by
 have xl:=zBI _ _ _ h.set
 have la:=zBa 4 _ _ h.set
 have hocc:=hq.occ
 exact zJv _ xl q.occ.length (by omega) h.lt o (zJz _ xl o ((la o).1 ho)) ((la o).1 ho)
theorem PlTells.may{q:QT} (hq:QOk q) {p:Plan} (h:PlTells q p):mayB (zX q p).1 (zX q p).2=true:=by
 rw[z0K h.rows,h.cols]
 exact zPr hq (h.leaves hq) (zGg 4 _ _ h.set) _
theorem PlTells.rok{q:QT} (hq:QOk q) {p:Plan} (h:PlTells q p):∀ x∈(zX q p).2,ROk x:=λ x hx =>
 (zCT hq (h.leaves hq) x (zBS.1 (h.rows.mem_iff.1 hx)).1).2.2
theorem zO2{q:QT} (hq:QOk q) {a b:Plan} (ha:PlTells q a) (hb:PlTells q b) (hd:setP a &&& setP b=0) {op occ p0 p1:Int} (hj:PlTells q (.mk op occ p0 p1 [a,b])):(zX q a).2.length*(zX q b).2.length<=5000:=by
 have hlv:zAb 4 (zBL (.mk op occ p0 p1 [a,b]))=zAb 4 (zBL a)++zAb 4 (zBL b):=zPo ha.set hb.set hd
 have hm:=zPr hq (hj.leaves hq) (zGg 4 _ _ hj.set) (λ _=>true)
 rw[List.filter_eq_self.2 (λ _ _=>rfl),hlv,zHm]at hm
 have h5:=(zBo hm).2.1
 rw[zHP]at h5
 have l1:(zX q a).2.length<=(zHZ q (zAb 4 (zBL a))).length:=by rw[ha.rows.length_eq];exact zEP _ _
 have l2:(zX q b).2.length<=(zHZ q (zAb 4 (zBL b))).length:=by rw[hb.rows.length_eq];exact zEP _ _
 exact Nat.le_trans (Nat.mul_le_mul l1 l2) h5
theorem zMN(g:List Val->List Val->Bool) (s:List (List Val)):∀ r:List (List Val),(selR g r s).length<=r.length*s.length
 | []=>by simp[selR]
 |x::r=>by
  have ih:=zMN g s r
  have e:selR g (x::r) s=((s.filter (g x)).map λ y=>x++y)++selR g r s:=by unfold selR;rw[zC2]
  have h1:=zEP (g x) s
  rw[e,zAK,zK,List.length_cons,Nat.succ_mul]
  omega
theorem z0Z{q:QT} (hq:QOk q) {a b:Plan} (iha:PlTells q a) (ihb:PlTells q b) {p0 p1:Int} (i0:inC (zX q a).1 p0=true) (i1:inC (zX q b).1 p1=true) (oa:zE5 a=p0) (ob:zE5 b=p1) :
 mrgF (λ y x=>ltV' (zW (zX q b).1 y p1) (zW (zX q a).1 x p0)) (λ y x=>zDg (zW (zX q b).1 y p1) (zW (zX q a).1 x p0)) (zX q b).2 0 (zX q a).2=selR (λ x y=>zDg (zW (zX q b).1 y p1) (zW (zX q a).1 x p0)) (zX q a).2 (zX q b).2:=by
 have mayOf:∀{p:Plan} (hp:PlTells q p) (x:List Val),x∈(zX q p).2->x.length=(zX q p).1.length/\x.all mayV=true:=λ{p} hp x hx=>by
  have o:=zCT hq (hp.leaves hq) x (zBS.1 (hp.rows.mem_iff.1 hx)).1
  exact⟨by rw[hp.cols];exact o.1,o.2.1⟩
 have mayL:∀{c:List Int} {x:List Val} {z:Int},inC c z=true->x.length=c.length->x.all mayV=true->mayV (zW c x z)=true:=λ{c x z} hz hl hm =>
  zAF.1 hm _ (zAV (zEk hz hl).1)
 have ne:∀{p:Plan} (hp:PlTells q p) {z:Int},inC (zX q p).1 z=true->z≠ -1:=λ{p} hp {z} hz e=>by
  subst e
  rw[hp.cols]at hz
  have:=(zFZ hq (hp.leaves hq) (zAM hz)).2.1
  omega
 have sa:=(iha.ord (by rw[oa];exact ne iha i0)).2
 have sb:=(ihb.ord (by rw[ob];exact ne ihb i1)).2
 rw[oa,zK8 i0 (λ x hx=>(mayOf iha x hx).1)]at sa
 rw[ob,zK8 i1 (λ x hx=>(mayOf ihb x hx).1)]at sb
 exact zSJ (c:=(zX q a).1) (x0:=p0) sb (λ y hy=>mayL i1 (mayOf ihb y hy).1 (mayOf ihb y hy).2) (zX q a).2 0 sa (λ x hx=>mayL i0 (mayOf iha x hx).1 (mayOf iha x hx).2) (λ x _ y hy=>by simp at hy)
theorem zPw{q:QT} (hq:QOk q) (by_:Int) (sums out:List Int) (ord:Int) {a b:Plan} (ha:PlTells q a) (hb:PlTells q b) (hfa:fewP a=true) (hfb:fewP b=true)
 (iha:wc W zAk [mkp q.T q.D q.occ q.P by_ sums out ord,a.pv]=some (bagp (zX q a).1 (zX q a).2)) (ihb:wc W zAk [mkp q.T q.D q.occ q.P by_ sums out ord,b.pv]=some (bagp (zX q b).1 (zX q b).2))
 (op occ p0 p1:Int) (hop:op=1∨op=2∨op=3) (R:List (List Val)) (hR1:∀ z∈R,z∈zC7 (zX q a).2 (zX q b).2) (hR2:R.length<=5000)
 (hw:wc W (bif op==2 then zDa else bif op==3 then zDM else zD9) [mkp q.T q.D q.occ q.P by_ sums out ord,.agg [.int .i64 p0,.int .i64 p1],bagp (zX q a).1 (zX q a).2,bagp (zX q b).1 (zX q b).2]=some (bagp ((zX q a).1++(zX q b).1) R)) :
 wc W zAk [mkp q.T q.D q.occ q.P by_ sums out ord,(Plan.mk op occ p0 p1 [a,b]).pv]=some (bagp ((zX q a).1++(zX q b).1) (R.filter (zKB q (newF (setP a) (setP b)) ((zX q a).1++(zX q b).1)))):=by
 have hpv:PV.agg [.int .i64 op,.int .i64 occ,.int .i64 p0,.int .i64 p1,.slice 6 [a.pv,b.pv]]=(Plan.mk op occ p0 p1 [a,b]).pv:=by rw[Plan.pv_mk];rfl
 have e:=zGR (q.T.map Def.pv) (q.D.map tabp) (q.occ.map intp) (q.P.map Ex.pv) by_ (sums.map intp) (out.map intp) ord op occ p0 p1 [a.pv,b.pv]
 obtain⟨a1,a2,a3⟩:=zBo (ha.may hq)
 obtain⟨b1,b2,b3⟩:=zBo (hb.may hq)
 have hsa:=zSN hfa ha.set
 have hsb:=zSN hfb hb.set
 have hP:=hq.P
 have hnew:=z34 q.occ q.P by_ sums out ord (setP a) (setP b) (zBI _ _ _ ha.set) (zBI _ _ _ hb.set) hq.P (λ e he=>(hq.ok e he).1)
 have hnl:(newQ q.P (setP a) (setP b)).length<=1000000:=by
  unfold newQ zIR
  exact Nat.le_trans (zEP _ _) (by rw[List.length_range'];exact hP)
 have hof:=zUN q.T q.D q.occ q.P by_ sums out ord (newQ q.P (setP a) (setP b)) (λ i hi=>zME hi) hnl
 have hx:PV.slice 6 ((exQ q.P (newQ q.P (setP a) (setP b))).map Ex.pv)=exsp (exQ q.P (newQ q.P (setP a) (setP b))):=rfl
 have hrow:∀ z∈R,z.length<=32/\ROk z:=λ z hz=>by
  obtain⟨u,hu,v,hv,rfl⟩:=zPn (hR1 z hz)
  refine⟨?_,λ w hw=> ?_⟩
  ·rw[zAK,(a3 u hu).1,(b3 v hv).1];omega
  ·rcases List.mem_append.1 hw with hw | hw
   ·exact ha.rok hq u hu w hw
   ·exact hb.rok hq v hv w hw
 have hkeep:=zW1 ((zX q a).1++(zX q b).1) R (exQ q.P (newQ q.P (setP a) (setP b))) (by rw[zAK];omega) (by omega) (λ z hz=>by have:=(hrow z hz).1;omega) (λ z hz=>(hrow z hz).2) (by have:=zVa q.P (newQ q.P (setP a) (setP b));omega) (λ e he=>hq.ok e (zV9 he))
 rcases hop with rfl | rfl | rfl
 ·have o0:((1:Int)==0)=false:=rfl
  have o4:((1:Int)==4)=false:=rfl
  have o2:((1:Int)==2)=false:=rfl
  have o3:((1:Int)==3)=false:=rfl
  simp only[o2,o3,zC]at hw
  simp only[o0,o4,o2,o3,zC,zJe,zI,zAL,zKa,hpv,zAS,zAq,zB,Plan.c_mk,Plan.fold,iha,ihb,zFa,zAa,zAo,hw,hsa,hsb,c_i64_mk,hnew,zCz,hof,zQr,hx,hkeep]at e
  exact e
 ·have o0:((2:Int)==0)=false:=rfl
  have o4:((2:Int)==4)=false:=rfl
  simp only[zBj,zA]at hw
  simp only[o0,o4,zBj,zA,zC,zJc,zI,zAL,zKa,hpv,zAS,zAq,zB,Plan.c_mk,Plan.fold,iha,ihb,zFa,zAa,zAo,hw,hsa,hsb,c_i64_mk,hnew,zCz,hof,zQr,hx,hkeep]at e
  exact e
 ·have o0:((3:Int)==0)=false:=rfl
  have o4:((3:Int)==4)=false:=rfl
  have o2:((3:Int)==2)=false:=rfl
  simp only[o2,zBj,zA,zC]at hw
  simp only[o0,o4,o2,zBj,zA,zC,zJd,zI,zAL,zKa,hpv,zAS,zAq,zB,Plan.c_mk,Plan.fold,iha,ihb,zFa,zAa,zAo,hw,hsa,hsb,c_i64_mk,hnew,zCz,hof,zQr,hx,hkeep]at e
  exact e
theorem z6R{q:QT} (hq:QOk q) (hc:∀ e∈q.P,zN8 q e) (by_:Int) (sums out:List Int) (ord:Int) {p:Plan} (h:PlOk q p):fewP p=true->wc W zAk [mkp q.T q.D q.occ q.P by_ sums out ord,p.pv]=some (bagp (zX q p).1 (zX q p).2):=by
 have hP:=hq.P
 induction h with
 |scan occ p0 p1 h0 h1 =>
  intro hf
  have ht:=zCU hq hc (.scan occ p0 p1 h0 h1)
  obtain⟨n,rfl⟩:=Int.eq_ofNat_of_zero_le h0
  have hn:n<q.occ.length:=by omega
  have hset:setO 4 (zBL (.mk 0 (n:Int) p0 p1 []))=some (2 ^ n):=by
   have hocc:=hq.occ
   show setO 4 (.mk (n:Int) [])=_
   simp only[setO,zD (show(0:Int)<=(n:Int) by omega),zD (show(n:Int)<4 by omega),Bool.and_self,zA,zY]
  have hsp:setP (.mk 0 (n:Int) p0 p1 [])=2 ^ n:=by
   show(setO 4 (zBL (.mk 0 (n:Int) p0 p1 []))).getD 0=_
   rw[hset];rfl
  have hpv:PV.agg [.int .i64 0,.int .i64 (n:Int),.int .i64 p0,.int .i64 p1,.slice 6 []]=(Plan.mk 0 (n:Int) p0 p1 []).pv:=by rw[Plan.pv_mk];rfl
  have e:=zGR (q.T.map Def.pv) (q.D.map tabp) (q.occ.map intp) (q.P.map Ex.pv) by_ (sums.map intp) (out.map intp) ord 0 (n:Int) p0 p1 []
  have hlt:=zBI _ _ _ ht.set
  have hrs:=zSN hf ht.set
  rw[hsp]at hlt hrs
  have hown:=z5s q.occ q.P by_ sums out ord (2 ^ n) hlt hP (λ e he=>(hq.ok e he).1)
  have hol:(zIR q.P (zAp (2 ^ n))).length<=1000000:=by
   unfold zIR
   exact Nat.le_trans (zEP _ _) (by rw[List.length_range'];exact hP)
  have hof:=zUN q.T q.D q.occ q.P by_ sums out ord (zIR q.P (zAp (2 ^ n))) (λ i hi=>zME hi) hol
  have hx:PV.slice 6 ((exQ q.P (zIR q.P (zAp (2 ^ n)))).map Ex.pv)=exsp (exQ q.P (zIR q.P (zAp (2 ^ n)))):=rfl
  have hlf:=zPr hq (l:=[n]) (λ o ho=>by rw[zBf]at ho;omega) (by simp) (λ _=>true)
  have hlr:=zCT hq (l:=[n]) (λ o ho=>by rw[zBf]at ho;omega)
  rw[List.filter_eq_self.2 (λ _ _=>rfl)]at hlf
  simp only[zHZ,zPp,zDV,zC2,List.flatMap_nil,zBN]at hlf hlr
  obtain⟨l1,l2,l3⟩:=zBo hlf
  have hkeep:=zW1 (zEv q.T q.occ n) (q.leaf n) (exQ q.P (zIR q.P (zAp (2 ^ n)))) (by omega) (by omega) (λ z hz=>by rw[(l3 z hz).1];omega) (λ z hz=>(hlr z hz).2.2) (by have:=zVa q.P (zIR q.P (zAp (2 ^ n)));omega) (λ e he=>hq.ok e (zV9 he))
  have hg:(q.occ.map intp)[n]? =some (intp q.occ[n]):=by rw[zN,zH hn];rfl
  simp only[zBj,zA,zAY,zBM,zI,zAL,zKa,hpv,zAc,zY,hg,zB,zJD,z6O hq hn,asTup_mk,zAS,zAq,zFa,c_b_mk,hrs,c_i64_mk,hown,zCz,hof,zQr,hx,zAa,zAo,hkeep]at e
  exact e
 |sort occ p0 p1 a ha hcol ih =>
  intro hf
  have ta:=zCU hq hc ha
  have hfa:fewP a=true:=zF0 hf (by simp[Plan.l])
  have hpv:PV.agg [.int .i64 4,.int .i64 occ,.int .i64 p0,.int .i64 p1,.slice 6 [a.pv]]=(Plan.mk 4 occ p0 p1 [a]).pv:=by rw[Plan.pv_mk];rfl
  have e:=zGR (q.T.map Def.pv) (q.D.map tabp) (q.occ.map intp) (q.P.map Ex.pv) by_ (sums.map intp) (out.map intp) ord 4 occ p0 p1 [a.pv]
  obtain⟨a1,a2,a3⟩:=zBo (ta.may hq)
  have hs:=z6B (zX q a).1 (zX q a).2 p0 (by omega) (by omega) (λ z hz=>by rw[(a3 z hz).1];omega)
  have o0:((4:Int)==0)=false:=rfl
  simp only[o0,zBj,zA,zC,zI,zKa,hpv,zAS,zB,Plan.c_mk,Plan.fold,ih hfa,zFa,zAa,zAo,hs]at e
  exact e
 |nest occ p0 p1 a b ha hb hd iha ihb =>
  intro hf
  have ta:=zCU hq hc ha
  have tb:=zCU hq hc hb
  have tj:=zCU hq hc (.nest occ p0 p1 a b ha hb hd)
  have hfa:fewP a=true:=zF0 hf (by simp[Plan.l])
  have hfb:fewP b=true:=zF0 hf (by simp[Plan.l])
  have hl:=zO2 hq ta tb hd tj
  exact zPw hq by_ sums out ord ta tb hfa hfb (iha hfa) (ihb hfb) 1 occ p0 p1 (.inl rfl) (zC7 (zX q a).2 (zX q b).2) (λ z hz=>hz) (by rw[zHP];exact hl) (z6P _ rfl p0 p1 _ _ _ _ (ta.may hq) (tb.may hq) (z1a (tj.may hq)) hl)
 |hash occ p0 p1 a b ha hb hd hp iha ihb =>
  intro hf
  have ta:=zCU hq hc ha
  have tb:=zCU hq hc hb
  have tj:=zCU hq hc (.hash occ p0 p1 a b ha hb hd hp)
  have hfa:fewP a=true:=zF0 hf (by simp[Plan.l])
  have hfb:fewP b=true:=zF0 hf (by simp[Plan.l])
  have hl:=zO2 hq ta tb hd tj
  obtain⟨⟨i0,i1⟩,_⟩:=zKD hq hc ta tb hd hp
  exact zPw hq by_ sums out ord ta tb hfa hfb (iha hfa) (ihb hfb) 2 occ p0 p1 (.inr (.inl rfl)) _ (λ z hz=>zWw hz) (Nat.le_trans (zMN _ _ _) hl) (z6Q _ rfl p0 p1 _ _ _ _ (ta.may hq) (tb.may hq) i0 i1)
 |merge occ p0 p1 a b ha hb hd hp oa ob iha ihb =>
  intro hf
  have ta:=zCU hq hc ha
  have tb:=zCU hq hc hb
  have tj:=zCU hq hc (.merge occ p0 p1 a b ha hb hd hp oa ob)
  have hfa:fewP a=true:=zF0 hf (by simp[Plan.l])
  have hfb:fewP b=true:=zF0 hf (by simp[Plan.l])
  have hl:=zO2 hq ta tb hd tj
  obtain⟨⟨i0,i1⟩,_⟩:=zKD hq hc ta tb hd hp
  have hm:=z0Z hq ta tb i0 i1 oa ob
  exact zPw hq by_ sums out ord ta tb hfa hfb (iha hfa) (ihb hfb) 3 occ p0 p1 (.inr (.inr rfl)) (mrgF (λ y x=>ltV' (zW (zX q b).1 y p1) (zW (zX q a).1 x p0)) (λ y x=>zDg (zW (zX q b).1 y p1) (zW (zX q a).1 x p0)) (zX q b).2 0 (zX q a).2) (λ z hz=>by rw[hm]at hz;exact zWw hz) (by rw[hm];exact Nat.le_trans (zMN _ _ _) hl) (z3q _ rfl p0 p1 _ _ _ _ (ta.may hq) (tb.may hq) i0 i1)
end Go.Cf

namespace Go.Cf
open Go Go.Ab
end Go.Cf

namespace Go.Cf
open Go Go.Ab
structure QSz (q:QT) (sums out:List Int):Prop where
 T:q.T.length<=9223372036854775807
 occ:q.occ.length<=9223372036854775807
 P:q.P.length<=9223372036854775807
 ok:∀ e∈q.P,e.ok/\e.vals
 sums:sums.length<=9223372036854775807
 out:out.length<=9223372036854775807
 D:DOk q.D
 vals:∀ t∈q.D,∀ r∈t,ROk r
theorem QSz.may{q:QT} {sums out:List Int} (z:QSz q sums out) {by_ ord:Int} (h:mayQ q.T q.occ q.P by_ sums out ord=true) (hf:fits q.T q.D=true):QOk q:=by
 have hparts:=h
 unfold mayQ at hparts
 simp only[zF,zU,zAF]at hparts
 exact⟨hf,z.vals,hparts.1.1.1.1.2,hparts.1.1.1.2,z.T,z.D,Nat.le_trans hparts.1.1.2 (by omega),z.ok⟩
theorem zSO{q:QT} (hq:QOk q) {m:Bool} {p:Plan} (h:mayP q.T q.occ q.P m p=true):m=true/\fewP p=true/\setO 4 (zBL p)=some (setP p)/\setP p<2 ^ q.occ.length/\PlOk q p:=by
 unfold mayP at h
 simp only[zF,zU]at h
 obtain⟨⟨⟨h1,h2⟩,h3⟩,h4⟩:=h
 cases ht:zMM p with
 |none=>rw[ht]at h1;cases h1
 |some t =>
  obtain⟨k1,k2,k3,k4⟩:=zNF ht
  exact⟨h2,k1,k4,h3,z3m hq p k1 _ k4 h3 h4⟩
theorem z00{T:List Def} {occ:List Int} {P:List Ex} {m:Bool} {p:Plan} (h:mayP T occ P m p=true):m=true:=by
 unfold mayP at h
 simp only[zF]at h
 exact h.1.1.2
def runQ(q:QT) (may:Bool) (p:Plan):Option (List Int×List (List Val)):=bif mayP q.T q.occ q.P may p&&fits q.T q.D then some (zX q p)else none
theorem zUO{q:QT} {sums out:List Int} (z:QSz q sums out) (by_ ord:Int) (p:Plan) :
 wc W zFj [catp q.T,zGV q.D,zCI q.occ (q.P.map Ex.pv) by_ sums out ord,p.pv]=some (bagR (runQ q (mayQ q.T q.occ q.P by_ sums out ord) p)):=by
 have h:=zXl (q.T.map Def.pv) (q.D.map tabp) (q.occ.map intp) (q.P.map Ex.pv) by_ (sums.map intp) (out.map intp) ord p.op p.occ p.p0 p.p1 (p.l.map Plan.pv)
 have e0:PV.tup [PV.agg [PV.slice 0 [],PV.slice 0 []],PV.bool false]=bagR none:=rfl
 have zs:=z.sums
 have zo:=z.out
 simp only[Plan.fold,zAY,zBM,zI,zAL]at h
 rw[h,z6K q.T q.occ q.P by_ sums out ord z.T z.occ z.P (λ e he=>(z.ok e he).1) zs zo p,zZz q.T q.D z.T z.D]
 simp only[zB,c_b_mk,e0]
 unfold runQ
 cases h1:mayP q.T q.occ q.P (mayQ q.T q.occ q.P by_ sums out ord) p with
 |false=>rfl
 |true =>
  cases h2:fits q.T q.D with
  |false=>rfl
  |true =>
   have hm:=z00 h1
   have hq:=z.may hm h2
   obtain⟨_,hf,_,_,hp⟩:=zSO hq h1
   have hr:=z6R hq (zNB hq hm) by_ sums out ord hp hf
   simp only[zAH,zC,Bool.and_self,zA,zPU,zI,zKa,Plan.fold,hr,zB,zFa,zAa,zAo]
   rfl
def z2g(p:Plan) (e:Int) (s:Bool):PV:= .agg [.int .i64 p.op,.int .i64 p.occ,.int .i64 p.p0,.int .i64 p.p1,.slice 6 (p.l.map Plan.pv),.int .i64 e,.bool s]
@[simp] theorem whole_fold(p:Plan) (e:Int) (s:Bool):PV.agg [.int .i64 p.op,.int .i64 p.occ,.int .i64 p.p0,.int .i64 p.p1,.slice 6 (p.l.map Plan.pv),.int .i64 e,.bool s]=z2g p e s:=rfl
end Go.Cf

namespace Go.Cf
open Go Go.Ab
theorem z01{p:PV} (h:Typed cfg zWV p):∃ a b:Int,p= .agg [.int .i64 a,.int .i64 b]:=by
 obtain⟨ps,rfl,hl,hx⟩:=h.arr_inv (n:=2) (e:=zMj) (by kernel_rfl)
 match ps,hl with
 | [x,y],_ =>
  obtain⟨a,rfl,_⟩:=zII (hx x (by simp))
  obtain⟨b,rfl,_⟩:=zII (hx y (by simp))
  exact⟨a,b,rfl⟩
theorem zNd:∀(n:Nat) (p:PV),SizeOf.sizeOf p<n->Typed cfg zES p->∃ x:Plan,p=x.pv/\x.Ok
 | 0,p,h,_=>by omega
 |n+1,p,h,ht=>by
  obtain⟨ps,rfl,hl⟩:=ht.struct_inv (fs:=[(zMj,0),(zMj,1),(zWV,2),(zTO,4)]) (by kernel_rfl)
  obtain⟨x,qs,rfl,hx,hl⟩:=zBy hl
  obtain⟨y,qs,rfl,hy,hl⟩:=zBy hl
  obtain⟨z,qs,rfl,hz,hl⟩:=zBy hl
  obtain⟨u,rfl,hu⟩:=zLJ hl
  obtain⟨o,rfl,ho⟩:=zII hx
  obtain⟨c,rfl,hc⟩:=zII hy
  obtain⟨a,b,rfl⟩:=z01 hz
  obtain⟨xs,rfl,hlen,hxs⟩:=hu.slice_inv (e:=zES) (by kernel_rfl)
  obtain⟨l,rfl,hlo⟩:=zIe (Q:=Plan.Ok) (f:=Plan.pv) (xs:=xs) (λ x hx=>by
   have h1:=List.sizeOf_lt_of_mem hx
   refine zNd n x ?_ (hxs x hx)
   have h2:SizeOf.sizeOf (PV.slice (cfg.sh zES) xs)<=SizeOf.sizeOf (PV.agg (([PV.int .i64 o,PV.int .i64 c,PV.agg [.int .i64 a,.int .i64 b],PV.slice (cfg.sh zES) xs]:List PV).flatMap PV.cells)):=by
    have e:([PV.int .i64 o,PV.int .i64 c,PV.agg [.int .i64 a,.int .i64 b],PV.slice (cfg.sh zES) xs]:List PV).flatMap PV.cells=[PV.int .i64 o,PV.int .i64 c,.int .i64 a,.int .i64 b,PV.slice (cfg.sh zES) xs]:=rfl
    rw[e]
    simp only[PV.agg.sizeOf_spec,List.cons.sizeOf_spec,List.nil.sizeOf_spec]
    omega
   have h3:SizeOf.sizeOf (PV.slice (cfg.sh zES) xs)=1+SizeOf.sizeOf (cfg.sh zES)+SizeOf.sizeOf xs:=by simp
   omega)
  refine⟨.mk o c a b l,?_,.mk _ _ _ _ _ (by simpa using hlen) hlo⟩
  rw[Plan.pv_mk]
  rfl
theorem zPx{p:PV} (h:Typed cfg zES p):∃ x:Plan,p=x.pv/\x.Ok:=zNd _ p (Nat.lt_succ_self _) h
structure WIn where
 (P:Plan) (e:Int) (s:Bool)
def WIn.pv(w:WIn):PV:=z2g w.P w.e w.s
end Go.Cf

namespace Go.Cf
open Go Go.Ab
theorem zUP:wc W zDz []=some (.bool true):=by rw[W_eq];exact z4H (zUt 100) (by kernel_rfl)
end Go.Cf

namespace Go.Cf
open Go Go.Ab
theorem zUQ(T:List Def) (D:List (List (List Val))) (q:QIn) (p:Plan) (hT:T.length<=9223372036854775807) (hD:DOk D/\∀ t∈D,∀ r∈t,ROk r) (hq:q.Ok) (hp:p.Ok) :
 wc W zDJ [catp T,zGV D,q.pv,p.pv]=some (.bool true):=by
 obtain⟨b,h7,h7b⟩:=zWy T D hD.1 q hq p hp
 obtain⟨occ,P,by_,sums,out,ord⟩:=q
 have h7' :wc W zBX [catp T,zGV D,zCI occ (P.map Ex.pv) by_ sums out ord,p.pv]=some (.bool b):=h7
 have h:=zIK (T.map Def.pv) (D.map tabp) (occ.map intp) (P.map Ex.pv) by_ (sums.map intp) (out.map intp) ord p.op p.occ p.p0 p.p1 (p.l.map Plan.pv)
 simp only[Plan.fold,zAY,zBM,zI,zAL]at h
 show wc W zDJ [catp T,zGV D,zCI occ (P.map Ex.pv) by_ sums out ord,p.pv]=_
 rw[h,zUP,h7']
 simp only[zB,c_b_mk,zAH,zC]
 cases b with
 |false=>rfl
 |true =>
 obtain⟨p8,s20,o20,sz60⟩:=h7b rfl
 simp only[zAH,zC]at p8 s20 o20 sz60 ⊢
 have hok:∀ e∈P,e.ok/\e.vals:=λ e he=>⟨Ex.ok_of (by have:=sz60 e he;omega),(hq.P.2 e he).2⟩
 have z:QSz ⟨T,D,occ,P⟩ sums out:=⟨hT,hq.occ.1,by simp only;omega,hok,by omega,by omega,hD.1,hD.2⟩
 have hrun:=zUO z by_ ord p
 simp only at hrun
 unfold runQ at hrun
 cases hm:mayP T occ P (mayQ T occ P by_ sums out ord) p&&fits T D with
 |false =>
  simp only[hm,zC,bagR]at hrun
  simp only[zDb,Plan.fold,zAY,zBM,zI,zAL,hrun,zB,asTup_mk,zAS,zAq,zFa,c_b_mk]
  rfl
 |true =>
  simp only[hm,zA,bagR]at hrun
  rw[zF]at hm
  obtain⟨hm1,hm2⟩:=hm
  have hmq:=z00 hm1
  have Q:QOk ⟨T,D,occ,P⟩:=z.may hmq hm2
  obtain⟨_,hf,hset,hlt,hpo⟩:=zSO Q hm1
  have hc:=zNB Q hmq
  have ht:=zCU Q hc hpo
  have hQ:zMM p=some (zBL p):=by
   unfold zMM
   rw[hf,hset];rfl
  have htree:=zVm p
  rw[hQ]at htree
  have hR:=z5y ⟨T,D,occ,P⟩ by_ sums out ord (zBL p) hT hq.occ.1 (by simp only;omega) hok (by omega) (by omega) hD.1 hD.2
  have hrq:z1l ⟨T,D,occ,P⟩ (mayQ T occ P by_ sums out ord) (zBL p)=some (zC0 ⟨T,D,occ,P⟩ 4 (zBL p)):=by
   unfold z1l
   rw[hset]
   simp only[hmq,hm2,Bool.and_self,zAD,zD hlt,zA]
  simp only at hR
  rw[hrq]at hR
  simp only[bagR]at hR
  have hord:=z0T p
  rw[hf,zA]at hord
  have hset2:=zTl (zBL p)
  rw[hset,Option.getD_some]at hset2
  have hflat:=zND Q hc 4 (zBL p) _ hset hlt
  obtain⟨m1,m2,m3⟩:=zBo (ht.may Q)
  have hmayT:=(zIn Q.fits Q.vals Q.occ Q.inT 4 (zBL p) _ hset hlt)
  have hmay2:=hmayT.may (zBI _ _ _ hset)
  obtain⟨j1,j2,j3⟩:=zBo hmay2
  have hperm:(zX ⟨T,D,occ,P⟩ p).2.Perm (zC0 ⟨T,D,occ,P⟩ 4 (zBL p)).2:=by
   rw[hflat];exact ht.rows
  have hcols:(zX ⟨T,D,occ,P⟩ p).1=(zC0 ⟨T,D,occ,P⟩ 4 (zBL p)).1:=by
   rw[hflat];exact ht.cols
  have hsame:=z27 (zX ⟨T,D,occ,P⟩ p).1 (zX ⟨T,D,occ,P⟩ p).2 (zC0 ⟨T,D,occ,P⟩ 4 (zBL p)).1 (zC0 ⟨T,D,occ,P⟩ 4 (zBL p)).2 (by omega) (by omega) (by omega) (λ u hu=>⟨ht.rok Q u hu,by rw[(m3 u hu).1];omega⟩) (λ u hu=>⟨(hmayT.rows u hu).2.2,by rw[(j3 u hu).1];omega⟩)
  rw[<- hcols,zUC hperm]at hsame
  rw[<- hcols]at hR
  have hsorted:=zXB (zX ⟨T,D,occ,P⟩ p).1 (zX ⟨T,D,occ,P⟩ p).2 (zE5 p) (by omega) (by omega)
  have hqc:=zN6 T occ P by_ sums out ord (setP p) (zBI _ _ _ hset) hT hq.occ.1 (by omega) (λ e he=>(hok e he).1) (by omega) (by omega) hmq
  have hlen:(zX ⟨T,D,occ,P⟩ p).1.length=(zIm T occ (setP p)).length:=by
   rw[hcols];exact(z0G Q hset hlt).length_eq.symm
  simp only[zDb,Plan.fold,zAY,zBM,zI,zAL,hrun,htree,tupT,hR,bagR,zB,asTup_mk,zAS,zAq,zFa,c_b_mk,Tree.c_mk,Tree.fold,hord,c_i64_mk,zAa,zAo,zAH,zC,zA,hsame,hset2,hqc,hsorted,hmq,zCz,zK,hlen]
  by_cases ho:zE5 p= -1
  ·rw[zIH ho]
   simp
  ·rw[zDP ho]
   obtain⟨_,h2⟩:=ht.ord ho
   have h3:ordB (idxI (zX ⟨T,D,occ,P⟩ p).1 λ x=>zE5 p==x) (zX ⟨T,D,occ,P⟩ p).2=true:=(zMH _ _).2 h2
   rw[h3]
   simp
end Go.Cf

namespace Go.Cf
open Go Go.Ab
theorem z2C{T:List Def} {occ:List Int} {P:List Ex} {m:Bool} {p x:Plan} {s:Nat} (h:mayP T occ P m p=true) (hx:x∈p.l) (hs:setO 4 (zBL x)=some s) (hle:s<=setP p):mayP T occ P m x=true:=by
 unfold mayP at h ⊢
 simp only[zF,zU]at h
 obtain⟨⟨⟨h1,h2⟩,h3⟩,h4⟩:=h
 rw[zNE,zF,zAF]at h4
 have hf:fewP p=true:=by
  cases ht:zMM p with
  |none=>rw[ht]at h1;cases h1
  |some t=>exact(zNF ht).1
 have hsx:setP x=s:=by unfold setP;rw[hs];rfl
 have htx:(zMM x).isSome=true:=by
  unfold zMM
  rw[zF0 hf hx,hs];rfl
 rw[htx,h2,hsx,zD (show s<2 ^ occ.length by omega),h4.2 x hx];rfl
theorem zUR(T:List Def) (D:List (List (List Val))) (q:QIn) (p:Plan) (hT:T.length<=9223372036854775807) (hD:DOk D/\∀ t∈D,∀ r∈t,ROk r) (hq:q.Ok) (hp:p.Ok) :
 wc W zDI [catp T,zGV D,q.pv,p.pv]=some (.bool true):=by
 obtain⟨b,h7,h7b⟩:=zWy T D hD.1 q hq p hp
 obtain⟨occ,P,by_,sums,out,ord⟩:=q
 have h7' :wc W zBX [catp T,zGV D,zCI occ (P.map Ex.pv) by_ sums out ord,p.pv]=some (.bool b):=h7
 have h:=zIJ (T.map Def.pv) (D.map tabp) (occ.map intp) (P.map Ex.pv) by_ (sums.map intp) (out.map intp) ord p.op p.occ p.p0 p.p1 (p.l.map Plan.pv)
 simp only[Plan.fold,zAY,zBM,zI,zAL]at h
 show wc W zDI [catp T,zGV D,zCI occ (P.map Ex.pv) by_ sums out ord,p.pv]=_
 have z:QSz ⟨T,D,occ,P⟩ sums out:=⟨hT,hq.occ.1,hq.P.1,hq.P.2,hq.sums.1,hq.out.1,hD.1,hD.2⟩
 have hrun:=λ x=>zUO z by_ ord x
 simp only at hrun
 unfold runQ at hrun
 have hr0:=hrun p
 rw[h,zUP,h7',hr0]
 cases hm:mayP T occ P (mayQ T occ P by_ sums out ord) p&&fits T D with
 |false =>
  simp only[hm,zC,bagR,zB,asTup_mk,zAS,zAq,zFa,c_b_mk,zAH,Bool.not_false,zA]
  cases b<;>rfl
 |true =>
  simp only[hm,zA,bagR,zB,asTup_mk,zAS,zAq,zFa,c_b_mk,zAH,zC]
  cases b with
  |false=>rfl
  |true =>
  simp only[zAH,zC]
  rw[zF]at hm
  obtain⟨hm1,hm2⟩:=hm
  have hmq:=z00 hm1
  have Q:QOk ⟨T,D,occ,P⟩:=z.may hmq hm2
  have hc:=zNB Q hmq
  obtain⟨_,hf,hset,hlt,hpo⟩:=zSO Q hm1
  have ht:=zCU Q hc hpo
  obtain⟨m1,m2,m3⟩:=zBo (ht.may Q)
  have sub:∀ x∈p.l,∀ s,setO 4 (zBL x)=some s->s<=setP p->wc W zFj [catp T,zGV D,zCI occ (P.map Ex.pv) by_ sums out ord,x.pv]=some (.tup [bagp (zX ⟨T,D,occ,P⟩ x).1 (zX ⟨T,D,occ,P⟩ x).2,.bool true]):=λ x hx s hs hle=>by
   rw[hrun x,z2C hm1 hx hs hle,hm2];rfl
  have two:∀(o p0 p1:Int) (a b:Plan),p= .mk o 0 p0 p1 [a,b]->(o=1∨o=2∨o=3)->PlTells ⟨T,D,occ,P⟩ a->PlTells ⟨T,D,occ,P⟩ b->setP a &&& setP b=0 ->
   (z1w o (zX ⟨T,D,occ,P⟩ a).1 p0 (zX ⟨T,D,occ,P⟩ a).2 (zX ⟨T,D,occ,P⟩ b).1 p1 (zX ⟨T,D,occ,P⟩ b).2).length<=(zX ⟨T,D,occ,P⟩ a).2.length*(zX ⟨T,D,occ,P⟩ b).2.length ->
   zBs (T.map Def.pv) (D.map tabp) (occ.map intp) (P.map Ex.pv) by_ (sums.map intp) (out.map intp) ord p.op p.occ p.p0 p.p1 (p.l.map Plan.pv) ((zX ⟨T,D,occ,P⟩ p).1.map intp) ((zX ⟨T,D,occ,P⟩ p).2.map rowp)=some (.bool true):=by
   intro o p0 p1 a b e ho ta tb hd hl
   subst e
   have hsp:setP (.mk o 0 p0 p1 [a,b])=setP a ||| setP b:=by
    have:setO 4 (zBL (.mk o 0 p0 p1 [a,b]))=some (setP a ||| setP b):=by
     show setO 4 (zQO (zBL a) (zBL b))=_
     rw[zMK,ta.set,tb.set]
     simp only[zB,hd,decide_true,zA]
    show(setO 4 (zBL (.mk o 0 p0 p1 [a,b]))).getD 0=_
    rw[this];rfl
   have sa:=sub a (by simp[Plan.l]) _ ta.set (by rw[hsp];exact Nat.left_le_or)
   have sb:=sub b (by simp[Plan.l]) _ tb.set (by rw[hsp];exact Nat.right_le_or)
   have h5:=zO2 Q ta tb hd ht
   obtain⟨a1,a2,a3⟩:=zBo (ta.may Q)
   obtain⟨b1,b2,b3⟩:=zBo (tb.may Q)
   have hrows:(zX ⟨T,D,occ,P⟩ (.mk o 0 p0 p1 [a,b])).2.length<=(zX ⟨T,D,occ,P⟩ a).2.length*(zX ⟨T,D,occ,P⟩ b).2.length:=Nat.le_trans (zEP _ _) hl
   have hcols:(zX ⟨T,D,occ,P⟩ (.mk o 0 p0 p1 [a,b])).1.length=(zX ⟨T,D,occ,P⟩ a).1.length+(zX ⟨T,D,occ,P⟩ b).1.length:=zAK ..
   have e0:(o==0)=false:=zDP (by omega)
   have e4:(o==4)=false:=zDP (by omega)
   have w1:IntKind.wrap .i64 (((zX ⟨T,D,occ,P⟩ a).2.length:Int)*((zX ⟨T,D,occ,P⟩ b).2.length:Int))=(((zX ⟨T,D,occ,P⟩ a).2.length*(zX ⟨T,D,occ,P⟩ b).2.length:Nat):Int):=by
    rw[<- Int.natCast_mul]
    generalize (zX ⟨T,D,occ,P⟩ a).2.length*(zX ⟨T,D,occ,P⟩ b).2.length=n at h5
    rw[zAU (by omega) (by omega)]
   have w2:IntKind.wrap .i64 (((zX ⟨T,D,occ,P⟩ a).1.length:Int)+((zX ⟨T,D,occ,P⟩ b).1.length:Int))=(((zX ⟨T,D,occ,P⟩ a).1.length+(zX ⟨T,D,occ,P⟩ b).1.length:Nat):Int):=by
    rw[zAU (by omega) (by omega)];rfl
   have po:(Plan.mk o 0 p0 p1 [a,b]).op=o:=rfl
   have pl:(Plan.mk o 0 p0 p1 [a,b]).l=[a,b]:=rfl
   rw[zCY]
   simp only[po,pl,e0,e4,zC,zAX,zA9,zAS,zAq,zB,Plan.c_mk,Plan.fold,zAY,zBM,zI,zAL,zAa,zAo,sa,sb,asTup_mk,zFa,c_b_mk,zA,zK,w1,w2]
   rw[zD (Int.ofNat_le.2 hrows),zIH (by rw[hcols])]
   rfl
  cases hpo with
  |scan c p0 p1 h0 h1 =>
   obtain⟨n,rfl⟩:=Int.eq_ofNat_of_zero_le h0
   have hn:n<occ.length:=by simp only at h1;omega
   have hin:=Q.inT _ (zAC (show n<(⟨T,D,occ,P⟩:QT).occ.length from hn))
   simp only at hin
   have hTD:T.length=D.length:=(zK2 hm2).1.symm
   obtain⟨t,htq⟩:=Int.eq_ofNat_of_zero_le hin.1
   have htl:t<D.length:=by omega
   have hleaf:(⟨T,D,occ,P⟩:QT).leaf n=D[t]:=by
    unfold QT.leaf
    simp only[zA0,zH hn,Option.getD_some,htq,zY,zH htl]
   have hlen:(zX ⟨T,D,occ,P⟩ (.mk 0 (n:Int) p0 p1 [])).2.length<=D[t].length:=by
    simp only[zX,zY,hleaf]
    exact zEP _ _
   show zBs _ _ _ _ _ _ _ _ 0 (n:Int) p0 p1 [] _ _=_
   rw[zCY]
   simp only[zBj,zA,zD (show((n:Nat):Int)≥0 by omega),zK,zAQ hn,zAc,zY,zN,zH hn,zV,zB,zJD,htq,zH htl,zN4]
   rw[zD (Int.ofNat_le.2 hlen)]
  |sort c p0 p1 a ha hcol =>
   have ta:=zCU Q hc ha
   have sa:=sub a (by simp[Plan.l]) _ ta.set (Nat.le_of_eq rfl)
   obtain⟨a1,a2,a3⟩:=zBo (ta.may Q)
   have e0:((4:Int)==0)=false:=rfl
   have hperm:=zQy (zX ⟨T,D,occ,P⟩ a).1 (zX ⟨T,D,occ,P⟩ a).2 p0
   have hsame:=z27 (zX ⟨T,D,occ,P⟩ a).1 (zX ⟨T,D,occ,P⟩ a).2 (zX ⟨T,D,occ,P⟩ a).1 (zTx (zX ⟨T,D,occ,P⟩ a).1 (zX ⟨T,D,occ,P⟩ a).2 p0) (by omega) (by omega) (by rw[hperm.length_eq];omega) (λ u hu=>⟨ta.rok Q u hu,by rw[(a3 u hu).1];omega⟩) (λ u hu=>by
    have:=hperm.mem_iff.1 hu
    exact⟨ta.rok Q u this,by rw[(a3 u this).1];omega⟩)
   rw[zUC hperm.symm]at hsame
   have hsorted:=zXB (zX ⟨T,D,occ,P⟩ a).1 (zTx (zX ⟨T,D,occ,P⟩ a).1 (zX ⟨T,D,occ,P⟩ a).2 p0) p0 (by omega) (by rw[hperm.length_eq];omega)
   have hord:ordB (idxI (zX ⟨T,D,occ,P⟩ a).1 λ x=>p0==x) (zTx (zX ⟨T,D,occ,P⟩ a).1 (zX ⟨T,D,occ,P⟩ a).2 p0)=true:=(zMH _ _).2 (zUH _ _ _)
   rw[hord]at hsorted
   have er:zX ⟨T,D,occ,P⟩ (.mk 4 c p0 p1 [a])=((zX ⟨T,D,occ,P⟩ a).1,zTx (zX ⟨T,D,occ,P⟩ a).1 (zX ⟨T,D,occ,P⟩ a).2 p0):=rfl
   have po:(Plan.mk 4 c p0 p1 [a]).op=4:=rfl
   have pp:(Plan.mk 4 c p0 p1 [a]).p0=p0:=rfl
   have pl:(Plan.mk 4 c p0 p1 [a]).l=[a]:=rfl
   rw[zCY,er]
   simp only[po,pp,pl,e0,zBj,zC,zA,zAX,zA9,zAS,zB,Plan.c_mk,Plan.fold,zAY,zBM,zI,zAL,zAa,zAo,sa,asTup_mk,zAq,zFa,c_b_mk,hsame,hsorted]
  |nest c p0 p1 a b ha hb hd =>
   have hcz:c=0:=by
    have ha' :zBr (.mk 1 c p0 p1 [a,b])=true:=by unfold fewP at hf;simp only[zF]at hf;exact hf.1
    rw[zFp,zF]at ha'
    rcases(zK9 ha'.1).2.2.2 with h | h
    ·cases h
    ·exact h
   subst hcz
   exact two 1 p0 p1 a b rfl (.inl rfl) (zCU Q hc ha) (zCU Q hc hb) hd (by rw[show z1w 1 (zX ⟨T,D,occ,P⟩ a).1 p0 (zX ⟨T,D,occ,P⟩ a).2 (zX ⟨T,D,occ,P⟩ b).1 p1 (zX ⟨T,D,occ,P⟩ b).2=zC7 (zX ⟨T,D,occ,P⟩ a).2 (zX ⟨T,D,occ,P⟩ b).2 from rfl,zHP];exact zM _)
  |hash c p0 p1 a b ha hb hd hpp =>
   have hcz:c=0:=by
    have ha' :zBr (.mk 2 c p0 p1 [a,b])=true:=by unfold fewP at hf;simp only[zF]at hf;exact hf.1
    rw[zFp,zF]at ha'
    rcases(zK9 ha'.1).2.2.2 with h | h
    ·cases h
    ·exact h
   subst hcz
   exact two 2 p0 p1 a b rfl (.inr (.inl rfl)) (zCU Q hc ha) (zCU Q hc hb) hd (zMN _ _ _)
  |merge c p0 p1 a b ha hb hd hpp oa ob =>
   have hcz:c=0:=by
    have ha' :zBr (.mk 3 c p0 p1 [a,b])=true:=by unfold fewP at hf;simp only[zF]at hf;exact hf.1
    rw[zFp,zF]at ha'
    rcases(zK9 ha'.1).2.2.2 with h | h
    ·cases h
    ·exact h
   subst hcz
   have ta:=zCU Q hc ha
   have tb:=zCU Q hc hb
   obtain⟨⟨i0,i1⟩,_⟩:=zKD Q hc ta tb hd hpp
   have hms:=z0Z Q ta tb i0 i1 oa ob
   exact two 3 p0 p1 a b rfl (.inr (.inr rfl)) ta tb hd (by
    show(mrgF _ _ _ _ _).length<=_
    rw[hms];exact zMN _ _ _)
end Go.Cf
