/- Part 17 of the proof: an abstract machine that runs the program's code over plain values, its soundness, and what the functions tell of plain values. Conditions: those in each theorem. -/
import Derived.Test.YtgebkpchpliahaaGreatDoorA15
set_option linter.unusedSectionVars false
set_option linter.unusedVariables false
set_option linter.unusedSimpArgs false
noncomputable section
namespace Go.Cf
open Go Go.Ab
namespace Plan
inductive Ok:Plan->Prop
 |mk (o c a b:Int) (l:List Plan) (hl:l.length<=maxLen) (h:∀ t∈l,t.Ok):Ok (.mk o c a b l)
theorem Ok.len{t:Plan} (h:t.Ok):t.l.length<=9223372036854775807:=by cases h;assumption
theorem Ok.part{t:Plan} (h:t.Ok):∀ x∈t.l,x.Ok:=by cases h;assumption
end Plan
theorem z3l(t:Plan):∀ m:Int,t.Ok->∃ n,wc W zDK [t.pv,.int .i64 m]=some (.int .i64 n):=by
 induction t using Plan.ind with
 |h o c a b l ih =>
  intro m ha
  have hll:l.length<=9223372036854775807:=ha.len
  have hpart:∀ x∈l,x.Ok:=ha.part
  rw[Plan.pv_mk,zLL]
  have:∀(k i:Nat) (n:Int),i+k=l.length->∃ r,zCn m o c a b (l.map Plan.pv) n (i:Int)=some (.int .i64 r):=by
   intro k
   induction k with
   |zero =>
    intro i n h
    simp at h;subst h
    exact⟨n,by rw[zEm];simp⟩
   |succ k ih2 =>
    intro i n h
    have hi:i<l.length:=by omega
    rw[zEm]
    simp only[zG,zAK hi,zA]
    cases decide (n<=m) with
    |false=>exact⟨n,rfl⟩
    |true =>
     obtain⟨q,hq⟩:=ih l[i] (zAF hi) (IntKind.wrap .i64 (m-n)) (hpart _ (zAF hi))
     obtain⟨r,hr⟩:=ih2 (i+1) (IntKind.wrap .i64 (n+q)) (by omega)
     refine⟨r,?_⟩
     rw[zA,zIV]
     simp only[zA2,zA,zY,zN,zI hi,zU,zB,Plan.c_mk,Plan.fold,hq,c_i64_mk]
     rw[zAZ (n:=(i:Int)+1) (by omega) (by omega)]
     exact hr
  exact this l.length 0 1 (by omega)
theorem z3m(T:List Def) (D:List (List (List Val))) (hD:DOk D) (q:QIn) (hq:q.Ok) (p:Plan) (hp:p.Ok):∃ b,wc W zC6 [catp T,zIo D,q.pv,p.pv]=some (.bool b)/\(b=true->q.P.length<=8/\q.sums.length<=20/\q.out.length<=20/\∀ e∈q.P,e.sz<=60):=by
 obtain⟨b7,h7,h7b⟩:=z5h T D hD q hq
 obtain⟨occ,P,by_,sums,out,ord⟩:=q
 have h7' :wc W zCi [catp T,zIo D,zDH occ (P.map Ex.pv) by_ sums out ord]=some (.bool b7):=h7
 obtain⟨v,hv⟩:=z5i D hD occ (P.map Ex.pv) by_ sums out ord
 obtain⟨n1,hn1⟩:=z3l p 100 hp
 have hfar:=zLl (T.map Def.pv) (D.map tabp) (occ.map intp) (P.map Ex.pv) by_ (sums.map intp) (out.map intp) ord
 have h:=zLK (T.map Def.pv) (D.map tabp) (occ.map intp) (P.map Ex.pv) by_ (sums.map intp) (out.map intp) ord p.op p.occ p.p0 p.p1 (p.l.map Plan.pv)
 simp only[Plan.fold,zAj,zBu,zH,zAS]at h hfar
 show ∃ b,wc W zC6 [catp T,zIo D,zDH occ (P.map Ex.pv) by_ sums out ord,p.pv]=_/\_
 rw[h,hfar,h7',hv,hn1]
 simp only[zB,c_b_mk,c_i64_mk]
 cases b7 with
 |false=>exact⟨false,rfl,λ h=>by cases h⟩
 |true =>
  simp only[zA,c_i64_mk,zB,zCO]
  cases v==0 with
  |false=>exact⟨false,rfl,λ h=>by cases h⟩
  |true=>exact⟨decide (n1<=100),rfl,λ _=>h7b rfl⟩
end Go.Cf

namespace Go.Cf
open Go Go.Ab
def zTM(e:Ex):Option (Int×Int) :=
 bif mayT e&&e.op==6 then
  match e.l with
  | [a,b]=>bif a.op==1&&b.op==1&& !(a.col==b.col)then some (a.col,b.col)else none
  |_=>none
 else none
theorem zYN{e:Ex} (h:mayT e=true) (ho:e.op=6):∃ a b,e.l=[a,b]:=by
 have hp:=zK4 e.sz e (zO _) 1 0 (by unfold mayT at h;exact h)
 rw[zQT,zF]at hp
 have h1:=hp.1
 unfold zSi at h1
 rw[ho]at h1
 have h2:e.l.length=2:=by
  simp[lowO,zSh]at h1
  omega
 match e.l,h2 with
 | [a,b],_=>exact⟨a,b,rfl⟩
def tupP(x:Option (Int×Int)):PV:=match x with | some p=> .tup [.int .i64 p.1,.int .i64 p.2,.bool true] | none=> .tup [.int .i64 0,.int .i64 0,.bool false]
theorem z8O(e:Ex) (he:e.ok):wc W zLg [e.pv]=some (tupP (zTM e)):=by
 have h:=zW3 e.op e.col e.v.K e.v.N (e.l.map Ex.pv)
 rw[Ex.fold]at h
 rw[h,zNh e he]
 simp only[zB,c_b_mk]
 unfold zTM
 cases hm:mayT e with
 |false=>rfl
 |true =>
  by_cases ho:e.op=6
  ·obtain⟨a,b,hl⟩:=zYN hm ho
   rw[zIS ho,zIT ho,hl]
   simp only[zAJ,zC,Bool.and_self,zA,zOl,zA1,zAd,zAO,zAg,zB,Ex.c_mk,zOm]
   by_cases h1:a.op=1
   ·by_cases h2:b.op=1
    ·rw[zIS h1,zIS h2,zIT h1,zIT h2]
     cases hc:a.col==b.col with
     |true=>rfl
     |false=>rfl
    ·rw[zIS h1,zH3 h2,zIT h1,zDI h2];rfl
   ·rw[zH3 h1,zDI h1];rfl
  ·rw[zH3 ho,zDI ho];rfl
theorem zVO{e:Ex} {u v:Int} (h:zTM e=some (u,v)):u∈zGa e/\v∈zGa e/\∀(c:List Int) (r:List Val),zLN e c r=true->zDk (zV c r u) (zV c r v)=true:=by
 unfold zTM at h
 obtain⟨h1,h2⟩:=bif_some h
 simp only[zF,beq_iff_eq]at h1
 obtain⟨hm,ho⟩:=h1
 obtain⟨a,b,hl⟩:=zYN hm ho
 rw[hl]at h2
 simp only at h2
 obtain⟨h3,h4⟩:=bif_some h2
 simp only[zF,beq_iff_eq,zE,zA4]at h3 h4
 obtain⟨⟨ha,hb⟩,_⟩:=h3
 obtain⟨rfl,rfl⟩:=h4
 have ca:∀ x:Ex,x.op=1->x.col∈zJo x:=λ x hx=>by rw[zMj,zIT hx];simp
 have hcols:∀ z,z∈zJo a∨z∈zJo b->z∈zGa e:=λ z hz=>by
  rw[zUi hm,zMj,hl]
  simp only[zOq,List.mem_append,zBM]
  exact .inr hz
 refine⟨hcols _ (.inl (ca a ha)),hcols _ (.inr (ca b hb)),λ c r hk=> ?_⟩
 unfold zLN z1S at hk
 rw[hm]at hk
 simp only[zA]at hk
 rw[zKy,ho,hl]at hk
 have ea:∀ x:Ex,x.op=1->zLu (zV c r) x=zV c r x.col:=λ x hx=>by rw[zKy,hx];rfl
 have e6:∀ l:List Val,opV 6 l=eqV (l.getD 0 badV) (l.getD 1 badV):=λ l=>rfl
 have k0:((6:Int)==0)=false:=rfl
 have k1:((6:Int)==1)=false:=rfl
 simp only[k0,k1,zC,zA1,zAd,ea a ha,ea b hb,e6]at hk
 have hg:([zV c r a.col,zV c r b.col].getD 0 badV)=zV c r a.col/\([zV c r a.col,zV c r b.col].getD 1 badV)=zV c r b.col:=⟨rfl,rfl⟩
 rw[hg.1,hg.2]at hk
 generalize zV c r a.col=x at hk
 generalize zV c r b.col=y at hk
 exact eq_true_same hk
where
 eq_true_same {x y:Val} (hk:zQS (eqV x y)=true):zDk x y=true:=by
  unfold eqV at hk
  cases hod:oddV [x,y] with
  |some v =>
   rw[hod]at hk
   unfold oddV at hod
   simp only at hk
   cases h1:[x,y].any (λ v=>(zEk v).K==2) with
   |true=>rw[h1]at hod;simp at hod;subst hod;cases hk
   |false =>
    rw[h1]at hod
    cases h2:[x,y].any (λ v=>(zEk v).K==1) with
    |true=>rw[h2]at hod;simp at hod;subst hod;cases hk
    |false=>rw[h2]at hod;cases hod
  |none =>
   rw[hod]at hk
   unfold oddV at hod
   cases h1:[x,y].any (λ v=>(zEk v).K==2) with
   |true=>rw[h1]at hod;cases hod
   |false =>
    rw[h1]at hod
    cases h2:[x,y].any (λ v=>(zEk v).K==1) with
    |true=>rw[h2]at hod;cases hod
    |false =>
     simp only[List.any_cons,List.any_nil,Bool.or_false,Bool.or_eq_false_iff,beq_eq_false_iff_ne,ne_eq]at h1 h2
     simp only at hk
     have hxy:x=y:=by
      by_cases e:x=y
      ·exact e
      ·rw[zK e]at hk;cases hk
     subst hxy
     have hm:mayV x=true:=by
      cases hm:mayV x with
      |true=>rfl
      |false =>
       have:(zEk x).K=2:=by unfold zEk;rw[hm];rfl
       exact absurd this h1.1
     have hf:zEk x=x:=by unfold zEk;rw[hm];rfl
     rw[hf]at h1 h2
     unfold mayV at hm
     simp only[zEU,zF,zR]at hm
     have hK:x.K=0:=by
      rcases hm with h | ⟨h | h,_⟩
      ·exact h
      ·exact absurd h h2.1
      ·exact absurd h h1.1
     unfold zDk
     rw[hK];simp
def zMD(p:Int×Int):PV:= .agg [.int .i64 p.1,.int .i64 p.2]
@[simp] theorem z5j(p:Int×Int) {R:Type} (f:Int->Int->Option R):zM (zMD p) f=f p.1 p.2:=rfl
theorem z5k(c:Int):setC 0 [c]=2 ^ occI c:=by simp[setC]
theorem z5l:∀ s:Nat,s<16->∀ o:Nat,o<4->zA3 s (2 ^ o)=s.testBit o:=by decide +kernel
def wayP(x y:Nat) (p:Int×Int):Option (Int×Int) :=
 bif x.testBit (occI p.1)&&y.testBit (occI p.2)then some p else bif x.testBit (occI p.2)&&y.testBit (occI p.1)then some (p.2,p.1)else none
def zFe(P:List Ex) (x y:Nat) (idx:List Nat):List (Int×Int):=idx.filterMap λ i=>(P[i]?).bind λ e=>(zTM e).bind (wayP x y)
theorem zRr(occ:List PV) (P:List Ex) (by_:Int) (sums out:List PV) (ord:Int) (x y:Nat) (hx:x<16) (hy:y<16) (hok:∀ e∈P,e.ok) (idx:List Nat) (hi:∀ i∈idx,i<P.length) (hl:idx.length<=1000000):∀(k j:Nat) (acc:List (Int×Int)),j+k=idx.length->acc.length<=j ->
 zCl (x:Int) (y:Int) occ (P.map Ex.pv) by_ sums out ord ((idx.map λ n:Nat=>(n:Int)).map intp) ((idx.length:Nat):Int) (j:Int) (acc.map zMD)=some (.slice 3 ((acc++zFe P x y (idx.drop j)).map zMD))
 | 0,j,acc,h,ha=>by
  rw[zIG,show j=idx.length by omega]
  simp[zFe]
 |k+1,j,acc,h,ha=>by
  have hj:j<idx.length:=by omega
  have hp:=hi _ (zAF hj)
  have next:=λ acc' ha' =>zRr occ P by_ sums out ord x y hx hy hok idx hi hl k (j+1) acc' (by omega) ha'
  have hcons:zFe P x y (idx.drop j)=(((zTM P[idx[j]]).bind (wayP x y)).toList)++zFe P x y (idx.drop (j+1)):=by
   rw[zAk hj]
   unfold zFe
   rw[List.filterMap_cons,zI hp]
   simp only[zB]
   cases (zTM P[idx[j]]).bind (wayP x y)<;>rfl
  have ws:∀ c:Int,wc W zHF [.slice 0 [.int .i64 c]]=some (.int .i64 ((2 ^ occI c:Nat):Int)):=λ c=>by
   have:=z12 [c] (by simp)
   rw[z5k]at this;exact this
  have wh:∀(s:Nat) (c:Int),s<16->wc W zBB [.int .i64 (s:Int),.int .i64 ((2 ^ occI c:Nat):Int)]=some (.bool (s.testBit (occI c))):=λ s c hs=>by
   rw[zQY s _ hs (z10 _ (zJW c)),z5l s hs _ (zJW c)]
  rw[zIG]
  simp only[zAK hj,zA2,zA,zY,zN,zI hj,zU,zB,zIK,zI hp,Ex.c_mk,Ex.fold,z8O _ (hok _ (zAF hp))]
  rw[zX (by omega),hcons]
  cases hpe:zTM P[idx[j]] with
  |none =>
   simp only[tupP,asTup_mk,zB,zAO,zAg,c_i64_mk,c_b_mk,Bool.not_false,zA,Option.bind_none,Option.toList_none,List.nil_append]
   exact next acc (by omega)
  |some p =>
   obtain⟨u,v⟩:=p
   simp only[tupP,asTup_mk,zB,zAO,zAg,c_i64_mk,c_b_mk,zAJ,zC]
   have w1:IntKind.wrap .i64 ((0:Int)+1)=1:=by rw[zAZ (by omega) (by omega)];rfl
   have w2:IntKind.wrap .i64 ((1:Int)+1)=2:=by rw[zAZ (by omega) (by omega)];rfl
   have put:∀ q:Int×Int,zCl (x:Int) (y:Int) occ (P.map Ex.pv) by_ sums out ord ((idx.map λ n:Nat=>(n:Int)).map intp) ((idx.length:Nat):Int) ((j+1:Nat):Int) (acc.map zMD++[PV.agg [PV.int .i64 q.1,PV.int .i64 q.2]])=some (.slice 3 ((acc++([q]++zFe P x y (idx.drop (j+1)))).map zMD)):=λ q=>by
    have:=next (acc++[q]) (by simp;omega)
    rw[zAm,zAE]at this
    exact this
   have hlen:decide (acc.length+1<=4294967296)=true:=zD (by omega)
   rw[zF8]
   have d0:decide ((0:Int)<2)=true:=rfl
   have d1:decide ((0:Int)<=0)=true:=rfl
   have t0:(0:Int).toNat=0:=rfl
   have cc:∀(a b:Int) {R:Type} (f:Int->Int->Option R),zM (PV.agg [PV.int .i64 a,PV.int .i64 b]) f=f a b:=λ a b R f=>rfl
   simp only[d0,d1,t0,zA,zAO,zB,cc,ws,c_i64_mk,wh x _ hx,wh y _ hy,c_b_mk,zIH,zG,hlen,zAA]
   unfold wayP
   simp only
   cases b1:x.testBit (occI u)&&y.testBit (occI v) with
   |true =>
    rw[zF]at b1
    rw[b1.1,b1.2]
    simp only[zA,Option.toList_some]
    rw[zX (by omega)]
    exact put (u,v)
   |false =>
    have second:zER (x:Int) (y:Int) occ (P.map Ex.pv) by_ sums out ord ((idx.map λ n:Nat=>(n:Int)).map intp) ((idx.length:Nat):Int) (j:Int) [PV.agg [PV.int .i64 u,PV.int .i64 v],PV.agg [PV.int .i64 v,PV.int .i64 u]] 2 1 (acc.map zMD) =
     some (.slice 3 ((acc++((bif x.testBit (occI v)&&y.testBit (occI u)then some (v,u)else none).toList++zFe P x y (idx.drop (j+1)))).map zMD)):=by
     rw[zF8]
     have d2:decide ((1:Int)<2)=true:=rfl
     have d3:decide ((0:Int)<=1)=true:=rfl
     have t1:(1:Int).toNat=1:=rfl
     simp only[d2,d3,t1,zA,zAO,zAg,zB,cc,ws,c_i64_mk,wh x _ hx,wh y _ hy,c_b_mk,zIH,zG,hlen,zAA]
     have third:zER (x:Int) (y:Int) occ (P.map Ex.pv) by_ sums out ord ((idx.map λ n:Nat=>(n:Int)).map intp) ((idx.length:Nat):Int) (j:Int) [PV.agg [PV.int .i64 u,PV.int .i64 v],PV.agg [PV.int .i64 v,PV.int .i64 u]] 2 2 (acc.map zMD)=some (.slice 3 ((acc++zFe P x y (idx.drop (j+1))).map zMD)):=by
      rw[zF8]
      have d4:decide ((2:Int)<2)=false:=rfl
      simp only[d4,zC]
      rw[zX (by omega)]
      exact next acc (by omega)
     cases b2:x.testBit (occI v) with
     |false =>
      simp only[zC,Bool.false_and,Option.toList_none,List.nil_append,w2,third]
     |true =>
      cases b3:y.testBit (occI u) with
      |false=>simp only[zA,zC,Bool.and_false,Option.toList_none,List.nil_append,w2,third]
      |true =>
       simp only[zA,Bool.and_self,Option.toList_some]
       rw[zX (by omega)]
       exact put (v,u)
    rw[Bool.and_eq_false_iff]at b1
    rcases b1 with b1 | b1
    ·rw[b1]
     simp only[zC,w1,second]
    ·rw[b1]
     cases x.testBit (occI u) with
     |true=>simp only[zA,zC,w1,second]
     |false=>simp only[zC,w1,second]
theorem z5m(occ:List Int) (P:List Ex) (by_:Int) (sums out:List Int) (ord:Int) (x y:Nat) (hx:x<16) (hy:y<16) (hP:P.length<=1000000) (hok:∀ e∈P,e.ok) :
 wc W zJK [zDH occ (P.map Ex.pv) by_ sums out ord,.int .i64 (x:Int),.int .i64 (y:Int)]=some (.slice 3 ((zFe P x y (newQ P x y)).map zMD)):=by
 have h:=zSa (occ.map intp) (P.map Ex.pv) by_ (sums.map intp) (out.map intp) ord (x:Int) (y:Int)
 rw[zH,zH,zH,zAS]at h
 have hn:=z8B occ P by_ sums out ord x y hx hy hP hok
 have hl:=zUn P (newF x y)
 have:=zRr (occ.map intp) P by_ (sums.map intp) (out.map intp) ord x y hx hy hok (newQ P x y) (λ i hi=>zSo hi) (by unfold newQ;omega) (newQ P x y).length 0 [] (by omega) (by simp)
 have z:((0:Nat):Int)=0:=rfl
 rw[z,List.drop_zero]at this
 rw[h,hn]
 simp only[zB,zDc,zG]
 exact this
theorem zVP{q:QT} {x y:Nat} {u v:Int} (h:(u,v)∈zFe q.P x y (newQ q.P x y)):zYK q x y u v:=by
 unfold zFe at h
 obtain⟨i,hi,h⟩:=List.mem_filterMap.1 h
 obtain⟨e,he,h⟩:=zL.1 h
 obtain⟨p,hp,h⟩:=zL.1 h
 obtain⟨a,b⟩:=p
 obtain⟨h1,h2,h3⟩:=zVO hp
 have hn:newF x y (setE e)=true:=by
  unfold newQ zK7 at hi
  have:=(zBE.1 hi).2
  rw[he]at this
  simpa using this
 unfold wayP at h
 cases b1:x.testBit (occI a)&&y.testBit (occI b) with
 |true =>
  rw[b1]at h
  simp only[zA,zE,zA4]at h
  obtain⟨rfl,rfl⟩:=h
  rw[zF]at b1
  exact⟨e,zAU he,hn,h1,h2,b1.1,b1.2,h3⟩
 |false =>
  rw[b1]at h
  obtain⟨b2,h⟩:=bif_some h
  simp only[zE,zA4]at h
  obtain⟨rfl,rfl⟩:=h
  rw[zF]at b2
  exact⟨e,zAU he,hn,h2,h1,b2.1,b2.2,λ c r hk=>by rw[zRq];exact h3 c r hk⟩
theorem zXA(l:List (Int×Int)) (p:Int×Int) (hl:l.length<=9223372036854775807):wc W zC0 [.slice 3 (l.map zMD),.agg [.int .i64 p.1,.int .i64 p.2]]=some (.bool (decide (p∈l))):=by
 have h:=zG8 (l.map zMD) p.1 p.2
 have h2:=zHl (l.map zMD) p.1 p.2
 have h3:zBR (l.map zMD) p.1 p.2 ((l.length:Nat):Int) 0=some (.int .i64 (idxI l λ z=>p.1==z.1&&p.2==z.2)):=by
  refine zJV (λ i=>zBR (l.map zMD) p.1 p.2 ((l.length:Nat):Int) i) l (λ z=>p.1==z.1&&p.2==z.2) (λ n=>some (.int .i64 n)) (λ i hi=> ?_) ?_
  ·rw[zDY]
   have e:∀ z:Int×Int,((bif p.1==z.1 then bif p.2==z.2 then some true else some false else some false).bind λ v9=>some (PV.bool v9))=some (.bool (p.1==z.1&&p.2==z.2)):=λ z=>by cases p.1==z.1<;>cases p.2==z.2<;>rfl
   simp only[zAK hi,zA2,zA,zY,zN,zI hi,zU,zB,z5j,e,c_b_mk]
   rw[zAZ (by omega) (by omega)]
  ·rw[zDY];simp
 rw[h,h2,zG,h3]
 have ha:=zJU l λ z=>p.1==z.1&&p.2==z.2
 have hm:(l.any λ z=>p.1==z.1&&p.2==z.2)=decide (p∈l):=by
  rw[Bool.eq_iff_iff,List.any_eq_true,zR]
  constructor
  ·rintro⟨z,hz,e⟩
   simp only[zF,beq_iff_eq]at e
   have:p=z:=Prod.ext e.1 e.2
   rw[this];exact hz
  ·intro h;exact⟨p,h,by simp⟩
 rw[hm]at ha
 simp only[zB,c_i64_mk,ha]
end Go.Cf

namespace Go.Cf
open Go Go.Ab
theorem zTN(p:Plan):setP p<16:=by
 unfold setP
 cases h:setO 4 (zBm p) with
 |none=>simp
 |some m=>exact zC4 _ _ _ h
def ordF(p:Plan):Int:=bif fewP p then zEe p else -1
def zRD(T:List Def) (occ:List Int) (P:List Ex) (p:Plan):Bool :=
 p.op==0 || p.op==1 || bif p.op==4 then inC (zLx T occ (setP p)) p.p0 else
  match p.l with
  | [a,b]=>decide ((p.p0,p.p1)∈zFe P (setP a) (setP b) (newQ P (setP a) (setP b)))&&(p.op==2 || (ordF a==p.p0&&ordF b==p.p1))
  |_=>false
theorem zXB(T:List Def) (hT:mayC T=true) (occ:List Int) (s:Nat):(zLx T occ s).length<=16:=by
 have:=zSn T hT occ (λ o=>s.testBit o) (min occ.length 4) 0
 unfold zLx
 omega
theorem z8P(T:List Def) (occ:List Int) (P:List Ex) (by_:Int) (sums out:List Int) (ord:Int) (hT:T.length<=9223372036854775807) (hocc:occ.length<=9223372036854775807) (hP:P.length<=1000000) (hok:∀ e∈P,e.ok)
 (hs:sums.length<=4294967296) (ho:out.length<=4294967296) (hm:mayQ T occ P by_ sums out ord=true) (p:Plan) (hf:zC5 p=true) :
 wc W zG2 [p.pv,catp T,zDH occ (P.map Ex.pv) by_ sums out ord]=some (.bool (zRD T occ P p)):=by
 have h:=zOa p.op p.occ p.p0 p.p1 (p.l.map Plan.pv) (T.map Def.pv) (occ.map intp) (P.map Ex.pv) by_ (sums.map intp) (out.map intp) ord
 rw[Plan.fold,zAj,zH,zH,zH,zAS]at h
 have hmT:mayC T=true:=by
  unfold mayQ at hm
  simp only[zF]at hm
  exact hm.1.1.1.1.1.1
 rw[h]
 have key:∀ b:Bool,(b=true->p.op=0∨p.op=1)->(b=false->p.op≠0/\p.op≠1)->zDu p.op p.occ p.p0 p.p1 (p.l.map Plan.pv) (T.map Def.pv) (occ.map intp) (P.map Ex.pv) by_ (sums.map intp) (out.map intp) ord p.op b=some (.bool (zRD T occ P p)):=λ b hb1 hb2=>by
  rw[zKX]
  cases b with
  |true =>
   simp only[zA]
   unfold zRD
   rcases hb1 rfl with e | e<;>rw[e]<;>rfl
  |false =>
   obtain⟨n0,n1⟩:=hb2 rfl
   simp only[zC]
   unfold zRD
   rw[zDI n0,zDI n1,Bool.false_or,Bool.false_or]
   rcases zMy hf with⟨c,a,b,hp⟩ | ⟨a,b,x,hp,hx⟩ | ⟨o',a,b,x,y,hp,ho',hx,hy⟩
   ·rw[hp]at n0;exact absurd rfl n0
   ·have e4:(p.op==4)=true:=by rw[hp];rfl
    rw[e4]
    have hc:=zUm T occ P by_ sums out ord (setP p) (zTN p) hT hocc (by omega) hok hs ho hm
    have hl:=zXB T hmT occ (setP p)
    simp only[zA,Plan.fold,zAj,zH,zAS,z1s hf,zB,c_i64_mk,hc,zDc,zKz (zLx T occ (setP p)) p.p0 (by omega),c_b_mk]
   ·have eo:p.op=o' :=by rw[hp];rfl
    have e4:(p.op==4)=false:=by rw[eo];exact zDI (by omega)
    have hl:p.l=[x,y]:=by rw[hp];rfl
    rw[e4,hl]
    have hpr:=z5m occ P by_ sums out ord (setP x) (setP y) (zTN x) (zTN y) hP hok
    have hpl:(zFe P (setP x) (setP y) (newQ P (setP x) (setP y))).length<=1000000:=by
     have h1:=List.length_filterMap_le (λ i=>(P[i]?).bind λ e=>(zTM e).bind (wayP (setP x) (setP y))) (newQ P (setP x) (setP y))
     have h2:=zUn P (newF (setP x) (setP y))
     unfold zFe newQ at *
     omega
    have hct:=zXA (zFe P (setP x) (setP y) (newQ P (setP x) (setP y))) (p.p0,p.p1) (by omega)
    have hcs:∀(l:List PV) {R:Type} (f:List PV->Option R),c_s3 (.slice 3 l) f=f l:=λ l R f=>rfl
    simp only[zC,zA1,zAd,zAO,zAg,zB,Plan.c_mk,Plan.fold,zH,zAS,z1s hx,z1s hy,c_i64_mk,hpr,hcs,hct,c_b_mk,z1t]
    show _=some (PV.bool (decide ((p.p0,p.p1)∈zFe P (setP x) (setP y) (newQ P (setP x) (setP y)))&&(p.op==2 || (ordF x==p.p0&&ordF y==p.p1))))
    cases decide ((p.p0,p.p1)∈zFe P (setP x) (setP y) (newQ P (setP x) (setP y))) with
    |false=>rfl
    |true =>
     cases p.op==2 with
     |true=>rfl
     |false =>
      simp only[zA,zC,zAA,Bool.false_or]
      show(bif ordF x==p.p0 then some (PV.bool (ordF y==p.p1))else some (PV.bool false))=_
      cases ordF x==p.p0<;>rfl
 by_cases e0:p.op=0
 ·rw[zIT e0,zA]
  exact key true (λ _=> .inl e0) (λ h=>by cases h)
 ·rw[zDI e0,zC]
  by_cases e1:p.op=1
  ·rw[zIT e1];exact key true (λ _=> .inr e1) (λ h=>by cases h)
  ·rw[zDI e1];exact key false (λ h=>by cases h) (λ _=>⟨e0,e1⟩)
mutual
def zHf(T:List Def) (occ:List Int) (P:List Ex):Plan->Bool
 | .mk o c a b l=>zRD T occ P (.mk o c a b l)&&zPO T occ P l
def zPO(T:List Def) (occ:List Int) (P:List Ex):List Plan->Bool
 | []=>true
 |t::r=>zHf T occ P t&&zPO T occ P r
end
theorem zOQ(T:List Def) (occ:List Int) (P:List Ex):∀ l:List Plan,zPO T occ P l=l.all (zHf T occ P)
 | []=>rfl
 |t::r=>by rw[zPO,zOQ T occ P r];rfl
theorem zRs(T:List Def) (occ:List Int) (P:List Ex) (p:Plan):zHf T occ P p=(zRD T occ P p&&p.l.all (zHf T occ P)):=by cases p;rw[zHf,zOQ];rfl
theorem z3n(T:List Def) (occ:List Int) (P:List Ex) (by_:Int) (sums out:List Int) (ord:Int) (hT:T.length<=9223372036854775807) (hocc:occ.length<=9223372036854775807) (hP:P.length<=1000000) (hok:∀ e∈P,e.ok)
 (hs:sums.length<=4294967296) (ho:out.length<=4294967296) (hm:mayQ T occ P by_ sums out ord=true) (p:Plan):zC5 p=true ->
 wc W zEF [p.pv,.fn zGM [] [.imm 2 (catp T) 0,.imm 7 (zDH occ (P.map Ex.pv) by_ sums out ord) 0]]=some (.bool (zHf T occ P p)):=by
 induction p using Plan.ind with
 |h o c a b l ih =>
  intro hf
  have h:=zWX o c a b (l.map Plan.pv) (.fn zGM [] [.imm 2 (catp T) 0,.imm 7 (zDH occ (P.map Ex.pv) by_ sums out ord) 0])
  rw[<- Plan.pv_mk]at h
  have h1:=zU7 o c a b (l.map Plan.pv) (T.map Def.pv) (occ.map intp) (P.map Ex.pv) by_ (sums.map intp) (out.map intp) ord
  rw[<- Plan.pv_mk,zAj,zH,zH,zH,zAS,z8P T occ P by_ sums out ord hT hocc hP hok hs ho hm _ hf]at h1
  rw[h]
  simp only[asFn_mk,zB,List.nil_append,List.singleton_append,h1,c_b_mk]
  rw[zRs]
  have hfl:=hf
  rw[zLG,zF,zAB]at hfl
  have hlen:=(zTL hfl.1).1
  have h2:=zVN (Plan.mk o c a b l).op
  have hl:(Plan.mk o c a b l).l=l:=rfl
  rw[hl]at hlen hfl
  cases zRD T occ P (.mk o c a b l) with
  |false=>rfl
  |true =>
   simp only[zAJ,zC,zAA,zG,hl]
   have loop:∀(k i:Nat),i+k=l.length->zGu (.fn zGM [] [.imm 2 (catp T) 0,.imm 7 (zDH occ (P.map Ex.pv) by_ sums out ord) 0]) (l.map Plan.pv) ((l.length:Nat):Int) (i:Int)=some (.bool ((l.drop i).all (zHf T occ P))):=by
    intro k
    induction k with
    |zero =>
     intro i hi
     rw[zJh,show i=l.length by omega]
     simp
    |succ k ihk =>
     intro i hi
     have hil:i<l.length:=by omega
     rw[zJh]
     simp only[zAK hil,zA2,zA,zY,zN,zI hil,zU,zB,Plan.c_mk,Plan.fold,ih l[i] (zAF hil) (hfl.2 _ (zAF hil)),c_b_mk]
     rw[zX (by omega),ihk (i+1) (by omega),zAk hil,List.all_cons]
     cases zHf T occ P l[i]<;>rfl
   exact loop l.length 0 (by omega)
def mayP(T:List Def) (occ:List Int) (P:List Ex) (may:Bool) (p:Plan):Bool:=(zQk p).isSome&&may&&decide (setP p<2 ^ occ.length)&&zHf T occ P p
theorem zNm{p:Plan} {t:Tree} (h:zQk p=some t):fewP p=true/\zC5 p=true/\t=zBm p/\setO 4 (zBm p)=some (setP p):=by
 unfold zQk at h
 obtain⟨h1,h2⟩:=bif_some h
 rw[zF]at h1
 obtain⟨h3,h4⟩:=h1
 simp only[zE]at h2
 have ha:zC5 p=true:=by unfold fewP at h3;simp only[zF]at h3;exact h3.1
 refine⟨h3,ha,h2.symm,?_⟩
 unfold setP
 cases hs:setO 4 (zBm p) with
 |none=>rw[hs]at h4;cases h4
 |some m=>rfl
theorem z8Q(T:List Def) (occ:List Int) (P:List Ex) (by_:Int) (sums out:List Int) (ord:Int) (hT:T.length<=9223372036854775807) (hocc:occ.length<=9223372036854775807) (hP:P.length<=1000000) (hok:∀ e∈P,e.ok)
 (hs:sums.length<=4294967296) (ho:out.length<=4294967296) (p:Plan) :
 wc W zN0 [catp T,zDH occ (P.map Ex.pv) by_ sums out ord,p.pv]=some (.bool (mayP T occ P (mayQ T occ P by_ sums out ord) p)):=by
 have h:=zZH (T.map Def.pv) (occ.map intp) (P.map Ex.pv) by_ (sums.map intp) (out.map intp) ord p.op p.occ p.p0 p.p1 (p.l.map Plan.pv)
 rw[Plan.fold,zAj,zH,zH,zH,zAS]at h
 rw[h,zWz,zLw T occ P by_ sums out ord hT hocc (by omega) hok hs ho]
 unfold mayP
 cases ht:zQk p with
 |none=>simp only[tupT,zB,asTup_mk,zAO,zAg,Tree.c_mk,c_b_mk];rfl
 |some t =>
  obtain⟨h1,h2,rfl,h4⟩:=zNm ht
  have hws:=z32 (zBm p)
  rw[h4,Option.getD_some]at hws
  simp only[tupT,zB,asTup_mk,zAO,zAg,Tree.c_mk,Tree.fold,c_b_mk,zAJ,zC,Option.isSome_some,zAA,hws,c_i64_mk,zG]
  cases hm:mayQ T occ P by_ sums out ord with
  |false=>rfl
  |true =>
   have hparts:=hm
   unfold mayQ at hparts
   simp only[zF,zR,zAB]at hparts
   have h5:occ.length<=4:=hparts.1.1.1.1.2
   rw[z8l (setP p) (zTN p) occ.length (by omega)]
   simp only[zAJ,zC,zAA]
   cases decide (setP p<2 ^ occ.length) with
   |false=>rfl
   |true =>
    simp only[zAJ,zC,zAA,zQJ,Plan.fold,zAj,zH,zAS,z3n T occ P by_ sums out ord hT hocc hP hok hs ho hm p h2,zB,c_b_mk]
theorem z3o{x y:Tree} {m:Nat} (h:setO 4 (zTE x y)=some m):∃ a b,setO 4 x=some a/\setO 4 y=some b/\a &&& b=0/\m=a ||| b:=by
 rw[zQe]at h
 obtain⟨a,ha,h⟩:=zL.1 h
 obtain⟨b,hb,h⟩:=zL.1 h
 obtain⟨hd,h⟩:=bif_some h
 simp only[zE]at h
 exact⟨a,b,ha,hb,zAP hd,h.symm⟩
theorem z5n{q:QT} (hq:QOk q) (p:Plan):fewP p=true->∀ m,setO 4 (zBm p)=some m->m<2 ^ q.occ.length->zHf q.T q.occ q.P p=true->PlOk q p:=by
 induction p using Plan.ind with
 |h o c a b l ih =>
  intro hfew m hs hm hfit
  have hf:zC5 (.mk o c a b l)=true:=by unfold fewP at hfew;simp only[zF]at hfew;exact hfew.1
  have hsub:∀ x∈l,fewP x=true:=λ x hx=>zG0 hfew hx
  rw[zRs,zF,zAB]at hfit
  obtain⟨hfit,hfitl⟩:=hfit
  have hfitl:∀ x∈l,zHf q.T q.occ q.P x=true:=hfitl
  have hocc:=hq.occ
  rcases zMy hf with⟨c',a',b',hp⟩ | ⟨a',b',x,hp,hx⟩ | ⟨o',a',b',x,y,hp,ho',hx,hy⟩
  ·cases hp
   have hs' :setO 4 (.mk c [])=some m:=hs
   rcases zGW hs' with⟨_,h1,h2,h3⟩ | ⟨_,_,_,_,h,_⟩
   ·subst h3
    obtain⟨n,rfl⟩:=Int.eq_ofNat_of_zero_le h1
    rw[zY]at hm
    have:=(Nat.pow_lt_pow_iff_right (by omega:1<2)).1 hm
    exact .scan _ _ _ h1 (by omega)
   ·cases h
  ·cases hp
   have hs' :setO 4 (zBm x)=some m:=hs
   have hpx:=ih x (by simp) (hsub x (by simp)) m hs' hm (hfitl x (List.mem_cons_self ..))
   refine .sort _ _ _ x hpx ?_
   unfold zRD at hfit
   have hin:inC (zLx q.T q.occ (setP (.mk 4 0 a b [x]))) a=true:=hfit
   have hin2:=zAP hin
   unfold zLx at hin2
   obtain⟨z,k1,k2,k3,k4,k5⟩:=(zPJ _ _ _ _ _ a).1 hin2
   have hse:setP (.mk 4 0 a b [x])=m:=by
    show(setO 4 (zBm x)).getD 0=m
    rw[hs'];rfl
   rw[hse]at k3
   exact List.mem_flatMap.2 ⟨z,(zBt 4 _ m hs' z).2 k3,k5⟩
  ·cases hp
   have hs' :setO 4 (zTE (zBm x) (zBm y))=some m:=hs
   obtain⟨u,v,hu,hv,huv,rfl⟩:=z3o hs'
   have l1:u<=u ||| v:=Nat.left_le_or
   have l2:v<=u ||| v:=Nat.right_le_or
   have hpx:=ih x (by simp) (hsub x (by simp)) u hu (by omega) (hfitl x (List.mem_cons_self ..))
   have hpy:=ih y (by simp) (hsub y (by simp)) v hv (by omega) (hfitl y (List.mem_cons_of_mem _ (List.mem_cons_self ..)))
   have su:setP x=u:=by unfold setP;rw[hu];rfl
   have sv:setP y=v:=by unfold setP;rw[hv];rfl
   have hd:setP x &&& setP y=0:=by rw[su,sv];exact huv
   rcases ho' with rfl | rfl | rfl
   ·exact .nest _ _ _ x y hpx hpy hd
   ·unfold zRD at hfit
    have h2:(decide ((a,b)∈zFe q.P (setP x) (setP y) (newQ q.P (setP x) (setP y)))&&((2:Int)==2 || (ordF x==a&&ordF y==b)))=true:=hfit
    rw[zF]at h2
    exact .hash _ _ _ x y hpx hpy hd (zVP (zAP h2.1))
   ·unfold zRD at hfit
    have h2:(decide ((a,b)∈zFe q.P (setP x) (setP y) (newQ q.P (setP x) (setP y)))&&((3:Int)==2 || (ordF x==a&&ordF y==b)))=true:=hfit
    rw[zF]at h2
    have h3:=h2.2
    have e32:((3:Int)==2)=false:=rfl
    rw[e32,Bool.false_or,zF,beq_iff_eq,beq_iff_eq]at h3
    unfold ordF at h3
    rw[hsub x (by simp),hsub y (by simp)]at h3
    exact .merge _ _ _ x y hpx hpy hd (zVP (zAP h2.1)) h3.1 h3.2
end Go.Cf

namespace Go.Cf
open Go Go.Ab
theorem eqK2(a b:Ky):eqP cfg 6 196 (keyP a) (keyP b)=some (decide (a=b)):=by
 have h:eqP cfg 6 196 (keyP a) (keyP b)=(bif (a.1==b.1)then(bif (a.2==b.2)then some true else some false)else some false):=by rfl
 rw[h]
 obtain⟨a1,a2⟩:=a
 obtain⟨b1,b2⟩:=b
 simp only[zA4]
 rw[Bool.decide_and]
 show _=some ((a1==b1)&&(a2==b2))
 cases a1==b1<;>cases a2==b2<;>rfl
theorem zYO(k:Ky):∀ m:GM,zIZ (eqP cfg 6 196) (keyP k) (mpG m)=some ((getG k m).map tabp)
 | []=>rfl
 |y::r=>by
  show zIZ (eqP cfg 6 196) (keyP k) ((keyP y.1,tabp y.2)::mpG r)=_
  simp only[zIZ,eqK2,zB,getG]
  by_cases h:k=y.1
  ·rw[zD h,if_pos h];rfl
  ·rw[zK h,if_neg h];exact zYO k r
theorem z1u(k:Ky):∀ m:GM,gidx (eqP cfg 6 196) (keyP k) (mpG m)=some (idxG k m)
 | []=>rfl
 |y::r=>by
  show gidx (eqP cfg 6 196) (keyP k) ((keyP y.1,tabp y.2)::mpG r)=_
  simp only[gidx,eqK2,zB,idxG]
  by_cases h:k=y.1
  ·rw[zD h,if_pos h,<-h,z8G];rfl
  ·rw[zK h,if_neg h,zC,z1u k r];rfl
theorem z1v{c:List Int} {x:List Val} {col:Int} (h:inC c col=true) (hl:x.length=c.length):wc W zJL [rowp x,.int .i64 (idxI c λ y=>col==y)]=some (.tup [keyP ((zV c x col).K,(zV c x col).N),.bool ((zV c x col).K==0)]):=by
 obtain⟨h1,h2⟩:=zCd h hl
 have e:=zW0 (x.map Val.pv) (idxI c λ y=>col==y)
 rw[zZ]at e
 rw[e,zD h2]
 simp only[zA,zN,h1,zU,zB,Val.c_mk]
 rfl
def kOf(c:List Int) (col:Int) (x:List Val):Ky:=((zV c x col).K,(zV c x col).N)
def zJ1(c:List Int) (col:Int):List (List Val)->GM->GM
 | [],m=>m
 |x::r,m=>zJ1 c col r (bif (zV c x col).K==0 then putG (kOf c col x) x m else m)
theorem zNn(c:List Int) (col:Int) (k:Ky) (hk:k.1=0):∀(r:List (List Val)) (m:GM),(getG k (zJ1 c col r m)).getD []=(getG k m).getD []++r.filter λ x=>decide (k=kOf c col x)
 | [],m=>by simp[zJ1]
 |x::r,m=>by
  rw[zJ1,zNn c col k hk r,List.filter_cons]
  cases h0:(zV c x col).K==0 with
  |true =>
   simp only[zA,zMq]
   by_cases h:k=kOf c col x
   ·rw[if_pos h,zD h,if_pos rfl,Option.getD_some,zAE,List.singleton_append]
   ·rw[if_neg h,zK h,if_neg (by simp)]
  |false =>
   have h:k≠kOf c col x:=λ e=>by
    rw[e]at hk
    have:(zV c x col).K=0:=hk
    rw[this]at h0;simp at h0
   simp only[zC]
   rw[zK h,if_neg (by simp)]
theorem z8R(c:List Int) (col:Int):∀(r:List (List Val)) (m:GM),zMA (zJ1 c col r m)<=zMA m+r.length
 | [],m=>by simp[zJ1]
 |x::r,m=>by
  rw[zJ1]
  have:=z8R c col r (bif (zV c x col).K==0 then putG (kOf c col x) x m else m)
  cases h0:(zV c x col).K==0 with
  |true=>rw[h0]at this;simp only[zA,zMp]at this;simp only[List.length_cons,zA];omega
  |false=>rw[h0]at this;simp only[zC]at this;simp only[List.length_cons,zC];omega
theorem memH(c:List Int) (col:Int) (k:Ky) (hk:k.1=0) (r:List (List Val)):∀ x∈(getG k (zJ1 c col r [])).getD [],x∈r:=λ x hx=>by
 rw[zNn c col k hk]at hx
 simp only[getG,Option.getD_none,List.nil_append]at hx
 exact(zBE.1 hx).1
theorem z1w(k:Ky) (m:GM):((getG k m).getD []).length<=zMA m:=by
 cases h:getG k m with
 |none=>simp
 |some l=>exact zQb k m l h
theorem z5o(ca cb:List Int) (A B:List (List Val)) (x:Int) (p1:Int) (hp:inC cb p1=true) (hB:∀ r∈B,r.length=cb.length) (hl:B.length<=1000000) (hca:ca.length+cb.length<=1000000):∀(k i:Nat) (m:GM),i+k=B.length->zMA m<=i->∃ h:List PV,
 zDA (ca.map intp) (A.map rowp) (cb.map intp) (B.map rowp) x (idxI cb λ y=>p1==y) (B.map rowp) ((B.length:Nat):Int) (i:Int) (mpG m) [] =
  zBr x (A.map rowp) ((A.length:Nat):Int) 0 (mpG (zJ1 cb p1 (B.drop i) m)) h [] [] ((ca++cb).map intp) []
 | 0,i,m,h,hs=>by
  have hc:=zQV [ca,cb] (by simp) (by simp;omega)
  simp only[zA1,zAd,List.flatten_cons,List.flatten_nil,zBM]at hc
  refine⟨[],?_⟩
  rw[zGQ,show i=B.length by omega]
  simp only[zDG,zC,zH,hc,zB,zDc,zG,List.drop_length,zJ1]
 |k+1,i,m,h,hs=>by
  have hi:i<B.length:=by omega
  have hm:=zAF hi
  rw[zGQ,zAk hi,zJ1]
  have cc:∀{R:Type} (f:Int->Int->Option R),zM (keyP ((zV cb B[i] p1).K,(zV cb B[i] p1).N)) f=f (zV cb B[i] p1).K (zV cb B[i] p1).N:=λ f=>rfl
  have ek:PV.agg [.int .i64 (zV cb B[i] p1).K,.int .i64 (zV cb B[i] p1).N]=keyP (kOf cb p1 B[i]):=rfl
  simp only[zAK hi,zA2,zA,zY,zN,zI hi,zU,zB,zCm,zZ,z1v hp (hB _ hm),asTup_mk,zAO,zAg,cc,c_b_mk,ek]
  rw[zX (by omega)]
  cases h0:(zV cb B[i] p1).K==0 with
  |true =>
   have hsz:=z1w (kOf cb p1 B[i]) m
   have hput:=zMp (kOf cb p1 B[i]) B[i] m
   simp only[zA,z1u,zB,z1b,zG,zAA,zD (show((getG (kOf cb p1 B[i]) m).getD []).length+1<=4294967296 by omega),decide_true,Bool.and_self,z57]
   exact z5o ca cb A B x p1 hp hB hl hca k (i+1) _ (by omega) (by omega)
  |false =>
   simp only[zC]
   exact z5o ca cb A B x p1 hp hB hl hca k (i+1) m (by omega) (by omega)
theorem z42(x y:List Val) (h:x.length+y.length<=4294967296):wc W zKv [rowp x,rowp y]=some (rowp (x++y)):=by
 have e:=zZS (x.map Val.pv) (y.map Val.pv)
 have hc:=zUj [x,y] (by simp) (by simpa using h)
 simp only[zA1,zAd,List.flatten_cons,List.flatten_nil,zBM]at hc
 rw[zZ,zZ,hc]at e
 rw[e]
 simp only[zB,zCm,zZ]
theorem z8S(xi:Int) (x:List Val) (A:List (List Val)) (n i:Int) (m:GM) (h1 h2 h3 cs:List PV) (a b:Int) (rows:List (List Val)) (hx:x.length<=100) (hr:∀ y∈rows,y.length<=100) (hl:rows.length<=1000000):∀(k j:Nat) (acc:List (List Val)),j+k=rows.length->acc.length+k<=4000000000 ->
 zDv xi (x.map Val.pv) (A.map rowp) n i (tabp rows) ((rows.length:Nat):Int) (j:Int) (mpG m) h1 h2 h3 cs (acc.map rowp) a b =
  zBr xi (A.map rowp) n (IntKind.wrap .i64 (i+1)) (mpG m) h1 h2 h3 cs ((acc++(rows.drop j).map λ y=>x++y).map rowp)
 | 0,j,acc,h,ha=>by
  rw[zGS,show j=rows.length by omega]
  simp
 |k+1,j,acc,h,ha=>by
  have hj:j<rows.length:=by omega
  have hy:=hr _ (zAF hj)
  have hs:PV.asSlice 0 (tabp rows)=some (rows.map rowp):=rfl
  rw[zGS]
  simp only[zAK hj,zA2,zA,hs,zY,zN,zI hj,zU,zB,zCm,zZ,z42 x rows[j] (by omega),zG,zAA,zD (show acc.length+1<=4294967296 by omega)]
  rw[zX (by omega)]
  have:=z8S xi x A n i m h1 h2 h3 cs a b rows hx hr hl k (j+1) (acc++[x++rows[j]]) (by omega) (by simp;omega)
  simp only[zAm,zA1,zAd]at this
  rw[this,zAk hj]
  simp only[zAm,zA1,zAE,List.singleton_append]
def z1x(cb:List Int) (p1:Int) (B:List (List Val)) (ca:List Int) (p0:Int) (x:List Val):List (List Val) :=
 (bif (zV ca x p0).K==0 then(getG (kOf ca p0 x) (zJ1 cb p1 B [])).getD []else []).map λ y=>x++y
theorem z5p(ca cb:List Int) (A B:List (List Val)) (p0 p1:Int) (hp:inC ca p0=true) (hA:∀ r∈A,r.length=ca.length) (hB:∀ r∈B,r.length<=100) (hca:ca.length<=100) (hl:A.length<=5000) (hlB:B.length<=5000) (h1 h2 h3 cs:List PV):∀(k i:Nat) (acc:List (List Val)),i+k=A.length->acc.length+k*5000<=100000000 ->
 zBr (idxI ca λ y=>p0==y) (A.map rowp) ((A.length:Nat):Int) (i:Int) (mpG (zJ1 cb p1 B [])) h1 h2 h3 cs (acc.map rowp)=some (.agg [.slice 0 cs,tabp (acc++(A.drop i).flatMap (z1x cb p1 B ca p0))])
 | 0,i,acc,h,ha=>by
  rw[zGR,show i=A.length by omega]
  simp
 |k+1,i,acc,h,ha=>by
  have hi:i<A.length:=by omega
  have hm:=zAF hi
  rw[zGR,zAk hi,zCA]
  have cc:∀{R:Type} (f:Int->Int->Option R),zM (keyP ((zV ca A[i] p0).K,(zV ca A[i] p0).N)) f=f (zV ca A[i] p0).K (zV ca A[i] p0).N:=λ f=>rfl
  have ek:PV.agg [.int .i64 (zV ca A[i] p0).K,.int .i64 (zV ca A[i] p0).N]=keyP (kOf ca p0 A[i]):=rfl
  simp only[zAK hi,zA2,zA,zY,zN,zI hi,zU,zB,zCm,zZ,z1v hp (hA _ hm),asTup_mk,zAO,zAg,cc,c_b_mk,ek]
  rw[zX (by omega)]
  cases h0:(zV ca A[i] p0).K==0 with
  |false =>
   simp only[Bool.not_false,zA]
   have:=z5p ca cb A B p0 p1 hp hA hB hca hl hlB h1 h2 h3 cs k (i+1) acc (by omega) (Nat.le_trans (Nat.add_le_add_left (Nat.mul_le_mul_right _ (Nat.le_succ k)) _) ha)
   rw[this]
   unfold z1x
   rw[h0]
   simp only[zC,zAd,List.nil_append]
  |true =>
   have hk0:(kOf ca p0 A[i]).1=0:=beq_iff_eq.1 h0
   simp only[zAJ,zC,zYO,zB]
   have hmem:=memH cb p1 (kOf ca p0 A[i]) hk0 B
   have hsz:=z8R cb p1 B []
   have hgs:=z1w (kOf ca p0 A[i]) (zJ1 cb p1 B [])
   have e0:zMA []=0:=rfl
   rw[e0,Nat.zero_add]at hsz
   have eg:Option.getD ((getG (kOf ca p0 A[i]) (zJ1 cb p1 B [])).map tabp) (PV.slice 0 [])=tabp ((getG (kOf ca p0 A[i]) (zJ1 cb p1 B [])).getD []):=by
    cases getG (kOf ca p0 A[i]) (zJ1 cb p1 B [])<;>rfl
   have hsl:∀ l:List (List Val),PV.asSlice 0 (tabp l)=some (l.map rowp):=λ _=>rfl
   rw[eg]
   generalize hg:(getG (kOf ca p0 A[i]) (zJ1 cb p1 B [])).getD []=rows at *
   simp only[hsl,zB,zG]
   have h3' :=z8S (idxI ca λ y=>p0==y) A[i] A ((A.length:Nat):Int) (i:Int) (zJ1 cb p1 B []) h1 h2 h3 cs (zV ca A[i] p0).K (zV ca A[i] p0).N rows (by rw[hA _ hm];exact hca) (λ y hy=>hB y (hmem y hy)) (by omega) rows.length 0 acc (by omega) (by omega)
   have z:((0:Nat):Int)=0:=rfl
   rw[z,List.drop_zero]at h3'
   rw[h3',zX (by omega)]
   have:=z5p ca cb A B p0 p1 hp hA hB hca hl hlB h1 h2 h3 cs k (i+1) (acc++rows.map λ y=>A[i]++y) (by omega) (by simp;omega)
   rw[this]
   unfold z1x
   rw[h0,hg]
   simp only[zA,zAE]
theorem z3p(ca cb:List Int) (A B:List (List Val)) (p0 p1:Int):A.flatMap (z1x cb p1 B ca p0)=selR (λ x y=>zDk (zV cb y p1) (zV ca x p0)) A B:=by
 unfold selR
 refine zJ0 λ x _=> ?_
 unfold z1x
 congr 1
 cases h0:(zV ca x p0).K==0 with
 |false =>
  simp only[zC]
  symm
  rw[List.filter_eq_nil_iff]
  intro y _ hy
  unfold zDk at hy
  simp only[zF,beq_iff_eq]at hy
  rw[hy.1.2]at h0;simp at h0
 |true =>
  have hk0:(kOf ca p0 x).1=0:=beq_iff_eq.1 h0
  simp only[zA,zNn cb p1 _ hk0]
  simp only[getG,Option.getD_none,List.nil_append]
  refine List.filter_congr λ y _=> ?_
  unfold zDk
  rw[h0,Bool.and_true]
  have hx0:(zV ca x p0).K=0:=by simpa using h0
  rw[Bool.eq_iff_iff,zR,zF,beq_iff_eq,beq_iff_eq]
  unfold kOf
  rw[zA4,hx0]
  constructor
  ·rintro⟨h1,h2⟩;exact⟨h1.symm,h2.symm⟩
  ·rintro⟨h1,h2⟩;exact⟨h1.symm,h2.symm⟩
theorem zVQ(v:Val):keyV v=((zEk v).K,(zEk v).N):=by
 unfold keyV zEk
 cases mayV v<;>rfl
theorem z8T(a b:Val):wc W zN4 [a.pv,b.pv]=some (.bool (ltV' a b)):=by
 have h:=zZT a.K a.N b.K b.N
 simp only[Val.fold]at h
 have two:∀ x y:Int,wc W zKJ [.slice 0 [.int .i64 x,.int .i64 y]]=some (.int .i64 (if x≠0 then x else y)):=λ x y=>by
  have w1:IntKind.wrap .i64 ((0:Int)+1)=1:=by rw[zAZ (by omega) (by omega)];rfl
  have w2:IntKind.wrap .i64 ((1:Int)+1)=2:=by rw[zAZ (by omega) (by omega)];rfl
  have a1:decide ((0:Int)<(([PV.int .i64 x,PV.int .i64 y].length:Nat):Int))=true:=rfl
  have a2:decide ((1:Int)<(([PV.int .i64 x,PV.int .i64 y].length:Nat):Int))=true:=rfl
  have a3:decide ((2:Int)<(([PV.int .i64 x,PV.int .i64 y].length:Nat):Int))=false:=rfl
  have b1:decide ((0:Int)<=0)=true:=rfl
  have b2:decide ((0:Int)<=1)=true:=rfl
  have t0:(0:Int).toNat=0:=rfl
  have t1:(1:Int).toNat=1:=rfl
  rw[zUa,zFx]
  simp only[a1,b1,t0,zA,zAO,zB,c_i64_mk]
  by_cases hx:x=0
  ·rw[zIS hx,if_neg (by simpa using hx)]
   simp only[zC,w1]
   rw[zFx]
   simp only[a2,b2,t1,zA,zAO,zAg,zB,c_i64_mk]
   by_cases hy:y=0
   ·rw[zIS hy,hy]
    simp only[zC,w2]
    rw[zFx]
    subst hy
    simp only[a3,zC]
   ·rw[zH3 hy];rfl
  ·rw[zH3 hx,if_pos hx];rfl
 rw[h,z1I,z1I]
 simp only[zB,Val.c_mk,zXv,c_i64_mk,two]
 unfold ltV' cmpB
 rw[zVQ,zVQ]
 simp only
 congr 3
 by_cases h1:(zEk a).K<(zEk b).K
 ·simp[h1]
 ·by_cases h2:(zEk a).K>(zEk b).K
  ·simp[h1,h2]
  ·simp[h1,h2]
theorem z5q{x y:Val} (hx:mayV x=true):zQS (eqV x y)=zDk x y:=by
 cases h:zQS (eqV x y) with
 |true=>exact(zVO.eq_true_same h).symm
 |false =>
  cases h2:zDk x y with
  |false=>rfl
  |true =>
   unfold zDk at h2
   simp only[zF,beq_iff_eq]at h2
   have e:x=y:=by cases x;cases y;simp only at h2;simp only[Val.mk.injEq];exact⟨by omega,h2.2⟩
   subst e
   have hf:zEk x=x:=by unfold zEk;rw[hx];rfl
   unfold eqV at h
   have ho:oddV [x,x]=none:=by
    unfold oddV
    simp[hf,h2.1.1]
   rw[ho]at h
   simp[oneV,zQS]at h
theorem z43(cb:List Int) (B:List (List Val)) (p0 p1:Int) (ca:List Int) (x:List Val) (hp0:inC ca p0=true) (hp1:inC cb p1=true) (hx:x.length=ca.length) (hB:∀ r∈B,r.length=cb.length/\mayV (zV cb r p1)=true) (hca:ca.length<=100) (hcb:cb.length<=100) (hl:B.length<=5000) (from_:Int) (A:List PV) (n i:Int) (h1 h2 cs:List PV):∀(k j:Nat) (acc:List (List Val)),j+k=B.length->acc.length+k<=1000000000 ->
 zCk (cb.map intp) (B.map rowp) (idxI ca λ y=>p0==y) (idxI cb λ y=>p1==y) from_ (x.map Val.pv) (j:Int) A n i h1 h2 cs (acc.map rowp) =
  zCE (cb.map intp) (B.map rowp) (idxI ca λ y=>p0==y) (idxI cb λ y=>p1==y) from_ A n (IntKind.wrap .i64 (i+1)) h1 h2 cs ((acc++((B.drop j).takeWhile λ y=>zDk (zV cb y p1) (zV ca x p0)).map λ y=>x++y).map rowp)
 | 0,j,acc,h,ha=>by
  rw[zFj,show j=B.length by omega]
  simp
 |k+1,j,acc,h,ha=>by
  have hj:j<B.length:=by omega
  obtain⟨hb,hm⟩:=hB _ (zAF hj)
  obtain⟨r1,r2⟩:=zCd hp1 hb
  obtain⟨s1,s2⟩:=zCd hp0 hx
  rw[zFj,zAk hj,List.takeWhile_cons]
  have hw:zQS (eqV (zV cb B[j] p1) (zV ca x p0))=zDk (zV cb B[j] p1) (zV ca x p0):=z5q hm
  simp only[zG,zAK hj,zA2,zA,zY,zN,zI hj,zU,zB,zCm,zD r2,zD s2,r1,s1,Val.c_mk,Val.fold,w_Eq,z1L,hw,c_b_mk]
  cases hs:zDk (zV cb B[j] p1) (zV ca x p0) with
  |false=>simp
  |true =>
   simp only[zA,zJn,zA2,zY,zN,zI hj,zU,zB,zCm,zZ,z42 x B[j] (by omega),zG,zAA,zD (show acc.length+1<=4294967296 by omega)]
   rw[zX (by omega),if_pos trivial]
   have:=z43 cb B p0 p1 ca x hp0 hp1 hx hB hca hcb hl from_ A n i h1 h2 cs k (j+1) (acc++[x++B[j]]) (by omega) (by simp;omega)
   simp only[zAm,zA1,zAd]at this
   rw[this]
   simp only[zAm,zA1,zAE,List.singleton_append]
theorem z44(cb:List Int) (B:List (List Val)) (p0 p1:Int) (ca:List Int) (x:List Val) (hp0:inC ca p0=true) (hp1:inC cb p1=true) (hx:x.length=ca.length) (hB:∀ r∈B,r.length=cb.length/\mayV (zV cb r p1)=true) (hl:B.length<=5000) (A:List PV) (n i:Int) (h1 h2 cs acc:List PV):∀(k j:Nat),j+k=B.length ->
 zDb (cb.map intp) (B.map rowp) (idxI ca λ y=>p0==y) (idxI cb λ y=>p1==y) (j:Int) (x.map Val.pv) A n i h1 h2 cs acc =
  zCk (cb.map intp) (B.map rowp) (idxI ca λ y=>p0==y) (idxI cb λ y=>p1==y) ((j+((B.drop j).takeWhile λ y=>ltV' (zV cb y p1) (zV ca x p0)).length:Nat):Int) (x.map Val.pv) ((j+((B.drop j).takeWhile λ y=>ltV' (zV cb y p1) (zV ca x p0)).length:Nat):Int) A n i h1 h2 cs acc
 | 0,j,h=>by
  rw[zFh,show j=B.length by omega]
  simp[zFi]
 |k+1,j,h=>by
  have hj:j<B.length:=by omega
  obtain⟨hb,hm⟩:=hB _ (zAF hj)
  obtain⟨r1,r2⟩:=zCd hp1 hb
  obtain⟨s1,s2⟩:=zCd hp0 hx
  rw[zFh]
  have hd:(B.drop j).takeWhile (λ y=>ltV' (zV cb y p1) (zV ca x p0))=bif ltV' (zV cb B[j] p1) (zV ca x p0)then B[j]::(B.drop (j+1)).takeWhile (λ y=>ltV' (zV cb y p1) (zV ca x p0))else []:=by
   rw[zAk hj,List.takeWhile_cons]
   cases ltV' (zV cb B[j] p1) (zV ca x p0)<;>rfl
  rw[hd]
  simp only[zG,zAK hj,zA2,zA,zY,zN,zI hj,zU,zB,zCm,zD r2,zD s2,r1,s1,Val.c_mk,Val.fold,z8T,c_b_mk]
  cases hs:ltV' (zV cb B[j] p1) (zV ca x p0) with
  |false=>simp[zFi]
  |true =>
   simp only[zA]
   rw[zX (by omega),z44 cb B p0 p1 ca x hp0 hp1 hx hB hl A n i h1 h2 cs acc k (j+1) (by omega),List.length_cons,show j+1+((B.drop (j+1)).takeWhile λ y=>ltV' (zV cb y p1) (zV ca x p0)).length=j+(((B.drop (j+1)).takeWhile λ y=>ltV' (zV cb y p1) (zV ca x p0)).length+1) by omega]
theorem z47{α:Type} (p:α->Bool) (l:List α):(l.takeWhile p).length<=l.length:=(List.takeWhile_sublist p).length_le
theorem z48(ca cb:List Int) (A B:List (List Val)) (p0 p1:Int) (hp0:inC ca p0=true) (hp1:inC cb p1=true) (hA:∀ r∈A,r.length=ca.length) (hB:∀ r∈B,r.length=cb.length/\mayV (zV cb r p1)=true) (hca:ca.length<=100) (hcb:cb.length<=100) (hlA:A.length<=5000) (hl:B.length<=5000) (h1 h2 cs:List PV):∀(k i f:Nat) (acc:List (List Val)),i+k=A.length->f<=B.length->acc.length+k*5000<=100000000 ->
 zCE (cb.map intp) (B.map rowp) (idxI ca λ y=>p0==y) (idxI cb λ y=>p1==y) (f:Int) (A.map rowp) ((A.length:Nat):Int) (i:Int) h1 h2 cs (acc.map rowp) =
  some (.agg [.slice 0 cs,tabp (acc++mrgF (λ y x=>ltV' (zV cb y p1) (zV ca x p0)) (λ y x=>zDk (zV cb y p1) (zV ca x p0)) B f (A.drop i))])
 | 0,i,f,acc,h,hf,ha=>by
  rw[zFg,show i=A.length by omega]
  simp[mrgF]
 |k+1,i,f,acc,h,hf,ha=>by
  have hi:i<A.length:=by omega
  have hm:=zAF hi
  rw[zFg,zAk hi]
  simp only[zAK hi,zA2,zA,zY,zN,zI hi,zU,zB,zCm,mrgF]
  have t1:=z47 (λ y=>ltV' (zV cb y p1) (zV ca A[i] p0)) (B.drop f)
  rw[List.length_drop]at t1
  rw[z44 cb B p0 p1 ca A[i] hp0 hp1 (hA _ hm) hB hl (A.map rowp) _ _ h1 h2 cs (acc.map rowp) (B.length-f) f (by omega)]
  generalize hf' :f+((B.drop f).takeWhile λ y=>ltV' (zV cb y p1) (zV ca A[i] p0)).length=f'
  have hf2:f' <=B.length:=by omega
  rw[z43 cb B p0 p1 ca A[i] hp0 hp1 (hA _ hm) hB hca hcb hl (f' :Int) (A.map rowp) _ _ h1 h2 cs (B.length-f') f' acc (by omega) (by omega),zX (by omega)]
  have t2:=z47 (λ y=>zDk (zV cb y p1) (zV ca A[i] p0)) (B.drop f')
  rw[List.length_drop]at t2
  have:=z48 ca cb A B p0 p1 hp0 hp1 hA hB hca hcb hlA hl h1 h2 cs k (i+1) f' (acc++((B.drop f').takeWhile λ y=>zDk (zV cb y p1) (zV ca A[i] p0)).map λ y=>A[i]++y) (by omega) hf2 (by simp;omega)
  rw[this,zAE]
end Go.Cf

namespace Go.Cf
open Go Go.Ab
theorem z1y(r s:List Val) (at_:Int):W zDl false [.pv (rowp r),.pv (rowp s),.own 0 0] [.var false 0 (.pv (.int .i64 at_))]=some (.pv (.int .i64 (cmpB (keyR at_ r) (keyR at_ s))),[.var false 0 (.pv (.int .i64 at_))]):=by
 have h:=zLm (r.map Val.pv) (s.map Val.pv) at_
 rw[zZ,zZ,zQ7,zQ7]at h
 have c:=zUu (keyR at_ r) (keyR at_ s)
 simp only[zB,c_g_i64_i64_mk,c,c_i64_mk]at h
 exact h
theorem zQl(at_:Int) (l:List (List Val)) (hl:l.length<=1000000000):∀(i:Nat),i<l.length->ordB at_ (l.drop i)=true ->
 zAe (l.map rowp) (i:Int) at_=some (.pv (.bool (ordB at_ l)),[.var false 0 (.pv (.int .i64 at_))])
 | 0,h,ho=>by
  rw[zBC]
  rw[List.drop_zero]at ho
  rw[ho];rfl
 |i+1,h,ho=>by
  have hi:i<l.length:=by omega
  have e1:IntKind.wrap .i64 (((i+1:Nat):Int)-1)=(i:Int):=by rw[zAZ (by omega) (by omega)];omega
  have hb:=z1y l[i+1] l[i] at_
  rw[zBC,zD (show((i+1:Nat):Int)>0 by omega)]
  simp only[e1,zA,zA2,zY,zN,zI h,zI hi,zU,zB,zCm,zZ,hb,k_5b106d_mk,c_i64_mk]
  have hd:ordB at_ (l.drop i)=(leR at_ l[i] l[i+1]&&ordB at_ (l.drop (i+1))):=by
   rw[zAk hi,zAk h];rfl
  cases hc:decide (cmpB (keyR at_ l[i+1]) (keyR at_ l[i])<0) with
  |true =>
   have hle:leR at_ l[i] l[i+1]=false:=by unfold leR;rw[hc];rfl
   have hno:ordB at_ l=false:=by
    rw[Bool.eq_false_iff]
    intro ht
    have:=(zMn at_ l).1 ht
    have:=(zMn at_ (l.drop i)).2 (this.sublist (List.drop_sublist _ _))
    rw[hd,hle]at this;cases this
   rw[hno];rfl
  |false =>
   have hle:leR at_ l[i] l[i+1]=true:=by unfold leR;rw[hc];rfl
   simp only[zC]
   exact zQl at_ l hl i hi (by rw[hd,hle,ho];rfl)
theorem z3q(c:List Int) (r:List (List Val)) (col:Int) (hc:c.length<=9223372036854775807) (hl:r.length<=1000000000):wc W zKE [bagp c r,.int .i64 col]=some (.bool (ordB (idxI c (λ x=>col==x)) r)):=by
 have h:=zUY (c.map intp) (r.map rowp) col
 rw[zH,zAM,zAY]at h
 rw[h,zHc c col hc]
 simp only[zB,c_i64_mk]
 have h2:=zDh (r.map rowp) (idxI c (λ x=>col==x))
 rw[zAM,zG]at h2
 rw[h2]
 rcases Nat.eq_zero_or_pos r.length with h0 | h0
 ·have:r=[]:=zCN.1 h0
  subst this
  rw[zBC]
  rfl
 ·have e1:IntKind.wrap .i64 ((r.length:Int)-1)=((r.length-1:Nat):Int):=by rw[zAZ (by omega) (by omega)];omega
  rw[e1,zQl _ r hl (r.length-1) (by omega) (by
   rw[zAk (by omega),List.drop_of_length_le (by omega)];rfl)]
  simp only[zB,k_5b106d_mk,c_b_mk]
end Go.Cf

namespace Go.Cf
open Go Go.Ab
theorem zNo(q:QT) (n:Nat):zBb q (List.range (n+1))=zBl (zBb q (List.range n)) (q.leaf n):=by
 rw[List.range_succ,zIM]
 simp only[zBb,zMu]
theorem zNp(q:QT) (n:Nat):zAI q (List.range (n+1))=zAI q (List.range n)++zBO q.T q.occ n:=by
 rw[List.range_succ,zKd]
 simp[zAI]
theorem z1z{q:QT} (hq:QOk q) {n:Nat} (hn:n<q.occ.length):wc W zI8 [catp q.T,zIo q.D,.int .i64 q.occ[n],.int .i64 (n:Int)]=some (.tup [bagp (zBO q.T q.occ n) (q.leaf n),.bool true]):=by
 have hin:=hq.inT _ (zAF hn)
 have hg:q.occ.getD n 0=q.occ[n]:=by rw[zAl,zI hn];rfl
 have h4:=hq.occ
 rw[z52 q.T q.D q.occ[n] (n:Int) hq.T hq.D hq.vals]
 have e1:ofT q.T q.D q.occ[n] (n:Int)=some (zBO q.T q.occ n,q.leaf n):=by
  unfold ofT
  rw[hq.fits,zD hin.1,zD (show q.occ[n]<=(q.T.length:Int)-1 by omega),zD (show(0:Int)<=n by omega),zD (show(n:Int)<=3 by omega)]
  unfold zBO QT.leaf
  rw[hg];rfl
 rw[e1];rfl
theorem zTO{q:QT} (hq:QOk q) {n:Nat} (hn:n<=q.occ.length):mayB (zAI q (List.range n)) (zBb q (List.range n))=true/\∀ x∈zBb q (List.range n),ROk x:=by
 have hl:∀ o∈List.range n,o<q.occ.length:=λ o ho=>by have:=List.mem_range.1 ho;omega
 have h:=zFd hq hl List.nodup_range (λ _=>true)
 rw[List.filter_eq_self.2 (λ _ _=>rfl)]at h
 exact⟨h,λ x hx=>(zB7 hq hl x hx).2.2⟩
theorem zYP{q:QT} (hq:QOk q) (by_:Int) (sums out:List Int) (ord:Int) (b:List Int×List (List Val)) (hf:finB by_ sums out (allB q).1 (allB q).2=some b) (ho:out.length<=9223372036854775807) (hs:sums.length<=9223372036854775807):∀(k n:Nat),n+k=q.occ.length->1<=n ->
 zF5 (q.T.map Def.pv) (q.D.map tabp) (q.occ.map intp) (q.P.map Ex.pv) by_ (sums.map intp) (out.map intp) ord (n:Int) ((zAI q (List.range n)).map intp) ((zBb q (List.range n)).map rowp)=some (bagp b.1 b.2)
 | 0,n,h,h1=>by
  have hn:n=q.occ.length:=by omega
  subst hn
  obtain⟨hm,hr⟩:=zTO hq (zO q.occ.length)
  obtain⟨m1,m2,m3⟩:=zBi hm
  have hP:=hq.P
  have hk:=zXi (zAI q (List.range q.occ.length)) (zBb q (List.range q.occ.length)) q.P (by omega) (by omega) (λ x hx=>by rw[(m3 x hx).1];omega) hr (by omega) hq.ok
  have hfl:∀ x∈(zBb q (List.range q.occ.length)).filter (zOr q.P (zAI q (List.range q.occ.length))),x∈zBb q (List.range q.occ.length):=λ x hx=>(zBE.1 hx).1
  have hll:=zD7 (zOr q.P (zAI q (List.range q.occ.length))) (zBb q (List.range q.occ.length))
  have hfin:=zYJ q.occ (q.P.map Ex.pv) by_ sums out ord (zAI q (List.range q.occ.length)) ((zBb q (List.range q.occ.length)).filter (zOr q.P (zAI q (List.range q.occ.length)))) (by omega) (by omega) (λ x hx=>⟨hr x (hfl x hx),by rw[(m3 x (hfl x hx)).1];omega⟩) ho
  have hf' :finB by_ sums out (zAI q (List.range q.occ.length)) ((zBb q (List.range q.occ.length)).filter (zOr q.P (zAI q (List.range q.occ.length))))=some b:=hf
  rw[hf']at hfin
  have hx:PV.slice 6 (q.P.map Ex.pv)=exsp q.P:=rfl
  rw[zIE]
  simp only[zG,zDG,zC,zH,zAM,zAY,zAS,hx,hk,zFa,zB,hfin,bagR,asTup_mk,zAO,zAg,c_b_mk,zXm]
  have e1:PV.agg [zBv q.occ,exsp q.P,.int .i64 by_,zBv sums,zBv out,.int .i64 ord]=zDH q.occ (q.P.map Ex.pv) by_ sums out ord:=rfl
  simp only[e1,hfin,zB,bagR,asTup_mk,zAO,zAg,zFa,c_b_mk,zH,zAM,zAY,zXm]
 |k+1,n,h,h1=>by
  have hn:n<q.occ.length:=by omega
  have h4:=hq.occ
  obtain⟨hm,hr⟩:=zTO hq (Nat.le_of_lt hn)
  obtain⟨hm',_⟩:=zTO hq hn
  obtain⟨m1,m2,m3⟩:=zBi hm
  have hm2:=hm'
  rw[zNo,zNp]at hm2
  obtain⟨j1,j2,j3⟩:=zBi hm2
  have hlf:=zFd hq (l:=[n]) (λ o ho=>by rw[zBS]at ho;omega) (by simp) (λ _=>true)
  rw[List.filter_eq_self.2 (λ _ _=>rfl)]at hlf
  simp only[zBb,zMu,zAI,zCA,List.flatMap_nil,zBM]at hlf
  obtain⟨l1,l2,l3⟩:=zBi hlf
  have hcr:=z1U (zAI q (List.range n)) (zBb q (List.range n)) (zBO q.T q.occ n) (q.leaf n) (by omega) (by omega) (by omega) (λ z hz=>by rw[(m3 z hz).1];omega) (λ z hz=>by rw[(l3 z hz).1];omega)
  have e2:zRf (zAI q (List.range n)) (zBb q (List.range n)) (zBO q.T q.occ n) (q.leaf n)=some (zAI q (List.range (n+1)),zBb q (List.range (n+1))):=by
   unfold zRf
   rw[hm,hlf,zXf hm2,zD (by rw[<- zIn];exact j2),zNo,zNp];rfl
  rw[e2]at hcr
  have hof:=z1z hq hn
  rw[zIE]
  simp only[zG,zAK hn,zA2,zA,zY,zN,zI hn,zU,zB,zIK,zAj,zBu,hof,asTup_mk,zAO,zAg,zFa,c_b_mk,zH,zAM,zAY,zXm,hcr,bagR]
  rw[zX (by omega)]
  exact zYP hq by_ sums out ord b hf ho hs k (n+1) (by omega) (by omega)
def allQ(q:QT) (may:Bool) (by_:Int) (sums out:List Int):Option (List Int×List (List Val)):=bif may&&fits q.T q.D then finB by_ sums out (allB q).1 (allB q).2 else none
theorem z8U(q:QT) (by_:Int) (sums out:List Int) (ord:Int) (hT:q.T.length<=9223372036854775807) (hocc:q.occ.length<=9223372036854775807) (hP:q.P.length<=1000000) (hok:∀ e∈q.P,e.ok/\e.vals) (hs:sums.length<=4294967296) (ho:out.length<=4294967296)
 (hD:DOk q.D) (hv:∀ t∈q.D,∀ r∈t,ROk r) :
 wc W zJA [catp q.T,zIo q.D,zDH q.occ (q.P.map Ex.pv) by_ sums out ord]=some (bagR (allQ q (mayQ q.T q.occ q.P by_ sums out ord) by_ sums out)):=by
 have h:=zWK (q.T.map Def.pv) (q.D.map tabp) (q.occ.map intp) (q.P.map Ex.pv) by_ (sums.map intp) (out.map intp) ord
 simp only[zAj,zBu,zH,zAS]at h
 have e0:PV.tup [PV.agg [PV.slice 0 [],PV.slice 0 []],PV.bool false]=bagR none:=rfl
 rw[h,zLw q.T q.occ q.P by_ sums out ord hT hocc (by omega) (λ e he=>(hok e he).1) hs ho,z1X q.T q.D hT hD]
 simp only[zB,c_b_mk]
 unfold allQ
 cases h1:mayQ q.T q.occ q.P by_ sums out ord with
 |false=>rfl
 |true =>
 cases h2:fits q.T q.D with
 |false=>rfl
 |true =>
  have hparts:=h1
  unfold mayQ at hparts
  simp only[zF,zR,zAB]at hparts
  have hq:QOk q:=⟨h2,hv,hparts.1.1.1.1.2,hparts.1.1.1.2,hT,hD,hP,hok⟩
  have h1occ:1<=q.occ.length:=hparts.1.1.1.1.1.2
  have hlr:∀ o∈List.range q.occ.length,o<q.occ.length:=λ o ho=>List.mem_range.1 ho
  have m2:mayB (allB q).1 (allB q).2=true:=zFd hq hlr List.nodup_range _
  obtain⟨b,hb⟩:=zVK hq h1 (c:=(allB q).1) (r:=(allB q).2) (λ x=>(z1m hq x).symm) m2
  have hrow:∀ x∈(allB q).2,ROk x:=λ x hx=>(zB7 hq hlr x (zBE.1 hx).1).2.2
  rw[hb]
  simp only[zAJ,zC,Bool.and_self,zA]
  rw[zO0]
  have e1:=zS5 (q.T.map Def.pv) (q.D.map tabp) (q.occ.map intp) (q.P.map Ex.pv) by_ (sums.map intp) (out.map intp) ord
  have hl:=zYP hq by_ sums out ord b hb (by omega) (by omega) (q.occ.length-1) 1 (by omega) (by omega)
  have hof:=z1z hq (n:=0) (by omega)
  have ep:zBb q (List.range 1)=q.leaf 0:=by
   have:=zNo q 0
   rw[this]
   exact zRm _
  have ec:zAI q (List.range 1)=zBO q.T q.occ 0:=by
   have:=zNp q 0
   rw[this];rfl
  rw[ep,ec]at hl
  have hgo:(q.occ.map intp)[0]? =some (intp q.occ[0]):=by rw[zN,zI (by omega)];rfl
  have z0:((0:Nat):Int)=0:=rfl
  have z1:((1:Nat):Int)=1:=rfl
  rw[z0]at hof
  rw[z1]at hl
  simp only[zAj,zBu,zH,zAS,hgo,zB,zIK,hof,asTup_mk,zAO,zAg,zFa,c_b_mk,zAM,zAY,zXm,hl]at e1
  have htold:wc W zKG [PV.fn zEX [] [.imm 2 (catp q.T) 0,.imm 2 (zIo q.D) 0,.imm 7 (zDH q.occ (q.P.map Ex.pv) by_ sums out ord) 0]]=some (.tup [bagp b.1 b.2,.bool true]):=by
   have e3:=e1
   unfold wc at e3
   obtain⟨z,hz,hp⟩:=zL.1 e3
   obtain⟨a,ow⟩:=z
   have ha:a= .pv (bagp b.1 b.2):=by
    cases a<;>simp only[AV.asPv]at hp<;>first | (cases hp;rfl) | cases hp
   subst ha
   unfold wc
   rw[zA1,zAd,zUU]
   unfold z0m
   have hg:[zEX,zLS].contains zEX=true:=by decide
   have hsh:(bagp b.1 b.2).okSh 3=true:=rfl
   simp only[hg,zA,List.nil_append,hz,zB,hsh]
   rfl
  simp only[zAj,zBu,zH,zAS,htold,zB,asTup_mk,zAO,zAg,zFa,c_b_mk,zAM,zAY]
  rfl
end Go.Cf

namespace Go.Cf
open Go Go.Ab
def mkp(T:List Def) (D:List (List (List Val))) (occ:List Int) (P:List Ex) (by_:Int) (sums out:List Int) (ord:Int):PV :=
 .agg [.slice 3 (T.map Def.pv),.slice 0 (D.map tabp),.slice 0 (occ.map intp),.slice 6 (P.map Ex.pv),.int .i64 by_,.slice 0 (sums.map intp),.slice 0 (out.map intp),.int .i64 ord]
theorem zYQ(a1 a2 a3:List PV) (P:List Ex) (by_:Int) (s o:List PV) (ord:Int) (idx:List Nat) (hi:∀ i∈idx,i<P.length) (hl:idx.length<=1000000):∀(k j:Nat) (acc:List Ex),j+k=idx.length->acc.length<=j ->
 zEs a1 a2 a3 (P.map Ex.pv) by_ s o ord ((idx.map λ n:Nat=>(n:Int)).map intp) (idx.length:Int) (j:Int) (acc.map Ex.pv)=some (exsp (acc++exQ P (idx.drop j)))
 | 0,j,acc,h,ha=>by
  rw[zH6,show j=idx.length by omega]
  simp[exQ,exsp]
 |k+1,j,acc,h,ha=>by
  have hj:j<idx.length:=by omega
  have hp:=hi _ (zAF hj)
  rw[zH6,zAk hj]
  simp only[zAK hj,zA2,zA,zY,zN,zI hj,zU,zB,zIK,zI hp,Ex.c_mk,Ex.fold,zG,zAA,zD (show acc.length+1<=4294967296 by omega)]
  rw[zX (by omega)]
  have:=zYQ a1 a2 a3 P by_ s o ord idx hi hl k (j+1) (acc++[P[idx[j]]]) (by omega) (by simp;omega)
  simp only[zAm,zA1,zAd]at this
  refine this.trans ?_
  have e:exQ P (idx[j]::idx.drop (j+1))=P[idx[j]]::exQ P (idx.drop (j+1)):=by
   unfold exQ
   rw[List.filterMap_cons,zI hp]
  rw[e,zAE];rfl
theorem zVR(T:List Def) (D:List (List (List Val))) (occ:List Int) (P:List Ex) (by_:Int) (sums out:List Int) (ord:Int) (idx:List Nat) (hi:∀ i∈idx,i<P.length) (hl:idx.length<=1000000) :
 wc W zDn [mkp T D occ P by_ sums out ord,zBv (idx.map λ n:Nat=>(n:Int))]=some (exsp (exQ P idx)):=by
 have h:=zQy (T.map Def.pv) (D.map tabp) (occ.map intp) (P.map Ex.pv) by_ (sums.map intp) (out.map intp) ord ((idx.map λ n:Nat=>(n:Int)).map intp)
 refine h.trans ?_
 rw[zG,zG]
 have:=zYQ (T.map Def.pv) (D.map tabp) (occ.map intp) P by_ (sums.map intp) (out.map intp) ord idx hi hl idx.length 0 [] (by omega) (by simp)
 simpa using this
theorem zTP{p:Plan} (hf:fewP p=true) (hs:setO 4 (zBm p)=some (setP p)):wc W zF1 [p.pv]=some (.int .i64 ((setP p:Nat):Int)):=by
 have h:=z0v p.op p.occ p.p0 p.p1 (p.l.map Plan.pv)
 rw[Plan.fold]at h
 have ht:zQk p=some (zBm p):=by unfold zQk;rw[hf,hs];rfl
 have hws:=z32 (zBm p)
 rw[hs,Option.getD_some]at hws
 rw[h,zWz,ht]
 simp only[tupT,zB,asTup_mk,zAO,zAg,Tree.c_mk,Tree.fold,c_b_mk,hws,c_i64_mk]
theorem z8V(m:PV) {m1 m2 m3 m4:List PV} {m5:Int} {m6 m7:List PV} {m8:Int} (hm:m= .agg [.slice 3 m1,.slice 0 m2,.slice 0 m3,.slice 6 m4,.int .i64 m5,.slice 0 m6,.slice 0 m7,.int .i64 m8]) (p0 p1:Int) (ca cb:List Int) (A B:List (List Val)) (ha:mayB ca A=true) (hb:mayB cb B=true) (hab:mayB (ca++cb) []=true) (hl:A.length*B.length<=5000) :
 wc W zDf [m,.agg [.int .i64 p0,.int .i64 p1],bagp ca A,bagp cb B]=some (bagp (ca++cb) (zBl A B)):=by
 have h:=zOb m1 m2 m3 m4 m5 m6 m7 m8 p0 p1 (ca.map intp) (A.map rowp) (cb.map intp) (B.map rowp)
 rw[zH,zH,zAM,zAM,zAY,zAY,<-hm]at h
 obtain⟨a1,a2,a3⟩:=zBi ha
 obtain⟨b1,b2,b3⟩:=zBi hb
 have hc:=z1U ca A cb B (by omega) (by omega) (by omega) (λ x hx=>by rw[(a3 x hx).1];omega) (λ x hx=>by rw[(b3 x hx).1];omega)
 have e:zRf ca A cb B=some (ca++cb,zBl A B):=by
  unfold zRf
  rw[ha,hb,hab,zD hl];rfl
 rw[h,hc,e]
 simp only[bagR,zB,asTup_mk,zAO,zAg,zFa,c_b_mk,zH,zAM,zAY]
theorem z8W(m:PV) {m1 m2 m3 m4:List PV} {m5:Int} {m6 m7:List PV} {m8:Int} (hm:m= .agg [.slice 3 m1,.slice 0 m2,.slice 0 m3,.slice 6 m4,.int .i64 m5,.slice 0 m6,.slice 0 m7,.int .i64 m8]) (p0 p1:Int) (ca cb:List Int) (A B:List (List Val)) (ha:mayB ca A=true) (hb:mayB cb B=true) (h0:inC ca p0=true) (h1:inC cb p1=true) :
 wc W zDg [m,.agg [.int .i64 p0,.int .i64 p1],bagp ca A,bagp cb B]=some (bagp (ca++cb) (selR (λ x y=>zDk (zV cb y p1) (zV ca x p0)) A B)):=by
 have h:=zOc m1 m2 m3 m4 m5 m6 m7 m8 p0 p1 (ca.map intp) (A.map rowp) (cb.map intp) (B.map rowp)
 obtain⟨a1,a2,a3⟩:=zBi ha
 obtain⟨b1,b2,b3⟩:=zBi hb
 have i0:=zHc ca p0 (by omega)
 have i1:=zHc cb p1 (by omega)
 obtain⟨hh,k1⟩:=z5o ca cb A B (idxI ca λ y=>p0==y) p1 h1 (λ r hr=>(b3 r hr).1) (by omega) (by omega) B.length 0 [] (by omega) (by simp[zMA])
 have k2:=z5p ca cb A B p0 p1 h0 (λ r hr=>(a3 r hr).1) (λ r hr=>by rw[(b3 r hr).1];omega) (by omega) a2 b2 hh [] [] ((ca++cb).map intp) A.length 0 [] (by omega) (by simp only[List.length_nil];omega)
 have z:((0:Nat):Int)=0:=rfl
 have e0:mpG []=[]:=rfl
 rw[z,List.drop_zero,e0]at k1
 rw[z,List.drop_zero,List.nil_append,z3p,zAd]at k2
 rw[k2]at k1
 have ea:PV.agg [.slice 0 (ca.map intp),.slice 0 (A.map rowp)]=bagp ca A:=rfl
 have eb:PV.agg [.slice 0 (cb.map intp),.slice 0 (B.map rowp)]=bagp cb B:=rfl
 have ia:PV.slice 0 (ca.map intp)=zBv ca:=rfl
 have ib:PV.slice 0 (cb.map intp)=zBv cb:=rfl
 rw[ea,eb,ia,ib,<-hm]at h
 rw[h,i0]
 simp only[zB,c_i64_mk,i1,zG,k1]
 rfl
theorem z5r(m:PV) {m1 m2 m3 m4:List PV} {m5:Int} {m6 m7:List PV} {m8:Int} (hm:m= .agg [.slice 3 m1,.slice 0 m2,.slice 0 m3,.slice 6 m4,.int .i64 m5,.slice 0 m6,.slice 0 m7,.int .i64 m8]) (p0 p1:Int) (ca cb:List Int) (A B:List (List Val)) (ha:mayB ca A=true) (hb:mayB cb B=true) (h0:inC ca p0=true) (h1:inC cb p1=true) :
 wc W zDR [m,.agg [.int .i64 p0,.int .i64 p1],bagp ca A,bagp cb B]=some (bagp (ca++cb) (mrgF (λ y x=>ltV' (zV cb y p1) (zV ca x p0)) (λ y x=>zDk (zV cb y p1) (zV ca x p0)) B 0 A)):=by
 have h:=zNc m1 m2 m3 m4 m5 m6 m7 m8 p0 p1 (ca.map intp) (A.map rowp) (cb.map intp) (B.map rowp)
 obtain⟨a1,a2,a3⟩:=zBi ha
 obtain⟨b1,b2,b3⟩:=zBi hb
 have i0:=zHc ca p0 (by omega)
 have i1:=zHc cb p1 (by omega)
 have hc:=zQV [ca,cb] (by simp) (by simp;omega)
 simp only[zA1,zAd,List.flatten_cons,List.flatten_nil,zBM]at hc
 have hmv:∀ r∈B,r.length=cb.length/\mayV (zV cb r p1)=true:=λ r hr=>⟨(b3 r hr).1,zAB.1 (b3 r hr).2 _ (zAU (zCd h1 (b3 r hr).1).1)⟩
 have k1:=λ x y z=>z48 ca cb A B p0 p1 h0 h1 (λ r hr=>(a3 r hr).1) hmv (by omega) (by omega) a2 b2 x y z A.length 0 0 [] (by omega) (by omega) (by simp only[List.length_nil];omega)
 have z:((0:Nat):Int)=0:=rfl
 simp only[z,List.drop_zero,List.nil_append,zAd]at k1
 have ea:PV.agg [.slice 0 (ca.map intp),.slice 0 (A.map rowp)]=bagp ca A:=rfl
 have eb:PV.agg [.slice 0 (cb.map intp),.slice 0 (B.map rowp)]=bagp cb B:=rfl
 have ia:PV.slice 0 (ca.map intp)=zBv ca:=rfl
 have ib:PV.slice 0 (cb.map intp)=zBv cb:=rfl
 rw[ea,eb,ia,ib,<-hm]at h
 rw[h,i0]
 simp only[zB,c_i64_mk,i1,hc,zDc,zG,k1]
 rfl
@[simp] theorem zLH(T:List Def) (D:List (List (List Val))) (occ:List Int) (P:List Ex) (by_:Int) (sums out:List Int) (ord:Int) :
 PV.agg [.slice 3 (T.map Def.pv),.slice 0 (D.map tabp),zBv occ,.slice 6 (P.map Ex.pv),.int .i64 by_,zBv sums,zBv out,.int .i64 ord]=mkp T D occ P by_ sums out ord:=rfl
theorem PlTells.leaves{q:QT} (hq:QOk q) {p:Plan} (h:PlTells q p):∀ o∈zAx 4 (zBm p),o<q.occ.length:=λ o ho=>by
 have xl:=zC4 _ _ _ h.set
 have la:=zBt 4 _ _ h.set
 have hocc:=hq.occ
 exact zON _ xl q.occ.length (by omega) h.lt o (zMt _ xl o ((la o).1 ho)) ((la o).1 ho)
theorem PlTells.may{q:QT} (hq:QOk q) {p:Plan} (h:PlTells q p):mayB (zAL q p).1 (zAL q p).2=true:=by
 rw[zMr h.rows,h.cols]
 exact zFd hq (h.leaves hq) (zFb 4 _ _ h.set) _
theorem PlTells.rok{q:QT} (hq:QOk q) {p:Plan} (h:PlTells q p):∀ x∈(zAL q p).2,ROk x:=λ x hx =>
 (zB7 hq (h.leaves hq) x (zBE.1 (h.rows.mem_iff.1 hx)).1).2.2
theorem zTQ{q:QT} (hq:QOk q) {a b:Plan} (ha:PlTells q a) (hb:PlTells q b) (hd:setP a &&& setP b=0) {op occ p0 p1:Int} (hj:PlTells q (.mk op occ p0 p1 [a,b])):(zAL q a).2.length*(zAL q b).2.length<=5000:=by
 have hlv:zAx 4 (zBm (.mk op occ p0 p1 [a,b]))=zAx 4 (zBm a)++zAx 4 (zBm b):=zQf ha.set hb.set hd
 have hm:=zFd hq (hj.leaves hq) (zFb 4 _ _ hj.set) (λ _=>true)
 rw[List.filter_eq_self.2 (λ _ _=>rfl),hlv,zIM]at hm
 have h5:=(zBi hm).2.1
 rw[zIn]at h5
 have l1:(zAL q a).2.length<=(zBb q (zAx 4 (zBm a))).length:=by rw[ha.rows.length_eq];exact zD7 _ _
 have l2:(zAL q b).2.length<=(zBb q (zAx 4 (zBm b))).length:=by rw[hb.rows.length_eq];exact zD7 _ _
 exact Nat.le_trans (Nat.mul_le_mul l1 l2) h5
theorem zTR(g:List Val->List Val->Bool) (s:List (List Val)):∀ r:List (List Val),(selR g r s).length<=r.length*s.length
 | []=>by simp[selR]
 |x::r=>by
  have ih:=zTR g s r
  have e:selR g (x::r) s=((s.filter (g x)).map λ y=>x++y)++selR g r s:=by unfold selR;rw[zCA]
  have h1:=zD7 (g x) s
  rw[e,zAH,zG,List.length_cons,Nat.succ_mul]
  omega
theorem z5s{q:QT} (hq:QOk q) {a b:Plan} (iha:PlTells q a) (ihb:PlTells q b) {p0 p1:Int} (i0:inC (zAL q a).1 p0=true) (i1:inC (zAL q b).1 p1=true) (oa:zEe a=p0) (ob:zEe b=p1) :
 mrgF (λ y x=>ltV' (zV (zAL q b).1 y p1) (zV (zAL q a).1 x p0)) (λ y x=>zDk (zV (zAL q b).1 y p1) (zV (zAL q a).1 x p0)) (zAL q b).2 0 (zAL q a).2=selR (λ x y=>zDk (zV (zAL q b).1 y p1) (zV (zAL q a).1 x p0)) (zAL q a).2 (zAL q b).2:=by
 have mayOf:∀{p:Plan} (hp:PlTells q p) (x:List Val),x∈(zAL q p).2->x.length=(zAL q p).1.length/\x.all mayV=true:=λ{p} hp x hx=>by
  have o:=zB7 hq (hp.leaves hq) x (zBE.1 (hp.rows.mem_iff.1 hx)).1
  exact⟨by rw[hp.cols];exact o.1,o.2.1⟩
 have mayL:∀{c:List Int} {x:List Val} {z:Int},inC c z=true->x.length=c.length->x.all mayV=true->mayV (zV c x z)=true:=λ{c x z} hz hl hm =>
  zAB.1 hm _ (zAU (zCd hz hl).1)
 have ne:∀{p:Plan} (hp:PlTells q p) {z:Int},inC (zAL q p).1 z=true->z≠ -1:=λ{p} hp {z} hz e=>by
  subst e
  rw[hp.cols]at hz
  have:=(zFc hq (hp.leaves hq) (zAP hz)).2.1
  omega
 have sa:=(iha.ord (by rw[oa];exact ne iha i0)).2
 have sb:=(ihb.ord (by rw[ob];exact ne ihb i1)).2
 rw[oa,zGz i0 (λ x hx=>(mayOf iha x hx).1)]at sa
 rw[ob,zGz i1 (λ x hx=>(mayOf ihb x hx).1)]at sb
 exact zTJ (c:=(zAL q a).1) (x0:=p0) sb (λ y hy=>mayL i1 (mayOf ihb y hy).1 (mayOf ihb y hy).2) (zAL q a).2 0 sa (λ x hx=>mayL i0 (mayOf iha x hx).1 (mayOf iha x hx).2) (λ x _ y hy=>by simp at hy)
theorem zQm{q:QT} (hq:QOk q) (by_:Int) (sums out:List Int) (ord:Int) {a b:Plan} (ha:PlTells q a) (hb:PlTells q b) (hfa:fewP a=true) (hfb:fewP b=true)
 (iha:wc W zAp [mkp q.T q.D q.occ q.P by_ sums out ord,a.pv]=some (bagp (zAL q a).1 (zAL q a).2)) (ihb:wc W zAp [mkp q.T q.D q.occ q.P by_ sums out ord,b.pv]=some (bagp (zAL q b).1 (zAL q b).2))
 (op occ p0 p1:Int) (hop:op=1∨op=2∨op=3) (R:List (List Val)) (hR1:∀ z∈R,z∈zBl (zAL q a).2 (zAL q b).2) (hR2:R.length<=5000)
 (hw:wc W (bif op==2 then zDg else bif op==3 then zDR else zDf) [mkp q.T q.D q.occ q.P by_ sums out ord,.agg [.int .i64 p0,.int .i64 p1],bagp (zAL q a).1 (zAL q a).2,bagp (zAL q b).1 (zAL q b).2]=some (bagp ((zAL q a).1++(zAL q b).1) R)) :
 wc W zAp [mkp q.T q.D q.occ q.P by_ sums out ord,(Plan.mk op occ p0 p1 [a,b]).pv]=some (bagp ((zAL q a).1++(zAL q b).1) (R.filter (zFy q (newF (setP a) (setP b)) ((zAL q a).1++(zAL q b).1)))):=by
 have hpv:PV.agg [.int .i64 op,.int .i64 occ,.int .i64 p0,.int .i64 p1,.slice 6 [a.pv,b.pv]]=(Plan.mk op occ p0 p1 [a,b]).pv:=by rw[Plan.pv_mk];rfl
 have e:=zG6 (q.T.map Def.pv) (q.D.map tabp) (q.occ.map intp) (q.P.map Ex.pv) by_ (sums.map intp) (out.map intp) ord op occ p0 p1 [a.pv,b.pv]
 obtain⟨a1,a2,a3⟩:=zBi (ha.may hq)
 obtain⟨b1,b2,b3⟩:=zBi (hb.may hq)
 have hsa:=zTP hfa ha.set
 have hsb:=zTP hfb hb.set
 have hP:=hq.P
 have hnew:=z8B q.occ q.P by_ sums out ord (setP a) (setP b) (zC4 _ _ _ ha.set) (zC4 _ _ _ hb.set) hq.P (λ e he=>(hq.ok e he).1)
 have hnl:(newQ q.P (setP a) (setP b)).length<=1000000:=by
  unfold newQ zK7
  exact Nat.le_trans (zD7 _ _) (by rw[List.length_range'];exact hP)
 have hof:=zVR q.T q.D q.occ q.P by_ sums out ord (newQ q.P (setP a) (setP b)) (λ i hi=>zSo hi) hnl
 have hx:PV.slice 6 ((exQ q.P (newQ q.P (setP a) (setP b))).map Ex.pv)=exsp (exQ q.P (newQ q.P (setP a) (setP b))):=rfl
 have hrow:∀ z∈R,z.length<=32/\ROk z:=λ z hz=>by
  obtain⟨u,hu,v,hv,rfl⟩:=zQd (hR1 z hz)
  refine⟨?_,λ w hw=> ?_⟩
  ·rw[zAH,(a3 u hu).1,(b3 v hv).1];omega
  ·rcases List.mem_append.1 hw with hw | hw
   ·exact ha.rok hq u hu w hw
   ·exact hb.rok hq v hv w hw
 have hkeep:=zXi ((zAL q a).1++(zAL q b).1) R (exQ q.P (newQ q.P (setP a) (setP b))) (by rw[zAH];omega) (by omega) (λ z hz=>by have:=(hrow z hz).1;omega) (λ z hz=>(hrow z hz).2) (by have:=z14 q.P (newQ q.P (setP a) (setP b));omega) (λ e he=>hq.ok e (z13 he))
 rcases hop with rfl | rfl | rfl
 ·have o0:((1:Int)==0)=false:=rfl
  have o4:((1:Int)==4)=false:=rfl
  have o2:((1:Int)==2)=false:=rfl
  have o3:((1:Int)==3)=false:=rfl
  simp only[o2,o3,zC]at hw
  simp only[o0,o4,o2,o3,zC,zKU,zH,zAS,zLH,hpv,zAO,zAg,zB,Plan.c_mk,Plan.fold,iha,ihb,zFa,zAM,zAY,hw,hsa,hsb,c_i64_mk,hnew,zDc,hof,zXn,hx,hkeep]at e
  exact e
 ·have o0:((2:Int)==0)=false:=rfl
  have o4:((2:Int)==4)=false:=rfl
  simp only[zCO,zA]at hw
  simp only[o0,o4,zCO,zA,zC,zKS,zH,zAS,zLH,hpv,zAO,zAg,zB,Plan.c_mk,Plan.fold,iha,ihb,zFa,zAM,zAY,hw,hsa,hsb,c_i64_mk,hnew,zDc,hof,zXn,hx,hkeep]at e
  exact e
 ·have o0:((3:Int)==0)=false:=rfl
  have o4:((3:Int)==4)=false:=rfl
  have o2:((3:Int)==2)=false:=rfl
  simp only[o2,zCO,zA,zC]at hw
  simp only[o0,o4,o2,zCO,zA,zC,zKT,zH,zAS,zLH,hpv,zAO,zAg,zB,Plan.c_mk,Plan.fold,iha,ihb,zFa,zAM,zAY,hw,hsa,hsb,c_i64_mk,hnew,zDc,hof,zXn,hx,hkeep]at e
  exact e
theorem z8X{q:QT} (hq:QOk q) (hc:∀ e∈q.P,zMl q e) (by_:Int) (sums out:List Int) (ord:Int) {p:Plan} (h:PlOk q p):fewP p=true->wc W zAp [mkp q.T q.D q.occ q.P by_ sums out ord,p.pv]=some (bagp (zAL q p).1 (zAL q p).2):=by
 have hP:=hq.P
 induction h with
 |scan occ p0 p1 h0 h1 =>
  intro hf
  have ht:=zE8 hq hc (.scan occ p0 p1 h0 h1)
  obtain⟨n,rfl⟩:=Int.eq_ofNat_of_zero_le h0
  have hn:n<q.occ.length:=by omega
  have hset:setO 4 (zBm (.mk 0 (n:Int) p0 p1 []))=some (2 ^ n):=by
   have hocc:=hq.occ
   show setO 4 (.mk (n:Int) [])=_
   simp only[setO,zD (show(0:Int)<=(n:Int) by omega),zD (show(n:Int)<4 by omega),Bool.and_self,zA,zY]
  have hsp:setP (.mk 0 (n:Int) p0 p1 [])=2 ^ n:=by
   show(setO 4 (zBm (.mk 0 (n:Int) p0 p1 []))).getD 0=_
   rw[hset];rfl
  have hpv:PV.agg [.int .i64 0,.int .i64 (n:Int),.int .i64 p0,.int .i64 p1,.slice 6 []]=(Plan.mk 0 (n:Int) p0 p1 []).pv:=by rw[Plan.pv_mk];rfl
  have e:=zG6 (q.T.map Def.pv) (q.D.map tabp) (q.occ.map intp) (q.P.map Ex.pv) by_ (sums.map intp) (out.map intp) ord 0 (n:Int) p0 p1 []
  have hlt:=zC4 _ _ _ ht.set
  have hrs:=zTP hf ht.set
  rw[hsp]at hlt hrs
  have hown:=z8i q.occ q.P by_ sums out ord (2 ^ n) hlt hP (λ e he=>(hq.ok e he).1)
  have hol:(zK7 q.P (zA3 (2 ^ n))).length<=1000000:=by
   unfold zK7
   exact Nat.le_trans (zD7 _ _) (by rw[List.length_range'];exact hP)
  have hof:=zVR q.T q.D q.occ q.P by_ sums out ord (zK7 q.P (zA3 (2 ^ n))) (λ i hi=>zSo hi) hol
  have hx:PV.slice 6 ((exQ q.P (zK7 q.P (zA3 (2 ^ n)))).map Ex.pv)=exsp (exQ q.P (zK7 q.P (zA3 (2 ^ n)))):=rfl
  have hlf:=zFd hq (l:=[n]) (λ o ho=>by rw[zBS]at ho;omega) (by simp) (λ _=>true)
  have hlr:=zB7 hq (l:=[n]) (λ o ho=>by rw[zBS]at ho;omega)
  rw[List.filter_eq_self.2 (λ _ _=>rfl)]at hlf
  simp only[zBb,zMu,zAI,zCA,List.flatMap_nil,zBM]at hlf hlr
  obtain⟨l1,l2,l3⟩:=zBi hlf
  have hkeep:=zXi (zBO q.T q.occ n) (q.leaf n) (exQ q.P (zK7 q.P (zA3 (2 ^ n)))) (by omega) (by omega) (λ z hz=>by rw[(l3 z hz).1];omega) (λ z hz=>(hlr z hz).2.2) (by have:=z14 q.P (zK7 q.P (zA3 (2 ^ n)));omega) (λ e he=>hq.ok e (z13 he))
  have hg:(q.occ.map intp)[n]? =some (intp q.occ[n]):=by rw[zN,zI hn];rfl
  simp only[zCO,zA,zAj,zBu,zH,zAS,zLH,hpv,zA2,zY,hg,zB,zIK,z1z hq hn,asTup_mk,zAO,zAg,zFa,c_b_mk,hrs,c_i64_mk,hown,zDc,hof,zXn,hx,zAM,zAY,hkeep]at e
  exact e
 |sort occ p0 p1 a ha hcol ih =>
  intro hf
  have ta:=zE8 hq hc ha
  have hfa:fewP a=true:=zG0 hf (by simp[Plan.l])
  have hpv:PV.agg [.int .i64 4,.int .i64 occ,.int .i64 p0,.int .i64 p1,.slice 6 [a.pv]]=(Plan.mk 4 occ p0 p1 [a]).pv:=by rw[Plan.pv_mk];rfl
  have e:=zG6 (q.T.map Def.pv) (q.D.map tabp) (q.occ.map intp) (q.P.map Ex.pv) by_ (sums.map intp) (out.map intp) ord 4 occ p0 p1 [a.pv]
  obtain⟨a1,a2,a3⟩:=zBi (ta.may hq)
  have hs:=z4R (zAL q a).1 (zAL q a).2 p0 (by omega) (by omega) (λ z hz=>by rw[(a3 z hz).1];omega)
  have o0:((4:Int)==0)=false:=rfl
  simp only[o0,zCO,zA,zC,zH,zLH,hpv,zAO,zB,Plan.c_mk,Plan.fold,ih hfa,zFa,zAM,zAY,hs]at e
  exact e
 |nest occ p0 p1 a b ha hb hd iha ihb =>
  intro hf
  have ta:=zE8 hq hc ha
  have tb:=zE8 hq hc hb
  have tj:=zE8 hq hc (.nest occ p0 p1 a b ha hb hd)
  have hfa:fewP a=true:=zG0 hf (by simp[Plan.l])
  have hfb:fewP b=true:=zG0 hf (by simp[Plan.l])
  have hl:=zTQ hq ta tb hd tj
  exact zQm hq by_ sums out ord ta tb hfa hfb (iha hfa) (ihb hfb) 1 occ p0 p1 (.inl rfl) (zBl (zAL q a).2 (zAL q b).2) (λ z hz=>hz) (by rw[zIn];exact hl) (z8V _ rfl p0 p1 _ _ _ _ (ta.may hq) (tb.may hq) (zXf (tj.may hq)) hl)
 |hash occ p0 p1 a b ha hb hd hp iha ihb =>
  intro hf
  have ta:=zE8 hq hc ha
  have tb:=zE8 hq hc hb
  have tj:=zE8 hq hc (.hash occ p0 p1 a b ha hb hd hp)
  have hfa:fewP a=true:=zG0 hf (by simp[Plan.l])
  have hfb:fewP b=true:=zG0 hf (by simp[Plan.l])
  have hl:=zTQ hq ta tb hd tj
  obtain⟨⟨i0,i1⟩,_⟩:=zMx hq hc ta tb hd hp
  exact zQm hq by_ sums out ord ta tb hfa hfb (iha hfa) (ihb hfb) 2 occ p0 p1 (.inr (.inl rfl)) _ (λ z hz=>zYL hz) (Nat.le_trans (zTR _ _ _) hl) (z8W _ rfl p0 p1 _ _ _ _ (ta.may hq) (tb.may hq) i0 i1)
 |merge occ p0 p1 a b ha hb hd hp oa ob iha ihb =>
  intro hf
  have ta:=zE8 hq hc ha
  have tb:=zE8 hq hc hb
  have tj:=zE8 hq hc (.merge occ p0 p1 a b ha hb hd hp oa ob)
  have hfa:fewP a=true:=zG0 hf (by simp[Plan.l])
  have hfb:fewP b=true:=zG0 hf (by simp[Plan.l])
  have hl:=zTQ hq ta tb hd tj
  obtain⟨⟨i0,i1⟩,_⟩:=zMx hq hc ta tb hd hp
  have hm:=z5s hq ta tb i0 i1 oa ob
  exact zQm hq by_ sums out ord ta tb hfa hfb (iha hfa) (ihb hfb) 3 occ p0 p1 (.inr (.inr rfl)) (mrgF (λ y x=>ltV' (zV (zAL q b).1 y p1) (zV (zAL q a).1 x p0)) (λ y x=>zDk (zV (zAL q b).1 y p1) (zV (zAL q a).1 x p0)) (zAL q b).2 0 (zAL q a).2) (λ z hz=>by rw[hm]at hz;exact zYL hz) (by rw[hm];exact Nat.le_trans (zTR _ _ _) hl) (z5r _ rfl p0 p1 _ _ _ _ (ta.may hq) (tb.may hq) i0 i1)
end Go.Cf

namespace Go.Cf
open Go Go.Ab
theorem zXC{by_:Int} {sums out c d:List Int} {r x:List (List Val)} (hr:∀ x∈r,ROk x) (hl:r.length<=5000) (ho:out.length<=1000) (h:finB by_ sums out c r=some (d,x)) :
 d.length<=1000/\x.length<=5000/\∀ y∈x,ROk y/\y.length<=1000:=by
 obtain⟨h1,h2,h3,h4⟩:=z5b hr (by omega) h
 have hd:d.length<=1000:=by
  by_cases hb:by_= -1
  ·rw[(h3 hb).1];exact ho
  ·obtain⟨e,h5⟩:=h4 hb
   rw[e]
   simp only[zMB,List.length_cons,zG,List.length_range']
   omega
 exact⟨hd,by omega,λ y hy=>⟨(h1 y hy).1,by rw[(h1 y hy).2];exact hd⟩⟩
theorem z2A{q:QT} (hq:QOk q):(allB q).2.length<=5000/\∀ x∈(allB q).2,ROk x:=by
 have hlr:∀ o∈List.range q.occ.length,o<q.occ.length:=λ o ho=>List.mem_range.1 ho
 have m2:mayB (allB q).1 (allB q).2=true:=zFd hq hlr List.nodup_range _
 exact⟨(zBi m2).2.1,λ x hx=>(zB7 hq hlr x (zBE.1 hx).1).2.2⟩
def z2B(x:Option (List Int×List (List Val))) (ord:Int) (d:List Int) (s:List (List Val)):Bool :=
 match x with
 |none=>false
 |some x=>zZ8 x.1 x.2 d s&&(ord== -1 || ordB (idxI d (λ z=>ord==z)) s)
theorem z5t(q:QT) (by_:Int) (sums out:List Int) (ord:Int) (hT:q.T.length<=9223372036854775807) (hocc:q.occ.length<=9223372036854775807) (hP:q.P.length<=1000000) (hok:∀ e∈q.P,e.ok/\e.vals) (hs:sums.length<=4294967296) (ho:out.length<=1000)
 (hD:DOk q.D) (hv:∀ t∈q.D,∀ r∈t,ROk r) (d:List Int) (s:List (List Val)) (hd:d.length<=1000000) (hsl:s.length<=1000000000) (hsr:∀ x∈s,ROk x/\x.length<=1000000) :
 wc W zJB [catp q.T,zIo q.D,zDH q.occ (q.P.map Ex.pv) by_ sums out ord,bagp d s]=some (.bool (z2B (allQ q (mayQ q.T q.occ q.P by_ sums out ord) by_ sums out) ord d s)):=by
 have h:=zS0 (q.T.map Def.pv) (q.D.map tabp) (q.occ.map intp) (q.P.map Ex.pv) by_ (sums.map intp) (out.map intp) ord (d.map intp) (s.map rowp)
 simp only[zAj,zBu,zH,zAS,zAM,zAY]at h
 rw[h,z8U q by_ sums out ord hT hocc hP hok hs (by omega) hD hv]
 unfold z2B
 cases ha:allQ q (mayQ q.T q.occ q.P by_ sums out ord) by_ sums out with
 |none=>rfl
 |some x =>
  obtain⟨c,r⟩:=x
  unfold allQ at ha
  obtain⟨h1,h2⟩:=bif_some ha
  simp only[zF]at h1
  have hparts:=h1.1
  unfold mayQ at hparts
  simp only[zF,zR,zAB]at hparts
  have hq:QOk q:=⟨h1.2,hv,hparts.1.1.1.1.2,hparts.1.1.1.2,hT,hD,hP,hok⟩
  obtain⟨k1,k2⟩:=z2A hq
  obtain⟨f1,f2,f3⟩:=zXC k2 k1 ho h2
  have ws:=z8H c r d s (by omega) (by omega) hsl (λ y hy=>⟨(f3 y hy).1,by have:=(f3 y hy).2;omega⟩) hsr
  have wo:=z3q d s ord (by omega) hsl
  simp only[bagR,zB,asTup_mk,zAO,zAg,zFa,c_b_mk,zA,zH,zAM,zAY,ws,wo]
  cases zZ8 c r d s with
  |false=>rfl
  |true =>
   cases ord== -1 with
   |true=>rfl
   |false=>rfl
end Go.Cf

namespace Go.Cf
open Go Go.Ab
structure QSz (q:QT) (sums out:List Int):Prop where
 T:q.T.length<=9223372036854775807
 occ:q.occ.length<=9223372036854775807
 P:q.P.length<=1000000
 ok:∀ e∈q.P,e.ok/\e.vals
 sums:sums.length<=1000000
 out:out.length<=1000
 D:DOk q.D
 vals:∀ t∈q.D,∀ r∈t,ROk r
theorem QSz.may{q:QT} {sums out:List Int} (z:QSz q sums out) {by_ ord:Int} (h:mayQ q.T q.occ q.P by_ sums out ord=true) (hf:fits q.T q.D=true):QOk q:=by
 have hparts:=h
 unfold mayQ at hparts
 simp only[zF,zR,zAB]at hparts
 exact⟨hf,z.vals,hparts.1.1.1.1.2,hparts.1.1.1.2,z.T,z.D,z.P,z.ok⟩
theorem z2C{q:QT} {sums out:List Int} {by_ ord:Int} (h:mayQ q.T q.occ q.P by_ sums out ord=true):1<=q.occ.length/\q.occ.length<=4/\q.P.length<=6/\zWj by_ sums out ord (zK6 q.T q.occ)=true:=by
 unfold mayQ at h
 simp only[zF,zR,zAB]at h
 exact⟨h.1.1.1.1.1.2,h.1.1.1.1.2,h.1.1.2,h.2⟩
theorem zYR{q:QT} (hq:QOk q) {m:Bool} {p:Plan} (h:mayP q.T q.occ q.P m p=true):m=true/\fewP p=true/\setO 4 (zBm p)=some (setP p)/\setP p<2 ^ q.occ.length/\PlOk q p:=by
 unfold mayP at h
 simp only[zF,zR]at h
 obtain⟨⟨⟨h1,h2⟩,h3⟩,h4⟩:=h
 cases ht:zQk p with
 |none=>rw[ht]at h1;cases h1
 |some t =>
  obtain⟨k1,k2,k3,k4⟩:=zNm ht
  exact⟨h2,k1,k4,h3,z5n hq p k1 _ k4 h3 h4⟩
theorem z2D{T:List Def} {occ:List Int} {P:List Ex} {m:Bool} {p:Plan} (h:mayP T occ P m p=true):m=true:=by
 unfold mayP at h
 simp only[zF]at h
 exact h.1.1.2
def zVS(p:Plan) (e:Int) (s:Bool):PV:= .agg [.int .i64 p.op,.int .i64 p.occ,.int .i64 p.p0,.int .i64 p.p1,.slice 6 (p.l.map Plan.pv),.int .i64 e,.bool s]
@[simp] theorem zLI(p:Plan) (e:Int) (s:Bool):PV.agg [.int .i64 p.op,.int .i64 p.occ,.int .i64 p.p0,.int .i64 p.p1,.slice 6 (p.l.map Plan.pv),.int .i64 e,.bool s]=zVS p e s:=rfl
def endB(by_ ord:Int) (o e:Int) (s:Bool):Bool:=bif s then ord != -1&&e==1 else bif e==2 then o==by_ else bif ord != -1 then e==0&&o==ord else true
def zVT(T:List Def) (occ:List Int) (P:List Ex) (may:Bool) (by_ ord:Int) (p:Plan) (e:Int) (s:Bool):Bool :=
 mayP T occ P may p&&decide (setP p=2 ^ occ.length-1)&&decide (0<=e)&&decide (e<3)&&((e==0)==(by_== -1))&&endB by_ ord (zEe p) e s
theorem z2E:∀ n:Nat,n<5->IntKind.wrap .i64 (IntKind.wrap .i64 ((1:Int)*(2:Int) ^ (min (Int.toNat (n:Int)) 64))-1)=((2 ^ n-1:Nat):Int):=by decide +kernel
theorem z49{q:QT} {sums out:List Int} (z:QSz q sums out) (by_ ord:Int) (p:Plan) (e:Int) (s:Bool) :
 wc W zJC [catp q.T,zDH q.occ (q.P.map Ex.pv) by_ sums out ord,zVS p e s]=some (.bool (zVT q.T q.occ q.P (mayQ q.T q.occ q.P by_ sums out ord) by_ ord p e s)):=by
 have h:=zWP (q.T.map Def.pv) (q.occ.map intp) (q.P.map Ex.pv) by_ (sums.map intp) (out.map intp) ord p.op p.occ p.p0 p.p1 (p.l.map Plan.pv) e s
 have zs:=z.sums
 have zo:=z.out
 simp only[Plan.fold,zAj,zH,zAS,zLI]at h
 rw[h,zWz,z8Q q.T q.occ q.P by_ sums out ord z.T z.occ z.P (λ e he=>(z.ok e he).1) (by omega) (by omega) p]
 unfold zVT
 have hx:∃ t b,tupT (zQk p)= .tup [Tree.pv t,.bool b]/\(mayP q.T q.occ q.P (mayQ q.T q.occ q.P by_ sums out ord) p=true->t=zBm p/\setO 4 (zBm p)=some (setP p)/\fewP p=true):=by
  cases ht:zQk p with
  |none =>
   refine⟨Tree.mk 0 [],false,rfl,λ hm=> ?_⟩
   unfold mayP at hm
   rw[ht]at hm;cases hm
  |some t =>
   obtain⟨k1,k2,k3,k4⟩:=zNm ht
   exact⟨t,true,rfl,λ _=>⟨k3,k4,k1⟩⟩
 obtain⟨t,b,hx,ht⟩:=hx
 simp only[hx,zB,asTup_mk,zAO,zAg,Tree.c_mk,Tree.fold,c_b_mk]
 cases hm:mayP q.T q.occ q.P (mayQ q.T q.occ q.P by_ sums out ord) p with
 |false=>rfl
 |true =>
  obtain⟨rfl,k4,k1⟩:=ht hm
  have hs:=z32 (zBm p)
  rw[k4,Option.getD_some]at hs
  have ho:=(z2C (z2D hm)).2.1
  have hw:=z2E q.occ.length (by omega)
  have hord:=z1t p
  rw[k1,zA]at hord
  have e1:decide (e≥3)= !decide (e<3):=by
   by_cases he:e<3
   ·rw[zD he,zK (by omega)];rfl
   ·rw[zK he,zD (by omega)];rfl
  have e2:decide (e<0)= !decide (0<=e):=by
   by_cases he:e<0
   ·rw[zD he,zK (by omega)];rfl
   ·rw[zK he,zD (by omega)];rfl
  simp only[zAJ,zC,hs,zB,c_i64_mk,zG,hw,e1,e2,zO3,Plan.fold,hord,zAA]
  by_cases hf:setP p=2 ^ q.occ.length-1
  ·rw[zIS (by rw[hf]),zD hf]
   simp only[zC,zAA]
   unfold endB
   cases decide (0<=e) with
   |false=>rfl
   |true =>
    cases decide (e<3) with
    |false=>rfl
    |true =>
     cases (e==0)==(by_== -1) with
     |false=>rfl
     |true =>
      cases s with
      |true=>cases ord != -1<;>cases e==1<;>rfl
      |false =>
       cases e==2 with
       |true=>rfl
       |false =>
        cases ord != -1 with
        |false=>rfl
        |true=>cases e==0<;>rfl
  ·rw[zH3 (by omega),zK hf];rfl
def doQ(q:QT) (may:Bool) (by_:Int) (sums out:List Int) (ord:Int) (p:Plan) (e:Int) (s:Bool):Option (List Int×List (List Val)) :=
 bif zVT q.T q.occ q.P may by_ ord p e s&&fits q.T q.D then(finB by_ sums out (zAL q p).1 (zAL q p).2).map λ b=>(b.1,bif s then zZ5 b.1 b.2 ord else b.2)else none
theorem zVU{T:List Def} {occ:List Int} {P:List Ex} {may:Bool} {by_ ord:Int} {p:Plan} {e:Int} {s:Bool} (h:zVT T occ P may by_ ord p e s=true):mayP T occ P may p=true/\setP p=2 ^ occ.length-1/\((e==0)==(by_== -1))=true/\endB by_ ord (zEe p) e s=true:=by
 unfold zVT at h
 simp only[zF,zR]at h
 exact⟨h.1.1.1.1.1,h.1.1.1.1.2,h.1.2,h.2⟩
theorem w_Do{q:QT} {sums out:List Int} (z:QSz q sums out) (by_ ord:Int) (p:Plan) (e:Int) (s:Bool) :
 wc W zST [catp q.T,zIo q.D,zDH q.occ (q.P.map Ex.pv) by_ sums out ord,zVS p e s]=some (bagR (doQ q (mayQ q.T q.occ q.P by_ sums out ord) by_ sums out ord p e s)):=by
 have h:=z3M (q.T.map Def.pv) (q.D.map tabp) (q.occ.map intp) (q.P.map Ex.pv) by_ (sums.map intp) (out.map intp) ord p.op p.occ p.p0 p.p1 (p.l.map Plan.pv) e s
 have e0:PV.tup [PV.agg [PV.slice 0 [],PV.slice 0 []],PV.bool false]=bagR none:=rfl
 simp only[zAj,zBu,zH,zAS,zLI]at h
 rw[h,z49 z,z1X q.T q.D z.T z.D]
 simp only[zB,c_b_mk,e0]
 unfold doQ
 cases h1:zVT q.T q.occ q.P (mayQ q.T q.occ q.P by_ sums out ord) by_ ord p e s with
 |false=>rfl
 |true =>
  cases h2:fits q.T q.D with
  |false=>rfl
  |true =>
   have hmp:=(zVU h1).1
   have hm:=z2D hmp
   have hq:=z.may hm h2
   obtain⟨_,hf,_,_,hp⟩:=zYR hq hmp
   have hr:=z8X hq (zLA hq hm) by_ sums out ord hp hf
   have ht:=zE8 hq (zLA hq hm) hp
   obtain⟨m1,m2,m3⟩:=zBi (ht.may hq)
   have zo:=z.out
   have hfin:=zYJ q.occ (q.P.map Ex.pv) by_ sums out ord (zAL q p).1 (zAL q p).2 (by omega) (by omega) (λ x hx=>⟨ht.rok hq x hx,by rw[(m3 x hx).1];omega⟩) (by omega)
   simp only[zAJ,zC,Bool.and_self,zA,zS1,zH,zAS,zLH,Plan.fold,hr,zB,zFa,zAM,zAY,hfin]
   cases hfb:finB by_ sums out (zAL q p).1 (zAL q p).2 with
   |none =>
    simp only[bagR,asTup_mk,zB,zAO,zAg,zFa,c_b_mk,zC,zM4,zM5,zH,zAM,zAY,Option.map_none]
   |some b =>
    obtain⟨d,x⟩:=b
    obtain⟨g1,g2,g3⟩:=zXC (ht.rok hq) m2 zo hfb
    have hsort:=z4R d x ord (by omega) (by omega) (λ y hy=>by have:=(g3 y hy).2;omega)
    simp only[bagR,asTup_mk,zB,zAO,zAg,zFa,c_b_mk,zA,zM4,zM5,zH,zAM,zAY,zU,hsort]
    cases s<;>rfl
theorem z2F{c:List Int} {r:List (List Val)} {by_:Int} {sums:List Int} (hm:mayB c r=true) (hin:inC c by_=true):SrtC (zMB by_ sums.length) by_ (zKb c r by_ sums):=by
 obtain⟨m1,m2,m3⟩:=zBi hm
 have hi:inC (zMB by_ sums.length) by_=true:=zD (by simp[zMB])
 have hlen:∀ x∈zKb c r by_ sums,x.length=(zMB by_ sums.length).length:=λ x hx=>by
  unfold zKb at hx
  obtain⟨k,_,rfl⟩:=zAV.1 hx
  simp[rowG,zMB]
 rw[zGz hi hlen]
 unfold zKb
 rw[List.pairwise_map]
 refine(zCh (zGc (idxI c λ x=>by_==x) r)).imp_of_mem λ{k l} hk hl e=> ?_
 have hl0:∀(k:Ky) (t:List Val),zV (zMB by_ sums.length) (⟨k.1,k.2⟩::t) by_=⟨k.1,k.2⟩:=λ k t=>by
  have i0:idxI (zMB by_ sums.length) (λ x=>by_==x)=0:=by
   unfold zMB idxI
   rw[List.findIdx?_cons];simp
  unfold zV
  rw[i0];simp
  rfl
 have hkv:∀ k∈zBP (zGc (idxI c λ x=>by_==x) r),keyV ⟨k.1,k.2⟩=k:=λ k hk=>by
  obtain⟨x,hx,rfl⟩:=(zIp _ _ _).1 ((zBo _).mem_iff.1 hk)
  obtain⟨x1,x2⟩:=m3 x hx
  have hv:mayV (zV c x by_)=true:=zAB.1 x2 _ (zAU (zCd hin x1).1)
  rw[zTG hin x1,hv]
  unfold keyV
  simp only[zA]
  have:mayV ⟨(zV c x by_).K,(zV c x by_).N⟩=true:=hv
  rw[this];rfl
 unfold rowG
 rw[hl0,hl0,zTH,hkv k hk,hkv l hl]
 exact(zPv _ _).1 e
theorem z3r{c out:List Int} {r:List (List Val)} {ord:Int} (hr:∀ x∈r,x.length=c.length) (hin:inC c ord=true) (ho:inC out ord=true) (h:SrtC c ord r):SrtC out ord (r.map (zBw c out)):=by
 rw[zGz ho (λ x hx=>by obtain⟨y,_,rfl⟩:=zAV.1 hx;simp[zBw]),List.pairwise_map]
 rw[zGz hin hr]at h
 refine h.imp λ{a b} e=> ?_
 rw[zIm ho,zIm ho];exact e
theorem z3s{q:QT} {sums out:List Int} (z:QSz q sums out) {by_ ord:Int} {p:Plan} {e:Int} {s:Bool} (h1:zVT q.T q.occ q.P (mayQ q.T q.occ q.P by_ sums out ord) by_ ord p e s=true) (h2:fits q.T q.D=true) :
 ∃ d x y,doQ q (mayQ q.T q.occ q.P by_ sums out ord) by_ sums out ord p e s=some (d,x)/\allQ q (mayQ q.T q.occ q.P by_ sums out ord) by_ sums out=some (d,y)/\x.Perm y/\(ord= -1∨ordB (idxI d λ z=>ord==z) x=true)/\d.length<=1000/\x.length<=5000/\∀ u∈x,ROk u/\u.length<=1000:=by
 obtain⟨hmp,hfull,hend0,hend⟩:=zVU h1
 have hm:=z2D hmp
 have hq:=z.may hm h2
 obtain⟨_,hf,hset,hlt,hp⟩:=zYR hq hmp
 have ht:=zE8 hq (zLA hq hm) hp
 obtain⟨m1,m2,m3⟩:=zBi (ht.may hq)
 have hl:∀ o,o∈zAx 4 (zBm p)↔o<q.occ.length:=λ o=>by
  rw[zBt 4 _ _ hset,hfull,Nat.testBit_two_pow_sub_one,zR]
 have hrows:=ht.rows
 rw[hfull]at hrows
 obtain⟨d,x,y,f1,f2,f3⟩:=z3i hq hm hl (zFb 4 _ _ hset) hrows
 rw[<- ht.cols]at f1
 have hall:allQ q (mayQ q.T q.occ q.P by_ sums out ord) by_ sums out=some (d,y):=by
  unfold allQ
  rw[hm,h2];exact f2
 obtain⟨g1,g2,g3⟩:=zXC (ht.rok hq) m2 z.out f1
 have hsp:=zRp d x ord
 refine⟨d,bif s then zZ5 d x ord else x,y,?_,hall,?_,?_,g1,?_,?_⟩
 ·unfold doQ
  rw[h1,h2,f1];rfl
 ·cases s with
  |true=>exact hsp.trans f3
  |false=>exact f3
 ·by_cases ho:ord= -1
  ·exact .inl ho
  ·refine .inr ?_
   cases hs:s with
   |true=>exact(zMn _ _).2 (zVL d x ord)
   |false =>
    rw[hs]at hend
    simp only[zC]
    rw[zMn]
    show SrtC d ord x
    have htail:=(z2C hm).2.2.2
    unfold zWj at htail
    by_cases hb:by_= -1
    ·rw[zIT hb]at htail hend0
     simp only[zA,zF,zEU,beq_iff_eq]at htail
     have hino:inC out ord=true:=by rcases htail.2 with h | h;exact absurd h ho;exact h
     have he0:e=0:=by simpa using hend0
     subst he0
     unfold endB at hend
     have e2:((0:Int)==2)=false:=rfl
     rw[e2,zH3 ho]at hend
     simp only[zC,zA,zF,beq_iff_eq]at hend
     have hop:zEe p=ord:=hend.2
     obtain⟨o1,o2⟩:=ht.ord (by rw[hop];exact ho)
     rw[hop]at o1 o2
     unfold finB zSl at f1
     rw[zIS hb,zC]at f1
     obtain⟨_,f1⟩:=bif_some f1
     simp only[zE,zA4]at f1
     obtain⟨rfl,rfl⟩:=f1
     exact z3r (λ u hu=>(m3 u hu).1) o1 hino o2
    ·rw[zDI hb]at htail
     simp only[zC,zF,zEU,beq_iff_eq]at htail
     have hob:ord=by_:=by rcases htail.2 with h | h;exact absurd h ho;exact h
     subst hob
     unfold finB zJj at f1
     rw[zH3 hb,zA]at f1
     obtain⟨f0,f1⟩:=bif_some f1
     simp only[zF]at f0
     simp only[zE,zA4]at f1
     obtain⟨rfl,rfl⟩:=f1
     exact z2F f0.1.1.1 f0.1.1.2
 ·cases s with
  |true=>rw[zA,hsp.length_eq];exact g2
  |false=>exact g2
 ·cases s with
  |true=>intro u hu;exact g3 u (hsp.mem_iff.1 hu)
  |false=>exact g3
end Go.Cf

namespace Go.Cf
open Go Go.Ab
theorem z2G{p:PV} (h:Typed cfg zXa p):∃ a b:Int,p= .agg [.int .i64 a,.int .i64 b]:=by
 obtain⟨ps,rfl,hl,hx⟩:=h.arr_inv (n:=2) (e:=zM0) (by kernel_rfl)
 match ps,hl with
 | [x,y],_ =>
  obtain⟨a,rfl,_⟩:=zHx (hx x (by simp))
  obtain⟨b,rfl,_⟩:=zHx (hx y (by simp))
  exact⟨a,b,rfl⟩
theorem zOR:∀(n:Nat) (p:PV),SizeOf.sizeOf p<n->Typed cfg zDo p->∃ x:Plan,p=x.pv/\x.Ok
 | 0,p,h,_=>by omega
 |n+1,p,h,ht=>by
  obtain⟨ps,rfl,hl⟩:=ht.struct_inv (fs:=[(zM0,0),(zM0,1),(zXa,2),(zUS,4)]) (by kernel_rfl)
  obtain⟨x,qs,rfl,hx,hl⟩:=zBd hl
  obtain⟨y,qs,rfl,hy,hl⟩:=zBd hl
  obtain⟨z,qs,rfl,hz,hl⟩:=zBd hl
  obtain⟨u,rfl,hu⟩:=zKM hl
  obtain⟨o,rfl,ho⟩:=zHx hx
  obtain⟨c,rfl,hc⟩:=zHx hy
  obtain⟨a,b,rfl⟩:=z2G hz
  obtain⟨xs,rfl,hlen,hxs⟩:=hu.slice_inv (e:=zDo) (by kernel_rfl)
  obtain⟨l,rfl,hlo⟩:=zJQ (Q:=Plan.Ok) (f:=Plan.pv) (xs:=xs) (λ x hx=>by
   have h1:=List.sizeOf_lt_of_mem hx
   refine zOR n x ?_ (hxs x hx)
   have h2:SizeOf.sizeOf (PV.slice (cfg.sh zDo) xs)<=SizeOf.sizeOf (PV.agg (([PV.int .i64 o,PV.int .i64 c,PV.agg [.int .i64 a,.int .i64 b],PV.slice (cfg.sh zDo) xs]:List PV).flatMap PV.cells)):=by
    have e:([PV.int .i64 o,PV.int .i64 c,PV.agg [.int .i64 a,.int .i64 b],PV.slice (cfg.sh zDo) xs]:List PV).flatMap PV.cells=[PV.int .i64 o,PV.int .i64 c,.int .i64 a,.int .i64 b,PV.slice (cfg.sh zDo) xs]:=rfl
    rw[e]
    simp only[PV.agg.sizeOf_spec,List.cons.sizeOf_spec,List.nil.sizeOf_spec]
    omega
   have h3:SizeOf.sizeOf (PV.slice (cfg.sh zDo) xs)=1+SizeOf.sizeOf (cfg.sh zDo)+SizeOf.sizeOf xs:=by simp
   omega)
  refine⟨.mk o c a b l,?_,.mk _ _ _ _ _ (by simpa using hlen) hlo⟩
  rw[Plan.pv_mk]
  rfl
theorem zXD{p:PV} (h:Typed cfg zDo p):∃ x:Plan,p=x.pv/\x.Ok:=zOR _ p (Nat.lt_succ_self _) h
structure WIn where
 (P:Plan) (e:Int) (s:Bool)
def WIn.pv(w:WIn):PV:=zVS w.P w.e w.s
theorem zVV{p:PV} (h:Typed cfg zWI p):∃ w:WIn,p=w.pv/\w.P.Ok:=by
 obtain⟨ps,rfl,hl⟩:=h.struct_inv (fs:=[(zDo,0),(zM0,5),(z78,6)]) (by kernel_rfl)
 obtain⟨x,qs,rfl,hx,hl⟩:=zBd hl
 obtain⟨y,qs,rfl,hy,hl⟩:=zBd hl
 obtain⟨z,rfl,hz⟩:=zKM hl
 obtain⟨P,rfl,hP⟩:=zXD hx
 obtain⟨e,rfl,he⟩:=zHx hy
 obtain⟨s,rfl⟩:=hz.bool_inv (by kernel_rfl)
 refine⟨⟨P,e,s⟩,?_,hP⟩
 rw[Plan.pv_eq]
 rfl
end Go.Cf

namespace Go.Cf
open Go Go.Ab
theorem z2H:wc W zGI []=some (.bool true):=by rw[W_eq];exact z6K (zVy 100) (by kernel_rfl)
end Go.Cf

namespace Go.Cf
open Go Go.Ab
theorem zVW(T:List Def) (D:List (List (List Val))) (q:QIn) (w:WIn) (hT:T.length<=9223372036854775807) (hD:DOk D/\∀ t∈D,∀ r∈t,ROk r) (hq:q.Ok) (hw:w.P.Ok) :
 wc W zDQ [catp T,zIo D,q.pv,w.pv]=some (.bool true):=by
 obtain⟨b,h7,h7b⟩:=z3m T D hD.1 q hq w.P hw
 obtain⟨occ,P,by_,sums,out,ord⟩:=q
 obtain⟨p,e,s⟩:=w
 have h7' :wc W zC6 [catp T,zIo D,zDH occ (P.map Ex.pv) by_ sums out ord,p.pv]=some (.bool b):=h7
 have h:=zIe (T.map Def.pv) (D.map tabp) (occ.map intp) (P.map Ex.pv) by_ (sums.map intp) (out.map intp) ord p.op p.occ p.p0 p.p1 (p.l.map Plan.pv) e s
 simp only[Plan.fold,zAj,zBu,zH,zAS,zLI]at h
 show wc W zDQ [catp T,zIo D,zDH occ (P.map Ex.pv) by_ sums out ord,zVS p e s]=_
 rw[h,z2H,h7']
 simp only[zB,c_b_mk,zAJ,zC]
 cases b with
 |false=>rfl
 |true =>
 obtain⟨p8,s20,o20,sz60⟩:=h7b rfl
 simp only[zAJ,zC]at p8 s20 o20 sz60 ⊢
 have hok:∀ e∈P,e.ok/\e.vals:=λ e he=>⟨Ex.ok_of (by have:=sz60 e he;omega),(hq.P.2 e he).2⟩
 have z:QSz ⟨T,D,occ,P⟩ sums out:=⟨hT,hq.occ.1,by simp only;omega,hok,by omega,by omega,hD.1,hD.2⟩
 have hdo:=w_Do z by_ ord p e s
 have hfine:=z49 z by_ ord p e s
 have hall:=z8U ⟨T,D,occ,P⟩ by_ sums out ord hT hq.occ.1 (by simp only;omega) hok (by omega) (by omega) hD.1 hD.2
 simp only at hdo hfine hall
 have hb:∀ x:Option (List Int×List (List Val)),∃ c r,bagR x= .tup [bagp c r,.bool x.isSome]/\∀ y,x=some y->c=y.1/\r=y.2:=λ x=>by
  cases x with
  |none=>exact⟨[],[],rfl,λ y h=>by cases h⟩
  |some y=>exact⟨y.1,y.2,rfl,λ y' h=>by cases h;exact⟨rfl,rfl⟩⟩
 obtain⟨c1,r1,k1,k1'⟩:=hb (doQ ⟨T,D,occ,P⟩ (mayQ T occ P by_ sums out ord) by_ sums out ord p e s)
 obtain⟨c2,r2,k2,_⟩:=hb (allQ ⟨T,D,occ,P⟩ (mayQ T occ P by_ sums out ord) by_ sums out)
 rw[k1]at hdo
 rw[k2]at hall
 simp only[zG5,Plan.fold,zAj,zBu,zH,zAS,zLI,hdo,hall,hfine,zB,asTup_mk,zAO,zAg,zFa,c_b_mk]
 cases hf:zVT T occ P (mayQ T occ P by_ sums out ord) by_ ord p e s with
 |false =>
  have hn:doQ ⟨T,D,occ,P⟩ (mayQ T occ P by_ sums out ord) by_ sums out ord p e s=none:=by
   unfold doQ
   rw[hf];rfl
  rw[hn]
  simp only[Option.isSome_none,zC,zC2]
  rfl
 |true =>
  simp only[zA]
  cases h2:fits T D with
  |false =>
   have hn:doQ ⟨T,D,occ,P⟩ (mayQ T occ P by_ sums out ord) by_ sums out ord p e s=none:=by
    unfold doQ
    simp only[h2,Bool.and_false,zC]
   have hn2:allQ ⟨T,D,occ,P⟩ (mayQ T occ P by_ sums out ord) by_ sums out=none:=by
    unfold allQ
    simp only[h2,Bool.and_false,zC]
   rw[hn,hn2]
   simp only[Option.isSome_none,zC2]
   rfl
  |true =>
   obtain⟨d,x,y,f1,f2,f3,f4,f5,f6,f7⟩:=z3s z hf h2
   simp only at f1 f2
   obtain⟨rfl,rfl⟩:=k1' _ f1
   have hright:=z5t ⟨T,D,occ,P⟩ by_ sums out ord hT hq.occ.1 (by simp only;omega) hok (by omega) (by omega) hD.1 hD.2 c1 r1 (by omega) (by omega) (λ u hu=>⟨(f7 u hu).1,by have:=(f7 u hu).2;omega⟩)
   simp only[f2,z2B]at hright
   have hord:(ord== -1 || ordB (idxI c1 λ z=>ord==z) r1)=true:=by
    rcases f4 with rfl | f4
    ·rfl
    ·rw[f4,Bool.or_true]
   rw[z1e f3.symm,hord]at hright
   rw[f1,f2]
   simp only[Option.isSome_some,zC2,zAj,zBu,zH,zAS,zAM,zAY,hright,zB,c_b_mk]
   rfl
end Go.Cf
