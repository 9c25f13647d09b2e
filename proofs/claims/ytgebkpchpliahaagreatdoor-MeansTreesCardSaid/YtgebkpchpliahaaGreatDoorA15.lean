/- Part 16 of the proof: an abstract machine that runs the program's code over plain values, its soundness, and what the functions tell of plain values. Conditions: those in each theorem. -/
import Derived.Test.YtgebkpchpliahaaGreatDoorA14
set_option linter.unusedSectionVars false
namespace Go.Cf
open Go Go.Ab
set_option linter.unusedVariables false
set_option linter.unusedSimpArgs false
theorem z0p(cols:List Int) (rows:List (List Val)) (hc:cols.length≤4294967296) (hl:rows.length≤4294967295) (hr:∀ r∈rows,r.length≤4294967296) (hv:∀ r∈rows,ROk r):wc W zDf [bagp cols rows, .slice 6 []]=some (bagp cols rows):=by
 have h:=zXW cols rows [] hc hl hr hv (by simp) (by simp)
 have e:rows.filter (zJ3 [] cols)=rows:=List.filter_eq_self.2 λ _ _=>rfl
 rw[e]at h
 exact h
theorem zX7(T:List Def) (D:List (List (List Val))) (t o:Int) (hT:T.length≤9223372036854775807) (hD:DOk D) (hv:∀ t∈D,∀ r∈t,ROk r):wc W zGU [catp T,zG9 D, .int .i64 t, .int .i64 o]=some (ofP (ofT T D t o)):=by
 have h:=zWk (T.map Def.pv) (D.map tabp) t o
 rw[zAR,zA4]at h
 rw[h,zXY T D hT hD]
 simp only[Option.bind_some,c_b_mk,List.length_map]
 unfold ofT
 have z:PV.tup [PV.agg [PV.slice 0 [],PV.slice 0 []],PV.bool false]=ofP none:=rfl
 cases hf:fits T D with
 |false=>rfl
 |true =>
  obtain⟨f1,f2,f3⟩:=zKJ hf
  have hlen:1≤T.length∧T.length≤4:=by
   unfold mayC at f2
   simp only[Bool.and_eq_true,decide_eq_true_eq]at f2
   omega
  rw[zQ (by omega) (by omega),w_in]
  simp only[Bool.not_true,cond_false,Option.bind_some,c_b_mk,Bool.true_and]
  by_cases ht:0≤t∧t≤(T.length:Int)-1
  ·rw[decide_eq_true ht.1,decide_eq_true ht.2]
   simp only[Bool.and_self,Bool.not_true,cond_false,z0d,Option.bind_some,c_i64_mk,Bool.true_and]
   by_cases ho:0≤o∧o≤3
   ·rw[decide_eq_true ho.1,decide_eq_true ho.2]
    have hc:colI o 0=4*o:=by
     unfold colI
     rw[decide_eq_true ho.1,decide_eq_true ho.2]
     simp
    rw[hc,zEV (show 4*o≠ -1 by omega)]
    obtain⟨m,rfl⟩:=Int.eq_ofNat_of_zero_le ht.1
    have hm:m<T.length:=by omega
    have hmD:m<D.length:=by omega
    obtain⟨hc1,hc4⟩:=zIE f2 hm
    obtain⟨r8,rr⟩:=zUD (f3 m hmD) hc4
    obtain⟨n,hn⟩:=Int.eq_ofNat_of_zero_le (show 0≤zEH T m by omega)
    have hcA:T[m].Cols=(n:Int):=by
     have:=hn;unfold zEH at this;rw[List.getElem?_eq_getElem hm]at this;exact this
    simp only[cond_false,zNk,zAM,cond_true,Int.toNat_natCast,List.getElem?_map,List.getElem?_eq_getElem hm,Option.map_some,Option.bind_some,Def.load0,c_i64_mk,hcA,Bool.and_self]
    have hloop:=zXZ o ho (m:Int) (D.map tabp) n (by omega) n 0 [] (by omega) (by simp)
    refine hloop.trans ?_
    rw[zIm]
    simp only[zBz,cond_false,zAM,cond_true,Int.toNat_natCast,List.getElem?_map,List.getElem?_eq_getElem hmD,Option.map_some,Option.bind_some,zNN,List.nil_append,zA,zR,zAA]
    rw[z0p (zCx o 0 n) D[m] (by simp[zCx];omega) (by omega) (λ r hr=>by have:=(rr r hr).2.1;omega) (λ r hr=>hv _ (List.getElem_mem hmD) r hr)]
    simp only[hn,Int.toNat_natCast,List.getD_eq_getElem?_getD,List.getElem?_eq_getElem hmD,Option.getD_some]
    rfl
   ·have hb:(decide (0≤o)&&decide (o≤3))=false:=by rw[← Bool.decide_and];exact decide_eq_false ho
    have hc:colI o 0= -1:=by unfold colI;rw[hb];rfl
    rw[hc,hb];rfl
  ·have hb:(decide (0≤t)&&decide (t≤(T.length:Int)-1))=false:=by rw[← Bool.decide_and];exact decide_eq_false ht
   rw[hb];rfl
structure QT where
 (T:List Def) (D:List (List (List Val))) (occ:List Int) (P:List Ex)
def QT.leaf(q:QT) (o:Nat):List (List Val):=q.D.getD (q.occ.getD o 0).toNat []
def zB2(q:QT):Nat→Tree→List Int×List (List Val)
 | 0,_=>([],[])
 |_+1, .mk o []=>(zA2 q.T q.occ o.toNat,(q.leaf o.toNat).filter (zJ3 (exQ q.P (zN5 q.P (zAB (2 ^ o.toNat)))) (zA2 q.T q.occ o.toNat)))
 |d+1, .mk _ [x,y]=>((zB2 q d x).1++(zB2 q d y).1,(zBi (zB2 q d x).2 (zB2 q d y).2).filter (zJ3 (exQ q.P (newQ q.P ((setO d x).getD 0) ((setO d y).getD 0))) ((zB2 q d x).1++(zB2 q d y).1)))
 |_+1, .mk _ [_]=>([],[])
 |_+1, .mk _ (_::_::_::_)=>([],[])
theorem zN6:∀(d:Nat) (t:Tree) (m:Nat),setO d t=some m→setO (d+1) t=some m
 | 0,t,m,h=>by simp[setO]at h
 |d+1, .mk o l,m,h=>by
  rcases zFc h with⟨rfl,h1,h2,rfl⟩ | ⟨a,b,x,y,rfl,rfl,hx,hy,h4,rfl⟩
  ·simp[setO,h1,h2]
  ·simp only[setO,zN6 d a x hx,zN6 d b y hy,Option.bind_some,decide_eq_true h4,decide_true,cond_true]
theorem zPi{d:Nat} {t:Tree} {m:Nat} (h:setO d t=some m):∀ k,setO (d+k) t=some m
 | 0=>h
 |k+1=>zN6 _ _ _ (zPi h k)
def cntS(m:Nat):Nat:=((List.range 4).filter λ i=>m.testBit i).length
theorem z0q:∀ x:Nat,x<16→∀ y:Nat,y<16→x &&& y=0→cntS (x ||| y)=cntS x+cntS y:=by decide +kernel
theorem z0r:∀ x:Nat,x<16→cntS x≤4:=by decide +kernel
theorem zUJ:∀ o:Nat,o<4→cntS (2 ^ o)=1:=by decide +kernel
theorem zZo:∀ x:Nat,x<16→∀ y:Nat,y<16→∀ i:Nat,i<4→(x ||| y).testBit i=(x.testBit i || y.testBit i):=by decide +kernel
theorem zSy:∀ x:Nat,x<16→∀ y:Nat,y<16→x &&& y=0→∀ i:Nat,i<4→¬ (x.testBit i=true∧y.testBit i=true):=by decide +kernel
theorem z0s:∀ o:Nat,o<4→(2 ^ o).testBit o=true:=by decide
structure RT (q:QT) (m:Nat) (b:List Int×List (List Val)):Prop where
 cols:∀ c∈b.1,0≤c∧c≤15∧m.testBit (c / 4).toNat=true
 nodup:b.1.Nodup
 rows:∀ r∈b.2,r.length=b.1.length∧r.all mayV=true∧ROk r
 len:b.2.length≤8 ^ cntS m
theorem RT.may{q:QT} {m:Nat} {b:List Int×List (List Val)} (h:RT q m b) (hm:m<16):mayB b.1 b.2=true:=by
 have h8:8 ^ cntS m≤8 ^ 4:=Nat.pow_le_pow_right (by omega) (z0r m hm)
 unfold mayB
 simp only[Bool.and_eq_true,decide_eq_true_eq,List.all_eq_true]
 refine⟨⟨(zHx _).2 ⟨λ c hc=>⟨(h.cols c hc).1,(h.cols c hc).2.1⟩,h.nodup⟩,λ r hr=> ?_⟩,by have:=h.len;omega⟩
 unfold rowB
 simp only[Bool.and_eq_true,decide_eq_true_eq]
 exact⟨(h.rows r hr).1,(h.rows r hr).2.1⟩
theorem RT.join{q:QT} {x y:Nat} {a b:List Int×List (List Val)} (ha:RT q x a) (hb:RT q y b) (hx:x<16) (hy:y<16) (hxy:x &&& y=0) (f:List Val→Bool):RT q (x ||| y) (a.1++b.1,(zBi a.2 b.2).filter f) where
 cols:=λ c hc=>by
  rcases List.mem_append.1 hc with hc | hc
  ·obtain⟨h1,h2,h3⟩:=ha.cols c hc
   exact⟨h1,h2,by rw[zZo _ hx _ hy _ (by omega),h3];rfl⟩
  ·obtain⟨h1,h2,h3⟩:=hb.cols c hc
   exact⟨h1,h2,by rw[zZo _ hx _ hy _ (by omega),h3,Bool.or_true]⟩
 nodup:=List.nodup_append.2 ⟨ha.nodup,hb.nodup,λ c hc d hd e=>by
  subst e
  obtain⟨h1,h2,h3⟩:=ha.cols c hc
  exact zSy _ hx _ hy hxy _ (by omega) ⟨h3,(hb.cols c hd).2.2⟩⟩
 rows:=λ r hr=>by
  have hr2:=(List.mem_filter.1 hr).1
  unfold zBi at hr2
  obtain⟨u,hu,hr3⟩:=List.mem_flatMap.1 hr2
  obtain⟨v,hv,rfl⟩:=List.mem_map.1 hr3
  obtain⟨a1,a2,a3⟩:=ha.rows u hu
  obtain⟨b1,b2,b3⟩:=hb.rows v hv
  refine⟨by simp[a1,b1],by rw[List.all_append,a2,b2];rfl,λ z hz=> ?_⟩
  rcases List.mem_append.1 hz with h | h
  ·exact a3 z h
  ·exact b3 z h
 len:=by
  have h1:=List.length_filter_le f (zBi a.2 b.2)
  rw[zIC]at h1
  rw[z0q _ hx _ hy hxy,Nat.pow_add]
  exact Nat.le_trans h1 (Nat.mul_le_mul ha.len hb.len)
theorem RT.leaf{q:QT} (hf:fits q.T q.D=true) (hv:∀ t∈q.D,∀ r∈t,ROk r) {o:Nat} (ho:o<4) (ht:0≤q.occ.getD o 0∧q.occ.getD o 0<(q.T.length:Int)) (f:List Val→Bool):RT q (2 ^ o) (zA2 q.T q.occ o,(q.leaf o).filter f):=by
 obtain⟨f1,f2,f3⟩:=zKJ hf
 obtain⟨m,hm⟩:=Int.eq_ofNat_of_zero_le ht.1
 have hmT:m<q.T.length:=by omega
 have hmD:m<q.D.length:=by omega
 obtain⟨hc1,hc4⟩:=zIE f2 hmT
 obtain⟨r8,rr⟩:=zUD (f3 m hmD) hc4
 obtain⟨n,hn⟩:=Int.eq_ofNat_of_zero_le (show 0≤zEH q.T m by omega)
 have el:q.leaf o=q.D[m]:=by unfold QT.leaf;rw[hm,Int.toNat_natCast,List.getD_eq_getElem?_getD,List.getElem?_eq_getElem hmD];rfl
 have ec:zA2 q.T q.occ o=zCx (o:Int) 0 n:=by unfold zA2;rw[hm,Int.toNat_natCast,hn,Int.toNat_natCast]
 rw[el,ec]
 refine⟨λ c hc=> ?_,?_,λ r hr=> ?_,?_⟩
 ·unfold zCx at hc
  obtain⟨i,hi,rfl⟩:=List.mem_map.1 hc
  have:=List.mem_range'_1.1 hi
  refine⟨by omega,by omega,?_⟩
  rw[show((4*(o:Int)+(i:Int)) / 4).toNat=o by omega]
  exact z0s o ho
 ·unfold zCx
  exact List.pairwise_map.2 ((List.nodup_range' (s:=0) (n:=n)).imp λ{a b} h e=>h (by omega))
 ·have hr2:=(List.mem_filter.1 hr).1
  obtain⟨h1,h2,h3⟩:=rr r hr2
  exact⟨by rw[zKx];omega,h3,hv _ (List.getElem_mem hmD) r hr2⟩
 ·have h1:=List.length_filter_le f q.D[m]
  show(q.D[m].filter f).length≤_
  rw[zUJ o ho,Nat.pow_one]
  omega
theorem zI8{q:QT} (hf:fits q.T q.D=true) (hv:∀ t∈q.D,∀ r∈t,ROk r) (hocc:q.occ.length≤4) (hin:∀ t∈q.occ,0≤t∧t<(q.T.length:Int)):∀(d:Nat) (t:Tree) (m:Nat),setO d t=some m→m<2 ^ q.occ.length→RT q m (zB2 q d t)
 | 0,t,m,h,_=>by simp[setO]at h
 |d+1, .mk o l,m,h,hm=>by
  rcases zFc h with⟨rfl,h1,h2,rfl⟩ | ⟨a,b,x,y,rfl,rfl,hx,hy,h4,rfl⟩
  ·obtain⟨n,rfl⟩:=Int.eq_ofNat_of_zero_le h1
   simp only[zB2,Int.toNat_natCast]at hm ⊢
   have hno:n<q.occ.length:=(Nat.pow_lt_pow_iff_right (by omega)).1 hm
   have hg:q.occ.getD n 0=q.occ[n]:=by rw[List.getD_eq_getElem?_getD,List.getElem?_eq_getElem hno];rfl
   exact RT.leaf hf hv (by omega) (by rw[hg];exact hin _ (List.getElem_mem hno)) _
  ·have hle1:x≤x ||| y:=Nat.left_le_or
   have hle2:y≤x ||| y:=Nat.right_le_or
   exact RT.join (zI8 hf hv hocc hin d a x hx (by omega)) (zI8 hf hv hocc hin d b y hy (by omega)) (zDU _ _ _ hx) (zDU _ _ _ hy) h4 _
def zNq(q:QT) (Q:PV):Ob:= .var false 0 (.fnv zJ [] [.pv (.imm 2 (catp q.T) 0), .pv (.imm 2 (zG9 q.D) 0), .pv (.imm 7 Q 0), .own 0 0])
theorem zI9(q:QT) (Q:PV):Ob.var false 0 (.fnv zJ [] [.pv (.imm 2 (catp q.T) 0), .pv (.imm 2 (zG9 q.D) 0), .pv (.imm 7 Q 0), .own 0 0])=zNq q Q:=rfl
theorem zSz(q:QT) (by_:Int) (sums out:List Int) (ord:Int) (z:PV) {R:Type} (K:PV→List PV→List PV→List PV→List PV→Int→List PV→List PV→Int→Option R) :
 zI1 (.pv z,[zNq q (zCA q.occ (q.P.map Ex.pv) by_ sums out ord)]) K=K z (q.T.map Def.pv) (q.D.map tabp) (q.occ.map intp) (q.P.map Ex.pv) by_ (sums.map intp) (out.map intp) ord:=rfl
theorem zO8(c:List Int) (r:List (List Val)):wc W zCR [bagp c r, .bool true]=some (bagp c r):=by
 have h:=zQs (c.map intp) (r.map rowp) true
 rw[zA,zR,zAA]at h
 exact h
structure QOk (q:QT):Prop where
 fits:fits q.T q.D=true
 vals:∀ t∈q.D,∀ r∈t,ROk r
 occ:q.occ.length≤4
 inT:∀ t∈q.occ,0≤t∧t<(q.T.length:Int)
 T:q.T.length≤9223372036854775807
 D:DOk q.D
 P:q.P.length≤1000000
 ok:∀ e∈q.P,e.ok∧e.vals
theorem z0t{P:List Ex} {idx:List Nat} {e:Ex} (h:e∈exQ P idx):e∈P:=by
 unfold exQ at h
 obtain⟨i,_,hi⟩:=List.mem_filterMap.1 h
 exact List.mem_of_getElem? hi
theorem z0u(P:List Ex) (idx:List Nat):(exQ P idx).length≤idx.length:=List.length_filterMap_le _ _
theorem zN7(P:List Ex) (f:Nat→Bool):(zN5 P f).length≤P.length:=by
 have:=List.length_filter_le (λ j=>(P[j]?).any λ e=>f (setE e)) (List.range' 0 P.length)
 rw[List.length_range']at this
 exact this
theorem zX8{q:QT} (hq:QOk q) (idx:List Nat) (hi:idx.length≤1000000) {m:Nat} {b:List Int×List (List Val)} (c:List Int) (r:List (List Val)) (hc:c.length≤16) (hr:r.length≤5000) (hl:∀ x∈r,x.length≤16∧ROk x) :
 wc W zDf [bagp c r,exsp (exQ q.P idx)]=some (bagp c (r.filter (zJ3 (exQ q.P idx) c))):=by
 have:=z0u q.P idx
 exact zXW c r _ (by omega) (by omega) (λ x hx=>by have:=(hl x hx).1;omega) (λ x hx=>(hl x hx).2) (by omega) (λ e he=>hq.ok e (z0t he))
@[simp] theorem zZp(l:List Ex) {R:Type} (f:List PV→Option R):c_s6 (exsp l) f=f (l.map Ex.pv):=rfl
theorem zTA{q:QT} (hq:QOk q) (by_:Int) (sums out:List Int) (ord:Int):∀(d:Nat) (t:Tree) (m:Nat),d≤4→setO d t=some m→m<2 ^ q.occ.length →
 W zJ false [.pv t.pv, .pv (.imm 2 (catp q.T) 0), .pv (.imm 2 (zG9 q.D) 0), .pv (.imm 7 (zCA q.occ (q.P.map Ex.pv) by_ sums out ord) 0), .own 0 0] [zNq q (zCA q.occ (q.P.map Ex.pv) by_ sums out ord)] =
  some (.pv (bagp (zB2 q d t).1 (zB2 q d t).2),[zNq q (zCA q.occ (q.P.map Ex.pv) by_ sums out ord)])
 | 0,t,m,_,h,_=>by simp[setO]at h
 |d+1, .mk o l,m,hd,h,hm=>by
  have hok:∀ e∈q.P,e.ok:=λ e he=>(hq.ok e he).1
  have hset:=zPi h (4-(d+1))
  rw[show d+1+(4-(d+1))=4 by omega]at hset
  have hws:=zX6 (.mk o l)
  rw[hset,Option.getD_some]at hws
  have hme:=zI8 hq.fits hq.vals hq.occ hq.inT (d+1) (.mk o l) m h hm
  have hmm:=zDU _ _ _ h
  have e:=zJQ o (l.map Tree.pv) (q.T.map Def.pv) (q.D.map tabp) (q.occ.map intp) (q.P.map Ex.pv) by_ (sums.map intp) (out.map intp) ord (q.T.map Def.pv) (q.D.map tabp) (q.occ.map intp) (q.P.map Ex.pv) by_ (sums.map intp) (out.map intp) ord
  rw[← Tree.pv_mk]at e
  simp only[zAR,zA4,zA,zAQ,zI9]at e
  refine e.trans ?_
  rcases zFc h with⟨rfl,h1,h2,rfl⟩ | ⟨a,b,x,y,rfl,rfl,hx,hy,h4,rfl⟩
  ·obtain⟨n,rfl⟩:=Int.eq_ofNat_of_zero_le h1
   simp only[Int.toNat_natCast]at hm hws hmm hme
   have hno:n<q.occ.length:=(Nat.pow_lt_pow_iff_right (by omega)).1 hm
   have hg:q.occ.getD n 0=q.occ[n]:=by rw[List.getD_eq_getElem?_getD,List.getElem?_eq_getElem hno];rfl
   have hin:=hq.inT _ (List.getElem_mem hno)
   have hof:=zX7 q.T q.D q.occ[n] (n:Int) hq.T hq.D hq.vals
   have e1:ofT q.T q.D q.occ[n] (n:Int)=some (zA2 q.T q.occ n,q.leaf n):=by
    unfold ofT
    rw[hq.fits,decide_eq_true hin.1,decide_eq_true (show q.occ[n]≤(q.T.length:Int)-1 by omega),decide_eq_true (show(0:Int)≤n by omega),decide_eq_true (show(n:Int)≤3 by omega)]
    unfold zA2 QT.leaf
    rw[hg];rfl
   rw[e1]at hof
   have hall:=RT.leaf (q:=q) hq.fits hq.vals (o:=n) (by omega) (by rw[hg];exact hin) (λ _=>true)
   rw[List.filter_eq_self.2 (λ _ _=>rfl)]at hall
   have hmay:=hall.may (zV0 n (by omega))
   obtain⟨m1,m2,m3⟩:=zCZ hmay
   have hown:=z33 q.occ q.P by_ sums out ord (2 ^ n) (zV0 n (by omega)) hq.P hok
   have hmo:=zR5 q.occ q.P by_ sums out ord (zN5 q.P (zAB (2 ^ n))) (λ i hi=>zUI hi) (by have:=zN7 q.P (zAB (2 ^ n));have:=hq.P;omega)
   have hk:=zX8 hq (zN5 q.P (zAB (2 ^ n))) (by have:=zN7 q.P (zAB (2 ^ n));have:=hq.P;omega) (m:=0) (b:=([],[])) (zA2 q.T q.occ n) (q.leaf n) m1 m2 (λ x hx=>⟨by rw[(m3 x hx).1];exact m1,(hall.rows x hx).2.2⟩)
   have hz:(((0:Nat):Int)==(0:Int))=true:=rfl
   simp only[List.map_nil,List.length_nil,hz,zZp,zID,beq_self_eq_true,cond_true,zAM,Int.toNat_natCast,List.getElem?_map,List.getElem?_eq_getElem hno,Option.map_some,Option.bind_some,zG6,hof,ofP,asTup_mk,List.getElem?_cons_zero,List.getElem?_cons_succ,zEG,c_b_mk,zA,zR,zAA,zO8,hws,c_i64_mk,hown,zEl,hmo,hk,zB2]
  ·have hle1:x≤x ||| y:=Nat.left_le_or
   have hle2:y≤x ||| y:=Nat.right_le_or
   have hxl:=zDU _ _ _ hx
   have hyl:=zDU _ _ _ hy
   have ih1:=zTA hq by_ sums out ord d a x (by omega) hx (by omega)
   have ih2:=zTA hq by_ sums out ord d b y (by omega) hy (by omega)
   have ra:=zI8 hq.fits hq.vals hq.occ hq.inT d a x hx (by omega)
   have rb:=zI8 hq.fits hq.vals hq.occ hq.inT d b y hy (by omega)
   have hsa:=zX6 a
   have hsb:=zX6 b
   have sa:=zPi hx (4-d)
   have sb:=zPi hy (4-d)
   rw[show d+(4-d)=4 by omega]at sa sb
   rw[sa,Option.getD_some]at hsa
   rw[sb,Option.getD_some]at hsb
   have rj:=ra.join rb hxl hyl h4 (λ _=>true)
   rw[List.filter_eq_self.2 (λ _ _=>rfl)]at rj
   have hmj:=rj.may hmm
   obtain⟨m1,m2,m3⟩:=zCZ hmj
   have hma:=ra.may hxl
   have hmb:=rb.may hyl
   obtain⟨a1,a2,a3⟩:=zCZ hma
   obtain⟨b1,b2,b3⟩:=zCZ hmb
   have hcr:=zXU (zB2 q d a).1 (zB2 q d a).2 (zB2 q d b).1 (zB2 q d b).2 (by omega) (by omega) (by omega) (λ z hz=>by rw[(a3 z hz).1];omega) (λ z hz=>by rw[(b3 z hz).1];omega)
   have e2:zO5 (zB2 q d a).1 (zB2 q d a).2 (zB2 q d b).1 (zB2 q d b).2=some ((zB2 q d a).1++(zB2 q d b).1,zBi (zB2 q d a).2 (zB2 q d b).2):=by
    unfold zO5
    have h5:mayB ((zB2 q d a).1++(zB2 q d b).1) []=true:=by
     unfold mayB at hmj ⊢
     simp only[Bool.and_eq_true]at hmj
     rw[hmj.1.1];rfl
    rw[hma,hmb,h5,decide_eq_true (show(zB2 q d a).2.length*(zB2 q d b).2.length≤5000 by rw[← zIC];exact m2)]
    rfl
   rw[e2]at hcr
   have hnw:=z34 q.occ q.P by_ sums out ord x y hxl hyl hq.P hok
   have hnl:(newQ q.P x y).length≤1000000:=by have:=zN7 q.P (newF x y);have:=hq.P;unfold newQ;omega
   have hmo:=zR5 q.occ q.P by_ sums out ord (newQ q.P x y) (λ i hi=>zUI hi) hnl
   have hk:=zX8 hq (newQ q.P x y) hnl (m:=0) (b:=([],[])) ((zB2 q d a).1++(zB2 q d b).1) (zBi (zB2 q d a).2 (zB2 q d b).2) m1 m2 (λ z hz=>⟨by rw[(m3 z hz).1];exact m1,(rj.rows z hz).2.2⟩)
   have hz:(((0+1+1:Nat):Int)==(0:Int))=false:=rfl
   simp only[List.map_nil,List.map_cons,List.length_cons,List.length_nil,hz,cond_false,List.getElem?_cons_zero,List.getElem?_cons_succ,Option.bind_some,Tree.c_mk,Tree.fold,ih1,zSz,zAR,zA4,zA,zAQ,zI9,zPz,cond_true,zEG,ih2,zR,zAA,hcr,bagR,asTup_mk,c_b_mk,zO8,hsa,hsb,c_i64_mk,hnw,zEl,hmo,zZp,zID,hk,zB2,hx,hy,Option.getD_some]
   have ee:eqOw [zNq q (.agg [zBV q.occ,exsp q.P, .int .i64 by_,zBV sums,zBV out, .int .i64 ord]), .var false 3 (.agg [.nil 0, .nil 0])] [zNq q (zCA q.occ (q.P.map Ex.pv) by_ sums out ord), .var false 3 (.agg [.nil 0, .nil 0])]=true:=zPz _
   simp only[ee,cond_true]
end Go.Cf

namespace Go.Cf
open Go Go.Ab
set_option linter.unusedVariables false
set_option linter.unusedSimpArgs false
theorem z0v{q:QT} (hq:QOk q) (by_:Int) (sums out:List Int) (ord:Int) (t:Tree) (m:Nat) (h:setO 4 t=some m) (hm:m<2 ^ q.occ.length) :
 W zE6 false [.fnv zB9 [] [.own 0 0, .pv (.imm 3 t.pv 0)]] [zNq q (zCA q.occ (q.P.map Ex.pv) by_ sums out ord)] =
  some (.pv (.tup [bagp (zB2 q 4 t).1 (zB2 q 4 t).2, .bool true]),[zNq q (zCA q.occ (q.P.map Ex.pv) by_ sums out ord)]):=by
 have e:=zJR t.occ (t.l.map Tree.pv) (q.T.map Def.pv) (q.D.map tabp) (q.occ.map intp) (q.P.map Ex.pv) by_ (sums.map intp) (out.map intp) ord
 have h1:=zTA hq by_ sums out ord 4 t m (by omega) h hm
 simp only[Tree.fold,zAR,zA4,zA,zAQ,zI9]at e
 rw[h1]at e
 simp only[Option.bind_some,zSz,zEG,zAR,zA4,zA,zR,zAA]at e
 have e2:W zB9 false [.own 0 0, .pv (.imm 3 t.pv 0)] [zNq q (zCA q.occ (q.P.map Ex.pv) by_ sums out ord)]=some (.pv (bagp (zB2 q 4 t).1 (zB2 q 4 t).2),[zNq q (zCA q.occ (q.P.map Ex.pv) by_ sums out ord)]):=e
 rw[zLU]
 unfold zUl
 have hg:[zCX,zB9].contains zB9=true:=by decide
 have hsh:(bagp (zB2 q 4 t).1 (zB2 q 4 t).2).okSh 3=true:=rfl
 simp only[hg,cond_true,List.nil_append,e2,Option.bind_some,hsh]
def z0w(q:QT) (may:Bool) (t:Tree):Option (List Int×List (List Val)) :=
 match setO 4 t with
 |none=>none
 |some m=>bif may&&fits q.T q.D&&decide (m<2 ^ q.occ.length)then some (zB2 q 4 t)else none
theorem z36:∀ m:Nat,m<16→∀ n:Nat,n<5→decide (Int.fdiv (m:Int) (HPow.hPow (2:Int) (Min.min (Int.toNat (n:Int)) 64))>0)= !decide (m<2 ^ n):=by decide +kernel
theorem z3D(q:QT) (by_:Int) (sums out:List Int) (ord:Int) (t:Tree) (hT:q.T.length≤9223372036854775807) (hocc:q.occ.length≤9223372036854775807) (hP:q.P.length≤1000000) (hok:∀ e∈q.P,e.ok∧e.vals) (hs:sums.length≤4294967296) (ho:out.length≤4294967296)
 (hD:DOk q.D) (hv:∀ t∈q.D,∀ r∈t,ROk r) :
 wc W zHg [catp q.T,zG9 q.D,zCA q.occ (q.P.map Ex.pv) by_ sums out ord,t.pv]=some (bagR (z0w q (mayQ q.T q.occ q.P by_ sums out ord) t)):=by
 have h:=zQr (q.T.map Def.pv) (q.D.map tabp) (q.occ.map intp) (q.P.map Ex.pv) by_ (sums.map intp) (out.map intp) ord t.occ (t.l.map Tree.pv)
 simp only[Tree.fold,zAR,zA4,zA,zAQ]at h
 refine h.trans ?_
 have e0:PV.tup [PV.agg [PV.slice 0 [],PV.slice 0 []],PV.bool false]=bagR none:=rfl
 rw[zN3 q.T q.occ q.P by_ sums out ord hT hocc (by omega) (λ e he=>(hok e he).1) hs ho,zXY q.T q.D hT hD,z35 t,zX6 t]
 simp only[Option.bind_some,c_b_mk,c_i64_mk,List.length_map]
 unfold z0w
 cases h1:mayQ q.T q.occ q.P by_ sums out ord with
 |false=>cases setO 4 t<;>rfl
 |true =>
 cases h2:fits q.T q.D with
 |false=>cases setO 4 t<;>rfl
 |true =>
 cases h3:setO 4 t with
 |none=>rfl
 |some m =>
  have hm16:=zDU _ _ _ h3
  have hparts:=h1
  unfold mayQ at hparts
  simp only[Bool.and_eq_true,decide_eq_true_eq,List.all_eq_true]at hparts
  have hocc4:q.occ.length≤4:=hparts.1.1.1.1.2
  have hin:∀ t∈q.occ,0≤t∧t<(q.T.length:Int):=hparts.1.1.1.2
  simp only[Bool.not_true,cond_false,Option.isSome_some,Option.getD_some,z36 m hm16 q.occ.length (by omega),Bool.true_and]
  cases h4:decide (m<2 ^ q.occ.length) with
  |false=>rfl
  |true =>
   simp only[Bool.not_true,cond_false,cond_true,zKj]
   have hq:QOk q:=⟨h2,hv,hocc4,hin,hT,hD,hP,hok⟩
   have h5:=z0v hq by_ sums out ord t m h3 (of_decide_eq_true h4)
   simp only[Tree.fold,zAR,zA4,zA,zAQ,zI9,h5,Option.bind_some,zSz,asTup_mk,List.getElem?_cons_zero,List.getElem?_cons_succ,zEG,c_b_mk,zR,zAA]
   rfl
theorem zPj(T:List Def) (occ:List Int) (is:Nat→Bool) (k i:Nat) (c:Int):c∈allL T occ is i k↔∃ o,i≤o∧o<i+k∧is o=true∧zLt T occ o=true∧c∈zA2 T occ o:=by
 unfold allL
 simp only[List.mem_flatMap,List.mem_range'_1]
 constructor
 ·rintro⟨o,⟨h1,h2⟩,h3⟩
  cases hb:is o&&zLt T occ o with
  |false=>rw[hb]at h3;cases h3
  |true =>
   rw[hb]at h3
   simp only[Bool.and_eq_true]at hb
   exact⟨o,h1,h2,hb.1,hb.2,h3⟩
 ·rintro⟨o,h1,h2,h3,h4,h5⟩
  exact⟨o,⟨h1,h2⟩,by rw[h3,h4];exact h5⟩
end Go.Cf

namespace Go.Cf
open Go Go.Ab
set_option linter.unusedVariables false
set_option linter.unusedSimpArgs false
theorem zV1{c d:List Int} {x:Int} (h:inC c x=true):idxI (c++d) (λ y=>x==y)=idxI c (λ y=>x==y):=by
 have h0:c.any (λ y=>x==y)=true:=by
  unfold inC at h
  exact List.any_eq_true.2 ⟨x,of_decide_eq_true h,by simp⟩
 unfold idxI
 rw[List.findIdx?_append]
 cases hf:c.findIdx? (λ y=>x==y) with
 |some i=>rfl
 |none =>
  have:=List.findIdx?_eq_none_iff.1 hf
  obtain⟨y,hy,e⟩:=List.any_eq_true.1 h0
  rw[this y hy]at e;cases e
theorem zHD{c d:List Int} {r s:List Val} {x:Int} (h:inC c x=true) (hl:r.length=c.length):zDT (c++d) (r++s) x=zDT c r x:=by
 have h1:=(zFI h hl)
 have h3:=zTh c x
 have h4:decide (idxI c (λ y=>x==y)<0)=false:=by rw[zJY,h];rfl
 have hlt:(idxI c (λ y=>x==y)).toNat<r.length:=by omega
 unfold zDT
 rw[zV1 h,h4,decide_eq_false (show ¬ idxI c (λ y=>x==y)≥(r.length:Int) by omega),decide_eq_false (show ¬ idxI c (λ y=>x==y)≥((r++s).length:Int) by rw[List.length_append];omega)]
 simp only[cond_false,List.getD_eq_getElem?_getD,List.getElem?_append_left hlt]
theorem zTB{c d:List Int} {x:Int} (h:inC c x=false) (hd:inC d x=true):idxI (c++d) (λ y=>x==y)=(c.length:Int)+idxI d (λ y=>x==y):=by
 unfold idxI
 rw[List.findIdx?_append]
 have h1:c.findIdx? (λ y=>x==y)=none:=by
  rw[List.findIdx?_eq_none_iff]
  intro y hy
  unfold inC at h
  have:=of_decide_eq_false h
  simp only[beq_eq_false_iff_ne]
  intro e;subst e;exact this hy
 rw[h1]
 have h2:decide (idxI d (λ y=>x==y)<0)=false:=by rw[zJY,hd];rfl
 have h3:=of_decide_eq_false h2
 unfold idxI at h3
 cases hf:d.findIdx? (λ y=>x==y) with
 |none=>rw[hf]at h3;simp only at h3;omega
 |some i=>simp only[Option.none_or,Option.map_some];omega
theorem zEg{c d:List Int} {r s:List Val} {x:Int} (h:inC c x=false) (hd:inC d x=true) (hl:r.length=c.length) (hs:s.length=d.length):zDT (c++d) (r++s) x=zDT d s x:=by
 have hin:inC (c++d) x=true:=by
  unfold inC at hd ⊢
  exact decide_eq_true (List.mem_append_right _ (of_decide_eq_true hd))
 obtain⟨h1,h2⟩:=zFI (row:=r++s) hin (by simp[hl,hs])
 obtain⟨h3,h4⟩:=zFI (row:=s) hd hs
 rw[zTB h hd]at h1
 have e:((c.length:Int)+idxI d (λ y=>x==y)).toNat=r.length+(idxI d (λ y=>x==y)).toNat:=by omega
 rw[e,List.getElem?_append_right (by omega),Nat.add_sub_cancel_left,h3]at h1
 exact(Option.some.inj h1).symm
theorem z3E:∀ s:Nat,s<16→∀ o:Nat,o<4→∀ i:Nat,i<4→(s ||| 2 ^ o).testBit i=(s.testBit i || decide (i=o)):=by decide +kernel
theorem zUK:∀(l:List Int) (s:Nat) (i:Nat),s<16→i<4→(s.testBit i=true∨∃ c∈l,occI c=i)→(setC s l).testBit i=true
 | [],s,i,hs,hi,h=>by
  rcases h with h | ⟨c,hc,_⟩
  ·exact h
  ·cases hc
 |c::r,s,i,hs,hi,h=>by
  have h4:=zKy c
  refine zUK r _ i (zZG _ hs _ (zV0 _ h4)) hi ?_
  rw[z3E _ hs _ h4 _ hi]
  rcases h with h | ⟨c',hc,e⟩
  ·exact .inl (by rw[h];rfl)
  ·rcases List.mem_cons.1 hc with rfl | hc
   ·exact .inl (by rw[decide_eq_true e.symm,Bool.or_true])
   ·exact .inr ⟨c',hc,e⟩
theorem zZI:∀ m:Nat,m<16→∀ s:Nat,s<16→m &&& s=s→∀ o:Nat,o<4→s.testBit o=true→m.testBit o=true:=by decide +kernel
def zO9(q:QT) (e:Ex):Prop:=∀ c∈zG8 e,c∈zA2 q.T q.occ (occI c)
theorem zN8{T:List Def} (hT:mayC T=true) {occ:List Int} {o:Nat} (ho:o<4) (ht:zLt T occ o=true) {c:Int} (h:c∈zA2 T occ o):occI c=o∧4*(o:Int)≤c∧c<4*(o:Int)+4:=by
 unfold zLt at ht
 simp only[Bool.and_eq_true,decide_eq_true_eq]at ht
 have hc:=zIE hT (i:=(occ.getD o 0).toNat) (by omega)
 unfold zA2 zCx at h
 obtain⟨i,hi,rfl⟩:=List.mem_map.1 h
 have:=List.mem_range'_1.1 hi
 refine⟨?_,by omega,by omega⟩
 unfold occI
 rw[decide_eq_true (by omega),decide_eq_true (by omega)]
 simp only[Bool.and_self,cond_true]
 omega
theorem zZq:∀ m:Nat,m<16→∀ n:Nat,n<5→m<2 ^ n→∀ o:Nat,o<4→m.testBit o=true→o<n:=by decide +kernel
theorem zUL{q:QT} (hq:QOk q) {o:Nat} (ho:o<q.occ.length):zLt q.T q.occ o=true:=by
 have:=hq.inT _ (List.getElem_mem ho)
 unfold zLt
 rw[List.getD_eq_getElem?_getD,List.getElem?_eq_getElem ho,Option.getD_some,decide_eq_true this.1,decide_eq_true this.2];rfl
theorem zOa{q:QT} (hq:QOk q) {by_:Int} {sums out:List Int} {ord:Int} (h:mayQ q.T q.occ q.P by_ sums out ord=true):∀ e∈q.P,zO9 q e:=by
 intro e he c hc
 have hT:mayC q.T=true:=(zKJ hq.fits).2.1
 unfold mayQ at h
 simp only[Bool.and_eq_true,decide_eq_true_eq,List.all_eq_true]at h
 have h1:=h.1.2 e he
 unfold zSv zEm at h1
 simp only[Bool.and_eq_true,List.all_eq_true]at h1
 have h2:=of_decide_eq_true (h1.2 c hc)
 obtain⟨o,k1,k2,k3,k4,k5⟩:=(zPj _ _ _ _ _ c).1 h2
 have:=(zN8 hT (by omega) k4 k5).1
 rw[this];exact k5
end Go.Cf

namespace Go.Cf
open Go Go.Ab
set_option linter.unusedVariables false
set_option linter.unusedSimpArgs false
theorem zV2(c:List Int):mayB c []=zSj c:=by simp[mayB]
theorem zX9{r s:List (List Val)} {z:List Val} (h:z∈zBi r s):∃ x∈r,∃ y∈s,z=x++y:=by
 unfold zBi at h
 obtain⟨x,hx,h⟩:=List.mem_flatMap.1 h
 obtain⟨y,hy,rfl⟩:=List.mem_map.1 h
 exact⟨x,hx,y,hy,rfl⟩
theorem zTC(r s t:List (List Val)):zBi (zBi r s) t=zBi r (zBi s t):=by
 unfold zBi
 rw[List.flatMap_assoc]
 congr 1;funext x
 rw[List.map_flatMap,List.flatMap_map]
 congr 1;funext y
 rw[List.map_map]
 congr 1;funext z
 simp
theorem zKK{α β:Type} {f g:α→List β}:∀{l:List α},(∀ x∈l,f x=g x)→l.flatMap f=l.flatMap g
 | [],_=>rfl
 |a::l,h=>by rw[List.flatMap_cons,List.flatMap_cons,h a (by simp),zKK (λ x hx=>h x (by simp[hx]))]
end Go.Cf

namespace Go.Cf
open Go Go.Ab
set_option linter.unusedVariables false
set_option linter.unusedSimpArgs false
def zDV:Nat→Tree→List Nat
 | 0,_=>[]
 |_+1, .mk o []=>[o.toNat]
 |d+1, .mk _ [x,y]=>zDV d x++zDV d y
 |_+1, .mk _ [_]=>[]
 |_+1, .mk _ (_::_::_::_)=>[]
theorem zZJ:∀ n:Nat,n<4→∀ o:Nat,((2 ^ n).testBit o=true↔o=n):=λ n hn o=>by
 rw[Nat.testBit_two_pow]
 simp only[decide_eq_true_eq]
 omega
theorem zDc:∀(d:Nat) (t:Tree) (m:Nat),setO d t=some m→∀ o,o∈zDV d t↔m.testBit o=true
 | 0,t,m,h,o=>by simp[setO]at h
 |d+1, .mk z l,m,h,o=>by
  rcases zFc h with⟨rfl,h1,h2,rfl⟩ | ⟨a,b,x,y,rfl,rfl,hx,hy,h4,rfl⟩
  ·simp only[zDV,List.mem_singleton,zZJ z.toNat (by omega) o]
  ·simp only[zDV,List.mem_append,zDc d a x hx o,zDc d b y hy o,Nat.testBit_or,Bool.or_eq_true]
theorem zXa:∀ m:Nat,m<16→∀ o:Nat,m.testBit o=true→o<4:=λ m hm o h=>by
 have:=Nat.testBit_lt_two_pow (x:=m) (i:=o)
 apply Classical.byContradiction
 intro hn
 have h16:2 ^ 4≤2 ^ o:=Nat.pow_le_pow_right (by omega) (by omega)
 rw[Nat.testBit_lt_two_pow (show m<2 ^ o by omega)]at h
 cases h
theorem zHE:∀(d:Nat) (t:Tree) (m:Nat),setO d t=some m→(zDV d t).Nodup
 | 0,t,m,h=>by simp[setO]at h
 |d+1, .mk z l,m,h=>by
  rcases zFc h with⟨rfl,h1,h2,rfl⟩ | ⟨a,b,x,y,rfl,rfl,hx,hy,h4,rfl⟩
  ·simp[zDV]
  ·simp only[zDV]
   refine List.nodup_append.2 ⟨zHE d a x hx,zHE d b y hy,λ o h1 o' h2 e=> ?_⟩
   subst e
   have b1:=(zDc d a x hx o).1 h1
   have b2:=(zDc d b y hy o).1 h2
   exact zSy _ (zDU _ _ _ hx) _ (zDU _ _ _ hy) h4 o (zXa x (zDU _ _ _ hx) o b1) ⟨b1,b2⟩
def zK(q:QT) (l:List Nat):List Int:=l.flatMap λ o=>zA2 q.T q.occ o
def zAt(q:QT):List Nat→List (List Val)
 | []=>[[]]
 |o::l=>zBi (q.leaf o) (zAt q l)
theorem zN9(r:List (List Val)):zBi r [[]]=r:=by
 unfold zBi
 induction r with
 |nil=>rfl
 |cons x r ih=>rw[List.flatMap_cons,ih];simp
theorem zOb(r:List (List Val)):zBi [[]] r=r:=by
 unfold zBi
 simp
theorem zIF(q:QT):∀ l l' :List Nat,zAt q (l++l')=zBi (zAt q l) (zAt q l')
 | [],l' =>by rw[List.nil_append,zAt,zOb]
 |o::l,l' =>by rw[List.cons_append,zAt,zIF q l l',zAt,zTC]
theorem zL0(q:QT) (l l' :List Nat):zK q (l++l')=zK q l++zK q l' :=by simp[zK]
theorem zIG{q:QT} (hq:QOk q) {o:Nat} (ho:o<q.occ.length):(∀ r∈q.leaf o,r.length=(zA2 q.T q.occ o).length∧r.all mayV=true∧ROk r)∧(q.leaf o).length≤8:=by
 have h4:o<4:=by have:=hq.occ;omega
 have hg:q.occ.getD o 0=q.occ[o]:=by rw[List.getD_eq_getElem?_getD,List.getElem?_eq_getElem ho];rfl
 have h:=RT.leaf (q:=q) hq.fits hq.vals (o:=o) h4 (by rw[hg];exact hq.inT _ (List.getElem_mem ho)) (λ _=>true)
 rw[List.filter_eq_self.2 (λ _ _=>rfl)]at h
 refine⟨h.rows,?_⟩
 have:=h.len
 rw[zUJ o h4]at this
 exact this
theorem zC7{q:QT} (hq:QOk q):∀{l:List Nat},(∀ o∈l,o<q.occ.length)→∀ r∈zAt q l,r.length=(zK q l).length∧r.all mayV=true∧ROk r
 | [],_,r,hr=>by
  simp only[zAt,List.mem_singleton]at hr
  subst hr
  exact⟨rfl,rfl,λ v hv=>by cases hv⟩
 |o::l,hl,r,hr=>by
  simp only[zAt]at hr
  obtain⟨x,hx,y,hy,rfl⟩:=zX9 hr
  obtain⟨a1,a2,a3⟩:=(zIG hq (hl o (by simp))).1 x hx
  obtain⟨b1,b2,b3⟩:=zC7 hq (λ o ho=>hl o (by simp[ho])) y hy
  refine⟨by simp only[zK,List.flatMap_cons,List.length_append]at b1 ⊢;omega,by rw[List.all_append,a2,b2];rfl,λ v hv=> ?_⟩
  rcases List.mem_append.1 hv with h | h
  ·exact a3 v h
  ·exact b3 v h
theorem zR6{q:QT} (hq:QOk q):∀{l:List Nat},(∀ o∈l,o<q.occ.length)→(zAt q l).length≤8 ^ l.length
 | [],_=>by simp[zAt]
 |o::l,hl=>by
  have h1:=(zIG hq (hl o (by simp))).2
  have h2:=zR6 hq (l:=l) (λ o ho=>hl o (by simp[ho]))
  simp only[zAt,zIC,List.length_cons]
  rw[Nat.pow_succ,Nat.mul_comm]
  exact Nat.mul_le_mul h2 h1
def zH0(q:QT) (f:Nat→Bool) (c:List Int) (r:List Val):Bool:=zJ3 (exQ q.P (zN5 q.P f)) c r
theorem zTD{P:List Ex} {f:Nat→Bool} {e:Ex}:e∈exQ P (zN5 P f)↔e∈P∧f (setE e)=true:=by
 unfold exQ zN5
 rw[List.mem_filterMap]
 constructor
 ·rintro⟨i,hi,h⟩
  have h2:=(List.mem_filter.1 hi).2
  rw[h]at h2
  exact⟨List.mem_of_getElem? h,by simpa using h2⟩
 ·rintro⟨h1,h2⟩
  obtain⟨i,hi,rfl⟩:=List.mem_iff_getElem.1 h1
  refine⟨i,List.mem_filter.2 ⟨List.mem_range'_1.2 ⟨by omega,by omega⟩,?_⟩,List.getElem?_eq_getElem hi⟩
  rw[List.getElem?_eq_getElem hi]
  simpa using h2
theorem zFd{q:QT} {f:Nat→Bool} {c:List Int} {r:List Val}:zH0 q f c r=true↔∀ e∈q.P,f (setE e)=true→zKv e c r=true:=by
 unfold zH0 zJ3
 rw[List.all_eq_true]
 exact⟨λ h e he hf=>h e (zTD.2 ⟨he,hf⟩),λ h e he=>h e (zTD.1 he).1 (zTD.1 he).2⟩
theorem zZK{s:Nat} (hs:s<16) {e:Ex} (hw:zAB s (setE e)=true) {c:Int} (hc:c∈zG8 e):s.testBit (occI c)=true :=
 zZI s hs (setE e) (zSx e) (of_decide_eq_true hw) _ (zKy c) (zUK _ 0 _ (by omega) (zKy c) (.inr ⟨c,hc,rfl⟩))
theorem zTE{q:QT} (hc:∀ e∈q.P,zO9 q e) {l:List Nat} {m:Nat} (hm:m<16) (hl:∀ o,m.testBit o=true→o∈l) {e:Ex} (he:e∈q.P) (hw:zAB m (setE e)=true):∀ c∈zG8 e,c∈zK q l:=λ c hcc =>
 List.mem_flatMap.2 ⟨occI c,hl _ (zZK hm hw hcc),hc e he c hcc⟩
theorem zIH{q:QT} (hq:QOk q) {l:List Nat} (hl:∀ o∈l,o<q.occ.length) {c:Int} (h:c∈zK q l):occI c∈l∧0≤c∧c≤15:=by
 obtain⟨o,ho,hc⟩:=List.mem_flatMap.1 h
 have hT:mayC q.T=true:=(zKJ hq.fits).2.1
 have h4:o<4:=by have:=hq.occ;have:=hl o ho;omega
 obtain⟨h1,h2,h3⟩:=zN8 hT h4 (zUL hq (hl o ho)) hc
 rw[h1]
 exact⟨ho,by omega,by omega⟩
theorem zFe{q:QT} (hq:QOk q):∀{l:List Nat},(∀ o∈l,o<q.occ.length)→l.Nodup→(zK q l).Nodup
 | [],_,_=>by simp[zK]
 |o::l,hl,hn=>by
  have hn2:=List.nodup_cons.1 hn
  show(zA2 q.T q.occ o++zK q l).Nodup
  refine List.nodup_append.2 ⟨?_,zFe hq (λ o ho=>hl o (by simp[ho])) hn2.2,λ c hc c' hc' e=> ?_⟩
  ·unfold zA2 zCx
   exact List.pairwise_map.2 ((List.nodup_range' (s:=0) (n:=_)).imp λ{a b} h e=>h (by omega))
  ·subst e
   have h1:c∈zK q [o]:=by simpa [zK]using hc
   have h2:=(zIH hq (l:=[o]) (λ z hz=>by rw[List.mem_singleton]at hz;subst hz;exact hl z (by simp)) h1).1
   rw[List.mem_singleton]at h2
   have h3:=(zIH hq (λ o ho=>hl o (by simp[ho])) hc').1
   rw[h2]at h3
   exact hn2.1 h3
theorem zR7{x y s:Nat} (h:zAB x s=true∨zAB y s=true):zAB (x ||| y) s=true:=by
 unfold zAB at h ⊢
 simp only[decide_eq_true_eq]at h ⊢
 rw[Nat.and_or_distrib_right]
 rcases h with h | h
 ·rw[h]
  apply Nat.eq_of_testBit_eq
  intro i
  rw[Nat.testBit_or,Nat.testBit_and]
  cases s.testBit i<;>simp
 ·rw[h]
  apply Nat.eq_of_testBit_eq
  intro i
  rw[Nat.testBit_or,Nat.testBit_and]
  cases s.testBit i<;>simp
theorem zZL{q:QT} (hq:QOk q) (hc:∀ e∈q.P,zO9 q e) {l l' :List Nat} {x y:Nat} (hx:x<16) (hy:y<16) (hxy:x &&& y=0) (hl:∀ o,o∈l↔x.testBit o=true) (hl' :∀ o,o∈l' ↔y.testBit o=true)
 (hlo:∀ o∈l,o<q.occ.length) (hlo' :∀ o∈l',o<q.occ.length) {u v:List Val} (hu:u.length=(zK q l).length) (hv:v.length=(zK q l').length) :
 zH0 q (zAB (x ||| y)) (zK q l++zK q l') (u++v)=(zH0 q (zAB x) (zK q l) u&&zH0 q (zAB y) (zK q l') v&&zH0 q (newF x y) (zK q l++zK q l') (u++v)):=by
 have left:∀ e∈q.P,zAB x (setE e)=true→zKv e (zK q l++zK q l') (u++v)=zKv e (zK q l) u:=λ e he hw =>
  zJ2 λ c hcc=>zHD (decide_eq_true (zTE hc hx (λ o=>(hl o).2) he hw c hcc)) hu
 have right:∀ e∈q.P,zAB y (setE e)=true→zKv e (zK q l++zK q l') (u++v)=zKv e (zK q l') v:=λ e he hw =>
  zJ2 λ c hcc=>by
   have h1:=zTE hc hy (λ o=>(hl' o).2) he hw c hcc
   refine zEg (decide_eq_false λ h2=> ?_) (decide_eq_true h1) hu hv
   have b1:=(hl _).1 (zIH hq hlo h2).1
   have b2:=(hl' _).1 (zIH hq hlo' h1).1
   exact zSy _ hx _ hy hxy _ (zKy c) ⟨b1,b2⟩
 rw[Bool.eq_iff_iff,Bool.and_eq_true,Bool.and_eq_true,zFd,zFd,zFd,zFd]
 constructor
 ·intro h
  refine⟨⟨λ e he hw=> ?_,λ e he hw=> ?_⟩,λ e he hw=> ?_⟩
  ·rw[← left e he hw];exact h e he (zR7 (.inl hw))
  ·rw[← right e he hw];exact h e he (zR7 (.inr hw))
  ·unfold newF at hw
   simp only[Bool.and_eq_true]at hw
   exact h e he hw.1.1
 ·rintro⟨⟨h1,h2⟩,h3⟩ e he hw
  cases hwx:zAB x (setE e) with
  |true=>rw[left e he hwx];exact h1 e he hwx
  |false =>
   cases hwy:zAB y (setE e) with
   |true=>rw[right e he hwy];exact h2 e he hwy
   |false =>
    refine h3 e he ?_
    unfold newF
    rw[hw,hwx,hwy];rfl
theorem zNa{f g h k:List Val→Bool}:∀{r s:List (List Val)},(∀ u∈r,∀ v∈s,k (u++v)=(f u&&g v&&h (u++v)))→(zBi (r.filter f) (s.filter g)).filter h=(zBi r s).filter k
 | [],s,_=>rfl
 |a::r,s,H=>by
  have ih:=zNa (r:=r) (s:=s) λ u hu v hv=>H u (by simp[hu]) v hv
  have e:∀(r s:List (List Val)),zBi (a::r) s=(s.map λ y=>a++y)++zBi r s:=λ _ _=>rfl
  rw[e,List.filter_append,←ih,List.filter_cons]
  cases hf:f a with
  |true =>
   rw[if_pos rfl,e,List.filter_append]
   congr 1
   rw[List.filter_map,List.filter_map,List.filter_filter]
   congr 1
   refine List.filter_congr λ v hv=> ?_
   have:=H a (by simp) v hv
   simp only[Function.comp_apply]
   rw[this,hf,Bool.true_and,Bool.and_comm]
  |false =>
   rw[if_neg (by simp)]
   have:(s.map λ y=>a++y).filter k=[]:=by
    rw[List.filter_eq_nil_iff]
    intro z hz
    obtain⟨v,hv,rfl⟩:=List.mem_map.1 hz
    rw[H a (by simp) v hv,hf];simp
   rw[this,List.nil_append]
theorem zKz{q:QT} (hq:QOk q) (hc:∀ e∈q.P,zO9 q e):∀(d:Nat) (t:Tree) (m:Nat),setO d t=some m→m<2 ^ q.occ.length→zB2 q d t=(zK q (zDV d t),(zAt q (zDV d t)).filter (zH0 q (zAB m) (zK q (zDV d t))))
 | 0,t,m,h,_=>by simp[setO]at h
 |d+1, .mk o l,m,h,hm=>by
  rcases zFc h with⟨rfl,h1,h2,rfl⟩ | ⟨a,b,x,y,rfl,rfl,hx,hy,h4,rfl⟩
  ·simp only[zB2,zDV,zK,zAt,zN9,List.flatMap_cons,List.flatMap_nil,List.append_nil]
   rfl
  ·have hle1:x≤x ||| y:=Nat.left_le_or
   have hle2:y≤x ||| y:=Nat.right_le_or
   have hxl:=zDU _ _ _ hx
   have hyl:=zDU _ _ _ hy
   have hocc:=hq.occ
   have ia:=zKz hq hc d a x hx (by omega)
   have ib:=zKz hq hc d b y hy (by omega)
   have la:=zDc d a x hx
   have lb:=zDc d b y hy
   have oa:∀ o∈zDV d a,o<q.occ.length:=λ o ho=>zZq x hxl q.occ.length (by omega) (by omega) o (zXa x hxl o ((la o).1 ho)) ((la o).1 ho)
   have ob:∀ o∈zDV d b,o<q.occ.length:=λ o ho=>zZq y hyl q.occ.length (by omega) (by omega) o (zXa y hyl o ((lb o).1 ho)) ((lb o).1 ho)
   simp only[zB2,zDV,ia,ib,hx,hy,Option.getD_some,zL0,zIF]
   congr 1
   exact zNa λ u hu v hv=>zZL hq hc hxl hyl h4 la lb oa ob (zC7 hq oa u hu).1 (zC7 hq ob v hv).1
theorem zXb{α β:Type} {f g:α→List β}:∀{l:List α},(∀ x∈l,(f x).Perm (g x))→(l.flatMap f).Perm (l.flatMap g)
 | [],_=>List.Perm.refl _
 |a::l,h=>by
  rw[List.flatMap_cons,List.flatMap_cons]
  exact(h a (by simp)).append (zXb λ x hx=>h x (by simp[hx]))
theorem zR8{α β:Type} (f g:α→List β):∀ l:List α,(l.flatMap λ x=>f x++g x).Perm (l.flatMap f++l.flatMap g)
 | []=>List.Perm.refl _
 |a::l=>by
  simp only[List.flatMap_cons,List.append_assoc]
  refine List.Perm.append_left _ ?_
  refine(List.Perm.append_left _ (zR8 f g l)).trans ?_
  rw[← List.append_assoc,←List.append_assoc]
  exact List.Perm.append_right _ List.perm_append_comm
theorem zXc{α β γ :Type} (f:α→β→List γ):∀(r:List α) (s:List β),(r.flatMap λ x=>s.flatMap λ y=>f x y).Perm (s.flatMap λ y=>r.flatMap λ x=>f x y)
 | [],s=>by
  have:(s.flatMap λ y=>([]:List α).flatMap λ x=>f x y)=[]:=by induction s with | nil=>rfl | cons a s ih=>rw[List.flatMap_cons,ih];rfl
  rw[this];exact List.Perm.refl _
 |a::r,s=>by
  rw[List.flatMap_cons]
  refine(List.Perm.append_left _ (zXc f r s)).trans ?_
  have:=(zR8 (λ y=>f a y) (λ y=>r.flatMap λ x=>f x y) s).symm
  simpa only[List.flatMap_cons]using this
theorem zOc{c c' c'' :List Int} {r:List Val} (h:∀ x∈c'',x∈c'):zBF c' c'' (zBF c c' r)=zBF c c'' r:=by
 unfold zBF
 refine List.map_congr_left λ x hx=> ?_
 exact zKD (decide_eq_true (h x hx))
theorem zZM{c d cols cols' :List Int} {u v:List Val} (hu:u.length=c.length) (hv:v.length=d.length) (h1:∀ x∈cols,x∈c) (h2:∀ x∈cols',x∈d∧x∉c):zBF (c++d) (cols++cols') (u++v)=zBF c cols u++zBF d cols' v:=by
 unfold zBF
 rw[List.map_append]
 congr 1
 ·exact List.map_congr_left λ x hx=>zHD (decide_eq_true (h1 x hx)) hu
 ·exact List.map_congr_left λ x hx=>zEg (decide_eq_false (h2 x hx).2) (decide_eq_true (h2 x hx).1) hu hv
theorem zKL(F:List Val→List Val) (r s:List (List Val)):(zBi r s).map F=r.flatMap λ u=>s.map λ v=>F (u++v):=by
 unfold zBi
 rw[List.map_flatMap]
 refine zKK λ u _=> ?_
 rw[List.map_map];rfl
theorem zKM(q:QT) {l l' :List Nat} (h:l.Perm l') (c:Int):c∈zK q l↔c∈zK q l' :=by
 unfold zK
 simp only[List.mem_flatMap,h.mem_iff]
theorem zV3{q:QT} (hq:QOk q) {l l' :List Nat} (h:l.Perm l'):(∀ o∈l,o<q.occ.length)→l.Nodup→((zAt q l).map (zBF (zK q l) (zK q l'))).Perm (zAt q l'):=by
 have pa:∀{o:Nat} {l:List Nat},(∀ z∈o::l,z<q.occ.length)→(o::l).Nodup→∀ x∈zK q l,x∉zA2 q.T q.occ o:=λ{o l} hl hn x hx hx2=>by
  have:=zFe hq hl hn
  have h3:(zA2 q.T q.occ o++zK q l).Nodup:=this
  exact(List.nodup_append.1 h3).2.2 x hx2 x hx rfl
 induction h with
 |nil=>intro _ _;simp[zAt,zK,zBF]
 | @cons o l l' h ih =>
  intro hl hn
  have hl2:∀ z∈l,z<q.occ.length:=λ z hz=>hl z (by simp[hz])
  have hn2:=(List.nodup_cons.1 hn).2
  have ih:=ih hl2 hn2
  show((zBi (q.leaf o) (zAt q l)).map (zBF (zA2 q.T q.occ o++zK q l) (zA2 q.T q.occ o++zK q l'))).Perm (zBi (q.leaf o) (zAt q l'))
  rw[zKL]
  show List.Perm _ ((q.leaf o).flatMap λ u=>(zAt q l').map λ v=>u++v)
  refine zXb λ u hu=> ?_
  have lu:=((zIG hq (hl o (by simp))).1 u hu).1
  have hcn:(zA2 q.T q.occ o).Nodup:=by
   have h3:(zA2 q.T q.occ o++zK q l).Nodup:=zFe hq hl hn
   exact(List.nodup_append.1 h3).1
  have e:((zAt q l).map λ v=>zBF (zA2 q.T q.occ o++zK q l) (zA2 q.T q.occ o++zK q l') (u++v))=((zAt q l).map (zBF (zK q l) (zK q l'))).map λ v=>u++v:=by
   rw[List.map_map]
   refine List.map_congr_left λ v hv=> ?_
   have lv:=(zC7 hq hl2 v hv).1
   rw[zZM lu lv (λ x hx=>hx) (λ x hx=>⟨(zKM q h x).2 hx,pa hl hn x ((zKM q h x).2 hx)⟩),zKE hcn lu]
   rfl
  rw[e]
  exact ih.map _
 |swap o o' l =>
  intro hl hn
  have hlo:o<q.occ.length:=hl o (by simp)
  have hlo' :o' <q.occ.length:=hl o' (by simp)
  have hl2:∀ z∈l,z<q.occ.length:=λ z hz=>hl z (by simp[hz])
  have h1:=List.nodup_cons.1 hn
  have h2:=List.nodup_cons.1 h1.2
  have hl3:∀ z∈o::l,z<q.occ.length:=λ z hz=>hl z (by simp only[List.mem_cons]at hz ⊢;exact .inr hz)
  have hl4:∀ z∈o' ::l,z<q.occ.length:=λ z hz=>hl z (by simp only[List.mem_cons]at hz ⊢;rcases hz with h | h;exact .inl h;exact .inr (.inr h))
  have hn4:(o' ::l).Nodup:=List.nodup_cons.2 ⟨λ h=>h1.1 (by simp[h]),h2.2⟩
  have nall:(zA2 q.T q.occ o' ++(zA2 q.T q.occ o++zK q l)).Nodup:=zFe hq hl hn
  have nl:(zA2 q.T q.occ o++zK q l).Nodup:=(List.nodup_append.1 nall).2.1
  show((zBi (q.leaf o') (zBi (q.leaf o) (zAt q l))).map (zBF (zA2 q.T q.occ o' ++(zA2 q.T q.occ o++zK q l)) (zA2 q.T q.occ o++(zA2 q.T q.occ o' ++zK q l)))).Perm (zBi (q.leaf o) (zBi (q.leaf o') (zAt q l)))
  have e:(zBi (q.leaf o') (zBi (q.leaf o) (zAt q l))).map (zBF (zA2 q.T q.occ o' ++(zA2 q.T q.occ o++zK q l)) (zA2 q.T q.occ o++(zA2 q.T q.occ o' ++zK q l))) =
   (q.leaf o').flatMap λ u=>(q.leaf o).flatMap λ v=>(zAt q l).map λ w=>v++(u++w):=by
   rw[zKL]
   refine zKK λ u hu=> ?_
   have lu:=((zIG hq hlo').1 u hu).1
   have e2:((zBi (q.leaf o) (zAt q l)).map λ z=>zBF (zA2 q.T q.occ o' ++(zA2 q.T q.occ o++zK q l)) (zA2 q.T q.occ o++(zA2 q.T q.occ o' ++zK q l)) (u++z))=(q.leaf o).flatMap λ v=>(zAt q l).map λ w=>zBF (zA2 q.T q.occ o' ++(zA2 q.T q.occ o++zK q l)) (zA2 q.T q.occ o++(zA2 q.T q.occ o' ++zK q l)) (u++(v++w)):=zKL (λ z=>zBF _ _ (u++z)) _ _
   rw[e2]
   refine zKK λ v hv=>List.map_congr_left λ w hw=> ?_
   have lv:=((zIG hq hlo).1 v hv).1
   have lw:=(zC7 hq hl2 w hw).1
   have lvw:(v++w).length=(zA2 q.T q.occ o++zK q l).length:=by rw[List.length_append,List.length_append,lv,lw]
   have dj:=(List.nodup_append.1 nall).2.2
   unfold zBF
   rw[List.map_append,List.map_append]
   have k1:(zA2 q.T q.occ o).map (zDT (zA2 q.T q.occ o' ++(zA2 q.T q.occ o++zK q l)) (u++(v++w)))=v:=by
    have:(zA2 q.T q.occ o).map (zDT (zA2 q.T q.occ o' ++(zA2 q.T q.occ o++zK q l)) (u++(v++w)))=zBF (zA2 q.T q.occ o) (zA2 q.T q.occ o) v:=by
     unfold zBF
     refine List.map_congr_left λ x hx=> ?_
     rw[zEg (decide_eq_false λ h=>dj x h x (by simp[hx]) rfl) (decide_eq_true (by simp[hx])) lu lvw,zHD (decide_eq_true hx) lv]
    rw[this,zKE (List.nodup_append.1 nl).1 lv]
   have k2:(zA2 q.T q.occ o').map (zDT (zA2 q.T q.occ o' ++(zA2 q.T q.occ o++zK q l)) (u++(v++w)))=u:=by
    have:(zA2 q.T q.occ o').map (zDT (zA2 q.T q.occ o' ++(zA2 q.T q.occ o++zK q l)) (u++(v++w)))=zBF (zA2 q.T q.occ o') (zA2 q.T q.occ o') u:=by
     unfold zBF
     exact List.map_congr_left λ x hx=>zHD (decide_eq_true hx) lu
    rw[this,zKE (List.nodup_append.1 nall).1 lu]
   have k3:(zK q l).map (zDT (zA2 q.T q.occ o' ++(zA2 q.T q.occ o++zK q l)) (u++(v++w)))=w:=by
    have:(zK q l).map (zDT (zA2 q.T q.occ o' ++(zA2 q.T q.occ o++zK q l)) (u++(v++w)))=zBF (zK q l) (zK q l) w:=by
     unfold zBF
     refine List.map_congr_left λ x hx=> ?_
     rw[zEg (decide_eq_false λ h=>dj x h x (by simp[hx]) rfl) (decide_eq_true (by simp[hx])) lu lvw,zEg (decide_eq_false λ h=>(List.nodup_append.1 nl).2.2 x h x hx rfl) (decide_eq_true hx) lv lw]
    rw[this,zKE (List.nodup_append.1 nl).2.1 lw]
   rw[k1,k2,k3]
  have e3:zBi (q.leaf o) (zBi (q.leaf o') (zAt q l))=(q.leaf o).flatMap λ v=>(q.leaf o').flatMap λ u=>(zAt q l).map λ w=>v++(u++w):=by
   show((q.leaf o).flatMap λ v=>(zBi (q.leaf o') (zAt q l)).map λ z=>v++z)=_
   refine zKK λ v _=> ?_
   exact zKL (λ z=>v++z) _ _
  rw[e,e3]
  exact zXc (λ u v=>(zAt q l).map λ w=>v++(u++w)) _ _
 | @trans l1 l2 l3 h1 h2 ih1 ih2 =>
  intro hl hn
  have i1:=ih1 hl hn
  have i2:=ih2 (λ o ho=>hl o (h1.mem_iff.2 ho)) (h1.nodup_iff.1 hn)
  have e:(zAt q l1).map (zBF (zK q l1) (zK q l3))=((zAt q l1).map (zBF (zK q l1) (zK q l2))).map (zBF (zK q l2) (zK q l3)):=by
   rw[List.map_map]
   refine List.map_congr_left λ r hr=> ?_
   exact(zOc λ x hx=>(zKM q h2 x).2 hx).symm
  rw[e]
  exact(i1.map _).trans i2
theorem zV4{q:QT} (hc:∀ e∈q.P,zO9 q e) {l l' :List Nat} {m:Nat} (hm:m<16) (hl:∀ o,m.testBit o=true→o∈l') (r:List Val):zH0 q (zAB m) (zK q l') (zBF (zK q l) (zK q l') r)=zH0 q (zAB m) (zK q l) r:=by
 have k:∀ e∈q.P,zAB m (setE e)=true→zKv e (zK q l') (zBF (zK q l) (zK q l') r)=zKv e (zK q l) r:=λ e he hw =>
  zJ2 λ c hcc=>zKD (decide_eq_true (zTE hc hm hl he hw c hcc))
 rw[Bool.eq_iff_iff,zFd,zFd]
 exact⟨λ h e he hw=>(k e he hw)▸h e he hw,λ h e he hw=>(k e he hw).symm▸h e he hw⟩
theorem zXd{q:QT} (hq:QOk q) (hc:∀ e∈q.P,zO9 q e) {l l' :List Nat} (h:l.Perm l') (hl:∀ o∈l,o<q.occ.length) (hn:l.Nodup) {m:Nat} (hm:m<16) (hml:∀ o,m.testBit o=true→o∈l') :
 (((zAt q l).filter (zH0 q (zAB m) (zK q l))).map (zBF (zK q l) (zK q l'))).Perm ((zAt q l').filter (zH0 q (zAB m) (zK q l'))):=by
 have e:((zAt q l).filter (zH0 q (zAB m) (zK q l))).map (zBF (zK q l) (zK q l'))=((zAt q l).map (zBF (zK q l) (zK q l'))).filter (zH0 q (zAB m) (zK q l')):=by
  rw[List.filter_map]
  congr 1
  refine List.filter_congr λ r hr=> ?_
  exact(zV4 hc hm hml r).symm
 rw[e]
 exact(zV3 hq h hl hn).filter _
theorem zGa{q:QT} (hq:QOk q) {l:List Nat} (hl:∀ o∈l,o<q.occ.length) (hn:l.Nodup) (f:List Val→Bool):mayB (zK q l) ((zAt q l).filter f)=true:=by
 have hlen:l.length≤q.occ.length:=by
  have:=List.Nodup.length_le_of_subset hn (l₂ :=List.range q.occ.length) (λ o ho=>List.mem_range.2 (hl o ho))
  simpa using this
 have h8:8 ^ l.length≤8 ^ 4:=Nat.pow_le_pow_right (by omega) (by have:=hq.occ;omega)
 have h1:=zR6 hq hl
 have h2:=List.length_filter_le f (zAt q l)
 unfold mayB
 simp only[Bool.and_eq_true,decide_eq_true_eq,List.all_eq_true]
 refine⟨⟨(zHx _).2 ⟨λ c hc=>(zIH hq hl hc).2,zFe hq hl hn⟩,λ r hr=> ?_⟩,by omega⟩
 have:=zC7 hq hl r (List.mem_filter.1 hr).1
 unfold rowB
 simp only[Bool.and_eq_true,decide_eq_true_eq]
 exact⟨this.1,this.2.1⟩
end Go.Cf

namespace Go.Cf
open Go Go.Ab
set_option linter.unusedVariables false
set_option linter.unusedSimpArgs false
theorem zPk{c c' :List Int} {by_:Int} (hb:inC c by_=true) (hb' :inC c' by_=true) {x:List Val} (hx:x.length=c.length):keyR (idxI c' λ y=>by_==y) (zBF c c' x)=keyR (idxI c λ y=>by_==y) x:=by
 obtain⟨h1,h2⟩:=zFI (row:=x) hb hx
 obtain⟨h3,h4⟩:=zFI (row:=zBF c c' x) hb' (by simp[zBF])
 rw[zKD hb']at h3
 unfold keyR
 rw[h1,h3,decide_eq_false (by omega),decide_eq_false (by omega)]
theorem zV5{c c' :List Int} {r:List (List Val)} {by_:Int} {sums:List Int} (hb:inC c by_=true) (hb' :inC c' by_=true) (hs:∀ s∈sums,inC c' s=true) (hr:∀ x∈r,x.length=c.length) :
 zKt c' (r.map (zBF c c')) by_ sums=zKt c r by_ sums:=by
 have hk:zA6 (zFb (idxI c' λ y=>by_==y) (r.map (zBF c c')))=zA6 (zFb (idxI c λ y=>by_==y) r):=by
  have hp:(zFb (idxI c' λ y=>by_==y) (r.map (zBF c c'))).Perm (zFb (idxI c λ y=>by_==y) r):=(List.perm_ext_iff_of_nodup (zHB _ _) (zHB _ _)).2 λ k=>by
   rw[zIA,zIA]
   constructor
   ·rintro⟨x,hx,e⟩
    obtain⟨z,hz,rfl⟩:=List.mem_map.1 hx
    exact⟨z,hz,by rw[e,zPk hb hb' (hr z hz)]⟩
   ·rintro⟨z,hz,e⟩
    exact⟨_,List.mem_map.2 ⟨z,hz,rfl⟩,by rw[e,zPk hb hb' (hr z hz)]⟩
  exact zIR ((zBP _).trans (hp.trans (zBP _).symm)) (zCH _) (zCH _)
 unfold zKt
 rw[hk]
 refine List.map_congr_left λ k _=> ?_
 have hf:(r.map (zBF c c')).filter (hasK (idxI c' λ y=>by_==y) k)=(r.filter (hasK (idxI c λ y=>by_==y) k)).map (zBF c c'):=by
  rw[List.filter_map]
  congr 1
  refine List.filter_congr λ x hx=> ?_
  simp only[Function.comp_apply,hasK,zPk hb hb' (hr x hx)]
 rw[hf]
 unfold rowG
 rw[List.length_map]
 refine congrArg _ (congrArg _ (List.map_congr_left λ s hs' => ?_))
 unfold colG
 rw[List.map_map]
 refine congrArg _ (List.map_congr_left λ x hx=> ?_)
 simp only[Function.comp_apply,zKD (hs s hs')]
theorem zOd{c c' :List Int} (h:∀ x,x∈c↔x∈c'):inC c=inC c' :=by
 funext x
 unfold inC
 exact decide_eq_decide.2 (h x)
theorem zXe{c c' :List Int} {r:List (List Val)} (h:∀ x,x∈c↔x∈c') (hm:mayB c r=mayB c' (r.map (zBF c c'))) (hr:∀ x∈r,x.length=c.length) (by_:Int) (sums out:List Int) :
 finB by_ sums out c' (r.map (zBF c c'))=finB by_ sums out c r:=by
 unfold finB
 cases by_ != -1 with
 |true =>
  simp only[cond_true]
  unfold zIB
  rw[← hm,zOd h]
  cases hb:mayB c r&&inC c' by_&&decide (sums.length≤4)&&sums.all (inC c') with
  |false=>rfl
  |true =>
   simp only[Bool.and_eq_true,decide_eq_true_eq,List.all_eq_true]at hb
   simp only[cond_true]
   rw[zV5 (by rw[zOd h];exact hb.1.1.2) hb.1.1.2 hb.2 hr]
 |false =>
  simp only[cond_false]
  unfold zRU
  rw[← hm,zOd h]
  cases hb:mayB c r&&mayB out []&&out.all (inC c') with
  |false=>rfl
  |true =>
   simp only[Bool.and_eq_true,List.all_eq_true]at hb
   simp only[cond_true,List.map_map]
   refine congrArg some (congrArg _ (List.map_congr_left λ x hx=> ?_))
   simp only[Function.comp_apply]
   exact zOc λ y hy=>of_decide_eq_true (hb.2 y hy)
theorem zXf{l:List Int} (hs:l.Pairwise (· ≤ ·)) (hk:∀ j,j<l.length→Lib.keeps l.toArray j=true):l.Nodup:=by
 rw[List.nodup_iff_pairwise_ne,List.pairwise_iff_getElem]
 have step:∀ j,(h:j+1<l.length)→l[j]<l[j+1]:=λ j h=>by
  have h1:=hk (j+1) h
  unfold Lib.keeps at h1
  have h2:=of_decide_eq_true h1
  have hj:j<l.length:=by omega
  have e1:l.toArray[j+1]! =l[j+1]:=by simp[getElem!_pos,h]
  have e2:l.toArray[j+1-1]! =l[j]:=by simp[getElem!_pos,hj]
  rw[e1,e2]at h2
  have h3:=List.pairwise_iff_getElem.1 hs j (j+1) (by omega) h (by omega)
  rcases h2 with h2 | h2
  ·omega
  ·omega
 have lt:∀ k i,(h:i+k+1<l.length)→l[i]<l[i+k+1]:=λ k=>by
  induction k with
  |zero=>intro i h;exact step i h
  |succ k ih =>
   intro i h
   have h1:=ih i (by omega)
   have h2:=step (i+k+1) (by omega)
   have e:i+(k+1)+1=i+k+1+1:=by omega
   simp only[e]
   omega
 intro i j hi hj hij
 have:=lt (j-i-1) i (by omega)
 have e:i+(j-i-1)+1=j:=by omega
 simp only[e]at this
 omega
theorem zV6{l:List Int} (h:zX0 l=true):l.Nodup:=by
 unfold zX0 at h
 have h1:=of_decide_eq_true h
 unfold Lib.compact Lib.compactUpTo at h1
 rw[List.length_map]at h1
 have h2:(List.range (zEs l).length).filter (Lib.keeps (zEs l).toArray)=List.range (zEs l).length:=by
  refine List.filter_eq_self.2 ?_
  rw[← List.length_filter_eq_length_iff,h1,List.length_range,zGT]
 have h3:=List.filter_eq_self.1 h2
 have h4:=zXf (zHe l) λ j hj=>h3 j (List.mem_range.2 hj)
 exact(zGS l).nodup_iff.1 h4
theorem zXg{q:QT} (hq:QOk q) {by_:Int} {sums out:List Int} {ord:Int} (h:mayQ q.T q.occ q.P by_ sums out ord=true):∀ e∈q.P,∀ c∈zG8 e,occI c<q.occ.length:=by
 intro e he c hc
 have hT:mayC q.T=true:=(zKJ hq.fits).2.1
 unfold mayQ at h
 simp only[Bool.and_eq_true,decide_eq_true_eq,List.all_eq_true]at h
 have h1:=h.1.2 e he
 unfold zSv zEm at h1
 simp only[Bool.and_eq_true,List.all_eq_true]at h1
 have h2:=of_decide_eq_true (h1.2 c hc)
 obtain⟨o,k1,k2,k3,k4,k5⟩:=(zPj _ _ _ _ _ c).1 h2
 have:=(zN8 hT (by omega) k4 k5).1
 omega
theorem zR9:∀(l:List Int) (s i:Nat),(setC s l).testBit i=true→s.testBit i=true∨∃ c∈l,occI c=i
 | [],s,i,h=> .inl h
 |c::r,s,i,h=>by
  rcases zR9 r _ i h with h | ⟨c',hc,e⟩
  ·rw[Nat.testBit_or,Bool.or_eq_true]at h
   rcases h with h | h
   ·exact .inl h
   ·rw[Nat.testBit_two_pow,decide_eq_true_eq]at h
    exact .inr ⟨c,by simp,h⟩
  ·exact .inr ⟨c',by simp[hc],e⟩
theorem zV7{q:QT} (h:∀ e∈q.P,∀ c∈zG8 e,occI c<q.occ.length):∀ e∈q.P,zAB (2 ^ q.occ.length-1) (setE e)=true:=by
 intro e he
 unfold zAB
 refine decide_eq_true (Nat.eq_of_testBit_eq λ i=> ?_)
 rw[Nat.testBit_and,Nat.testBit_two_pow_sub_one]
 cases hb:(setE e).testBit i with
 |false=>simp
 |true =>
  rcases zR9 _ 0 i hb with h0 | ⟨c,hc,rfl⟩
  ·simp at h0
  ·rw[decide_eq_true (h e he c hc)];rfl
theorem zXh{q:QT} (hq:QOk q) (c:Int):c∈zJ4 q.T q.occ↔c∈zK q (List.range q.occ.length):=by
 have hocc:=hq.occ
 unfold zJ4 zK
 rw[zPj,List.mem_flatMap]
 constructor
 ·rintro⟨o,h1,h2,h3,h4,h5⟩
  exact⟨o,List.mem_range.2 (by omega),h5⟩
 ·rintro⟨o,h1,h2⟩
  have:=List.mem_range.1 h1
  exact⟨o,by omega,by omega,rfl,zUL hq this,h2⟩
theorem zRa{q:QT} (hq:QOk q) {by_:Int} {sums out:List Int} {ord:Int} (h:mayQ q.T q.occ q.P by_ sums out ord=true) {c:List Int} {r:List (List Val)} (hc:∀ x,x∈c↔x∈zJ4 q.T q.occ) (hm:mayB c r=true) :
 ∃ b,finB by_ sums out c r=some b:=by
 unfold mayQ at h
 simp only[Bool.and_eq_true]at h
 have ht:=h.2
 unfold zX1 at ht
 unfold finB
 by_cases hb:by_= -1
 ·rw[zKq hb]at ht
  rw[zJV hb]
  simp only[cond_true,Bool.and_eq_true,decide_eq_true_eq]at ht
  simp only[cond_false]
  obtain⟨⟨⟨⟨⟨h1,h2⟩,h3⟩,h4⟩,h5⟩,h6⟩:=ht
  unfold zEm at h4
  have hin:out.all (inC c)=true:=by rw[zOd hc];exact h4
  have hcb:=(zHx c).1 (zOY hm).1
  have hmo:mayB out []=true:=by
   rw[zV2]
   refine(zHx out).2 ⟨λ x hx=>hcb.1 x (of_decide_eq_true (List.all_eq_true.1 hin x hx)),zV6 h3⟩
  unfold zRU
  rw[hm,hmo,hin]
  exact⟨_,rfl⟩
 ·rw[zEV hb]at ht
  rw[zHv hb]
  simp only[cond_false,Bool.and_eq_true,decide_eq_true_eq]at ht
  simp only[cond_true]
  obtain⟨⟨⟨⟨h1,h2⟩,h3⟩,h4⟩,h5⟩:=ht
  unfold zEm at h1 h3
  have hb1:inC c by_=true:=by rw[zOd hc];exact List.all_eq_true.1 h1 by_ (by simp)
  have hs:sums.all (inC c)=true:=by rw[zOd hc];exact h3
  unfold zIB
  rw[hm,hb1,decide_eq_true h2,hs]
  exact⟨_,rfl⟩
def allB(q:QT):List Int×List (List Val):=(zK q (List.range q.occ.length),(zAt q (List.range q.occ.length)).filter (zJ3 q.P (zK q (List.range q.occ.length))))
theorem zV8{q:QT} (h:∀ e∈q.P,∀ c∈zG8 e,occI c<q.occ.length) (c:List Int) (r:List Val):zH0 q (zAB (2 ^ q.occ.length-1)) c r=zJ3 q.P c r:=by
 rw[Bool.eq_iff_iff,zFd]
 unfold zJ3
 rw[List.all_eq_true]
 exact⟨λ k e he=>k e he (zV7 h e he),λ k e he _=>k e he⟩
theorem zZN{q:QT} (hq:QOk q) {by_:Int} {sums out:List Int} {ord:Int} (h:mayQ q.T q.occ q.P by_ sums out ord=true) {l:List Nat} (hl:∀ o,o∈l↔o<q.occ.length) (hn:l.Nodup) {r:List (List Val)} (hr:r.Perm ((zAt q l).filter (zH0 q (zAB (2 ^ q.occ.length-1)) (zK q l)))) :
 ∃ d x y,finB by_ sums out (zK q l) r=some (d,x)∧finB by_ sums out (allB q).1 (allB q).2=some (d,y)∧x.Perm y:=by
 have hc:=zOa hq h
 have hlt:=zXg hq h
 have hlo:∀ o∈l,o<q.occ.length:=λ o ho=>(hl o).1 ho
 have hlr:∀ o∈List.range q.occ.length,o<q.occ.length:=λ o ho=>List.mem_range.1 ho
 have hp:l.Perm (List.range q.occ.length):=(List.perm_ext_iff_of_nodup hn List.nodup_range).2 λ o=>by rw[hl,List.mem_range]
 have h16:2 ^ q.occ.length-1<16:=by
  have:=hq.occ
  have:2 ^ q.occ.length≤2 ^ 4:=Nat.pow_le_pow_right (by omega) this
  omega
 have hf:=zXd hq hc hp hlo hn h16 (λ o ho=>by
  rw[Nat.testBit_two_pow_sub_one,decide_eq_true_eq]at ho
  exact List.mem_range.2 ho)
 have hk:(zAt q (List.range q.occ.length)).filter (zH0 q (zAB (2 ^ q.occ.length-1)) (zK q (List.range q.occ.length)))=(allB q).2:=List.filter_congr λ r _=>zV8 hlt _ r
 rw[hk]at hf
 have m1:=zGa hq hlo hn (zH0 q (zAB (2 ^ q.occ.length-1)) (zK q l))
 have m2:mayB (allB q).1 (allB q).2=true:=zGa hq hlr List.nodup_range _
 have hmem:∀ x,x∈zK q l↔x∈zK q (List.range q.occ.length):=λ x=>zKM q hp x
 have hrow:∀ x∈(zAt q l).filter (zH0 q (zAB (2 ^ q.occ.length-1)) (zK q l)),x.length=(zK q l).length:=λ x hx=>(zC7 hq hlo x (List.mem_filter.1 hx).1).1
 have e1:=zXe hmem (by rw[m1,zNZ hf];exact m2.symm) hrow by_ sums out
 obtain⟨b,hb⟩:=zRa hq h (c:=(allB q).1) (r:=(allB q).2) (λ x=>(zXh hq x).symm) m2
 rcases zN4 (by_:=by_) (sums:=sums) (out:=out) (c:=zK q l) hr with⟨n1,n2⟩ | ⟨d,x,y,k1,k2,k3⟩
 ·rcases zN4 (by_:=by_) (sums:=sums) (out:=out) (c:=zK q (List.range q.occ.length)) hf with⟨n3,n4⟩ | ⟨d,x,y,k1,k2,k3⟩
  ·exact absurd (n4.symm.trans hb) (by simp)
  ·rw[e1,n2]at k1;cases k1
 ·rcases zN4 (by_:=by_) (sums:=sums) (out:=out) (c:=zK q (List.range q.occ.length)) hf with⟨n3,n4⟩ | ⟨d',x',y',j1,j2,j3⟩
  ·rw[e1,k2]at n3;cases n3
  ·rw[e1,k2]at j1
   simp only[Option.some.injEq,Prod.mk.injEq]at j1
   obtain⟨rfl,rfl⟩:=j1
   exact⟨d,x,y',k1,j2,k3.trans j3⟩
end Go.Cf

namespace Go.Cf
open Go Go.Ab
set_option linter.unusedVariables false
set_option linter.unusedSimpArgs false
theorem zXi(r s:List Val) (at_:Int):W zC4 false [.pv (rowp r), .pv (rowp s), .own 0 0] [.var false 0 (.pv (.int .i64 at_))]=some (.pv (.int .i64 (cmpB (keyR at_ r) (keyR at_ s))),[.var false 0 (.pv (.int .i64 at_))]):=by
 have h:=zJN (r.map Val.pv) (s.map Val.pv) at_
 rw[zH,zH,zNV,zNV]at h
 have c:=zRK (keyR at_ r) (keyR at_ s)
 simp only[Option.bind_some,c_g_i64_i64_mk,c,c_i64_mk]at h
 exact h
theorem zNb(at_:Int) (l:List (List Val)) (hl:l.length≤1000000000):∀(i:Nat),i<l.length→ordB at_ (l.drop i)=true →
 zAC (l.map rowp) (i:Int) at_=some (.pv (.bool (ordB at_ l)),[.var false 0 (.pv (.int .i64 at_))])
 | 0,h,ho=>by
  rw[zAU]
  rw[List.drop_zero]at ho
  rw[ho];rfl
 |i+1,h,ho=>by
  have hi:i<l.length:=by omega
  have e1:IntKind.wrap .i64 (((i+1:Nat):Int)-1)=(i:Int):=by rw[zQ (by omega) (by omega)];omega
  have hb:=zXi l[i+1] l[i] at_
  rw[zAU,decide_eq_true (show((i+1:Nat):Int)>0 by omega)]
  simp only[e1,cond_true,zAM,Int.toNat_natCast,List.getElem?_map,List.getElem?_eq_getElem h,List.getElem?_eq_getElem hi,Option.map_some,Option.bind_some,zCv,zH,hb,k_5b106d_mk,c_i64_mk]
  have hd:ordB at_ (l.drop i)=(leR at_ l[i] l[i+1]&&ordB at_ (l.drop (i+1))):=by
   rw[List.drop_eq_getElem_cons hi,List.drop_eq_getElem_cons h];rfl
  cases hc:decide (cmpB (keyR at_ l[i+1]) (keyR at_ l[i])<0) with
  |true =>
   have hle:leR at_ l[i] l[i+1]=false:=by unfold leR;rw[hc];rfl
   have hno:ordB at_ l=false:=by
    rw[Bool.eq_false_iff]
    intro ht
    have:=(zMJ at_ l).1 ht
    have:=(zMJ at_ (l.drop i)).2 (this.sublist (List.drop_sublist _ _))
    rw[hd,hle]at this;cases this
   rw[hno];rfl
  |false =>
   have hle:leR at_ l[i] l[i+1]=true:=by unfold leR;rw[hc];rfl
   simp only[cond_false]
   exact zNb at_ l hl i hi (by rw[hd,hle,ho];rfl)
theorem zZO(c:List Int) (r:List (List Val)) (col:Int) (hc:c.length≤9223372036854775807) (hl:r.length≤1000000000):wc W zHf [bagp c r, .int .i64 col]=some (.bool (ordB (idxI c (λ x=>col==x)) r)):=by
 have h:=zQq (c.map intp) (r.map rowp) col
 rw[zA,zR,zAA]at h
 rw[h,zJX c col hc]
 simp only[Option.bind_some,c_i64_mk]
 have h2:=zC1 (r.map rowp) (idxI c (λ x=>col==x))
 rw[zR,List.length_map]at h2
 rw[h2]
 rcases Nat.eq_zero_or_pos r.length with h0 | h0
 ·have:r=[]:=List.length_eq_zero_iff.1 h0
  subst this
  rw[zAU]
  rfl
 ·have e1:IntKind.wrap .i64 ((r.length:Int)-1)=((r.length-1:Nat):Int):=by rw[zQ (by omega) (by omega)];omega
  rw[e1,zNb _ r hl (r.length-1) (by omega) (by
   rw[List.drop_eq_getElem_cons (by omega),List.drop_of_length_le (by omega)];rfl)]
  simp only[Option.bind_some,k_5b106d_mk,c_b_mk]
end Go.Cf

namespace Go.Cf
open Go Go.Ab
set_option linter.unusedVariables false
set_option linter.unusedSimpArgs false
theorem zLA(q:QT) (n:Nat):zAt q (List.range (n+1))=zBi (zAt q (List.range n)) (q.leaf n):=by
 rw[List.range_succ,zIF]
 simp only[zAt,zN9]
theorem zLB(q:QT) (n:Nat):zK q (List.range (n+1))=zK q (List.range n)++zA2 q.T q.occ n:=by
 rw[List.range_succ,zL0]
 simp[zK]
theorem zZr{q:QT} (hq:QOk q) {n:Nat} (hn:n<q.occ.length):wc W zGU [catp q.T,zG9 q.D, .int .i64 q.occ[n], .int .i64 (n:Int)]=some (.tup [bagp (zA2 q.T q.occ n) (q.leaf n), .bool true]):=by
 have hin:=hq.inT _ (List.getElem_mem hn)
 have hg:q.occ.getD n 0=q.occ[n]:=by rw[List.getD_eq_getElem?_getD,List.getElem?_eq_getElem hn];rfl
 have h4:=hq.occ
 rw[zX7 q.T q.D q.occ[n] (n:Int) hq.T hq.D hq.vals]
 have e1:ofT q.T q.D q.occ[n] (n:Int)=some (zA2 q.T q.occ n,q.leaf n):=by
  unfold ofT
  rw[hq.fits,decide_eq_true hin.1,decide_eq_true (show q.occ[n]≤(q.T.length:Int)-1 by omega),decide_eq_true (show(0:Int)≤n by omega),decide_eq_true (show(n:Int)≤3 by omega)]
  unfold zA2 QT.leaf
  rw[hg];rfl
 rw[e1];rfl
theorem zPl{q:QT} (hq:QOk q) {n:Nat} (hn:n≤q.occ.length):mayB (zK q (List.range n)) (zAt q (List.range n))=true∧∀ x∈zAt q (List.range n),ROk x:=by
 have hl:∀ o∈List.range n,o<q.occ.length:=λ o ho=>by have:=List.mem_range.1 ho;omega
 have h:=zGa hq hl List.nodup_range (λ _=>true)
 rw[List.filter_eq_self.2 (λ _ _=>rfl)]at h
 exact⟨h,λ x hx=>(zC7 hq hl x hx).2.2⟩
theorem zUM{q:QT} (hq:QOk q) (by_:Int) (sums out:List Int) (ord:Int) (b:List Int×List (List Val)) (hf:finB by_ sums out (allB q).1 (allB q).2=some b) (ho:out.length≤9223372036854775807) (hs:sums.length≤9223372036854775807):∀(k n:Nat),n+k=q.occ.length→1≤n →
 zEA (q.T.map Def.pv) (q.D.map tabp) (q.occ.map intp) (q.P.map Ex.pv) by_ (sums.map intp) (out.map intp) ord (n:Int) ((zK q (List.range n)).map intp) ((zAt q (List.range n)).map rowp)=some (bagp b.1 b.2)
 | 0,n,h,h1=>by
  have hn:n=q.occ.length:=by omega
  subst hn
  obtain⟨hm,hr⟩:=zPl hq (Nat.le_refl q.occ.length)
  obtain⟨m1,m2,m3⟩:=zCZ hm
  have hP:=hq.P
  have hk:=zXW (zK q (List.range q.occ.length)) (zAt q (List.range q.occ.length)) q.P (by omega) (by omega) (λ x hx=>by rw[(m3 x hx).1];omega) hr (by omega) hq.ok
  have hfl:∀ x∈(zAt q (List.range q.occ.length)).filter (zJ3 q.P (zK q (List.range q.occ.length))),x∈zAt q (List.range q.occ.length):=λ x hx=>(List.mem_filter.1 hx).1
  have hll:=List.length_filter_le (zJ3 q.P (zK q (List.range q.occ.length))) (zAt q (List.range q.occ.length))
  have hfin:=zUF q.occ (q.P.map Ex.pv) by_ sums out ord (zK q (List.range q.occ.length)) ((zAt q (List.range q.occ.length)).filter (zJ3 q.P (zK q (List.range q.occ.length)))) (by omega) (by omega) (λ x hx=>⟨hr x (hfl x hx),by rw[(m3 x (hfl x hx)).1];omega⟩) ho
  have hf' :finB by_ sums out (zK q (List.range q.occ.length)) ((zAt q (List.range q.occ.length)).filter (zJ3 q.P (zK q (List.range q.occ.length))))=some b:=hf
  rw[hf']at hfin
  have hx:PV.slice 6 (q.P.map Ex.pv)=exsp q.P:=rfl
  rw[zFz]
  simp only[List.length_map,zBz,cond_false,zA,zR,zAA,zAQ,hx,hk,zEG,Option.bind_some,hfin,bagR,asTup_mk,List.getElem?_cons_zero,List.getElem?_cons_succ,c_b_mk,zO8]
  have e1:PV.agg [zBV q.occ,exsp q.P, .int .i64 by_,zBV sums,zBV out, .int .i64 ord]=zCA q.occ (q.P.map Ex.pv) by_ sums out ord:=rfl
  simp only[e1,hfin,Option.bind_some,bagR,asTup_mk,List.getElem?_cons_zero,List.getElem?_cons_succ,zEG,c_b_mk,zA,zR,zAA,zO8]
 |k+1,n,h,h1=>by
  have hn:n<q.occ.length:=by omega
  have h4:=hq.occ
  obtain⟨hm,hr⟩:=zPl hq (Nat.le_of_lt hn)
  obtain⟨hm',_⟩:=zPl hq hn
  obtain⟨m1,m2,m3⟩:=zCZ hm
  have hm2:=hm'
  rw[zLA,zLB]at hm2
  obtain⟨j1,j2,j3⟩:=zCZ hm2
  have hlf:=zGa hq (l:=[n]) (λ o ho=>by rw[List.mem_singleton]at ho;omega) (by simp) (λ _=>true)
  rw[List.filter_eq_self.2 (λ _ _=>rfl)]at hlf
  simp only[zAt,zN9,zK,List.flatMap_cons,List.flatMap_nil,List.append_nil]at hlf
  obtain⟨l1,l2,l3⟩:=zCZ hlf
  have hcr:=zXU (zK q (List.range n)) (zAt q (List.range n)) (zA2 q.T q.occ n) (q.leaf n) (by omega) (by omega) (by omega) (λ z hz=>by rw[(m3 z hz).1];omega) (λ z hz=>by rw[(l3 z hz).1];omega)
  have e2:zO5 (zK q (List.range n)) (zAt q (List.range n)) (zA2 q.T q.occ n) (q.leaf n)=some (zK q (List.range (n+1)),zAt q (List.range (n+1))):=by
   unfold zO5
   rw[hm,hlf,zYo hm2,decide_eq_true (by rw[← zIC];exact j2),zLA,zLB];rfl
  rw[e2]at hcr
  have hof:=zZr hq hn
  rw[zFz]
  simp only[List.length_map,zP hn,zAM,cond_true,Int.toNat_natCast,List.getElem?_map,List.getElem?_eq_getElem hn,Option.map_some,Option.bind_some,zG6,zAR,zA4,hof,asTup_mk,List.getElem?_cons_zero,List.getElem?_cons_succ,zEG,c_b_mk,zA,zR,zAA,zO8,hcr,bagR]
  rw[zI (by omega)]
  exact zUM hq by_ sums out ord b hf ho hs k (n+1) (by omega) (by omega)
def allQ(q:QT) (may:Bool) (by_:Int) (sums out:List Int):Option (List Int×List (List Val)):=bif may&&fits q.T q.D then finB by_ sums out (allB q).1 (allB q).2 else none
theorem z38(q:QT) (by_:Int) (sums out:List Int) (ord:Int) (hT:q.T.length≤9223372036854775807) (hocc:q.occ.length≤9223372036854775807) (hP:q.P.length≤1000000) (hok:∀ e∈q.P,e.ok∧e.vals) (hs:sums.length≤4294967296) (ho:out.length≤4294967296)
 (hD:DOk q.D) (hv:∀ t∈q.D,∀ r∈t,ROk r) :
 wc W zJC [catp q.T,zG9 q.D,zCA q.occ (q.P.map Ex.pv) by_ sums out ord]=some (bagR (allQ q (mayQ q.T q.occ q.P by_ sums out ord) by_ sums out)):=by
 have h:=zS0 (q.T.map Def.pv) (q.D.map tabp) (q.occ.map intp) (q.P.map Ex.pv) by_ (sums.map intp) (out.map intp) ord
 simp only[zAR,zA4,zA,zAQ]at h
 have e0:PV.tup [PV.agg [PV.slice 0 [],PV.slice 0 []],PV.bool false]=bagR none:=rfl
 rw[h,zN3 q.T q.occ q.P by_ sums out ord hT hocc (by omega) (λ e he=>(hok e he).1) hs ho,zXY q.T q.D hT hD]
 simp only[Option.bind_some,c_b_mk]
 unfold allQ
 cases h1:mayQ q.T q.occ q.P by_ sums out ord with
 |false=>rfl
 |true =>
 cases h2:fits q.T q.D with
 |false=>rfl
 |true =>
  have hparts:=h1
  unfold mayQ at hparts
  simp only[Bool.and_eq_true,decide_eq_true_eq,List.all_eq_true]at hparts
  have hq:QOk q:=⟨h2,hv,hparts.1.1.1.1.2,hparts.1.1.1.2,hT,hD,hP,hok⟩
  have h1occ:1≤q.occ.length:=hparts.1.1.1.1.1.2
  have hlr:∀ o∈List.range q.occ.length,o<q.occ.length:=λ o ho=>List.mem_range.1 ho
  have m2:mayB (allB q).1 (allB q).2=true:=zGa hq hlr List.nodup_range _
  obtain⟨b,hb⟩:=zRa hq h1 (c:=(allB q).1) (r:=(allB q).2) (λ x=>(zXh hq x).symm) m2
  have hrow:∀ x∈(allB q).2,ROk x:=λ x hx=>(zC7 hq hlr x (List.mem_filter.1 hx).1).2.2
  rw[hb]
  simp only[Bool.not_true,cond_false,Bool.and_self,cond_true]
  rw[zLa]
  have e1:=zPS (q.T.map Def.pv) (q.D.map tabp) (q.occ.map intp) (q.P.map Ex.pv) by_ (sums.map intp) (out.map intp) ord
  have hl:=zUM hq by_ sums out ord b hb (by omega) (by omega) (q.occ.length-1) 1 (by omega) (by omega)
  have hof:=zZr hq (n:=0) (by omega)
  have ep:zAt q (List.range 1)=q.leaf 0:=by
   have:=zLA q 0
   rw[this]
   exact zOb _
  have ec:zK q (List.range 1)=zA2 q.T q.occ 0:=by
   have:=zLB q 0
   rw[this];rfl
  rw[ep,ec]at hl
  have hgo:(q.occ.map intp)[0]? =some (intp q.occ[0]):=by rw[List.getElem?_map,List.getElem?_eq_getElem (by omega)];rfl
  have z0:((0:Nat):Int)=0:=rfl
  have z1:((1:Nat):Int)=1:=rfl
  rw[z0]at hof
  rw[z1]at hl
  simp only[zAR,zA4,zA,zAQ,hgo,Option.bind_some,zG6,hof,asTup_mk,List.getElem?_cons_zero,List.getElem?_cons_succ,zEG,c_b_mk,zR,zAA,zO8,hl]at e1
  have htold:wc W zE6 [PV.fn zCX [] [.imm 2 (catp q.T) 0, .imm 2 (zG9 q.D) 0, .imm 7 (zCA q.occ (q.P.map Ex.pv) by_ sums out ord) 0]]=some (.tup [bagp b.1 b.2, .bool true]):=by
   have e3:=e1
   unfold wc at e3
   obtain⟨z,hz,hp⟩:=Option.bind_eq_some_iff.1 e3
   obtain⟨a,ow⟩:=z
   have ha:a= .pv (bagp b.1 b.2):=by
    cases a<;>simp only[AV.asPv]at hp<;>first | (cases hp;rfl) | cases hp
   subst ha
   unfold wc
   rw[List.map_cons,List.map_nil,zLU]
   unfold zUl
   have hg:[zCX,zB9].contains zCX=true:=by decide
   have hsh:(bagp b.1 b.2).okSh 3=true:=rfl
   simp only[hg,cond_true,List.nil_append,hz,Option.bind_some,hsh]
   rfl
  simp only[zAR,zA4,zA,zAQ,htold,Option.bind_some,asTup_mk,List.getElem?_cons_zero,List.getElem?_cons_succ,zEG,c_b_mk,zR,zAA]
  rfl
end Go.Cf

namespace Go.Cf
open Go Go.Ab
set_option linter.unusedVariables false
set_option linter.unusedSimpArgs false
theorem zXj{by_:Int} {sums out c d:List Int} {r x:List (List Val)} (hr:∀ x∈r,ROk x) (hl:r.length≤5000) (ho:out.length≤1000) (h:finB by_ sums out c r=some (d,x)) :
 d.length≤1000∧x.length≤5000∧∀ y∈x,ROk y∧y.length≤1000:=by
 obtain⟨h1,h2,h3,h4⟩:=z0i hr (by omega) h
 have hd:d.length≤1000:=by
  by_cases hb:by_= -1
  ·rw[(h3 hb).1];exact ho
  ·obtain⟨e,h5⟩:=h4 hb
   rw[e]
   simp only[zSo,List.length_cons,List.length_map,List.length_range']
   omega
 exact⟨hd,by omega,λ y hy=>⟨(h1 y hy).1,by rw[(h1 y hy).2];exact hd⟩⟩
theorem zXk{q:QT} (hq:QOk q):(allB q).2.length≤5000∧∀ x∈(allB q).2,ROk x:=by
 have hlr:∀ o∈List.range q.occ.length,o<q.occ.length:=λ o ho=>List.mem_range.1 ho
 have m2:mayB (allB q).1 (allB q).2=true:=zGa hq hlr List.nodup_range _
 exact⟨(zCZ m2).2.1,λ x hx=>(zC7 hq hlr x (List.mem_filter.1 hx).1).2.2⟩
def zXl(x:Option (List Int×List (List Val))) (ord:Int) (d:List Int) (s:List (List Val)):Bool :=
 match x with
 |none=>false
 |some x=>zVX x.1 x.2 d s&&(ord== -1 || ordB (idxI d (λ z=>ord==z)) s)
theorem z0x(q:QT) (by_:Int) (sums out:List Int) (ord:Int) (hT:q.T.length≤9223372036854775807) (hocc:q.occ.length≤9223372036854775807) (hP:q.P.length≤1000000) (hok:∀ e∈q.P,e.ok∧e.vals) (hs:sums.length≤4294967296) (ho:out.length≤1000)
 (hD:DOk q.D) (hv:∀ t∈q.D,∀ r∈t,ROk r) (d:List Int) (s:List (List Val)) (hd:d.length≤1000000) (hsl:s.length≤1000000000) (hsr:∀ x∈s,ROk x∧x.length≤1000000) :
 wc W zGm [catp q.T,zG9 q.D,zCA q.occ (q.P.map Ex.pv) by_ sums out ord,bagp d s]=some (.bool (zXl (allQ q (mayQ q.T q.occ q.P by_ sums out ord) by_ sums out) ord d s)):=by
 have h:=zPO (q.T.map Def.pv) (q.D.map tabp) (q.occ.map intp) (q.P.map Ex.pv) by_ (sums.map intp) (out.map intp) ord (d.map intp) (s.map rowp)
 simp only[zAR,zA4,zA,zAQ,zR,zAA]at h
 rw[h,z38 q by_ sums out ord hT hocc hP hok hs (by omega) hD hv]
 unfold zXl
 cases ha:allQ q (mayQ q.T q.occ q.P by_ sums out ord) by_ sums out with
 |none=>rfl
 |some x =>
  obtain⟨c,r⟩:=x
  unfold allQ at ha
  obtain⟨h1,h2⟩:=bif_some ha
  simp only[Bool.and_eq_true]at h1
  have hparts:=h1.1
  unfold mayQ at hparts
  simp only[Bool.and_eq_true,decide_eq_true_eq,List.all_eq_true]at hparts
  have hq:QOk q:=⟨h1.2,hv,hparts.1.1.1.1.2,hparts.1.1.1.2,hT,hD,hP,hok⟩
  obtain⟨k1,k2⟩:=zXk hq
  obtain⟨f1,f2,f3⟩:=zXj k2 k1 ho h2
  have ws:=zZf c r d s (by omega) (by omega) hsl (λ y hy=>⟨(f3 y hy).1,by have:=(f3 y hy).2;omega⟩) hsr
  have wo:=zZO d s ord (by omega) hsl
  simp only[bagR,Option.bind_some,asTup_mk,List.getElem?_cons_zero,List.getElem?_cons_succ,zEG,c_b_mk,cond_true,zA,zR,zAA,ws,wo]
  cases zVX c r d s with
  |false=>rfl
  |true =>
   cases ord== -1 with
   |true=>rfl
   |false=>rfl
end Go.Cf
