/- Part 16 of the proof: an abstract machine that runs the program's code over plain values, its soundness, and what the functions tell of plain values. Conditions: those in each theorem. -/
import Derived.Test.YtgebkpchpliahaaGreatDoorA14
set_option linter.unusedSectionVars false
set_option linter.unusedVariables false
set_option linter.unusedSimpArgs false
noncomputable section
namespace Go.Cf
open Go Go.Ab
mutual
def Ex.lens:Ex->Prop
 | .mk _ _ _ l=>l.length<=9223372036854775807/\Ex.lensL l
def Ex.lensL:List Ex->Prop
 | []=>True
 |e::r=>e.lens/\Ex.lensL r
end
theorem Ex.lensL_mem:∀{l:List Ex},Ex.lensL l->∀ e∈l,e.lens
 |x::r,h,e,he=>by
  rcases zAD.1 he with rfl | he
  ·exact h.1
  ·exact Ex.lensL_mem h.2 e he
theorem Ex.lens_l{e:Ex} (h:e.lens):e.l.length<=9223372036854775807/\∀ x∈e.l,x.lens:=by cases e;exact⟨h.1,Ex.lensL_mem h.2⟩
theorem z1V:∀(k:Nat) (e:Ex),e.sz<=k->e.lens->∀ m:Nat,m<=1000000->wc W zDL [e.pv,.int .i64 (m:Int)]=some (.int .i64 ((min e.sz (m+1):Nat):Int))
 | 0,e,h,_,_,_=>by have:=e.sz_pos;omega
 |k+1,e,h,he,m,hm=>by
  have hh:=zLM e.op e.col e.v.K e.v.N (e.l.map Ex.pv) (m:Int)
  rw[Ex.fold]at hh
  rw[hh]
  have hsz:e.sz=Ex.szL e.l+1:=by cases e;rfl
  obtain⟨hl,hx⟩:=Ex.lens_l he
  have loop:∀(q i n:Nat),i+q=e.l.length->n<=m+1 ->
   zCo (m:Int) e.op e.col e.v.K e.v.N (e.l.map Ex.pv) (n:Int) (i:Int)=some (.int .i64 ((min (n+Ex.szL (e.l.drop i)) (m+1):Nat):Int)):=λ q=>by
   induction q with
   |zero =>
    intro i n hi hn
    rw[zEp,show i=e.l.length by omega,zG]
    simp only[zDG,zC,List.drop_length,Ex.szL,Nat.add_zero,Nat.min_eq_left hn]
   |succ q ih =>
    intro i n hi hn
    have hi' :i<e.l.length:=by omega
    rw[zEp,zG]
    simp only[zAK hi',zA]
    by_cases hnm:n<=m
    ·have hm' :=Ex.sz_mem (zAF hi')
     rw[zD (show(n:Int)<=(m:Int) by omega),zA,zIY]
     simp only[zA2,zA,zY,zN,zI hi',zU,zB,Ex.c_mk,Ex.fold]
     rw[zAZ (by omega) (by omega),show((m:Int)-(n:Int))=((m-n:Nat):Int) by omega,z1V k e.l[i] (by omega) (hx _ (zAF hi')) (m-n) (by omega)]
     simp only[zB,c_i64_mk]
     rw[show((n:Int)+((min e.l[i].sz (m-n+1):Nat):Int))=((n+min e.l[i].sz (m-n+1):Nat):Int) by omega,z3L (by omega),zX (by omega),ih (i+1) (n+min e.l[i].sz (m-n+1)) (by omega) (by omega),Ex.sz_drop e.l i hi']
     congr 3
     omega
    ·rw[zK (show ¬ (n:Int)<=(m:Int) by omega),zC]
     congr 3
     omega
  have:=loop e.l.length 0 1 (by omega) (by omega)
  rw[List.drop_zero]at this
  rw[show(1:Int)=((1:Nat):Int)from rfl,show(0:Int)=((0:Nat):Int)from rfl,this]
  congr 3
  omega
theorem z7u(e:Ex) (he:e.lens):wc W zFA [e.pv,.int .i64 60]=some (.bool (decide (e.sz<=60))):=by
 have h:=zLr e.op e.col e.v.K e.v.N (e.l.map Ex.pv) 60
 rw[Ex.fold]at h
 rw[h,show(60:Int)=((60:Nat):Int)from rfl,z1V e.sz e (zO _) he 60 (by omega)]
 simp only[zB,c_i64_mk]
 congr 3
 first | (rw[decide_eq_decide];omega) | exact propext (by omega)
def exsp(l:List Ex):PV:= .slice 6 (l.map Ex.pv)
theorem zQW(l:List Ex):PV.slice 6 (l.map Ex.pv)=exsp l:=rfl
theorem zQX(c0:List Int) (g:Nat) (fs cs:List PV) (r:List (List Val)) (f:List Val->Bool) (hr:r.length<=4294967295) (hl:∀ x∈r,x.length<=4294967296) (hf:∀ x∈r,wc W g (fs++[rowp x]++cs)=some (.bool (f x))) :
 ∀(k i:Nat) (a b:List PV) (acc:List (List Val)),i+k=r.length->acc.length<=i ->
 zGP (.fn g fs cs) (r.map rowp) (r.length:Int) (i:Int) a b (c0.map intp) (acc.map rowp)=some (bagp c0 (acc++(r.drop i).filter f))
 | 0,i,a,b,acc,hi,hacc=>by
  rw[zKW,show i=r.length by omega]
  simp[zDG]
 |k+1,i,a,b,acc,hi,hacc=>by
  have hi' :i<r.length:=by omega
  rw[zKW,zAk hi',List.filter_cons]
  simp only[zAK hi',zA2,zA,zY,zN,zI hi',zU,zB,zCm,asFn_mk,zZ,hf _ (zAF hi'),c_b_mk]
  have hcl:=zD5 (r[i].map Val.pv) (by rw[zG];exact hl _ (zAF hi'))
  rw[zZ]at hcl
  rw[zX (by omega)]
  cases hfx:f r[i] with
  |false =>
   simp only[zC,Bool.false_eq_true,if_false]
   exact zQX c0 g fs cs r f hr hl hf k (i+1) a b acc (by omega) (by omega)
  |true =>
   simp only[zA,hcl,zB,zCm,zZ,zG,zAA,zD (show acc.length+1<=4294967296 by omega),if_true]
   have:=zQX c0 g fs cs r f hr hl hf k (i+1) a b (acc++[r[i]]) (by omega) (by rw[zAH,List.length_singleton];omega)
   rw[zAm,zAE]at this
   exact this
theorem z7v(c:List Int) (r:List (List Val)) (g:Nat) (fs cs:List PV) (f:List Val->Bool) (hc:c.length<=4294967296) (hr:r.length<=4294967295) (hl:∀ x∈r,x.length<=4294967296) (hf:∀ x∈r,wc W g (fs++[rowp x]++cs)=some (.bool (f x))) :
 wc W zI9 [bagp c r,.fn g fs cs]=some (bagp c (r.filter f)):=by
 have h:=zZL (c.map intp) (r.map rowp) (.fn g fs cs)
 rw[zH,zAM,zAY]at h
 have hcl:=zDr (c.map intp) (by rw[zG];exact hc)
 rw[zH]at hcl
 rw[h,hcl,zG]
 simp only[zB,zDc]
 have:=zQX c g fs cs r f hr hl hf r.length 0 [] [] [] (by omega) (by simp)
 simpa using this
theorem z5Q(l:List Ex) (g:Nat) (fs cs:List PV) (f:Ex->Bool) (hl:l.length<=9223372036854775807) (hf:∀ x∈l,wc W g (fs++[x.pv]++cs)=some (.bool (f x))) :
 wc W zBT [exsp l,.fn g fs cs]=some (.bool (l.any f)):=by
 have h:=zEP (l.map Ex.pv) (.fn g fs cs)
 have h2:=zEo (l.map Ex.pv) (.fn g fs cs)
 rw[zQW]at h h2
 have h3:wc W zB8 [exsp l,.fn g fs cs]=some (.int .i64 (idxI l f)):=by
  rw[h2,zG]
  refine zJV (λ i=>zAu (l.map Ex.pv) (.fn g fs cs) l.length i) l f (λ n=>some (.int .i64 n)) (λ i hi=> ?_) ?_
  ·rw[zCB]
   simp only[zAK hi,zA2,zA,zY,zN,zI hi,zU,zB,Ex.c_mk,asFn_mk,Ex.fold]
   rw[hf _ (zAF hi),zAZ (by omega) (by omega)]
   simp only[zB,c_b_mk]
  ·rw[zCB];simp
 rw[h,h3]
 simp[<- zJU]
def zOr(l:List Ex) (c:List Int) (row:List Val):Bool:=l.all λ e=>zLN e c row
theorem z3W{α:Type} (l:List α) (f:α->Bool):(!l.any λ x=> !f x)=l.all f:=by
 induction l with
 |nil=>rfl
 |cons a l ih=>simp only[List.any_cons,List.all_cons,Bool.not_or,Bool.not_not,ih]
theorem zXi(c:List Int) (r:List (List Val)) (l:List Ex) (hc:c.length<=4294967296) (hr:r.length<=4294967295) (hl:∀ x∈r,x.length<=4294967296) (hv:∀ x∈r,ROk x) (hll:l.length<=9223372036854775807) (he:∀ e∈l,e.ok/\e.vals) :
 wc W zEW [bagp c r,exsp l]=some (bagp c (r.filter (zOr l c))):=by
 have h:=zZF (c.map intp) (r.map rowp) (l.map Ex.pv)
 rw[zH,zAM,zAY,zQW]at h
 rw[h,z7v c r zHu [] [.imm 0 (exsp l) 0,.imm 3 (bagp c r) 0] (zOr l c) hc hr hl ?_]
 ·simp only[zB,zFa]
  rfl
 ·intro x hx
  have h1:=zU4 (x.map Val.pv) (l.map Ex.pv) (c.map intp) (r.map rowp)
  rw[zH,zAM,zAY,zQW,zZ]at h1
  show wc W zHu [rowp x,_,_]=_
  rw[h1,z5Q l zGE [] [.imm 3 (bagp c r) 0,.imm 0 (rowp x) 0] (λ e=> !zLN e c x) hll ?_]
  ·simp only[zB,c_b_mk,z3W]
   rfl
  ·intro e hel
   have h2:=zQx e.op e.col e.v.K e.v.N (e.l.map Ex.pv) (c.map intp) (r.map rowp) (x.map Val.pv)
   rw[Ex.fold,zH,zAM,zAY,zZ]at h2
   show wc W zGE [e.pv,_,_]=_
   rw[h2,z5O e c x (he e hel).1 (he e hel).2 (by omega) (hv x hx)]
   rfl
end Go.Cf

namespace Go.Cf
open Go Go.Ab
theorem z3X(l:List Def) (g:Nat) (fs cs:List PV) (f:Def->Bool) (hl:l.length<=9223372036854775807) (hf:∀ x∈l,wc W g (fs++[x.pv]++cs)=some (.bool (f x))) :
 wc W zBj [.slice 3 (l.map Def.pv),.fn g fs cs]=some (.int .i64 (idxI l f)):=by
 rw[zFT,zG]
 refine zJV (λ i=>zBF (l.map Def.pv) (.fn g fs cs) l.length i) l f (λ n=>some (.int .i64 n)) (λ i hi=> ?_) ?_
 ·rw[zCT]
  simp only[zAK hi,zA2,zA,zY,zN,zI hi,zU,zB,Def.c_mk,asFn_mk,Def.fold]
  rw[hf _ (zAF hi),zAZ (by omega) (by omega)]
  simp only[zB,c_b_mk]
 ·rw[zCT];simp
theorem z3Y(l:List Def) (g:Nat) (fs cs:List PV) (f:Def->Bool) (hl:l.length<=9223372036854775807) (hf:∀ x∈l,wc W g (fs++[x.pv]++cs)=some (.bool (f x))) :
 wc W zB1 [.slice 3 (l.map Def.pv),.fn g fs cs]=some (.bool (l.any f)):=by
 rw[zEh,z3X l g fs cs f hl hf]
 simp[<- zJU]
def catp(T:List Def):PV:= .agg [.slice 3 (T.map Def.pv)]
def zIo(D:List (List (List Val))):PV:= .agg [.slice 0 (D.map tabp)]
@[simp] theorem zAj(T:List Def):PV.agg [.slice 3 (T.map Def.pv)]=catp T:=rfl
@[simp] theorem zBu(D:List (List (List Val))):PV.agg [.slice 0 (D.map tabp)]=zIo D:=rfl
@[simp] theorem c_catp(T:List Def) {R:Type} (f:List PV->Option R):z4H (catp T) f=f (T.map Def.pv):=rfl
@[simp] theorem c_datap(D:List (List (List Val))) {R:Type} (f:List PV->Option R):z4G (zIo D) f=f (D.map tabp):=rfl
theorem w_in(n a b:Int):wc W zF2 [.int .i64 n,.int .i64 a,.int .i64 b]=some (.bool (decide (a<=n)&&decide (n<=b))):=by
 rw[z0w]
 have:decide (n≥a)=decide (a<=n):=rfl
 rw[this]
 cases decide (a<=n)<;>rfl
def oneD(d:Def):Bool:=(decide (1<=d.Cols)&&decide (d.Cols<=4))&&(decide (1<=d.Rows)&&decide (d.Rows<=1000000))
theorem z8g(d:Def):wc W zN3 [d.pv]=some (.bool (oneD d)):=by
 have h:=zZO d.Cols d.Rows
 rw[Def.fold]at h
 rw[h]
 simp only[w_in,zB,c_b_mk]
 unfold oneD
 by_cases h0:d.Cols=0
 ·rw[h0]
  by_cases h1:d.Rows=0
  ·rw[h1];rfl
  ·rw[zDI h1];rfl
 ·rw[zDI h0]
  simp only[zC,zB,c_b_mk,Bool.not_false,zA]
  cases (decide (1<=d.Cols)&&decide (d.Cols<=4))<;>simp
def mayC(T:List Def):Bool:=(decide (1<=(T.length:Int))&&decide ((T.length:Int)<=4))&&T.all oneD
theorem z1W(d:Def):wc W zHv [d.pv]=some (.bool (!oneD d)):=by
 have h:=zU8 d.Cols d.Rows
 rw[Def.fold]at h
 rw[h,z8g];rfl
theorem zRg(T:List Def) (hl:T.length<=9223372036854775807):wc W zKs [catp T]=some (.bool (mayC T)):=by
 have h:=zZI (T.map Def.pv)
 rw[zAj]at h
 rw[h,w_in,zG]
 simp only[zB,c_b_mk]
 rw[z3Y T zHv [] [] (λ d=> !oneD d) hl (λ x _=>z1W x)]
 simp only[zB,c_b_mk,zLs]
 unfold mayC
 cases (decide (1<=(T.length:Int))&&decide ((T.length:Int)<=4))<;>rfl
def zUk(r:List Val) (n:Int):Bool:=decide ((r.length:Int)=n)&&r.all mayV
theorem z7w(v:Val):wc W zHw [v.pv]=some (.bool (!mayV v)):=by
 have h:=zU9 v.K v.N
 rw[Val.fold]at h
 rw[h,zK2];rfl
theorem z8h(r:List Val) (n:Int) (hl:r.length<=9223372036854775807):wc W zN2 [rowp r,.int .i64 n]=some (.bool (zUk r n)):=by
 have h:=zZM (r.map Val.pv) n
 rw[zZ]at h
 rw[h,zG,zPF r zHw [] [] (λ v=> !mayV v) hl (λ x _=>z7w x)]
 simp only[zB,c_b_mk,zLs]
 unfold zUk
 by_cases e:(r.length:Int)=n
 ·rw[zIT e,zD e];simp
 ·rw[zDI e,zK e];simp
def zFl(T:List Def) (i:Nat):Int:=(T[i]?.map Def.Cols).getD 0
def zWh(T:List Def) (i:Nat) (t:List (List Val)):Bool:=decide (t.length<=8)&&t.all λ r=>zUk r (zFl T i)
def fits(T:List Def) (D:List (List (List Val))):Bool:=mayC T&&decide (D.length=T.length)&&(List.range D.length).all λ i=>(D[i]?).all (zWh T i)
theorem z5R(T:List Def) (r:List Val) (i:Nat) (hi:i<T.length) (hl:r.length<=9223372036854775807) :
 W zC9 false [.pv (rowp r),.pv (.imm 2 (catp T) 0),.own 0 0] [.var false 0 (.pv (.int .i64 (i:Int)))]=some (.pv (.bool (!zUk r (zFl T i))),[.var false 0 (.pv (.int .i64 (i:Int)))]):=by
 have h:=zMb (r.map Val.pv) (T.map Def.pv) (i:Int)
 rw[zZ,zAj]at h
 rw[h]
 simp only[zA2,zA,zY,zN,zI hi,zU,zB,Def.load0,c_i64_mk,z8h _ _ hl,c_b_mk,zFl,Option.getD_some]
theorem z3Z(T:List Def) (t:List (List Val)) (i:Nat) (hi:i<T.length) (ht:t.length<=9223372036854775807) (hl:∀ r∈t,r.length<=9223372036854775807) :
 W zBL false [.pv (tabp t),.fnv zC9 [] [.pv (.imm 2 (catp T) 0),.own 0 0]] [.var false 0 (.pv (.int .i64 (i:Int)))] =
  some (.pv (.bool (!t.all λ r=>zUk r (zFl T i))),[.var false 0 (.pv (.int .i64 (i:Int)))]):=by
 have h:=zDF (t.map rowp) (T.map Def.pv) (i:Int)
 have h2:=zD1 (t.map rowp) (T.map Def.pv) (i:Int)
 rw[zAM,zAj]at h h2
 rw[h,h2,zG]
 rw[zJV (λ n=>zA5 (t.map rowp) (T.map Def.pv) t.length n (i:Int)) t (λ r=> !zUk r (zFl T i)) (λ n=>some (.pv (.int .i64 n),[.var false 0 (.pv (.int .i64 (i:Int)))])) ?_ ?_]
 ·simp only[zB,k_5b106d_mk,c_i64_mk,zJU]
  rw[<- zLs t,Bool.not_not]
 ·intro j hj
  rw[zBa]
  simp only[zAK hj,zA2,zA,zY,zN,zI hj,zU,zB,zCm,zZ,zAj,z5R T _ i hi (hl _ (zAF hj)),k_5b106d_mk,c_b_mk]
  rw[zAZ (by omega) (by omega)]
 ·rw[zBa];simp
structure DOk (D:List (List (List Val))):Prop where
 len:D.length<=9223372036854775807
 tab:∀ t∈D,t.length<=9223372036854775807
 row:∀ t∈D,∀ r∈t,r.length<=9223372036854775807
theorem z1X(T:List Def) (D:List (List (List Val))) (hT:T.length<=9223372036854775807) (hD:DOk D):wc W zHV [catp T,zIo D]=some (.bool (fits T D)):=by
 have h:=zWQ (T.map Def.pv) (D.map tabp)
 rw[zAj,zBu]at h
 rw[h,zRg T hT]
 simp only[zB,c_b_mk,zG]
 unfold fits
 cases mayC T with
 |false=>rfl
 |true =>
  simp only[zAJ,zC,zAA]
  by_cases hl:D.length=T.length
  ·rw[zIS (by rw[hl]),zD hl,zC,zO4,zAA,zG]
   rw[zPD (λ i=>zGo (T.map Def.pv) (D.map tabp) D.length i) D.length (λ i=>(D[i]?).all (zWh T i)) (some (.bool false)) (some (.bool true)) ?_ ?_]
   ·cases (List.range D.length).all λ i=>(D[i]?).all (zWh T i)<;>rfl
   ·intro i hi
    have hiT:i<T.length:=by omega
    have hm:=zAF hi
    have:=hD.len
    rw[zJ7]
    simp only[zAK hi,zA2,zA,zY,zN,zI hi,zU,zB,zQQ,zG,Option.all_some,zAM,zAj,z3Z T D[i] i hiT (hD.tab _ hm) (hD.row _ hm),k_5b106d_mk,c_b_mk]
    rw[zAZ (by omega) (by omega)]
    unfold zWh
    by_cases h8:D[i].length<=8
    ·rw[zD h8,zK (show ¬ ((D[i].length:Nat):Int)>8 by omega)]
     cases D[i].all λ r=>zUk r (zFl T i)<;>rfl
    ·rw[zK h8,zD (show((D[i].length:Nat):Int)>8 by omega)]
     rfl
   ·rw[zJ7];simp
  ·rw[zH3 (by omega),zK hl];rfl
def colI(occ col:Int):Int:=bif (decide (0<=occ)&&decide (occ<=3))&&(decide (0<=col)&&decide (col<=3))then 4*occ+col else -1
theorem z5S(o c:Int):wc W zIa [.int .i64 o,.int .i64 c]=some (.int .i64 (colI o c)):=by
 rw[zZN]
 simp only[w_in,zB,c_b_mk,colI]
 by_cases h:0<=o/\o<=3
 ·rw[zD h.1,zD h.2]
  by_cases h2:0<=c/\c<=3
  ·rw[zD h2.1,zD h2.2]
   simp only[Bool.and_self,zAJ,zC,zA,zQO]
   rw[zAZ (n:=4*o) (by omega) (by omega),zAZ (by omega) (by omega)]
  ·have:(decide (0<=c)&&decide (c<=3))=false:=by rw[<- Bool.decide_and];exact zK h2
   rw[this];rfl
 ·have:(decide (0<=o)&&decide (o<=3))=false:=by rw[<- Bool.decide_and];exact zK h
  rw[this];rfl
def zXj(id:Int):PV:=bif decide (0<=id)&&decide (id<=15)then .tup [.int .i64 (id / 4),.int .i64 (id % 4),.bool true]else .tup [.int .i64 0,.int .i64 0,.bool false]
theorem div4{n:Int} (h:0<=n) (h2:n<=15):IntKind.wrap .i64 (Int.tdiv n 4)=n / 4/\Int.tmod n 4=n % 4:=by
 rw[Int.tdiv_eq_ediv_of_nonneg h,Int.tmod_eq_emod_of_nonneg h,zAZ (by omega) (by omega)]
 exact⟨rfl,rfl⟩
theorem z5T(n:Int):wc W zKK [.int .i64 n]=some (zXj n):=by
 rw[zUc,w_in]
 simp only[zB,c_b_mk,zXj]
 by_cases h:0<=n/\n<=15
 ·rw[zD h.1,zD h.2,(div4 h.1 h.2).1,(div4 h.1 h.2).2];rfl
 ·have:(decide (0<=n)&&decide (n<=15))=false:=by rw[<- Bool.decide_and];exact zK h
  rw[this];rfl
def zES(occ:Int) (k n:Nat):List Int:=(List.range' k n).map λ i:Nat=>4*occ+(i:Int)
theorem z1Y(o:Int) (ho:0<=o/\o<=3) (t:Int) (D:List PV) (n:Nat) (hn:n<=4):∀(k i:Nat) (acc:List Int),i+k=n->acc.length<=i ->
 zH4 t o D (n:Int) (i:Int) (acc.map intp)=zH4 t o D (n:Int) (n:Int) ((acc++zES o i k).map intp)
 | 0,i,acc,h,hl=>by
  rw[show i=n by omega];simp[zES]
 |k+1,i,acc,h,hl=>by
  have hi:i<n:=by omega
  rw[zLV]
  have hc:colI o (i:Int)=4*o+(i:Int):=by
   unfold colI
   rw[zD ho.1,zD ho.2,zD (show(0:Int)<=i by omega),zD (show(i:Int)<=3 by omega)];rfl
  simp only[zAK hi,zA,z5S,zB,c_i64_mk,hc,zG,zAA,zD (show acc.length+1<=4294967296 by omega)]
  rw[zX (by omega)]
  have:=z1Y o ho t D n hn k (i+1) (acc++[4*o+(i:Int)]) (by omega) (by simp;omega)
  simp only[zAm,zA1,zAd]at this
  refine this.trans ?_
  rw[show zES o i (k+1)=(4*o+(i:Int))::zES o (i+1) k from by simp[zES,List.range'_succ]]
  simp only[zAm,zA1,zAE,List.cons_append,List.nil_append]
def ofT(T:List Def) (D:List (List (List Val))) (t o:Int):Option (List Int×List (List Val)) :=
 bif fits T D&&(decide (0<=t)&&decide (t<=(T.length:Int)-1))&&(decide (0<=o)&&decide (o<=3))then some (zES o 0 (zFl T t.toNat).toNat,D.getD t.toNat [])else none
def ofP(x:Option (List Int×List (List Val))):PV:=match x with | some b=> .tup [bagp b.1 b.2,.bool true] | none=> .tup [bagp [] [],.bool false]
theorem zMk{T:List Def} {D:List (List (List Val))} (h:fits T D=true):D.length=T.length/\mayC T=true/\∀ i (hi:i<D.length),zWh T i D[i]=true:=by
 unfold fits at h
 simp only[zF,zR,zAB,List.mem_range]at h
 refine⟨h.1.2,h.1.1,λ i hi=> ?_⟩
 have:=h.2 i hi
 simpa [zI hi]using this
theorem zK5{T:List Def} (h:mayC T=true) {i:Nat} (hi:i<T.length):1<=zFl T i/\zFl T i<=4:=by
 unfold mayC at h
 simp only[zF,zAB]at h
 have:=h.2 _ (zAF hi)
 unfold oneD at this
 simp only[zF,zR]at this
 unfold zFl
 rw[zI hi]
 exact this.1
theorem zXk{T:List Def} {i:Nat} {t:List (List Val)} (h:zWh T i t=true) (hc:zFl T i<=4):t.length<=8/\∀ r∈t,(r.length:Int)=zFl T i/\r.length<=4/\r.all mayV=true:=by
 unfold zWh at h
 simp only[zF,zR,zAB]at h
 refine⟨h.1,λ r hr=> ?_⟩
 have:=h.2 r hr
 unfold zUk at this
 simp only[zF,zR]at this
 exact⟨this.1,by omega,this.2⟩
end Go.Cf

namespace Go.Cf
open Go Go.Ab
theorem z30(l:List Int) (g:Nat) (fs cs:List PV) (f:Int->Bool) (hl:l.length<=9223372036854775807) (hf:∀ x∈l,wc W g (fs++[.int .i64 x]++cs)=some (.bool (f x))) :
 wc W zCq [zBv l,.fn g fs cs]=some (.int .i64 (idxI l f)):=by
 unfold zBv
 rw[zHj,zG]
 refine zJV (λ i=>zBh (l.map intp) (.fn g fs cs) l.length i) l f (λ n=>some (.int .i64 n)) (λ i hi=> ?_) ?_
 ·rw[zDW]
  simp only[zAK hi,zA2,zA,zY,zN,zI hi,zU,zB,zIK,asFn_mk]
  rw[hf _ (zAF hi),zAZ (by omega) (by omega)]
  simp only[zB,c_b_mk]
 ·rw[zDW];simp
theorem zSm(l:List Int) (g:Nat) (fs cs:List PV) (f:Int->Bool) (hl:l.length<=9223372036854775807) (hf:∀ x∈l,wc W g (fs++[.int .i64 x]++cs)=some (.bool (f x))) :
 wc W zBK [zBv l,.fn g fs cs]=some (.bool (l.any f)):=by
 have h:=zG7 (l.map intp) (.fn g fs cs)
 rw[zH]at h
 rw[h,z30 l g fs cs f hl hf]
 simp[<- zJU]
theorem zKz(l:List Int) (n:Int) (hl:l.length<=9223372036854775807):wc W zBN [zBv l,.int .i64 n]=some (.bool (inC l n)):=by
 have h:=zIW (l.map intp) n
 rw[zH,zHc l n hl]at h
 rw[h]
 have h1:decide (idxI l (λ y=>n==y)≥0)=inC l n:=by
  have:=zLt (c:=l) (x:=n)
  by_cases hh:idxI l (λ y=>n==y)<0
  ·rw[zD hh]at this
   rw[zK (by omega)]
   cases h2:inC l n with
   |false=>rfl
   |true=>rw[h2]at this;cases this
  ·rw[zK hh]at this
   rw[zD (by omega)]
   cases h2:inC l n with
   |true=>rfl
   |false=>rw[h2]at this;cases this
 simp only[zB,c_i64_mk,h1]
end Go.Cf

namespace Go.Cf
open Go Go.Ab
def zGb(l a:List Int):Bool:=l.all (inC a)
theorem zPI(l a:List Int) (hl:l.length<=9223372036854775807) (ha:a.length<=9223372036854775807):wc W zDm [zBv l,zBv a]=some (.bool (zGb l a)):=by
 have h:=zQw (l.map intp) (a.map intp)
 rw[zH,zH]at h
 rw[h,zSm l zG3 [] [.imm 0 (zBv a) 0] (λ n=> !inC a n) hl (λ x _=>by
  have h1:=zOf x (a.map intp)
  rw[zH]at h1
  refine h1.trans ?_
  rw[zKz a x ha];rfl)]
 simp only[zB,c_b_mk,zLs]
 rfl
def z1Z(l:List Int):Bool:=decide ((Lib.compact (zGi l)).length=l.length)
theorem z5U(a b:Nat):(((a:Nat):Int)==((b:Nat):Int))=decide (a=b):=by
 by_cases h:a=b
 ·rw[zD h,zIT (by rw[h])]
 ·rw[zK h,zDI (by omega)]
theorem z7x(l:List Int) (hl:l.length<=4294967296):wc W zKH [zBv l]=some (.bool (z1Z l)):=by
 have h:=zU2 (l.map intp)
 have h1:=zHh (l.map intp) (by simpa using hl)
 have h2:=zGN false 0 l hl
 have h3:=zFL 0 (zGi l) (by rw[zI7];exact hl)
 have e1:∀ l:List Int,l.map intp=l.map (PV.int .i64):=λ _=>rfl
 refine h.trans ?_
 rw[h1]
 simp only[zB,k_d697de_mk]
 rw[e1,h2]
 simp only[zB,k_cad770_mk,h3,k_b7636c_mk,c_s0_mk,zG,z5U]
 rfl
def zOs(T:List Def) (occ:List Int) (o:Nat):Bool:=decide (0<=occ.getD o 0)&&decide (occ.getD o 0<(T.length:Int))
def zBO(T:List Def) (occ:List Int) (o:Nat):List Int:=zES (o:Int) 0 (zFl T (occ.getD o 0).toNat).toNat
def allL(T:List Def) (occ:List Int) (is:Nat->Bool) (i k:Nat):List Int:=(List.range' i k).flatMap λ o=>bif is o&&zOs T occ o then zBO T occ o else []
theorem zNk(o:Int) (k n:Nat):(zES o k n).length=n:=by simp[zES]
theorem all3(T:List Def) (g:PV) (A B C D:List PV) (i37 i40 i42:Int) (o:Nat) (ho:o<=3) (n:Nat) (hn:n<=4):∀(k j:Nat) (acc:List Int),j+k=n->acc.length<=1000+j ->
 zGq g (T.map Def.pv) A B i37 C D i40 (o:Int) i42 (o:Int) (n:Int) (j:Int) (acc.map intp)=zCz g (T.map Def.pv) A B i37 C D i40 i42 ((o+1:Nat):Int) ((acc++zES (o:Int) j k).map intp)
 | 0,j,acc,h,hl=>by
  rw[zJb,show j=n by omega]
  simp only[zDG,zC,zES,List.range'_zero,zAd,zBM]
  rw[zX (by omega)]
 |k+1,j,acc,h,hl=>by
  have hj:j<n:=by omega
  rw[zJb]
  have hc:colI (o:Int) (j:Int)=4*(o:Int)+(j:Int):=by
   unfold colI
   rw[zD (show(0:Int)<=o by omega),zD (show(o:Int)<=3 by omega),zD (show(0:Int)<=j by omega),zD (show(j:Int)<=3 by omega)];rfl
  simp only[zAK hj,zA,z5S,zB,c_i64_mk,hc,zG,zAA,zD (show acc.length+1<=4294967296 by omega)]
  rw[zX (by omega)]
  have:=all3 T g A B C D i37 i40 i42 o ho n hn k (j+1) (acc++[4*(o:Int)+(j:Int)]) (by omega) (by simp;omega)
  simp only[zAm,zA1,zAd]at this
  refine this.trans ?_
  rw[show zES (o:Int) j (k+1)=(4*(o:Int)+(j:Int))::zES (o:Int) (j+1) k from by simp[zES,List.range'_succ]]
  simp only[zAm,zA1,zAE,List.cons_append,List.nil_append]
theorem all1(T:List Def) (hT:mayC T=true) (occ:List Int) (g:Nat) (fs cs:List PV) (is:Nat->Bool) (P C D:List PV) (i5 i8:Int) (n:Nat) (hn:n<=4) (hno:n<=occ.length) (his:∀ o,o<n->wc W g (fs++[.int .i64 (o:Int)]++cs)=some (.bool (is o))) :
 ∀(k i:Nat) (acc:List Int),i+k=n->acc.length<=4*i ->
 zCz (.fn g fs cs) (T.map Def.pv) (occ.map intp) P i5 C D i8 (n:Int) (i:Int) (acc.map intp)=some (zBv (acc++allL T occ is i k))
 | 0,i,acc,h,hl=>by
  rw[zJa,show i=n by omega]
  simp only[zDG,zC,allL,List.range'_zero,List.flatMap_nil,zBM]
  rfl
 |k+1,i,acc,h,hl=>by
  have hi:i<n:=by omega
  have hio:i<occ.length:=by omega
  have ho:occ.getD i 0=occ[i]:=by rw[zAl,zI hio];rfl
  have hstep:allL T occ is i (k+1)=(bif is i&&zOs T occ i then zBO T occ i else [])++allL T occ is (i+1) k:=by
   unfold allL
   rw[List.range'_succ,zCA]
  rw[zJa,hstep]
  simp only[zAK hi,zA2,zA,zY,zN,zI hio,zU,zB,zIK,asFn_mk,his i hi,c_b_mk]
  have skip:=all1 T hT occ g fs cs is P C D i5 i8 n hn hno his k (i+1) acc (by omega) (by omega)
  cases hb:is i with
  |false =>
   simp only[Bool.not_false,zA,Bool.false_and,zC,List.nil_append]
   rw[zX (by omega)];exact skip
  |true =>
   simp only[zAJ,zC,zAA]
   unfold zOs
   rw[ho]
   by_cases h0:occ[i]<0
   ·rw[zD h0,zK (show ¬ 0<=occ[i] by omega)]
    simp only[zA,Bool.false_and,zC,List.nil_append]
    rw[zX (by omega)];exact skip
   rw[zK h0,zD (show 0<=occ[i] by omega)]
   simp only[zC,zAA,zG]
   by_cases h1:occ[i]<(T.length:Int)
   ·rw[zK (show ¬ occ[i]≥(T.length:Int) by omega),zD h1,zC,zA,zO6]
    obtain⟨m,hm⟩:=Int.eq_ofNat_of_zero_le (show 0<=occ[i] by omega)
    have hmT:m<T.length:=by omega
    have hcols:=zK5 hT hmT
    obtain⟨c,hc⟩:=Int.eq_ofNat_of_zero_le (show 0<=zFl T m by omega)
    have hcA:T[m].Cols=(c:Int):=by
     have:=hc;unfold zFl at this;rw[zI hmT]at this;exact this
    rw[hm]
    simp only[zA2,zA,zY,zN,zI hmT,zU,zB,Def.load0,c_i64_mk,hcA]
    have h3:=all3 T (.fn g fs cs) (occ.map intp) P C D i5 i8 (n:Int) i (by omega) c (by omega) c 0 acc (by omega) (by omega)
    refine h3.trans ?_
    have hq:zBO T occ i=zES (i:Int) 0 c:=by unfold zBO;rw[ho,hm,zY,hc,zY]
    rw[hq,<-zAE]
    exact all1 T hT occ g fs cs is P C D i5 i8 n hn hno his k (i+1) (acc++zES (i:Int) 0 c) (by omega) (by rw[zAH,zNk];omega)
   ·rw[zD (show occ[i]≥(T.length:Int) by omega),zK h1]
    simp only[zA,zC,List.nil_append]
    rw[zX (by omega)];exact skip
end Go.Cf

namespace Go.Cf
open Go Go.Ab
def zDH(occ:List Int) (p:List PV) (by_:Int) (sums out:List Int) (ord:Int):PV:= .agg [zBv occ,.slice 6 p,.int .i64 by_,zBv sums,zBv out,.int .i64 ord]
@[simp] theorem zAS(occ:List Int) (p:List PV) (by_:Int) (sums out:List Int) (ord:Int):PV.agg [zBv occ,.slice 6 p,.int .i64 by_,zBv sums,zBv out,.int .i64 ord]=zDH occ p by_ sums out ord:=rfl
def zK6(T:List Def) (occ:List Int):List Int:=allL T occ (λ _=>true) 0 (min occ.length 4)
theorem zSn(T:List Def) (hT:mayC T=true) (occ:List Int) (is:Nat->Bool):∀(k i:Nat),(allL T occ is i k).length<=4*k
 | 0,i=>by simp[allL]
 |k+1,i=>by
  have ih:=zSn T hT occ is k (i+1)
  unfold allL at ih ⊢
  rw[List.range'_succ,zCA,zAH]
  have:(bif is i&&zOs T occ i then zBO T occ i else []).length<=4:=by
   cases hc:is i&&zOs T occ i with
   |false=>simp
   |true =>
    simp only[zF]at hc
    have h2:=hc.2
    unfold zOs at h2
    simp only[zF,zR]at h2
    have:=zK5 hT (i:=(occ.getD i 0).toNat) (by omega)
    simp only[zA,zBO,zNk]
    omega
  omega
theorem z7y(T:List Def) (hT:mayC T=true) (occ:List Int) (p:List PV) (by_:Int) (sums out:List Int) (ord:Int) (g:Nat) (fs cs:List PV) (is:Nat->Bool) (his:∀ o,o<min occ.length 4->wc W g (fs++[.int .i64 (o:Int)]++cs)=some (.bool (is o))) :
 wc W zJG [catp T,zDH occ p by_ sums out ord,.fn g fs cs]=some (zBv (allL T occ is 0 (min occ.length 4))):=by
 have h:=zWS (T.map Def.pv) (occ.map intp) p by_ (sums.map intp) (out.map intp) ord (.fn g fs cs)
 rw[zAj,zH,zH,zH,zAS]at h
 refine h.trans ?_
 have e:(bif (decide ((4:Int)<(((occ.map intp).length:Nat):Int)))then(4:Int)else(((occ.map intp).length:Nat):Int))=((min occ.length 4:Nat):Int):=by
  rw[zG]
  by_cases h4:4<occ.length
  ·rw[zD (by omega),zA,Nat.min_eq_right (by omega)];rfl
  ·rw[zK (by omega),zC,Nat.min_eq_left (by omega)]
 rw[e]
 have:=all1 T hT occ g fs cs is p (sums.map intp) (out.map intp) by_ ord (min occ.length 4) (by omega) (by omega) his (min occ.length 4) 0 [] (by omega) (by simp)
 simpa using this
def zWi(cols:List Int) (e:Ex):Bool:= !(zGa e).isEmpty&&zGb (zGa e) cols
def zWj(by_:Int) (sums out:List Int) (ord:Int) (cols:List Int):Bool :=
 bif by_== -1 then decide (1<=out.length)&&decide (out.length<=8)&&z1Z out&&zGb out cols&&decide (sums.length=0)&&(ord== -1 || inC out ord)
 else zGb [by_] cols&&decide (sums.length<=4)&&zGb sums cols&&decide (out.length=0)&&(ord== -1 || ord==by_)
def mayQ(T:List Def) (occ:List Int) (P:List Ex) (by_:Int) (sums out:List Int) (ord:Int):Bool :=
 mayC T&&decide (1<=occ.length)&&decide (occ.length<=4)&&(occ.all λ t=>decide (0<=t)&&decide (t<(T.length:Int)))&&decide (P.length<=6)&&P.all (zWi (zK6 T occ))&&zWj by_ sums out ord (zK6 T occ)
theorem zUl(e:Ex):(zGa e).length<=30:=by
 unfold zGa
 cases h:mayT e with
 |false=>simp
 |true =>
  have h1:=zWe h
  have h2:=(zNj e.sz).1 e (zO _)
  have h3:(Lib.compact (zGi (zJo e))).length<=(zGi (zJo e)).length:=by
   unfold Lib.compact Lib.compactUpTo
   rw[zG]
   exact Nat.le_trans (zD7 _ _) (by simp)
  rw[zI7]at h3
  simp only[zA];omega
theorem z7z(occ:List PV) (P:List PV) (by_:Int) (sums out:List Int) (ord:Int) (cols:List Int) (l:List PV) (hs:sums.length<=4294967296) (ho:out.length<=4294967296) (hc:cols.length<=1000) :
 zF4 occ P by_ (sums.map intp) (out.map intp) ord (cols.map intp) l (l.length:Int) (l.length:Int)=some (.bool (zWj by_ sums out ord cols)):=by
 rw[zJ6]
 simp only[zDG,zC,zG]
 unfold zWj
 by_cases hb:by_= -1
 ·rw[zIT hb,zA,zA]
  have j3:∀ b,zE0 occ P by_ (sums.map intp) (out.map intp) ord b=some (.bool (b&&decide (sums.length=0)&&(ord== -1 || inC out ord))):=λ b=>by
   rw[zO2]
   cases b with
   |false=>rfl
   |true =>
    simp only[zA,zG,zAA,zH,zKz out ord (by omega),zB,c_b_mk]
    by_cases hs0:sums.length=0
    ·rw[zIT (show((sums.length:Nat):Int)=0 by omega),zD hs0]
     simp only[zA,zAA]
     cases ord== -1<;>rfl
    ·rw[zDI (show((sums.length:Nat):Int)≠0 by omega),zK hs0];rfl
  simp only[j3,zH,z7x out ho,zPI out cols (by omega) (by omega),zB,c_b_mk]
  rw[show decide (((out.length:Nat):Int)≥1)=decide (1<=out.length)from decide_eq_decide.2 (by omega),show decide (((out.length:Nat):Int)<=8)=decide (out.length<=8)from decide_eq_decide.2 (by omega)]
  cases decide (1<=out.length)<;>cases decide (out.length<=8)<;>cases z1Z out<;>simp
 ·rw[zDI hb,zC,zC]
  have e1:PV.slice 0 [PV.int .i64 by_]=zBv [by_]:=rfl
  simp only[e1,zH,zPI [by_] cols (by simp) (by omega),zPI sums cols (by omega) (by omega),zB,c_b_mk]
  rw[show decide (((sums.length:Nat):Int)<=4)=decide (sums.length<=4)from decide_eq_decide.2 (by omega),show(((out.length:Nat):Int)==0)=decide (out.length=0)from by
   by_cases h:out.length=0
   ·rw[zIT (by omega),zD h]
   ·rw[zDI (by omega),zK h]]
  cases zGb [by_] cols<;>cases decide (sums.length<=4)<;>cases zGb sums cols<;>cases decide (out.length=0)<;>cases ord== -1<;>simp
theorem zLw(T:List Def) (occ:List Int) (P:List Ex) (by_:Int) (sums out:List Int) (ord:Int) (hT:T.length<=9223372036854775807) (hocc:occ.length<=9223372036854775807) (hP:P.length<=9223372036854775807) (hok:∀ e∈P,e.ok)
 (hs:sums.length<=4294967296) (ho:out.length<=4294967296):wc W zHS [catp T,zDH occ (P.map Ex.pv) by_ sums out ord]=some (.bool (mayQ T occ P by_ sums out ord)):=by
 have h:=zWL (T.map Def.pv) (occ.map intp) (P.map Ex.pv) by_ (sums.map intp) (out.map intp) ord
 rw[zAj,zH,zH,zH,zAS]at h
 refine h.trans ?_
 rw[zRg T hT]
 simp only[zB,c_b_mk,zG]
 unfold mayQ
 cases h1:mayC T with
 |false=>rfl
 |true =>
 simp only[zAJ,zC,zAA]
 by_cases h2:occ.length<1
 ·rw[zD (show((occ.length:Nat):Int)<1 by omega),zK (show ¬ 1<=occ.length by omega)];simp
 rw[zK (show ¬ ((occ.length:Nat):Int)<1 by omega),zD (show 1<=occ.length by omega)]
 by_cases h3:4<occ.length
 ·rw[zD (show((occ.length:Nat):Int)>4 by omega),zK (show ¬ occ.length<=4 by omega)];simp
 rw[zK (show ¬ ((occ.length:Nat):Int)>4 by omega),zD (show occ.length<=4 by omega)]
 simp only[zC,zAA]
 rw[zSm occ zJF [] [.imm 2 (catp T) 0] (λ t=> !(decide (0<=t)&&decide (t<(T.length:Int)))) (by omega) (λ t _=>by
  have h4:=zS6 t (T.map Def.pv)
  rw[zAj]at h4
  refine h4.trans ?_
  rw[zG]
  by_cases a:t<0
  ·rw[zD a,zK (show ¬ 0<=t by omega)];rfl
  ·rw[zK a,zD (show 0<=t by omega)]
   by_cases b:t<(T.length:Int)
   ·rw[zD b,zK (show ¬ t≥(T.length:Int) by omega)];rfl
   ·rw[zK b,zD (show t≥(T.length:Int) by omega)];rfl)]
 simp only[zB,c_b_mk]
 rw[<- zLs (f:=λ t:Int=>decide (0<=t)&&decide (t<(T.length:Int)))]
 cases h5:occ.any λ t=> !(decide (0<=t)&&decide (t<(T.length:Int))) with
 |true=>simp
 |false =>
 simp only[zC,Bool.not_false,zAA]
 by_cases h6:6<P.length
 ·rw[zD (show((P.length:Nat):Int)>6 by omega),zK (show ¬ P.length<=6 by omega)];simp
 rw[zK (show ¬ ((P.length:Nat):Int)>6 by omega),zD (show P.length<=6 by omega)]
 simp only[zC,zAA,zO1,zAj,zH,zAS]
 have hall:=z7y T h1 occ (P.map Ex.pv) by_ sums out ord zJH [] [] (λ _=>true) (λ o _=>zS7 (o:Int))
 rw[hall]
 have hcl:=zSn T h1 occ (λ _=>true) (min occ.length 4) 0
 have ecols:allL T occ (λ _=>true) 0 (min occ.length 4)=zK6 T occ:=rfl
 rw[ecols]at hcl ⊢
 generalize zK6 T occ=cols at hcl ⊢
 simp only[zB,zDc,zG]
 have hloop:=zPD (λ i=>zF4 (occ.map intp) (P.map Ex.pv) by_ (sums.map intp) (out.map intp) ord (cols.map intp) (P.map Ex.pv) (P.length:Int) i) P.length (λ i=>(P[i]?).all (zWi cols)) (some (.bool false)) (some (.bool (zWj by_ sums out ord cols))) (λ i hi=> ?_) ?_
 ·refine hloop.trans ?_
  rw[z0r P (zWi cols)]
  cases P.all (zWi cols)<;>rfl
 ·have hm:=zAF hi
  conv=>lhs;rw[zJ6]
  simp only[zAK hi,zA2,zA,zY,zN,zI hi,zU,zB,Ex.c_mk,Ex.fold,z4L P[i] (hok _ hm),zDc,zG,Option.all_some]
  have hcl2:(zGa P[i]).length<=9223372036854775807:=by
   have:=zUl P[i];omega
  simp only[zH,zPI (zGa P[i]) cols hcl2 (by omega),zB,c_b_mk]
  rw[zAZ (by omega) (by omega)]
  unfold zWi
  cases hc:zGa P[i] with
  |nil=>rfl
  |cons a r =>
   rw[zDI (show(((a::r).length:Nat):Int)≠0 by simp;omega)]
   simp only[zC,List.isEmpty_cons,Bool.not_false,zAA]
   cases zGb (a::r) cols<;>rfl
 ·have:=z7z (occ.map intp) (P.map Ex.pv) by_ sums out ord cols (P.map Ex.pv) hs ho (by omega)
  simpa using this
end Go.Cf

namespace Go.Cf
open Go Go.Ab
def occI(c:Int):Nat:=bif decide (0<=c)&&decide (c<=15)then(c / 4).toNat else 0
def setC:Nat->List Int->Nat
 |s,[]=>s
 |s,c::r=>setC (s ||| 2 ^ occI c) r
theorem zJW(c:Int):occI c<4:=by
 unfold occI
 cases h:decide (0<=c)&&decide (c<=15) with
 |false=>simp
 |true =>
  simp only[zF,zR]at h
  simp only[zA]
  omega
theorem z10:∀ o:Nat,o<4->2 ^ o<16:=by decide
theorem zZZ:∀ x:Nat,x<16->∀ y:Nat,y<16->x ||| y<16:=by decide +kernel
theorem z4O:∀ x:Nat,x<16->∀ y:Nat,y<16->IntKind.wrap .i64 (((BitVec.toNat (HOr.hOr (BitVec.ofInt 64 (x:Int)) (BitVec.ofInt 64 (y:Int)))):Nat):Int)=((x ||| y:Nat):Int):=by decide +kernel
theorem z5V:∀ x:Nat,x<16->∀ y:Nat,y<16->IntKind.wrap .i64 (((BitVec.toNat (HAnd.hAnd (BitVec.ofInt 64 (x:Int)) (BitVec.ofInt 64 (y:Int)))):Nat):Int)=((x &&& y:Nat):Int):=by decide +kernel
theorem shl4:∀ o:Nat,o<4->IntKind.wrap .i64 ((1:Int)*(HPow.hPow (2:Int) (Min.min (Int.toNat (o:Int)) 64)):Int)=((2 ^ o:Nat):Int):=by decide +kernel
theorem z11:∀(l:List Int) (s:Nat),s<16->setC s l<16
 | [],s,h=>h
 |c::r,s,h=>z11 r _ (zZZ _ h _ (z10 _ (zJW c)))
theorem zXl(l:List Int) (hl:l.length<=1000000):∀(k i s:Nat),i+k=l.length->s<16 ->
 zIJ (s:Int) (l.map intp) (l.length:Int) (i:Int)=some (.int .i64 (setC s (l.drop i):Nat))
 | 0,i,s,h,hs=>by
  rw[zK0,show i=l.length by omega]
  simp[setC]
 |k+1,i,s,h,hs=>by
  have hi:i<l.length:=by omega
  rw[zK0,zAk hi]
  simp only[zAK hi,zA2,zA,zY,zN,zI hi,zU,zB,zIK,z5T,setC]
  have hsp:∃ q b,zXj l[i]= .tup [.int .i64 (occI l[i]:Int),q,.bool b]/\∃ z,q= .int .i64 z:=by
   unfold zXj occI
   cases hc:decide (0<=l[i])&&decide (l[i]<=15) with
   |false=>exact⟨_,_,rfl,_,rfl⟩
   |true =>
    simp only[zF,zR]at hc
    refine⟨.int .i64 (l[i] % 4),true,?_,l[i] % 4,rfl⟩
    simp only[zA]
    rw[show(((l[i] / 4).toNat:Nat):Int)=l[i] / 4 by omega]
  obtain⟨q,b,e,z,rfl⟩:=hsp
  have h4:=zJW l[i]
  rw[e]
  simp only[asTup_mk,zB,zAO,zAg,c_i64_mk,c_b_mk]
  rw[zK (show ¬ ((occI l[i]:Nat):Int)<0 by omega)]
  simp only[zC,zB,c_i64_mk]
  rw[shl4 _ h4,z4O _ hs _ (z10 _ h4),zX (by omega)]
  exact zXl l hl k (i+1) _ (by omega) (zZZ _ hs _ (z10 _ h4))
theorem z12(l:List Int) (hl:l.length<=1000000):wc W zHF [zBv l]=some (.int .i64 (setC 0 l:Nat)):=by
 have h:=zZU (l.map intp)
 rw[zH]at h
 rw[h,zG]
 exact zXl l hl l.length 0 0 (by omega) (by omega)
def setE(e:Ex):Nat:=setC 0 (zGa e)
theorem zWk(e:Ex):setE e<16:=z11 _ _ (by omega)
theorem zRh(e:Ex) (he:e.ok):wc W zKu [e.pv]=some (.int .i64 (setE e:Nat)):=by
 have h:=zZQ e.op e.col e.v.K e.v.N (e.l.map Ex.pv)
 rw[Ex.fold]at h
 rw[h,z4L e he]
 have:=zUl e
 simp only[zB,zDc,zH,z12 (zGa e) (by omega),c_i64_mk]
 rfl
def zA3(s t:Nat):Bool:=decide (s &&& t=t)
theorem zQY(s t:Nat) (hs:s<16) (ht:t<16):wc W zBB [.int .i64 (s:Int),.int .i64 (t:Int)]=some (.bool (zA3 s t)):=by
 rw[zNa,z5V _ hs _ ht]
 unfold zA3
 by_cases h:s &&& t=t
 ·rw[zIT (by rw[h]),zD h]
 ·rw[zDI (by omega),zK h]
theorem z5W(P:List Ex) (g:Nat) (fs cs:List PV) (f:Nat->Bool) (hP:P.length<=1000000) (hok:∀ e∈P,e.ok) (hf:∀ t,t<16->wc W g (fs++[.int .i64 ((t:Nat):Int)]++cs)=some (.bool (f t))) :
 ∀(k i:Nat) (acc:List Int),i+k=P.length->acc.length<=i ->
 zEn (.fn g fs cs) (P.map Ex.pv) (P.length:Int) (i:Int) (acc.map intp)=some (zBv (acc++((List.range' i k).filter λ j=>(P[j]?).any λ e=>f (setE e)).map λ n:Nat=>(n:Int)))
 | 0,i,acc,h,ha=>by
  rw[zIf,show i=P.length by omega]
  simp
 |k+1,i,acc,h,ha=>by
  have hi:i<P.length:=by omega
  have hm:=zAF hi
  rw[zIf,List.range'_succ,List.filter_cons]
  simp only[zAK hi,zA2,zA,zY,zN,zI hi,zU,zB,Ex.c_mk,Ex.fold,zRh _ (hok _ hm),c_i64_mk,asFn_mk,hf _ (zWk _),c_b_mk,Option.any_some]
  rw[zX (by omega)]
  cases f (setE P[i]) with
  |true =>
   simp only[zA,zG,zAA,zD (show acc.length+1<=4294967296 by omega),if_true]
   have:=z5W P g fs cs f hP hok hf k (i+1) (acc++[(i:Int)]) (by omega) (by simp;omega)
   simp only[zAm,zA1,zAd,zAE,List.cons_append,List.nil_append]at this ⊢
   exact this
  |false =>
   simp only[zC,Bool.false_eq_true,if_false]
   exact z5W P g fs cs f hP hok hf k (i+1) acc (by omega) (by omega)
def zK7(P:List Ex) (f:Nat->Bool):List Nat:=(List.range' 0 P.length).filter λ j=>(P[j]?).any λ e=>f (setE e)
theorem z8i(occ:List Int) (P:List Ex) (by_:Int) (sums out:List Int) (ord:Int) (s:Nat) (hs:s<16) (hP:P.length<=1000000) (hok:∀ e∈P,e.ok) :
 wc W zLb [zDH occ (P.map Ex.pv) by_ sums out ord,.int .i64 (s:Int)]=some (zBv ((zK7 P (zA3 s)).map λ n:Nat=>(n:Int))):=by
 have h:=zWO (occ.map intp) (P.map Ex.pv) by_ (sums.map intp) (out.map intp) ord (s:Int)
 have h2:=zU3 (occ.map intp) (P.map Ex.pv) by_ (sums.map intp) (out.map intp) ord (.fn zBB [.int .i64 (s:Int)] [])
 rw[zH,zH,zH,zAS]at h h2
 have h3:=z5W P zBB [.int .i64 (s:Int)] [] (zA3 s) hP hok (λ t ht=>zQY s t hs ht) P.length 0 [] (by omega) (by simp)
 rw[h,h2,zG]
 simp only[zAd,List.nil_append]at h3
 have h4:(0:Int)=((0:Nat):Int):=rfl
 rw[h4,h3]
 simp only[zB,zDc]
 rfl
theorem z8A(t a b:Nat) (s:Nat) (ht:t<16) (hs:s<16) (ha:a<16) (hb:b<16):W zEY false [.pv (.int .i64 (t:Int)),.own 0 0,.own 1 0,.own 2 0] [.var false 0 (.pv (.int .i64 (s:Int))),.var false 0 (.pv (.int .i64 (a:Int))),.var false 0 (.pv (.int .i64 (b:Int)))] =
 some (.pv (.bool (zA3 s t&& !zA3 a t&& !zA3 b t)),[.var false 0 (.pv (.int .i64 (s:Int))),.var false 0 (.pv (.int .i64 (a:Int))),.var false 0 (.pv (.int .i64 (b:Int)))]):=by
 rw[zMd,zQY s t hs ht,zQY a t ha ht,zQY b t hb ht]
 simp only[zB,c_b_mk]
 cases zA3 s t<;>cases zA3 a t<;>rfl
def newF(a b t:Nat):Bool:=zA3 (a ||| b) t&& !zA3 a t&& !zA3 b t
theorem z5X(P:List Ex) (a b:Nat) (ha:a<16) (hb:b<16) (hP:P.length<=1000000) (hok:∀ e∈P,e.ok) :
 ∀(k i:Nat) (acc:List Int),i+k=P.length->acc.length<=i ->
 zDV (P.map Ex.pv) (P.length:Int) (i:Int) ((a ||| b:Nat):Int) (a:Int) (b:Int) (acc.map intp) =
  some (.pv (zBv (acc++((List.range' i k).filter λ j=>(P[j]?).any λ e=>newF a b (setE e)).map λ n:Nat=>(n:Int))),[.var false 0 (.pv (.int .i64 ((a ||| b:Nat):Int))),.var false 0 (.pv (.int .i64 (a:Int))),.var false 0 (.pv (.int .i64 (b:Int)))])
 | 0,i,acc,h,hc=>by
  rw[zGf,show i=P.length by omega]
  simp
 |k+1,i,acc,h,hc=>by
  have hi:i<P.length:=by omega
  have hm:=zAF hi
  rw[zGf,List.range'_succ,List.filter_cons]
  simp only[zAK hi,zA2,zA,zY,zN,zI hi,zU,zB,Ex.c_mk,Ex.fold,zRh _ (hok _ hm),c_i64_mk,z8A (setE P[i]) a b (a ||| b) (zWk _) (zZZ _ ha _ hb) ha hb,k_10961c_mk,c_b_mk,Option.any_some]
  rw[zX (by omega)]
  unfold newF
  cases zA3 (a ||| b) (setE P[i])&& !zA3 a (setE P[i])&& !zA3 b (setE P[i]) with
  |true =>
   simp only[zA,zG,zAA,zD (show acc.length+1<=4294967296 by omega),if_true]
   have:=z5X P a b ha hb hP hok k (i+1) (acc++[(i:Int)]) (by omega) (by simp;omega)
   unfold newF at this
   simp only[zAm,zA1,zAd,zAE,List.cons_append,List.nil_append]at this ⊢
   exact this
  |false =>
   simp only[zC,Bool.false_eq_true,if_false]
   have:=z5X P a b ha hb hP hok k (i+1) acc (by omega) (by omega)
   unfold newF at this
   exact this
def newQ(P:List Ex) (a b:Nat):List Nat:=zK7 P (newF a b)
theorem z8B(occ:List Int) (P:List Ex) (by_:Int) (sums out:List Int) (ord:Int) (a b:Nat) (ha:a<16) (hb:b<16) (hP:P.length<=1000000) (hok:∀ e∈P,e.ok) :
 wc W zFt [zDH occ (P.map Ex.pv) by_ sums out ord,.int .i64 (a:Int),.int .i64 (b:Int)]=some (zBv ((newQ P a b).map λ n:Nat=>(n:Int))):=by
 have h:=zWU (occ.map intp) (P.map Ex.pv) by_ (sums.map intp) (out.map intp) ord (a:Int) (b:Int)
 have h2:=zN9 (occ.map intp) (P.map Ex.pv) by_ (sums.map intp) (out.map intp) ord ((a ||| b:Nat):Int) (a:Int) (b:Int)
 rw[zH,zH,zH,zAS]at h h2
 have h3:=z5X P a b ha hb hP hok P.length 0 [] (by omega) (by simp)
 rw[h,z4O _ ha _ hb,h2,zG]
 simp only[zAd,List.nil_append]at h3
 have h4:(0:Int)=((0:Nat):Int):=rfl
 rw[h4,h3]
 simp only[zB,k_10961c_mk,zDc]
 rfl
theorem has4:∀ s:Nat,s<16->∀ o:Nat,o<4->(IntKind.wrap .i64 (((BitVec.toNat (HAnd.hAnd (BitVec.ofInt 64 (Int.fdiv (s:Int) (HPow.hPow (2:Int) (Min.min (Int.toNat (o:Int)) 64)))) (BitVec.ofInt 64 (1:Int)))):Nat):Int)==(1:Int))=s.testBit o:=by decide +kernel
theorem z8j(s o:Nat) (hs:s<16) (ho:o<4):wc W zF0 [.int .i64 (s:Int),.int .i64 (o:Int)]=some (.bool (s.testBit o)):=by
 rw[zQL,zK (show ¬ ((o:Nat):Int)<0 by omega)]
 simp only[zC,zB,c_i64_mk]
 rw[has4 _ hs _ ho]
def zLx(T:List Def) (occ:List Int) (s:Nat):List Int:=allL T occ (λ o=>s.testBit o) 0 (min occ.length 4)
theorem zUm(T:List Def) (occ:List Int) (P:List Ex) (by_:Int) (sums out:List Int) (ord:Int) (s:Nat) (hsl:s<16) (hT:T.length<=9223372036854775807) (hocc:occ.length<=9223372036854775807) (hP:P.length<=9223372036854775807) (hok:∀ e∈P,e.ok)
 (hs:sums.length<=4294967296) (ho:out.length<=4294967296) (hm:mayQ T occ P by_ sums out ord=true):wc W zKF [catp T,zDH occ (P.map Ex.pv) by_ sums out ord,.int .i64 (s:Int)]=some (zBv (zLx T occ s)):=by
 have h:=zU0 (T.map Def.pv) (occ.map intp) (P.map Ex.pv) by_ (sums.map intp) (out.map intp) ord (s:Int)
 rw[zAj,zH,zH,zH,zAS]at h
 have hmT:mayC T=true:=by
  unfold mayQ at hm
  simp only[zF]at hm
  exact hm.1.1.1.1.1.1
 have hall:=z7y T hmT occ (P.map Ex.pv) by_ sums out ord zF0 [.int .i64 (s:Int)] [] (λ o=>s.testBit o) (λ o h=>z8j s o hsl (by omega))
 rw[h,zLw T occ P by_ sums out ord hT hocc hP hok hs ho,hm]
 simp only[zB,c_b_mk,zAJ,zC,hall,zDc]
 rfl
def exQ(P:List Ex) (idx:List Nat):List Ex:=idx.filterMap λ i=>P[i]?
theorem zSo{P:List Ex} {f:Nat->Bool} {i:Nat} (h:i∈zK7 P f):i<P.length:=by
 unfold zK7 at h
 have:=List.mem_range'_1.1 (zBE.1 h).1
 omega
end Go.Cf

namespace Go.Cf
open Go Go.Ab
inductive Tree where
 |mk (occ:Int) (l:List Tree)
namespace Tree
def occ:Tree->Int | mk o _=>o
def l:Tree->List Tree | mk _ l=>l
@[simp] theorem occ_mk(o:Int) (l:List Tree):(mk o l).occ=o:=rfl
@[simp] theorem l_mk(o:Int) (l:List Tree):(mk o l).l=l:=rfl
@[simp] theorem eta(t:Tree):mk t.occ t.l=t:=by cases t;rfl
theorem ind{P:Tree->Prop} (h:∀ o l,(∀ t∈l,P t)->P (mk o l)) (t:Tree):P t :=
 Tree.rec (motive_1:=P) (motive_2:=λ l=>∀ t∈l,P t) (λ o l ih=>h o l ih) (by simp) (λ a r ha hr=>by simpa using⟨ha,hr⟩) t
mutual
def pv:Tree->PV
 |mk o l=> .agg [.int .i64 o,.slice 3 (pvs l)]
def pvs:List Tree->List PV
 | []=>[]
 |t::r=>pv t::pvs r
end
theorem pvs_map:∀ l:List Tree,pvs l=l.map pv
 | []=>rfl
 |t::r=>by simp[pvs,pvs_map r]
theorem pv_mk(o:Int) (l:List Tree):(mk o l).pv= .agg [.int .i64 o,.slice 3 (l.map pv)]:=by rw[pv,pvs_map]
theorem pv_eq(t:Tree):t.pv= .agg [.int .i64 t.occ,.slice 3 (t.l.map pv)]:=by cases t;exact pv_mk _ _
@[simp] theorem fold(t:Tree):PV.agg [.int .i64 t.occ,.slice 3 (t.l.map pv)]=t.pv:=(pv_eq t).symm
@[simp] theorem c_mk(t:Tree) {R:Type} (K:Int->List PV->Option R):zCV t.pv K=K t.occ (t.l.map pv):=by rw[pv_eq];rfl
def beq:Tree->Tree->Bool
 |mk o l,mk p m=>decide (o=p)&&beqs l m
where beqs:List Tree->List Tree->Bool
 | [],[]=>true
 |a::r,b::s=>beq a b&&beqs r s
 |_,_=>false
theorem z5Y:∀ a b:Tree,beq a b=true↔a=b:=by
 intro a
 induction a using ind with
 |h o l ih =>
  intro b
  obtain⟨p,m⟩:=b
  have:∀(l m:List Tree),(∀ t∈l,∀ b,beq t b=true↔t=b)->(beq.beqs l m=true↔l=m):=by
   intro l
   induction l with
   |nil=>intro m _;cases m<;>simp[beq.beqs]
   |cons a r ih2 =>
    intro m h
    cases m with
    |nil=>simp[beq.beqs]
    |cons b s=>simp[beq.beqs,h a (by simp),ih2 s (λ t ht=>h t (by simp[ht]))]
  simp[beq,this l m ih]
instance:DecidableEq Tree:=λ a b=>decidable_of_iff _ (z5Y a b)
end Tree
namespace Tree
inductive Ok:Tree->Prop
 |mk (o:Int) (l:List Tree) (ho:I64 o) (hl:l.length<=maxLen) (h:∀ t∈l,t.Ok):Ok (.mk o l)
theorem Ok.occ{t:Tree} (h:t.Ok):I64 t.occ:=by cases h;assumption
theorem Ok.len{t:Tree} (h:t.Ok):t.l.length<=9223372036854775807:=by cases h;assumption
theorem Ok.part{t:Tree} (h:t.Ok):∀ x∈t.l,x.Ok:=by cases h;assumption
end Tree
def setO:Nat->Tree->Option Nat
 | 0,_=>none
 |_+1,.mk o []=>bif decide (0<=o)&&decide (o<4)then some (2 ^ o.toNat)else none
 |d+1,.mk o [a,b]=>bif decide (o=0)then(setO d a).bind λ x=>(setO d b).bind λ y=>bif decide (x &&& y=0)then some (x ||| y)else none else none
 |_+1,.mk _ [_]=>none
 |_+1,.mk _ (_::_::_::_)=>none
theorem pow4:∀ o:Nat,o<4->2 ^ o<16:=by decide
theorem or16:∀ x:Nat,x<16->∀ y:Nat,y<16->x ||| y<16:=by decide +kernel
theorem bif_some{α:Type} {c:Bool} {a:Option α} {r:α} (h:(bif c then a else none)=some r):c=true/\a=some r:=by
 cases c with
 |true=>exact⟨rfl,h⟩
 |false=>cases h
theorem zGW{d:Nat} {o:Int} {l:List Tree} {m:Nat} (h:setO (d+1) (.mk o l)=some m) :
 (l=[]/\0<=o/\o<4/\m=2 ^ o.toNat)∨(∃ a b x y,l=[a,b]/\o=0/\setO d a=some x/\setO d b=some y/\x &&& y=0/\m=x ||| y):=by
 rcases l with _ | ⟨a,_ | ⟨b,_ | ⟨c,l⟩⟩⟩<;>simp only[setO]at h
 ·obtain⟨h1,h2⟩:=bif_some h
  simp only[zF,zR,zE]at h1 h2
  exact .inl ⟨rfl,h1.1,h1.2,h2.symm⟩
 ·cases h
 ·obtain⟨h1,h2⟩:=bif_some h
  simp only[zL,zR]at h1 h2
  obtain⟨x,hx,y,hy,h3⟩:=h2
  obtain⟨h4,h5⟩:=bif_some h3
  simp only[zR,zE]at h4 h5
  exact .inr ⟨a,b,x,y,rfl,h1,hx,hy,h4,h5.symm⟩
 ·cases h
theorem zC4:∀(d:Nat) (t:Tree) (m:Nat),setO d t=some m->m<16
 | 0,t,m,h=>by simp[setO]at h
 |d+1,⟨o,l⟩,m,h=>by
  rcases zGW h with⟨rfl,h0,h4,rfl⟩ | ⟨a,b,x,y,rfl,rfl,hx,hy,hxy,rfl⟩
  ·exact pow4 _ (by omega)
  ·exact or16 _ (zC4 d a x hx) _ (zC4 d b y hy)
theorem z8C:∀ x:Nat,x<16->∀ y:Nat,y<16->IntKind.wrap .i64 (((BitVec.toNat (HOr.hOr (BitVec.ofInt 64 (x:Int)) (BitVec.ofInt 64 (y:Int)))):Nat):Int)=((x ||| y:Nat):Int) /\
 ((IntKind.wrap .i64 (((BitVec.toNat (HAnd.hAnd (BitVec.ofInt 64 (x:Int)) (BitVec.ofInt 64 (y:Int)))):Nat):Int))==(0:Int))=decide (x &&& y=0):=by decide +kernel
theorem z8D:∀ o:Nat,o<4->IntKind.wrap .i64 ((1:Int)*(HPow.hPow (2:Int) (Min.min (Int.toNat (bif (decide ((Int.tmod (o:Int) (4:Int))<(0:Int)))then(0:Int)else(Int.tmod (o:Int) (4:Int)))) 64)):Int)=((2 ^ o:Nat):Int):=by decide +kernel
theorem z31:∀(d:Nat) (t:Tree),d<1000->∃ n:Int,wc W zFH [t.pv,.int .i64 (d:Int)]=some (.tup [.int .i64 n,.bool (setO d t).isSome])/\∀ m:Nat,setO d t=some m->n=m
 | 0,t,_=>by
  refine⟨0,?_,λ m h=>by simp[setO]at h⟩
  rw[Tree.pv_eq,zR8]
  simp[zDU,setO]
 |d+1,⟨o,l⟩,hd=>by
  have hne:((((d+1:Nat):Int))==0)=false:=zDI (by omega)
  have hw:IntKind.wrap .i64 ((((d+1:Nat):Int))-1)=(d:Int):=by rw[zAZ (by omega) (by omega)];omega
  rw[Tree.pv_mk,zR8,hne]
  rcases l with _ | ⟨a,_ | ⟨b,_ | ⟨c,l⟩⟩⟩
  ·have hc:decide ((bif (decide ((Int.tmod o (4:Int))<(0:Int)))then(0:Int)else(Int.tmod o (4:Int)))<(0:Int))=false:=by
    by_cases h:Int.tmod o 4<0
    ·simp[h]
    ·simp[h]
   simp only[zC,zAd,List.length_nil,zDU,zQM,show((((0:Nat)):Int) != (0:Int))=false from rfl,show((((0:Nat)):Int)==(2:Int))=false from rfl,show((((0:Nat)):Int)==(0:Int))=true from rfl,zA,hc,zB,c_i64_mk,setO]
   by_cases h0:0<=o
   ·by_cases h4:o<4
    ·obtain⟨n,rfl⟩:=Int.eq_ofNat_of_zero_le h0
     refine⟨_,by rw[zD h0,zD h4];rfl,λ m h=> ?_⟩
     rw[zD h0,zD h4]at h
     simp only[Bool.and_self,zA,zE,zY]at h;subst h
     exact z8D n (by omega)
    ·exact⟨_,by rw[zD h0,zK h4];rfl,λ m h=>by rw[zK h4,Bool.and_false]at h;cases h⟩
   ·exact⟨_,by rw[zK h0];rfl,λ m h=>by rw[zK h0]at h;cases h⟩
  ·exact⟨0,by simp[zDU,setO],λ m h=>by simp[setO]at h⟩
  ·obtain⟨x,hx,ex⟩:=z31 d a (by omega)
   obtain⟨y,hy,ey⟩:=z31 d b (by omega)
   by_cases ho:o=0
   ·subst ho
    simp only[zC,zA1,zAd,List.length_cons,List.length_nil,zDU,show((((0+1+1:Nat)):Int) != (0:Int))=true from rfl,show((((0+1+1:Nat)):Int) != (2:Int))=false from rfl,
     show((((0+1+1:Nat)):Int)==(2:Int))=true from rfl,show((((0+1+1:Nat)):Int)==(0:Int))=false from rfl,zA,bne_self_eq_false,zAO,zAg,zB,Tree.c_mk,Tree.fold,hw,hx,hy,asTup_mk,c_i64_mk,c_b_mk]
    cases ha:setO d a with
    |none=>exact⟨_,by simp[setO,ha];rfl,λ m h=>by simp[setO,ha]at h⟩
    |some p =>
     cases hb:setO d b with
     |none=>exact⟨_,by simp[setO,ha,hb];rfl,λ m h=>by simp[setO,ha,hb]at h⟩
     |some q =>
      have:=ex p ha;subst this
      have:=ey q hb;subst this
      obtain⟨h1,h2⟩:=z8C p (zC4 d a p ha) q (zC4 d b q hb)
      refine⟨((p ||| q:Nat):Int),?_,λ m h=> ?_⟩
      ·simp only[Option.isSome_some,zA,h1,h2,setO,ha,hb,zB,decide_true]
       cases decide (p &&& q=0)<;>rfl
      ·simp only[setO,ha,hb,zB,decide_true,zA]at h
       obtain⟨_,h3⟩:=bif_some h
       simp only[zE]at h3;subst h3;rfl
   ·exact⟨0,by simp[zDU,setO,ho,zH3 ho],λ m h=>by simp[setO,ho]at h⟩
  ·refine⟨0,?_,λ m h=>by simp[setO]at h⟩
   have h1:((((a.pv::b.pv::c.pv::l.map Tree.pv).length:Nat):Int) != 0)=true:=zH3 (by simp;omega)
   have h2:((((a.pv::b.pv::c.pv::l.map Tree.pv).length:Nat):Int) != 2)=true:=zH3 (by simp;omega)
   simp only[zA1,h1,h2,zA,zC,zDU]
   rfl
theorem z8k(t:Tree):wc W zN1 [t.pv]=some (.bool (setO 4 t).isSome):=by
 have h:=zZK t.occ (t.l.map Tree.pv)
 obtain⟨n,h1,_⟩:=z31 4 t (by omega)
 simp only[Tree.fold]at h
 rw[h]
 have h1' :wc W zFH [t.pv,.int .i64 (4:Int)]=some (.tup [.int .i64 n,.bool (setO 4 t).isSome]):=h1
 simp[h1']
theorem z32(t:Tree):wc W zHD [t.pv]=some (.int .i64 (((setO 4 t).getD 0:Nat):Int)):=by
 have h:=zZD t.occ (t.l.map Tree.pv)
 obtain⟨n,h1,h2⟩:=z31 4 t (by omega)
 simp only[Tree.fold]at h
 rw[h]
 have h1' :wc W zFH [t.pv,.int .i64 (4:Int)]=some (.tup [.int .i64 n,.bool (setO 4 t).isSome]):=h1
 simp only[h1',zB,asTup_mk,zAO,zAg,c_i64_mk,c_b_mk]
 cases hs:setO 4 t with
 |none=>rfl
 |some m=>simp[h2 m hs]
end Go.Cf

namespace Go.Cf
open Go Go.Ab
theorem z5Z(cols:List Int) (rows:List (List Val)) (hc:cols.length<=4294967296) (hl:rows.length<=4294967295) (hr:∀ r∈rows,r.length<=4294967296) (hv:∀ r∈rows,ROk r):wc W zEW [bagp cols rows,.slice 6 []]=some (bagp cols rows):=by
 have h:=zXi cols rows [] hc hl hr hv (by simp) (by simp)
 have e:rows.filter (zOr [] cols)=rows:=List.filter_eq_self.2 λ _ _=>rfl
 rw[e]at h
 exact h
theorem z52(T:List Def) (D:List (List (List Val))) (t o:Int) (hT:T.length<=9223372036854775807) (hD:DOk D) (hv:∀ t∈D,∀ r∈t,ROk r):wc W zI8 [catp T,zIo D,.int .i64 t,.int .i64 o]=some (ofP (ofT T D t o)):=by
 have h:=z0t (T.map Def.pv) (D.map tabp) t o
 rw[zAj,zBu]at h
 rw[h,z1X T D hT hD]
 simp only[zB,c_b_mk,zG]
 unfold ofT
 have z:PV.tup [PV.agg [PV.slice 0 [],PV.slice 0 []],PV.bool false]=ofP none:=rfl
 cases hf:fits T D with
 |false=>rfl
 |true =>
  obtain⟨f1,f2,f3⟩:=zMk hf
  have hlen:1<=T.length/\T.length<=4:=by
   unfold mayC at f2
   simp only[zF,zR]at f2
   omega
  rw[zAZ (by omega) (by omega),w_in]
  simp only[zAJ,zC,zB,c_b_mk,zAA]
  by_cases ht:0<=t/\t<=(T.length:Int)-1
  ·rw[zD ht.1,zD ht.2]
   simp only[Bool.and_self,zAJ,zC,z5S,zB,c_i64_mk,zAA]
   by_cases ho:0<=o/\o<=3
   ·rw[zD ho.1,zD ho.2]
    have hc:colI o 0=4*o:=by
     unfold colI
     rw[zD ho.1,zD ho.2]
     simp
    rw[hc,zDI (show 4*o≠ -1 by omega)]
    obtain⟨m,rfl⟩:=Int.eq_ofNat_of_zero_le ht.1
    have hm:m<T.length:=by omega
    have hmD:m<D.length:=by omega
    obtain⟨hc1,hc4⟩:=zK5 f2 hm
    obtain⟨r8,rr⟩:=zXk (f3 m hmD) hc4
    obtain⟨n,hn⟩:=Int.eq_ofNat_of_zero_le (show 0<=zFl T m by omega)
    have hcA:T[m].Cols=(n:Int):=by
     have:=hn;unfold zFl at this;rw[zI hm]at this;exact this
    simp only[zC,zQv,zA2,zA,zY,zN,zI hm,zU,zB,Def.load0,c_i64_mk,hcA,Bool.and_self]
    have hloop:=z1Y o ho (m:Int) (D.map tabp) n (by omega) n 0 [] (by omega) (by simp)
    refine hloop.trans ?_
    rw[zLV]
    simp only[zDG,zC,zA2,zA,zY,zN,zI hmD,zU,zB,zQQ,List.nil_append,zH,zAM,zAY]
    rw[z5Z (zES o 0 n) D[m] (by simp[zES];omega) (by omega) (λ r hr=>by have:=(rr r hr).2.1;omega) (λ r hr=>hv _ (zAF hmD) r hr)]
    simp only[hn,zY,zAl,zI hmD,Option.getD_some]
    rfl
   ·have hb:(decide (0<=o)&&decide (o<=3))=false:=by rw[<- Bool.decide_and];exact zK ho
    have hc:colI o 0= -1:=by unfold colI;rw[hb];rfl
    rw[hc,hb];rfl
  ·have hb:(decide (0<=t)&&decide (t<=(T.length:Int)-1))=false:=by rw[<- Bool.decide_and];exact zK ht
   rw[hb];rfl
structure QT where
 (T:List Def) (D:List (List (List Val))) (occ:List Int) (P:List Ex)
def QT.leaf(q:QT) (o:Nat):List (List Val):=q.D.getD (q.occ.getD o 0).toNat []
theorem zK8:∀(d:Nat) (t:Tree) (m:Nat),setO d t=some m->setO (d+1) t=some m
 | 0,t,m,h=>by simp[setO]at h
 |d+1,.mk o l,m,h=>by
  rcases zGW h with⟨rfl,h1,h2,rfl⟩ | ⟨a,b,x,y,rfl,rfl,hx,hy,h4,rfl⟩
  ·simp[setO,h1,h2]
  ·simp only[setO,zK8 d a x hx,zK8 d b y hy,zB,zD h4,decide_true,zA]
theorem zQZ{d:Nat} {t:Tree} {m:Nat} (h:setO d t=some m):∀ k,setO (d+k) t=some m
 | 0=>h
 |k+1=>zK8 _ _ _ (zQZ h k)
def cntS(m:Nat):Nat:=((List.range 4).filter λ i=>m.testBit i).length
theorem zSp:∀ x:Nat,x<16->∀ y:Nat,y<16->x &&& y=0->cntS (x ||| y)=cntS x+cntS y:=by decide +kernel
theorem zWl:∀ x:Nat,x<16->cntS x<=4:=by decide +kernel
theorem zSq:∀ o:Nat,o<4->cntS (2 ^ o)=1:=by decide +kernel
theorem z4P:∀ x:Nat,x<16->∀ y:Nat,y<16->∀ i:Nat,i<4->(x ||| y).testBit i=(x.testBit i || y.testBit i):=by decide +kernel
theorem zSr:∀ x:Nat,x<16->∀ y:Nat,y<16->x &&& y=0->∀ i:Nat,i<4->¬ (x.testBit i=true/\y.testBit i=true):=by decide +kernel
theorem z54:∀ o:Nat,o<4->(2 ^ o).testBit o=true:=by decide
structure RT (q:QT) (m:Nat) (b:List Int×List (List Val)):Prop where
 cols:∀ c∈b.1,0<=c/\c<=15/\m.testBit (c / 4).toNat=true
 nodup:b.1.Nodup
 rows:∀ r∈b.2,r.length=b.1.length/\r.all mayV=true/\ROk r
 len:b.2.length<=8 ^ cntS m
theorem RT.may{q:QT} {m:Nat} {b:List Int×List (List Val)} (h:RT q m b) (hm:m<16):mayB b.1 b.2=true:=by
 have h8:8 ^ cntS m<=8 ^ 4:=Nat.pow_le_pow_right (by omega) (zWl m hm)
 unfold mayB
 simp only[zF,zR,zAB]
 refine⟨⟨(zK3 _).2 ⟨λ c hc=>⟨(h.cols c hc).1,(h.cols c hc).2.1⟩,h.nodup⟩,λ r hr=> ?_⟩,by have:=h.len;omega⟩
 unfold rowB
 simp only[zF,zR]
 exact⟨(h.rows r hr).1,(h.rows r hr).2.1⟩
theorem RT.join{q:QT} {x y:Nat} {a b:List Int×List (List Val)} (ha:RT q x a) (hb:RT q y b) (hx:x<16) (hy:y<16) (hxy:x &&& y=0) (f:List Val->Bool):RT q (x ||| y) (a.1++b.1,(zBl a.2 b.2).filter f) where
 cols:=λ c hc=>by
  rcases List.mem_append.1 hc with hc | hc
  ·obtain⟨h1,h2,h3⟩:=ha.cols c hc
   exact⟨h1,h2,by rw[z4P _ hx _ hy _ (by omega),h3];rfl⟩
  ·obtain⟨h1,h2,h3⟩:=hb.cols c hc
   exact⟨h1,h2,by rw[z4P _ hx _ hy _ (by omega),h3,Bool.or_true]⟩
 nodup:=List.nodup_append.2 ⟨ha.nodup,hb.nodup,λ c hc d hd e=>by
  subst e
  obtain⟨h1,h2,h3⟩:=ha.cols c hc
  exact zSr _ hx _ hy hxy _ (by omega) ⟨h3,(hb.cols c hd).2.2⟩⟩
 rows:=λ r hr=>by
  have hr2:=(zBE.1 hr).1
  unfold zBl at hr2
  obtain⟨u,hu,hr3⟩:=List.mem_flatMap.1 hr2
  obtain⟨v,hv,rfl⟩:=zAV.1 hr3
  obtain⟨a1,a2,a3⟩:=ha.rows u hu
  obtain⟨b1,b2,b3⟩:=hb.rows v hv
  refine⟨by simp[a1,b1],by rw[List.all_append,a2,b2];rfl,λ z hz=> ?_⟩
  rcases List.mem_append.1 hz with h | h
  ·exact a3 z h
  ·exact b3 z h
 len:=by
  have h1:=zD7 f (zBl a.2 b.2)
  rw[zIn]at h1
  rw[zSp _ hx _ hy hxy,Nat.pow_add]
  exact Nat.le_trans h1 (Nat.mul_le_mul ha.len hb.len)
theorem RT.leaf{q:QT} (hf:fits q.T q.D=true) (hv:∀ t∈q.D,∀ r∈t,ROk r) {o:Nat} (ho:o<4) (ht:0<=q.occ.getD o 0/\q.occ.getD o 0<(q.T.length:Int)) (f:List Val->Bool):RT q (2 ^ o) (zBO q.T q.occ o,(q.leaf o).filter f):=by
 obtain⟨f1,f2,f3⟩:=zMk hf
 obtain⟨m,hm⟩:=Int.eq_ofNat_of_zero_le ht.1
 have hmT:m<q.T.length:=by omega
 have hmD:m<q.D.length:=by omega
 obtain⟨hc1,hc4⟩:=zK5 f2 hmT
 obtain⟨r8,rr⟩:=zXk (f3 m hmD) hc4
 obtain⟨n,hn⟩:=Int.eq_ofNat_of_zero_le (show 0<=zFl q.T m by omega)
 have el:q.leaf o=q.D[m]:=by unfold QT.leaf;rw[hm,zY,zAl,zI hmD];rfl
 have ec:zBO q.T q.occ o=zES (o:Int) 0 n:=by unfold zBO;rw[hm,zY,hn,zY]
 rw[el,ec]
 refine⟨λ c hc=> ?_,?_,λ r hr=> ?_,?_⟩
 ·unfold zES at hc
  obtain⟨i,hi,rfl⟩:=zAV.1 hc
  have:=List.mem_range'_1.1 hi
  refine⟨by omega,by omega,?_⟩
  rw[show((4*(o:Int)+(i:Int)) / 4).toNat=o by omega]
  exact z54 o ho
 ·unfold zES
  exact List.pairwise_map.2 ((List.nodup_range' (s:=0) (n:=n)).imp λ{a b} h e=>h (by omega))
 ·have hr2:=(zBE.1 hr).1
  obtain⟨h1,h2,h3⟩:=rr r hr2
  exact⟨by rw[zNk];omega,h3,hv _ (zAF hmD) r hr2⟩
 ·have h1:=zD7 f q.D[m]
  show(q.D[m].filter f).length<=_
  rw[zSq o ho,Nat.pow_one]
  omega
theorem zXm(c:List Int) (r:List (List Val)):wc W zFG [bagp c r,.bool true]=some (bagp c r):=by
 have h:=zU1 (c.map intp) (r.map rowp) true
 rw[zH,zAM,zAY]at h
 exact h
structure QOk (q:QT):Prop where
 fits:fits q.T q.D=true
 vals:∀ t∈q.D,∀ r∈t,ROk r
 occ:q.occ.length<=4
 inT:∀ t∈q.occ,0<=t/\t<(q.T.length:Int)
 T:q.T.length<=9223372036854775807
 D:DOk q.D
 P:q.P.length<=1000000
 ok:∀ e∈q.P,e.ok/\e.vals
theorem z13{P:List Ex} {idx:List Nat} {e:Ex} (h:e∈exQ P idx):e∈P:=by
 unfold exQ at h
 obtain⟨i,_,hi⟩:=List.mem_filterMap.1 h
 exact zAU hi
theorem z14(P:List Ex) (idx:List Nat):(exQ P idx).length<=idx.length:=List.length_filterMap_le _ _
theorem zUn(P:List Ex) (f:Nat->Bool):(zK7 P f).length<=P.length:=by
 have:=zD7 (λ j=>(P[j]?).any λ e=>f (setE e)) (List.range' 0 P.length)
 rw[List.length_range']at this
 exact this
@[simp] theorem zXn(l:List Ex) {R:Type} (f:List PV->Option R):c_s6 (exsp l) f=f (l.map Ex.pv):=rfl
end Go.Cf

namespace Go.Cf
open Go Go.Ab
theorem z8l:∀ m:Nat,m<16->∀ n:Nat,n<5->decide (Int.fdiv (m:Int) (HPow.hPow (2:Int) (Min.min (Int.toNat (n:Int)) 64))>0)= !decide (m<2 ^ n):=by decide +kernel
theorem zPJ(T:List Def) (occ:List Int) (is:Nat->Bool) (k i:Nat) (c:Int):c∈allL T occ is i k↔∃ o,i<=o/\o<i+k/\is o=true/\zOs T occ o=true/\c∈zBO T occ o:=by
 unfold allL
 simp only[List.mem_flatMap,List.mem_range'_1]
 constructor
 ·rintro⟨o,⟨h1,h2⟩,h3⟩
  cases hb:is o&&zOs T occ o with
  |false=>rw[hb]at h3;cases h3
  |true =>
   rw[hb]at h3
   simp only[zF]at hb
   exact⟨o,h1,h2,hb.1,hb.2,h3⟩
 ·rintro⟨o,h1,h2,h3,h4,h5⟩
  exact⟨o,⟨h1,h2⟩,by rw[h3,h4];exact h5⟩
end Go.Cf

namespace Go.Cf
open Go Go.Ab
theorem zZ0{c d:List Int} {x:Int} (h:inC c x=true):idxI (c++d) (λ y=>x==y)=idxI c (λ y=>x==y):=by
 have h0:c.any (λ y=>x==y)=true:=by
  unfold inC at h
  exact List.any_eq_true.2 ⟨x,zAP h,by simp⟩
 unfold idxI
 rw[List.findIdx?_append]
 cases hf:c.findIdx? (λ y=>x==y) with
 |some i=>rfl
 |none =>
  have:=List.findIdx?_eq_none_iff.1 hf
  obtain⟨y,hy,e⟩:=List.any_eq_true.1 h0
  rw[this y hy]at e;cases e
theorem zDd{c d:List Int} {r s:List Val} {x:Int} (h:inC c x=true) (hl:r.length=c.length):zV (c++d) (r++s) x=zV c r x:=by
 have h1:=(zCd h hl)
 have h3:=zXd c x
 have h4:decide (idxI c (λ y=>x==y)<0)=false:=by rw[zLt,h];rfl
 have hlt:(idxI c (λ y=>x==y)).toNat<r.length:=by omega
 unfold zV
 rw[zZ0 h,h4,zK (show ¬ idxI c (λ y=>x==y)≥(r.length:Int) by omega),zK (show ¬ idxI c (λ y=>x==y)≥((r++s).length:Int) by rw[zAH];omega)]
 simp only[zC,zAl,zA0 hlt]
theorem zWm{c d:List Int} {x:Int} (h:inC c x=false) (hd:inC d x=true):idxI (c++d) (λ y=>x==y)=(c.length:Int)+idxI d (λ y=>x==y):=by
 unfold idxI
 rw[List.findIdx?_append]
 have h1:c.findIdx? (λ y=>x==y)=none:=by
  rw[List.findIdx?_eq_none_iff]
  intro y hy
  unfold inC at h
  have:=of_decide_eq_false h
  simp only[beq_eq_false_iff_ne]
  intro e;subst e;exact this hy
 rw[h1]
 have h2:decide (idxI d (λ y=>x==y)<0)=false:=by rw[zLt,hd];rfl
 have h3:=of_decide_eq_false h2
 unfold idxI at h3
 cases hf:d.findIdx? (λ y=>x==y) with
 |none=>rw[hf]at h3;simp only at h3;omega
 |some i=>simp only[Option.none_or,zU];omega
theorem zFP{c d:List Int} {r s:List Val} {x:Int} (h:inC c x=false) (hd:inC d x=true) (hl:r.length=c.length) (hs:s.length=d.length):zV (c++d) (r++s) x=zV d s x:=by
 have hin:inC (c++d) x=true:=by
  unfold inC at hd ⊢
  exact zD (List.mem_append_right _ (zAP hd))
 obtain⟨h1,h2⟩:=zCd (row:=r++s) hin (by simp[hl,hs])
 obtain⟨h3,h4⟩:=zCd (row:=s) hd hs
 rw[zWm h hd]at h1
 have e:((c.length:Int)+idxI d (λ y=>x==y)).toNat=r.length+(idxI d (λ y=>x==y)).toNat:=by omega
 rw[e,zAT (by omega),Nat.add_sub_cancel_left,h3]at h1
 exact(Option.some.inj h1).symm
theorem z8E:∀ s:Nat,s<16->∀ o:Nat,o<4->∀ i:Nat,i<4->(s ||| 2 ^ o).testBit i=(s.testBit i || decide (i=o)):=by decide +kernel
theorem zXo:∀(l:List Int) (s:Nat) (i:Nat),s<16->i<4->(s.testBit i=true∨∃ c∈l,occI c=i)->(setC s l).testBit i=true
 | [],s,i,hs,hi,h=>by
  rcases h with h | ⟨c,hc,_⟩
  ·exact h
  ·cases hc
 |c::r,s,i,hs,hi,h=>by
  have h4:=zJW c
  refine zXo r _ i (zZZ _ hs _ (z10 _ h4)) hi ?_
  rw[z8E _ hs _ h4 _ hi]
  rcases h with h | ⟨c',hc,e⟩
  ·exact .inl (by rw[h];rfl)
  ·rcases zAD.1 hc with rfl | hc
   ·exact .inl (by rw[zD e.symm,Bool.or_true])
   ·exact .inr ⟨c',hc,e⟩
theorem z33:∀ m:Nat,m<16->∀ s:Nat,s<16->m &&& s=s->∀ o:Nat,o<4->s.testBit o=true->m.testBit o=true:=by decide +kernel
def zMl(q:QT) (e:Ex):Prop:=∀ c∈zGa e,c∈zBO q.T q.occ (occI c)
theorem zQ0{T:List Def} (hT:mayC T=true) {occ:List Int} {o:Nat} (ho:o<4) (ht:zOs T occ o=true) {c:Int} (h:c∈zBO T occ o):occI c=o/\4*(o:Int)<=c/\c<4*(o:Int)+4:=by
 unfold zOs at ht
 simp only[zF,zR]at ht
 have hc:=zK5 hT (i:=(occ.getD o 0).toNat) (by omega)
 unfold zBO zES at h
 obtain⟨i,hi,rfl⟩:=zAV.1 h
 have:=List.mem_range'_1.1 hi
 refine⟨?_,by omega,by omega⟩
 unfold occI
 rw[zD (by omega),zD (by omega)]
 simp only[Bool.and_self,zA]
 omega
theorem zON:∀ m:Nat,m<16->∀ n:Nat,n<5->m<2 ^ n->∀ o:Nat,o<4->m.testBit o=true->o<n:=by decide +kernel
theorem zXp{q:QT} (hq:QOk q) {o:Nat} (ho:o<q.occ.length):zOs q.T q.occ o=true:=by
 have:=hq.inT _ (zAF ho)
 unfold zOs
 rw[zAl,zI ho,Option.getD_some,zD this.1,zD this.2];rfl
theorem zLA{q:QT} (hq:QOk q) {by_:Int} {sums out:List Int} {ord:Int} (h:mayQ q.T q.occ q.P by_ sums out ord=true):∀ e∈q.P,zMl q e:=by
 intro e he c hc
 have hT:mayC q.T=true:=(zMk hq.fits).2.1
 unfold mayQ at h
 simp only[zF,zR,zAB]at h
 have h1:=h.1.2 e he
 unfold zWi zGb at h1
 simp only[zF,zAB]at h1
 have h2:=zAP (h1.2 c hc)
 obtain⟨o,k1,k2,k3,k4,k5⟩:=(zPJ _ _ _ _ _ c).1 h2
 have:=(zQ0 hT (by omega) k4 k5).1
 rw[this];exact k5
end Go.Cf

namespace Go.Cf
open Go Go.Ab
theorem zWn{n:Nat} (h:n<=maxLen):n<=9223372036854775807:=h
theorem zRi{p:PV} (h:Typed cfg zQF p):∃ v:Val,p=v.pv/\VOk v:=by
 obtain⟨ps,rfl,hl⟩:=h.struct_inv (fs:=[(zM0,0),(zM0,1)]) (by kernel_rfl)
 obtain⟨x,qs,rfl,hx,hl⟩:=zBd hl
 obtain⟨y,rfl,hy⟩:=zKM hl
 obtain⟨a,rfl,ha⟩:=zHx hx
 obtain⟨b,rfl,hb⟩:=zHx hy
 exact⟨⟨a,b⟩,rfl,ha,hb⟩
def Row0(r:List Val):Prop:=r.length<=9223372036854775807/\ROk r
theorem zUo{p:PV} (h:Typed cfg zQG p):∃ r:List Val,p=rowp r/\Row0 r:=by
 obtain⟨xs,rfl,hl,hx⟩:=h.slice_inv (e:=zQF) (by kernel_rfl)
 obtain⟨r,rfl,hr⟩:=zJQ (Q:=VOk) (f:=Val.pv) (xs:=xs) (λ x h=>zRi (hx x h))
 exact⟨r,rfl,zWn (by simpa using hl),hr⟩
def Tab0(t:List (List Val)):Prop:=t.length<=9223372036854775807/\∀ r∈t,Row0 r
theorem zQz{p:PV} (h:Typed cfg zM1 p):∃ t:List (List Val),p=tabp t/\Tab0 t:=by
 obtain⟨xs,rfl,hl,hx⟩:=h.slice_inv (e:=zQG) (by kernel_rfl)
 obtain⟨r,rfl,hr⟩:=zJQ (Q:=Row0) (f:=rowp) (xs:=xs) (λ x h=>zUo (hx x h))
 exact⟨r,rfl,zWn (by simpa using hl),hr⟩
theorem zSs{p:PV} (h:Typed cfg zSV p):∃ l:List Int,p=zBv l/\(l.length<=9223372036854775807/\∀ n∈l,I64 n):=by
 obtain⟨xs,rfl,hl,hx⟩:=h.slice_inv (e:=zM0) (by kernel_rfl)
 obtain⟨r,rfl,hr⟩:=zJQ (Q:=I64) (f:=intp) (xs:=xs) (λ x h=>zHx (hx x h))
 exact⟨r,rfl,zWn (by simpa using hl),hr⟩
theorem zXq:∀{l:List Ex},(∀ e∈l,e.lens/\e.vals)->Ex.lensL l/\Ex.valsL l
 | [],_=>⟨trivial,trivial⟩
 |e::r,h=>by
  obtain⟨a,b⟩:=zXq (l:=r) λ x hx=>h x (by simp[hx])
  obtain⟨c,d⟩:=h e (by simp)
  exact⟨⟨c,a⟩,d,b⟩
theorem zOO:∀(n:Nat) (p:PV),SizeOf.sizeOf p<n->Typed cfg zDp p->∃ x:Ex,p=x.pv/\(x.lens/\x.vals)
 | 0,p,h,_=>by omega
 |n+1,p,h,ht=>by
  obtain⟨ps,rfl,hl⟩:=ht.struct_inv (fs:=[(zM0,0),(zM0,1),(zQF,2),(zKL,4)]) (by kernel_rfl)
  obtain⟨x,qs,rfl,hx,hl⟩:=zBd hl
  obtain⟨y,qs,rfl,hy,hl⟩:=zBd hl
  obtain⟨z,qs,rfl,hz,hl⟩:=zBd hl
  obtain⟨u,rfl,hu⟩:=zKM hl
  obtain⟨o,rfl,ho⟩:=zHx hx
  obtain⟨c,rfl,hc⟩:=zHx hy
  obtain⟨v,rfl,hv⟩:=zRi hz
  obtain⟨xs,rfl,hlen,hxs⟩:=hu.slice_inv (e:=zDp) (by kernel_rfl)
  obtain⟨l,rfl,hlo⟩:=zJQ (Q:=λ e:Ex=>e.lens/\e.vals) (f:=Ex.pv) (xs:=xs) (λ x hx=>by
   have h1:=List.sizeOf_lt_of_mem hx
   refine zOO n x ?_ (hxs x hx)
   have h2:SizeOf.sizeOf (PV.slice (cfg.sh zDp) xs)<=SizeOf.sizeOf (PV.agg (([PV.int .i64 o,PV.int .i64 c,v.pv,PV.slice (cfg.sh zDp) xs]:List PV).flatMap PV.cells)):=by
    have e:([PV.int .i64 o,PV.int .i64 c,v.pv,PV.slice (cfg.sh zDp) xs]:List PV).flatMap PV.cells=[PV.int .i64 o,PV.int .i64 c,.int .i64 v.K,.int .i64 v.N,PV.slice (cfg.sh zDp) xs]:=rfl
    rw[e]
    simp only[PV.agg.sizeOf_spec,List.cons.sizeOf_spec,List.nil.sizeOf_spec]
    omega
   have h3:SizeOf.sizeOf (PV.slice (cfg.sh zDp) xs)=1+SizeOf.sizeOf (cfg.sh zDp)+SizeOf.sizeOf xs:=by simp
   omega)
  obtain⟨a,b⟩:=zXq hlo
  refine⟨.mk o c v l,?_,⟨zWn (by simpa using hlen),a⟩,hv,b⟩
  rw[Ex.pv_mk]
  rfl
theorem zWo{p:PV} (h:Typed cfg zDp p):∃ x:Ex,p=x.pv/\(x.lens/\x.vals):=zOO _ p (Nat.lt_succ_self _) h
theorem zSt{p:PV} (h:Typed cfg zKL p):∃ l:List Ex,p=exsp l/\(l.length<=9223372036854775807/\∀ e∈l,e.lens/\e.vals):=by
 obtain⟨xs,rfl,hl,hx⟩:=h.slice_inv (e:=zDp) (by kernel_rfl)
 obtain⟨r,rfl,hr⟩:=zJQ (Q:=λ e:Ex=>e.lens/\e.vals) (f:=Ex.pv) (xs:=xs) (λ x h=>zWo (hx x h))
 exact⟨r,rfl,zWn (by simpa using hl),hr⟩
theorem zZ1{p:PV} (h:Typed cfg zUT p):∃ v:Def,p=v.pv/\True:=by
 obtain⟨ps,rfl,hl⟩:=h.struct_inv (fs:=[(zM0,0),(zM0,1)]) (by kernel_rfl)
 obtain⟨x,qs,rfl,hx,hl⟩:=zBd hl
 obtain⟨y,rfl,hy⟩:=zKM hl
 obtain⟨a,rfl,ha⟩:=zHx hx
 obtain⟨b,rfl,hb⟩:=zHx hy
 exact⟨⟨a,b⟩,rfl,trivial⟩
theorem zZ2{p:PV} (h:Typed cfg z0q p):∃ T:List Def,p=catp T/\T.length<=9223372036854775807:=by
 obtain⟨ps,rfl,hl⟩:=h.struct_inv (fs:=[(zWG,0)]) (by kernel_rfl)
 obtain⟨y,rfl,hy⟩:=zKM hl
 obtain⟨xs,rfl,hlen,hx⟩:=hy.slice_inv (e:=zUT) (by kernel_rfl)
 obtain⟨T,rfl,_⟩:=zJQ (Q:=λ _=>True) (f:=Def.pv) (xs:=xs) (λ x h=>zZ1 (hx x h))
 exact⟨T,rfl,zWn (by simpa using hlen)⟩
theorem zWp{p:PV} (h:Typed cfg zZA p):∃ D:List (List (List Val)),p=zIo D/\DOk D/\∀ t∈D,∀ r∈t,ROk r:=by
 obtain⟨ps,rfl,hl⟩:=h.struct_inv (fs:=[(zQE,0)]) (by kernel_rfl)
 obtain⟨y,rfl,hy⟩:=zKM hl
 obtain⟨xs,rfl,hlen,hx⟩:=hy.slice_inv (e:=zM1) (by kernel_rfl)
 obtain⟨D,rfl,hD⟩:=zJQ (Q:=Tab0) (f:=tabp) (xs:=xs) (λ x h=>zQz (hx x h))
 exact⟨D,rfl,⟨zWn (by simpa using hlen),λ t ht=>(hD t ht).1,λ t ht r hr=>((hD t ht).2 r hr).1⟩,λ t ht r hr=>((hD t ht).2 r hr).2⟩
structure QIn where
 (occ:List Int) (P:List Ex) (by_:Int) (sums out:List Int) (ord:Int)
def QIn.pv(q:QIn):PV:=zDH q.occ (q.P.map Ex.pv) q.by_ q.sums q.out q.ord
def z56(l:List Int):Prop:=l.length<=9223372036854775807/\∀ n∈l,I64 n
structure QIn.Ok (q:QIn):Prop where
 occ:z56 q.occ
 P:q.P.length<=9223372036854775807/\∀ e∈q.P,e.lens/\e.vals
 by_:I64 q.by_
 sums:z56 q.sums
 out:z56 q.out
 ord:I64 q.ord
theorem zUp{p:PV} (h:Typed cfg zWH p):∃ q:QIn,p=q.pv/\q.Ok:=by
 obtain⟨ps,rfl,hl⟩:=h.struct_inv (fs:=[(zSV,0),(zKL,1),(zM0,2),(zSV,3),(zSV,4),(zM0,5)]) (by kernel_rfl)
 obtain⟨x,qs,rfl,hx,hl⟩:=zBd hl
 obtain⟨y,qs,rfl,hy,hl⟩:=zBd hl
 obtain⟨z,qs,rfl,hz,hl⟩:=zBd hl
 obtain⟨u,qs,rfl,hu,hl⟩:=zBd hl
 obtain⟨v,qs,rfl,hv,hl⟩:=zBd hl
 obtain⟨w,rfl,hw⟩:=zKM hl
 obtain⟨a,rfl,ha⟩:=zSs hx
 obtain⟨ps,rfl,hpl,hp⟩:=zSt hy
 obtain⟨b,rfl,hb⟩:=zHx hz
 obtain⟨s,rfl,hs⟩:=zSs hu
 obtain⟨o,rfl,ho⟩:=zSs hv
 obtain⟨d,rfl,hd⟩:=zHx hw
 exact⟨⟨a,ps,b,s,o,d⟩,rfl,ha,⟨hpl,hp⟩,hb,hs,ho,hd⟩
end Go.Cf

namespace Go.Cf
open Go Go.Ab
theorem zZ3(l:List Val) (k:Int) (hl:l.length<=9223372036854775807):wc W zBq [rowp l,.fn zCy [] [.imm 0 (.int .i64 k) 0]]=some (.bool (l.any λ v=>(zEk v).K==k)):=by
 have h:=zII (l.map Val.pv) (.fn zCy [] [.imm 0 (.int .i64 k) 0])
 rw[zZ,zPF l zCy [] [.imm 0 (.int .i64 k) 0] (λ v=>(zEk v).K==k) hl (λ x _=>zWb x k)]at h
 rw[h]
 simp only[zB,c_b_mk]
def addN:List Val->Int
 | []=>0
 |v::r=>(if v.K=0 then v.N else 0)+addN r
def zLy(l:List Val):Nat:=(l.filter λ v=>decide (v.K=0)).length
def sumV(l:List Val):Val:=bif l.any (λ v=>(zEk v).K==2)then badV else if zLy l=0 then⟨1,0⟩else if -9223372036854775808<=addN l/\addN l<=9223372036854775807 then⟨0,addN l⟩else badV
theorem z15{l l' :List Val} (h:l.Perm l'):addN l=addN l' :=by
 induction h with
 |nil=>rfl
 |cons x _ ih=>simp only[addN,ih]
 |swap x y l=>simp only[addN];omega
 |trans _ _ ih1 ih2=>exact ih1.trans ih2
theorem z34{α:Type} {l l' :List α} (h:l.Perm l') (f:α->Bool):l.any f=l'.any f:=by
 rw[Bool.eq_iff_iff,List.any_eq_true,List.any_eq_true]
 constructor
 ·rintro⟨x,hx,hf⟩;exact⟨x,h.mem_iff.1 hx,hf⟩
 ·rintro⟨x,hx,hf⟩;exact⟨x,h.mem_iff.2 hx,hf⟩
theorem z16{l l' :List Val} (h:l.Perm l'):sumV l=sumV l' :=by
 unfold sumV zLy
 rw[z34 h,z15 h,(h.filter _).length_eq]
theorem z17(n:Int):IntKind.wrap .u64 n=n % 18446744073709551616:=by
 simp only[IntKind.wrap,IntKind.bits,IntKind.signed]
 simp
theorem z8m(n:Int) (h0:0<=n) (h1:n<18446744073709551616):IntKind.wrap .i64 n=if n<9223372036854775808 then n else n-18446744073709551616:=by
 simp only[IntKind.wrap,IntKind.bits,IntKind.signed]
 simp
 split<;>omega
theorem z35(h lo N S:Int) (h0:0<=h) (h1:h<18446744073709551616) (l0:0<=lo) (l1:lo<18446744073709551616) (n0: -9223372036854775808<=N) (n1:N<=9223372036854775807)
 (e:(h*18446744073709551616+lo) % 340282366920938463463374607431768211456=S % 340282366920938463463374607431768211456) :
 (((h+((lo+N % 18446744073709551616+0) / 18446744073709551616+(Int.fdiv N 9223372036854775808) % 18446744073709551616) % 18446744073709551616) % 18446744073709551616)*18446744073709551616+(lo+N % 18446744073709551616+0) % 18446744073709551616) % 340282366920938463463374607431768211456=(S+N) % 340282366920938463463374607431768211456:=by
 have hd:Int.fdiv N 9223372036854775808=if N<0 then -1 else 0:=by
  rw[Int.fdiv_eq_ediv_of_nonneg _ (by omega)]
  split<;>omega
 rw[hd]
 split
 ·omega
 ·omega
theorem z36(l:List Val) (hr:ROk l) (hl:l.length<=4294967296):∀(k i:Nat) (h lo:Int) (x y:Int),i+k=l.length->0<=h->h<18446744073709551616->0<=lo->lo<18446744073709551616 ->
 (h*18446744073709551616+lo) % 340282366920938463463374607431768211456=addN (l.take i) % 340282366920938463463374607431768211456 ->
 zHa h lo ((zLy (l.take i):Nat):Int) (l.map Val.pv) (l.length:Int) (i:Int) x y=some (if zLy l=0 then(⟨1,0⟩:Val)else if -9223372036854775808<=addN l/\addN l<=9223372036854775807 then⟨0,addN l⟩else badV).pv:=by
 intro k
 induction k with
 |zero =>
  intro i h lo x y hi h0 h1 l0 l1 e
  have hil:i=l.length:=by omega
  subst hil
  rw[List.take_length]at e ⊢
  rw[zLW]
  simp only[zDG,zC]
  by_cases hm:zLy l=0
  ·rw[if_pos hm,zIT (by omega),zRa];rfl
  ·rw[if_neg hm,zDI (by omega),zC]
   have hb:∀(m:List Val),ROk m-> -(9223372036854775808*(m.length:Int))<=addN m/\addN m<=9223372036854775808*(m.length:Int):=by
    intro m
    induction m with
    |nil=>intro _;simp[addN]
    |cons v m ih =>
     intro hm
     have hv:=(hm v (by simp)).2
     have:=ih (λ z hz=>hm z (by simp[hz]))
     unfold I64 at hv
     simp only[addN,List.length_cons]
     split<;>omega
   have hS:=hb l hr
   rw[z17,z8m lo l0 l1]
   have hd:∀ n:Int, -9223372036854775808<=n->n<=9223372036854775807->Int.fdiv n 9223372036854775808=if n<0 then -1 else 0:=λ n q1 q2=>by
    rw[Int.fdiv_eq_ediv_of_nonneg _ (by omega)]
    split<;>omega
   by_cases hlo:lo<9223372036854775808
   ·rw[if_pos hlo,hd lo (by omega) (by omega),if_neg (by omega)]
    by_cases hh:h=0
    ·subst hh
     rw[zIS (by decide),zC,zPE]
     have hs:addN l=lo:=by omega
     rw[if_pos (by omega),hs];rfl
    ·rw[zH3 (by simpa using hh),zA,zMe]
     have hs:¬ (-9223372036854775808<=addN l/\addN l<=9223372036854775807):=by omega
     rw[if_neg hs];rfl
   ·rw[if_neg hlo,hd (lo-18446744073709551616) (by omega) (by omega),if_pos (by omega)]
    by_cases hh:h=18446744073709551615
    ·subst hh
     rw[zIS (by decide),zC,zPE]
     have hs:addN l=lo-18446744073709551616:=by omega
     rw[if_pos (by omega),hs];rfl
    ·rw[zH3 (by show h≠(-1) % 18446744073709551616;omega),zA,zMe]
     have hs:¬ (-9223372036854775808<=addN l/\addN l<=9223372036854775807):=by omega
     rw[if_neg hs];rfl
 |succ k ih =>
  intro i h lo x y hi h0 h1 l0 l1 e
  have hlt:i<l.length:=by omega
  have hv:=hr l[i] (zAF hlt)
  have hN:=hv.2
  unfold I64 at hN
  have ht:l.take (i+1)=l.take i++[l[i]]:=by rw[List.take_append_getElem]
  have ha:∀(m:List Val) (v:Val),addN (m++[v])=addN m+if v.K=0 then v.N else 0:=by
   intro m v
   induction m with
   |nil=>simp[addN]
   |cons z m ih=>simp only[List.cons_append,addN,ih];omega
  have hmn:∀(m:List Val) (v:Val),zLy (m++[v])=zLy m+if v.K=0 then 1 else 0:=by
   intro m v
   unfold zLy
   by_cases hk:v.K=0<;>simp[List.filter_append,hk]
  rw[zLW]
  simp only[zAK hlt,zA2,zA,zY,zN,zI hlt,zU,zB,Val.c_mk]
  by_cases hk:l[i].K=0
  ·rw[zIS hk,zC,z17,zUW lo _ 0 l0 (by omega) (by omega) (by omega)]
   simp only[zB,asTup_mk,zAO,zAg,c_u64_mk]
   have e2:=z35 h lo l[i].N _ h0 h1 l0 l1 hN.1 hN.2 e
   have hml:zLy (l.take i)<=l.length:=by
    unfold zLy
    exact Nat.le_trans (zD7 _ _) (by rw[List.length_take];omega)
   have hm3:zLy (l.take (i+1))=zLy (l.take i)+1:=by rw[ht,hmn,if_pos hk]
   have ha3:addN (l.take (i+1))=addN (l.take i)+l[i].N:=by rw[ht,ha,if_pos hk]
   rw[z17,z17,z17,zX (show zLy (l.take i)<9223372036854775807 by omega),zX (show i<9223372036854775807 by omega),<-hm3]
   exact ih (i+1) _ _ x y (by omega) (by omega) (by omega) (by omega) (by omega) (by rw[ha3];exact e2)
  ·have hm3:zLy (l.take (i+1))=zLy (l.take i):=by rw[ht,hmn,if_neg hk];rfl
   have ha3:addN (l.take (i+1))=addN (l.take i):=by rw[ht,ha,if_neg hk,Int.add_zero]
   rw[zH3 hk,zA,zX (show i<9223372036854775807 by omega),<-hm3]
   exact ih (i+1) h lo x y (by omega) h0 h1 l0 l1 (by rw[ha3];exact e)
theorem z8n(l:List Val) (hr:ROk l) (hl:l.length<=4294967296):wc W zQB [rowp l]=some (sumV l).pv:=by
 have h:=z0x (l.map Val.pv)
 have hk:=zR9 2
 rw[zZ,hk]at h
 rw[h]
 simp only[zB,zZ3 l 2 (by omega),c_b_mk]
 unfold sumV
 cases l.any (λ v=>(zEk v).K==2) with
 |true=>rw[zMe];rfl
 |false =>
  have:=z36 l hr hl l.length 0 0 0 0 0 (by omega) (by omega) (by omega) (by omega) (by omega) rfl
  rw[zG]
  exact this
end Go.Cf

namespace Go.Cf
theorem zET{α:Type} (le:α->α->Bool):∀(n:Nat) (s1 t1 s2 t2:List α),s1.length+s2.length=n ->
 (∀ x∈t1,∀ y∈s2,le x y=false)->(∀ x∈s1,∀ y∈t2,le x y=true) ->
 List.merge (s1++t1) (s2++t2) le=List.merge s1 s2 le++List.merge t1 t2 le
 |n,[],t1,[],t2,h,h1,h2=>by simp
 |n,[],[],y::s2,t2,h,h1,h2=>by simp
 |n+1,[],x::t1,y::s2,t2,h,h1,h2=>by
  have hxy:=h1 x (by simp) y (by simp)
  have ih:=zET le n [] (x::t1) s2 t2 (by simp at h ⊢;omega) (λ a ha b hb=>h1 a ha b (by simp[hb])) (λ a ha=>by simp at ha)
  simp only[List.nil_append,List.nil_merge]at ih ⊢
  rw[List.cons_append,List.cons_merge_cons,if_neg (by rw[hxy];decide),ih]
  rfl
 |n,x::s1,t1,[],[],h,h1,h2=>by simp
 |n+1,x::s1,t1,[],z::t2,h,h1,h2=>by
  have hxz:=h2 x (by simp) z (by simp)
  have ih:=zET le n s1 t1 [] (z::t2) (by simp at h ⊢;omega) (λ a ha b hb=>by simp at hb) (λ a ha b hb=>h2 a (by simp[ha]) b hb)
  simp only[List.nil_append,List.merge_right]at ih ⊢
  rw[List.cons_append,List.cons_merge_cons,if_pos hxz,ih]
  rfl
 |n+1,x::s1,t1,y::s2,t2,h,h1,h2=>by
  simp only[List.cons_append,List.cons_merge_cons]
  by_cases hxy:le x y=true
  ·rw[if_pos hxy,if_pos hxy]
   have ih:=zET le n s1 t1 (y::s2) t2 (by simp at h ⊢;omega) h1 (λ a ha b hb=>h2 a (by simp[ha]) b hb)
   rw[<- List.cons_append,ih];rfl
  ·rw[if_neg hxy,if_neg hxy]
   have ih:=zET le n (x::s1) t1 s2 t2 (by simp at h ⊢;omega) (λ a ha b hb=>h1 a ha b (by simp[hb])) h2
   rw[<- List.cons_append,ih];rfl
 | 0,[],x::t1,y::s2,t2,h,h1,h2=>by simp at h
 | 0,x::s1,t1,[],z::t2,h,h1,h2=>by simp at h
 | 0,x::s1,t1,y::s2,t2,h,h1,h2=>by simp at h
theorem zRA{α:Type} (le:α->α->Bool) (x:α) (s t:List α) (hs:∀ y∈s,le x y=false) (ht:∀ y∈t,le x y=true):List.merge [x] (s++t) le=s++x::t:=by
 have h:=zET le s.length [] [x] s t (by simp) (λ a ha b hb=>by simp at ha;subst ha;exact hs b hb) (λ a ha=>by simp at ha)
 rw[List.nil_append,List.nil_merge]at h
 rw[h]
 congr 1
 cases t with
 |nil=>simp
 |cons z t =>
  rw[List.cons_merge_cons,if_pos (ht z (by simp)),List.nil_merge]
theorem zK9{α:Type} (le:α->α->Bool) (y:α) (s t:List α) (hs:∀ x∈s,le x y=true) (ht:∀ x∈t,le x y=false):List.merge (s++t) [y] le=s++y::t:=by
 have h:=zET le s.length s t [] [y] (by simp) (λ a ha b hb=>by simp at hb) (λ a ha b hb=>by simp at hb;subst hb;exact hs a ha)
 rw[List.nil_append,List.merge_right]at h
 rw[h]
 congr 1
 cases t with
 |nil=>simp
 |cons z t =>
  rw[List.cons_merge_cons,if_neg (by rw[ht z (by simp)];decide),List.merge_right]
def sw{α:Type} (l:List α) (i j:Nat):List α:=match l[i]?,l[j]? with | some x,some y=>(l.set i y).set j x | _,_=>l
theorem z8F{α:Type} (P M Q:List α) (x y:α):sw (P++x::(M++y::Q)) P.length (P.length+1+M.length)=P++y::(M++x::Q):=by
 have h1:(P++x::(M++y::Q))[P.length]? =some x:=by simp
 have h2:(P++x::(M++y::Q))[P.length+1+M.length]? =some y:=by
  rw[zAT (by omega),show P.length+1+M.length-P.length=M.length+1 by omega,zAg,zAT (zO _)]
  simp
 unfold sw
 rw[h1,h2]
 simp only
 rw[List.set_append_right _ _ (zO _),Nat.sub_self,List.set_cons_zero,List.set_append_right _ _ (by omega),show P.length+1+M.length-P.length=M.length+1 by omega,List.set_cons_succ,List.set_append_right _ _ (zO _),Nat.sub_self,List.set_cons_zero]
def zRB{α:Type}:Nat->Nat->Nat->List α->List α
 | 0,_,_,l=>l
 |n+1,a,b,l=>zRB n (a+1) (b+1) (sw l a b)
theorem zLB{α:Type}:∀(n:Nat) (P A M B Q:List α),A.length=n->B.length=n->zRB n P.length (P.length+n+M.length) (P++(A++(M++(B++Q))))=P++(B++(M++(A++Q)))
 | 0,P,A,M,B,Q,hA,hB=>by
  have h1:A=[]:=zCN.1 hA
  have h2:B=[]:=zCN.1 hB
  subst h1;subst h2;rfl
 |n+1,P,[],M,B,Q,hA,hB=>by simp at hA
 |n+1,P,x::A,M,[],Q,hA,hB=>by simp at hB
 |n+1,P,x::A,M,y::B,Q,hA,hB=>by
  have hA' :A.length=n:=by simpa using hA
  have hB' :B.length=n:=by simpa using hB
  have e:=z8F P (A++M) (B++Q) x y
  rw[zAE,zAE]at e
  have ih:=zLB n (P++[y]) A (M++[x]) B Q hA' hB'
  simp only[zAE,zAH,List.length_singleton,List.cons_append,List.nil_append]at ih e ⊢
  unfold zRB
  rw[show P.length+(n+1)+M.length=P.length+1+(A.length+M.length) by omega,e]
  rw[show P.length+1+(A.length+M.length)+1=P.length+1+n+(M.length+1) by omega]
  exact ih
def rotG{α:Type} (m:Nat):Nat->Nat->Nat->List α->List α
 | 0,_,_,l=>l
 |f+1,i,j,l=>if i=j then zRB i (m-i) m l else if i>j then rotG m f (i-j) j (zRB j (m-i) m l)else rotG m f i (j-i) (zRB i (m-i) (m+j-i) l)
theorem zQ1{α:Type}:∀(f i j:Nat) (P X Y Q:List α),X.length=i->Y.length=j->0<i->0<j->i+j<=f ->
 rotG (P.length+i) f i j (P++(X++(Y++Q)))=P++(Y++(X++Q))
 | 0,i,j,P,X,Y,Q,hX,hY,hi,hj,hf=>by omega
 |f+1,i,j,P,X,Y,Q,hX,hY,hi,hj,hf=>by
  unfold rotG
  by_cases e:i=j
  ·rw[if_pos e]
   subst e
   have h:=zLB i P X [] Y Q hX hY
   simp only[List.nil_append,List.length_nil,Nat.add_zero]at h
   rw[show P.length+i-i=P.length by omega]
   exact h
  ·rw[if_neg e]
   by_cases g:i>j
   ·rw[if_pos g]
    obtain⟨X1,X2,rfl,h1⟩:∃ X1 X2,X=X1++X2/\X1.length=j:=⟨X.take j,X.drop j,(List.take_append_drop j X).symm,by simp;omega⟩
    have h2:X2.length=i-j:=by simp at hX;omega
    have h:=zLB j P X1 X2 Y Q h1 hY
    rw[show P.length+j+X2.length=P.length+i by omega]at h
    rw[show P.length+i-i=P.length by omega]
    simp only[zAE]at h ⊢
    rw[h]
    have ih:=zQ1 f (i-j) j (P++Y) X2 X1 Q h2 h1 (by omega) hj (by omega)
    simp only[zAE,zAH]at ih
    rw[show P.length+i=P.length+Y.length+(i-j) by omega]
    exact ih
   ·rw[if_neg g]
    obtain⟨Y1,Y2,rfl,h1⟩:∃ Y1 Y2,Y=Y1++Y2/\Y1.length=j-i:=⟨Y.take (j-i),Y.drop (j-i),(List.take_append_drop (j-i) Y).symm,by simp;omega⟩
    have h2:Y2.length=i:=by simp at hY;omega
    have h:=zLB i P X Y1 Y2 Q hX h2
    rw[show P.length+i+Y1.length=P.length+i+j-i by omega]at h
    rw[show P.length+i-i=P.length by omega]
    simp only[zAE]at h ⊢
    rw[h]
    have ih:=zQ1 f i (j-i) P Y2 Y1 (X++Q) h2 h1 hi (by omega) (by omega)
    exact ih
def bs(q:Nat->Bool):Nat->Nat->Nat->Nat
 | 0,lo,_=>lo
 |f+1,lo,hi=>if lo<hi then(if q ((lo+hi) / 2)then bs q f ((lo+hi) / 2+1) hi else bs q f lo ((lo+hi) / 2))else lo
theorem zQ2(q:Nat->Bool):∀(f lo hi:Nat),hi-lo<=f->lo<=hi->(∀ c d,lo<=c->c<=d->d<hi->q d=true->q c=true) ->
 lo<=bs q f lo hi/\bs q f lo hi<=hi/\(∀ c,lo<=c->c<bs q f lo hi->q c=true)/\∀ c,bs q f lo hi<=c->c<hi->q c=false
 | 0,lo,hi,h,hle,hm=>by
  unfold bs
  exact⟨zO _,hle,λ c h1 h2=>by omega,λ c h1 h2=>by omega⟩
 |f+1,lo,hi,h,hle,hm=>by
  unfold bs
  by_cases hlt:lo<hi
  ·rw[if_pos hlt]
   by_cases hq:q ((lo+hi) / 2)=true
   ·rw[if_pos hq]
    obtain⟨k1,k2,k3,k4⟩:=zQ2 q f ((lo+hi) / 2+1) hi (by omega) (by omega) (λ c d h1 h2 h3 h4=>hm c d (by omega) h2 h3 h4)
    refine⟨by omega,k2,λ c h1 h2=> ?_,k4⟩
    by_cases hc:c<=(lo+hi) / 2
    ·exact hm c _ h1 hc (by omega) hq
    ·exact k3 c (by omega) h2
   ·rw[if_neg hq]
    obtain⟨k1,k2,k3,k4⟩:=zQ2 q f lo ((lo+hi) / 2) (by omega) (by omega) (λ c d h1 h2 h3 h4=>hm c d h1 h2 (by omega) h4)
    refine⟨k1,by omega,k3,λ c h1 h2=> ?_⟩
    by_cases hc:c<(lo+hi) / 2
    ·exact k4 c h1 hc
    ·cases hqc:q c with
     |false=>rfl
     |true=>exact absurd (hm _ c (by omega) (by omega) h2 hqc) hq
  ·rw[if_neg hlt]
   exact⟨zO _,hle,λ c h1 h2=>by omega,λ c h1 h2=>by omega⟩
theorem z4Q{α:Type} (P M Q:List α) (x y:α):sw (P++x::(M++y::Q)) (P.length+1+M.length) P.length=P++y::(M++x::Q):=by
 have h1:(P++x::(M++y::Q))[P.length]? =some x:=by simp
 have h2:(P++x::(M++y::Q))[P.length+1+M.length]? =some y:=by
  rw[zAT (by omega),show P.length+1+M.length-P.length=M.length+1 by omega,zAg,zAT (zO _)]
  simp
 unfold sw
 rw[h1,h2]
 simp only
 rw[List.set_append_right _ _ (by omega),show P.length+1+M.length-P.length=M.length+1 by omega,List.set_cons_succ,List.set_append_right _ _ (zO _),Nat.sub_self,List.set_cons_zero,List.set_append_right _ _ (zO _),Nat.sub_self,List.set_cons_zero]
def mvR{α:Type}:Nat->Nat->List α->List α
 | 0,_,l=>l
 |n+1,k,l=>mvR n (k+1) (sw l k (k+1))
theorem zXr{α:Type}:∀(n:Nat) (P S Q:List α) (x:α),S.length=n->mvR n P.length (P++x::(S++Q))=P++(S++x::Q)
 | 0,P,S,Q,x,h=>by
  have h1:S=[]:=zCN.1 h
  subst h1;rfl
 |n+1,P,[],Q,x,h=>by simp at h
 |n+1,P,y::S,Q,x,h=>by
  have e:=z8F P [] (S++Q) x y
  simp only[List.nil_append,List.length_nil,Nat.add_zero]at e
  have ih:=zXr n (P++[y]) S Q x (by simpa using h)
  simp only[zAE,zAH,List.length_singleton,List.cons_append,List.nil_append]at ih ⊢
  unfold mvR
  rw[e]
  exact ih
def mvL{α:Type}:Nat->Nat->List α->List α
 | 0,_,l=>l
 |n+1,k,l=>mvL n (k-1) (sw l k (k-1))
theorem zXs{α:Type}:∀(n:Nat) (P S Q:List α) (y:α),S.length=n->mvL n (P.length+n) (P++(S++y::Q))=P++y::(S++Q)
 | 0,P,S,Q,y,h=>by
  have h1:S=[]:=zCN.1 h
  subst h1;rfl
 |n+1,P,S,Q,y,h=>by
  obtain⟨S',x,rfl⟩:∃ S' x,S=S' ++[x]:=⟨S.dropLast,S.getLast (by intro e;subst e;simp at h),(List.dropLast_concat_getLast _).symm⟩
  have hS:S'.length=n:=by simpa using h
  have e:=z4Q (P++S') [] Q x y
  simp only[List.nil_append,List.length_nil,Nat.add_zero,zAH,zAE,hS]at e
  have ih:=zXs n P S' (x::Q) y hS
  simp only[zAE,List.cons_append,List.nil_append]at ih ⊢
  unfold mvL
  rw[show P.length+(n+1)-1=P.length+n by omega,show P.length+(n+1)=P.length+n+1 by omega,e]
  exact ih
section
variable {α:Type} (le:α->α->Bool)
def leO(l:List α) (i j:Nat):Bool:=match l[i]?,l[j]? with | some x,some y=>le x y | _,_=>true
def symF:Nat->Nat->Nat->Nat->List α->List α
 | 0,_,_,_,l=>l
 |f+1,a,m,b,l =>
  if m-a=1 then mvR (bs (λ h=> !leO le l a h) (b-m) m b-1-a) a l
  else if b-m=1 then mvL (m-bs (λ h=>leO le l h m) (m-a) a m) m l
  else
   let mid:=(a+b) / 2
   let n:=mid+m
   let s:=if m>mid then n-b else a
   let r:=if m>mid then mid else m
   let st:=bs (λ c=>leO le l c (n-1-c)) (r-s) s r
   let en:=n-st
   let l1:=if st<m/\m<en then rotG m (en-st) (m-st) (en-m) l else l
   let l2:=if a<st/\st<mid then symF f a st mid l1 else l1
   if mid<en/\en<b then symF f mid en b l2 else l2
theorem zFQ{le:α->α->Bool} (hr:∀ x,le x x=true) {X:List α} (hX:X.Pairwise λ x y=>le x y=true) {i j:Nat} {x y:α} (hi:X[i]? =some x) (hj:X[j]? =some y) (hij:i<=j):le x y=true:=by
 rcases Nat.lt_or_eq_of_le hij with h | h
 ·obtain⟨h1,rfl⟩:=zQ.1 hi
  obtain⟨h2,rfl⟩:=zQ.1 hj
  exact List.pairwise_iff_getElem.1 hX i j h1 h2 h
 ·subst h
  rw[hi]at hj;cases hj;exact hr _
theorem zQ3(X:List α):List.merge X [] le=X:=by simp
theorem zHd(X Y:List α):(List.merge X Y le).length=X.length+Y.length:=by
 rw[(List.merge_perm_append (le:=le) (xs:=X) (ys:=Y)).length_eq,zAH]
theorem zQ4(hr:∀ x,le x x=true) (ht:∀ x y z,le x y=true->le y z=true->le x z=true):∀(f:Nat) (P X Y Q:List α),X≠[]->Y≠[]->X.Pairwise (λ x y=>le x y=true)->Y.Pairwise (λ x y=>le x y=true)->X.length+Y.length<=f ->
 symF le f P.length (P.length+X.length) (P.length+X.length+Y.length) (P++(X++(Y++Q)))=P++(List.merge X Y le++Q)
 | 0,P,X,Y,Q,hX,hY,sX,sY,hf=>by
  have:=List.length_pos_iff.2 hX;omega
 |f+1,P,X,Y,Q,hX,hY,sX,sY,hf=>by
  have lX:=List.length_pos_iff.2 hX
  have lY:=List.length_pos_iff.2 hY
  have gX:∀ i,i<X.length->(P++(X++(Y++Q)))[P.length+i]? =X[i]? :=λ i hi=>by
   rw[zAT (by omega),show P.length+i-P.length=i by omega,zA0 hi]
  have gY:∀ i,i<Y.length->(P++(X++(Y++Q)))[P.length+X.length+i]? =Y[i]? :=λ i hi=>by
   rw[zAT (by omega),show P.length+X.length+i-P.length=X.length+i by omega,zAT (by omega),show X.length+i-X.length=i by omega,zA0 hi]
  have q0:∀ i j x y,X[i]? =some x->Y[j]? =some y->leO le (P++(X++(Y++Q))) (P.length+i) (P.length+X.length+j)=le x y:=λ i j x y hi hj=>by
   have h1:=gX i (zQ.1 hi).1
   have h2:=gY j (zQ.1 hj).1
   unfold leO
   rw[h1,h2,hi,hj]
  unfold symF
  by_cases e1:X.length=1
  ·rw[if_pos (by omega)]
   obtain⟨x,rfl⟩:=List.length_eq_one_iff.1 e1
   have qv:∀ h y,P.length+1<=h->Y[h-(P.length+1)]? =some y->leO le (P++([x]++(Y++Q))) P.length h=le x y:=λ h y h1 h2=>by
    have:=q0 0 (h-(P.length+1)) x y rfl h2
    rw[show P.length+[x].length+(h-(P.length+1))=h by simp;omega]at this
    exact this
   have bsp:=zQ2 (λ h=> !leO le (P++([x]++(Y++Q))) P.length h) (P.length+[x].length+Y.length-(P.length+[x].length)) (P.length+[x].length) (P.length+[x].length+Y.length) (zO _) (by omega) (λ c d h1 h2 h3 h4=>by
    simp only[List.length_singleton]at h1 h3
    have cl:c-(P.length+1)<Y.length:=by omega
    have dl:d-(P.length+1)<Y.length:=by omega
    have v1:=qv c _ h1 (zI cl)
    have v2:=qv d _ (by omega) (zI dl)
    have h4:(!leO le (P++([x]++(Y++Q))) P.length d)=true:=h4
    show(!leO le (P++([x]++(Y++Q))) P.length c)=true
    rw[v2]at h4
    rw[v1]
    have k:=zFQ hr sY (zI cl) (zI dl) (by omega)
    cases hle:le x Y[c-(P.length+1)] with
    |false=>rfl
    |true=>rw[ht _ _ _ hle k]at h4;cases h4)
   generalize bs (λ h=> !leO le (P++([x]++(Y++Q))) P.length h) (P.length+[x].length+Y.length-(P.length+[x].length)) (P.length+[x].length) (P.length+[x].length+Y.length)=i at bsp ⊢
   simp only[List.length_singleton]at bsp
   obtain⟨b1,b2,b3,b4⟩:=bsp
   obtain⟨Y1,Y2,hYe,hY1⟩:∃ Y1 Y2,Y=Y1++Y2/\Y1.length=i-(P.length+1):=⟨Y.take (i-(P.length+1)),Y.drop (i-(P.length+1)),(List.take_append_drop _ Y).symm,by simp;omega⟩
   have lY2:Y1.length+Y2.length=Y.length:=by rw[hYe];simp
   have d1:∀ y∈Y1,le x y=false:=λ y hy=>by
    obtain⟨j,hj,ej⟩:=List.getElem_of_mem hy
    have g:Y[j]? =some y:=by rw[hYe,zA0 hj,<-ej];exact zI hj
    have v:=qv (P.length+1+j) y (by omega) (by rw[show P.length+1+j-(P.length+1)=j by omega];exact g)
    have h:(!leO le (P++([x]++(Y++Q))) P.length (P.length+1+j))=true:=b3 (P.length+1+j) (by omega) (by omega)
    rw[v]at h
    simpa using h
   have d2:∀ y∈Y2,le x y=true:=λ y hy=>by
    obtain⟨j,hj,ej⟩:=List.getElem_of_mem hy
    have g:Y[Y1.length+j]? =some y:=by rw[hYe,zAT (by omega),show Y1.length+j-Y1.length=j by omega,<-ej];exact zI hj
    have v:=qv (P.length+1+(Y1.length+j)) y (by omega) (by rw[show P.length+1+(Y1.length+j)-(P.length+1)=Y1.length+j by omega];exact g)
    have h:(!leO le (P++([x]++(Y++Q))) P.length (P.length+1+(Y1.length+j)))=false:=b4 (P.length+1+(Y1.length+j)) (by omega) (by omega)
    rw[v]at h
    simpa using h
   have hm:=zRA le x Y1 Y2 d1 d2
   have hv:=zXr (i-1-P.length) P Y1 (Y2++Q) x (by omega)
   rw[hYe,hm]
   simp only[zAE,List.cons_append,List.nil_append]at hv ⊢
   exact hv
  ·rw[if_neg (by omega)]
   by_cases e2:Y.length=1
   ·rw[if_pos (by omega)]
    obtain⟨y,rfl⟩:=List.length_eq_one_iff.1 e2
    have qv:∀ h x,P.length<=h->X[h-P.length]? =some x->leO le (P++(X++([y]++Q))) h (P.length+X.length)=le x y:=λ h x h1 h2=>by
     have:=q0 (h-P.length) 0 x y h2 rfl
     rw[show P.length+(h-P.length)=h by omega]at this
     exact this
    have bsp:=zQ2 (λ h=>leO le (P++(X++([y]++Q))) h (P.length+X.length)) (P.length+X.length-P.length) P.length (P.length+X.length) (zO _) (by omega) (λ c d h1 h2 h3 h4=>by
     have cl:c-P.length<X.length:=by omega
     have dl:d-P.length<X.length:=by omega
     have v1:=qv c _ h1 (zI cl)
     have v2:=qv d _ (by omega) (zI dl)
     have h4:leO le (P++(X++([y]++Q))) d (P.length+X.length)=true:=h4
     show leO le (P++(X++([y]++Q))) c (P.length+X.length)=true
     rw[v2]at h4
     rw[v1]
     exact ht _ _ _ (zFQ hr sX (zI cl) (zI dl) (by omega)) h4)
    generalize bs (λ h=>leO le (P++(X++([y]++Q))) h (P.length+X.length)) (P.length+X.length-P.length) P.length (P.length+X.length)=i at bsp ⊢
    obtain⟨b1,b2,b3,b4⟩:=bsp
    obtain⟨X1,X2,hXe,hX1⟩:∃ X1 X2,X=X1++X2/\X1.length=i-P.length:=⟨X.take (i-P.length),X.drop (i-P.length),(List.take_append_drop _ X).symm,by simp;omega⟩
    have lX2:X1.length+X2.length=X.length:=by rw[hXe];simp
    have d1:∀ x∈X1,le x y=true:=λ x hx=>by
     obtain⟨j,hj,ej⟩:=List.getElem_of_mem hx
     have g:X[j]? =some x:=by rw[hXe,zA0 hj,<-ej];exact zI hj
     have v:=qv (P.length+j) x (by omega) (by rw[show P.length+j-P.length=j by omega];exact g)
     have h:leO le (P++(X++([y]++Q))) (P.length+j) (P.length+X.length)=true:=b3 (P.length+j) (by omega) (by omega)
     rw[v]at h;exact h
    have d2:∀ x∈X2,le x y=false:=λ x hx=>by
     obtain⟨j,hj,ej⟩:=List.getElem_of_mem hx
     have g:X[X1.length+j]? =some x:=by rw[hXe,zAT (by omega),show X1.length+j-X1.length=j by omega,<-ej];exact zI hj
     have v:=qv (P.length+(X1.length+j)) x (by omega) (by rw[show P.length+(X1.length+j)-P.length=X1.length+j by omega];exact g)
     have h:leO le (P++(X++([y]++Q))) (P.length+(X1.length+j)) (P.length+X.length)=false:=b4 (P.length+(X1.length+j)) (by omega) (by omega)
     rw[v]at h;exact h
    have hm:=zK9 le y X1 X2 d1 d2
    have hv:=zXs (P.length+X.length-i) (P++X1) X2 Q y (by omega)
    rw[zAH,show P.length+X1.length+(P.length+X.length-i)=P.length+X.length by omega]at hv
    generalize hN:P.length+X.length=N at hv ⊢
    rw[hXe,hm]
    simp only[zAE,List.cons_append,List.nil_append]at hv ⊢
    exact hv
   ·rw[if_neg (by omega)]
    simp only
    generalize hmid:(P.length+(P.length+X.length+Y.length)) / 2=mid
    generalize hs:(if P.length+X.length>mid then mid+(P.length+X.length)-(P.length+X.length+Y.length)else P.length)=s
    generalize hrr:(if P.length+X.length>mid then mid else P.length+X.length)=r
    have hsr:s<=r/\P.length<=s/\r<=P.length+X.length/\r<=mid/\(s=P.length∨s+(P.length+X.length+Y.length)=mid+(P.length+X.length))/\(r=mid∨r=P.length+X.length)/\mid+(P.length+X.length)<=s+(P.length+X.length+Y.length):=by
     rw[<- hs,<-hrr]
     split<;>omega
    obtain⟨s1,s2,s3,s4,s5,s6,s7⟩:=hsr
    have qv:∀ c x y,P.length<=c->c<P.length+X.length->X[c-P.length]? =some x->Y[mid-1-c]? =some y->c<mid->leO le (P++(X++(Y++Q))) c (mid+(P.length+X.length)-1-c)=le x y:=λ c x y h1 h2 h3 h4 h5=>by
     have:=q0 (c-P.length) (mid-1-c) x y h3 h4
     rw[show P.length+(c-P.length)=c by omega,show P.length+X.length+(mid-1-c)=mid+(P.length+X.length)-1-c by omega]at this
     exact this
    have bsp:=zQ2 (λ c=>leO le (P++(X++(Y++Q))) c (mid+(P.length+X.length)-1-c)) (r-s) s r (zO _) s1 (λ c d h1 h2 h3 h4=>by
     have c1:c-P.length<X.length:=by omega
     have d1:d-P.length<X.length:=by omega
     have c2:mid-1-c<Y.length:=by omega
     have d2:mid-1-d<Y.length:=by omega
     have v1:=qv c _ _ (by omega) (by omega) (zI c1) (zI c2) (by omega)
     have v2:=qv d _ _ (by omega) (by omega) (zI d1) (zI d2) (by omega)
     have h4:leO le (P++(X++(Y++Q))) d (mid+(P.length+X.length)-1-d)=true:=h4
     show leO le (P++(X++(Y++Q))) c (mid+(P.length+X.length)-1-c)=true
     rw[v2]at h4
     rw[v1]
     have k1:=zFQ hr sX (zI c1) (zI d1) (by omega)
     have k2:=zFQ hr sY (zI d2) (zI c2) (by omega)
     exact ht _ _ _ (ht _ _ _ k1 h4) k2)
    generalize bs (λ c=>leO le (P++(X++(Y++Q))) c (mid+(P.length+X.length)-1-c)) (r-s) s r=st at bsp ⊢
    obtain⟨b1,b2,b3,b4⟩:=bsp
    obtain⟨X1,X2,hXe,hX1⟩:∃ X1 X2,X=X1++X2/\X1.length=st-P.length:=⟨X.take (st-P.length),X.drop (st-P.length),(List.take_append_drop _ X).symm,by simp;omega⟩
    obtain⟨Y1,Y2,hYe,hY1⟩:∃ Y1 Y2,Y=Y1++Y2/\Y1.length=mid-st:=⟨Y.take (mid-st),Y.drop (mid-st),(List.take_append_drop _ Y).symm,by simp;omega⟩
    have lX2:X1.length+X2.length=X.length:=by rw[hXe];simp
    have lY2:Y1.length+Y2.length=Y.length:=by rw[hYe];simp
    have getX2:∀ i x,X2[i]? =some x->X[st-P.length+i]? =some x:=λ i x h=>by
     rw[hXe,zAT (by omega),show st-P.length+i-X1.length=i by omega];exact h
    have getX1:∀ i x,X1[i]? =some x->X[i]? =some x:=λ i x h=>by
     have:=(zQ.1 h).1
     rw[hXe,zA0 this];exact h
    have getY2:∀ i x,Y2[i]? =some x->Y[mid-st+i]? =some x:=λ i x h=>by
     rw[hYe,zAT (by omega),show mid-st+i-Y1.length=i by omega];exact h
    have getY1:∀ i x,Y1[i]? =some x->Y[i]? =some x:=λ i x h=>by
     have:=(zQ.1 h).1
     rw[hYe,zA0 this];exact h
    have c1:∀ x∈X2,∀ y∈Y1,le x y=false:=λ x hx y hy=>by
     obtain⟨i,hi,ei⟩:=List.getElem_of_mem hx
     obtain⟨j,hj,ej⟩:=List.getElem_of_mem hy
     have gi:=getX2 i x (by rw[<- ei];exact zI hi)
     have gj:=getY1 j y (by rw[<- ej];exact zI hj)
     have h1:st-P.length<X.length:=by omega
     have h2:mid-1-st<Y.length:=by omega
     have hq:=b4 st (zO _) (by omega)
     have v:=qv st _ _ (by omega) (by omega) (zI h1) (zI h2) (by omega)
     have hq:leO le (P++(X++(Y++Q))) st (mid+(P.length+X.length)-1-st)=false:=hq
     rw[v]at hq
     cases hle:le x y with
     |false=>rfl
     |true =>
      have k1:=zFQ hr sX (zI h1) gi (by omega)
      have k2:=zFQ hr sY gj (zI h2) (by omega)
      rw[ht _ _ _ (ht _ _ _ k1 hle) k2]at hq;cases hq
    have c2:∀ x∈X1,∀ y∈Y2,le x y=true:=λ x hx y hy=>by
     obtain⟨i,hi,ei⟩:=List.getElem_of_mem hx
     obtain⟨j,hj,ej⟩:=List.getElem_of_mem hy
     have gi:=getX1 i x (by rw[<- ei];exact zI hi)
     have gj:=getY2 j y (by rw[<- ej];exact zI hj)
     have h1:st-1-P.length<X.length:=by omega
     have h2:mid-1-(st-1)<Y.length:=by omega
     have hq:=b3 (st-1) (by omega) (by omega)
     have v:=qv (st-1) _ _ (by omega) (by omega) (zI h1) (zI h2) (by omega)
     have hq:leO le (P++(X++(Y++Q))) (st-1) (mid+(P.length+X.length)-1-(st-1))=true:=hq
     rw[v]at hq
     have k1:=zFQ hr sX gi (zI h1) (by omega)
     have k2:=zFQ hr sY (zI h2) gj (by omega)
     exact ht _ _ _ (ht _ _ _ k1 hq) k2
    have hsplit:=zET le _ X1 X2 Y1 Y2 rfl c1 c2
    have sX1:X1.Pairwise λ x y=>le x y=true:=(List.pairwise_append.1 (hXe▸sX)).1
    have sX2:X2.Pairwise λ x y=>le x y=true:=(List.pairwise_append.1 (hXe▸sX)).2.1
    have sY1:Y1.Pairwise λ x y=>le x y=true:=(List.pairwise_append.1 (hYe▸sY)).1
    have sY2:Y2.Pairwise λ x y=>le x y=true:=(List.pairwise_append.1 (hYe▸sY)).2.1
    have l1:(if st<P.length+X.length/\P.length+X.length<mid+(P.length+X.length)-st then rotG (P.length+X.length) (mid+(P.length+X.length)-st-st) (P.length+X.length-st) (mid+(P.length+X.length)-st-(P.length+X.length)) (P++(X++(Y++Q)))else P++(X++(Y++Q)))=P++(X1++(Y1++(X2++(Y2++Q)))):=by
     by_cases hc:st<P.length+X.length/\P.length+X.length<mid+(P.length+X.length)-st
     ·rw[if_pos hc]
      have h:=zQ1 (mid+(P.length+X.length)-st-st) (P.length+X.length-st) (mid+(P.length+X.length)-st-(P.length+X.length)) (P++X1) X2 Y1 (Y2++Q) (by omega) (by omega) (by omega) (by omega) (by omega)
      rw[zAH,show P.length+X1.length+(P.length+X.length-st)=P.length+X.length by omega]at h
      simp only[zAE]at h
      have e:P++(X++(Y++Q))=P++(X1++(X2++(Y1++(Y2++Q)))):=by rw[hXe,hYe];simp
      rw[e,h]
     ·rw[if_neg hc]
      rw[hXe,hYe]
      have:X2=[]∨Y1=[]:=by
       by_cases h1:st<P.length+X.length
       ·right;apply zCN.1;omega
       ·left;apply zCN.1;omega
      rcases this with h | h<;>subst h<;>simp
    rw[l1]
    have l2:(if P.length<st/\st<mid then symF le f P.length st mid (P++(X1++(Y1++(X2++(Y2++Q)))))else P++(X1++(Y1++(X2++(Y2++Q)))))=P++(List.merge X1 Y1 le++(X2++(Y2++Q))):=by
     by_cases hc:P.length<st/\st<mid
     ·rw[if_pos hc]
      have h:=zQ4 hr ht f P X1 Y1 (X2++(Y2++Q)) (λ e=>by rw[e]at hX1;simp at hX1;omega) (λ e=>by rw[e]at hY1;simp at hY1;omega) sX1 sY1 (by omega)
      rw[show P.length+X1.length=st by omega,show st+Y1.length=mid by omega]at h
      exact h
     ·rw[if_neg hc]
      have:X1=[]∨Y1=[]:=by
       by_cases h1:P.length<st
       ·right;apply zCN.1;omega
       ·left;apply zCN.1;omega
      rcases this with h | h<;>subst h<;>simp
    rw[l2]
    have l3:(if mid<mid+(P.length+X.length)-st/\mid+(P.length+X.length)-st<P.length+X.length+Y.length then symF le f mid (mid+(P.length+X.length)-st) (P.length+X.length+Y.length) (P++(List.merge X1 Y1 le++(X2++(Y2++Q))))else P++(List.merge X1 Y1 le++(X2++(Y2++Q))))=P++(List.merge X1 Y1 le++(List.merge X2 Y2 le++Q)):=by
     by_cases hc:mid<mid+(P.length+X.length)-st/\mid+(P.length+X.length)-st<P.length+X.length+Y.length
     ·rw[if_pos hc]
      have h:=zQ4 hr ht f (P++List.merge X1 Y1 le) X2 Y2 Q (λ e=>by rw[e]at lX2;simp at lX2;omega) (λ e=>by rw[e]at lY2;simp at lY2;omega) sX2 sY2 (by omega)
      rw[zAH,zHd,show P.length+(X1.length+Y1.length)=mid by omega,show mid+X2.length=mid+(P.length+X.length)-st by omega,show mid+(P.length+X.length)-st+Y2.length=P.length+X.length+Y.length by omega]at h
      simp only[zAE]at h
      exact h
     ·rw[if_neg hc]
      have:X2=[]∨Y2=[]:=by
       by_cases h1:mid<mid+(P.length+X.length)-st
       ·right;apply zCN.1;omega
       ·left;apply zCN.1;omega
      rcases this with h | h<;>subst h<;>simp
    rw[l3,hXe,hYe,hsplit,zAE]
def insD:Nat->Nat->List α->List α
 | 0,_,l=>l
 |n+1,k,l=>if leO le l (k-1) k then l else insD n (k-1) (sw l k (k-1))
theorem zUq(hr:∀ x,le x x=true) (ht:∀ x y z,le x y=true->le y z=true->le x z=true):∀(n:Nat) (P X Q:List α) (y:α),X.length=n->X.Pairwise (λ x y=>le x y=true) ->
 insD le n (P.length+n) (P++(X++y::Q))=P++(List.merge X [y] le++Q)
 | 0,P,X,Q,y,h,sX=>by
  have h1:X=[]:=zCN.1 h
  subst h1
  unfold insD
  simp
 |n+1,P,X,Q,y,h,sX=>by
  obtain⟨X',x,rfl⟩:∃ X' x,X=X' ++[x]:=⟨X.dropLast,X.getLast (by intro e;subst e;simp at h),(List.dropLast_concat_getLast _).symm⟩
  have hX:X'.length=n:=by simpa using h
  have sX' :=(List.pairwise_append.1 sX).1
  have g1:(P++(X' ++[x]++y::Q))[P.length+(n+1)-1]? =some x:=by
   rw[zAT (by omega),show P.length+(n+1)-1-P.length=X'.length by omega];simp
  have g2:(P++(X' ++[x]++y::Q))[P.length+(n+1)]? =some y:=by
   rw[zAT (by omega),show P.length+(n+1)-P.length=(X' ++[x]).length by simp;omega,zAT (zO _)];simp
  have hv:leO le (P++(X' ++[x]++y::Q)) (P.length+(n+1)-1) (P.length+(n+1))=le x y:=by
   unfold leO;rw[g1,g2]
  unfold insD
  rw[hv]
  by_cases hle:le x y=true
  ·rw[if_pos hle]
   have hall:∀ z∈X' ++[x],le z y=true:=λ z hz=>by
    rcases List.mem_append.1 hz with h1 | h1
    ·exact ht _ _ _ ((List.pairwise_append.1 sX).2.2 z h1 x (by simp)) hle
    ·simp at h1;subst h1;exact hle
   have hm:=zK9 le y (X' ++[x]) [] hall (λ z hz=>by simp at hz)
   rw[zBM]at hm
   rw[hm];simp
  ·rw[if_neg hle]
   have e:=z4Q (P++X') [] Q x y
   simp only[List.nil_append,List.length_nil,Nat.add_zero,zAH,zAE,hX]at e
   have ih:=zUq hr ht n P X' (x::Q) y hX sX'
   have hm:=zET le _ X' [x] [y] [] rfl (λ a ha b hb=>by simp at ha hb;subst ha;subst hb;simpa using hle) (λ a ha b hb=>by simp at hb)
   rw[zBM,zQ3]at hm
   rw[hm,show P.length+(n+1)-1=P.length+n by omega,show P.length+(n+1)=P.length+n+1 by omega]
   simp only[zAE,List.cons_append,List.nil_append]at ih ⊢
   rw[e]
   exact ih
def insG:Nat->Nat->Nat->List α->List α
 | 0,_,_,l=>l
 |n+1,a,i,l=>insG n a (i+1) (insD le (i-a) i l)
def zXt(X Z:List α):List α:=Z.foldl (λ acc y=>List.merge acc [y] le) X
theorem zGX(hr:∀ x y,le x y=true∨le y x=true) (ht:∀ x y z,le x y=true->le y z=true->le x z=true) {X Y:List α} (sX:X.Pairwise λ x y=>le x y=true) (sY:Y.Pairwise λ x y=>le x y=true) :
 (List.merge X Y le).Pairwise λ x y=>le x y=true :=
 List.pairwise_merge (le:=le) (λ a b c h1 h2=>ht a b c h1 h2) (λ a b=>by rcases hr a b with h | h<;>simp[h]) X Y sX sY
theorem zUr(hr:∀ x y,le x y=true∨le y x=true) (ht:∀ x y z,le x y=true->le y z=true->le x z=true):∀(n:Nat) (P X Z Q:List α),Z.length=n->X.Pairwise (λ x y=>le x y=true) ->
 insG le n P.length (P.length+X.length) (P++(X++(Z++Q)))=P++(zXt le X Z++Q)
 | 0,P,X,Z,Q,h,sX=>by
  have h1:Z=[]:=zCN.1 h
  subst h1;rfl
 |n+1,P,X,[],Q,h,sX=>by simp at h
 |n+1,P,X,y::Z,Q,h,sX=>by
  have hr' :∀ x,le x x=true:=λ x=>by rcases hr x x with h | h<;>exact h
  have h1:=zUq le hr' ht X.length P X (Z++Q) y rfl sX
  have ih:=zUr hr ht n P (List.merge X [y] le) Z Q (by simpa using h) (zGX le hr ht sX (by simp))
  unfold insG
  rw[show P.length+X.length-P.length=X.length by omega,List.cons_append,h1]
  rw[zHd]at ih
  exact ih
abbrev Srt (l:List α):Prop:=l.Pairwise λ x y=>le x y=true
inductive ChS (s:Nat):List α->Prop
 |last (l:List α) (h:l.length<=s) (o:Srt le l):ChS s l
 |cons (x l:List α) (h:x.length=s) (o:Srt le x) (k:ChS s l):ChS s (x++l)
def eqk(k y:α):Bool:=le k y&&le y k
theorem zKa(hr:∀ x y,le x y=true∨le y x=true) (ht:∀ x y z,le x y=true->le y z=true->le x z=true) (k:α):∀(X Y:List α),Srt le X->(List.merge X Y le).filter (eqk le k)=X.filter (eqk le k)++Y.filter (eqk le k)
 | [],Y,_=>by simp
 |x::X,[],_=>by simp
 |x::X,y::Y,h=>by
  have h2:=List.pairwise_cons.1 h
  rw[List.cons_merge_cons]
  cases hxy:le x y with
  |true =>
   rw[if_pos rfl,List.filter_cons,List.filter_cons (xs:=X),zKa hr ht k X (y::Y) h2.2]
   split<;>rfl
  |false =>
   rw[if_neg (by simp),List.filter_cons,List.filter_cons (xs:=Y),zKa hr ht k (x::X) Y h]
   cases hp:eqk le k y with
   |false=>simp
   |true =>
    have e:(x::X).filter (eqk le k)=[]:=by
     refine List.filter_eq_nil_iff.2 λ z hz hk=> ?_
     simp only[eqk,zF]at hp hk
     have hxz:le x z=true:=by
      rcases zAD.1 hz with rfl | hz
      ·rcases hr z z with h | h<;>exact h
      ·exact h2.1 z hz
     have:=ht _ _ _ hxz (ht _ _ _ hk.2 hp.1)
     rw[hxy]at this;cases this
    rw[e];simp
structure Keeps (l l' :List α):Prop where
 perm:l'.Perm l
 same:Srt le l->l' =l
 filt:∀ k,l'.filter (eqk le k)=l.filter (eqk le k)
theorem Keeps.refl(l:List α):Keeps le l l:=⟨List.Perm.refl _,λ _=>rfl,λ _=>rfl⟩
theorem Keeps.trans{a b c:List α} (h:Keeps le a b) (k:Keeps le b c):Keeps le a c:=⟨k.perm.trans h.perm,λ o=>by
 have e:=h.same o
 rw[e]at k
 rw[k.same o],λ q=>(k.filt q).trans (h.filt q)⟩
theorem Keeps.front{a b:List α} (x:List α) (h:Keeps le a b):Keeps le (x++a) (x++b):=⟨h.perm.append_left x,λ o=>by rw[h.same (List.pairwise_append.1 o).2.1],λ k=>by rw[List.filter_append,List.filter_append,h.filt k]⟩
theorem Keeps.back{a b:List α} (x:List α) (h:Keeps le a b):Keeps le (a++x) (b++x):=⟨h.perm.append_right x,λ o=>by rw[h.same (List.pairwise_append.1 o).1],λ k=>by rw[List.filter_append,List.filter_append,h.filt k]⟩
theorem zJX(hr:∀ x y,le x y=true∨le y x=true) (ht:∀ x y z,le x y=true->le y z=true->le x z=true) (X Y:List α) (h:Srt le X):Keeps le (X++Y) (List.merge X Y le) :=
 ⟨List.merge_perm_append le,λ o=>List.merge_of_le λ x y hx hy=>(List.pairwise_append.1 o).2.2 x hx y hy,λ k=>by rw[zKa le hr ht k X Y h,List.filter_append]⟩
def pass(s n:Nat):Nat->Nat->List α->List α
 | 0,_,l=>l
 |f+1,a,l=>if a+2*s<=n then pass s n f (a+2*s) (symF le (2*s) a (a+s) (a+2*s) l)else if a+s<n then symF le (n-a) a (a+s) n l else l
theorem zQ5(hr:∀ x y,le x y=true∨le y x=true) (ht:∀ x y z,le x y=true->le y z=true->le x z=true) {s:Nat} (hs:0<s):∀(f:Nat) (D R:List α) (n:Nat),ChS le s R->n=D.length+R.length->R.length<f ->
 ∃ R',pass le s n f D.length (D++R)=D++R' /\ChS le (2*s) R' /\Keeps le R R'
 | 0,D,R,n,h,hn,hf=>by omega
 |f+1,D,R,n,h,hn,hf=>by
  have hr' :∀ x,le x x=true:=λ x=>by rcases hr x x with h | h<;>exact h
  cases h with
  |last l h o =>
   unfold pass
   rw[if_neg (by omega),if_neg (by omega)]
   exact⟨R,rfl,.last _ (by omega) o,Keeps.refl le R⟩
  |cons x l h o k =>
   have two:∀(y q:List α),y.length<=s->y≠[]->Srt le y->∀ F,x.length+y.length<=F->symF le F D.length (D.length+s) (D.length+(x.length+y.length)) (D++(x++(y++q)))=D++(List.merge x y le++q):=λ y q h1 h2 h3 F hF=>by
    have:=zQ4 le hr' ht F D x y q (λ e=>by rw[e]at h;simp at h;omega) h2 o h3 hF
    rw[h]at this ⊢
    rw[Nat.add_assoc]at this
    exact this
   cases k with
   |last _ h1 o1 =>
    unfold pass
    by_cases c1:D.length+2*s<=n
    ·rw[if_pos c1]
     simp only[zAH]at hn
     have hl:l.length=s:=by omega
     have ht2:=two l [] h1 (λ e=>by rw[e]at hl;simp at hl;omega) o1 (2*s) (by omega)
     rw[zBM,zBM,show D.length+(x.length+l.length)=D.length+2*s by omega]at ht2
     rw[ht2]
     obtain⟨R',e1,e2,e3⟩:=zQ5 hr ht hs f (D++List.merge x l le) [] n (.last _ (by simp) (by simp)) (by simp;omega) (by simp at hf;simp;omega)
     have e0:R' =[]:=by
      have:=e3.perm.length_eq
      exact zCN.1 (by simpa using this)
     subst e0
     rw[zBM,zAH,zHd,show D.length+(x.length+l.length)=D.length+2*s by omega]at e1
     refine⟨List.merge x l le,e1,.last _ (by rw[zHd];omega) (zGX le hr ht o o1),zJX le hr ht x l o⟩
    ·rw[if_neg c1]
     simp only[zAH]at hn
     by_cases c2:D.length+s<n
     ·rw[if_pos c2]
      have ht2:=two l [] h1 (λ e=>by rw[e]at hn;simp at hn;omega) o1 (n-D.length) (by omega)
      rw[zBM,zBM,show D.length+(x.length+l.length)=n by omega]at ht2
      rw[ht2]
      exact⟨List.merge x l le,rfl,.last _ (by rw[zHd];omega) (zGX le hr ht o o1),zJX le hr ht x l o⟩
     ·rw[if_neg c2]
      have hl:l=[]:=zCN.1 (by omega)
      subst hl
      rw[zBM]
      exact⟨x,rfl,.last _ (by omega) o,Keeps.refl le x⟩
   |cons y q h1 o1 k1 =>
    unfold pass
    simp only[zAH]at hn hf
    rw[if_pos (by omega)]
    have ht2:=two y q (by omega) (λ e=>by rw[e]at h1;simp at h1;omega) o1 (2*s) (by omega)
    rw[show D.length+(x.length+y.length)=D.length+2*s by omega]at ht2
    rw[ht2]
    obtain⟨R',e1,e2,e3⟩:=zQ5 hr ht hs f (D++List.merge x y le) q n k1 (by simp;omega) (by omega)
    rw[zAH,zHd,show D.length+(x.length+y.length)=D.length+2*s by omega,zAE]at e1
    refine⟨List.merge x y le++R',by rw[e1,zAE],.cons _ _ (by rw[zHd];omega) (zGX le hr ht o o1) e2,?_⟩
    have m1:=(zJX le hr ht x y o).back le q
    rw[zAE]at m1
    exact m1.trans le (e3.front le _)
def insB(a b:Nat) (l:List α):List α:=insG le (b-(a+1)) a (a+1) l
theorem zQ6(hr:∀ x y,le x y=true∨le y x=true) (ht:∀ x y z,le x y=true->le y z=true->le x z=true):∀(Z X:List α),Srt le X->Srt le (zXt le X Z)/\Keeps le (X++Z) (zXt le X Z)
 | [],X,h=>⟨h,by rw[zBM];exact Keeps.refl le X⟩
 |y::Z,X,h=>by
  obtain⟨h1,h2⟩:=zQ6 hr ht Z (List.merge X [y] le) (zGX le hr ht h (by simp))
  refine⟨h1,?_⟩
  have k:=(zJX le hr ht X [y] h).back le Z
  rw[zAE]at k
  exact k.trans le h2
theorem zUs(hr:∀ x y,le x y=true∨le y x=true) (ht:∀ x y z,le x y=true->le y z=true->le x z=true) (P Z Q:List α):∃ Z',insB le P.length (P.length+Z.length) (P++(Z++Q))=P++(Z' ++Q)/\Srt le Z' /\Keeps le Z Z' :=by
 cases Z with
 |nil=>exact⟨[],by unfold insB;rw[show P.length+([]:List α).length-(P.length+1)=0 by simp];rfl,by simp,Keeps.refl le _⟩
 |cons z Z =>
  have h:=zUr le hr ht Z.length P [z] Z Q rfl (by simp)
  obtain⟨h1,h2⟩:=zQ6 le hr ht Z [z] (by simp)
  refine⟨zXt le [z] Z,?_,h1,h2⟩
  unfold insB
  rw[show P.length+(z::Z).length-(P.length+1)=Z.length by simp;omega]
  exact h
def blk1(n:Nat):Nat->Nat->List α->List α
 | 0,_,l=>l
 |f+1,a,l=>if a+20<=n then blk1 n f (a+20) (insB le a (a+20) l)else insB le a n l
theorem zUt(hr:∀ x y,le x y=true∨le y x=true) (ht:∀ x y z,le x y=true->le y z=true->le x z=true):∀(f:Nat) (D R:List α) (n:Nat),n=D.length+R.length->R.length<f ->
 ∃ R',blk1 le n f D.length (D++R)=D++R' /\ChS le 20 R' /\Keeps le R R'
 | 0,D,R,n,hn,hf=>by omega
 |f+1,D,R,n,hn,hf=>by
  unfold blk1
  by_cases c:D.length+20<=n
  ·rw[if_pos c]
   obtain⟨Z,Q,rfl,hZ⟩:∃ Z Q,R=Z++Q/\Z.length=20:=⟨R.take 20,R.drop 20,(List.take_append_drop 20 R).symm,by simp;omega⟩
   simp only[zAH]at hn hf
   obtain⟨Z',e1,e2,e3⟩:=zUs le hr ht D Z Q
   rw[hZ]at e1
   have hZ' :Z'.length=20:=by rw[e3.perm.length_eq,hZ]
   rw[e1]
   obtain⟨R',k1,k2,k3⟩:=zUt hr ht f (D++Z') Q n (by simp;omega) (by omega)
   rw[zAH,hZ',zAE]at k1
   refine⟨Z' ++R',by rw[k1,zAE],.cons _ _ hZ' e2 k2,(e3.back le Q).trans le (k3.front le Z')⟩
  ·rw[if_neg c]
   obtain⟨Z',e1,e2,e3⟩:=zUs le hr ht D R []
   rw[zBM,zBM,<-hn]at e1
   exact⟨Z',e1,.last _ (by rw[e3.perm.length_eq];omega) e2,e3⟩
def stL(n:Nat):Nat->Nat->List α->List α
 | 0,_,l=>l
 |f+1,s,l=>if s<n then stL n f (2*s) (pass le s n (n+1) 0 l)else l
theorem zRj{s:Nat} {l:List α} (h:ChS le s l) (hl:l.length<=s):Srt le l:=by
 cases h with
 |last _ h o=>exact o
 |cons x q h o k =>
  have:q=[]:=zCN.1 (by simp at hl;omega)
  subst this
  rw[zBM];exact o
theorem zXu(hr:∀ x y,le x y=true∨le y x=true) (ht:∀ x y z,le x y=true->le y z=true->le x z=true):∀(f s:Nat) (l:List α),0<s->ChS le s l->l.length<f+s->Srt le (stL le l.length f s l)/\Keeps le l (stL le l.length f s l)
 | 0,s,l,hs,h,hf=>by
  show Srt le l/\Keeps le l l
  exact⟨zRj le h (by omega),Keeps.refl le l⟩
 |f+1,s,l,hs,h,hf=>by
  unfold stL
  by_cases c:s<l.length
  ·rw[if_pos c]
   obtain⟨R',e1,e2,e3⟩:=zQ5 le hr ht hs (l.length+1) [] l l.length h (by simp) (by omega)
   simp only[List.length_nil,List.nil_append]at e1
   rw[e1]
   have hl:=e3.perm.length_eq
   obtain⟨k1,k2⟩:=zXu hr ht f (2*s) R' (by omega) e2 (by omega)
   rw[hl]at k1 k2
   exact⟨k1,e3.trans le k2⟩
  ·rw[if_neg c]
   exact⟨zRj le h (by omega),Keeps.refl le l⟩
theorem zWq(hr:∀ x y,le x y=true∨le y x=true) (ht:∀ x y z,le x y=true->le y z=true->le x z=true) (l:List α) :
 Srt le (stL le l.length l.length 20 (blk1 le l.length (l.length+1) 0 l))/\Keeps le l (stL le l.length l.length 20 (blk1 le l.length (l.length+1) 0 l)):=by
 obtain⟨R',e1,e2,e3⟩:=zUt le hr ht (l.length+1) [] l l.length (by simp) (by omega)
 simp only[List.length_nil,List.nil_append]at e1
 rw[e1]
 have hl:=e3.perm.length_eq
 obtain⟨k1,k2⟩:=zXu le hr ht l.length 20 R' (by omega) e2 (by omega)
 rw[hl]at k1 k2
 exact⟨k1,e3.trans le k2⟩
end
end Go.Cf

namespace Go.Cf
open Go Go.Ab
def keyR(at_:Int) (r:List Val):Int×Int:=bif decide (at_<0)then(0,0)else match r[at_.toNat]? with | some v=>bif mayV v then(v.K,v.N)else(2,0) | none=>(0,0)
theorem zQ7(r:List Val) (at_:Int):wc W zJD [rowp r,.int .i64 at_]=some (.agg [.int .i64 (keyR at_ r).1,.int .i64 (keyR at_ r).2]):=by
 have h:=z3N (r.map Val.pv) at_
 rw[zZ]at h
 rw[h,zG]
 unfold keyR
 by_cases h0:at_<0
 ·rw[zD h0];rfl
 ·rw[zK h0]
  simp only[zC]
  by_cases h1:at_≥(r.length:Int)
  ·rw[zD h1,zFV (by omega)];rfl
  ·have hlt:at_.toNat<r.length:=by omega
   rw[zK h1]
   simp only[zC,zS3,zD (show(0:Int)<=at_ by omega),zA,zN,zI hlt,zU,zB,Val.c_mk,Val.fold,zK2,c_b_mk,zS4]
   cases mayV r[at_.toNat]<;>rfl
def cmpB(a b:Int×Int):Int:=if a.1<b.1 then -1 else if a.1>b.1 then 1 else if a.2<b.2 then -1 else if a.2>b.2 then 1 else 0
theorem zXv(a b:Int):wc W zDT [.int .i64 a,.int .i64 b]=some (.int .i64 (if a<b then -1 else if a>b then 1 else 0)):=by
 rw[zNe,zK1,zK1,zIS rfl,zIS rfl]
 simp only[zB,c_b_mk,zC]
 by_cases h:a<b
 ·rw[zD h,if_pos h];rfl
 ·rw[zK h,if_neg h]
  by_cases h' :a>b
  ·rw[zD h',if_pos h'];rfl
  ·rw[zK h',if_neg h'];rfl
theorem zUu(a b:Int×Int):wc W zC8 [.agg [.int .i64 a.1,.int .i64 a.2],.agg [.int .i64 b.1,.int .i64 b.2]]=some (.int .i64 (cmpB a b)):=by
 obtain⟨a1,a2⟩:=a
 obtain⟨b1,b2⟩:=b
 rw[zS2,zIg]
 have z1:([PV.int .i64 a1,PV.int .i64 a2]:List PV).length=2:=rfl
 have w1:IntKind.wrap .i64 ((0:Int)+1)=1:=by decide
 have w2:IntKind.wrap .i64 ((1:Int)+1)=2:=by decide
 unfold cmpB
 have f1:decide ((0:Int)<((0+1+1:Nat):Int))=true:=rfl
 have f2:decide ((1:Int)<((0+1+1:Nat):Int))=true:=rfl
 have f3:decide ((2:Int)<((0+1+1:Nat):Int))=false:=rfl
 have f4:decide ((0:Int)<=0)=true:=rfl
 have f5:decide ((0:Int)<=1)=true:=rfl
 have f6:decide ((0:Int)≥((0+1+1:Nat):Int))=false:=rfl
 have f7:decide ((1:Int)≥((0+1+1:Nat):Int))=false:=rfl
 have f8:decide (((0+1+1:Nat):Int)<((0+1+1:Nat):Int))=false:=rfl
 have f9:Int.toNat 0=0:=rfl
 have f10:Int.toNat 1=1:=rfl
 rw[zC3]
 simp only[List.length_cons,List.length_nil,w1,w2,c_i64_mk,zAO,zAg,zB,zXv,c_b_mk,zA,zC,f1,f2,f3,f4,f5,f6,f7,f8,f9,f10]
 rw[zC3]
 simp only[List.length_cons,List.length_nil,w1,w2,c_i64_mk,zAO,zAg,zB,zXv,c_b_mk,zA,zC,f1,f2,f3,f4,f5,f6,f7,f8,f9,f10]
 rw[zC3]
 simp only[List.length_cons,List.length_nil,w1,w2,c_i64_mk,zAO,zAg,zB,zXv,c_b_mk,zA,zC,f1,f2,f3,f4,f5,f6,f7,f8,f9,f10]
 rcases Int.lt_trichotomy a1 b1 with h | h | h
 ·rw[show(a1==b1)=false by rw[beq_eq_false_iff_ne];omega];simp only[if_pos h];rfl
 ·subst h
  simp only[zCO,gt_iff_lt,Int.lt_irrefl,if_false,zA]
  rcases Int.lt_trichotomy a2 b2 with h | h | h
  ·rw[show(a2==b2)=false by rw[beq_eq_false_iff_ne];omega,if_pos h];rfl
  ·subst h;simp only[zCO,Int.lt_irrefl,if_false];rfl
  ·rw[show(a2==b2)=false by rw[beq_eq_false_iff_ne];omega,if_neg (show ¬ a2<b2 by omega),if_pos h];rfl
 ·rw[show(a1==b1)=false by rw[beq_eq_false_iff_ne];omega];simp only[gt_iff_lt,if_neg (show ¬ a1<b1 by omega),if_pos h];rfl
def leR(at_:Int) (r s:List Val):Bool:= !decide (cmpB (keyR at_ s) (keyR at_ r)<0)
theorem zWr(a b:Int×Int):cmpB a b<0↔a.1<b.1∨(a.1=b.1/\a.2<b.2):=by
 unfold cmpB
 split
 ·constructor<;>intro<;>omega
 ·split
  ·constructor<;>intro<;>omega
  ·split
   ·constructor<;>intro<;>omega
   ·split<;>constructor<;>intro<;>omega
theorem zWs(at_:Int) (r s:List Val):leR at_ r s=true↔(keyR at_ r).1<(keyR at_ s).1∨((keyR at_ r).1=(keyR at_ s).1/\(keyR at_ r).2<=(keyR at_ s).2):=by
 unfold leR
 rw[Bool.not_eq_true',decide_eq_false_iff_not,zWr]
 constructor<;>intro<;>omega
theorem z18(at_:Int) (r s:List Val):leR at_ r s=true∨leR at_ s r=true:=by
 rw[zWs,zWs];omega
theorem zUv(at_:Int) (r s t:List Val) (h:leR at_ r s=true) (k:leR at_ s t=true):leR at_ r t=true:=by
 rw[zWs]at *;omega
theorem zSu(r s:List Val) (at_:Int):W zS false [.pv (rowp r),.pv (rowp s),.own 0 0] [.var false 0 (.pv (.int .i64 at_))]=some (.pv (.int .i64 (cmpB (keyR at_ r) (keyR at_ s))),[.var false 0 (.pv (.int .i64 at_))]):=by
 have h:=zNb (r.map Val.pv) (s.map Val.pv) at_
 rw[zZ,zZ,zQ7,zQ7]at h
 have c:=zUu (keyR at_ r) (keyR at_ s)
 simp only[zB,c_g_i64_i64_mk,c,c_i64_mk]at h
 exact h
theorem zIL{α:Type} (l:List α) (i j:Nat):(sw l i j).length=l.length:=by
 unfold sw
 split
 ·simp
 ·rfl
theorem zGY{α:Type}:∀(n a b:Nat) (l:List α),(zRB n a b l).length=l.length
 | 0,_,_,_=>rfl
 |n+1,a,b,l=>by unfold zRB;rw[zGY n,zIL]
theorem z19{α:Type}:∀(n k:Nat) (l:List α),(mvR n k l).length=l.length
 | 0,_,_=>rfl
 |n+1,k,l=>by unfold mvR;rw[z19 n,zIL]
theorem z1a{α:Type}:∀(n k:Nat) (l:List α),(mvL n k l).length=l.length
 | 0,_,_=>rfl
 |n+1,k,l=>by unfold mvL;rw[z1a n,zIL]
theorem zMm{α:Type} (m:Nat):∀(f i j:Nat) (l:List α),(rotG m f i j l).length=l.length
 | 0,_,_,_=>rfl
 |f+1,i,j,l=>by
  unfold rotG
  split
  ·exact zGY _ _ _ _
  ·split
   ·rw[zMm m f,zGY]
   ·rw[zMm m f,zGY]
theorem zXw{α:Type} (le:α->α->Bool):∀(n k:Nat) (l:List α),(insD le n k l).length=l.length
 | 0,_,_=>rfl
 |n+1,k,l=>by
  unfold insD
  split
  ·rfl
  ·rw[zXw le n,zIL]
theorem zSv{α:Type} (le:α->α->Bool):∀(n a i:Nat) (l:List α),(insG le n a i l).length=l.length
 | 0,_,_,_=>rfl
 |n+1,a,i,l=>by unfold insG;rw[zSv le n,zXw]
theorem zNl{α:Type} {p:Prop} [Decidable p] {x y:List α} {n:Nat} (h:x.length=n) (k:y.length=n):(if p then x else y).length=n:=by split<;>assumption
def symS{α:Type} (le:α->α->Bool) (f a m b mid st en:Nat) (l:List α):List α :=
 let l1:=if st<m/\m<en then rotG m (en-st) (m-st) (en-m) l else l
 let l2:=if a<st/\st<mid then symF le f a st mid l1 else l1
 if mid<en/\en<b then symF le f mid en b l2 else l2
theorem zUw{α:Type} (le:α->α->Bool) (f a m b:Nat) (l:List α):symF le (f+1) a m b l =
 if m-a=1 then mvR (bs (λ h=> !leO le l a h) (b-m) m b-1-a) a l
 else if b-m=1 then mvL (m-bs (λ h=>leO le l h m) (m-a) a m) m l
 else if m>(a+b) / 2 then
  symS le f a m b ((a+b) / 2) (bs (λ c=>leO le l c ((a+b) / 2+m-1-c)) ((a+b) / 2-((a+b) / 2+m-b)) ((a+b) / 2+m-b) ((a+b) / 2)) ((a+b) / 2+m-bs (λ c=>leO le l c ((a+b) / 2+m-1-c)) ((a+b) / 2-((a+b) / 2+m-b)) ((a+b) / 2+m-b) ((a+b) / 2)) l
 else
  symS le f a m b ((a+b) / 2) (bs (λ c=>leO le l c ((a+b) / 2+m-1-c)) (m-a) a m) ((a+b) / 2+m-bs (λ c=>leO le l c ((a+b) / 2+m-1-c)) (m-a) a m) l:=by
 rw[symF]
 split
 ·rfl
 ·split
  ·rfl
  ·by_cases h:m>(a+b) / 2
   ·simp only[if_pos h];rfl
   ·simp only[if_neg h];rfl
theorem zLC{α:Type} (le:α->α->Bool):∀(f a m b:Nat) (l:List α),(symF le f a m b l).length=l.length
 | 0,_,_,_,_=>rfl
 |f+1,a,m,b,l=>by
  have hS:∀ st en mid,(symS le f a m b mid st en l).length=l.length:=λ st en mid=>by
   have h1:(if st<m/\m<en then rotG m (en-st) (m-st) (en-m) l else l).length=l.length:=zNl (zMm _ _ _ _ _) rfl
   unfold symS
   simp only
   generalize (if st<m/\m<en then rotG m (en-st) (m-st) (en-m) l else l)=l1 at h1
   have h2:(if a<st/\st<mid then symF le f a st mid l1 else l1).length=l.length:=zNl ((zLC le f _ _ _ _).trans h1) h1
   generalize (if a<st/\st<mid then symF le f a st mid l1 else l1)=l2 at h2
   exact zNl ((zLC le f _ _ _ _).trans h2) h2
  rw[zUw]
  exact zNl (z19 _ _ _) (zNl (z1a _ _ _) (zNl (hS _ _ _) (hS _ _ _)))
theorem zZ4(q:Nat->Bool):∀(f lo hi:Nat),lo<=hi->lo<=bs q f lo hi/\bs q f lo hi<=hi
 | 0,lo,hi,h=>⟨zO _,h⟩
 |f+1,lo,hi,h=>by
  unfold bs
  split
  ·split
   ·have:=zZ4 q f ((lo+hi) / 2+1) hi (by omega);omega
   ·have:=zZ4 q f lo ((lo+hi) / 2) (by omega);omega
  ·omega
theorem zXx(l:List (List Val)) (i j:Nat) (hi:i<l.length) (hj:j<l.length):((l.map rowp).set i (rowp l[j])).set j (rowp l[i])=(sw l i j).map rowp:=by
 unfold sw
 rw[zI hi,zI hj]
 simp only[List.map_set]
def zFU(l:List (List Val)) (at_:Int):Option (AV×List Ob):=some (.pv (.tup []),[.fix 0 0 (l.map rowp),.var false 0 (.pv (.int .i64 at_))])
theorem zUx(at_:Int) (a b n:Nat):∀(k i:Nat) (l:List (List Val)),i+k=n->a+n<=l.length->b+n<=l.length->l.length<=1000000000 ->
 zAw (a:Int) (b:Int) (n:Int) (i:Int) (l.map rowp) at_=zFU (zRB k (a+i) (b+i) l) at_
 | 0,i,l,h,ha,hb,hl=>by
  rw[zCD,show i=n by omega]
  simp only[zDG,zC];rfl
 |k+1,i,l,h,ha,hb,hl=>by
  have h1:a+i<l.length:=by omega
  have h2:b+i<l.length:=by omega
  have e1:IntKind.wrap .i64 ((a:Int)+(i:Int))=((a+i:Nat):Int):=by rw[zAZ (by omega) (by omega)];omega
  have e2:IntKind.wrap .i64 ((b:Int)+(i:Int))=((b+i:Nat):Int):=by rw[zAZ (by omega) (by omega)];omega
  rw[zCD]
  simp only[zAK (show i<n by omega),zA,e1,e2,zA2,zAA,List.length_set,zG,zAK h1,zAK h2,zY,zN,zI h1,zI h2,zU,zB,zCm,zZ]
  have h3:b+i<((l.map rowp).set (a+i) (rowp l[b+i])).length:=by simpa using h2
  rw[zI h3]
  simp only[zB]
  rw[zXx l (a+i) (b+i) h1 h2,zX (by omega)]
  exact zUx at_ a b n k (i+1) (sw l (a+i) (b+i)) (by omega) (by rw[zIL];exact ha) (by rw[zIL];exact hb) (by rw[zIL];exact hl)
theorem zLz(at_:Int) (a b n:Nat) (l:List (List Val)) (ha:a+n<=l.length) (hb:b+n<=l.length) (hl:l.length<=1000000000) :
 W zAr false [.fx 0 0,.pv (.int .i64 (a:Int)),.pv (.int .i64 (b:Int)),.pv (.int .i64 (n:Int)),.fnv zS [] [.own 1 0]] [.fix 0 0 (l.map rowp),.var false 0 (.pv (.int .i64 at_))]=zFU (zRB n a b l) at_:=by
 rw[zE7]
 exact zUx at_ a b n n 0 l (by omega) ha hb hl
theorem zSw(at_:Int) (m:Nat):∀(f i j:Nat) (l:List (List Val)),0<i->0<j->i+j<=f->i<=m->m+j<=l.length->l.length<=1000000000 ->
 zAi (m:Int) (i:Int) (j:Int) (l.map rowp) at_=zFU (rotG m f i j l) at_
 | 0,i,j,l,hi,hj,hf,_,_,_=>by omega
 |f+1,i,j,l,hi,hj,hf,him,hmj,hl=>by
  have e1:IntKind.wrap .i64 ((m:Int)-(i:Int))=((m-i:Nat):Int):=by rw[zAZ (by omega) (by omega)];omega
  rw[zE6]
  unfold rotG
  rcases Nat.lt_trichotomy i j with h | h | h
  ·rw[zH3 (by omega),zK (by omega),if_neg (by omega),if_neg (by omega)]
   have e2:IntKind.wrap .i64 ((IntKind.wrap .i64 ((m:Int)+(j:Int)))-(i:Int))=((m+j-i:Nat):Int):=by rw[zAZ (n:=(m:Int)+j) (by omega) (by omega),zAZ (by omega) (by omega)];omega
   have e3:IntKind.wrap .i64 ((j:Int)-(i:Int))=((j-i:Nat):Int):=by rw[zAZ (by omega) (by omega)];omega
   have hs:=zLz at_ (m-i) (m+j-i) i l (by omega) (by omega) hl
   simp only[zA,zC,e1,e2,e3,hs,zFU,zB,k_c4d914_mk]
   exact zSw at_ m f i (j-i) _ hi (by omega) (by omega) him (by rw[zGY];omega) (by rw[zGY];exact hl)
  ·subst h
   have hs:=zLz at_ (m-i) m i l (by omega) (by omega) hl
   rw[zIS rfl,if_pos rfl]
   simp only[zC,e1,hs,zFU,zB,k_c4d914_mk]
  ·rw[zH3 (by omega),zD (by omega),if_neg (by omega),if_pos h]
   have e3:IntKind.wrap .i64 ((i:Int)-(j:Int))=((i-j:Nat):Int):=by rw[zAZ (by omega) (by omega)];omega
   have hs:=zLz at_ (m-i) m j l (by omega) (by omega) hl
   simp only[zA,zC,e1,e3,hs,zFU,zB,k_c4d914_mk]
   exact zSw at_ m f (i-j) j _ (by omega) hj (by omega) (by omega) (by rw[zGY];omega) (by rw[zGY];exact hl)
theorem z38(at_:Int) (a m b:Nat) (l:List (List Val)) (h1:a<m) (h2:m<b) (h3:b<=l.length) (hl:l.length<=1000000000) :
 W zCS false [.fx 0 0,.pv (.int .i64 (a:Int)),.pv (.int .i64 (m:Int)),.pv (.int .i64 (b:Int)),.fnv zS [] [.own 1 0]] [.fix 0 0 (l.map rowp),.var false 0 (.pv (.int .i64 at_))]=zFU (rotG m (b-a) (m-a) (b-m) l) at_:=by
 rw[zFD,show IntKind.wrap .i64 ((m:Int)-(a:Int))=((m-a:Nat):Int) by rw[zAZ (by omega) (by omega)];omega,show IntKind.wrap .i64 ((b:Int)-(m:Int))=((b-m:Nat):Int) by rw[zAZ (by omega) (by omega)];omega]
 exact zSw at_ m (b-a) (m-a) (b-m) l (by omega) (by omega) (by omega) (by omega) (by omega) hl
theorem zSx(at_:Int) (l:List (List Val)) (i j:Nat) (hi:i<l.length) (hj:j<l.length):leO (leR at_) l i j= !decide (cmpB (keyR at_ l[j]) (keyR at_ l[i])<0):=by
 unfold leO
 rw[zI hi,zI hj];rfl
theorem zQ8(at_:Int) (a b:Nat):∀(n i:Nat) (l:List (List Val)),i+n=b->a<i->b<=l.length->l.length<=1000000000 ->
 zAX (a:Int) (b:Int) (i:Int) (l.map rowp) at_=zFU (insG (leR at_) n a i l) at_
 | 0,i,l,h,ha,hb,hl=>by
  rw[zBD,show i=b by omega]
  simp only[zDG,zC];rfl
 |n+1,i,l,h,ha,hb,hl=>by
  rw[zBD]
  simp only[zAK (show i<b by omega),zA]
  have key:∀(n' k:Nat) (l:List (List Val)),k=a+n' ->k<=i->k<l.length->b<=l.length->l.length<=1000000000->zAf (a:Int) (b:Int) (i:Int) (k:Int) (l.map rowp) at_=zFU (insG (leR at_) n a (i+1) (insD (leR at_) n' k l)) at_:=by
   intro n'
   induction n' with
   |zero =>
    intro k l h1 h2 h3 h4 h5
    rw[zBg,zK (by omega),zC,zX (by omega)]
    exact zQ8 at_ a b n (i+1) l (by omega) (by omega) h4 h5
   |succ n' ih =>
    intro k l h1 h2 hk h4 hl
    have hk1:k-1<l.length:=by omega
    have e1:IntKind.wrap .i64 ((k:Int)-1)=((k-1:Nat):Int):=by rw[zAZ (by omega) (by omega)];omega
    rw[zBg,zD (show(k:Int)>(a:Int) by omega)]
    simp only[zA,e1,zA2,zAA,zG,zAK hk,zAK hk1,zY,zN,zI hk,zI hk1,zU,zB,zCm,zZ,zSu,k_5b106d_mk,c_i64_mk]
    unfold insD
    rw[zSx at_ l (k-1) k hk1 hk]
    cases hd:decide (cmpB (keyR at_ l[k]) (keyR at_ l[k-1])<0) with
    |false =>
     simp only[zC,Bool.not_false,if_true]
     rw[zX (by omega)]
     exact zQ8 at_ a b n (i+1) l (by omega) (by omega) h4 hl
    |true =>
     simp only[zA,zAJ,Bool.false_eq_true,if_false,zDX,e1,zA2,zAA,List.length_set,zG,zAK hk,zAK hk1,zY,zN,zI hk,zI hk1,zU,zB,zCm,zZ]
     have h3:k-1<((l.map rowp).set k (rowp l[k-1])).length:=by simpa using hk1
     rw[zI h3]
     simp only[zB]
     rw[zXx l k (k-1) hk hk1]
     exact ih (k-1) (sw l k (k-1)) (by omega) (by omega) (by rw[zIL];omega) (by rw[zIL];exact h4) (by rw[zIL];exact hl)
  have:=key (i-a) i l (by omega) (zO _) (by omega) hb hl
  rw[this];rfl
theorem zQ9(at_:Int) (a b:Nat) (l:List (List Val)) (hb:b<=l.length) (hab:a<=b) (hl:l.length<=1000000000) :
 W zAz false [.fx 0 0,.pv (.int .i64 (a:Int)),.pv (.int .i64 (b:Int)),.fnv zS [] [.own 1 0]] [.fix 0 0 (l.map rowp),.var false 0 (.pv (.int .i64 at_))]=zFU (insB (leR at_) a b l) at_:=by
 rw[zDj,zX (by omega)]
 unfold insB
 rcases Nat.lt_or_ge a b with h | h
 ·exact zQ8 at_ a b (b-(a+1)) (a+1) l (by omega) (by omega) hb hl
 ·rw[show b-(a+1)=0 by omega,zBD,zK (by omega)];rfl
end Go.Cf

namespace Go.Cf
open Go Go.Ab
theorem zXy(x y:Nat) (h:x+y<=4000000000):IntKind.wrap .i64 (Int.fdiv (IntKind.wrap .u64 (IntKind.wrap .i64 ((x:Int)+(y:Int)))) 2)=(((x+y) / 2:Nat):Int):=by
 rw[zAZ (n:=(x:Int)+y) (by omega) (by omega)]
 have e:IntKind.wrap .u64 ((x:Int)+(y:Int))=((x+y:Nat):Int):=by
  simp only[IntKind.wrap,IntKind.bits,IntKind.signed]
  simp
  omega
 rw[e,show Int.fdiv ((x+y:Nat):Int) 2=(((x+y) / 2:Nat):Int) by
  rw[Int.fdiv_eq_ediv_of_nonneg _ (by omega)];omega]
 exact zAZ (by omega) (by omega)
theorem zXz(at_:Int) (i:Nat):∀(n k:Nat) (l:List (List Val)),k+n=i-1->0<i->i<=l.length->l.length<=1000000000 ->
 zA9 (i:Int) (k:Int) (l.map rowp) at_=zFU (mvR n k l) at_
 | 0,k,l,h,h0,hi,hl=>by
  have e1:IntKind.wrap .i64 ((i:Int)-1)=((i-1:Nat):Int):=by rw[zAZ (by omega) (by omega)];omega
  rw[zCI,e1,zK (by omega)];rfl
 |n+1,k,l,h,h0,hi,hl=>by
  have e1:IntKind.wrap .i64 ((i:Int)-1)=((i-1:Nat):Int):=by rw[zAZ (by omega) (by omega)];omega
  have e2:IntKind.wrap .i64 ((k:Int)+1)=((k+1:Nat):Int):=by rw[zAZ (by omega) (by omega)];omega
  have h1:k<l.length:=by omega
  have h2:k+1<l.length:=by omega
  rw[zCI]
  simp only[e1,e2,zD (show(k:Int)<((i-1:Nat):Int) by omega),zA,zA2,zAA,List.length_set,zG,zAK h1,zAK h2,zY,zN,zI h1,zI h2,zU,zB,zCm,zZ]
  have h3:k+1<((l.map rowp).set k (rowp l[k+1])).length:=by simpa using h2
  rw[zI h3]
  simp only[zB]
  rw[zXx l k (k+1) h1 h2]
  exact zXz at_ i n (k+1) (sw l k (k+1)) (by omega) h0 (by rw[zIL];exact hi) (by rw[zIL];exact hl)
theorem zYA(at_:Int) (i:Nat):∀(n k:Nat) (l:List (List Val)),k=i+n->k<l.length->l.length<=1000000000 ->
 zAa (i:Int) (k:Int) (l.map rowp) at_=zFU (mvL n k l) at_
 | 0,k,l,h,hk,hl=>by
  rw[zCJ,zK (by omega)];rfl
 |n+1,k,l,h,h1,hl=>by
  have e2:IntKind.wrap .i64 ((k:Int)-1)=((k-1:Nat):Int):=by rw[zAZ (by omega) (by omega)];omega
  have h2:k-1<l.length:=by omega
  rw[zCJ]
  simp only[e2,zD (show(k:Int)>(i:Int) by omega),zA,zA2,zAA,List.length_set,zG,zAK h1,zAK h2,zY,zN,zI h1,zI h2,zU,zB,zCm,zZ]
  have h3:k-1<((l.map rowp).set k (rowp l[k-1])).length:=by simpa using h2
  rw[zI h3]
  simp only[zB]
  rw[zXx l k (k-1) h1 h2]
  exact zYA at_ i n (k-1) (sw l k (k-1)) (by omega) (by rw[zIL];omega) (by rw[zIL];exact hl)
theorem zSy(at_:Int) (a:Nat) (l:List (List Val)) (ha:a<l.length) (hl:l.length<=1000000000):∀(f lo hi:Nat),hi-lo<=f->lo<=hi->hi<=l.length ->
 zA7 (a:Int) (lo:Int) (hi:Int) (l.map rowp) at_=zA9 ((bs (λ h=> !leO (leR at_) l a h) f lo hi:Nat):Int) (a:Int) (l.map rowp) at_
 | 0,lo,hi,h,hle,hh=>by
  rw[zCF,zK (by omega)];rfl
 |f+1,lo,hi,h,hle,hh=>by
  rw[zCF]
  unfold bs
  rcases Nat.lt_or_ge lo hi with c | c
  ·have hm:(lo+hi) / 2<l.length:=by omega
   rw[if_pos c,zSx at_ l a ((lo+hi) / 2) ha hm]
   simp only[zAK c,zA,zXy lo hi (by omega),zA2,zAA,zG,zAK hm,zAK ha,zY,zN,zI hm,zI ha,zU,zB,zCm,zZ,zSu,k_5b106d_mk,c_i64_mk,Bool.not_not]
   cases hd:decide (cmpB (keyR at_ l[(lo+hi) / 2]) (keyR at_ l[a])<0) with
   |true =>
    simp only[zA,if_true]
    rw[zX (by omega)]
    exact zSy at_ a l ha hl f ((lo+hi) / 2+1) hi (by omega) (by omega) hh
   |false =>
    simp only[zC,Bool.false_eq_true,if_false]
    exact zSy at_ a l ha hl f lo ((lo+hi) / 2) (by omega) (by omega) (by omega)
  ·rw[if_neg (by omega),zK (by omega)];rfl
theorem zSz(at_:Int) (m:Nat) (l:List (List Val)) (ha:m<l.length) (hl:l.length<=1000000000):∀(f lo hi:Nat),hi-lo<=f->lo<=hi->hi<=l.length ->
 zA8 (m:Int) (lo:Int) (hi:Int) (l.map rowp) at_=zAa ((bs (λ h=>leO (leR at_) l h m) f lo hi:Nat):Int) (m:Int) (l.map rowp) at_
 | 0,lo,hi,h,hle,hh=>by
  rw[zCG,zK (by omega)];rfl
 |f+1,lo,hi,h,hle,hh=>by
  rw[zCG]
  unfold bs
  rcases Nat.lt_or_ge lo hi with c | c
  ·have hm:(lo+hi) / 2<l.length:=by omega
   rw[if_pos c,zSx at_ l ((lo+hi) / 2) m hm ha]
   simp only[zAK c,zA,zXy lo hi (by omega),zA2,zAA,zG,zAK hm,zAK ha,zY,zN,zI hm,zI ha,zU,zB,zCm,zZ,zSu,k_5b106d_mk,c_i64_mk]
   cases hd:decide (cmpB (keyR at_ l[m]) (keyR at_ l[(lo+hi) / 2])<0) with
   |false =>
    simp only[zA,Bool.not_false,if_true]
    rw[zX (by omega)]
    exact zSz at_ m l ha hl f ((lo+hi) / 2+1) hi (by omega) (by omega) hh
   |true =>
    simp only[zC,zAJ,Bool.false_eq_true,if_false]
    exact zSz at_ m l ha hl f lo ((lo+hi) / 2) (by omega) (by omega) (by omega)
  ·rw[if_neg (by omega),zK (by omega)];rfl
theorem zPK(at_:Int) (a m b mid n p:Nat) (l:List (List Val)) (hl:l.length<=1000000000) (hn:p=n-1) (R:Nat->Option (AV×List Ob))
 (hR:∀ st:Nat,st<=n->(bif decide ((st:Int)<(m:Int))then zT (a:Int) (m:Int) (b:Int) (mid:Int) (st:Int) (IntKind.wrap .i64 ((n:Int)-(st:Int))) (decide ((m:Int)<IntKind.wrap .i64 ((n:Int)-(st:Int)))) (l.map rowp) at_
  else zT (a:Int) (m:Int) (b:Int) (mid:Int) (st:Int) (IntKind.wrap .i64 ((n:Int)-(st:Int))) false (l.map rowp) at_)=R st):∀(f lo hi:Nat),hi-lo<=f->lo<=hi->hi<=l.length->p-lo<l.length->hi<=p+1->hi<=n ->
 zAb (a:Int) (m:Int) (b:Int) (mid:Int) (n:Int) (lo:Int) (hi:Int) (p:Int) (l.map rowp) at_=R (bs (λ c=>leO (leR at_) l c (n-1-c)) f lo hi)
 | 0,lo,hi,h,hle,hh,hp,hhp,hhn=>by
  rw[zCK,zK (by omega)]
  exact hR lo (by omega)
 |f+1,lo,hi,h,hle,hh,hp,hhp,hhn=>by
  rw[zCK]
  unfold bs
  rcases Nat.lt_or_ge lo hi with c | c
  ·have hm:(lo+hi) / 2<l.length:=by omega
   have hq:p-(lo+hi) / 2<l.length:=by omega
   have e1:IntKind.wrap .i64 ((p:Int)-(((lo+hi) / 2:Nat):Int))=((p-(lo+hi) / 2:Nat):Int):=by rw[zAZ (by omega) (by omega)];omega
   rw[if_pos c]
   have e2:leO (leR at_) l ((lo+hi) / 2) (n-1-(lo+hi) / 2)= !decide (cmpB (keyR at_ l[p-(lo+hi) / 2]) (keyR at_ l[(lo+hi) / 2])<0):=by
    subst hn;exact zSx at_ l ((lo+hi) / 2) (n-1-(lo+hi) / 2) hm hq
   rw[e2]
   simp only[zAK c,zA,zXy lo hi (by omega),e1,zA2,zAA,zG,zAK hm,zAK hq,zY,zN,zI hm,zI hq,zU,zB,zCm,zZ,zSu,k_5b106d_mk,c_i64_mk]
   cases hd:decide (cmpB (keyR at_ l[p-(lo+hi) / 2]) (keyR at_ l[(lo+hi) / 2])<0) with
   |false =>
    simp only[zA,Bool.not_false,if_true]
    rw[zX (by omega)]
    exact zPK at_ a m b mid n p l hl hn R hR f ((lo+hi) / 2+1) hi (by omega) (by omega) hh (by omega) hhp hhn
   |true =>
    simp only[zC,zAJ,Bool.false_eq_true,if_false]
    exact zPK at_ a m b mid n p l hl hn R hR f lo ((lo+hi) / 2) (by omega) (by omega) (by omega) hp (by omega) (by omega)
  ·rw[if_neg (by omega),zK (by omega)]
   exact hR lo (by omega)
abbrev symW (at_:Int) (a m b:Nat) (l:List (List Val)):Option (AV×List Ob) :=
 W zAc false [.fx 0 0,.pv (.int .i64 (a:Int)),.pv (.int .i64 (m:Int)),.pv (.int .i64 (b:Int)),.fnv zS [] [.own 1 0]] [.fix 0 0 (l.map rowp),.var false 0 (.pv (.int .i64 at_))]
theorem zYB(at_:Int) (f:Nat) (ih:∀(a m b:Nat) (l:List (List Val)),a<m->m<b->b<=l.length->l.length<=1000000000->b-a<=f->symW at_ a m b l=zFU (symF (leR at_) f a m b l) at_)
 (a m b mid st en:Nat) (l:List (List Val)) (h1:a<b) (hmid:mid<=b) (hma:mid-a<=f) (hmb:b-mid<=f) (h2:en<=b) (hen:m<=en∨en<=m) (hb:b<=l.length) (hl:l.length<=1000000000) :
 (bif decide ((st:Int)<(m:Int))then zT (a:Int) (m:Int) (b:Int) (mid:Int) (st:Int) (en:Int) (decide ((m:Int)<(en:Int))) (l.map rowp) at_
  else zT (a:Int) (m:Int) (b:Int) (mid:Int) (st:Int) (en:Int) false (l.map rowp) at_)=zFU (symS (leR at_) f a m b mid st en l) at_:=by
 have h11:∀(l:List (List Val)),b<=l.length->l.length<=1000000000->zAv (b:Int) (mid:Int) (en:Int) (l.map rowp) at_=zFU (if mid<en/\en<b then symF (leR at_) f mid en b l else l) at_:=λ l hb hl=>by
  rw[zDs]
  by_cases c1:mid<en
  ·rw[zAK c1,zA,zCC]
   by_cases c2:en<b
   ·rw[zAK c2,zA,if_pos ⟨c1,c2⟩]
    have:=ih mid en b l c1 c2 hb hl hmb
    unfold symW at this
    rw[this]
    simp only[zFU,zB,k_c4d914_mk]
   ·rw[zK (by omega),zC,if_neg (λ h=>c2 h.2)];rfl
  ·rw[zK (by omega),zC,zCC,zC,if_neg (λ h=>c1 h.1)];rfl
 have h9:∀(l l2:List (List Val)),l2=(if a<st/\st<mid then symF (leR at_) f a st mid l else l)->b<=l.length->l.length<=1000000000->zBA (a:Int) (b:Int) (mid:Int) (st:Int) (en:Int) (l.map rowp) at_ =
  zFU (if mid<en/\en<b then symF (leR at_) f mid en b l2 else l2) at_:=λ l l2 e hb hl=>by
  rw[zEA]
  by_cases c1:a<st
  ·rw[zAK c1,zA,zCM]
   by_cases c2:st<mid
   ·rw[if_pos ⟨c1,c2⟩]at e
    subst e
    rw[zAK c2,zA]
    have:=ih a st mid l c1 c2 (by omega) hl hma
    unfold symW at this
    rw[this]
    simp only[zFU,zB,k_c4d914_mk]
    exact h11 _ (by rw[zLC];exact hb) (by rw[zLC];exact hl)
   ·rw[if_neg (λ h=>c2 h.2)]at e
    subst e
    rw[zK (by omega),zC];exact h11 _ hb hl
  ·rw[if_neg (λ h=>c1 h.1)]at e
   subst e
   rw[zK (by omega),zC,zCM,zC];exact h11 _ hb hl
 have e1:∃ l1:List (List Val),l1=if st<m/\m<en then rotG m (en-st) (m-st) (en-m) l else l:=⟨_,rfl⟩
 obtain⟨l1,e1⟩:=e1
 have hS:symS (leR at_) f a m b mid st en l=if mid<en/\en<b then symF (leR at_) f mid en b (if a<st/\st<mid then symF (leR at_) f a st mid l1 else l1)else(if a<st/\st<mid then symF (leR at_) f a st mid l1 else l1):=by rw[e1];rfl
 rw[hS]
 by_cases c1:st<m
 ·rw[zAK c1,zA,zCL]
  by_cases c2:m<en
  ·rw[if_pos ⟨c1,c2⟩]at e1
   subst e1
   rw[zAK c2,zA,z38 at_ st m en l c1 c2 (by omega) hl]
   simp only[zFU,zB,k_c4d914_mk]
   exact h9 _ _ rfl (by rw[zMm];exact hb) (by rw[zMm];exact hl)
  ·rw[if_neg (λ h=>c2 h.2)]at e1
   subst e1
   rw[zK (by omega),zC];exact h9 _ _ rfl hb hl
 ·rw[if_neg (λ h=>c1 h.1)]at e1
  subst e1
  rw[zK (by omega),zC,zCL,zC];exact h9 _ _ rfl hb hl
theorem zLD(at_:Int):∀(f a m b:Nat) (l:List (List Val)),a<m->m<b->b<=l.length->l.length<=1000000000->b-a<=f->symW at_ a m b l=zFU (symF (leR at_) f a m b l) at_
 | 0,a,m,b,l,h1,h2,h3,h4,h5=>by omega
 |f+1,a,m,b,l,h1,h2,h3,h4,h5=>by
  have em:IntKind.wrap .i64 ((m:Int)-(a:Int))=((m-a:Nat):Int):=by rw[zAZ (by omega) (by omega)];omega
  have eb:IntKind.wrap .i64 ((b:Int)-(m:Int))=((b-m:Nat):Int):=by rw[zAZ (by omega) (by omega)];omega
  unfold symW
  rw[zEj,em,eb,zUw]
  by_cases c1:m-a=1
  ·rw[zIT (by omega),zA,if_pos c1,zSy at_ a l (by omega) h4 (b-m) m b (by omega) (by omega) h3]
   have:=zZ4 (λ h=> !leO (leR at_) l a h) (b-m) m b (by omega)
   exact zXz at_ _ _ a l (by omega) (by omega) (by omega) h4
  ·rw[zDI (by omega),zC,if_neg c1]
   by_cases c2:b-m=1
   ·rw[zIT (by omega),zA,if_pos c2,zSz at_ m l (by omega) h4 (m-a) a m (by omega) (by omega) (by omega)]
    have:=zZ4 (λ h=>leO (leR at_) l h m) (m-a) a m (by omega)
    exact zYA at_ _ _ m l (by omega) (by omega) h4
   ·rw[zDI (by omega),zC,if_neg c2,zXy a b (by omega)]
    have en:IntKind.wrap .i64 ((((a+b) / 2:Nat):Int)+(m:Int))=(((a+b) / 2+m:Nat):Int):=by rw[zAZ (by omega) (by omega)];omega
    have ep:IntKind.wrap .i64 ((((a+b) / 2+m:Nat):Int)-1)=(((a+b) / 2+m-1:Nat):Int):=by rw[zAZ (by omega) (by omega)];omega
    rw[en]
    by_cases c3:m>(a+b) / 2
    ·have es:IntKind.wrap .i64 ((((a+b) / 2+m:Nat):Int)-(b:Int))=(((a+b) / 2+m-b:Nat):Int):=by rw[zAZ (by omega) (by omega)];omega
     have hb:=zZ4 (λ c=>leO (leR at_) l c ((a+b) / 2+m-1-c)) ((a+b) / 2-((a+b) / 2+m-b)) ((a+b) / 2+m-b) ((a+b) / 2) (by omega)
     rw[zD (by omega),zA,if_pos c3,es,zCH,ep]
     have k:=zPK at_ a m b ((a+b) / 2) ((a+b) / 2+m) ((a+b) / 2+m-1) l h4 rfl (λ st=>(bif decide ((st:Int)<(m:Int))then zT (a:Int) (m:Int) (b:Int) (((a+b) / 2:Nat):Int) (st:Int) (IntKind.wrap .i64 ((((a+b) / 2+m:Nat):Int)-(st:Int))) (decide ((m:Int)<IntKind.wrap .i64 ((((a+b) / 2+m:Nat):Int)-(st:Int)))) (l.map rowp) at_
      else zT (a:Int) (m:Int) (b:Int) (((a+b) / 2:Nat):Int) (st:Int) (IntKind.wrap .i64 ((((a+b) / 2+m:Nat):Int)-(st:Int))) false (l.map rowp) at_)) (λ st h=>rfl) ((a+b) / 2-((a+b) / 2+m-b)) ((a+b) / 2+m-b) ((a+b) / 2) (by omega) (by omega) (by omega) (by omega) (by omega) (by omega)
     rw[k]
     generalize bs (λ c=>leO (leR at_) l c ((a+b) / 2+m-1-c)) ((a+b) / 2-((a+b) / 2+m-b)) ((a+b) / 2+m-b) ((a+b) / 2)=st at hb
     have ee:IntKind.wrap .i64 ((((a+b) / 2+m:Nat):Int)-(st:Int))=(((a+b) / 2+m-st:Nat):Int):=by rw[zAZ (by omega) (by omega)];omega
     rw[ee]
     exact zYB at_ f (λ a m b l h1 h2 h3 h4 h5=>zLD at_ f a m b l h1 h2 h3 h4 h5) a m b ((a+b) / 2) st ((a+b) / 2+m-st) l (by omega) (by omega) (by omega) (by omega) (by omega) (by omega) h3 h4
    ·have hb:=zZ4 (λ c=>leO (leR at_) l c ((a+b) / 2+m-1-c)) (m-a) a m (by omega)
     rw[zK (by omega),zC,if_neg c3,zCH,ep]
     have k:=zPK at_ a m b ((a+b) / 2) ((a+b) / 2+m) ((a+b) / 2+m-1) l h4 rfl (λ st=>(bif decide ((st:Int)<(m:Int))then zT (a:Int) (m:Int) (b:Int) (((a+b) / 2:Nat):Int) (st:Int) (IntKind.wrap .i64 ((((a+b) / 2+m:Nat):Int)-(st:Int))) (decide ((m:Int)<IntKind.wrap .i64 ((((a+b) / 2+m:Nat):Int)-(st:Int)))) (l.map rowp) at_
      else zT (a:Int) (m:Int) (b:Int) (((a+b) / 2:Nat):Int) (st:Int) (IntKind.wrap .i64 ((((a+b) / 2+m:Nat):Int)-(st:Int))) false (l.map rowp) at_)) (λ st h=>rfl) (m-a) a m (by omega) (by omega) (by omega) (by omega) (by omega) (by omega)
     rw[k]
     generalize bs (λ c=>leO (leR at_) l c ((a+b) / 2+m-1-c)) (m-a) a m=st at hb
     have ee:IntKind.wrap .i64 ((((a+b) / 2+m:Nat):Int)-(st:Int))=(((a+b) / 2+m-st:Nat):Int):=by rw[zAZ (by omega) (by omega)];omega
     rw[ee]
     exact zYB at_ f (λ a m b l h1 h2 h3 h4 h5=>zLD at_ f a m b l h1 h2 h3 h4 h5) a m b ((a+b) / 2) st ((a+b) / 2+m-st) l (by omega) (by omega) (by omega) (by omega) (by omega) (by omega) h3 h4
end Go.Cf

namespace Go.Cf
open Go Go.Ab
theorem zTA(at_:Int) (n:Nat) (hn:n<=1000000000):∀(f s:Nat) (l:List (List Val)),n<f+s->0<s->s<=2000000000->l.length=n ->
 zAh (n:Int) (s:Int) (l.map rowp) at_=zFU (stL (leR at_) n f s l) at_
 | 0,s,l,h,h0,hs,hl=>by
  rw[zCY,zK (by omega)];rfl
 |f+1,s,l,h,h0,hs,hl=>by
  rw[zCY]
  unfold stL
  by_cases c:s<n
  ·have e1:IntKind.wrap .i64 ((2:Int)*(s:Int))=((2*s:Nat):Int):=by rw[zAZ (by omega) (by omega)];omega
   have e2:IntKind.wrap .i64 ((s:Int)*(2:Int))=((2*s:Nat):Int):=by rw[zAZ (by omega) (by omega)];omega
   rw[zAK c,zA,if_pos c,e1]
   have key:∀(g a:Nat) (l:List (List Val)),n<a+g->a<=n->l.length=n->zBI (n:Int) (s:Int) (a:Int) ((a+2*s:Nat):Int) (l.map rowp) at_=zFU (stL (leR at_) n f (2*s) (pass (leR at_) s n g a l)) at_:=by
    intro g
    induction g with
    |zero=>intro a l h1 h2 h3;omega
    |succ g ih =>
     intro a l h1 h2 h3
     have e3:IntKind.wrap .i64 ((a:Int)+(s:Int))=((a+s:Nat):Int):=by rw[zAZ (by omega) (by omega)];omega
     have e4:IntKind.wrap .i64 (((a+2*s:Nat):Int)+((2*s:Nat):Int))=((a+2*s+2*s:Nat):Int):=by rw[zAZ (by omega) (by omega)];omega
     rw[zE4,e3]
     unfold pass
     by_cases c1:a+2*s<=n
     ·have hm:=zLD at_ (2*s) a (a+s) (a+2*s) l (by omega) (by omega) (by omega) (by omega) (by omega)
      unfold symW at hm
      rw[zD (by omega),zA,if_pos c1,hm]
      simp only[zFU,zB,k_c4d914_mk,e1,e4]
      exact ih (a+2*s) _ (by omega) c1 (by rw[zLC];exact h3)
     ·rw[zK (by omega),zC,if_neg c1]
      by_cases c2:a+s<n
      ·have hm:=zLD at_ (n-a) a (a+s) n l (by omega) (by omega) (by omega) (by omega) (by omega)
       unfold symW at hm
       rw[zAK c2,zA,if_pos c2,hm]
       simp only[zFU,zB,k_c4d914_mk,e2]
       exact zTA at_ n hn f (2*s) _ (by omega) (by omega) (by omega) (by rw[zLC];exact h3)
      ·rw[zK (by omega),zC,if_neg c2,e2]
       exact zTA at_ n hn f (2*s) l (by omega) (by omega) (by omega) h3
   have:=key (n+1) 0 l (by omega) (by omega) hl
   rw[Nat.zero_add]at this
   exact this
  ·rw[zK (by omega),zC,if_neg c];rfl
theorem zYC(at_:Int) (n:Nat) (hn:n<=1000000000):∀(f a:Nat) (l:List (List Val)),n<a+f->a<=n->l.length=n ->
 zBH (n:Int) 20 (a:Int) ((a+20:Nat):Int) (l.map rowp) at_=zFU (stL (leR at_) n n 20 (blk1 (leR at_) n f a l)) at_
 | 0,a,l,h,ha,hl=>by omega
 |f+1,a,l,h,ha,hl=>by
  rw[zE3]
  unfold blk1
  by_cases c:a+20<=n
  ·have hi:=zQ9 at_ a (a+20) l (by omega) (by omega) (by omega)
   rw[zD (by omega),zA,if_pos c,hi]
   have e1:IntKind.wrap .i64 (((a+20:Nat):Int)+20)=((a+20+20:Nat):Int):=by rw[zAZ (by omega) (by omega)];omega
   simp only[zFU,zB,k_c4d914_mk,e1]
   exact zYC at_ n hn f (a+20) _ (by omega) c (by unfold insB;rw[zSv];exact hl)
  ·have hi:=zQ9 at_ a n l (by omega) ha (by omega)
   rw[zK (by omega),zC,if_neg c,hi]
   simp only[zFU,zB,k_c4d914_mk]
   exact zTA at_ n hn n 20 _ (by omega) (by omega) (by omega) (by unfold insB;rw[zSv];exact hl)
def z3a(at_:Int) (l:List (List Val)):List (List Val):=stL (leR at_) l.length l.length 20 (blk1 (leR at_) l.length (l.length+1) 0 l)
theorem zRk(at_:Int) (l:List (List Val)):Srt (leR at_) (z3a at_ l)/\Keeps (leR at_) l (z3a at_ l):=zWq (leR at_) (z18 at_) (zUv at_) l
theorem zUy(at_:Int) (l:List (List Val)) (hl:l.length<=1000000000) :
 W zBU false [.fx 0 0,.fnv zS [] [.own 1 0]] [.fix 0 0 (l.map rowp),.var false 0 (.pv (.int .i64 at_))]=zFU (z3a at_ l) at_:=by
 rw[zD0,zFC,zG]
 have:=zYC at_ l.length hl (l.length+1) 0 l (by omega) (by omega) rfl
 rw[Nat.zero_add]at this
 simp only[Int.cast_ofNat_Int]at this
 rw[this]
 simp only[zFU,zB,k_c4d914_mk]
 rfl
theorem zRl(D E:List PV) (c:List Int) (l:List (List Val)) (hl:l.length<=1000000000) (hr:∀ x∈l,x.length<=4294967296):∀(k i:Nat) (acc:List (List Val)),i+k=l.length->acc.length=i ->
 zEO (l.map rowp) (l.length:Int) (i:Int) D E (c.map intp) (acc.map rowp)=some (.agg [.pv (.slice 0 (c.map intp)),.view 0 0 none],[.row false 0 0 ((acc++l.drop i).map rowp)])
 | 0,i,acc,h,ha=>by
  rw[zIF,show i=l.length by omega]
  simp only[zDG,zC,List.drop_length,zBM]
 |k+1,i,acc,h,ha=>by
  have hi:i<l.length:=by omega
  rw[zIF]
  have hc:=zD5 (l[i].map Val.pv) (by rw[zG];exact hr _ (zAF hi))
  have hb:=zU6 (l[i].map Val.pv)
  rw[zZ]at hc hb
  simp only[zAK hi,zA2,zA,zY,zN,zI hi,zU,zB,zCm,zZ,hb,hc,c_b_mk,zG,zAA,zD (show acc.length+1<=4294967296 by omega)]
  rw[zX (by omega)]
  have:=zRl D E c l hl hr k (i+1) (acc++[l[i]]) (by omega) (by simp[ha])
  rw[zAm]at this
  rw[show [rowp l[i]]=[l[i]].map rowp from rfl,this,zAk hi,zAE];rfl
def zZ5(c:List Int) (r:List (List Val)) (col:Int):List (List Val):=z3a (idxI c (λ x=>col==x)) r
theorem z4R(c:List Int) (r:List (List Val)) (col:Int) (hc:c.length<=4294967296) (hl:r.length<=1000000000) (hr:∀ x∈r,x.length<=4294967296):wc W zKq [bagp c r,.int .i64 col]=some (bagp c (zZ5 c r col)):=by
 have h:=zZG (c.map intp) (r.map rowp) col
 have h2:=zQN (c.map intp) (r.map rowp)
 have h3:=zDr (c.map intp) (by rw[zG];exact hc)
 have h4:=zRl [] [] c r hl hr r.length 0 [] (by omega) rfl
 simp only[zAd,List.nil_append,List.drop_zero]at h4
 rw[h3]at h2
 simp only[zB,c_s0_mk,zG]at h2
 rw[show((0:Nat):Int)=0 from rfl]at h4
 rw[h4]at h2
 rw[zH,zAM,zAY]at h h2
 rw[h,h2,zHc c col (by omega)]
 unfold zBv
 simp only[zB,k_8de13e_mk,c_i64_mk]
 rw[zUy _ r hl]
 simp only[zFU,zB,k_c4d914_mk]
 rfl
def ordB(at_:Int):List (List Val)->Bool
 | []=>true
 | [_]=>true
 |x::y::r=>leR at_ x y&&ordB at_ (y::r)
theorem zMn(at_:Int):∀(l:List (List Val)),ordB at_ l=true↔Srt (leR at_) l
 | []=>by simp[ordB]
 | [x]=>by simp[ordB]
 |x::y::r=>by
  unfold ordB
  rw[zF,zMn at_ (y::r)]
  constructor
  ·rintro⟨h1,h2⟩
   refine List.pairwise_cons.2 ⟨λ z hz=> ?_,h2⟩
   rcases zAD.1 hz with rfl | hz
   ·exact h1
   ·exact zUv at_ _ _ _ h1 ((List.pairwise_cons.1 h2).1 z hz)
  ·intro h
   have:=List.pairwise_cons.1 h
   exact⟨this.1 y (by simp),this.2⟩
end Go.Cf

namespace Go.Cf
open Go Go.Ab
abbrev Ky:=Int×Int
abbrev GM:=List (Ky×List (List Val))
def mpG(m:GM):List (PV×PV):=m.map λ x=>(keyP x.1,tabp x.2)
@[simp] theorem zMo(k:Ky):PV.agg [.int .i64 k.1,.int .i64 k.2]=keyP k:=rfl
@[simp] theorem keyP_mk(k:Ky) {R:Type} (f:Int->Int->Option R):zM (keyP k) f=f k.1 k.2:=rfl
theorem eqK(a b:Ky):eqP cfg 6 100 (keyP a) (keyP b)=some (decide (a=b)):=by
 have h:eqP cfg 6 100 (keyP a) (keyP b)=(bif (a.1==b.1)then(bif (a.2==b.2)then some true else some false)else some false):=by rfl
 rw[h]
 obtain⟨a1,a2⟩:=a
 obtain⟨b1,b2⟩:=b
 simp only[zA4]
 rw[Bool.decide_and]
 show _=some ((a1==b1)&&(a2==b2))
 cases a1==b1<;>cases a2==b2<;>rfl
theorem z8G(a:Ky):zQn (keyP a) (keyP a)=true:=by
 show(zYT _ _&&_)=true
 simp[zYT,zT0]
def putG(k:Ky) (x:List Val):GM->GM
 | []=>[(k,[x])]
 |y::r=>if k=y.1 then(y.1,y.2++[x])::r else y::putG k x r
def getG(k:Ky):GM->Option (List (List Val))
 | []=>none
 |y::r=>if k=y.1 then some y.2 else getG k r
theorem zTB(k:Ky):∀ m:GM,zIZ (eqP cfg 6 100) (keyP k) (mpG m)=some ((getG k m).map tabp)
 | []=>rfl
 |y::r=>by
  show zIZ (eqP cfg 6 100) (keyP k) ((keyP y.1,tabp y.2)::mpG r)=_
  simp only[zIZ,eqK,zB,getG]
  by_cases h:k=y.1
  ·rw[zD h,if_pos h];rfl
  ·rw[zK h,if_neg h];exact zTB k r
def idxG(k:Ky):GM->Nat
 | []=>0
 |y::r=>if k=y.1 then 0 else idxG k r+1
theorem z4S(k:Ky):∀ m:GM,gidx (eqP cfg 6 100) (keyP k) (mpG m)=some (idxG k m)
 | []=>rfl
 |y::r=>by
  show gidx (eqP cfg 6 100) (keyP k) ((keyP y.1,tabp y.2)::mpG r)=_
  simp only[gidx,eqK,zB,idxG]
  by_cases h:k=y.1
  ·rw[zD h,if_pos h,<-h,z8G];rfl
  ·rw[zK h,if_neg h,zC,z4S k r];rfl
theorem z1b(k:Ky):∀ m:GM,zT1 0 (idxG k m) (mpG m)=some (((getG k m).getD []).map rowp)
 | []=>rfl
 |y::r=>by
  simp only[idxG,getG]
  by_cases h:k=y.1
  ·rw[if_pos h,if_pos h];rfl
  ·rw[if_neg h,if_neg h]
   have:=z1b k r
   unfold zT1 at this ⊢
   show(match (mpG r)[idxG k r]? with | none=>some [] | some e=>e.2.asSlice 0)=_
   exact this
theorem z57(k:Ky) (x:List Val):∀ m:GM,gset (.slice 0 ((((getG k m).getD []).map rowp)++[rowp x])) (idxG k m) (gput (keyP k) 0 (idxG k m) (mpG m))=mpG (putG k x m)
 | []=>rfl
 |y::r=>by
  simp only[idxG,getG,putG]
  by_cases h:k=y.1
  ·rw[if_pos h,if_pos h,if_pos h]
   have e:gput (keyP k) 0 0 (mpG (y::r))=(keyP k,tabp y.2)::mpG r:=by
    unfold gput
    rw[zD (by show 0<(mpG (y::r)).length;simp[mpG])];rfl
   rw[e]
   unfold gset
   show(keyP k,PV.slice 0 (y.2.map rowp++[rowp x]))::mpG r=(keyP y.1,tabp (y.2++[x]))::mpG r
   rw[h];unfold tabp;rw[zAm];rfl
  ·rw[if_neg h,if_neg h,if_neg h]
   have ih:=z57 k x r
   have e:gput (keyP k) 0 (idxG k r+1) (mpG (y::r))=(keyP y.1,tabp y.2)::gput (keyP k) 0 (idxG k r) (mpG r):=by
    unfold gput
    have hl:(mpG (y::r)).length=(mpG r).length+1:=by simp[mpG]
    by_cases hlt:idxG k r<(mpG r).length
    ·rw[zD (by omega),zD hlt];rfl
    ·rw[zK (by omega),zK hlt];rfl
   rw[e]
   have e2:∀ v,gset v (idxG k r+1) ((keyP y.1,tabp y.2)::gput (keyP k) 0 (idxG k r) (mpG r))=(keyP y.1,tabp y.2)::gset v (idxG k r) (gput (keyP k) 0 (idxG k r) (mpG r)):=λ v=>by unfold gset;rfl
   rw[e2,ih];rfl
def zJp(at_:Int):List (List Val)->GM->GM
 | [],m=>m
 |x::r,m=>zJp at_ r (putG (keyR at_ x) x m)
def zOt(at_:Int):List (List Val)->GM->List Ky->List Ky
 | [],_,ks=>ks
 |x::r,m,ks=>zOt at_ r (putG (keyR at_ x) x m) (if getG (keyR at_ x) m=none then ks++[keyR at_ x]else ks)
def ne1(m:GM):Prop:=∀ x∈m,x.2≠[]
theorem z1c{k:Ky} {x:List Val}:∀{m:GM},ne1 m->ne1 (putG k x m)
 | [],_=>λ y hy=>by simp[putG]at hy;subst hy;simp
 |z::r,h=>λ y hy=>by
  unfold putG at hy
  split at hy
  ·rcases zAD.1 hy with rfl | hy
   ·simp
   ·exact h y (by simp[hy])
  ·rcases zAD.1 hy with rfl | hy
   ·exact h y (by simp)
   ·exact z1c (λ w hw=>h w (by simp[hw])) y hy
theorem z1d{k:Ky}:∀{m:GM},ne1 m->∀ l,getG k m=some l->l≠[]
 | [],_,l,h=>by cases h
 |z::r,hm,l,h=>by
  unfold getG at h
  split at h
  ·simp only[zE]at h;subst h;exact hm z (by simp)
  ·exact z1d (λ w hw=>hm w (by simp[hw])) l h
theorem zQa(at_:Int):∀(r:List (List Val)) (m:GM) (ks:List Ky),(zOt at_ r m ks).length<=ks.length+r.length
 | [],_,ks=>by simp[zOt]
 |x::r,m,ks=>by
  unfold zOt
  refine Nat.le_trans (zQa at_ r _ _) ?_
  split<;>simp<;>omega
def zMA:GM->Nat
 | []=>0
 |y::r=>y.2.length+zMA r
theorem zMp(k:Ky) (x:List Val):∀ m,zMA (putG k x m)=zMA m+1
 | []=>rfl
 |y::r=>by
  unfold putG
  split
  ·simp only[zMA,zAH,List.length_singleton];omega
  ·simp only[zMA,zMp k x r];omega
theorem zQb(k:Ky):∀ m l,getG k m=some l->l.length<=zMA m
 | [],l,h=>by cases h
 |y::r,l,h=>by
  unfold getG at h
  split at h
  ·simp only[zE]at h;subst h;simp[zMA]
  ·have:=zQb k r l h;simp only[zMA];omega
theorem z4T(by_ at_:Int) (sums:List PV) (c:List PV) (B:List PV) (R:GM->List Ky->Option PV) (r:List (List Val)) (hr:r.length<=1000000000)
 (hR:∀(m:GM) (ks:List Ky),ks.length<=r.length->(W zAq false [(AV.fx 0 3),(AV.pv (.fn zC8 [] []))] [(Ob.fix 0 3 (ks.map keyP))]).bind (λ v45=>zPB v45 λ v46 v47=>zE1 sums c B (sums.length:Int) 0 (mpG m) [] v47 [(.int .i64 by_),(.int .i64 16)] [] [] [])=R m ks) :
 ∀(k i:Nat) (m:GM) (ks:List Ky),i+k=r.length->ks.length<=i->zMA m=i->ne1 m ->
 zGr by_ sums c B at_ (r.map rowp) (r.length:Int) (i:Int) (mpG m) [] (ks.map keyP)=R (zJp at_ (r.drop i) m) (zOt at_ (r.drop i) m ks)
 | 0,i,m,ks,h,hk,hs,hn=>by
  rw[zJc,show i=r.length by omega]
  simp only[zDG,zC,List.drop_length,zJp,zOt]
  exact hR m ks (by omega)
 |k+1,i,m,ks,h,hk,hs,hn=>by
  have hi:i<r.length:=by omega
  rw[zJc,zAk hi,zJp,zOt]
  have hget:∀ o:Option (List (List Val)),PV.asSlice 0 ((o.map tabp).getD (.slice 0 []))=some ((o.getD []).map rowp):=λ o=>by cases o<;>rfl
  simp only[zAK hi,zA2,zA,zY,zN,zI hi,zU,zB,zCm,zZ,zQ7,c_g_i64_i64_mk,zMo,keyP_mk,zTB,hget,zG]
  have step:∀(ks' :List Ky),ks'.length<=i+1->zGs by_ sums c B at_ (r[i].map Val.pv) (r.map rowp) (r.length:Int) (i:Int) (mpG m) [] (ks'.map keyP) (keyR at_ r[i]).1 (keyR at_ r[i]).2=R (zJp at_ (r.drop (i+1)) (putG (keyR at_ r[i]) r[i] m)) (zOt at_ (r.drop (i+1)) (putG (keyR at_ r[i]) r[i] m) ks'):=λ ks' hk' =>by
   have hsz:((getG (keyR at_ r[i]) m).getD []).length<=i:=by
    cases hg:getG (keyR at_ r[i]) m with
    |none=>simp
    |some l=>have:=zQb _ _ _ hg;simpa [hs]using this
   rw[zO8]
   simp only[zMo,z4S,z1b,zB,zG,zZ,z57,decide_true,Bool.and_self,zA,zAA,zD (show((getG (keyR at_ r[i]) m).getD []).length+1<=4294967296 by omega)]
   rw[zX (by omega)]
   exact z4T by_ at_ sums c B R r hr hR k (i+1) _ ks' (by omega) hk' (by rw[zMp,hs]) (z1c hn)
  cases hg:getG (keyR at_ r[i]) m with
  |none =>
   have:=step (ks++[keyR at_ r[i]]) (by simp;omega)
   rw[zAm]at this
   simp only[Option.getD_none,List.length_nil,Int.natCast_zero,zCO,zA,zAA,if_true,zD (show ks.length+1<=4294967296 by omega)]
   exact this
  |some l =>
   have hl:=z1d hn l hg
   have hpos:0<l.length:=List.length_pos_iff.2 hl
   have:=step ks (by omega)
   simp only[Option.getD_some,if_neg (show ¬ (some l=none) by simp)]
   rw[zDI (by omega),zC]
   exact this
theorem z4U(sums:List Int) (c B:List PV) (m:List (PV×PV)) (h1 l55 l57 l58 l59:List PV) (hs:sums.length<=100):∀(k i:Nat) (acc:List Int),i+k=sums.length->acc.length<=2+i ->
 zE1 (sums.map intp) c B (sums.length:Int) (i:Int) m h1 l55 (acc.map intp) l57 l58 l59=zE2 (sums.map intp) c B (l55.length:Int) 0 m h1 l55 ((acc++(List.range' (17+i) k).map λ n:Nat=>(n:Int)).map intp) l57 l58 l59
 | 0,i,acc,h,ha=>by
  rw[zJd,show i=sums.length by omega]
  simp
 |k+1,i,acc,h,ha=>by
  rw[zJd]
  simp only[zAK (show i<sums.length by omega),zA,zG,zAA,zD (show acc.length+1<=4294967296 by omega)]
  rw[zX (by omega),show IntKind.wrap .i64 ((17:Int)+(i:Int))=((17+i:Nat):Int) by rw[zAZ (by omega) (by omega)];omega]
  have:=z4U sums c B m h1 l55 l57 l58 l59 hs k (i+1) (acc++[((17+i:Nat):Int)]) (by omega) (by simp;omega)
  rw[zAm]at this
  rw[show [PV.int .i64 ((17+i:Nat):Int)]=[((17+i:Nat):Int)].map intp from rfl,this,List.range'_succ,zA1,zAE];rfl
def colG(c:List Int) (rows:List (List Val)) (s:Int):Val:=sumV (rows.map λ x=>zV c x s)
def rowG(c:List Int) (sums:List Int) (k:Ky) (rows:List (List Val)):List Val:=⟨k.1,k.2⟩::⟨0,(rows.length:Int)⟩::sums.map (colG c rows)
theorem z4V(sums:List PV) (c:List Int) (s:Int) (hin:inC c s=true) (rows:List (List Val)) (hw:∀ x∈rows,x.length=c.length/\ROk x) (hl:rows.length<=1000000000) (B:List PV) (A:List PV) (n5 i5 n6 i6:Int) (m:List (PV×PV)) (h1 l55 l56 l57 l58 l59:List PV) (a b:Int) (row:List Val) (hrow:row.length<=1000) :
 ∀(k i:Nat) (acc:List Val),i+k=rows.length->acc=(rows.take i).map (λ x=>zV c x s) ->
 zGt sums (c.map intp) B (idxI c (λ y=>s==y)) n5 i5 A n6 i6 (tabp rows) (rows.length:Int) (i:Int) m h1 l55 l56 l57 l58 l59 a b (row.map Val.pv) (acc.map Val.pv) =
  zF7 sums (c.map intp) B n5 i5 A n6 (IntKind.wrap .i64 (i6+1)) m h1 l55 l56 l57 l58 l59 a b ((row++[colG c rows s]).map Val.pv)
 | 0,i,acc,h,ha=>by
  have hi:i=rows.length:=by omega
  subst hi
  rw[List.take_length]at ha
  rw[zJg]
  have hok:ROk acc:=by
   subst ha
   intro v hv
   obtain⟨x,hx,rfl⟩:=zAV.1 hv
   exact zSf c (hw x hx).2 s
  have hs:=z8n acc hok (by subst ha;rw[zG];omega)
  simp only[zDG,zC,zZ,hs,zB,Val.c_mk,zG,zAA,zD (show row.length+1<=4294967296 by omega),zA,Val.fold]
  subst ha
  rw[zAm];rfl
 |k+1,i,acc,h,ha=>by
  have hi:i<rows.length:=by omega
  have hx:=hw _ (zAF hi)
  obtain⟨h1',h2'⟩:=zCd hin hx.1
  rw[zJg]
  have hal:acc.length=i:=by subst ha;rw[zG,List.length_take];omega
  simp only[zAK hi,zA2,zA,zY,tabp,PV.asSlice,BEq.rfl,zN,zI hi,zU,zB,zCm,zD h2',h1',Val.c_mk,zG,zAA,zD (show acc.length+1<=4294967296 by omega),Val.fold]
  rw[zX (by omega)]
  have:=z4V sums c s hin rows hw hl B A n5 i5 n6 i6 m h1 l55 l56 l57 l58 l59 a b row hrow k (i+1) (acc++[zV c rows[i] s]) (by omega) (by rw[ha,<-List.take_append_getElem hi,zAm];rfl)
  rw[zAm]at this
  exact this
theorem z4W(sums:List Int) (c:List Int) (hin:∀ s∈sums,inC c s=true) (hs:sums.length<=100) (hc:c.length<=9223372036854775807) (rows:List (List Val)) (hw:∀ x∈rows,x.length=c.length/\ROk x) (hl:rows.length<=1000000000) (B:List PV) (n5 i5:Int) (m:GM) (kk:Ky) (hg:getG kk m=some rows) (h1 l55 l56 l57 l58:List PV) (out:List (List Val)) (ho:out.length<=1000000000) :
 ∀(k i:Nat) (row:List Val),i+k=sums.length->row=⟨kk.1,kk.2⟩::⟨0,(rows.length:Int)⟩::(sums.take i).map (colG c rows) ->
 zF7 (sums.map intp) (c.map intp) B n5 i5 (sums.map intp) (sums.length:Int) (i:Int) (mpG m) h1 l55 l56 l57 l58 (out.map rowp) kk.1 kk.2 (row.map Val.pv) =
  zE2 (sums.map intp) (c.map intp) B n5 (IntKind.wrap .i64 (i5+1)) (mpG m) h1 l55 l56 l57 l58 ((out++[rowG c sums kk rows]).map rowp)
 | 0,i,row,h,hr=>by
  have hi:i=sums.length:=by omega
  subst hi
  rw[List.take_length]at hr
  rw[zJf]
  simp only[zDG,zC,zG,zAA,zD (show out.length+1<=4294967296 by omega),zA,zZ]
  subst hr
  rw[zAm];rfl
 |k+1,i,row,h,hr=>by
  have hi:i<sums.length:=by omega
  rw[zJf]
  have hix:=zHc c sums[i] hc
  have hrl:row.length=i+2:=by subst hr;simp;omega
  simp only[zAK hi,zA2,zA,zY,zN,zI hi,zU,zB,zIK,zH,hix,c_i64_mk,zMo,zTB,hg,Option.getD_some,tabp,PV.asSlice,BEq.rfl,zG]
  have h7:=z4V (sums.map intp) c sums[i] (hin _ (zAF hi)) rows hw hl B (sums.map intp) n5 i5 (sums.length:Int) (i:Int) (mpG m) h1 l55 l56 l57 l58 (out.map rowp) kk.1 kk.2 row (by omega) rows.length 0 [] (by omega) (by simp)
  refine h7.trans ?_
  rw[zX (by omega)]
  exact z4W sums c hin hs hc rows hw hl B n5 i5 m kk hg h1 l55 l56 l57 l58 out ho k (i+1) (row++[colG c rows sums[i]]) (by omega) (by rw[hr,<-List.take_append_getElem hi,zAm];rfl)
theorem z4X(sums:List Int) (c:List Int) (hin:∀ s∈sums,inC c s=true) (hs:sums.length<=100) (hc:c.length<=9223372036854775807) (B:List PV) (m:GM) (ks:List Ky) (hk:ks.length<=1000000000) (hm:∀ k∈ks,∃ rows,getG k m=some rows/\rows.length<=1000000000/\∀ x∈rows,x.length=c.length/\ROk x) (h1 l57 l58:List PV) (cols:List Int) :
 ∀(k i:Nat) (out:List (List Val)),i+k=ks.length->out.length=i ->
 zE2 (sums.map intp) (c.map intp) B (ks.length:Int) (i:Int) (mpG m) h1 (ks.map keyP) (cols.map intp) l57 l58 (out.map rowp)=some (.tup [bagp cols (out++(ks.drop i).map λ k=>rowG c sums k ((getG k m).getD [])),.bool true])
 | 0,i,out,h,ho=>by
  rw[zJe,show i=ks.length by omega]
  simp only[zDG,zC,List.drop_length,zAd,zBM];rfl
 |k+1,i,out,h,ho=>by
  have hi:i<ks.length:=by omega
  obtain⟨rows,hg,hrl,hw⟩:=hm _ (zAF hi)
  rw[zJe]
  have hv:=zPE (rows.length:Int)
  simp only[zAK hi,zA2,Bool.and_self,zA,zY,Nat.zero_add,zG,zN,zI hi,zU,zB,keyP_mk,zMo,zTB,hg,Option.getD_some,tabp,PV.asSlice,BEq.rfl,hv,c_g_i64_i64_mk]
  have h6:=z4W sums c hin hs hc rows hw hrl B (ks.length:Int) (i:Int) m ks[i] hg h1 (ks.map keyP) (cols.map intp) l57 l58 out (by omega) sums.length 0 [⟨ks[i].1,ks[i].2⟩,⟨0,(rows.length:Int)⟩] (by omega) (by simp)
  refine h6.trans ?_
  rw[zX (by omega)]
  have:=z4X sums c hin hs hc B m ks hk hm h1 l57 l58 cols k (i+1) (out++[rowG c sums ks[i] rows]) (by omega) (by simp[ho])
  rw[this,zAk hi,zA1,hg,zAE];rfl
end Go.Cf

namespace Go.Cf
open Go Go.Ab
def hasK(at_:Int) (k:Ky) (x:List Val):Bool:=decide (k=keyR at_ x)
theorem zMq(k q:Ky) (x:List Val):∀ m:GM,getG k (putG q x m)=if k=q then some ((getG k m).getD []++[x])else getG k m
 | []=>by simp only[putG,getG];split<;>simp
 |y::r=>by
  by_cases h:q=y.1
  ·simp only[putG,if_pos h,getG]
   by_cases hk:k=q
   ·rw[if_pos hk,if_pos (hk.trans h),if_pos (hk.trans h)];rfl
   ·rw[if_neg hk,if_neg (λ e=>hk (e.trans h.symm)),if_neg (λ e=>hk (e.trans h.symm))]
  ·simp only[putG,if_neg h,getG]
   by_cases hk:k=y.1
   ·rw[if_pos hk,if_pos hk,if_neg (λ e=>h (e.symm.trans hk))]
   ·rw[if_neg hk,if_neg hk,zMq k q x r]
theorem zUz(at_:Int) (k:Ky):∀(r:List (List Val)) (m:GM),(getG k (zJp at_ r m)).getD []=(getG k m).getD []++r.filter (hasK at_ k)
 | [],m=>by simp[zJp]
 |x::r,m=>by
  rw[zJp,zUz at_ k r,zMq,List.filter_cons]
  unfold hasK
  by_cases h:k=keyR at_ x
  ·rw[if_pos h,zD h];simp
  ·rw[if_neg h,zK h];simp
theorem zVA(at_:Int) (k:Ky):∀(r:List (List Val)) (m:GM),(getG k (zJp at_ r m)≠none)↔(getG k m≠none∨∃ x∈r,k=keyR at_ x)
 | [],m=>by simp[zJp]
 |x::r,m=>by
  rw[zJp,zVA at_ k r,zMq]
  by_cases h:k=keyR at_ x
  ·rw[if_pos h];simp[h]
  ·rw[if_neg h];simp[h]
theorem zLE(at_:Int):∀(r:List (List Val)) (m:GM) (ks:List Ky),(∀ k,k∈ks↔getG k m≠none)->ks.Nodup->(zOt at_ r m ks).Nodup/\∀ k,k∈zOt at_ r m ks↔getG k (zJp at_ r m)≠none
 | [],m,ks,h,hn=>⟨hn,h⟩
 |x::r,m,ks,h,hn=>by
  rw[zOt,zJp]
  refine zLE at_ r _ _ (λ k=> ?_) ?_
  ·rw[zMq]
   by_cases hx:getG (keyR at_ x) m=none
   ·rw[if_pos hx,List.mem_append,h k,zBS]
    by_cases e:k=keyR at_ x
    ·rw[if_pos e];simp[e]
    ·rw[if_neg e];simp[e]
   ·rw[if_neg hx,h k]
    by_cases e:k=keyR at_ x
    ·rw[if_pos e,e];simp[hx]
    ·rw[if_neg e]
  ·split
   ·rename_i hx
    refine List.nodup_append.2 ⟨hn,by simp,λ a ha b hb=> ?_⟩
    simp only[zBS]at hb
    subst hb
    intro e;subst e
    exact(h _).1 ha hx
   ·exact hn
def zGc(at_:Int) (r:List (List Val)):List Ky:=zOt at_ r [] []
theorem zJY(at_:Int) (r:List (List Val)):(zGc at_ r).Nodup:=(zLE at_ r [] [] (λ k=>by simp[getG]) (by simp)).1
theorem zIp(at_:Int) (r:List (List Val)) (k:Ky):k∈zGc at_ r↔∃ x∈r,k=keyR at_ x:=by
 unfold zGc
 rw[(zLE at_ r [] [] (λ k=>by simp[getG]) (by simp)).2 k,zVA]
 simp[getG]
theorem zVB(at_:Int) (r:List (List Val)) (k:Ky) (h:k∈zGc at_ r):getG k (zJp at_ r [])=some (r.filter (hasK at_ k)):=by
 have h1:=(zLE at_ r [] [] (λ k=>by simp[getG]) (by simp)).2 k |>.1 h
 have h2:=zUz at_ k r []
 cases hg:getG k (zJp at_ r []) with
 |none=>exact absurd hg h1
 |some l=>rw[hg]at h2;simpa [getG]using h2
def zMB(by_:Int) (n:Nat):List Int:=by_::16::(List.range' 17 n).map λ n:Nat=>(n:Int)
def zKb(c:List Int) (r:List (List Val)) (by_:Int) (sums:List Int):List (List Val) :=
 (zBP (zGc (idxI c λ x=>by_==x) r)).map λ k=>rowG c sums k (r.filter (hasK (idxI c λ x=>by_==x) k))
def zJj(c:List Int) (r:List (List Val)) (by_:Int) (sums:List Int):Option (List Int×List (List Val)) :=
 bif mayB c r&&inC c by_&&decide (sums.length<=4)&&sums.all (inC c)then some (zMB by_ sums.length,zKb c r by_ sums)else none
theorem z58(c:List Int) (r:List (List Val)) (by_:Int) (sums:List Int) (hc:c.length<=9223372036854775807) (hr:r.length<=1000000000) (hl:∀ x∈r,x.length<=9223372036854775807) (hok:∀ x∈r,ROk x) :
 wc W zLc [bagp c r,.int .i64 by_,zBv sums]=some (bagR (zJj c r by_ sums)):=by
 have h:=zWV (c.map intp) (r.map rowp) by_ (sums.map intp)
 rw[zH,zH,zAM,zAY]at h
 rw[h,zHc c by_ hc,zIl c r hc (by omega) hl]
 simp only[zB,c_i64_mk,c_b_mk,zG]
 unfold zJj
 cases hm:mayB c r with
 |false=>rfl
 |true =>
 simp only[zAJ,zC,zAA,zLt]
 cases hb:inC c by_ with
 |false=>rfl
 |true =>
 simp only[zAJ,zC,zAA]
 rcases Nat.lt_or_ge 4 sums.length with hs | hs
 ·rw[zD (show((sums.length:Nat):Int)>4 by omega),zK (show ¬ sums.length<=4 by omega)];rfl
 rw[zK (show ¬ ((sums.length:Nat):Int)>4 by omega),zD hs]
 have hany:=zSm sums zJJ [] [.imm 3 (bagp c r) 0] (λ s=> !inC c s) (by omega) (λ s _=>by
  have h1:=zS9 s (c.map intp) (r.map rowp)
  rw[zH,zAM,zAY,zKz c s hc]at h1
  simp only[zB,c_b_mk]at h1
  exact h1)
 rw[hany]
 simp only[zC,zB,c_b_mk,zAA]
 have ha:=zLs sums (inC c)
 cases hall:sums.all (inC c) with
 |false =>
  rw[hall]at ha
  rw[show(sums.any λ s=> !inC c s)=true by cases hx:(sums.any λ s=> !inC c s)<;>simp_all];rfl
 |true =>
  rw[hall]at ha
  rw[show(sums.any λ s=> !inC c s)=false by cases hx:(sums.any λ s=> !inC c s)<;>simp_all]
  simp only[zC,zA]
  rw[zO7,zG]
  have hmr:=zBi hm
  have hin:∀ s∈sums,inC c s=true:=zAB.1 hall
  have key:=z4T by_ (idxI c λ x=>by_==x) (sums.map intp) (c.map intp) (r.map rowp) (λ m ks=>(W zAq false [(AV.fx 0 3),(AV.pv (.fn zC8 [] []))] [(Ob.fix 0 3 (ks.map keyP))]).bind (λ v45=>zPB v45 λ v46 v47=>zE1 (sums.map intp) (c.map intp) (r.map rowp) ((sums.map intp).length:Int) 0 (mpG m) [] v47 [(.int .i64 by_),(.int .i64 16)] [] [] [])) r hr (λ m ks hk=>rfl) r.length 0 [] [] (by omega) (by simp) rfl (λ x hx=>by simp at hx)
  simp only[List.drop_zero,zAd]at key
  refine key.trans ?_
  have hkl:(zGc (idxI c λ x=>by_==x) r).length<=r.length:=by have:=zQa (idxI c λ x=>by_==x) r [] [];simpa [zGc]using this
  have hsk:=zF3 0 (zGc (idxI c λ x=>by_==x) r) (by omega)
  show(W zAq false [(AV.fx 0 3),(AV.pv (.fn zC8 [] []))] [(Ob.fix 0 3 ((zGc (idxI c λ x=>by_==x) r).map keyP))]).bind _=_
  rw[hsk]
  simp only[zB,k_a0f1d3_mk,zG]
  have g4:=z4U sums (c.map intp) (r.map rowp) (mpG (zJp (idxI c λ x=>by_==x) r [])) [] ((zBP (zGc (idxI c λ x=>by_==x) r)).map keyP) [] [] [] (by omega) sums.length 0 [by_,16] (by omega) (by simp)
  have hgk:∀ k∈zBP (zGc (idxI c λ x=>by_==x) r),∃ rows,getG k (zJp (idxI c λ x=>by_==x) r [])=some rows/\rows.length<=1000000000/\∀ x∈rows,x.length=c.length/\ROk x:=λ k hk=>by
   have hk' :=(zBo _).mem_iff.1 hk
   refine⟨_,zVB _ r k hk',Nat.le_trans (zD7 _ _) hr,λ x hx=> ?_⟩
   have hx' :=(zBE.1 hx).1
   exact⟨(hmr.2.2 x hx').1,hok x hx'⟩
  have g5:=z4X sums c hin (by omega) hc (r.map rowp) (zJp (idxI c λ x=>by_==x) r []) (zBP (zGc (idxI c λ x=>by_==x) r)) (by rw[zHs];omega) hgk [] [] [] (zMB by_ sums.length) (zBP (zGc (idxI c λ x=>by_==x) r)).length 0 [] (by omega) rfl
  simp only[zG]at g4 g5
  refine g4.trans ?_
  refine g5.trans ?_
  show some (PV.tup [bagp (zMB by_ sums.length) _,.bool true])=some (.tup [bagp (zMB by_ sums.length) (zKb c r by_ sums),.bool true])
  congr 4
  simp only[List.nil_append,List.drop_zero]
  unfold zKb
  refine zBz λ k hk=> ?_
  rw[zVB _ r k ((zBo _).mem_iff.1 hk)];rfl
end Go.Cf

namespace Go.Cf
open Go Go.Ab
theorem zMr{c:List Int} {r s:List (List Val)} (h:r.Perm s):mayB c r=mayB c s:=by
 unfold mayB
 have h1:r.all (rowB c.length)=s.all (rowB c.length):=by
  rw[Bool.eq_iff_iff,zAB,zAB]
  exact⟨λ k x hx=>k x (h.mem_iff.2 hx),λ k x hx=>k x (h.mem_iff.1 hx)⟩
 rw[h1,h.length_eq]
theorem zZ6{at_:Int} {r s:List (List Val)} (h:r.Perm s):zBP (zGc at_ r)=zBP (zGc at_ s):=by
 have hp:(zGc at_ r).Perm (zGc at_ s):=(List.perm_ext_iff_of_nodup (zJY at_ r) (zJY at_ s)).2 λ k=>by
  rw[zIp,zIp]
  exact⟨λ⟨x,hx,e⟩=>⟨x,h.mem_iff.1 hx,e⟩,λ⟨x,hx,e⟩=>⟨x,h.mem_iff.2 hx,e⟩⟩
 exact zKo ((zBo _).trans (hp.trans (zBo _).symm)) (zCh _) (zCh _)
end Go.Cf

namespace Go.Cf
open Go Go.Ab
abbrev CM:=List (ByteArray×Int)
def mpC(m:CM):List (PV×PV):=m.map λ x=>(PV.str x.1,PV.int .i64 x.2)
def getC(k:ByteArray):CM->Option Int
 | []=>none
 |x::r=>bif k.toList==x.1.toList then some x.2 else getC k r
def putC(k:ByteArray) (v:Int):CM->CM
 | []=>[(k,v)]
 |x::r=>bif k.toList==x.1.toList then(k,v)::r else x::putC k v r
theorem eqS(a b:ByteArray):eqP cfg 6 9 (.str a) (.str b)=some (a.toList==b.toList):=by rfl
theorem zTC(k:ByteArray):∀(m:CM),zIZ (eqP cfg 6 9) (.str k) (mpC m)=some ((getC k m).map (PV.int .i64))
 | []=>rfl
 |x::r=>by
  show zIZ (eqP cfg 6 9) (.str k) ((PV.str x.1,PV.int .i64 x.2)::mpC r)=_
  simp only[zIZ,eqS,zB,getC]
  cases k.toList==x.1.toList with
  |true=>rfl
  |false=>exact zTC k r
theorem zWt(k:ByteArray) (v:Int):∀(m:CM),mput (eqP cfg 6 9) (.str k) (.int .i64 v) (mpC m)=some (mpC (putC k v m))
 | []=>rfl
 |x::r=>by
  show mput (eqP cfg 6 9) (.str k) (.int .i64 v) ((PV.str x.1,PV.int .i64 x.2)::mpC r)=_
  simp only[mput,eqS,zB,putC]
  cases h:k.toList==x.1.toList with
  |true =>
   have h' :zQn (.str x.1) (.str k)=true:=by
    show(x.1.toList==k.toList)=true
    rw[beq_iff_eq]at h ⊢;exact h.symm
   rw[h'];rfl
  |false =>
   simp only[zC,zWt k v r,zB];rfl
theorem zYD:∀(m:CM),zT8 (mpC m)=some (m.all λ x=>x.2==0)
 | []=>rfl
 |x::r=>by
  show(zT8 (mpC r)).map (λ b=>(x.2==0)&&b)=_
  rw[zYD r];rfl
def getL(L:List UInt8):CM->Int
 | []=>0
 |x::r=>if L=x.1.toList then x.2 else getL L r
theorem zVC(k:ByteArray):∀(m:CM),(getC k m).getD 0=getL k.toList m
 | []=>rfl
 |x::r=>by
  simp only[getC,getL]
  by_cases h:k.toList=x.1.toList
  ·rw[if_pos h,show(k.toList==x.1.toList)=true by rw[h];exact zCO _];rfl
  ·rw[if_neg h,show(k.toList==x.1.toList)=false by simpa using h]
   exact zVC k r
theorem zYE(L:List UInt8) (k:ByteArray) (v:Int):∀(m:CM),getL L (putC k v m)=if L=k.toList then v else getL L m
 | []=>rfl
 |x::r=>by
  simp only[putC]
  by_cases h:k.toList=x.1.toList
  ·rw[show(k.toList==x.1.toList)=true by rw[h];exact zCO _]
   simp only[zA,getL,<-h]
   by_cases hL:L=k.toList
   ·rw[if_pos hL,if_pos hL]
   ·rw[if_neg hL,if_neg hL,if_neg hL]
  ·rw[show(k.toList==x.1.toList)=false by simpa using h]
   simp only[zC,getL,zYE L k v r]
   by_cases hx:L=x.1.toList
   ·rw[if_pos hx]
    rw[if_neg (λ e=>h (e.symm.trans hx)),if_pos hx]
   ·rw[if_neg hx,if_neg hx]
def zJZ(m:CM):List (List UInt8):=m.map λ x=>x.1.toList
theorem zTD(k:ByteArray) (v:Int):∀(m:CM),(zJZ m).Nodup->(zJZ (putC k v m)).Nodup/\∀ L,L∈zJZ (putC k v m)->L=k.toList∨L∈zJZ m
 | [],_=>⟨by simp[putC,zJZ],λ L h=>by simp[putC,zJZ]at h;exact .inl h⟩
 |x::r,h=>by
  simp only[putC]
  have h2:=List.nodup_cons.1 (show(x.1.toList::zJZ r).Nodup from h)
  by_cases e:k.toList=x.1.toList
  ·rw[show(k.toList==x.1.toList)=true by rw[e];exact zCO _]
   simp only[zA]
   refine⟨?_,λ L hL=> ?_⟩
   ·show(k.toList::zJZ r).Nodup
    rw[e];exact h
   ·rcases zAD.1 (show L∈k.toList::zJZ r from hL)with h3 | h3
    ·exact .inl h3
    ·exact .inr (zAD.2 (.inr h3))
  ·rw[show(k.toList==x.1.toList)=false by simpa using e]
   obtain⟨i1,i2⟩:=zTD k v r h2.2
   simp only[zC]
   refine⟨?_,λ L hL=> ?_⟩
   ·refine List.nodup_cons.2 ⟨λ hm=> ?_,i1⟩
    rcases i2 _ hm with h3 | h3
    ·exact e h3.symm
    ·exact h2.1 h3
   ·rcases zAD.1 (show L∈x.1.toList::zJZ (putC k v r)from hL)with h3 | h3
    ·exact .inr (zAD.2 (.inl h3))
    ·rcases i2 _ h3 with h4 | h4
     ·exact .inl h4
     ·exact .inr (zAD.2 (.inr h4))
theorem zYF:∀(m:CM),(zJZ m).Nodup->((m.all λ x=>x.2==0)=true↔∀ L,getL L m=0)
 | [],_=>by simp[getL]
 |x::r,h=>by
  have h2:=List.nodup_cons.1 (show(x.1.toList::zJZ r).Nodup from h)
  have ih:=zYF r h2.2
  simp only[List.all_cons,zF,beq_iff_eq,getL]
  constructor
  ·rintro⟨a,b⟩ L
   split
   ·exact a
   ·exact ih.1 b L
  ·intro hall
   refine⟨?_,ih.2 λ L=> ?_⟩
   ·have:=hall x.1.toList
    rwa [if_pos rfl]at this
   ·by_cases hm:L=x.1.toList
    ·have none:∀(l:CM),L∉zJZ l->getL L l=0:=by
      intro l
      induction l with
      |nil=>intro _;rfl
      |cons y l ihl =>
       intro hn
       simp only[getL]
       rw[if_neg (λ e=>hn (by rw[e];simp[zJZ])),ihl (λ e=>hn (zAD.2 (.inr e)))]
     exact none r (by rw[hm];exact h2.1)
    ·have:=hall L
     rwa [if_neg hm]at this
def txt(r:List Val):ByteArray:=z2q (r.map λ v=>(v.K,v.N))
def tL(r:List Val):List UInt8:=(txt r).toList
theorem zVD:∀(r:List Val),ROk r->zOF (r.map Val.pv)=some (r.map λ v=>(v.K,v.N))
 | [],_=>rfl
 |v::r,h=>by
  have hv:=h v (by simp)
  have h1:(inI v.K&&inI v.N)=true:=by
   unfold inI
   rw[zD hv.1.1,zD hv.1.2,zD hv.2.1,zD hv.2.2];rfl
  show(bif inI v.K&&inI v.N then(zOF (r.map Val.pv)).bind λ l=>some ((v.K,v.N)::l)else none)=_
  rw[h1,zVD r (λ x hx=>h x (by simp[hx]))];rfl
theorem z4Y(r:List Val) (h:ROk r) (hl:r.length<=1000000):wc W zKr [rowp r]=some (.str (txt r)):=zZB (r.map Val.pv) _ (zVD r h) (by rw[zG];exact hl)
def add1(k:ByteArray) (d:Int) (m:CM):CM:=putC k ((getC k m).getD 0+d) m
def zRC:List (List Val)->List (List Val)->CM->CM
 |x::r,y::s,m=>zRC r s (add1 (txt y) (-1) (add1 (txt x) 1 m))
 |_,_,m=>m
def bnd(m:CM) (B:Nat):Prop:=∀ x∈m, -(B:Int)<=x.2/\x.2<=B
theorem zPL(k:ByteArray) (B:Nat):∀(m:CM),bnd m B-> -(B:Int)<=(getC k m).getD 0/\(getC k m).getD 0<=B
 | [],_=>by simp[getC]
 |x::r,h=>by
  simp only[getC]
  cases k.toList==x.1.toList with
  |true=>exact h x (by simp)
  |false=>exact zPL k B r (λ y hy=>h y (by simp[hy]))
theorem zYG(k:ByteArray) (v:Int) (B:Nat) (hv: -(B:Int)<=v/\v<=B):∀(m:CM),bnd m B->bnd (putC k v m) B
 | [],_=>λ x hx=>by simp[putC]at hx;subst hx;exact hv
 |x::r,h=>λ y hy=>by
  simp only[putC]at hy
  cases he:k.toList==x.1.toList with
  |true =>
   rw[he]at hy
   rcases zAD.1 hy with rfl | hy
   ·exact hv
   ·exact h y (by simp[hy])
  |false =>
   rw[he]at hy
   rcases zAD.1 hy with rfl | hy
   ·exact h _ (by simp)
   ·exact zYG k v B hv r (λ z hz=>h z (by simp[hz])) y hy
theorem zYH(k:ByteArray) (d:Int) (hd: -1<=d/\d<=1) (m:CM) (B:Nat) (h:bnd m B):bnd (add1 k d m) (B+1):=by
 have h1:=zPL k B m h
 exact zYG k _ (B+1) (by omega) m (λ x hx=>by have:=h x hx;omega)
theorem zVE(c d:List PV) (r s:List (List Val)) (e:r.length=s.length) (hr:r.length<=1000000000) (h1:∀ x∈r,ROk x/\x.length<=1000000) (h2:∀ x∈s,ROk x/\x.length<=1000000) :
 ∀(k i:Nat) (m:CM),i+k=r.length->bnd m (2*i)->zHy c (r.map rowp) d (s.map rowp) (r.length:Int) (i:Int) (mpC m)=some (.bool ((zRC (r.drop i) (s.drop i) m).all λ x=>x.2==0))
 | 0,i,m,h,hb=>by
  rw[zKN,show i=r.length by omega]
  simp only[zDG,zC,zYD,zB,List.drop_length,zRC]
 |k+1,i,m,h,hb=>by
  have hi:i<r.length:=by omega
  have hi' :i<s.length:=by omega
  obtain⟨a1,a2⟩:=h1 r[i] (zAF hi)
  obtain⟨b1,b2⟩:=h2 s[i] (zAF hi')
  have hb1:=zYH (txt r[i]) 1 (by omega) m _ hb
  have hb2:=zYH (txt s[i]) (-1) (by omega) _ _ hb1
  have g1:=zPL (txt r[i]) _ m hb
  have g2:=zPL (txt s[i]) _ _ hb1
  rw[zKN,zAk hi,zAk hi',zRC]
  have o1:∀(o:Option Int) (x:Int), -9223372036854775808<=o.getD 0+x->o.getD 0+x<=9223372036854775807->intP .add ((o.map (PV.int .i64)).getD (.int .i64 0)) (.int .i64 x)=some (.int .i64 (o.getD 0+x)):=λ o x q1 q2=>by
   cases o with
   |none=>show some (PV.int .i64 (IntKind.wrap .i64 (0+x)))=_;rw[zAZ (by simpa using q1) (by simpa using q2)];rfl
   |some v=>show some (PV.int .i64 (IntKind.wrap .i64 (v+x)))=_;rw[zAZ (by simpa using q1) (by simpa using q2)];rfl
  have o2:∀(o:Option Int) (x:Int), -9223372036854775808<=o.getD 0-x->o.getD 0-x<=9223372036854775807->intP .sub ((o.map (PV.int .i64)).getD (.int .i64 0)) (.int .i64 x)=some (.int .i64 (o.getD 0-x)):=λ o x q1 q2=>by
   cases o with
   |none=>show some (PV.int .i64 (IntKind.wrap .i64 (0-x)))=_;rw[zAZ (by simpa using q1) (by simpa using q2)];rfl
   |some v=>show some (PV.int .i64 (IntKind.wrap .i64 (v-x)))=_;rw[zAZ (by simpa using q1) (by simpa using q2)];rfl
  simp only[zAK hi,zA2,zA,zY,zN,zI hi,zI hi',zU,zB,zCm,zZ,z4Y _ a1 a2,z4Y _ b1 b2,c_t_mk,zTC,c_i64_mk]
  rw[o1 _ 1 (by omega) (by omega)]
  simp only[zB,c_i64_mk,zWt,zTC]
  have e1:putC (txt r[i]) ((getC (txt r[i]) m).getD 0+1) m=add1 (txt r[i]) 1 m:=rfl
  rw[e1,o2 _ 1 (by omega) (by omega)]
  simp only[zB,c_i64_mk,zWt]
  have e2:putC (txt s[i]) ((getC (txt s[i]) (add1 (txt r[i]) 1 m)).getD 0-1) (add1 (txt r[i]) 1 m)=add1 (txt s[i]) (-1) (add1 (txt r[i]) 1 m):=rfl
  rw[e2,zX (by omega)]
  have hb3:bnd (add1 (txt s[i]) (-1) (add1 (txt r[i]) 1 m)) (2*(i+1)):=hb2
  exact zVE c d r s e hr h1 h2 k (i+1) _ (by omega) hb3
theorem zZ7(a b:List Int) (ha:a.length<=9223372036854775807):wc W zDq [zBv a,zBv b]=some (.bool (decide (a=b))):=by
 have h:=zJl (a.map intp) (b.map intp)
 rw[zH,zH]at h
 rw[h,zG,zG]
 by_cases e:a.length=b.length
 ·rw[zIS (by omega)]
  simp only[zC]
  refine z1H (λ i=>zCW (a.map intp) (b.map intp) a.length i) a b e (some (.bool false)) (some (.bool true)) (λ i hi hi' => ?_) ?_ |>.trans ?_
  ·rw[zEL]
   simp only[zAK hi,zA2,zA,zY,zN,zI hi,zI hi',zU,zB,zIK]
   by_cases he:a[i]=b[i]
   ·rw[zIS he,zD he,zAZ (by omega) (by omega)];rfl
   ·rw[zH3 he,zK he];rfl
  ·rw[zEL];simp
  ·cases decide (a=b)<;>rfl
 ·rw[zH3 (by omega),zK (λ h=>e (by rw[h]))];rfl
def zZ8(c:List Int) (r:List (List Val)) (d:List Int) (s:List (List Val)):Bool:=decide (c=d)&&decide (r.length=s.length)&&(zRC r s []).all λ x=>x.2==0
theorem z8H(c:List Int) (r:List (List Val)) (d:List Int) (s:List (List Val)) (hc:c.length<=9223372036854775807) (hr:r.length<=1000000000) (hs:s.length<=1000000000) (h1:∀ x∈r,ROk x/\x.length<=1000000) (h2:∀ x∈s,ROk x/\x.length<=1000000) :
 wc W zNY [bagp c r,bagp d s]=some (.bool (zZ8 c r d s)):=by
 have h:=zZC (c.map intp) (r.map rowp) (d.map intp) (s.map rowp)
 rw[zH,zH,zAM,zAM,zAY,zAY,zZ7 c d hc]at h
 rw[h]
 unfold zZ8
 simp only[zB,c_b_mk,zG]
 cases decide (c=d) with
 |false=>rfl
 |true =>
  by_cases e:r.length=s.length
  ·rw[zIS (by omega),zD e,zQH]
   have:=zVE (c.map intp) (d.map intp) r s e hr h1 h2 r.length 0 [] (by omega) (λ x hx=>by simp at hx)
   simp only[List.drop_zero]at this
   simp only[zAJ,zC,zG,zAA]
   exact this
  ·rw[zH3 (by omega),zK e];rfl
def cnt(L:List UInt8) (r:List (List Val)):Int:=((r.map tL).count L:Nat)
theorem zYI(L:List UInt8) (k:ByteArray) (d:Int) (m:CM):getL L (add1 k d m)=getL L m+if L=k.toList then d else 0:=by
 unfold add1
 rw[zYE,zVC]
 split
 ·rename_i h;rw[h]
 ·omega
theorem zMs(L:List UInt8):∀(r s:List (List Val)) (m:CM),r.length=s.length->(zJZ m).Nodup->(zJZ (zRC r s m)).Nodup/\getL L (zRC r s m)=getL L m+cnt L r-cnt L s
 | [],[],m,_,h=>⟨h,by simp[zRC,cnt]⟩
 | [],_::_,m,e,h=>by simp at e
 |_::_,[],m,e,h=>by simp at e
 |x::r,y::s,m,e,h=>by
  have k1:=(zTD (txt x) ((getC (txt x) m).getD 0+1) m h).1
  have k2:=(zTD (txt y) ((getC (txt y) (add1 (txt x) 1 m)).getD 0+ -1) (add1 (txt x) 1 m) k1).1
  obtain⟨i1,i2⟩:=zMs L r s (add1 (txt y) (-1) (add1 (txt x) 1 m)) (by simpa using e) k2
  refine⟨i1,?_⟩
  show getL L (zRC r s (add1 (txt y) (-1) (add1 (txt x) 1 m)))=_
  rw[i2,zYI,zYI]
  have c1:cnt L (x::r)=cnt L r+if L=(txt x).toList then 1 else 0:=by
   unfold cnt
   rw[zA1,List.count_cons]
   by_cases hx:L=(txt x).toList
   ·rw[if_pos hx,show(tL x==L)=true by rw[hx];exact zCO _];simp
   ·rw[if_neg hx,show(tL x==L)=false by simpa using λ e=>hx e.symm];simp
  have c2:cnt L (y::s)=cnt L s+if L=(txt y).toList then 1 else 0:=by
   unfold cnt
   rw[zA1,List.count_cons]
   by_cases hx:L=(txt y).toList
   ·rw[if_pos hx,show(tL y==L)=true by rw[hx];exact zCO _];simp
   ·rw[if_neg hx,show(tL y==L)=false by simpa using λ e=>hx e.symm];simp
  rw[c1,c2]
  split<;>split<;>omega
theorem z3b(r s:List (List Val)) (e:r.length=s.length):((zRC r s []).all λ x=>x.2==0)=true↔∀ L,cnt L r=cnt L s:=by
 rw[zYF _ (zMs [] r s [] e (by simp[zJZ])).1]
 constructor
 ·intro h L
  have:=(zMs L r s [] e (by simp[zJZ])).2
  rw[h L]at this
  simp only[getL]at this
  omega
 ·intro h L
  rw[(zMs L r s [] e (by simp[zJZ])).2,h L]
  simp only[getL];omega
theorem z3c{r s:List (List Val)} (h:r.Perm s) (L:List UInt8):cnt L r=cnt L s:=by
 unfold cnt
 rw[(h.map tL).count_eq]
theorem z1e{c:List Int} {r s:List (List Val)} (h:r.Perm s):zZ8 c r c s=true:=by
 unfold zZ8
 rw[zD rfl,zD h.length_eq,(z3b r s h.length_eq).2 (z3c h)];rfl
end Go.Cf

namespace Go.Cf
open Go Go.Ab
theorem zZ9{c:List Int} {r s:List (List Val)} (h:r.Perm s) (by_:Int) (sums:List Int):zKb c r by_ sums=zKb c s by_ sums:=by
 unfold zKb
 rw[zZ6 h]
 refine zBz λ k hk=> ?_
 have hp:=h.filter (hasK (idxI c λ x=>by_==x) k)
 unfold rowG
 rw[hp.length_eq]
 refine congrArg _ (congrArg _ (zBz λ s hs=> ?_))
 unfold colG
 exact z16 (hp.map _)
theorem zWu{c:List Int} {r s:List (List Val)} (h:r.Perm s) (by_:Int) (sums:List Int):zJj c r by_ sums=zJj c s by_ sums:=by
 unfold zJj
 rw[zMr h,zZ9 h]
def finB(by_:Int) (sums out c:List Int) (r:List (List Val)):Option (List Int×List (List Val)):=bif by_ != -1 then zJj c r by_ sums else zSl c r out
theorem z4Z(x:Option (List Int×List (List Val))):∃ c r b,bagR x= .tup [bagp c r,.bool b]:=by
 cases x with
 |none=>exact⟨_,_,_,rfl⟩
 |some b=>exact⟨_,_,_,rfl⟩
theorem zYJ(occ:List Int) (p:List PV) (by_:Int) (sums out:List Int) (ord:Int) (c:List Int) (r:List (List Val)) (hc:c.length<=9223372036854775807) (hr:r.length<=1000000000) (hl:∀ x∈r,ROk x/\x.length<=9223372036854775807) (ho:out.length<=9223372036854775807) :
 wc W zGD [zDH occ p by_ sums out ord,bagp c r]=some (bagR (finB by_ sums out c r)):=by
 have h:=zQu (occ.map intp) p by_ (sums.map intp) (out.map intp) ord (c.map intp) (r.map rowp)
 rw[zH,zH,zH,zAS,zH,zAM,zAY]at h
 have h1:=z58 c r by_ sums hc hr (λ x hx=>(hl x hx).2) (λ x hx=>(hl x hx).1)
 have h2:=z7t c r out hc (by omega) (λ x hx=>(hl x hx).2) ho
 rw[h]
 unfold finB
 cases by_ != -1 with
 |true =>
  obtain⟨d,s,b,e⟩:=z4Z (zJj c r by_ sums)
  simp only[zA,h1,e,zB,asTup_mk,zAO,zAg,zFa,c_b_mk,zH,zAM,zAY]
 |false =>
  obtain⟨d,s,b,e⟩:=z4Z (zSl c r out)
  simp only[zC,h2,e,zB,asTup_mk,zAO,zAg,zFa,c_b_mk,zH,zAM,zAY]
theorem vok(k:Int) (h: -5<=k/\k<=5):VOk ⟨k,0⟩:=⟨⟨by simp only;omega,by simp only;omega⟩,⟨by simp only;omega,by simp only;omega⟩⟩
theorem z59{x:List Val} (h:ROk x) (at_:Int):VOk ⟨(keyR at_ x).1,(keyR at_ x).2⟩:=by
 unfold keyR
 cases decide (at_<0) with
 |true=>exact vok 0 (by omega)
 |false =>
  simp only[zC]
  cases e:x[at_.toNat]? with
  |none=>exact vok 0 (by omega)
  |some v =>
   simp only
   cases mayV v with
   |true=>exact h v (zAU e)
   |false=>exact vok 2 (by omega)
theorem vok0(n:Int) (h:I64 n):VOk ⟨0,n⟩:=⟨⟨by simp only;omega,by simp only;omega⟩,h⟩
theorem z5a(l:List Val):VOk (sumV l):=by
 unfold sumV
 cases l.any (λ v=>(zEk v).K==2) with
 |true=>exact vok 2 (by omega)
 |false =>
  simp only[zC]
  split
  ·exact vok 1 (by omega)
  ·split
   ·rename_i h;exact vok0 _ h
   ·exact vok 2 (by omega)
theorem z3d{c:List Int} {r:List (List Val)} (hr:∀ x∈r,ROk x) (hl:r.length<=1000000000) (by_:Int) (sums:List Int):∀ x∈zKb c r by_ sums,ROk x/\x.length=2+sums.length:=by
 intro x hx
 unfold zKb at hx
 obtain⟨k,hk,rfl⟩:=zAV.1 hx
 obtain⟨y,hy,rfl⟩:=(zIp _ _ _).1 ((zBo _).mem_iff.1 hk)
 refine⟨λ v hv=> ?_,by simp[rowG];omega⟩
 unfold rowG at hv
 rcases zAD.1 hv with rfl | hv
 ·exact z59 (hr y hy) _
 ·rcases zAD.1 hv with rfl | hv
  ·have:=zD7 (hasK (idxI c λ x=>by_==x) (keyR (idxI c λ x=>by_==x) y)) r
   exact vok0 _ ⟨by omega,by omega⟩
  ·obtain⟨s,hs,rfl⟩:=zAV.1 hv
   exact z5a _
theorem z1f(c:List Int) (r:List (List Val)) (by_:Int) (sums:List Int):(zKb c r by_ sums).length<=r.length:=by
 have hkl:(zGc (idxI c λ x=>by_==x) r).length<=r.length:=by have:=zQa (idxI c λ x=>by_==x) r [] [];simpa [zGc]using this
 unfold zKb
 rw[zG,zHs];exact hkl
theorem z1g{c:List Int} {x:List Val} (h:ROk x) (cols:List Int):ROk (zBw c cols x)/\(zBw c cols x).length=cols.length:=by
 refine⟨λ v hv=> ?_,by simp[zBw]⟩
 unfold zBw at hv
 obtain⟨s,hs,rfl⟩:=zAV.1 hv
 exact zSf c h s
theorem zQc{by_:Int} {sums out c:List Int} {r s:List (List Val)} (h:r.Perm s) :
 (finB by_ sums out c r=none/\finB by_ sums out c s=none)∨(∃ d x y,finB by_ sums out c r=some (d,x)/\finB by_ sums out c s=some (d,y)/\x.Perm y):=by
 unfold finB
 cases by_ != -1 with
 |true =>
  simp only[zA]
  rw[zWu h]
  cases e:zJj c s by_ sums with
  |none=>exact .inl ⟨rfl,rfl⟩
  |some z=>exact .inr ⟨z.1,z.2,z.2,rfl,rfl,List.Perm.refl _⟩
 |false =>
  simp only[zC]
  unfold zSl
  rw[zMr h]
  cases mayB c s&&mayB out []&&out.all (inC c) with
  |false=>exact .inl ⟨rfl,rfl⟩
  |true=>exact .inr ⟨out,_,_,rfl,rfl,h.map _⟩
theorem z5b{by_:Int} {sums out c d:List Int} {r x:List (List Val)} (hr:∀ x∈r,ROk x) (hl:r.length<=1000000000) (h:finB by_ sums out c r=some (d,x)) :
 (∀ y∈x,ROk y/\y.length=d.length)/\x.length<=r.length/\(by_= -1->d=out/\x.length=r.length)/\(by_≠ -1->d=zMB by_ sums.length/\sums.length<=4):=by
 unfold finB at h
 by_cases hb:by_= -1
 ·rw[zIS hb,zC]at h
  unfold zSl at h
  cases e:mayB c r&&mayB out []&&out.all (inC c) with
  |false=>rw[e]at h;cases h
  |true =>
   rw[e]at h
   simp only[zA,zE,zA4]at h
   obtain⟨rfl,rfl⟩:=h
   refine⟨λ y hy=> ?_,by simp,λ _=>⟨rfl,by simp⟩,λ q=>absurd hb q⟩
   obtain⟨z,hz,rfl⟩:=zAV.1 hy
   exact z1g (hr z hz) _
 ·rw[zH3 hb,zA]at h
  unfold zJj at h
  cases e:mayB c r&&inC c by_&&decide (sums.length<=4)&&sums.all (inC c) with
  |false=>rw[e]at h;cases h
  |true =>
   rw[e]at h
   simp only[zA,zE,zA4]at h
   obtain⟨rfl,rfl⟩:=h
   simp only[zF,zR]at e
   refine⟨λ y hy=> ?_,z1f _ _ _ _,λ q=>absurd q hb,λ _=>⟨rfl,e.1.2⟩⟩
   obtain⟨h1,h2⟩:=z3d hr hl by_ sums y hy
   exact⟨h1,by rw[h2];simp[zMB];omega⟩
end Go.Cf

namespace Go.Cf
open Go Go.Ab
theorem zZa(c:List Int):mayB c []=zWa c:=by simp[mayB]
theorem zQd{r s:List (List Val)} {z:List Val} (h:z∈zBl r s):∃ x∈r,∃ y∈s,z=x++y:=by
 unfold zBl at h
 obtain⟨x,hx,h⟩:=List.mem_flatMap.1 h
 obtain⟨y,hy,rfl⟩:=zAV.1 h
 exact⟨x,hx,y,hy,rfl⟩
theorem zWv(r s t:List (List Val)):zBl (zBl r s) t=zBl r (zBl s t):=by
 unfold zBl
 rw[List.flatMap_assoc]
 congr 1;funext x
 rw[List.map_flatMap,List.flatMap_map]
 congr 1;funext y
 rw[List.map_map]
 congr 1;funext z
 simp
theorem zJ0{α β:Type} {f g:α->List β}:∀{l:List α},(∀ x∈l,f x=g x)->l.flatMap f=l.flatMap g
 | [],_=>rfl
 |a::l,h=>by rw[zCA,zCA,h a (by simp),zJ0 (λ x hx=>h x (by simp[hx]))]
end Go.Cf

namespace Go.Cf
open Go Go.Ab
theorem zLF:∀ m:Nat,m<16->m≠0->1<=cntS m:=by decide +kernel
theorem zMC:∀(d:Nat) (t:Tree) (m:Nat),setO d t=some m->m≠0
 | 0,t,m,h=>by simp[setO]at h
 |d+1,.mk o l,m,h=>by
  rcases zGW h with⟨rfl,h1,h2,rfl⟩ | ⟨a,b,x,y,rfl,rfl,hx,hy,h4,rfl⟩
  ·exact Nat.ne_of_gt (Nat.pow_pos (by omega))
  ·have:=zMC d a x hx
   have h5:x<=x ||| y:=Nat.left_le_or
   omega
theorem zVF(d:Nat) (a b:Tree):setO (d+1) (.mk 0 [a,b])=(setO d a).bind λ x=>(setO d b).bind λ y=>bif decide (x &&& y=0)then some (x ||| y)else none:=by
 simp only[setO,decide_true,zA]
theorem zPM:∀(d:Nat) (t:Tree) (m:Nat),setO d t=some m->setO (cntS m) t=some m
 | 0,t,m,h=>by simp[setO]at h
 |d+1,.mk o l,m,h=>by
  rcases zGW h with⟨rfl,h1,h2,rfl⟩ | ⟨a,b,x,y,rfl,rfl,hx,hy,h4,rfl⟩
  ·rw[zSq _ (by omega)];simp[setO,h1,h2]
  ·have hxl:=zC4 _ _ _ hx
   have hyl:=zC4 _ _ _ hy
   have px:=zLF x hxl (zMC _ _ _ hx)
   have py:=zLF y hyl (zMC _ _ _ hy)
   rw[zSp _ hxl _ hyl h4]
   obtain⟨k,hk⟩:∃ k,cntS x+cntS y=k+1:=⟨cntS x+cntS y-1,by omega⟩
   have ea:=zQZ (zPM d a x hx) (k-cntS x)
   have eb:=zQZ (zPM d b y hy) (k-cntS y)
   rw[show cntS x+(k-cntS x)=k by omega]at ea
   rw[show cntS y+(k-cntS y)=k by omega]at eb
   rw[hk,zVF,ea,eb]
   simp only[zB,h4,decide_true,zA]
def zTE(a b:Tree):Tree:= .mk 0 [a,b]
theorem zQe(a b:Tree):setO 4 (zTE a b)=(setO 4 a).bind λ x=>(setO 4 b).bind λ y=>bif decide (x &&& y=0)then some (x ||| y)else none:=by
 have e:setO 4 (zTE a b)=(setO 3 a).bind λ x=>(setO 3 b).bind λ y=>bif decide (x &&& y=0)then some (x ||| y)else none:=zVF 3 a b
 rw[e]
 have low:∀ t:Tree,setO 4 t=none->setO 3 t=none:=λ t h=>by
  cases h3:setO 3 t with
  |none=>rfl
  |some x=>rw[zK8 3 t x h3]at h;cases h
 have up:∀(t:Tree) (x:Nat),setO 4 t=some x->cntS x<=3->setO 3 t=some x:=λ t x h hc=>by
  have:=zQZ (zPM 4 t x h) (3-cntS x)
  rwa [show cntS x+(3-cntS x)=3 by omega]at this
 have up2:∀(t:Tree) (x:Nat),setO 4 t=some x->setO 3 t=some x∨setO 3 t=none:=λ t x h=>by
  cases h3:setO 3 t with
  |none=>exact .inr rfl
  |some z=>rw[zK8 3 t z h3]at h;exact .inl h
 cases ha:setO 4 a with
 |none=>rw[low a ha];rfl
 |some x =>
  cases hb:setO 4 b with
  |none =>
   rw[low b hb]
   cases setO 3 a<;>rfl
  |some y =>
   simp only[zB]
   have hxl:=zC4 _ _ _ ha
   have hyl:=zC4 _ _ _ hb
   by_cases h:x &&& y=0
   ·have px:=zLF x hxl (zMC _ _ _ ha)
    have py:=zLF y hyl (zMC _ _ _ hb)
    have:=zSp _ hxl _ hyl h
    have h4:=zWl (x ||| y) (zZZ _ hxl _ hyl)
    rw[up a x ha (by omega),up b y hb (by omega)]
    rfl
   ·rw[zK h]
    rcases up2 a x ha with e1 | e1<;>rcases up2 b y hb with e2 | e2<;>rw[e1,e2]<;>simp[h]
def zAx:Nat->Tree->List Nat
 | 0,_=>[]
 |_+1,.mk o []=>[o.toNat]
 |d+1,.mk _ [x,y]=>zAx d x++zAx d y
 |_+1,.mk _ [_]=>[]
 |_+1,.mk _ (_::_::_::_)=>[]
theorem zKc:∀(d:Nat) (t:Tree) (m:Nat),setO d t=some m->zAx (d+1) t=zAx d t
 | 0,t,m,h=>by simp[setO]at h
 |d+1,.mk o l,m,h=>by
  rcases zGW h with⟨rfl,h1,h2,rfl⟩ | ⟨a,b,x,y,rfl,rfl,hx,hy,h4,rfl⟩
  ·simp only[zAx]
  ·simp only[zAx,zKc d a x hx,zKc d b y hy]
theorem z3e:∀ n:Nat,n<4->∀ o:Nat,((2 ^ n).testBit o=true↔o=n):=λ n hn o=>by
 rw[Nat.testBit_two_pow]
 simp only[zR]
 omega
theorem zBt:∀(d:Nat) (t:Tree) (m:Nat),setO d t=some m->∀ o,o∈zAx d t↔m.testBit o=true
 | 0,t,m,h,o=>by simp[setO]at h
 |d+1,.mk z l,m,h,o=>by
  rcases zGW h with⟨rfl,h1,h2,rfl⟩ | ⟨a,b,x,y,rfl,rfl,hx,hy,h4,rfl⟩
  ·simp only[zAx,zBS,z3e z.toNat (by omega) o]
  ·simp only[zAx,List.mem_append,zBt d a x hx o,zBt d b y hy o,Nat.testBit_or,zEU]
theorem zMt:∀ m:Nat,m<16->∀ o:Nat,m.testBit o=true->o<4:=λ m hm o h=>by
 have:=Nat.testBit_lt_two_pow (x:=m) (i:=o)
 apply Classical.byContradiction
 intro hn
 have h16:2 ^ 4<=2 ^ o:=Nat.pow_le_pow_right (by omega) (by omega)
 rw[Nat.testBit_lt_two_pow (show m<2 ^ o by omega)]at h
 cases h
theorem zFb:∀(d:Nat) (t:Tree) (m:Nat),setO d t=some m->(zAx d t).Nodup
 | 0,t,m,h=>by simp[setO]at h
 |d+1,.mk z l,m,h=>by
  rcases zGW h with⟨rfl,h1,h2,rfl⟩ | ⟨a,b,x,y,rfl,rfl,hx,hy,h4,rfl⟩
  ·simp[zAx]
  ·simp only[zAx]
   refine List.nodup_append.2 ⟨zFb d a x hx,zFb d b y hy,λ o h1 o' h2 e=> ?_⟩
   subst e
   have b1:=(zBt d a x hx o).1 h1
   have b2:=(zBt d b y hy o).1 h2
   exact zSr _ (zC4 _ _ _ hx) _ (zC4 _ _ _ hy) h4 o (zMt x (zC4 _ _ _ hx) o b1) ⟨b1,b2⟩
theorem zQf{a b:Tree} {x y:Nat} (ha:setO 4 a=some x) (hb:setO 4 b=some y) (hxy:x &&& y=0):zAx 4 (zTE a b)=zAx 4 a++zAx 4 b:=by
 have h:=zQe a b
 rw[ha,hb]at h
 simp only[zB,hxy,decide_true,zA]at h
 have h3:∀ t:Tree,∀ z,setO 4 t=some z->cntS z<=3->zAx 4 t=zAx 3 t:=λ t z hz hc=>by
  have:=zQZ (zPM 4 t z hz) (3-cntS z)
  rw[show cntS z+(3-cntS z)=3 by omega]at this
  exact zKc 3 t z this
 have hxl:=zC4 _ _ _ ha
 have hyl:=zC4 _ _ _ hb
 have px:=zLF x hxl (zMC _ _ _ ha)
 have py:=zLF y hyl (zMC _ _ _ hb)
 have:=zSp _ hxl _ hyl hxy
 have h4:=zWl (x ||| y) (zZZ _ hxl _ hyl)
 rw[h3 a x ha (by omega),h3 b y hb (by omega)]
 rfl
def zAI(q:QT) (l:List Nat):List Int:=l.flatMap λ o=>zBO q.T q.occ o
def zBb(q:QT):List Nat->List (List Val)
 | []=>[[]]
 |o::l=>zBl (q.leaf o) (zBb q l)
theorem zMu(r:List (List Val)):zBl r [[]]=r:=by
 unfold zBl
 induction r with
 |nil=>rfl
 |cons x r ih=>rw[zCA,ih];simp
theorem zRm(r:List (List Val)):zBl [[]] r=r:=by
 unfold zBl
 simp
theorem zIM(q:QT):∀ l l' :List Nat,zBb q (l++l')=zBl (zBb q l) (zBb q l')
 | [],l' =>by rw[List.nil_append,zBb,zRm]
 |o::l,l' =>by rw[List.cons_append,zBb,zIM q l l',zBb,zWv]
theorem zKd(q:QT) (l l' :List Nat):zAI q (l++l')=zAI q l++zAI q l' :=by simp[zAI]
theorem zKe{q:QT} (hq:QOk q) {o:Nat} (ho:o<q.occ.length):(∀ r∈q.leaf o,r.length=(zBO q.T q.occ o).length/\r.all mayV=true/\ROk r)/\(q.leaf o).length<=8:=by
 have h4:o<4:=by have:=hq.occ;omega
 have hg:q.occ.getD o 0=q.occ[o]:=by rw[zAl,zI ho];rfl
 have h:=RT.leaf (q:=q) hq.fits hq.vals (o:=o) h4 (by rw[hg];exact hq.inT _ (zAF ho)) (λ _=>true)
 rw[List.filter_eq_self.2 (λ _ _=>rfl)]at h
 refine⟨h.rows,?_⟩
 have:=h.len
 rw[zSq o h4]at this
 exact this
theorem zB7{q:QT} (hq:QOk q):∀{l:List Nat},(∀ o∈l,o<q.occ.length)->∀ r∈zBb q l,r.length=(zAI q l).length/\r.all mayV=true/\ROk r
 | [],_,r,hr=>by
  simp only[zBb,zBS]at hr
  subst hr
  exact⟨rfl,rfl,λ v hv=>by cases hv⟩
 |o::l,hl,r,hr=>by
  simp only[zBb]at hr
  obtain⟨x,hx,y,hy,rfl⟩:=zQd hr
  obtain⟨a1,a2,a3⟩:=(zKe hq (hl o (by simp))).1 x hx
  obtain⟨b1,b2,b3⟩:=zB7 hq (λ o ho=>hl o (by simp[ho])) y hy
  refine⟨by simp only[zAI,zCA,zAH]at b1 ⊢;omega,by rw[List.all_append,a2,b2];rfl,λ v hv=> ?_⟩
  rcases List.mem_append.1 hv with h | h
  ·exact a3 v h
  ·exact b3 v h
theorem zVG{q:QT} (hq:QOk q):∀{l:List Nat},(∀ o∈l,o<q.occ.length)->(zBb q l).length<=8 ^ l.length
 | [],_=>by simp[zBb]
 |o::l,hl=>by
  have h1:=(zKe hq (hl o (by simp))).2
  have h2:=zVG hq (l:=l) (λ o ho=>hl o (by simp[ho]))
  simp only[zBb,zIn,List.length_cons]
  rw[Nat.pow_succ,Nat.mul_comm]
  exact Nat.mul_le_mul h2 h1
def zFy(q:QT) (f:Nat->Bool) (c:List Int) (r:List Val):Bool:=zOr (exQ q.P (zK7 q.P f)) c r
theorem zWw{P:List Ex} {f:Nat->Bool} {e:Ex}:e∈exQ P (zK7 P f)↔e∈P/\f (setE e)=true:=by
 unfold exQ zK7
 rw[List.mem_filterMap]
 constructor
 ·rintro⟨i,hi,h⟩
  have h2:=(zBE.1 hi).2
  rw[h]at h2
  exact⟨zAU h,by simpa using h2⟩
 ·rintro⟨h1,h2⟩
  obtain⟨i,hi,rfl⟩:=List.mem_iff_getElem.1 h1
  refine⟨i,zBE.2 ⟨List.mem_range'_1.2 ⟨by omega,by omega⟩,?_⟩,zI hi⟩
  rw[zI hi]
  simpa using h2
theorem zGZ{q:QT} {f:Nat->Bool} {c:List Int} {r:List Val}:zFy q f c r=true↔∀ e∈q.P,f (setE e)=true->zLN e c r=true:=by
 unfold zFy zOr
 rw[zAB]
 exact⟨λ h e he hf=>h e (zWw.2 ⟨he,hf⟩),λ h e he=>h e (zWw.1 he).1 (zWw.1 he).2⟩
theorem z3f{s:Nat} (hs:s<16) {e:Ex} (hw:zA3 s (setE e)=true) {c:Int} (hc:c∈zGa e):s.testBit (occI c)=true :=
 z33 s hs (setE e) (zWk e) (zAP hw) _ (zJW c) (zXo _ 0 _ (by omega) (zJW c) (.inr ⟨c,hc,rfl⟩))
theorem zWx{q:QT} (hc:∀ e∈q.P,zMl q e) {l:List Nat} {m:Nat} (hm:m<16) (hl:∀ o,m.testBit o=true->o∈l) {e:Ex} (he:e∈q.P) (hw:zA3 m (setE e)=true):∀ c∈zGa e,c∈zAI q l:=λ c hcc =>
 List.mem_flatMap.2 ⟨occI c,hl _ (z3f hm hw hcc),hc e he c hcc⟩
theorem zFc{q:QT} (hq:QOk q) {l:List Nat} (hl:∀ o∈l,o<q.occ.length) {c:Int} (h:c∈zAI q l):occI c∈l/\0<=c/\c<=15:=by
 obtain⟨o,ho,hc⟩:=List.mem_flatMap.1 h
 have hT:mayC q.T=true:=(zMk hq.fits).2.1
 have h4:o<4:=by have:=hq.occ;have:=hl o ho;omega
 obtain⟨h1,h2,h3⟩:=zQ0 hT h4 (zXp hq (hl o ho)) hc
 rw[h1]
 exact⟨ho,by omega,by omega⟩
theorem zHe{q:QT} (hq:QOk q):∀{l:List Nat},(∀ o∈l,o<q.occ.length)->l.Nodup->(zAI q l).Nodup
 | [],_,_=>by simp[zAI]
 |o::l,hl,hn=>by
  have hn2:=List.nodup_cons.1 hn
  show(zBO q.T q.occ o++zAI q l).Nodup
  refine List.nodup_append.2 ⟨?_,zHe hq (λ o ho=>hl o (by simp[ho])) hn2.2,λ c hc c' hc' e=> ?_⟩
  ·unfold zBO zES
   exact List.pairwise_map.2 ((List.nodup_range' (s:=0) (n:=_)).imp λ{a b} h e=>h (by omega))
  ·subst e
   have h1:c∈zAI q [o]:=by simpa [zAI]using hc
   have h2:=(zFc hq (l:=[o]) (λ z hz=>by rw[zBS]at hz;subst hz;exact hl z (by simp)) h1).1
   rw[zBS]at h2
   have h3:=(zFc hq (λ o ho=>hl o (by simp[ho])) hc').1
   rw[h2]at h3
   exact hn2.1 h3
theorem zVH{x y s:Nat} (h:zA3 x s=true∨zA3 y s=true):zA3 (x ||| y) s=true:=by
 unfold zA3 at h ⊢
 simp only[zR]at h ⊢
 rw[Nat.and_or_distrib_right]
 rcases h with h | h
 ·rw[h]
  apply Nat.eq_of_testBit_eq
  intro i
  rw[Nat.testBit_or,Nat.testBit_and]
  cases s.testBit i<;>simp
 ·rw[h]
  apply Nat.eq_of_testBit_eq
  intro i
  rw[Nat.testBit_or,Nat.testBit_and]
  cases s.testBit i<;>simp
theorem z3g{q:QT} (hq:QOk q) (hc:∀ e∈q.P,zMl q e) {l l' :List Nat} {x y:Nat} (hx:x<16) (hy:y<16) (hxy:x &&& y=0) (hl:∀ o,o∈l↔x.testBit o=true) (hl' :∀ o,o∈l' ↔y.testBit o=true)
 (hlo:∀ o∈l,o<q.occ.length) (hlo' :∀ o∈l',o<q.occ.length) {u v:List Val} (hu:u.length=(zAI q l).length) (hv:v.length=(zAI q l').length) :
 zFy q (zA3 (x ||| y)) (zAI q l++zAI q l') (u++v)=(zFy q (zA3 x) (zAI q l) u&&zFy q (zA3 y) (zAI q l') v&&zFy q (newF x y) (zAI q l++zAI q l') (u++v)):=by
 have left:∀ e∈q.P,zA3 x (setE e)=true->zLN e (zAI q l++zAI q l') (u++v)=zLN e (zAI q l) u:=λ e he hw =>
  zLv λ c hcc=>zDd (zD (zWx hc hx (λ o=>(hl o).2) he hw c hcc)) hu
 have right:∀ e∈q.P,zA3 y (setE e)=true->zLN e (zAI q l++zAI q l') (u++v)=zLN e (zAI q l') v:=λ e he hw =>
  zLv λ c hcc=>by
   have h1:=zWx hc hy (λ o=>(hl' o).2) he hw c hcc
   refine zFP (zK λ h2=> ?_) (zD h1) hu hv
   have b1:=(hl _).1 (zFc hq hlo h2).1
   have b2:=(hl' _).1 (zFc hq hlo' h1).1
   exact zSr _ hx _ hy hxy _ (zJW c) ⟨b1,b2⟩
 rw[Bool.eq_iff_iff,zF,zF,zGZ,zGZ,zGZ,zGZ]
 constructor
 ·intro h
  refine⟨⟨λ e he hw=> ?_,λ e he hw=> ?_⟩,λ e he hw=> ?_⟩
  ·rw[<- left e he hw];exact h e he (zVH (.inl hw))
  ·rw[<- right e he hw];exact h e he (zVH (.inr hw))
  ·unfold newF at hw
   simp only[zF]at hw
   exact h e he hw.1.1
 ·rintro⟨⟨h1,h2⟩,h3⟩ e he hw
  cases hwx:zA3 x (setE e) with
  |true=>rw[left e he hwx];exact h1 e he hwx
  |false =>
   cases hwy:zA3 y (setE e) with
   |true=>rw[right e he hwy];exact h2 e he hwy
   |false =>
    refine h3 e he ?_
    unfold newF
    rw[hw,hwx,hwy];rfl
theorem zQg{f g h k:List Val->Bool}:∀{r s:List (List Val)},(∀ u∈r,∀ v∈s,k (u++v)=(f u&&g v&&h (u++v)))->(zBl (r.filter f) (s.filter g)).filter h=(zBl r s).filter k
 | [],s,_=>rfl
 |a::r,s,H=>by
  have ih:=zQg (r:=r) (s:=s) λ u hu v hv=>H u (by simp[hu]) v hv
  have e:∀(r s:List (List Val)),zBl (a::r) s=(s.map λ y=>a++y)++zBl r s:=λ _ _=>rfl
  rw[e,List.filter_append,<-ih,List.filter_cons]
  cases hf:f a with
  |true =>
   rw[if_pos rfl,e,List.filter_append]
   congr 1
   rw[List.filter_map,List.filter_map,List.filter_filter]
   congr 1
   refine List.filter_congr λ v hv=> ?_
   have:=H a (by simp) v hv
   simp only[Function.comp_apply]
   rw[this,hf,zAA,Bool.and_comm]
  |false =>
   rw[if_neg (by simp)]
   have:(s.map λ y=>a++y).filter k=[]:=by
    rw[List.filter_eq_nil_iff]
    intro z hz
    obtain⟨v,hv,rfl⟩:=zAV.1 hz
    rw[H a (by simp) v hv,hf];simp
   rw[this,List.nil_append]
theorem zWy{α β:Type} {f g:α->List β}:∀{l:List α},(∀ x∈l,(f x).Perm (g x))->(l.flatMap f).Perm (l.flatMap g)
 | [],_=>List.Perm.refl _
 |a::l,h=>by
  rw[zCA,zCA]
  exact(h a (by simp)).append (zWy λ x hx=>h x (by simp[hx]))
theorem zVI{α β:Type} (f g:α->List β):∀ l:List α,(l.flatMap λ x=>f x++g x).Perm (l.flatMap f++l.flatMap g)
 | []=>List.Perm.refl _
 |a::l=>by
  simp only[zCA,zAE]
  refine List.Perm.append_left _ ?_
  refine(List.Perm.append_left _ (zVI f g l)).trans ?_
  rw[<- zAE,<-zAE]
  exact List.Perm.append_right _ List.perm_append_comm
theorem z1h{α β γ :Type} (f:α->β->List γ):∀(r:List α) (s:List β),(r.flatMap λ x=>s.flatMap λ y=>f x y).Perm (s.flatMap λ y=>r.flatMap λ x=>f x y)
 | [],s=>by
  have:(s.flatMap λ y=>([]:List α).flatMap λ x=>f x y)=[]:=by induction s with | nil=>rfl | cons a s ih=>rw[zCA,ih];rfl
  rw[this];exact List.Perm.refl _
 |a::r,s=>by
  rw[zCA]
  refine(List.Perm.append_left _ (z1h f r s)).trans ?_
  have:=(zVI (λ y=>f a y) (λ y=>r.flatMap λ x=>f x y) s).symm
  simpa only[zCA]using this
theorem zRn{c c' c'' :List Int} {r:List Val} (h:∀ x∈c'',x∈c'):zBw c' c'' (zBw c c' r)=zBw c c'' r:=by
 unfold zBw
 refine zBz λ x hx=> ?_
 exact zIm (zD (h x hx))
theorem z3h{c d cols cols' :List Int} {u v:List Val} (hu:u.length=c.length) (hv:v.length=d.length) (h1:∀ x∈cols,x∈c) (h2:∀ x∈cols',x∈d/\x∉c):zBw (c++d) (cols++cols') (u++v)=zBw c cols u++zBw d cols' v:=by
 unfold zBw
 rw[zAm]
 congr 1
 ·exact zBz λ x hx=>zDd (zD (h1 x hx)) hu
 ·exact zBz λ x hx=>zFP (zK (h2 x hx).2) (zD (h2 x hx).1) hu hv
theorem zMv(F:List Val->List Val) (r s:List (List Val)):(zBl r s).map F=r.flatMap λ u=>s.map λ v=>F (u++v):=by
 unfold zBl
 rw[List.map_flatMap]
 refine zJ0 λ u _=> ?_
 rw[List.map_map];rfl
theorem zMw(q:QT) {l l' :List Nat} (h:l.Perm l') (c:Int):c∈zAI q l↔c∈zAI q l' :=by
 unfold zAI
 simp only[List.mem_flatMap,h.mem_iff]
theorem zZb{q:QT} (hq:QOk q) {l l' :List Nat} (h:l.Perm l'):(∀ o∈l,o<q.occ.length)->l.Nodup->((zBb q l).map (zBw (zAI q l) (zAI q l'))).Perm (zBb q l'):=by
 have pa:∀{o:Nat} {l:List Nat},(∀ z∈o::l,z<q.occ.length)->(o::l).Nodup->∀ x∈zAI q l,x∉zBO q.T q.occ o:=λ{o l} hl hn x hx hx2=>by
  have:=zHe hq hl hn
  have h3:(zBO q.T q.occ o++zAI q l).Nodup:=this
  exact(List.nodup_append.1 h3).2.2 x hx2 x hx rfl
 induction h with
 |nil=>intro _ _;simp[zBb,zAI,zBw]
 | @cons o l l' h ih =>
  intro hl hn
  have hl2:∀ z∈l,z<q.occ.length:=λ z hz=>hl z (by simp[hz])
  have hn2:=(List.nodup_cons.1 hn).2
  have ih:=ih hl2 hn2
  show((zBl (q.leaf o) (zBb q l)).map (zBw (zBO q.T q.occ o++zAI q l) (zBO q.T q.occ o++zAI q l'))).Perm (zBl (q.leaf o) (zBb q l'))
  rw[zMv]
  show List.Perm _ ((q.leaf o).flatMap λ u=>(zBb q l').map λ v=>u++v)
  refine zWy λ u hu=> ?_
  have lu:=((zKe hq (hl o (by simp))).1 u hu).1
  have hcn:(zBO q.T q.occ o).Nodup:=by
   have h3:(zBO q.T q.occ o++zAI q l).Nodup:=zHe hq hl hn
   exact(List.nodup_append.1 h3).1
  have e:((zBb q l).map λ v=>zBw (zBO q.T q.occ o++zAI q l) (zBO q.T q.occ o++zAI q l') (u++v))=((zBb q l).map (zBw (zAI q l) (zAI q l'))).map λ v=>u++v:=by
   rw[List.map_map]
   refine zBz λ v hv=> ?_
   have lv:=(zB7 hq hl2 v hv).1
   rw[z3h lu lv (λ x hx=>hx) (λ x hx=>⟨(zMw q h x).2 hx,pa hl hn x ((zMw q h x).2 hx)⟩),zMi hcn lu]
   rfl
  rw[e]
  exact ih.map _
 |swap o o' l =>
  intro hl hn
  have hlo:o<q.occ.length:=hl o (by simp)
  have hlo' :o' <q.occ.length:=hl o' (by simp)
  have hl2:∀ z∈l,z<q.occ.length:=λ z hz=>hl z (by simp[hz])
  have h1:=List.nodup_cons.1 hn
  have h2:=List.nodup_cons.1 h1.2
  have hl3:∀ z∈o::l,z<q.occ.length:=λ z hz=>hl z (by simp only[zAD]at hz ⊢;exact .inr hz)
  have hl4:∀ z∈o' ::l,z<q.occ.length:=λ z hz=>hl z (by simp only[zAD]at hz ⊢;rcases hz with h | h;exact .inl h;exact .inr (.inr h))
  have hn4:(o' ::l).Nodup:=List.nodup_cons.2 ⟨λ h=>h1.1 (by simp[h]),h2.2⟩
  have nall:(zBO q.T q.occ o' ++(zBO q.T q.occ o++zAI q l)).Nodup:=zHe hq hl hn
  have nl:(zBO q.T q.occ o++zAI q l).Nodup:=(List.nodup_append.1 nall).2.1
  show((zBl (q.leaf o') (zBl (q.leaf o) (zBb q l))).map (zBw (zBO q.T q.occ o' ++(zBO q.T q.occ o++zAI q l)) (zBO q.T q.occ o++(zBO q.T q.occ o' ++zAI q l)))).Perm (zBl (q.leaf o) (zBl (q.leaf o') (zBb q l)))
  have e:(zBl (q.leaf o') (zBl (q.leaf o) (zBb q l))).map (zBw (zBO q.T q.occ o' ++(zBO q.T q.occ o++zAI q l)) (zBO q.T q.occ o++(zBO q.T q.occ o' ++zAI q l))) =
   (q.leaf o').flatMap λ u=>(q.leaf o).flatMap λ v=>(zBb q l).map λ w=>v++(u++w):=by
   rw[zMv]
   refine zJ0 λ u hu=> ?_
   have lu:=((zKe hq hlo').1 u hu).1
   have e2:((zBl (q.leaf o) (zBb q l)).map λ z=>zBw (zBO q.T q.occ o' ++(zBO q.T q.occ o++zAI q l)) (zBO q.T q.occ o++(zBO q.T q.occ o' ++zAI q l)) (u++z))=(q.leaf o).flatMap λ v=>(zBb q l).map λ w=>zBw (zBO q.T q.occ o' ++(zBO q.T q.occ o++zAI q l)) (zBO q.T q.occ o++(zBO q.T q.occ o' ++zAI q l)) (u++(v++w)):=zMv (λ z=>zBw _ _ (u++z)) _ _
   rw[e2]
   refine zJ0 λ v hv=>zBz λ w hw=> ?_
   have lv:=((zKe hq hlo).1 v hv).1
   have lw:=(zB7 hq hl2 w hw).1
   have lvw:(v++w).length=(zBO q.T q.occ o++zAI q l).length:=by rw[zAH,zAH,lv,lw]
   have dj:=(List.nodup_append.1 nall).2.2
   unfold zBw
   rw[zAm,zAm]
   have k1:(zBO q.T q.occ o).map (zV (zBO q.T q.occ o' ++(zBO q.T q.occ o++zAI q l)) (u++(v++w)))=v:=by
    have:(zBO q.T q.occ o).map (zV (zBO q.T q.occ o' ++(zBO q.T q.occ o++zAI q l)) (u++(v++w)))=zBw (zBO q.T q.occ o) (zBO q.T q.occ o) v:=by
     unfold zBw
     refine zBz λ x hx=> ?_
     rw[zFP (zK λ h=>dj x h x (by simp[hx]) rfl) (zD (by simp[hx])) lu lvw,zDd (zD hx) lv]
    rw[this,zMi (List.nodup_append.1 nl).1 lv]
   have k2:(zBO q.T q.occ o').map (zV (zBO q.T q.occ o' ++(zBO q.T q.occ o++zAI q l)) (u++(v++w)))=u:=by
    have:(zBO q.T q.occ o').map (zV (zBO q.T q.occ o' ++(zBO q.T q.occ o++zAI q l)) (u++(v++w)))=zBw (zBO q.T q.occ o') (zBO q.T q.occ o') u:=by
     unfold zBw
     exact zBz λ x hx=>zDd (zD hx) lu
    rw[this,zMi (List.nodup_append.1 nall).1 lu]
   have k3:(zAI q l).map (zV (zBO q.T q.occ o' ++(zBO q.T q.occ o++zAI q l)) (u++(v++w)))=w:=by
    have:(zAI q l).map (zV (zBO q.T q.occ o' ++(zBO q.T q.occ o++zAI q l)) (u++(v++w)))=zBw (zAI q l) (zAI q l) w:=by
     unfold zBw
     refine zBz λ x hx=> ?_
     rw[zFP (zK λ h=>dj x h x (by simp[hx]) rfl) (zD (by simp[hx])) lu lvw,zFP (zK λ h=>(List.nodup_append.1 nl).2.2 x h x hx rfl) (zD hx) lv lw]
    rw[this,zMi (List.nodup_append.1 nl).2.1 lw]
   rw[k1,k2,k3]
  have e3:zBl (q.leaf o) (zBl (q.leaf o') (zBb q l))=(q.leaf o).flatMap λ v=>(q.leaf o').flatMap λ u=>(zBb q l).map λ w=>v++(u++w):=by
   show((q.leaf o).flatMap λ v=>(zBl (q.leaf o') (zBb q l)).map λ z=>v++z)=_
   refine zJ0 λ v _=> ?_
   exact zMv (λ z=>v++z) _ _
  rw[e,e3]
  exact z1h (λ u v=>(zBb q l).map λ w=>v++(u++w)) _ _
 | @trans l1 l2 l3 h1 h2 ih1 ih2 =>
  intro hl hn
  have i1:=ih1 hl hn
  have i2:=ih2 (λ o ho=>hl o (h1.mem_iff.2 ho)) (h1.nodup_iff.1 hn)
  have e:(zBb q l1).map (zBw (zAI q l1) (zAI q l3))=((zBb q l1).map (zBw (zAI q l1) (zAI q l2))).map (zBw (zAI q l2) (zAI q l3)):=by
   rw[List.map_map]
   refine zBz λ r hr=> ?_
   exact(zRn λ x hx=>(zMw q h2 x).2 hx).symm
  rw[e]
  exact(i1.map _).trans i2
theorem zZc{q:QT} (hc:∀ e∈q.P,zMl q e) {l l' :List Nat} {m:Nat} (hm:m<16) (hl:∀ o,m.testBit o=true->o∈l') (r:List Val):zFy q (zA3 m) (zAI q l') (zBw (zAI q l) (zAI q l') r)=zFy q (zA3 m) (zAI q l) r:=by
 have k:∀ e∈q.P,zA3 m (setE e)=true->zLN e (zAI q l') (zBw (zAI q l) (zAI q l') r)=zLN e (zAI q l) r:=λ e he hw =>
  zLv λ c hcc=>zIm (zD (zWx hc hm hl he hw c hcc))
 rw[Bool.eq_iff_iff,zGZ,zGZ]
 exact⟨λ h e he hw=>(k e he hw)▸h e he hw,λ h e he hw=>(k e he hw).symm▸h e he hw⟩
theorem z1i{q:QT} (hq:QOk q) (hc:∀ e∈q.P,zMl q e) {l l' :List Nat} (h:l.Perm l') (hl:∀ o∈l,o<q.occ.length) (hn:l.Nodup) {m:Nat} (hm:m<16) (hml:∀ o,m.testBit o=true->o∈l') :
 (((zBb q l).filter (zFy q (zA3 m) (zAI q l))).map (zBw (zAI q l) (zAI q l'))).Perm ((zBb q l').filter (zFy q (zA3 m) (zAI q l'))):=by
 have e:((zBb q l).filter (zFy q (zA3 m) (zAI q l))).map (zBw (zAI q l) (zAI q l'))=((zBb q l).map (zBw (zAI q l) (zAI q l'))).filter (zFy q (zA3 m) (zAI q l')):=by
  rw[List.filter_map]
  congr 1
  refine List.filter_congr λ r hr=> ?_
  exact(zZc hc hm hml r).symm
 rw[e]
 exact(zZb hq h hl hn).filter _
theorem zFd{q:QT} (hq:QOk q) {l:List Nat} (hl:∀ o∈l,o<q.occ.length) (hn:l.Nodup) (f:List Val->Bool):mayB (zAI q l) ((zBb q l).filter f)=true:=by
 have hlen:l.length<=q.occ.length:=by
  have:=List.Nodup.length_le_of_subset hn (l₂ :=List.range q.occ.length) (λ o ho=>List.mem_range.2 (hl o ho))
  simpa using this
 have h8:8 ^ l.length<=8 ^ 4:=Nat.pow_le_pow_right (by omega) (by have:=hq.occ;omega)
 have h1:=zVG hq hl
 have h2:=zD7 f (zBb q l)
 unfold mayB
 simp only[zF,zR,zAB]
 refine⟨⟨(zK3 _).2 ⟨λ c hc=>(zFc hq hl hc).2,zHe hq hl hn⟩,λ r hr=> ?_⟩,by omega⟩
 have:=zB7 hq hl r (zBE.1 hr).1
 unfold rowB
 simp only[zF,zR]
 exact⟨this.1,this.2.1⟩
end Go.Cf

namespace Go.Cf
open Go Go.Ab
theorem zTF{c c' :List Int} {by_:Int} (hb:inC c by_=true) (hb' :inC c' by_=true) {x:List Val} (hx:x.length=c.length):keyR (idxI c' λ y=>by_==y) (zBw c c' x)=keyR (idxI c λ y=>by_==y) x:=by
 obtain⟨h1,h2⟩:=zCd (row:=x) hb hx
 obtain⟨h3,h4⟩:=zCd (row:=zBw c c' x) hb' (by simp[zBw])
 rw[zIm hb']at h3
 unfold keyR
 rw[h1,h3,zK (by omega),zK (by omega)]
theorem zZd{c c' :List Int} {r:List (List Val)} {by_:Int} {sums:List Int} (hb:inC c by_=true) (hb' :inC c' by_=true) (hs:∀ s∈sums,inC c' s=true) (hr:∀ x∈r,x.length=c.length) :
 zKb c' (r.map (zBw c c')) by_ sums=zKb c r by_ sums:=by
 have hk:zBP (zGc (idxI c' λ y=>by_==y) (r.map (zBw c c')))=zBP (zGc (idxI c λ y=>by_==y) r):=by
  have hp:(zGc (idxI c' λ y=>by_==y) (r.map (zBw c c'))).Perm (zGc (idxI c λ y=>by_==y) r):=(List.perm_ext_iff_of_nodup (zJY _ _) (zJY _ _)).2 λ k=>by
   rw[zIp,zIp]
   constructor
   ·rintro⟨x,hx,e⟩
    obtain⟨z,hz,rfl⟩:=zAV.1 hx
    exact⟨z,hz,by rw[e,zTF hb hb' (hr z hz)]⟩
   ·rintro⟨z,hz,e⟩
    exact⟨_,zAV.2 ⟨z,hz,rfl⟩,by rw[e,zTF hb hb' (hr z hz)]⟩
  exact zKo ((zBo _).trans (hp.trans (zBo _).symm)) (zCh _) (zCh _)
 unfold zKb
 rw[hk]
 refine zBz λ k _=> ?_
 have hf:(r.map (zBw c c')).filter (hasK (idxI c' λ y=>by_==y) k)=(r.filter (hasK (idxI c λ y=>by_==y) k)).map (zBw c c'):=by
  rw[List.filter_map]
  congr 1
  refine List.filter_congr λ x hx=> ?_
  simp only[Function.comp_apply,hasK,zTF hb hb' (hr x hx)]
 rw[hf]
 unfold rowG
 rw[zG]
 refine congrArg _ (congrArg _ (zBz λ s hs' => ?_))
 unfold colG
 rw[List.map_map]
 refine congrArg _ (zBz λ x hx=> ?_)
 simp only[Function.comp_apply,zIm (hs s hs')]
theorem zRo{c c' :List Int} (h:∀ x,x∈c↔x∈c'):inC c=inC c' :=by
 funext x
 unfold inC
 exact decide_eq_decide.2 (h x)
theorem z1j{c c' :List Int} {r:List (List Val)} (h:∀ x,x∈c↔x∈c') (hm:mayB c r=mayB c' (r.map (zBw c c'))) (hr:∀ x∈r,x.length=c.length) (by_:Int) (sums out:List Int) :
 finB by_ sums out c' (r.map (zBw c c'))=finB by_ sums out c r:=by
 unfold finB
 cases by_ != -1 with
 |true =>
  simp only[zA]
  unfold zJj
  rw[<- hm,zRo h]
  cases hb:mayB c r&&inC c' by_&&decide (sums.length<=4)&&sums.all (inC c') with
  |false=>rfl
  |true =>
   simp only[zF,zR,zAB]at hb
   simp only[zA]
   rw[zZd (by rw[zRo h];exact hb.1.1.2) hb.1.1.2 hb.2 hr]
 |false =>
  simp only[zC]
  unfold zSl
  rw[<- hm,zRo h]
  cases hb:mayB c r&&mayB out []&&out.all (inC c') with
  |false=>rfl
  |true =>
   simp only[zF,zAB]at hb
   simp only[zA,List.map_map]
   refine congrArg some (congrArg _ (zBz λ x hx=> ?_))
   simp only[Function.comp_apply]
   exact zRn λ y hy=>zAP (hb.2 y hy)
theorem z1k{l:List Int} (hs:l.Pairwise (· <= ·)) (hk:∀ j,j<l.length->Lib.keeps l.toArray j=true):l.Nodup:=by
 rw[List.nodup_iff_pairwise_ne,List.pairwise_iff_getElem]
 have step:∀ j,(h:j+1<l.length)->l[j]<l[j+1]:=λ j h=>by
  have h1:=hk (j+1) h
  unfold Lib.keeps at h1
  have h2:=zAP h1
  have hj:j<l.length:=by omega
  have e1:l.toArray[j+1]! =l[j+1]:=by simp[getElem!_pos,h]
  have e2:l.toArray[j+1-1]! =l[j]:=by simp[getElem!_pos,hj]
  rw[e1,e2]at h2
  have h3:=List.pairwise_iff_getElem.1 hs j (j+1) (by omega) h (by omega)
  rcases h2 with h2 | h2
  ·omega
  ·omega
 have lt:∀ k i,(h:i+k+1<l.length)->l[i]<l[i+k+1]:=λ k=>by
  induction k with
  |zero=>intro i h;exact step i h
  |succ k ih =>
   intro i h
   have h1:=ih i (by omega)
   have h2:=step (i+k+1) (by omega)
   have e:i+(k+1)+1=i+k+1+1:=by omega
   simp only[e]
   omega
 intro i j hi hj hij
 have:=lt (j-i-1) i (by omega)
 have e:i+(j-i-1)+1=j:=by omega
 simp only[e]at this
 omega
theorem zZe{l:List Int} (h:z1Z l=true):l.Nodup:=by
 unfold z1Z at h
 have h1:=zAP h
 unfold Lib.compact Lib.compactUpTo at h1
 rw[zG]at h1
 have h2:(List.range (zGi l).length).filter (Lib.keeps (zGi l).toArray)=List.range (zGi l).length:=by
  refine List.filter_eq_self.2 ?_
  rw[<- List.length_filter_eq_length_iff,h1,List.length_range,zI7]
 have h3:=List.filter_eq_self.1 h2
 have h4:=z1k (zKD l) λ j hj=>h3 j (List.mem_range.2 hj)
 exact(zI6 l).nodup_iff.1 h4
theorem z1l{q:QT} (hq:QOk q) {by_:Int} {sums out:List Int} {ord:Int} (h:mayQ q.T q.occ q.P by_ sums out ord=true):∀ e∈q.P,∀ c∈zGa e,occI c<q.occ.length:=by
 intro e he c hc
 have hT:mayC q.T=true:=(zMk hq.fits).2.1
 unfold mayQ at h
 simp only[zF,zR,zAB]at h
 have h1:=h.1.2 e he
 unfold zWi zGb at h1
 simp only[zF,zAB]at h1
 have h2:=zAP (h1.2 c hc)
 obtain⟨o,k1,k2,k3,k4,k5⟩:=(zPJ _ _ _ _ _ c).1 h2
 have:=(zQ0 hT (by omega) k4 k5).1
 omega
theorem zVJ:∀(l:List Int) (s i:Nat),(setC s l).testBit i=true->s.testBit i=true∨∃ c∈l,occI c=i
 | [],s,i,h=> .inl h
 |c::r,s,i,h=>by
  rcases zVJ r _ i h with h | ⟨c',hc,e⟩
  ·rw[Nat.testBit_or,zEU]at h
   rcases h with h | h
   ·exact .inl h
   ·rw[Nat.testBit_two_pow,zR]at h
    exact .inr ⟨c,by simp,h⟩
  ·exact .inr ⟨c',by simp[hc],e⟩
theorem zZf{q:QT} (h:∀ e∈q.P,∀ c∈zGa e,occI c<q.occ.length):∀ e∈q.P,zA3 (2 ^ q.occ.length-1) (setE e)=true:=by
 intro e he
 unfold zA3
 refine zD (Nat.eq_of_testBit_eq λ i=> ?_)
 rw[Nat.testBit_and,Nat.testBit_two_pow_sub_one]
 cases hb:(setE e).testBit i with
 |false=>simp
 |true =>
  rcases zVJ _ 0 i hb with h0 | ⟨c,hc,rfl⟩
  ·simp at h0
  ·rw[zD (h e he c hc)];rfl
theorem z1m{q:QT} (hq:QOk q) (c:Int):c∈zK6 q.T q.occ↔c∈zAI q (List.range q.occ.length):=by
 have hocc:=hq.occ
 unfold zK6 zAI
 rw[zPJ,List.mem_flatMap]
 constructor
 ·rintro⟨o,h1,h2,h3,h4,h5⟩
  exact⟨o,List.mem_range.2 (by omega),h5⟩
 ·rintro⟨o,h1,h2⟩
  have:=List.mem_range.1 h1
  exact⟨o,by omega,by omega,rfl,zXp hq this,h2⟩
theorem zVK{q:QT} (hq:QOk q) {by_:Int} {sums out:List Int} {ord:Int} (h:mayQ q.T q.occ q.P by_ sums out ord=true) {c:List Int} {r:List (List Val)} (hc:∀ x,x∈c↔x∈zK6 q.T q.occ) (hm:mayB c r=true) :
 ∃ b,finB by_ sums out c r=some b:=by
 unfold mayQ at h
 simp only[zF]at h
 have ht:=h.2
 unfold zWj at ht
 unfold finB
 by_cases hb:by_= -1
 ·rw[zIT hb]at ht
  rw[zIS hb]
  simp only[zA,zF,zR]at ht
  simp only[zC]
  obtain⟨⟨⟨⟨⟨h1,h2⟩,h3⟩,h4⟩,h5⟩,h6⟩:=ht
  unfold zGb at h4
  have hin:out.all (inC c)=true:=by rw[zRo hc];exact h4
  have hcb:=(zK3 c).1 (zRb hm).1
  have hmo:mayB out []=true:=by
   rw[zZa]
   refine(zK3 out).2 ⟨λ x hx=>hcb.1 x (zAP (zAB.1 hin x hx)),zZe h3⟩
  unfold zSl
  rw[hm,hmo,hin]
  exact⟨_,rfl⟩
 ·rw[zDI hb]at ht
  rw[zH3 hb]
  simp only[zC,zF,zR]at ht
  simp only[zA]
  obtain⟨⟨⟨⟨h1,h2⟩,h3⟩,h4⟩,h5⟩:=ht
  unfold zGb at h1 h3
  have hb1:inC c by_=true:=by rw[zRo hc];exact zAB.1 h1 by_ (by simp)
  have hs:sums.all (inC c)=true:=by rw[zRo hc];exact h3
  unfold zJj
  rw[hm,hb1,zD h2,hs]
  exact⟨_,rfl⟩
def allB(q:QT):List Int×List (List Val):=(zAI q (List.range q.occ.length),(zBb q (List.range q.occ.length)).filter (zOr q.P (zAI q (List.range q.occ.length))))
theorem zZg{q:QT} (h:∀ e∈q.P,∀ c∈zGa e,occI c<q.occ.length) (c:List Int) (r:List Val):zFy q (zA3 (2 ^ q.occ.length-1)) c r=zOr q.P c r:=by
 rw[Bool.eq_iff_iff,zGZ]
 unfold zOr
 rw[zAB]
 exact⟨λ k e he=>k e he (zZf h e he),λ k e he _=>k e he⟩
theorem z3i{q:QT} (hq:QOk q) {by_:Int} {sums out:List Int} {ord:Int} (h:mayQ q.T q.occ q.P by_ sums out ord=true) {l:List Nat} (hl:∀ o,o∈l↔o<q.occ.length) (hn:l.Nodup) {r:List (List Val)} (hr:r.Perm ((zBb q l).filter (zFy q (zA3 (2 ^ q.occ.length-1)) (zAI q l)))) :
 ∃ d x y,finB by_ sums out (zAI q l) r=some (d,x)/\finB by_ sums out (allB q).1 (allB q).2=some (d,y)/\x.Perm y:=by
 have hc:=zLA hq h
 have hlt:=z1l hq h
 have hlo:∀ o∈l,o<q.occ.length:=λ o ho=>(hl o).1 ho
 have hlr:∀ o∈List.range q.occ.length,o<q.occ.length:=λ o ho=>List.mem_range.1 ho
 have hp:l.Perm (List.range q.occ.length):=(List.perm_ext_iff_of_nodup hn List.nodup_range).2 λ o=>by rw[hl,List.mem_range]
 have h16:2 ^ q.occ.length-1<16:=by
  have:=hq.occ
  have:2 ^ q.occ.length<=2 ^ 4:=Nat.pow_le_pow_right (by omega) this
  omega
 have hf:=z1i hq hc hp hlo hn h16 (λ o ho=>by
  rw[Nat.testBit_two_pow_sub_one,zR]at ho
  exact List.mem_range.2 ho)
 have hk:(zBb q (List.range q.occ.length)).filter (zFy q (zA3 (2 ^ q.occ.length-1)) (zAI q (List.range q.occ.length)))=(allB q).2:=List.filter_congr λ r _=>zZg hlt _ r
 rw[hk]at hf
 have m1:=zFd hq hlo hn (zFy q (zA3 (2 ^ q.occ.length-1)) (zAI q l))
 have m2:mayB (allB q).1 (allB q).2=true:=zFd hq hlr List.nodup_range _
 have hmem:∀ x,x∈zAI q l↔x∈zAI q (List.range q.occ.length):=λ x=>zMw q hp x
 have hrow:∀ x∈(zBb q l).filter (zFy q (zA3 (2 ^ q.occ.length-1)) (zAI q l)),x.length=(zAI q l).length:=λ x hx=>(zB7 hq hlo x (zBE.1 hx).1).1
 have e1:=z1j hmem (by rw[m1,zMr hf];exact m2.symm) hrow by_ sums out
 obtain⟨b,hb⟩:=zVK hq h (c:=(allB q).1) (r:=(allB q).2) (λ x=>(z1m hq x).symm) m2
 rcases zQc (by_:=by_) (sums:=sums) (out:=out) (c:=zAI q l) hr with⟨n1,n2⟩ | ⟨d,x,y,k1,k2,k3⟩
 ·rcases zQc (by_:=by_) (sums:=sums) (out:=out) (c:=zAI q (List.range q.occ.length)) hf with⟨n3,n4⟩ | ⟨d,x,y,k1,k2,k3⟩
  ·exact absurd (n4.symm.trans hb) (by simp)
  ·rw[e1,n2]at k1;cases k1
 ·rcases zQc (by_:=by_) (sums:=sums) (out:=out) (c:=zAI q (List.range q.occ.length)) hf with⟨n3,n4⟩ | ⟨d',x',y',j1,j2,j3⟩
  ·rw[e1,k2]at n3;cases n3
  ·rw[e1,k2]at j1
   simp only[zE,zA4]at j1
   obtain⟨rfl,rfl⟩:=j1
   exact⟨d,x,y',k1,j2,k3.trans j3⟩
end Go.Cf

namespace Go.Cf
open Go Go.Ab
inductive Plan where
 |mk (op occ p0 p1:Int) (l:List Plan)
namespace Plan
def op:Plan->Int | mk o _ _ _ _=>o
def occ:Plan->Int | mk _ o _ _ _=>o
def p0:Plan->Int | mk _ _ p _ _=>p
def p1:Plan->Int | mk _ _ _ p _=>p
def l:Plan->List Plan | mk _ _ _ _ l=>l
@[simp] theorem eta(t:Plan):mk t.op t.occ t.p0 t.p1 t.l=t:=by cases t;rfl
end Plan
def zBm:Plan->Tree
 | .mk op occ _ _ []=> .mk occ []
 | .mk op _ _ _ [a]=>bif op==4 then zBm a else .mk 0 [zBm a]
 | .mk op _ _ _ [a,b]=>zTE (zBm a) (zBm b)
 | .mk _ _ _ _ (_::_::_::_)=> .mk 0 []
theorem zRp(c:List Int) (r:List (List Val)) (col:Int):(zZ5 c r col).Perm r:=(zRk _ r).2.perm
theorem zVL(c:List Int) (r:List (List Val)) (col:Int):Srt (leR (idxI c λ x=>col==x)) (zZ5 c r col):=(zRk _ r).1
def SrtC(c:List Int) (col:Int) (r:List (List Val)):Prop:=Srt (leR (idxI c λ x=>col==x)) r
theorem zTG{c:List Int} {col:Int} (h:inC c col=true) {x:List Val} (hx:x.length=c.length):keyR (idxI c λ y=>col==y) x=bif mayV (zV c x col)then((zV c x col).K,(zV c x col).N)else(2,0):=by
 obtain⟨h1,h2⟩:=zCd (row:=x) h hx
 unfold keyR
 rw[h1,zK (by omega)];rfl
def keyV(v:Val):Int×Int:=bif mayV v then(v.K,v.N)else(2,0)
def leV(u v:Val):Bool:= !decide (cmpB (keyV v) (keyV u)<0)
theorem z8I{c:List Int} {col:Int} (h:inC c col=true) {x y:List Val} (hx:x.length=c.length) (hy:y.length=c.length):leR (idxI c λ z=>col==z) x y=leV (zV c x col) (zV c y col):=by
 unfold leR leV
 rw[zTG h hx,zTG h hy];rfl
theorem zTH(u v:Val):leV u v=true↔(keyV u).1<(keyV v).1∨((keyV u).1=(keyV v).1/\(keyV u).2<=(keyV v).2):=by
 unfold leV
 rw[Bool.not_eq_true',decide_eq_false_iff_not,zWr]
 omega
theorem z3j(u:Val):leV u u=true:=(zTH u u).2 (.inr ⟨rfl,Int.le_refl _⟩)
theorem zVM{u v w:Val} (h:leV u v=true) (k:leV v w=true):leV u w=true:=by
 rw[zTH]at *;omega
theorem zGz{c:List Int} {col:Int} (h:inC c col=true) {r:List (List Val)} (hr:∀ x∈r,x.length=c.length):SrtC c col r↔r.Pairwise λ x y=>leV (zV c x col) (zV c y col)=true:=by
 unfold SrtC Srt
 constructor
 ·intro k
  refine k.imp_of_mem λ{a b} ha hb e=> ?_
  rw[<- z8I h (hr a ha) (hr b hb)];exact e
 ·intro k
  refine k.imp_of_mem λ{a b} ha hb e=> ?_
  rw[z8I h (hr a ha) (hr b hb)];exact e
theorem zQh{α β:Type} {R:β->β->Prop} {f:α->List β}:∀{l:List α},(∀ x∈l,(f x).Pairwise R)->(l.Pairwise λ x y=>∀ a∈f x,∀ b∈f y,R a b)->(l.flatMap f).Pairwise R
 | [],_,_=>List.Pairwise.nil
 |x::l,h,k=>by
  rw[zCA,List.pairwise_append]
  have k2:=List.pairwise_cons.1 k
  refine⟨h x (by simp),zQh (λ y hy=>h y (by simp[hy])) k2.2,λ a ha b hb=> ?_⟩
  obtain⟨y,hy,hb⟩:=List.mem_flatMap.1 hb
  exact k2.1 y hy a ha b hb
theorem z1n{c d:List Int} {col:Int} (h:inC c col=true) {r s:List (List Val)} (hr:∀ x∈r,x.length=c.length) (hs:∀ x∈s,x.length=d.length) (k:SrtC c col r) (f:List Val->Bool):SrtC (c++d) col ((zBl r s).filter f):=by
 have hcd:inC (c++d) col=true:=zD (List.mem_append_left _ (zAP h))
 have hl:∀ x∈(zBl r s).filter f,x.length=(c++d).length:=λ x hx=>by
  obtain⟨u,hu,v,hv,rfl⟩:=zQd (zBE.1 hx).1
  rw[zAH,zAH,hr u hu,hs v hv]
 rw[zGz hcd hl]
 refine List.Pairwise.filter _ ?_
 rw[zGz h hr]at k
 unfold zBl
 refine zQh (λ u hu=> ?_) (k.imp_of_mem λ{u v} hu hv e a ha b hb=> ?_)
 ·rw[List.pairwise_map]
  refine List.Pairwise.imp_of_mem (R:=λ _ _=>True) (λ{a b} ha hb _=> ?_) (List.pairwise_of_forall λ _ _=>trivial)
  rw[zDd h (hr u hu),zDd h (hr u hu)]
  exact z3j _
 ·obtain⟨a',ha',rfl⟩:=zAV.1 ha
  obtain⟨b',hb',rfl⟩:=zAV.1 hb
  rw[zDd h (hr u hu),zDd h (hr v hv)]
  exact e
def zDk(u v:Val):Bool:=u.K==0&&v.K==0&&u.N==v.N
def selR(g:List Val->List Val->Bool) (r s:List (List Val)):List (List Val):=r.flatMap λ x=>(s.filter (g x)).map λ y=>x++y
theorem zQi{g:List Val->List Val->Bool} {f:List Val->Bool} {r s:List (List Val)} (h:∀ x∈r,∀ y∈s,f (x++y)=true->g x y=true):(selR g r s).filter f=(zBl r s).filter f:=by
 unfold selR zBl
 rw[List.filter_flatMap,List.filter_flatMap]
 refine zJ0 λ x hx=> ?_
 rw[List.filter_map,List.filter_map,List.filter_filter]
 congr 1
 refine List.filter_congr λ y hy=> ?_
 simp only[Function.comp_apply]
 cases hf:f (x++y) with
 |false=>rfl
 |true=>rw[h x hx y hy hf];rfl
def ltV'(u v:Val):Bool:=decide (cmpB (keyV u) (keyV v)<0)
theorem zTI(u v:Val):ltV' u v= !leV v u:=by unfold ltV' leV;rw[Bool.not_not]
theorem z40{c:List Int} {col:Int} (v:Val):∀{s:List (List Val)},(s.Pairwise λ x y=>leV (zV c x col) (zV c y col)=true)->(∀ y∈s,mayV (zV c y col)=true)->mayV v=true ->
 (s.dropWhile λ y=>ltV' (zV c y col) v).takeWhile (λ y=>zDk (zV c y col) v)=s.filter λ y=>zDk (zV c y col) v
 | [],_,_,_=>rfl
 |y::s,hs,hm,hv=>by
  have h2:=List.pairwise_cons.1 hs
  have ih:=z40 v h2.2 (λ z hz=>hm z (by simp[hz])) hv
  have hy:=hm y (by simp)
  have key:∀ u:Val,mayV u=true->keyV u=(u.K,u.N):=λ u hu=>by unfold keyV;rw[hu];rfl
  have same_key:∀ u:Val,mayV u=true->zDk u v=true->keyV u=keyV v:=λ u hu h=>by
   unfold zDk at h
   simp only[zF,beq_iff_eq]at h
   rw[key u hu,key v hv,h.1.1,h.1.2,h.2]
  rw[List.dropWhile_cons,List.filter_cons]
  cases hlt:ltV' (zV c y col) v with
  |true =>
   rw[if_pos rfl,ih]
   have:zDk (zV c y col) v=false:=by
    cases h:zDk (zV c y col) v with
    |false=>rfl
    |true =>
     have:=same_key _ hy h
     unfold ltV' at hlt
     rw[this]at hlt
     have:=(zWr _ _).1 (zAP hlt)
     omega
   rw[this];rfl
  |false =>
   rw[if_neg (by simp),List.takeWhile_cons]
   have hge:leV v (zV c y col)=true:=by
    rw[zTI]at hlt
    simpa using hlt
   cases hs2:zDk (zV c y col) v with
   |true =>
    rw[if_pos rfl,if_pos rfl]
    congr 1
    have hd:s.dropWhile (λ y=>ltV' (zV c y col) v)=s:=by
     cases s with
     |nil=>rfl
     |cons z s =>
      rw[List.dropWhile_cons]
      have hz:=zVM hge (h2.1 z (by simp))
      have:ltV' (zV c z col) v=false:=by rw[zTI,hz];rfl
      rw[this];rfl
    rw[hd]at ih
    exact ih
   |false =>
    rw[if_neg (by simp),if_neg (by simp)]
    symm
    rw[List.filter_eq_nil_iff]
    intro z hz hzs
    have hmz:=hm z (by simp[hz])
    have e:=same_key _ hmz hzs
    have h3:=h2.1 z hz
    rw[zTH]at h3 hge
    rw[e]at h3
    unfold zDk at hs2 hzs
    simp only[zF,beq_iff_eq]at hzs
    have k1:=key _ hy
    have k2:=key _ hv
    have hK:(zV c y col).K=v.K/\(zV c y col).N=v.N:=by
     rw[k1,k2]at h3 hge
     simp only at h3 hge
     omega
    rw[hK.1,hK.2,hzs.1.2]at hs2
    simp at hs2
def mrgF(lt eq:List Val->List Val->Bool) (s:List (List Val)):Nat->List (List Val)->List (List Val)
 |_,[]=>[]
 |k,x::r =>
  let k' :=k+((s.drop k).takeWhile λ y=>lt y x).length
  (((s.drop k').takeWhile λ y=>eq y x).map λ y=>x++y)++mrgF lt eq s k' r
theorem z1o{α:Type} (p:α->Bool):∀(s:List α),s.drop (s.takeWhile p).length=s.dropWhile p
 | []=>rfl
 |a::s=>by
  rw[List.takeWhile_cons,List.dropWhile_cons]
  cases p a with
  |true=>rw[if_pos rfl,if_pos rfl,List.length_cons,List.drop_succ_cons,z1o p s]
  |false=>rfl
theorem z1p{α:Type} (p:α->Bool):∀(s:List α) (k:Nat),(∀ y∈s.take k,p y=true)->(s.drop k).dropWhile p=s.dropWhile p
 | [],k,_=>by simp
 |a::s,0,_=>rfl
 |a::s,k+1,h=>by
  have ha:=h a (by simp)
  rw[List.drop_succ_cons,z1p p s k (λ y hy=>h y (by simp[hy])),List.dropWhile_cons,ha,if_pos rfl]
theorem z1q{α:Type} (p:α->Bool):∀(s:List α) (y:α),y∈s.takeWhile p->p y=true
 | [],y,h=>by cases h
 |a::s,y,h=>by
  rw[List.takeWhile_cons]at h
  cases ha:p a with
  |true =>
   rw[ha,if_pos rfl]at h
   rcases zAD.1 h with rfl | h
   ·exact ha
   ·exact z1q p s y h
  |false=>rw[ha]at h;cases h
theorem z1r{α:Type} (s:List α) (k n:Nat) (y:α) (h:y∈s.take (k+n)):y∈s.take k∨y∈(s.drop k).take n:=by
 rw[List.take_add]at h
 exact List.mem_append.1 h
theorem zQj{α:Type} (p:α->Bool):∀(s:List α),s.take (s.takeWhile p).length=s.takeWhile p
 | []=>rfl
 |a::s=>by
  rw[List.takeWhile_cons]
  cases p a with
  |true=>rw[if_pos rfl,List.length_cons,List.take_succ_cons,zQj p s]
  |false=>rfl
theorem zTJ{c d:List Int} {x0 y0:Int} {s:List (List Val)} (hs:s.Pairwise λ x y=>leV (zV d x y0) (zV d y y0)=true) (hms:∀ y∈s,mayV (zV d y y0)=true) :
 ∀(r:List (List Val)) (k:Nat),(r.Pairwise λ x y=>leV (zV c x x0) (zV c y x0)=true)->(∀ x∈r,mayV (zV c x x0)=true)->(∀ x∈r,∀ y∈s.take k,ltV' (zV d y y0) (zV c x x0)=true) ->
 mrgF (λ y x=>ltV' (zV d y y0) (zV c x x0)) (λ y x=>zDk (zV d y y0) (zV c x x0)) s k r=selR (λ x y=>zDk (zV d y y0) (zV c x x0)) r s
 | [],k,_,_,_=>rfl
 |x::r,k,hr,hmr,hk=>by
  have h2:=List.pairwise_cons.1 hr
  have hd:=z1p (λ y=>ltV' (zV d y y0) (zV c x x0)) s k (hk x (by simp))
  have e1:s.drop (k+((s.drop k).takeWhile λ y=>ltV' (zV d y y0) (zV c x x0)).length)=s.dropWhile λ y=>ltV' (zV d y y0) (zV c x x0):=by
   rw[<- List.drop_drop,z1o,hd]
  have ih:=zTJ hs hms r (k+((s.drop k).takeWhile λ y=>ltV' (zV d y y0) (zV c x x0)).length) h2.2 (λ z hz=>hmr z (by simp[hz])) (λ z hz y hy=>by
   rcases z1r _ _ _ _ hy with hy | hy
   ·exact hk z (by simp[hz]) y hy
   ·rw[zQj]at hy
    have h3:=z1q _ _ _ hy
    have h4:=h2.1 z hz
    rw[zTI,Bool.not_eq_true']at h3 ⊢
    cases h5:leV (zV c z x0) (zV d y y0) with
    |false=>rfl
    |true=>rw[zVM h4 h5]at h3;cases h3)
  simp only[mrgF]
  rw[ih,e1,z40 _ hs hms (hmr x (by simp))]
  rfl
def setP(p:Plan):Nat:=(setO 4 (zBm p)).getD 0
def z8J(op:Int) (c:List Int) (x0:Int) (r:List (List Val)) (d:List Int) (y0:Int) (s:List (List Val)):List (List Val) :=
 bif op==2 then selR (λ x y=>zDk (zV d y y0) (zV c x x0)) r s else
 bif op==3 then mrgF (λ y x=>ltV' (zV d y y0) (zV c x x0)) (λ y x=>zDk (zV d y y0) (zV c x x0)) s 0 r else zBl r s
def zAL(q:QT):Plan->List Int×List (List Val)
 | .mk _ occ _ _ []=>(zBO q.T q.occ occ.toNat,(q.leaf occ.toNat).filter (zFy q (zA3 (2 ^ occ.toNat)) (zBO q.T q.occ occ.toNat)))
 | .mk _ _ p0 _ [a]=>((zAL q a).1,zZ5 (zAL q a).1 (zAL q a).2 p0)
 | .mk op _ p0 p1 [a,b]=>((zAL q a).1++(zAL q b).1,(z8J op (zAL q a).1 p0 (zAL q a).2 (zAL q b).1 p1 (zAL q b).2).filter (zFy q (newF (setP a) (setP b)) ((zAL q a).1++(zAL q b).1)))
 | .mk _ _ _ _ (_::_::_::_)=>([],[])
def zEe:Plan->Int
 | .mk op _ p0 _ []=>bif op==4 || op==3 then p0 else -1
 | .mk op _ p0 _ (a::_)=>bif op==1 then zEe a else bif op==4 || op==3 then p0 else -1
def zYK(q:QT) (x y:Nat) (u v:Int):Prop:=∃ e∈q.P,newF x y (setE e)=true/\u∈zGa e/\v∈zGa e/\x.testBit (occI u)=true/\y.testBit (occI v)=true /\
 ∀(c:List Int) (r:List Val),zLN e c r=true->zDk (zV c r u) (zV c r v)=true
inductive PlOk (q:QT):Plan->Prop
 |scan (occ p0 p1:Int) (h0:0<=occ) (h1:occ<(q.occ.length:Int)):PlOk q (.mk 0 occ p0 p1 [])
 |sort (occ p0 p1:Int) (a:Plan) (ha:PlOk q a) (hc:p0∈zAI q (zAx 4 (zBm a))):PlOk q (.mk 4 occ p0 p1 [a])
 |nest (occ p0 p1:Int) (a b:Plan) (ha:PlOk q a) (hb:PlOk q b) (hd:setP a &&& setP b=0):PlOk q (.mk 1 occ p0 p1 [a,b])
 |hash (occ p0 p1:Int) (a b:Plan) (ha:PlOk q a) (hb:PlOk q b) (hd:setP a &&& setP b=0) (hp:zYK q (setP a) (setP b) p0 p1):PlOk q (.mk 2 occ p0 p1 [a,b])
 |merge (occ p0 p1:Int) (a b:Plan) (ha:PlOk q a) (hb:PlOk q b) (hd:setP a &&& setP b=0) (hp:zYK q (setP a) (setP b) p0 p1) (oa:zEe a=p0) (ob:zEe b=p1):PlOk q (.mk 3 occ p0 p1 [a,b])
structure PlTells (q:QT) (p:Plan):Prop where
 set:setO 4 (zBm p)=some (setP p)
 lt:setP p<2 ^ q.occ.length
 cols:(zAL q p).1=zAI q (zAx 4 (zBm p))
 rows:(zAL q p).2.Perm ((zBb q (zAx 4 (zBm p))).filter (zFy q (zA3 (setP p)) (zAI q (zAx 4 (zBm p)))))
 ord:zEe p≠ -1->inC (zAL q p).1 (zEe p)=true/\SrtC (zAL q p).1 (zEe p) (zAL q p).2
theorem z8o{x y n:Nat} (hx:x<2 ^ n) (hy:y<2 ^ n):x ||| y<2 ^ n:=Nat.or_lt_two_pow hx hy
theorem zZh{r r' s s' :List (List Val)} (h:r.Perm r') (k:s.Perm s'):(zBl r s).Perm (zBl r' s'):=by
 unfold zBl
 exact(h.flatMap_right _).trans (zWy λ x _=>k.map _)
theorem zYL{g:List Val->List Val->Bool} {r s:List (List Val)} {z:List Val} (h:z∈selR g r s):z∈zBl r s:=by
 unfold selR at h
 unfold zBl
 obtain⟨x,hx,h⟩:=List.mem_flatMap.1 h
 obtain⟨y,hy,rfl⟩:=zAV.1 h
 exact List.mem_flatMap.2 ⟨x,hx,zAV.2 ⟨y,(zBE.1 hy).1,rfl⟩⟩
theorem PlTells.join{q:QT} (hq:QOk q) (hc:∀ e∈q.P,zMl q e) {a b:Plan} (ha:PlTells q a) (hb:PlTells q b) (hd:setP a &&& setP b=0) {op occ p0 p1:Int} (h1:(bif op==1 then zEe a else bif op==3 then p0 else -1)=zEe (.mk op occ p0 p1 [a,b]))
 (hR:(z8J op (zAL q a).1 p0 (zAL q a).2 (zAL q b).1 p1 (zAL q b).2).filter (zFy q (newF (setP a) (setP b)) ((zAL q a).1++(zAL q b).1))=(zBl (zAL q a).2 (zAL q b).2).filter (zFy q (newF (setP a) (setP b)) ((zAL q a).1++(zAL q b).1)))
 (ho:op=3->zEe a=p0):PlTells q (.mk op occ p0 p1 [a,b]):=by
 have hset:setO 4 (zBm (.mk op occ p0 p1 [a,b]))=some (setP a ||| setP b):=by
  show setO 4 (zTE (zBm a) (zBm b))=_
  rw[zQe,ha.set,hb.set]
  simp only[zB,hd,decide_true,zA]
 have hsp:setP (.mk op occ p0 p1 [a,b])=setP a ||| setP b:=by
  show(setO 4 (zBm (.mk op occ p0 p1 [a,b]))).getD 0=_
  rw[hset];rfl
 have hlv:zAx 4 (zBm (.mk op occ p0 p1 [a,b]))=zAx 4 (zBm a)++zAx 4 (zBm b):=zQf ha.set hb.set hd
 have hocc:=hq.occ
 have xl:=zC4 _ _ _ ha.set
 have yl:=zC4 _ _ _ hb.set
 have la:=zBt 4 _ _ ha.set
 have lb:=zBt 4 _ _ hb.set
 have oa:∀ o∈zAx 4 (zBm a),o<q.occ.length:=λ o ho=>zON _ xl q.occ.length (by omega) ha.lt o (zMt _ xl o ((la o).1 ho)) ((la o).1 ho)
 have ob:∀ o∈zAx 4 (zBm b),o<q.occ.length:=λ o ho=>zON _ yl q.occ.length (by omega) hb.lt o (zMt _ yl o ((lb o).1 ho)) ((lb o).1 ho)
 have lenA:∀ x∈(zAL q a).2,x.length=(zAL q a).1.length:=λ x hx=>by
  rw[ha.cols];exact(zB7 hq oa x (zBE.1 (ha.rows.mem_iff.1 hx)).1).1
 have lenB:∀ x∈(zAL q b).2,x.length=(zAL q b).1.length:=λ x hx=>by
  rw[hb.cols];exact(zB7 hq ob x (zBE.1 (hb.rows.mem_iff.1 hx)).1).1
 have e1:zAL q (.mk op occ p0 p1 [a,b])=((zAL q a).1++(zAL q b).1,(zBl (zAL q a).2 (zAL q b).2).filter (zFy q (newF (setP a) (setP b)) ((zAL q a).1++(zAL q b).1))):=by
  rw[<- hR];rfl
 refine⟨by rw[hset,hsp],by rw[hsp];exact z8o ha.lt hb.lt,by rw[e1,hlv,zKd,<-ha.cols,<-hb.cols],?_,λ hne=> ?_⟩
 ·rw[e1,hlv,hsp,zKd,zIM]
  have hp:=(zZh ha.rows hb.rows).filter (zFy q (newF (setP a) (setP b)) (zAI q (zAx 4 (zBm a))++zAI q (zAx 4 (zBm b))))
  rw[zQg (k:=zFy q (zA3 (setP a ||| setP b)) (zAI q (zAx 4 (zBm a))++zAI q (zAx 4 (zBm b)))) (λ u hu v hv=>z3g hq hc xl yl hd la lb oa ob (zB7 hq oa u hu).1 (zB7 hq ob v hv).1)]at hp
  rw[<- ha.cols,<-hb.cols]at hp ⊢
  exact hp
 ·rw[<- h1]at hne ⊢
  have key:zEe a≠ -1->inC (zAL q (.mk op occ p0 p1 [a,b])).1 (zEe a)=true/\SrtC (zAL q (.mk op occ p0 p1 [a,b])).1 (zEe a) (zAL q (.mk op occ p0 p1 [a,b])).2:=λ hna=>by
   obtain⟨k1,k2⟩:=ha.ord hna
   rw[e1]
   exact⟨zD (List.mem_append_left _ (zAP k1)),z1n k1 lenA lenB k2 _⟩
  cases h:op==1 with
  |true=>rw[h]at hne;exact key hne
  |false =>
   rw[h]at hne
   simp only[zC]at hne ⊢
   cases h3:op==3 with
   |true =>
    rw[h3]at hne
    simp only[zA]at hne ⊢
    have e3:=ho (by simpa using h3)
    have h4:=key (by rw[e3];exact hne)
    rw[e3]at h4
    exact h4
   |false=>rw[h3]at hne;exact absurd rfl hne
theorem zRq(u v:Val):zDk u v=zDk v u:=by
 unfold zDk
 rw[Bool.and_comm (u.K==0),show(u.N==v.N)=(v.N==u.N)from Bool.beq_comm]
theorem zMx{q:QT} (hq:QOk q) (hc:∀ e∈q.P,zMl q e) {a b:Plan} (ha:PlTells q a) (hb:PlTells q b) (hd:setP a &&& setP b=0) {p0 p1:Int} (hp:zYK q (setP a) (setP b) p0 p1) :
 (inC (zAL q a).1 p0=true/\inC (zAL q b).1 p1=true)/\∀ x∈(zAL q a).2,∀ y∈(zAL q b).2,zFy q (newF (setP a) (setP b)) ((zAL q a).1++(zAL q b).1) (x++y)=true->zDk (zV (zAL q b).1 y p1) (zV (zAL q a).1 x p0)=true:=by
 obtain⟨e,he,hn,hu,hv,bu,bv,hk⟩:=hp
 have hocc:=hq.occ
 have xl:=zC4 _ _ _ ha.set
 have yl:=zC4 _ _ _ hb.set
 have la:=zBt 4 _ _ ha.set
 have lb:=zBt 4 _ _ hb.set
 have oa:∀ o∈zAx 4 (zBm a),o<q.occ.length:=λ o ho=>zON _ xl q.occ.length (by omega) ha.lt o (zMt _ xl o ((la o).1 ho)) ((la o).1 ho)
 have ob:∀ o∈zAx 4 (zBm b),o<q.occ.length:=λ o ho=>zON _ yl q.occ.length (by omega) hb.lt o (zMt _ yl o ((lb o).1 ho)) ((lb o).1 ho)
 have i0:p0∈(zAL q a).1:=by
  rw[ha.cols];exact List.mem_flatMap.2 ⟨occI p0,(la _).2 bu,hc e he p0 hu⟩
 have i1:p1∈(zAL q b).1:=by
  rw[hb.cols];exact List.mem_flatMap.2 ⟨occI p1,(lb _).2 bv,hc e he p1 hv⟩
 refine⟨⟨zD i0,zD i1⟩,λ x hx y hy h=> ?_⟩
 have lx:x.length=(zAL q a).1.length:=by rw[ha.cols];exact(zB7 hq oa x (zBE.1 (ha.rows.mem_iff.1 hx)).1).1
 have ly:y.length=(zAL q b).1.length:=by rw[hb.cols];exact(zB7 hq ob y (zBE.1 (hb.rows.mem_iff.1 hy)).1).1
 have n1:p1∉(zAL q a).1:=λ h1=>by
  rw[ha.cols]at h1
  have b1:=(la _).1 (zFc hq oa h1).1
  exact zSr _ xl _ yl hd _ (zJW p1) ⟨b1,bv⟩
 have h2:=hk _ _ (zGZ.1 h e he hn)
 rw[zDd (zD i0) lx,zFP (zK n1) (zD i1) lx ly]at h2
 rw[zRq];exact h2
theorem zE8{q:QT} (hq:QOk q) (hc:∀ e∈q.P,zMl q e) {p:Plan} (h:PlOk q p):PlTells q p:=by
 have hocc:=hq.occ
 induction h with
 |scan occ p0 p1 h0 h1 =>
  obtain⟨n,rfl⟩:=Int.eq_ofNat_of_zero_le h0
  have hn:n<q.occ.length:=by omega
  have hset:setO 4 (zBm (.mk 0 (n:Int) p0 p1 []))=some (2 ^ n):=by
   show setO 4 (.mk (n:Int) [])=_
   simp only[setO,zD (show(0:Int)<=(n:Int) by omega),zD (show(n:Int)<4 by omega),Bool.and_self,zA,zY]
  have hsp:setP (.mk 0 (n:Int) p0 p1 [])=2 ^ n:=by
   show(setO 4 (zBm (.mk 0 (n:Int) p0 p1 []))).getD 0=_
   rw[hset];rfl
  have hlv:zAx 4 (zBm (.mk 0 (n:Int) p0 p1 []))=[n]:=by
   show zAx 4 (.mk (n:Int) [])=_
   simp[zAx]
  refine⟨by rw[hset,hsp],by rw[hsp];exact(Nat.pow_lt_pow_iff_right (by omega)).2 hn,?_,?_,λ hne=> ?_⟩
  ·rw[hlv];simp[zAL,zAI]
  ·rw[hlv,hsp]
   simp only[zAL,zBb,zMu,zAI,zCA,List.flatMap_nil,zBM,zY]
   exact List.Perm.refl _
  ·exact absurd rfl hne
 |sort occ p0 p1 a ha hcol ih =>
  have e0:zBm (.mk 4 occ p0 p1 [a])=zBm a:=rfl
  have e1:setP (.mk 4 occ p0 p1 [a])=setP a:=rfl
  refine⟨by rw[e0,e1];exact ih.set,by rw[e1];exact ih.lt,by rw[e0];exact ih.cols,?_,λ hne=> ?_⟩
  ·rw[e0,e1]
   exact(zRp _ _ _).trans ih.rows
  ·have eo:zEe (.mk 4 occ p0 p1 [a])=p0:=rfl
   rw[eo]
   refine⟨zD ?_,zVL _ _ _⟩
   show p0∈(zAL q a).1
   rw[ih.cols];exact hcol
 |nest occ p0 p1 a b ha hb hd iha ihb=>exact PlTells.join hq hc iha ihb hd rfl rfl (λ h=>by cases h)
 |hash occ p0 p1 a b ha hb hd hp iha ihb =>
  obtain⟨_,hk⟩:=zMx hq hc iha ihb hd hp
  exact PlTells.join hq hc iha ihb hd rfl (zQi hk) (λ h=>by cases h)
 |merge occ p0 p1 a b ha hb hd hp oa ob iha ihb =>
  obtain⟨⟨i0,i1⟩,hk⟩:=zMx hq hc iha ihb hd hp
  have mayOf:∀{p:Plan} (hp:PlTells q p) (x:List Val),x∈(zAL q p).2->x.length=(zAL q p).1.length/\x.all mayV=true:=λ{p} hp x hx=>by
   have xl:=zC4 _ _ _ hp.set
   have la:=zBt 4 _ _ hp.set
   have o:=zB7 hq (λ o ho=>zON _ xl q.occ.length (by omega) hp.lt o (zMt _ xl o ((la o).1 ho)) ((la o).1 ho)) x (zBE.1 (hp.rows.mem_iff.1 hx)).1
   exact⟨by rw[hp.cols];exact o.1,o.2.1⟩
  have mayL:∀{c:List Int} {x:List Val} {z:Int},inC c z=true->x.length=c.length->x.all mayV=true->mayV (zV c x z)=true:=λ{c x z} hz hl hm =>
   zAB.1 hm _ (zAU (zCd hz hl).1)
  have ne0:p0≠ -1:=λ e=>by
   subst e
   rw[iha.cols]at i0
   have xl:=zC4 _ _ _ iha.set
   have la:=zBt 4 _ _ iha.set
   have:=(zFc hq (λ o ho=>zON _ xl q.occ.length (by omega) iha.lt o (zMt _ xl o ((la o).1 ho)) ((la o).1 ho)) (zAP i0)).2.1
   omega
  have ne1:p1≠ -1:=λ e=>by
   subst e
   rw[ihb.cols]at i1
   have xl:=zC4 _ _ _ ihb.set
   have la:=zBt 4 _ _ ihb.set
   have:=(zFc hq (λ o ho=>zON _ xl q.occ.length (by omega) ihb.lt o (zMt _ xl o ((la o).1 ho)) ((la o).1 ho)) (zAP i1)).2.1
   omega
  have sa:=(iha.ord (by rw[oa];exact ne0)).2
  have sb:=(ihb.ord (by rw[ob];exact ne1)).2
  rw[oa,zGz i0 (λ x hx=>(mayOf iha x hx).1)]at sa
  rw[ob,zGz i1 (λ x hx=>(mayOf ihb x hx).1)]at sb
  have hm:=zTJ (c:=(zAL q a).1) (x0:=p0) sb (λ y hy=>mayL i1 (mayOf ihb y hy).1 (mayOf ihb y hy).2) (zAL q a).2 0 sa (λ x hx=>mayL i0 (mayOf iha x hx).1 (mayOf iha x hx).2) (λ x _ y hy=>by simp at hy)
  refine PlTells.join hq hc iha ihb hd rfl ?_ (λ _=>oa)
  show(mrgF (λ y x=>ltV' (zV (zAL q b).1 y p1) (zV (zAL q a).1 x p0)) (λ y x=>zDk (zV (zAL q b).1 y p1) (zV (zAL q a).1 x p0)) (zAL q b).2 0 (zAL q a).2).filter _=_
  rw[hm]
  exact zQi hk
end Go.Cf

namespace Go.Cf
open Go Go.Ab
namespace Plan
theorem ind{P:Plan->Prop} (h:∀ o c a b l,(∀ t∈l,P t)->P (mk o c a b l)) (t:Plan):P t :=
 Plan.rec (motive_1:=P) (motive_2:=λ l=>∀ t∈l,P t) (λ o c a b l ih=>h o c a b l ih) (by simp) (λ a r ha hr=>by simpa using⟨ha,hr⟩) t
mutual
def pv:Plan->PV
 |mk o c a b l=> .agg [.int .i64 o,.int .i64 c,.int .i64 a,.int .i64 b,.slice 6 (pvs l)]
def pvs:List Plan->List PV
 | []=>[]
 |t::r=>pv t::pvs r
end
theorem pvs_map:∀ l:List Plan,pvs l=l.map pv
 | []=>rfl
 |t::r=>by simp[pvs,pvs_map r]
theorem pv_mk(o c a b:Int) (l:List Plan):(mk o c a b l).pv= .agg [.int .i64 o,.int .i64 c,.int .i64 a,.int .i64 b,.slice 6 (l.map pv)]:=by rw[pv,pvs_map]
theorem pv_eq(t:Plan):t.pv= .agg [.int .i64 t.op,.int .i64 t.occ,.int .i64 t.p0,.int .i64 t.p1,.slice 6 (t.l.map pv)]:=by cases t;exact pv_mk ..
@[simp] theorem fold(t:Plan):PV.agg [.int .i64 t.op,.int .i64 t.occ,.int .i64 t.p0,.int .i64 t.p1,.slice 6 (t.l.map pv)]=t.pv:=(pv_eq t).symm
@[simp] theorem c_mk(t:Plan) {R:Type} (K:Int->Int->Int->Int->List PV->Option R):zJ t.pv K=K t.op t.occ t.p0 t.p1 (t.l.map pv):=by rw[pv_eq];rfl
mutual
def sz:Plan->Nat
 |mk _ _ _ _ l=>szL l+1
def szL:List Plan->Nat
 | []=>0
 |t::r=>sz t+szL r
end
theorem sz_eq(t:Plan):t.sz=szL t.l+1:=by cases t;rfl
theorem sz_mem:∀{l:List Plan} {e:Plan},e∈l->e.sz<=szL l
 |x::r,e,h=>by
  rcases zAD.1 h with rfl | h
  ·simp only[szL];omega
  ·have:=sz_mem h;simp only[szL];omega
theorem szL_drop(l:List Plan) (i:Nat) (hi:i<l.length):szL (l.drop i)=l[i].sz+szL (l.drop (i+1)):=by rw[zAk hi];rfl
end Plan
def zIN(op:Int):Nat:=bif op==0 then 0 else bif op==4 then 1 else 2
def zTK(p:Plan):Bool:=decide (0<=p.op)&&decide (p.op<5)&&decide (p.l.length=zIN p.op)&&(p.op==0 || p.occ==0)&&((p.p0==0&&p.p1==0) || p.op==2 || p.op==3 || (p.op==4&&p.p1==0))
theorem z5c(p:Plan):wc W zFu [p.pv]=some (.int .i64 ((zIN p.op:Nat):Int)):=by
 have h:=zNg p.op p.occ p.p0 p.p1 (p.l.map Plan.pv)
 rw[Plan.fold]at h
 rw[h]
 unfold zIN
 cases p.op==0 with
 |true=>rfl
 |false=>cases p.op==4<;>rfl
theorem z8p(p:Plan) (b c:Bool):zBs p.op p.occ p.p0 p.p1 (p.l.map Plan.pv) b c=some (.bool (decide (0<=p.op)&&decide (p.op<5)&&decide (p.l.length=zIN p.op)&&b&&c)):=by
 rw[zKZ]
 simp only[Plan.fold,z5c,zB,c_i64_mk,zG]
 have e1:decide (p.op≥0)=decide (0<=p.op):=rfl
 have e2:(((p.l.length:Nat):Int)==((zIN p.op:Nat):Int))=decide (p.l.length=zIN p.op):=by
  by_cases h:p.l.length=zIN p.op
  ·rw[zD h,zIT (by rw[h])]
  ·rw[zK h,zDI (by omega)]
 rw[e1,e2]
 cases decide (0<=p.op)<;>cases decide (p.op<5)<;>cases decide (p.l.length=zIN p.op)<;>cases b<;>rfl
theorem z8K(p:Plan) (b:Bool):zDy p.op p.occ p.p0 p.p1 (p.l.map Plan.pv) b=some (.bool (decide (0<=p.op)&&decide (p.op<5)&&decide (p.l.length=zIN p.op)&&b&&((p.p0==0&&p.p1==0) || p.op==2 || p.op==3 || (p.op==4&&p.p1==0)))):=by
 rw[zKY]
 have e:((bif p.p0==0 then bif p.p1==0 then some true else some false else some false).bind λ v7=>some (PV.bool v7))=some (.bool (p.p0==0&&p.p1==0)):=by
  cases p.p0==0<;>cases p.p1==0<;>rfl
 rw[e]
 simp only[zB,c_b_mk,z8p]
 cases (p.p0==0&&p.p1==0) with
 |true=>rfl
 |false =>
  cases p.op==2 with
  |true=>rfl
  |false =>
   cases p.op==3 with
   |true=>rfl
   |false=>cases p.op==4<;>rfl
theorem z8L(p:Plan):wc W zG4 [p.pv]=some (.bool (zTK p)):=by
 have h:=zOg p.op p.occ p.p0 p.p1 (p.l.map Plan.pv)
 rw[Plan.fold]at h
 rw[h,z8K,z8K]
 unfold zTK
 cases p.op==0<;>rfl
mutual
def zC5:Plan->Bool
 | .mk o c a b l=>zTK (.mk o c a b l)&&zPN l
def zPN:List Plan->Bool
 | []=>true
 |t::r=>zC5 t&&zPN r
end
theorem zOP:∀ l:List Plan,zPN l=l.all zC5
 | []=>rfl
 |t::r=>by rw[zPN,zOP r];rfl
theorem zLG(p:Plan):zC5 p=(zTK p&&p.l.all zC5):=by cases p;rw[zC5,zOP];rfl
theorem zVN(o:Int):zIN o<=2:=by
 unfold zIN
 cases o==0 with
 |true=>simp
 |false=>cases o==4<;>simp
theorem zTL{p:Plan} (h:zTK p=true):p.l.length=zIN p.op/\0<=p.op/\p.op<5/\(p.op=0∨p.occ=0):=by
 unfold zTK at h
 simp only[zF,zR,zEU,beq_iff_eq]at h
 exact⟨h.1.1.2,h.1.1.1.1,h.1.1.1.2,h.1.2⟩
def varN(n:Int):List Ob:=[.var false 0 (.pv (.int .i64 n))]
theorem z5d(p:Plan):∀ n:Nat,n<=20->∃ m:Nat,W zEF false [.pv p.pv,.fnv zEI [] [.own 0 0]] (varN (n:Int))=some (.pv (.bool (zC5 p&&decide (n+p.sz<=20))),varN (m:Int))/\(zC5 p=true->n+p.sz<=20->m=n+p.sz):=by
 induction p using Plan.ind with
 |h o c a b l ih =>
  intro n hn
  have h:=zO9 o c a b (l.map Plan.pv) (n:Int)
  have h1:=zNd o c a b (l.map Plan.pv) (n:Int)
  rw[<- Plan.pv_mk]at h h1
  have hw:IntKind.wrap .i64 ((n:Int)+1)=((n+1:Nat):Int):=zX (by omega)
  have hsz:(Plan.mk o c a b l).sz=Plan.szL l+1:=rfl
  have hf:zTK (.mk o c a b l)=zTK (.mk o c a b l):=rfl
  rw[hw,z8L]at h1
  unfold varN
  rw[h,h1]
  by_cases h20:n+1<=20
  ·rw[zD (show((n+1:Nat):Int)<=20 by omega)]
   simp only[zA,zB,c_b_mk,k_5b106d_mk]
   rw[zLG]
   cases hfm:zTK (.mk o c a b l) with
   |false=>exact⟨n+1,by simp,by simp⟩
   |true =>
    simp only[zAJ,zC,zAA,zG]
    have hlen:=(zTL hfm).1
    have hl2:=zVN (Plan.mk o c a b l).op
    have hl:(Plan.mk o c a b l).l=l:=rfl
    rw[hl]at hlen
    have loop:∀(k i v:Nat),i+k=l.length->v<=20->∃ m:Nat,zEr (l.map Plan.pv) ((l.length:Nat):Int) (i:Int) (v:Int)=some (.pv (.bool ((l.drop i).all zC5&&decide (v+Plan.szL (l.drop i)<=20))),varN (m:Int))/\((l.drop i).all zC5=true->v+Plan.szL (l.drop i)<=20->m=v+Plan.szL (l.drop i)):=by
     intro k
     induction k with
     |zero =>
      intro i v hi hv
      rw[zH5,show i=l.length by omega]
      refine⟨v,?_,by simp[Plan.szL]⟩
      simp[Plan.szL,hv,varN]
     |succ k ihk =>
      intro i v hi hv
      have hil:i<l.length:=by omega
      obtain⟨m1,e1,e2⟩:=ih l[i] (zAF hil) v hv
      have hd:=Plan.szL_drop l i hil
      rw[zH5]
      unfold varN at e1
      simp only[zAK hil,zA2,zA,zY,zN,zI hil,zU,zB,Plan.c_mk,Plan.fold,e1,k_5b106d_mk,c_b_mk]
      rw[hd,zAk hil,List.all_cons]
      cases ha:zC5 l[i] with
      |false=>exact⟨m1,by simp[varN],by simp⟩
      |true =>
       by_cases hv2:v+l[i].sz<=20
       ·have hm1:=e2 ha hv2
        subst hm1
        rw[zD hv2]
        simp only[Bool.and_self,zAJ,zC,zAA]
        rw[zX (by omega)]
        obtain⟨m,e3,e4⟩:=ihk (i+1) (v+l[i].sz) (by omega) hv2
        refine⟨m,?_,λ h5 h6=> ?_⟩
        ·rw[e3,Nat.add_assoc]
        ·rw[e4 h5 (by omega)];omega
       ·rw[zK hv2,zK (show ¬ v+(l[i].sz+Plan.szL (l.drop (i+1)))<=20 by omega)]
        refine⟨m1,by simp[varN],λ _ h6=> ?_⟩
        omega
    obtain⟨m,e1,e2⟩:=loop l.length 0 (n+1) (by omega) h20
    rw[List.drop_zero]at e1 e2
    refine⟨m,?_,λ h5 h6=> ?_⟩
    ·have z:((0:Nat):Int)=0:=rfl
     rw[z]at e1
     rw[e1]
     unfold varN
     rw[hsz,hl,show n+1+Plan.szL l=n+(Plan.szL l+1) by omega]
    ·rw[e2 h5 (by omega)];omega
  ·rw[zK (show ¬ ((n+1:Nat):Int)<=20 by omega)]
   simp only[zC,zB,c_b_mk,k_5b106d_mk,Bool.not_false,zA]
   refine⟨n+1,?_,λ _ h6=>by omega⟩
   rw[zK (show ¬ n+(Plan.mk o c a b l).sz<=20 by omega),Bool.and_false]
def fewP(p:Plan):Bool:=zC5 p&&decide (p.sz<=20)
theorem z8M(p:Plan):wc W zKt [p.pv]=some (.bool (fewP p)):=by
 have h:=zZJ p.op p.occ p.p0 p.p1 (p.l.map Plan.pv)
 rw[Plan.fold]at h
 obtain⟨m,e,_⟩:=z5d p 0 (by omega)
 have z:((0:Nat):Int)=0:=rfl
 unfold varN at e
 rw[z,Nat.zero_add]at e
 rw[h,e]
 rfl
theorem zG0{p x:Plan} (h:fewP p=true) (hx:x∈p.l):fewP x=true:=by
 unfold fewP at h ⊢
 rw[zLG]at h
 simp only[zF,zR,zAB]at h ⊢
 have:=Plan.sz_mem hx
 have:=p.sz_eq
 exact⟨h.1.2 x hx,by omega⟩
theorem zMy{p:Plan} (h:zC5 p=true):(∃ c a b,p= .mk 0 c a b [])∨(∃ a b x,p= .mk 4 0 a b [x]/\zC5 x=true)∨(∃ o a b x y,p= .mk o 0 a b [x,y]/\(o=1∨o=2∨o=3)/\zC5 x=true/\zC5 y=true):=by
 rw[zLG,zF,zAB]at h
 obtain⟨h1,h2⟩:=h
 obtain⟨k1,k2,k3,k4⟩:=zTL h1
 obtain⟨o,c,a,b,l⟩:=p
 simp only[Plan.l,Plan.op,Plan.occ]at k1 k2 k3 k4 h2
 by_cases e0:o=0
 ·subst e0
  have:l=[]:=zCN.1 k1
  subst this
  exact .inl ⟨c,a,b,rfl⟩
 ·have ec:c=0:=by rcases k4 with h | h;exact absurd h e0;exact h
  subst ec
  by_cases e4:o=4
  ·subst e4
   obtain⟨x,rfl⟩:=List.length_eq_one_iff.1 (show l.length=1 from k1)
   exact .inr (.inl ⟨a,b,x,rfl,h2 x (by simp)⟩)
  ·have:zIN o=2:=by unfold zIN;rw[zDI e0,zDI e4];rfl
   rw[this]at k1
   match l,k1 with
   | [x,y],_=>exact .inr (.inr ⟨o,a,b,x,y,rfl,by omega,h2 x (by simp),h2 y (by simp)⟩)
theorem z8N(o:Int):wc W zLd [.int .i64 o]=some (Tree.mk o []).pv:=by rw[zWY,Tree.pv_mk];rfl
theorem z5e(x y:Tree):wc W zLa [x.pv,y.pv]=some (zTE x y).pv:=by
 have h:=zWN x.occ (x.l.map Tree.pv) y.occ (y.l.map Tree.pv)
 simp only[Tree.fold]at h
 rw[h]
 unfold zTE
 rw[Tree.pv_mk];rfl
theorem zYM(p:Plan):zC5 p=true->wc W zDa [p.pv]=some (zBm p).pv:=by
 induction p using Plan.ind with
 |h o c a b l ih =>
  intro h
  have e:=zS8 o c a b (l.map Plan.pv)
  rw[<- Plan.pv_mk]at e
  rw[e]
  rcases zMy h with⟨c,a,b,hp⟩ | ⟨a,b,x,hp,hx⟩ | ⟨o',a,b,x,y,hp,ho,hx,hy⟩
  ·cases hp
   simp only[zCO,zA,z8N,zB,Tree.c_mk,Tree.fold]
   rfl
  ·cases hp
   have e0:((4:Int)==0)=false:=rfl
   simp only[e0,zC,zCO,zA,zA1,zAd,zAO,zB,Plan.c_mk,Plan.fold,ih x (by simp) hx,Tree.c_mk,Tree.fold]
   rfl
  ·cases hp
   have e0:(o==0)=false:=zDI (by omega)
   have e4:(o==4)=false:=zDI (by omega)
   simp only[e0,e4,zC,zA1,zAd,zAO,zAg,zB,Plan.c_mk,Plan.fold,ih x (by simp) hx,ih y (by simp) hy,Tree.c_mk,Tree.fold,z5e]
   rfl
def zQk(p:Plan):Option Tree:=bif fewP p&&(setO 4 (zBm p)).isSome then some (zBm p)else none
def tupT(x:Option Tree):PV:=match x with | some t=> .tup [t.pv,.bool true] | none=> .tup [(Tree.mk 0 []).pv,.bool false]
theorem zWz(p:Plan):wc W zHT [p.pv]=some (tupT (zQk p)):=by
 have h:=zWM p.op p.occ p.p0 p.p1 (p.l.map Plan.pv)
 rw[Plan.fold]at h
 have e0:PV.agg [.int .i64 0,.slice 3 []]=(Tree.mk 0 []).pv:=(Tree.pv_mk 0 []).symm
 rw[h,z8M,e0]
 unfold zQk
 simp only[zB,c_b_mk]
 cases hf:fewP p with
 |false=>rfl
 |true =>
  have ha:zC5 p=true:=by unfold fewP at hf;simp only[zF]at hf;exact hf.1
  simp only[zAJ,zC,zYM p ha,zB,Tree.c_mk,Tree.fold,z8k,c_b_mk,zAA]
  cases (setO 4 (zBm p)).isSome<;>rfl
theorem z1s{p:Plan} (h:zC5 p=true):wc W zEJ [p.pv]=some (.int .i64 ((setP p:Nat):Int)):=by
 have e:=zQP p.op p.occ p.p0 p.p1 (p.l.map Plan.pv)
 rw[Plan.fold]at e
 rw[e,zYM p h]
 simp only[zB,Tree.c_mk,Tree.fold,z32,c_i64_mk]
 rfl
theorem z3k(p:Plan):zC5 p=true->zGF p.op p.occ p.p0 p.p1 (p.l.map Plan.pv)=some (.int .i64 (zEe p)):=by
 induction p using Plan.ind with
 |h o c a b l ih =>
  intro h
  simp only[Plan.op,Plan.occ,Plan.p0,Plan.p1,Plan.l]
  rw[zN5]
  rcases zMy h with⟨c,a,b,hp⟩ | ⟨a,b,x,hp,hx⟩ | ⟨o',a,b,x,y,hp,ho,hx,hy⟩
  ·cases hp
   have e1:((0:Int)==1)=false:=rfl
   have e4:((0:Int)==4)=false:=rfl
   simp only[e1,e4,zC,zFv]
   rfl
  ·cases hp
   have e1:((4:Int)==1)=false:=rfl
   simp only[e1,zC,zCO,zA,zFv]
   rfl
  ·cases hp
   have e4:(o==4)=false:=zDI (by omega)
   simp only[e4,zC,zA1,zAd,zAO,zB,Plan.c_mk,ih x (by simp) hx,zFv,zEe,Bool.false_or]
   cases o==1 with
   |true=>rfl
   |false=>cases o==3<;>rfl
theorem z1t(p:Plan):wc W zGJ [p.pv]=some (.int .i64 (bif fewP p then zEe p else -1)):=by
 have h:=zUZ p.op p.occ p.p0 p.p1 (p.l.map Plan.pv)
 rw[Plan.fold]at h
 rw[h,z8M]
 simp only[zB,c_b_mk]
 cases hf:fewP p with
 |false=>rfl
 |true =>
  have ha:zC5 p=true:=by unfold fewP at hf;simp only[zF]at hf;exact hf.1
  simp only[zAJ,zC,z3k p ha,zA]
end Go.Cf

namespace Go.Cf
open Go Go.Ab
theorem few3(D:List (List (List Val))) (i:Nat) (hi:i<D.length) (hD:DOk D) (next:∀ b,∃ r,zBf (D.map tabp) b ((i:Int)+1)=some (.bool r)):∀(k j:Nat) (b:Bool),j+k=D[i].length->∃ r,zDC (D.map tabp) b (i:Int) (j:Int)=some (.bool r)
 | 0,j,b,h=>by
  have:=hD.len
  obtain⟨r,hr⟩:=next b
  refine⟨r,?_⟩
  rw[zFO,show j=D[i].length by omega]
  simp only[zA2,zA,zY,zN,zI hi,zU,zB,zQQ,zG,zDG,zC]
  rw[zAZ (by omega) (by omega)]
  exact hr
 |k+1,j,b,h=>by
  have:=hD.len
  have hj:j<D[i].length:=by omega
  have:=hD.tab _ (zAF hi)
  rw[zFO]
  simp only[zA2,zA,zY,zN,zI hi,zU,zB,zQQ,zG,zAK hj]
  cases b with
  |true =>
   simp only[zA,zIk,zA2,zY,zN,zI hi,zI hj,zU,zB,zQQ,zCm]
   rw[zX (by omega)]
   exact few3 D i hi hD next k (j+1) _ (by omega)
  |false =>
   simp only[zC]
   rw[zAZ (by omega) (by omega)]
   exact next false
theorem few1(D:List (List (List Val))) (hD:DOk D):∀(k i:Nat) (b:Bool),i+k=D.length->∃ r,zBf (D.map tabp) b (i:Int)=some (.bool r)
 | 0,i,b,h=>by
  rw[zFN,show i=D.length by omega]
  exact⟨b,by simp⟩
 |k+1,i,b,h=>by
  have hi:i<D.length:=by omega
  rw[zFN]
  simp only[zG,zAK hi,zA]
  cases b with
  |true =>
   simp only[zA,zIj,zA2,zY,zN,zI hi,zU,zB,zQQ]
   exact few3 D i hi hD (λ b=>few1 D hD k (i+1) b (by omega)) D[i].length 0 _ (by omega)
  |false=>exact⟨false,rfl⟩
theorem z5f(D:List (List (List Val))) (hD:DOk D):∃ r,wc W zEz [zIo D]=some (.bool r):=by
 have h:=zLq (D.map tabp)
 rw[zBu]at h
 rw[h]
 exact few1 D hD D.length 0 _ (by omega)
theorem few5(occ:List PV) (P:List Ex) (by_:Int) (sums out:List PV) (ord:Int) (hP:P.length<=9223372036854775807) (he:∀ e∈P,e.lens):∀(k i:Nat) (b:Bool),i+k=P.length ->
 zDB occ (P.map Ex.pv) by_ sums out ord b (i:Int)=some (.bool (b&&(P.drop i).all λ e=>decide (e.sz<=60)))
 | 0,i,b,h=>by
  rw[zFM,show i=P.length by omega]
  simp
 |k+1,i,b,h=>by
  have hi:i<P.length:=by omega
  rw[zFM]
  simp only[zG,zAK hi,zA]
  cases b with
  |false=>rfl
  |true =>
   simp only[zA,zIi,zA2,zY,zN,zI hi,zU,zB,Ex.c_mk,Ex.fold,z7u _ (he _ (zAF hi)),c_b_mk]
   rw[zX (by omega),few5 occ P by_ sums out ord hP he k (i+1) _ (by omega),zAk hi,List.all_cons]
   rfl
theorem z5g(T:List Def) (q:QIn) (hq:q.Ok):∃ b,wc W zCj [catp T,q.pv]=some (.bool b)/\(b=true->q.P.length<=8/\q.sums.length<=20/\q.out.length<=20/\∀ e∈q.P,e.sz<=60):=by
 obtain⟨occ,P,by_,sums,out,ord⟩:=q
 have h:=zLp (T.map Def.pv) (occ.map intp) (P.map Ex.pv) by_ (sums.map intp) (out.map intp) ord
 simp only[zAj,zH,zAS,zG]at h
 have h5:=few5 (occ.map intp) P by_ (sums.map intp) (out.map intp) ord hq.P.1 (λ e he=>(hq.P.2 e he).1) P.length 0
 have hj:∀ b,zBW (occ.map intp) (P.map Ex.pv) by_ (sums.map intp) (out.map intp) ord b=some (.bool (b&&P.all λ e=>decide (e.sz<=60))):=λ b=>by
  rw[zIh]
  have:=h5 b (by omega)
  simpa using this
 show ∃ b,wc W zCj [catp T,zDH occ (P.map Ex.pv) by_ sums out ord]=some (.bool b)/\_
 rw[h]
 simp only[hj]
 rw[show decide (((P.length:Nat):Int)<=8)=decide (P.length<=8)from decide_eq_decide.2 (by omega),show decide (((sums.length:Nat):Int)<=20)=decide (sums.length<=20)from decide_eq_decide.2 (by omega),show decide (((out.length:Nat):Int)<=20)=decide (out.length<=20)from decide_eq_decide.2 (by omega)]
 refine⟨decide (((T.length:Nat):Int)<=10)&&(decide (((occ.length:Nat):Int)<=20)&&(decide (P.length<=8)&&(decide (sums.length<=20)&&(decide (out.length<=20)&&P.all λ e=>decide (e.sz<=60))))),?_,λ hb=> ?_⟩
 ·cases decide (((T.length:Nat):Int)<=10)<;>cases decide (((occ.length:Nat):Int)<=20)<;>cases decide (P.length<=8)<;>cases decide (sums.length<=20)<;>rfl
 ·simp only[zF,zR,zAB]at hb
  exact⟨hb.2.2.1,hb.2.2.2.1,hb.2.2.2.2.1,hb.2.2.2.2.2⟩
theorem z5h(T:List Def) (D:List (List (List Val))) (hD:DOk D) (q:QIn) (hq:q.Ok):∃ b,wc W zCi [catp T,zIo D,q.pv]=some (.bool b)/\(b=true->q.P.length<=8/\q.sums.length<=20/\q.out.length<=20/\∀ e∈q.P,e.sz<=60):=by
 obtain⟨b,h1,h2⟩:=z5g T q hq
 obtain⟨r,h3⟩:=z5f D hD
 obtain⟨occ,P,by_,sums,out,ord⟩:=q
 have e1:=zLk (T.map Def.pv) (D.map tabp) (occ.map intp) (P.map Ex.pv) by_ (sums.map intp) (out.map intp) ord
 have e2:=zLn (T.map Def.pv) (occ.map intp) (P.map Ex.pv) by_ (sums.map intp) (out.map intp) ord
 have e3:=zLo (D.map tabp)
 simp only[zAj,zBu,zH,zAS]at e1 e2 e3
 have h1' :wc W zCj [catp T,zDH occ (P.map Ex.pv) by_ sums out ord]=some (.bool b):=h1
 rw[h1']at e2
 rw[h3]at e3
 simp only[zB,c_b_mk]at e2 e3
 show ∃ b,wc W zCi [catp T,zIo D,zDH occ (P.map Ex.pv) by_ sums out ord]=some (.bool b)/\_
 rw[e1,e2,e3]
 cases b with
 |false=>exact⟨false,by cases r<;>rfl,λ h=>by cases h⟩
 |true=>cases r with
  |false=>exact⟨false,rfl,λ h=>by cases h⟩
  |true=>exact⟨true,rfl,λ _=>h2 rfl⟩
theorem z41(D:List (List (List Val))) (n:Int) (hD:D.length<=9223372036854775807):∀(k i:Nat),i+k=D.length->∃ z,zCc (D.map tabp) n (i:Int)=some (.int .i64 z)
 | 0,i,h=>⟨0,by rw[zEc,show i=D.length by omega];simp⟩
 |k+1,i,h=>by
  have hi:i<D.length:=by omega
  rw[zEc]
  simp only[zG,zAK hi,zA2,zA,zY,zN,zI hi,zU,zB,zQQ]
  rw[zX (by omega)]
  cases decide (((D[i].length:Nat):Int)>n) with
  |true=>exact⟨1,rfl⟩
  |false=>exact z41 D n hD k (i+1) (by omega)
theorem z5i(D:List (List (List Val))) (hD:DOk D) (occ:List Int) (P:List PV) (by_:Int) (sums out:List Int) (ord:Int):∃ z,wc W zEE [zIo D,zDH occ P by_ sums out ord]=some (.int .i64 z):=by
 have h:=zKO (D.map tabp) (occ.map intp) P by_ (sums.map intp) (out.map intp) ord
 simp only[zBu,zH,zAS]at h
 rw[h]
 have hl:D.length<=9223372036854775807:=hD.1
 have j:∀ n,∃ z,zCb (D.map tabp) n=some (.int .i64 z):=λ n=>by
  rw[zHi];exact z41 D n hl D.length 0 (by omega)
 cases decide ((((occ.map intp).length:Nat):Int)>3) with
 |true=>exact j 3
 |false=>exact j 5
end Go.Cf
