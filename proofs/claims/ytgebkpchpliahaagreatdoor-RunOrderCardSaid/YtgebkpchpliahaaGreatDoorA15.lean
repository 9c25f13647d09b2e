/- Part 16 of the proof: an abstract machine that runs the program's code over plain values, its soundness, and what the functions tell of plain values. Conditions: those in each theorem. -/
import Derived.Test.YtgebkpchpliahaaGreatDoorA14
set_option linter.unusedSectionVars false
set_option linter.unusedVariables false
set_option linter.unusedSimpArgs false
noncomputable section
namespace Go.Cf
open Go Go.Ab
def zIk(l a:List Int):Bool:=l.all (inC a)
theorem zOV(l a:List Int) (hl:l.length<=9223372036854775807) (ha:a.length<=9223372036854775807):wc W zDi [zBx l,zBx a]=some (.bool (zIk l a)):=by
 have h:=zQG (l.map intp) (a.map intp)
 rw[zI,zI]at h
 rw[h,zW4 l zGP [] [.imm 0 (zBx a) 0] (λ n=> !inC a n) hl (λ x _=>by
  have h1:=zNx x (a.map intp)
  rw[zI]at h1
  refine h1.trans ?_
  rw[zMz a x ha];rfl)]
 simp only[zB,c_b_mk,zMv]
 rfl
def z3Z(l:List Int):Bool:=decide ((Lib.compact (zHr l)).length=l.length)
theorem z30(a b:Nat):(((a:Nat):Int)==((b:Nat):Int))=decide (a=b):=by
 by_cases h:a=b
 ·rw[zD h,zIH (by rw[h])]
 ·rw[zL h,zDP (by omega)]
theorem z5p(l:List Int) (hl:l.length<=4294967296):wc W zJ4 [zBx l]=some (.bool (z3Z l)):=by
 have h:=zTY (l.map intp)
 have h1:=zHT (l.map intp) (by simpa using hl)
 have h2:=zGD false 0 l hl
 have h3:=zFD 0 (zHr l) (by rw[zJY];exact hl)
 have e1:∀ l:List Int,l.map intp=l.map (PV.int .i64):=λ _=>rfl
 refine h.trans ?_
 rw[h1]
 simp only[zB,k_d697de_mk]
 rw[e1,h2]
 simp only[zB,k_cad770_mk,h3,k_b7636c_mk,c_s0_mk,zK,z30]
 rfl
def zLV(T:List Def) (occ:List Int) (o:Nat):Bool:=decide (0<=occ.getD o 0)&&decide (occ.getD o 0<(T.length:Int))
def zEv(T:List Def) (occ:List Int) (o:Nat):List Int:=zDt (o:Int) 0 (zFb T (occ.getD o 0).toNat).toNat
def allL(T:List Def) (occ:List Int) (is:Nat->Bool) (i k:Nat):List Int:=(List.range' i k).flatMap λ o=>bif is o&&zLV T occ o then zEv T occ o else []
theorem zNA(o:Int) (k n:Nat):(zDt o k n).length=n:=by simp[zDt]
theorem all3(T:List Def) (g:PV) (A B C D:List PV) (i37 i40 i42:Int) (o:Nat) (ho:o<=3) (n:Nat) (hn:n<=4):∀(k j:Nat) (acc:List Int),j+k=n->acc.length<=1000+j ->
 zGa g (T.map Def.pv) A B i37 C D i40 (o:Int) i42 (o:Int) (n:Int) (j:Int) (acc.map intp)=zCr g (T.map Def.pv) A B i37 C D i40 i42 ((o+1:Nat):Int) ((acc++zDt (o:Int) j k).map intp)
 | 0,j,acc,h,hl=>by
  rw[zJA,show j=n by omega]
  simp only[zFU,zC,zDt,List.range'_zero,zA9,zBN]
  rw[zAB (by omega)]
 |k+1,j,acc,h,hl=>by
  have hj:j<n:=by omega
  rw[zJA]
  have hc:colI (o:Int) (j:Int)=4*(o:Int)+(j:Int):=by
   unfold colI
   rw[zD (show(0:Int)<=o by omega),zD (show(o:Int)<=3 by omega),zD (show(0:Int)<=j by omega),zD (show(j:Int)<=3 by omega)];rfl
  simp only[zAQ hj,zA,z3X,zB,c_i64_mk,hc,zK,zAD,zD (show acc.length+1<=4294967296 by omega)]
  rw[zAB (by omega)]
  have:=all3 T g A B C D i37 i40 i42 o ho n hn k (j+1) (acc++[4*(o:Int)+(j:Int)]) (by omega) (by simp;omega)
  simp only[zBe,zAX,zA9]at this
  refine this.trans ?_
  rw[show zDt (o:Int) j (k+1)=(4*(o:Int)+(j:Int))::zDt (o:Int) (j+1) k from by simp[zDt,List.range'_succ]]
  simp only[zBe,zAX,zAG,List.cons_append,List.nil_append]
theorem all1(T:List Def) (hT:mayC T=true) (occ:List Int) (g:Nat) (fs cs:List PV) (is:Nat->Bool) (P C D:List PV) (i5 i8:Int) (n:Nat) (hn:n<=4) (hno:n<=occ.length) (his:∀ o,o<n->wc W g (fs++[.int .i64 (o:Int)]++cs)=some (.bool (is o))) :
 ∀(k i:Nat) (acc:List Int),i+k=n->acc.length<=4*i ->
 zCr (.fn g fs cs) (T.map Def.pv) (occ.map intp) P i5 C D i8 (n:Int) (i:Int) (acc.map intp)=some (zBx (acc++allL T occ is i k))
 | 0,i,acc,h,hl=>by
  rw[zIz,show i=n by omega]
  simp only[zFU,zC,allL,List.range'_zero,List.flatMap_nil,zBN]
  rfl
 |k+1,i,acc,h,hl=>by
  have hi:i<n:=by omega
  have hio:i<occ.length:=by omega
  have ho:occ.getD i 0=occ[i]:=by rw[zA0,zH hio];rfl
  have hstep:allL T occ is i (k+1)=(bif is i&&zLV T occ i then zEv T occ i else [])++allL T occ is (i+1) k:=by
   unfold allL
   rw[List.range'_succ,zC2]
  rw[zIz,hstep]
  simp only[zAQ hi,zAc,zA,zY,zN,zH hio,zV,zB,zJD,asFn_mk,his i hi,c_b_mk]
  have skip:=all1 T hT occ g fs cs is P C D i5 i8 n hn hno his k (i+1) acc (by omega) (by omega)
  cases hb:is i with
  |false =>
   simp only[Bool.not_false,zA,Bool.false_and,zC,List.nil_append]
   rw[zAB (by omega)];exact skip
  |true =>
   simp only[zAH,zC,zAD]
   unfold zLV
   rw[ho]
   by_cases h0:occ[i]<0
   ·rw[zD h0,zL (show ¬ 0<=occ[i] by omega)]
    simp only[zA,Bool.false_and,zC,List.nil_append]
    rw[zAB (by omega)];exact skip
   rw[zL h0,zD (show 0<=occ[i] by omega)]
   simp only[zC,zAD,zK]
   by_cases h1:occ[i]<(T.length:Int)
   ·rw[zL (show ¬ occ[i]≥(T.length:Int) by omega),zD h1,zC,zA,zNq]
    obtain⟨m,hm⟩:=Int.eq_ofNat_of_zero_le (show 0<=occ[i] by omega)
    have hmT:m<T.length:=by omega
    have hcols:=zJr hT hmT
    obtain⟨c,hc⟩:=Int.eq_ofNat_of_zero_le (show 0<=zFb T m by omega)
    have hcA:T[m].Cols=(c:Int):=by
     have:=hc;unfold zFb at this;rw[zH hmT]at this;exact this
    rw[hm]
    simp only[zAc,zA,zY,zN,zH hmT,zV,zB,Def.load0,c_i64_mk,hcA]
    have h3:=all3 T (.fn g fs cs) (occ.map intp) P C D i5 i8 (n:Int) i (by omega) c (by omega) c 0 acc (by omega) (by omega)
    refine h3.trans ?_
    have hq:zEv T occ i=zDt (i:Int) 0 c:=by unfold zEv;rw[ho,hm,zY,hc,zY]
    rw[hq,<-zAG]
    exact all1 T hT occ g fs cs is P C D i5 i8 n hn hno his k (i+1) (acc++zDt (i:Int) 0 c) (by omega) (by rw[zAK,zNA];omega)
   ·rw[zD (show occ[i]≥(T.length:Int) by omega),zL h1]
    simp only[zA,zC,List.nil_append]
    rw[zAB (by omega)];exact skip
end Go.Cf

namespace Go.Cf
open Go Go.Ab
def zCI(occ:List Int) (p:List PV) (by_:Int) (sums out:List Int) (ord:Int):PV:= .agg [zBx occ,.slice 6 p,.int .i64 by_,zBx sums,zBx out,.int .i64 ord]
@[simp] theorem zAL(occ:List Int) (p:List PV) (by_:Int) (sums out:List Int) (ord:Int):PV.agg [zBx occ,.slice 6 p,.int .i64 by_,zBx sums,zBx out,.int .i64 ord]=zCI occ p by_ sums out ord:=rfl
def zRq(T:List Def) (occ:List Int):List Int:=allL T occ (λ _=>true) 0 (min occ.length 4)
theorem zRr(T:List Def) (hT:mayC T=true) (occ:List Int) (is:Nat->Bool):∀(k i:Nat),(allL T occ is i k).length<=4*k
 | 0,i=>by simp[allL]
 |k+1,i=>by
  have ih:=zRr T hT occ is k (i+1)
  unfold allL at ih ⊢
  rw[List.range'_succ,zC2,zAK]
  have:(bif is i&&zLV T occ i then zEv T occ i else []).length<=4:=by
   cases hc:is i&&zLV T occ i with
   |false=>simp
   |true =>
    simp only[zF]at hc
    have h2:=hc.2
    unfold zLV at h2
    simp only[zF,zU]at h2
    have:=zJr hT (i:=(occ.getD i 0).toNat) (by omega)
    simp only[zA,zEv,zNA]
    omega
  omega
theorem z5q(T:List Def) (hT:mayC T=true) (occ:List Int) (p:List PV) (by_:Int) (sums out:List Int) (ord:Int) (g:Nat) (fs cs:List PV) (is:Nat->Bool) (his:∀ o,o<min occ.length 4->wc W g (fs++[.int .i64 (o:Int)]++cs)=some (.bool (is o))) :
 wc W zI5 [catp T,zCI occ p by_ sums out ord,.fn g fs cs]=some (zBx (allL T occ is 0 (min occ.length 4))):=by
 have h:=zVI (T.map Def.pv) (occ.map intp) p by_ (sums.map intp) (out.map intp) ord (.fn g fs cs)
 rw[zAY,zI,zI,zI,zAL]at h
 refine h.trans ?_
 have e:(bif (decide ((4:Int)<(((occ.map intp).length:Nat):Int)))then(4:Int)else(((occ.map intp).length:Nat):Int))=((min occ.length 4:Nat):Int):=by
  rw[zK]
  by_cases h4:4<occ.length
  ·rw[zD (by omega),zA,Nat.min_eq_right (by omega)];rfl
  ·rw[zL (by omega),zC,Nat.min_eq_left (by omega)]
 rw[e]
 have:=all1 T hT occ g fs cs is p (sums.map intp) (out.map intp) by_ ord (min occ.length 4) (by omega) (by omega) his (min occ.length 4) 0 [] (by omega) (by simp)
 simpa using this
def zYN(cols:List Int) (e:Ex):Bool:= !(zHY e).isEmpty&&zIk (zHY e) cols
def z1j(by_:Int) (sums out:List Int) (ord:Int) (cols:List Int):Bool :=
 bif by_== -1 then decide (1<=out.length)&&decide (out.length<=8)&&z3Z out&&zIk out cols&&decide (sums.length=0)&&(ord== -1 || inC out ord)
 else zIk [by_] cols&&decide (sums.length<=4)&&zIk sums cols&&decide (out.length=0)&&(ord== -1 || ord==by_)
def mayQ(T:List Def) (occ:List Int) (P:List Ex) (by_:Int) (sums out:List Int) (ord:Int):Bool :=
 mayC T&&decide (1<=occ.length)&&decide (occ.length<=4)&&(occ.all λ t=>decide (0<=t)&&decide (t<(T.length:Int)))&&decide (P.length<=6)&&P.all (zYN (zRq T occ))&&z1j by_ sums out ord (zRq T occ)
theorem zTj(e:Ex):(zHY e).length<=30:=by
 unfold zHY
 cases h:mayT e with
 |false=>simp
 |true =>
  have h1:=zV1 h
  have h2:=(zMy e.sz).1 e (zM _)
  have h3:(Lib.compact (zHr (zJI e))).length<=(zHr (zJI e)).length:=by
   unfold Lib.compact Lib.compactUpTo
   rw[zK]
   exact Nat.le_trans (zEP _ _) (by simp)
  rw[zJY]at h3
  simp only[zA];omega
theorem z5r(occ:List PV) (P:List PV) (by_:Int) (sums out:List Int) (ord:Int) (cols:List Int) (l:List PV) (hs:sums.length<=9223372036854775807) (ho:out.length<=9223372036854775807) (hc:cols.length<=1000) :
 zFV occ P by_ (sums.map intp) (out.map intp) ord (cols.map intp) l (l.length:Int) (l.length:Int)=some (.bool (z1j by_ sums out ord cols)):=by
 rw[zIv]
 simp only[zFU,zC,zK]
 unfold z1j
 by_cases hb:by_= -1
 ·rw[zIH hb,zA,zA]
  have j3:∀ b,zEU occ P by_ (sums.map intp) (out.map intp) ord b=some (.bool (b&&decide (sums.length=0)&&(ord== -1 || inC out ord))):=λ b=>by
   rw[zNn]
   cases b with
   |false=>rfl
   |true =>
    simp only[zA,zK,zAD,zI,zMz out ord (by omega),zB,c_b_mk]
    by_cases hs0:sums.length=0
    ·rw[zIH (show((sums.length:Nat):Int)=0 by omega),zD hs0]
     simp only[zA,zAD]
     cases ord== -1<;>rfl
    ·rw[zDP (show((sums.length:Nat):Int)≠0 by omega),zL hs0];rfl
  simp only[j3,zI,zOV out cols (by omega) (by omega),zB,c_b_mk]
  rw[show decide (((out.length:Nat):Int)≥1)=decide (1<=out.length)from decide_eq_decide.2 (by omega),show decide (((out.length:Nat):Int)<=8)=decide (out.length<=8)from decide_eq_decide.2 (by omega)]
  by_cases h8:out.length<=8
  ·rw[zD h8]
   simp only[z5p out (by omega),zB,c_b_mk]
   cases decide (1<=out.length)<;>cases z3Z out<;>simp
  ·rw[zL h8]
   cases decide (1<=out.length)<;>simp
 ·rw[zDP hb,zC,zC]
  have e1:PV.slice 0 [PV.int .i64 by_]=zBx [by_]:=rfl
  simp only[e1,zI,zOV [by_] cols (by simp) (by omega),zOV sums cols (by omega) (by omega),zB,c_b_mk]
  rw[show decide (((sums.length:Nat):Int)<=4)=decide (sums.length<=4)from decide_eq_decide.2 (by omega),show(((out.length:Nat):Int)==0)=decide (out.length=0)from by
   by_cases h:out.length=0
   ·rw[zIH (by omega),zD h]
   ·rw[zDP (by omega),zL h]]
  cases zIk [by_] cols<;>cases decide (sums.length<=4)<;>cases zIk sums cols<;>cases decide (out.length=0)<;>cases ord== -1<;>simp
theorem zLW(T:List Def) (occ:List Int) (P:List Ex) (by_:Int) (sums out:List Int) (ord:Int) (hT:T.length<=9223372036854775807) (hocc:occ.length<=9223372036854775807) (hP:P.length<=9223372036854775807) (hok:∀ e∈P,e.ok)
 (hs:sums.length<=9223372036854775807) (ho:out.length<=9223372036854775807):wc W zGy [catp T,zCI occ (P.map Ex.pv) by_ sums out ord]=some (.bool (mayQ T occ P by_ sums out ord)):=by
 have h:=zVC (T.map Def.pv) (occ.map intp) (P.map Ex.pv) by_ (sums.map intp) (out.map intp) ord
 rw[zAY,zI,zI,zI,zAL]at h
 refine h.trans ?_
 rw[zQp T hT]
 simp only[zB,c_b_mk,zK]
 unfold mayQ
 cases h1:mayC T with
 |false=>rfl
 |true =>
 simp only[zAH,zC,zAD]
 by_cases h2:occ.length<1
 ·rw[zD (show((occ.length:Nat):Int)<1 by omega),zL (show ¬ 1<=occ.length by omega)];simp
 rw[zL (show ¬ ((occ.length:Nat):Int)<1 by omega),zD (show 1<=occ.length by omega)]
 by_cases h3:4<occ.length
 ·rw[zD (show((occ.length:Nat):Int)>4 by omega),zL (show ¬ occ.length<=4 by omega)];simp
 rw[zL (show ¬ ((occ.length:Nat):Int)>4 by omega),zD (show occ.length<=4 by omega)]
 simp only[zC,zAD]
 rw[zW4 occ zI4 [] [.imm 2 (catp T) 0] (λ t=> !(decide (0<=t)&&decide (t<(T.length:Int)))) (by omega) (λ t _=>by
  have h4:=zRb t (T.map Def.pv)
  rw[zAY]at h4
  refine h4.trans ?_
  rw[zK]
  by_cases a:t<0
  ·rw[zD a,zL (show ¬ 0<=t by omega)];rfl
  ·rw[zL a,zD (show 0<=t by omega)]
   by_cases b:t<(T.length:Int)
   ·rw[zD b,zL (show ¬ t≥(T.length:Int) by omega)];rfl
   ·rw[zL b,zD (show t≥(T.length:Int) by omega)];rfl)]
 simp only[zB,c_b_mk]
 rw[<- zMv (f:=λ t:Int=>decide (0<=t)&&decide (t<(T.length:Int)))]
 cases h5:occ.any λ t=> !(decide (0<=t)&&decide (t<(T.length:Int))) with
 |true=>simp
 |false =>
 simp only[zC,Bool.not_false,zAD]
 by_cases h6:6<P.length
 ·rw[zD (show((P.length:Nat):Int)>6 by omega),zL (show ¬ P.length<=6 by omega)];simp
 rw[zL (show ¬ ((P.length:Nat):Int)>6 by omega),zD (show P.length<=6 by omega)]
 simp only[zC,zAD,zNm,zAY,zI,zAL]
 have hall:=z5q T h1 occ (P.map Ex.pv) by_ sums out ord zI6 [] [] (λ _=>true) (λ o _=>zRc (o:Int))
 rw[hall]
 have hcl:=zRr T h1 occ (λ _=>true) (min occ.length 4) 0
 have ecols:allL T occ (λ _=>true) 0 (min occ.length 4)=zRq T occ:=rfl
 rw[ecols]at hcl ⊢
 generalize zRq T occ=cols at hcl ⊢
 simp only[zB,zCz,zK]
 have hloop:=zOS (λ i=>zFV (occ.map intp) (P.map Ex.pv) by_ (sums.map intp) (out.map intp) ord (cols.map intp) (P.map Ex.pv) (P.length:Int) i) P.length (λ i=>(P[i]?).all (zYN cols)) (some (.bool false)) (some (.bool (z1j by_ sums out ord cols))) (λ i hi=> ?_) ?_
 ·refine hloop.trans ?_
  rw[zZ2 P (zYN cols)]
  cases P.all (zYN cols)<;>rfl
 ·have hm:=zAC hi
  conv=>lhs;rw[zIv]
  simp only[zAQ hi,zAc,zA,zY,zN,zH hi,zV,zB,Ex.c_mk,Ex.fold,z2W P[i] (hok _ hm),zCz,zK,Option.all_some]
  have hcl2:(zHY P[i]).length<=9223372036854775807:=by
   have:=zTj P[i];omega
  simp only[zI,zOV (zHY P[i]) cols hcl2 (by omega),zB,c_b_mk]
  rw[zAU (by omega) (by omega)]
  unfold zYN
  cases hc:zHY P[i] with
  |nil=>rfl
  |cons a r =>
   rw[zDP (show(((a::r).length:Nat):Int)≠0 by simp;omega)]
   simp only[zC,List.isEmpty_cons,Bool.not_false,zAD]
   cases zIk (a::r) cols<;>rfl
 ·have:=z5r (occ.map intp) (P.map Ex.pv) by_ sums out ord cols (P.map Ex.pv) hs ho (by omega)
  simpa using this
end Go.Cf

namespace Go.Cf
open Go Go.Ab
def occI(c:Int):Nat:=bif decide (0<=c)&&decide (c<=15)then(c / 4).toNat else 0
def setC:Nat->List Int->Nat
 |s,[]=>s
 |s,c::r=>setC (s ||| 2 ^ occI c) r
theorem zIl(c:Int):occI c<4:=by
 unfold occI
 cases h:decide (0<=c)&&decide (c<=15) with
 |false=>simp
 |true =>
  simp only[zF,zU]at h
  simp only[zA]
  omega
theorem zV5:∀ o:Nat,o<4->2 ^ o<16:=by decide
theorem zYO:∀ x:Nat,x<16->∀ y:Nat,y<16->x ||| y<16:=by decide +kernel
theorem z2Z:∀ x:Nat,x<16->∀ y:Nat,y<16->IntKind.wrap .i64 (((BitVec.toNat (HOr.hOr (BitVec.ofInt 64 (x:Int)) (BitVec.ofInt 64 (y:Int)))):Nat):Int)=((x ||| y:Nat):Int):=by decide +kernel
theorem z31:∀ x:Nat,x<16->∀ y:Nat,y<16->IntKind.wrap .i64 (((BitVec.toNat (HAnd.hAnd (BitVec.ofInt 64 (x:Int)) (BitVec.ofInt 64 (y:Int)))):Nat):Int)=((x &&& y:Nat):Int):=by decide +kernel
theorem shl4:∀ o:Nat,o<4->IntKind.wrap .i64 ((1:Int)*(HPow.hPow (2:Int) (Min.min (Int.toNat (o:Int)) 64)):Int)=((2 ^ o:Nat):Int):=by decide +kernel
theorem z0B:∀(l:List Int) (s:Nat),s<16->setC s l<16
 | [],s,h=>h
 |c::r,s,h=>z0B r _ (zYO _ h _ (zV5 _ (zIl c)))
theorem zW5(l:List Int) (hl:l.length<=1000000):∀(k i s:Nat),i+k=l.length->s<16 ->
 zHk (s:Int) (l.map intp) (l.length:Int) (i:Int)=some (.int .i64 (setC s (l.drop i):Nat))
 | 0,i,s,h,hs=>by
  rw[zJl,show i=l.length by omega]
  simp[setC]
 |k+1,i,s,h,hs=>by
  have hi:i<l.length:=by omega
  rw[zJl,zAv hi]
  simp only[zAQ hi,zAc,zA,zY,zN,zH hi,zV,zB,zJD,z3Y,setC]
  have hsp:∃ q b,zW2 l[i]= .tup [.int .i64 (occI l[i]:Int),q,.bool b]/\∃ z,q= .int .i64 z:=by
   unfold zW2 occI
   cases hc:decide (0<=l[i])&&decide (l[i]<=15) with
   |false=>exact⟨_,_,rfl,_,rfl⟩
   |true =>
    simp only[zF,zU]at hc
    refine⟨.int .i64 (l[i] % 4),true,?_,l[i] % 4,rfl⟩
    simp only[zA]
    rw[show(((l[i] / 4).toNat:Nat):Int)=l[i] / 4 by omega]
  obtain⟨q,b,e,z,rfl⟩:=hsp
  have h4:=zIl l[i]
  rw[e]
  simp only[asTup_mk,zB,zAS,zAq,c_i64_mk,c_b_mk]
  rw[zL (show ¬ ((occI l[i]:Nat):Int)<0 by omega)]
  simp only[zC,zB,c_i64_mk]
  rw[shl4 _ h4,z2Z _ hs _ (zV5 _ h4),zAB (by omega)]
  exact zW5 l hl k (i+1) _ (by omega) (zYO _ hs _ (zV5 _ h4))
theorem z0C(l:List Int) (hl:l.length<=1000000):wc W zGl [zBx l]=some (.int .i64 (setC 0 l:Nat)):=by
 have h:=zYG (l.map intp)
 rw[zI]at h
 rw[h,zK]
 exact zW5 l hl l.length 0 0 (by omega) (by omega)
def setE(e:Ex):Nat:=setC 0 (zHY e)
theorem zV6(e:Ex):setE e<16:=z0B _ _ (by omega)
theorem zQq(e:Ex) (he:e.ok):wc W zKW [e.pv]=some (.int .i64 (setE e:Nat)):=by
 have h:=zYA e.op e.col e.v.K e.v.N (e.l.map Ex.pv)
 rw[Ex.fold]at h
 rw[h,z2W e he]
 have:=zTj e
 simp only[zB,zCz,zI,z0C (zHY e) (by omega),c_i64_mk]
 rfl
def zAp(s t:Nat):Bool:=decide (s &&& t=t)
theorem zPb(s t:Nat) (hs:s<16) (ht:t<16):wc W zAz [.int .i64 (s:Int),.int .i64 (t:Int)]=some (.bool (zAp s t)):=by
 rw[zMo,z31 _ hs _ ht]
 unfold zAp
 by_cases h:s &&& t=t
 ·rw[zIH (by rw[h]),zD h]
 ·rw[zDP (by omega),zL h]
theorem z32(P:List Ex) (g:Nat) (fs cs:List PV) (f:Nat->Bool) (hP:P.length<=1000000) (hok:∀ e∈P,e.ok) (hf:∀ t,t<16->wc W g (fs++[.int .i64 ((t:Nat):Int)]++cs)=some (.bool (f t))) :
 ∀(k i:Nat) (acc:List Int),i+k=P.length->acc.length<=i ->
 zEd (.fn g fs cs) (P.map Ex.pv) (P.length:Int) (i:Int) (acc.map intp)=some (zBx (acc++((List.range' i k).filter λ j=>(P[j]?).any λ e=>f (setE e)).map λ n:Nat=>(n:Int)))
 | 0,i,acc,h,ha=>by
  rw[zIL,show i=P.length by omega]
  simp
 |k+1,i,acc,h,ha=>by
  have hi:i<P.length:=by omega
  have hm:=zAC hi
  rw[zIL,List.range'_succ,List.filter_cons]
  simp only[zAQ hi,zAc,zA,zY,zN,zH hi,zV,zB,Ex.c_mk,Ex.fold,zQq _ (hok _ hm),c_i64_mk,asFn_mk,hf _ (zV6 _),c_b_mk,Option.any_some]
  rw[zAB (by omega)]
  cases f (setE P[i]) with
  |true =>
   simp only[zA,zK,zAD,zD (show acc.length+1<=4294967296 by omega),if_true]
   have:=z32 P g fs cs f hP hok hf k (i+1) (acc++[(i:Int)]) (by omega) (by simp;omega)
   simp only[zBe,zAX,zA9,zAG,List.cons_append,List.nil_append]at this ⊢
   exact this
  |false =>
   simp only[zC,Bool.false_eq_true,if_false]
   exact z32 P g fs cs f hP hok hf k (i+1) acc (by omega) (by omega)
def zIR(P:List Ex) (f:Nat->Bool):List Nat:=(List.range' 0 P.length).filter λ j=>(P[j]?).any λ e=>f (setE e)
theorem z5s(occ:List Int) (P:List Ex) (by_:Int) (sums out:List Int) (ord:Int) (s:Nat) (hs:s<16) (hP:P.length<=1000000) (hok:∀ e∈P,e.ok) :
 wc W zI2 [zCI occ (P.map Ex.pv) by_ sums out ord,.int .i64 (s:Int)]=some (zBx ((zIR P (zAp s)).map λ n:Nat=>(n:Int))):=by
 have h:=zVF (occ.map intp) (P.map Ex.pv) by_ (sums.map intp) (out.map intp) ord (s:Int)
 have h2:=zTZ (occ.map intp) (P.map Ex.pv) by_ (sums.map intp) (out.map intp) ord (.fn zAz [.int .i64 (s:Int)] [])
 rw[zI,zI,zI,zAL]at h h2
 have h3:=z32 P zAz [.int .i64 (s:Int)] [] (zAp s) hP hok (λ t ht=>zPb s t hs ht) P.length 0 [] (by omega) (by simp)
 rw[h,h2,zK]
 simp only[zA9,List.nil_append]at h3
 have h4:(0:Int)=((0:Nat):Int):=rfl
 rw[h4,h3]
 simp only[zB,zCz]
 rfl
theorem z5t(t a b:Nat) (s:Nat) (ht:t<16) (hs:s<16) (ha:a<16) (hb:b<16):W zER false [.pv (.int .i64 (t:Int)),.own 0 0,.own 1 0,.own 2 0] [.var false 0 (.pv (.int .i64 (s:Int))),.var false 0 (.pv (.int .i64 (a:Int))),.var false 0 (.pv (.int .i64 (b:Int)))] =
 some (.pv (.bool (zAp s t&& !zAp a t&& !zAp b t)),[.var false 0 (.pv (.int .i64 (s:Int))),.var false 0 (.pv (.int .i64 (a:Int))),.var false 0 (.pv (.int .i64 (b:Int)))]):=by
 rw[zLx,zPb s t hs ht,zPb a t ha ht,zPb b t hb ht]
 simp only[zB,c_b_mk]
 cases zAp s t<;>cases zAp a t<;>rfl
def newF(a b t:Nat):Bool:=zAp (a ||| b) t&& !zAp a t&& !zAp b t
theorem z33(P:List Ex) (a b:Nat) (ha:a<16) (hb:b<16) (hP:P.length<=1000000) (hok:∀ e∈P,e.ok) :
 ∀(k i:Nat) (acc:List Int),i+k=P.length->acc.length<=i ->
 zDR (P.map Ex.pv) (P.length:Int) (i:Int) ((a ||| b:Nat):Int) (a:Int) (b:Int) (acc.map intp) =
  some (.pv (zBx (acc++((List.range' i k).filter λ j=>(P[j]?).any λ e=>newF a b (setE e)).map λ n:Nat=>(n:Int))),[.var false 0 (.pv (.int .i64 ((a ||| b:Nat):Int))),.var false 0 (.pv (.int .i64 (a:Int))),.var false 0 (.pv (.int .i64 (b:Int)))])
 | 0,i,acc,h,hc=>by
  rw[zGY,show i=P.length by omega]
  simp
 |k+1,i,acc,h,hc=>by
  have hi:i<P.length:=by omega
  have hm:=zAC hi
  rw[zGY,List.range'_succ,List.filter_cons]
  simp only[zAQ hi,zAc,zA,zY,zN,zH hi,zV,zB,Ex.c_mk,Ex.fold,zQq _ (hok _ hm),c_i64_mk,z5t (setE P[i]) a b (a ||| b) (zV6 _) (zYO _ ha _ hb) ha hb,k_10961c_mk,c_b_mk,Option.any_some]
  rw[zAB (by omega)]
  unfold newF
  cases zAp (a ||| b) (setE P[i])&& !zAp a (setE P[i])&& !zAp b (setE P[i]) with
  |true =>
   simp only[zA,zK,zAD,zD (show acc.length+1<=4294967296 by omega),if_true]
   have:=z33 P a b ha hb hP hok k (i+1) (acc++[(i:Int)]) (by omega) (by simp;omega)
   unfold newF at this
   simp only[zBe,zAX,zA9,zAG,List.cons_append,List.nil_append]at this ⊢
   exact this
  |false =>
   simp only[zC,Bool.false_eq_true,if_false]
   have:=z33 P a b ha hb hP hok k (i+1) acc (by omega) (by omega)
   unfold newF at this
   exact this
def newQ(P:List Ex) (a b:Nat):List Nat:=zIR P (newF a b)
theorem z34(occ:List Int) (P:List Ex) (by_:Int) (sums out:List Int) (ord:Int) (a b:Nat) (ha:a<16) (hb:b<16) (hP:P.length<=1000000) (hok:∀ e∈P,e.ok) :
 wc W zEp [zCI occ (P.map Ex.pv) by_ sums out ord,.int .i64 (a:Int),.int .i64 (b:Int)]=some (zBx ((newQ P a b).map λ n:Nat=>(n:Int))):=by
 have h:=zVK (occ.map intp) (P.map Ex.pv) by_ (sums.map intp) (out.map intp) ord (a:Int) (b:Int)
 have h2:=zMn (occ.map intp) (P.map Ex.pv) by_ (sums.map intp) (out.map intp) ord ((a ||| b:Nat):Int) (a:Int) (b:Int)
 rw[zI,zI,zI,zAL]at h h2
 have h3:=z33 P a b ha hb hP hok P.length 0 [] (by omega) (by simp)
 rw[h,z2Z _ ha _ hb,h2,zK]
 simp only[zA9,List.nil_append]at h3
 have h4:(0:Int)=((0:Nat):Int):=rfl
 rw[h4,h3]
 simp only[zB,k_10961c_mk,zCz]
 rfl
theorem has4:∀ s:Nat,s<16->∀ o:Nat,o<4->(IntKind.wrap .i64 (((BitVec.toNat (HAnd.hAnd (BitVec.ofInt 64 (Int.fdiv (s:Int) (HPow.hPow (2:Int) (Min.min (Int.toNat (o:Int)) 64)))) (BitVec.ofInt 64 (1:Int)))):Nat):Int)==(1:Int))=s.testBit o:=by decide +kernel
theorem z6b(s o:Nat) (hs:s<16) (ho:o<4):wc W zFR [.int .i64 (s:Int),.int .i64 (o:Int)]=some (.bool (s.testBit o)):=by
 rw[zPY,zL (show ¬ ((o:Nat):Int)<0 by omega)]
 simp only[zC,zB,c_i64_mk]
 rw[has4 _ hs _ ho]
def zIm(T:List Def) (occ:List Int) (s:Nat):List Int:=allL T occ (λ o=>s.testBit o) 0 (min occ.length 4)
theorem zN6(T:List Def) (occ:List Int) (P:List Ex) (by_:Int) (sums out:List Int) (ord:Int) (s:Nat) (hsl:s<16) (hT:T.length<=9223372036854775807) (hocc:occ.length<=9223372036854775807) (hP:P.length<=9223372036854775807) (hok:∀ e∈P,e.ok)
 (hs:sums.length<=9223372036854775807) (ho:out.length<=9223372036854775807) (hm:mayQ T occ P by_ sums out ord=true):wc W zGA [catp T,zCI occ (P.map Ex.pv) by_ sums out ord,.int .i64 (s:Int)]=some (zBx (zIm T occ s)):=by
 have h:=zTW (T.map Def.pv) (occ.map intp) (P.map Ex.pv) by_ (sums.map intp) (out.map intp) ord (s:Int)
 rw[zAY,zI,zI,zI,zAL]at h
 have hmT:mayC T=true:=by
  unfold mayQ at hm
  simp only[zF]at hm
  exact hm.1.1.1.1.1.1
 have hall:=z5q T hmT occ (P.map Ex.pv) by_ sums out ord zFR [.int .i64 (s:Int)] [] (λ o=>s.testBit o) (λ o h=>z6b s o hsl (by omega))
 rw[h,zLW T occ P by_ sums out ord hT hocc hP hok hs ho,hm]
 simp only[zB,c_b_mk,zAH,zC,hall,zCz]
 rfl
def exQ(P:List Ex) (idx:List Nat):List Ex:=idx.filterMap λ i=>P[i]?
theorem zW6(occ:List PV) (P:List Ex) (by_:Int) (sums out:List PV) (ord:Int) (idx:List Nat) (hi:∀ i∈idx,i<P.length) (hl:idx.length<=1000000):∀(k j:Nat) (acc:List Ex),j+k=idx.length->acc.length<=j ->
 zHg occ (P.map Ex.pv) by_ sums out ord ((idx.map λ n:Nat=>(n:Int)).map intp) (idx.length:Int) (j:Int) (acc.map Ex.pv)=some (exsp (acc++exQ P (idx.drop j)))
 | 0,j,acc,h,ha=>by
  rw[zJf,show j=idx.length by omega]
  simp[exQ,exsp]
 |k+1,j,acc,h,ha=>by
  have hj:j<idx.length:=by omega
  have hp:=hi _ (zAC hj)
  rw[zJf,zAv hj]
  simp only[zAQ hj,zAc,zA,zY,zN,zH hj,zV,zB,zJD,zH hp,Ex.c_mk,Ex.fold,zK,zAD,zD (show acc.length+1<=4294967296 by omega)]
  rw[zAB (by omega)]
  have:=zW6 occ P by_ sums out ord idx hi hl k (j+1) (acc++[P[idx[j]]]) (by omega) (by simp;omega)
  simp only[zBe,zAX,zA9]at this
  refine this.trans ?_
  have e:exQ P (idx[j]::idx.drop (j+1))=P[idx[j]]::exQ P (idx.drop (j+1)):=by
   unfold exQ
   rw[List.filterMap_cons,zH hp]
  rw[e,zAG];rfl
theorem zTk(occ:List Int) (P:List Ex) (by_:Int) (sums out:List Int) (ord:Int) (idx:List Nat) (hi:∀ i∈idx,i<P.length) (hl:idx.length<=1000000) :
 wc W zKV [zCI occ (P.map Ex.pv) by_ sums out ord,zBx (idx.map λ n:Nat=>(n:Int))]=some (exsp (exQ P idx)):=by
 have h:=zXu (occ.map intp) (P.map Ex.pv) by_ (sums.map intp) (out.map intp) ord ((idx.map λ n:Nat=>(n:Int)).map intp)
 rw[zI,zI,zI,zAL,zI]at h
 rw[h,zK,zK]
 have:=zW6 (occ.map intp) P by_ (sums.map intp) (out.map intp) ord idx hi hl idx.length 0 [] (by omega) (by simp)
 simpa using this
theorem zME{P:List Ex} {f:Nat->Bool} {i:Nat} (h:i∈zIR P f):i<P.length:=by
 unfold zIR at h
 have:=List.mem_range'_1.1 (zBS.1 h).1
 omega
end Go.Cf

namespace Go.Cf
open Go Go.Ab
inductive Tree where
 |mk (occ:Int) (l:List Tree)
namespace Tree
def occ:Tree->Int | mk o _=>o
def l:Tree->List Tree | mk _ l=>l
@[simp] theorem occ_mk(o:Int) (l:List Tree):(mk o l).occ=o:=rfl
@[simp] theorem l_mk(o:Int) (l:List Tree):(mk o l).l=l:=rfl
@[simp] theorem eta(t:Tree):mk t.occ t.l=t:=by cases t;rfl
theorem ind{P:Tree->Prop} (h:∀ o l,(∀ t∈l,P t)->P (mk o l)) (t:Tree):P t :=
 Tree.rec (motive_1:=P) (motive_2:=λ l=>∀ t∈l,P t) (λ o l ih=>h o l ih) (by simp) (λ a r ha hr=>by simpa using⟨ha,hr⟩) t
mutual
def pv:Tree->PV
 |mk o l=> .agg [.int .i64 o,.slice 3 (pvs l)]
def pvs:List Tree->List PV
 | []=>[]
 |t::r=>pv t::pvs r
end
theorem pvs_map:∀ l:List Tree,pvs l=l.map pv
 | []=>rfl
 |t::r=>by simp[pvs,pvs_map r]
theorem pv_mk(o:Int) (l:List Tree):(mk o l).pv= .agg [.int .i64 o,.slice 3 (l.map pv)]:=by rw[pv,pvs_map]
theorem pv_eq(t:Tree):t.pv= .agg [.int .i64 t.occ,.slice 3 (t.l.map pv)]:=by cases t;exact pv_mk _ _
@[simp] theorem fold(t:Tree):PV.agg [.int .i64 t.occ,.slice 3 (t.l.map pv)]=t.pv:=(pv_eq t).symm
@[simp] theorem c_mk(t:Tree) {R:Type} (K:Int->List PV->Option R):zB3 t.pv K=K t.occ (t.l.map pv):=by rw[pv_eq];rfl
def beq:Tree->Tree->Bool
 |mk o l,mk p m=>decide (o=p)&&beqs l m
where beqs:List Tree->List Tree->Bool
 | [],[]=>true
 |a::r,b::s=>beq a b&&beqs r s
 |_,_=>false
theorem z35:∀ a b:Tree,beq a b=true↔a=b:=by
 intro a
 induction a using ind with
 |h o l ih =>
  intro b
  obtain⟨p,m⟩:=b
  have:∀(l m:List Tree),(∀ t∈l,∀ b,beq t b=true↔t=b)->(beq.beqs l m=true↔l=m):=by
   intro l
   induction l with
   |nil=>intro m _;cases m<;>simp[beq.beqs]
   |cons a r ih2 =>
    intro m h
    cases m with
    |nil=>simp[beq.beqs]
    |cons b s=>simp[beq.beqs,h a (by simp),ih2 s (λ t ht=>h t (by simp[ht]))]
  simp[beq,this l m ih]
instance:DecidableEq Tree:=λ a b=>decidable_of_iff _ (z35 a b)
end Tree
namespace Tree
inductive Ok:Tree->Prop
 |mk (o:Int) (l:List Tree) (ho:I64 o) (hl:l.length<=maxLen) (h:∀ t∈l,t.Ok):Ok (.mk o l)
theorem Ok.occ{t:Tree} (h:t.Ok):I64 t.occ:=by cases h;assumption
theorem Ok.len{t:Tree} (h:t.Ok):t.l.length<=9223372036854775807:=by cases h;assumption
theorem Ok.part{t:Tree} (h:t.Ok):∀ x∈t.l,x.Ok:=by cases h;assumption
end Tree
def setO:Nat->Tree->Option Nat
 | 0,_=>none
 |_+1,.mk o []=>bif decide (0<=o)&&decide (o<4)then some (2 ^ o.toNat)else none
 |d+1,.mk o [a,b]=>bif decide (o=0)then(setO d a).bind λ x=>(setO d b).bind λ y=>bif decide (x &&& y=0)then some (x ||| y)else none else none
 |_+1,.mk _ [_]=>none
 |_+1,.mk _ (_::_::_::_)=>none
theorem pow4:∀ o:Nat,o<4->2 ^ o<16:=by decide
theorem or16:∀ x:Nat,x<16->∀ y:Nat,y<16->x ||| y<16:=by decide +kernel
theorem bif_some{α:Type} {c:Bool} {a:Option α} {r:α} (h:(bif c then a else none)=some r):c=true/\a=some r:=by
 cases c with
 |true=>exact⟨rfl,h⟩
 |false=>cases h
theorem zDf{d:Nat} {o:Int} {l:List Tree} {m:Nat} (h:setO (d+1) (.mk o l)=some m) :
 (l=[]/\0<=o/\o<4/\m=2 ^ o.toNat)∨(∃ a b x y,l=[a,b]/\o=0/\setO d a=some x/\setO d b=some y/\x &&& y=0/\m=x ||| y):=by
 rcases l with _ | ⟨a,_ | ⟨b,_ | ⟨c,l⟩⟩⟩<;>simp only[setO]at h
 ·obtain⟨h1,h2⟩:=bif_some h
  simp only[zF,zU,zE]at h1 h2
  exact .inl ⟨rfl,h1.1,h1.2,h2.symm⟩
 ·cases h
 ·obtain⟨h1,h2⟩:=bif_some h
  simp only[zJ,zU]at h1 h2
  obtain⟨x,hx,y,hy,h3⟩:=h2
  obtain⟨h4,h5⟩:=bif_some h3
  simp only[zU,zE]at h4 h5
  exact .inr ⟨a,b,x,y,rfl,h1,hx,hy,h4,h5.symm⟩
 ·cases h
theorem zBI:∀(d:Nat) (t:Tree) (m:Nat),setO d t=some m->m<16
 | 0,t,m,h=>by simp[setO]at h
 |d+1,⟨o,l⟩,m,h=>by
  rcases zDf h with⟨rfl,h0,h4,rfl⟩ | ⟨a,b,x,y,rfl,rfl,hx,hy,hxy,rfl⟩
  ·exact pow4 _ (by omega)
  ·exact or16 _ (zBI d a x hx) _ (zBI d b y hy)
theorem z5u:∀ x:Nat,x<16->∀ y:Nat,y<16->IntKind.wrap .i64 (((BitVec.toNat (HOr.hOr (BitVec.ofInt 64 (x:Int)) (BitVec.ofInt 64 (y:Int)))):Nat):Int)=((x ||| y:Nat):Int) /\
 ((IntKind.wrap .i64 (((BitVec.toNat (HAnd.hAnd (BitVec.ofInt 64 (x:Int)) (BitVec.ofInt 64 (y:Int)))):Nat):Int))==(0:Int))=decide (x &&& y=0):=by decide +kernel
theorem z5v:∀ o:Nat,o<4->IntKind.wrap .i64 ((1:Int)*(HPow.hPow (2:Int) (Min.min (Int.toNat (bif (decide ((Int.tmod (o:Int) (4:Int))<(0:Int)))then(0:Int)else(Int.tmod (o:Int) (4:Int)))) 64)):Int)=((2 ^ o:Nat):Int):=by decide +kernel
theorem z1k:∀(d:Nat) (t:Tree),d<1000->∃ n:Int,wc W zEy [t.pv,.int .i64 (d:Int)]=some (.tup [.int .i64 n,.bool (setO d t).isSome])/\∀ m:Nat,setO d t=some m->n=m
 | 0,t,_=>by
  refine⟨0,?_,λ m h=>by simp[setO]at h⟩
  rw[Tree.pv_eq,zQk]
  simp[zDQ,setO]
 |d+1,⟨o,l⟩,hd=>by
  have hne:((((d+1:Nat):Int))==0)=false:=zDP (by omega)
  have hw:IntKind.wrap .i64 ((((d+1:Nat):Int))-1)=(d:Int):=by rw[zAU (by omega) (by omega)];omega
  rw[Tree.pv_mk,zQk,hne]
  rcases l with _ | ⟨a,_ | ⟨b,_ | ⟨c,l⟩⟩⟩
  ·have hc:decide ((bif (decide ((Int.tmod o (4:Int))<(0:Int)))then(0:Int)else(Int.tmod o (4:Int)))<(0:Int))=false:=by
    by_cases h:Int.tmod o 4<0
    ·simp[h]
    ·simp[h]
   simp only[zC,zA9,List.length_nil,zDQ,zPZ,show((((0:Nat)):Int) != (0:Int))=false from rfl,show((((0:Nat)):Int)==(2:Int))=false from rfl,show((((0:Nat)):Int)==(0:Int))=true from rfl,zA,hc,zB,c_i64_mk,setO]
   by_cases h0:0<=o
   ·by_cases h4:o<4
    ·obtain⟨n,rfl⟩:=Int.eq_ofNat_of_zero_le h0
     refine⟨_,by rw[zD h0,zD h4];rfl,λ m h=> ?_⟩
     rw[zD h0,zD h4]at h
     simp only[Bool.and_self,zA,zE,zY]at h;subst h
     exact z5v n (by omega)
    ·exact⟨_,by rw[zD h0,zL h4];rfl,λ m h=>by rw[zL h4,Bool.and_false]at h;cases h⟩
   ·exact⟨_,by rw[zL h0];rfl,λ m h=>by rw[zL h0]at h;cases h⟩
  ·exact⟨0,by simp[zDQ,setO],λ m h=>by simp[setO]at h⟩
  ·obtain⟨x,hx,ex⟩:=z1k d a (by omega)
   obtain⟨y,hy,ey⟩:=z1k d b (by omega)
   by_cases ho:o=0
   ·subst ho
    simp only[zC,zAX,zA9,List.length_cons,List.length_nil,zDQ,show((((0+1+1:Nat)):Int) != (0:Int))=true from rfl,show((((0+1+1:Nat)):Int) != (2:Int))=false from rfl,
     show((((0+1+1:Nat)):Int)==(2:Int))=true from rfl,show((((0+1+1:Nat)):Int)==(0:Int))=false from rfl,zA,bne_self_eq_false,zAS,zAq,zB,Tree.c_mk,Tree.fold,hw,hx,hy,asTup_mk,c_i64_mk,c_b_mk]
    cases ha:setO d a with
    |none=>exact⟨_,by simp[setO,ha];rfl,λ m h=>by simp[setO,ha]at h⟩
    |some p =>
     cases hb:setO d b with
     |none=>exact⟨_,by simp[setO,ha,hb];rfl,λ m h=>by simp[setO,ha,hb]at h⟩
     |some q =>
      have:=ex p ha;subst this
      have:=ey q hb;subst this
      obtain⟨h1,h2⟩:=z5u p (zBI d a p ha) q (zBI d b q hb)
      refine⟨((p ||| q:Nat):Int),?_,λ m h=> ?_⟩
      ·simp only[Option.isSome_some,zA,h1,h2,setO,ha,hb,zB,decide_true]
       cases decide (p &&& q=0)<;>rfl
      ·simp only[setO,ha,hb,zB,decide_true,zA]at h
       obtain⟨_,h3⟩:=bif_some h
       simp only[zE]at h3;subst h3;rfl
   ·exact⟨0,by simp[zDQ,setO,ho,zLI ho],λ m h=>by simp[setO,ho]at h⟩
  ·refine⟨0,?_,λ m h=>by simp[setO]at h⟩
   have h1:((((a.pv::b.pv::c.pv::l.map Tree.pv).length:Nat):Int) != 0)=true:=zLI (by simp;omega)
   have h2:((((a.pv::b.pv::c.pv::l.map Tree.pv).length:Nat):Int) != 2)=true:=zLI (by simp;omega)
   simp only[zAX,h1,h2,zA,zC,zDQ]
   rfl
theorem z5w(t:Tree):wc W zKU [t.pv]=some (.bool (setO 4 t).isSome):=by
 have h:=zXt t.occ (t.l.map Tree.pv)
 obtain⟨n,h1,_⟩:=z1k 4 t (by omega)
 simp only[Tree.fold]at h
 rw[h]
 have h1' :wc W zEy [t.pv,.int .i64 (4:Int)]=some (.tup [.int .i64 n,.bool (setO 4 t).isSome]):=h1
 simp[h1']
theorem zTl(t:Tree):wc W zDK [t.pv]=some (.int .i64 (((setO 4 t).getD 0:Nat):Int)):=by
 have h:=zXn t.occ (t.l.map Tree.pv)
 obtain⟨n,h1,h2⟩:=z1k 4 t (by omega)
 simp only[Tree.fold]at h
 rw[h]
 have h1' :wc W zEy [t.pv,.int .i64 (4:Int)]=some (.tup [.int .i64 n,.bool (setO 4 t).isSome]):=h1
 simp only[h1',zB,asTup_mk,zAS,zAq,c_i64_mk,c_b_mk]
 cases hs:setO 4 t with
 |none=>rfl
 |some m=>simp[h2 m hs]
end Go.Cf

namespace Go.Cf
open Go Go.Ab
theorem z36(cols:List Int) (rows:List (List Val)) (hc:cols.length<=4294967296) (hl:rows.length<=4294967295) (hr:∀ r∈rows,r.length<=4294967296) (hv:∀ r∈rows,ROk r):wc W zDL [bagp cols rows,.slice 6 []]=some (bagp cols rows):=by
 have h:=zW1 cols rows [] hc hl hr hv (by simp) (by simp)
 have e:rows.filter (zTh [] cols)=rows:=List.filter_eq_self.2 λ _ _=>rfl
 rw[e]at h
 exact h
theorem z0D(T:List Def) (D:List (List (List Val))) (t o:Int) (hT:T.length<=9223372036854775807) (hD:DOk D) (hv:∀ t∈D,∀ r∈t,ROk r):wc W zJ3 [catp T,zGV D,.int .i64 t,.int .i64 o]=some (ofP (ofT T D t o)):=by
 have h:=zZ4 (T.map Def.pv) (D.map tabp) t o
 rw[zAY,zBM]at h
 rw[h,zZz T D hT hD]
 simp only[zB,c_b_mk,zK]
 unfold ofT
 have z:PV.tup [PV.agg [PV.slice 0 [],PV.slice 0 []],PV.bool false]=ofP none:=rfl
 cases hf:fits T D with
 |false=>rfl
 |true =>
  obtain⟨f1,f2,f3⟩:=zK2 hf
  have hlen:1<=T.length/\T.length<=4:=by
   unfold mayC at f2
   simp only[zF,zU]at f2
   omega
  rw[zAU (by omega) (by omega),w_in]
  simp only[zAH,zC,zB,c_b_mk,zAD]
  by_cases ht:0<=t/\t<=(T.length:Int)-1
  ·rw[zD ht.1,zD ht.2]
   simp only[Bool.and_self,zAH,zC,z3X,zB,c_i64_mk,zAD]
   by_cases ho:0<=o/\o<=3
   ·rw[zD ho.1,zD ho.2]
    have hc:colI o 0=4*o:=by
     unfold colI
     rw[zD ho.1,zD ho.2]
     simp
    rw[hc,zDP (show 4*o≠ -1 by omega)]
    obtain⟨m,rfl⟩:=Int.eq_ofNat_of_zero_le ht.1
    have hm:m<T.length:=by omega
    have hmD:m<D.length:=by omega
    obtain⟨hc1,hc4⟩:=zJr f2 hm
    obtain⟨r8,rr⟩:=zW3 (f3 m hmD) hc4
    obtain⟨n,hn⟩:=Int.eq_ofNat_of_zero_le (show 0<=zFb T m by omega)
    have hcA:T[m].Cols=(n:Int):=by
     have:=hn;unfold zFb at this;rw[zH hm]at this;exact this
    simp only[zC,zQF,zAc,zA,zY,zN,zH hm,zV,zB,Def.load0,c_i64_mk,hcA,Bool.and_self]
    have hloop:=z0A o ho (m:Int) (D.map tabp) n (by omega) n 0 [] (by omega) (by simp)
    refine hloop.trans ?_
    rw[zKm]
    simp only[zFU,zC,zAc,zA,zY,zN,zH hmD,zV,zB,zN4,List.nil_append,zI,zAa,zAo]
    rw[z36 (zDt o 0 n) D[m] (by simp[zDt];omega) (by omega) (λ r hr=>by have:=(rr r hr).2.1;omega) (λ r hr=>hv _ (zAC hmD) r hr)]
    simp only[hn,zY,zA0,zH hmD,Option.getD_some]
    rfl
   ·have hb:(decide (0<=o)&&decide (o<=3))=false:=by rw[<- Bool.decide_and];exact zL ho
    have hc:colI o 0= -1:=by unfold colI;rw[hb];rfl
    rw[hc,hb];rfl
  ·have hb:(decide (0<=t)&&decide (t<=(T.length:Int)-1))=false:=by rw[<- Bool.decide_and];exact zL ht
   rw[hb];rfl
structure QT where
 (T:List Def) (D:List (List (List Val))) (occ:List Int) (P:List Ex)
def QT.leaf(q:QT) (o:Nat):List (List Val):=q.D.getD (q.occ.getD o 0).toNat []
def zC0(q:QT):Nat->Tree->List Int×List (List Val)
 | 0,_=>([],[])
 |_+1,.mk o []=>(zEv q.T q.occ o.toNat,(q.leaf o.toNat).filter (zTh (exQ q.P (zIR q.P (zAp (2 ^ o.toNat)))) (zEv q.T q.occ o.toNat)))
 |d+1,.mk _ [x,y]=>((zC0 q d x).1++(zC0 q d y).1,(zC7 (zC0 q d x).2 (zC0 q d y).2).filter (zTh (exQ q.P (newQ q.P ((setO d x).getD 0) ((setO d y).getD 0))) ((zC0 q d x).1++(zC0 q d y).1)))
 |_+1,.mk _ [_]=>([],[])
 |_+1,.mk _ (_::_::_::_)=>([],[])
theorem zJs:∀(d:Nat) (t:Tree) (m:Nat),setO d t=some m->setO (d+1) t=some m
 | 0,t,m,h=>by simp[setO]at h
 |d+1,.mk o l,m,h=>by
  rcases zDf h with⟨rfl,h1,h2,rfl⟩ | ⟨a,b,x,y,rfl,rfl,hx,hy,h4,rfl⟩
  ·simp[setO,h1,h2]
  ·simp only[setO,zJs d a x hx,zJs d b y hy,zB,zD h4,decide_true,zA]
theorem zJt{d:Nat} {t:Tree} {m:Nat} (h:setO d t=some m):∀ k,setO (d+k) t=some m
 | 0=>h
 |k+1=>zJs _ _ _ (zJt h k)
def cntS(m:Nat):Nat:=((List.range 4).filter λ i=>m.testBit i).length
theorem zRs:∀ x:Nat,x<16->∀ y:Nat,y<16->x &&& y=0->cntS (x ||| y)=cntS x+cntS y:=by decide +kernel
theorem zV7:∀ x:Nat,x<16->cntS x<=4:=by decide +kernel
theorem zRt:∀ o:Nat,o<4->cntS (2 ^ o)=1:=by decide +kernel
theorem zTm:∀ x:Nat,x<16->∀ y:Nat,y<16->∀ i:Nat,i<4->(x ||| y).testBit i=(x.testBit i || y.testBit i):=by decide +kernel
theorem zRu:∀ x:Nat,x<16->∀ y:Nat,y<16->x &&& y=0->∀ i:Nat,i<4->¬ (x.testBit i=true/\y.testBit i=true):=by decide +kernel
theorem z0E:∀ o:Nat,o<4->(2 ^ o).testBit o=true:=by decide
structure RT (q:QT) (m:Nat) (b:List Int×List (List Val)):Prop where
 cols:∀ c∈b.1,0<=c/\c<=15/\m.testBit (c / 4).toNat=true
 nodup:b.1.Nodup
 rows:∀ r∈b.2,r.length=b.1.length/\r.all mayV=true/\ROk r
 len:b.2.length<=8 ^ cntS m
theorem RT.may{q:QT} {m:Nat} {b:List Int×List (List Val)} (h:RT q m b) (hm:m<16):mayB b.1 b.2=true:=by
 have h8:8 ^ cntS m<=8 ^ 4:=Nat.pow_le_pow_right (by omega) (zV7 m hm)
 unfold mayB
 simp only[zF,zU,zAF]
 refine⟨⟨(zP3 _).2 ⟨λ c hc=>⟨(h.cols c hc).1,(h.cols c hc).2.1⟩,h.nodup⟩,λ r hr=> ?_⟩,by have:=h.len;omega⟩
 unfold rowB
 simp only[zF,zU]
 exact⟨(h.rows r hr).1,(h.rows r hr).2.1⟩
theorem RT.join{q:QT} {x y:Nat} {a b:List Int×List (List Val)} (ha:RT q x a) (hb:RT q y b) (hx:x<16) (hy:y<16) (hxy:x &&& y=0) (f:List Val->Bool):RT q (x ||| y) (a.1++b.1,(zC7 a.2 b.2).filter f) where
 cols:=λ c hc=>by
  rcases List.mem_append.1 hc with hc | hc
  ·obtain⟨h1,h2,h3⟩:=ha.cols c hc
   exact⟨h1,h2,by rw[zTm _ hx _ hy _ (by omega),h3];rfl⟩
  ·obtain⟨h1,h2,h3⟩:=hb.cols c hc
   exact⟨h1,h2,by rw[zTm _ hx _ hy _ (by omega),h3,Bool.or_true]⟩
 nodup:=List.nodup_append.2 ⟨ha.nodup,hb.nodup,λ c hc d hd e=>by
  subst e
  obtain⟨h1,h2,h3⟩:=ha.cols c hc
  exact zRu _ hx _ hy hxy _ (by omega) ⟨h3,(hb.cols c hd).2.2⟩⟩
 rows:=λ r hr=>by
  have hr2:=(zBS.1 hr).1
  unfold zC7 at hr2
  obtain⟨u,hu,hr3⟩:=List.mem_flatMap.1 hr2
  obtain⟨v,hv,rfl⟩:=zAh.1 hr3
  obtain⟨a1,a2,a3⟩:=ha.rows u hu
  obtain⟨b1,b2,b3⟩:=hb.rows v hv
  refine⟨by simp[a1,b1],by rw[List.all_append,a2,b2];rfl,λ z hz=> ?_⟩
  rcases List.mem_append.1 hz with h | h
  ·exact a3 z h
  ·exact b3 z h
 len:=by
  have h1:=zEP f (zC7 a.2 b.2)
  rw[zHP]at h1
  rw[zRs _ hx _ hy hxy,Nat.pow_add]
  exact Nat.le_trans h1 (Nat.mul_le_mul ha.len hb.len)
theorem RT.leaf{q:QT} (hf:fits q.T q.D=true) (hv:∀ t∈q.D,∀ r∈t,ROk r) {o:Nat} (ho:o<4) (ht:0<=q.occ.getD o 0/\q.occ.getD o 0<(q.T.length:Int)) (f:List Val->Bool):RT q (2 ^ o) (zEv q.T q.occ o,(q.leaf o).filter f):=by
 obtain⟨f1,f2,f3⟩:=zK2 hf
 obtain⟨m,hm⟩:=Int.eq_ofNat_of_zero_le ht.1
 have hmT:m<q.T.length:=by omega
 have hmD:m<q.D.length:=by omega
 obtain⟨hc1,hc4⟩:=zJr f2 hmT
 obtain⟨r8,rr⟩:=zW3 (f3 m hmD) hc4
 obtain⟨n,hn⟩:=Int.eq_ofNat_of_zero_le (show 0<=zFb q.T m by omega)
 have el:q.leaf o=q.D[m]:=by unfold QT.leaf;rw[hm,zY,zA0,zH hmD];rfl
 have ec:zEv q.T q.occ o=zDt (o:Int) 0 n:=by unfold zEv;rw[hm,zY,hn,zY]
 rw[el,ec]
 refine⟨λ c hc=> ?_,?_,λ r hr=> ?_,?_⟩
 ·unfold zDt at hc
  obtain⟨i,hi,rfl⟩:=zAh.1 hc
  have:=List.mem_range'_1.1 hi
  refine⟨by omega,by omega,?_⟩
  rw[show((4*(o:Int)+(i:Int)) / 4).toNat=o by omega]
  exact z0E o ho
 ·unfold zDt
  exact List.pairwise_map.2 ((List.nodup_range' (s:=0) (n:=n)).imp λ{a b} h e=>h (by omega))
 ·have hr2:=(zBS.1 hr).1
  obtain⟨h1,h2,h3⟩:=rr r hr2
  exact⟨by rw[zNA];omega,h3,hv _ (zAC hmD) r hr2⟩
 ·have h1:=zEP f q.D[m]
  show(q.D[m].filter f).length<=_
  rw[zRt o ho,Nat.pow_one]
  omega
theorem zIn{q:QT} (hf:fits q.T q.D=true) (hv:∀ t∈q.D,∀ r∈t,ROk r) (hocc:q.occ.length<=4) (hin:∀ t∈q.occ,0<=t/\t<(q.T.length:Int)):∀(d:Nat) (t:Tree) (m:Nat),setO d t=some m->m<2 ^ q.occ.length->RT q m (zC0 q d t)
 | 0,t,m,h,_=>by simp[setO]at h
 |d+1,.mk o l,m,h,hm=>by
  rcases zDf h with⟨rfl,h1,h2,rfl⟩ | ⟨a,b,x,y,rfl,rfl,hx,hy,h4,rfl⟩
  ·obtain⟨n,rfl⟩:=Int.eq_ofNat_of_zero_le h1
   simp only[zC0,zY]at hm ⊢
   have hno:n<q.occ.length:=(Nat.pow_lt_pow_iff_right (by omega)).1 hm
   have hg:q.occ.getD n 0=q.occ[n]:=by rw[zA0,zH hno];rfl
   exact RT.leaf hf hv (by omega) (by rw[hg];exact hin _ (zAC hno)) _
  ·have hle1:x<=x ||| y:=Nat.left_le_or
   have hle2:y<=x ||| y:=Nat.right_le_or
   exact RT.join (zIn hf hv hocc hin d a x hx (by omega)) (zIn hf hv hocc hin d b y hy (by omega)) (zBI _ _ _ hx) (zBI _ _ _ hy) h4 _
def zQJ(q:QT) (Q:PV):Ob:= .var false 0 (.fnv zAI [] [.pv (.imm 2 (catp q.T) 0),.pv (.imm 2 (zGV q.D) 0),.pv (.imm 7 Q 0),.own 0 0])
theorem zK3(q:QT) (Q:PV):Ob.var false 0 (.fnv zAI [] [.pv (.imm 2 (catp q.T) 0),.pv (.imm 2 (zGV q.D) 0),.pv (.imm 7 Q 0),.own 0 0])=zQJ q Q:=rfl
theorem zV8(q:QT) (by_:Int) (sums out:List Int) (ord:Int) (z:PV) {R:Type} (K:PV->List PV->List PV->List PV->List PV->Int->List PV->List PV->Int->Option R) :
 zK0 (.pv z,[zQJ q (zCI q.occ (q.P.map Ex.pv) by_ sums out ord)]) K=K z (q.T.map Def.pv) (q.D.map tabp) (q.occ.map intp) (q.P.map Ex.pv) by_ (sums.map intp) (out.map intp) ord:=rfl
theorem z21(c:List Int) (r:List (List Val)):wc W zH7 [bagp c r,.bool true]=some (bagp c r):=by
 have h:=zTX (c.map intp) (r.map rowp) true
 rw[zI,zAa,zAo]at h
 exact h
structure QOk (q:QT):Prop where
 fits:fits q.T q.D=true
 vals:∀ t∈q.D,∀ r∈t,ROk r
 occ:q.occ.length<=4
 inT:∀ t∈q.occ,0<=t/\t<(q.T.length:Int)
 T:q.T.length<=9223372036854775807
 D:DOk q.D
 P:q.P.length<=1000000
 ok:∀ e∈q.P,e.ok/\e.vals
theorem zV9{P:List Ex} {idx:List Nat} {e:Ex} (h:e∈exQ P idx):e∈P:=by
 unfold exQ at h
 obtain⟨i,_,hi⟩:=List.mem_filterMap.1 h
 exact zAV hi
theorem zVa(P:List Ex) (idx:List Nat):(exQ P idx).length<=idx.length:=List.length_filterMap_le _ _
theorem zJu(P:List Ex) (f:Nat->Bool):(zIR P f).length<=P.length:=by
 have:=zEP (λ j=>(P[j]?).any λ e=>f (setE e)) (List.range' 0 P.length)
 rw[List.length_range']at this
 exact this
theorem z0F{q:QT} (hq:QOk q) (idx:List Nat) (hi:idx.length<=1000000) {m:Nat} {b:List Int×List (List Val)} (c:List Int) (r:List (List Val)) (hc:c.length<=16) (hr:r.length<=5000) (hl:∀ x∈r,x.length<=16/\ROk x) :
 wc W zDL [bagp c r,exsp (exQ q.P idx)]=some (bagp c (r.filter (zTh (exQ q.P idx) c))):=by
 have:=zVa q.P idx
 exact zW1 c r _ (by omega) (by omega) (λ x hx=>by have:=(hl x hx).1;omega) (λ x hx=>(hl x hx).2) (by omega) (λ e he=>hq.ok e (zV9 he))
@[simp] theorem zQr(l:List Ex) {R:Type} (f:List PV->Option R):c_s6 (exsp l) f=f (l.map Ex.pv):=rfl
theorem zVb{q:QT} (hq:QOk q) (by_:Int) (sums out:List Int) (ord:Int):∀(d:Nat) (t:Tree) (m:Nat),d<=4->setO d t=some m->m<2 ^ q.occ.length ->
 W zAI false [.pv t.pv,.pv (.imm 2 (catp q.T) 0),.pv (.imm 2 (zGV q.D) 0),.pv (.imm 7 (zCI q.occ (q.P.map Ex.pv) by_ sums out ord) 0),.own 0 0] [zQJ q (zCI q.occ (q.P.map Ex.pv) by_ sums out ord)] =
  some (.pv (bagp (zC0 q d t).1 (zC0 q d t).2),[zQJ q (zCI q.occ (q.P.map Ex.pv) by_ sums out ord)])
 | 0,t,m,_,h,_=>by simp[setO]at h
 |d+1,.mk o l,m,hd,h,hm=>by
  have hok:∀ e∈q.P,e.ok:=λ e he=>(hq.ok e he).1
  have hset:=zJt h (4-(d+1))
  rw[show d+1+(4-(d+1))=4 by omega]at hset
  have hws:=zTl (.mk o l)
  rw[hset,Option.getD_some]at hws
  have hme:=zIn hq.fits hq.vals hq.occ hq.inT (d+1) (.mk o l) m h hm
  have hmm:=zBI _ _ _ h
  have e:=zLP o (l.map Tree.pv) (q.T.map Def.pv) (q.D.map tabp) (q.occ.map intp) (q.P.map Ex.pv) by_ (sums.map intp) (out.map intp) ord (q.T.map Def.pv) (q.D.map tabp) (q.occ.map intp) (q.P.map Ex.pv) by_ (sums.map intp) (out.map intp) ord
  rw[<- Tree.pv_mk]at e
  simp only[zAY,zBM,zI,zAL,zK3]at e
  refine e.trans ?_
  rcases zDf h with⟨rfl,h1,h2,rfl⟩ | ⟨a,b,x,y,rfl,rfl,hx,hy,h4,rfl⟩
  ·obtain⟨n,rfl⟩:=Int.eq_ofNat_of_zero_le h1
   simp only[zY]at hm hws hmm hme
   have hno:n<q.occ.length:=(Nat.pow_lt_pow_iff_right (by omega)).1 hm
   have hg:q.occ.getD n 0=q.occ[n]:=by rw[zA0,zH hno];rfl
   have hin:=hq.inT _ (zAC hno)
   have hof:=z0D q.T q.D q.occ[n] (n:Int) hq.T hq.D hq.vals
   have e1:ofT q.T q.D q.occ[n] (n:Int)=some (zEv q.T q.occ n,q.leaf n):=by
    unfold ofT
    rw[hq.fits,zD hin.1,zD (show q.occ[n]<=(q.T.length:Int)-1 by omega),zD (show(0:Int)<=n by omega),zD (show(n:Int)<=3 by omega)]
    unfold zEv QT.leaf
    rw[hg];rfl
   rw[e1]at hof
   have hall:=RT.leaf (q:=q) hq.fits hq.vals (o:=n) (by omega) (by rw[hg];exact hin) (λ _=>true)
   rw[List.filter_eq_self.2 (λ _ _=>rfl)]at hall
   have hmay:=hall.may (zV5 n (by omega))
   obtain⟨m1,m2,m3⟩:=zBo hmay
   have hown:=z5s q.occ q.P by_ sums out ord (2 ^ n) (zV5 n (by omega)) hq.P hok
   have hmo:=zTk q.occ q.P by_ sums out ord (zIR q.P (zAp (2 ^ n))) (λ i hi=>zME hi) (by have:=zJu q.P (zAp (2 ^ n));have:=hq.P;omega)
   have hk:=z0F hq (zIR q.P (zAp (2 ^ n))) (by have:=zJu q.P (zAp (2 ^ n));have:=hq.P;omega) (m:=0) (b:=([],[])) (zEv q.T q.occ n) (q.leaf n) m1 m2 (λ x hx=>⟨by rw[(m3 x hx).1];exact m1,(hall.rows x hx).2.2⟩)
   have hz:(((0:Nat):Int)==(0:Int))=true:=rfl
   simp only[zA9,List.length_nil,hz,zQr,zJq,zBj,zA,zAc,zY,zN,zH hno,zV,zB,zJD,hof,ofP,asTup_mk,zAS,zAq,zFa,c_b_mk,zI,zAa,zAo,z21,hws,c_i64_mk,hown,zCz,hmo,hk,zC0]
  ·have hle1:x<=x ||| y:=Nat.left_le_or
   have hle2:y<=x ||| y:=Nat.right_le_or
   have hxl:=zBI _ _ _ hx
   have hyl:=zBI _ _ _ hy
   have ih1:=zVb hq by_ sums out ord d a x (by omega) hx (by omega)
   have ih2:=zVb hq by_ sums out ord d b y (by omega) hy (by omega)
   have ra:=zIn hq.fits hq.vals hq.occ hq.inT d a x hx (by omega)
   have rb:=zIn hq.fits hq.vals hq.occ hq.inT d b y hy (by omega)
   have hsa:=zTl a
   have hsb:=zTl b
   have sa:=zJt hx (4-d)
   have sb:=zJt hy (4-d)
   rw[show d+(4-d)=4 by omega]at sa sb
   rw[sa,Option.getD_some]at hsa
   rw[sb,Option.getD_some]at hsb
   have rj:=ra.join rb hxl hyl h4 (λ _=>true)
   rw[List.filter_eq_self.2 (λ _ _=>rfl)]at rj
   have hmj:=rj.may hmm
   obtain⟨m1,m2,m3⟩:=zBo hmj
   have hma:=ra.may hxl
   have hmb:=rb.may hyl
   obtain⟨a1,a2,a3⟩:=zBo hma
   obtain⟨b1,b2,b3⟩:=zBo hmb
   have hcr:=zZw (zC0 q d a).1 (zC0 q d a).2 (zC0 q d b).1 (zC0 q d b).2 (by omega) (by omega) (by omega) (λ z hz=>by rw[(a3 z hz).1];omega) (λ z hz=>by rw[(b3 z hz).1];omega)
   have e2:zQo (zC0 q d a).1 (zC0 q d a).2 (zC0 q d b).1 (zC0 q d b).2=some ((zC0 q d a).1++(zC0 q d b).1,zC7 (zC0 q d a).2 (zC0 q d b).2):=by
    unfold zQo
    have h5:mayB ((zC0 q d a).1++(zC0 q d b).1) []=true:=by
     unfold mayB at hmj ⊢
     simp only[zF]at hmj
     rw[hmj.1.1];rfl
    rw[hma,hmb,h5,zD (show(zC0 q d a).2.length*(zC0 q d b).2.length<=5000 by rw[<- zHP];exact m2)]
    rfl
   rw[e2]at hcr
   have hnw:=z34 q.occ q.P by_ sums out ord x y hxl hyl hq.P hok
   have hnl:(newQ q.P x y).length<=1000000:=by have:=zJu q.P (newF x y);have:=hq.P;unfold newQ;omega
   have hmo:=zTk q.occ q.P by_ sums out ord (newQ q.P x y) (λ i hi=>zME hi) hnl
   have hk:=z0F hq (newQ q.P x y) hnl (m:=0) (b:=([],[])) ((zC0 q d a).1++(zC0 q d b).1) (zC7 (zC0 q d a).2 (zC0 q d b).2) m1 m2 (λ z hz=>⟨by rw[(m3 z hz).1];exact m1,(rj.rows z hz).2.2⟩)
   have hz:(((0+1+1:Nat):Int)==(0:Int))=false:=rfl
   simp only[zA9,zAX,List.length_cons,List.length_nil,hz,zC,zAS,zAq,zB,Tree.c_mk,Tree.fold,ih1,zV8,zAY,zBM,zI,zAL,zK3,zSZ,zA,zFa,ih2,zAa,zAo,hcr,bagR,asTup_mk,c_b_mk,z21,hsa,hsb,c_i64_mk,hnw,zCz,hmo,zQr,zJq,hk,zC0,hx,hy,Option.getD_some]
   have ee:eqOw [zQJ q (.agg [zBx q.occ,exsp q.P,.int .i64 by_,zBx sums,zBx out,.int .i64 ord]),.var false 3 (.agg [.nil 0,.nil 0])] [zQJ q (zCI q.occ (q.P.map Ex.pv) by_ sums out ord),.var false 3 (.agg [.nil 0,.nil 0])]=true:=zSZ _
   simp only[ee,zA]
end Go.Cf

namespace Go.Cf
open Go Go.Ab
theorem z38{q:QT} (hq:QOk q) (by_:Int) (sums out:List Int) (ord:Int) (t:Tree) (m:Nat) (h:setO 4 t=some m) (hm:m<2 ^ q.occ.length) :
 W zJ2 false [.fnv zCx [] [.own 0 0,.pv (.imm 3 t.pv 0)]] [zQJ q (zCI q.occ (q.P.map Ex.pv) by_ sums out ord)] =
  some (.pv (.tup [bagp (zC0 q 4 t).1 (zC0 q 4 t).2,.bool true]),[zQJ q (zCI q.occ (q.P.map Ex.pv) by_ sums out ord)]):=by
 have e:=zLQ t.occ (t.l.map Tree.pv) (q.T.map Def.pv) (q.D.map tabp) (q.occ.map intp) (q.P.map Ex.pv) by_ (sums.map intp) (out.map intp) ord
 have h1:=zVb hq by_ sums out ord 4 t m (by omega) h hm
 simp only[Tree.fold,zAY,zBM,zI,zAL,zK3]at e
 rw[h1]at e
 simp only[zB,zV8,zFa,zAY,zBM,zI,zAa,zAo]at e
 have e2:W zCx false [.own 0 0,.pv (.imm 3 t.pv 0)] [zQJ q (zCI q.occ (q.P.map Ex.pv) by_ sums out ord)]=some (.pv (bagp (zC0 q 4 t).1 (zC0 q 4 t).2),[zQJ q (zCI q.occ (q.P.map Ex.pv) by_ sums out ord)]):=e
 rw[zTQ]
 unfold zZW
 have hg:[zLi,zCx].contains zCx=true:=by decide
 have hsh:(bagp (zC0 q 4 t).1 (zC0 q 4 t).2).okSh 3=true:=rfl
 simp only[hg,zA,List.nil_append,e2,zB,hsh]
def z1l(q:QT) (may:Bool) (t:Tree):Option (List Int×List (List Val)) :=
 match setO 4 t with
 |none=>none
 |some m=>bif may&&fits q.T q.D&&decide (m<2 ^ q.occ.length)then some (zC0 q 4 t)else none
theorem z5x:∀ m:Nat,m<16->∀ n:Nat,n<5->decide (Int.fdiv (m:Int) (HPow.hPow (2:Int) (Min.min (Int.toNat (n:Int)) 64))>0)= !decide (m<2 ^ n):=by decide +kernel
theorem z5y(q:QT) (by_:Int) (sums out:List Int) (ord:Int) (t:Tree) (hT:q.T.length<=9223372036854775807) (hocc:q.occ.length<=9223372036854775807) (hP:q.P.length<=1000000) (hok:∀ e∈q.P,e.ok/\e.vals) (hs:sums.length<=9223372036854775807) (ho:out.length<=9223372036854775807)
 (hD:DOk q.D) (hv:∀ t∈q.D,∀ r∈t,ROk r) :
 wc W zJ0 [catp q.T,zGV q.D,zCI q.occ (q.P.map Ex.pv) by_ sums out ord,t.pv]=some (bagR (z1l q (mayQ q.T q.occ q.P by_ sums out ord) t)):=by
 have h:=zTU (q.T.map Def.pv) (q.D.map tabp) (q.occ.map intp) (q.P.map Ex.pv) by_ (sums.map intp) (out.map intp) ord t.occ (t.l.map Tree.pv)
 simp only[Tree.fold,zAY,zBM,zI,zAL]at h
 refine h.trans ?_
 have e0:PV.tup [PV.agg [PV.slice 0 [],PV.slice 0 []],PV.bool false]=bagR none:=rfl
 rw[zLW q.T q.occ q.P by_ sums out ord hT hocc (by omega) (λ e he=>(hok e he).1) hs ho,zZz q.T q.D hT hD,z5w t,zTl t]
 simp only[zB,c_b_mk,c_i64_mk,zK]
 unfold z1l
 cases h1:mayQ q.T q.occ q.P by_ sums out ord with
 |false=>cases setO 4 t<;>rfl
 |true =>
 cases h2:fits q.T q.D with
 |false=>cases setO 4 t<;>rfl
 |true =>
 cases h3:setO 4 t with
 |none=>rfl
 |some m =>
  have hm16:=zBI _ _ _ h3
  have hparts:=h1
  unfold mayQ at hparts
  simp only[zF,zU,zAF]at hparts
  have hocc4:q.occ.length<=4:=hparts.1.1.1.1.2
  have hin:∀ t∈q.occ,0<=t/\t<(q.T.length:Int):=hparts.1.1.1.2
  simp only[zAH,zC,Option.isSome_some,Option.getD_some,z5x m hm16 q.occ.length (by omega),zAD]
  cases h4:decide (m<2 ^ q.occ.length) with
  |false=>rfl
  |true =>
   simp only[zAH,zC,zA,zMk]
   have hq:QOk q:=⟨h2,hv,hocc4,hin,hT,hD,hP,hok⟩
   have h5:=z38 hq by_ sums out ord t m h3 (zAM h4)
   simp only[Tree.fold,zAY,zBM,zI,zAL,zK3,h5,zB,zV8,asTup_mk,zAS,zAq,zFa,c_b_mk,zAa,zAo]
   rfl
theorem z1m:∀ n:Nat,n<4->∀ o:Nat,o<4->((2 ^ n).testBit o=true↔o=n):=by decide
theorem zPc(q:QT):∀(d:Nat) (t:Tree) (m:Nat),setO d t=some m->∀ c,c∈(zC0 q d t).1↔∃ o,o<4/\m.testBit o=true/\c∈zEv q.T q.occ o
 | 0,t,m,h,c=>by simp[setO]at h
 |d+1,.mk o l,m,h,c=>by
  rcases zDf h with⟨rfl,h1,h2,rfl⟩ | ⟨a,b,x,y,rfl,rfl,hx,hy,h4,rfl⟩
  ·obtain⟨n,rfl⟩:=Int.eq_ofNat_of_zero_le h1
   simp only[zC0,zY]
   constructor
   ·intro hc;exact⟨n,by omega,z0E n (by omega),hc⟩
   ·rintro⟨o,ho,hb,hc⟩
    rw[(z1m n (by omega) o ho).1 hb]at hc;exact hc
  ·simp only[zC0,List.mem_append,zPc q d a x hx c,zPc q d b y hy c]
   have hxl:=zBI _ _ _ hx
   have hyl:=zBI _ _ _ hy
   constructor
   ·rintro(⟨o,ho,hb,hc⟩ | ⟨o,ho,hb,hc⟩)
    ·exact⟨o,ho,by rw[zTm _ hxl _ hyl o ho,hb];rfl,hc⟩
    ·exact⟨o,ho,by rw[zTm _ hxl _ hyl o ho,hb,Bool.or_true],hc⟩
   ·rintro⟨o,ho,hb,hc⟩
    rw[zTm _ hxl _ hyl o ho,zFM]at hb
    rcases hb with hb | hb
    ·exact .inl ⟨o,ho,hb,hc⟩
    ·exact .inr ⟨o,ho,hb,hc⟩
theorem zOW(T:List Def) (occ:List Int) (is:Nat->Bool) (k i:Nat) (c:Int):c∈allL T occ is i k↔∃ o,i<=o/\o<i+k/\is o=true/\zLV T occ o=true/\c∈zEv T occ o:=by
 unfold allL
 simp only[List.mem_flatMap,List.mem_range'_1]
 constructor
 ·rintro⟨o,⟨h1,h2⟩,h3⟩
  cases hb:is o&&zLV T occ o with
  |false=>rw[hb]at h3;cases h3
  |true =>
   rw[hb]at h3
   simp only[zF]at hb
   exact⟨o,h1,h2,hb.1,hb.2,h3⟩
 ·rintro⟨o,h1,h2,h3,h4,h5⟩
  exact⟨o,⟨h1,h2⟩,by rw[h3,h4];exact h5⟩
end Go.Cf

namespace Go.Cf
open Go Go.Ab
theorem zYP{c d:List Int} {x:Int} (h:inC c x=true):idxI (c++d) (λ y=>x==y)=idxI c (λ y=>x==y):=by
 have h0:c.any (λ y=>x==y)=true:=by
  unfold inC at h
  exact List.any_eq_true.2 ⟨x,zAM h,by simp⟩
 unfold idxI
 rw[List.findIdx?_append]
 cases hf:c.findIdx? (λ y=>x==y) with
 |some i=>rfl
 |none =>
  have:=List.findIdx?_eq_none_iff.1 hf
  obtain⟨y,hy,e⟩:=List.any_eq_true.1 h0
  rw[this y hy]at e;cases e
theorem zFo{c d:List Int} {r s:List Val} {x:Int} (h:inC c x=true) (hl:r.length=c.length):zW (c++d) (r++s) x=zW c r x:=by
 have h1:=(zEk h hl)
 have h3:=zWY c x
 have h4:decide (idxI c (λ y=>x==y)<0)=false:=by rw[zRk,h];rfl
 have hlt:(idxI c (λ y=>x==y)).toNat<r.length:=by omega
 unfold zW
 rw[zYP h,h4,zL (show ¬ idxI c (λ y=>x==y)≥(r.length:Int) by omega),zL (show ¬ idxI c (λ y=>x==y)≥((r++s).length:Int) by rw[zAK];omega)]
 simp only[zC,zA0,zAW hlt]
theorem zVc{c d:List Int} {x:Int} (h:inC c x=false) (hd:inC d x=true):idxI (c++d) (λ y=>x==y)=(c.length:Int)+idxI d (λ y=>x==y):=by
 unfold idxI
 rw[List.findIdx?_append]
 have h1:c.findIdx? (λ y=>x==y)=none:=by
  rw[List.findIdx?_eq_none_iff]
  intro y hy
  unfold inC at h
  have:=of_decide_eq_false h
  simp only[beq_eq_false_iff_ne]
  intro e;subst e;exact this hy
 rw[h1]
 have h2:decide (idxI d (λ y=>x==y)<0)=false:=by rw[zRk,hd];rfl
 have h3:=of_decide_eq_false h2
 unfold idxI at h3
 cases hf:d.findIdx? (λ y=>x==y) with
 |none=>rw[hf]at h3;simp only at h3;omega
 |some i=>simp only[Option.none_or,zV];omega
theorem zN7{c d:List Int} {r s:List Val} {x:Int} (h:inC c x=false) (hd:inC d x=true) (hl:r.length=c.length) (hs:s.length=d.length):zW (c++d) (r++s) x=zW d s x:=by
 have hin:inC (c++d) x=true:=by
  unfold inC at hd ⊢
  exact zD (List.mem_append_right _ (zAM hd))
 obtain⟨h1,h2⟩:=zEk (row:=r++s) hin (by simp[hl,hs])
 obtain⟨h3,h4⟩:=zEk (row:=s) hd hs
 rw[zVc h hd]at h1
 have e:((c.length:Int)+idxI d (λ y=>x==y)).toNat=r.length+(idxI d (λ y=>x==y)).toNat:=by omega
 rw[e,zAO (by omega),Nat.add_sub_cancel_left,h3]at h1
 exact(Option.some.inj h1).symm
theorem z5z:∀ s:Nat,s<16->∀ o:Nat,o<4->∀ i:Nat,i<4->(s ||| 2 ^ o).testBit i=(s.testBit i || decide (i=o)):=by decide +kernel
theorem zW7:∀(l:List Int) (s:Nat) (i:Nat),s<16->i<4->(s.testBit i=true∨∃ c∈l,occI c=i)->(setC s l).testBit i=true
 | [],s,i,hs,hi,h=>by
  rcases h with h | ⟨c,hc,_⟩
  ·exact h
  ·cases hc
 |c::r,s,i,hs,hi,h=>by
  have h4:=zIl c
  refine zW7 r _ i (zYO _ hs _ (zV5 _ h4)) hi ?_
  rw[z5z _ hs _ h4 _ hi]
  rcases h with h | ⟨c',hc,e⟩
  ·exact .inl (by rw[h];rfl)
  ·rcases zAE.1 hc with rfl | hc
   ·exact .inl (by rw[zD e.symm,Bool.or_true])
   ·exact .inr ⟨c',hc,e⟩
theorem z1n:∀ m:Nat,m<16->∀ s:Nat,s<16->m &&& s=s->∀ o:Nat,o<4->s.testBit o=true->m.testBit o=true:=by decide +kernel
def zN8(q:QT) (e:Ex):Prop:=∀ c∈zHY e,c∈zEv q.T q.occ (occI c)
theorem zMF{T:List Def} (hT:mayC T=true) {occ:List Int} {o:Nat} (ho:o<4) (ht:zLV T occ o=true) {c:Int} (h:c∈zEv T occ o):occI c=o/\4*(o:Int)<=c/\c<4*(o:Int)+4:=by
 unfold zLV at ht
 simp only[zF,zU]at ht
 have hc:=zJr hT (i:=(occ.getD o 0).toNat) (by omega)
 unfold zEv zDt at h
 obtain⟨i,hi,rfl⟩:=zAh.1 h
 have:=List.mem_range'_1.1 hi
 refine⟨?_,by omega,by omega⟩
 unfold occI
 rw[zD (by omega),zD (by omega)]
 simp only[Bool.and_self,zA]
 omega
theorem zJv:∀ m:Nat,m<16->∀ n:Nat,n<5->m<2 ^ n->∀ o:Nat,o<4->m.testBit o=true->o<n:=by decide +kernel
theorem zW8{q:QT} (hq:QOk q) {o:Nat} (ho:o<q.occ.length):zLV q.T q.occ o=true:=by
 have:=hq.inT _ (zAC ho)
 unfold zLV
 rw[zA0,zH ho,Option.getD_some,zD this.1,zD this.2];rfl
theorem zQs(T:List Def) (hT:mayC T=true) (occ:List Int) (is:Nat->Bool):∀(k i:Nat),i+k<=4->(allL T occ is i k).Nodup
 | 0,i,_=>by simp[allL]
 |k+1,i,h=>by
  have e:allL T occ is i (k+1)=(bif is i&&zLV T occ i then zEv T occ i else [])++allL T occ is (i+1) k:=by
   unfold allL
   rw[List.range'_succ,zC2]
  rw[e]
  refine List.nodup_append.2 ⟨?_,zQs T hT occ is k (i+1) (by omega),λ c hc c' hc' e=> ?_⟩
  ·cases is i&&zLV T occ i with
   |false=>simp
   |true =>
    simp only[zA]
    unfold zEv zDt
    exact List.pairwise_map.2 ((List.nodup_range' (s:=0) (n:=_)).imp λ{a b} h e=>h (by omega))
  ·subst e
   cases hb:is i&&zLV T occ i with
   |false=>rw[hb]at hc;cases hc
   |true =>
    rw[hb]at hc
    simp only[zF]at hb
    simp only[zA]at hc
    have h1:=(zMF hT (by omega) hb.2 hc).1
    obtain⟨o,k1,k2,k3,k4,k5⟩:=(zOW T occ is k (i+1) c).1 hc'
    have h2:=(zMF hT (by omega) k4 k5).1
    omega
theorem z0G{q:QT} (hq:QOk q) {t:Tree} {m:Nat} (h:setO 4 t=some m) (hm:m<2 ^ q.occ.length):(zIm q.T q.occ m).Perm (zC0 q 4 t).1:=by
 have hT:mayC q.T=true:=(zK2 hq.fits).2.1
 have hocc:=hq.occ
 refine(List.perm_ext_iff_of_nodup (zQs q.T hT q.occ _ _ _ (by omega)) (zIn hq.fits hq.vals hq.occ hq.inT 4 t m h hm).nodup).2 λ c=> ?_
 rw[zOW,zPc q 4 t m h c]
 constructor
 ·rintro⟨o,h1,h2,h3,h4,h5⟩
  exact⟨o,by omega,h3,h5⟩
 ·rintro⟨o,h1,h2,h3⟩
  have:=zJv m (zBI _ _ _ h) q.occ.length (by omega) hm o h1 h2
  exact⟨o,by omega,by omega,h2,zW8 hq this,h3⟩
theorem zNB{q:QT} (hq:QOk q) {by_:Int} {sums out:List Int} {ord:Int} (h:mayQ q.T q.occ q.P by_ sums out ord=true):∀ e∈q.P,zN8 q e:=by
 intro e he c hc
 have hT:mayC q.T=true:=(zK2 hq.fits).2.1
 unfold mayQ at h
 simp only[zF,zU,zAF]at h
 have h1:=h.1.2 e he
 unfold zYN zIk at h1
 simp only[zF,zAF]at h1
 have h2:=zAM (h1.2 c hc)
 obtain⟨o,k1,k2,k3,k4,k5⟩:=(zOW _ _ _ _ _ c).1 h2
 have:=(zMF hT (by omega) k4 k5).1
 rw[this];exact k5
end Go.Cf

namespace Go.Cf
open Go Go.Ab
theorem zVd{n:Nat} (h:n<=maxLen):n<=9223372036854775807:=h
theorem zQt{p:PV} (h:Typed cfg zPS p):∃ v:Val,p=v.pv/\VOk v:=by
 obtain⟨ps,rfl,hl⟩:=h.struct_inv (fs:=[(zMj,0),(zMj,1)]) (by kernel_rfl)
 obtain⟨x,qs,rfl,hx,hl⟩:=zBy hl
 obtain⟨y,rfl,hy⟩:=zLJ hl
 obtain⟨a,rfl,ha⟩:=zII hx
 obtain⟨b,rfl,hb⟩:=zII hy
 exact⟨⟨a,b⟩,rfl,ha,hb⟩
def Row0(r:List Val):Prop:=r.length<=9223372036854775807/\ROk r
theorem zTn{p:PV} (h:Typed cfg zPT p):∃ r:List Val,p=rowp r/\Row0 r:=by
 obtain⟨xs,rfl,hl,hx⟩:=h.slice_inv (e:=zPS) (by kernel_rfl)
 obtain⟨r,rfl,hr⟩:=zIe (Q:=VOk) (f:=Val.pv) (xs:=xs) (λ x h=>zQt (hx x h))
 exact⟨r,rfl,zVd (by simpa using hl),hr⟩
def Tab0(t:List (List Val)):Prop:=t.length<=9223372036854775807/\∀ r∈t,Row0 r
theorem zQK{p:PV} (h:Typed cfg zLp p):∃ t:List (List Val),p=tabp t/\Tab0 t:=by
 obtain⟨xs,rfl,hl,hx⟩:=h.slice_inv (e:=zPT) (by kernel_rfl)
 obtain⟨r,rfl,hr⟩:=zIe (Q:=Row0) (f:=rowp) (xs:=xs) (λ x h=>zTn (hx x h))
 exact⟨r,rfl,zVd (by simpa using hl),hr⟩
theorem zRv{p:PV} (h:Typed cfg zR3 p):∃ l:List Int,p=zBx l/\(l.length<=9223372036854775807/\∀ n∈l,I64 n):=by
 obtain⟨xs,rfl,hl,hx⟩:=h.slice_inv (e:=zMj) (by kernel_rfl)
 obtain⟨r,rfl,hr⟩:=zIe (Q:=I64) (f:=intp) (xs:=xs) (λ x h=>zII (hx x h))
 exact⟨r,rfl,zVd (by simpa using hl),hr⟩
theorem zW9:∀{l:List Ex},(∀ e∈l,e.lens/\e.vals)->Ex.lensL l/\Ex.valsL l
 | [],_=>⟨trivial,trivial⟩
 |e::r,h=>by
  obtain⟨a,b⟩:=zW9 (l:=r) λ x hx=>h x (by simp[hx])
  obtain⟨c,d⟩:=h e (by simp)
  exact⟨⟨c,a⟩,d,b⟩
theorem zN9:∀(n:Nat) (p:PV),SizeOf.sizeOf p<n->Typed cfg zDk p->∃ x:Ex,p=x.pv/\(x.lens/\x.vals)
 | 0,p,h,_=>by omega
 |n+1,p,h,ht=>by
  obtain⟨ps,rfl,hl⟩:=ht.struct_inv (fs:=[(zMj,0),(zMj,1),(zPS,2),(zJ9,4)]) (by kernel_rfl)
  obtain⟨x,qs,rfl,hx,hl⟩:=zBy hl
  obtain⟨y,qs,rfl,hy,hl⟩:=zBy hl
  obtain⟨z,qs,rfl,hz,hl⟩:=zBy hl
  obtain⟨u,rfl,hu⟩:=zLJ hl
  obtain⟨o,rfl,ho⟩:=zII hx
  obtain⟨c,rfl,hc⟩:=zII hy
  obtain⟨v,rfl,hv⟩:=zQt hz
  obtain⟨xs,rfl,hlen,hxs⟩:=hu.slice_inv (e:=zDk) (by kernel_rfl)
  obtain⟨l,rfl,hlo⟩:=zIe (Q:=λ e:Ex=>e.lens/\e.vals) (f:=Ex.pv) (xs:=xs) (λ x hx=>by
   have h1:=List.sizeOf_lt_of_mem hx
   refine zN9 n x ?_ (hxs x hx)
   have h2:SizeOf.sizeOf (PV.slice (cfg.sh zDk) xs)<=SizeOf.sizeOf (PV.agg (([PV.int .i64 o,PV.int .i64 c,v.pv,PV.slice (cfg.sh zDk) xs]:List PV).flatMap PV.cells)):=by
    have e:([PV.int .i64 o,PV.int .i64 c,v.pv,PV.slice (cfg.sh zDk) xs]:List PV).flatMap PV.cells=[PV.int .i64 o,PV.int .i64 c,.int .i64 v.K,.int .i64 v.N,PV.slice (cfg.sh zDk) xs]:=rfl
    rw[e]
    simp only[PV.agg.sizeOf_spec,List.cons.sizeOf_spec,List.nil.sizeOf_spec]
    omega
   have h3:SizeOf.sizeOf (PV.slice (cfg.sh zDk) xs)=1+SizeOf.sizeOf (cfg.sh zDk)+SizeOf.sizeOf xs:=by simp
   omega)
  obtain⟨a,b⟩:=zW9 hlo
  refine⟨.mk o c v l,?_,⟨zVd (by simpa using hlen),a⟩,hv,b⟩
  rw[Ex.pv_mk]
  rfl
theorem zVe{p:PV} (h:Typed cfg zDk p):∃ x:Ex,p=x.pv/\(x.lens/\x.vals):=zN9 _ p (Nat.lt_succ_self _) h
theorem zRw{p:PV} (h:Typed cfg zJ9 p):∃ l:List Ex,p=exsp l/\(l.length<=9223372036854775807/\∀ e∈l,e.lens/\e.vals):=by
 obtain⟨xs,rfl,hl,hx⟩:=h.slice_inv (e:=zDk) (by kernel_rfl)
 obtain⟨r,rfl,hr⟩:=zIe (Q:=λ e:Ex=>e.lens/\e.vals) (f:=Ex.pv) (xs:=xs) (λ x h=>zVe (hx x h))
 exact⟨r,rfl,zVd (by simpa using hl),hr⟩
theorem zYQ{p:PV} (h:Typed cfg zTP p):∃ v:Def,p=v.pv/\True:=by
 obtain⟨ps,rfl,hl⟩:=h.struct_inv (fs:=[(zMj,0),(zMj,1)]) (by kernel_rfl)
 obtain⟨x,qs,rfl,hx,hl⟩:=zBy hl
 obtain⟨y,rfl,hy⟩:=zLJ hl
 obtain⟨a,rfl,ha⟩:=zII hx
 obtain⟨b,rfl,hb⟩:=zII hy
 exact⟨⟨a,b⟩,rfl,trivial⟩
theorem zQu{p:PV} (h:Typed cfg zZ0 p):∃ T:List Def,p=catp T/\T.length<=9223372036854775807:=by
 obtain⟨ps,rfl,hl⟩:=h.struct_inv (fs:=[(zVA,0)]) (by kernel_rfl)
 obtain⟨y,rfl,hy⟩:=zLJ hl
 obtain⟨xs,rfl,hlen,hx⟩:=hy.slice_inv (e:=zTP) (by kernel_rfl)
 obtain⟨T,rfl,_⟩:=zIe (Q:=λ _=>True) (f:=Def.pv) (xs:=xs) (λ x h=>zYQ (hx x h))
 exact⟨T,rfl,zVd (by simpa using hlen)⟩
theorem zPd{p:PV} (h:Typed cfg zXj p):∃ D:List (List (List Val)),p=zGV D/\DOk D/\∀ t∈D,∀ r∈t,ROk r:=by
 obtain⟨ps,rfl,hl⟩:=h.struct_inv (fs:=[(zPR,0)]) (by kernel_rfl)
 obtain⟨y,rfl,hy⟩:=zLJ hl
 obtain⟨xs,rfl,hlen,hx⟩:=hy.slice_inv (e:=zLp) (by kernel_rfl)
 obtain⟨D,rfl,hD⟩:=zIe (Q:=Tab0) (f:=tabp) (xs:=xs) (λ x h=>zQK (hx x h))
 exact⟨D,rfl,⟨zVd (by simpa using hlen),λ t ht=>(hD t ht).1,λ t ht r hr=>((hD t ht).2 r hr).1⟩,λ t ht r hr=>((hD t ht).2 r hr).2⟩
structure QIn where
 (occ:List Int) (P:List Ex) (by_:Int) (sums out:List Int) (ord:Int)
def QIn.pv(q:QIn):PV:=zCI q.occ (q.P.map Ex.pv) q.by_ q.sums q.out q.ord
def z3a(l:List Int):Prop:=l.length<=9223372036854775807/\∀ n∈l,I64 n
structure QIn.Ok (q:QIn):Prop where
 occ:z3a q.occ
 P:q.P.length<=9223372036854775807/\∀ e∈q.P,e.lens/\e.vals
 by_:I64 q.by_
 sums:z3a q.sums
 out:z3a q.out
 ord:I64 q.ord
theorem zNa{p:PV} (h:Typed cfg zVB p):∃ q:QIn,p=q.pv/\q.Ok:=by
 obtain⟨ps,rfl,hl⟩:=h.struct_inv (fs:=[(zR3,0),(zJ9,1),(zMj,2),(zR3,3),(zR3,4),(zMj,5)]) (by kernel_rfl)
 obtain⟨x,qs,rfl,hx,hl⟩:=zBy hl
 obtain⟨y,qs,rfl,hy,hl⟩:=zBy hl
 obtain⟨z,qs,rfl,hz,hl⟩:=zBy hl
 obtain⟨u,qs,rfl,hu,hl⟩:=zBy hl
 obtain⟨v,qs,rfl,hv,hl⟩:=zBy hl
 obtain⟨w,rfl,hw⟩:=zLJ hl
 obtain⟨a,rfl,ha⟩:=zRv hx
 obtain⟨ps,rfl,hpl,hp⟩:=zRw hy
 obtain⟨b,rfl,hb⟩:=zII hz
 obtain⟨s,rfl,hs⟩:=zRv hu
 obtain⟨o,rfl,ho⟩:=zRv hv
 obtain⟨d,rfl,hd⟩:=zII hw
 exact⟨⟨a,ps,b,s,o,d⟩,rfl,ha,⟨hpl,hp⟩,hb,hs,ho,hd⟩
end Go.Cf

namespace Go.Cf
open Go Go.Ab
end Go.Cf

namespace Go.Cf
theorem zEO{α:Type} (le:α->α->Bool):∀(n:Nat) (s1 t1 s2 t2:List α),s1.length+s2.length=n ->
 (∀ x∈t1,∀ y∈s2,le x y=false)->(∀ x∈s1,∀ y∈t2,le x y=true) ->
 List.merge (s1++t1) (s2++t2) le=List.merge s1 s2 le++List.merge t1 t2 le
 |n,[],t1,[],t2,h,h1,h2=>by simp
 |n,[],[],y::s2,t2,h,h1,h2=>by simp
 |n+1,[],x::t1,y::s2,t2,h,h1,h2=>by
  have hxy:=h1 x (by simp) y (by simp)
  have ih:=zEO le n [] (x::t1) s2 t2 (by simp at h ⊢;omega) (λ a ha b hb=>h1 a ha b (by simp[hb])) (λ a ha=>by simp at ha)
  simp only[List.nil_append,List.nil_merge]at ih ⊢
  rw[List.cons_append,List.cons_merge_cons,if_neg (by rw[hxy];decide),ih]
  rfl
 |n,x::s1,t1,[],[],h,h1,h2=>by simp
 |n+1,x::s1,t1,[],z::t2,h,h1,h2=>by
  have hxz:=h2 x (by simp) z (by simp)
  have ih:=zEO le n s1 t1 [] (z::t2) (by simp at h ⊢;omega) (λ a ha b hb=>by simp at hb) (λ a ha b hb=>h2 a (by simp[ha]) b hb)
  simp only[List.nil_append,List.merge_right]at ih ⊢
  rw[List.cons_append,List.cons_merge_cons,if_pos hxz,ih]
  rfl
 |n+1,x::s1,t1,y::s2,t2,h,h1,h2=>by
  simp only[List.cons_append,List.cons_merge_cons]
  by_cases hxy:le x y=true
  ·rw[if_pos hxy,if_pos hxy]
   have ih:=zEO le n s1 t1 (y::s2) t2 (by simp at h ⊢;omega) h1 (λ a ha b hb=>h2 a (by simp[ha]) b hb)
   rw[<- List.cons_append,ih];rfl
  ·rw[if_neg hxy,if_neg hxy]
   have ih:=zEO le n (x::s1) t1 s2 t2 (by simp at h ⊢;omega) (λ a ha b hb=>h1 a ha b (by simp[hb])) h2
   rw[<- List.cons_append,ih];rfl
 | 0,[],x::t1,y::s2,t2,h,h1,h2=>by simp at h
 | 0,x::s1,t1,[],z::t2,h,h1,h2=>by simp at h
 | 0,x::s1,t1,y::s2,t2,h,h1,h2=>by simp at h
theorem zQL{α:Type} (le:α->α->Bool) (x:α) (s t:List α) (hs:∀ y∈s,le x y=false) (ht:∀ y∈t,le x y=true):List.merge [x] (s++t) le=s++x::t:=by
 have h:=zEO le s.length [] [x] s t (by simp) (λ a ha b hb=>by simp at ha;subst ha;exact hs b hb) (λ a ha=>by simp at ha)
 rw[List.nil_append,List.nil_merge]at h
 rw[h]
 congr 1
 cases t with
 |nil=>simp
 |cons z t =>
  rw[List.cons_merge_cons,if_pos (ht z (by simp)),List.nil_merge]
theorem zJw{α:Type} (le:α->α->Bool) (y:α) (s t:List α) (hs:∀ x∈s,le x y=true) (ht:∀ x∈t,le x y=false):List.merge (s++t) [y] le=s++y::t:=by
 have h:=zEO le s.length s t [] [y] (by simp) (λ a ha b hb=>by simp at hb) (λ a ha b hb=>by simp at hb;subst hb;exact hs a ha)
 rw[List.nil_append,List.merge_right]at h
 rw[h]
 congr 1
 cases t with
 |nil=>simp
 |cons z t =>
  rw[List.cons_merge_cons,if_neg (by rw[ht z (by simp)];decide),List.merge_right]
def sw{α:Type} (l:List α) (i j:Nat):List α:=match l[i]?,l[j]? with | some x,some y=>(l.set i y).set j x | _,_=>l
theorem z6A{α:Type} (P M Q:List α) (x y:α):sw (P++x::(M++y::Q)) P.length (P.length+1+M.length)=P++y::(M++x::Q):=by
 have h1:(P++x::(M++y::Q))[P.length]? =some x:=by simp
 have h2:(P++x::(M++y::Q))[P.length+1+M.length]? =some y:=by
  rw[zAO (by omega),show P.length+1+M.length-P.length=M.length+1 by omega,zAq,zAO (zM _)]
  simp
 unfold sw
 rw[h1,h2]
 simp only
 rw[List.set_append_right _ _ (zM _),Nat.sub_self,List.set_cons_zero,List.set_append_right _ _ (by omega),show P.length+1+M.length-P.length=M.length+1 by omega,List.set_cons_succ,List.set_append_right _ _ (zM _),Nat.sub_self,List.set_cons_zero]
def zQM{α:Type}:Nat->Nat->Nat->List α->List α
 | 0,_,_,l=>l
 |n+1,a,b,l=>zQM n (a+1) (b+1) (sw l a b)
theorem zK4{α:Type}:∀(n:Nat) (P A M B Q:List α),A.length=n->B.length=n->zQM n P.length (P.length+n+M.length) (P++(A++(M++(B++Q))))=P++(B++(M++(A++Q)))
 | 0,P,A,M,B,Q,hA,hB=>by
  have h1:A=[]:=zCJ.1 hA
  have h2:B=[]:=zCJ.1 hB
  subst h1;subst h2;rfl
 |n+1,P,[],M,B,Q,hA,hB=>by simp at hA
 |n+1,P,x::A,M,[],Q,hA,hB=>by simp at hB
 |n+1,P,x::A,M,y::B,Q,hA,hB=>by
  have hA' :A.length=n:=by simpa using hA
  have hB' :B.length=n:=by simpa using hB
  have e:=z6A P (A++M) (B++Q) x y
  rw[zAG,zAG]at e
  have ih:=zK4 n (P++[y]) A (M++[x]) B Q hA' hB'
  simp only[zAG,zAK,List.length_singleton,List.cons_append,List.nil_append]at ih e ⊢
  unfold zQM
  rw[show P.length+(n+1)+M.length=P.length+1+(A.length+M.length) by omega,e]
  rw[show P.length+1+(A.length+M.length)+1=P.length+1+n+(M.length+1) by omega]
  exact ih
def rotG{α:Type} (m:Nat):Nat->Nat->Nat->List α->List α
 | 0,_,_,l=>l
 |f+1,i,j,l=>if i=j then zQM i (m-i) m l else if i>j then rotG m f (i-j) j (zQM j (m-i) m l)else rotG m f i (j-i) (zQM i (m-i) (m+j-i) l)
theorem zPe{α:Type}:∀(f i j:Nat) (P X Y Q:List α),X.length=i->Y.length=j->0<i->0<j->i+j<=f ->
 rotG (P.length+i) f i j (P++(X++(Y++Q)))=P++(Y++(X++Q))
 | 0,i,j,P,X,Y,Q,hX,hY,hi,hj,hf=>by omega
 |f+1,i,j,P,X,Y,Q,hX,hY,hi,hj,hf=>by
  unfold rotG
  by_cases e:i=j
  ·rw[if_pos e]
   subst e
   have h:=zK4 i P X [] Y Q hX hY
   simp only[List.nil_append,List.length_nil,Nat.add_zero]at h
   rw[show P.length+i-i=P.length by omega]
   exact h
  ·rw[if_neg e]
   by_cases g:i>j
   ·rw[if_pos g]
    obtain⟨X1,X2,rfl,h1⟩:∃ X1 X2,X=X1++X2/\X1.length=j:=⟨X.take j,X.drop j,(List.take_append_drop j X).symm,by simp;omega⟩
    have h2:X2.length=i-j:=by simp at hX;omega
    have h:=zK4 j P X1 X2 Y Q h1 hY
    rw[show P.length+j+X2.length=P.length+i by omega]at h
    rw[show P.length+i-i=P.length by omega]
    simp only[zAG]at h ⊢
    rw[h]
    have ih:=zPe f (i-j) j (P++Y) X2 X1 Q h2 h1 (by omega) hj (by omega)
    simp only[zAG,zAK]at ih
    rw[show P.length+i=P.length+Y.length+(i-j) by omega]
    exact ih
   ·rw[if_neg g]
    obtain⟨Y1,Y2,rfl,h1⟩:∃ Y1 Y2,Y=Y1++Y2/\Y1.length=j-i:=⟨Y.take (j-i),Y.drop (j-i),(List.take_append_drop (j-i) Y).symm,by simp;omega⟩
    have h2:Y2.length=i:=by simp at hY;omega
    have h:=zK4 i P X Y1 Y2 Q hX h2
    rw[show P.length+i+Y1.length=P.length+i+j-i by omega]at h
    rw[show P.length+i-i=P.length by omega]
    simp only[zAG]at h ⊢
    rw[h]
    have ih:=zPe f i (j-i) P Y2 Y1 (X++Q) h2 h1 hi (by omega) (by omega)
    exact ih
def bs(q:Nat->Bool):Nat->Nat->Nat->Nat
 | 0,lo,_=>lo
 |f+1,lo,hi=>if lo<hi then(if q ((lo+hi) / 2)then bs q f ((lo+hi) / 2+1) hi else bs q f lo ((lo+hi) / 2))else lo
theorem zPf(q:Nat->Bool):∀(f lo hi:Nat),hi-lo<=f->lo<=hi->(∀ c d,lo<=c->c<=d->d<hi->q d=true->q c=true) ->
 lo<=bs q f lo hi/\bs q f lo hi<=hi/\(∀ c,lo<=c->c<bs q f lo hi->q c=true)/\∀ c,bs q f lo hi<=c->c<hi->q c=false
 | 0,lo,hi,h,hle,hm=>by
  unfold bs
  exact⟨zM _,hle,λ c h1 h2=>by omega,λ c h1 h2=>by omega⟩
 |f+1,lo,hi,h,hle,hm=>by
  unfold bs
  by_cases hlt:lo<hi
  ·rw[if_pos hlt]
   by_cases hq:q ((lo+hi) / 2)=true
   ·rw[if_pos hq]
    obtain⟨k1,k2,k3,k4⟩:=zPf q f ((lo+hi) / 2+1) hi (by omega) (by omega) (λ c d h1 h2 h3 h4=>hm c d (by omega) h2 h3 h4)
    refine⟨by omega,k2,λ c h1 h2=> ?_,k4⟩
    by_cases hc:c<=(lo+hi) / 2
    ·exact hm c _ h1 hc (by omega) hq
    ·exact k3 c (by omega) h2
   ·rw[if_neg hq]
    obtain⟨k1,k2,k3,k4⟩:=zPf q f lo ((lo+hi) / 2) (by omega) (by omega) (λ c d h1 h2 h3 h4=>hm c d h1 h2 (by omega) h4)
    refine⟨k1,by omega,k3,λ c h1 h2=> ?_⟩
    by_cases hc:c<(lo+hi) / 2
    ·exact k4 c h1 hc
    ·cases hqc:q c with
     |false=>rfl
     |true=>exact absurd (hm _ c (by omega) (by omega) h2 hqc) hq
  ·rw[if_neg hlt]
   exact⟨zM _,hle,λ c h1 h2=>by omega,λ c h1 h2=>by omega⟩
theorem z23{α:Type} (P M Q:List α) (x y:α):sw (P++x::(M++y::Q)) (P.length+1+M.length) P.length=P++y::(M++x::Q):=by
 have h1:(P++x::(M++y::Q))[P.length]? =some x:=by simp
 have h2:(P++x::(M++y::Q))[P.length+1+M.length]? =some y:=by
  rw[zAO (by omega),show P.length+1+M.length-P.length=M.length+1 by omega,zAq,zAO (zM _)]
  simp
 unfold sw
 rw[h1,h2]
 simp only
 rw[List.set_append_right _ _ (by omega),show P.length+1+M.length-P.length=M.length+1 by omega,List.set_cons_succ,List.set_append_right _ _ (zM _),Nat.sub_self,List.set_cons_zero,List.set_append_right _ _ (zM _),Nat.sub_self,List.set_cons_zero]
def mvR{α:Type}:Nat->Nat->List α->List α
 | 0,_,l=>l
 |n+1,k,l=>mvR n (k+1) (sw l k (k+1))
theorem zWa{α:Type}:∀(n:Nat) (P S Q:List α) (x:α),S.length=n->mvR n P.length (P++x::(S++Q))=P++(S++x::Q)
 | 0,P,S,Q,x,h=>by
  have h1:S=[]:=zCJ.1 h
  subst h1;rfl
 |n+1,P,[],Q,x,h=>by simp at h
 |n+1,P,y::S,Q,x,h=>by
  have e:=z6A P [] (S++Q) x y
  simp only[List.nil_append,List.length_nil,Nat.add_zero]at e
  have ih:=zWa n (P++[y]) S Q x (by simpa using h)
  simp only[zAG,zAK,List.length_singleton,List.cons_append,List.nil_append]at ih ⊢
  unfold mvR
  rw[e]
  exact ih
def mvL{α:Type}:Nat->Nat->List α->List α
 | 0,_,l=>l
 |n+1,k,l=>mvL n (k-1) (sw l k (k-1))
theorem zWb{α:Type}:∀(n:Nat) (P S Q:List α) (y:α),S.length=n->mvL n (P.length+n) (P++(S++y::Q))=P++y::(S++Q)
 | 0,P,S,Q,y,h=>by
  have h1:S=[]:=zCJ.1 h
  subst h1;rfl
 |n+1,P,S,Q,y,h=>by
  obtain⟨S',x,rfl⟩:∃ S' x,S=S' ++[x]:=⟨S.dropLast,S.getLast (by intro e;subst e;simp at h),(List.dropLast_concat_getLast _).symm⟩
  have hS:S'.length=n:=by simpa using h
  have e:=z23 (P++S') [] Q x y
  simp only[List.nil_append,List.length_nil,Nat.add_zero,zAK,zAG,hS]at e
  have ih:=zWb n P S' (x::Q) y hS
  simp only[zAG,List.cons_append,List.nil_append]at ih ⊢
  unfold mvL
  rw[show P.length+(n+1)-1=P.length+n by omega,show P.length+(n+1)=P.length+n+1 by omega,e]
  exact ih
section
variable {α:Type} (le:α->α->Bool)
def leO(l:List α) (i j:Nat):Bool:=match l[i]?,l[j]? with | some x,some y=>le x y | _,_=>true
def symF:Nat->Nat->Nat->Nat->List α->List α
 | 0,_,_,_,l=>l
 |f+1,a,m,b,l =>
  if m-a=1 then mvR (bs (λ h=> !leO le l a h) (b-m) m b-1-a) a l
  else if b-m=1 then mvL (m-bs (λ h=>leO le l h m) (m-a) a m) m l
  else
   let mid:=(a+b) / 2
   let n:=mid+m
   let s:=if m>mid then n-b else a
   let r:=if m>mid then mid else m
   let st:=bs (λ c=>leO le l c (n-1-c)) (r-s) s r
   let en:=n-st
   let l1:=if st<m/\m<en then rotG m (en-st) (m-st) (en-m) l else l
   let l2:=if a<st/\st<mid then symF f a st mid l1 else l1
   if mid<en/\en<b then symF f mid en b l2 else l2
theorem zFH{le:α->α->Bool} (hr:∀ x,le x x=true) {X:List α} (hX:X.Pairwise λ x y=>le x y=true) {i j:Nat} {x y:α} (hi:X[i]? =some x) (hj:X[j]? =some y) (hij:i<=j):le x y=true:=by
 rcases Nat.lt_or_eq_of_le hij with h | h
 ·obtain⟨h1,rfl⟩:=zQ.1 hi
  obtain⟨h2,rfl⟩:=zQ.1 hj
  exact List.pairwise_iff_getElem.1 hX i j h1 h2 h
 ·subst h
  rw[hi]at hj;cases hj;exact hr _
theorem zPg(X:List α):List.merge X [] le=X:=by simp
theorem zHQ(X Y:List α):(List.merge X Y le).length=X.length+Y.length:=by
 rw[(List.merge_perm_append (le:=le) (xs:=X) (ys:=Y)).length_eq,zAK]
theorem zPh(hr:∀ x,le x x=true) (ht:∀ x y z,le x y=true->le y z=true->le x z=true):∀(f:Nat) (P X Y Q:List α),X≠[]->Y≠[]->X.Pairwise (λ x y=>le x y=true)->Y.Pairwise (λ x y=>le x y=true)->X.length+Y.length<=f ->
 symF le f P.length (P.length+X.length) (P.length+X.length+Y.length) (P++(X++(Y++Q)))=P++(List.merge X Y le++Q)
 | 0,P,X,Y,Q,hX,hY,sX,sY,hf=>by
  have:=List.length_pos_iff.2 hX;omega
 |f+1,P,X,Y,Q,hX,hY,sX,sY,hf=>by
  have lX:=List.length_pos_iff.2 hX
  have lY:=List.length_pos_iff.2 hY
  have gX:∀ i,i<X.length->(P++(X++(Y++Q)))[P.length+i]? =X[i]? :=λ i hi=>by
   rw[zAO (by omega),show P.length+i-P.length=i by omega,zAW hi]
  have gY:∀ i,i<Y.length->(P++(X++(Y++Q)))[P.length+X.length+i]? =Y[i]? :=λ i hi=>by
   rw[zAO (by omega),show P.length+X.length+i-P.length=X.length+i by omega,zAO (by omega),show X.length+i-X.length=i by omega,zAW hi]
  have q0:∀ i j x y,X[i]? =some x->Y[j]? =some y->leO le (P++(X++(Y++Q))) (P.length+i) (P.length+X.length+j)=le x y:=λ i j x y hi hj=>by
   have h1:=gX i (zQ.1 hi).1
   have h2:=gY j (zQ.1 hj).1
   unfold leO
   rw[h1,h2,hi,hj]
  unfold symF
  by_cases e1:X.length=1
  ·rw[if_pos (by omega)]
   obtain⟨x,rfl⟩:=List.length_eq_one_iff.1 e1
   have qv:∀ h y,P.length+1<=h->Y[h-(P.length+1)]? =some y->leO le (P++([x]++(Y++Q))) P.length h=le x y:=λ h y h1 h2=>by
    have:=q0 0 (h-(P.length+1)) x y rfl h2
    rw[show P.length+[x].length+(h-(P.length+1))=h by simp;omega]at this
    exact this
   have bsp:=zPf (λ h=> !leO le (P++([x]++(Y++Q))) P.length h) (P.length+[x].length+Y.length-(P.length+[x].length)) (P.length+[x].length) (P.length+[x].length+Y.length) (zM _) (by omega) (λ c d h1 h2 h3 h4=>by
    simp only[List.length_singleton]at h1 h3
    have cl:c-(P.length+1)<Y.length:=by omega
    have dl:d-(P.length+1)<Y.length:=by omega
    have v1:=qv c _ h1 (zH cl)
    have v2:=qv d _ (by omega) (zH dl)
    have h4:(!leO le (P++([x]++(Y++Q))) P.length d)=true:=h4
    show(!leO le (P++([x]++(Y++Q))) P.length c)=true
    rw[v2]at h4
    rw[v1]
    have k:=zFH hr sY (zH cl) (zH dl) (by omega)
    cases hle:le x Y[c-(P.length+1)] with
    |false=>rfl
    |true=>rw[ht _ _ _ hle k]at h4;cases h4)
   generalize bs (λ h=> !leO le (P++([x]++(Y++Q))) P.length h) (P.length+[x].length+Y.length-(P.length+[x].length)) (P.length+[x].length) (P.length+[x].length+Y.length)=i at bsp ⊢
   simp only[List.length_singleton]at bsp
   obtain⟨b1,b2,b3,b4⟩:=bsp
   obtain⟨Y1,Y2,hYe,hY1⟩:∃ Y1 Y2,Y=Y1++Y2/\Y1.length=i-(P.length+1):=⟨Y.take (i-(P.length+1)),Y.drop (i-(P.length+1)),(List.take_append_drop _ Y).symm,by simp;omega⟩
   have lY2:Y1.length+Y2.length=Y.length:=by rw[hYe];simp
   have d1:∀ y∈Y1,le x y=false:=λ y hy=>by
    obtain⟨j,hj,ej⟩:=List.getElem_of_mem hy
    have g:Y[j]? =some y:=by rw[hYe,zAW hj,<-ej];exact zH hj
    have v:=qv (P.length+1+j) y (by omega) (by rw[show P.length+1+j-(P.length+1)=j by omega];exact g)
    have h:(!leO le (P++([x]++(Y++Q))) P.length (P.length+1+j))=true:=b3 (P.length+1+j) (by omega) (by omega)
    rw[v]at h
    simpa using h
   have d2:∀ y∈Y2,le x y=true:=λ y hy=>by
    obtain⟨j,hj,ej⟩:=List.getElem_of_mem hy
    have g:Y[Y1.length+j]? =some y:=by rw[hYe,zAO (by omega),show Y1.length+j-Y1.length=j by omega,<-ej];exact zH hj
    have v:=qv (P.length+1+(Y1.length+j)) y (by omega) (by rw[show P.length+1+(Y1.length+j)-(P.length+1)=Y1.length+j by omega];exact g)
    have h:(!leO le (P++([x]++(Y++Q))) P.length (P.length+1+(Y1.length+j)))=false:=b4 (P.length+1+(Y1.length+j)) (by omega) (by omega)
    rw[v]at h
    simpa using h
   have hm:=zQL le x Y1 Y2 d1 d2
   have hv:=zWa (i-1-P.length) P Y1 (Y2++Q) x (by omega)
   rw[hYe,hm]
   simp only[zAG,List.cons_append,List.nil_append]at hv ⊢
   exact hv
  ·rw[if_neg (by omega)]
   by_cases e2:Y.length=1
   ·rw[if_pos (by omega)]
    obtain⟨y,rfl⟩:=List.length_eq_one_iff.1 e2
    have qv:∀ h x,P.length<=h->X[h-P.length]? =some x->leO le (P++(X++([y]++Q))) h (P.length+X.length)=le x y:=λ h x h1 h2=>by
     have:=q0 (h-P.length) 0 x y h2 rfl
     rw[show P.length+(h-P.length)=h by omega]at this
     exact this
    have bsp:=zPf (λ h=>leO le (P++(X++([y]++Q))) h (P.length+X.length)) (P.length+X.length-P.length) P.length (P.length+X.length) (zM _) (by omega) (λ c d h1 h2 h3 h4=>by
     have cl:c-P.length<X.length:=by omega
     have dl:d-P.length<X.length:=by omega
     have v1:=qv c _ h1 (zH cl)
     have v2:=qv d _ (by omega) (zH dl)
     have h4:leO le (P++(X++([y]++Q))) d (P.length+X.length)=true:=h4
     show leO le (P++(X++([y]++Q))) c (P.length+X.length)=true
     rw[v2]at h4
     rw[v1]
     exact ht _ _ _ (zFH hr sX (zH cl) (zH dl) (by omega)) h4)
    generalize bs (λ h=>leO le (P++(X++([y]++Q))) h (P.length+X.length)) (P.length+X.length-P.length) P.length (P.length+X.length)=i at bsp ⊢
    obtain⟨b1,b2,b3,b4⟩:=bsp
    obtain⟨X1,X2,hXe,hX1⟩:∃ X1 X2,X=X1++X2/\X1.length=i-P.length:=⟨X.take (i-P.length),X.drop (i-P.length),(List.take_append_drop _ X).symm,by simp;omega⟩
    have lX2:X1.length+X2.length=X.length:=by rw[hXe];simp
    have d1:∀ x∈X1,le x y=true:=λ x hx=>by
     obtain⟨j,hj,ej⟩:=List.getElem_of_mem hx
     have g:X[j]? =some x:=by rw[hXe,zAW hj,<-ej];exact zH hj
     have v:=qv (P.length+j) x (by omega) (by rw[show P.length+j-P.length=j by omega];exact g)
     have h:leO le (P++(X++([y]++Q))) (P.length+j) (P.length+X.length)=true:=b3 (P.length+j) (by omega) (by omega)
     rw[v]at h;exact h
    have d2:∀ x∈X2,le x y=false:=λ x hx=>by
     obtain⟨j,hj,ej⟩:=List.getElem_of_mem hx
     have g:X[X1.length+j]? =some x:=by rw[hXe,zAO (by omega),show X1.length+j-X1.length=j by omega,<-ej];exact zH hj
     have v:=qv (P.length+(X1.length+j)) x (by omega) (by rw[show P.length+(X1.length+j)-P.length=X1.length+j by omega];exact g)
     have h:leO le (P++(X++([y]++Q))) (P.length+(X1.length+j)) (P.length+X.length)=false:=b4 (P.length+(X1.length+j)) (by omega) (by omega)
     rw[v]at h;exact h
    have hm:=zJw le y X1 X2 d1 d2
    have hv:=zWb (P.length+X.length-i) (P++X1) X2 Q y (by omega)
    rw[zAK,show P.length+X1.length+(P.length+X.length-i)=P.length+X.length by omega]at hv
    generalize hN:P.length+X.length=N at hv ⊢
    rw[hXe,hm]
    simp only[zAG,List.cons_append,List.nil_append]at hv ⊢
    exact hv
   ·rw[if_neg (by omega)]
    simp only
    generalize hmid:(P.length+(P.length+X.length+Y.length)) / 2=mid
    generalize hs:(if P.length+X.length>mid then mid+(P.length+X.length)-(P.length+X.length+Y.length)else P.length)=s
    generalize hrr:(if P.length+X.length>mid then mid else P.length+X.length)=r
    have hsr:s<=r/\P.length<=s/\r<=P.length+X.length/\r<=mid/\(s=P.length∨s+(P.length+X.length+Y.length)=mid+(P.length+X.length))/\(r=mid∨r=P.length+X.length)/\mid+(P.length+X.length)<=s+(P.length+X.length+Y.length):=by
     rw[<- hs,<-hrr]
     split<;>omega
    obtain⟨s1,s2,s3,s4,s5,s6,s7⟩:=hsr
    have qv:∀ c x y,P.length<=c->c<P.length+X.length->X[c-P.length]? =some x->Y[mid-1-c]? =some y->c<mid->leO le (P++(X++(Y++Q))) c (mid+(P.length+X.length)-1-c)=le x y:=λ c x y h1 h2 h3 h4 h5=>by
     have:=q0 (c-P.length) (mid-1-c) x y h3 h4
     rw[show P.length+(c-P.length)=c by omega,show P.length+X.length+(mid-1-c)=mid+(P.length+X.length)-1-c by omega]at this
     exact this
    have bsp:=zPf (λ c=>leO le (P++(X++(Y++Q))) c (mid+(P.length+X.length)-1-c)) (r-s) s r (zM _) s1 (λ c d h1 h2 h3 h4=>by
     have c1:c-P.length<X.length:=by omega
     have d1:d-P.length<X.length:=by omega
     have c2:mid-1-c<Y.length:=by omega
     have d2:mid-1-d<Y.length:=by omega
     have v1:=qv c _ _ (by omega) (by omega) (zH c1) (zH c2) (by omega)
     have v2:=qv d _ _ (by omega) (by omega) (zH d1) (zH d2) (by omega)
     have h4:leO le (P++(X++(Y++Q))) d (mid+(P.length+X.length)-1-d)=true:=h4
     show leO le (P++(X++(Y++Q))) c (mid+(P.length+X.length)-1-c)=true
     rw[v2]at h4
     rw[v1]
     have k1:=zFH hr sX (zH c1) (zH d1) (by omega)
     have k2:=zFH hr sY (zH d2) (zH c2) (by omega)
     exact ht _ _ _ (ht _ _ _ k1 h4) k2)
    generalize bs (λ c=>leO le (P++(X++(Y++Q))) c (mid+(P.length+X.length)-1-c)) (r-s) s r=st at bsp ⊢
    obtain⟨b1,b2,b3,b4⟩:=bsp
    obtain⟨X1,X2,hXe,hX1⟩:∃ X1 X2,X=X1++X2/\X1.length=st-P.length:=⟨X.take (st-P.length),X.drop (st-P.length),(List.take_append_drop _ X).symm,by simp;omega⟩
    obtain⟨Y1,Y2,hYe,hY1⟩:∃ Y1 Y2,Y=Y1++Y2/\Y1.length=mid-st:=⟨Y.take (mid-st),Y.drop (mid-st),(List.take_append_drop _ Y).symm,by simp;omega⟩
    have lX2:X1.length+X2.length=X.length:=by rw[hXe];simp
    have lY2:Y1.length+Y2.length=Y.length:=by rw[hYe];simp
    have getX2:∀ i x,X2[i]? =some x->X[st-P.length+i]? =some x:=λ i x h=>by
     rw[hXe,zAO (by omega),show st-P.length+i-X1.length=i by omega];exact h
    have getX1:∀ i x,X1[i]? =some x->X[i]? =some x:=λ i x h=>by
     have:=(zQ.1 h).1
     rw[hXe,zAW this];exact h
    have getY2:∀ i x,Y2[i]? =some x->Y[mid-st+i]? =some x:=λ i x h=>by
     rw[hYe,zAO (by omega),show mid-st+i-Y1.length=i by omega];exact h
    have getY1:∀ i x,Y1[i]? =some x->Y[i]? =some x:=λ i x h=>by
     have:=(zQ.1 h).1
     rw[hYe,zAW this];exact h
    have c1:∀ x∈X2,∀ y∈Y1,le x y=false:=λ x hx y hy=>by
     obtain⟨i,hi,ei⟩:=List.getElem_of_mem hx
     obtain⟨j,hj,ej⟩:=List.getElem_of_mem hy
     have gi:=getX2 i x (by rw[<- ei];exact zH hi)
     have gj:=getY1 j y (by rw[<- ej];exact zH hj)
     have h1:st-P.length<X.length:=by omega
     have h2:mid-1-st<Y.length:=by omega
     have hq:=b4 st (zM _) (by omega)
     have v:=qv st _ _ (by omega) (by omega) (zH h1) (zH h2) (by omega)
     have hq:leO le (P++(X++(Y++Q))) st (mid+(P.length+X.length)-1-st)=false:=hq
     rw[v]at hq
     cases hle:le x y with
     |false=>rfl
     |true =>
      have k1:=zFH hr sX (zH h1) gi (by omega)
      have k2:=zFH hr sY gj (zH h2) (by omega)
      rw[ht _ _ _ (ht _ _ _ k1 hle) k2]at hq;cases hq
    have c2:∀ x∈X1,∀ y∈Y2,le x y=true:=λ x hx y hy=>by
     obtain⟨i,hi,ei⟩:=List.getElem_of_mem hx
     obtain⟨j,hj,ej⟩:=List.getElem_of_mem hy
     have gi:=getX1 i x (by rw[<- ei];exact zH hi)
     have gj:=getY2 j y (by rw[<- ej];exact zH hj)
     have h1:st-1-P.length<X.length:=by omega
     have h2:mid-1-(st-1)<Y.length:=by omega
     have hq:=b3 (st-1) (by omega) (by omega)
     have v:=qv (st-1) _ _ (by omega) (by omega) (zH h1) (zH h2) (by omega)
     have hq:leO le (P++(X++(Y++Q))) (st-1) (mid+(P.length+X.length)-1-(st-1))=true:=hq
     rw[v]at hq
     have k1:=zFH hr sX gi (zH h1) (by omega)
     have k2:=zFH hr sY (zH h2) gj (by omega)
     exact ht _ _ _ (ht _ _ _ k1 hq) k2
    have hsplit:=zEO le _ X1 X2 Y1 Y2 rfl c1 c2
    have sX1:X1.Pairwise λ x y=>le x y=true:=(List.pairwise_append.1 (hXe▸sX)).1
    have sX2:X2.Pairwise λ x y=>le x y=true:=(List.pairwise_append.1 (hXe▸sX)).2.1
    have sY1:Y1.Pairwise λ x y=>le x y=true:=(List.pairwise_append.1 (hYe▸sY)).1
    have sY2:Y2.Pairwise λ x y=>le x y=true:=(List.pairwise_append.1 (hYe▸sY)).2.1
    have l1:(if st<P.length+X.length/\P.length+X.length<mid+(P.length+X.length)-st then rotG (P.length+X.length) (mid+(P.length+X.length)-st-st) (P.length+X.length-st) (mid+(P.length+X.length)-st-(P.length+X.length)) (P++(X++(Y++Q)))else P++(X++(Y++Q)))=P++(X1++(Y1++(X2++(Y2++Q)))):=by
     by_cases hc:st<P.length+X.length/\P.length+X.length<mid+(P.length+X.length)-st
     ·rw[if_pos hc]
      have h:=zPe (mid+(P.length+X.length)-st-st) (P.length+X.length-st) (mid+(P.length+X.length)-st-(P.length+X.length)) (P++X1) X2 Y1 (Y2++Q) (by omega) (by omega) (by omega) (by omega) (by omega)
      rw[zAK,show P.length+X1.length+(P.length+X.length-st)=P.length+X.length by omega]at h
      simp only[zAG]at h
      have e:P++(X++(Y++Q))=P++(X1++(X2++(Y1++(Y2++Q)))):=by rw[hXe,hYe];simp
      rw[e,h]
     ·rw[if_neg hc]
      rw[hXe,hYe]
      have:X2=[]∨Y1=[]:=by
       by_cases h1:st<P.length+X.length
       ·right;apply zCJ.1;omega
       ·left;apply zCJ.1;omega
      rcases this with h | h<;>subst h<;>simp
    rw[l1]
    have l2:(if P.length<st/\st<mid then symF le f P.length st mid (P++(X1++(Y1++(X2++(Y2++Q)))))else P++(X1++(Y1++(X2++(Y2++Q)))))=P++(List.merge X1 Y1 le++(X2++(Y2++Q))):=by
     by_cases hc:P.length<st/\st<mid
     ·rw[if_pos hc]
      have h:=zPh hr ht f P X1 Y1 (X2++(Y2++Q)) (λ e=>by rw[e]at hX1;simp at hX1;omega) (λ e=>by rw[e]at hY1;simp at hY1;omega) sX1 sY1 (by omega)
      rw[show P.length+X1.length=st by omega,show st+Y1.length=mid by omega]at h
      exact h
     ·rw[if_neg hc]
      have:X1=[]∨Y1=[]:=by
       by_cases h1:P.length<st
       ·right;apply zCJ.1;omega
       ·left;apply zCJ.1;omega
      rcases this with h | h<;>subst h<;>simp
    rw[l2]
    have l3:(if mid<mid+(P.length+X.length)-st/\mid+(P.length+X.length)-st<P.length+X.length+Y.length then symF le f mid (mid+(P.length+X.length)-st) (P.length+X.length+Y.length) (P++(List.merge X1 Y1 le++(X2++(Y2++Q))))else P++(List.merge X1 Y1 le++(X2++(Y2++Q))))=P++(List.merge X1 Y1 le++(List.merge X2 Y2 le++Q)):=by
     by_cases hc:mid<mid+(P.length+X.length)-st/\mid+(P.length+X.length)-st<P.length+X.length+Y.length
     ·rw[if_pos hc]
      have h:=zPh hr ht f (P++List.merge X1 Y1 le) X2 Y2 Q (λ e=>by rw[e]at lX2;simp at lX2;omega) (λ e=>by rw[e]at lY2;simp at lY2;omega) sX2 sY2 (by omega)
      rw[zAK,zHQ,show P.length+(X1.length+Y1.length)=mid by omega,show mid+X2.length=mid+(P.length+X.length)-st by omega,show mid+(P.length+X.length)-st+Y2.length=P.length+X.length+Y.length by omega]at h
      simp only[zAG]at h
      exact h
     ·rw[if_neg hc]
      have:X2=[]∨Y2=[]:=by
       by_cases h1:mid<mid+(P.length+X.length)-st
       ·right;apply zCJ.1;omega
       ·left;apply zCJ.1;omega
      rcases this with h | h<;>subst h<;>simp
    rw[l3,hXe,hYe,hsplit,zAG]
def insD:Nat->Nat->List α->List α
 | 0,_,l=>l
 |n+1,k,l=>if leO le l (k-1) k then l else insD n (k-1) (sw l k (k-1))
theorem zTo(hr:∀ x,le x x=true) (ht:∀ x y z,le x y=true->le y z=true->le x z=true):∀(n:Nat) (P X Q:List α) (y:α),X.length=n->X.Pairwise (λ x y=>le x y=true) ->
 insD le n (P.length+n) (P++(X++y::Q))=P++(List.merge X [y] le++Q)
 | 0,P,X,Q,y,h,sX=>by
  have h1:X=[]:=zCJ.1 h
  subst h1
  unfold insD
  simp
 |n+1,P,X,Q,y,h,sX=>by
  obtain⟨X',x,rfl⟩:∃ X' x,X=X' ++[x]:=⟨X.dropLast,X.getLast (by intro e;subst e;simp at h),(List.dropLast_concat_getLast _).symm⟩
  have hX:X'.length=n:=by simpa using h
  have sX' :=(List.pairwise_append.1 sX).1
  have g1:(P++(X' ++[x]++y::Q))[P.length+(n+1)-1]? =some x:=by
   rw[zAO (by omega),show P.length+(n+1)-1-P.length=X'.length by omega];simp
  have g2:(P++(X' ++[x]++y::Q))[P.length+(n+1)]? =some y:=by
   rw[zAO (by omega),show P.length+(n+1)-P.length=(X' ++[x]).length by simp;omega,zAO (zM _)];simp
  have hv:leO le (P++(X' ++[x]++y::Q)) (P.length+(n+1)-1) (P.length+(n+1))=le x y:=by
   unfold leO;rw[g1,g2]
  unfold insD
  rw[hv]
  by_cases hle:le x y=true
  ·rw[if_pos hle]
   have hall:∀ z∈X' ++[x],le z y=true:=λ z hz=>by
    rcases List.mem_append.1 hz with h1 | h1
    ·exact ht _ _ _ ((List.pairwise_append.1 sX).2.2 z h1 x (by simp)) hle
    ·simp at h1;subst h1;exact hle
   have hm:=zJw le y (X' ++[x]) [] hall (λ z hz=>by simp at hz)
   rw[zBN]at hm
   rw[hm];simp
  ·rw[if_neg hle]
   have e:=z23 (P++X') [] Q x y
   simp only[List.nil_append,List.length_nil,Nat.add_zero,zAK,zAG,hX]at e
   have ih:=zTo hr ht n P X' (x::Q) y hX sX'
   have hm:=zEO le _ X' [x] [y] [] rfl (λ a ha b hb=>by simp at ha hb;subst ha;subst hb;simpa using hle) (λ a ha b hb=>by simp at hb)
   rw[zBN,zPg]at hm
   rw[hm,show P.length+(n+1)-1=P.length+n by omega,show P.length+(n+1)=P.length+n+1 by omega]
   simp only[zAG,List.cons_append,List.nil_append]at ih ⊢
   rw[e]
   exact ih
def insG:Nat->Nat->Nat->List α->List α
 | 0,_,_,l=>l
 |n+1,a,i,l=>insG n a (i+1) (insD le (i-a) i l)
def zWc(X Z:List α):List α:=Z.foldl (λ acc y=>List.merge acc [y] le) X
theorem zGL(hr:∀ x y,le x y=true∨le y x=true) (ht:∀ x y z,le x y=true->le y z=true->le x z=true) {X Y:List α} (sX:X.Pairwise λ x y=>le x y=true) (sY:Y.Pairwise λ x y=>le x y=true) :
 (List.merge X Y le).Pairwise λ x y=>le x y=true :=
 List.pairwise_merge (le:=le) (λ a b c h1 h2=>ht a b c h1 h2) (λ a b=>by rcases hr a b with h | h<;>simp[h]) X Y sX sY
theorem zTp(hr:∀ x y,le x y=true∨le y x=true) (ht:∀ x y z,le x y=true->le y z=true->le x z=true):∀(n:Nat) (P X Z Q:List α),Z.length=n->X.Pairwise (λ x y=>le x y=true) ->
 insG le n P.length (P.length+X.length) (P++(X++(Z++Q)))=P++(zWc le X Z++Q)
 | 0,P,X,Z,Q,h,sX=>by
  have h1:Z=[]:=zCJ.1 h
  subst h1;rfl
 |n+1,P,X,[],Q,h,sX=>by simp at h
 |n+1,P,X,y::Z,Q,h,sX=>by
  have hr' :∀ x,le x x=true:=λ x=>by rcases hr x x with h | h<;>exact h
  have h1:=zTo le hr' ht X.length P X (Z++Q) y rfl sX
  have ih:=zTp hr ht n P (List.merge X [y] le) Z Q (by simpa using h) (zGL le hr ht sX (by simp))
  unfold insG
  rw[show P.length+X.length-P.length=X.length by omega,List.cons_append,h1]
  rw[zHQ]at ih
  exact ih
abbrev Srt (l:List α):Prop:=l.Pairwise λ x y=>le x y=true
inductive ChS (s:Nat):List α->Prop
 |last (l:List α) (h:l.length<=s) (o:Srt le l):ChS s l
 |cons (x l:List α) (h:x.length=s) (o:Srt le x) (k:ChS s l):ChS s (x++l)
def eqk(k y:α):Bool:=le k y&&le y k
theorem zJx(hr:∀ x y,le x y=true∨le y x=true) (ht:∀ x y z,le x y=true->le y z=true->le x z=true) (k:α):∀(X Y:List α),Srt le X->(List.merge X Y le).filter (eqk le k)=X.filter (eqk le k)++Y.filter (eqk le k)
 | [],Y,_=>by simp
 |x::X,[],_=>by simp
 |x::X,y::Y,h=>by
  have h2:=List.pairwise_cons.1 h
  rw[List.cons_merge_cons]
  cases hxy:le x y with
  |true =>
   rw[if_pos rfl,List.filter_cons,List.filter_cons (xs:=X),zJx hr ht k X (y::Y) h2.2]
   split<;>rfl
  |false =>
   rw[if_neg (by simp),List.filter_cons,List.filter_cons (xs:=Y),zJx hr ht k (x::X) Y h]
   cases hp:eqk le k y with
   |false=>simp
   |true =>
    have e:(x::X).filter (eqk le k)=[]:=by
     refine List.filter_eq_nil_iff.2 λ z hz hk=> ?_
     simp only[eqk,zF]at hp hk
     have hxz:le x z=true:=by
      rcases zAE.1 hz with rfl | hz
      ·rcases hr z z with h | h<;>exact h
      ·exact h2.1 z hz
     have:=ht _ _ _ hxz (ht _ _ _ hk.2 hp.1)
     rw[hxy]at this;cases this
    rw[e];simp
structure Keeps (l l' :List α):Prop where
 perm:l'.Perm l
 same:Srt le l->l' =l
 filt:∀ k,l'.filter (eqk le k)=l.filter (eqk le k)
theorem Keeps.refl(l:List α):Keeps le l l:=⟨List.Perm.refl _,λ _=>rfl,λ _=>rfl⟩
theorem Keeps.trans{a b c:List α} (h:Keeps le a b) (k:Keeps le b c):Keeps le a c:=⟨k.perm.trans h.perm,λ o=>by
 have e:=h.same o
 rw[e]at k
 rw[k.same o],λ q=>(k.filt q).trans (h.filt q)⟩
theorem Keeps.front{a b:List α} (x:List α) (h:Keeps le a b):Keeps le (x++a) (x++b):=⟨h.perm.append_left x,λ o=>by rw[h.same (List.pairwise_append.1 o).2.1],λ k=>by rw[List.filter_append,List.filter_append,h.filt k]⟩
theorem Keeps.back{a b:List α} (x:List α) (h:Keeps le a b):Keeps le (a++x) (b++x):=⟨h.perm.append_right x,λ o=>by rw[h.same (List.pairwise_append.1 o).1],λ k=>by rw[List.filter_append,List.filter_append,h.filt k]⟩
theorem zIo(hr:∀ x y,le x y=true∨le y x=true) (ht:∀ x y z,le x y=true->le y z=true->le x z=true) (X Y:List α) (h:Srt le X):Keeps le (X++Y) (List.merge X Y le) :=
 ⟨List.merge_perm_append le,λ o=>List.merge_of_le λ x y hx hy=>(List.pairwise_append.1 o).2.2 x hx y hy,λ k=>by rw[zJx le hr ht k X Y h,List.filter_append]⟩
def pass(s n:Nat):Nat->Nat->List α->List α
 | 0,_,l=>l
 |f+1,a,l=>if a+2*s<=n then pass s n f (a+2*s) (symF le (2*s) a (a+s) (a+2*s) l)else if a+s<n then symF le (n-a) a (a+s) n l else l
theorem zPi(hr:∀ x y,le x y=true∨le y x=true) (ht:∀ x y z,le x y=true->le y z=true->le x z=true) {s:Nat} (hs:0<s):∀(f:Nat) (D R:List α) (n:Nat),ChS le s R->n=D.length+R.length->R.length<f ->
 ∃ R',pass le s n f D.length (D++R)=D++R' /\ChS le (2*s) R' /\Keeps le R R'
 | 0,D,R,n,h,hn,hf=>by omega
 |f+1,D,R,n,h,hn,hf=>by
  have hr' :∀ x,le x x=true:=λ x=>by rcases hr x x with h | h<;>exact h
  cases h with
  |last l h o =>
   unfold pass
   rw[if_neg (by omega),if_neg (by omega)]
   exact⟨R,rfl,.last _ (by omega) o,Keeps.refl le R⟩
  |cons x l h o k =>
   have two:∀(y q:List α),y.length<=s->y≠[]->Srt le y->∀ F,x.length+y.length<=F->symF le F D.length (D.length+s) (D.length+(x.length+y.length)) (D++(x++(y++q)))=D++(List.merge x y le++q):=λ y q h1 h2 h3 F hF=>by
    have:=zPh le hr' ht F D x y q (λ e=>by rw[e]at h;simp at h;omega) h2 o h3 hF
    rw[h]at this ⊢
    rw[Nat.add_assoc]at this
    exact this
   cases k with
   |last _ h1 o1 =>
    unfold pass
    by_cases c1:D.length+2*s<=n
    ·rw[if_pos c1]
     simp only[zAK]at hn
     have hl:l.length=s:=by omega
     have ht2:=two l [] h1 (λ e=>by rw[e]at hl;simp at hl;omega) o1 (2*s) (by omega)
     rw[zBN,zBN,show D.length+(x.length+l.length)=D.length+2*s by omega]at ht2
     rw[ht2]
     obtain⟨R',e1,e2,e3⟩:=zPi hr ht hs f (D++List.merge x l le) [] n (.last _ (by simp) (by simp)) (by simp;omega) (by simp at hf;simp;omega)
     have e0:R' =[]:=by
      have:=e3.perm.length_eq
      exact zCJ.1 (by simpa using this)
     subst e0
     rw[zBN,zAK,zHQ,show D.length+(x.length+l.length)=D.length+2*s by omega]at e1
     refine⟨List.merge x l le,e1,.last _ (by rw[zHQ];omega) (zGL le hr ht o o1),zIo le hr ht x l o⟩
    ·rw[if_neg c1]
     simp only[zAK]at hn
     by_cases c2:D.length+s<n
     ·rw[if_pos c2]
      have ht2:=two l [] h1 (λ e=>by rw[e]at hn;simp at hn;omega) o1 (n-D.length) (by omega)
      rw[zBN,zBN,show D.length+(x.length+l.length)=n by omega]at ht2
      rw[ht2]
      exact⟨List.merge x l le,rfl,.last _ (by rw[zHQ];omega) (zGL le hr ht o o1),zIo le hr ht x l o⟩
     ·rw[if_neg c2]
      have hl:l=[]:=zCJ.1 (by omega)
      subst hl
      rw[zBN]
      exact⟨x,rfl,.last _ (by omega) o,Keeps.refl le x⟩
   |cons y q h1 o1 k1 =>
    unfold pass
    simp only[zAK]at hn hf
    rw[if_pos (by omega)]
    have ht2:=two y q (by omega) (λ e=>by rw[e]at h1;simp at h1;omega) o1 (2*s) (by omega)
    rw[show D.length+(x.length+y.length)=D.length+2*s by omega]at ht2
    rw[ht2]
    obtain⟨R',e1,e2,e3⟩:=zPi hr ht hs f (D++List.merge x y le) q n k1 (by simp;omega) (by omega)
    rw[zAK,zHQ,show D.length+(x.length+y.length)=D.length+2*s by omega,zAG]at e1
    refine⟨List.merge x y le++R',by rw[e1,zAG],.cons _ _ (by rw[zHQ];omega) (zGL le hr ht o o1) e2,?_⟩
    have m1:=(zIo le hr ht x y o).back le q
    rw[zAG]at m1
    exact m1.trans le (e3.front le _)
def insB(a b:Nat) (l:List α):List α:=insG le (b-(a+1)) a (a+1) l
theorem zPj(hr:∀ x y,le x y=true∨le y x=true) (ht:∀ x y z,le x y=true->le y z=true->le x z=true):∀(Z X:List α),Srt le X->Srt le (zWc le X Z)/\Keeps le (X++Z) (zWc le X Z)
 | [],X,h=>⟨h,by rw[zBN];exact Keeps.refl le X⟩
 |y::Z,X,h=>by
  obtain⟨h1,h2⟩:=zPj hr ht Z (List.merge X [y] le) (zGL le hr ht h (by simp))
  refine⟨h1,?_⟩
  have k:=(zIo le hr ht X [y] h).back le Z
  rw[zAG]at k
  exact k.trans le h2
theorem zTq(hr:∀ x y,le x y=true∨le y x=true) (ht:∀ x y z,le x y=true->le y z=true->le x z=true) (P Z Q:List α):∃ Z',insB le P.length (P.length+Z.length) (P++(Z++Q))=P++(Z' ++Q)/\Srt le Z' /\Keeps le Z Z' :=by
 cases Z with
 |nil=>exact⟨[],by unfold insB;rw[show P.length+([]:List α).length-(P.length+1)=0 by simp];rfl,by simp,Keeps.refl le _⟩
 |cons z Z =>
  have h:=zTp le hr ht Z.length P [z] Z Q rfl (by simp)
  obtain⟨h1,h2⟩:=zPj le hr ht Z [z] (by simp)
  refine⟨zWc le [z] Z,?_,h1,h2⟩
  unfold insB
  rw[show P.length+(z::Z).length-(P.length+1)=Z.length by simp;omega]
  exact h
def blk1(n:Nat):Nat->Nat->List α->List α
 | 0,_,l=>l
 |f+1,a,l=>if a+20<=n then blk1 n f (a+20) (insB le a (a+20) l)else insB le a n l
theorem zTr(hr:∀ x y,le x y=true∨le y x=true) (ht:∀ x y z,le x y=true->le y z=true->le x z=true):∀(f:Nat) (D R:List α) (n:Nat),n=D.length+R.length->R.length<f ->
 ∃ R',blk1 le n f D.length (D++R)=D++R' /\ChS le 20 R' /\Keeps le R R'
 | 0,D,R,n,hn,hf=>by omega
 |f+1,D,R,n,hn,hf=>by
  unfold blk1
  by_cases c:D.length+20<=n
  ·rw[if_pos c]
   obtain⟨Z,Q,rfl,hZ⟩:∃ Z Q,R=Z++Q/\Z.length=20:=⟨R.take 20,R.drop 20,(List.take_append_drop 20 R).symm,by simp;omega⟩
   simp only[zAK]at hn hf
   obtain⟨Z',e1,e2,e3⟩:=zTq le hr ht D Z Q
   rw[hZ]at e1
   have hZ' :Z'.length=20:=by rw[e3.perm.length_eq,hZ]
   rw[e1]
   obtain⟨R',k1,k2,k3⟩:=zTr hr ht f (D++Z') Q n (by simp;omega) (by omega)
   rw[zAK,hZ',zAG]at k1
   refine⟨Z' ++R',by rw[k1,zAG],.cons _ _ hZ' e2 k2,(e3.back le Q).trans le (k3.front le Z')⟩
  ·rw[if_neg c]
   obtain⟨Z',e1,e2,e3⟩:=zTq le hr ht D R []
   rw[zBN,zBN,<-hn]at e1
   exact⟨Z',e1,.last _ (by rw[e3.perm.length_eq];omega) e2,e3⟩
def stL(n:Nat):Nat->Nat->List α->List α
 | 0,_,l=>l
 |f+1,s,l=>if s<n then stL n f (2*s) (pass le s n (n+1) 0 l)else l
theorem zQv{s:Nat} {l:List α} (h:ChS le s l) (hl:l.length<=s):Srt le l:=by
 cases h with
 |last _ h o=>exact o
 |cons x q h o k =>
  have:q=[]:=zCJ.1 (by simp at hl;omega)
  subst this
  rw[zBN];exact o
theorem zWd(hr:∀ x y,le x y=true∨le y x=true) (ht:∀ x y z,le x y=true->le y z=true->le x z=true):∀(f s:Nat) (l:List α),0<s->ChS le s l->l.length<f+s->Srt le (stL le l.length f s l)/\Keeps le l (stL le l.length f s l)
 | 0,s,l,hs,h,hf=>by
  show Srt le l/\Keeps le l l
  exact⟨zQv le h (by omega),Keeps.refl le l⟩
 |f+1,s,l,hs,h,hf=>by
  unfold stL
  by_cases c:s<l.length
  ·rw[if_pos c]
   obtain⟨R',e1,e2,e3⟩:=zPi le hr ht hs (l.length+1) [] l l.length h (by simp) (by omega)
   simp only[List.length_nil,List.nil_append]at e1
   rw[e1]
   have hl:=e3.perm.length_eq
   obtain⟨k1,k2⟩:=zWd hr ht f (2*s) R' (by omega) e2 (by omega)
   rw[hl]at k1 k2
   exact⟨k1,e3.trans le k2⟩
  ·rw[if_neg c]
   exact⟨zQv le h (by omega),Keeps.refl le l⟩
theorem zVf(hr:∀ x y,le x y=true∨le y x=true) (ht:∀ x y z,le x y=true->le y z=true->le x z=true) (l:List α) :
 Srt le (stL le l.length l.length 20 (blk1 le l.length (l.length+1) 0 l))/\Keeps le l (stL le l.length l.length 20 (blk1 le l.length (l.length+1) 0 l)):=by
 obtain⟨R',e1,e2,e3⟩:=zTr le hr ht (l.length+1) [] l l.length (by simp) (by omega)
 simp only[List.length_nil,List.nil_append]at e1
 rw[e1]
 have hl:=e3.perm.length_eq
 obtain⟨k1,k2⟩:=zWd le hr ht l.length 20 R' (by omega) e2 (by omega)
 rw[hl]at k1 k2
 exact⟨k1,e3.trans le k2⟩
end
end Go.Cf

namespace Go.Cf
open Go Go.Ab
def keyR(at_:Int) (r:List Val):Int×Int:=bif decide (at_<0)then(0,0)else match r[at_.toNat]? with | some v=>bif mayV v then(v.K,v.N)else(2,0) | none=>(0,0)
theorem zRx(r:List Val) (at_:Int):wc W zKR [rowp r,.int .i64 at_]=some (.agg [.int .i64 (keyR at_ r).1,.int .i64 (keyR at_ r).2]):=by
 have h:=z12 (r.map Val.pv) at_
 rw[zAA]at h
 rw[h,zK]
 unfold keyR
 by_cases h0:at_<0
 ·rw[zD h0];rfl
 ·rw[zL h0]
  simp only[zC]
  by_cases h1:at_≥(r.length:Int)
  ·rw[zD h1,zGZ (by omega)];rfl
  ·have hlt:at_.toNat<r.length:=by omega
   rw[zL h1]
   simp only[zC,zR9,zD (show(0:Int)<=at_ by omega),zA,zN,zH hlt,zV,zB,Val.c_mk,Val.fold,zJn,c_b_mk,zRa]
   cases mayV r[at_.toNat]<;>rfl
def cmpB(a b:Int×Int):Int:=if a.1<b.1 then -1 else if a.1>b.1 then 1 else if a.2<b.2 then -1 else if a.2>b.2 then 1 else 0
theorem zWe(a b:Int):wc W zDO [.int .i64 a,.int .i64 b]=some (.int .i64 (if a<b then -1 else if a>b then 1 else 0)):=by
 rw[zMs,zJm,zJm,zLq rfl,zLq rfl]
 simp only[zB,c_b_mk,zC]
 by_cases h:a<b
 ·rw[zD h,if_pos h];rfl
 ·rw[zL h,if_neg h]
  by_cases h' :a>b
  ·rw[zD h',if_pos h'];rfl
  ·rw[zL h',if_neg h'];rfl
theorem zTs(a b:Int×Int):wc W zG3 [.agg [.int .i64 a.1,.int .i64 a.2],.agg [.int .i64 b.1,.int .i64 b.2]]=some (.int .i64 (cmpB a b)):=by
 obtain⟨a1,a2⟩:=a
 obtain⟨b1,b2⟩:=b
 rw[zR8,zIM]
 have z1:([PV.int .i64 a1,PV.int .i64 a2]:List PV).length=2:=rfl
 have w1:IntKind.wrap .i64 ((0:Int)+1)=1:=by decide
 have w2:IntKind.wrap .i64 ((1:Int)+1)=2:=by decide
 unfold cmpB
 have f1:decide ((0:Int)<((0+1+1:Nat):Int))=true:=rfl
 have f2:decide ((1:Int)<((0+1+1:Nat):Int))=true:=rfl
 have f3:decide ((2:Int)<((0+1+1:Nat):Int))=false:=rfl
 have f4:decide ((0:Int)<=0)=true:=rfl
 have f5:decide ((0:Int)<=1)=true:=rfl
 have f6:decide ((0:Int)≥((0+1+1:Nat):Int))=false:=rfl
 have f7:decide ((1:Int)≥((0+1+1:Nat):Int))=false:=rfl
 have f8:decide (((0+1+1:Nat):Int)<((0+1+1:Nat):Int))=false:=rfl
 have f9:Int.toNat 0=0:=rfl
 have f10:Int.toNat 1=1:=rfl
 rw[zCZ]
 simp only[List.length_cons,List.length_nil,w1,w2,c_i64_mk,zAS,zAq,zB,zWe,c_b_mk,zA,zC,f1,f2,f3,f4,f5,f6,f7,f8,f9,f10]
 rw[zCZ]
 simp only[List.length_cons,List.length_nil,w1,w2,c_i64_mk,zAS,zAq,zB,zWe,c_b_mk,zA,zC,f1,f2,f3,f4,f5,f6,f7,f8,f9,f10]
 rw[zCZ]
 simp only[List.length_cons,List.length_nil,w1,w2,c_i64_mk,zAS,zAq,zB,zWe,c_b_mk,zA,zC,f1,f2,f3,f4,f5,f6,f7,f8,f9,f10]
 rcases Int.lt_trichotomy a1 b1 with h | h | h
 ·rw[show(a1==b1)=false by rw[beq_eq_false_iff_ne];omega];simp only[if_pos h];rfl
 ·subst h
  simp only[zBj,gt_iff_lt,Int.lt_irrefl,if_false,zA]
  rcases Int.lt_trichotomy a2 b2 with h | h | h
  ·rw[show(a2==b2)=false by rw[beq_eq_false_iff_ne];omega,if_pos h];rfl
  ·subst h;simp only[zBj,Int.lt_irrefl,if_false];rfl
  ·rw[show(a2==b2)=false by rw[beq_eq_false_iff_ne];omega,if_neg (show ¬ a2<b2 by omega),if_pos h];rfl
 ·rw[show(a1==b1)=false by rw[beq_eq_false_iff_ne];omega];simp only[gt_iff_lt,if_neg (show ¬ a1<b1 by omega),if_pos h];rfl
def leR(at_:Int) (r s:List Val):Bool:= !decide (cmpB (keyR at_ s) (keyR at_ r)<0)
theorem zVg(a b:Int×Int):cmpB a b<0↔a.1<b.1∨(a.1=b.1/\a.2<b.2):=by
 unfold cmpB
 split
 ·constructor<;>intro<;>omega
 ·split
  ·constructor<;>intro<;>omega
  ·split
   ·constructor<;>intro<;>omega
   ·split<;>constructor<;>intro<;>omega
theorem zVh(at_:Int) (r s:List Val):leR at_ r s=true↔(keyR at_ r).1<(keyR at_ s).1∨((keyR at_ r).1=(keyR at_ s).1/\(keyR at_ r).2<=(keyR at_ s).2):=by
 unfold leR
 rw[Bool.not_eq_true',decide_eq_false_iff_not,zVg]
 constructor<;>intro<;>omega
theorem z0H(at_:Int) (r s:List Val):leR at_ r s=true∨leR at_ s r=true:=by
 rw[zVh,zVh];omega
theorem zTt(at_:Int) (r s t:List Val) (h:leR at_ r s=true) (k:leR at_ s t=true):leR at_ r t=true:=by
 rw[zVh]at *;omega
theorem zRy(r s:List Val) (at_:Int):W zR false [.pv (rowp r),.pv (rowp s),.own 0 0] [.var false 0 (.pv (.int .i64 at_))]=some (.pv (.int .i64 (cmpB (keyR at_ r) (keyR at_ s))),[.var false 0 (.pv (.int .i64 at_))]):=by
 have h:=zMp (r.map Val.pv) (s.map Val.pv) at_
 rw[zAA,zAA,zRx,zRx]at h
 have c:=zTs (keyR at_ r) (keyR at_ s)
 simp only[zB,c_g_i64_i64_mk,c,c_i64_mk]at h
 exact h
theorem zHl{α:Type} (l:List α) (i j:Nat):(sw l i j).length=l.length:=by
 unfold sw
 split
 ·simp
 ·rfl
theorem zGM{α:Type}:∀(n a b:Nat) (l:List α),(zQM n a b l).length=l.length
 | 0,_,_,_=>rfl
 |n+1,a,b,l=>by unfold zQM;rw[zGM n,zHl]
theorem z0I{α:Type}:∀(n k:Nat) (l:List α),(mvR n k l).length=l.length
 | 0,_,_=>rfl
 |n+1,k,l=>by unfold mvR;rw[z0I n,zHl]
theorem z0J{α:Type}:∀(n k:Nat) (l:List α),(mvL n k l).length=l.length
 | 0,_,_=>rfl
 |n+1,k,l=>by unfold mvL;rw[z0J n,zHl]
theorem zMG{α:Type} (m:Nat):∀(f i j:Nat) (l:List α),(rotG m f i j l).length=l.length
 | 0,_,_,_=>rfl
 |f+1,i,j,l=>by
  unfold rotG
  split
  ·exact zGM _ _ _ _
  ·split
   ·rw[zMG m f,zGM]
   ·rw[zMG m f,zGM]
theorem zWf{α:Type} (le:α->α->Bool):∀(n k:Nat) (l:List α),(insD le n k l).length=l.length
 | 0,_,_=>rfl
 |n+1,k,l=>by
  unfold insD
  split
  ·rfl
  ·rw[zWf le n,zHl]
theorem zRz{α:Type} (le:α->α->Bool):∀(n a i:Nat) (l:List α),(insG le n a i l).length=l.length
 | 0,_,_,_=>rfl
 |n+1,a,i,l=>by unfold insG;rw[zRz le n,zWf]
theorem zNC{α:Type} {p:Prop} [Decidable p] {x y:List α} {n:Nat} (h:x.length=n) (k:y.length=n):(if p then x else y).length=n:=by split<;>assumption
def symS{α:Type} (le:α->α->Bool) (f a m b mid st en:Nat) (l:List α):List α :=
 let l1:=if st<m/\m<en then rotG m (en-st) (m-st) (en-m) l else l
 let l2:=if a<st/\st<mid then symF le f a st mid l1 else l1
 if mid<en/\en<b then symF le f mid en b l2 else l2
theorem zTu{α:Type} (le:α->α->Bool) (f a m b:Nat) (l:List α):symF le (f+1) a m b l =
 if m-a=1 then mvR (bs (λ h=> !leO le l a h) (b-m) m b-1-a) a l
 else if b-m=1 then mvL (m-bs (λ h=>leO le l h m) (m-a) a m) m l
 else if m>(a+b) / 2 then
  symS le f a m b ((a+b) / 2) (bs (λ c=>leO le l c ((a+b) / 2+m-1-c)) ((a+b) / 2-((a+b) / 2+m-b)) ((a+b) / 2+m-b) ((a+b) / 2)) ((a+b) / 2+m-bs (λ c=>leO le l c ((a+b) / 2+m-1-c)) ((a+b) / 2-((a+b) / 2+m-b)) ((a+b) / 2+m-b) ((a+b) / 2)) l
 else
  symS le f a m b ((a+b) / 2) (bs (λ c=>leO le l c ((a+b) / 2+m-1-c)) (m-a) a m) ((a+b) / 2+m-bs (λ c=>leO le l c ((a+b) / 2+m-1-c)) (m-a) a m) l:=by
 rw[symF]
 split
 ·rfl
 ·split
  ·rfl
  ·by_cases h:m>(a+b) / 2
   ·simp only[if_pos h];rfl
   ·simp only[if_neg h];rfl
theorem zK5{α:Type} (le:α->α->Bool):∀(f a m b:Nat) (l:List α),(symF le f a m b l).length=l.length
 | 0,_,_,_,_=>rfl
 |f+1,a,m,b,l=>by
  have hS:∀ st en mid,(symS le f a m b mid st en l).length=l.length:=λ st en mid=>by
   have h1:(if st<m/\m<en then rotG m (en-st) (m-st) (en-m) l else l).length=l.length:=zNC (zMG _ _ _ _ _) rfl
   unfold symS
   simp only
   generalize (if st<m/\m<en then rotG m (en-st) (m-st) (en-m) l else l)=l1 at h1
   have h2:(if a<st/\st<mid then symF le f a st mid l1 else l1).length=l.length:=zNC ((zK5 le f _ _ _ _).trans h1) h1
   generalize (if a<st/\st<mid then symF le f a st mid l1 else l1)=l2 at h2
   exact zNC ((zK5 le f _ _ _ _).trans h2) h2
  rw[zTu]
  exact zNC (z0I _ _ _) (zNC (z0J _ _ _) (zNC (hS _ _ _) (hS _ _ _)))
theorem zYR(q:Nat->Bool):∀(f lo hi:Nat),lo<=hi->lo<=bs q f lo hi/\bs q f lo hi<=hi
 | 0,lo,hi,h=>⟨zM _,h⟩
 |f+1,lo,hi,h=>by
  unfold bs
  split
  ·split
   ·have:=zYR q f ((lo+hi) / 2+1) hi (by omega);omega
   ·have:=zYR q f lo ((lo+hi) / 2) (by omega);omega
  ·omega
theorem zWg(l:List (List Val)) (i j:Nat) (hi:i<l.length) (hj:j<l.length):((l.map rowp).set i (rowp l[j])).set j (rowp l[i])=(sw l i j).map rowp:=by
 unfold sw
 rw[zH hi,zH hj]
 simp only[List.map_set]
def zFL(l:List (List Val)) (at_:Int):Option (AV×List Ob):=some (.pv (.tup []),[.fix 0 0 (l.map rowp),.var false 0 (.pv (.int .i64 at_))])
theorem zTv(at_:Int) (a b n:Nat):∀(k i:Nat) (l:List (List Val)),i+k=n->a+n<=l.length->b+n<=l.length->l.length<=1000000000 ->
 zAu (a:Int) (b:Int) (n:Int) (i:Int) (l.map rowp) at_=zFL (zQM k (a+i) (b+i) l) at_
 | 0,i,l,h,ha,hb,hl=>by
  rw[zBw,show i=n by omega]
  simp only[zFU,zC];rfl
 |k+1,i,l,h,ha,hb,hl=>by
  have h1:a+i<l.length:=by omega
  have h2:b+i<l.length:=by omega
  have e1:IntKind.wrap .i64 ((a:Int)+(i:Int))=((a+i:Nat):Int):=by rw[zAU (by omega) (by omega)];omega
  have e2:IntKind.wrap .i64 ((b:Int)+(i:Int))=((b+i:Nat):Int):=by rw[zAU (by omega) (by omega)];omega
  rw[zBw]
  simp only[zAQ (show i<n by omega),zA,e1,e2,zAc,zAD,List.length_set,zK,zAQ h1,zAQ h2,zY,zN,zH h1,zH h2,zV,zB,zDA,zAA]
  have h3:b+i<((l.map rowp).set (a+i) (rowp l[b+i])).length:=by simpa using h2
  rw[zH h3]
  simp only[zB]
  rw[zWg l (a+i) (b+i) h1 h2,zAB (by omega)]
  exact zTv at_ a b n k (i+1) (sw l (a+i) (b+i)) (by omega) (by rw[zHl];exact ha) (by rw[zHl];exact hb) (by rw[zHl];exact hl)
theorem zLX(at_:Int) (a b n:Nat) (l:List (List Val)) (ha:a+n<=l.length) (hb:b+n<=l.length) (hl:l.length<=1000000000) :
 W zAm false [.fx 0 0,.pv (.int .i64 (a:Int)),.pv (.int .i64 (b:Int)),.pv (.int .i64 (n:Int)),.fnv zR [] [.own 1 0]] [.fix 0 0 (l.map rowp),.var false 0 (.pv (.int .i64 at_))]=zFL (zQM n a b l) at_:=by
 rw[zEZ]
 exact zTv at_ a b n n 0 l (by omega) ha hb hl
theorem zSA(at_:Int) (m:Nat):∀(f i j:Nat) (l:List (List Val)),0<i->0<j->i+j<=f->i<=m->m+j<=l.length->l.length<=1000000000 ->
 zAg (m:Int) (i:Int) (j:Int) (l.map rowp) at_=zFL (rotG m f i j l) at_
 | 0,i,j,l,hi,hj,hf,_,_,_=>by omega
 |f+1,i,j,l,hi,hj,hf,him,hmj,hl=>by
  have e1:IntKind.wrap .i64 ((m:Int)-(i:Int))=((m-i:Nat):Int):=by rw[zAU (by omega) (by omega)];omega
  rw[zEY]
  unfold rotG
  rcases Nat.lt_trichotomy i j with h | h | h
  ·rw[zLI (by omega),zL (by omega),if_neg (by omega),if_neg (by omega)]
   have e2:IntKind.wrap .i64 ((IntKind.wrap .i64 ((m:Int)+(j:Int)))-(i:Int))=((m+j-i:Nat):Int):=by rw[zAU (n:=(m:Int)+j) (by omega) (by omega),zAU (by omega) (by omega)];omega
   have e3:IntKind.wrap .i64 ((j:Int)-(i:Int))=((j-i:Nat):Int):=by rw[zAU (by omega) (by omega)];omega
   have hs:=zLX at_ (m-i) (m+j-i) i l (by omega) (by omega) hl
   simp only[zA,zC,e1,e2,e3,hs,zFL,zB,k_c4d914_mk]
   exact zSA at_ m f i (j-i) _ hi (by omega) (by omega) him (by rw[zGM];omega) (by rw[zGM];exact hl)
  ·subst h
   have hs:=zLX at_ (m-i) m i l (by omega) (by omega) hl
   rw[zLq rfl,if_pos rfl]
   simp only[zC,e1,hs,zFL,zB,k_c4d914_mk]
  ·rw[zLI (by omega),zD (by omega),if_neg (by omega),if_pos h]
   have e3:IntKind.wrap .i64 ((i:Int)-(j:Int))=((i-j:Nat):Int):=by rw[zAU (by omega) (by omega)];omega
   have hs:=zLX at_ (m-i) m j l (by omega) (by omega) hl
   simp only[zA,zC,e1,e3,hs,zFL,zB,k_c4d914_mk]
   exact zSA at_ m f (i-j) j _ (by omega) hj (by omega) (by omega) (by rw[zGM];omega) (by rw[zGM];exact hl)
theorem z1o(at_:Int) (a m b:Nat) (l:List (List Val)) (h1:a<m) (h2:m<b) (h3:b<=l.length) (hl:l.length<=1000000000) :
 W zCN false [.fx 0 0,.pv (.int .i64 (a:Int)),.pv (.int .i64 (m:Int)),.pv (.int .i64 (b:Int)),.fnv zR [] [.own 1 0]] [.fix 0 0 (l.map rowp),.var false 0 (.pv (.int .i64 at_))]=zFL (rotG m (b-a) (m-a) (b-m) l) at_:=by
 rw[zEu,show IntKind.wrap .i64 ((m:Int)-(a:Int))=((m-a:Nat):Int) by rw[zAU (by omega) (by omega)];omega,show IntKind.wrap .i64 ((b:Int)-(m:Int))=((b-m:Nat):Int) by rw[zAU (by omega) (by omega)];omega]
 exact zSA at_ m (b-a) (m-a) (b-m) l (by omega) (by omega) (by omega) (by omega) (by omega) hl
theorem zSB(at_:Int) (l:List (List Val)) (i j:Nat) (hi:i<l.length) (hj:j<l.length):leO (leR at_) l i j= !decide (cmpB (keyR at_ l[j]) (keyR at_ l[i])<0):=by
 unfold leO
 rw[zH hi,zH hj];rfl
theorem zPk(at_:Int) (a b:Nat):∀(n i:Nat) (l:List (List Val)),i+n=b->a<i->b<=l.length->l.length<=1000000000 ->
 zAR (a:Int) (b:Int) (i:Int) (l.map rowp) at_=zFL (insG (leR at_) n a i l) at_
 | 0,i,l,h,ha,hb,hl=>by
  rw[zBB,show i=b by omega]
  simp only[zFU,zC];rfl
 |n+1,i,l,h,ha,hb,hl=>by
  rw[zBB]
  simp only[zAQ (show i<b by omega),zA]
  have key:∀(n' k:Nat) (l:List (List Val)),k=a+n' ->k<=i->k<l.length->b<=l.length->l.length<=1000000000->zAe (a:Int) (b:Int) (i:Int) (k:Int) (l.map rowp) at_=zFL (insG (leR at_) n a (i+1) (insD (leR at_) n' k l)) at_:=by
   intro n'
   induction n' with
   |zero =>
    intro k l h1 h2 h3 h4 h5
    rw[zBd,zL (by omega),zC,zAB (by omega)]
    exact zPk at_ a b n (i+1) l (by omega) (by omega) h4 h5
   |succ n' ih =>
    intro k l h1 h2 hk h4 hl
    have hk1:k-1<l.length:=by omega
    have e1:IntKind.wrap .i64 ((k:Int)-1)=((k-1:Nat):Int):=by rw[zAU (by omega) (by omega)];omega
    rw[zBd,zD (show(k:Int)>(a:Int) by omega)]
    simp only[zA,e1,zAc,zAD,zK,zAQ hk,zAQ hk1,zY,zN,zH hk,zH hk1,zV,zB,zDA,zAA,zRy,k_5b106d_mk,c_i64_mk]
    unfold insD
    rw[zSB at_ l (k-1) k hk1 hk]
    cases hd:decide (cmpB (keyR at_ l[k]) (keyR at_ l[k-1])<0) with
    |false =>
     simp only[zC,Bool.not_false,if_true]
     rw[zAB (by omega)]
     exact zPk at_ a b n (i+1) l (by omega) (by omega) h4 hl
    |true =>
     simp only[zA,zAH,Bool.false_eq_true,if_false,zDT,e1,zAc,zAD,List.length_set,zK,zAQ hk,zAQ hk1,zY,zN,zH hk,zH hk1,zV,zB,zDA,zAA]
     have h3:k-1<((l.map rowp).set k (rowp l[k-1])).length:=by simpa using hk1
     rw[zH h3]
     simp only[zB]
     rw[zWg l k (k-1) hk hk1]
     exact ih (k-1) (sw l k (k-1)) (by omega) (by omega) (by rw[zHl];omega) (by rw[zHl];exact h4) (by rw[zHl];exact hl)
  have:=key (i-a) i l (by omega) (zM _) (by omega) hb hl
  rw[this];rfl
theorem zPl(at_:Int) (a b:Nat) (l:List (List Val)) (hb:b<=l.length) (hab:a<=b) (hl:l.length<=1000000000) :
 W zAx false [.fx 0 0,.pv (.int .i64 (a:Int)),.pv (.int .i64 (b:Int)),.fnv zR [] [.own 1 0]] [.fix 0 0 (l.map rowp),.var false 0 (.pv (.int .i64 at_))]=zFL (insB (leR at_) a b l) at_:=by
 rw[zDe,zAB (by omega)]
 unfold insB
 rcases Nat.lt_or_ge a b with h | h
 ·exact zPk at_ a b (b-(a+1)) (a+1) l (by omega) (by omega) hb hl
 ·rw[show b-(a+1)=0 by omega,zBB,zL (by omega)];rfl
end Go.Cf

namespace Go.Cf
open Go Go.Ab
theorem zWh(x y:Nat) (h:x+y<=4000000000):IntKind.wrap .i64 (Int.fdiv (IntKind.wrap .u64 (IntKind.wrap .i64 ((x:Int)+(y:Int)))) 2)=(((x+y) / 2:Nat):Int):=by
 rw[zAU (n:=(x:Int)+y) (by omega) (by omega)]
 have e:IntKind.wrap .u64 ((x:Int)+(y:Int))=((x+y:Nat):Int):=by
  simp only[IntKind.wrap,IntKind.bits,IntKind.signed]
  simp
  omega
 rw[e,show Int.fdiv ((x+y:Nat):Int) 2=(((x+y) / 2:Nat):Int) by
  rw[Int.fdiv_eq_ediv_of_nonneg _ (by omega)];omega]
 exact zAU (by omega) (by omega)
theorem zWi(at_:Int) (i:Nat):∀(n k:Nat) (l:List (List Val)),k+n=i-1->0<i->i<=l.length->l.length<=1000000000 ->
 zA5 (i:Int) (k:Int) (l.map rowp) at_=zFL (mvR n k l) at_
 | 0,k,l,h,h0,hi,hl=>by
  have e1:IntKind.wrap .i64 ((i:Int)-1)=((i-1:Nat):Int):=by rw[zAU (by omega) (by omega)];omega
  rw[zCD,e1,zL (by omega)];rfl
 |n+1,k,l,h,h0,hi,hl=>by
  have e1:IntKind.wrap .i64 ((i:Int)-1)=((i-1:Nat):Int):=by rw[zAU (by omega) (by omega)];omega
  have e2:IntKind.wrap .i64 ((k:Int)+1)=((k+1:Nat):Int):=by rw[zAU (by omega) (by omega)];omega
  have h1:k<l.length:=by omega
  have h2:k+1<l.length:=by omega
  rw[zCD]
  simp only[e1,e2,zD (show(k:Int)<((i-1:Nat):Int) by omega),zA,zAc,zAD,List.length_set,zK,zAQ h1,zAQ h2,zY,zN,zH h1,zH h2,zV,zB,zDA,zAA]
  have h3:k+1<((l.map rowp).set k (rowp l[k+1])).length:=by simpa using h2
  rw[zH h3]
  simp only[zB]
  rw[zWg l k (k+1) h1 h2]
  exact zWi at_ i n (k+1) (sw l k (k+1)) (by omega) h0 (by rw[zHl];exact hi) (by rw[zHl];exact hl)
theorem zWj(at_:Int) (i:Nat):∀(n k:Nat) (l:List (List Val)),k=i+n->k<l.length->l.length<=1000000000 ->
 zA6 (i:Int) (k:Int) (l.map rowp) at_=zFL (mvL n k l) at_
 | 0,k,l,h,hk,hl=>by
  rw[zCE,zL (by omega)];rfl
 |n+1,k,l,h,h1,hl=>by
  have e2:IntKind.wrap .i64 ((k:Int)-1)=((k-1:Nat):Int):=by rw[zAU (by omega) (by omega)];omega
  have h2:k-1<l.length:=by omega
  rw[zCE]
  simp only[e2,zD (show(k:Int)>(i:Int) by omega),zA,zAc,zAD,List.length_set,zK,zAQ h1,zAQ h2,zY,zN,zH h1,zH h2,zV,zB,zDA,zAA]
  have h3:k-1<((l.map rowp).set k (rowp l[k-1])).length:=by simpa using h2
  rw[zH h3]
  simp only[zB]
  rw[zWg l k (k-1) h1 h2]
  exact zWj at_ i n (k-1) (sw l k (k-1)) (by omega) (by rw[zHl];omega) (by rw[zHl];exact hl)
theorem zSC(at_:Int) (a:Nat) (l:List (List Val)) (ha:a<l.length) (hl:l.length<=1000000000):∀(f lo hi:Nat),hi-lo<=f->lo<=hi->hi<=l.length ->
 zA3 (a:Int) (lo:Int) (hi:Int) (l.map rowp) at_=zA5 ((bs (λ h=> !leO (leR at_) l a h) f lo hi:Nat):Int) (a:Int) (l.map rowp) at_
 | 0,lo,hi,h,hle,hh=>by
  rw[zCA,zL (by omega)];rfl
 |f+1,lo,hi,h,hle,hh=>by
  rw[zCA]
  unfold bs
  rcases Nat.lt_or_ge lo hi with c | c
  ·have hm:(lo+hi) / 2<l.length:=by omega
   rw[if_pos c,zSB at_ l a ((lo+hi) / 2) ha hm]
   simp only[zAQ c,zA,zWh lo hi (by omega),zAc,zAD,zK,zAQ hm,zAQ ha,zY,zN,zH hm,zH ha,zV,zB,zDA,zAA,zRy,k_5b106d_mk,c_i64_mk,Bool.not_not]
   cases hd:decide (cmpB (keyR at_ l[(lo+hi) / 2]) (keyR at_ l[a])<0) with
   |true =>
    simp only[zA,if_true]
    rw[zAB (by omega)]
    exact zSC at_ a l ha hl f ((lo+hi) / 2+1) hi (by omega) (by omega) hh
   |false =>
    simp only[zC,Bool.false_eq_true,if_false]
    exact zSC at_ a l ha hl f lo ((lo+hi) / 2) (by omega) (by omega) (by omega)
  ·rw[if_neg (by omega),zL (by omega)];rfl
theorem zSD(at_:Int) (m:Nat) (l:List (List Val)) (ha:m<l.length) (hl:l.length<=1000000000):∀(f lo hi:Nat),hi-lo<=f->lo<=hi->hi<=l.length ->
 zA4 (m:Int) (lo:Int) (hi:Int) (l.map rowp) at_=zA6 ((bs (λ h=>leO (leR at_) l h m) f lo hi:Nat):Int) (m:Int) (l.map rowp) at_
 | 0,lo,hi,h,hle,hh=>by
  rw[zCB,zL (by omega)];rfl
 |f+1,lo,hi,h,hle,hh=>by
  rw[zCB]
  unfold bs
  rcases Nat.lt_or_ge lo hi with c | c
  ·have hm:(lo+hi) / 2<l.length:=by omega
   rw[if_pos c,zSB at_ l ((lo+hi) / 2) m hm ha]
   simp only[zAQ c,zA,zWh lo hi (by omega),zAc,zAD,zK,zAQ hm,zAQ ha,zY,zN,zH hm,zH ha,zV,zB,zDA,zAA,zRy,k_5b106d_mk,c_i64_mk]
   cases hd:decide (cmpB (keyR at_ l[m]) (keyR at_ l[(lo+hi) / 2])<0) with
   |false =>
    simp only[zA,Bool.not_false,if_true]
    rw[zAB (by omega)]
    exact zSD at_ m l ha hl f ((lo+hi) / 2+1) hi (by omega) (by omega) hh
   |true =>
    simp only[zC,zAH,Bool.false_eq_true,if_false]
    exact zSD at_ m l ha hl f lo ((lo+hi) / 2) (by omega) (by omega) (by omega)
  ·rw[if_neg (by omega),zL (by omega)];rfl
theorem zOX(at_:Int) (a m b mid n p:Nat) (l:List (List Val)) (hl:l.length<=1000000000) (hn:p=n-1) (R:Nat->Option (AV×List Ob))
 (hR:∀ st:Nat,st<=n->(bif decide ((st:Int)<(m:Int))then zS (a:Int) (m:Int) (b:Int) (mid:Int) (st:Int) (IntKind.wrap .i64 ((n:Int)-(st:Int))) (decide ((m:Int)<IntKind.wrap .i64 ((n:Int)-(st:Int)))) (l.map rowp) at_
  else zS (a:Int) (m:Int) (b:Int) (mid:Int) (st:Int) (IntKind.wrap .i64 ((n:Int)-(st:Int))) false (l.map rowp) at_)=R st):∀(f lo hi:Nat),hi-lo<=f->lo<=hi->hi<=l.length->p-lo<l.length->hi<=p+1->hi<=n ->
 zA7 (a:Int) (m:Int) (b:Int) (mid:Int) (n:Int) (lo:Int) (hi:Int) (p:Int) (l.map rowp) at_=R (bs (λ c=>leO (leR at_) l c (n-1-c)) f lo hi)
 | 0,lo,hi,h,hle,hh,hp,hhp,hhn=>by
  rw[zCF,zL (by omega)]
  exact hR lo (by omega)
 |f+1,lo,hi,h,hle,hh,hp,hhp,hhn=>by
  rw[zCF]
  unfold bs
  rcases Nat.lt_or_ge lo hi with c | c
  ·have hm:(lo+hi) / 2<l.length:=by omega
   have hq:p-(lo+hi) / 2<l.length:=by omega
   have e1:IntKind.wrap .i64 ((p:Int)-(((lo+hi) / 2:Nat):Int))=((p-(lo+hi) / 2:Nat):Int):=by rw[zAU (by omega) (by omega)];omega
   rw[if_pos c]
   have e2:leO (leR at_) l ((lo+hi) / 2) (n-1-(lo+hi) / 2)= !decide (cmpB (keyR at_ l[p-(lo+hi) / 2]) (keyR at_ l[(lo+hi) / 2])<0):=by
    subst hn;exact zSB at_ l ((lo+hi) / 2) (n-1-(lo+hi) / 2) hm hq
   rw[e2]
   simp only[zAQ c,zA,zWh lo hi (by omega),e1,zAc,zAD,zK,zAQ hm,zAQ hq,zY,zN,zH hm,zH hq,zV,zB,zDA,zAA,zRy,k_5b106d_mk,c_i64_mk]
   cases hd:decide (cmpB (keyR at_ l[p-(lo+hi) / 2]) (keyR at_ l[(lo+hi) / 2])<0) with
   |false =>
    simp only[zA,Bool.not_false,if_true]
    rw[zAB (by omega)]
    exact zOX at_ a m b mid n p l hl hn R hR f ((lo+hi) / 2+1) hi (by omega) (by omega) hh (by omega) hhp hhn
   |true =>
    simp only[zC,zAH,Bool.false_eq_true,if_false]
    exact zOX at_ a m b mid n p l hl hn R hR f lo ((lo+hi) / 2) (by omega) (by omega) (by omega) hp (by omega) (by omega)
  ·rw[if_neg (by omega),zL (by omega)]
   exact hR lo (by omega)
abbrev symW (at_:Int) (a m b:Nat) (l:List (List Val)):Option (AV×List Ob) :=
 W zA8 false [.fx 0 0,.pv (.int .i64 (a:Int)),.pv (.int .i64 (m:Int)),.pv (.int .i64 (b:Int)),.fnv zR [] [.own 1 0]] [.fix 0 0 (l.map rowp),.var false 0 (.pv (.int .i64 at_))]
theorem zWk(at_:Int) (f:Nat) (ih:∀(a m b:Nat) (l:List (List Val)),a<m->m<b->b<=l.length->l.length<=1000000000->b-a<=f->symW at_ a m b l=zFL (symF (leR at_) f a m b l) at_)
 (a m b mid st en:Nat) (l:List (List Val)) (h1:a<b) (hmid:mid<=b) (hma:mid-a<=f) (hmb:b-mid<=f) (h2:en<=b) (hen:m<=en∨en<=m) (hb:b<=l.length) (hl:l.length<=1000000000) :
 (bif decide ((st:Int)<(m:Int))then zS (a:Int) (m:Int) (b:Int) (mid:Int) (st:Int) (en:Int) (decide ((m:Int)<(en:Int))) (l.map rowp) at_
  else zS (a:Int) (m:Int) (b:Int) (mid:Int) (st:Int) (en:Int) false (l.map rowp) at_)=zFL (symS (leR at_) f a m b mid st en l) at_:=by
 have h11:∀(l:List (List Val)),b<=l.length->l.length<=1000000000->zAt (b:Int) (mid:Int) (en:Int) (l.map rowp) at_=zFL (if mid<en/\en<b then symF (leR at_) f mid en b l else l) at_:=λ l hb hl=>by
  rw[zDm]
  by_cases c1:mid<en
  ·rw[zAQ c1,zA,zBv]
   by_cases c2:en<b
   ·rw[zAQ c2,zA,if_pos ⟨c1,c2⟩]
    have:=ih mid en b l c1 c2 hb hl hmb
    unfold symW at this
    rw[this]
    simp only[zFL,zB,k_c4d914_mk]
   ·rw[zL (by omega),zC,if_neg (λ h=>c2 h.2)];rfl
  ·rw[zL (by omega),zC,zBv,zC,if_neg (λ h=>c1 h.1)];rfl
 have h9:∀(l l2:List (List Val)),l2=(if a<st/\st<mid then symF (leR at_) f a st mid l else l)->b<=l.length->l.length<=1000000000->zAy (a:Int) (b:Int) (mid:Int) (st:Int) (en:Int) (l.map rowp) at_ =
  zFL (if mid<en/\en<b then symF (leR at_) f mid en b l2 else l2) at_:=λ l l2 e hb hl=>by
  rw[zDv]
  by_cases c1:a<st
  ·rw[zAQ c1,zA,zCH]
   by_cases c2:st<mid
   ·rw[if_pos ⟨c1,c2⟩]at e
    subst e
    rw[zAQ c2,zA]
    have:=ih a st mid l c1 c2 (by omega) hl hma
    unfold symW at this
    rw[this]
    simp only[zFL,zB,k_c4d914_mk]
    exact h11 _ (by rw[zK5];exact hb) (by rw[zK5];exact hl)
   ·rw[if_neg (λ h=>c2 h.2)]at e
    subst e
    rw[zL (by omega),zC];exact h11 _ hb hl
  ·rw[if_neg (λ h=>c1 h.1)]at e
   subst e
   rw[zL (by omega),zC,zCH,zC];exact h11 _ hb hl
 have e1:∃ l1:List (List Val),l1=if st<m/\m<en then rotG m (en-st) (m-st) (en-m) l else l:=⟨_,rfl⟩
 obtain⟨l1,e1⟩:=e1
 have hS:symS (leR at_) f a m b mid st en l=if mid<en/\en<b then symF (leR at_) f mid en b (if a<st/\st<mid then symF (leR at_) f a st mid l1 else l1)else(if a<st/\st<mid then symF (leR at_) f a st mid l1 else l1):=by rw[e1];rfl
 rw[hS]
 by_cases c1:st<m
 ·rw[zAQ c1,zA,zCG]
  by_cases c2:m<en
  ·rw[if_pos ⟨c1,c2⟩]at e1
   subst e1
   rw[zAQ c2,zA,z1o at_ st m en l c1 c2 (by omega) hl]
   simp only[zFL,zB,k_c4d914_mk]
   exact h9 _ _ rfl (by rw[zMG];exact hb) (by rw[zMG];exact hl)
  ·rw[if_neg (λ h=>c2 h.2)]at e1
   subst e1
   rw[zL (by omega),zC];exact h9 _ _ rfl hb hl
 ·rw[if_neg (λ h=>c1 h.1)]at e1
  subst e1
  rw[zL (by omega),zC,zCG,zC];exact h9 _ _ rfl hb hl
theorem zK6(at_:Int):∀(f a m b:Nat) (l:List (List Val)),a<m->m<b->b<=l.length->l.length<=1000000000->b-a<=f->symW at_ a m b l=zFL (symF (leR at_) f a m b l) at_
 | 0,a,m,b,l,h1,h2,h3,h4,h5=>by omega
 |f+1,a,m,b,l,h1,h2,h3,h4,h5=>by
  have em:IntKind.wrap .i64 ((m:Int)-(a:Int))=((m-a:Nat):Int):=by rw[zAU (by omega) (by omega)];omega
  have eb:IntKind.wrap .i64 ((b:Int)-(m:Int))=((b-m:Nat):Int):=by rw[zAU (by omega) (by omega)];omega
  unfold symW
  rw[zEa,em,eb,zTu]
  by_cases c1:m-a=1
  ·rw[zIH (by omega),zA,if_pos c1,zSC at_ a l (by omega) h4 (b-m) m b (by omega) (by omega) h3]
   have:=zYR (λ h=> !leO (leR at_) l a h) (b-m) m b (by omega)
   exact zWi at_ _ _ a l (by omega) (by omega) (by omega) h4
  ·rw[zDP (by omega),zC,if_neg c1]
   by_cases c2:b-m=1
   ·rw[zIH (by omega),zA,if_pos c2,zSD at_ m l (by omega) h4 (m-a) a m (by omega) (by omega) (by omega)]
    have:=zYR (λ h=>leO (leR at_) l h m) (m-a) a m (by omega)
    exact zWj at_ _ _ m l (by omega) (by omega) h4
   ·rw[zDP (by omega),zC,if_neg c2,zWh a b (by omega)]
    have en:IntKind.wrap .i64 ((((a+b) / 2:Nat):Int)+(m:Int))=(((a+b) / 2+m:Nat):Int):=by rw[zAU (by omega) (by omega)];omega
    have ep:IntKind.wrap .i64 ((((a+b) / 2+m:Nat):Int)-1)=(((a+b) / 2+m-1:Nat):Int):=by rw[zAU (by omega) (by omega)];omega
    rw[en]
    by_cases c3:m>(a+b) / 2
    ·have es:IntKind.wrap .i64 ((((a+b) / 2+m:Nat):Int)-(b:Int))=(((a+b) / 2+m-b:Nat):Int):=by rw[zAU (by omega) (by omega)];omega
     have hb:=zYR (λ c=>leO (leR at_) l c ((a+b) / 2+m-1-c)) ((a+b) / 2-((a+b) / 2+m-b)) ((a+b) / 2+m-b) ((a+b) / 2) (by omega)
     rw[zD (by omega),zA,if_pos c3,es,zCC,ep]
     have k:=zOX at_ a m b ((a+b) / 2) ((a+b) / 2+m) ((a+b) / 2+m-1) l h4 rfl (λ st=>(bif decide ((st:Int)<(m:Int))then zS (a:Int) (m:Int) (b:Int) (((a+b) / 2:Nat):Int) (st:Int) (IntKind.wrap .i64 ((((a+b) / 2+m:Nat):Int)-(st:Int))) (decide ((m:Int)<IntKind.wrap .i64 ((((a+b) / 2+m:Nat):Int)-(st:Int)))) (l.map rowp) at_
      else zS (a:Int) (m:Int) (b:Int) (((a+b) / 2:Nat):Int) (st:Int) (IntKind.wrap .i64 ((((a+b) / 2+m:Nat):Int)-(st:Int))) false (l.map rowp) at_)) (λ st h=>rfl) ((a+b) / 2-((a+b) / 2+m-b)) ((a+b) / 2+m-b) ((a+b) / 2) (by omega) (by omega) (by omega) (by omega) (by omega) (by omega)
     rw[k]
     generalize bs (λ c=>leO (leR at_) l c ((a+b) / 2+m-1-c)) ((a+b) / 2-((a+b) / 2+m-b)) ((a+b) / 2+m-b) ((a+b) / 2)=st at hb
     have ee:IntKind.wrap .i64 ((((a+b) / 2+m:Nat):Int)-(st:Int))=(((a+b) / 2+m-st:Nat):Int):=by rw[zAU (by omega) (by omega)];omega
     rw[ee]
     exact zWk at_ f (λ a m b l h1 h2 h3 h4 h5=>zK6 at_ f a m b l h1 h2 h3 h4 h5) a m b ((a+b) / 2) st ((a+b) / 2+m-st) l (by omega) (by omega) (by omega) (by omega) (by omega) (by omega) h3 h4
    ·have hb:=zYR (λ c=>leO (leR at_) l c ((a+b) / 2+m-1-c)) (m-a) a m (by omega)
     rw[zL (by omega),zC,if_neg c3,zCC,ep]
     have k:=zOX at_ a m b ((a+b) / 2) ((a+b) / 2+m) ((a+b) / 2+m-1) l h4 rfl (λ st=>(bif decide ((st:Int)<(m:Int))then zS (a:Int) (m:Int) (b:Int) (((a+b) / 2:Nat):Int) (st:Int) (IntKind.wrap .i64 ((((a+b) / 2+m:Nat):Int)-(st:Int))) (decide ((m:Int)<IntKind.wrap .i64 ((((a+b) / 2+m:Nat):Int)-(st:Int)))) (l.map rowp) at_
      else zS (a:Int) (m:Int) (b:Int) (((a+b) / 2:Nat):Int) (st:Int) (IntKind.wrap .i64 ((((a+b) / 2+m:Nat):Int)-(st:Int))) false (l.map rowp) at_)) (λ st h=>rfl) (m-a) a m (by omega) (by omega) (by omega) (by omega) (by omega) (by omega)
     rw[k]
     generalize bs (λ c=>leO (leR at_) l c ((a+b) / 2+m-1-c)) (m-a) a m=st at hb
     have ee:IntKind.wrap .i64 ((((a+b) / 2+m:Nat):Int)-(st:Int))=(((a+b) / 2+m-st:Nat):Int):=by rw[zAU (by omega) (by omega)];omega
     rw[ee]
     exact zWk at_ f (λ a m b l h1 h2 h3 h4 h5=>zK6 at_ f a m b l h1 h2 h3 h4 h5) a m b ((a+b) / 2) st ((a+b) / 2+m-st) l (by omega) (by omega) (by omega) (by omega) (by omega) (by omega) h3 h4
end Go.Cf

namespace Go.Cf
open Go Go.Ab
theorem zSE(at_:Int) (n:Nat) (hn:n<=1000000000):∀(f s:Nat) (l:List (List Val)),n<f+s->0<s->s<=2000000000->l.length=n ->
 zAf (n:Int) (s:Int) (l.map rowp) at_=zFL (stL (leR at_) n f s l) at_
 | 0,s,l,h,h0,hs,hl=>by
  rw[zCS,zL (by omega)];rfl
 |f+1,s,l,h,h0,hs,hl=>by
  rw[zCS]
  unfold stL
  by_cases c:s<n
  ·have e1:IntKind.wrap .i64 ((2:Int)*(s:Int))=((2*s:Nat):Int):=by rw[zAU (by omega) (by omega)];omega
   have e2:IntKind.wrap .i64 ((s:Int)*(2:Int))=((2*s:Nat):Int):=by rw[zAU (by omega) (by omega)];omega
   rw[zAQ c,zA,if_pos c,e1]
   have key:∀(g a:Nat) (l:List (List Val)),n<a+g->a<=n->l.length=n->zBF (n:Int) (s:Int) (a:Int) ((a+2*s:Nat):Int) (l.map rowp) at_=zFL (stL (leR at_) n f (2*s) (pass (leR at_) s n g a l)) at_:=by
    intro g
    induction g with
    |zero=>intro a l h1 h2 h3;omega
    |succ g ih =>
     intro a l h1 h2 h3
     have e3:IntKind.wrap .i64 ((a:Int)+(s:Int))=((a+s:Nat):Int):=by rw[zAU (by omega) (by omega)];omega
     have e4:IntKind.wrap .i64 (((a+2*s:Nat):Int)+((2*s:Nat):Int))=((a+2*s+2*s:Nat):Int):=by rw[zAU (by omega) (by omega)];omega
     rw[zEW,e3]
     unfold pass
     by_cases c1:a+2*s<=n
     ·have hm:=zK6 at_ (2*s) a (a+s) (a+2*s) l (by omega) (by omega) (by omega) (by omega) (by omega)
      unfold symW at hm
      rw[zD (by omega),zA,if_pos c1,hm]
      simp only[zFL,zB,k_c4d914_mk,e1,e4]
      exact ih (a+2*s) _ (by omega) c1 (by rw[zK5];exact h3)
     ·rw[zL (by omega),zC,if_neg c1]
      by_cases c2:a+s<n
      ·have hm:=zK6 at_ (n-a) a (a+s) n l (by omega) (by omega) (by omega) (by omega) (by omega)
       unfold symW at hm
       rw[zAQ c2,zA,if_pos c2,hm]
       simp only[zFL,zB,k_c4d914_mk,e2]
       exact zSE at_ n hn f (2*s) _ (by omega) (by omega) (by omega) (by rw[zK5];exact h3)
      ·rw[zL (by omega),zC,if_neg c2,e2]
       exact zSE at_ n hn f (2*s) l (by omega) (by omega) (by omega) h3
   have:=key (n+1) 0 l (by omega) (by omega) hl
   rw[Nat.zero_add]at this
   exact this
  ·rw[zL (by omega),zC,if_neg c];rfl
theorem zWl(at_:Int) (n:Nat) (hn:n<=1000000000):∀(f a:Nat) (l:List (List Val)),n<a+f->a<=n->l.length=n ->
 zBE (n:Int) 20 (a:Int) ((a+20:Nat):Int) (l.map rowp) at_=zFL (stL (leR at_) n n 20 (blk1 (leR at_) n f a l)) at_
 | 0,a,l,h,ha,hl=>by omega
 |f+1,a,l,h,ha,hl=>by
  rw[zEV]
  unfold blk1
  by_cases c:a+20<=n
  ·have hi:=zPl at_ a (a+20) l (by omega) (by omega) (by omega)
   rw[zD (by omega),zA,if_pos c,hi]
   have e1:IntKind.wrap .i64 (((a+20:Nat):Int)+20)=((a+20+20:Nat):Int):=by rw[zAU (by omega) (by omega)];omega
   simp only[zFL,zB,k_c4d914_mk,e1]
   exact zWl at_ n hn f (a+20) _ (by omega) c (by unfold insB;rw[zRz];exact hl)
  ·have hi:=zPl at_ a n l (by omega) ha (by omega)
   rw[zL (by omega),zC,if_neg c,hi]
   simp only[zFL,zB,k_c4d914_mk]
   exact zSE at_ n hn n 20 _ (by omega) (by omega) (by omega) (by unfold insB;rw[zRz];exact hl)
def z1p(at_:Int) (l:List (List Val)):List (List Val):=stL (leR at_) l.length l.length 20 (blk1 (leR at_) l.length (l.length+1) 0 l)
theorem zQw(at_:Int) (l:List (List Val)):Srt (leR at_) (z1p at_ l)/\Keeps (leR at_) l (z1p at_ l):=zVf (leR at_) (z0H at_) (zTt at_) l
theorem zTw(at_:Int) (l:List (List Val)) (hl:l.length<=1000000000) :
 W zBP false [.fx 0 0,.fnv zR [] [.own 1 0]] [.fix 0 0 (l.map rowp),.var false 0 (.pv (.int .i64 at_))]=zFL (z1p at_ l) at_:=by
 rw[zDX,zEt,zK]
 have:=zWl at_ l.length hl (l.length+1) 0 l (by omega) (by omega) rfl
 rw[Nat.zero_add]at this
 simp only[Int.cast_ofNat_Int]at this
 rw[this]
 simp only[zFL,zB,k_c4d914_mk]
 rfl
theorem zQx(D E:List PV) (c:List Int) (l:List (List Val)) (hl:l.length<=1000000000) (hr:∀ x∈l,x.length<=4294967296):∀(k i:Nat) (acc:List (List Val)),i+k=l.length->acc.length=i ->
 zEK (l.map rowp) (l.length:Int) (i:Int) D E (c.map intp) (acc.map rowp)=some (.agg [.pv (.slice 0 (c.map intp)),.view 0 0 none],[.row false 0 0 ((acc++l.drop i).map rowp)])
 | 0,i,acc,h,ha=>by
  rw[zHh,show i=l.length by omega]
  simp only[zFU,zC,List.drop_length,zBN]
 |k+1,i,acc,h,ha=>by
  have hi:i<l.length:=by omega
  rw[zHh]
  have hc:=zD2 (l[i].map Val.pv) (by rw[zK];exact hr _ (zAC hi))
  have hb:=zT2 (l[i].map Val.pv)
  rw[zAA]at hc hb
  simp only[zAQ hi,zAc,zA,zY,zN,zH hi,zV,zB,zDA,zAA,hb,hc,c_b_mk,zK,zAD,zD (show acc.length+1<=4294967296 by omega)]
  rw[zAB (by omega)]
  have:=zQx D E c l hl hr k (i+1) (acc++[l[i]]) (by omega) (by simp[ha])
  rw[zBe]at this
  rw[show [rowp l[i]]=[l[i]].map rowp from rfl,this,zAv hi,zAG];rfl
def zTx(c:List Int) (r:List (List Val)) (col:Int):List (List Val):=z1p (idxI c (λ x=>col==x)) r
theorem z6B(c:List Int) (r:List (List Val)) (col:Int) (hc:c.length<=4294967296) (hl:r.length<=1000000000) (hr:∀ x∈r,x.length<=4294967296):wc W zMd [bagp c r,.int .i64 col]=some (bagp c (zTx c r col)):=by
 have h:=zXp (c.map intp) (r.map rowp) col
 have h2:=zP0 (c.map intp) (r.map rowp)
 have h3:=zF3 (c.map intp) (by rw[zK];exact hc)
 have h4:=zQx [] [] c r hl hr r.length 0 [] (by omega) rfl
 simp only[zA9,List.nil_append,List.drop_zero]at h4
 rw[h3]at h2
 simp only[zB,c_s0_mk,zK]at h2
 rw[show((0:Nat):Int)=0 from rfl]at h4
 rw[h4]at h2
 rw[zI,zAa,zAo]at h h2
 rw[h,h2,zJo c col (by omega)]
 unfold zBx
 simp only[zB,k_8de13e_mk,c_i64_mk]
 rw[zTw _ r hl]
 simp only[zFL,zB,k_c4d914_mk]
 rfl
def ordB(at_:Int):List (List Val)->Bool
 | []=>true
 | [_]=>true
 |x::y::r=>leR at_ x y&&ordB at_ (y::r)
theorem zMH(at_:Int):∀(l:List (List Val)),ordB at_ l=true↔Srt (leR at_) l
 | []=>by simp[ordB]
 | [x]=>by simp[ordB]
 |x::y::r=>by
  unfold ordB
  rw[zF,zMH at_ (y::r)]
  constructor
  ·rintro⟨h1,h2⟩
   refine List.pairwise_cons.2 ⟨λ z hz=> ?_,h2⟩
   rcases zAE.1 hz with rfl | hz
   ·exact h1
   ·exact zTt at_ _ _ _ h1 ((List.pairwise_cons.1 h2).1 z hz)
  ·intro h
   have:=List.pairwise_cons.1 h
   exact⟨this.1 y (by simp),this.2⟩
end Go.Cf

namespace Go.Cf
open Go Go.Ab
abbrev Ky:=Int×Int
abbrev GM:=List (Ky×List (List Val))
def mpG(m:GM):List (PV×PV):=m.map λ x=>(keyP x.1,tabp x.2)
@[simp] theorem keyP_fold(k:Ky):PV.agg [.int .i64 k.1,.int .i64 k.2]=keyP k:=rfl
@[simp] theorem keyP_mk(k:Ky) {R:Type} (f:Int->Int->Option R):zP (keyP k) f=f k.1 k.2:=rfl
theorem z6c(a:Ky):zPy (keyP a) (keyP a)=true:=by
 show(zXE _ _&&_)=true
 simp[zXE,zSW]
def putG(k:Ky) (x:List Val):GM->GM
 | []=>[(k,[x])]
 |y::r=>if k=y.1 then(y.1,y.2++[x])::r else y::putG k x r
def getG(k:Ky):GM->Option (List (List Val))
 | []=>none
 |y::r=>if k=y.1 then some y.2 else getG k r
def idxG(k:Ky):GM->Nat
 | []=>0
 |y::r=>if k=y.1 then 0 else idxG k r+1
theorem z24(k:Ky):∀ m:GM,zUS 0 (idxG k m) (mpG m)=some (((getG k m).getD []).map rowp)
 | []=>rfl
 |y::r=>by
  simp only[idxG,getG]
  by_cases h:k=y.1
  ·rw[if_pos h,if_pos h];rfl
  ·rw[if_neg h,if_neg h]
   have:=z24 k r
   unfold zUS at this ⊢
   show(match (mpG r)[idxG k r]? with | none=>some [] | some e=>e.2.asSlice 0)=_
   exact this
theorem z6C(k:Ky) (x:List Val):∀ m:GM,gset (.slice 0 ((((getG k m).getD []).map rowp)++[rowp x])) (idxG k m) (gput (keyP k) 0 (idxG k m) (mpG m))=mpG (putG k x m)
 | []=>rfl
 |y::r=>by
  simp only[idxG,getG,putG]
  by_cases h:k=y.1
  ·rw[if_pos h,if_pos h,if_pos h]
   have e:gput (keyP k) 0 0 (mpG (y::r))=(keyP k,tabp y.2)::mpG r:=by
    unfold gput
    rw[zD (by show 0<(mpG (y::r)).length;simp[mpG])];rfl
   rw[e]
   unfold gset
   show(keyP k,PV.slice 0 (y.2.map rowp++[rowp x]))::mpG r=(keyP y.1,tabp (y.2++[x]))::mpG r
   rw[h];unfold tabp;rw[zBe];rfl
  ·rw[if_neg h,if_neg h,if_neg h]
   have ih:=z6C k x r
   have e:gput (keyP k) 0 (idxG k r+1) (mpG (y::r))=(keyP y.1,tabp y.2)::gput (keyP k) 0 (idxG k r) (mpG r):=by
    unfold gput
    have hl:(mpG (y::r)).length=(mpG r).length+1:=by simp[mpG]
    by_cases hlt:idxG k r<(mpG r).length
    ·rw[zD (by omega),zD hlt];rfl
    ·rw[zL (by omega),zL hlt];rfl
   rw[e]
   have e2:∀ v,gset v (idxG k r+1) ((keyP y.1,tabp y.2)::gput (keyP k) 0 (idxG k r) (mpG r))=(keyP y.1,tabp y.2)::gset v (idxG k r) (gput (keyP k) 0 (idxG k r) (mpG r)):=λ v=>by unfold gset;rfl
   rw[e2,ih];rfl
def ne1(m:GM):Prop:=∀ x∈m,x.2≠[]
def zMI:GM->Nat
 | []=>0
 |y::r=>y.2.length+zMI r
theorem zPm(k:Ky) (x:List Val):∀ m,zMI (putG k x m)=zMI m+1
 | []=>rfl
 |y::r=>by
  unfold putG
  split
  ·simp only[zMI,zAK,List.length_singleton];omega
  ·simp only[zMI,zPm k x r];omega
theorem zTy(k:Ky):∀ m l,getG k m=some l->l.length<=zMI m
 | [],l,h=>by cases h
 |y::r,l,h=>by
  unfold getG at h
  split at h
  ·simp only[zE]at h;subst h;simp[zMI]
  ·have:=zTy k r l h;simp only[zMI];omega
end Go.Cf

namespace Go.Cf
open Go Go.Ab
theorem zWm(k q:Ky) (x:List Val):∀ m:GM,getG k (putG q x m)=if k=q then some ((getG k m).getD []++[x])else getG k m
 | []=>by simp only[putG,getG];split<;>simp
 |y::r=>by
  by_cases h:q=y.1
  ·simp only[putG,if_pos h,getG]
   by_cases hk:k=q
   ·rw[if_pos hk,if_pos (hk.trans h),if_pos (hk.trans h)];rfl
   ·rw[if_neg hk,if_neg (λ e=>hk (e.trans h.symm)),if_neg (λ e=>hk (e.trans h.symm))]
  ·simp only[putG,if_neg h,getG]
   by_cases hk:k=y.1
   ·rw[if_pos hk,if_pos hk,if_neg (λ e=>h (e.symm.trans hk))]
   ·rw[if_neg hk,if_neg hk,zWm k q x r]
end Go.Cf

namespace Go.Cf
open Go Go.Ab
theorem z0K{c:List Int} {r s:List (List Val)} (h:r.Perm s):mayB c r=mayB c s:=by
 unfold mayB
 have h1:r.all (rowB c.length)=s.all (rowB c.length):=by
  rw[Bool.eq_iff_iff,zAF,zAF]
  exact⟨λ k x hx=>k x (h.mem_iff.2 hx),λ k x hx=>k x (h.mem_iff.1 hx)⟩
 rw[h1,h.length_eq]
end Go.Cf

namespace Go.Cf
open Go Go.Ab
abbrev CM:=List (ByteArray×Int)
def mpC(m:CM):List (PV×PV):=m.map λ x=>(PV.str x.1,PV.int .i64 x.2)
def getC(k:ByteArray):CM->Option Int
 | []=>none
 |x::r=>bif k.toList==x.1.toList then some x.2 else getC k r
def putC(k:ByteArray) (v:Int):CM->CM
 | []=>[(k,v)]
 |x::r=>bif k.toList==x.1.toList then(k,v)::r else x::putC k v r
theorem eqS(a b:ByteArray):eqP cfg 6 9 (.str a) (.str b)=some (a.toList==b.toList):=by rfl
theorem zSF(k:ByteArray):∀(m:CM),zL2 (eqP cfg 6 9) (.str k) (mpC m)=some ((getC k m).map (PV.int .i64))
 | []=>rfl
 |x::r=>by
  show zL2 (eqP cfg 6 9) (.str k) ((PV.str x.1,PV.int .i64 x.2)::mpC r)=_
  simp only[zL2,eqS,zB,getC]
  cases k.toList==x.1.toList with
  |true=>rfl
  |false=>exact zSF k r
theorem zVi(k:ByteArray) (v:Int):∀(m:CM),mput (eqP cfg 6 9) (.str k) (.int .i64 v) (mpC m)=some (mpC (putC k v m))
 | []=>rfl
 |x::r=>by
  show mput (eqP cfg 6 9) (.str k) (.int .i64 v) ((PV.str x.1,PV.int .i64 x.2)::mpC r)=_
  simp only[mput,eqS,zB,putC]
  cases h:k.toList==x.1.toList with
  |true =>
   have h' :zPy (.str x.1) (.str k)=true:=by
    show(x.1.toList==k.toList)=true
    rw[beq_iff_eq]at h ⊢;exact h.symm
   rw[h'];rfl
  |false =>
   simp only[zC,zVi k v r,zB];rfl
theorem zWn:∀(m:CM),zS4 (mpC m)=some (m.all λ x=>x.2==0)
 | []=>rfl
 |x::r=>by
  show(zS4 (mpC r)).map (λ b=>(x.2==0)&&b)=_
  rw[zWn r];rfl
def getL(L:List UInt8):CM->Int
 | []=>0
 |x::r=>if L=x.1.toList then x.2 else getL L r
theorem zTz(k:ByteArray):∀(m:CM),(getC k m).getD 0=getL k.toList m
 | []=>rfl
 |x::r=>by
  simp only[getC,getL]
  by_cases h:k.toList=x.1.toList
  ·rw[if_pos h,show(k.toList==x.1.toList)=true by rw[h];exact zBj _];rfl
  ·rw[if_neg h,show(k.toList==x.1.toList)=false by simpa using h]
   exact zTz k r
theorem zWo(L:List UInt8) (k:ByteArray) (v:Int):∀(m:CM),getL L (putC k v m)=if L=k.toList then v else getL L m
 | []=>rfl
 |x::r=>by
  simp only[putC]
  by_cases h:k.toList=x.1.toList
  ·rw[show(k.toList==x.1.toList)=true by rw[h];exact zBj _]
   simp only[zA,getL,<-h]
   by_cases hL:L=k.toList
   ·rw[if_pos hL,if_pos hL]
   ·rw[if_neg hL,if_neg hL,if_neg hL]
  ·rw[show(k.toList==x.1.toList)=false by simpa using h]
   simp only[zC,getL,zWo L k v r]
   by_cases hx:L=x.1.toList
   ·rw[if_pos hx]
    rw[if_neg (λ e=>h (e.symm.trans hx)),if_pos hx]
   ·rw[if_neg hx,if_neg hx]
def zIp(m:CM):List (List UInt8):=m.map λ x=>x.1.toList
theorem zSG(k:ByteArray) (v:Int):∀(m:CM),(zIp m).Nodup->(zIp (putC k v m)).Nodup/\∀ L,L∈zIp (putC k v m)->L=k.toList∨L∈zIp m
 | [],_=>⟨by simp[putC,zIp],λ L h=>by simp[putC,zIp]at h;exact .inl h⟩
 |x::r,h=>by
  simp only[putC]
  have h2:=List.nodup_cons.1 (show(x.1.toList::zIp r).Nodup from h)
  by_cases e:k.toList=x.1.toList
  ·rw[show(k.toList==x.1.toList)=true by rw[e];exact zBj _]
   simp only[zA]
   refine⟨?_,λ L hL=> ?_⟩
   ·show(k.toList::zIp r).Nodup
    rw[e];exact h
   ·rcases zAE.1 (show L∈k.toList::zIp r from hL)with h3 | h3
    ·exact .inl h3
    ·exact .inr (zAE.2 (.inr h3))
  ·rw[show(k.toList==x.1.toList)=false by simpa using e]
   obtain⟨i1,i2⟩:=zSG k v r h2.2
   simp only[zC]
   refine⟨?_,λ L hL=> ?_⟩
   ·refine List.nodup_cons.2 ⟨λ hm=> ?_,i1⟩
    rcases i2 _ hm with h3 | h3
    ·exact e h3.symm
    ·exact h2.1 h3
   ·rcases zAE.1 (show L∈x.1.toList::zIp (putC k v r)from hL)with h3 | h3
    ·exact .inr (zAE.2 (.inl h3))
    ·rcases i2 _ h3 with h4 | h4
     ·exact .inl h4
     ·exact .inr (zAE.2 (.inr h4))
theorem zWp:∀(m:CM),(zIp m).Nodup->((m.all λ x=>x.2==0)=true↔∀ L,getL L m=0)
 | [],_=>by simp[getL]
 |x::r,h=>by
  have h2:=List.nodup_cons.1 (show(x.1.toList::zIp r).Nodup from h)
  have ih:=zWp r h2.2
  simp only[List.all_cons,zF,beq_iff_eq,getL]
  constructor
  ·rintro⟨a,b⟩ L
   split
   ·exact a
   ·exact ih.1 b L
  ·intro hall
   refine⟨?_,ih.2 λ L=> ?_⟩
   ·have:=hall x.1.toList
    rwa [if_pos rfl]at this
   ·by_cases hm:L=x.1.toList
    ·have none:∀(l:CM),L∉zIp l->getL L l=0:=by
      intro l
      induction l with
      |nil=>intro _;rfl
      |cons y l ihl =>
       intro hn
       simp only[getL]
       rw[if_neg (λ e=>hn (by rw[e];simp[zIp])),ihl (λ e=>hn (zAE.2 (.inr e)))]
     exact none r (by rw[hm];exact h2.1)
    ·have:=hall L
     rwa [if_neg hm]at this
def txt(r:List Val):ByteArray:=z1G (r.map λ v=>(v.K,v.N))
def tL(r:List Val):List UInt8:=(txt r).toList
theorem zUA:∀(r:List Val),ROk r->zNY (r.map Val.pv)=some (r.map λ v=>(v.K,v.N))
 | [],_=>rfl
 |v::r,h=>by
  have hv:=h v (by simp)
  have h1:(inI v.K&&inI v.N)=true:=by
   unfold inI
   rw[zD hv.1.1,zD hv.1.2,zD hv.2.1,zD hv.2.2];rfl
  show(bif inI v.K&&inI v.N then(zNY (r.map Val.pv)).bind λ l=>some ((v.K,v.N)::l)else none)=_
  rw[h1,zUA r (λ x hx=>h x (by simp[hx]))];rfl
theorem z26(r:List Val) (h:ROk r) (hl:r.length<=1000000):wc W zKQ [rowp r]=some (.str (txt r)):=zXk (r.map Val.pv) _ (zUA r h) (by rw[zK];exact hl)
def add1(k:ByteArray) (d:Int) (m:CM):CM:=putC k ((getC k m).getD 0+d) m
def zQN:List (List Val)->List (List Val)->CM->CM
 |x::r,y::s,m=>zQN r s (add1 (txt y) (-1) (add1 (txt x) 1 m))
 |_,_,m=>m
def bnd(m:CM) (B:Nat):Prop:=∀ x∈m, -(B:Int)<=x.2/\x.2<=B
theorem zOY(k:ByteArray) (B:Nat):∀(m:CM),bnd m B-> -(B:Int)<=(getC k m).getD 0/\(getC k m).getD 0<=B
 | [],_=>by simp[getC]
 |x::r,h=>by
  simp only[getC]
  cases k.toList==x.1.toList with
  |true=>exact h x (by simp)
  |false=>exact zOY k B r (λ y hy=>h y (by simp[hy]))
theorem zWq(k:ByteArray) (v:Int) (B:Nat) (hv: -(B:Int)<=v/\v<=B):∀(m:CM),bnd m B->bnd (putC k v m) B
 | [],_=>λ x hx=>by simp[putC]at hx;subst hx;exact hv
 |x::r,h=>λ y hy=>by
  simp only[putC]at hy
  cases he:k.toList==x.1.toList with
  |true =>
   rw[he]at hy
   rcases zAE.1 hy with rfl | hy
   ·exact hv
   ·exact h y (by simp[hy])
  |false =>
   rw[he]at hy
   rcases zAE.1 hy with rfl | hy
   ·exact h _ (by simp)
   ·exact zWq k v B hv r (λ z hz=>h z (by simp[hz])) y hy
theorem zWr(k:ByteArray) (d:Int) (hd: -1<=d/\d<=1) (m:CM) (B:Nat) (h:bnd m B):bnd (add1 k d m) (B+1):=by
 have h1:=zOY k B m h
 exact zWq k _ (B+1) (by omega) m (λ x hx=>by have:=h x hx;omega)
theorem zUB(c d:List PV) (r s:List (List Val)) (e:r.length=s.length) (hr:r.length<=1000000000) (h1:∀ x∈r,ROk x/\x.length<=1000000) (h2:∀ x∈s,ROk x/\x.length<=1000000) :
 ∀(k i:Nat) (m:CM),i+k=r.length->bnd m (2*i)->zHc c (r.map rowp) d (s.map rowp) (r.length:Int) (i:Int) (mpC m)=some (.bool ((zQN (r.drop i) (s.drop i) m).all λ x=>x.2==0))
 | 0,i,m,h,hb=>by
  rw[zJa,show i=r.length by omega]
  simp only[zFU,zC,zWn,zB,List.drop_length,zQN]
 |k+1,i,m,h,hb=>by
  have hi:i<r.length:=by omega
  have hi' :i<s.length:=by omega
  obtain⟨a1,a2⟩:=h1 r[i] (zAC hi)
  obtain⟨b1,b2⟩:=h2 s[i] (zAC hi')
  have hb1:=zWr (txt r[i]) 1 (by omega) m _ hb
  have hb2:=zWr (txt s[i]) (-1) (by omega) _ _ hb1
  have g1:=zOY (txt r[i]) _ m hb
  have g2:=zOY (txt s[i]) _ _ hb1
  rw[zJa,zAv hi,zAv hi',zQN]
  have o1:∀(o:Option Int) (x:Int), -9223372036854775808<=o.getD 0+x->o.getD 0+x<=9223372036854775807->intP .add ((o.map (PV.int .i64)).getD (.int .i64 0)) (.int .i64 x)=some (.int .i64 (o.getD 0+x)):=λ o x q1 q2=>by
   cases o with
   |none=>show some (PV.int .i64 (IntKind.wrap .i64 (0+x)))=_;rw[zAU (by simpa using q1) (by simpa using q2)];rfl
   |some v=>show some (PV.int .i64 (IntKind.wrap .i64 (v+x)))=_;rw[zAU (by simpa using q1) (by simpa using q2)];rfl
  have o2:∀(o:Option Int) (x:Int), -9223372036854775808<=o.getD 0-x->o.getD 0-x<=9223372036854775807->intP .sub ((o.map (PV.int .i64)).getD (.int .i64 0)) (.int .i64 x)=some (.int .i64 (o.getD 0-x)):=λ o x q1 q2=>by
   cases o with
   |none=>show some (PV.int .i64 (IntKind.wrap .i64 (0-x)))=_;rw[zAU (by simpa using q1) (by simpa using q2)];rfl
   |some v=>show some (PV.int .i64 (IntKind.wrap .i64 (v-x)))=_;rw[zAU (by simpa using q1) (by simpa using q2)];rfl
  simp only[zAQ hi,zAc,zA,zY,zN,zH hi,zH hi',zV,zB,zDA,zAA,z26 _ a1 a2,z26 _ b1 b2,c_t_mk,zSF,c_i64_mk]
  rw[o1 _ 1 (by omega) (by omega)]
  simp only[zB,c_i64_mk,zVi,zSF]
  have e1:putC (txt r[i]) ((getC (txt r[i]) m).getD 0+1) m=add1 (txt r[i]) 1 m:=rfl
  rw[e1,o2 _ 1 (by omega) (by omega)]
  simp only[zB,c_i64_mk,zVi]
  have e2:putC (txt s[i]) ((getC (txt s[i]) (add1 (txt r[i]) 1 m)).getD 0-1) (add1 (txt r[i]) 1 m)=add1 (txt s[i]) (-1) (add1 (txt r[i]) 1 m):=rfl
  rw[e2,zAB (by omega)]
  have hb3:bnd (add1 (txt s[i]) (-1) (add1 (txt r[i]) 1 m)) (2*(i+1)):=hb2
  exact zUB c d r s e hr h1 h2 k (i+1) _ (by omega) hb3
theorem zYS(a b:List Int) (ha:a.length<=9223372036854775807):wc W zDl [zBx a,zBx b]=some (.bool (decide (a=b))):=by
 have h:=zJF (a.map intp) (b.map intp)
 rw[zI,zI]at h
 rw[h,zK,zK]
 by_cases e:a.length=b.length
 ·rw[zLq (by omega)]
  simp only[zC]
  refine zZi (λ i=>zCQ (a.map intp) (b.map intp) a.length i) a b e (some (.bool false)) (some (.bool true)) (λ i hi hi' => ?_) ?_ |>.trans ?_
  ·rw[zEH]
   simp only[zAQ hi,zAc,zA,zY,zN,zH hi,zH hi',zV,zB,zJD]
   by_cases he:a[i]=b[i]
   ·rw[zLq he,zD he,zAU (by omega) (by omega)];rfl
   ·rw[zLI he,zL he];rfl
  ·rw[zEH];simp
  ·cases decide (a=b)<;>rfl
 ·rw[zLI (by omega),zL (λ h=>e (by rw[h]))];rfl
def z1q(c:List Int) (r:List (List Val)) (d:List Int) (s:List (List Val)):Bool:=decide (c=d)&&decide (r.length=s.length)&&(zQN r s []).all λ x=>x.2==0
theorem z27(c:List Int) (r:List (List Val)) (d:List Int) (s:List (List Val)) (hc:c.length<=9223372036854775807) (hr:r.length<=1000000000) (hs:s.length<=1000000000) (h1:∀ x∈r,ROk x/\x.length<=1000000) (h2:∀ x∈s,ROk x/\x.length<=1000000) :
 wc W zKP [bagp c r,bagp d s]=some (.bool (z1q c r d s)):=by
 have h:=zXm (c.map intp) (r.map rowp) (d.map intp) (s.map rowp)
 rw[zI,zI,zAa,zAa,zAo,zAo,zYS c d hc]at h
 rw[h]
 unfold z1q
 simp only[zB,c_b_mk,zK]
 cases decide (c=d) with
 |false=>rfl
 |true =>
  by_cases e:r.length=s.length
  ·rw[zLq (by omega),zD e,zPV]
   have:=zUB (c.map intp) (d.map intp) r s e hr h1 h2 r.length 0 [] (by omega) (λ x hx=>by simp at hx)
   simp only[List.drop_zero]at this
   simp only[zAH,zC,zK,zAD]
   exact this
  ·rw[zLI (by omega),zL e];rfl
def cnt(L:List UInt8) (r:List (List Val)):Int:=((r.map tL).count L:Nat)
theorem zWs(L:List UInt8) (k:ByteArray) (d:Int) (m:CM):getL L (add1 k d m)=getL L m+if L=k.toList then d else 0:=by
 unfold add1
 rw[zWo,zTz]
 split
 ·rename_i h;rw[h]
 ·omega
theorem zMJ(L:List UInt8):∀(r s:List (List Val)) (m:CM),r.length=s.length->(zIp m).Nodup->(zIp (zQN r s m)).Nodup/\getL L (zQN r s m)=getL L m+cnt L r-cnt L s
 | [],[],m,_,h=>⟨h,by simp[zQN,cnt]⟩
 | [],_::_,m,e,h=>by simp at e
 |_::_,[],m,e,h=>by simp at e
 |x::r,y::s,m,e,h=>by
  have k1:=(zSG (txt x) ((getC (txt x) m).getD 0+1) m h).1
  have k2:=(zSG (txt y) ((getC (txt y) (add1 (txt x) 1 m)).getD 0+ -1) (add1 (txt x) 1 m) k1).1
  obtain⟨i1,i2⟩:=zMJ L r s (add1 (txt y) (-1) (add1 (txt x) 1 m)) (by simpa using e) k2
  refine⟨i1,?_⟩
  show getL L (zQN r s (add1 (txt y) (-1) (add1 (txt x) 1 m)))=_
  rw[i2,zWs,zWs]
  have c1:cnt L (x::r)=cnt L r+if L=(txt x).toList then 1 else 0:=by
   unfold cnt
   rw[zAX,List.count_cons]
   by_cases hx:L=(txt x).toList
   ·rw[if_pos hx,show(tL x==L)=true by rw[hx];exact zBj _];simp
   ·rw[if_neg hx,show(tL x==L)=false by simpa using λ e=>hx e.symm];simp
  have c2:cnt L (y::s)=cnt L s+if L=(txt y).toList then 1 else 0:=by
   unfold cnt
   rw[zAX,List.count_cons]
   by_cases hx:L=(txt y).toList
   ·rw[if_pos hx,show(tL y==L)=true by rw[hx];exact zBj _];simp
   ·rw[if_neg hx,show(tL y==L)=false by simpa using λ e=>hx e.symm];simp
  rw[c1,c2]
  split<;>split<;>omega
theorem z1r(r s:List (List Val)) (e:r.length=s.length):((zQN r s []).all λ x=>x.2==0)=true↔∀ L,cnt L r=cnt L s:=by
 rw[zWp _ (zMJ [] r s [] e (by simp[zIp])).1]
 constructor
 ·intro h L
  have:=(zMJ L r s [] e (by simp[zIp])).2
  rw[h L]at this
  simp only[getL]at this
  omega
 ·intro h L
  rw[(zMJ L r s [] e (by simp[zIp])).2,h L]
  simp only[getL];omega
theorem z1s{r s:List (List Val)} (h:r.Perm s) (L:List UInt8):cnt L r=cnt L s:=by
 unfold cnt
 rw[(h.map tL).count_eq]
theorem zUC{c:List Int} {r s:List (List Val)} (h:r.Perm s):z1q c r c s=true:=by
 unfold z1q
 rw[zD rfl,zD h.length_eq,(z1r r s h.length_eq).2 (z1s h)];rfl
end Go.Cf

namespace Go.Cf
open Go Go.Ab
end Go.Cf

namespace Go.Cf
open Go Go.Ab
theorem zPn{r s:List (List Val)} {z:List Val} (h:z∈zC7 r s):∃ x∈r,∃ y∈s,z=x++y:=by
 unfold zC7 at h
 obtain⟨x,hx,h⟩:=List.mem_flatMap.1 h
 obtain⟨y,hy,rfl⟩:=zAh.1 h
 exact⟨x,hx,y,hy,rfl⟩
theorem zVj(r s t:List (List Val)):zC7 (zC7 r s) t=zC7 r (zC7 s t):=by
 unfold zC7
 rw[List.flatMap_assoc]
 congr 1;funext x
 rw[List.map_flatMap,List.flatMap_map]
 congr 1;funext y
 rw[List.map_map]
 congr 1;funext z
 simp
theorem zSH{α β:Type} {f g:α->List β}:∀{l:List α},(∀ x∈l,f x=g x)->l.flatMap f=l.flatMap g
 | [],_=>rfl
 |a::l,h=>by rw[zC2,zC2,h a (by simp),zSH (λ x hx=>h x (by simp[hx]))]
end Go.Cf

namespace Go.Cf
open Go Go.Ab
theorem zK7:∀ m:Nat,m<16->m≠0->1<=cntS m:=by decide +kernel
theorem zLY:∀(d:Nat) (t:Tree) (m:Nat),setO d t=some m->m≠0
 | 0,t,m,h=>by simp[setO]at h
 |d+1,.mk o l,m,h=>by
  rcases zDf h with⟨rfl,h1,h2,rfl⟩ | ⟨a,b,x,y,rfl,rfl,hx,hy,h4,rfl⟩
  ·exact Nat.ne_of_gt (Nat.pow_pos (by omega))
  ·have:=zLY d a x hx
   have h5:x<=x ||| y:=Nat.left_le_or
   omega
theorem zUD(d:Nat) (a b:Tree):setO (d+1) (.mk 0 [a,b])=(setO d a).bind λ x=>(setO d b).bind λ y=>bif decide (x &&& y=0)then some (x ||| y)else none:=by
 simp only[setO,decide_true,zA]
theorem zOZ:∀(d:Nat) (t:Tree) (m:Nat),setO d t=some m->setO (cntS m) t=some m
 | 0,t,m,h=>by simp[setO]at h
 |d+1,.mk o l,m,h=>by
  rcases zDf h with⟨rfl,h1,h2,rfl⟩ | ⟨a,b,x,y,rfl,rfl,hx,hy,h4,rfl⟩
  ·rw[zRt _ (by omega)];simp[setO,h1,h2]
  ·have hxl:=zBI _ _ _ hx
   have hyl:=zBI _ _ _ hy
   have px:=zK7 x hxl (zLY _ _ _ hx)
   have py:=zK7 y hyl (zLY _ _ _ hy)
   rw[zRs _ hxl _ hyl h4]
   obtain⟨k,hk⟩:∃ k,cntS x+cntS y=k+1:=⟨cntS x+cntS y-1,by omega⟩
   have ea:=zJt (zOZ d a x hx) (k-cntS x)
   have eb:=zJt (zOZ d b y hy) (k-cntS y)
   rw[show cntS x+(k-cntS x)=k by omega]at ea
   rw[show cntS y+(k-cntS y)=k by omega]at eb
   rw[hk,zUD,ea,eb]
   simp only[zB,h4,decide_true,zA]
def zQO(a b:Tree):Tree:= .mk 0 [a,b]
theorem zMK(a b:Tree):setO 4 (zQO a b)=(setO 4 a).bind λ x=>(setO 4 b).bind λ y=>bif decide (x &&& y=0)then some (x ||| y)else none:=by
 have e:setO 4 (zQO a b)=(setO 3 a).bind λ x=>(setO 3 b).bind λ y=>bif decide (x &&& y=0)then some (x ||| y)else none:=zUD 3 a b
 rw[e]
 have low:∀ t:Tree,setO 4 t=none->setO 3 t=none:=λ t h=>by
  cases h3:setO 3 t with
  |none=>rfl
  |some x=>rw[zJs 3 t x h3]at h;cases h
 have up:∀(t:Tree) (x:Nat),setO 4 t=some x->cntS x<=3->setO 3 t=some x:=λ t x h hc=>by
  have:=zJt (zOZ 4 t x h) (3-cntS x)
  rwa [show cntS x+(3-cntS x)=3 by omega]at this
 have up2:∀(t:Tree) (x:Nat),setO 4 t=some x->setO 3 t=some x∨setO 3 t=none:=λ t x h=>by
  cases h3:setO 3 t with
  |none=>exact .inr rfl
  |some z=>rw[zJs 3 t z h3]at h;exact .inl h
 cases ha:setO 4 a with
 |none=>rw[low a ha];rfl
 |some x =>
  cases hb:setO 4 b with
  |none =>
   rw[low b hb]
   cases setO 3 a<;>rfl
  |some y =>
   simp only[zB]
   have hxl:=zBI _ _ _ ha
   have hyl:=zBI _ _ _ hb
   by_cases h:x &&& y=0
   ·have px:=zK7 x hxl (zLY _ _ _ ha)
    have py:=zK7 y hyl (zLY _ _ _ hb)
    have:=zRs _ hxl _ hyl h
    have h4:=zV7 (x ||| y) (zYO _ hxl _ hyl)
    rw[up a x ha (by omega),up b y hb (by omega)]
    rfl
   ·rw[zL h]
    rcases up2 a x ha with e1 | e1<;>rcases up2 b y hb with e2 | e2<;>rw[e1,e2]<;>simp[h]
def zAb:Nat->Tree->List Nat
 | 0,_=>[]
 |_+1,.mk o []=>[o.toNat]
 |d+1,.mk _ [x,y]=>zAb d x++zAb d y
 |_+1,.mk _ [_]=>[]
 |_+1,.mk _ (_::_::_::_)=>[]
theorem zJy:∀(d:Nat) (t:Tree) (m:Nat),setO d t=some m->zAb (d+1) t=zAb d t
 | 0,t,m,h=>by simp[setO]at h
 |d+1,.mk o l,m,h=>by
  rcases zDf h with⟨rfl,h1,h2,rfl⟩ | ⟨a,b,x,y,rfl,rfl,hx,hy,h4,rfl⟩
  ·simp only[zAb]
  ·simp only[zAb,zJy d a x hx,zJy d b y hy]
theorem z1t:∀ n:Nat,n<4->∀ o:Nat,((2 ^ n).testBit o=true↔o=n):=λ n hn o=>by
 rw[Nat.testBit_two_pow]
 simp only[zU]
 omega
theorem zBa:∀(d:Nat) (t:Tree) (m:Nat),setO d t=some m->∀ o,o∈zAb d t↔m.testBit o=true
 | 0,t,m,h,o=>by simp[setO]at h
 |d+1,.mk z l,m,h,o=>by
  rcases zDf h with⟨rfl,h1,h2,rfl⟩ | ⟨a,b,x,y,rfl,rfl,hx,hy,h4,rfl⟩
  ·simp only[zAb,zBf,z1t z.toNat (by omega) o]
  ·simp only[zAb,List.mem_append,zBa d a x hx o,zBa d b y hy o,Nat.testBit_or,zFM]
theorem zJz:∀ m:Nat,m<16->∀ o:Nat,m.testBit o=true->o<4:=λ m hm o h=>by
 have:=Nat.testBit_lt_two_pow (x:=m) (i:=o)
 apply Classical.byContradiction
 intro hn
 have h16:2 ^ 4<=2 ^ o:=Nat.pow_le_pow_right (by omega) (by omega)
 rw[Nat.testBit_lt_two_pow (show m<2 ^ o by omega)]at h
 cases h
theorem zGg:∀(d:Nat) (t:Tree) (m:Nat),setO d t=some m->(zAb d t).Nodup
 | 0,t,m,h=>by simp[setO]at h
 |d+1,.mk z l,m,h=>by
  rcases zDf h with⟨rfl,h1,h2,rfl⟩ | ⟨a,b,x,y,rfl,rfl,hx,hy,h4,rfl⟩
  ·simp[zAb]
  ·simp only[zAb]
   refine List.nodup_append.2 ⟨zGg d a x hx,zGg d b y hy,λ o h1 o' h2 e=> ?_⟩
   subst e
   have b1:=(zBa d a x hx o).1 h1
   have b2:=(zBa d b y hy o).1 h2
   exact zRu _ (zBI _ _ _ hx) _ (zBI _ _ _ hy) h4 o (zJz x (zBI _ _ _ hx) o b1) ⟨b1,b2⟩
theorem zPo{a b:Tree} {x y:Nat} (ha:setO 4 a=some x) (hb:setO 4 b=some y) (hxy:x &&& y=0):zAb 4 (zQO a b)=zAb 4 a++zAb 4 b:=by
 have h:=zMK a b
 rw[ha,hb]at h
 simp only[zB,hxy,decide_true,zA]at h
 have h3:∀ t:Tree,∀ z,setO 4 t=some z->cntS z<=3->zAb 4 t=zAb 3 t:=λ t z hz hc=>by
  have:=zJt (zOZ 4 t z hz) (3-cntS z)
  rw[show cntS z+(3-cntS z)=3 by omega]at this
  exact zJy 3 t z this
 have hxl:=zBI _ _ _ ha
 have hyl:=zBI _ _ _ hb
 have px:=zK7 x hxl (zLY _ _ _ ha)
 have py:=zK7 y hyl (zLY _ _ _ hb)
 have:=zRs _ hxl _ hyl hxy
 have h4:=zV7 (x ||| y) (zYO _ hxl _ hyl)
 rw[h3 a x ha (by omega),h3 b y hb (by omega)]
 rfl
def zDV(q:QT) (l:List Nat):List Int:=l.flatMap λ o=>zEv q.T q.occ o
def zHZ(q:QT):List Nat->List (List Val)
 | []=>[[]]
 |o::l=>zC7 (q.leaf o) (zHZ q l)
theorem zPp(r:List (List Val)):zC7 r [[]]=r:=by
 unfold zC7
 induction r with
 |nil=>rfl
 |cons x r ih=>rw[zC2,ih];simp
theorem zYT(r:List (List Val)):zC7 [[]] r=r:=by
 unfold zC7
 simp
theorem zHm(q:QT):∀ l l' :List Nat,zHZ q (l++l')=zC7 (zHZ q l) (zHZ q l')
 | [],l' =>by rw[List.nil_append,zHZ,zYT]
 |o::l,l' =>by rw[List.cons_append,zHZ,zHm q l l',zHZ,zVj]
theorem zKA(q:QT) (l l' :List Nat):zDV q (l++l')=zDV q l++zDV q l' :=by simp[zDV]
theorem zUE{q:QT} (hq:QOk q) {o:Nat} (ho:o<q.occ.length):(∀ r∈q.leaf o,r.length=(zEv q.T q.occ o).length/\r.all mayV=true/\ROk r)/\(q.leaf o).length<=8:=by
 have h4:o<4:=by have:=hq.occ;omega
 have hg:q.occ.getD o 0=q.occ[o]:=by rw[zA0,zH ho];rfl
 have h:=RT.leaf (q:=q) hq.fits hq.vals (o:=o) h4 (by rw[hg];exact hq.inT _ (zAC ho)) (λ _=>true)
 rw[List.filter_eq_self.2 (λ _ _=>rfl)]at h
 refine⟨h.rows,?_⟩
 have:=h.len
 rw[zRt o h4]at this
 exact this
theorem zCT{q:QT} (hq:QOk q):∀{l:List Nat},(∀ o∈l,o<q.occ.length)->∀ r∈zHZ q l,r.length=(zDV q l).length/\r.all mayV=true/\ROk r
 | [],_,r,hr=>by
  simp only[zHZ,zBf]at hr
  subst hr
  exact⟨rfl,rfl,λ v hv=>by cases hv⟩
 |o::l,hl,r,hr=>by
  simp only[zHZ]at hr
  obtain⟨x,hx,y,hy,rfl⟩:=zPn hr
  obtain⟨a1,a2,a3⟩:=(zUE hq (hl o (by simp))).1 x hx
  obtain⟨b1,b2,b3⟩:=zCT hq (λ o ho=>hl o (by simp[ho])) y hy
  refine⟨by simp only[zDV,zC2,zAK]at b1 ⊢;omega,by rw[List.all_append,a2,b2];rfl,λ v hv=> ?_⟩
  rcases List.mem_append.1 hv with h | h
  ·exact a3 v h
  ·exact b3 v h
theorem zUF{q:QT} (hq:QOk q):∀{l:List Nat},(∀ o∈l,o<q.occ.length)->(zHZ q l).length<=8 ^ l.length
 | [],_=>by simp[zHZ]
 |o::l,hl=>by
  have h1:=(zUE hq (hl o (by simp))).2
  have h2:=zUF hq (l:=l) (λ o ho=>hl o (by simp[ho]))
  simp only[zHZ,zHP,List.length_cons]
  rw[Nat.pow_succ,Nat.mul_comm]
  exact Nat.mul_le_mul h2 h1
def zKB(q:QT) (f:Nat->Bool) (c:List Int) (r:List Val):Bool:=zTh (exQ q.P (zIR q.P f)) c r
theorem zVk{P:List Ex} {f:Nat->Bool} {e:Ex}:e∈exQ P (zIR P f)↔e∈P/\f (setE e)=true:=by
 unfold exQ zIR
 rw[List.mem_filterMap]
 constructor
 ·rintro⟨i,hi,h⟩
  have h2:=(zBS.1 hi).2
  rw[h]at h2
  exact⟨zAV h,by simpa using h2⟩
 ·rintro⟨h1,h2⟩
  obtain⟨i,hi,rfl⟩:=List.mem_iff_getElem.1 h1
  refine⟨i,zBS.2 ⟨List.mem_range'_1.2 ⟨by omega,by omega⟩,?_⟩,zH hi⟩
  rw[zH hi]
  simpa using h2
theorem zKC{q:QT} {f:Nat->Bool} {c:List Int} {r:List Val}:zKB q f c r=true↔∀ e∈q.P,f (setE e)=true->zMC e c r=true:=by
 unfold zKB zTh
 rw[zAF]
 exact⟨λ h e he hf=>h e (zVk.2 ⟨he,hf⟩),λ h e he=>h e (zVk.1 he).1 (zVk.1 he).2⟩
theorem z1u{s:Nat} (hs:s<16) {e:Ex} (hw:zAp s (setE e)=true) {c:Int} (hc:c∈zHY e):s.testBit (occI c)=true :=
 z1n s hs (setE e) (zV6 e) (zAM hw) _ (zIl c) (zW7 _ 0 _ (by omega) (zIl c) (.inr ⟨c,hc,rfl⟩))
theorem z0L{q:QT} (hc:∀ e∈q.P,zN8 q e) {l:List Nat} {m:Nat} (hm:m<16) (hl:∀ o,m.testBit o=true->o∈l) {e:Ex} (he:e∈q.P) (hw:zAp m (setE e)=true):∀ c∈zHY e,c∈zDV q l:=λ c hcc =>
 List.mem_flatMap.2 ⟨occI c,hl _ (z1u hm hw hcc),hc e he c hcc⟩
theorem zFZ{q:QT} (hq:QOk q) {l:List Nat} (hl:∀ o∈l,o<q.occ.length) {c:Int} (h:c∈zDV q l):occI c∈l/\0<=c/\c<=15:=by
 obtain⟨o,ho,hc⟩:=List.mem_flatMap.1 h
 have hT:mayC q.T=true:=(zK2 hq.fits).2.1
 have h4:o<4:=by have:=hq.occ;have:=hl o ho;omega
 obtain⟨h1,h2,h3⟩:=zMF hT h4 (zW8 hq (hl o ho)) hc
 rw[h1]
 exact⟨ho,by omega,by omega⟩
theorem zPq{q:QT} (hq:QOk q):∀{l:List Nat},(∀ o∈l,o<q.occ.length)->l.Nodup->(zDV q l).Nodup
 | [],_,_=>by simp[zDV]
 |o::l,hl,hn=>by
  have hn2:=List.nodup_cons.1 hn
  show(zEv q.T q.occ o++zDV q l).Nodup
  refine List.nodup_append.2 ⟨?_,zPq hq (λ o ho=>hl o (by simp[ho])) hn2.2,λ c hc c' hc' e=> ?_⟩
  ·unfold zEv zDt
   exact List.pairwise_map.2 ((List.nodup_range' (s:=0) (n:=_)).imp λ{a b} h e=>h (by omega))
  ·subst e
   have h1:c∈zDV q [o]:=by simpa [zDV]using hc
   have h2:=(zFZ hq (l:=[o]) (λ z hz=>by rw[zBf]at hz;subst hz;exact hl z (by simp)) h1).1
   rw[zBf]at h2
   have h3:=(zFZ hq (λ o ho=>hl o (by simp[ho])) hc').1
   rw[h2]at h3
   exact hn2.1 h3
theorem zUG{x y s:Nat} (h:zAp x s=true∨zAp y s=true):zAp (x ||| y) s=true:=by
 unfold zAp at h ⊢
 simp only[zU]at h ⊢
 rw[Nat.and_or_distrib_right]
 rcases h with h | h
 ·rw[h]
  apply Nat.eq_of_testBit_eq
  intro i
  rw[Nat.testBit_or,Nat.testBit_and]
  cases s.testBit i<;>simp
 ·rw[h]
  apply Nat.eq_of_testBit_eq
  intro i
  rw[Nat.testBit_or,Nat.testBit_and]
  cases s.testBit i<;>simp
theorem zWt{q:QT} (hq:QOk q) (hc:∀ e∈q.P,zN8 q e) {l l' :List Nat} {x y:Nat} (hx:x<16) (hy:y<16) (hxy:x &&& y=0) (hl:∀ o,o∈l↔x.testBit o=true) (hl' :∀ o,o∈l' ↔y.testBit o=true)
 (hlo:∀ o∈l,o<q.occ.length) (hlo' :∀ o∈l',o<q.occ.length) {u v:List Val} (hu:u.length=(zDV q l).length) (hv:v.length=(zDV q l').length) :
 zKB q (zAp (x ||| y)) (zDV q l++zDV q l') (u++v)=(zKB q (zAp x) (zDV q l) u&&zKB q (zAp y) (zDV q l') v&&zKB q (newF x y) (zDV q l++zDV q l') (u++v)):=by
 have left:∀ e∈q.P,zAp x (setE e)=true->zMC e (zDV q l++zDV q l') (u++v)=zMC e (zDV q l) u:=λ e he hw =>
  zP8 λ c hcc=>zFo (zD (z0L hc hx (λ o=>(hl o).2) he hw c hcc)) hu
 have right:∀ e∈q.P,zAp y (setE e)=true->zMC e (zDV q l++zDV q l') (u++v)=zMC e (zDV q l') v:=λ e he hw =>
  zP8 λ c hcc=>by
   have h1:=z0L hc hy (λ o=>(hl' o).2) he hw c hcc
   refine zN7 (zL λ h2=> ?_) (zD h1) hu hv
   have b1:=(hl _).1 (zFZ hq hlo h2).1
   have b2:=(hl' _).1 (zFZ hq hlo' h1).1
   exact zRu _ hx _ hy hxy _ (zIl c) ⟨b1,b2⟩
 rw[Bool.eq_iff_iff,zF,zF,zKC,zKC,zKC,zKC]
 constructor
 ·intro h
  refine⟨⟨λ e he hw=> ?_,λ e he hw=> ?_⟩,λ e he hw=> ?_⟩
  ·rw[<- left e he hw];exact h e he (zUG (.inl hw))
  ·rw[<- right e he hw];exact h e he (zUG (.inr hw))
  ·unfold newF at hw
   simp only[zF]at hw
   exact h e he hw.1.1
 ·rintro⟨⟨h1,h2⟩,h3⟩ e he hw
  cases hwx:zAp x (setE e) with
  |true=>rw[left e he hwx];exact h1 e he hwx
  |false =>
   cases hwy:zAp y (setE e) with
   |true=>rw[right e he hwy];exact h2 e he hwy
   |false =>
    refine h3 e he ?_
    unfold newF
    rw[hw,hwx,hwy];rfl
theorem zLZ{f g h k:List Val->Bool}:∀{r s:List (List Val)},(∀ u∈r,∀ v∈s,k (u++v)=(f u&&g v&&h (u++v)))->(zC7 (r.filter f) (s.filter g)).filter h=(zC7 r s).filter k
 | [],s,_=>rfl
 |a::r,s,H=>by
  have ih:=zLZ (r:=r) (s:=s) λ u hu v hv=>H u (by simp[hu]) v hv
  have e:∀(r s:List (List Val)),zC7 (a::r) s=(s.map λ y=>a++y)++zC7 r s:=λ _ _=>rfl
  rw[e,List.filter_append,<-ih,List.filter_cons]
  cases hf:f a with
  |true =>
   rw[if_pos rfl,e,List.filter_append]
   congr 1
   rw[List.filter_map,List.filter_map,List.filter_filter]
   congr 1
   refine List.filter_congr λ v hv=> ?_
   have:=H a (by simp) v hv
   simp only[Function.comp_apply]
   rw[this,hf,zAD,Bool.and_comm]
  |false =>
   rw[if_neg (by simp)]
   have:(s.map λ y=>a++y).filter k=[]:=by
    rw[List.filter_eq_nil_iff]
    intro z hz
    obtain⟨v,hv,rfl⟩:=zAh.1 hz
    rw[H a (by simp) v hv,hf];simp
   rw[this,List.nil_append]
theorem zND{q:QT} (hq:QOk q) (hc:∀ e∈q.P,zN8 q e):∀(d:Nat) (t:Tree) (m:Nat),setO d t=some m->m<2 ^ q.occ.length->zC0 q d t=(zDV q (zAb d t),(zHZ q (zAb d t)).filter (zKB q (zAp m) (zDV q (zAb d t))))
 | 0,t,m,h,_=>by simp[setO]at h
 |d+1,.mk o l,m,h,hm=>by
  rcases zDf h with⟨rfl,h1,h2,rfl⟩ | ⟨a,b,x,y,rfl,rfl,hx,hy,h4,rfl⟩
  ·simp only[zC0,zAb,zDV,zHZ,zPp,zC2,List.flatMap_nil,zBN]
   rfl
  ·have hle1:x<=x ||| y:=Nat.left_le_or
   have hle2:y<=x ||| y:=Nat.right_le_or
   have hxl:=zBI _ _ _ hx
   have hyl:=zBI _ _ _ hy
   have hocc:=hq.occ
   have ia:=zND hq hc d a x hx (by omega)
   have ib:=zND hq hc d b y hy (by omega)
   have la:=zBa d a x hx
   have lb:=zBa d b y hy
   have oa:∀ o∈zAb d a,o<q.occ.length:=λ o ho=>zJv x hxl q.occ.length (by omega) (by omega) o (zJz x hxl o ((la o).1 ho)) ((la o).1 ho)
   have ob:∀ o∈zAb d b,o<q.occ.length:=λ o ho=>zJv y hyl q.occ.length (by omega) (by omega) o (zJz y hyl o ((lb o).1 ho)) ((lb o).1 ho)
   simp only[zC0,zAb,ia,ib,hx,hy,Option.getD_some,zKA,zHm]
   congr 1
   exact zLZ λ u hu v hv=>zWt hq hc hxl hyl h4 la lb oa ob (zCT hq oa u hu).1 (zCT hq ob v hv).1
theorem z0M{α β:Type} {f g:α->List β}:∀{l:List α},(∀ x∈l,(f x).Perm (g x))->(l.flatMap f).Perm (l.flatMap g)
 | [],_=>List.Perm.refl _
 |a::l,h=>by
  rw[zC2,zC2]
  exact(h a (by simp)).append (z0M λ x hx=>h x (by simp[hx]))
theorem zPr{q:QT} (hq:QOk q) {l:List Nat} (hl:∀ o∈l,o<q.occ.length) (hn:l.Nodup) (f:List Val->Bool):mayB (zDV q l) ((zHZ q l).filter f)=true:=by
 have hlen:l.length<=q.occ.length:=by
  have:=List.Nodup.length_le_of_subset hn (l₂ :=List.range q.occ.length) (λ o ho=>List.mem_range.2 (hl o ho))
  simpa using this
 have h8:8 ^ l.length<=8 ^ 4:=Nat.pow_le_pow_right (by omega) (by have:=hq.occ;omega)
 have h1:=zUF hq hl
 have h2:=zEP f (zHZ q l)
 unfold mayB
 simp only[zF,zU,zAF]
 refine⟨⟨(zP3 _).2 ⟨λ c hc=>(zFZ hq hl hc).2,zPq hq hl hn⟩,λ r hr=> ?_⟩,by omega⟩
 have:=zCT hq hl r (zBS.1 hr).1
 unfold rowB
 simp only[zF,zU]
 exact⟨this.1,this.2.1⟩
end Go.Cf

namespace Go.Cf
open Go Go.Ab
end Go.Cf

namespace Go.Cf
open Go Go.Ab
inductive Plan where
 |mk (op occ p0 p1:Int) (l:List Plan)
namespace Plan
def op:Plan->Int | mk o _ _ _ _=>o
def occ:Plan->Int | mk _ o _ _ _=>o
def p0:Plan->Int | mk _ _ p _ _=>p
def p1:Plan->Int | mk _ _ _ p _=>p
def l:Plan->List Plan | mk _ _ _ _ l=>l
@[simp] theorem eta(t:Plan):mk t.op t.occ t.p0 t.p1 t.l=t:=by cases t;rfl
end Plan
def zBL:Plan->Tree
 | .mk op occ _ _ []=> .mk occ []
 | .mk op _ _ _ [a]=>bif op==4 then zBL a else .mk 0 [zBL a]
 | .mk op _ _ _ [a,b]=>zQO (zBL a) (zBL b)
 | .mk _ _ _ _ (_::_::_::_)=> .mk 0 []
theorem zQy(c:List Int) (r:List (List Val)) (col:Int):(zTx c r col).Perm r:=(zQw _ r).2.perm
theorem zUH(c:List Int) (r:List (List Val)) (col:Int):Srt (leR (idxI c λ x=>col==x)) (zTx c r col):=(zQw _ r).1
def SrtC(c:List Int) (col:Int) (r:List (List Val)):Prop:=Srt (leR (idxI c λ x=>col==x)) r
theorem zWu{c:List Int} {col:Int} (h:inC c col=true) {x:List Val} (hx:x.length=c.length):keyR (idxI c λ y=>col==y) x=bif mayV (zW c x col)then((zW c x col).K,(zW c x col).N)else(2,0):=by
 obtain⟨h1,h2⟩:=zEk (row:=x) h hx
 unfold keyR
 rw[h1,zL (by omega)];rfl
def keyV(v:Val):Int×Int:=bif mayV v then(v.K,v.N)else(2,0)
def leV(u v:Val):Bool:= !decide (cmpB (keyV v) (keyV u)<0)
theorem z6D{c:List Int} {col:Int} (h:inC c col=true) {x y:List Val} (hx:x.length=c.length) (hy:y.length=c.length):leR (idxI c λ z=>col==z) x y=leV (zW c x col) (zW c y col):=by
 unfold leR leV
 rw[zWu h hx,zWu h hy];rfl
theorem zVl(u v:Val):leV u v=true↔(keyV u).1<(keyV v).1∨((keyV u).1=(keyV v).1/\(keyV u).2<=(keyV v).2):=by
 unfold leV
 rw[Bool.not_eq_true',decide_eq_false_iff_not,zVg]
 omega
theorem z1v(u:Val):leV u u=true:=(zVl u u).2 (.inr ⟨rfl,Int.le_refl _⟩)
theorem zUI{u v w:Val} (h:leV u v=true) (k:leV v w=true):leV u w=true:=by
 rw[zVl]at *;omega
theorem zK8{c:List Int} {col:Int} (h:inC c col=true) {r:List (List Val)} (hr:∀ x∈r,x.length=c.length):SrtC c col r↔r.Pairwise λ x y=>leV (zW c x col) (zW c y col)=true:=by
 unfold SrtC Srt
 constructor
 ·intro k
  refine k.imp_of_mem λ{a b} ha hb e=> ?_
  rw[<- z6D h (hr a ha) (hr b hb)];exact e
 ·intro k
  refine k.imp_of_mem λ{a b} ha hb e=> ?_
  rw[z6D h (hr a ha) (hr b hb)];exact e
theorem zPs{α β:Type} {R:β->β->Prop} {f:α->List β}:∀{l:List α},(∀ x∈l,(f x).Pairwise R)->(l.Pairwise λ x y=>∀ a∈f x,∀ b∈f y,R a b)->(l.flatMap f).Pairwise R
 | [],_,_=>List.Pairwise.nil
 |x::l,h,k=>by
  rw[zC2,List.pairwise_append]
  have k2:=List.pairwise_cons.1 k
  refine⟨h x (by simp),zPs (λ y hy=>h y (by simp[hy])) k2.2,λ a ha b hb=> ?_⟩
  obtain⟨y,hy,hb⟩:=List.mem_flatMap.1 hb
  exact k2.1 y hy a ha b hb
theorem z0N{c d:List Int} {col:Int} (h:inC c col=true) {r s:List (List Val)} (hr:∀ x∈r,x.length=c.length) (hs:∀ x∈s,x.length=d.length) (k:SrtC c col r) (f:List Val->Bool):SrtC (c++d) col ((zC7 r s).filter f):=by
 have hcd:inC (c++d) col=true:=zD (List.mem_append_left _ (zAM h))
 have hl:∀ x∈(zC7 r s).filter f,x.length=(c++d).length:=λ x hx=>by
  obtain⟨u,hu,v,hv,rfl⟩:=zPn (zBS.1 hx).1
  rw[zAK,zAK,hr u hu,hs v hv]
 rw[zK8 hcd hl]
 refine List.Pairwise.filter _ ?_
 rw[zK8 h hr]at k
 unfold zC7
 refine zPs (λ u hu=> ?_) (k.imp_of_mem λ{u v} hu hv e a ha b hb=> ?_)
 ·rw[List.pairwise_map]
  refine List.Pairwise.imp_of_mem (R:=λ _ _=>True) (λ{a b} ha hb _=> ?_) (List.pairwise_of_forall λ _ _=>trivial)
  rw[zFo h (hr u hu),zFo h (hr u hu)]
  exact z1v _
 ·obtain⟨a',ha',rfl⟩:=zAh.1 ha
  obtain⟨b',hb',rfl⟩:=zAh.1 hb
  rw[zFo h (hr u hu),zFo h (hr v hv)]
  exact e
def zDg(u v:Val):Bool:=u.K==0&&v.K==0&&u.N==v.N
def selR(g:List Val->List Val->Bool) (r s:List (List Val)):List (List Val):=r.flatMap λ x=>(s.filter (g x)).map λ y=>x++y
theorem zPt{g:List Val->List Val->Bool} {f:List Val->Bool} {r s:List (List Val)} (h:∀ x∈r,∀ y∈s,f (x++y)=true->g x y=true):(selR g r s).filter f=(zC7 r s).filter f:=by
 unfold selR zC7
 rw[List.filter_flatMap,List.filter_flatMap]
 refine zSH λ x hx=> ?_
 rw[List.filter_map,List.filter_map,List.filter_filter]
 congr 1
 refine List.filter_congr λ y hy=> ?_
 simp only[Function.comp_apply]
 cases hf:f (x++y) with
 |false=>rfl
 |true=>rw[h x hx y hy hf];rfl
def ltV'(u v:Val):Bool:=decide (cmpB (keyV u) (keyV v)<0)
theorem zSI(u v:Val):ltV' u v= !leV v u:=by unfold ltV' leV;rw[Bool.not_not]
theorem z29{c:List Int} {col:Int} (v:Val):∀{s:List (List Val)},(s.Pairwise λ x y=>leV (zW c x col) (zW c y col)=true)->(∀ y∈s,mayV (zW c y col)=true)->mayV v=true ->
 (s.dropWhile λ y=>ltV' (zW c y col) v).takeWhile (λ y=>zDg (zW c y col) v)=s.filter λ y=>zDg (zW c y col) v
 | [],_,_,_=>rfl
 |y::s,hs,hm,hv=>by
  have h2:=List.pairwise_cons.1 hs
  have ih:=z29 v h2.2 (λ z hz=>hm z (by simp[hz])) hv
  have hy:=hm y (by simp)
  have key:∀ u:Val,mayV u=true->keyV u=(u.K,u.N):=λ u hu=>by unfold keyV;rw[hu];rfl
  have same_key:∀ u:Val,mayV u=true->zDg u v=true->keyV u=keyV v:=λ u hu h=>by
   unfold zDg at h
   simp only[zF,beq_iff_eq]at h
   rw[key u hu,key v hv,h.1.1,h.1.2,h.2]
  rw[List.dropWhile_cons,List.filter_cons]
  cases hlt:ltV' (zW c y col) v with
  |true =>
   rw[if_pos rfl,ih]
   have:zDg (zW c y col) v=false:=by
    cases h:zDg (zW c y col) v with
    |false=>rfl
    |true =>
     have:=same_key _ hy h
     unfold ltV' at hlt
     rw[this]at hlt
     have:=(zVg _ _).1 (zAM hlt)
     omega
   rw[this];rfl
  |false =>
   rw[if_neg (by simp),List.takeWhile_cons]
   have hge:leV v (zW c y col)=true:=by
    rw[zSI]at hlt
    simpa using hlt
   cases hs2:zDg (zW c y col) v with
   |true =>
    rw[if_pos rfl,if_pos rfl]
    congr 1
    have hd:s.dropWhile (λ y=>ltV' (zW c y col) v)=s:=by
     cases s with
     |nil=>rfl
     |cons z s =>
      rw[List.dropWhile_cons]
      have hz:=zUI hge (h2.1 z (by simp))
      have:ltV' (zW c z col) v=false:=by rw[zSI,hz];rfl
      rw[this];rfl
    rw[hd]at ih
    exact ih
   |false =>
    rw[if_neg (by simp),if_neg (by simp)]
    symm
    rw[List.filter_eq_nil_iff]
    intro z hz hzs
    have hmz:=hm z (by simp[hz])
    have e:=same_key _ hmz hzs
    have h3:=h2.1 z hz
    rw[zVl]at h3 hge
    rw[e]at h3
    unfold zDg at hs2 hzs
    simp only[zF,beq_iff_eq]at hzs
    have k1:=key _ hy
    have k2:=key _ hv
    have hK:(zW c y col).K=v.K/\(zW c y col).N=v.N:=by
     rw[k1,k2]at h3 hge
     simp only at h3 hge
     omega
    rw[hK.1,hK.2,hzs.1.2]at hs2
    simp at hs2
def mrgF(lt eq:List Val->List Val->Bool) (s:List (List Val)):Nat->List (List Val)->List (List Val)
 |_,[]=>[]
 |k,x::r =>
  let k' :=k+((s.drop k).takeWhile λ y=>lt y x).length
  (((s.drop k').takeWhile λ y=>eq y x).map λ y=>x++y)++mrgF lt eq s k' r
theorem z0O{α:Type} (p:α->Bool):∀(s:List α),s.drop (s.takeWhile p).length=s.dropWhile p
 | []=>rfl
 |a::s=>by
  rw[List.takeWhile_cons,List.dropWhile_cons]
  cases p a with
  |true=>rw[if_pos rfl,if_pos rfl,List.length_cons,List.drop_succ_cons,z0O p s]
  |false=>rfl
theorem z0P{α:Type} (p:α->Bool):∀(s:List α) (k:Nat),(∀ y∈s.take k,p y=true)->(s.drop k).dropWhile p=s.dropWhile p
 | [],k,_=>by simp
 |a::s,0,_=>rfl
 |a::s,k+1,h=>by
  have ha:=h a (by simp)
  rw[List.drop_succ_cons,z0P p s k (λ y hy=>h y (by simp[hy])),List.dropWhile_cons,ha,if_pos rfl]
theorem z0Q{α:Type} (p:α->Bool):∀(s:List α) (y:α),y∈s.takeWhile p->p y=true
 | [],y,h=>by cases h
 |a::s,y,h=>by
  rw[List.takeWhile_cons]at h
  cases ha:p a with
  |true =>
   rw[ha,if_pos rfl]at h
   rcases zAE.1 h with rfl | h
   ·exact ha
   ·exact z0Q p s y h
  |false=>rw[ha]at h;cases h
theorem z0R{α:Type} (s:List α) (k n:Nat) (y:α) (h:y∈s.take (k+n)):y∈s.take k∨y∈(s.drop k).take n:=by
 rw[List.take_add]at h
 exact List.mem_append.1 h
theorem zPu{α:Type} (p:α->Bool):∀(s:List α),s.take (s.takeWhile p).length=s.takeWhile p
 | []=>rfl
 |a::s=>by
  rw[List.takeWhile_cons]
  cases p a with
  |true=>rw[if_pos rfl,List.length_cons,List.take_succ_cons,zPu p s]
  |false=>rfl
theorem zSJ{c d:List Int} {x0 y0:Int} {s:List (List Val)} (hs:s.Pairwise λ x y=>leV (zW d x y0) (zW d y y0)=true) (hms:∀ y∈s,mayV (zW d y y0)=true) :
 ∀(r:List (List Val)) (k:Nat),(r.Pairwise λ x y=>leV (zW c x x0) (zW c y x0)=true)->(∀ x∈r,mayV (zW c x x0)=true)->(∀ x∈r,∀ y∈s.take k,ltV' (zW d y y0) (zW c x x0)=true) ->
 mrgF (λ y x=>ltV' (zW d y y0) (zW c x x0)) (λ y x=>zDg (zW d y y0) (zW c x x0)) s k r=selR (λ x y=>zDg (zW d y y0) (zW c x x0)) r s
 | [],k,_,_,_=>rfl
 |x::r,k,hr,hmr,hk=>by
  have h2:=List.pairwise_cons.1 hr
  have hd:=z0P (λ y=>ltV' (zW d y y0) (zW c x x0)) s k (hk x (by simp))
  have e1:s.drop (k+((s.drop k).takeWhile λ y=>ltV' (zW d y y0) (zW c x x0)).length)=s.dropWhile λ y=>ltV' (zW d y y0) (zW c x x0):=by
   rw[<- List.drop_drop,z0O,hd]
  have ih:=zSJ hs hms r (k+((s.drop k).takeWhile λ y=>ltV' (zW d y y0) (zW c x x0)).length) h2.2 (λ z hz=>hmr z (by simp[hz])) (λ z hz y hy=>by
   rcases z0R _ _ _ _ hy with hy | hy
   ·exact hk z (by simp[hz]) y hy
   ·rw[zPu]at hy
    have h3:=z0Q _ _ _ hy
    have h4:=h2.1 z hz
    rw[zSI,Bool.not_eq_true']at h3 ⊢
    cases h5:leV (zW c z x0) (zW d y y0) with
    |false=>rfl
    |true=>rw[zUI h4 h5]at h3;cases h3)
  simp only[mrgF]
  rw[ih,e1,z29 _ hs hms (hmr x (by simp))]
  rfl
def setP(p:Plan):Nat:=(setO 4 (zBL p)).getD 0
def z1w(op:Int) (c:List Int) (x0:Int) (r:List (List Val)) (d:List Int) (y0:Int) (s:List (List Val)):List (List Val) :=
 bif op==2 then selR (λ x y=>zDg (zW d y y0) (zW c x x0)) r s else
 bif op==3 then mrgF (λ y x=>ltV' (zW d y y0) (zW c x x0)) (λ y x=>zDg (zW d y y0) (zW c x x0)) s 0 r else zC7 r s
def zX(q:QT):Plan->List Int×List (List Val)
 | .mk _ occ _ _ []=>(zEv q.T q.occ occ.toNat,(q.leaf occ.toNat).filter (zKB q (zAp (2 ^ occ.toNat)) (zEv q.T q.occ occ.toNat)))
 | .mk _ _ p0 _ [a]=>((zX q a).1,zTx (zX q a).1 (zX q a).2 p0)
 | .mk op _ p0 p1 [a,b]=>((zX q a).1++(zX q b).1,(z1w op (zX q a).1 p0 (zX q a).2 (zX q b).1 p1 (zX q b).2).filter (zKB q (newF (setP a) (setP b)) ((zX q a).1++(zX q b).1)))
 | .mk _ _ _ _ (_::_::_::_)=>([],[])
def zE5:Plan->Int
 | .mk op _ p0 _ []=>bif op==4 || op==3 then p0 else -1
 | .mk op _ p0 _ (a::_)=>bif op==1 then zE5 a else bif op==4 || op==3 then p0 else -1
def zWv(q:QT) (x y:Nat) (u v:Int):Prop:=∃ e∈q.P,newF x y (setE e)=true/\u∈zHY e/\v∈zHY e/\x.testBit (occI u)=true/\y.testBit (occI v)=true /\
 ∀(c:List Int) (r:List Val),zMC e c r=true->zDg (zW c r u) (zW c r v)=true
inductive PlOk (q:QT):Plan->Prop
 |scan (occ p0 p1:Int) (h0:0<=occ) (h1:occ<(q.occ.length:Int)):PlOk q (.mk 0 occ p0 p1 [])
 |sort (occ p0 p1:Int) (a:Plan) (ha:PlOk q a) (hc:p0∈zDV q (zAb 4 (zBL a))):PlOk q (.mk 4 occ p0 p1 [a])
 |nest (occ p0 p1:Int) (a b:Plan) (ha:PlOk q a) (hb:PlOk q b) (hd:setP a &&& setP b=0):PlOk q (.mk 1 occ p0 p1 [a,b])
 |hash (occ p0 p1:Int) (a b:Plan) (ha:PlOk q a) (hb:PlOk q b) (hd:setP a &&& setP b=0) (hp:zWv q (setP a) (setP b) p0 p1):PlOk q (.mk 2 occ p0 p1 [a,b])
 |merge (occ p0 p1:Int) (a b:Plan) (ha:PlOk q a) (hb:PlOk q b) (hd:setP a &&& setP b=0) (hp:zWv q (setP a) (setP b) p0 p1) (oa:zE5 a=p0) (ob:zE5 b=p1):PlOk q (.mk 3 occ p0 p1 [a,b])
structure PlTells (q:QT) (p:Plan):Prop where
 set:setO 4 (zBL p)=some (setP p)
 lt:setP p<2 ^ q.occ.length
 cols:(zX q p).1=zDV q (zAb 4 (zBL p))
 rows:(zX q p).2.Perm ((zHZ q (zAb 4 (zBL p))).filter (zKB q (zAp (setP p)) (zDV q (zAb 4 (zBL p)))))
 ord:zE5 p≠ -1->inC (zX q p).1 (zE5 p)=true/\SrtC (zX q p).1 (zE5 p) (zX q p).2
theorem z6d{x y n:Nat} (hx:x<2 ^ n) (hy:y<2 ^ n):x ||| y<2 ^ n:=Nat.or_lt_two_pow hx hy
theorem zYU{r r' s s' :List (List Val)} (h:r.Perm r') (k:s.Perm s'):(zC7 r s).Perm (zC7 r' s'):=by
 unfold zC7
 exact(h.flatMap_right _).trans (z0M λ x _=>k.map _)
theorem zWw{g:List Val->List Val->Bool} {r s:List (List Val)} {z:List Val} (h:z∈selR g r s):z∈zC7 r s:=by
 unfold selR at h
 unfold zC7
 obtain⟨x,hx,h⟩:=List.mem_flatMap.1 h
 obtain⟨y,hy,rfl⟩:=zAh.1 h
 exact List.mem_flatMap.2 ⟨x,hx,zAh.2 ⟨y,(zBS.1 hy).1,rfl⟩⟩
theorem PlTells.join{q:QT} (hq:QOk q) (hc:∀ e∈q.P,zN8 q e) {a b:Plan} (ha:PlTells q a) (hb:PlTells q b) (hd:setP a &&& setP b=0) {op occ p0 p1:Int} (h1:(bif op==1 then zE5 a else bif op==3 then p0 else -1)=zE5 (.mk op occ p0 p1 [a,b]))
 (hR:(z1w op (zX q a).1 p0 (zX q a).2 (zX q b).1 p1 (zX q b).2).filter (zKB q (newF (setP a) (setP b)) ((zX q a).1++(zX q b).1))=(zC7 (zX q a).2 (zX q b).2).filter (zKB q (newF (setP a) (setP b)) ((zX q a).1++(zX q b).1)))
 (ho:op=3->zE5 a=p0):PlTells q (.mk op occ p0 p1 [a,b]):=by
 have hset:setO 4 (zBL (.mk op occ p0 p1 [a,b]))=some (setP a ||| setP b):=by
  show setO 4 (zQO (zBL a) (zBL b))=_
  rw[zMK,ha.set,hb.set]
  simp only[zB,hd,decide_true,zA]
 have hsp:setP (.mk op occ p0 p1 [a,b])=setP a ||| setP b:=by
  show(setO 4 (zBL (.mk op occ p0 p1 [a,b]))).getD 0=_
  rw[hset];rfl
 have hlv:zAb 4 (zBL (.mk op occ p0 p1 [a,b]))=zAb 4 (zBL a)++zAb 4 (zBL b):=zPo ha.set hb.set hd
 have hocc:=hq.occ
 have xl:=zBI _ _ _ ha.set
 have yl:=zBI _ _ _ hb.set
 have la:=zBa 4 _ _ ha.set
 have lb:=zBa 4 _ _ hb.set
 have oa:∀ o∈zAb 4 (zBL a),o<q.occ.length:=λ o ho=>zJv _ xl q.occ.length (by omega) ha.lt o (zJz _ xl o ((la o).1 ho)) ((la o).1 ho)
 have ob:∀ o∈zAb 4 (zBL b),o<q.occ.length:=λ o ho=>zJv _ yl q.occ.length (by omega) hb.lt o (zJz _ yl o ((lb o).1 ho)) ((lb o).1 ho)
 have lenA:∀ x∈(zX q a).2,x.length=(zX q a).1.length:=λ x hx=>by
  rw[ha.cols];exact(zCT hq oa x (zBS.1 (ha.rows.mem_iff.1 hx)).1).1
 have lenB:∀ x∈(zX q b).2,x.length=(zX q b).1.length:=λ x hx=>by
  rw[hb.cols];exact(zCT hq ob x (zBS.1 (hb.rows.mem_iff.1 hx)).1).1
 have e1:zX q (.mk op occ p0 p1 [a,b])=((zX q a).1++(zX q b).1,(zC7 (zX q a).2 (zX q b).2).filter (zKB q (newF (setP a) (setP b)) ((zX q a).1++(zX q b).1))):=by
  rw[<- hR];rfl
 refine⟨by rw[hset,hsp],by rw[hsp];exact z6d ha.lt hb.lt,by rw[e1,hlv,zKA,<-ha.cols,<-hb.cols],?_,λ hne=> ?_⟩
 ·rw[e1,hlv,hsp,zKA,zHm]
  have hp:=(zYU ha.rows hb.rows).filter (zKB q (newF (setP a) (setP b)) (zDV q (zAb 4 (zBL a))++zDV q (zAb 4 (zBL b))))
  rw[zLZ (k:=zKB q (zAp (setP a ||| setP b)) (zDV q (zAb 4 (zBL a))++zDV q (zAb 4 (zBL b)))) (λ u hu v hv=>zWt hq hc xl yl hd la lb oa ob (zCT hq oa u hu).1 (zCT hq ob v hv).1)]at hp
  rw[<- ha.cols,<-hb.cols]at hp ⊢
  exact hp
 ·rw[<- h1]at hne ⊢
  have key:zE5 a≠ -1->inC (zX q (.mk op occ p0 p1 [a,b])).1 (zE5 a)=true/\SrtC (zX q (.mk op occ p0 p1 [a,b])).1 (zE5 a) (zX q (.mk op occ p0 p1 [a,b])).2:=λ hna=>by
   obtain⟨k1,k2⟩:=ha.ord hna
   rw[e1]
   exact⟨zD (List.mem_append_left _ (zAM k1)),z0N k1 lenA lenB k2 _⟩
  cases h:op==1 with
  |true=>rw[h]at hne;exact key hne
  |false =>
   rw[h]at hne
   simp only[zC]at hne ⊢
   cases h3:op==3 with
   |true =>
    rw[h3]at hne
    simp only[zA]at hne ⊢
    have e3:=ho (by simpa using h3)
    have h4:=key (by rw[e3];exact hne)
    rw[e3]at h4
    exact h4
   |false=>rw[h3]at hne;exact absurd rfl hne
theorem zQz(u v:Val):zDg u v=zDg v u:=by
 unfold zDg
 rw[Bool.and_comm (u.K==0),show(u.N==v.N)=(v.N==u.N)from Bool.beq_comm]
theorem zKD{q:QT} (hq:QOk q) (hc:∀ e∈q.P,zN8 q e) {a b:Plan} (ha:PlTells q a) (hb:PlTells q b) (hd:setP a &&& setP b=0) {p0 p1:Int} (hp:zWv q (setP a) (setP b) p0 p1) :
 (inC (zX q a).1 p0=true/\inC (zX q b).1 p1=true)/\∀ x∈(zX q a).2,∀ y∈(zX q b).2,zKB q (newF (setP a) (setP b)) ((zX q a).1++(zX q b).1) (x++y)=true->zDg (zW (zX q b).1 y p1) (zW (zX q a).1 x p0)=true:=by
 obtain⟨e,he,hn,hu,hv,bu,bv,hk⟩:=hp
 have hocc:=hq.occ
 have xl:=zBI _ _ _ ha.set
 have yl:=zBI _ _ _ hb.set
 have la:=zBa 4 _ _ ha.set
 have lb:=zBa 4 _ _ hb.set
 have oa:∀ o∈zAb 4 (zBL a),o<q.occ.length:=λ o ho=>zJv _ xl q.occ.length (by omega) ha.lt o (zJz _ xl o ((la o).1 ho)) ((la o).1 ho)
 have ob:∀ o∈zAb 4 (zBL b),o<q.occ.length:=λ o ho=>zJv _ yl q.occ.length (by omega) hb.lt o (zJz _ yl o ((lb o).1 ho)) ((lb o).1 ho)
 have i0:p0∈(zX q a).1:=by
  rw[ha.cols];exact List.mem_flatMap.2 ⟨occI p0,(la _).2 bu,hc e he p0 hu⟩
 have i1:p1∈(zX q b).1:=by
  rw[hb.cols];exact List.mem_flatMap.2 ⟨occI p1,(lb _).2 bv,hc e he p1 hv⟩
 refine⟨⟨zD i0,zD i1⟩,λ x hx y hy h=> ?_⟩
 have lx:x.length=(zX q a).1.length:=by rw[ha.cols];exact(zCT hq oa x (zBS.1 (ha.rows.mem_iff.1 hx)).1).1
 have ly:y.length=(zX q b).1.length:=by rw[hb.cols];exact(zCT hq ob y (zBS.1 (hb.rows.mem_iff.1 hy)).1).1
 have n1:p1∉(zX q a).1:=λ h1=>by
  rw[ha.cols]at h1
  have b1:=(la _).1 (zFZ hq oa h1).1
  exact zRu _ xl _ yl hd _ (zIl p1) ⟨b1,bv⟩
 have h2:=hk _ _ (zKC.1 h e he hn)
 rw[zFo (zD i0) lx,zN7 (zL n1) (zD i1) lx ly]at h2
 rw[zQz];exact h2
theorem zCU{q:QT} (hq:QOk q) (hc:∀ e∈q.P,zN8 q e) {p:Plan} (h:PlOk q p):PlTells q p:=by
 have hocc:=hq.occ
 induction h with
 |scan occ p0 p1 h0 h1 =>
  obtain⟨n,rfl⟩:=Int.eq_ofNat_of_zero_le h0
  have hn:n<q.occ.length:=by omega
  have hset:setO 4 (zBL (.mk 0 (n:Int) p0 p1 []))=some (2 ^ n):=by
   show setO 4 (.mk (n:Int) [])=_
   simp only[setO,zD (show(0:Int)<=(n:Int) by omega),zD (show(n:Int)<4 by omega),Bool.and_self,zA,zY]
  have hsp:setP (.mk 0 (n:Int) p0 p1 [])=2 ^ n:=by
   show(setO 4 (zBL (.mk 0 (n:Int) p0 p1 []))).getD 0=_
   rw[hset];rfl
  have hlv:zAb 4 (zBL (.mk 0 (n:Int) p0 p1 []))=[n]:=by
   show zAb 4 (.mk (n:Int) [])=_
   simp[zAb]
  refine⟨by rw[hset,hsp],by rw[hsp];exact(Nat.pow_lt_pow_iff_right (by omega)).2 hn,?_,?_,λ hne=> ?_⟩
  ·rw[hlv];simp[zX,zDV]
  ·rw[hlv,hsp]
   simp only[zX,zHZ,zPp,zDV,zC2,List.flatMap_nil,zBN,zY]
   exact List.Perm.refl _
  ·exact absurd rfl hne
 |sort occ p0 p1 a ha hcol ih =>
  have e0:zBL (.mk 4 occ p0 p1 [a])=zBL a:=rfl
  have e1:setP (.mk 4 occ p0 p1 [a])=setP a:=rfl
  refine⟨by rw[e0,e1];exact ih.set,by rw[e1];exact ih.lt,by rw[e0];exact ih.cols,?_,λ hne=> ?_⟩
  ·rw[e0,e1]
   exact(zQy _ _ _).trans ih.rows
  ·have eo:zE5 (.mk 4 occ p0 p1 [a])=p0:=rfl
   rw[eo]
   refine⟨zD ?_,zUH _ _ _⟩
   show p0∈(zX q a).1
   rw[ih.cols];exact hcol
 |nest occ p0 p1 a b ha hb hd iha ihb=>exact PlTells.join hq hc iha ihb hd rfl rfl (λ h=>by cases h)
 |hash occ p0 p1 a b ha hb hd hp iha ihb =>
  obtain⟨_,hk⟩:=zKD hq hc iha ihb hd hp
  exact PlTells.join hq hc iha ihb hd rfl (zPt hk) (λ h=>by cases h)
 |merge occ p0 p1 a b ha hb hd hp oa ob iha ihb =>
  obtain⟨⟨i0,i1⟩,hk⟩:=zKD hq hc iha ihb hd hp
  have mayOf:∀{p:Plan} (hp:PlTells q p) (x:List Val),x∈(zX q p).2->x.length=(zX q p).1.length/\x.all mayV=true:=λ{p} hp x hx=>by
   have xl:=zBI _ _ _ hp.set
   have la:=zBa 4 _ _ hp.set
   have o:=zCT hq (λ o ho=>zJv _ xl q.occ.length (by omega) hp.lt o (zJz _ xl o ((la o).1 ho)) ((la o).1 ho)) x (zBS.1 (hp.rows.mem_iff.1 hx)).1
   exact⟨by rw[hp.cols];exact o.1,o.2.1⟩
  have mayL:∀{c:List Int} {x:List Val} {z:Int},inC c z=true->x.length=c.length->x.all mayV=true->mayV (zW c x z)=true:=λ{c x z} hz hl hm =>
   zAF.1 hm _ (zAV (zEk hz hl).1)
  have ne0:p0≠ -1:=λ e=>by
   subst e
   rw[iha.cols]at i0
   have xl:=zBI _ _ _ iha.set
   have la:=zBa 4 _ _ iha.set
   have:=(zFZ hq (λ o ho=>zJv _ xl q.occ.length (by omega) iha.lt o (zJz _ xl o ((la o).1 ho)) ((la o).1 ho)) (zAM i0)).2.1
   omega
  have ne1:p1≠ -1:=λ e=>by
   subst e
   rw[ihb.cols]at i1
   have xl:=zBI _ _ _ ihb.set
   have la:=zBa 4 _ _ ihb.set
   have:=(zFZ hq (λ o ho=>zJv _ xl q.occ.length (by omega) ihb.lt o (zJz _ xl o ((la o).1 ho)) ((la o).1 ho)) (zAM i1)).2.1
   omega
  have sa:=(iha.ord (by rw[oa];exact ne0)).2
  have sb:=(ihb.ord (by rw[ob];exact ne1)).2
  rw[oa,zK8 i0 (λ x hx=>(mayOf iha x hx).1)]at sa
  rw[ob,zK8 i1 (λ x hx=>(mayOf ihb x hx).1)]at sb
  have hm:=zSJ (c:=(zX q a).1) (x0:=p0) sb (λ y hy=>mayL i1 (mayOf ihb y hy).1 (mayOf ihb y hy).2) (zX q a).2 0 sa (λ x hx=>mayL i0 (mayOf iha x hx).1 (mayOf iha x hx).2) (λ x _ y hy=>by simp at hy)
  refine PlTells.join hq hc iha ihb hd rfl ?_ (λ _=>oa)
  show(mrgF (λ y x=>ltV' (zW (zX q b).1 y p1) (zW (zX q a).1 x p0)) (λ y x=>zDg (zW (zX q b).1 y p1) (zW (zX q a).1 x p0)) (zX q b).2 0 (zX q a).2).filter _=_
  rw[hm]
  exact zPt hk
end Go.Cf

namespace Go.Cf
open Go Go.Ab
namespace Plan
theorem ind{P:Plan->Prop} (h:∀ o c a b l,(∀ t∈l,P t)->P (mk o c a b l)) (t:Plan):P t :=
 Plan.rec (motive_1:=P) (motive_2:=λ l=>∀ t∈l,P t) (λ o c a b l ih=>h o c a b l ih) (by simp) (λ a r ha hr=>by simpa using⟨ha,hr⟩) t
mutual
def pv:Plan->PV
 |mk o c a b l=> .agg [.int .i64 o,.int .i64 c,.int .i64 a,.int .i64 b,.slice 6 (pvs l)]
def pvs:List Plan->List PV
 | []=>[]
 |t::r=>pv t::pvs r
end
theorem pvs_map:∀ l:List Plan,pvs l=l.map pv
 | []=>rfl
 |t::r=>by simp[pvs,pvs_map r]
theorem pv_mk(o c a b:Int) (l:List Plan):(mk o c a b l).pv= .agg [.int .i64 o,.int .i64 c,.int .i64 a,.int .i64 b,.slice 6 (l.map pv)]:=by rw[pv,pvs_map]
theorem pv_eq(t:Plan):t.pv= .agg [.int .i64 t.op,.int .i64 t.occ,.int .i64 t.p0,.int .i64 t.p1,.slice 6 (t.l.map pv)]:=by cases t;exact pv_mk ..
@[simp] theorem fold(t:Plan):PV.agg [.int .i64 t.op,.int .i64 t.occ,.int .i64 t.p0,.int .i64 t.p1,.slice 6 (t.l.map pv)]=t.pv:=(pv_eq t).symm
@[simp] theorem c_mk(t:Plan) {R:Type} (K:Int->Int->Int->Int->List PV->Option R):zG t.pv K=K t.op t.occ t.p0 t.p1 (t.l.map pv):=by rw[pv_eq];rfl
mutual
def sz:Plan->Nat
 |mk _ _ _ _ l=>szL l+1
def szL:List Plan->Nat
 | []=>0
 |t::r=>sz t+szL r
end
theorem sz_eq(t:Plan):t.sz=szL t.l+1:=by cases t;rfl
theorem sz_mem:∀{l:List Plan} {e:Plan},e∈l->e.sz<=szL l
 |x::r,e,h=>by
  rcases zAE.1 h with rfl | h
  ·simp only[szL];omega
  ·have:=sz_mem h;simp only[szL];omega
theorem szL_drop(l:List Plan) (i:Nat) (hi:i<l.length):szL (l.drop i)=l[i].sz+szL (l.drop (i+1)):=by rw[zAv hi];rfl
end Plan
def zHn(op:Int):Nat:=bif op==0 then 0 else bif op==4 then 1 else 2
def zSK(p:Plan):Bool:=decide (0<=p.op)&&decide (p.op<5)&&decide (p.l.length=zHn p.op)&&(p.op==0 || p.occ==0)&&((p.p0==0&&p.p1==0) || p.op==2 || p.op==3 || (p.op==4&&p.p1==0))
theorem z3b(p:Plan):wc W zFk [p.pv]=some (.int .i64 ((zHn p.op:Nat):Int)):=by
 have h:=zMu p.op p.occ p.p0 p.p1 (p.l.map Plan.pv)
 rw[Plan.fold]at h
 rw[h]
 unfold zHn
 cases p.op==0 with
 |true=>rfl
 |false=>cases p.op==4<;>rfl
theorem z6e(p:Plan) (b c:Bool):zBn p.op p.occ p.p0 p.p1 (p.l.map Plan.pv) b c=some (.bool (decide (0<=p.op)&&decide (p.op<5)&&decide (p.l.length=zHn p.op)&&b&&c)):=by
 rw[zJk]
 simp only[Plan.fold,z3b,zB,c_i64_mk,zK]
 have e1:decide (p.op≥0)=decide (0<=p.op):=rfl
 have e2:(((p.l.length:Nat):Int)==((zHn p.op:Nat):Int))=decide (p.l.length=zHn p.op):=by
  by_cases h:p.l.length=zHn p.op
  ·rw[zD h,zIH (by rw[h])]
  ·rw[zL h,zDP (by omega)]
 rw[e1,e2]
 cases decide (0<=p.op)<;>cases decide (p.op<5)<;>cases decide (p.l.length=zHn p.op)<;>cases b<;>rfl
theorem z6E(p:Plan) (b:Bool):zDs p.op p.occ p.p0 p.p1 (p.l.map Plan.pv) b=some (.bool (decide (0<=p.op)&&decide (p.op<5)&&decide (p.l.length=zHn p.op)&&b&&((p.p0==0&&p.p1==0) || p.op==2 || p.op==3 || (p.op==4&&p.p1==0)))):=by
 rw[zJj]
 have e:((bif p.p0==0 then bif p.p1==0 then some true else some false else some false).bind λ v7=>some (PV.bool v7))=some (.bool (p.p0==0&&p.p1==0)):=by
  cases p.p0==0<;>cases p.p1==0<;>rfl
 rw[e]
 simp only[zB,c_b_mk,z6e]
 cases (p.p0==0&&p.p1==0) with
 |true=>rfl
 |false =>
  cases p.op==2 with
  |true=>rfl
  |false =>
   cases p.op==3 with
   |true=>rfl
   |false=>cases p.op==4<;>rfl
theorem z6F(p:Plan):wc W zGQ [p.pv]=some (.bool (zSK p)):=by
 have h:=zNy p.op p.occ p.p0 p.p1 (p.l.map Plan.pv)
 rw[Plan.fold]at h
 rw[h,z6E,z6E]
 unfold zSK
 cases p.op==0<;>rfl
mutual
def zBr:Plan->Bool
 | .mk o c a b l=>zSK (.mk o c a b l)&&zO0 l
def zO0:List Plan->Bool
 | []=>true
 |t::r=>zBr t&&zO0 r
end
theorem zNb:∀ l:List Plan,zO0 l=l.all zBr
 | []=>rfl
 |t::r=>by rw[zO0,zNb r];rfl
theorem zFp(p:Plan):zBr p=(zSK p&&p.l.all zBr):=by cases p;rw[zBr,zNb];rfl
theorem zUJ(o:Int):zHn o<=2:=by
 unfold zHn
 cases o==0 with
 |true=>simp
 |false=>cases o==4<;>simp
theorem zK9{p:Plan} (h:zSK p=true):p.l.length=zHn p.op/\0<=p.op/\p.op<5/\(p.op=0∨p.occ=0):=by
 unfold zSK at h
 simp only[zF,zU,zFM,beq_iff_eq]at h
 exact⟨h.1.1.2,h.1.1.1.1,h.1.1.1.2,h.1.2⟩
def varN(n:Int):List Ob:=[.var false 0 (.pv (.int .i64 n))]
theorem z3c(p:Plan):∀ n:Nat,n<=20->∃ m:Nat,W zEB false [.pv p.pv,.fnv zEE [] [.own 0 0]] (varN (n:Int))=some (.pv (.bool (zBr p&&decide (n+p.sz<=20))),varN (m:Int))/\(zBr p=true->n+p.sz<=20->m=n+p.sz):=by
 induction p using Plan.ind with
 |h o c a b l ih =>
  intro n hn
  have h:=zNr o c a b (l.map Plan.pv) (n:Int)
  have h1:=zMr o c a b (l.map Plan.pv) (n:Int)
  rw[<- Plan.pv_mk]at h h1
  have hw:IntKind.wrap .i64 ((n:Int)+1)=((n+1:Nat):Int):=zAB (by omega)
  have hsz:(Plan.mk o c a b l).sz=Plan.szL l+1:=rfl
  have hf:zSK (.mk o c a b l)=zSK (.mk o c a b l):=rfl
  rw[hw,z6F]at h1
  unfold varN
  rw[h,h1]
  by_cases h20:n+1<=20
  ·rw[zD (show((n+1:Nat):Int)<=20 by omega)]
   simp only[zA,zB,c_b_mk,k_5b106d_mk]
   rw[zFp]
   cases hfm:zSK (.mk o c a b l) with
   |false=>exact⟨n+1,by simp,by simp⟩
   |true =>
    simp only[zAH,zC,zAD,zK]
    have hlen:=(zK9 hfm).1
    have hl2:=zUJ (Plan.mk o c a b l).op
    have hl:(Plan.mk o c a b l).l=l:=rfl
    rw[hl]at hlen
    have loop:∀(k i v:Nat),i+k=l.length->v<=20->∃ m:Nat,zEg (l.map Plan.pv) ((l.length:Nat):Int) (i:Int) (v:Int)=some (.pv (.bool ((l.drop i).all zBr&&decide (v+Plan.szL (l.drop i)<=20))),varN (m:Int))/\((l.drop i).all zBr=true->v+Plan.szL (l.drop i)<=20->m=v+Plan.szL (l.drop i)):=by
     intro k
     induction k with
     |zero =>
      intro i v hi hv
      rw[zHJ,show i=l.length by omega]
      refine⟨v,?_,by simp[Plan.szL]⟩
      simp[Plan.szL,hv,varN]
     |succ k ihk =>
      intro i v hi hv
      have hil:i<l.length:=by omega
      obtain⟨m1,e1,e2⟩:=ih l[i] (zAC hil) v hv
      have hd:=Plan.szL_drop l i hil
      rw[zHJ]
      unfold varN at e1
      simp only[zAQ hil,zAc,zA,zY,zN,zH hil,zV,zB,Plan.c_mk,Plan.fold,e1,k_5b106d_mk,c_b_mk]
      rw[hd,zAv hil,List.all_cons]
      cases ha:zBr l[i] with
      |false=>exact⟨m1,by simp[varN],by simp⟩
      |true =>
       by_cases hv2:v+l[i].sz<=20
       ·have hm1:=e2 ha hv2
        subst hm1
        rw[zD hv2]
        simp only[Bool.and_self,zAH,zC,zAD]
        rw[zAB (by omega)]
        obtain⟨m,e3,e4⟩:=ihk (i+1) (v+l[i].sz) (by omega) hv2
        refine⟨m,?_,λ h5 h6=> ?_⟩
        ·rw[e3,Nat.add_assoc]
        ·rw[e4 h5 (by omega)];omega
       ·rw[zL hv2,zL (show ¬ v+(l[i].sz+Plan.szL (l.drop (i+1)))<=20 by omega)]
        refine⟨m1,by simp[varN],λ _ h6=> ?_⟩
        omega
    obtain⟨m,e1,e2⟩:=loop l.length 0 (n+1) (by omega) h20
    rw[List.drop_zero]at e1 e2
    refine⟨m,?_,λ h5 h6=> ?_⟩
    ·have z:((0:Nat):Int)=0:=rfl
     rw[z]at e1
     rw[e1]
     unfold varN
     rw[hsz,hl,show n+1+Plan.szL l=n+(Plan.szL l+1) by omega]
    ·rw[e2 h5 (by omega)];omega
  ·rw[zL (show ¬ ((n+1:Nat):Int)<=20 by omega)]
   simp only[zC,zB,c_b_mk,k_5b106d_mk,Bool.not_false,zA]
   refine⟨n+1,?_,λ _ h6=>by omega⟩
   rw[zL (show ¬ n+(Plan.mk o c a b l).sz<=20 by omega),Bool.and_false]
def fewP(p:Plan):Bool:=zBr p&&decide (p.sz<=20)
theorem z6G(p:Plan):wc W zKT [p.pv]=some (.bool (fewP p)):=by
 have h:=zXs p.op p.occ p.p0 p.p1 (p.l.map Plan.pv)
 rw[Plan.fold]at h
 obtain⟨m,e,_⟩:=z3c p 0 (by omega)
 have z:((0:Nat):Int)=0:=rfl
 unfold varN at e
 rw[z,Nat.zero_add]at e
 rw[h,e]
 rfl
theorem zF0{p x:Plan} (h:fewP p=true) (hx:x∈p.l):fewP x=true:=by
 unfold fewP at h ⊢
 rw[zFp]at h
 simp only[zF,zU,zAF]at h ⊢
 have:=Plan.sz_mem hx
 have:=p.sz_eq
 exact⟨h.1.2 x hx,by omega⟩
theorem zML{p:Plan} (h:zBr p=true):(∃ c a b,p= .mk 0 c a b [])∨(∃ a b x,p= .mk 4 0 a b [x]/\zBr x=true)∨(∃ o a b x y,p= .mk o 0 a b [x,y]/\(o=1∨o=2∨o=3)/\zBr x=true/\zBr y=true):=by
 rw[zFp,zF,zAF]at h
 obtain⟨h1,h2⟩:=h
 obtain⟨k1,k2,k3,k4⟩:=zK9 h1
 obtain⟨o,c,a,b,l⟩:=p
 simp only[Plan.l,Plan.op,Plan.occ]at k1 k2 k3 k4 h2
 by_cases e0:o=0
 ·subst e0
  have:l=[]:=zCJ.1 k1
  subst this
  exact .inl ⟨c,a,b,rfl⟩
 ·have ec:c=0:=by rcases k4 with h | h;exact absurd h e0;exact h
  subst ec
  by_cases e4:o=4
  ·subst e4
   obtain⟨x,rfl⟩:=List.length_eq_one_iff.1 (show l.length=1 from k1)
   exact .inr (.inl ⟨a,b,x,rfl,h2 x (by simp)⟩)
  ·have:zHn o=2:=by unfold zHn;rw[zDP e0,zDP e4];rfl
   rw[this]at k1
   match l,k1 with
   | [x,y],_=>exact .inr (.inr ⟨o,a,b,x,y,rfl,by omega,h2 x (by simp),h2 y (by simp)⟩)
theorem z6H(o:Int):wc W zLB [.int .i64 o]=some (Tree.mk o []).pv:=by rw[zVN,Tree.pv_mk];rfl
theorem z3d(x y:Tree):wc W zLA [x.pv,y.pv]=some (zQO x y).pv:=by
 have h:=zVE x.occ (x.l.map Tree.pv) y.occ (y.l.map Tree.pv)
 simp only[Tree.fold]at h
 rw[h]
 unfold zQO
 rw[Tree.pv_mk];rfl
theorem zWx(p:Plan):zBr p=true->wc W zD6 [p.pv]=some (zBL p).pv:=by
 induction p using Plan.ind with
 |h o c a b l ih =>
  intro h
  have e:=zRd o c a b (l.map Plan.pv)
  rw[<- Plan.pv_mk]at e
  rw[e]
  rcases zML h with⟨c,a,b,hp⟩ | ⟨a,b,x,hp,hx⟩ | ⟨o',a,b,x,y,hp,ho,hx,hy⟩
  ·cases hp
   simp only[zBj,zA,z6H,zB,Tree.c_mk,Tree.fold]
   rfl
  ·cases hp
   have e0:((4:Int)==0)=false:=rfl
   simp only[e0,zC,zBj,zA,zAX,zA9,zAS,zB,Plan.c_mk,Plan.fold,ih x (by simp) hx,Tree.c_mk,Tree.fold]
   rfl
  ·cases hp
   have e0:(o==0)=false:=zDP (by omega)
   have e4:(o==4)=false:=zDP (by omega)
   simp only[e0,e4,zC,zAX,zA9,zAS,zAq,zB,Plan.c_mk,Plan.fold,ih x (by simp) hx,ih y (by simp) hy,Tree.c_mk,Tree.fold,z3d]
   rfl
def zMM(p:Plan):Option Tree:=bif fewP p&&(setO 4 (zBL p)).isSome then some (zBL p)else none
def tupT(x:Option Tree):PV:=match x with | some t=> .tup [t.pv,.bool true] | none=> .tup [(Tree.mk 0 []).pv,.bool false]
theorem zVm(p:Plan):wc W zGz [p.pv]=some (tupT (zMM p)):=by
 have h:=zVD p.op p.occ p.p0 p.p1 (p.l.map Plan.pv)
 rw[Plan.fold]at h
 have e0:PV.agg [.int .i64 0,.slice 3 []]=(Tree.mk 0 []).pv:=(Tree.pv_mk 0 []).symm
 rw[h,z6G,e0]
 unfold zMM
 simp only[zB,c_b_mk]
 cases hf:fewP p with
 |false=>rfl
 |true =>
  have ha:zBr p=true:=by unfold fewP at hf;simp only[zF]at hf;exact hf.1
  simp only[zAH,zC,zWx p ha,zB,Tree.c_mk,Tree.fold,z5w,c_b_mk,zAD]
  cases (setO 4 (zBL p)).isSome<;>rfl
theorem z0S{p:Plan} (h:zBr p=true):wc W zEF [p.pv]=some (.int .i64 ((setP p:Nat):Int)):=by
 have e:=zP2 p.op p.occ p.p0 p.p1 (p.l.map Plan.pv)
 rw[Plan.fold]at e
 rw[e,zWx p h]
 simp only[zB,Tree.c_mk,Tree.fold,zTl,c_i64_mk]
 rfl
theorem z1x(p:Plan):zBr p=true->zFw p.op p.occ p.p0 p.p1 (p.l.map Plan.pv)=some (.int .i64 (zE5 p)):=by
 induction p using Plan.ind with
 |h o c a b l ih =>
  intro h
  simp only[Plan.op,Plan.occ,Plan.p0,Plan.p1,Plan.l]
  rw[zMl]
  rcases zML h with⟨c,a,b,hp⟩ | ⟨a,b,x,hp,hx⟩ | ⟨o',a,b,x,y,hp,ho,hx,hy⟩
  ·cases hp
   have e1:((0:Int)==1)=false:=rfl
   have e4:((0:Int)==4)=false:=rfl
   simp only[e1,e4,zC,zFl]
   rfl
  ·cases hp
   have e1:((4:Int)==1)=false:=rfl
   simp only[e1,zC,zBj,zA,zFl]
   rfl
  ·cases hp
   have e4:(o==4)=false:=zDP (by omega)
   simp only[e4,zC,zAX,zA9,zAS,zB,Plan.c_mk,ih x (by simp) hx,zFl,zE5,Bool.false_or]
   cases o==1 with
   |true=>rfl
   |false=>cases o==3<;>rfl
theorem z0T(p:Plan):wc W zFz [p.pv]=some (.int .i64 (bif fewP p then zE5 p else -1)):=by
 have h:=zTV p.op p.occ p.p0 p.p1 (p.l.map Plan.pv)
 rw[Plan.fold]at h
 rw[h,z6G]
 simp only[zB,c_b_mk]
 cases hf:fewP p with
 |false=>rfl
 |true =>
  have ha:zBr p=true:=by unfold fewP at hf;simp only[zF]at hf;exact hf.1
  simp only[zAH,zC,z1x p ha,zA]
end Go.Cf

namespace Go.Cf
open Go Go.Ab
theorem few3(D:List (List (List Val))) (i:Nat) (hi:i<D.length) (hD:DOk D) (next:∀ b,∃ r,zBc (D.map tabp) b ((i:Int)+1)=some (.bool r)):∀(k j:Nat) (b:Bool),j+k=D[i].length->∃ r,zCu (D.map tabp) b (i:Int) (j:Int)=some (.bool r)
 | 0,j,b,h=>by
  have:=hD.len
  obtain⟨r,hr⟩:=next b
  refine⟨r,?_⟩
  rw[zFG,show j=D[i].length by omega]
  simp only[zAc,zA,zY,zN,zH hi,zV,zB,zN4,zK,zFU,zC]
  rw[zAU (by omega) (by omega)]
  exact hr
 |k+1,j,b,h=>by
  have:=hD.len
  have hj:j<D[i].length:=by omega
  have:=hD.tab _ (zAC hi)
  rw[zFG]
  simp only[zAc,zA,zY,zN,zH hi,zV,zB,zN4,zK,zAQ hj]
  cases b with
  |true =>
   simp only[zA,zIQ,zAc,zY,zN,zH hi,zH hj,zV,zB,zN4,zDA]
   rw[zAB (by omega)]
   exact few3 D i hi hD next k (j+1) _ (by omega)
  |false =>
   simp only[zC]
   rw[zAU (by omega) (by omega)]
   exact next false
theorem few1(D:List (List (List Val))) (hD:DOk D):∀(k i:Nat) (b:Bool),i+k=D.length->∃ r,zBc (D.map tabp) b (i:Int)=some (.bool r)
 | 0,i,b,h=>by
  rw[zFF,show i=D.length by omega]
  exact⟨b,by simp⟩
 |k+1,i,b,h=>by
  have hi:i<D.length:=by omega
  rw[zFF]
  simp only[zK,zAQ hi,zA]
  cases b with
  |true =>
   simp only[zA,zIP,zAc,zY,zN,zH hi,zV,zB,zN4]
   exact few3 D i hi hD (λ b=>few1 D hD k (i+1) b (by omega)) D[i].length 0 _ (by omega)
  |false=>exact⟨false,rfl⟩
theorem z3e(D:List (List (List Val))) (hD:DOk D):∃ r,wc W zEq [zGV D]=some (.bool r):=by
 have h:=zLS (D.map tabp)
 rw[zBM]at h
 rw[h]
 exact few1 D hD D.length 0 _ (by omega)
theorem few5(occ:List PV) (P:List Ex) (by_:Int) (sums out:List PV) (ord:Int) (hP:P.length<=9223372036854775807) (he:∀ e∈P,e.lens):∀(k i:Nat) (b:Bool),i+k=P.length ->
 zCt occ (P.map Ex.pv) by_ sums out ord b (i:Int)=some (.bool (b&&(P.drop i).all λ e=>decide (e.sz<=60)))
 | 0,i,b,h=>by
  rw[zFE,show i=P.length by omega]
  simp
 |k+1,i,b,h=>by
  have hi:i<P.length:=by omega
  rw[zFE]
  simp only[zK,zAQ hi,zA]
  cases b with
  |false=>rfl
  |true =>
   simp only[zA,zIO,zAc,zY,zN,zH hi,zV,zB,Ex.c_mk,Ex.fold,z5m _ (he _ (zAC hi)),c_b_mk]
   rw[zAB (by omega),few5 occ P by_ sums out ord hP he k (i+1) _ (by omega),zAv hi,List.all_cons]
   rfl
theorem z3f(T:List Def) (q:QIn) (hq:q.Ok):∃ b,wc W zCc [catp T,q.pv]=some (.bool b)/\(b=true->q.P.length<=8/\q.sums.length<=20/\q.out.length<=20/\∀ e∈q.P,e.sz<=60):=by
 obtain⟨occ,P,by_,sums,out,ord⟩:=q
 have h:=zLR (T.map Def.pv) (occ.map intp) (P.map Ex.pv) by_ (sums.map intp) (out.map intp) ord
 simp only[zAY,zI,zAL,zK]at h
 have h5:=few5 (occ.map intp) P by_ (sums.map intp) (out.map intp) ord hq.P.1 (λ e he=>(hq.P.2 e he).1) P.length 0
 have hj:∀ b,zBR (occ.map intp) (P.map Ex.pv) by_ (sums.map intp) (out.map intp) ord b=some (.bool (b&&P.all λ e=>decide (e.sz<=60))):=λ b=>by
  rw[zIN]
  have:=h5 b (by omega)
  simpa using this
 show ∃ b,wc W zCc [catp T,zCI occ (P.map Ex.pv) by_ sums out ord]=some (.bool b)/\_
 rw[h]
 simp only[hj]
 rw[show decide (((P.length:Nat):Int)<=8)=decide (P.length<=8)from decide_eq_decide.2 (by omega),show decide (((sums.length:Nat):Int)<=20)=decide (sums.length<=20)from decide_eq_decide.2 (by omega),show decide (((out.length:Nat):Int)<=20)=decide (out.length<=20)from decide_eq_decide.2 (by omega)]
 refine⟨decide (((T.length:Nat):Int)<=10)&&(decide (((occ.length:Nat):Int)<=20)&&(decide (P.length<=8)&&(decide (sums.length<=20)&&(decide (out.length<=20)&&P.all λ e=>decide (e.sz<=60))))),?_,λ hb=> ?_⟩
 ·cases decide (((T.length:Nat):Int)<=10)<;>cases decide (((occ.length:Nat):Int)<=20)<;>cases decide (P.length<=8)<;>cases decide (sums.length<=20)<;>rfl
 ·simp only[zF,zU,zAF]at hb
  exact⟨hb.2.2.1,hb.2.2.2.1,hb.2.2.2.2.1,hb.2.2.2.2.2⟩
theorem z3g(T:List Def) (D:List (List (List Val))) (hD:DOk D) (q:QIn) (hq:q.Ok):∃ b,wc W zCb [catp T,zGV D,q.pv]=some (.bool b)/\(b=true->q.P.length<=8/\q.sums.length<=20/\q.out.length<=20/\∀ e∈q.P,e.sz<=60):=by
 obtain⟨b,h1,h2⟩:=z3f T q hq
 obtain⟨r,h3⟩:=z3e D hD
 obtain⟨occ,P,by_,sums,out,ord⟩:=q
 have e1:=zLK (T.map Def.pv) (D.map tabp) (occ.map intp) (P.map Ex.pv) by_ (sums.map intp) (out.map intp) ord
 have e2:=zLN (T.map Def.pv) (occ.map intp) (P.map Ex.pv) by_ (sums.map intp) (out.map intp) ord
 have e3:=zLO (D.map tabp)
 simp only[zAY,zBM,zI,zAL]at e1 e2 e3
 have h1' :wc W zCc [catp T,zCI occ (P.map Ex.pv) by_ sums out ord]=some (.bool b):=h1
 rw[h1']at e2
 rw[h3]at e3
 simp only[zB,c_b_mk]at e2 e3
 show ∃ b,wc W zCb [catp T,zGV D,zCI occ (P.map Ex.pv) by_ sums out ord]=some (.bool b)/\_
 rw[e1,e2,e3]
 cases b with
 |false=>exact⟨false,by cases r<;>rfl,λ h=>by cases h⟩
 |true=>cases r with
  |false=>exact⟨false,rfl,λ h=>by cases h⟩
  |true=>exact⟨true,rfl,λ _=>h2 rfl⟩
theorem z2a(D:List (List (List Val))) (n:Int) (hD:D.length<=9223372036854775807):∀(k i:Nat),i+k=D.length->∃ z,zC6 (D.map tabp) n (i:Int)=some (.int .i64 z)
 | 0,i,h=>⟨0,by rw[zE3,show i=D.length by omega];simp⟩
 |k+1,i,h=>by
  have hi:i<D.length:=by omega
  rw[zE3]
  simp only[zK,zAQ hi,zAc,zA,zY,zN,zH hi,zV,zB,zN4]
  rw[zAB (by omega)]
  cases decide (((D[i].length:Nat):Int)>n) with
  |true=>exact⟨1,rfl⟩
  |false=>exact z2a D n hD k (i+1) (by omega)
theorem z3h(D:List (List (List Val))) (hD:DOk D) (occ:List Int) (P:List PV) (by_:Int) (sums out:List Int) (ord:Int):∃ z,wc W zEA [zGV D,zCI occ P by_ sums out ord]=some (.int .i64 z):=by
 have h:=zJb (D.map tabp) (occ.map intp) P by_ (sums.map intp) (out.map intp) ord
 simp only[zBM,zI,zAL]at h
 rw[h]
 have hl:D.length<=9223372036854775807:=hD.1
 have j:∀ n,∃ z,zC5 (D.map tabp) n=some (.int .i64 z):=λ n=>by
  rw[zHU];exact z2a D n hl D.length 0 (by omega)
 cases decide ((((occ.map intp).length:Nat):Int)>3) with
 |true=>exact j 3
 |false=>exact j 5
end Go.Cf

namespace Go.Cf
open Go Go.Ab
namespace Plan
inductive Ok:Plan->Prop
 |mk (o c a b:Int) (l:List Plan) (hl:l.length<=maxLen) (h:∀ t∈l,t.Ok):Ok (.mk o c a b l)
theorem Ok.len{t:Plan} (h:t.Ok):t.l.length<=9223372036854775807:=by cases h;assumption
theorem Ok.part{t:Plan} (h:t.Ok):∀ x∈t.l,x.Ok:=by cases h;assumption
end Plan
theorem z1y(t:Plan):∀ m:Int,t.Ok->∃ n,wc W zDC [t.pv,.int .i64 m]=some (.int .i64 n):=by
 induction t using Plan.ind with
 |h o c a b l ih =>
  intro m ha
  have hll:l.length<=9223372036854775807:=ha.len
  have hpart:∀ x∈l,x.Ok:=ha.part
  rw[Plan.pv_mk,zKd]
  have:∀(k i:Nat) (n:Int),i+k=l.length->∃ r,zCf m o c a b (l.map Plan.pv) n (i:Int)=some (.int .i64 r):=by
   intro k
   induction k with
   |zero =>
    intro i n h
    simp at h;subst h
    exact⟨n,by rw[zEc];simp⟩
   |succ k ih2 =>
    intro i n h
    have hi:i<l.length:=by omega
    rw[zEc]
    simp only[zK,zAQ hi,zA]
    cases decide (n<=m) with
    |false=>exact⟨n,rfl⟩
    |true =>
     obtain⟨q,hq⟩:=ih l[i] (zAC hi) (IntKind.wrap .i64 (m-n)) (hpart _ (zAC hi))
     obtain⟨r,hr⟩:=ih2 (i+1) (IntKind.wrap .i64 (n+q)) (by omega)
     refine⟨r,?_⟩
     rw[zA,zHt]
     simp only[zAc,zA,zY,zN,zH hi,zV,zB,Plan.c_mk,Plan.fold,hq,c_i64_mk]
     rw[zAU (n:=(i:Int)+1) (by omega) (by omega)]
     exact hr
  exact this l.length 0 1 (by omega)
theorem zWy(T:List Def) (D:List (List (List Val))) (hD:DOk D) (q:QIn) (hq:q.Ok) (p:Plan) (hp:p.Ok):∃ b,wc W zBX [catp T,zGV D,q.pv,p.pv]=some (.bool b)/\(b=true->q.P.length<=8/\q.sums.length<=20/\q.out.length<=20/\∀ e∈q.P,e.sz<=60):=by
 obtain⟨b7,h7,h7b⟩:=z3g T D hD q hq
 obtain⟨occ,P,by_,sums,out,ord⟩:=q
 have h7' :wc W zCb [catp T,zGV D,zCI occ (P.map Ex.pv) by_ sums out ord]=some (.bool b7):=h7
 obtain⟨v,hv⟩:=z3h D hD occ (P.map Ex.pv) by_ sums out ord
 obtain⟨n1,hn1⟩:=z1y p 100 hp
 have hfar:=zLL (T.map Def.pv) (D.map tabp) (occ.map intp) (P.map Ex.pv) by_ (sums.map intp) (out.map intp) ord
 have h:=zKc (T.map Def.pv) (D.map tabp) (occ.map intp) (P.map Ex.pv) by_ (sums.map intp) (out.map intp) ord p.op p.occ p.p0 p.p1 (p.l.map Plan.pv)
 simp only[Plan.fold,zAY,zBM,zI,zAL]at h hfar
 show ∃ b,wc W zBX [catp T,zGV D,zCI occ (P.map Ex.pv) by_ sums out ord,p.pv]=_/\_
 rw[h,hfar,h7',hv,hn1]
 simp only[zB,c_b_mk,c_i64_mk]
 cases b7 with
 |false=>exact⟨false,rfl,λ h=>by cases h⟩
 |true =>
  simp only[zA,c_i64_mk,zB,zBj]
  cases v==0 with
  |false=>exact⟨false,rfl,λ h=>by cases h⟩
  |true=>exact⟨decide (n1<=100),rfl,λ _=>h7b rfl⟩
end Go.Cf

namespace Go.Cf
open Go Go.Ab
def zSL(e:Ex):Option (Int×Int) :=
 bif mayT e&&e.op==6 then
  match e.l with
  | [a,b]=>bif a.op==1&&b.op==1&& !(a.col==b.col)then some (a.col,b.col)else none
  |_=>none
 else none
theorem zWz{e:Ex} (h:mayT e=true) (ho:e.op=6):∃ a b,e.l=[a,b]:=by
 have hp:=zJp e.sz e (zM _) 1 0 (by unfold mayT at h;exact h)
 rw[zP6,zF]at hp
 have h1:=hp.1
 unfold zRn at h1
 rw[ho]at h1
 have h2:e.l.length=2:=by
  simp[lowO,zRm]at h1
  omega
 match e.l,h2 with
 | [a,b],_=>exact⟨a,b,rfl⟩
def tupP(x:Option (Int×Int)):PV:=match x with | some p=> .tup [.int .i64 p.1,.int .i64 p.2,.bool true] | none=> .tup [.int .i64 0,.int .i64 0,.bool false]
theorem z6I(e:Ex) (he:e.ok):wc W zLE [e.pv]=some (tupP (zSL e)):=by
 have h:=zVS e.op e.col e.v.K e.v.N (e.l.map Ex.pv)
 rw[Ex.fold]at h
 rw[h,zMw e he]
 simp only[zB,c_b_mk]
 unfold zSL
 cases hm:mayT e with
 |false=>rfl
 |true =>
  by_cases ho:e.op=6
  ·obtain⟨a,b,hl⟩:=zWz hm ho
   rw[zLq ho,zIH ho,hl]
   simp only[zAH,zC,Bool.and_self,zA,zOD,zAX,zA9,zAS,zAq,zB,Ex.c_mk,zOE]
   by_cases h1:a.op=1
   ·by_cases h2:b.op=1
    ·rw[zLq h1,zLq h2,zIH h1,zIH h2]
     cases hc:a.col==b.col with
     |true=>rfl
     |false=>rfl
    ·rw[zLq h1,zLI h2,zIH h1,zDP h2];rfl
   ·rw[zLI h1,zDP h1];rfl
  ·rw[zLI ho,zDP ho];rfl
theorem zUK{e:Ex} {u v:Int} (h:zSL e=some (u,v)):u∈zHY e/\v∈zHY e/\∀(c:List Int) (r:List Val),zMC e c r=true->zDg (zW c r u) (zW c r v)=true:=by
 unfold zSL at h
 obtain⟨h1,h2⟩:=bif_some h
 simp only[zF,beq_iff_eq]at h1
 obtain⟨hm,ho⟩:=h1
 obtain⟨a,b,hl⟩:=zWz hm ho
 rw[hl]at h2
 simp only at h2
 obtain⟨h3,h4⟩:=bif_some h2
 simp only[zF,beq_iff_eq,zE,zAl]at h3 h4
 obtain⟨⟨ha,hb⟩,_⟩:=h3
 obtain⟨rfl,rfl⟩:=h4
 have ca:∀ x:Ex,x.op=1->x.col∈zJI x:=λ x hx=>by rw[zMD,zIH hx];simp
 have hcols:∀ z,z∈zJI a∨z∈zJI b->z∈zHY e:=λ z hz=>by
  rw[zTf hm,zMD,hl]
  simp only[zOI,List.mem_append,zBN]
  exact .inr hz
 refine⟨hcols _ (.inl (ca a ha)),hcols _ (.inr (ca b hb)),λ c r hk=> ?_⟩
 unfold zMC zZu at hk
 rw[hm]at hk
 simp only[zA]at hk
 rw[zK1,ho,hl]at hk
 have ea:∀ x:Ex,x.op=1->zLU (zW c r) x=zW c r x.col:=λ x hx=>by rw[zK1,hx];rfl
 have e6:∀ l:List Val,opV 6 l=eqV (l.getD 0 badV) (l.getD 1 badV):=λ l=>rfl
 have k0:((6:Int)==0)=false:=rfl
 have k1:((6:Int)==1)=false:=rfl
 simp only[k0,k1,zC,zAX,zA9,ea a ha,ea b hb,e6]at hk
 have hg:([zW c r a.col,zW c r b.col].getD 0 badV)=zW c r a.col/\([zW c r a.col,zW c r b.col].getD 1 badV)=zW c r b.col:=⟨rfl,rfl⟩
 rw[hg.1,hg.2]at hk
 generalize zW c r a.col=x at hk
 generalize zW c r b.col=y at hk
 exact eq_true_same hk
where
 eq_true_same {x y:Val} (hk:zP5 (eqV x y)=true):zDg x y=true:=by
  unfold eqV at hk
  cases hod:oddV [x,y] with
  |some v =>
   rw[hod]at hk
   unfold oddV at hod
   simp only at hk
   cases h1:[x,y].any (λ v=>(zF2 v).K==2) with
   |true=>rw[h1]at hod;simp at hod;subst hod;cases hk
   |false =>
    rw[h1]at hod
    cases h2:[x,y].any (λ v=>(zF2 v).K==1) with
    |true=>rw[h2]at hod;simp at hod;subst hod;cases hk
    |false=>rw[h2]at hod;cases hod
  |none =>
   rw[hod]at hk
   unfold oddV at hod
   cases h1:[x,y].any (λ v=>(zF2 v).K==2) with
   |true=>rw[h1]at hod;cases hod
   |false =>
    rw[h1]at hod
    cases h2:[x,y].any (λ v=>(zF2 v).K==1) with
    |true=>rw[h2]at hod;cases hod
    |false =>
     simp only[List.any_cons,List.any_nil,Bool.or_false,Bool.or_eq_false_iff,beq_eq_false_iff_ne,ne_eq]at h1 h2
     simp only at hk
     have hxy:x=y:=by
      by_cases e:x=y
      ·exact e
      ·rw[zL e]at hk;cases hk
     subst hxy
     have hm:mayV x=true:=by
      cases hm:mayV x with
      |true=>rfl
      |false =>
       have:(zF2 x).K=2:=by unfold zF2;rw[hm];rfl
       exact absurd this h1.1
     have hf:zF2 x=x:=by unfold zF2;rw[hm];rfl
     rw[hf]at h1 h2
     unfold mayV at hm
     simp only[zFM,zF,zU]at hm
     have hK:x.K=0:=by
      rcases hm with h | ⟨h | h,_⟩
      ·exact h
      ·exact absurd h h2.1
      ·exact absurd h h1.1
     unfold zDg
     rw[hK];simp
def zL0(p:Int×Int):PV:= .agg [.int .i64 p.1,.int .i64 p.2]
@[simp] theorem z3i(p:Int×Int) {R:Type} (f:Int->Int->Option R):zP (zL0 p) f=f p.1 p.2:=rfl
theorem z3j(c:Int):setC 0 [c]=2 ^ occI c:=by simp[setC]
theorem z3k:∀ s:Nat,s<16->∀ o:Nat,o<4->zAp s (2 ^ o)=s.testBit o:=by decide +kernel
def wayP(x y:Nat) (p:Int×Int):Option (Int×Int) :=
 bif x.testBit (occI p.1)&&y.testBit (occI p.2)then some p else bif x.testBit (occI p.2)&&y.testBit (occI p.1)then some (p.2,p.1)else none
def zF1(P:List Ex) (x y:Nat) (idx:List Nat):List (Int×Int):=idx.filterMap λ i=>(P[i]?).bind λ e=>(zSL e).bind (wayP x y)
theorem zRA(occ:List PV) (P:List Ex) (by_:Int) (sums out:List PV) (ord:Int) (x y:Nat) (hx:x<16) (hy:y<16) (hok:∀ e∈P,e.ok) (idx:List Nat) (hi:∀ i∈idx,i<P.length) (hl:idx.length<=1000000):∀(k j:Nat) (acc:List (Int×Int)),j+k=idx.length->acc.length<=j ->
 zCe (x:Int) (y:Int) occ (P.map Ex.pv) by_ sums out ord ((idx.map λ n:Nat=>(n:Int)).map intp) ((idx.length:Nat):Int) (j:Int) (acc.map zL0)=some (.slice 3 ((acc++zF1 P x y (idx.drop j)).map zL0))
 | 0,j,acc,h,ha=>by
  rw[zHi,show j=idx.length by omega]
  simp[zF1]
 |k+1,j,acc,h,ha=>by
  have hj:j<idx.length:=by omega
  have hp:=hi _ (zAC hj)
  have next:=λ acc' ha' =>zRA occ P by_ sums out ord x y hx hy hok idx hi hl k (j+1) acc' (by omega) ha'
  have hcons:zF1 P x y (idx.drop j)=(((zSL P[idx[j]]).bind (wayP x y)).toList)++zF1 P x y (idx.drop (j+1)):=by
   rw[zAv hj]
   unfold zF1
   rw[List.filterMap_cons,zH hp]
   simp only[zB]
   cases (zSL P[idx[j]]).bind (wayP x y)<;>rfl
  have ws:∀ c:Int,wc W zGl [.slice 0 [.int .i64 c]]=some (.int .i64 ((2 ^ occI c:Nat):Int)):=λ c=>by
   have:=z0C [c] (by simp)
   rw[z3j]at this;exact this
  have wh:∀(s:Nat) (c:Int),s<16->wc W zAz [.int .i64 (s:Int),.int .i64 ((2 ^ occI c:Nat):Int)]=some (.bool (s.testBit (occI c))):=λ s c hs=>by
   rw[zPb s _ hs (zV5 _ (zIl c)),z3k s hs _ (zIl c)]
  rw[zHi]
  simp only[zAQ hj,zAc,zA,zY,zN,zH hj,zV,zB,zJD,zH hp,Ex.c_mk,Ex.fold,z6I _ (hok _ (zAC hp))]
  rw[zAB (by omega),hcons]
  cases hpe:zSL P[idx[j]] with
  |none =>
   simp only[tupP,asTup_mk,zB,zAS,zAq,c_i64_mk,c_b_mk,Bool.not_false,zA,Option.bind_none,Option.toList_none,List.nil_append]
   exact next acc (by omega)
  |some p =>
   obtain⟨u,v⟩:=p
   simp only[tupP,asTup_mk,zB,zAS,zAq,c_i64_mk,c_b_mk,zAH,zC]
   have w1:IntKind.wrap .i64 ((0:Int)+1)=1:=by rw[zAU (by omega) (by omega)];rfl
   have w2:IntKind.wrap .i64 ((1:Int)+1)=2:=by rw[zAU (by omega) (by omega)];rfl
   have put:∀ q:Int×Int,zCe (x:Int) (y:Int) occ (P.map Ex.pv) by_ sums out ord ((idx.map λ n:Nat=>(n:Int)).map intp) ((idx.length:Nat):Int) ((j+1:Nat):Int) (acc.map zL0++[PV.agg [PV.int .i64 q.1,PV.int .i64 q.2]])=some (.slice 3 ((acc++([q]++zF1 P x y (idx.drop (j+1)))).map zL0)):=λ q=>by
    have:=next (acc++[q]) (by simp;omega)
    rw[zBe,zAG]at this
    exact this
   have hlen:decide (acc.length+1<=4294967296)=true:=zD (by omega)
   rw[zFX]
   have d0:decide ((0:Int)<2)=true:=rfl
   have d1:decide ((0:Int)<=0)=true:=rfl
   have t0:(0:Int).toNat=0:=rfl
   have cc:∀(a b:Int) {R:Type} (f:Int->Int->Option R),zP (PV.agg [PV.int .i64 a,PV.int .i64 b]) f=f a b:=λ a b R f=>rfl
   simp only[d0,d1,t0,zA,zAS,zB,cc,ws,c_i64_mk,wh x _ hx,wh y _ hy,c_b_mk,zHj,zK,hlen,zAD]
   unfold wayP
   simp only
   cases b1:x.testBit (occI u)&&y.testBit (occI v) with
   |true =>
    rw[zF]at b1
    rw[b1.1,b1.2]
    simp only[zA,Option.toList_some]
    rw[zAB (by omega)]
    exact put (u,v)
   |false =>
    have second:zEN (x:Int) (y:Int) occ (P.map Ex.pv) by_ sums out ord ((idx.map λ n:Nat=>(n:Int)).map intp) ((idx.length:Nat):Int) (j:Int) [PV.agg [PV.int .i64 u,PV.int .i64 v],PV.agg [PV.int .i64 v,PV.int .i64 u]] 2 1 (acc.map zL0) =
     some (.slice 3 ((acc++((bif x.testBit (occI v)&&y.testBit (occI u)then some (v,u)else none).toList++zF1 P x y (idx.drop (j+1)))).map zL0)):=by
     rw[zFX]
     have d2:decide ((1:Int)<2)=true:=rfl
     have d3:decide ((0:Int)<=1)=true:=rfl
     have t1:(1:Int).toNat=1:=rfl
     simp only[d2,d3,t1,zA,zAS,zAq,zB,cc,ws,c_i64_mk,wh x _ hx,wh y _ hy,c_b_mk,zHj,zK,hlen,zAD]
     have third:zEN (x:Int) (y:Int) occ (P.map Ex.pv) by_ sums out ord ((idx.map λ n:Nat=>(n:Int)).map intp) ((idx.length:Nat):Int) (j:Int) [PV.agg [PV.int .i64 u,PV.int .i64 v],PV.agg [PV.int .i64 v,PV.int .i64 u]] 2 2 (acc.map zL0)=some (.slice 3 ((acc++zF1 P x y (idx.drop (j+1))).map zL0)):=by
      rw[zFX]
      have d4:decide ((2:Int)<2)=false:=rfl
      simp only[d4,zC]
      rw[zAB (by omega)]
      exact next acc (by omega)
     cases b2:x.testBit (occI v) with
     |false =>
      simp only[zC,Bool.false_and,Option.toList_none,List.nil_append,w2,third]
     |true =>
      cases b3:y.testBit (occI u) with
      |false=>simp only[zA,zC,Bool.and_false,Option.toList_none,List.nil_append,w2,third]
      |true =>
       simp only[zA,Bool.and_self,Option.toList_some]
       rw[zAB (by omega)]
       exact put (v,u)
    rw[Bool.and_eq_false_iff]at b1
    rcases b1 with b1 | b1
    ·rw[b1]
     simp only[zC,w1,second]
    ·rw[b1]
     cases x.testBit (occI u) with
     |true=>simp only[zA,zC,w1,second]
     |false=>simp only[zC,w1,second]
theorem z3l(occ:List Int) (P:List Ex) (by_:Int) (sums out:List Int) (ord:Int) (x y:Nat) (hx:x<16) (hy:y<16) (hP:P.length<=1000000) (hok:∀ e∈P,e.ok) :
 wc W zI8 [zCI occ (P.map Ex.pv) by_ sums out ord,.int .i64 (x:Int),.int .i64 (y:Int)]=some (.slice 3 ((zF1 P x y (newQ P x y)).map zL0)):=by
 have h:=zRe (occ.map intp) (P.map Ex.pv) by_ (sums.map intp) (out.map intp) ord (x:Int) (y:Int)
 rw[zI,zI,zI,zAL]at h
 have hn:=z34 occ P by_ sums out ord x y hx hy hP hok
 have hl:=zJu P (newF x y)
 have:=zRA (occ.map intp) P by_ (sums.map intp) (out.map intp) ord x y hx hy hok (newQ P x y) (λ i hi=>zME hi) (by unfold newQ;omega) (newQ P x y).length 0 [] (by omega) (by simp)
 have z:((0:Nat):Int)=0:=rfl
 rw[z,List.drop_zero]at this
 rw[h,hn]
 simp only[zB,zCz,zK]
 exact this
theorem zUL{q:QT} {x y:Nat} {u v:Int} (h:(u,v)∈zF1 q.P x y (newQ q.P x y)):zWv q x y u v:=by
 unfold zF1 at h
 obtain⟨i,hi,h⟩:=List.mem_filterMap.1 h
 obtain⟨e,he,h⟩:=zJ.1 h
 obtain⟨p,hp,h⟩:=zJ.1 h
 obtain⟨a,b⟩:=p
 obtain⟨h1,h2,h3⟩:=zUK hp
 have hn:newF x y (setE e)=true:=by
  unfold newQ zIR at hi
  have:=(zBS.1 hi).2
  rw[he]at this
  simpa using this
 unfold wayP at h
 cases b1:x.testBit (occI a)&&y.testBit (occI b) with
 |true =>
  rw[b1]at h
  simp only[zA,zE,zAl]at h
  obtain⟨rfl,rfl⟩:=h
  rw[zF]at b1
  exact⟨e,zAV he,hn,h1,h2,b1.1,b1.2,h3⟩
 |false =>
  rw[b1]at h
  obtain⟨b2,h⟩:=bif_some h
  simp only[zE,zAl]at h
  obtain⟨rfl,rfl⟩:=h
  rw[zF]at b2
  exact⟨e,zAV he,hn,h2,h1,b2.1,b2.2,λ c r hk=>by rw[zQz];exact h3 c r hk⟩
theorem zVn(l:List (Int×Int)) (p:Int×Int) (hl:l.length<=9223372036854775807):wc W zCW [.slice 3 (l.map zL0),.agg [.int .i64 p.1,.int .i64 p.2]]=some (.bool (decide (p∈l))):=by
 have h:=zGT (l.map zL0) p.1 p.2
 have h2:=zHX (l.map zL0) p.1 p.2
 have h3:zBK (l.map zL0) p.1 p.2 ((l.length:Nat):Int) 0=some (.int .i64 (idxI l λ z=>p.1==z.1&&p.2==z.2)):=by
  refine zIj (λ i=>zBK (l.map zL0) p.1 p.2 ((l.length:Nat):Int) i) l (λ z=>p.1==z.1&&p.2==z.2) (λ n=>some (.int .i64 n)) (λ i hi=> ?_) ?_
  ·rw[zDU]
   have e:∀ z:Int×Int,((bif p.1==z.1 then bif p.2==z.2 then some true else some false else some false).bind λ v9=>some (PV.bool v9))=some (.bool (p.1==z.1&&p.2==z.2)):=λ z=>by cases p.1==z.1<;>cases p.2==z.2<;>rfl
   simp only[zAQ hi,zAc,zA,zY,zN,zH hi,zV,zB,z3i,e,c_b_mk]
   rw[zAU (by omega) (by omega)]
  ·rw[zDU];simp
 rw[h,h2,zK,h3]
 have ha:=zIi l λ z=>p.1==z.1&&p.2==z.2
 have hm:(l.any λ z=>p.1==z.1&&p.2==z.2)=decide (p∈l):=by
  rw[Bool.eq_iff_iff,List.any_eq_true,zU]
  constructor
  ·rintro⟨z,hz,e⟩
   simp only[zF,beq_iff_eq]at e
   have:p=z:=Prod.ext e.1 e.2
   rw[this];exact hz
  ·intro h;exact⟨p,h,by simp⟩
 rw[hm]at ha
 simp only[zB,c_i64_mk,ha]
end Go.Cf

namespace Go.Cf
open Go Go.Ab
theorem zSM(p:Plan):setP p<16:=by
 unfold setP
 cases h:setO 4 (zBL p) with
 |none=>simp
 |some m=>exact zBI _ _ _ h
def ordF(p:Plan):Int:=bif fewP p then zE5 p else -1
def zQP(T:List Def) (occ:List Int) (P:List Ex) (p:Plan):Bool :=
 p.op==0 || p.op==1 || bif p.op==4 then inC (zIm T occ (setP p)) p.p0 else
  match p.l with
  | [a,b]=>decide ((p.p0,p.p1)∈zF1 P (setP a) (setP b) (newQ P (setP a) (setP b)))&&(p.op==2 || (ordF a==p.p0&&ordF b==p.p1))
  |_=>false
theorem zVo(T:List Def) (hT:mayC T=true) (occ:List Int) (s:Nat):(zIm T occ s).length<=16:=by
 have:=zRr T hT occ (λ o=>s.testBit o) (min occ.length 4) 0
 unfold zIm
 omega
theorem z6J(T:List Def) (occ:List Int) (P:List Ex) (by_:Int) (sums out:List Int) (ord:Int) (hT:T.length<=9223372036854775807) (hocc:occ.length<=9223372036854775807) (hP:P.length<=1000000) (hok:∀ e∈P,e.ok)
 (hs:sums.length<=9223372036854775807) (ho:out.length<=9223372036854775807) (hm:mayQ T occ P by_ sums out ord=true) (p:Plan) (hf:zBr p=true) :
 wc W zGO [p.pv,catp T,zCI occ (P.map Ex.pv) by_ sums out ord]=some (.bool (zQP T occ P p)):=by
 have h:=zNs p.op p.occ p.p0 p.p1 (p.l.map Plan.pv) (T.map Def.pv) (occ.map intp) (P.map Ex.pv) by_ (sums.map intp) (out.map intp) ord
 rw[Plan.fold,zAY,zI,zI,zI,zAL]at h
 have hmT:mayC T=true:=by
  unfold mayQ at hm
  simp only[zF]at hm
  exact hm.1.1.1.1.1.1
 rw[h]
 have key:∀ b:Bool,(b=true->p.op=0∨p.op=1)->(b=false->p.op≠0/\p.op≠1)->zDo p.op p.occ p.p0 p.p1 (p.l.map Plan.pv) (T.map Def.pv) (occ.map intp) (P.map Ex.pv) by_ (sums.map intp) (out.map intp) ord p.op b=some (.bool (zQP T occ P p)):=λ b hb1 hb2=>by
  rw[zJi]
  cases b with
  |true =>
   simp only[zA]
   unfold zQP
   rcases hb1 rfl with e | e<;>rw[e]<;>rfl
  |false =>
   obtain⟨n0,n1⟩:=hb2 rfl
   simp only[zC]
   unfold zQP
   rw[zDP n0,zDP n1,Bool.false_or,Bool.false_or]
   rcases zML hf with⟨c,a,b,hp⟩ | ⟨a,b,x,hp,hx⟩ | ⟨o',a,b,x,y,hp,ho',hx,hy⟩
   ·rw[hp]at n0;exact absurd rfl n0
   ·have e4:(p.op==4)=true:=by rw[hp];rfl
    rw[e4]
    have hc:=zN6 T occ P by_ sums out ord (setP p) (zSM p) hT hocc (by omega) hok hs ho hm
    have hl:=zVo T hmT occ (setP p)
    simp only[zA,Plan.fold,zAY,zI,zAL,z0S hf,zB,c_i64_mk,hc,zCz,zMz (zIm T occ (setP p)) p.p0 (by omega),c_b_mk]
   ·have eo:p.op=o' :=by rw[hp];rfl
    have e4:(p.op==4)=false:=by rw[eo];exact zDP (by omega)
    have hl:p.l=[x,y]:=by rw[hp];rfl
    rw[e4,hl]
    have hpr:=z3l occ P by_ sums out ord (setP x) (setP y) (zSM x) (zSM y) hP hok
    have hpl:(zF1 P (setP x) (setP y) (newQ P (setP x) (setP y))).length<=1000000:=by
     have h1:=List.length_filterMap_le (λ i=>(P[i]?).bind λ e=>(zSL e).bind (wayP (setP x) (setP y))) (newQ P (setP x) (setP y))
     have h2:=zJu P (newF (setP x) (setP y))
     unfold zF1 newQ at *
     omega
    have hct:=zVn (zF1 P (setP x) (setP y) (newQ P (setP x) (setP y))) (p.p0,p.p1) (by omega)
    have hcs:∀(l:List PV) {R:Type} (f:List PV->Option R),c_s3 (.slice 3 l) f=f l:=λ l R f=>rfl
    simp only[zC,zAX,zA9,zAS,zAq,zB,Plan.c_mk,Plan.fold,zI,zAL,z0S hx,z0S hy,c_i64_mk,hpr,hcs,hct,c_b_mk,z0T]
    show _=some (PV.bool (decide ((p.p0,p.p1)∈zF1 P (setP x) (setP y) (newQ P (setP x) (setP y)))&&(p.op==2 || (ordF x==p.p0&&ordF y==p.p1))))
    cases decide ((p.p0,p.p1)∈zF1 P (setP x) (setP y) (newQ P (setP x) (setP y))) with
    |false=>rfl
    |true =>
     cases p.op==2 with
     |true=>rfl
     |false =>
      simp only[zA,zC,zAD,Bool.false_or]
      show(bif ordF x==p.p0 then some (PV.bool (ordF y==p.p1))else some (PV.bool false))=_
      cases ordF x==p.p0<;>rfl
 by_cases e0:p.op=0
 ·rw[zIH e0,zA]
  exact key true (λ _=> .inl e0) (λ h=>by cases h)
 ·rw[zDP e0,zC]
  by_cases e1:p.op=1
  ·rw[zIH e1];exact key true (λ _=> .inr e1) (λ h=>by cases h)
  ·rw[zDP e1];exact key false (λ h=>by cases h) (λ _=>⟨e0,e1⟩)
mutual
def zHR(T:List Def) (occ:List Int) (P:List Ex):Plan->Bool
 | .mk o c a b l=>zQP T occ P (.mk o c a b l)&&zO1 T occ P l
def zO1(T:List Def) (occ:List Int) (P:List Ex):List Plan->Bool
 | []=>true
 |t::r=>zHR T occ P t&&zO1 T occ P r
end
theorem zNc(T:List Def) (occ:List Int) (P:List Ex):∀ l:List Plan,zO1 T occ P l=l.all (zHR T occ P)
 | []=>rfl
 |t::r=>by rw[zO1,zNc T occ P r];rfl
theorem zNE(T:List Def) (occ:List Int) (P:List Ex) (p:Plan):zHR T occ P p=(zQP T occ P p&&p.l.all (zHR T occ P)):=by cases p;rw[zHR,zNc];rfl
theorem z1z(T:List Def) (occ:List Int) (P:List Ex) (by_:Int) (sums out:List Int) (ord:Int) (hT:T.length<=9223372036854775807) (hocc:occ.length<=9223372036854775807) (hP:P.length<=1000000) (hok:∀ e∈P,e.ok)
 (hs:sums.length<=9223372036854775807) (ho:out.length<=9223372036854775807) (hm:mayQ T occ P by_ sums out ord=true) (p:Plan):zBr p=true ->
 wc W zEB [p.pv,.fn zGC [] [.imm 2 (catp T) 0,.imm 7 (zCI occ (P.map Ex.pv) by_ sums out ord) 0]]=some (.bool (zHR T occ P p)):=by
 induction p using Plan.ind with
 |h o c a b l ih =>
  intro hf
  have h:=zVM o c a b (l.map Plan.pv) (.fn zGC [] [.imm 2 (catp T) 0,.imm 7 (zCI occ (P.map Ex.pv) by_ sums out ord) 0])
  rw[<- Plan.pv_mk]at h
  have h1:=zT3 o c a b (l.map Plan.pv) (T.map Def.pv) (occ.map intp) (P.map Ex.pv) by_ (sums.map intp) (out.map intp) ord
  rw[<- Plan.pv_mk,zAY,zI,zI,zI,zAL,z6J T occ P by_ sums out ord hT hocc hP hok hs ho hm _ hf]at h1
  rw[h]
  simp only[asFn_mk,zB,List.nil_append,List.singleton_append,h1,c_b_mk]
  rw[zNE]
  have hfl:=hf
  rw[zFp,zF,zAF]at hfl
  have hlen:=(zK9 hfl.1).1
  have h2:=zUJ (Plan.mk o c a b l).op
  have hl:(Plan.mk o c a b l).l=l:=rfl
  rw[hl]at hlen hfl
  cases zQP T occ P (.mk o c a b l) with
  |false=>rfl
  |true =>
   simp only[zAH,zC,zAD,zK,hl]
   have loop:∀(k i:Nat),i+k=l.length->zGb (.fn zGC [] [.imm 2 (catp T) 0,.imm 7 (zCI occ (P.map Ex.pv) by_ sums out ord) 0]) (l.map Plan.pv) ((l.length:Nat):Int) (i:Int)=some (.bool ((l.drop i).all (zHR T occ P))):=by
    intro k
    induction k with
    |zero =>
     intro i hi
     rw[zJB,show i=l.length by omega]
     simp
    |succ k ihk =>
     intro i hi
     have hil:i<l.length:=by omega
     rw[zJB]
     simp only[zAQ hil,zAc,zA,zY,zN,zH hil,zV,zB,Plan.c_mk,Plan.fold,ih l[i] (zAC hil) (hfl.2 _ (zAC hil)),c_b_mk]
     rw[zAB (by omega),ihk (i+1) (by omega),zAv hil,List.all_cons]
     cases zHR T occ P l[i]<;>rfl
   exact loop l.length 0 (by omega)
def mayP(T:List Def) (occ:List Int) (P:List Ex) (may:Bool) (p:Plan):Bool:=(zMM p).isSome&&may&&decide (setP p<2 ^ occ.length)&&zHR T occ P p
theorem zNF{p:Plan} {t:Tree} (h:zMM p=some t):fewP p=true/\zBr p=true/\t=zBL p/\setO 4 (zBL p)=some (setP p):=by
 unfold zMM at h
 obtain⟨h1,h2⟩:=bif_some h
 rw[zF]at h1
 obtain⟨h3,h4⟩:=h1
 simp only[zE]at h2
 have ha:zBr p=true:=by unfold fewP at h3;simp only[zF]at h3;exact h3.1
 refine⟨h3,ha,h2.symm,?_⟩
 unfold setP
 cases hs:setO 4 (zBL p) with
 |none=>rw[hs]at h4;cases h4
 |some m=>rfl
theorem z6K(T:List Def) (occ:List Int) (P:List Ex) (by_:Int) (sums out:List Int) (ord:Int) (hT:T.length<=9223372036854775807) (hocc:occ.length<=9223372036854775807) (hP:P.length<=9223372036854775807) (hok:∀ e∈P,e.ok)
 (hs:sums.length<=9223372036854775807) (ho:out.length<=9223372036854775807) (p:Plan) :
 wc W zMe [catp T,zCI occ (P.map Ex.pv) by_ sums out ord,p.pv]=some (.bool (mayP T occ P (mayQ T occ P by_ sums out ord) p)):=by
 have h:=zXq (T.map Def.pv) (occ.map intp) (P.map Ex.pv) by_ (sums.map intp) (out.map intp) ord p.op p.occ p.p0 p.p1 (p.l.map Plan.pv)
 rw[Plan.fold,zAY,zI,zI,zI,zAL]at h
 rw[h,zVm,zLW T occ P by_ sums out ord hT hocc (by omega) hok hs ho]
 unfold mayP
 cases ht:zMM p with
 |none=>simp only[tupT,zB,asTup_mk,zAS,zAq,Tree.c_mk,c_b_mk];rfl
 |some t =>
  obtain⟨h1,h2,rfl,h4⟩:=zNF ht
  have hws:=zTl (zBL p)
  rw[h4,Option.getD_some]at hws
  simp only[tupT,zB,asTup_mk,zAS,zAq,Tree.c_mk,Tree.fold,c_b_mk,zAH,zC,Option.isSome_some,zAD,hws,c_i64_mk,zK]
  cases hm:mayQ T occ P by_ sums out ord with
  |false=>rfl
  |true =>
   have hparts:=hm
   unfold mayQ at hparts
   simp only[zF,zU,zAF]at hparts
   have h5:occ.length<=4:=hparts.1.1.1.1.2
   rw[z5x (setP p) (zSM p) occ.length (by omega)]
   simp only[zAH,zC,zAD]
   cases decide (setP p<2 ^ occ.length) with
   |false=>rfl
   |true =>
    simp only[zAH,zC,zAD,zPW,Plan.fold,zAY,zI,zAL,z1z T occ P by_ sums out ord hT hocc (Nat.le_trans hparts.1.1.2 (by omega)) hok hs ho hm p h2,zB,c_b_mk]
theorem z2A{x y:Tree} {m:Nat} (h:setO 4 (zQO x y)=some m):∃ a b,setO 4 x=some a/\setO 4 y=some b/\a &&& b=0/\m=a ||| b:=by
 rw[zMK]at h
 obtain⟨a,ha,h⟩:=zJ.1 h
 obtain⟨b,hb,h⟩:=zJ.1 h
 obtain⟨hd,h⟩:=bif_some h
 simp only[zE]at h
 exact⟨a,b,ha,hb,zAM hd,h.symm⟩
theorem z3m{q:QT} (hq:QOk q) (p:Plan):fewP p=true->∀ m,setO 4 (zBL p)=some m->m<2 ^ q.occ.length->zHR q.T q.occ q.P p=true->PlOk q p:=by
 induction p using Plan.ind with
 |h o c a b l ih =>
  intro hfew m hs hm hfit
  have hf:zBr (.mk o c a b l)=true:=by unfold fewP at hfew;simp only[zF]at hfew;exact hfew.1
  have hsub:∀ x∈l,fewP x=true:=λ x hx=>zF0 hfew hx
  rw[zNE,zF,zAF]at hfit
  obtain⟨hfit,hfitl⟩:=hfit
  have hfitl:∀ x∈l,zHR q.T q.occ q.P x=true:=hfitl
  have hocc:=hq.occ
  rcases zML hf with⟨c',a',b',hp⟩ | ⟨a',b',x,hp,hx⟩ | ⟨o',a',b',x,y,hp,ho',hx,hy⟩
  ·cases hp
   have hs' :setO 4 (.mk c [])=some m:=hs
   rcases zDf hs' with⟨_,h1,h2,h3⟩ | ⟨_,_,_,_,h,_⟩
   ·subst h3
    obtain⟨n,rfl⟩:=Int.eq_ofNat_of_zero_le h1
    rw[zY]at hm
    have:=(Nat.pow_lt_pow_iff_right (by omega:1<2)).1 hm
    exact .scan _ _ _ h1 (by omega)
   ·cases h
  ·cases hp
   have hs' :setO 4 (zBL x)=some m:=hs
   have hpx:=ih x (by simp) (hsub x (by simp)) m hs' hm (hfitl x (List.mem_cons_self ..))
   refine .sort _ _ _ x hpx ?_
   unfold zQP at hfit
   have hin:inC (zIm q.T q.occ (setP (.mk 4 0 a b [x]))) a=true:=hfit
   have hin2:=zAM hin
   unfold zIm at hin2
   obtain⟨z,k1,k2,k3,k4,k5⟩:=(zOW _ _ _ _ _ a).1 hin2
   have hse:setP (.mk 4 0 a b [x])=m:=by
    show(setO 4 (zBL x)).getD 0=m
    rw[hs'];rfl
   rw[hse]at k3
   exact List.mem_flatMap.2 ⟨z,(zBa 4 _ m hs' z).2 k3,k5⟩
  ·cases hp
   have hs' :setO 4 (zQO (zBL x) (zBL y))=some m:=hs
   obtain⟨u,v,hu,hv,huv,rfl⟩:=z2A hs'
   have l1:u<=u ||| v:=Nat.left_le_or
   have l2:v<=u ||| v:=Nat.right_le_or
   have hpx:=ih x (by simp) (hsub x (by simp)) u hu (by omega) (hfitl x (List.mem_cons_self ..))
   have hpy:=ih y (by simp) (hsub y (by simp)) v hv (by omega) (hfitl y (List.mem_cons_of_mem _ (List.mem_cons_self ..)))
   have su:setP x=u:=by unfold setP;rw[hu];rfl
   have sv:setP y=v:=by unfold setP;rw[hv];rfl
   have hd:setP x &&& setP y=0:=by rw[su,sv];exact huv
   rcases ho' with rfl | rfl | rfl
   ·exact .nest _ _ _ x y hpx hpy hd
   ·unfold zQP at hfit
    have h2:(decide ((a,b)∈zF1 q.P (setP x) (setP y) (newQ q.P (setP x) (setP y)))&&((2:Int)==2 || (ordF x==a&&ordF y==b)))=true:=hfit
    rw[zF]at h2
    exact .hash _ _ _ x y hpx hpy hd (zUL (zAM h2.1))
   ·unfold zQP at hfit
    have h2:(decide ((a,b)∈zF1 q.P (setP x) (setP y) (newQ q.P (setP x) (setP y)))&&((3:Int)==2 || (ordF x==a&&ordF y==b)))=true:=hfit
    rw[zF]at h2
    have h3:=h2.2
    have e32:((3:Int)==2)=false:=rfl
    rw[e32,Bool.false_or,zF,beq_iff_eq,beq_iff_eq]at h3
    unfold ordF at h3
    rw[hsub x (by simp),hsub y (by simp)]at h3
    exact .merge _ _ _ x y hpx hpy hd (zUL (zAM h2.1)) h3.1 h3.2
end Go.Cf

namespace Go.Cf
open Go Go.Ab
theorem eqK2(a b:Ky):eqP cfg 6 196 (keyP a) (keyP b)=some (decide (a=b)):=by
 have h:eqP cfg 6 196 (keyP a) (keyP b)=(bif (a.1==b.1)then(bif (a.2==b.2)then some true else some false)else some false):=by rfl
 rw[h]
 obtain⟨a1,a2⟩:=a
 obtain⟨b1,b2⟩:=b
 simp only[zAl]
 rw[Bool.decide_and]
 show _=some ((a1==b1)&&(a2==b2))
 cases a1==b1<;>cases a2==b2<;>rfl
theorem zXA(k:Ky):∀ m:GM,zL2 (eqP cfg 6 196) (keyP k) (mpG m)=some ((getG k m).map tabp)
 | []=>rfl
 |y::r=>by
  show zL2 (eqP cfg 6 196) (keyP k) ((keyP y.1,tabp y.2)::mpG r)=_
  simp only[zL2,eqK2,zB,getG]
  by_cases h:k=y.1
  ·rw[zD h,if_pos h];rfl
  ·rw[zL h,if_neg h];exact zXA k r
theorem z0U(k:Ky):∀ m:GM,gidx (eqP cfg 6 196) (keyP k) (mpG m)=some (idxG k m)
 | []=>rfl
 |y::r=>by
  show gidx (eqP cfg 6 196) (keyP k) ((keyP y.1,tabp y.2)::mpG r)=_
  simp only[gidx,eqK2,zB,idxG]
  by_cases h:k=y.1
  ·rw[zD h,if_pos h,<-h,z6c];rfl
  ·rw[zL h,if_neg h,zC,z0U k r];rfl
theorem z0V{c:List Int} {x:List Val} {col:Int} (h:inC c col=true) (hl:x.length=c.length):wc W zI9 [rowp x,.int .i64 (idxI c λ y=>col==y)]=some (.tup [keyP ((zW c x col).K,(zW c x col).N),.bool ((zW c x col).K==0)]):=by
 obtain⟨h1,h2⟩:=zEk h hl
 have e:=zVP (x.map Val.pv) (idxI c λ y=>col==y)
 rw[zAA]at e
 rw[e,zD h2]
 simp only[zA,zN,h1,zV,zB,Val.c_mk]
 rfl
def kOf(c:List Int) (col:Int) (x:List Val):Ky:=((zW c x col).K,(zW c x col).N)
def zIq(c:List Int) (col:Int):List (List Val)->GM->GM
 | [],m=>m
 |x::r,m=>zIq c col r (bif (zW c x col).K==0 then putG (kOf c col x) x m else m)
theorem zNG(c:List Int) (col:Int) (k:Ky) (hk:k.1=0):∀(r:List (List Val)) (m:GM),(getG k (zIq c col r m)).getD []=(getG k m).getD []++r.filter λ x=>decide (k=kOf c col x)
 | [],m=>by simp[zIq]
 |x::r,m=>by
  rw[zIq,zNG c col k hk r,List.filter_cons]
  cases h0:(zW c x col).K==0 with
  |true =>
   simp only[zA,zWm]
   by_cases h:k=kOf c col x
   ·rw[if_pos h,zD h,if_pos rfl,Option.getD_some,zAG,List.singleton_append]
   ·rw[if_neg h,zL h,if_neg (by simp)]
  |false =>
   have h:k≠kOf c col x:=λ e=>by
    rw[e]at hk
    have:(zW c x col).K=0:=hk
    rw[this]at h0;simp at h0
   simp only[zC]
   rw[zL h,if_neg (by simp)]
theorem z6L(c:List Int) (col:Int):∀(r:List (List Val)) (m:GM),zMI (zIq c col r m)<=zMI m+r.length
 | [],m=>by simp[zIq]
 |x::r,m=>by
  rw[zIq]
  have:=z6L c col r (bif (zW c x col).K==0 then putG (kOf c col x) x m else m)
  cases h0:(zW c x col).K==0 with
  |true=>rw[h0]at this;simp only[zA,zPm]at this;simp only[List.length_cons,zA];omega
  |false=>rw[h0]at this;simp only[zC]at this;simp only[List.length_cons,zC];omega
theorem memH(c:List Int) (col:Int) (k:Ky) (hk:k.1=0) (r:List (List Val)):∀ x∈(getG k (zIq c col r [])).getD [],x∈r:=λ x hx=>by
 rw[zNG c col k hk]at hx
 simp only[getG,Option.getD_none,List.nil_append]at hx
 exact(zBS.1 hx).1
theorem z0W(k:Ky) (m:GM):((getG k m).getD []).length<=zMI m:=by
 cases h:getG k m with
 |none=>simp
 |some l=>exact zTy k m l h
theorem z3n(ca cb:List Int) (A B:List (List Val)) (x:Int) (p1:Int) (hp:inC cb p1=true) (hB:∀ r∈B,r.length=cb.length) (hl:B.length<=1000000) (hca:ca.length+cb.length<=1000000):∀(k i:Nat) (m:GM),i+k=B.length->zMI m<=i->∃ h:List PV,
 zCs (ca.map intp) (A.map rowp) (cb.map intp) (B.map rowp) x (idxI cb λ y=>p1==y) (B.map rowp) ((B.length:Nat):Int) (i:Int) (mpG m) [] =
  zBm x (A.map rowp) ((A.length:Nat):Int) 0 (mpG (zIq cb p1 (B.drop i) m)) h [] [] ((ca++cb).map intp) []
 | 0,i,m,h,hs=>by
  have hc:=zP9 [ca,cb] (by simp) (by simp;omega)
  simp only[zAX,zA9,List.flatten_cons,List.flatten_nil,zBN]at hc
  refine⟨[],?_⟩
  rw[zGF,show i=B.length by omega]
  simp only[zFU,zC,zI,hc,zB,zCz,zK,List.drop_length,zIq]
 |k+1,i,m,h,hs=>by
  have hi:i<B.length:=by omega
  have hm:=zAC hi
  rw[zGF,zAv hi,zIq]
  have cc:∀{R:Type} (f:Int->Int->Option R),zP (keyP ((zW cb B[i] p1).K,(zW cb B[i] p1).N)) f=f (zW cb B[i] p1).K (zW cb B[i] p1).N:=λ f=>rfl
  have ek:PV.agg [.int .i64 (zW cb B[i] p1).K,.int .i64 (zW cb B[i] p1).N]=keyP (kOf cb p1 B[i]):=rfl
  simp only[zAQ hi,zAc,zA,zY,zN,zH hi,zV,zB,zDA,zAA,z0V hp (hB _ hm),asTup_mk,zAS,zAq,cc,c_b_mk,ek]
  rw[zAB (by omega)]
  cases h0:(zW cb B[i] p1).K==0 with
  |true =>
   have hsz:=z0W (kOf cb p1 B[i]) m
   have hput:=zPm (kOf cb p1 B[i]) B[i] m
   simp only[zA,z0U,zB,z24,zK,zAD,zD (show((getG (kOf cb p1 B[i]) m).getD []).length+1<=4294967296 by omega),decide_true,Bool.and_self,z6C]
   exact z3n ca cb A B x p1 hp hB hl hca k (i+1) _ (by omega) (by omega)
  |false =>
   simp only[zC]
   exact z3n ca cb A B x p1 hp hB hl hca k (i+1) m (by omega) (by omega)
theorem z2b(x y:List Val) (h:x.length+y.length<=4294967296):wc W zKX [rowp x,rowp y]=some (rowp (x++y)):=by
 have e:=zYC (x.map Val.pv) (y.map Val.pv)
 have hc:=zTg [x,y] (by simp) (by simpa using h)
 simp only[zAX,zA9,List.flatten_cons,List.flatten_nil,zBN]at hc
 rw[zAA,zAA,hc]at e
 rw[e]
 simp only[zB,zDA,zAA]
theorem z6M(xi:Int) (x:List Val) (A:List (List Val)) (n i:Int) (m:GM) (h1 h2 h3 cs:List PV) (a b:Int) (rows:List (List Val)) (hx:x.length<=100) (hr:∀ y∈rows,y.length<=100) (hl:rows.length<=1000000):∀(k j:Nat) (acc:List (List Val)),j+k=rows.length->acc.length+k<=4000000000 ->
 zDp xi (x.map Val.pv) (A.map rowp) n i (tabp rows) ((rows.length:Nat):Int) (j:Int) (mpG m) h1 h2 h3 cs (acc.map rowp) a b =
  zBm xi (A.map rowp) n (IntKind.wrap .i64 (i+1)) (mpG m) h1 h2 h3 cs ((acc++(rows.drop j).map λ y=>x++y).map rowp)
 | 0,j,acc,h,ha=>by
  rw[zGH,show j=rows.length by omega]
  simp
 |k+1,j,acc,h,ha=>by
  have hj:j<rows.length:=by omega
  have hy:=hr _ (zAC hj)
  have hs:PV.asSlice 0 (tabp rows)=some (rows.map rowp):=rfl
  rw[zGH]
  simp only[zAQ hj,zAc,zA,hs,zY,zN,zH hj,zV,zB,zDA,zAA,z2b x rows[j] (by omega),zK,zAD,zD (show acc.length+1<=4294967296 by omega)]
  rw[zAB (by omega)]
  have:=z6M xi x A n i m h1 h2 h3 cs a b rows hx hr hl k (j+1) (acc++[x++rows[j]]) (by omega) (by simp;omega)
  simp only[zBe,zAX,zA9]at this
  rw[this,zAv hj]
  simp only[zBe,zAX,zAG,List.singleton_append]
def z0X(cb:List Int) (p1:Int) (B:List (List Val)) (ca:List Int) (p0:Int) (x:List Val):List (List Val) :=
 (bif (zW ca x p0).K==0 then(getG (kOf ca p0 x) (zIq cb p1 B [])).getD []else []).map λ y=>x++y
theorem z3o(ca cb:List Int) (A B:List (List Val)) (p0 p1:Int) (hp:inC ca p0=true) (hA:∀ r∈A,r.length=ca.length) (hB:∀ r∈B,r.length<=100) (hca:ca.length<=100) (hl:A.length<=5000) (hlB:B.length<=5000) (h1 h2 h3 cs:List PV):∀(k i:Nat) (acc:List (List Val)),i+k=A.length->acc.length+k*5000<=100000000 ->
 zBm (idxI ca λ y=>p0==y) (A.map rowp) ((A.length:Nat):Int) (i:Int) (mpG (zIq cb p1 B [])) h1 h2 h3 cs (acc.map rowp)=some (.agg [.slice 0 cs,tabp (acc++(A.drop i).flatMap (z0X cb p1 B ca p0))])
 | 0,i,acc,h,ha=>by
  rw[zGG,show i=A.length by omega]
  simp
 |k+1,i,acc,h,ha=>by
  have hi:i<A.length:=by omega
  have hm:=zAC hi
  rw[zGG,zAv hi,zC2]
  have cc:∀{R:Type} (f:Int->Int->Option R),zP (keyP ((zW ca A[i] p0).K,(zW ca A[i] p0).N)) f=f (zW ca A[i] p0).K (zW ca A[i] p0).N:=λ f=>rfl
  have ek:PV.agg [.int .i64 (zW ca A[i] p0).K,.int .i64 (zW ca A[i] p0).N]=keyP (kOf ca p0 A[i]):=rfl
  simp only[zAQ hi,zAc,zA,zY,zN,zH hi,zV,zB,zDA,zAA,z0V hp (hA _ hm),asTup_mk,zAS,zAq,cc,c_b_mk,ek]
  rw[zAB (by omega)]
  cases h0:(zW ca A[i] p0).K==0 with
  |false =>
   simp only[Bool.not_false,zA]
   have:=z3o ca cb A B p0 p1 hp hA hB hca hl hlB h1 h2 h3 cs k (i+1) acc (by omega) (Nat.le_trans (Nat.add_le_add_left (Nat.mul_le_mul_right _ (Nat.le_succ k)) _) ha)
   rw[this]
   unfold z0X
   rw[h0]
   simp only[zC,zA9,List.nil_append]
  |true =>
   have hk0:(kOf ca p0 A[i]).1=0:=beq_iff_eq.1 h0
   simp only[zAH,zC,zXA,zB]
   have hmem:=memH cb p1 (kOf ca p0 A[i]) hk0 B
   have hsz:=z6L cb p1 B []
   have hgs:=z0W (kOf ca p0 A[i]) (zIq cb p1 B [])
   have e0:zMI []=0:=rfl
   rw[e0,Nat.zero_add]at hsz
   have eg:Option.getD ((getG (kOf ca p0 A[i]) (zIq cb p1 B [])).map tabp) (PV.slice 0 [])=tabp ((getG (kOf ca p0 A[i]) (zIq cb p1 B [])).getD []):=by
    cases getG (kOf ca p0 A[i]) (zIq cb p1 B [])<;>rfl
   have hsl:∀ l:List (List Val),PV.asSlice 0 (tabp l)=some (l.map rowp):=λ _=>rfl
   rw[eg]
   generalize hg:(getG (kOf ca p0 A[i]) (zIq cb p1 B [])).getD []=rows at *
   simp only[hsl,zB,zK]
   have h3' :=z6M (idxI ca λ y=>p0==y) A[i] A ((A.length:Nat):Int) (i:Int) (zIq cb p1 B []) h1 h2 h3 cs (zW ca A[i] p0).K (zW ca A[i] p0).N rows (by rw[hA _ hm];exact hca) (λ y hy=>hB y (hmem y hy)) (by omega) rows.length 0 acc (by omega) (by omega)
   have z:((0:Nat):Int)=0:=rfl
   rw[z,List.drop_zero]at h3'
   rw[h3',zAB (by omega)]
   have:=z3o ca cb A B p0 p1 hp hA hB hca hl hlB h1 h2 h3 cs k (i+1) (acc++rows.map λ y=>A[i]++y) (by omega) (by simp;omega)
   rw[this]
   unfold z0X
   rw[h0,hg]
   simp only[zA,zAG]
theorem z2B(ca cb:List Int) (A B:List (List Val)) (p0 p1:Int):A.flatMap (z0X cb p1 B ca p0)=selR (λ x y=>zDg (zW cb y p1) (zW ca x p0)) A B:=by
 unfold selR
 refine zSH λ x _=> ?_
 unfold z0X
 congr 1
 cases h0:(zW ca x p0).K==0 with
 |false =>
  simp only[zC]
  symm
  rw[List.filter_eq_nil_iff]
  intro y _ hy
  unfold zDg at hy
  simp only[zF,beq_iff_eq]at hy
  rw[hy.1.2]at h0;simp at h0
 |true =>
  have hk0:(kOf ca p0 x).1=0:=beq_iff_eq.1 h0
  simp only[zA,zNG cb p1 _ hk0]
  simp only[getG,Option.getD_none,List.nil_append]
  refine List.filter_congr λ y _=> ?_
  unfold zDg
  rw[h0,Bool.and_true]
  have hx0:(zW ca x p0).K=0:=by simpa using h0
  rw[Bool.eq_iff_iff,zU,zF,beq_iff_eq,beq_iff_eq]
  unfold kOf
  rw[zAl,hx0]
  constructor
  ·rintro⟨h1,h2⟩;exact⟨h1.symm,h2.symm⟩
  ·rintro⟨h1,h2⟩;exact⟨h1.symm,h2.symm⟩
theorem zUM(v:Val):keyV v=((zF2 v).K,(zF2 v).N):=by
 unfold keyV zF2
 cases mayV v<;>rfl
theorem z6N(a b:Val):wc W zMh [a.pv,b.pv]=some (.bool (ltV' a b)):=by
 have h:=zYD a.K a.N b.K b.N
 simp only[Val.fold]at h
 have two:∀ x y:Int,wc W zJ7 [.slice 0 [.int .i64 x,.int .i64 y]]=some (.int .i64 (if x≠0 then x else y)):=λ x y=>by
  have w1:IntKind.wrap .i64 ((0:Int)+1)=1:=by rw[zAU (by omega) (by omega)];rfl
  have w2:IntKind.wrap .i64 ((1:Int)+1)=2:=by rw[zAU (by omega) (by omega)];rfl
  have a1:decide ((0:Int)<(([PV.int .i64 x,PV.int .i64 y].length:Nat):Int))=true:=rfl
  have a2:decide ((1:Int)<(([PV.int .i64 x,PV.int .i64 y].length:Nat):Int))=true:=rfl
  have a3:decide ((2:Int)<(([PV.int .i64 x,PV.int .i64 y].length:Nat):Int))=false:=rfl
  have b1:decide ((0:Int)<=0)=true:=rfl
  have b2:decide ((0:Int)<=1)=true:=rfl
  have t0:(0:Int).toNat=0:=rfl
  have t1:(1:Int).toNat=1:=rfl
  rw[zT6,zFn]
  simp only[a1,b1,t0,zA,zAS,zB,c_i64_mk]
  by_cases hx:x=0
  ·rw[zLq hx,if_neg (by simpa using hx)]
   simp only[zC,w1]
   rw[zFn]
   simp only[a2,b2,t1,zA,zAS,zAq,zB,c_i64_mk]
   by_cases hy:y=0
   ·rw[zLq hy,hy]
    simp only[zC,w2]
    rw[zFn]
    subst hy
    simp only[a3,zC]
   ·rw[zLI hy];rfl
  ·rw[zLI hx,if_pos hx];rfl
 rw[h,zZj,zZj]
 simp only[zB,Val.c_mk,zWe,c_i64_mk,two]
 unfold ltV' cmpB
 rw[zUM,zUM]
 simp only
 congr 3
 by_cases h1:(zF2 a).K<(zF2 b).K
 ·simp[h1]
 ·by_cases h2:(zF2 a).K>(zF2 b).K
  ·simp[h1,h2]
  ·simp[h1,h2]
theorem z3p{x y:Val} (hx:mayV x=true):zP5 (eqV x y)=zDg x y:=by
 cases h:zP5 (eqV x y) with
 |true=>exact(zUK.eq_true_same h).symm
 |false =>
  cases h2:zDg x y with
  |false=>rfl
  |true =>
   unfold zDg at h2
   simp only[zF,beq_iff_eq]at h2
   have e:x=y:=by cases x;cases y;simp only at h2;simp only[Val.mk.injEq];exact⟨by omega,h2.2⟩
   subst e
   have hf:zF2 x=x:=by unfold zF2;rw[hx];rfl
   unfold eqV at h
   have ho:oddV [x,x]=none:=by
    unfold oddV
    simp[hf,h2.1.1]
   rw[ho]at h
   simp[oneV,zP5]at h
theorem z2c(cb:List Int) (B:List (List Val)) (p0 p1:Int) (ca:List Int) (x:List Val) (hp0:inC ca p0=true) (hp1:inC cb p1=true) (hx:x.length=ca.length) (hB:∀ r∈B,r.length=cb.length/\mayV (zW cb r p1)=true) (hca:ca.length<=100) (hcb:cb.length<=100) (hl:B.length<=5000) (from_:Int) (A:List PV) (n i:Int) (h1 h2 cs:List PV):∀(k j:Nat) (acc:List (List Val)),j+k=B.length->acc.length+k<=1000000000 ->
 zCd (cb.map intp) (B.map rowp) (idxI ca λ y=>p0==y) (idxI cb λ y=>p1==y) from_ (x.map Val.pv) (j:Int) A n i h1 h2 cs (acc.map rowp) =
  zBz (cb.map intp) (B.map rowp) (idxI ca λ y=>p0==y) (idxI cb λ y=>p1==y) from_ A n (IntKind.wrap .i64 (i+1)) h1 h2 cs ((acc++((B.drop j).takeWhile λ y=>zDg (zW cb y p1) (zW ca x p0)).map λ y=>x++y).map rowp)
 | 0,j,acc,h,ha=>by
  rw[zF8,show j=B.length by omega]
  simp
 |k+1,j,acc,h,ha=>by
  have hj:j<B.length:=by omega
  obtain⟨hb,hm⟩:=hB _ (zAC hj)
  obtain⟨r1,r2⟩:=zEk hp1 hb
  obtain⟨s1,s2⟩:=zEk hp0 hx
  rw[zF8,zAv hj,List.takeWhile_cons]
  have hw:zP5 (eqV (zW cb B[j] p1) (zW ca x p0))=zDg (zW cb B[j] p1) (zW ca x p0):=z3p hm
  simp only[zK,zAQ hj,zAc,zA,zY,zN,zH hj,zV,zB,zDA,zD r2,zD s2,r1,s1,Val.c_mk,Val.fold,w_Eq,zZn,hw,c_b_mk]
  cases hs:zDg (zW cb B[j] p1) (zW ca x p0) with
  |false=>simp
  |true =>
   simp only[zA,zJH,zAc,zY,zN,zH hj,zV,zB,zDA,zAA,z2b x B[j] (by omega),zK,zAD,zD (show acc.length+1<=4294967296 by omega)]
   rw[zAB (by omega),if_pos trivial]
   have:=z2c cb B p0 p1 ca x hp0 hp1 hx hB hca hcb hl from_ A n i h1 h2 cs k (j+1) (acc++[x++B[j]]) (by omega) (by simp;omega)
   simp only[zBe,zAX,zA9]at this
   rw[this]
   simp only[zBe,zAX,zAG,List.singleton_append]
theorem z2d(cb:List Int) (B:List (List Val)) (p0 p1:Int) (ca:List Int) (x:List Val) (hp0:inC ca p0=true) (hp1:inC cb p1=true) (hx:x.length=ca.length) (hB:∀ r∈B,r.length=cb.length/\mayV (zW cb r p1)=true) (hl:B.length<=5000) (A:List PV) (n i:Int) (h1 h2 cs acc:List PV):∀(k j:Nat),j+k=B.length ->
 zD7 (cb.map intp) (B.map rowp) (idxI ca λ y=>p0==y) (idxI cb λ y=>p1==y) (j:Int) (x.map Val.pv) A n i h1 h2 cs acc =
  zCd (cb.map intp) (B.map rowp) (idxI ca λ y=>p0==y) (idxI cb λ y=>p1==y) ((j+((B.drop j).takeWhile λ y=>ltV' (zW cb y p1) (zW ca x p0)).length:Nat):Int) (x.map Val.pv) ((j+((B.drop j).takeWhile λ y=>ltV' (zW cb y p1) (zW ca x p0)).length:Nat):Int) A n i h1 h2 cs acc
 | 0,j,h=>by
  rw[zF6,show j=B.length by omega]
  simp[zF7]
 |k+1,j,h=>by
  have hj:j<B.length:=by omega
  obtain⟨hb,hm⟩:=hB _ (zAC hj)
  obtain⟨r1,r2⟩:=zEk hp1 hb
  obtain⟨s1,s2⟩:=zEk hp0 hx
  rw[zF6]
  have hd:(B.drop j).takeWhile (λ y=>ltV' (zW cb y p1) (zW ca x p0))=bif ltV' (zW cb B[j] p1) (zW ca x p0)then B[j]::(B.drop (j+1)).takeWhile (λ y=>ltV' (zW cb y p1) (zW ca x p0))else []:=by
   rw[zAv hj,List.takeWhile_cons]
   cases ltV' (zW cb B[j] p1) (zW ca x p0)<;>rfl
  rw[hd]
  simp only[zK,zAQ hj,zAc,zA,zY,zN,zH hj,zV,zB,zDA,zD r2,zD s2,r1,s1,Val.c_mk,Val.fold,z6N,c_b_mk]
  cases hs:ltV' (zW cb B[j] p1) (zW ca x p0) with
  |false=>simp[zF7]
  |true =>
   simp only[zA]
   rw[zAB (by omega),z2d cb B p0 p1 ca x hp0 hp1 hx hB hl A n i h1 h2 cs acc k (j+1) (by omega),List.length_cons,show j+1+((B.drop (j+1)).takeWhile λ y=>ltV' (zW cb y p1) (zW ca x p0)).length=j+(((B.drop (j+1)).takeWhile λ y=>ltV' (zW cb y p1) (zW ca x p0)).length+1) by omega]
theorem z2e{α:Type} (p:α->Bool) (l:List α):(l.takeWhile p).length<=l.length:=(List.takeWhile_sublist p).length_le
theorem z2f(ca cb:List Int) (A B:List (List Val)) (p0 p1:Int) (hp0:inC ca p0=true) (hp1:inC cb p1=true) (hA:∀ r∈A,r.length=ca.length) (hB:∀ r∈B,r.length=cb.length/\mayV (zW cb r p1)=true) (hca:ca.length<=100) (hcb:cb.length<=100) (hlA:A.length<=5000) (hl:B.length<=5000) (h1 h2 cs:List PV):∀(k i f:Nat) (acc:List (List Val)),i+k=A.length->f<=B.length->acc.length+k*5000<=100000000 ->
 zBz (cb.map intp) (B.map rowp) (idxI ca λ y=>p0==y) (idxI cb λ y=>p1==y) (f:Int) (A.map rowp) ((A.length:Nat):Int) (i:Int) h1 h2 cs (acc.map rowp) =
  some (.agg [.slice 0 cs,tabp (acc++mrgF (λ y x=>ltV' (zW cb y p1) (zW ca x p0)) (λ y x=>zDg (zW cb y p1) (zW ca x p0)) B f (A.drop i))])
 | 0,i,f,acc,h,hf,ha=>by
  rw[zF5,show i=A.length by omega]
  simp[mrgF]
 |k+1,i,f,acc,h,hf,ha=>by
  have hi:i<A.length:=by omega
  have hm:=zAC hi
  rw[zF5,zAv hi]
  simp only[zAQ hi,zAc,zA,zY,zN,zH hi,zV,zB,zDA,mrgF]
  have t1:=z2e (λ y=>ltV' (zW cb y p1) (zW ca A[i] p0)) (B.drop f)
  rw[List.length_drop]at t1
  rw[z2d cb B p0 p1 ca A[i] hp0 hp1 (hA _ hm) hB hl (A.map rowp) _ _ h1 h2 cs (acc.map rowp) (B.length-f) f (by omega)]
  generalize hf' :f+((B.drop f).takeWhile λ y=>ltV' (zW cb y p1) (zW ca A[i] p0)).length=f'
  have hf2:f' <=B.length:=by omega
  rw[z2c cb B p0 p1 ca A[i] hp0 hp1 (hA _ hm) hB hca hcb hl (f' :Int) (A.map rowp) _ _ h1 h2 cs (B.length-f') f' acc (by omega) (by omega),zAB (by omega)]
  have t2:=z2e (λ y=>zDg (zW cb y p1) (zW ca A[i] p0)) (B.drop f')
  rw[List.length_drop]at t2
  have:=z2f ca cb A B p0 p1 hp0 hp1 hA hB hca hcb hlA hl h1 h2 cs k (i+1) f' (acc++((B.drop f').takeWhile λ y=>zDg (zW cb y p1) (zW ca A[i] p0)).map λ y=>A[i]++y) (by omega) hf2 (by simp;omega)
  rw[this,zAG]
end Go.Cf

namespace Go.Cf
open Go Go.Ab
theorem z0Y(r s:List Val) (at_:Int):W zDh false [.pv (rowp r),.pv (rowp s),.own 0 0] [.var false 0 (.pv (.int .i64 at_))]=some (.pv (.int .i64 (cmpB (keyR at_ r) (keyR at_ s))),[.var false 0 (.pv (.int .i64 at_))]):=by
 have h:=zLM (r.map Val.pv) (s.map Val.pv) at_
 rw[zAA,zAA,zRx,zRx]at h
 have c:=zTs (keyR at_ r) (keyR at_ s)
 simp only[zB,c_g_i64_i64_mk,c,c_i64_mk]at h
 exact h
theorem zPv(at_:Int) (l:List (List Val)) (hl:l.length<=1000000000):∀(i:Nat),i<l.length->ordB at_ (l.drop i)=true ->
 zAd (l.map rowp) (i:Int) at_=some (.pv (.bool (ordB at_ l)),[.var false 0 (.pv (.int .i64 at_))])
 | 0,h,ho=>by
  rw[zBA]
  rw[List.drop_zero]at ho
  rw[ho];rfl
 |i+1,h,ho=>by
  have hi:i<l.length:=by omega
  have e1:IntKind.wrap .i64 (((i+1:Nat):Int)-1)=(i:Int):=by rw[zAU (by omega) (by omega)];omega
  have hb:=z0Y l[i+1] l[i] at_
  rw[zBA,zD (show((i+1:Nat):Int)>0 by omega)]
  simp only[e1,zA,zAc,zY,zN,zH h,zH hi,zV,zB,zDA,zAA,hb,k_5b106d_mk,c_i64_mk]
  have hd:ordB at_ (l.drop i)=(leR at_ l[i] l[i+1]&&ordB at_ (l.drop (i+1))):=by
   rw[zAv hi,zAv h];rfl
  cases hc:decide (cmpB (keyR at_ l[i+1]) (keyR at_ l[i])<0) with
  |true =>
   have hle:leR at_ l[i] l[i+1]=false:=by unfold leR;rw[hc];rfl
   have hno:ordB at_ l=false:=by
    rw[Bool.eq_false_iff]
    intro ht
    have:=(zMH at_ l).1 ht
    have:=(zMH at_ (l.drop i)).2 (this.sublist (List.drop_sublist _ _))
    rw[hd,hle]at this;cases this
   rw[hno];rfl
  |false =>
   have hle:leR at_ l[i] l[i+1]=true:=by unfold leR;rw[hc];rfl
   simp only[zC]
   exact zPv at_ l hl i hi (by rw[hd,hle,ho];rfl)
theorem zXB(c:List Int) (r:List (List Val)) (col:Int) (hc:c.length<=9223372036854775807) (hl:r.length<=1000000000):wc W zH6 [bagp c r,.int .i64 col]=some (.bool (ordB (idxI c (λ x=>col==x)) r)):=by
 have h:=zTT (c.map intp) (r.map rowp) col
 rw[zI,zAa,zAo]at h
 rw[h,zJo c col hc]
 simp only[zB,c_i64_mk]
 have h2:=zDc (r.map rowp) (idxI c (λ x=>col==x))
 rw[zAa,zK]at h2
 rw[h2]
 rcases Nat.eq_zero_or_pos r.length with h0 | h0
 ·have:r=[]:=zCJ.1 h0
  subst this
  rw[zBA]
  rfl
 ·have e1:IntKind.wrap .i64 ((r.length:Int)-1)=((r.length-1:Nat):Int):=by rw[zAU (by omega) (by omega)];omega
  rw[e1,zPv _ r hl (r.length-1) (by omega) (by
   rw[zAv (by omega),List.drop_of_length_le (by omega)];rfl)]
  simp only[zB,k_5b106d_mk,c_b_mk]
end Go.Cf

namespace Go.Cf
open Go Go.Ab
theorem z6O{q:QT} (hq:QOk q) {n:Nat} (hn:n<q.occ.length):wc W zJ3 [catp q.T,zGV q.D,.int .i64 q.occ[n],.int .i64 (n:Int)]=some (.tup [bagp (zEv q.T q.occ n) (q.leaf n),.bool true]):=by
 have hin:=hq.inT _ (zAC hn)
 have hg:q.occ.getD n 0=q.occ[n]:=by rw[zA0,zH hn];rfl
 have h4:=hq.occ
 rw[z0D q.T q.D q.occ[n] (n:Int) hq.T hq.D hq.vals]
 have e1:ofT q.T q.D q.occ[n] (n:Int)=some (zEv q.T q.occ n,q.leaf n):=by
  unfold ofT
  rw[hq.fits,zD hin.1,zD (show q.occ[n]<=(q.T.length:Int)-1 by omega),zD (show(0:Int)<=n by omega),zD (show(n:Int)<=3 by omega)]
  unfold zEv QT.leaf
  rw[hg];rfl
 rw[e1];rfl
end Go.Cf
