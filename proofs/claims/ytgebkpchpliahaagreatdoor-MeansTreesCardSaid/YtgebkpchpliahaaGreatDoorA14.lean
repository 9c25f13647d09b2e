/- Part 15 of the proof: an abstract machine that runs the program's code over plain values, its soundness, and what the functions tell of plain values. Conditions: those in each theorem. -/
import Derived.Test.YtgebkpchpliahaaGreatDoorA13
set_option linter.unusedSectionVars false
namespace Go.Cf
open Go Go.Ab
set_option linter.unusedVariables false
set_option linter.unusedSimpArgs false
def z27:Val:=⟨1,0⟩
def zIe(v:Val):Val:=bif mayV v then v else badV
def oddV(l:List Val):Option Val:=bif l.any (λ v=>(zIe v).K==2)then some badV else bif l.any (λ v=>(zIe v).K==1)then some z27 else none
def oneV(b:Bool):Val:=⟨0,bif b then 1 else 0⟩
def zLr(a b:Val) (f:Int→Int→Option Int):Val:=match oddV [a,b]with | some v=>v | none=>match f a.N b.N with | some n=>⟨0,n⟩ | none=>badV
def inI(n:Int):Bool:=decide (-9223372036854775808≤n)&&decide (n≤9223372036854775807)
def addO(x y:Int):Option Int:=bif inI (x+y)then some (x+y)else none
def subO(x y:Int):Option Int:=bif inI (x-y)then some (x-y)else none
def mulO(x y:Int):Option Int:=bif inI (x*y)then some (x*y)else none
def divO(x y:Int):Option Int:=bif y==0 || (x== -9223372036854775808&&y== -1)then none else some (Int.tdiv x y)
def eqV(a b:Val):Val:=match oddV [a,b]with | some v=>v | none=>oneV (decide (a=b))
def ltV(a b:Val):Val:=match oddV [a,b]with | some v=>v | none=>oneV (decide (a.N<b.N))
def zVR(v:Val):Bool:=v.K==0&&v.N != 0
def zRF(v:Val):Bool:=v.K==0&&v.N==0
def andV(l:List Val):Val:=bif l.any zRF then⟨0,0⟩else match oddV l with | some v=>v | none=>⟨0,1⟩
def orV(l:List Val):Val:=bif l.any zVR then⟨0,1⟩else match oddV l with | some v=>v | none=>⟨0,0⟩
def notV(v:Val):Val:=match oddV [v]with | some w=>w | none=>oneV (v.N==0)
theorem z03:wc W zF3 []=some badV.pv:=zKB
theorem z29:wc W zIZ []=some z27.pv:=zOX
theorem w_Of(n:Int):wc W zD1 [.int .i64 n]=some (Val.mk 0 n).pv:=zME n
theorem w_of(b:Bool):wc W zJm [.bool b]=some (oneV b).pv:=by
 rw[zYj,w_Of,w_Of]
 cases b<;>rfl
theorem z2a(v:Val):wc W zKi [v.pv]=some (zIe v).pv:=by
 have h:=zVO v.K v.N
 rw[Val.fold]at h
 rw[h,zHw,z03]
 unfold zIe
 cases mayV v<;>rfl
theorem zSk(v:Val) (k:Int):wc W zBs [v.pv, .imm 0 (.int .i64 k) 0]=some (.bool ((zIe v).K==k)):=by
 have h:=zRA v.K v.N k
 rw[Val.fold]at h
 rw[h,z2a];rfl
theorem z2b(k:Int):wc W zGY [.int .i64 k]=some (.fn zBs [] [.imm 0 (.int .i64 k) 0]):=zOW k
theorem zSl(l:List Val) (g:Nat) (fs cs:List PV) (f:Val→Bool) (hl:l.length≤9223372036854775807) (hf:∀ x∈l,wc W g (fs++[x.pv]++cs)=some (.bool (f x))) :
 wc W zAz [rowp l, .fn g fs cs]=some (.bool (l.any f)):=by
 have h:=zGC (l.map Val.pv) (.fn g fs cs)
 rw[zH]at h
 rw[h,zMG l g fs cs f hl hf];rfl
def oddP(l:List Val):PV:=match oddV l with | some v=> .tup [v.pv, .bool true] | none=> .tup [(Val.mk 0 0).pv, .bool false]
theorem zWz(l:List Val) (hl:l.length≤9223372036854775807):wc W zF4 [rowp l]=some (oddP l):=by
 have h:=zWo (l.map Val.pv)
 rw[zH]at h
 rw[h]
 simp only[z2b,Option.bind_some,zSl l zBs [] [.imm 0 (.int .i64 2) 0] (λ v=>(zIe v).K==2) hl (λ x _=>zSk x 2),zSl l zBs [] [.imm 0 (.int .i64 1) 0] (λ v=>(zIe v).K==1) hl (λ x _=>zSk x 1),c_b_mk,z03,z29]
 unfold oddP oddV
 cases l.any (λ v=>(zIe v).K==2)<;>cases l.any (λ v=>(zIe v).K==1)<;>rfl
theorem row2(a b:Val):PV.slice 3 [a.pv,b.pv]=rowp [a,b]:=rfl
theorem row1(a:Val):PV.slice 3 [a.pv]=rowp [a]:=rfl
theorem zMH(a b:Val) (g:Nat) (f:Int→Int→Option Int) (hg:∃ n,wc W g [.int .i64 a.N, .int .i64 b.N]=some (.tup [.int .i64 ((f a.N b.N).getD n), .bool (f a.N b.N).isSome])) :
 wc W zDj [a.pv,b.pv, .fn g [] []]=some (zLr a b f).pv:=by
 have h:=zRD a.K a.N b.K b.N (.fn g [] [])
 simp only[Val.fold,row2]at h
 obtain⟨n,hg⟩:=hg
 rw[h,zWz [a,b] (by simp)]
 unfold zLr oddP
 cases oddV [a,b] with
 |some v=>simp
 |none =>
  simp only[Option.bind_some,asTup_mk,List.getElem?_cons_zero,List.getElem?_cons_succ,Val.c_mk,c_b_mk,cond_false,asFn_mk,List.nil_append,List.append_nil,hg,c_i64_mk,z03,w_Of,Val.fold]
  cases f a.N b.N<;>rfl
theorem zXA(n:Int):IntKind.wrap .i64 n=(n+9223372036854775808) % 18446744073709551616-9223372036854775808:=by
 simp only[IntKind.wrap,IntKind.bits,IntKind.signed]
 simp
 omega
theorem z3R(a b:Val) (ha:I64 a.N) (hb:I64 b.N):wc W zJn [a.pv,b.pv]=some (zLr a b addO).pv:=by
 have h:=zWp a.K a.N b.K b.N
 simp only[Val.fold]at h
 rw[h,zMH a b zJJ addO ⟨IntKind.wrap .i64 (a.N+b.N),?_⟩]
 ·simp
 ·rw[zSe]
  obtain⟨a1,a2⟩:=ha
  obtain⟨b1,b2⟩:=hb
  unfold addO inI
  by_cases hi: -9223372036854775808≤a.N+b.N∧a.N+b.N≤9223372036854775807
  ·rw[decide_eq_true hi.1,decide_eq_true hi.2,zQ hi.1 hi.2]
   have:(decide (a.N+b.N<a.N)==decide (b.N<0))=true:=by
    rw[beq_iff_eq,decide_eq_decide];omega
   rw[this];rfl
  ·have hb' :(decide (-9223372036854775808≤a.N+b.N)&&decide (a.N+b.N≤9223372036854775807))=false:=by rw[← Bool.decide_and];exact decide_eq_false hi
   rw[hb']
   have:(decide (IntKind.wrap .i64 (a.N+b.N)<a.N)==decide (b.N<0))=false:=by
    rw[beq_eq_false_iff_ne,ne_eq,decide_eq_decide,zXA];omega
   rw[this];rfl
theorem z3S(a b:Val) (ha:I64 a.N) (hb:I64 b.N):wc W zJo [a.pv,b.pv]=some (zLr a b subO).pv:=by
 have h:=zWq a.K a.N b.K b.N
 simp only[Val.fold]at h
 rw[h,zMH a b zJK subO ⟨IntKind.wrap .i64 (a.N-b.N),?_⟩]
 ·simp
 ·rw[zSf]
  obtain⟨a1,a2⟩:=ha
  obtain⟨b1,b2⟩:=hb
  unfold subO inI
  by_cases hi: -9223372036854775808≤a.N-b.N∧a.N-b.N≤9223372036854775807
  ·rw[decide_eq_true hi.1,decide_eq_true hi.2,zQ hi.1 hi.2]
   have:(decide (a.N-b.N>a.N)==decide (b.N<0))=true:=by
    rw[beq_iff_eq,decide_eq_decide];omega
   rw[this];rfl
  ·have hb' :(decide (-9223372036854775808≤a.N-b.N)&&decide (a.N-b.N≤9223372036854775807))=false:=by rw[← Bool.decide_and];exact decide_eq_false hi
   rw[hb']
   have:(decide (IntKind.wrap .i64 (a.N-b.N)>a.N)==decide (b.N<0))=false:=by
    rw[beq_eq_false_iff_ne,ne_eq,decide_eq_decide,zXA];omega
   rw[this];rfl
theorem z3T(a b:Val) (ha:I64 a.N) (hb:I64 b.N):wc W zJq [a.pv,b.pv]=some (zLr a b divO).pv:=by
 have h:=zWs a.K a.N b.K b.N
 simp only[Val.fold]at h
 rw[h,zMH a b zJL divO ⟨0,?_⟩]
 ·simp
 ·rw[zSh]
  unfold divO
  cases h0:(b.N==0) with
  |true=>rfl
  |false =>
   have hJ:(a.N== -9223372036854775808&&b.N== -1)=false→zFH a.N b.N=some (.tup [.int .i64 (Int.tdiv a.N b.N), .bool true]):=λ hn=>by
    rw[zLq,h0]
    obtain⟨a1,a2⟩:=ha
    have hb0:b.N≠0:=by simpa using h0
    have hr: -9223372036854775808≤Int.tdiv a.N b.N∧Int.tdiv a.N b.N≤9223372036854775807:=by
     have h1:(Int.tdiv a.N b.N).natAbs≤a.N.natAbs:=by
      rw[Int.natAbs_tdiv]
      exact Nat.div_le_self _ _
     by_cases hm:Int.tdiv a.N b.N=9223372036854775808
     ·exfalso
      have hA:a.N= -9223372036854775808:=by omega
      rw[hA]at hm hn
      have hb1:b.N≠ -1:=by intro e;rw[e]at hn;cases hn
      have h2:(Int.tdiv (-9223372036854775808) b.N).natAbs=9223372036854775808 / b.N.natAbs:=by rw[Int.natAbs_tdiv];rfl
      rw[hm]at h2
      have h3:b.N.natAbs=1:=by
       rcases Nat.lt_or_ge b.N.natAbs 2 with h | h
       ·omega
       ·have:9223372036854775808 / b.N.natAbs≤9223372036854775808 / 2:=Nat.div_le_div_left h (by omega)
        have h4:(9223372036854775808:Int).natAbs=9223372036854775808:=rfl
        omega
      have hb2:b.N=1:=by omega
      rw[hb2]at hm
      simp at hm
     ·omega
    rw[zQ hr.1 hr.2];rfl
   simp only[cond_false,Bool.false_or]
   cases h1:(a.N== -9223372036854775808) with
   |false =>
    rw[h1]at hJ
    simp only[cond_false,Bool.false_and,hJ (by rfl)];rfl
   |true =>
    rw[h1]at hJ
    cases h2:(b.N== -1) with
    |true=>rfl
    |false =>
     rw[h2]at hJ
     simp only[cond_true,cond_false,Bool.and_false,hJ (by rfl)];rfl
theorem w_Eq(a b:Val):wc W zMA [a.pv,b.pv]=some (eqV a b).pv:=by
 have h:=zYi a.K a.N b.K b.N
 simp only[Val.fold,row2]at h
 rw[h,zWz [a,b] (by simp)]
 unfold eqV oddP
 cases oddV [a,b] with
 |some v=>simp
 |none =>
  simp only[Option.bind_some,asTup_mk,List.getElem?_cons_zero,List.getElem?_cons_succ,Val.c_mk,c_b_mk,cond_false]
  have key:((bif (a.K==b.K)then(bif (a.N==b.N)then(some true)else(some false))else(some false)):Option Bool)=some (decide (a=b)):=by
   cases a;cases b
   simp only[Val.mk.injEq]
   rw[Bool.decide_and]
   rename_i k n k' n'
   show _=some ((k==k')&&(n==n'))
   cases k==k' <;>cases n==n' <;>rfl
  rw[key]
  simp only[Option.bind_some,c_b_mk,w_of,Val.c_mk,Val.fold]
theorem w_Lt(a b:Val):wc W zMB [a.pv,b.pv]=some (ltV a b).pv:=by
 have h:=zYk a.K a.N b.K b.N
 simp only[Val.fold,row2]at h
 rw[h,zWz [a,b] (by simp)]
 unfold ltV oddP
 cases oddV [a,b] with
 |some v=>simp
 |none=>simp only[Option.bind_some,asTup_mk,List.getElem?_cons_zero,List.getElem?_cons_succ,Val.c_mk,c_b_mk,cond_false,w_of,Val.fold]
theorem z3U(a:Val):wc W zNC [a.pv]=some (notV a).pv:=by
 have h:=zWu a.K a.N
 simp only[Val.fold,row1]at h
 rw[h,zWz [a] (by simp)]
 unfold notV oddP
 cases oddV [a] with
 |some v=>simp
 |none=>simp only[Option.bind_some,asTup_mk,List.getElem?_cons_zero,List.getElem?_cons_succ,Val.c_mk,c_b_mk,cond_false,w_of,Val.fold]
theorem zZ5(v:Val):wc W zGX [v.pv]=some (.bool (zVR v)):=by
 have h:=zVM v.K v.N
 rw[Val.fold]at h
 rw[h]
 unfold zVR
 cases v.K==0<;>rfl
theorem zXB(v:Val):wc W zEx [v.pv]=some (.bool (zRF v)):=by
 have h:=zPZ v.K v.N
 rw[Val.fold]at h
 rw[h,w_Of]
 unfold zRF
 simp only[Option.bind_some,Val.c_mk]
 cases v.K==0<;>cases v.N==0<;>rfl
theorem zXC(l:List Val) (g:Nat) (f:Val→Bool) (x y:Val) (hl:l.length≤9223372036854775807) (hf:∀ v∈l,wc W g [v.pv]=some (.bool (f v))) :
 wc W zGw [rowp l, .fn g [] [],x.pv,y.pv]=some (bif l.any f then x else match oddV l with | some v=>v | none=>y).pv:=by
 have h:=zSi (l.map Val.pv) (.fn g [] []) x.K x.N y.K y.N
 simp only[Val.fold,zH]at h
 rw[h,zSl l g [] [] f hl hf,zWz l hl]
 unfold oddP
 cases l.any f with
 |true=>rfl
 |false=>cases oddV l<;>simp
theorem z3V(l:List Val) (hl:l.length≤9223372036854775807):wc W zNB [rowp l]=some (andV l).pv:=by
 have h:=zWt (l.map Val.pv)
 rw[zH]at h
 rw[h,w_Of,w_Of]
 simp only[Option.bind_some,Val.c_mk,Val.fold,show PV.agg [PV.int .i64 0,PV.int .i64 0]=(Val.mk 0 0).pv from rfl,show PV.agg [PV.int .i64 0,PV.int .i64 1]=(Val.mk 0 1).pv from rfl,zXC l zEx zRF ⟨0,0⟩ ⟨0,1⟩ hl (λ v _=>zXB v)]
 rfl
theorem w_Or(l:List Val) (hl:l.length≤9223372036854775807):wc W zPI [rowp l]=some (orV l).pv:=by
 have h:=zYl (l.map Val.pv)
 rw[zH]at h
 rw[h,w_Of,w_Of]
 simp only[Option.bind_some,Val.c_mk,Val.fold,show PV.agg [PV.int .i64 0,PV.int .i64 0]=(Val.mk 0 0).pv from rfl,show PV.agg [PV.int .i64 0,PV.int .i64 1]=(Val.mk 0 1).pv from rfl,zXC l zGX zVR ⟨0,1⟩ ⟨0,0⟩ hl (λ v _=>zZ5 v)]
 rfl
end Go.Cf

namespace Go.Cf
open Go Go.Ab
set_option linter.unusedVariables false
set_option linter.unusedSimpArgs false
theorem zVS(l:List Val) (k:Int) (hl:l.length≤9223372036854775807):wc W zAz [rowp l, .fn zBs [] [.imm 0 (.int .i64 k) 0]]=some (.bool (l.any λ v=>(zIe v).K==k)):=by
 have h:=zGC (l.map Val.pv) (.fn zBs [] [.imm 0 (.int .i64 k) 0])
 rw[zH,zMG l zBs [] [.imm 0 (.int .i64 k) 0] (λ v=>(zIe v).K==k) hl (λ x _=>zSk x k)]at h
 rw[h]
 simp only[Option.bind_some,c_b_mk]
def addN:List Val→Int
 | []=>0
 |v::r=>(if v.K=0 then v.N else 0)+addN r
def zJZ(l:List Val):Nat:=(l.filter λ v=>decide (v.K=0)).length
def sumV(l:List Val):Val:=bif l.any (λ v=>(zIe v).K==2)then badV else if zJZ l=0 then⟨1,0⟩else if -9223372036854775808≤addN l∧addN l≤9223372036854775807 then⟨0,addN l⟩else badV
theorem zXD{l l' :List Val} (h:l.Perm l'):addN l=addN l' :=by
 induction h with
 |nil=>rfl
 |cons x _ ih=>simp only[addN,ih]
 |swap x y l=>simp only[addN];omega
 |trans _ _ ih1 ih2=>exact ih1.trans ih2
theorem zYp{α:Type} {l l' :List α} (h:l.Perm l') (f:α→Bool):l.any f=l'.any f:=by
 rw[Bool.eq_iff_iff,List.any_eq_true,List.any_eq_true]
 constructor
 ·rintro⟨x,hx,hf⟩;exact⟨x,h.mem_iff.1 hx,hf⟩
 ·rintro⟨x,hx,hf⟩;exact⟨x,h.mem_iff.2 hx,hf⟩
theorem zXE{l l' :List Val} (h:l.Perm l'):sumV l=sumV l' :=by
 unfold sumV zJZ
 rw[zYp h,zXD h,(h.filter _).length_eq]
theorem zXF(n:Int):IntKind.wrap .u64 n=n % 18446744073709551616:=by
 simp only[IntKind.wrap,IntKind.bits,IntKind.signed]
 simp
theorem z3W(n:Int) (h0:0≤n) (h1:n<18446744073709551616):IntKind.wrap .i64 n=if n<9223372036854775808 then n else n-18446744073709551616:=by
 simp only[IntKind.wrap,IntKind.bits,IntKind.signed]
 simp
 split<;>omega
theorem zYq(h lo N S:Int) (h0:0≤h) (h1:h<18446744073709551616) (l0:0≤lo) (l1:lo<18446744073709551616) (n0: -9223372036854775808≤N) (n1:N≤9223372036854775807)
 (e:(h*18446744073709551616+lo) % 340282366920938463463374607431768211456=S % 340282366920938463463374607431768211456) :
 (((h+((lo+N % 18446744073709551616+0) / 18446744073709551616+(Int.fdiv N 9223372036854775808) % 18446744073709551616) % 18446744073709551616) % 18446744073709551616)*18446744073709551616+(lo+N % 18446744073709551616+0) % 18446744073709551616) % 340282366920938463463374607431768211456=(S+N) % 340282366920938463463374607431768211456:=by
 have hd:Int.fdiv N 9223372036854775808=if N<0 then -1 else 0:=by
  rw[Int.fdiv_eq_ediv_of_nonneg _ (by omega)]
  split<;>omega
 rw[hd]
 split
 ·omega
 ·omega
theorem zYr(l:List Val) (hr:ROk l) (hl:l.length≤4294967296):∀(k i:Nat) (h lo:Int) (x y:Int),i+k=l.length→0≤h→h<18446744073709551616→0≤lo→lo<18446744073709551616 →
 (h*18446744073709551616+lo) % 340282366920938463463374607431768211456=addN (l.take i) % 340282366920938463463374607431768211456 →
 zF9 h lo ((zJZ (l.take i):Nat):Int) (l.map Val.pv) (l.length:Int) (i:Int) x y=some (if zJZ l=0 then(⟨1,0⟩:Val)else if -9223372036854775808≤addN l∧addN l≤9223372036854775807 then⟨0,addN l⟩else badV).pv:=by
 intro k
 induction k with
 |zero =>
  intro i h lo x y hi h0 h1 l0 l1 e
  have hil:i=l.length:=by omega
  subst hil
  rw[List.take_length]at e ⊢
  rw[zIn]
  simp only[zBz,cond_false]
  by_cases hm:zJZ l=0
  ·rw[if_pos hm,zKq (by omega),zOX];rfl
  ·rw[if_neg hm,zEV (by omega),cond_false]
   have hb:∀(m:List Val),ROk m→ -(9223372036854775808*(m.length:Int))≤addN m∧addN m≤9223372036854775808*(m.length:Int):=by
    intro m
    induction m with
    |nil=>intro _;simp[addN]
    |cons v m ih =>
     intro hm
     have hv:=(hm v (by simp)).2
     have:=ih (λ z hz=>hm z (by simp[hz]))
     unfold I64 at hv
     simp only[addN,List.length_cons]
     split<;>omega
   have hS:=hb l hr
   rw[zXF,z3W lo l0 l1]
   have hd:∀ n:Int, -9223372036854775808≤n→n≤9223372036854775807→Int.fdiv n 9223372036854775808=if n<0 then -1 else 0:=λ n q1 q2=>by
    rw[Int.fdiv_eq_ediv_of_nonneg _ (by omega)]
    split<;>omega
   by_cases hlo:lo<9223372036854775808
   ·rw[if_pos hlo,hd lo (by omega) (by omega),if_neg (by omega)]
    by_cases hh:h=0
    ·subst hh
     rw[zJV (by decide),cond_false,zME]
     have hs:addN l=lo:=by omega
     rw[if_pos (by omega),hs];rfl
    ·rw[zHv (by simpa using hh),cond_true,zKB]
     have hs:¬ (-9223372036854775808≤addN l∧addN l≤9223372036854775807):=by omega
     rw[if_neg hs];rfl
   ·rw[if_neg hlo,hd (lo-18446744073709551616) (by omega) (by omega),if_pos (by omega)]
    by_cases hh:h=18446744073709551615
    ·subst hh
     rw[zJV (by decide),cond_false,zME]
     have hs:addN l=lo-18446744073709551616:=by omega
     rw[if_pos (by omega),hs];rfl
    ·rw[zHv (by show h≠(-1) % 18446744073709551616;omega),cond_true,zKB]
     have hs:¬ (-9223372036854775808≤addN l∧addN l≤9223372036854775807):=by omega
     rw[if_neg hs];rfl
 |succ k ih =>
  intro i h lo x y hi h0 h1 l0 l1 e
  have hlt:i<l.length:=by omega
  have hv:=hr l[i] (List.getElem_mem hlt)
  have hN:=hv.2
  unfold I64 at hN
  have ht:l.take (i+1)=l.take i++[l[i]]:=by rw[List.take_append_getElem]
  have ha:∀(m:List Val) (v:Val),addN (m++[v])=addN m+if v.K=0 then v.N else 0:=by
   intro m v
   induction m with
   |nil=>simp[addN]
   |cons z m ih=>simp only[List.cons_append,addN,ih];omega
  have hmn:∀(m:List Val) (v:Val),zJZ (m++[v])=zJZ m+if v.K=0 then 1 else 0:=by
   intro m v
   unfold zJZ
   by_cases hk:v.K=0<;>simp[List.filter_append,hk]
  rw[zIn]
  simp only[zP hlt,zAM,cond_true,Int.toNat_natCast,List.getElem?_map,List.getElem?_eq_getElem hlt,Option.map_some,Option.bind_some,Val.c_mk]
  by_cases hk:l[i].K=0
  ·rw[zJV hk,cond_false,zXF,zQp lo _ 0 l0 (by omega) (by omega) (by omega)]
   simp only[Option.bind_some,asTup_mk,List.getElem?_cons_zero,List.getElem?_cons_succ,c_u64_mk]
   have e2:=zYq h lo l[i].N _ h0 h1 l0 l1 hN.1 hN.2 e
   have hml:zJZ (l.take i)≤l.length:=by
    unfold zJZ
    exact Nat.le_trans (List.length_filter_le _ _) (by rw[List.length_take];omega)
   have hm3:zJZ (l.take (i+1))=zJZ (l.take i)+1:=by rw[ht,hmn,if_pos hk]
   have ha3:addN (l.take (i+1))=addN (l.take i)+l[i].N:=by rw[ht,ha,if_pos hk]
   rw[zXF,zXF,zXF,zI (show zJZ (l.take i)<9223372036854775807 by omega),zI (show i<9223372036854775807 by omega),←hm3]
   exact ih (i+1) _ _ x y (by omega) (by omega) (by omega) (by omega) (by omega) (by rw[ha3];exact e2)
  ·have hm3:zJZ (l.take (i+1))=zJZ (l.take i):=by rw[ht,hmn,if_neg hk];rfl
   have ha3:addN (l.take (i+1))=addN (l.take i):=by rw[ht,ha,if_neg hk,Int.add_zero]
   rw[zHv hk,cond_true,zI (show i<9223372036854775807 by omega),←hm3]
   exact ih (i+1) h lo x y (by omega) h0 h1 l0 l1 (by rw[ha3];exact e)
theorem z3X(l:List Val) (hr:ROk l) (hl:l.length≤4294967296):wc W zNA [rowp l]=some (sumV l).pv:=by
 have h:=zWn (l.map Val.pv)
 have hk:=zOW 2
 rw[zH,hk]at h
 rw[h]
 simp only[Option.bind_some,zVS l 2 (by omega),c_b_mk]
 unfold sumV
 cases l.any (λ v=>(zIe v).K==2) with
 |true=>rw[zKB];rfl
 |false =>
  have:=zYr l hr hl l.length 0 0 0 0 0 (by omega) (by omega) (by omega) (by omega) (by omega) rfl
  rw[List.length_map]
  exact this
end Go.Cf

namespace Go.Cf
set_option linter.unusedVariables false
theorem zCw{α:Type} (le:α→α→Bool):∀(n:Nat) (s1 t1 s2 t2:List α),s1.length+s2.length=n →
 (∀ x∈t1,∀ y∈s2,le x y=false)→(∀ x∈s1,∀ y∈t2,le x y=true) →
 List.merge (s1++t1) (s2++t2) le=List.merge s1 s2 le++List.merge t1 t2 le
 |n,[],t1,[],t2,h,h1,h2=>by simp
 |n,[],[],y::s2,t2,h,h1,h2=>by simp
 |n+1,[],x::t1,y::s2,t2,h,h1,h2=>by
  have hxy:=h1 x (by simp) y (by simp)
  have ih:=zCw le n [] (x::t1) s2 t2 (by simp at h ⊢;omega) (λ a ha b hb=>h1 a ha b (by simp[hb])) (λ a ha=>by simp at ha)
  simp only[List.nil_append,List.nil_merge]at ih ⊢
  rw[List.cons_append,List.cons_merge_cons,if_neg (by rw[hxy];decide),ih]
  rfl
 |n,x::s1,t1,[],[],h,h1,h2=>by simp
 |n+1,x::s1,t1,[],z::t2,h,h1,h2=>by
  have hxz:=h2 x (by simp) z (by simp)
  have ih:=zCw le n s1 t1 [] (z::t2) (by simp at h ⊢;omega) (λ a ha b hb=>by simp at hb) (λ a ha b hb=>h2 a (by simp[ha]) b hb)
  simp only[List.nil_append,List.merge_right]at ih ⊢
  rw[List.cons_append,List.cons_merge_cons,if_pos hxz,ih]
  rfl
 |n+1,x::s1,t1,y::s2,t2,h,h1,h2=>by
  simp only[List.cons_append,List.cons_merge_cons]
  by_cases hxy:le x y=true
  ·rw[if_pos hxy,if_pos hxy]
   have ih:=zCw le n s1 t1 (y::s2) t2 (by simp at h ⊢;omega) h1 (λ a ha b hb=>h2 a (by simp[ha]) b hb)
   rw[← List.cons_append,ih];rfl
  ·rw[if_neg hxy,if_neg hxy]
   have ih:=zCw le n (x::s1) t1 s2 t2 (by simp at h ⊢;omega) (λ a ha b hb=>h1 a ha b (by simp[hb])) h2
   rw[← List.cons_append,ih];rfl
 | 0,[],x::t1,y::s2,t2,h,h1,h2=>by simp at h
 | 0,x::s1,t1,[],z::t2,h,h1,h2=>by simp at h
 | 0,x::s1,t1,y::s2,t2,h,h1,h2=>by simp at h
theorem zNn{α:Type} (le:α→α→Bool) (x:α) (s t:List α) (hs:∀ y∈s,le x y=false) (ht:∀ y∈t,le x y=true):List.merge [x] (s++t) le=s++x::t:=by
 have h:=zCw le s.length [] [x] s t (by simp) (λ a ha b hb=>by simp at ha;subst ha;exact hs b hb) (λ a ha=>by simp at ha)
 rw[List.nil_append,List.nil_merge]at h
 rw[h]
 congr 1
 cases t with
 |nil=>simp
 |cons z t =>
  rw[List.cons_merge_cons,if_pos (ht z (by simp)),List.nil_merge]
theorem zHy{α:Type} (le:α→α→Bool) (y:α) (s t:List α) (hs:∀ x∈s,le x y=true) (ht:∀ x∈t,le x y=false):List.merge (s++t) [y] le=s++y::t:=by
 have h:=zCw le s.length s t [] [y] (by simp) (λ a ha b hb=>by simp at hb) (λ a ha b hb=>by simp at hb;subst hb;exact hs a ha)
 rw[List.nil_append,List.merge_right]at h
 rw[h]
 congr 1
 cases t with
 |nil=>simp
 |cons z t =>
  rw[List.cons_merge_cons,if_neg (by rw[ht z (by simp)];decide),List.merge_right]
def sw{α:Type} (l:List α) (i j:Nat):List α:=match l[i]?,l[j]? with | some x,some y=>(l.set i y).set j x | _,_=>l
theorem z2c{α:Type} (P M Q:List α) (x y:α):sw (P++x::(M++y::Q)) P.length (P.length+1+M.length)=P++y::(M++x::Q):=by
 have h1:(P++x::(M++y::Q))[P.length]? =some x:=by simp
 have h2:(P++x::(M++y::Q))[P.length+1+M.length]? =some y:=by
  rw[List.getElem?_append_right (by omega),show P.length+1+M.length-P.length=M.length+1 by omega,List.getElem?_cons_succ,List.getElem?_append_right (Nat.le_refl _)]
  simp
 unfold sw
 rw[h1,h2]
 simp only
 rw[List.set_append_right _ _ (Nat.le_refl _),Nat.sub_self,List.set_cons_zero,List.set_append_right _ _ (by omega),show P.length+1+M.length-P.length=M.length+1 by omega,List.set_cons_succ,List.set_append_right _ _ (Nat.le_refl _),Nat.sub_self,List.set_cons_zero]
def zNo{α:Type}:Nat→Nat→Nat→List α→List α
 | 0,_,_,l=>l
 |n+1,a,b,l=>zNo n (a+1) (b+1) (sw l a b)
theorem zI4{α:Type}:∀(n:Nat) (P A M B Q:List α),A.length=n→B.length=n→zNo n P.length (P.length+n+M.length) (P++(A++(M++(B++Q))))=P++(B++(M++(A++Q)))
 | 0,P,A,M,B,Q,hA,hB=>by
  have h1:A=[]:=List.length_eq_zero_iff.1 hA
  have h2:B=[]:=List.length_eq_zero_iff.1 hB
  subst h1;subst h2;rfl
 |n+1,P,[],M,B,Q,hA,hB=>by simp at hA
 |n+1,P,x::A,M,[],Q,hA,hB=>by simp at hB
 |n+1,P,x::A,M,y::B,Q,hA,hB=>by
  have hA' :A.length=n:=by simpa using hA
  have hB' :B.length=n:=by simpa using hB
  have e:=z2c P (A++M) (B++Q) x y
  rw[List.append_assoc,List.append_assoc]at e
  have ih:=zI4 n (P++[y]) A (M++[x]) B Q hA' hB'
  simp only[List.append_assoc,List.length_append,List.length_singleton,List.cons_append,List.nil_append]at ih e ⊢
  unfold zNo
  rw[show P.length+(n+1)+M.length=P.length+1+(A.length+M.length) by omega,e]
  rw[show P.length+1+(A.length+M.length)+1=P.length+1+n+(M.length+1) by omega]
  exact ih
def rotG{α:Type} (m:Nat):Nat→Nat→Nat→List α→List α
 | 0,_,_,l=>l
 |f+1,i,j,l=>if i=j then zNo i (m-i) m l else if i>j then rotG m f (i-j) j (zNo j (m-i) m l)else rotG m f i (j-i) (zNo i (m-i) (m+j-i) l)
theorem zNP{α:Type}:∀(f i j:Nat) (P X Y Q:List α),X.length=i→Y.length=j→0<i→0<j→i+j≤f →
 rotG (P.length+i) f i j (P++(X++(Y++Q)))=P++(Y++(X++Q))
 | 0,i,j,P,X,Y,Q,hX,hY,hi,hj,hf=>by omega
 |f+1,i,j,P,X,Y,Q,hX,hY,hi,hj,hf=>by
  unfold rotG
  by_cases e:i=j
  ·rw[if_pos e]
   subst e
   have h:=zI4 i P X [] Y Q hX hY
   simp only[List.nil_append,List.length_nil,Nat.add_zero]at h
   rw[show P.length+i-i=P.length by omega]
   exact h
  ·rw[if_neg e]
   by_cases g:i>j
   ·rw[if_pos g]
    obtain⟨X1,X2,rfl,h1⟩:∃ X1 X2,X=X1++X2∧X1.length=j:=⟨X.take j,X.drop j,(List.take_append_drop j X).symm,by simp;omega⟩
    have h2:X2.length=i-j:=by simp at hX;omega
    have h:=zI4 j P X1 X2 Y Q h1 hY
    rw[show P.length+j+X2.length=P.length+i by omega]at h
    rw[show P.length+i-i=P.length by omega]
    simp only[List.append_assoc]at h ⊢
    rw[h]
    have ih:=zNP f (i-j) j (P++Y) X2 X1 Q h2 h1 (by omega) hj (by omega)
    simp only[List.append_assoc,List.length_append]at ih
    rw[show P.length+i=P.length+Y.length+(i-j) by omega]
    exact ih
   ·rw[if_neg g]
    obtain⟨Y1,Y2,rfl,h1⟩:∃ Y1 Y2,Y=Y1++Y2∧Y1.length=j-i:=⟨Y.take (j-i),Y.drop (j-i),(List.take_append_drop (j-i) Y).symm,by simp;omega⟩
    have h2:Y2.length=i:=by simp at hY;omega
    have h:=zI4 i P X Y1 Y2 Q hX h2
    rw[show P.length+i+Y1.length=P.length+i+j-i by omega]at h
    rw[show P.length+i-i=P.length by omega]
    simp only[List.append_assoc]at h ⊢
    rw[h]
    have ih:=zNP f i (j-i) P Y2 Y1 (X++Q) h2 h1 hi (by omega) (by omega)
    exact ih
def bs(q:Nat→Bool):Nat→Nat→Nat→Nat
 | 0,lo,_=>lo
 |f+1,lo,hi=>if lo<hi then(if q ((lo+hi) / 2)then bs q f ((lo+hi) / 2+1) hi else bs q f lo ((lo+hi) / 2))else lo
theorem zNQ(q:Nat→Bool):∀(f lo hi:Nat),hi-lo≤f→lo≤hi→(∀ c d,lo≤c→c≤d→d<hi→q d=true→q c=true) →
 lo≤bs q f lo hi∧bs q f lo hi≤hi∧(∀ c,lo≤c→c<bs q f lo hi→q c=true)∧∀ c,bs q f lo hi≤c→c<hi→q c=false
 | 0,lo,hi,h,hle,hm=>by
  unfold bs
  exact⟨Nat.le_refl _,hle,λ c h1 h2=>by omega,λ c h1 h2=>by omega⟩
 |f+1,lo,hi,h,hle,hm=>by
  unfold bs
  by_cases hlt:lo<hi
  ·rw[if_pos hlt]
   by_cases hq:q ((lo+hi) / 2)=true
   ·rw[if_pos hq]
    obtain⟨k1,k2,k3,k4⟩:=zNQ q f ((lo+hi) / 2+1) hi (by omega) (by omega) (λ c d h1 h2 h3 h4=>hm c d (by omega) h2 h3 h4)
    refine⟨by omega,k2,λ c h1 h2=> ?_,k4⟩
    by_cases hc:c≤(lo+hi) / 2
    ·exact hm c _ h1 hc (by omega) hq
    ·exact k3 c (by omega) h2
   ·rw[if_neg hq]
    obtain⟨k1,k2,k3,k4⟩:=zNQ q f lo ((lo+hi) / 2) (by omega) (by omega) (λ c d h1 h2 h3 h4=>hm c d h1 h2 (by omega) h4)
    refine⟨k1,by omega,k3,λ c h1 h2=> ?_⟩
    by_cases hc:c<(lo+hi) / 2
    ·exact k4 c h1 hc
    ·cases hqc:q c with
     |false=>rfl
     |true=>exact absurd (hm _ c (by omega) (by omega) h2 hqc) hq
  ·rw[if_neg hlt]
   exact⟨Nat.le_refl _,hle,λ c h1 h2=>by omega,λ c h1 h2=>by omega⟩
theorem zZ6{α:Type} (P M Q:List α) (x y:α):sw (P++x::(M++y::Q)) (P.length+1+M.length) P.length=P++y::(M++x::Q):=by
 have h1:(P++x::(M++y::Q))[P.length]? =some x:=by simp
 have h2:(P++x::(M++y::Q))[P.length+1+M.length]? =some y:=by
  rw[List.getElem?_append_right (by omega),show P.length+1+M.length-P.length=M.length+1 by omega,List.getElem?_cons_succ,List.getElem?_append_right (Nat.le_refl _)]
  simp
 unfold sw
 rw[h1,h2]
 simp only
 rw[List.set_append_right _ _ (by omega),show P.length+1+M.length-P.length=M.length+1 by omega,List.set_cons_succ,List.set_append_right _ _ (Nat.le_refl _),Nat.sub_self,List.set_cons_zero,List.set_append_right _ _ (Nat.le_refl _),Nat.sub_self,List.set_cons_zero]
def mvR{α:Type}:Nat→Nat→List α→List α
 | 0,_,l=>l
 |n+1,k,l=>mvR n (k+1) (sw l k (k+1))
theorem zTj{α:Type}:∀(n:Nat) (P S Q:List α) (x:α),S.length=n→mvR n P.length (P++x::(S++Q))=P++(S++x::Q)
 | 0,P,S,Q,x,h=>by
  have h1:S=[]:=List.length_eq_zero_iff.1 h
  subst h1;rfl
 |n+1,P,[],Q,x,h=>by simp at h
 |n+1,P,y::S,Q,x,h=>by
  have e:=z2c P [] (S++Q) x y
  simp only[List.nil_append,List.length_nil,Nat.add_zero]at e
  have ih:=zTj n (P++[y]) S Q x (by simpa using h)
  simp only[List.append_assoc,List.length_append,List.length_singleton,List.cons_append,List.nil_append]at ih ⊢
  unfold mvR
  rw[e]
  exact ih
def mvL{α:Type}:Nat→Nat→List α→List α
 | 0,_,l=>l
 |n+1,k,l=>mvL n (k-1) (sw l k (k-1))
theorem zTk{α:Type}:∀(n:Nat) (P S Q:List α) (y:α),S.length=n→mvL n (P.length+n) (P++(S++y::Q))=P++y::(S++Q)
 | 0,P,S,Q,y,h=>by
  have h1:S=[]:=List.length_eq_zero_iff.1 h
  subst h1;rfl
 |n+1,P,S,Q,y,h=>by
  obtain⟨S',x,rfl⟩:∃ S' x,S=S' ++[x]:=⟨S.dropLast,S.getLast (by intro e;subst e;simp at h),(List.dropLast_concat_getLast _).symm⟩
  have hS:S'.length=n:=by simpa using h
  have e:=zZ6 (P++S') [] Q x y
  simp only[List.nil_append,List.length_nil,Nat.add_zero,List.length_append,List.append_assoc,hS]at e
  have ih:=zTk n P S' (x::Q) y hS
  simp only[List.append_assoc,List.cons_append,List.nil_append]at ih ⊢
  unfold mvL
  rw[show P.length+(n+1)-1=P.length+n by omega,show P.length+(n+1)=P.length+n+1 by omega,e]
  exact ih
section
variable {α:Type} (le:α→α→Bool)
def leO(l:List α) (i j:Nat):Bool:=match l[i]?,l[j]? with | some x,some y=>le x y | _,_=>true
def symF:Nat→Nat→Nat→Nat→List α→List α
 | 0,_,_,_,l=>l
 |f+1,a,m,b,l =>
  if m-a=1 then mvR (bs (λ h=> !leO le l a h) (b-m) m b-1-a) a l
  else if b-m=1 then mvL (m-bs (λ h=>leO le l h m) (m-a) a m) m l
  else
   let mid:=(a+b) / 2
   let n:=mid+m
   let s:=if m>mid then n-b else a
   let r:=if m>mid then mid else m
   let st:=bs (λ c=>leO le l c (n-1-c)) (r-s) s r
   let en:=n-st
   let l1:=if st<m∧m<en then rotG m (en-st) (m-st) (en-m) l else l
   let l2:=if a<st∧st<mid then symF f a st mid l1 else l1
   if mid<en∧en<b then symF f mid en b l2 else l2
theorem zDo{le:α→α→Bool} (hr:∀ x,le x x=true) {X:List α} (hX:X.Pairwise λ x y=>le x y=true) {i j:Nat} {x y:α} (hi:X[i]? =some x) (hj:X[j]? =some y) (hij:i≤j):le x y=true:=by
 rcases Nat.lt_or_eq_of_le hij with h | h
 ·obtain⟨h1,rfl⟩:=List.getElem?_eq_some_iff.1 hi
  obtain⟨h2,rfl⟩:=List.getElem?_eq_some_iff.1 hj
  exact List.pairwise_iff_getElem.1 hX i j h1 h2 h
 ·subst h
  rw[hi]at hj;cases hj;exact hr _
theorem zNR(X:List α):List.merge X [] le=X:=by simp
theorem zFa(X Y:List α):(List.merge X Y le).length=X.length+Y.length:=by
 rw[(List.merge_perm_append (le:=le) (xs:=X) (ys:=Y)).length_eq,List.length_append]
theorem zNS(hr:∀ x,le x x=true) (ht:∀ x y z,le x y=true→le y z=true→le x z=true):∀(f:Nat) (P X Y Q:List α),X≠[]→Y≠[]→X.Pairwise (λ x y=>le x y=true)→Y.Pairwise (λ x y=>le x y=true)→X.length+Y.length≤f →
 symF le f P.length (P.length+X.length) (P.length+X.length+Y.length) (P++(X++(Y++Q)))=P++(List.merge X Y le++Q)
 | 0,P,X,Y,Q,hX,hY,sX,sY,hf=>by
  have:=List.length_pos_iff.2 hX;omega
 |f+1,P,X,Y,Q,hX,hY,sX,sY,hf=>by
  have lX:=List.length_pos_iff.2 hX
  have lY:=List.length_pos_iff.2 hY
  have gX:∀ i,i<X.length→(P++(X++(Y++Q)))[P.length+i]? =X[i]? :=λ i hi=>by
   rw[List.getElem?_append_right (by omega),show P.length+i-P.length=i by omega,List.getElem?_append_left hi]
  have gY:∀ i,i<Y.length→(P++(X++(Y++Q)))[P.length+X.length+i]? =Y[i]? :=λ i hi=>by
   rw[List.getElem?_append_right (by omega),show P.length+X.length+i-P.length=X.length+i by omega,List.getElem?_append_right (by omega),show X.length+i-X.length=i by omega,List.getElem?_append_left hi]
  have q0:∀ i j x y,X[i]? =some x→Y[j]? =some y→leO le (P++(X++(Y++Q))) (P.length+i) (P.length+X.length+j)=le x y:=λ i j x y hi hj=>by
   have h1:=gX i (List.getElem?_eq_some_iff.1 hi).1
   have h2:=gY j (List.getElem?_eq_some_iff.1 hj).1
   unfold leO
   rw[h1,h2,hi,hj]
  unfold symF
  by_cases e1:X.length=1
  ·rw[if_pos (by omega)]
   obtain⟨x,rfl⟩:=List.length_eq_one_iff.1 e1
   have qv:∀ h y,P.length+1≤h→Y[h-(P.length+1)]? =some y→leO le (P++([x]++(Y++Q))) P.length h=le x y:=λ h y h1 h2=>by
    have:=q0 0 (h-(P.length+1)) x y rfl h2
    rw[show P.length+[x].length+(h-(P.length+1))=h by simp;omega]at this
    exact this
   have bsp:=zNQ (λ h=> !leO le (P++([x]++(Y++Q))) P.length h) (P.length+[x].length+Y.length-(P.length+[x].length)) (P.length+[x].length) (P.length+[x].length+Y.length) (Nat.le_refl _) (by omega) (λ c d h1 h2 h3 h4=>by
    simp only[List.length_singleton]at h1 h3
    have cl:c-(P.length+1)<Y.length:=by omega
    have dl:d-(P.length+1)<Y.length:=by omega
    have v1:=qv c _ h1 (List.getElem?_eq_getElem cl)
    have v2:=qv d _ (by omega) (List.getElem?_eq_getElem dl)
    have h4:(!leO le (P++([x]++(Y++Q))) P.length d)=true:=h4
    show(!leO le (P++([x]++(Y++Q))) P.length c)=true
    rw[v2]at h4
    rw[v1]
    have k:=zDo hr sY (List.getElem?_eq_getElem cl) (List.getElem?_eq_getElem dl) (by omega)
    cases hle:le x Y[c-(P.length+1)] with
    |false=>rfl
    |true=>rw[ht _ _ _ hle k]at h4;cases h4)
   generalize bs (λ h=> !leO le (P++([x]++(Y++Q))) P.length h) (P.length+[x].length+Y.length-(P.length+[x].length)) (P.length+[x].length) (P.length+[x].length+Y.length)=i at bsp ⊢
   simp only[List.length_singleton]at bsp
   obtain⟨b1,b2,b3,b4⟩:=bsp
   obtain⟨Y1,Y2,hYe,hY1⟩:∃ Y1 Y2,Y=Y1++Y2∧Y1.length=i-(P.length+1):=⟨Y.take (i-(P.length+1)),Y.drop (i-(P.length+1)),(List.take_append_drop _ Y).symm,by simp;omega⟩
   have lY2:Y1.length+Y2.length=Y.length:=by rw[hYe];simp
   have d1:∀ y∈Y1,le x y=false:=λ y hy=>by
    obtain⟨j,hj,ej⟩:=List.getElem_of_mem hy
    have g:Y[j]? =some y:=by rw[hYe,List.getElem?_append_left hj,←ej];exact List.getElem?_eq_getElem hj
    have v:=qv (P.length+1+j) y (by omega) (by rw[show P.length+1+j-(P.length+1)=j by omega];exact g)
    have h:(!leO le (P++([x]++(Y++Q))) P.length (P.length+1+j))=true:=b3 (P.length+1+j) (by omega) (by omega)
    rw[v]at h
    simpa using h
   have d2:∀ y∈Y2,le x y=true:=λ y hy=>by
    obtain⟨j,hj,ej⟩:=List.getElem_of_mem hy
    have g:Y[Y1.length+j]? =some y:=by rw[hYe,List.getElem?_append_right (by omega),show Y1.length+j-Y1.length=j by omega,←ej];exact List.getElem?_eq_getElem hj
    have v:=qv (P.length+1+(Y1.length+j)) y (by omega) (by rw[show P.length+1+(Y1.length+j)-(P.length+1)=Y1.length+j by omega];exact g)
    have h:(!leO le (P++([x]++(Y++Q))) P.length (P.length+1+(Y1.length+j)))=false:=b4 (P.length+1+(Y1.length+j)) (by omega) (by omega)
    rw[v]at h
    simpa using h
   have hm:=zNn le x Y1 Y2 d1 d2
   have hv:=zTj (i-1-P.length) P Y1 (Y2++Q) x (by omega)
   rw[hYe,hm]
   simp only[List.append_assoc,List.cons_append,List.nil_append]at hv ⊢
   exact hv
  ·rw[if_neg (by omega)]
   by_cases e2:Y.length=1
   ·rw[if_pos (by omega)]
    obtain⟨y,rfl⟩:=List.length_eq_one_iff.1 e2
    have qv:∀ h x,P.length≤h→X[h-P.length]? =some x→leO le (P++(X++([y]++Q))) h (P.length+X.length)=le x y:=λ h x h1 h2=>by
     have:=q0 (h-P.length) 0 x y h2 rfl
     rw[show P.length+(h-P.length)=h by omega]at this
     exact this
    have bsp:=zNQ (λ h=>leO le (P++(X++([y]++Q))) h (P.length+X.length)) (P.length+X.length-P.length) P.length (P.length+X.length) (Nat.le_refl _) (by omega) (λ c d h1 h2 h3 h4=>by
     have cl:c-P.length<X.length:=by omega
     have dl:d-P.length<X.length:=by omega
     have v1:=qv c _ h1 (List.getElem?_eq_getElem cl)
     have v2:=qv d _ (by omega) (List.getElem?_eq_getElem dl)
     have h4:leO le (P++(X++([y]++Q))) d (P.length+X.length)=true:=h4
     show leO le (P++(X++([y]++Q))) c (P.length+X.length)=true
     rw[v2]at h4
     rw[v1]
     exact ht _ _ _ (zDo hr sX (List.getElem?_eq_getElem cl) (List.getElem?_eq_getElem dl) (by omega)) h4)
    generalize bs (λ h=>leO le (P++(X++([y]++Q))) h (P.length+X.length)) (P.length+X.length-P.length) P.length (P.length+X.length)=i at bsp ⊢
    obtain⟨b1,b2,b3,b4⟩:=bsp
    obtain⟨X1,X2,hXe,hX1⟩:∃ X1 X2,X=X1++X2∧X1.length=i-P.length:=⟨X.take (i-P.length),X.drop (i-P.length),(List.take_append_drop _ X).symm,by simp;omega⟩
    have lX2:X1.length+X2.length=X.length:=by rw[hXe];simp
    have d1:∀ x∈X1,le x y=true:=λ x hx=>by
     obtain⟨j,hj,ej⟩:=List.getElem_of_mem hx
     have g:X[j]? =some x:=by rw[hXe,List.getElem?_append_left hj,←ej];exact List.getElem?_eq_getElem hj
     have v:=qv (P.length+j) x (by omega) (by rw[show P.length+j-P.length=j by omega];exact g)
     have h:leO le (P++(X++([y]++Q))) (P.length+j) (P.length+X.length)=true:=b3 (P.length+j) (by omega) (by omega)
     rw[v]at h;exact h
    have d2:∀ x∈X2,le x y=false:=λ x hx=>by
     obtain⟨j,hj,ej⟩:=List.getElem_of_mem hx
     have g:X[X1.length+j]? =some x:=by rw[hXe,List.getElem?_append_right (by omega),show X1.length+j-X1.length=j by omega,←ej];exact List.getElem?_eq_getElem hj
     have v:=qv (P.length+(X1.length+j)) x (by omega) (by rw[show P.length+(X1.length+j)-P.length=X1.length+j by omega];exact g)
     have h:leO le (P++(X++([y]++Q))) (P.length+(X1.length+j)) (P.length+X.length)=false:=b4 (P.length+(X1.length+j)) (by omega) (by omega)
     rw[v]at h;exact h
    have hm:=zHy le y X1 X2 d1 d2
    have hv:=zTk (P.length+X.length-i) (P++X1) X2 Q y (by omega)
    rw[List.length_append,show P.length+X1.length+(P.length+X.length-i)=P.length+X.length by omega]at hv
    generalize hN:P.length+X.length=N at hv ⊢
    rw[hXe,hm]
    simp only[List.append_assoc,List.cons_append,List.nil_append]at hv ⊢
    exact hv
   ·rw[if_neg (by omega)]
    simp only
    generalize hmid:(P.length+(P.length+X.length+Y.length)) / 2=mid
    generalize hs:(if P.length+X.length>mid then mid+(P.length+X.length)-(P.length+X.length+Y.length)else P.length)=s
    generalize hrr:(if P.length+X.length>mid then mid else P.length+X.length)=r
    have hsr:s≤r∧P.length≤s∧r≤P.length+X.length∧r≤mid∧(s=P.length∨s+(P.length+X.length+Y.length)=mid+(P.length+X.length))∧(r=mid∨r=P.length+X.length)∧mid+(P.length+X.length)≤s+(P.length+X.length+Y.length):=by
     rw[← hs,←hrr]
     split<;>omega
    obtain⟨s1,s2,s3,s4,s5,s6,s7⟩:=hsr
    have qv:∀ c x y,P.length≤c→c<P.length+X.length→X[c-P.length]? =some x→Y[mid-1-c]? =some y→c<mid→leO le (P++(X++(Y++Q))) c (mid+(P.length+X.length)-1-c)=le x y:=λ c x y h1 h2 h3 h4 h5=>by
     have:=q0 (c-P.length) (mid-1-c) x y h3 h4
     rw[show P.length+(c-P.length)=c by omega,show P.length+X.length+(mid-1-c)=mid+(P.length+X.length)-1-c by omega]at this
     exact this
    have bsp:=zNQ (λ c=>leO le (P++(X++(Y++Q))) c (mid+(P.length+X.length)-1-c)) (r-s) s r (Nat.le_refl _) s1 (λ c d h1 h2 h3 h4=>by
     have c1:c-P.length<X.length:=by omega
     have d1:d-P.length<X.length:=by omega
     have c2:mid-1-c<Y.length:=by omega
     have d2:mid-1-d<Y.length:=by omega
     have v1:=qv c _ _ (by omega) (by omega) (List.getElem?_eq_getElem c1) (List.getElem?_eq_getElem c2) (by omega)
     have v2:=qv d _ _ (by omega) (by omega) (List.getElem?_eq_getElem d1) (List.getElem?_eq_getElem d2) (by omega)
     have h4:leO le (P++(X++(Y++Q))) d (mid+(P.length+X.length)-1-d)=true:=h4
     show leO le (P++(X++(Y++Q))) c (mid+(P.length+X.length)-1-c)=true
     rw[v2]at h4
     rw[v1]
     have k1:=zDo hr sX (List.getElem?_eq_getElem c1) (List.getElem?_eq_getElem d1) (by omega)
     have k2:=zDo hr sY (List.getElem?_eq_getElem d2) (List.getElem?_eq_getElem c2) (by omega)
     exact ht _ _ _ (ht _ _ _ k1 h4) k2)
    generalize bs (λ c=>leO le (P++(X++(Y++Q))) c (mid+(P.length+X.length)-1-c)) (r-s) s r=st at bsp ⊢
    obtain⟨b1,b2,b3,b4⟩:=bsp
    obtain⟨X1,X2,hXe,hX1⟩:∃ X1 X2,X=X1++X2∧X1.length=st-P.length:=⟨X.take (st-P.length),X.drop (st-P.length),(List.take_append_drop _ X).symm,by simp;omega⟩
    obtain⟨Y1,Y2,hYe,hY1⟩:∃ Y1 Y2,Y=Y1++Y2∧Y1.length=mid-st:=⟨Y.take (mid-st),Y.drop (mid-st),(List.take_append_drop _ Y).symm,by simp;omega⟩
    have lX2:X1.length+X2.length=X.length:=by rw[hXe];simp
    have lY2:Y1.length+Y2.length=Y.length:=by rw[hYe];simp
    have getX2:∀ i x,X2[i]? =some x→X[st-P.length+i]? =some x:=λ i x h=>by
     rw[hXe,List.getElem?_append_right (by omega),show st-P.length+i-X1.length=i by omega];exact h
    have getX1:∀ i x,X1[i]? =some x→X[i]? =some x:=λ i x h=>by
     have:=(List.getElem?_eq_some_iff.1 h).1
     rw[hXe,List.getElem?_append_left this];exact h
    have getY2:∀ i x,Y2[i]? =some x→Y[mid-st+i]? =some x:=λ i x h=>by
     rw[hYe,List.getElem?_append_right (by omega),show mid-st+i-Y1.length=i by omega];exact h
    have getY1:∀ i x,Y1[i]? =some x→Y[i]? =some x:=λ i x h=>by
     have:=(List.getElem?_eq_some_iff.1 h).1
     rw[hYe,List.getElem?_append_left this];exact h
    have c1:∀ x∈X2,∀ y∈Y1,le x y=false:=λ x hx y hy=>by
     obtain⟨i,hi,ei⟩:=List.getElem_of_mem hx
     obtain⟨j,hj,ej⟩:=List.getElem_of_mem hy
     have gi:=getX2 i x (by rw[← ei];exact List.getElem?_eq_getElem hi)
     have gj:=getY1 j y (by rw[← ej];exact List.getElem?_eq_getElem hj)
     have h1:st-P.length<X.length:=by omega
     have h2:mid-1-st<Y.length:=by omega
     have hq:=b4 st (Nat.le_refl _) (by omega)
     have v:=qv st _ _ (by omega) (by omega) (List.getElem?_eq_getElem h1) (List.getElem?_eq_getElem h2) (by omega)
     have hq:leO le (P++(X++(Y++Q))) st (mid+(P.length+X.length)-1-st)=false:=hq
     rw[v]at hq
     cases hle:le x y with
     |false=>rfl
     |true =>
      have k1:=zDo hr sX (List.getElem?_eq_getElem h1) gi (by omega)
      have k2:=zDo hr sY gj (List.getElem?_eq_getElem h2) (by omega)
      rw[ht _ _ _ (ht _ _ _ k1 hle) k2]at hq;cases hq
    have c2:∀ x∈X1,∀ y∈Y2,le x y=true:=λ x hx y hy=>by
     obtain⟨i,hi,ei⟩:=List.getElem_of_mem hx
     obtain⟨j,hj,ej⟩:=List.getElem_of_mem hy
     have gi:=getX1 i x (by rw[← ei];exact List.getElem?_eq_getElem hi)
     have gj:=getY2 j y (by rw[← ej];exact List.getElem?_eq_getElem hj)
     have h1:st-1-P.length<X.length:=by omega
     have h2:mid-1-(st-1)<Y.length:=by omega
     have hq:=b3 (st-1) (by omega) (by omega)
     have v:=qv (st-1) _ _ (by omega) (by omega) (List.getElem?_eq_getElem h1) (List.getElem?_eq_getElem h2) (by omega)
     have hq:leO le (P++(X++(Y++Q))) (st-1) (mid+(P.length+X.length)-1-(st-1))=true:=hq
     rw[v]at hq
     have k1:=zDo hr sX gi (List.getElem?_eq_getElem h1) (by omega)
     have k2:=zDo hr sY (List.getElem?_eq_getElem h2) gj (by omega)
     exact ht _ _ _ (ht _ _ _ k1 hq) k2
    have hsplit:=zCw le _ X1 X2 Y1 Y2 rfl c1 c2
    have sX1:X1.Pairwise λ x y=>le x y=true:=(List.pairwise_append.1 (hXe▸sX)).1
    have sX2:X2.Pairwise λ x y=>le x y=true:=(List.pairwise_append.1 (hXe▸sX)).2.1
    have sY1:Y1.Pairwise λ x y=>le x y=true:=(List.pairwise_append.1 (hYe▸sY)).1
    have sY2:Y2.Pairwise λ x y=>le x y=true:=(List.pairwise_append.1 (hYe▸sY)).2.1
    have l1:(if st<P.length+X.length∧P.length+X.length<mid+(P.length+X.length)-st then rotG (P.length+X.length) (mid+(P.length+X.length)-st-st) (P.length+X.length-st) (mid+(P.length+X.length)-st-(P.length+X.length)) (P++(X++(Y++Q)))else P++(X++(Y++Q)))=P++(X1++(Y1++(X2++(Y2++Q)))):=by
     by_cases hc:st<P.length+X.length∧P.length+X.length<mid+(P.length+X.length)-st
     ·rw[if_pos hc]
      have h:=zNP (mid+(P.length+X.length)-st-st) (P.length+X.length-st) (mid+(P.length+X.length)-st-(P.length+X.length)) (P++X1) X2 Y1 (Y2++Q) (by omega) (by omega) (by omega) (by omega) (by omega)
      rw[List.length_append,show P.length+X1.length+(P.length+X.length-st)=P.length+X.length by omega]at h
      simp only[List.append_assoc]at h
      have e:P++(X++(Y++Q))=P++(X1++(X2++(Y1++(Y2++Q)))):=by rw[hXe,hYe];simp
      rw[e,h]
     ·rw[if_neg hc]
      rw[hXe,hYe]
      have:X2=[]∨Y1=[]:=by
       by_cases h1:st<P.length+X.length
       ·right;apply List.length_eq_zero_iff.1;omega
       ·left;apply List.length_eq_zero_iff.1;omega
      rcases this with h | h<;>subst h<;>simp
    rw[l1]
    have l2:(if P.length<st∧st<mid then symF le f P.length st mid (P++(X1++(Y1++(X2++(Y2++Q)))))else P++(X1++(Y1++(X2++(Y2++Q)))))=P++(List.merge X1 Y1 le++(X2++(Y2++Q))):=by
     by_cases hc:P.length<st∧st<mid
     ·rw[if_pos hc]
      have h:=zNS hr ht f P X1 Y1 (X2++(Y2++Q)) (λ e=>by rw[e]at hX1;simp at hX1;omega) (λ e=>by rw[e]at hY1;simp at hY1;omega) sX1 sY1 (by omega)
      rw[show P.length+X1.length=st by omega,show st+Y1.length=mid by omega]at h
      exact h
     ·rw[if_neg hc]
      have:X1=[]∨Y1=[]:=by
       by_cases h1:P.length<st
       ·right;apply List.length_eq_zero_iff.1;omega
       ·left;apply List.length_eq_zero_iff.1;omega
      rcases this with h | h<;>subst h<;>simp
    rw[l2]
    have l3:(if mid<mid+(P.length+X.length)-st∧mid+(P.length+X.length)-st<P.length+X.length+Y.length then symF le f mid (mid+(P.length+X.length)-st) (P.length+X.length+Y.length) (P++(List.merge X1 Y1 le++(X2++(Y2++Q))))else P++(List.merge X1 Y1 le++(X2++(Y2++Q))))=P++(List.merge X1 Y1 le++(List.merge X2 Y2 le++Q)):=by
     by_cases hc:mid<mid+(P.length+X.length)-st∧mid+(P.length+X.length)-st<P.length+X.length+Y.length
     ·rw[if_pos hc]
      have h:=zNS hr ht f (P++List.merge X1 Y1 le) X2 Y2 Q (λ e=>by rw[e]at lX2;simp at lX2;omega) (λ e=>by rw[e]at lY2;simp at lY2;omega) sX2 sY2 (by omega)
      rw[List.length_append,zFa,show P.length+(X1.length+Y1.length)=mid by omega,show mid+X2.length=mid+(P.length+X.length)-st by omega,show mid+(P.length+X.length)-st+Y2.length=P.length+X.length+Y.length by omega]at h
      simp only[List.append_assoc]at h
      exact h
     ·rw[if_neg hc]
      have:X2=[]∨Y2=[]:=by
       by_cases h1:mid<mid+(P.length+X.length)-st
       ·right;apply List.length_eq_zero_iff.1;omega
       ·left;apply List.length_eq_zero_iff.1;omega
      rcases this with h | h<;>subst h<;>simp
    rw[l3,hXe,hYe,hsplit,List.append_assoc]
def insD:Nat→Nat→List α→List α
 | 0,_,l=>l
 |n+1,k,l=>if leO le l (k-1) k then l else insD n (k-1) (sw l k (k-1))
theorem zRG(hr:∀ x,le x x=true) (ht:∀ x y z,le x y=true→le y z=true→le x z=true):∀(n:Nat) (P X Q:List α) (y:α),X.length=n→X.Pairwise (λ x y=>le x y=true) →
 insD le n (P.length+n) (P++(X++y::Q))=P++(List.merge X [y] le++Q)
 | 0,P,X,Q,y,h,sX=>by
  have h1:X=[]:=List.length_eq_zero_iff.1 h
  subst h1
  unfold insD
  simp
 |n+1,P,X,Q,y,h,sX=>by
  obtain⟨X',x,rfl⟩:∃ X' x,X=X' ++[x]:=⟨X.dropLast,X.getLast (by intro e;subst e;simp at h),(List.dropLast_concat_getLast _).symm⟩
  have hX:X'.length=n:=by simpa using h
  have sX' :=(List.pairwise_append.1 sX).1
  have g1:(P++(X' ++[x]++y::Q))[P.length+(n+1)-1]? =some x:=by
   rw[List.getElem?_append_right (by omega),show P.length+(n+1)-1-P.length=X'.length by omega];simp
  have g2:(P++(X' ++[x]++y::Q))[P.length+(n+1)]? =some y:=by
   rw[List.getElem?_append_right (by omega),show P.length+(n+1)-P.length=(X' ++[x]).length by simp;omega,List.getElem?_append_right (Nat.le_refl _)];simp
  have hv:leO le (P++(X' ++[x]++y::Q)) (P.length+(n+1)-1) (P.length+(n+1))=le x y:=by
   unfold leO;rw[g1,g2]
  unfold insD
  rw[hv]
  by_cases hle:le x y=true
  ·rw[if_pos hle]
   have hall:∀ z∈X' ++[x],le z y=true:=λ z hz=>by
    rcases List.mem_append.1 hz with h1 | h1
    ·exact ht _ _ _ ((List.pairwise_append.1 sX).2.2 z h1 x (by simp)) hle
    ·simp at h1;subst h1;exact hle
   have hm:=zHy le y (X' ++[x]) [] hall (λ z hz=>by simp at hz)
   rw[List.append_nil]at hm
   rw[hm];simp
  ·rw[if_neg hle]
   have e:=zZ6 (P++X') [] Q x y
   simp only[List.nil_append,List.length_nil,Nat.add_zero,List.length_append,List.append_assoc,hX]at e
   have ih:=zRG hr ht n P X' (x::Q) y hX sX'
   have hm:=zCw le _ X' [x] [y] [] rfl (λ a ha b hb=>by simp at ha hb;subst ha;subst hb;simpa using hle) (λ a ha b hb=>by simp at hb)
   rw[List.append_nil,zNR]at hm
   rw[hm,show P.length+(n+1)-1=P.length+n by omega,show P.length+(n+1)=P.length+n+1 by omega]
   simp only[List.append_assoc,List.cons_append,List.nil_append]at ih ⊢
   rw[e]
   exact ih
def insG:Nat→Nat→Nat→List α→List α
 | 0,_,_,l=>l
 |n+1,a,i,l=>insG n a (i+1) (insD le (i-a) i l)
def zTl(X Z:List α):List α:=Z.foldl (λ acc y=>List.merge acc [y] le) X
theorem zEe(hr:∀ x y,le x y=true∨le y x=true) (ht:∀ x y z,le x y=true→le y z=true→le x z=true) {X Y:List α} (sX:X.Pairwise λ x y=>le x y=true) (sY:Y.Pairwise λ x y=>le x y=true) :
 (List.merge X Y le).Pairwise λ x y=>le x y=true :=
 List.pairwise_merge (le:=le) (λ a b c h1 h2=>ht a b c h1 h2) (λ a b=>by rcases hr a b with h | h<;>simp[h]) X Y sX sY
theorem zRH(hr:∀ x y,le x y=true∨le y x=true) (ht:∀ x y z,le x y=true→le y z=true→le x z=true):∀(n:Nat) (P X Z Q:List α),Z.length=n→X.Pairwise (λ x y=>le x y=true) →
 insG le n P.length (P.length+X.length) (P++(X++(Z++Q)))=P++(zTl le X Z++Q)
 | 0,P,X,Z,Q,h,sX=>by
  have h1:Z=[]:=List.length_eq_zero_iff.1 h
  subst h1;rfl
 |n+1,P,X,[],Q,h,sX=>by simp at h
 |n+1,P,X,y::Z,Q,h,sX=>by
  have hr' :∀ x,le x x=true:=λ x=>by rcases hr x x with h | h<;>exact h
  have h1:=zRG le hr' ht X.length P X (Z++Q) y rfl sX
  have ih:=zRH hr ht n P (List.merge X [y] le) Z Q (by simpa using h) (zEe le hr ht sX (by simp))
  unfold insG
  rw[show P.length+X.length-P.length=X.length by omega,List.cons_append,h1]
  rw[zFa]at ih
  exact ih
abbrev Srt (l:List α):Prop:=l.Pairwise λ x y=>le x y=true
inductive ChS (s:Nat):List α→Prop
 |last (l:List α) (h:l.length≤s) (o:Srt le l):ChS s l
 |cons (x l:List α) (h:x.length=s) (o:Srt le x) (k:ChS s l):ChS s (x++l)
def eqk(k y:α):Bool:=le k y&&le y k
theorem zHz(hr:∀ x y,le x y=true∨le y x=true) (ht:∀ x y z,le x y=true→le y z=true→le x z=true) (k:α):∀(X Y:List α),Srt le X→(List.merge X Y le).filter (eqk le k)=X.filter (eqk le k)++Y.filter (eqk le k)
 | [],Y,_=>by simp
 |x::X,[],_=>by simp
 |x::X,y::Y,h=>by
  have h2:=List.pairwise_cons.1 h
  rw[List.cons_merge_cons]
  cases hxy:le x y with
  |true =>
   rw[if_pos rfl,List.filter_cons,List.filter_cons (xs:=X),zHz hr ht k X (y::Y) h2.2]
   split<;>rfl
  |false =>
   rw[if_neg (by simp),List.filter_cons,List.filter_cons (xs:=Y),zHz hr ht k (x::X) Y h]
   cases hp:eqk le k y with
   |false=>simp
   |true =>
    have e:(x::X).filter (eqk le k)=[]:=by
     refine List.filter_eq_nil_iff.2 λ z hz hk=> ?_
     simp only[eqk,Bool.and_eq_true]at hp hk
     have hxz:le x z=true:=by
      rcases List.mem_cons.1 hz with rfl | hz
      ·rcases hr z z with h | h<;>exact h
      ·exact h2.1 z hz
     have:=ht _ _ _ hxz (ht _ _ _ hk.2 hp.1)
     rw[hxy]at this;cases this
    rw[e];simp
structure Keeps (l l' :List α):Prop where
 perm:l'.Perm l
 same:Srt le l→l' =l
 filt:∀ k,l'.filter (eqk le k)=l.filter (eqk le k)
theorem Keeps.refl(l:List α):Keeps le l l:=⟨List.Perm.refl _,λ _=>rfl,λ _=>rfl⟩
theorem Keeps.trans{a b c:List α} (h:Keeps le a b) (k:Keeps le b c):Keeps le a c:=⟨k.perm.trans h.perm,λ o=>by
 have e:=h.same o
 rw[e]at k
 rw[k.same o],λ q=>(k.filt q).trans (h.filt q)⟩
theorem Keeps.front{a b:List α} (x:List α) (h:Keeps le a b):Keeps le (x++a) (x++b):=⟨h.perm.append_left x,λ o=>by rw[h.same (List.pairwise_append.1 o).2.1],λ k=>by rw[List.filter_append,List.filter_append,h.filt k]⟩
theorem Keeps.back{a b:List α} (x:List α) (h:Keeps le a b):Keeps le (a++x) (b++x):=⟨h.perm.append_right x,λ o=>by rw[h.same (List.pairwise_append.1 o).1],λ k=>by rw[List.filter_append,List.filter_append,h.filt k]⟩
theorem zHA(hr:∀ x y,le x y=true∨le y x=true) (ht:∀ x y z,le x y=true→le y z=true→le x z=true) (X Y:List α) (h:Srt le X):Keeps le (X++Y) (List.merge X Y le) :=
 ⟨List.merge_perm_append le,λ o=>List.merge_of_le λ x y hx hy=>(List.pairwise_append.1 o).2.2 x hx y hy,λ k=>by rw[zHz le hr ht k X Y h,List.filter_append]⟩
def pass(s n:Nat):Nat→Nat→List α→List α
 | 0,_,l=>l
 |f+1,a,l=>if a+2*s≤n then pass s n f (a+2*s) (symF le (2*s) a (a+s) (a+2*s) l)else if a+s<n then symF le (n-a) a (a+s) n l else l
theorem zNT(hr:∀ x y,le x y=true∨le y x=true) (ht:∀ x y z,le x y=true→le y z=true→le x z=true) {s:Nat} (hs:0<s):∀(f:Nat) (D R:List α) (n:Nat),ChS le s R→n=D.length+R.length→R.length<f →
 ∃ R',pass le s n f D.length (D++R)=D++R' ∧ChS le (2*s) R' ∧Keeps le R R'
 | 0,D,R,n,h,hn,hf=>by omega
 |f+1,D,R,n,h,hn,hf=>by
  have hr' :∀ x,le x x=true:=λ x=>by rcases hr x x with h | h<;>exact h
  cases h with
  |last l h o =>
   unfold pass
   rw[if_neg (by omega),if_neg (by omega)]
   exact⟨R,rfl, .last _ (by omega) o,Keeps.refl le R⟩
  |cons x l h o k =>
   have two:∀(y q:List α),y.length≤s→y≠[]→Srt le y→∀ F,x.length+y.length≤F→symF le F D.length (D.length+s) (D.length+(x.length+y.length)) (D++(x++(y++q)))=D++(List.merge x y le++q):=λ y q h1 h2 h3 F hF=>by
    have:=zNS le hr' ht F D x y q (λ e=>by rw[e]at h;simp at h;omega) h2 o h3 hF
    rw[h]at this ⊢
    rw[Nat.add_assoc]at this
    exact this
   cases k with
   |last _ h1 o1 =>
    unfold pass
    by_cases c1:D.length+2*s≤n
    ·rw[if_pos c1]
     simp only[List.length_append]at hn
     have hl:l.length=s:=by omega
     have ht2:=two l [] h1 (λ e=>by rw[e]at hl;simp at hl;omega) o1 (2*s) (by omega)
     rw[List.append_nil,List.append_nil,show D.length+(x.length+l.length)=D.length+2*s by omega]at ht2
     rw[ht2]
     obtain⟨R',e1,e2,e3⟩:=zNT hr ht hs f (D++List.merge x l le) [] n (.last _ (by simp) (by simp)) (by simp;omega) (by simp at hf;simp;omega)
     have e0:R' =[]:=by
      have:=e3.perm.length_eq
      exact List.length_eq_zero_iff.1 (by simpa using this)
     subst e0
     rw[List.append_nil,List.length_append,zFa,show D.length+(x.length+l.length)=D.length+2*s by omega]at e1
     refine⟨List.merge x l le,e1, .last _ (by rw[zFa];omega) (zEe le hr ht o o1),zHA le hr ht x l o⟩
    ·rw[if_neg c1]
     simp only[List.length_append]at hn
     by_cases c2:D.length+s<n
     ·rw[if_pos c2]
      have ht2:=two l [] h1 (λ e=>by rw[e]at hn;simp at hn;omega) o1 (n-D.length) (by omega)
      rw[List.append_nil,List.append_nil,show D.length+(x.length+l.length)=n by omega]at ht2
      rw[ht2]
      exact⟨List.merge x l le,rfl, .last _ (by rw[zFa];omega) (zEe le hr ht o o1),zHA le hr ht x l o⟩
     ·rw[if_neg c2]
      have hl:l=[]:=List.length_eq_zero_iff.1 (by omega)
      subst hl
      rw[List.append_nil]
      exact⟨x,rfl, .last _ (by omega) o,Keeps.refl le x⟩
   |cons y q h1 o1 k1 =>
    unfold pass
    simp only[List.length_append]at hn hf
    rw[if_pos (by omega)]
    have ht2:=two y q (by omega) (λ e=>by rw[e]at h1;simp at h1;omega) o1 (2*s) (by omega)
    rw[show D.length+(x.length+y.length)=D.length+2*s by omega]at ht2
    rw[ht2]
    obtain⟨R',e1,e2,e3⟩:=zNT hr ht hs f (D++List.merge x y le) q n k1 (by simp;omega) (by omega)
    rw[List.length_append,zFa,show D.length+(x.length+y.length)=D.length+2*s by omega,List.append_assoc]at e1
    refine⟨List.merge x y le++R',by rw[e1,List.append_assoc], .cons _ _ (by rw[zFa];omega) (zEe le hr ht o o1) e2,?_⟩
    have m1:=(zHA le hr ht x y o).back le q
    rw[List.append_assoc]at m1
    exact m1.trans le (e3.front le _)
def insB(a b:Nat) (l:List α):List α:=insG le (b-(a+1)) a (a+1) l
theorem zNU(hr:∀ x y,le x y=true∨le y x=true) (ht:∀ x y z,le x y=true→le y z=true→le x z=true):∀(Z X:List α),Srt le X→Srt le (zTl le X Z)∧Keeps le (X++Z) (zTl le X Z)
 | [],X,h=>⟨h,by rw[List.append_nil];exact Keeps.refl le X⟩
 |y::Z,X,h=>by
  obtain⟨h1,h2⟩:=zNU hr ht Z (List.merge X [y] le) (zEe le hr ht h (by simp))
  refine⟨h1,?_⟩
  have k:=(zHA le hr ht X [y] h).back le Z
  rw[List.append_assoc]at k
  exact k.trans le h2
theorem zRI(hr:∀ x y,le x y=true∨le y x=true) (ht:∀ x y z,le x y=true→le y z=true→le x z=true) (P Z Q:List α):∃ Z',insB le P.length (P.length+Z.length) (P++(Z++Q))=P++(Z' ++Q)∧Srt le Z' ∧Keeps le Z Z' :=by
 cases Z with
 |nil=>exact⟨[],by unfold insB;rw[show P.length+([]:List α).length-(P.length+1)=0 by simp];rfl,by simp,Keeps.refl le _⟩
 |cons z Z =>
  have h:=zRH le hr ht Z.length P [z] Z Q rfl (by simp)
  obtain⟨h1,h2⟩:=zNU le hr ht Z [z] (by simp)
  refine⟨zTl le [z] Z,?_,h1,h2⟩
  unfold insB
  rw[show P.length+(z::Z).length-(P.length+1)=Z.length by simp;omega]
  exact h
def blk1(n:Nat):Nat→Nat→List α→List α
 | 0,_,l=>l
 |f+1,a,l=>if a+20≤n then blk1 n f (a+20) (insB le a (a+20) l)else insB le a n l
theorem zRJ(hr:∀ x y,le x y=true∨le y x=true) (ht:∀ x y z,le x y=true→le y z=true→le x z=true):∀(f:Nat) (D R:List α) (n:Nat),n=D.length+R.length→R.length<f →
 ∃ R',blk1 le n f D.length (D++R)=D++R' ∧ChS le 20 R' ∧Keeps le R R'
 | 0,D,R,n,hn,hf=>by omega
 |f+1,D,R,n,hn,hf=>by
  unfold blk1
  by_cases c:D.length+20≤n
  ·rw[if_pos c]
   obtain⟨Z,Q,rfl,hZ⟩:∃ Z Q,R=Z++Q∧Z.length=20:=⟨R.take 20,R.drop 20,(List.take_append_drop 20 R).symm,by simp;omega⟩
   simp only[List.length_append]at hn hf
   obtain⟨Z',e1,e2,e3⟩:=zRI le hr ht D Z Q
   rw[hZ]at e1
   have hZ' :Z'.length=20:=by rw[e3.perm.length_eq,hZ]
   rw[e1]
   obtain⟨R',k1,k2,k3⟩:=zRJ hr ht f (D++Z') Q n (by simp;omega) (by omega)
   rw[List.length_append,hZ',List.append_assoc]at k1
   refine⟨Z' ++R',by rw[k1,List.append_assoc], .cons _ _ hZ' e2 k2,(e3.back le Q).trans le (k3.front le Z')⟩
  ·rw[if_neg c]
   obtain⟨Z',e1,e2,e3⟩:=zRI le hr ht D R []
   rw[List.append_nil,List.append_nil,←hn]at e1
   exact⟨Z',e1, .last _ (by rw[e3.perm.length_eq];omega) e2,e3⟩
def stL(n:Nat):Nat→Nat→List α→List α
 | 0,_,l=>l
 |f+1,s,l=>if s<n then stL n f (2*s) (pass le s n (n+1) 0 l)else l
theorem zOZ{s:Nat} {l:List α} (h:ChS le s l) (hl:l.length≤s):Srt le l:=by
 cases h with
 |last _ h o=>exact o
 |cons x q h o k =>
  have:q=[]:=List.length_eq_zero_iff.1 (by simp at hl;omega)
  subst this
  rw[List.append_nil];exact o
theorem zTm(hr:∀ x y,le x y=true∨le y x=true) (ht:∀ x y z,le x y=true→le y z=true→le x z=true):∀(f s:Nat) (l:List α),0<s→ChS le s l→l.length<f+s→Srt le (stL le l.length f s l)∧Keeps le l (stL le l.length f s l)
 | 0,s,l,hs,h,hf=>by
  show Srt le l∧Keeps le l l
  exact⟨zOZ le h (by omega),Keeps.refl le l⟩
 |f+1,s,l,hs,h,hf=>by
  unfold stL
  by_cases c:s<l.length
  ·rw[if_pos c]
   obtain⟨R',e1,e2,e3⟩:=zNT le hr ht hs (l.length+1) [] l l.length h (by simp) (by omega)
   simp only[List.length_nil,List.nil_append]at e1
   rw[e1]
   have hl:=e3.perm.length_eq
   obtain⟨k1,k2⟩:=zTm hr ht f (2*s) R' (by omega) e2 (by omega)
   rw[hl]at k1 k2
   exact⟨k1,e3.trans le k2⟩
  ·rw[if_neg c]
   exact⟨zOZ le h (by omega),Keeps.refl le l⟩
theorem zSm(hr:∀ x y,le x y=true∨le y x=true) (ht:∀ x y z,le x y=true→le y z=true→le x z=true) (l:List α) :
 Srt le (stL le l.length l.length 20 (blk1 le l.length (l.length+1) 0 l))∧Keeps le l (stL le l.length l.length 20 (blk1 le l.length (l.length+1) 0 l)):=by
 obtain⟨R',e1,e2,e3⟩:=zRJ le hr ht (l.length+1) [] l l.length (by simp) (by omega)
 simp only[List.length_nil,List.nil_append]at e1
 rw[e1]
 have hl:=e3.perm.length_eq
 obtain⟨k1,k2⟩:=zTm le hr ht l.length 20 R' (by omega) e2 (by omega)
 rw[hl]at k1 k2
 exact⟨k1,e3.trans le k2⟩
end
end Go.Cf

namespace Go.Cf
open Go Go.Ab
set_option linter.unusedVariables false
set_option linter.unusedSimpArgs false
def keyR(at_:Int) (r:List Val):Int×Int:=bif decide (at_<0)then(0,0)else match r[at_.toNat]? with | some v=>bif mayV v then(v.K,v.N)else(2,0) | none=>(0,0)
theorem zNV(r:List Val) (at_:Int):wc W zGn [rowp r, .int .i64 at_]=some (.agg [.int .i64 (keyR at_ r).1, .int .i64 (keyR at_ r).2]):=by
 have h:=zYh (r.map Val.pv) at_
 rw[zH]at h
 rw[h,List.length_map]
 unfold keyR
 by_cases h0:at_<0
 ·rw[decide_eq_true h0];rfl
 ·rw[decide_eq_false h0]
  simp only[cond_false]
  by_cases h1:at_≥(r.length:Int)
  ·rw[decide_eq_true h1,List.getElem?_eq_none (by omega)];rfl
  ·have hlt:at_.toNat<r.length:=by omega
   rw[decide_eq_false h1]
   simp only[cond_false,zPQ,decide_eq_true (show(0:Int)≤at_ by omega),cond_true,List.getElem?_map,List.getElem?_eq_getElem hlt,Option.map_some,Option.bind_some,Val.c_mk,Val.fold,zHw,c_b_mk,zPR]
   cases mayV r[at_.toNat]<;>rfl
def cmpB(a b:Int×Int):Int:=if a.1<b.1 then -1 else if a.1>b.1 then 1 else if a.2<b.2 then -1 else if a.2>b.2 then 1 else 0
theorem zXG(a b:Int):wc W zEQ [.int .i64 a, .int .i64 b]=some (.int .i64 (if a<b then -1 else if a>b then 1 else 0)):=by
 rw[zKo,zHu,zHu,zJV rfl,zJV rfl]
 simp only[Option.bind_some,c_b_mk,cond_false]
 by_cases h:a<b
 ·rw[decide_eq_true h,if_pos h];rfl
 ·rw[decide_eq_false h,if_neg h]
  by_cases h' :a>b
  ·rw[decide_eq_true h',if_pos h'];rfl
  ·rw[decide_eq_false h',if_neg h'];rfl
theorem zRK(a b:Int×Int):wc W zB4 [.agg [.int .i64 a.1, .int .i64 a.2], .agg [.int .i64 b.1, .int .i64 b.2]]=some (.int .i64 (cmpB a b)):=by
 obtain⟨a1,a2⟩:=a
 obtain⟨b1,b2⟩:=b
 rw[zPP,zG1]
 have z1:([PV.int .i64 a1,PV.int .i64 a2]:List PV).length=2:=rfl
 have w1:IntKind.wrap .i64 ((0:Int)+1)=1:=by decide
 have w2:IntKind.wrap .i64 ((1:Int)+1)=2:=by decide
 unfold cmpB
 have f1:decide ((0:Int)<((0+1+1:Nat):Int))=true:=rfl
 have f2:decide ((1:Int)<((0+1+1:Nat):Int))=true:=rfl
 have f3:decide ((2:Int)<((0+1+1:Nat):Int))=false:=rfl
 have f4:decide ((0:Int)≤0)=true:=rfl
 have f5:decide ((0:Int)≤1)=true:=rfl
 have f6:decide ((0:Int)≥((0+1+1:Nat):Int))=false:=rfl
 have f7:decide ((1:Int)≥((0+1+1:Nat):Int))=false:=rfl
 have f8:decide (((0+1+1:Nat):Int)<((0+1+1:Nat):Int))=false:=rfl
 have f9:Int.toNat 0=0:=rfl
 have f10:Int.toNat 1=1:=rfl
 rw[zB1]
 simp only[List.length_cons,List.length_nil,w1,w2,c_i64_mk,List.getElem?_cons_zero,List.getElem?_cons_succ,Option.bind_some,zXG,c_b_mk,cond_true,cond_false,f1,f2,f3,f4,f5,f6,f7,f8,f9,f10]
 rw[zB1]
 simp only[List.length_cons,List.length_nil,w1,w2,c_i64_mk,List.getElem?_cons_zero,List.getElem?_cons_succ,Option.bind_some,zXG,c_b_mk,cond_true,cond_false,f1,f2,f3,f4,f5,f6,f7,f8,f9,f10]
 rw[zB1]
 simp only[List.length_cons,List.length_nil,w1,w2,c_i64_mk,List.getElem?_cons_zero,List.getElem?_cons_succ,Option.bind_some,zXG,c_b_mk,cond_true,cond_false,f1,f2,f3,f4,f5,f6,f7,f8,f9,f10]
 rcases Int.lt_trichotomy a1 b1 with h | h | h
 ·rw[show(a1==b1)=false by rw[beq_eq_false_iff_ne];omega];simp only[if_pos h];rfl
 ·subst h
  simp only[beq_self_eq_true,gt_iff_lt,Int.lt_irrefl,if_false,cond_true]
  rcases Int.lt_trichotomy a2 b2 with h | h | h
  ·rw[show(a2==b2)=false by rw[beq_eq_false_iff_ne];omega,if_pos h];rfl
  ·subst h;simp only[beq_self_eq_true,Int.lt_irrefl,if_false];rfl
  ·rw[show(a2==b2)=false by rw[beq_eq_false_iff_ne];omega,if_neg (show ¬ a2<b2 by omega),if_pos h];rfl
 ·rw[show(a1==b1)=false by rw[beq_eq_false_iff_ne];omega];simp only[gt_iff_lt,if_neg (show ¬ a1<b1 by omega),if_pos h];rfl
def leR(at_:Int) (r s:List Val):Bool:= !decide (cmpB (keyR at_ s) (keyR at_ r)<0)
theorem z04(a b:Int×Int):cmpB a b<0↔a.1<b.1∨(a.1=b.1∧a.2<b.2):=by
 unfold cmpB
 split
 ·constructor<;>intro<;>omega
 ·split
  ·constructor<;>intro<;>omega
  ·split
   ·constructor<;>intro<;>omega
   ·split<;>constructor<;>intro<;>omega
theorem zSn(at_:Int) (r s:List Val):leR at_ r s=true↔(keyR at_ r).1<(keyR at_ s).1∨((keyR at_ r).1=(keyR at_ s).1∧(keyR at_ r).2≤(keyR at_ s).2):=by
 unfold leR
 rw[Bool.not_eq_true',decide_eq_false_iff_not,z04]
 constructor<;>intro<;>omega
theorem zXH(at_:Int) (r s:List Val):leR at_ r s=true∨leR at_ s r=true:=by
 rw[zSn,zSn];omega
theorem zRL(at_:Int) (r s t:List Val) (h:leR at_ r s=true) (k:leR at_ s t=true):leR at_ r t=true:=by
 rw[zSn]at *;omega
theorem zP1(r s:List Val) (at_:Int):W zD false [.pv (rowp r), .pv (rowp s), .own 0 0] [.var false 0 (.pv (.int .i64 at_))]=some (.pv (.int .i64 (cmpB (keyR at_ r) (keyR at_ s))),[.var false 0 (.pv (.int .i64 at_))]):=by
 have h:=zKn (r.map Val.pv) (s.map Val.pv) at_
 rw[zH,zH,zNV,zNV]at h
 have c:=zRK (keyR at_ r) (keyR at_ s)
 simp only[Option.bind_some,c_g_i64_i64_mk,c,c_i64_mk]at h
 exact h
theorem zGE{α:Type} (l:List α) (i j:Nat):(sw l i j).length=l.length:=by
 unfold sw
 split
 ·simp
 ·rfl
theorem zEf{α:Type}:∀(n a b:Nat) (l:List α),(zNo n a b l).length=l.length
 | 0,_,_,_=>rfl
 |n+1,a,b,l=>by unfold zNo;rw[zEf n,zGE]
theorem zXI{α:Type}:∀(n k:Nat) (l:List α),(mvR n k l).length=l.length
 | 0,_,_=>rfl
 |n+1,k,l=>by unfold mvR;rw[zXI n,zGE]
theorem zXJ{α:Type}:∀(n k:Nat) (l:List α),(mvL n k l).length=l.length
 | 0,_,_=>rfl
 |n+1,k,l=>by unfold mvL;rw[zXJ n,zGE]
theorem zKF{α:Type} (m:Nat):∀(f i j:Nat) (l:List α),(rotG m f i j l).length=l.length
 | 0,_,_,_=>rfl
 |f+1,i,j,l=>by
  unfold rotG
  split
  ·exact zEf _ _ _ _
  ·split
   ·rw[zKF m f,zEf]
   ·rw[zKF m f,zEf]
theorem zTn{α:Type} (le:α→α→Bool):∀(n k:Nat) (l:List α),(insD le n k l).length=l.length
 | 0,_,_=>rfl
 |n+1,k,l=>by
  unfold insD
  split
  ·rfl
  ·rw[zTn le n,zGE]
theorem zP2{α:Type} (le:α→α→Bool):∀(n a i:Nat) (l:List α),(insG le n a i l).length=l.length
 | 0,_,_,_=>rfl
 |n+1,a,i,l=>by unfold insG;rw[zP2 le n,zTn]
theorem zKr{α:Type} {p:Prop} [Decidable p] {x y:List α} {n:Nat} (h:x.length=n) (k:y.length=n):(if p then x else y).length=n:=by split<;>assumption
def symS{α:Type} (le:α→α→Bool) (f a m b mid st en:Nat) (l:List α):List α :=
 let l1:=if st<m∧m<en then rotG m (en-st) (m-st) (en-m) l else l
 let l2:=if a<st∧st<mid then symF le f a st mid l1 else l1
 if mid<en∧en<b then symF le f mid en b l2 else l2
theorem zRM{α:Type} (le:α→α→Bool) (f a m b:Nat) (l:List α):symF le (f+1) a m b l =
 if m-a=1 then mvR (bs (λ h=> !leO le l a h) (b-m) m b-1-a) a l
 else if b-m=1 then mvL (m-bs (λ h=>leO le l h m) (m-a) a m) m l
 else if m>(a+b) / 2 then
  symS le f a m b ((a+b) / 2) (bs (λ c=>leO le l c ((a+b) / 2+m-1-c)) ((a+b) / 2-((a+b) / 2+m-b)) ((a+b) / 2+m-b) ((a+b) / 2)) ((a+b) / 2+m-bs (λ c=>leO le l c ((a+b) / 2+m-1-c)) ((a+b) / 2-((a+b) / 2+m-b)) ((a+b) / 2+m-b) ((a+b) / 2)) l
 else
  symS le f a m b ((a+b) / 2) (bs (λ c=>leO le l c ((a+b) / 2+m-1-c)) (m-a) a m) ((a+b) / 2+m-bs (λ c=>leO le l c ((a+b) / 2+m-1-c)) (m-a) a m) l:=by
 rw[symF]
 split
 ·rfl
 ·split
  ·rfl
  ·by_cases h:m>(a+b) / 2
   ·simp only[if_pos h];rfl
   ·simp only[if_neg h];rfl
theorem zI5{α:Type} (le:α→α→Bool):∀(f a m b:Nat) (l:List α),(symF le f a m b l).length=l.length
 | 0,_,_,_,_=>rfl
 |f+1,a,m,b,l=>by
  have hS:∀ st en mid,(symS le f a m b mid st en l).length=l.length:=λ st en mid=>by
   have h1:(if st<m∧m<en then rotG m (en-st) (m-st) (en-m) l else l).length=l.length:=zKr (zKF _ _ _ _ _) rfl
   unfold symS
   simp only
   generalize (if st<m∧m<en then rotG m (en-st) (m-st) (en-m) l else l)=l1 at h1
   have h2:(if a<st∧st<mid then symF le f a st mid l1 else l1).length=l.length:=zKr ((zI5 le f _ _ _ _).trans h1) h1
   generalize (if a<st∧st<mid then symF le f a st mid l1 else l1)=l2 at h2
   exact zKr ((zI5 le f _ _ _ _).trans h2) h2
  rw[zRM]
  exact zKr (zXI _ _ _) (zKr (zXJ _ _ _) (zKr (hS _ _ _) (hS _ _ _)))
theorem zVT(q:Nat→Bool):∀(f lo hi:Nat),lo≤hi→lo≤bs q f lo hi∧bs q f lo hi≤hi
 | 0,lo,hi,h=>⟨Nat.le_refl _,h⟩
 |f+1,lo,hi,h=>by
  unfold bs
  split
  ·split
   ·have:=zVT q f ((lo+hi) / 2+1) hi (by omega);omega
   ·have:=zVT q f lo ((lo+hi) / 2) (by omega);omega
  ·omega
theorem zTo(l:List (List Val)) (i j:Nat) (hi:i<l.length) (hj:j<l.length):((l.map rowp).set i (rowp l[j])).set j (rowp l[i])=(sw l i j).map rowp:=by
 unfold sw
 rw[List.getElem?_eq_getElem hi,List.getElem?_eq_getElem hj]
 simp only[List.map_set]
def zDs(l:List (List Val)) (at_:Int):Option (AV×List Ob):=some (.pv (.tup []),[.fix 0 0 (l.map rowp), .var false 0 (.pv (.int .i64 at_))])
theorem zRN(at_:Int) (a b n:Nat):∀(k i:Nat) (l:List (List Val)),i+k=n→a+n≤l.length→b+n≤l.length→l.length≤1000000000 →
 zAP (a:Int) (b:Int) (n:Int) (i:Int) (l.map rowp) at_=zDs (zNo k (a+i) (b+i) l) at_
 | 0,i,l,h,ha,hb,hl=>by
  rw[zBE,show i=n by omega]
  simp only[zBz,cond_false];rfl
 |k+1,i,l,h,ha,hb,hl=>by
  have h1:a+i<l.length:=by omega
  have h2:b+i<l.length:=by omega
  have e1:IntKind.wrap .i64 ((a:Int)+(i:Int))=((a+i:Nat):Int):=by rw[zQ (by omega) (by omega)];omega
  have e2:IntKind.wrap .i64 ((b:Int)+(i:Int))=((b+i:Nat):Int):=by rw[zQ (by omega) (by omega)];omega
  rw[zBE]
  simp only[zP (show i<n by omega),cond_true,e1,e2,zAM,Bool.true_and,List.length_set,List.length_map,zP h1,zP h2,Int.toNat_natCast,List.getElem?_map,List.getElem?_eq_getElem h1,List.getElem?_eq_getElem h2,Option.map_some,Option.bind_some,zCv,zH]
  have h3:b+i<((l.map rowp).set (a+i) (rowp l[b+i])).length:=by simpa using h2
  rw[List.getElem?_eq_getElem h3]
  simp only[Option.bind_some]
  rw[zTo l (a+i) (b+i) h1 h2,zI (by omega)]
  exact zRN at_ a b n k (i+1) (sw l (a+i) (b+i)) (by omega) (by rw[zGE];exact ha) (by rw[zGE];exact hb) (by rw[zGE];exact hl)
theorem zJ0(at_:Int) (a b n:Nat) (l:List (List Val)) (ha:a+n≤l.length) (hb:b+n≤l.length) (hl:l.length≤1000000000) :
 W zAK false [.fx 0 0, .pv (.int .i64 (a:Int)), .pv (.int .i64 (b:Int)), .pv (.int .i64 (n:Int)), .fnv zD [] [.own 1 0]] [.fix 0 0 (l.map rowp), .var false 0 (.pv (.int .i64 at_))]=zDs (zNo n a b l) at_:=by
 rw[zDK]
 exact zRN at_ a b n n 0 l (by omega) ha hb hl
theorem zP3(at_:Int) (m:Nat):∀(f i j:Nat) (l:List (List Val)),0<i→0<j→i+j≤f→i≤m→m+j≤l.length→l.length≤1000000000 →
 zAF (m:Int) (i:Int) (j:Int) (l.map rowp) at_=zDs (rotG m f i j l) at_
 | 0,i,j,l,hi,hj,hf,_,_,_=>by omega
 |f+1,i,j,l,hi,hj,hf,him,hmj,hl=>by
  have e1:IntKind.wrap .i64 ((m:Int)-(i:Int))=((m-i:Nat):Int):=by rw[zQ (by omega) (by omega)];omega
  rw[zDJ]
  unfold rotG
  rcases Nat.lt_trichotomy i j with h | h | h
  ·rw[zHv (by omega),decide_eq_false (by omega),if_neg (by omega),if_neg (by omega)]
   have e2:IntKind.wrap .i64 ((IntKind.wrap .i64 ((m:Int)+(j:Int)))-(i:Int))=((m+j-i:Nat):Int):=by rw[zQ (n:=(m:Int)+j) (by omega) (by omega),zQ (by omega) (by omega)];omega
   have e3:IntKind.wrap .i64 ((j:Int)-(i:Int))=((j-i:Nat):Int):=by rw[zQ (by omega) (by omega)];omega
   have hs:=zJ0 at_ (m-i) (m+j-i) i l (by omega) (by omega) hl
   simp only[cond_true,cond_false,e1,e2,e3,hs,zDs,Option.bind_some,k_c4d914_mk]
   exact zP3 at_ m f i (j-i) _ hi (by omega) (by omega) him (by rw[zEf];omega) (by rw[zEf];exact hl)
  ·subst h
   have hs:=zJ0 at_ (m-i) m i l (by omega) (by omega) hl
   rw[zJV rfl,if_pos rfl]
   simp only[cond_false,e1,hs,zDs,Option.bind_some,k_c4d914_mk]
  ·rw[zHv (by omega),decide_eq_true (by omega),if_neg (by omega),if_pos h]
   have e3:IntKind.wrap .i64 ((i:Int)-(j:Int))=((i-j:Nat):Int):=by rw[zQ (by omega) (by omega)];omega
   have hs:=zJ0 at_ (m-i) m j l (by omega) (by omega) hl
   simp only[cond_true,cond_false,e1,e3,hs,zDs,Option.bind_some,k_c4d914_mk]
   exact zP3 at_ m f (i-j) j _ (by omega) hj (by omega) (by omega) (by rw[zEf];omega) (by rw[zEf];exact hl)
theorem zYs(at_:Int) (a m b:Nat) (l:List (List Val)) (h1:a<m) (h2:m<b) (h3:b≤l.length) (hl:l.length≤1000000000) :
 W zBT false [.fx 0 0, .pv (.int .i64 (a:Int)), .pv (.int .i64 (m:Int)), .pv (.int .i64 (b:Int)), .fnv zD [] [.own 1 0]] [.fix 0 0 (l.map rowp), .var false 0 (.pv (.int .i64 at_))]=zDs (rotG m (b-a) (m-a) (b-m) l) at_:=by
 rw[zDb,show IntKind.wrap .i64 ((m:Int)-(a:Int))=((m-a:Nat):Int) by rw[zQ (by omega) (by omega)];omega,show IntKind.wrap .i64 ((b:Int)-(m:Int))=((b-m:Nat):Int) by rw[zQ (by omega) (by omega)];omega]
 exact zP3 at_ m (b-a) (m-a) (b-m) l (by omega) (by omega) (by omega) (by omega) (by omega) hl
theorem zP4(at_:Int) (l:List (List Val)) (i j:Nat) (hi:i<l.length) (hj:j<l.length):leO (leR at_) l i j= !decide (cmpB (keyR at_ l[j]) (keyR at_ l[i])<0):=by
 unfold leO
 rw[List.getElem?_eq_getElem hi,List.getElem?_eq_getElem hj];rfl
theorem zNW(at_:Int) (a b:Nat):∀(n i:Nat) (l:List (List Val)),i+n=b→a<i→b≤l.length→l.length≤1000000000 →
 zO (a:Int) (b:Int) (i:Int) (l.map rowp) at_=zDs (insG (leR at_) n a i l) at_
 | 0,i,l,h,ha,hb,hl=>by
  rw[zAV,show i=b by omega]
  simp only[zBz,cond_false];rfl
 |n+1,i,l,h,ha,hb,hl=>by
  rw[zAV]
  simp only[zP (show i<b by omega),cond_true]
  have key:∀(n' k:Nat) (l:List (List Val)),k=a+n' →k≤i→k<l.length→b≤l.length→l.length≤1000000000→zAD (a:Int) (b:Int) (i:Int) (k:Int) (l.map rowp) at_=zDs (insG (leR at_) n a (i+1) (insD (leR at_) n' k l)) at_:=by
   intro n'
   induction n' with
   |zero =>
    intro k l h1 h2 h3 h4 h5
    rw[zAs,decide_eq_false (by omega),cond_false,zI (by omega)]
    exact zNW at_ a b n (i+1) l (by omega) (by omega) h4 h5
   |succ n' ih =>
    intro k l h1 h2 hk h4 hl
    have hk1:k-1<l.length:=by omega
    have e1:IntKind.wrap .i64 ((k:Int)-1)=((k-1:Nat):Int):=by rw[zQ (by omega) (by omega)];omega
    rw[zAs,decide_eq_true (show(k:Int)>(a:Int) by omega)]
    simp only[cond_true,e1,zAM,Bool.true_and,List.length_map,zP hk,zP hk1,Int.toNat_natCast,List.getElem?_map,List.getElem?_eq_getElem hk,List.getElem?_eq_getElem hk1,Option.map_some,Option.bind_some,zCv,zH,zP1,k_5b106d_mk,c_i64_mk]
    unfold insD
    rw[zP4 at_ l (k-1) k hk1 hk]
    cases hd:decide (cmpB (keyR at_ l[k]) (keyR at_ l[k-1])<0) with
    |false =>
     simp only[cond_false,Bool.not_false,if_true]
     rw[zI (by omega)]
     exact zNW at_ a b n (i+1) l (by omega) (by omega) h4 hl
    |true =>
     simp only[cond_true,Bool.not_true,Bool.false_eq_true,if_false,zCM,e1,zAM,Bool.true_and,List.length_set,List.length_map,zP hk,zP hk1,Int.toNat_natCast,List.getElem?_map,List.getElem?_eq_getElem hk,List.getElem?_eq_getElem hk1,Option.map_some,Option.bind_some,zCv,zH]
     have h3:k-1<((l.map rowp).set k (rowp l[k-1])).length:=by simpa using hk1
     rw[List.getElem?_eq_getElem h3]
     simp only[Option.bind_some]
     rw[zTo l k (k-1) hk hk1]
     exact ih (k-1) (sw l k (k-1)) (by omega) (by omega) (by rw[zGE];omega) (by rw[zGE];exact h4) (by rw[zGE];exact hl)
  have:=key (i-a) i l (by omega) (Nat.le_refl _) (by omega) hb hl
  rw[this];rfl
theorem zNX(at_:Int) (a b:Nat) (l:List (List Val)) (hb:b≤l.length) (hab:a≤b) (hl:l.length≤1000000000) :
 W zAS false [.fx 0 0, .pv (.int .i64 (a:Int)), .pv (.int .i64 (b:Int)), .fnv zD [] [.own 1 0]] [.fix 0 0 (l.map rowp), .var false 0 (.pv (.int .i64 at_))]=zDs (insB (leR at_) a b l) at_:=by
 rw[zC3,zI (by omega)]
 unfold insB
 rcases Nat.lt_or_ge a b with h | h
 ·exact zNW at_ a b (b-(a+1)) (a+1) l (by omega) (by omega) hb hl
 ·rw[show b-(a+1)=0 by omega,zAV,decide_eq_false (by omega)];rfl
end Go.Cf

namespace Go.Cf
open Go Go.Ab
set_option linter.unusedVariables false
set_option linter.unusedSimpArgs false
theorem zTp(x y:Nat) (h:x+y≤4000000000):IntKind.wrap .i64 (Int.fdiv (IntKind.wrap .u64 (IntKind.wrap .i64 ((x:Int)+(y:Int)))) 2)=(((x+y) / 2:Nat):Int):=by
 rw[zQ (n:=(x:Int)+y) (by omega) (by omega)]
 have e:IntKind.wrap .u64 ((x:Int)+(y:Int))=((x+y:Nat):Int):=by
  simp only[IntKind.wrap,IntKind.bits,IntKind.signed]
  simp
  omega
 rw[e,show Int.fdiv ((x+y:Nat):Int) 2=(((x+y) / 2:Nat):Int) by
  rw[Int.fdiv_eq_ediv_of_nonneg _ (by omega)];omega]
 exact zQ (by omega) (by omega)
theorem zTq(at_:Int) (i:Nat):∀(n k:Nat) (l:List (List Val)),k+n=i-1→0<i→i≤l.length→l.length≤1000000000 →
 zV (i:Int) (k:Int) (l.map rowp) at_=zDs (mvR n k l) at_
 | 0,k,l,h,h0,hi,hl=>by
  have e1:IntKind.wrap .i64 ((i:Int)-1)=((i-1:Nat):Int):=by rw[zQ (by omega) (by omega)];omega
  rw[zBK,e1,decide_eq_false (by omega)];rfl
 |n+1,k,l,h,h0,hi,hl=>by
  have e1:IntKind.wrap .i64 ((i:Int)-1)=((i-1:Nat):Int):=by rw[zQ (by omega) (by omega)];omega
  have e2:IntKind.wrap .i64 ((k:Int)+1)=((k+1:Nat):Int):=by rw[zQ (by omega) (by omega)];omega
  have h1:k<l.length:=by omega
  have h2:k+1<l.length:=by omega
  rw[zBK]
  simp only[e1,e2,decide_eq_true (show(k:Int)<((i-1:Nat):Int) by omega),cond_true,zAM,Bool.true_and,List.length_set,List.length_map,zP h1,zP h2,Int.toNat_natCast,List.getElem?_map,List.getElem?_eq_getElem h1,List.getElem?_eq_getElem h2,Option.map_some,Option.bind_some,zCv,zH]
  have h3:k+1<((l.map rowp).set k (rowp l[k+1])).length:=by simpa using h2
  rw[List.getElem?_eq_getElem h3]
  simp only[Option.bind_some]
  rw[zTo l k (k+1) h1 h2]
  exact zTq at_ i n (k+1) (sw l k (k+1)) (by omega) h0 (by rw[zGE];exact hi) (by rw[zGE];exact hl)
theorem zTr(at_:Int) (i:Nat):∀(n k:Nat) (l:List (List Val)),k=i+n→k<l.length→l.length≤1000000000 →
 zW (i:Int) (k:Int) (l.map rowp) at_=zDs (mvL n k l) at_
 | 0,k,l,h,hk,hl=>by
  rw[zBL,decide_eq_false (by omega)];rfl
 |n+1,k,l,h,h1,hl=>by
  have e2:IntKind.wrap .i64 ((k:Int)-1)=((k-1:Nat):Int):=by rw[zQ (by omega) (by omega)];omega
  have h2:k-1<l.length:=by omega
  rw[zBL]
  simp only[e2,decide_eq_true (show(k:Int)>(i:Int) by omega),cond_true,zAM,Bool.true_and,List.length_set,List.length_map,zP h1,zP h2,Int.toNat_natCast,List.getElem?_map,List.getElem?_eq_getElem h1,List.getElem?_eq_getElem h2,Option.map_some,Option.bind_some,zCv,zH]
  have h3:k-1<((l.map rowp).set k (rowp l[k-1])).length:=by simpa using h2
  rw[List.getElem?_eq_getElem h3]
  simp only[Option.bind_some]
  rw[zTo l k (k-1) h1 h2]
  exact zTr at_ i n (k-1) (sw l k (k-1)) (by omega) (by rw[zGE];omega) (by rw[zGE];exact hl)
theorem zP5(at_:Int) (a:Nat) (l:List (List Val)) (ha:a<l.length) (hl:l.length≤1000000000):∀(f lo hi:Nat),hi-lo≤f→lo≤hi→hi≤l.length →
 zT (a:Int) (lo:Int) (hi:Int) (l.map rowp) at_=zV ((bs (λ h=> !leO (leR at_) l a h) f lo hi:Nat):Int) (a:Int) (l.map rowp) at_
 | 0,lo,hi,h,hle,hh=>by
  rw[zBH,decide_eq_false (by omega)];rfl
 |f+1,lo,hi,h,hle,hh=>by
  rw[zBH]
  unfold bs
  rcases Nat.lt_or_ge lo hi with c | c
  ·have hm:(lo+hi) / 2<l.length:=by omega
   rw[if_pos c,zP4 at_ l a ((lo+hi) / 2) ha hm]
   simp only[zP c,cond_true,zTp lo hi (by omega),zAM,Bool.true_and,List.length_map,zP hm,zP ha,Int.toNat_natCast,List.getElem?_map,List.getElem?_eq_getElem hm,List.getElem?_eq_getElem ha,Option.map_some,Option.bind_some,zCv,zH,zP1,k_5b106d_mk,c_i64_mk,Bool.not_not]
   cases hd:decide (cmpB (keyR at_ l[(lo+hi) / 2]) (keyR at_ l[a])<0) with
   |true =>
    simp only[cond_true,if_true]
    rw[zI (by omega)]
    exact zP5 at_ a l ha hl f ((lo+hi) / 2+1) hi (by omega) (by omega) hh
   |false =>
    simp only[cond_false,Bool.false_eq_true,if_false]
    exact zP5 at_ a l ha hl f lo ((lo+hi) / 2) (by omega) (by omega) (by omega)
  ·rw[if_neg (by omega),decide_eq_false (by omega)];rfl
theorem zP6(at_:Int) (m:Nat) (l:List (List Val)) (ha:m<l.length) (hl:l.length≤1000000000):∀(f lo hi:Nat),hi-lo≤f→lo≤hi→hi≤l.length →
 zU (m:Int) (lo:Int) (hi:Int) (l.map rowp) at_=zW ((bs (λ h=>leO (leR at_) l h m) f lo hi:Nat):Int) (m:Int) (l.map rowp) at_
 | 0,lo,hi,h,hle,hh=>by
  rw[zBI,decide_eq_false (by omega)];rfl
 |f+1,lo,hi,h,hle,hh=>by
  rw[zBI]
  unfold bs
  rcases Nat.lt_or_ge lo hi with c | c
  ·have hm:(lo+hi) / 2<l.length:=by omega
   rw[if_pos c,zP4 at_ l ((lo+hi) / 2) m hm ha]
   simp only[zP c,cond_true,zTp lo hi (by omega),zAM,Bool.true_and,List.length_map,zP hm,zP ha,Int.toNat_natCast,List.getElem?_map,List.getElem?_eq_getElem hm,List.getElem?_eq_getElem ha,Option.map_some,Option.bind_some,zCv,zH,zP1,k_5b106d_mk,c_i64_mk]
   cases hd:decide (cmpB (keyR at_ l[m]) (keyR at_ l[(lo+hi) / 2])<0) with
   |false =>
    simp only[cond_true,Bool.not_false,if_true]
    rw[zI (by omega)]
    exact zP6 at_ m l ha hl f ((lo+hi) / 2+1) hi (by omega) (by omega) hh
   |true =>
    simp only[cond_false,Bool.not_true,Bool.false_eq_true,if_false]
    exact zP6 at_ m l ha hl f lo ((lo+hi) / 2) (by omega) (by omega) (by omega)
  ·rw[if_neg (by omega),decide_eq_false (by omega)];rfl
theorem zMI(at_:Int) (a m b mid n p:Nat) (l:List (List Val)) (hl:l.length≤1000000000) (hn:p=n-1) (R:Nat→Option (AV×List Ob))
 (hR:∀ st:Nat,st≤n→(bif decide ((st:Int)<(m:Int))then zE (a:Int) (m:Int) (b:Int) (mid:Int) (st:Int) (IntKind.wrap .i64 ((n:Int)-(st:Int))) (decide ((m:Int)<IntKind.wrap .i64 ((n:Int)-(st:Int)))) (l.map rowp) at_
  else zE (a:Int) (m:Int) (b:Int) (mid:Int) (st:Int) (IntKind.wrap .i64 ((n:Int)-(st:Int))) false (l.map rowp) at_)=R st):∀(f lo hi:Nat),hi-lo≤f→lo≤hi→hi≤l.length→p-lo<l.length→hi≤p+1→hi≤n →
 zX (a:Int) (m:Int) (b:Int) (mid:Int) (n:Int) (lo:Int) (hi:Int) (p:Int) (l.map rowp) at_=R (bs (λ c=>leO (leR at_) l c (n-1-c)) f lo hi)
 | 0,lo,hi,h,hle,hh,hp,hhp,hhn=>by
  rw[zBM,decide_eq_false (by omega)]
  exact hR lo (by omega)
 |f+1,lo,hi,h,hle,hh,hp,hhp,hhn=>by
  rw[zBM]
  unfold bs
  rcases Nat.lt_or_ge lo hi with c | c
  ·have hm:(lo+hi) / 2<l.length:=by omega
   have hq:p-(lo+hi) / 2<l.length:=by omega
   have e1:IntKind.wrap .i64 ((p:Int)-(((lo+hi) / 2:Nat):Int))=((p-(lo+hi) / 2:Nat):Int):=by rw[zQ (by omega) (by omega)];omega
   rw[if_pos c]
   have e2:leO (leR at_) l ((lo+hi) / 2) (n-1-(lo+hi) / 2)= !decide (cmpB (keyR at_ l[p-(lo+hi) / 2]) (keyR at_ l[(lo+hi) / 2])<0):=by
    subst hn;exact zP4 at_ l ((lo+hi) / 2) (n-1-(lo+hi) / 2) hm hq
   rw[e2]
   simp only[zP c,cond_true,zTp lo hi (by omega),e1,zAM,Bool.true_and,List.length_map,zP hm,zP hq,Int.toNat_natCast,List.getElem?_map,List.getElem?_eq_getElem hm,List.getElem?_eq_getElem hq,Option.map_some,Option.bind_some,zCv,zH,zP1,k_5b106d_mk,c_i64_mk]
   cases hd:decide (cmpB (keyR at_ l[p-(lo+hi) / 2]) (keyR at_ l[(lo+hi) / 2])<0) with
   |false =>
    simp only[cond_true,Bool.not_false,if_true]
    rw[zI (by omega)]
    exact zMI at_ a m b mid n p l hl hn R hR f ((lo+hi) / 2+1) hi (by omega) (by omega) hh (by omega) hhp hhn
   |true =>
    simp only[cond_false,Bool.not_true,Bool.false_eq_true,if_false]
    exact zMI at_ a m b mid n p l hl hn R hR f lo ((lo+hi) / 2) (by omega) (by omega) (by omega) hp (by omega) (by omega)
  ·rw[if_neg (by omega),decide_eq_false (by omega)]
   exact hR lo (by omega)
noncomputable abbrev symW (at_:Int) (a m b:Nat) (l:List (List Val)):Option (AV×List Ob) :=
 W zY false [.fx 0 0, .pv (.int .i64 (a:Int)), .pv (.int .i64 (m:Int)), .pv (.int .i64 (b:Int)), .fnv zD [] [.own 1 0]] [.fix 0 0 (l.map rowp), .var false 0 (.pv (.int .i64 at_))]
theorem zTs(at_:Int) (f:Nat) (ih:∀(a m b:Nat) (l:List (List Val)),a<m→m<b→b≤l.length→l.length≤1000000000→b-a≤f→symW at_ a m b l=zDs (symF (leR at_) f a m b l) at_)
 (a m b mid st en:Nat) (l:List (List Val)) (h1:a<b) (hmid:mid≤b) (hma:mid-a≤f) (hmb:b-mid≤f) (h2:en≤b) (hen:m≤en∨en≤m) (hb:b≤l.length) (hl:l.length≤1000000000) :
 (bif decide ((st:Int)<(m:Int))then zE (a:Int) (m:Int) (b:Int) (mid:Int) (st:Int) (en:Int) (decide ((m:Int)<(en:Int))) (l.map rowp) at_
  else zE (a:Int) (m:Int) (b:Int) (mid:Int) (st:Int) (en:Int) false (l.map rowp) at_)=zDs (symS (leR at_) f a m b mid st en l) at_:=by
 have h11:∀(l:List (List Val)),b≤l.length→l.length≤1000000000→zAO (b:Int) (mid:Int) (en:Int) (l.map rowp) at_=zDs (if mid<en∧en<b then symF (leR at_) f mid en b l else l) at_:=λ l hb hl=>by
  rw[zCa]
  by_cases c1:mid<en
  ·rw[zP c1,cond_true,zBD]
   by_cases c2:en<b
   ·rw[zP c2,cond_true,if_pos ⟨c1,c2⟩]
    have:=ih mid en b l c1 c2 hb hl hmb
    unfold symW at this
    rw[this]
    simp only[zDs,Option.bind_some,k_c4d914_mk]
   ·rw[decide_eq_false (by omega),cond_false,if_neg (λ h=>c2 h.2)];rfl
  ·rw[decide_eq_false (by omega),cond_false,zBD,cond_false,if_neg (λ h=>c1 h.1)];rfl
 have h9:∀(l l2:List (List Val)),l2=(if a<st∧st<mid then symF (leR at_) f a st mid l else l)→b≤l.length→l.length≤1000000000→zAT (a:Int) (b:Int) (mid:Int) (st:Int) (en:Int) (l.map rowp) at_ =
  zDs (if mid<en∧en<b then symF (leR at_) f mid en b l2 else l2) at_:=λ l l2 e hb hl=>by
  rw[zCh]
  by_cases c1:a<st
  ·rw[zP c1,cond_true,zBO]
   by_cases c2:st<mid
   ·rw[if_pos ⟨c1,c2⟩]at e
    subst e
    rw[zP c2,cond_true]
    have:=ih a st mid l c1 c2 (by omega) hl hma
    unfold symW at this
    rw[this]
    simp only[zDs,Option.bind_some,k_c4d914_mk]
    exact h11 _ (by rw[zI5];exact hb) (by rw[zI5];exact hl)
   ·rw[if_neg (λ h=>c2 h.2)]at e
    subst e
    rw[decide_eq_false (by omega),cond_false];exact h11 _ hb hl
  ·rw[if_neg (λ h=>c1 h.1)]at e
   subst e
   rw[decide_eq_false (by omega),cond_false,zBO,cond_false];exact h11 _ hb hl
 have e1:∃ l1:List (List Val),l1=if st<m∧m<en then rotG m (en-st) (m-st) (en-m) l else l:=⟨_,rfl⟩
 obtain⟨l1,e1⟩:=e1
 have hS:symS (leR at_) f a m b mid st en l=if mid<en∧en<b then symF (leR at_) f mid en b (if a<st∧st<mid then symF (leR at_) f a st mid l1 else l1)else(if a<st∧st<mid then symF (leR at_) f a st mid l1 else l1):=by rw[e1];rfl
 rw[hS]
 by_cases c1:st<m
 ·rw[zP c1,cond_true,zBN]
  by_cases c2:m<en
  ·rw[if_pos ⟨c1,c2⟩]at e1
   subst e1
   rw[zP c2,cond_true,zYs at_ st m en l c1 c2 (by omega) hl]
   simp only[zDs,Option.bind_some,k_c4d914_mk]
   exact h9 _ _ rfl (by rw[zKF];exact hb) (by rw[zKF];exact hl)
  ·rw[if_neg (λ h=>c2 h.2)]at e1
   subst e1
   rw[decide_eq_false (by omega),cond_false];exact h9 _ _ rfl hb hl
 ·rw[if_neg (λ h=>c1 h.1)]at e1
  subst e1
  rw[decide_eq_false (by omega),cond_false,zBN,cond_false];exact h9 _ _ rfl hb hl
theorem zI6(at_:Int):∀(f a m b:Nat) (l:List (List Val)),a<m→m<b→b≤l.length→l.length≤1000000000→b-a≤f→symW at_ a m b l=zDs (symF (leR at_) f a m b l) at_
 | 0,a,m,b,l,h1,h2,h3,h4,h5=>by omega
 |f+1,a,m,b,l,h1,h2,h3,h4,h5=>by
  have em:IntKind.wrap .i64 ((m:Int)-(a:Int))=((m-a:Nat):Int):=by rw[zQ (by omega) (by omega)];omega
  have eb:IntKind.wrap .i64 ((b:Int)-(m:Int))=((b-m:Nat):Int):=by rw[zQ (by omega) (by omega)];omega
  unfold symW
  rw[zDS,em,eb,zRM]
  by_cases c1:m-a=1
  ·rw[zKq (by omega),cond_true,if_pos c1,zP5 at_ a l (by omega) h4 (b-m) m b (by omega) (by omega) h3]
   have:=zVT (λ h=> !leO (leR at_) l a h) (b-m) m b (by omega)
   exact zTq at_ _ _ a l (by omega) (by omega) (by omega) h4
  ·rw[zEV (by omega),cond_false,if_neg c1]
   by_cases c2:b-m=1
   ·rw[zKq (by omega),cond_true,if_pos c2,zP6 at_ m l (by omega) h4 (m-a) a m (by omega) (by omega) (by omega)]
    have:=zVT (λ h=>leO (leR at_) l h m) (m-a) a m (by omega)
    exact zTr at_ _ _ m l (by omega) (by omega) h4
   ·rw[zEV (by omega),cond_false,if_neg c2,zTp a b (by omega)]
    have en:IntKind.wrap .i64 ((((a+b) / 2:Nat):Int)+(m:Int))=(((a+b) / 2+m:Nat):Int):=by rw[zQ (by omega) (by omega)];omega
    have ep:IntKind.wrap .i64 ((((a+b) / 2+m:Nat):Int)-1)=(((a+b) / 2+m-1:Nat):Int):=by rw[zQ (by omega) (by omega)];omega
    rw[en]
    by_cases c3:m>(a+b) / 2
    ·have es:IntKind.wrap .i64 ((((a+b) / 2+m:Nat):Int)-(b:Int))=(((a+b) / 2+m-b:Nat):Int):=by rw[zQ (by omega) (by omega)];omega
     have hb:=zVT (λ c=>leO (leR at_) l c ((a+b) / 2+m-1-c)) ((a+b) / 2-((a+b) / 2+m-b)) ((a+b) / 2+m-b) ((a+b) / 2) (by omega)
     rw[decide_eq_true (by omega),cond_true,if_pos c3,es,zBJ,ep]
     have k:=zMI at_ a m b ((a+b) / 2) ((a+b) / 2+m) ((a+b) / 2+m-1) l h4 rfl (λ st=>(bif decide ((st:Int)<(m:Int))then zE (a:Int) (m:Int) (b:Int) (((a+b) / 2:Nat):Int) (st:Int) (IntKind.wrap .i64 ((((a+b) / 2+m:Nat):Int)-(st:Int))) (decide ((m:Int)<IntKind.wrap .i64 ((((a+b) / 2+m:Nat):Int)-(st:Int)))) (l.map rowp) at_
      else zE (a:Int) (m:Int) (b:Int) (((a+b) / 2:Nat):Int) (st:Int) (IntKind.wrap .i64 ((((a+b) / 2+m:Nat):Int)-(st:Int))) false (l.map rowp) at_)) (λ st h=>rfl) ((a+b) / 2-((a+b) / 2+m-b)) ((a+b) / 2+m-b) ((a+b) / 2) (by omega) (by omega) (by omega) (by omega) (by omega) (by omega)
     rw[k]
     generalize bs (λ c=>leO (leR at_) l c ((a+b) / 2+m-1-c)) ((a+b) / 2-((a+b) / 2+m-b)) ((a+b) / 2+m-b) ((a+b) / 2)=st at hb
     have ee:IntKind.wrap .i64 ((((a+b) / 2+m:Nat):Int)-(st:Int))=(((a+b) / 2+m-st:Nat):Int):=by rw[zQ (by omega) (by omega)];omega
     rw[ee]
     exact zTs at_ f (λ a m b l h1 h2 h3 h4 h5=>zI6 at_ f a m b l h1 h2 h3 h4 h5) a m b ((a+b) / 2) st ((a+b) / 2+m-st) l (by omega) (by omega) (by omega) (by omega) (by omega) (by omega) h3 h4
    ·have hb:=zVT (λ c=>leO (leR at_) l c ((a+b) / 2+m-1-c)) (m-a) a m (by omega)
     rw[decide_eq_false (by omega),cond_false,if_neg c3,zBJ,ep]
     have k:=zMI at_ a m b ((a+b) / 2) ((a+b) / 2+m) ((a+b) / 2+m-1) l h4 rfl (λ st=>(bif decide ((st:Int)<(m:Int))then zE (a:Int) (m:Int) (b:Int) (((a+b) / 2:Nat):Int) (st:Int) (IntKind.wrap .i64 ((((a+b) / 2+m:Nat):Int)-(st:Int))) (decide ((m:Int)<IntKind.wrap .i64 ((((a+b) / 2+m:Nat):Int)-(st:Int)))) (l.map rowp) at_
      else zE (a:Int) (m:Int) (b:Int) (((a+b) / 2:Nat):Int) (st:Int) (IntKind.wrap .i64 ((((a+b) / 2+m:Nat):Int)-(st:Int))) false (l.map rowp) at_)) (λ st h=>rfl) (m-a) a m (by omega) (by omega) (by omega) (by omega) (by omega) (by omega)
     rw[k]
     generalize bs (λ c=>leO (leR at_) l c ((a+b) / 2+m-1-c)) (m-a) a m=st at hb
     have ee:IntKind.wrap .i64 ((((a+b) / 2+m:Nat):Int)-(st:Int))=(((a+b) / 2+m-st:Nat):Int):=by rw[zQ (by omega) (by omega)];omega
     rw[ee]
     exact zTs at_ f (λ a m b l h1 h2 h3 h4 h5=>zI6 at_ f a m b l h1 h2 h3 h4 h5) a m b ((a+b) / 2) st ((a+b) / 2+m-st) l (by omega) (by omega) (by omega) (by omega) (by omega) (by omega) h3 h4
end Go.Cf

namespace Go.Cf
open Go Go.Ab
set_option linter.unusedVariables false
set_option linter.unusedSimpArgs false
theorem zP7(at_:Int) (n:Nat) (hn:n≤1000000000):∀(f s:Nat) (l:List (List Val)),n<f+s→0<s→s≤2000000000→l.length=n →
 zAE (n:Int) (s:Int) (l.map rowp) at_=zDs (stL (leR at_) n f s l) at_
 | 0,s,l,h,h0,hs,hl=>by
  rw[zBY,decide_eq_false (by omega)];rfl
 |f+1,s,l,h,h0,hs,hl=>by
  rw[zBY]
  unfold stL
  by_cases c:s<n
  ·have e1:IntKind.wrap .i64 ((2:Int)*(s:Int))=((2*s:Nat):Int):=by rw[zQ (by omega) (by omega)];omega
   have e2:IntKind.wrap .i64 ((s:Int)*(2:Int))=((2*s:Nat):Int):=by rw[zQ (by omega) (by omega)];omega
   rw[zP c,cond_true,if_pos c,e1]
   have key:∀(g a:Nat) (l:List (List Val)),n<a+g→a≤n→l.length=n→zAY (n:Int) (s:Int) (a:Int) ((a+2*s:Nat):Int) (l.map rowp) at_=zDs (stL (leR at_) n f (2*s) (pass (leR at_) s n g a l)) at_:=by
    intro g
    induction g with
    |zero=>intro a l h1 h2 h3;omega
    |succ g ih =>
     intro a l h1 h2 h3
     have e3:IntKind.wrap .i64 ((a:Int)+(s:Int))=((a+s:Nat):Int):=by rw[zQ (by omega) (by omega)];omega
     have e4:IntKind.wrap .i64 (((a+2*s:Nat):Int)+((2*s:Nat):Int))=((a+2*s+2*s:Nat):Int):=by rw[zQ (by omega) (by omega)];omega
     rw[zDH,e3]
     unfold pass
     by_cases c1:a+2*s≤n
     ·have hm:=zI6 at_ (2*s) a (a+s) (a+2*s) l (by omega) (by omega) (by omega) (by omega) (by omega)
      unfold symW at hm
      rw[decide_eq_true (by omega),cond_true,if_pos c1,hm]
      simp only[zDs,Option.bind_some,k_c4d914_mk,e1,e4]
      exact ih (a+2*s) _ (by omega) c1 (by rw[zI5];exact h3)
     ·rw[decide_eq_false (by omega),cond_false,if_neg c1]
      by_cases c2:a+s<n
      ·have hm:=zI6 at_ (n-a) a (a+s) n l (by omega) (by omega) (by omega) (by omega) (by omega)
       unfold symW at hm
       rw[zP c2,cond_true,if_pos c2,hm]
       simp only[zDs,Option.bind_some,k_c4d914_mk,e2]
       exact zP7 at_ n hn f (2*s) _ (by omega) (by omega) (by omega) (by rw[zI5];exact h3)
      ·rw[decide_eq_false (by omega),cond_false,if_neg c2,e2]
       exact zP7 at_ n hn f (2*s) l (by omega) (by omega) (by omega) h3
   have:=key (n+1) 0 l (by omega) (by omega) hl
   rw[Nat.zero_add]at this
   exact this
  ·rw[decide_eq_false (by omega),cond_false,if_neg c];rfl
theorem zTt(at_:Int) (n:Nat) (hn:n≤1000000000):∀(f a:Nat) (l:List (List Val)),n<a+f→a≤n→l.length=n →
 zAX (n:Int) 20 (a:Int) ((a+20:Nat):Int) (l.map rowp) at_=zDs (stL (leR at_) n n 20 (blk1 (leR at_) n f a l)) at_
 | 0,a,l,h,ha,hl=>by omega
 |f+1,a,l,h,ha,hl=>by
  rw[zDG]
  unfold blk1
  by_cases c:a+20≤n
  ·have hi:=zNX at_ a (a+20) l (by omega) (by omega) (by omega)
   rw[decide_eq_true (by omega),cond_true,if_pos c,hi]
   have e1:IntKind.wrap .i64 (((a+20:Nat):Int)+20)=((a+20+20:Nat):Int):=by rw[zQ (by omega) (by omega)];omega
   simp only[zDs,Option.bind_some,k_c4d914_mk,e1]
   exact zTt at_ n hn f (a+20) _ (by omega) c (by unfold insB;rw[zP2];exact hl)
  ·have hi:=zNX at_ a n l (by omega) ha (by omega)
   rw[decide_eq_false (by omega),cond_false,if_neg c,hi]
   simp only[zDs,Option.bind_some,k_c4d914_mk]
   exact zP7 at_ n hn n 20 _ (by omega) (by omega) (by omega) (by unfold insB;rw[zP2];exact hl)
def zYt(at_:Int) (l:List (List Val)):List (List Val):=stL (leR at_) l.length l.length 20 (blk1 (leR at_) l.length (l.length+1) 0 l)
theorem zVU(at_:Int) (l:List (List Val)):Srt (leR at_) (zYt at_ l)∧Keeps (leR at_) l (zYt at_ l):=zSm (leR at_) (zXH at_) (zRL at_) l
theorem zRO(at_:Int) (l:List (List Val)) (hl:l.length≤1000000000) :
 W zA8 false [.fx 0 0, .fnv zD [] [.own 1 0]] [.fix 0 0 (l.map rowp), .var false 0 (.pv (.int .i64 at_))]=zDs (zYt at_ l) at_:=by
 rw[zCO,zDa,List.length_map]
 have:=zTt at_ l.length hl (l.length+1) 0 l (by omega) (by omega) rfl
 rw[Nat.zero_add]at this
 simp only[Int.cast_ofNat_Int]at this
 rw[this]
 simp only[zDs,Option.bind_some,k_c4d914_mk]
 rfl
theorem zO0(D E:List PV) (c:List Int) (l:List (List Val)) (hl:l.length≤1000000000) (hr:∀ x∈l,x.length≤4294967296):∀(k i:Nat) (acc:List (List Val)),i+k=l.length→acc.length=i →
 zCs (l.map rowp) (l.length:Int) (i:Int) D E (c.map intp) (acc.map rowp)=some (.agg [.pv (.slice 0 (c.map intp)), .view 0 0 none],[.row false 0 0 ((acc++l.drop i).map rowp)])
 | 0,i,acc,h,ha=>by
  rw[zGB,show i=l.length by omega]
  simp only[zBz,cond_false,List.drop_length,List.append_nil]
 |k+1,i,acc,h,ha=>by
  have hi:i<l.length:=by omega
  rw[zGB]
  have hc:=zCU (l[i].map Val.pv) (by rw[List.length_map];exact hr _ (List.getElem_mem hi))
  have hb:=zQx (l[i].map Val.pv)
  rw[zH]at hc hb
  simp only[zP hi,zAM,cond_true,Int.toNat_natCast,List.getElem?_map,List.getElem?_eq_getElem hi,Option.map_some,Option.bind_some,zCv,zH,hb,hc,c_b_mk,List.length_map,Bool.true_and,decide_eq_true (show acc.length+1≤4294967296 by omega)]
  rw[zI (by omega)]
  have:=zO0 D E c l hl hr k (i+1) (acc++[l[i]]) (by omega) (by simp[ha])
  rw[List.map_append]at this
  rw[show [rowp l[i]]=[l[i]].map rowp from rfl,this,List.drop_eq_getElem_cons hi,List.append_assoc];rfl
def z2d(c:List Int) (r:List (List Val)) (col:Int):List (List Val):=zYt (idxI c (λ x=>col==x)) r
theorem z2e(c:List Int) (r:List (List Val)) (col:Int) (hc:c.length≤4294967296) (hl:r.length≤1000000000) (hr:∀ x∈r,x.length≤4294967296):wc W zKd [bagp c r, .int .i64 col]=some (bagp c (z2d c r col)):=by
 have h:=zVC (c.map intp) (r.map rowp) col
 have h2:=zNL (c.map intp) (r.map rowp)
 have h3:=zC9 (c.map intp) (by rw[List.length_map];exact hc)
 have h4:=zO0 [] [] c r hl hr r.length 0 [] (by omega) rfl
 simp only[List.map_nil,List.nil_append,List.drop_zero]at h4
 rw[h3]at h2
 simp only[Option.bind_some,c_s0_mk,List.length_map]at h2
 rw[show((0:Nat):Int)=0 from rfl]at h4
 rw[h4]at h2
 rw[zA,zR,zAA]at h h2
 rw[h,h2,zJX c col (by omega)]
 unfold zBV
 simp only[Option.bind_some,k_8de13e_mk,c_i64_mk]
 rw[zRO _ r hl]
 simp only[zDs,Option.bind_some,k_c4d914_mk]
 rfl
def ordB(at_:Int):List (List Val)→Bool
 | []=>true
 | [_]=>true
 |x::y::r=>leR at_ x y&&ordB at_ (y::r)
theorem zMJ(at_:Int):∀(l:List (List Val)),ordB at_ l=true↔Srt (leR at_) l
 | []=>by simp[ordB]
 | [x]=>by simp[ordB]
 |x::y::r=>by
  unfold ordB
  rw[Bool.and_eq_true,zMJ at_ (y::r)]
  constructor
  ·rintro⟨h1,h2⟩
   refine List.pairwise_cons.2 ⟨λ z hz=> ?_,h2⟩
   rcases List.mem_cons.1 hz with rfl | hz
   ·exact h1
   ·exact zRL at_ _ _ _ h1 ((List.pairwise_cons.1 h2).1 z hz)
  ·intro h
   have:=List.pairwise_cons.1 h
   exact⟨this.1 y (by simp),this.2⟩
end Go.Cf

namespace Go.Cf
open Go Go.Ab
set_option linter.unusedVariables false
set_option linter.unusedSimpArgs false
abbrev Ky:=Int×Int
abbrev GM:=List (Ky×List (List Val))
def mpG(m:GM):List (PV×PV):=m.map λ x=>(keyP x.1,tabp x.2)
@[simp] theorem zKG(k:Ky):PV.agg [.int .i64 k.1, .int .i64 k.2]=keyP k:=rfl
@[simp] theorem keyP_mk(k:Ky) {R:Type} (f:Int→Int→Option R):zB (keyP k) f=f k.1 k.2:=rfl
theorem eqK(a b:Ky):eqP cfg 6 100 (keyP a) (keyP b)=some (decide (a=b)):=by
 have h:eqP cfg 6 100 (keyP a) (keyP b)=(bif (a.1==b.1)then(bif (a.2==b.2)then some true else some false)else some false):=by rfl
 rw[h]
 obtain⟨a1,a2⟩:=a
 obtain⟨b1,b2⟩:=b
 simp only[Prod.mk.injEq]
 rw[Bool.decide_and]
 show _=some ((a1==b1)&&(a2==b2))
 cases a1==b1<;>cases a2==b2<;>rfl
theorem z3Y(a:Ky):zNc (keyP a) (keyP a)=true:=by
 show(zUP _ _&&_)=true
 simp[zUP,zPw]
def putG(k:Ky) (x:List Val):GM→GM
 | []=>[(k,[x])]
 |y::r=>if k=y.1 then(y.1,y.2++[x])::r else y::putG k x r
def getG(k:Ky):GM→Option (List (List Val))
 | []=>none
 |y::r=>if k=y.1 then some y.2 else getG k r
theorem zP8(k:Ky):∀ m:GM,zIa (eqP cfg 6 100) (keyP k) (mpG m)=some ((getG k m).map tabp)
 | []=>rfl
 |y::r=>by
  show zIa (eqP cfg 6 100) (keyP k) ((keyP y.1,tabp y.2)::mpG r)=_
  simp only[zIa,eqK,Option.bind_some,getG]
  by_cases h:k=y.1
  ·rw[decide_eq_true h,if_pos h];rfl
  ·rw[decide_eq_false h,if_neg h];exact zP8 k r
def idxG(k:Ky):GM→Nat
 | []=>0
 |y::r=>if k=y.1 then 0 else idxG k r+1
theorem zZ7(k:Ky):∀ m:GM,gidx (eqP cfg 6 100) (keyP k) (mpG m)=some (idxG k m)
 | []=>rfl
 |y::r=>by
  show gidx (eqP cfg 6 100) (keyP k) ((keyP y.1,tabp y.2)::mpG r)=_
  simp only[gidx,eqK,Option.bind_some,idxG]
  by_cases h:k=y.1
  ·rw[decide_eq_true h,if_pos h,←h,z3Y];rfl
  ·rw[decide_eq_false h,if_neg h,cond_false,zZ7 k r];rfl
theorem zZ8(k:Ky):∀ m:GM,zRg 0 (idxG k m) (mpG m)=some (((getG k m).getD []).map rowp)
 | []=>rfl
 |y::r=>by
  simp only[idxG,getG]
  by_cases h:k=y.1
  ·rw[if_pos h,if_pos h];rfl
  ·rw[if_neg h,if_neg h]
   have:=zZ8 k r
   unfold zRg at this ⊢
   show(match (mpG r)[idxG k r]? with | none=>some [] | some e=>e.2.asSlice 0)=_
   exact this
theorem z2f(k:Ky) (x:List Val):∀ m:GM,gset (.slice 0 ((((getG k m).getD []).map rowp)++[rowp x])) (idxG k m) (gput (keyP k) 0 (idxG k m) (mpG m))=mpG (putG k x m)
 | []=>rfl
 |y::r=>by
  simp only[idxG,getG,putG]
  by_cases h:k=y.1
  ·rw[if_pos h,if_pos h,if_pos h]
   have e:gput (keyP k) 0 0 (mpG (y::r))=(keyP k,tabp y.2)::mpG r:=by
    unfold gput
    rw[decide_eq_true (by show 0<(mpG (y::r)).length;simp[mpG])];rfl
   rw[e]
   unfold gset
   show(keyP k,PV.slice 0 (y.2.map rowp++[rowp x]))::mpG r=(keyP y.1,tabp (y.2++[x]))::mpG r
   rw[h];unfold tabp;rw[List.map_append];rfl
  ·rw[if_neg h,if_neg h,if_neg h]
   have ih:=z2f k x r
   have e:gput (keyP k) 0 (idxG k r+1) (mpG (y::r))=(keyP y.1,tabp y.2)::gput (keyP k) 0 (idxG k r) (mpG r):=by
    unfold gput
    have hl:(mpG (y::r)).length=(mpG r).length+1:=by simp[mpG]
    by_cases hlt:idxG k r<(mpG r).length
    ·rw[decide_eq_true (by omega),decide_eq_true hlt];rfl
    ·rw[decide_eq_false (by omega),decide_eq_false hlt];rfl
   rw[e]
   have e2:∀ v,gset v (idxG k r+1) ((keyP y.1,tabp y.2)::gput (keyP k) 0 (idxG k r) (mpG r))=(keyP y.1,tabp y.2)::gset v (idxG k r) (gput (keyP k) 0 (idxG k r) (mpG r)):=λ v=>by unfold gset;rfl
   rw[e2,ih];rfl
def zHZ(at_:Int):List (List Val)→GM→GM
 | [],m=>m
 |x::r,m=>zHZ at_ r (putG (keyR at_ x) x m)
def zLs(at_:Int):List (List Val)→GM→List Ky→List Ky
 | [],_,ks=>ks
 |x::r,m,ks=>zLs at_ r (putG (keyR at_ x) x m) (if getG (keyR at_ x) m=none then ks++[keyR at_ x]else ks)
def ne1(m:GM):Prop:=∀ x∈m,x.2≠[]
theorem zXK{k:Ky} {x:List Val}:∀{m:GM},ne1 m→ne1 (putG k x m)
 | [],_=>λ y hy=>by simp[putG]at hy;subst hy;simp
 |z::r,h=>λ y hy=>by
  unfold putG at hy
  split at hy
  ·rcases List.mem_cons.1 hy with rfl | hy
   ·simp
   ·exact h y (by simp[hy])
  ·rcases List.mem_cons.1 hy with rfl | hy
   ·exact h y (by simp)
   ·exact zXK (λ w hw=>h w (by simp[hw])) y hy
theorem zXL{k:Ky}:∀{m:GM},ne1 m→∀ l,getG k m=some l→l≠[]
 | [],_,l,h=>by cases h
 |z::r,hm,l,h=>by
  unfold getG at h
  split at h
  ·simp only[Option.some.injEq]at h;subst h;exact hm z (by simp)
  ·exact zXL (λ w hw=>hm w (by simp[hw])) l h
theorem zNY(at_:Int):∀(r:List (List Val)) (m:GM) (ks:List Ky),(zLs at_ r m ks).length≤ks.length+r.length
 | [],_,ks=>by simp[zLs]
 |x::r,m,ks=>by
  unfold zLs
  refine Nat.le_trans (zNY at_ r _ _) ?_
  split<;>simp<;>omega
def zP9:GM→Nat
 | []=>0
 |y::r=>y.2.length+zP9 r
theorem zRP(k:Ky) (x:List Val):∀ m,zP9 (putG k x m)=zP9 m+1
 | []=>rfl
 |y::r=>by
  unfold putG
  split
  ·simp only[zP9,List.length_append,List.length_singleton];omega
  ·simp only[zP9,zRP k x r];omega
theorem zRQ(k:Ky):∀ m l,getG k m=some l→l.length≤zP9 m
 | [],l,h=>by cases h
 |y::r,l,h=>by
  unfold getG at h
  split at h
  ·simp only[Option.some.injEq]at h;subst h;simp[zP9]
  ·have:=zRQ k r l h;simp only[zP9];omega
theorem zZ9(by_ at_:Int) (sums:List PV) (c:List PV) (B:List PV) (R:GM→List Ky→Option PV) (r:List (List Val)) (hr:r.length≤1000000000)
 (hR:∀(m:GM) (ks:List Ky),ks.length≤r.length→(W zAJ false [(AV.fx 0 3),(AV.pv (.fn zB4 [] []))] [(Ob.fix 0 3 (ks.map keyP))]).bind (λ v45=>zMC v45 λ v46 v47=>zDE sums c B (sums.length:Int) 0 (mpG m) [] v47 [(.int .i64 by_),(.int .i64 16)] [] [] [])=R m ks) :
 ∀(k i:Nat) (m:GM) (ks:List Ky),i+k=r.length→ks.length≤i→zP9 m=i→ne1 m →
 zFB by_ sums c B at_ (r.map rowp) (r.length:Int) (i:Int) (mpG m) [] (ks.map keyP)=R (zHZ at_ (r.drop i) m) (zLs at_ (r.drop i) m ks)
 | 0,i,m,ks,h,hk,hs,hn=>by
  rw[zHQ,show i=r.length by omega]
  simp only[zBz,cond_false,List.drop_length,zHZ,zLs]
  exact hR m ks (by omega)
 |k+1,i,m,ks,h,hk,hs,hn=>by
  have hi:i<r.length:=by omega
  rw[zHQ,List.drop_eq_getElem_cons hi,zHZ,zLs]
  have hget:∀ o:Option (List (List Val)),PV.asSlice 0 ((o.map tabp).getD (.slice 0 []))=some ((o.getD []).map rowp):=λ o=>by cases o<;>rfl
  simp only[zP hi,zAM,cond_true,Int.toNat_natCast,List.getElem?_map,List.getElem?_eq_getElem hi,Option.map_some,Option.bind_some,zCv,zH,zNV,c_g_i64_i64_mk,zKG,keyP_mk,zP8,hget,List.length_map]
  have step:∀(ks' :List Ky),ks'.length≤i+1→zFC by_ sums c B at_ (r[i].map Val.pv) (r.map rowp) (r.length:Int) (i:Int) (mpG m) [] (ks'.map keyP) (keyR at_ r[i]).1 (keyR at_ r[i]).2=R (zHZ at_ (r.drop (i+1)) (putG (keyR at_ r[i]) r[i] m)) (zLs at_ (r.drop (i+1)) (putG (keyR at_ r[i]) r[i] m) ks'):=λ ks' hk' =>by
   have hsz:((getG (keyR at_ r[i]) m).getD []).length≤i:=by
    cases hg:getG (keyR at_ r[i]) m with
    |none=>simp
    |some l=>have:=zRQ _ _ _ hg;simpa [hs]using this
   rw[zLh]
   simp only[zKG,zZ7,zZ8,Option.bind_some,List.length_map,zH,z2f,decide_true,Bool.and_self,cond_true,Bool.true_and,decide_eq_true (show((getG (keyR at_ r[i]) m).getD []).length+1≤4294967296 by omega)]
   rw[zI (by omega)]
   exact zZ9 by_ at_ sums c B R r hr hR k (i+1) _ ks' (by omega) hk' (by rw[zRP,hs]) (zXK hn)
  cases hg:getG (keyR at_ r[i]) m with
  |none =>
   have:=step (ks++[keyR at_ r[i]]) (by simp;omega)
   rw[List.map_append]at this
   simp only[Option.getD_none,List.length_nil,Int.natCast_zero,beq_self_eq_true,cond_true,Bool.true_and,if_true,decide_eq_true (show ks.length+1≤4294967296 by omega)]
   exact this
  |some l =>
   have hl:=zXL hn l hg
   have hpos:0<l.length:=List.length_pos_iff.2 hl
   have:=step ks (by omega)
   simp only[Option.getD_some,if_neg (show ¬ (some l=none) by simp)]
   rw[zEV (by omega),cond_false]
   exact this
theorem zZa(sums:List Int) (c B:List PV) (m:List (PV×PV)) (h1 l55 l57 l58 l59:List PV) (hs:sums.length≤100):∀(k i:Nat) (acc:List Int),i+k=sums.length→acc.length≤2+i →
 zDE (sums.map intp) c B (sums.length:Int) (i:Int) m h1 l55 (acc.map intp) l57 l58 l59=zDF (sums.map intp) c B (l55.length:Int) 0 m h1 l55 ((acc++(List.range' (17+i) k).map λ n:Nat=>(n:Int)).map intp) l57 l58 l59
 | 0,i,acc,h,ha=>by
  rw[zHR,show i=sums.length by omega]
  simp
 |k+1,i,acc,h,ha=>by
  rw[zHR]
  simp only[zP (show i<sums.length by omega),cond_true,List.length_map,Bool.true_and,decide_eq_true (show acc.length+1≤4294967296 by omega)]
  rw[zI (by omega),show IntKind.wrap .i64 ((17:Int)+(i:Int))=((17+i:Nat):Int) by rw[zQ (by omega) (by omega)];omega]
  have:=zZa sums c B m h1 l55 l57 l58 l59 hs k (i+1) (acc++[((17+i:Nat):Int)]) (by omega) (by simp;omega)
  rw[List.map_append]at this
  rw[show [PV.int .i64 ((17+i:Nat):Int)]=[((17+i:Nat):Int)].map intp from rfl,this,List.range'_succ,List.map_cons,List.append_assoc];rfl
def colG(c:List Int) (rows:List (List Val)) (s:Int):Val:=sumV (rows.map λ x=>zDT c x s)
def rowG(c:List Int) (sums:List Int) (k:Ky) (rows:List (List Val)):List Val:=⟨k.1,k.2⟩::⟨0,(rows.length:Int)⟩::sums.map (colG c rows)
theorem zZb(sums:List PV) (c:List Int) (s:Int) (hin:inC c s=true) (rows:List (List Val)) (hw:∀ x∈rows,x.length=c.length∧ROk x) (hl:rows.length≤1000000000) (B:List PV) (A:List PV) (n5 i5 n6 i6:Int) (m:List (PV×PV)) (h1 l55 l56 l57 l58 l59:List PV) (a b:Int) (row:List Val) (hrow:row.length≤1000) :
 ∀(k i:Nat) (acc:List Val),i+k=rows.length→acc=(rows.take i).map (λ x=>zDT c x s) →
 zFD sums (c.map intp) B (idxI c (λ y=>s==y)) n5 i5 A n6 i6 (tabp rows) (rows.length:Int) (i:Int) m h1 l55 l56 l57 l58 l59 a b (row.map Val.pv) (acc.map Val.pv) =
  zEC sums (c.map intp) B n5 i5 A n6 (IntKind.wrap .i64 (i6+1)) m h1 l55 l56 l57 l58 l59 a b ((row++[colG c rows s]).map Val.pv)
 | 0,i,acc,h,ha=>by
  have hi:i=rows.length:=by omega
  subst hi
  rw[List.take_length]at ha
  rw[zHU]
  have hok:ROk acc:=by
   subst ha
   intro v hv
   obtain⟨x,hx,rfl⟩:=List.mem_map.1 hv
   exact zP0 c (hw x hx).2 s
  have hs:=z3X acc hok (by subst ha;rw[List.length_map];omega)
  simp only[zBz,cond_false,zH,hs,Option.bind_some,Val.c_mk,List.length_map,Bool.true_and,decide_eq_true (show row.length+1≤4294967296 by omega),cond_true,Val.fold]
  subst ha
  rw[List.map_append];rfl
 |k+1,i,acc,h,ha=>by
  have hi:i<rows.length:=by omega
  have hx:=hw _ (List.getElem_mem hi)
  obtain⟨h1',h2'⟩:=zFI hin hx.1
  rw[zHU]
  have hal:acc.length=i:=by subst ha;rw[List.length_map,List.length_take];omega
  simp only[zP hi,zAM,cond_true,Int.toNat_natCast,tabp,PV.asSlice,BEq.rfl,List.getElem?_map,List.getElem?_eq_getElem hi,Option.map_some,Option.bind_some,zCv,decide_eq_true h2',h1',Val.c_mk,List.length_map,Bool.true_and,decide_eq_true (show acc.length+1≤4294967296 by omega),Val.fold]
  rw[zI (by omega)]
  have:=zZb sums c s hin rows hw hl B A n5 i5 n6 i6 m h1 l55 l56 l57 l58 l59 a b row hrow k (i+1) (acc++[zDT c rows[i] s]) (by omega) (by rw[ha,←List.take_append_getElem hi,List.map_append];rfl)
  rw[List.map_append]at this
  exact this
theorem zZc(sums:List Int) (c:List Int) (hin:∀ s∈sums,inC c s=true) (hs:sums.length≤100) (hc:c.length≤9223372036854775807) (rows:List (List Val)) (hw:∀ x∈rows,x.length=c.length∧ROk x) (hl:rows.length≤1000000000) (B:List PV) (n5 i5:Int) (m:GM) (kk:Ky) (hg:getG kk m=some rows) (h1 l55 l56 l57 l58:List PV) (out:List (List Val)) (ho:out.length≤1000000000) :
 ∀(k i:Nat) (row:List Val),i+k=sums.length→row=⟨kk.1,kk.2⟩::⟨0,(rows.length:Int)⟩::(sums.take i).map (colG c rows) →
 zEC (sums.map intp) (c.map intp) B n5 i5 (sums.map intp) (sums.length:Int) (i:Int) (mpG m) h1 l55 l56 l57 l58 (out.map rowp) kk.1 kk.2 (row.map Val.pv) =
  zDF (sums.map intp) (c.map intp) B n5 (IntKind.wrap .i64 (i5+1)) (mpG m) h1 l55 l56 l57 l58 ((out++[rowG c sums kk rows]).map rowp)
 | 0,i,row,h,hr=>by
  have hi:i=sums.length:=by omega
  subst hi
  rw[List.take_length]at hr
  rw[zHT]
  simp only[zBz,cond_false,List.length_map,Bool.true_and,decide_eq_true (show out.length+1≤4294967296 by omega),cond_true,zH]
  subst hr
  rw[List.map_append];rfl
 |k+1,i,row,h,hr=>by
  have hi:i<sums.length:=by omega
  rw[zHT]
  have hix:=zJX c sums[i] hc
  have hrl:row.length=i+2:=by subst hr;simp;omega
  simp only[zP hi,zAM,cond_true,Int.toNat_natCast,List.getElem?_map,List.getElem?_eq_getElem hi,Option.map_some,Option.bind_some,zG6,zA,hix,c_i64_mk,zKG,zP8,hg,Option.getD_some,tabp,PV.asSlice,BEq.rfl,List.length_map]
  have h7:=zZb (sums.map intp) c sums[i] (hin _ (List.getElem_mem hi)) rows hw hl B (sums.map intp) n5 i5 (sums.length:Int) (i:Int) (mpG m) h1 l55 l56 l57 l58 (out.map rowp) kk.1 kk.2 row (by omega) rows.length 0 [] (by omega) (by simp)
  refine h7.trans ?_
  rw[zI (by omega)]
  exact zZc sums c hin hs hc rows hw hl B n5 i5 m kk hg h1 l55 l56 l57 l58 out ho k (i+1) (row++[colG c rows sums[i]]) (by omega) (by rw[hr,←List.take_append_getElem hi,List.map_append];rfl)
theorem zZd(sums:List Int) (c:List Int) (hin:∀ s∈sums,inC c s=true) (hs:sums.length≤100) (hc:c.length≤9223372036854775807) (B:List PV) (m:GM) (ks:List Ky) (hk:ks.length≤1000000000) (hm:∀ k∈ks,∃ rows,getG k m=some rows∧rows.length≤1000000000∧∀ x∈rows,x.length=c.length∧ROk x) (h1 l57 l58:List PV) (cols:List Int) :
 ∀(k i:Nat) (out:List (List Val)),i+k=ks.length→out.length=i →
 zDF (sums.map intp) (c.map intp) B (ks.length:Int) (i:Int) (mpG m) h1 (ks.map keyP) (cols.map intp) l57 l58 (out.map rowp)=some (.tup [bagp cols (out++(ks.drop i).map λ k=>rowG c sums k ((getG k m).getD [])), .bool true])
 | 0,i,out,h,ho=>by
  rw[zHS,show i=ks.length by omega]
  simp only[zBz,cond_false,List.drop_length,List.map_nil,List.append_nil];rfl
 |k+1,i,out,h,ho=>by
  have hi:i<ks.length:=by omega
  obtain⟨rows,hg,hrl,hw⟩:=hm _ (List.getElem_mem hi)
  rw[zHS]
  have hv:=zME (rows.length:Int)
  simp only[zP hi,zAM,Bool.and_self,cond_true,Int.toNat_natCast,Nat.zero_add,List.length_map,List.getElem?_map,List.getElem?_eq_getElem hi,Option.map_some,Option.bind_some,keyP_mk,zKG,zP8,hg,Option.getD_some,tabp,PV.asSlice,BEq.rfl,hv,c_g_i64_i64_mk]
  have h6:=zZc sums c hin hs hc rows hw hrl B (ks.length:Int) (i:Int) m ks[i] hg h1 (ks.map keyP) (cols.map intp) l57 l58 out (by omega) sums.length 0 [⟨ks[i].1,ks[i].2⟩,⟨0,(rows.length:Int)⟩] (by omega) (by simp)
  refine h6.trans ?_
  rw[zI (by omega)]
  have:=zZd sums c hin hs hc B m ks hk hm h1 l57 l58 cols k (i+1) (out++[rowG c sums ks[i] rows]) (by omega) (by simp[ho])
  rw[this,List.drop_eq_getElem_cons hi,List.map_cons,hg,List.append_assoc];rfl
end Go.Cf

namespace Go.Cf
open Go Go.Ab
set_option linter.unusedVariables false
set_option linter.unusedSimpArgs false
theorem zYu(l:List Int) (g:Nat) (fs cs:List PV) (f:Int→Bool) (hl:l.length≤9223372036854775807) (hf:∀ x∈l,wc W g (fs++[.int .i64 x]++cs)=some (.bool (f x))) :
 wc W zBl [zBV l, .fn g fs cs]=some (.int .i64 (idxI l f)):=by
 unfold zBV
 rw[zFj,List.length_map]
 refine zI3 (λ i=>zAv (l.map intp) (.fn g fs cs) l.length i) l f (λ n=>some (.int .i64 n)) (λ i hi=> ?_) ?_
 ·rw[zCL]
  simp only[zP hi,zAM,cond_true,Int.toNat_natCast,List.getElem?_map,List.getElem?_eq_getElem hi,Option.map_some,Option.bind_some,zG6,asFn_mk]
  rw[hf _ (List.getElem_mem hi),zQ (by omega) (by omega)]
  simp only[Option.bind_some,c_b_mk]
 ·rw[zCL];simp
theorem zPa(l:List Int) (g:Nat) (fs cs:List PV) (f:Int→Bool) (hl:l.length≤9223372036854775807) (hf:∀ x∈l,wc W g (fs++[.int .i64 x]++cs)=some (.bool (f x))) :
 wc W zA0 [zBV l, .fn g fs cs]=some (.bool (l.any f)):=by
 have h:=zEj (l.map intp) (.fn g fs cs)
 rw[zA]at h
 rw[h,zYu l g fs cs f hl hf]
 simp[← zI2]
theorem zKs(l:List Int) (n:Int) (hl:l.length≤9223372036854775807):wc W zAk [zBV l, .int .i64 n]=some (.bool (inC l n)):=by
 have h:=zGK (l.map intp) n
 rw[zA,zJX l n hl]at h
 rw[h]
 have h1:decide (idxI l (λ y=>n==y)≥0)=inC l n:=by
  have:=zJY (c:=l) (x:=n)
  by_cases hh:idxI l (λ y=>n==y)<0
  ·rw[decide_eq_true hh]at this
   rw[decide_eq_false (by omega)]
   cases h2:inC l n with
   |false=>rfl
   |true=>rw[h2]at this;cases this
  ·rw[decide_eq_false hh]at this
   rw[decide_eq_true (by omega)]
   cases h2:inC l n with
   |true=>rfl
   |false=>rw[h2]at this;cases this
 simp only[Option.bind_some,c_i64_mk,h1]
end Go.Cf

namespace Go.Cf
open Go Go.Ab
set_option linter.unusedVariables false
set_option linter.unusedSimpArgs false
def hasK(at_:Int) (k:Ky) (x:List Val):Bool:=decide (k=keyR at_ x)
theorem zMK(k q:Ky) (x:List Val):∀ m:GM,getG k (putG q x m)=if k=q then some ((getG k m).getD []++[x])else getG k m
 | []=>by simp only[putG,getG];split<;>simp
 |y::r=>by
  by_cases h:q=y.1
  ·simp only[putG,if_pos h,getG]
   by_cases hk:k=q
   ·rw[if_pos hk,if_pos (hk.trans h),if_pos (hk.trans h)];rfl
   ·rw[if_neg hk,if_neg (λ e=>hk (e.trans h.symm)),if_neg (λ e=>hk (e.trans h.symm))]
  ·simp only[putG,if_neg h,getG]
   by_cases hk:k=y.1
   ·rw[if_pos hk,if_pos hk,if_neg (λ e=>h (e.symm.trans hk))]
   ·rw[if_neg hk,if_neg hk,zMK k q x r]
theorem zRR(at_:Int) (k:Ky):∀(r:List (List Val)) (m:GM),(getG k (zHZ at_ r m)).getD []=(getG k m).getD []++r.filter (hasK at_ k)
 | [],m=>by simp[zHZ]
 |x::r,m=>by
  rw[zHZ,zRR at_ k r,zMK,List.filter_cons]
  unfold hasK
  by_cases h:k=keyR at_ x
  ·rw[if_pos h,decide_eq_true h];simp
  ·rw[if_neg h,decide_eq_false h];simp
theorem zRS(at_:Int) (k:Ky):∀(r:List (List Val)) (m:GM),(getG k (zHZ at_ r m)≠none)↔(getG k m≠none∨∃ x∈r,k=keyR at_ x)
 | [],m=>by simp[zHZ]
 |x::r,m=>by
  rw[zHZ,zRS at_ k r,zMK]
  by_cases h:k=keyR at_ x
  ·rw[if_pos h];simp[h]
  ·rw[if_neg h];simp[h]
theorem zI7(at_:Int):∀(r:List (List Val)) (m:GM) (ks:List Ky),(∀ k,k∈ks↔getG k m≠none)→ks.Nodup→(zLs at_ r m ks).Nodup∧∀ k,k∈zLs at_ r m ks↔getG k (zHZ at_ r m)≠none
 | [],m,ks,h,hn=>⟨hn,h⟩
 |x::r,m,ks,h,hn=>by
  rw[zLs,zHZ]
  refine zI7 at_ r _ _ (λ k=> ?_) ?_
  ·rw[zMK]
   by_cases hx:getG (keyR at_ x) m=none
   ·rw[if_pos hx,List.mem_append,h k,List.mem_singleton]
    by_cases e:k=keyR at_ x
    ·rw[if_pos e];simp[e]
    ·rw[if_neg e];simp[e]
   ·rw[if_neg hx,h k]
    by_cases e:k=keyR at_ x
    ·rw[if_pos e,e];simp[hx]
    ·rw[if_neg e]
  ·split
   ·rename_i hx
    refine List.nodup_append.2 ⟨hn,by simp,λ a ha b hb=> ?_⟩
    simp only[List.mem_singleton]at hb
    subst hb
    intro e;subst e
    exact(h _).1 ha hx
   ·exact hn
def zFb(at_:Int) (r:List (List Val)):List Ky:=zLs at_ r [] []
theorem zHB(at_:Int) (r:List (List Val)):(zFb at_ r).Nodup:=(zI7 at_ r [] [] (λ k=>by simp[getG]) (by simp)).1
theorem zIA(at_:Int) (r:List (List Val)) (k:Ky):k∈zFb at_ r↔∃ x∈r,k=keyR at_ x:=by
 unfold zFb
 rw[(zI7 at_ r [] [] (λ k=>by simp[getG]) (by simp)).2 k,zRS]
 simp[getG]
theorem zRT(at_:Int) (r:List (List Val)) (k:Ky) (h:k∈zFb at_ r):getG k (zHZ at_ r [])=some (r.filter (hasK at_ k)):=by
 have h1:=(zI7 at_ r [] [] (λ k=>by simp[getG]) (by simp)).2 k |>.1 h
 have h2:=zRR at_ k r []
 cases hg:getG k (zHZ at_ r []) with
 |none=>exact absurd hg h1
 |some l=>rw[hg]at h2;simpa [getG]using h2
def zSo(by_:Int) (n:Nat):List Int:=by_::16::(List.range' 17 n).map λ n:Nat=>(n:Int)
def zKt(c:List Int) (r:List (List Val)) (by_:Int) (sums:List Int):List (List Val) :=
 (zA6 (zFb (idxI c λ x=>by_==x) r)).map λ k=>rowG c sums k (r.filter (hasK (idxI c λ x=>by_==x) k))
def zIB(c:List Int) (r:List (List Val)) (by_:Int) (sums:List Int):Option (List Int×List (List Val)) :=
 bif mayB c r&&inC c by_&&decide (sums.length≤4)&&sums.all (inC c)then some (zSo by_ sums.length,zKt c r by_ sums)else none
theorem z05(c:List Int) (r:List (List Val)) (by_:Int) (sums:List Int) (hc:c.length≤9223372036854775807) (hr:r.length≤1000000000) (hl:∀ x∈r,x.length≤9223372036854775807) (hok:∀ x∈r,ROk x) :
 wc W zJG [bagp c r, .int .i64 by_,zBV sums]=some (bagR (zIB c r by_ sums)):=by
 have h:=zS8 (c.map intp) (r.map rowp) by_ (sums.map intp)
 rw[zA,zA,zR,zAA]at h
 rw[h,zJX c by_ hc,zG7 c r hc (by omega) hl]
 simp only[Option.bind_some,c_i64_mk,c_b_mk,List.length_map]
 unfold zIB
 cases hm:mayB c r with
 |false=>rfl
 |true =>
 simp only[Bool.not_true,cond_false,Bool.true_and,zJY]
 cases hb:inC c by_ with
 |false=>rfl
 |true =>
 simp only[Bool.not_true,cond_false,Bool.true_and]
 rcases Nat.lt_or_ge 4 sums.length with hs | hs
 ·rw[decide_eq_true (show((sums.length:Nat):Int)>4 by omega),decide_eq_false (show ¬ sums.length≤4 by omega)];rfl
 rw[decide_eq_false (show ¬ ((sums.length:Nat):Int)>4 by omega),decide_eq_true hs]
 have hany:=zPa sums zGs [] [.imm 3 (bagp c r) 0] (λ s=> !inC c s) (by omega) (λ s _=>by
  have h1:=zPV s (c.map intp) (r.map rowp)
  rw[zA,zR,zAA,zKs c s hc]at h1
  simp only[Option.bind_some,c_b_mk]at h1
  exact h1)
 rw[hany]
 simp only[cond_false,Option.bind_some,c_b_mk,Bool.true_and]
 have ha:=zJW sums (inC c)
 cases hall:sums.all (inC c) with
 |false =>
  rw[hall]at ha
  rw[show(sums.any λ s=> !inC c s)=true by cases hx:(sums.any λ s=> !inC c s)<;>simp_all];rfl
 |true =>
  rw[hall]at ha
  rw[show(sums.any λ s=> !inC c s)=false by cases hx:(sums.any λ s=> !inC c s)<;>simp_all]
  simp only[cond_false,cond_true]
  rw[zLg,List.length_map]
  have hmr:=zCZ hm
  have hin:∀ s∈sums,inC c s=true:=List.all_eq_true.1 hall
  have key:=zZ9 by_ (idxI c λ x=>by_==x) (sums.map intp) (c.map intp) (r.map rowp) (λ m ks=>(W zAJ false [(AV.fx 0 3),(AV.pv (.fn zB4 [] []))] [(Ob.fix 0 3 (ks.map keyP))]).bind (λ v45=>zMC v45 λ v46 v47=>zDE (sums.map intp) (c.map intp) (r.map rowp) ((sums.map intp).length:Int) 0 (mpG m) [] v47 [(.int .i64 by_),(.int .i64 16)] [] [] [])) r hr (λ m ks hk=>rfl) r.length 0 [] [] (by omega) (by simp) rfl (λ x hx=>by simp at hx)
  simp only[List.drop_zero,List.map_nil]at key
  refine key.trans ?_
  have hkl:(zFb (idxI c λ x=>by_==x) r).length≤r.length:=by have:=zNY (idxI c λ x=>by_==x) r [] [];simpa [zFb]using this
  have hsk:=zDy 0 (zFb (idxI c λ x=>by_==x) r) (by omega)
  show(W zAJ false [(AV.fx 0 3),(AV.pv (.fn zB4 [] []))] [(Ob.fix 0 3 ((zFb (idxI c λ x=>by_==x) r).map keyP))]).bind _=_
  rw[hsk]
  simp only[Option.bind_some,k_a0f1d3_mk,List.length_map]
  have g4:=zZa sums (c.map intp) (r.map rowp) (mpG (zHZ (idxI c λ x=>by_==x) r [])) [] ((zA6 (zFb (idxI c λ x=>by_==x) r)).map keyP) [] [] [] (by omega) sums.length 0 [by_,16] (by omega) (by simp)
  have hgk:∀ k∈zA6 (zFb (idxI c λ x=>by_==x) r),∃ rows,getG k (zHZ (idxI c λ x=>by_==x) r [])=some rows∧rows.length≤1000000000∧∀ x∈rows,x.length=c.length∧ROk x:=λ k hk=>by
   have hk' :=(zBP _).mem_iff.1 hk
   refine⟨_,zRT _ r k hk',Nat.le_trans (List.length_filter_le _ _) hr,λ x hx=> ?_⟩
   have hx' :=(List.mem_filter.1 hx).1
   exact⟨(hmr.2.2 x hx').1,hok x hx'⟩
  have g5:=zZd sums c hin (by omega) hc (r.map rowp) (zHZ (idxI c λ x=>by_==x) r []) (zA6 (zFb (idxI c λ x=>by_==x) r)) (by rw[zFr];omega) hgk [] [] [] (zSo by_ sums.length) (zA6 (zFb (idxI c λ x=>by_==x) r)).length 0 [] (by omega) rfl
  simp only[List.length_map]at g4 g5
  refine g4.trans ?_
  refine g5.trans ?_
  show some (PV.tup [bagp (zSo by_ sums.length) _, .bool true])=some (.tup [bagp (zSo by_ sums.length) (zKt c r by_ sums), .bool true])
  congr 4
  simp only[List.nil_append,List.drop_zero]
  unfold zKt
  refine List.map_congr_left λ k hk=> ?_
  rw[zRT _ r k ((zBP _).mem_iff.1 hk)];rfl
end Go.Cf

namespace Go.Cf
open Go Go.Ab
set_option linter.unusedVariables false
set_option linter.unusedSimpArgs false
theorem zNZ{c:List Int} {r s:List (List Val)} (h:r.Perm s):mayB c r=mayB c s:=by
 unfold mayB
 have h1:r.all (rowB c.length)=s.all (rowB c.length):=by
  rw[Bool.eq_iff_iff,List.all_eq_true,List.all_eq_true]
  exact⟨λ k x hx=>k x (h.mem_iff.2 hx),λ k x hx=>k x (h.mem_iff.1 hx)⟩
 rw[h1,h.length_eq]
theorem zVV{at_:Int} {r s:List (List Val)} (h:r.Perm s):zA6 (zFb at_ r)=zA6 (zFb at_ s):=by
 have hp:(zFb at_ r).Perm (zFb at_ s):=(List.perm_ext_iff_of_nodup (zHB at_ r) (zHB at_ s)).2 λ k=>by
  rw[zIA,zIA]
  exact⟨λ⟨x,hx,e⟩=>⟨x,h.mem_iff.1 hx,e⟩,λ⟨x,hx,e⟩=>⟨x,h.mem_iff.2 hx,e⟩⟩
 exact zIR ((zBP _).trans (hp.trans (zBP _).symm)) (zCH _) (zCH _)
end Go.Cf

namespace Go.Cf
open Go Go.Ab
set_option linter.unusedVariables false
set_option linter.unusedSimpArgs false
theorem z2g(c cols:List Int) (row:List Val) (hl:row.length=c.length) (hin:∀ x∈cols,inC c x=true) (hn:cols.length≤100) (A:List PV) (n i:Int) (X Y Z:List PV) (out:List (List Val)) (ho:out.length≤4294967295):∀(k j:Nat) (acc:List Val),j+k=cols.length→acc.length=j →
 zFy (row.map Val.pv) A n i (cols.length:Int) (j:Int) ((atC c cols).map intp) X Y Z (out.map rowp) (acc.map Val.pv) =
  zE9 A n (IntKind.wrap .i64 (i+1)) ((atC c cols).map intp) X Y Z ((out++[acc++(cols.drop j).map (zDT c row)]).map rowp)
 | 0,j,acc,h,ha=>by
  rw[zHp,show j=cols.length by omega]
  simp only[zBz,cond_false,List.length_map,Bool.true_and,decide_eq_true (show out.length+1≤4294967296 by omega),cond_true,List.drop_length,List.map_nil,List.append_nil,List.map_append,List.map_cons]
  rfl
 |k+1,j,acc,h,ha=>by
  have hj:j<cols.length:=by omega
  have hj2:j<(atC c cols).length:=by unfold atC;rw[List.length_map];exact hj
  obtain⟨h1,h2⟩:=zFI (hin _ (List.getElem_mem hj)) hl
  have he:(atC c cols)[j]=idxI c (λ y=>cols[j]==y):=by simp only[atC,List.getElem_map]
  have hlen:((atC c cols).map intp).length=cols.length:=by unfold atC;rw[List.length_map,List.length_map]
  rw[zHp,hlen]
  simp only[zP hj,zAM,Bool.and_self,cond_true,Int.toNat_natCast,Nat.zero_add,List.getElem?_map,List.getElem?_eq_getElem hj2,Option.map_some,Option.bind_some,zG6,he,decide_eq_true h2,h1,Val.c_mk,Val.fold,List.length_map,Bool.true_and,decide_eq_true (show acc.length+1≤4294967296 by omega)]
  rw[zI (by omega)]
  have:=z2g c cols row hl hin hn A n i X Y Z out ho k (j+1) (acc++[zDT c row cols[j]]) (by omega) (by rw[List.length_append,List.length_singleton];omega)
  rw[List.map_append]at this
  rw[List.append_assoc,List.singleton_append]at this
  rw[List.drop_eq_getElem_cons hj,List.map_cons]
  exact this
theorem z2h(c cols:List Int) (r:List (List Val)) (hl:∀ x∈r,x.length=c.length) (hin:∀ x∈cols,inC c x=true) (hn:cols.length≤100) (hr:r.length≤4294967295) (X Y:List PV):∀(k i:Nat) (acc:List (List Val)),i+k=r.length→acc.length=i →
 zE9 (r.map rowp) (r.length:Int) (i:Int) ((atC c cols).map intp) X Y (cols.map intp) (acc.map rowp)=some (.tup [bagp cols (acc++(r.drop i).map (zBF c cols)), .bool true])
 | 0,i,acc,h,ha=>by
  rw[zHo,show i=r.length by omega]
  simp[zBz]
 |k+1,i,acc,h,ha=>by
  have hi:i<r.length:=by omega
  rw[zHo]
  have hlen:((atC c cols).map intp).length=cols.length:=by unfold atC;rw[List.length_map,List.length_map]
  simp only[zP hi,zAM,cond_true,Int.toNat_natCast,List.getElem?_map,List.getElem?_eq_getElem hi,Option.map_some,Option.bind_some,zCv,hlen]
  have h4:=z2g c cols r[i] (hl _ (List.getElem_mem hi)) hin hn (r.map rowp) (r.length:Int) (i:Int) X Y (cols.map intp) acc (by omega) cols.length 0 [] (by omega) rfl
  refine h4.trans ?_
  rw[zI (by omega),List.drop_zero,List.nil_append]
  have:=z2h c cols r hl hin hn hr X Y k (i+1) (acc++[cols.map (zDT c r[i])]) (by omega) (by rw[List.length_append,List.length_singleton];omega)
  rw[this,List.drop_eq_getElem_cons hi,List.map_cons,List.append_assoc]
  rfl
theorem z2i(c cols:List Int) (r:List (List Val)) (hl:∀ x∈r,x.length=c.length) (hc:c.length≤100) (hn:cols.length≤100) (hr:r.length≤4294967295):∀(k i:Nat),i+k=cols.length→(∀ x∈cols.take i,inC c x=true) →
 zFx (cols.map intp) (c.map intp) (r.map rowp) (cols.map intp) (cols.length:Int) (i:Int) ((atC c (cols.take i)).map intp) =
  bif (cols.drop i).all (inC c)then some (.tup [bagp cols (r.map (zBF c cols)), .bool true])else some (.tup [bagp [] [], .bool false])
 | 0,i,h,hin=>by
  rw[zHn,show i=cols.length by omega]
  have hcl:=zC9 (cols.map intp) (by rw[List.length_map];omega)
  rw[zA]at hcl
  rw[show i=cols.length by omega,List.take_length]at hin
  simp only[zBz,cond_false,List.drop_length,List.all_nil,cond_true,List.take_length,zA,hcl,Option.bind_some,zEl,List.length_map]
  have:=z2h c cols r hl hin hn hr [] [] r.length 0 [] (by omega) rfl
  simpa using this
 |k+1,i,h,hin=>by
  have hi:i<cols.length:=by omega
  rw[zHn,List.drop_eq_getElem_cons hi,List.all_cons]
  simp only[zP hi,zAM,cond_true,Int.toNat_natCast,List.getElem?_map,List.getElem?_eq_getElem hi,Option.map_some,Option.bind_some,zG6,zA,zJX c cols[i] (by omega),c_i64_mk,zJY]
  cases hx:inC c cols[i] with
  |false=>rfl
  |true =>
   have ht:(cols.take i).length=i:=by rw[List.length_take];omega
   have hlen:((atC c (cols.take i)).map intp).length=i:=by unfold atC;rw[List.length_map,List.length_map,ht]
   simp only[Bool.not_true,cond_false,Bool.true_and,hlen,decide_eq_true (show i+1≤4294967296 by omega),cond_true]
   rw[zI (by omega)]
   have:=z2i c cols r hl hc hn hr k (i+1) (by omega) (λ x hx' =>by
    rw[List.take_succ_eq_append_getElem hi]at hx'
    rcases List.mem_append.1 hx' with h | h
    ·exact hin x h
    ·rw[List.mem_singleton]at h;rw[h];exact hx)
   rw[List.take_succ_eq_append_getElem hi]at this
   unfold atC at this ⊢
   rw[List.map_append,List.map_append]at this
   exact this
def zRU(c:List Int) (r:List (List Val)) (cols:List Int):Option (List Int×List (List Val)):=bif mayB c r&&mayB cols []&&cols.all (inC c)then some (cols,r.map (zBF c cols))else none
theorem z2j(c:List Int) (r:List (List Val)) (cols:List Int) (hc:c.length≤9223372036854775807) (hr:r.length≤9223372036854775807) (hl:∀ x∈r,x.length≤9223372036854775807) (hn:cols.length≤9223372036854775807) :
 wc W zKc [bagp c r,zBV cols]=some (bagR (zRU c r cols)):=by
 have h:=zVA (c.map intp) (r.map rowp) (cols.map intp)
 rw[zA,zR,zAA,zA]at h
 have e0:PV.agg [zBV cols,PV.slice 0 []]=bagp cols []:=rfl
 rw[h]
 simp only[e0,zG7 c r hc hr hl,zG7 cols [] hn (by simp) (by simp),Option.bind_some,c_b_mk]
 unfold zRU
 cases h1:mayB c r with
 |false=>rfl
 |true =>
  cases h2:mayB cols [] with
  |false=>rfl
  |true =>
   obtain⟨a1,a2,a3⟩:=zCZ h1
   obtain⟨b1,_,_⟩:=zCZ h2
   simp only[Bool.not_true,cond_false,Bool.and_self,Bool.true_and,zNI,List.length_map]
   have:=z2i c cols r (λ x hx=>(a3 x hx).1) (by omega) (by omega) (by omega) cols.length 0 (by omega) (by simp)
   rw[List.take_zero,List.drop_zero]at this
   refine this.trans ?_
   cases cols.all (inC c)<;>rfl
end Go.Cf

namespace Go.Cf
open Go Go.Ab
set_option linter.unusedVariables false
set_option linter.unusedSimpArgs false
abbrev CM:=List (ByteArray×Int)
def mpC(m:CM):List (PV×PV):=m.map λ x=>(PV.str x.1,PV.int .i64 x.2)
def getC(k:ByteArray):CM→Option Int
 | []=>none
 |x::r=>bif k.toList==x.1.toList then some x.2 else getC k r
def putC(k:ByteArray) (v:Int):CM→CM
 | []=>[(k,v)]
 |x::r=>bif k.toList==x.1.toList then(k,v)::r else x::putC k v r
theorem eqS(a b:ByteArray):eqP cfg 6 9 (.str a) (.str b)=some (a.toList==b.toList):=by rfl
theorem zPb(k:ByteArray):∀(m:CM),zIa (eqP cfg 6 9) (.str k) (mpC m)=some ((getC k m).map (PV.int .i64))
 | []=>rfl
 |x::r=>by
  show zIa (eqP cfg 6 9) (.str k) ((PV.str x.1,PV.int .i64 x.2)::mpC r)=_
  simp only[zIa,eqS,Option.bind_some,getC]
  cases k.toList==x.1.toList with
  |true=>rfl
  |false=>exact zPb k r
theorem zSp(k:ByteArray) (v:Int):∀(m:CM),mput (eqP cfg 6 9) (.str k) (.int .i64 v) (mpC m)=some (mpC (putC k v m))
 | []=>rfl
 |x::r=>by
  show mput (eqP cfg 6 9) (.str k) (.int .i64 v) ((PV.str x.1,PV.int .i64 x.2)::mpC r)=_
  simp only[mput,eqS,Option.bind_some,putC]
  cases h:k.toList==x.1.toList with
  |true =>
   have h' :zNc (.str x.1) (.str k)=true:=by
    show(x.1.toList==k.toList)=true
    rw[beq_iff_eq]at h ⊢;exact h.symm
   rw[h'];rfl
  |false =>
   simp only[cond_false,zSp k v r,Option.bind_some];rfl
theorem zTu:∀(m:CM),zQE (mpC m)=some (m.all λ x=>x.2==0)
 | []=>rfl
 |x::r=>by
  show(zQE (mpC r)).map (λ b=>(x.2==0)&&b)=_
  rw[zTu r];rfl
def getL(L:List UInt8):CM→Int
 | []=>0
 |x::r=>if L=x.1.toList then x.2 else getL L r
theorem zRV(k:ByteArray):∀(m:CM),(getC k m).getD 0=getL k.toList m
 | []=>rfl
 |x::r=>by
  simp only[getC,getL]
  by_cases h:k.toList=x.1.toList
  ·rw[if_pos h,show(k.toList==x.1.toList)=true by rw[h];exact beq_self_eq_true _];rfl
  ·rw[if_neg h,show(k.toList==x.1.toList)=false by simpa using h]
   exact zRV k r
theorem zTv(L:List UInt8) (k:ByteArray) (v:Int):∀(m:CM),getL L (putC k v m)=if L=k.toList then v else getL L m
 | []=>rfl
 |x::r=>by
  simp only[putC]
  by_cases h:k.toList=x.1.toList
  ·rw[show(k.toList==x.1.toList)=true by rw[h];exact beq_self_eq_true _]
   simp only[cond_true,getL,←h]
   by_cases hL:L=k.toList
   ·rw[if_pos hL,if_pos hL]
   ·rw[if_neg hL,if_neg hL,if_neg hL]
  ·rw[show(k.toList==x.1.toList)=false by simpa using h]
   simp only[cond_false,getL,zTv L k v r]
   by_cases hx:L=x.1.toList
   ·rw[if_pos hx]
    rw[if_neg (λ e=>h (e.symm.trans hx)),if_pos hx]
   ·rw[if_neg hx,if_neg hx]
def zHC(m:CM):List (List UInt8):=m.map λ x=>x.1.toList
theorem zPc(k:ByteArray) (v:Int):∀(m:CM),(zHC m).Nodup→(zHC (putC k v m)).Nodup∧∀ L,L∈zHC (putC k v m)→L=k.toList∨L∈zHC m
 | [],_=>⟨by simp[putC,zHC],λ L h=>by simp[putC,zHC]at h;exact .inl h⟩
 |x::r,h=>by
  simp only[putC]
  have h2:=List.nodup_cons.1 (show(x.1.toList::zHC r).Nodup from h)
  by_cases e:k.toList=x.1.toList
  ·rw[show(k.toList==x.1.toList)=true by rw[e];exact beq_self_eq_true _]
   simp only[cond_true]
   refine⟨?_,λ L hL=> ?_⟩
   ·show(k.toList::zHC r).Nodup
    rw[e];exact h
   ·rcases List.mem_cons.1 (show L∈k.toList::zHC r from hL)with h3 | h3
    ·exact .inl h3
    ·exact .inr (List.mem_cons.2 (.inr h3))
  ·rw[show(k.toList==x.1.toList)=false by simpa using e]
   obtain⟨i1,i2⟩:=zPc k v r h2.2
   simp only[cond_false]
   refine⟨?_,λ L hL=> ?_⟩
   ·refine List.nodup_cons.2 ⟨λ hm=> ?_,i1⟩
    rcases i2 _ hm with h3 | h3
    ·exact e h3.symm
    ·exact h2.1 h3
   ·rcases List.mem_cons.1 (show L∈x.1.toList::zHC (putC k v r)from hL)with h3 | h3
    ·exact .inr (List.mem_cons.2 (.inl h3))
    ·rcases i2 _ h3 with h4 | h4
     ·exact .inl h4
     ·exact .inr (List.mem_cons.2 (.inr h4))
theorem zTw:∀(m:CM),(zHC m).Nodup→((m.all λ x=>x.2==0)=true↔∀ L,getL L m=0)
 | [],_=>by simp[getL]
 |x::r,h=>by
  have h2:=List.nodup_cons.1 (show(x.1.toList::zHC r).Nodup from h)
  have ih:=zTw r h2.2
  simp only[List.all_cons,Bool.and_eq_true,beq_iff_eq,getL]
  constructor
  ·rintro⟨a,b⟩ L
   split
   ·exact a
   ·exact ih.1 b L
  ·intro hall
   refine⟨?_,ih.2 λ L=> ?_⟩
   ·have:=hall x.1.toList
    rwa [if_pos rfl]at this
   ·by_cases hm:L=x.1.toList
    ·have none:∀(l:CM),L∉zHC l→getL L l=0:=by
      intro l
      induction l with
      |nil=>intro _;rfl
      |cons y l ihl =>
       intro hn
       simp only[getL]
       rw[if_neg (λ e=>hn (by rw[e];simp[zHC])),ihl (λ e=>hn (List.mem_cons.2 (.inr e)))]
     exact none r (by rw[hm];exact h2.1)
    ·have:=hall L
     rwa [if_neg hm]at this
def txt(r:List Val):ByteArray:=zY0 (r.map λ v=>(v.K,v.N))
def tL(r:List Val):List UInt8:=(txt r).toList
theorem zRW:∀(r:List Val),ROk r→zLR (r.map Val.pv)=some (r.map λ v=>(v.K,v.N))
 | [],_=>rfl
 |v::r,h=>by
  have hv:=h v (by simp)
  have h1:(inI v.K&&inI v.N)=true:=by
   unfold inI
   rw[decide_eq_true hv.1.1,decide_eq_true hv.1.2,decide_eq_true hv.2.1,decide_eq_true hv.2.2];rfl
  show(bif inI v.K&&inI v.N then(zLR (r.map Val.pv)).bind λ l=>some ((v.K,v.N)::l)else none)=_
  rw[h1,zRW r (λ x hx=>h x (by simp[hx]))];rfl
theorem zZe(r:List Val) (h:ROk r) (hl:r.length≤1000000):wc W zIU [rowp r]=some (.str (txt r)):=zUx (r.map Val.pv) _ (zRW r h) (by rw[List.length_map];exact hl)
def add1(k:ByteArray) (d:Int) (m:CM):CM:=putC k ((getC k m).getD 0+d) m
def zNp:List (List Val)→List (List Val)→CM→CM
 |x::r,y::s,m=>zNp r s (add1 (txt y) (-1) (add1 (txt x) 1 m))
 |_,_,m=>m
def bnd(m:CM) (B:Nat):Prop:=∀ x∈m, -(B:Int)≤x.2∧x.2≤B
theorem zML(k:ByteArray) (B:Nat):∀(m:CM),bnd m B→ -(B:Int)≤(getC k m).getD 0∧(getC k m).getD 0≤B
 | [],_=>by simp[getC]
 |x::r,h=>by
  simp only[getC]
  cases k.toList==x.1.toList with
  |true=>exact h x (by simp)
  |false=>exact zML k B r (λ y hy=>h y (by simp[hy]))
theorem zTx(k:ByteArray) (v:Int) (B:Nat) (hv: -(B:Int)≤v∧v≤B):∀(m:CM),bnd m B→bnd (putC k v m) B
 | [],_=>λ x hx=>by simp[putC]at hx;subst hx;exact hv
 |x::r,h=>λ y hy=>by
  simp only[putC]at hy
  cases he:k.toList==x.1.toList with
  |true =>
   rw[he]at hy
   rcases List.mem_cons.1 hy with rfl | hy
   ·exact hv
   ·exact h y (by simp[hy])
  |false =>
   rw[he]at hy
   rcases List.mem_cons.1 hy with rfl | hy
   ·exact h _ (by simp)
   ·exact zTx k v B hv r (λ z hz=>h z (by simp[hz])) y hy
theorem zTy(k:ByteArray) (d:Int) (hd: -1≤d∧d≤1) (m:CM) (B:Nat) (h:bnd m B):bnd (add1 k d m) (B+1):=by
 have h1:=zML k B m h
 exact zTx k _ (B+1) (by omega) m (λ x hx=>by have:=h x hx;omega)
theorem zRX(c d:List PV) (r s:List (List Val)) (e:r.length=s.length) (hr:r.length≤1000000000) (h1:∀ x∈r,ROk x∧x.length≤1000000) (h2:∀ x∈s,ROk x∧x.length≤1000000) :
 ∀(k i:Nat) (m:CM),i+k=r.length→bnd m (2*i)→zFw c (r.map rowp) d (s.map rowp) (r.length:Int) (i:Int) (mpC m)=some (.bool ((zNp (r.drop i) (s.drop i) m).all λ x=>x.2==0))
 | 0,i,m,h,hb=>by
  rw[zHl,show i=r.length by omega]
  simp only[zBz,cond_false,zTu,Option.bind_some,List.drop_length,zNp]
 |k+1,i,m,h,hb=>by
  have hi:i<r.length:=by omega
  have hi' :i<s.length:=by omega
  obtain⟨a1,a2⟩:=h1 r[i] (List.getElem_mem hi)
  obtain⟨b1,b2⟩:=h2 s[i] (List.getElem_mem hi')
  have hb1:=zTy (txt r[i]) 1 (by omega) m _ hb
  have hb2:=zTy (txt s[i]) (-1) (by omega) _ _ hb1
  have g1:=zML (txt r[i]) _ m hb
  have g2:=zML (txt s[i]) _ _ hb1
  rw[zHl,List.drop_eq_getElem_cons hi,List.drop_eq_getElem_cons hi',zNp]
  have o1:∀(o:Option Int) (x:Int), -9223372036854775808≤o.getD 0+x→o.getD 0+x≤9223372036854775807→intP .add ((o.map (PV.int .i64)).getD (.int .i64 0)) (.int .i64 x)=some (.int .i64 (o.getD 0+x)):=λ o x q1 q2=>by
   cases o with
   |none=>show some (PV.int .i64 (IntKind.wrap .i64 (0+x)))=_;rw[zQ (by simpa using q1) (by simpa using q2)];rfl
   |some v=>show some (PV.int .i64 (IntKind.wrap .i64 (v+x)))=_;rw[zQ (by simpa using q1) (by simpa using q2)];rfl
  have o2:∀(o:Option Int) (x:Int), -9223372036854775808≤o.getD 0-x→o.getD 0-x≤9223372036854775807→intP .sub ((o.map (PV.int .i64)).getD (.int .i64 0)) (.int .i64 x)=some (.int .i64 (o.getD 0-x)):=λ o x q1 q2=>by
   cases o with
   |none=>show some (PV.int .i64 (IntKind.wrap .i64 (0-x)))=_;rw[zQ (by simpa using q1) (by simpa using q2)];rfl
   |some v=>show some (PV.int .i64 (IntKind.wrap .i64 (v-x)))=_;rw[zQ (by simpa using q1) (by simpa using q2)];rfl
  simp only[zP hi,zAM,cond_true,Int.toNat_natCast,List.getElem?_map,List.getElem?_eq_getElem hi,List.getElem?_eq_getElem hi',Option.map_some,Option.bind_some,zCv,zH,zZe _ a1 a2,zZe _ b1 b2,c_t_mk,zPb,c_i64_mk]
  rw[o1 _ 1 (by omega) (by omega)]
  simp only[Option.bind_some,c_i64_mk,zSp,zPb]
  have e1:putC (txt r[i]) ((getC (txt r[i]) m).getD 0+1) m=add1 (txt r[i]) 1 m:=rfl
  rw[e1,o2 _ 1 (by omega) (by omega)]
  simp only[Option.bind_some,c_i64_mk,zSp]
  have e2:putC (txt s[i]) ((getC (txt s[i]) (add1 (txt r[i]) 1 m)).getD 0-1) (add1 (txt r[i]) 1 m)=add1 (txt s[i]) (-1) (add1 (txt r[i]) 1 m):=rfl
  rw[e2,zI (by omega)]
  have hb3:bnd (add1 (txt s[i]) (-1) (add1 (txt r[i]) 1 m)) (2*(i+1)):=hb2
  exact zRX c d r s e hr h1 h2 k (i+1) _ (by omega) hb3
theorem zVW(a b:List Int) (ha:a.length≤9223372036854775807):wc W zC8 [zBV a,zBV b]=some (.bool (decide (a=b))):=by
 have h:=zHX (a.map intp) (b.map intp)
 rw[zA,zA]at h
 rw[h,List.length_map,List.length_map]
 by_cases e:a.length=b.length
 ·rw[zJV (by omega)]
  simp only[cond_false]
  refine zWy (λ i=>zBW (a.map intp) (b.map intp) a.length i) a b e (some (.bool false)) (some (.bool true)) (λ i hi hi' => ?_) ?_ |>.trans ?_
  ·rw[zCp]
   simp only[zP hi,zAM,cond_true,Int.toNat_natCast,List.getElem?_map,List.getElem?_eq_getElem hi,List.getElem?_eq_getElem hi',Option.map_some,Option.bind_some,zG6]
   by_cases he:a[i]=b[i]
   ·rw[zJV he,decide_eq_true he,zQ (by omega) (by omega)];rfl
   ·rw[zHv he,decide_eq_false he];rfl
  ·rw[zCp];simp
  ·cases decide (a=b)<;>rfl
 ·rw[zHv (by omega),decide_eq_false (λ h=>e (by rw[h]))];rfl
def zVX(c:List Int) (r:List (List Val)) (d:List Int) (s:List (List Val)):Bool:=decide (c=d)&&decide (r.length=s.length)&&(zNp r s []).all λ x=>x.2==0
theorem zZf(c:List Int) (r:List (List Val)) (d:List Int) (s:List (List Val)) (hc:c.length≤9223372036854775807) (hr:r.length≤1000000000) (hs:s.length≤1000000000) (h1:∀ x∈r,ROk x∧x.length≤1000000) (h2:∀ x∈s,ROk x∧x.length≤1000000) :
 wc W zIT [bagp c r,bagp d s]=some (.bool (zVX c r d s)):=by
 have h:=zUy (c.map intp) (r.map rowp) (d.map intp) (s.map rowp)
 rw[zA,zA,zR,zR,zAA,zAA,zVW c d hc]at h
 rw[h]
 unfold zVX
 simp only[Option.bind_some,c_b_mk,List.length_map]
 cases decide (c=d) with
 |false=>rfl
 |true =>
  by_cases e:r.length=s.length
  ·rw[zJV (by omega),decide_eq_true e,zNH]
   have:=zRX (c.map intp) (d.map intp) r s e hr h1 h2 r.length 0 [] (by omega) (λ x hx=>by simp at hx)
   simp only[List.drop_zero]at this
   simp only[Bool.not_true,cond_false,List.length_map,Bool.true_and]
   exact this
  ·rw[zHv (by omega),decide_eq_false e];rfl
def cnt(L:List UInt8) (r:List (List Val)):Int:=((r.map tL).count L:Nat)
theorem zTz(L:List UInt8) (k:ByteArray) (d:Int) (m:CM):getL L (add1 k d m)=getL L m+if L=k.toList then d else 0:=by
 unfold add1
 rw[zTv,zRV]
 split
 ·rename_i h;rw[h]
 ·omega
theorem zKH(L:List UInt8):∀(r s:List (List Val)) (m:CM),r.length=s.length→(zHC m).Nodup→(zHC (zNp r s m)).Nodup∧getL L (zNp r s m)=getL L m+cnt L r-cnt L s
 | [],[],m,_,h=>⟨h,by simp[zNp,cnt]⟩
 | [],_::_,m,e,h=>by simp at e
 |_::_,[],m,e,h=>by simp at e
 |x::r,y::s,m,e,h=>by
  have k1:=(zPc (txt x) ((getC (txt x) m).getD 0+1) m h).1
  have k2:=(zPc (txt y) ((getC (txt y) (add1 (txt x) 1 m)).getD 0+ -1) (add1 (txt x) 1 m) k1).1
  obtain⟨i1,i2⟩:=zKH L r s (add1 (txt y) (-1) (add1 (txt x) 1 m)) (by simpa using e) k2
  refine⟨i1,?_⟩
  show getL L (zNp r s (add1 (txt y) (-1) (add1 (txt x) 1 m)))=_
  rw[i2,zTz,zTz]
  have c1:cnt L (x::r)=cnt L r+if L=(txt x).toList then 1 else 0:=by
   unfold cnt
   rw[List.map_cons,List.count_cons]
   by_cases hx:L=(txt x).toList
   ·rw[if_pos hx,show(tL x==L)=true by rw[hx];exact beq_self_eq_true _];simp
   ·rw[if_neg hx,show(tL x==L)=false by simpa using λ e=>hx e.symm];simp
  have c2:cnt L (y::s)=cnt L s+if L=(txt y).toList then 1 else 0:=by
   unfold cnt
   rw[List.map_cons,List.count_cons]
   by_cases hx:L=(txt y).toList
   ·rw[if_pos hx,show(tL y==L)=true by rw[hx];exact beq_self_eq_true _];simp
   ·rw[if_neg hx,show(tL y==L)=false by simpa using λ e=>hx e.symm];simp
  rw[c1,c2]
  split<;>split<;>omega
theorem zYv(r s:List (List Val)) (e:r.length=s.length):((zNp r s []).all λ x=>x.2==0)=true↔∀ L,cnt L r=cnt L s:=by
 rw[zTw _ (zKH [] r s [] e (by simp[zHC])).1]
 constructor
 ·intro h L
  have:=(zKH L r s [] e (by simp[zHC])).2
  rw[h L]at this
  simp only[getL]at this
  omega
 ·intro h L
  rw[(zKH L r s [] e (by simp[zHC])).2,h L]
  simp only[getL];omega
theorem zYw{r s:List (List Val)} (h:r.Perm s) (L:List UInt8):cnt L r=cnt L s:=by
 unfold cnt
 rw[(h.map tL).count_eq]
theorem zRY{c:List Int} {r s:List (List Val)} (h:r.Perm s):zVX c r c s=true:=by
 unfold zVX
 rw[decide_eq_true rfl,decide_eq_true h.length_eq,(zYv r s h.length_eq).2 (zYw h)];rfl
end Go.Cf

namespace Go.Cf
open Go Go.Ab
set_option linter.unusedVariables false
set_option linter.unusedSimpArgs false
theorem zZg(n:Int) (h:I64 n):wc W zI0 [.int .i64 n]=some (.int .u64 (n.natAbs:Int)):=by
 obtain⟨h1,h2⟩:=h
 have hw:∀ m:Int,IntKind.wrap .u64 m=m % 18446744073709551616:=λ m=>by simp[IntKind.wrap,IntKind.bits,IntKind.signed]
 rw[zVQ,hw,hw]
 by_cases hn:n<0
 ·rw[decide_eq_true hn]
  simp only[cond_true]
  congr 2
  omega
 ·rw[decide_eq_false hn]
  simp only[cond_false]
  congr 2
  omega
theorem zPd{a b:Int} (ha:I64 a) (hb:I64 b):a.natAbs*b.natAbs≤9223372036854775808*9223372036854775808:=Nat.mul_le_mul (by obtain⟨_,_⟩:=ha;omega) (by obtain⟨_,_⟩:=hb;omega)
theorem zXM{m:Nat} (hm:m≤9223372036854775808*9223372036854775808) (k:Nat) (hk:k<18446744073709551616) :
 (((m / 18446744073709551616:Nat):Int)==0&&decide (((m % 18446744073709551616:Nat):Int)≤(k:Int)))=decide (m≤k):=by
 by_cases h:m≤k
 ·rw[decide_eq_true h]
  have h1:m / 18446744073709551616=0:=Nat.div_eq_of_lt (by omega)
  have h2:m % 18446744073709551616=m:=Nat.mod_eq_of_lt (by omega)
  rw[h1,h2]
  simpa using h
 ·rw[decide_eq_false h]
  by_cases h1:m<18446744073709551616
  ·have h2:m % 18446744073709551616=m:=Nat.mod_eq_of_lt h1
   rw[h2]
   have:decide ((m:Int)≤(k:Int))=false:=decide_eq_false (by omega)
   rw[this,Bool.and_false]
  ·have h3:0<m / 18446744073709551616:=Nat.div_pos (by omega) (by omega)
   have:((((m / 18446744073709551616:Nat):Int))==0)=false:=by simp only[beq_eq_false_iff_ne,ne_eq];omega
   rw[this,Bool.false_and]
theorem z2k(a b:Int) (ha:I64 a) (hb:I64 b):wc W zGv [.int .i64 a, .int .i64 b]=some (.tup [.int .i64 (IntKind.wrap .i64 (a*b)), .bool (inI (a*b))]):=by
 rw[zSg,zZg a ha,zZg b hb]
 have hm:=zPd ha hb
 obtain⟨a1,a2⟩:=ha
 obtain⟨b1,b2⟩:=hb
 simp only[Option.bind_some,c_u64_mk]
 rw[zQo _ _ (by omega) (by omega) (by omega) (by omega)]
 simp only[Option.bind_some,asTup_mk,List.getElem?_cons_zero,List.getElem?_cons_succ,c_u64_mk,Int.toNat_natCast]
 have hJ:∀ k:Nat,k<18446744073709551616→zFG a b ((a.natAbs*b.natAbs / 18446744073709551616:Nat):Int) ((a.natAbs*b.natAbs % 18446744073709551616:Nat):Int) (k:Int) =
  some (.tup [.int .i64 (IntKind.wrap .i64 (a*b)), .bool (decide (a.natAbs*b.natAbs≤k))]):=λ k hk=>by
  rw[zLp,←zXM hm k hk]
  cases (((a.natAbs*b.natAbs / 18446744073709551616:Nat):Int)==0)<;>rfl
 have hab:(a*b).natAbs=a.natAbs*b.natAbs:=Int.natAbs_mul a b
 by_cases hs:decide (a<0)=decide (b<0)
 ·rw[zKq hs]
  simp only[Bool.not_true,cond_false]
  rw[show(9223372036854775807:Int)=((9223372036854775807:Nat):Int)from rfl,hJ _ (by omega)]
  have h0:0≤a*b:=by
   rw[decide_eq_decide]at hs
   by_cases h:a<0
   ·exact Int.le_of_lt (Int.mul_pos_of_neg_of_neg h (hs.1 h))
   ·exact Int.mul_nonneg (by omega) (by have:¬ b<0:=λ e=>h (hs.2 e);omega)
  unfold inI
  rw[← hab,decide_eq_true (show -9223372036854775808≤a*b by omega),Bool.true_and]
  congr 4
  congr 1
  rw[decide_eq_decide];omega
 ·rw[zEV hs]
  simp only[Bool.not_false,cond_true]
  rw[show(9223372036854775808:Int)=((9223372036854775808:Nat):Int)from rfl,hJ _ (by omega)]
  have h0:a*b≤0:=by
   rw[decide_eq_decide]at hs
   by_cases h:a<0
   ·exact Int.mul_nonpos_of_nonpos_of_nonneg (by omega) (by omega)
   ·exact Int.mul_nonpos_of_nonneg_of_nonpos (by omega) (by omega)
  unfold inI
  rw[← hab,decide_eq_true (show a*b≤9223372036854775807 by omega),Bool.and_true]
  congr 4
  congr 1
  rw[decide_eq_decide];omega
theorem z3Z(a b:Val) (ha:I64 a.N) (hb:I64 b.N):wc W zJp [a.pv,b.pv]=some (zLr a b mulO).pv:=by
 have h:=zWr a.K a.N b.K b.N
 simp only[Val.fold]at h
 rw[h,zMH a b zGv mulO ⟨IntKind.wrap .i64 (a.N*b.N),?_⟩]
 ·simp
 ·rw[z2k _ _ ha hb]
  unfold mulO
  cases hi:inI (a.N*b.N) with
  |false=>rfl
  |true =>
   unfold inI at hi
   simp only[Bool.and_eq_true,decide_eq_true_eq]at hi
   rw[zQ hi.1 hi.2];rfl
end Go.Cf

namespace Go.Cf
open Go Go.Ab
set_option linter.unusedVariables false
set_option linter.unusedSimpArgs false
inductive Ex where
 |mk (op col:Int) (v:Val) (l:List Ex)
mutual
def Ex.pv:Ex→PV
 | .mk o c v l=> .agg [.int .i64 o, .int .i64 c, .int .i64 v.K, .int .i64 v.N, .slice 6 (Ex.pvL l)]
def Ex.pvL:List Ex→List PV
 | []=>[]
 |e::r=>e.pv::Ex.pvL r
end
theorem Ex.pvL_map:∀ l:List Ex,Ex.pvL l=l.map Ex.pv
 | []=>rfl
 |e::r=>by rw[Ex.pvL,Ex.pvL_map r];rfl
theorem Ex.pv_mk(o c:Int) (v:Val) (l:List Ex):(Ex.mk o c v l).pv= .agg [.int .i64 o, .int .i64 c, .int .i64 v.K, .int .i64 v.N, .slice 6 (l.map Ex.pv)]:=by rw[Ex.pv,Ex.pvL_map]
def Ex.op:Ex→Int | .mk o _ _ _=>o
def Ex.col:Ex→Int | .mk _ c _ _=>c
def Ex.v:Ex→Val | .mk _ _ v _=>v
def Ex.l:Ex→List Ex | .mk _ _ _ l=>l
theorem Ex.pv_eq(e:Ex):e.pv= .agg [.int .i64 e.op, .int .i64 e.col, .int .i64 e.v.K, .int .i64 e.v.N, .slice 6 (e.l.map Ex.pv)]:=by cases e;exact Ex.pv_mk ..
@[simp] theorem Ex.c_mk(e:Ex) {R:Type} (f:Int→Int→Int→Int→List PV→Option R):zL e.pv f=f e.op e.col e.v.K e.v.N (e.l.map Ex.pv):=by rw[Ex.pv_eq];rfl
theorem Ex.fold(e:Ex):PV.agg [.int .i64 e.op, .int .i64 e.col, .int .i64 e.v.K, .int .i64 e.v.N, .slice 6 (e.l.map Ex.pv)]=e.pv:=e.pv_eq.symm
mutual
def Ex.sz:Ex→Nat
 | .mk _ _ _ l=>Ex.szL l+1
def Ex.szL:List Ex→Nat
 | []=>0
 |e::r=>e.sz+Ex.szL r
end
theorem Ex.sz_pos(e:Ex):0<e.sz:=by cases e;simp[Ex.sz]
theorem Ex.szL_ge:∀ l:List Ex,l.length≤Ex.szL l
 | []=>Nat.le_refl _
 |e::r=>by have:=Ex.szL_ge r;have:=e.sz_pos;simp only[Ex.szL,List.length_cons];omega
theorem Ex.sz_mem:∀{l:List Ex} {e:Ex},e∈l→e.sz≤Ex.szL l
 |x::r,e,h=>by
  rcases List.mem_cons.1 h with rfl | h
  ·simp only[Ex.szL];omega
  ·have:=Ex.sz_mem h;simp only[Ex.szL];omega
theorem Ex.sz_drop(l:List Ex) (i:Nat) (hi:i<l.length):Ex.szL (l.drop i)=l[i].sz+Ex.szL (l.drop (i+1)):=by rw[List.drop_eq_getElem_cons hi];rfl
def lowO(o:Int):Int:=bif decide (2≤o)&&decide (o≤7)then 2 else bif o==10 then 1 else 0
def zRZ(o:Int):Int:=bif decide (2≤o)&&decide (o≤7)then 2 else bif o==10 then 1 else bif o==8 || o==9 then 4 else 0
def fnO(o:Int):PV :=
 bif o==2 then .fn zBa [] [.imm 0 (.fn zJn [] []) 0]else bif o==3 then .fn zBa [] [.imm 0 (.fn zJo [] []) 0] else
 bif o==4 then .fn zBa [] [.imm 0 (.fn zJp [] []) 0]else bif o==5 then .fn zBa [] [.imm 0 (.fn zJq [] []) 0] else
 bif o==6 then .fn zBa [] [.imm 0 (.fn zMA [] []) 0]else bif o==7 then .fn zBa [] [.imm 0 (.fn zMB [] []) 0] else
 bif o==8 then .fn zEu [] []else bif o==9 then .fn zEv [] []else bif o==10 then .fn zEw [] []else .nilfn
theorem zZh(o:Int):wc W zGu [.int .i64 o]=some (.agg [.int .i64 (lowO o), .int .i64 (zRZ o),fnO o]):=by
 have two:∀ g:Nat,wc W zDi [.fn g [] []]=some (.agg [.int .i64 2, .int .i64 2, .fn zBa [] [.imm 0 (.fn g [] []) 0]]):=λ g=>by rw[zVP];rfl
 rw[zSd]
 simp only[two,Option.bind_some,c_g_i64_i64_p_mk]
 unfold lowO zRZ fnO
 by_cases h2:o=2
 ·subst h2;rfl
 by_cases h3:o=3
 ·subst h3;rfl
 by_cases h4:o=4
 ·subst h4;rfl
 by_cases h5:o=5
 ·subst h5;rfl
 by_cases h6:o=6
 ·subst h6;rfl
 by_cases h7:o=7
 ·subst h7;rfl
 by_cases h8:o=8
 ·subst h8;rfl
 by_cases h9:o=9
 ·subst h9;rfl
 by_cases h10:o=10
 ·subst h10;rfl
 have hr:(decide (2≤o)&&decide (o≤7))=false:=by
  rw[← Bool.decide_and];exact decide_eq_false (by omega)
 rw[zEV h2,zEV h3,zEV h4,zEV h5,zEV h6,zEV h7,zEV h8,zEV h9,zEV h10,hr]
 rfl
def zR0(o c:Int) (v:Val) (n:Nat):Bool :=
 decide (0≤o)&&decide (o<11)&&(decide (lowO o≤(n:Int))&&decide ((n:Int)≤zRZ o))&&(c==0 || (o==1&&decide (0<c)&&decide (c≤15)))&&((v.K==0&&v.N==0) || (o==0&&mayV v))
theorem z2l(e:Ex):wc W zJI [e.pv]=some (.bool (zR0 e.op e.col e.v e.l.length)):=by
 have h:=zSb e.op e.col e.v.K e.v.N (e.l.map Ex.pv)
 rw[Ex.fold]at h
 rw[h,zZh,List.length_map]
 simp only[Option.bind_some,c_g_i64_i64_p_mk]
 have h3:∀ b1 b2 b3 x y z,zED e.op e.col e.v.K e.v.N (e.l.map Ex.pv) b1 b2 b3 x y z=some (.bool (decide (0≤e.op)&&decide (e.op<11)&&b1&&b2&&b3)):=λ b1 b2 b3 x y z=>by
  rw[zLn]
  have:decide (e.op≥0)=decide (0≤e.op):=rfl
  rw[this]
  cases decide (0≤e.op)<;>cases decide (e.op<11)<;>cases b1<;>cases b2<;>rfl
 have h2:∀ b1 b2 x y z,zDI e.op e.col e.v.K e.v.N (e.l.map Ex.pv) b1 b2 x y z=some (.bool (decide (0≤e.op)&&decide (e.op<11)&&b1&&b2&&((e.v.K==0&&e.v.N==0) || (e.op==0&&mayV e.v)))):=λ b1 b2 x y z=>by
  rw[zLm]
  cases e.v.K==0<;>cases e.v.N==0<;>cases e.op==0<;>simp[h3,zHw]
 have h1:∀ b1 x y z,zFE e.op e.col e.v.K e.v.N (e.l.map Ex.pv) b1 x y z=some (.bool (decide (0≤e.op)&&decide (e.op<11)&&b1&&(e.col==0 || (e.op==1&&decide (0<e.col)&&decide (e.col≤15)))&&((e.v.K==0&&e.v.N==0) || (e.op==0&&mayV e.v)))):=λ b1 x y z=>by
  rw[zLl]
  have:decide (e.col>0)=decide (0<e.col):=rfl
  rw[this]
  cases e.col==0<;>cases e.op==1<;>cases decide (0<e.col)<;>simp[h2]
 simp only[h1]
 unfold zR0
 have:decide (((e.l.length:Nat):Int)≥lowO e.op)=decide (lowO e.op≤(e.l.length:Int)):=rfl
 rw[this]
 cases decide (lowO e.op≤(e.l.length:Int))<;>simp
def zPe(d n:Int) (e:Ex):Bool:=decide (n+1≤30)&&decide (d≤6)&&zR0 e.op e.col e.v e.l.length
mutual
def mayE:Int→Int→Ex→Bool×Int
 |d,n, .mk o c v l=>bif decide (n+1≤30)&&decide (d≤6)&&zR0 o c v l.length then mayL (d+1) (n+1) l else(false,n+1)
def mayL:Int→Int→List Ex→Bool×Int
 |d,n,[]=>(true,n)
 |d,n,e::r=>match mayE d n e with | (true,m)=>mayL d m r | (false,m)=>(false,m)
end
theorem zSq(d n:Int) (e:Ex):mayE d n e=bif zPe d n e then mayL (d+1) (n+1) e.l else(false,n+1):=by cases e;rfl
theorem z2m(e:Ex) (d n:Int) (h0:0≤n) (h1:n≤30) :
 W zCT false [.pv e.pv, .pv (.int .i64 d), .own 0 0] [.var false 0 (.pv (.int .i64 n))]=some (.pv (.bool (zPe d n e)),[.var false 0 (.pv (.int .i64 (n+1)))]):=by
 have h:=zKp e.op e.col e.v.K e.v.N (e.l.map Ex.pv) d n
 rw[Ex.fold]at h
 rw[h,zQ (by omega) (by omega),z2l]
 unfold zPe
 cases decide (n+1≤30)<;>cases decide (d≤6)<;>rfl
theorem zO1:∀(k:Nat),(∀(e:Ex) (d n:Int),e.sz≤k→0≤n→n≤30→0≤(mayE d n e).2∧(mayE d n e).2≤31∧((mayE d n e).1=true→(mayE d n e).2=n+e.sz∧(mayE d n e).2≤30)) ∧
 (∀(l:List Ex) (d n:Int),Ex.szL l≤k→0≤n→n≤30→0≤(mayL d n l).2∧(mayL d n l).2≤31∧((mayL d n l).1=true→(mayL d n l).2=n+Ex.szL l∧(mayL d n l).2≤30))
 |k=>by
  have hE:∀(e:Ex) (d n:Int),(∀(l:List Ex) (d n:Int),Ex.szL l<e.sz→0≤n→n≤30→0≤(mayL d n l).2∧(mayL d n l).2≤31∧((mayL d n l).1=true→(mayL d n l).2=n+Ex.szL l∧(mayL d n l).2≤30))→0≤n→n≤30 →
   0≤(mayE d n e).2∧(mayE d n e).2≤31∧((mayE d n e).1=true→(mayE d n e).2=n+e.sz∧(mayE d n e).2≤30):=λ e d n ih h0 h1=>by
   rw[zSq]
   cases hs:zPe d n e with
   |false =>
    refine⟨?_,?_,λ h=> ?_⟩
    ·show 0≤n+1;omega
    ·show n+1≤31;omega
    ·cases h
   |true =>
    simp only[cond_true]
    have h30:n+1≤30:=by
     unfold zPe at hs
     simp only[Bool.and_eq_true,decide_eq_true_eq]at hs
     exact hs.1.1
    have hsz:e.sz=Ex.szL e.l+1:=by cases e;rfl
    obtain⟨a,b,c⟩:=ih e.l (d+1) (n+1) (by omega) (by omega) h30
    exact⟨a,b,λ h=>by have:=c h;omega⟩
  have hL:∀(l:List Ex) (d n:Int),(∀ e∈l,∀(d n:Int),0≤n→n≤30→0≤(mayE d n e).2∧(mayE d n e).2≤31∧((mayE d n e).1=true→(mayE d n e).2=n+e.sz∧(mayE d n e).2≤30))→0≤n→n≤30 →
   0≤(mayL d n l).2∧(mayL d n l).2≤31∧((mayL d n l).1=true→(mayL d n l).2=n+Ex.szL l∧(mayL d n l).2≤30):=λ l=>by
   induction l with
   |nil=>intro d n _ h0 h1;refine⟨h0,?_,λ _=>⟨?_,h1⟩⟩<;>simp[mayL,Ex.szL];omega
   |cons x r ih =>
    intro d n he h0 h1
    have k:=he x (by simp) d n h0 h1
    simp only[mayL]
    cases hx:mayE d n x with
    |mk b m =>
     rw[hx]at k
     cases b with
     |false=>exact⟨k.1,k.2.1,λ h=>by cases h⟩
     |true =>
      obtain⟨k1,k2⟩:=k.2.2 rfl
      simp only at k1 k2 k ⊢
      obtain⟨a,b,c⟩:=ih d m (λ e h=>he e (by simp[h])) k.1 k2
      exact⟨a,b,λ h=>by have:=c h;simp only[Ex.szL];omega⟩
  have main:∀(m:Nat) (e:Ex),e.sz≤m→∀(d n:Int),0≤n→n≤30→0≤(mayE d n e).2∧(mayE d n e).2≤31∧((mayE d n e).1=true→(mayE d n e).2=n+e.sz∧(mayE d n e).2≤30):=λ m=>by
   induction m with
   |zero=>intro e h;have:=e.sz_pos;omega
   |succ m ih =>
    intro e h d n h0 h1
    exact hE e d n (λ l d n hl h0 h1=>hL l d n (λ x hx=>ih x (by have:=Ex.sz_mem hx;omega)) h0 h1) h0 h1
  exact⟨λ e d n _=>main e.sz e (Nat.le_refl _) d n,λ l d n _=>hL l d n λ e _=>main e.sz e (Nat.le_refl _)⟩
theorem zXN:∀(m:Nat) (e:Ex),e.sz≤m→∀(d n:Int),e.l.length≤9223372036854775807→(∀(x:Ex),x.sz<e.sz→x.l.length≤9223372036854775807)→0≤n→n≤30→d≤9→ -9≤d →
 W zCm false [.pv e.pv, .pv (.int .i64 d), .fnv zCT [] [.own 0 0]] [.var false 0 (.pv (.int .i64 n))]=some (.pv (.bool (mayE d n e).1),[.var false 0 (.pv (.int .i64 (mayE d n e).2))])
 | 0,e,h,_,_,_,_,_,_,_,_=>by have:=e.sz_pos;omega
 |m+1,e,h,d,n,hl,hx,h0,h1,hd,hd' =>by
  have he:=zLi e.op e.col e.v.K e.v.N (e.l.map Ex.pv) d n
  rw[Ex.fold]at he
  rw[he,z2m e d n h0 h1,zSq]
  simp only[Option.bind_some,k_5b106d_mk,c_b_mk]
  cases hs:zPe d n e with
  |false=>rfl
  |true =>
   simp only[Bool.not_true,cond_false,cond_true,List.length_map]
   have hs' :=hs
   unfold zPe at hs'
   simp only[Bool.and_eq_true,decide_eq_true_eq]at hs'
   obtain⟨⟨h30,h6⟩,_⟩:=hs'
   have hsz:e.sz=Ex.szL e.l+1:=by cases e;rfl
   have loop:∀(k i:Nat) (n' :Int),i+k=e.l.length→0≤n' →n' ≤30 →
    zD2 d (e.l.map Ex.pv) (e.l.length:Int) (i:Int) n' =some (.pv (.bool (mayL (d+1) n' (e.l.drop i)).1),[.var false 0 (.pv (.int .i64 (mayL (d+1) n' (e.l.drop i)).2))]):=λ k=>by
    induction k with
    |zero =>
     intro i n' hi _ _
     rw[zF7,show i=e.l.length by omega]
     simp only[zBz,cond_false,List.drop_length,mayL]
    |succ k ih =>
     intro i n' hi h0' h1'
     have hi' :i<e.l.length:=by omega
     have hm:=Ex.sz_mem (List.getElem_mem hi')
     rw[zF7,List.drop_eq_getElem_cons hi']
     simp only[zP hi',zAM,cond_true,Int.toNat_natCast,List.getElem?_map,List.getElem?_eq_getElem hi',Option.map_some,Option.bind_some,Ex.c_mk,Ex.fold]
     rw[zQ (by omega) (by omega),zXN m e.l[i] (by omega) (d+1) n' (hx _ (by omega)) (λ x hx' =>hx x (by omega)) h0' h1' (by omega) (by omega)]
     simp only[Option.bind_some,k_5b106d_mk,c_b_mk,mayL]
     have hb:=(zO1 e.l[i].sz).1 e.l[i] (d+1) n' (Nat.le_refl _) h0' h1'
     cases hy:mayE (d+1) n' e.l[i] with
     |mk b q =>
      rw[hy]at hb
      cases b with
      |false=>rfl
      |true =>
       simp only[Bool.not_true,cond_false]
       rw[zI (by omega)]
       exact ih (i+1) q (by omega) hb.1 (hb.2.2 rfl).2
   have:=loop e.l.length 0 (n+1) (by omega) (by omega) h30
   rw[List.drop_zero]at this
   exact this
def mayT(e:Ex):Bool:=(mayE 1 0 e).1
def Ex.ok(e:Ex):Prop:=∀ x:Ex,x.sz≤e.sz→x.l.length≤9223372036854775807
theorem Ex.ok_of{e:Ex} (h:e.sz≤9223372036854775807):e.ok:=λ x hx=>by
 have h1:x.sz=Ex.szL x.l+1:=by cases x;rfl
 have:=Ex.szL_ge x.l
 omega
theorem zO2(e:Ex) (h:e.ok):wc W zIX [e.pv]=some (.bool (mayT e)):=by
 have he:=zVK e.op e.col e.v.K e.v.N (e.l.map Ex.pv)
 rw[Ex.fold]at he
 rw[he,zXN e.sz e (Nat.le_refl _) 1 0 (h e (Nat.le_refl _)) (λ x hx=>h x (by omega)) (by omega) (by omega) (by omega) (by omega)]
 rfl
theorem zSr{e:Ex} (h:mayT e=true):e.sz≤30:=by
 have:=((zO1 e.sz).1 e 1 0 (Nat.le_refl _) (by omega) (by omega)).2.2 h
 omega
end Go.Cf

namespace Go.Cf
open Go Go.Ab
set_option linter.unusedVariables false
set_option linter.unusedSimpArgs false
theorem z06{n:Int} (h:inI n=true):I64 n:=by unfold inI at h;simp only[Bool.and_eq_true,decide_eq_true_eq]at h;exact h
theorem zKu{l:List Val} {v:Val} (h:oddV l=some v):VOk v:=by
 unfold oddV at h
 cases h1:l.any (λ v=>(zIe v).K==2) with
 |true=>rw[h1]at h;simp at h;subst h;exact⟨⟨by decide,by decide⟩,⟨by decide,by decide⟩⟩
 |false =>
  rw[h1]at h
  cases h2:l.any (λ v=>(zIe v).K==1) with
  |true=>rw[h2]at h;simp at h;subst h;exact⟨⟨by decide,by decide⟩,⟨by decide,by decide⟩⟩
  |false=>rw[h2]at h;cases h
theorem vN{n:Int} (h:I64 n):VOk ⟨0,n⟩:=⟨⟨by simp only;omega,by simp only;omega⟩,h⟩
theorem zXO:VOk badV:=⟨⟨by decide,by decide⟩,⟨by decide,by decide⟩⟩
theorem zSs(b:Bool):VOk (oneV b):=by cases b<;>exact⟨⟨by decide,by decide⟩,⟨by decide,by decide⟩⟩
theorem zMM{a b:Val} {f:Int→Int→Option Int} (hf:∀ n,f a.N b.N=some n→I64 n):VOk (zLr a b f):=by
 unfold zLr
 cases h:oddV [a,b] with
 |some v=>exact zKu h
 |none =>
  simp only
  cases hn:f a.N b.N with
  |none=>exact zXO
  |some n=>exact vN (hf n hn)
def opV(o:Int) (l:List Val):Val :=
 bif o==2 then zLr (l.getD 0 badV) (l.getD 1 badV) addO else bif o==3 then zLr (l.getD 0 badV) (l.getD 1 badV) subO else
 bif o==4 then zLr (l.getD 0 badV) (l.getD 1 badV) mulO else bif o==5 then zLr (l.getD 0 badV) (l.getD 1 badV) divO else
 bif o==6 then eqV (l.getD 0 badV) (l.getD 1 badV)else bif o==7 then ltV (l.getD 0 badV) (l.getD 1 badV) else
 bif o==8 then andV l else bif o==9 then orV l else notV (l.getD 0 badV)
theorem ok0:VOk ⟨0,0⟩:=⟨⟨by decide,by decide⟩,⟨by decide,by decide⟩⟩
theorem ok1:VOk ⟨0,1⟩:=⟨⟨by decide,by decide⟩,⟨by decide,by decide⟩⟩
theorem z07(l:List Val):VOk (andV l):=by
 unfold andV
 cases l.any zRF with
 |true=>exact ok0
 |false=>cases h:oddV l with
  |some v=>exact zKu h
  |none=>exact ok1
theorem z2n(l:List Val):VOk (orV l):=by
 unfold orV
 cases l.any zVR with
 |true=>exact ok1
 |false=>cases h:oddV l with
  |some v=>exact zKu h
  |none=>exact ok0
theorem z08{x y:Int} (hx:I64 x) (hy:I64 y) {n:Int} (h:divO x y=some n):I64 n:=by
 unfold divO at h
 cases hc:(y==0 || (x== -9223372036854775808&&y== -1)) with
 |true=>rw[hc]at h;cases h
 |false =>
  rw[hc]at h
  simp only[cond_false,Option.some.injEq]at h
  subst h
  obtain⟨a1,a2⟩:=hx
  have h1:(Int.tdiv x y).natAbs≤x.natAbs:=by
   rw[Int.natAbs_tdiv]
   exact Nat.div_le_self _ _
  refine⟨by omega,?_⟩
  by_cases hm:Int.tdiv x y=9223372036854775808
  ·exfalso
   have hA:x= -9223372036854775808:=by omega
   simp only[Bool.or_eq_false_iff,Bool.and_eq_false_iff,beq_eq_false_iff_ne,ne_eq]at hc
   have hy1:y≠ -1:=by
    rcases hc.2 with h | h
    ·exact absurd hA h
    ·exact h
   subst hA
   have h2:(Int.tdiv (-9223372036854775808) y).natAbs=9223372036854775808 / y.natAbs:=by rw[Int.natAbs_tdiv];rfl
   rw[hm]at h2
   have h3:y.natAbs=1:=by
    rcases Nat.lt_or_ge y.natAbs 2 with h | h
    ·have:=hc.1;omega
    ·have:9223372036854775808 / y.natAbs≤9223372036854775808 / 2:=Nat.div_le_div_left h (by omega)
     have h4:(9223372036854775808:Int).natAbs=9223372036854775808:=rfl
     omega
   have hb2:y=1:=by omega
   rw[hb2]at hm
   simp at hm
  ·omega
theorem zXP{l:List Val} (h:∀ v∈l,VOk v) (i:Nat):VOk (l.getD i badV):=by
 rw[List.getD_eq_getElem?_getD]
 cases e:l[i]? with
 |none=>exact zXO
 |some v=>exact h v (List.mem_of_getElem? e)
theorem z2o(o:Int) {l:List Val} (h:∀ v∈l,VOk v):VOk (opV o l):=by
 have a:=zXP h 0
 have b:=zXP h 1
 unfold opV
 have o1:∀{f:Int→Int→Int} {x y n:Int},(bif inI (f x y)then some (f x y)else none)=some n→I64 n:=λ{f x y n} hn=>by
  cases hi:inI (f x y) with
  |true=>rw[hi]at hn;simp at hn;subst hn;exact z06 hi
  |false=>rw[hi]at hn;cases hn
 cases o==2 with
 |true=>exact zMM λ n hn=>o1 (f:=λ x y=>x+y) hn
 |false =>
 cases o==3 with
 |true=>exact zMM λ n hn=>o1 (f:=λ x y=>x-y) hn
 |false =>
 cases o==4 with
 |true=>exact zMM λ n hn=>o1 (f:=λ x y=>x*y) hn
 |false =>
 cases o==5 with
 |true=>exact zMM λ n hn=>z08 a.2 b.2 hn
 |false =>
 cases o==6 with
 |true =>
  show VOk (eqV _ _)
  unfold eqV
  cases e:oddV [l.getD 0 badV,l.getD 1 badV] with
  |some v=>exact zKu e
  |none=>exact zSs _
 |false =>
 cases o==7 with
 |true =>
  show VOk (ltV _ _)
  unfold ltV
  cases e:oddV [l.getD 0 badV,l.getD 1 badV] with
  |some v=>exact zKu e
  |none=>exact zSs _
 |false =>
 cases o==8 with
 |true=>exact z07 l
 |false =>
 cases o==9 with
 |true=>exact z2n l
 |false =>
  show VOk (notV _)
  unfold notV
  cases e:oddV [l.getD 0 badV] with
  |some v=>exact zKu e
  |none=>exact zSs _
theorem z2p{l:List Val} (h:l.length=2):∃ a b,l=[a,b]:=by
 match l,h with
 | [a,b],_=>exact⟨a,b,rfl⟩
theorem zO3(l:List Val) (g:Nat) (v:Val) (a b:Val) (hl:l=[a,b]) (hg:wc W g [a.pv,b.pv]=some v.pv):wc W zBa [rowp l, .imm 0 (.fn g [] []) 0]=some v.pv:=by
 subst hl
 have h:=zRC ([a,b].map Val.pv) (.fn g [] [])
 rw[zH]at h
 rw[h]
 simp only[List.map_cons,List.map_nil,List.getElem?_cons_zero,List.getElem?_cons_succ,Option.bind_some,Val.c_mk,Val.fold,asFn_mk,List.nil_append,List.append_nil,hg]
theorem w_op(o:Int) (l:List Val) (h0:0≤o) (h11:o<11) (h2:2≤o) (hlo:lowO o≤(l.length:Int)) (hhi:(l.length:Int)≤zRZ o) (hl:∀ v∈l,VOk v) :
 ∃ g fs cs,fnO o= .fn g fs cs∧wc W g (fs++[rowp l]++cs)=some (opV o l).pv:=by
 have two:(2≤o∧o≤7)→∃ a b,l=[a,b]:=λ h=>z2p (by
  unfold lowO zRZ at *
  rw[decide_eq_true h.1,decide_eq_true h.2]at hlo hhi
  simp only[Bool.and_self,cond_true]at hlo hhi
  omega)
 have hlen:l.length≤9223372036854775807:=by
  unfold zRZ at hhi
  cases hb:(decide (2≤o)&&decide (o≤7))<;>rw[hb]at hhi
  ·cases h10:(o==10)<;>rw[h10]at hhi
   ·cases h8:(o==8 || o==9)<;>rw[h8]at hhi<;>simp only[cond_true,cond_false]at hhi<;>omega
   ·simp only[cond_true,cond_false]at hhi;omega
  ·simp only[cond_true]at hhi;omega
 by_cases e2:o=2
 ·obtain⟨a,b,e⟩:=two (by omega)
  subst e2;subst e
  exact⟨_,_,_,rfl,zO3 _ _ _ a b rfl (z3R a b (hl a (by simp)).2 (hl b (by simp)).2)⟩
 by_cases e3:o=3
 ·obtain⟨a,b,e⟩:=two (by omega)
  subst e3;subst e
  exact⟨_,_,_,rfl,zO3 _ _ _ a b rfl (z3S a b (hl a (by simp)).2 (hl b (by simp)).2)⟩
 by_cases e4:o=4
 ·obtain⟨a,b,e⟩:=two (by omega)
  subst e4;subst e
  exact⟨_,_,_,rfl,zO3 _ _ _ a b rfl (z3Z a b (hl a (by simp)).2 (hl b (by simp)).2)⟩
 by_cases e5:o=5
 ·obtain⟨a,b,e⟩:=two (by omega)
  subst e5;subst e
  exact⟨_,_,_,rfl,zO3 _ _ _ a b rfl (z3T a b (hl a (by simp)).2 (hl b (by simp)).2)⟩
 by_cases e6:o=6
 ·obtain⟨a,b,e⟩:=two (by omega)
  subst e6;subst e
  exact⟨_,_,_,rfl,zO3 _ _ _ a b rfl (w_Eq a b)⟩
 by_cases e7:o=7
 ·obtain⟨a,b,e⟩:=two (by omega)
  subst e7;subst e
  exact⟨_,_,_,rfl,zO3 _ _ _ a b rfl (w_Lt a b)⟩
 by_cases e8:o=8
 ·subst e8
  refine⟨_,_,_,rfl,?_⟩
  have h:=zPW (l.map Val.pv)
  rw[zH]at h
  show wc W zEu [rowp l]=_
  rw[h,z3V l hlen];rfl
 by_cases e9:o=9
 ·subst e9
  refine⟨_,_,_,rfl,?_⟩
  have h:=zPX (l.map Val.pv)
  rw[zH]at h
  show wc W zEv [rowp l]=_
  rw[h,w_Or l hlen];rfl
 have e10:o=10:=by omega
 subst e10
 refine⟨_,_,_,rfl,?_⟩
 have h:=zPY (l.map Val.pv)
 rw[zH]at h
 show wc W zEw [rowp l]=_
 rw[h]
 have h1:l.length=1:=by
  have a:lowO 10=1:=rfl
  have b:zRZ 10=1:=rfl
  rw[a]at hlo;rw[b]at hhi;omega
 match l,h1 with
 | [a],_ =>
  simp only[List.map_cons,List.map_nil,List.getElem?_cons_zero,Option.bind_some,Val.c_mk,Val.fold,z3U]
  rfl
mutual
def zKI(look:Int→Val):Ex→Val
 | .mk o c v l=>bif o==0 then v else bif o==1 then look c else opV o (zYx look l)
def zYx(look:Int→Val):List Ex→List Val
 | []=>[]
 |e::r=>zKI look e::zYx look r
end
theorem zR1(look:Int→Val):∀ l:List Ex,zYx look l=l.map (zKI look)
 | []=>rfl
 |e::r=>by rw[zYx,zR1 look r];rfl
theorem zMN(look:Int→Val) (e:Ex):zKI look e=bif e.op==0 then e.v else bif e.op==1 then look e.col else opV e.op (e.l.map (zKI look)):=by
 cases e;rw[zKI,zR1];rfl
mutual
def Ex.vals:Ex→Prop
 | .mk _ _ v l=>VOk v∧Ex.valsL l
def Ex.valsL:List Ex→Prop
 | []=>True
 |e::r=>e.vals∧Ex.valsL r
end
theorem Ex.valsL_mem:∀{l:List Ex},Ex.valsL l→∀ e∈l,e.vals
 |x::r,h,e,he=>by
  rcases List.mem_cons.1 he with rfl | he
  ·exact h.1
  ·exact Ex.valsL_mem h.2 e he
theorem Ex.vals_v{e:Ex} (h:e.vals):VOk e.v∧∀ x∈e.l,x.vals:=by
 cases e;exact⟨h.1,Ex.valsL_mem h.2⟩
mutual
def zLY:Ex→Bool
 | .mk o c v l=>zR0 o c v l.length&&zUA l
def zUA:List Ex→Bool
 | []=>true
 |e::r=>zLY e&&zUA r
end
theorem zO4:∀ l:List Ex,zUA l=l.all zLY
 | []=>rfl
 |e::r=>by rw[zUA,zO4 r];rfl
theorem zR2(e:Ex):zLY e=(zR0 e.op e.col e.v e.l.length&&e.l.all zLY):=by cases e;rw[zLY,zO4];rfl
theorem zLZ:∀(m:Nat) (e:Ex),e.sz≤m→∀ d n,(mayE d n e).1=true→zLY e=true
 | 0,e,h,_,_,_=>by have:=e.sz_pos;omega
 |m+1,e,h,d,n,hm=>by
  rw[zSq]at hm
  cases hs:zPe d n e with
  |false=>rw[hs]at hm;cases hm
  |true =>
   rw[hs]at hm
   simp only[cond_true]at hm
   have hp:zR0 e.op e.col e.v e.l.length=true:=by unfold zPe at hs;simp only[Bool.and_eq_true]at hs;exact hs.2
   rw[zR2,hp,Bool.true_and,List.all_eq_true]
   have hsz:e.sz=Ex.szL e.l+1:=by cases e;rfl
   have hl:∀(l:List Ex) (d n:Int),Ex.szL l≤m→(mayL d n l).1=true→∀ x∈l,zLY x=true:=λ l=>by
    induction l with
    |nil=>intro _ _ _ _ x hx;cases hx
    |cons y r ih =>
     intro d n hsz hm x hx
     simp only[Ex.szL]at hsz
     simp only[mayL]at hm
     cases hy:mayE d n y with
     |mk b q =>
      rw[hy]at hm
      cases b with
      |false=>cases hm
      |true =>
       rcases List.mem_cons.1 hx with rfl | hx
       ·exact zLZ m x (by omega) d n (by rw[hy])
       ·exact ih d q (by omega) hm x hx
   exact hl e.l (d+1) (n+1) (by omega) hm
theorem zUB(look:Int→Val) (hlk:∀ c,VOk (look c)):∀(m:Nat) (e:Ex),e.sz≤m→e.vals→VOk (zKI look e)
 | 0,e,h,_=>by have:=e.sz_pos;omega
 |m+1,e,h,hv=>by
  rw[zMN]
  obtain⟨h1,h2⟩:=Ex.vals_v hv
  have hsz:e.sz=Ex.szL e.l+1:=by cases e;rfl
  cases e.op==0 with
  |true=>exact h1
  |false =>
   cases e.op==1 with
   |true=>exact hlk _
   |false =>
    refine z2o _ λ v hv=> ?_
    obtain⟨x,hx,rfl⟩:=List.mem_map.1 hv
    exact zUB look hlk m x (by have:=Ex.sz_mem hx;omega) (h2 x hx)
theorem zZi(cols:List Int) (row:List Val) (hc:cols.length≤9223372036854775807) (hr:∀ v∈row,VOk v):∀(m:Nat) (e:Ex),e.sz≤m→e.sz≤4294967295→zLY e=true→e.vals →
 wc W zGt [e.pv,zBV cols,rowp row]=some (zKI (zDT cols row) e).pv
 | 0,e,h,_,_,_=>by have:=e.sz_pos;omega
 |m+1,e,h,hs,hp,hv=>by
  have he:=zSc e.op e.col e.v.K e.v.N (e.l.map Ex.pv) (cols.map intp) (row.map Val.pv)
  rw[Ex.fold,zA,zH]at he
  rw[he,zMN]
  have hsz:e.sz=Ex.szL e.l+1:=by cases e;rfl
  have hle:=Ex.szL_ge e.l
  rw[zR2,Bool.and_eq_true,List.all_eq_true]at hp
  obtain⟨hp1,hp2⟩:=hp
  obtain⟨hv1,hv2⟩:=Ex.vals_v hv
  cases h0:e.op==0 with
  |true=>rfl
  |false =>
   cases h1:e.op==1 with
   |true =>
    simp only[cond_false,cond_true,zJX cols e.col hc,Option.bind_some,c_i64_mk,List.length_map]
    unfold zDT
    cases ha:decide (idxI cols (λ x=>e.col==x)<0) with
    |true=>rfl
    |false =>
     simp only[cond_false]
     have hb0:decide (idxI cols (λ x=>e.col==x)≥(row.length:Int))=decide (idxI cols (λ x=>e.col==x)≥(row.length:Int)):=rfl
     cases hb:decide (idxI cols (λ x=>e.col==x)≥(row.length:Int)) with
     |true=>rfl
     |false =>
      simp only[cond_false]
      have ha' :=of_decide_eq_false ha
      have hb' :=of_decide_eq_false hb
      rw[zLo,decide_eq_true (show 0≤idxI cols (λ x=>e.col==x) by omega)]
      have hlt:(idxI cols (λ x=>e.col==x)).toNat<row.length:=by omega
      simp only[cond_true,List.getElem?_map,List.getElem?_eq_getElem hlt,Option.map_some,Option.bind_some,Val.c_mk,Val.fold,List.getD_eq_getElem?_getD,Option.getD_some]
   |false =>
    simp only[cond_false,List.length_map]
    have hop:2≤e.op∧e.op<11∧lowO e.op≤(e.l.length:Int)∧(e.l.length:Int)≤zRZ e.op:=by
     unfold zR0 at hp1
     simp only[Bool.and_eq_true,decide_eq_true_eq]at hp1
     have a:=beq_eq_false_iff_ne.1 h0
     have b:=beq_eq_false_iff_ne.1 h1
     omega
    have hok:∀ v∈e.l.map (zKI (zDT cols row)),VOk v:=λ v hv=>by
     obtain⟨x,hx,rfl⟩:=List.mem_map.1 hv
     exact zUB _ (zP0 cols hr) x.sz x (Nat.le_refl _) (hv2 x hx)
    have loop:∀(k i:Nat) (a b:Int),i+k=e.l.length →
     zFF (cols.map intp) (row.map Val.pv) e.op e.col e.v.K e.v.N (e.l.map Ex.pv) (e.l.map Ex.pv) (e.l.length:Int) (i:Int) a b (((e.l.take i).map (zKI (zDT cols row))).map Val.pv)=some (opV e.op (e.l.map (zKI (zDT cols row)))).pv:=λ k=>by
     induction k with
     |zero =>
      intro i a b hi
      rw[zHV,show i=e.l.length by omega]
      simp only[zBz,cond_false,zZh,Option.bind_some,c_g_i64_i64_p_mk,List.take_length]
      obtain⟨g,fs,cs,k1,k2⟩:=w_op e.op (e.l.map (zKI (zDT cols row))) (by omega) hop.2.1 hop.1 (by rw[List.length_map];exact hop.2.2.1) (by rw[List.length_map];exact hop.2.2.2) hok
      rw[k1]
      simp only[asFn_mk,Option.bind_some,zH,k2,Val.c_mk,Val.fold]
     |succ k ih =>
      intro i a b hi
      have hi' :i<e.l.length:=by omega
      have hx:=List.getElem_mem hi'
      have hm:=Ex.sz_mem hx
      rw[zHV]
      simp only[zP hi',zAM,cond_true,Int.toNat_natCast,List.getElem?_map,List.getElem?_eq_getElem hi',Option.map_some,Option.bind_some,Ex.c_mk,Ex.fold,zA,zH]
      rw[zZi cols row hc hr m e.l[i] (by omega) (by omega) (hp2 _ hx) (hv2 _ hx)]
      simp only[Option.bind_some,Val.c_mk,Val.fold,List.length_map,List.length_take,Nat.min_eq_left (Nat.le_of_lt hi'),Bool.true_and,decide_eq_true (show i+1≤4294967296 by omega),cond_true]
      rw[zI (by omega)]
      have:=ih (i+1) a b (by omega)
      rw[List.take_succ_eq_append_getElem hi',List.map_append,List.map_append]at this
      exact this
    have:=loop e.l.length 0 0 0 (by omega)
    rw[List.take_zero]at this
    exact this
def zYy(e:Ex) (cols:List Int) (row:List Val):Val:=bif mayT e then zKI (zDT cols row) e else badV
theorem z2q(e:Ex) (cols:List Int) (row:List Val) (he:e.ok) (hv:e.vals) (hc:cols.length≤9223372036854775807) (hr:∀ v∈row,VOk v) :
 wc W zJH [e.pv,zBV cols,rowp row]=some (zYy e cols row).pv:=by
 have h:=zSa e.op e.col e.v.K e.v.N (e.l.map Ex.pv) (cols.map intp) (row.map Val.pv)
 rw[Ex.fold,zA,zH]at h
 rw[h,zO2 e he]
 simp only[Option.bind_some,c_b_mk]
 unfold zYy
 cases hm:mayT e with
 |false=>rfl
 |true =>
  have h30:=zSr hm
  simp only[Bool.not_true,cond_false,cond_true,zZi cols row hc hr e.sz e (Nat.le_refl _) (by omega) (zLZ e.sz e (Nat.le_refl _) 1 0 hm) hv,Option.bind_some,Val.c_mk,Val.fold]
def zKv(e:Ex) (cols:List Int) (row:List Val):Bool:=zVR (zYy e cols row)
theorem z09(e:Ex) (cols:List Int) (row:List Val) (he:e.ok) (hv:e.vals) (hc:cols.length≤9223372036854775807) (hr:∀ v∈row,VOk v) :
 wc W zHi [e.pv,zBV cols,rowp row]=some (.bool (zKv e cols row)):=by
 have h:=zQw e.op e.col e.v.K e.v.N (e.l.map Ex.pv) (cols.map intp) (row.map Val.pv)
 rw[Ex.fold,zA,zH]at h
 rw[h,z2q e cols row he hv hc hr]
 simp only[Option.bind_some,Val.c_mk,Val.fold,zZ5,c_b_mk]
 rfl
mutual
def zJ1:Ex→List Int
 | .mk o c _ l=>(bif o==1 then [c]else [])++zN0 l
def zN0:List Ex→List Int
 | []=>[]
 |e::r=>zJ1 e++zN0 r
end
theorem zPf(e:Ex):zJ1 e=(bif e.op==1 then [e.col]else [])++zN0 e.l:=by cases e;rfl
theorem zVY(l:List Ex) (i:Nat) (hi:i<l.length):zN0 (l.drop i)=zJ1 l[i]++zN0 (l.drop (i+1)):=by rw[List.drop_eq_getElem_cons hi];rfl
theorem zKw:∀(m:Nat),(∀ e:Ex,e.sz≤m→(zJ1 e).length≤e.sz)∧∀ l:List Ex,Ex.szL l≤m→(zN0 l).length≤Ex.szL l
 | 0=>⟨λ e h=>by have:=e.sz_pos;omega,λ l h=>by
  cases l with
  |nil=>exact Nat.le_refl _
  |cons e r=>have:=e.sz_pos;simp only[Ex.szL]at h;omega⟩
 |m+1=>by
  obtain⟨h1,h2⟩:=zKw m
  have hE:∀ e:Ex,e.sz≤m+1→(zJ1 e).length≤e.sz:=λ e h=>by
   have hsz:e.sz=Ex.szL e.l+1:=by cases e;rfl
   have:=h2 e.l (by omega)
   rw[zPf,List.length_append]
   cases e.op==1<;>simp<;>omega
  refine⟨hE,λ l=> ?_⟩
  induction l with
  |nil=>exact λ _=>Nat.le_refl _
  |cons e r ih =>
   intro h
   simp only[Ex.szL]at h
   have a:=hE e (by omega)
   have b:=ih (by omega)
   simp only[zN0,Ex.szL,List.length_append];omega
theorem z0a(e:Ex) (d:Int) (acc:List Int) (h:acc.length+1≤4294967296) :
 W zBr false [.pv e.pv, .pv (.int .i64 d), .own 0 0] [.var false 0 (.view 1 0 none), .row false 0 0 (acc.map intp)] =
  some (.pv (.bool true),[.var false 0 (.view 1 0 none), .row false 0 0 ((acc++bif e.op==1 then [e.col]else []).map intp)]):=by
 have he:=zJz e.op e.col e.v.K e.v.N (e.l.map Ex.pv) d (acc.map intp)
 rw[Ex.fold]at he
 rw[he,List.length_map]
 cases e.op==1 with
 |false=>simp
 |true =>
  simp only[Bool.true_and,decide_eq_true h,cond_true,List.map_append,List.map_cons,List.map_nil]
  rfl
theorem zXQ:∀(m:Nat) (e:Ex),e.sz≤m→∀(d:Int) (acc:List Int),acc.length+e.sz≤4294967295 →
 W zCm false [.pv e.pv, .pv (.int .i64 d), .fnv zBr [] [.own 0 0]] [.var false 0 (.view 1 0 none), .row false 0 0 (acc.map intp)] =
  some (.pv (.bool true),[.var false 0 (.view 1 0 none), .row false 0 0 ((acc++zJ1 e).map intp)])
 | 0,e,h,_,_,_=>by have:=e.sz_pos;omega
 |m+1,e,h,d,acc,ha=>by
  have he:=zLj e.op e.col e.v.K e.v.N (e.l.map Ex.pv) d (acc.map intp)
  rw[Ex.fold]at he
  have hsz:e.sz=Ex.szL e.l+1:=by cases e;rfl
  have hge:=Ex.szL_ge e.l
  have hc:=(zKw e.sz).1 e (Nat.le_refl _)
  have hcl:=(zKw (Ex.szL e.l)).2 e.l (Nat.le_refl _)
  rw[he,z0a e d acc (by omega)]
  simp only[Option.bind_some,k_b2223f_mk,c_b_mk,Bool.not_true,cond_false,List.length_map]
  have hx:(acc++bif e.op==1 then [e.col]else []).length≤acc.length+1:=by rw[List.length_append];cases e.op==1<;>simp
  have loop:∀(k i:Nat) (ac:List Int),i+k=e.l.length→ac.length+Ex.szL (e.l.drop i)≤4294967295 →
   zD3 d (e.l.map Ex.pv) (e.l.length:Int) (i:Int) (ac.map intp)=some (.pv (.bool true),[.var false 0 (.view 1 0 none), .row false 0 0 ((ac++zN0 (e.l.drop i)).map intp)]):=λ k=>by
   induction k with
   |zero =>
    intro i ac hi _
    rw[zF8,show i=e.l.length by omega]
    simp[zBz,zN0]
   |succ k ih =>
    intro i ac hi hb
    have hi' :i<e.l.length:=by omega
    have hm:=Ex.sz_mem (List.getElem_mem hi')
    rw[Ex.sz_drop e.l i hi']at hb
    have hci:=(zKw e.l[i].sz).1 e.l[i] (Nat.le_refl _)
    rw[zF8]
    simp only[zP hi',zAM,cond_true,Int.toNat_natCast,List.getElem?_map,List.getElem?_eq_getElem hi',Option.map_some,Option.bind_some,Ex.c_mk,Ex.fold]
    rw[zXQ m e.l[i] (by omega) _ ac (by omega)]
    simp only[Option.bind_some,k_b2223f_mk,c_b_mk,Bool.not_true,cond_false]
    rw[zI (by omega),ih (i+1) (ac++zJ1 e.l[i]) (by omega) (by rw[List.length_append];omega),zVY e.l i hi',List.append_assoc]
  have:=loop e.l.length 0 (acc++bif e.op==1 then [e.col]else []) (by omega) (by rw[List.drop_zero];omega)
  rw[List.drop_zero,List.append_assoc,←zPf]at this
  exact this
def zG8(e:Ex):List Int:=bif mayT e then Lib.compact (zEs (zJ1 e))else []
theorem zZj(e:Ex) (he:e.ok):wc W zGr [e.pv]=some (zBV (zG8 e)):=by
 have h:=zS6 e.op e.col e.v.K e.v.N (e.l.map Ex.pv)
 rw[Ex.fold]at h
 rw[h,zO2 e he]
 simp only[Option.bind_some,c_b_mk]
 unfold zG8
 cases hm:mayT e with
 |false=>rfl
 |true =>
  have h30:=zSr hm
  have hc:=(zKw e.sz).1 e (Nat.le_refl _)
  have h1:=zXQ e.sz e (Nat.le_refl _) 1 [] (by simp;omega)
  have h2:=zE8 false 0 (zJ1 e) (by omega)
  have h3:=zDk 0 (zEs (zJ1 e)) (by rw[zGT];omega)
  simp only[List.map_nil,List.nil_append]at h1
  simp only[Bool.not_true,cond_false,cond_true,h1,Option.bind_some,k_b2223f_mk,c_b_mk]
  have e1:∀ l:List Int,l.map intp=l.map (PV.int .i64):=λ _=>rfl
  rw[e1,h2]
  simp only[Option.bind_some,k_cad770_mk,h3,k_b7636c_mk,c_s0_mk]
  rfl
theorem zSt(zs:List Int) (c:Int):c∈Lib.compact zs↔c∈zs:=by
 unfold Lib.compact Lib.compactUpTo
 simp only[List.mem_map,List.mem_filter,List.mem_range]
 constructor
 ·rintro⟨j,⟨hj,_⟩,rfl⟩
  have:(zs.toArray[j]! :Int)=zs[j]:=by simp[getElem!_pos,hj]
  rw[this];exact List.getElem_mem hj
 ·intro h
  have hex:∃ j,j<zs.length∧zs.toArray[j]! =c:=by
   obtain⟨j,hj,e⟩:=List.mem_iff_getElem.1 h
   exact⟨j,hj,by simp[getElem!_pos,hj,e]⟩
  have hmin:∀ n:Nat,∀ j,j≤n→j<zs.length→zs.toArray[j]! =c→∃ i,(i<zs.length∧Lib.keeps zs.toArray i=true)∧zs.toArray[i]! =c:=λ n=>by
   induction n with
   |zero =>
    intro j hj hl hc
    have:j=0:=by omega
    subst this
    exact⟨0,⟨hl,by simp[Lib.keeps]⟩,hc⟩
   |succ n ih =>
    intro j hj hl hc
    by_cases hk:Lib.keeps zs.toArray j=true
    ·exact⟨j,⟨hl,hk⟩,hc⟩
    ·have hk' :¬ (j=0∨zs.toArray[j]! ≠zs.toArray[j-1]!):=λ h=>hk (by unfold Lib.keeps;exact decide_eq_true h)
     have h0:j≠0:=λ e=>hk' (.inl e)
     have h1:zs.toArray[j]! =zs.toArray[j-1]! :=Classical.byContradiction λ e=>hk' (.inr e)
     exact ih (j-1) (by omega) (by omega) (by rw[← h1];exact hc)
  obtain⟨j,hj,hc⟩:=hex
  exact hmin j j (Nat.le_refl _) hj hc
theorem zXR{e:Ex} (h:mayT e=true) (c:Int):c∈zG8 e↔c∈zJ1 e:=by
 unfold zG8
 rw[h,cond_true,zSt]
 exact zWb
theorem zN1{f g:Int→Val}:∀(m:Nat) (e:Ex),e.sz≤m→(∀ c∈zJ1 e,f c=g c)→zKI f e=zKI g e
 | 0,e,h,_=>by have:=e.sz_pos;omega
 |m+1,e,h,hc=>by
  rw[zMN,zMN]
  have hsz:e.sz=Ex.szL e.l+1:=by cases e;rfl
  rw[zPf]at hc
  cases e.op==0 with
  |true=>rfl
  |false =>
   cases h1:e.op==1 with
   |true=>exact hc e.col (by rw[h1];simp)
   |false =>
    simp only[cond_false]
    congr 1
    have hmem:∀(l:List Ex) (x:Ex),x∈l→∀ c∈zJ1 x,c∈zN0 l:=λ l=>by
     induction l with
     |nil=>intro x hx;cases hx
     |cons y r ih =>
      intro x hx c hc
      simp only[zN0,List.mem_append]
      rcases List.mem_cons.1 hx with rfl | hx
      ·exact .inl hc
      ·exact .inr (ih x hx c hc)
    exact List.map_congr_left λ x hx=>zN1 m x (by have:=Ex.sz_mem hx;omega) λ c hcx=>hc c (by rw[List.mem_append];exact .inr (hmem e.l x hx c hcx))
theorem zJ2{e:Ex} {cols cols' :List Int} {row row' :List Val} (h:∀ c∈zG8 e,zDT cols row c=zDT cols' row' c):zKv e cols row=zKv e cols' row' :=by
 unfold zKv zYy
 cases hm:mayT e with
 |false=>rfl
 |true=>simp only[cond_true];rw[zN1 e.sz e (Nat.le_refl _) λ c hc=>h c ((zXR hm c).2 hc)]
end Go.Cf

namespace Go.Cf
open Go Go.Ab
set_option linter.unusedVariables false
set_option linter.unusedSimpArgs false
theorem zPg{α:Type} (ls:List (List α)) (i:Nat) (hi:i<ls.length):(ls.drop i).flatten.length=ls[i].length+(ls.drop (i+1)).flatten.length:=by
 rw[List.drop_eq_getElem_cons hi,List.flatten_cons,List.length_append]
theorem zYz(n:Nat) (h:n≤4294967296):W zCo true [.nil 0, .pv (.int .i64 (n:Int))] []=some (.view 0 0 none,[.row false 0 0 []]):=by
 rw[zFk,decide_eq_false (show ¬ (n:Int)<0 by omega)]
 simp only[cond_false,zEk]
 rw[zQ (by omega) (by omega)]
 by_cases h0:(n:Int)-0>0
 ·rw[decide_eq_true h0,decide_eq_true (show(n:Int)-0≤4294967296 by omega)]
  have:decide ((0:Int)<(n:Int)-0)=true:=decide_eq_true h0
  simp
 ·rw[decide_eq_false h0];rfl
theorem z2r(ls:List (List Int)) (hn:ls.length≤4294967296) (hl:ls.flatten.length≤4294967296):∀(k i s:Nat),i+k=ls.length→s+(ls.drop i).flatten.length=ls.flatten.length →
 zBQ (ls.map zBV) (s:Int) (ls.map zBV) (ls.length:Int) (i:Int)=zAm (ls.map zBV) (ls.length:Int) 0 []
 | 0,i,s,h,hs=>by
  rw[zCe,show i=ls.length by omega]
  simp only[zBz,cond_false,zYz s (by omega),Option.bind_some,List.length_map]
  rfl
 |k+1,i,s,h,hs=>by
  have hi:i<ls.length:=by omega
  have hc:=zPg ls i hi
  rw[zCe]
  simp only[zP hi,zAM,cond_true,Int.toNat_natCast,List.getElem?_map,List.getElem?_eq_getElem hi,Option.map_some,Option.bind_some,zEl,List.length_map]
  rw[show IntKind.wrap .i64 ((s:Int)+(ls[i].length:Int))=((s+ls[i].length:Nat):Int) by rw[zQ (by omega) (by omega)];omega,decide_eq_false (by omega),zI (by omega)]
  exact z2r ls hn hl k (i+1) (s+ls[i].length) (by omega) (by omega)
theorem z2s(ls:List (List Int)) (hn:ls.length≤4294967296):∀(k i:Nat) (acc:List Int),i+k=ls.length→acc.length+(ls.drop i).flatten.length≤4294967296 →
 zAm (ls.map zBV) (ls.length:Int) (i:Int) (acc.map intp)=some (zBV (acc++(ls.drop i).flatten))
 | 0,i,acc,h,hl=>by
  rw[zCf,show i=ls.length by omega]
  simp
 |k+1,i,acc,h,hl=>by
  have hi:i<ls.length:=by omega
  have hc:=zPg ls i hi
  rw[zCf]
  simp only[zP hi,zAM,cond_true,Int.toNat_natCast,List.getElem?_map,List.getElem?_eq_getElem hi,Option.map_some,Option.bind_some,zEl,List.length_map,Bool.true_and,decide_eq_true (show acc.length+ls[i].length≤4294967296 by omega)]
  rw[zI (by omega)]
  have:=z2s ls hn k (i+1) (acc++ls[i]) (by omega) (by simp only[List.length_append];omega)
  rw[List.map_append]at this
  rw[this,List.drop_eq_getElem_cons hi,List.flatten_cons,List.append_assoc]
theorem zXS(ls:List (List Int)) (hn:ls.length≤4294967296) (hl:ls.flatten.length≤4294967296):wc W zCY [.slice 0 (ls.map zBV)]=some (zBV ls.flatten):=by
 rw[zGz,List.length_map]
 refine(z2r ls hn hl ls.length 0 0 (by omega) (by simp)).trans ?_
 have:=z2s ls hn ls.length 0 [] (by omega) (by simpa using hl)
 simpa using this
theorem zZA(n:Nat) (h:n≤4294967296):W zB0 true [.nil 3, .pv (.int .i64 (n:Int))] []=some (.view 0 0 none,[.row false 0 3 []]):=by
 rw[zDq,decide_eq_false (show ¬ (n:Int)<0 by omega)]
 simp only[cond_false,zDR]
 rw[zQ (by omega) (by omega)]
 by_cases h0:(n:Int)-0>0
 ·rw[decide_eq_true h0,decide_eq_true (show(n:Int)-0≤4294967296 by omega)]
  have:decide ((0:Int)<(n:Int)-0)=true:=decide_eq_true h0
  simp
 ·rw[decide_eq_false h0];rfl
theorem z2t(ls:List (List Val)) (hn:ls.length≤4294967296) (hl:ls.flatten.length≤4294967296):∀(k i s:Nat),i+k=ls.length→s+(ls.drop i).flatten.length=ls.flatten.length →
 zA3 (ls.map rowp) (s:Int) (ls.map rowp) (ls.length:Int) (i:Int)=zAL (ls.map rowp) (ls.length:Int) 0 []
 | 0,i,s,h,hs=>by
  rw[zBb,show i=ls.length by omega]
  simp only[zBz,cond_false,zZA s (by omega),Option.bind_some,List.length_map]
  rfl
 |k+1,i,s,h,hs=>by
  have hi:i<ls.length:=by omega
  have hc:=zPg ls i hi
  rw[zBb]
  simp only[zP hi,zAM,cond_true,Int.toNat_natCast,List.getElem?_map,List.getElem?_eq_getElem hi,Option.map_some,Option.bind_some,zCv,List.length_map]
  rw[show IntKind.wrap .i64 ((s:Int)+(ls[i].length:Int))=((s+ls[i].length:Nat):Int) by rw[zQ (by omega) (by omega)];omega,decide_eq_false (by omega),zI (by omega)]
  exact z2t ls hn hl k (i+1) (s+ls[i].length) (by omega) (by omega)
theorem z2u(ls:List (List Val)) (hn:ls.length≤4294967296):∀(k i:Nat) (acc:List Val),i+k=ls.length→acc.length+(ls.drop i).flatten.length≤4294967296 →
 zAL (ls.map rowp) (ls.length:Int) (i:Int) (acc.map Val.pv)=some (rowp (acc++(ls.drop i).flatten))
 | 0,i,acc,h,hl=>by
  rw[zBc,show i=ls.length by omega]
  simp
 |k+1,i,acc,h,hl=>by
  have hi:i<ls.length:=by omega
  have hc:=zPg ls i hi
  rw[zBc]
  simp only[zP hi,zAM,cond_true,Int.toNat_natCast,List.getElem?_map,List.getElem?_eq_getElem hi,Option.map_some,Option.bind_some,zCv,List.length_map,Bool.true_and,decide_eq_true (show acc.length+ls[i].length≤4294967296 by omega)]
  rw[zI (by omega)]
  have:=z2u ls hn k (i+1) (acc++ls[i]) (by omega) (by simp only[List.length_append];omega)
  rw[List.map_append]at this
  rw[this,List.drop_eq_getElem_cons hi,List.flatten_cons,List.append_assoc]
theorem zXT(ls:List (List Val)) (hn:ls.length≤4294967296) (hl:ls.flatten.length≤4294967296):wc W zBG [.slice 0 (ls.map rowp)]=some (rowp ls.flatten):=by
 rw[zEU,List.length_map]
 refine(z2t ls hn hl ls.length 0 0 (by omega) (by simp)).trans ?_
 have:=z2u ls hn ls.length 0 [] (by omega) (by simpa using hl)
 simpa using this
def zBi(r s:List (List Val)):List (List Val):=r.flatMap λ x=>s.map λ y=>x++y
theorem zZk(C D E F:List PV) (x:List Val) (A:List PV) (n i:Int) (s:List (List Val)) (hx:x.length≤100) (hs:∀ y∈s,y.length≤100) (hsn:s.length≤5000) (X Y:List PV):∀(k j:Nat) (acc:List (List Val)),j+k=s.length→acc.length+k≤4294967295 →
 zEz C D (x.map Val.pv) A n i (s.map rowp) (s.length:Int) (j:Int) X Y E (acc.map rowp)=zEB C D A n (IntKind.wrap .i64 (i+1)) X Y E ((acc++(s.drop j).map λ y=>x++y).map rowp)
 | 0,j,acc,h,hl=>by
  rw[zHN,show j=s.length by omega]
  simp
 |k+1,j,acc,h,hl=>by
  have hj:j<s.length:=by omega
  have hy:=hs _ (List.getElem_mem hj)
  rw[zHN]
  have hc:=zXT [x,s[j]] (by simp) (by simp;omega)
  simp only[List.map_cons,List.map_nil,List.flatten_cons,List.flatten_nil,List.append_nil]at hc
  simp only[zP hj,zAM,cond_true,Int.toNat_natCast,List.getElem?_map,List.getElem?_eq_getElem hj,Option.map_some,Option.bind_some,zCv,zH,hc,List.length_map,Bool.true_and,decide_eq_true (show acc.length+1≤4294967296 by omega)]
  rw[zI (by omega)]
  have:=zZk C D E F x A n i s hx hs hsn X Y k (j+1) (acc++[x++s[j]]) (by omega) (by simp;omega)
  simp only[List.map_append,List.map_cons,List.map_nil]at this
  simp only[rowp,List.map_append]at this ⊢
  rw[this,List.drop_eq_getElem_cons hj]
  simp only[List.map_cons,List.append_assoc,List.cons_append,List.nil_append,rowp,List.map_append]
theorem zZl(C D E F:List PV) (r s:List (List Val)) (hr:∀ x∈r,x.length≤100) (hs:∀ y∈s,y.length≤100) (hl:r.length≤5000) (hsn:s.length≤5000) (X Y:List PV):∀(k i:Nat) (acc:List (List Val)),i+k=r.length→acc.length+(zBi (r.drop i) s).length≤4294967295 →
 zEB C (s.map rowp) (r.map rowp) (r.length:Int) (i:Int) X Y E (acc.map rowp)=some (.tup [.agg [.slice 0 E,tabp (acc++zBi (r.drop i) s)], .bool true])
 | 0,i,acc,h,hb=>by
  rw[zHM,show i=r.length by omega]
  simp[zBi]
 |k+1,i,acc,h,hb=>by
  have hi:i<r.length:=by omega
  have hp:zBi (r.drop i) s=(s.map λ y=>r[i]++y)++zBi (r.drop (i+1)) s:=by
   rw[List.drop_eq_getElem_cons hi];rfl
  rw[hp]at hb ⊢
  simp only[List.length_append,List.length_map]at hb
  rw[zHM]
  simp only[zP hi,zAM,cond_true,Int.toNat_natCast,List.getElem?_map,List.getElem?_eq_getElem hi,Option.map_some,Option.bind_some,zCv,List.length_map]
  have h3:=zZk C (s.map rowp) E F r[i] (r.map rowp) (r.length:Int) (i:Int) s (hr _ (List.getElem_mem hi)) hs hsn X Y s.length 0 acc (by omega) (by omega)
  refine h3.trans ?_
  rw[zI (by omega),List.drop_zero]
  have:=zZl C D E F r s hr hs hl hsn X Y k (i+1) (acc++s.map λ y=>r[i]++y) (by omega) (by simp only[List.length_append,List.length_map];omega)
  rw[this,List.append_assoc]
def zO5(c:List Int) (r:List (List Val)) (d:List Int) (s:List (List Val)):Option (List Int×List (List Val)) :=
 bif mayB c r&&mayB d s&&mayB (c++d) []&&decide (r.length*s.length≤5000)then some (c++d,zBi r s)else none
theorem zIC(r s:List (List Val)):(zBi r s).length=r.length*s.length:=by
 unfold zBi
 induction r with
 |nil=>simp
 |cons a r ih=>rw[List.flatMap_cons,List.length_append,ih,List.length_map,List.length_cons,Nat.succ_mul];omega
theorem zXU(c:List Int) (r:List (List Val)) (d:List Int) (s:List (List Val)) (hcd:c.length+d.length≤4294967296) (hr:r.length≤9223372036854775807) (hs:s.length≤9223372036854775807)
 (hrl:∀ x∈r,x.length≤9223372036854775807) (hsl:∀ x∈s,x.length≤9223372036854775807):wc W zGo [bagp c r,bagp d s]=some (bagR (zO5 c r d s)):=by
 have h:=zS4 (c.map intp) (r.map rowp) (d.map intp) (s.map rowp)
 rw[zA,zA,zR,zR,zAA,zAA]at h
 have hc:=zXS [c,d] (by simp) (by simpa using hcd)
 simp only[List.map_cons,List.map_nil,List.flatten_cons,List.flatten_nil,List.append_nil]at hc
 have e0:PV.agg [zBV (c++d),PV.slice 0 []]=bagp (c++d) []:=rfl
 rw[h,hc]
 simp only[Option.bind_some,zEl,zA,e0,zG7 c r (by omega) hr hrl,zG7 d s (by omega) hs hsl,zG7 (c++d) [] (by simp;omega) (by simp) (by simp),c_b_mk,List.length_map]
 unfold zO5
 cases h1:mayB c r with
 |false=>rfl
 |true =>
  cases h2:mayB d s with
  |false=>rfl
  |true =>
   cases h3:mayB (c++d) [] with
   |false=>rfl
   |true =>
    obtain⟨a1,a2,a3⟩:=zCZ h1
    obtain⟨b1,b2,b3⟩:=zCZ h2
    have hm:r.length*s.length≤5000*5000:=Nat.mul_le_mul a2 b2
    have hw:IntKind.wrap .i64 ((r.length:Int)*(s.length:Int))=((r.length*s.length:Nat):Int):=by
     rw[← Int.natCast_mul,zQ (by omega) (by omega)]
    rw[hw]
    by_cases h4:r.length*s.length≤5000
    ·rw[decide_eq_true h4,decide_eq_false (show ¬ ((r.length*s.length:Nat):Int)>5000 by omega)]
     simp only[Bool.not_true,cond_false,Bool.and_self,cond_true,zLe,List.length_map]
     have:=zZl (d.map intp) [] ((c++d).map intp) [] r s (λ x hx=>by have:=(a3 x hx).1;omega) (λ x hx=>by have:=(b3 x hx).1;omega) a2 b2 [] [] r.length 0 [] (by omega) (by rw[List.drop_zero,zIC];simp;omega)
     simp only[List.map_nil,List.drop_zero,List.nil_append]at this
     exact this
    ·rw[decide_eq_false h4,decide_eq_true (show((r.length*s.length:Nat):Int)>5000 by omega)]
     rfl
end Go.Cf

namespace Go.Cf
open Go Go.Ab
set_option linter.unusedVariables false
set_option linter.unusedSimpArgs false
mutual
def Ex.lens:Ex→Prop
 | .mk _ _ _ l=>l.length≤9223372036854775807∧Ex.lensL l
def Ex.lensL:List Ex→Prop
 | []=>True
 |e::r=>e.lens∧Ex.lensL r
end
theorem Ex.lensL_mem:∀{l:List Ex},Ex.lensL l→∀ e∈l,e.lens
 |x::r,h,e,he=>by
  rcases List.mem_cons.1 he with rfl | he
  ·exact h.1
  ·exact Ex.lensL_mem h.2 e he
theorem Ex.lens_l{e:Ex} (h:e.lens):e.l.length≤9223372036854775807∧∀ x∈e.l,x.lens:=by cases e;exact⟨h.1,Ex.lensL_mem h.2⟩
theorem zXV:∀(k:Nat) (e:Ex),e.sz≤k→e.lens→∀ m:Nat,m≤1000000→wc W zCD [e.pv, .int .i64 (m:Int)]=some (.int .i64 ((min e.sz (m+1):Nat):Int))
 | 0,e,h,_,_,_=>by have:=e.sz_pos;omega
 |k+1,e,h,he,m,hm=>by
  have hh:=zId e.op e.col e.v.K e.v.N (e.l.map Ex.pv) (m:Int)
  rw[Ex.fold]at hh
  rw[hh]
  have hsz:e.sz=Ex.szL e.l+1:=by cases e;rfl
  obtain⟨hl,hx⟩:=Ex.lens_l he
  have loop:∀(q i n:Nat),i+q=e.l.length→n≤m+1 →
   zBh (m:Int) e.op e.col e.v.K e.v.N (e.l.map Ex.pv) (n:Int) (i:Int)=some (.int .i64 ((min (n+Ex.szL (e.l.drop i)) (m+1):Nat):Int)):=λ q=>by
   induction q with
   |zero =>
    intro i n hi hn
    rw[zD0,show i=e.l.length by omega,List.length_map]
    simp only[zBz,cond_false,List.drop_length,Ex.szL,Nat.add_zero,Nat.min_eq_left hn]
   |succ q ih =>
    intro i n hi hn
    have hi' :i<e.l.length:=by omega
    rw[zD0,List.length_map]
    simp only[zP hi',cond_true]
    by_cases hnm:n≤m
    ·have hm' :=Ex.sz_mem (List.getElem_mem hi')
     rw[decide_eq_true (show(n:Int)≤(m:Int) by omega),cond_true,zGL]
     simp only[zAM,cond_true,Int.toNat_natCast,List.getElem?_map,List.getElem?_eq_getElem hi',Option.map_some,Option.bind_some,Ex.c_mk,Ex.fold]
     rw[zQ (by omega) (by omega),show((m:Int)-(n:Int))=((m-n:Nat):Int) by omega,zXV k e.l[i] (by omega) (hx _ (List.getElem_mem hi')) (m-n) (by omega)]
     simp only[Option.bind_some,c_i64_mk]
     rw[show((n:Int)+((min e.l[i].sz (m-n+1):Nat):Int))=((n+min e.l[i].sz (m-n+1):Nat):Int) by omega,zYm (by omega),zI (by omega),ih (i+1) (n+min e.l[i].sz (m-n+1)) (by omega) (by omega),Ex.sz_drop e.l i hi']
     congr 3
     omega
    ·rw[decide_eq_false (show ¬ (n:Int)≤(m:Int) by omega),cond_false]
     congr 3
     omega
  have:=loop e.l.length 0 1 (by omega) (by omega)
  rw[List.drop_zero]at this
  rw[show(1:Int)=((1:Nat):Int)from rfl,show(0:Int)=((0:Nat):Int)from rfl,this]
  congr 3
  omega
theorem z2v(e:Ex) (he:e.lens):wc W zD9 [e.pv, .int .i64 60]=some (.bool (decide (e.sz≤60))):=by
 have h:=zJU e.op e.col e.v.K e.v.N (e.l.map Ex.pv) 60
 rw[Ex.fold]at h
 rw[h,show(60:Int)=((60:Nat):Int)from rfl,zXV e.sz e (Nat.le_refl _) he 60 (by omega)]
 simp only[Option.bind_some,c_i64_mk]
 congr 3
 first | (rw[decide_eq_decide];omega) | exact propext (by omega)
def exsp(l:List Ex):PV:= .slice 6 (l.map Ex.pv)
theorem zID(l:List Ex):PV.slice 6 (l.map Ex.pv)=exsp l:=rfl
theorem zN2(c0:List Int) (g:Nat) (fs cs:List PV) (r:List (List Val)) (f:List Val→Bool) (hr:r.length≤4294967295) (hl:∀ x∈r,x.length≤4294967296) (hf:∀ x∈r,wc W g (fs++[rowp x]++cs)=some (.bool (f x))) :
 ∀(k i:Nat) (a b:List PV) (acc:List (List Val)),i+k=r.length→acc.length≤i →
 zEa (.fn g fs cs) (r.map rowp) (r.length:Int) (i:Int) a b (c0.map intp) (acc.map rowp)=some (bagp c0 (acc++(r.drop i).filter f))
 | 0,i,a,b,acc,hi,hacc=>by
  rw[zHs,show i=r.length by omega]
  simp[zBz]
 |k+1,i,a,b,acc,hi,hacc=>by
  have hi' :i<r.length:=by omega
  rw[zHs,List.drop_eq_getElem_cons hi',List.filter_cons]
  simp only[zP hi',zAM,cond_true,Int.toNat_natCast,List.getElem?_map,List.getElem?_eq_getElem hi',Option.map_some,Option.bind_some,zCv,asFn_mk,zH,hf _ (List.getElem_mem hi'),c_b_mk]
  have hcl:=zCU (r[i].map Val.pv) (by rw[List.length_map];exact hl _ (List.getElem_mem hi'))
  rw[zH]at hcl
  rw[zI (by omega)]
  cases hfx:f r[i] with
  |false =>
   simp only[cond_false,Bool.false_eq_true,if_false]
   exact zN2 c0 g fs cs r f hr hl hf k (i+1) a b acc (by omega) (by omega)
  |true =>
   simp only[cond_true,hcl,Option.bind_some,zCv,zH,List.length_map,Bool.true_and,decide_eq_true (show acc.length+1≤4294967296 by omega),if_true]
   have:=zN2 c0 g fs cs r f hr hl hf k (i+1) a b (acc++[r[i]]) (by omega) (by rw[List.length_append,List.length_singleton];omega)
   rw[List.map_append,List.append_assoc]at this
   exact this
theorem z2w(c:List Int) (r:List (List Val)) (g:Nat) (fs cs:List PV) (f:List Val→Bool) (hc:c.length≤4294967296) (hr:r.length≤4294967295) (hl:∀ x∈r,x.length≤4294967296) (hf:∀ x∈r,wc W g (fs++[rowp x]++cs)=some (.bool (f x))) :
 wc W zGV [bagp c r, .fn g fs cs]=some (bagp c (r.filter f)):=by
 have h:=zVG (c.map intp) (r.map rowp) (.fn g fs cs)
 rw[zA,zR,zAA]at h
 have hcl:=zC9 (c.map intp) (by rw[List.length_map];exact hc)
 rw[zA]at hcl
 rw[h,hcl,List.length_map]
 simp only[Option.bind_some,zEl]
 have:=zN2 c g fs cs r f hr hl hf r.length 0 [] [] [] (by omega) (by simp)
 simpa using this
theorem z0b(l:List Ex) (g:Nat) (fs cs:List PV) (f:Ex→Bool) (hl:l.length≤9223372036854775807) (hf:∀ x∈l,wc W g (fs++[x.pv]++cs)=some (.bool (f x))) :
 wc W zA7 [exsp l, .fn g fs cs]=some (.bool (l.any f)):=by
 have h:=zCt (l.map Ex.pv) (.fn g fs cs)
 have h2:=zDZ (l.map Ex.pv) (.fn g fs cs)
 rw[zID]at h h2
 have h3:wc W zAl [exsp l, .fn g fs cs]=some (.int .i64 (idxI l f)):=by
  rw[h2,List.length_map]
  refine zI3 (λ i=>zAN (l.map Ex.pv) (.fn g fs cs) l.length i) l f (λ n=>some (.int .i64 n)) (λ i hi=> ?_) ?_
  ·rw[zBC]
   simp only[zP hi,zAM,cond_true,Int.toNat_natCast,List.getElem?_map,List.getElem?_eq_getElem hi,Option.map_some,Option.bind_some,Ex.c_mk,asFn_mk,Ex.fold]
   rw[hf _ (List.getElem_mem hi),zQ (by omega) (by omega)]
   simp only[Option.bind_some,c_b_mk]
  ·rw[zBC];simp
 rw[h,h3]
 simp[← zI2]
def zJ3(l:List Ex) (c:List Int) (row:List Val):Bool:=l.all λ e=>zKv e c row
theorem zZB{α:Type} (l:List α) (f:α→Bool):(!l.any λ x=> !f x)=l.all f:=by
 induction l with
 |nil=>rfl
 |cons a l ih=>simp only[List.any_cons,List.all_cons,Bool.not_or,Bool.not_not,ih]
theorem zXW(c:List Int) (r:List (List Val)) (l:List Ex) (hc:c.length≤4294967296) (hr:r.length≤4294967295) (hl:∀ x∈r,x.length≤4294967296) (hv:∀ x∈r,ROk x) (hll:l.length≤9223372036854775807) (he:∀ e∈l,e.ok∧e.vals) :
 wc W zDf [bagp c r,exsp l]=some (bagp c (r.filter (zJ3 l c))):=by
 have h:=zVB (c.map intp) (r.map rowp) (l.map Ex.pv)
 rw[zA,zR,zAA,zID]at h
 rw[h,z2w c r zFt [] [.imm 0 (exsp l) 0, .imm 3 (bagp c r) 0] (zJ3 l c) hc hr hl ?_]
 ·simp only[Option.bind_some,zEG]
  rfl
 ·intro x hx
  have h1:=zQv (x.map Val.pv) (l.map Ex.pv) (c.map intp) (r.map rowp)
  rw[zA,zR,zAA,zID,zH]at h1
  show wc W zFt [rowp x,_,_]=_
  rw[h1,z0b l zE1 [] [.imm 3 (bagp c r) 0, .imm 0 (rowp x) 0] (λ e=> !zKv e c x) hll ?_]
  ·simp only[Option.bind_some,c_b_mk,zZB]
   rfl
  ·intro e hel
   have h2:=zNm e.op e.col e.v.K e.v.N (e.l.map Ex.pv) (c.map intp) (r.map rowp) (x.map Val.pv)
   rw[Ex.fold,zA,zR,zAA,zH]at h2
   show wc W zE1 [e.pv,_,_]=_
   rw[h2,z09 e c x (he e hel).1 (he e hel).2 (by omega) (hv x hx)]
   rfl
end Go.Cf

namespace Go.Cf
open Go Go.Ab
set_option linter.unusedVariables false
set_option linter.unusedSimpArgs false
theorem zZC(l:List Def) (g:Nat) (fs cs:List PV) (f:Def→Bool) (hl:l.length≤9223372036854775807) (hf:∀ x∈l,wc W g (fs++[x.pv]++cs)=some (.bool (f x))) :
 wc W zAw [.slice 3 (l.map Def.pv), .fn g fs cs]=some (.int .i64 (idxI l f)):=by
 rw[zDr,List.length_map]
 refine zI3 (λ i=>zAW (l.map Def.pv) (.fn g fs cs) l.length i) l f (λ n=>some (.int .i64 n)) (λ i hi=> ?_) ?_
 ·rw[zBU]
  simp only[zP hi,zAM,cond_true,Int.toNat_natCast,List.getElem?_map,List.getElem?_eq_getElem hi,Option.map_some,Option.bind_some,Def.c_mk,asFn_mk,Def.fold]
  rw[hf _ (List.getElem_mem hi),zQ (by omega) (by omega)]
  simp only[Option.bind_some,c_b_mk]
 ·rw[zBU];simp
theorem zZD(l:List Def) (g:Nat) (fs cs:List PV) (f:Def→Bool) (hl:l.length≤9223372036854775807) (hf:∀ x∈l,wc W g (fs++[x.pv]++cs)=some (.bool (f x))) :
 wc W zAf [.slice 3 (l.map Def.pv), .fn g fs cs]=some (.bool (l.any f)):=by
 rw[zDQ,zZC l g fs cs f hl hf]
 simp[← zI2]
def catp(T:List Def):PV:= .agg [.slice 3 (T.map Def.pv)]
def zG9(D:List (List (List Val))):PV:= .agg [.slice 0 (D.map tabp)]
@[simp] theorem zAR(T:List Def):PV.agg [.slice 3 (T.map Def.pv)]=catp T:=rfl
@[simp] theorem zA4(D:List (List (List Val))):PV.agg [.slice 0 (D.map tabp)]=zG9 D:=rfl
@[simp] theorem c_catp(T:List Def) {R:Type} (f:List PV→Option R):zZ4 (catp T) f=f (T.map Def.pv):=rfl
@[simp] theorem c_datap(D:List (List (List Val))) {R:Type} (f:List PV→Option R):zZ3 (zG9 D) f=f (D.map tabp):=rfl
theorem w_in(n a b:Int):wc W zDx [.int .i64 n, .int .i64 a, .int .i64 b]=some (.bool (decide (a≤n)&&decide (n≤b))):=by
 rw[zWm]
 have:decide (n≥a)=decide (a≤n):=rfl
 rw[this]
 cases decide (a≤n)<;>rfl
def oneD(d:Def):Bool:=(decide (1≤d.Cols)&&decide (d.Cols≤4))&&(decide (1≤d.Rows)&&decide (d.Rows≤1000000))
theorem z30(d:Def):wc W zKg [d.pv]=some (.bool (oneD d)):=by
 have h:=zVJ d.Cols d.Rows
 rw[Def.fold]at h
 rw[h]
 simp only[w_in,Option.bind_some,c_b_mk]
 unfold oneD
 by_cases h0:d.Cols=0
 ·rw[h0]
  by_cases h1:d.Rows=0
  ·rw[h1];rfl
  ·rw[zEV h1];rfl
 ·rw[zEV h0]
  simp only[cond_false,Option.bind_some,c_b_mk,Bool.not_false,cond_true]
  cases (decide (1≤d.Cols)&&decide (d.Cols≤4))<;>simp
def mayC(T:List Def):Bool:=(decide (1≤(T.length:Int))&&decide ((T.length:Int)≤4))&&T.all oneD
theorem zXX(d:Def):wc W zFu [d.pv]=some (.bool (!oneD d)):=by
 have h:=zQy d.Cols d.Rows
 rw[Def.fold]at h
 rw[h,z30];rfl
theorem zO6(T:List Def) (hl:T.length≤9223372036854775807):wc W zIV [catp T]=some (.bool (mayC T)):=by
 have h:=zVD (T.map Def.pv)
 rw[zAR]at h
 rw[h,w_in,List.length_map]
 simp only[Option.bind_some,c_b_mk]
 rw[zZD T zFu [] [] (λ d=> !oneD d) hl (λ x _=>zXX x)]
 simp only[Option.bind_some,c_b_mk,zJW]
 unfold mayC
 cases (decide (1≤(T.length:Int))&&decide ((T.length:Int)≤4))<;>rfl
def zR3(r:List Val) (n:Int):Bool:=decide ((r.length:Int)=n)&&r.all mayV
theorem z2x(v:Val):wc W zFv [v.pv]=some (.bool (!mayV v)):=by
 have h:=zQz v.K v.N
 rw[Val.fold]at h
 rw[h,zHw];rfl
theorem z31(r:List Val) (n:Int) (hl:r.length≤9223372036854775807):wc W zKf [rowp r, .int .i64 n]=some (.bool (zR3 r n)):=by
 have h:=zVH (r.map Val.pv) n
 rw[zH]at h
 rw[h,List.length_map,zMG r zFv [] [] (λ v=> !mayV v) hl (λ x _=>z2x x)]
 simp only[Option.bind_some,c_b_mk,zJW]
 unfold zR3
 by_cases e:(r.length:Int)=n
 ·rw[zKq e,decide_eq_true e];simp
 ·rw[zEV e,decide_eq_false e];simp
def zEH(T:List Def) (i:Nat):Int:=(T[i]?.map Def.Cols).getD 0
def zSu(T:List Def) (i:Nat) (t:List (List Val)):Bool:=decide (t.length≤8)&&t.all λ r=>zR3 r (zEH T i)
def fits(T:List Def) (D:List (List (List Val))):Bool:=mayC T&&decide (D.length=T.length)&&(List.range D.length).all λ i=>(D[i]?).all (zSu T i)
theorem z0c(T:List Def) (r:List Val) (i:Nat) (hi:i<T.length) (hl:r.length≤9223372036854775807) :
 W zB5 false [.pv (rowp r), .pv (.imm 2 (catp T) 0), .own 0 0] [.var false 0 (.pv (.int .i64 (i:Int)))]=some (.pv (.bool (!zR3 r (zEH T i))),[.var false 0 (.pv (.int .i64 (i:Int)))]):=by
 have h:=zJy (r.map Val.pv) (T.map Def.pv) (i:Int)
 rw[zH,zAR]at h
 rw[h]
 simp only[zAM,cond_true,Int.toNat_natCast,List.getElem?_map,List.getElem?_eq_getElem hi,Option.map_some,Option.bind_some,Def.load0,c_i64_mk,z31 _ _ hl,c_b_mk,zEH,Option.getD_some]
theorem zZE(T:List Def) (t:List (List Val)) (i:Nat) (hi:i<T.length) (ht:t.length≤9223372036854775807) (hl:∀ r∈t,r.length≤9223372036854775807) :
 W zA1 false [.pv (tabp t), .fnv zB5 [] [.pv (.imm 2 (catp T) 0), .own 0 0]] [.var false 0 (.pv (.int .i64 (i:Int)))] =
  some (.pv (.bool (!t.all λ r=>zR3 r (zEH T i))),[.var false 0 (.pv (.int .i64 (i:Int)))]):=by
 have h:=zBy (t.map rowp) (T.map Def.pv) (i:Int)
 have h2:=zCP (t.map rowp) (T.map Def.pv) (i:Int)
 rw[zR,zAR]at h h2
 rw[h,h2,List.length_map]
 rw[zI3 (λ n=>zS (t.map rowp) (T.map Def.pv) t.length n (i:Int)) t (λ r=> !zR3 r (zEH T i)) (λ n=>some (.pv (.int .i64 n),[.var false 0 (.pv (.int .i64 (i:Int)))])) ?_ ?_]
 ·simp only[Option.bind_some,k_5b106d_mk,c_i64_mk,zI2]
  rw[← zJW t,Bool.not_not]
 ·intro j hj
  rw[zAn]
  simp only[zP hj,zAM,cond_true,Int.toNat_natCast,List.getElem?_map,List.getElem?_eq_getElem hj,Option.map_some,Option.bind_some,zCv,zH,zAR,z0c T _ i hi (hl _ (List.getElem_mem hj)),k_5b106d_mk,c_b_mk]
  rw[zQ (by omega) (by omega)]
 ·rw[zAn];simp
structure DOk (D:List (List (List Val))):Prop where
 len:D.length≤9223372036854775807
 tab:∀ t∈D,t.length≤9223372036854775807
 row:∀ t∈D,∀ r∈t,r.length≤9223372036854775807
theorem zXY(T:List Def) (D:List (List (List Val))) (hT:T.length≤9223372036854775807) (hD:DOk D):wc W zFY [catp T,zG9 D]=some (.bool (fits T D)):=by
 have h:=zS3 (T.map Def.pv) (D.map tabp)
 rw[zAR,zA4]at h
 rw[h,zO6 T hT]
 simp only[Option.bind_some,c_b_mk,List.length_map]
 unfold fits
 cases mayC T with
 |false=>rfl
 |true =>
  simp only[Bool.not_true,cond_false,Bool.true_and]
  by_cases hl:D.length=T.length
  ·rw[zJV (by rw[hl]),decide_eq_true hl,cond_false,zLd,Bool.true_and,List.length_map]
   rw[zMF (λ i=>zEy (T.map Def.pv) (D.map tabp) D.length i) D.length (λ i=>(D[i]?).all (zSu T i)) (some (.bool false)) (some (.bool true)) ?_ ?_]
   ·cases (List.range D.length).all λ i=>(D[i]?).all (zSu T i)<;>rfl
   ·intro i hi
    have hiT:i<T.length:=by omega
    have hm:=List.getElem_mem hi
    have:=hD.len
    rw[zHL]
    simp only[zP hi,zAM,cond_true,Int.toNat_natCast,List.getElem?_map,List.getElem?_eq_getElem hi,Option.map_some,Option.bind_some,zNN,List.length_map,Option.all_some,zR,zAR,zZE T D[i] i hiT (hD.tab _ hm) (hD.row _ hm),k_5b106d_mk,c_b_mk]
    rw[zQ (by omega) (by omega)]
    unfold zSu
    by_cases h8:D[i].length≤8
    ·rw[decide_eq_true h8,decide_eq_false (show ¬ ((D[i].length:Nat):Int)>8 by omega)]
     cases D[i].all λ r=>zR3 r (zEH T i)<;>rfl
    ·rw[decide_eq_false h8,decide_eq_true (show((D[i].length:Nat):Int)>8 by omega)]
     rfl
   ·rw[zHL];simp
  ·rw[zHv (by omega),decide_eq_false hl];rfl
def colI(occ col:Int):Int:=bif (decide (0≤occ)&&decide (occ≤3))&&(decide (0≤col)&&decide (col≤3))then 4*occ+col else -1
theorem z0d(o c:Int):wc W zGW [.int .i64 o, .int .i64 c]=some (.int .i64 (colI o c)):=by
 rw[zVI]
 simp only[w_in,Option.bind_some,c_b_mk,colI]
 by_cases h:0≤o∧o≤3
 ·rw[decide_eq_true h.1,decide_eq_true h.2]
  by_cases h2:0≤c∧c≤3
  ·rw[decide_eq_true h2.1,decide_eq_true h2.2]
   simp only[Bool.and_self,Bool.not_true,cond_false,cond_true,zNM]
   rw[zQ (n:=4*o) (by omega) (by omega),zQ (by omega) (by omega)]
  ·have:(decide (0≤c)&&decide (c≤3))=false:=by rw[← Bool.decide_and];exact decide_eq_false h2
   rw[this];rfl
 ·have:(decide (0≤o)&&decide (o≤3))=false:=by rw[← Bool.decide_and];exact decide_eq_false h
  rw[this];rfl
def zUC(id:Int):PV:=bif decide (0≤id)&&decide (id≤15)then .tup [.int .i64 (id / 4), .int .i64 (id % 4), .bool true]else .tup [.int .i64 0, .int .i64 0, .bool false]
theorem div4{n:Int} (h:0≤n) (h2:n≤15):IntKind.wrap .i64 (Int.tdiv n 4)=n / 4∧Int.tmod n 4=n % 4:=by
 rw[Int.tdiv_eq_ediv_of_nonneg h,Int.tmod_eq_emod_of_nonneg h,zQ (by omega) (by omega)]
 exact⟨rfl,rfl⟩
theorem z0e(n:Int):wc W zHj [.int .i64 n]=some (zUC n):=by
 rw[zRB,w_in]
 simp only[Option.bind_some,c_b_mk,zUC]
 by_cases h:0≤n∧n≤15
 ·rw[decide_eq_true h.1,decide_eq_true h.2,(div4 h.1 h.2).1,(div4 h.1 h.2).2];rfl
 ·have:(decide (0≤n)&&decide (n≤15))=false:=by rw[← Bool.decide_and];exact decide_eq_false h
  rw[this];rfl
def zCx(occ:Int) (k n:Nat):List Int:=(List.range' k n).map λ i:Nat=>4*occ+(i:Int)
theorem zXZ(o:Int) (ho:0≤o∧o≤3) (t:Int) (D:List PV) (n:Nat) (hn:n≤4):∀(k i:Nat) (acc:List Int),i+k=n→acc.length≤i →
 zF6 t o D (n:Int) (i:Int) (acc.map intp)=zF6 t o D (n:Int) (n:Int) ((acc++zCx o i k).map intp)
 | 0,i,acc,h,hl=>by
  rw[show i=n by omega];simp[zCx]
 |k+1,i,acc,h,hl=>by
  have hi:i<n:=by omega
  rw[zIm]
  have hc:colI o (i:Int)=4*o+(i:Int):=by
   unfold colI
   rw[decide_eq_true ho.1,decide_eq_true ho.2,decide_eq_true (show(0:Int)≤i by omega),decide_eq_true (show(i:Int)≤3 by omega)];rfl
  simp only[zP hi,cond_true,z0d,Option.bind_some,c_i64_mk,hc,List.length_map,Bool.true_and,decide_eq_true (show acc.length+1≤4294967296 by omega)]
  rw[zI (by omega)]
  have:=zXZ o ho t D n hn k (i+1) (acc++[4*o+(i:Int)]) (by omega) (by simp;omega)
  simp only[List.map_append,List.map_cons,List.map_nil]at this
  refine this.trans ?_
  rw[show zCx o i (k+1)=(4*o+(i:Int))::zCx o (i+1) k from by simp[zCx,List.range'_succ]]
  simp only[List.map_append,List.map_cons,List.append_assoc,List.cons_append,List.nil_append]
def ofT(T:List Def) (D:List (List (List Val))) (t o:Int):Option (List Int×List (List Val)) :=
 bif fits T D&&(decide (0≤t)&&decide (t≤(T.length:Int)-1))&&(decide (0≤o)&&decide (o≤3))then some (zCx o 0 (zEH T t.toNat).toNat,D.getD t.toNat [])else none
def ofP(x:Option (List Int×List (List Val))):PV:=match x with | some b=> .tup [bagp b.1 b.2, .bool true] | none=> .tup [bagp [] [], .bool false]
theorem zKJ{T:List Def} {D:List (List (List Val))} (h:fits T D=true):D.length=T.length∧mayC T=true∧∀ i (hi:i<D.length),zSu T i D[i]=true:=by
 unfold fits at h
 simp only[Bool.and_eq_true,decide_eq_true_eq,List.all_eq_true,List.mem_range]at h
 refine⟨h.1.2,h.1.1,λ i hi=> ?_⟩
 have:=h.2 i hi
 simpa [List.getElem?_eq_getElem hi]using this
theorem zIE{T:List Def} (h:mayC T=true) {i:Nat} (hi:i<T.length):1≤zEH T i∧zEH T i≤4:=by
 unfold mayC at h
 simp only[Bool.and_eq_true,List.all_eq_true]at h
 have:=h.2 _ (List.getElem_mem hi)
 unfold oneD at this
 simp only[Bool.and_eq_true,decide_eq_true_eq]at this
 unfold zEH
 rw[List.getElem?_eq_getElem hi]
 exact this.1
theorem zUD{T:List Def} {i:Nat} {t:List (List Val)} (h:zSu T i t=true) (hc:zEH T i≤4):t.length≤8∧∀ r∈t,(r.length:Int)=zEH T i∧r.length≤4∧r.all mayV=true:=by
 unfold zSu at h
 simp only[Bool.and_eq_true,decide_eq_true_eq,List.all_eq_true]at h
 refine⟨h.1,λ r hr=> ?_⟩
 have:=h.2 r hr
 unfold zR3 at this
 simp only[Bool.and_eq_true,decide_eq_true_eq]at this
 exact⟨this.1,by omega,this.2⟩
end Go.Cf

namespace Go.Cf
open Go Go.Ab
set_option linter.unusedVariables false
set_option linter.unusedSimpArgs false
def zEm(l a:List Int):Bool:=l.all (inC a)
theorem zMO(l a:List Int) (hl:l.length≤9223372036854775807) (ha:a.length≤9223372036854775807):wc W zC5 [zBV l,zBV a]=some (.bool (zEm l a)):=by
 have h:=zNl (l.map intp) (a.map intp)
 rw[zA,zA]at h
 rw[h,zPa l zEi [] [.imm 0 (zBV a) 0] (λ n=> !inC a n) hl (λ x _=>by
  have h1:=zLk x (a.map intp)
  rw[zA]at h1
  refine h1.trans ?_
  rw[zKs a x ha];rfl)]
 simp only[Option.bind_some,c_b_mk,zJW]
 rfl
def zX0(l:List Int):Bool:=decide ((Lib.compact (zEs l)).length=l.length)
theorem z0f(a b:Nat):(((a:Nat):Int)==((b:Nat):Int))=decide (a=b):=by
 by_cases h:a=b
 ·rw[decide_eq_true h,zKq (by rw[h])]
 ·rw[decide_eq_false h,zEV (by omega)]
theorem z2y(l:List Int) (hl:l.length≤4294967296):wc W zHh [zBV l]=some (.bool (zX0 l)):=by
 have h:=zQt (l.map intp)
 have h1:=zFg (l.map intp) (by simpa using hl)
 have h2:=zE8 false 0 l hl
 have h3:=zDk 0 (zEs l) (by rw[zGT];exact hl)
 have e1:∀ l:List Int,l.map intp=l.map (PV.int .i64):=λ _=>rfl
 refine h.trans ?_
 rw[h1]
 simp only[Option.bind_some,k_d697de_mk]
 rw[e1,h2]
 simp only[Option.bind_some,k_cad770_mk,h3,k_b7636c_mk,c_s0_mk,List.length_map,z0f]
 rfl
def zLt(T:List Def) (occ:List Int) (o:Nat):Bool:=decide (0≤occ.getD o 0)&&decide (occ.getD o 0<(T.length:Int))
def zA2(T:List Def) (occ:List Int) (o:Nat):List Int:=zCx (o:Int) 0 (zEH T (occ.getD o 0).toNat).toNat
def allL(T:List Def) (occ:List Int) (is:Nat→Bool) (i k:Nat):List Int:=(List.range' i k).flatMap λ o=>bif is o&&zLt T occ o then zA2 T occ o else []
theorem zKx(o:Int) (k n:Nat):(zCx o k n).length=n:=by simp[zCx]
theorem all3(T:List Def) (g:PV) (A B C D:List PV) (i37 i40 i42:Int) (o:Nat) (ho:o≤3) (n:Nat) (hn:n≤4):∀(k j:Nat) (acc:List Int),j+k=n→acc.length≤1000+j →
 zFA g (T.map Def.pv) A B i37 C D i40 (o:Int) i42 (o:Int) (n:Int) (j:Int) (acc.map intp)=zBt g (T.map Def.pv) A B i37 C D i40 i42 ((o+1:Nat):Int) ((acc++zCx (o:Int) j k).map intp)
 | 0,j,acc,h,hl=>by
  rw[zHP,show j=n by omega]
  simp only[zBz,cond_false,zCx,List.range'_zero,List.map_nil,List.append_nil]
  rw[zI (by omega)]
 |k+1,j,acc,h,hl=>by
  have hj:j<n:=by omega
  rw[zHP]
  have hc:colI (o:Int) (j:Int)=4*(o:Int)+(j:Int):=by
   unfold colI
   rw[decide_eq_true (show(0:Int)≤o by omega),decide_eq_true (show(o:Int)≤3 by omega),decide_eq_true (show(0:Int)≤j by omega),decide_eq_true (show(j:Int)≤3 by omega)];rfl
  simp only[zP hj,cond_true,z0d,Option.bind_some,c_i64_mk,hc,List.length_map,Bool.true_and,decide_eq_true (show acc.length+1≤4294967296 by omega)]
  rw[zI (by omega)]
  have:=all3 T g A B C D i37 i40 i42 o ho n hn k (j+1) (acc++[4*(o:Int)+(j:Int)]) (by omega) (by simp;omega)
  simp only[List.map_append,List.map_cons,List.map_nil]at this
  refine this.trans ?_
  rw[show zCx (o:Int) j (k+1)=(4*(o:Int)+(j:Int))::zCx (o:Int) (j+1) k from by simp[zCx,List.range'_succ]]
  simp only[List.map_append,List.map_cons,List.append_assoc,List.cons_append,List.nil_append]
theorem all1(T:List Def) (hT:mayC T=true) (occ:List Int) (g:Nat) (fs cs:List PV) (is:Nat→Bool) (P C D:List PV) (i5 i8:Int) (n:Nat) (hn:n≤4) (hno:n≤occ.length) (his:∀ o,o<n→wc W g (fs++[.int .i64 (o:Int)]++cs)=some (.bool (is o))) :
 ∀(k i:Nat) (acc:List Int),i+k=n→acc.length≤4*i →
 zBt (.fn g fs cs) (T.map Def.pv) (occ.map intp) P i5 C D i8 (n:Int) (i:Int) (acc.map intp)=some (zBV (acc++allL T occ is i k))
 | 0,i,acc,h,hl=>by
  rw[zHO,show i=n by omega]
  simp only[zBz,cond_false,allL,List.range'_zero,List.flatMap_nil,List.append_nil]
  rfl
 |k+1,i,acc,h,hl=>by
  have hi:i<n:=by omega
  have hio:i<occ.length:=by omega
  have ho:occ.getD i 0=occ[i]:=by rw[List.getD_eq_getElem?_getD,List.getElem?_eq_getElem hio];rfl
  have hstep:allL T occ is i (k+1)=(bif is i&&zLt T occ i then zA2 T occ i else [])++allL T occ is (i+1) k:=by
   unfold allL
   rw[List.range'_succ,List.flatMap_cons]
  rw[zHO,hstep]
  simp only[zP hi,zAM,cond_true,Int.toNat_natCast,List.getElem?_map,List.getElem?_eq_getElem hio,Option.map_some,Option.bind_some,zG6,asFn_mk,his i hi,c_b_mk]
  have skip:=all1 T hT occ g fs cs is P C D i5 i8 n hn hno his k (i+1) acc (by omega) (by omega)
  cases hb:is i with
  |false =>
   simp only[Bool.not_false,cond_true,Bool.false_and,cond_false,List.nil_append]
   rw[zI (by omega)];exact skip
  |true =>
   simp only[Bool.not_true,cond_false,Bool.true_and]
   unfold zLt
   rw[ho]
   by_cases h0:occ[i]<0
   ·rw[decide_eq_true h0,decide_eq_false (show ¬ 0≤occ[i] by omega)]
    simp only[cond_true,Bool.false_and,cond_false,List.nil_append]
    rw[zI (by omega)];exact skip
   rw[decide_eq_false h0,decide_eq_true (show 0≤occ[i] by omega)]
   simp only[cond_false,Bool.true_and,List.length_map]
   by_cases h1:occ[i]<(T.length:Int)
   ·rw[decide_eq_false (show ¬ occ[i]≥(T.length:Int) by omega),decide_eq_true h1,cond_false,cond_true,zLf]
    obtain⟨m,hm⟩:=Int.eq_ofNat_of_zero_le (show 0≤occ[i] by omega)
    have hmT:m<T.length:=by omega
    have hcols:=zIE hT hmT
    obtain⟨c,hc⟩:=Int.eq_ofNat_of_zero_le (show 0≤zEH T m by omega)
    have hcA:T[m].Cols=(c:Int):=by
     have:=hc;unfold zEH at this;rw[List.getElem?_eq_getElem hmT]at this;exact this
    rw[hm]
    simp only[zAM,cond_true,Int.toNat_natCast,List.getElem?_map,List.getElem?_eq_getElem hmT,Option.map_some,Option.bind_some,Def.load0,c_i64_mk,hcA]
    have h3:=all3 T (.fn g fs cs) (occ.map intp) P C D i5 i8 (n:Int) i (by omega) c (by omega) c 0 acc (by omega) (by omega)
    refine h3.trans ?_
    have hq:zA2 T occ i=zCx (i:Int) 0 c:=by unfold zA2;rw[ho,hm,Int.toNat_natCast,hc,Int.toNat_natCast]
    rw[hq,←List.append_assoc]
    exact all1 T hT occ g fs cs is P C D i5 i8 n hn hno his k (i+1) (acc++zCx (i:Int) 0 c) (by omega) (by rw[List.length_append,zKx];omega)
   ·rw[decide_eq_true (show occ[i]≥(T.length:Int) by omega),decide_eq_false h1]
    simp only[cond_true,cond_false,List.nil_append]
    rw[zI (by omega)];exact skip
end Go.Cf

namespace Go.Cf
open Go Go.Ab
set_option linter.unusedVariables false
set_option linter.unusedSimpArgs false
def zCA(occ:List Int) (p:List PV) (by_:Int) (sums out:List Int) (ord:Int):PV:= .agg [zBV occ, .slice 6 p, .int .i64 by_,zBV sums,zBV out, .int .i64 ord]
@[simp] theorem zAQ(occ:List Int) (p:List PV) (by_:Int) (sums out:List Int) (ord:Int):PV.agg [zBV occ, .slice 6 p, .int .i64 by_,zBV sums,zBV out, .int .i64 ord]=zCA occ p by_ sums out ord:=rfl
def zJ4(T:List Def) (occ:List Int):List Int:=allL T occ (λ _=>true) 0 (min occ.length 4)
theorem zUE(T:List Def) (hT:mayC T=true) (occ:List Int) (is:Nat→Bool):∀(k i:Nat),(allL T occ is i k).length≤4*k
 | 0,i=>by simp[allL]
 |k+1,i=>by
  have ih:=zUE T hT occ is k (i+1)
  unfold allL at ih ⊢
  rw[List.range'_succ,List.flatMap_cons,List.length_append]
  have:(bif is i&&zLt T occ i then zA2 T occ i else []).length≤4:=by
   cases hc:is i&&zLt T occ i with
   |false=>simp
   |true =>
    simp only[Bool.and_eq_true]at hc
    have h2:=hc.2
    unfold zLt at h2
    simp only[Bool.and_eq_true,decide_eq_true_eq]at h2
    have:=zIE hT (i:=(occ.getD i 0).toNat) (by omega)
    simp only[cond_true,zA2,zKx]
    omega
  omega
theorem z32(T:List Def) (hT:mayC T=true) (occ:List Int) (p:List PV) (by_:Int) (sums out:List Int) (ord:Int) (g:Nat) (fs cs:List PV) (is:Nat→Bool) (his:∀ o,o<min occ.length 4→wc W g (fs++[.int .i64 (o:Int)]++cs)=some (.bool (is o))) :
 wc W zJE [catp T,zCA occ p by_ sums out ord, .fn g fs cs]=some (zBV (allL T occ is 0 (min occ.length 4))):=by
 have h:=zS5 (T.map Def.pv) (occ.map intp) p by_ (sums.map intp) (out.map intp) ord (.fn g fs cs)
 rw[zAR,zA,zA,zA,zAQ]at h
 refine h.trans ?_
 have e:(bif (decide ((4:Int)<(((occ.map intp).length:Nat):Int)))then(4:Int)else(((occ.map intp).length:Nat):Int))=((min occ.length 4:Nat):Int):=by
  rw[List.length_map]
  by_cases h4:4<occ.length
  ·rw[decide_eq_true (by omega),cond_true,Nat.min_eq_right (by omega)];rfl
  ·rw[decide_eq_false (by omega),cond_false,Nat.min_eq_left (by omega)]
 rw[e]
 have:=all1 T hT occ g fs cs is p (sums.map intp) (out.map intp) by_ ord (min occ.length 4) (by omega) (by omega) his (min occ.length 4) 0 [] (by omega) (by simp)
 simpa using this
def zSv(cols:List Int) (e:Ex):Bool:= !(zG8 e).isEmpty&&zEm (zG8 e) cols
def zX1(by_:Int) (sums out:List Int) (ord:Int) (cols:List Int):Bool :=
 bif by_== -1 then decide (1≤out.length)&&decide (out.length≤8)&&zX0 out&&zEm out cols&&decide (sums.length=0)&&(ord== -1 || inC out ord)
 else zEm [by_] cols&&decide (sums.length≤4)&&zEm sums cols&&decide (out.length=0)&&(ord== -1 || ord==by_)
def mayQ(T:List Def) (occ:List Int) (P:List Ex) (by_:Int) (sums out:List Int) (ord:Int):Bool :=
 mayC T&&decide (1≤occ.length)&&decide (occ.length≤4)&&(occ.all λ t=>decide (0≤t)&&decide (t<(T.length:Int)))&&decide (P.length≤6)&&P.all (zSv (zJ4 T occ))&&zX1 by_ sums out ord (zJ4 T occ)
theorem zR4(e:Ex):(zG8 e).length≤30:=by
 unfold zG8
 cases h:mayT e with
 |false=>simp
 |true =>
  have h1:=zSr h
  have h2:=(zKw e.sz).1 e (Nat.le_refl _)
  have h3:(Lib.compact (zEs (zJ1 e))).length≤(zEs (zJ1 e)).length:=by
   unfold Lib.compact Lib.compactUpTo
   rw[List.length_map]
   exact Nat.le_trans (List.length_filter_le _ _) (by simp)
  rw[zGT]at h3
  simp only[cond_true];omega
theorem z2z(occ:List PV) (P:List PV) (by_:Int) (sums out:List Int) (ord:Int) (cols:List Int) (l:List PV) (hs:sums.length≤4294967296) (ho:out.length≤4294967296) (hc:cols.length≤1000) :
 zDz occ P by_ (sums.map intp) (out.map intp) ord (cols.map intp) l (l.length:Int) (l.length:Int)=some (.bool (zX1 by_ sums out ord cols)):=by
 rw[zHK]
 simp only[zBz,cond_false,List.length_map]
 unfold zX1
 by_cases hb:by_= -1
 ·rw[zKq hb,cond_true,cond_true]
  have j3:∀ b,zDD occ P by_ (sums.map intp) (out.map intp) ord b=some (.bool (b&&decide (sums.length=0)&&(ord== -1 || inC out ord))):=λ b=>by
   rw[zLc]
   cases b with
   |false=>rfl
   |true =>
    simp only[cond_true,List.length_map,Bool.true_and,zA,zKs out ord (by omega),Option.bind_some,c_b_mk]
    by_cases hs0:sums.length=0
    ·rw[zKq (show((sums.length:Nat):Int)=0 by omega),decide_eq_true hs0]
     simp only[cond_true,Bool.true_and]
     cases ord== -1<;>rfl
    ·rw[zEV (show((sums.length:Nat):Int)≠0 by omega),decide_eq_false hs0];rfl
  simp only[j3,zA,z2y out ho,zMO out cols (by omega) (by omega),Option.bind_some,c_b_mk]
  rw[show decide (((out.length:Nat):Int)≥1)=decide (1≤out.length)from decide_eq_decide.2 (by omega),show decide (((out.length:Nat):Int)≤8)=decide (out.length≤8)from decide_eq_decide.2 (by omega)]
  cases decide (1≤out.length)<;>cases decide (out.length≤8)<;>cases zX0 out<;>simp
 ·rw[zEV hb,cond_false,cond_false]
  have e1:PV.slice 0 [PV.int .i64 by_]=zBV [by_]:=rfl
  simp only[e1,zA,zMO [by_] cols (by simp) (by omega),zMO sums cols (by omega) (by omega),Option.bind_some,c_b_mk]
  rw[show decide (((sums.length:Nat):Int)≤4)=decide (sums.length≤4)from decide_eq_decide.2 (by omega),show(((out.length:Nat):Int)==0)=decide (out.length=0)from by
   by_cases h:out.length=0
   ·rw[zKq (by omega),decide_eq_true h]
   ·rw[zEV (by omega),decide_eq_false h]]
  cases zEm [by_] cols<;>cases decide (sums.length≤4)<;>cases zEm sums cols<;>cases decide (out.length=0)<;>cases ord== -1<;>simp
theorem zN3(T:List Def) (occ:List Int) (P:List Ex) (by_:Int) (sums out:List Int) (ord:Int) (hT:T.length≤9223372036854775807) (hocc:occ.length≤9223372036854775807) (hP:P.length≤9223372036854775807) (hok:∀ e∈P,e.ok)
 (hs:sums.length≤4294967296) (ho:out.length≤4294967296):wc W zGl [catp T,zCA occ (P.map Ex.pv) by_ sums out ord]=some (.bool (mayQ T occ P by_ sums out ord)):=by
 have h:=zS1 (T.map Def.pv) (occ.map intp) (P.map Ex.pv) by_ (sums.map intp) (out.map intp) ord
 rw[zAR,zA,zA,zA,zAQ]at h
 refine h.trans ?_
 rw[zO6 T hT]
 simp only[Option.bind_some,c_b_mk,List.length_map]
 unfold mayQ
 cases h1:mayC T with
 |false=>rfl
 |true =>
 simp only[Bool.not_true,cond_false,Bool.true_and]
 by_cases h2:occ.length<1
 ·rw[decide_eq_true (show((occ.length:Nat):Int)<1 by omega),decide_eq_false (show ¬ 1≤occ.length by omega)];simp
 rw[decide_eq_false (show ¬ ((occ.length:Nat):Int)<1 by omega),decide_eq_true (show 1≤occ.length by omega)]
 by_cases h3:4<occ.length
 ·rw[decide_eq_true (show((occ.length:Nat):Int)>4 by omega),decide_eq_false (show ¬ occ.length≤4 by omega)];simp
 rw[decide_eq_false (show ¬ ((occ.length:Nat):Int)>4 by omega),decide_eq_true (show occ.length≤4 by omega)]
 simp only[cond_false,Bool.true_and]
 rw[zPa occ zGp [] [.imm 2 (catp T) 0] (λ t=> !(decide (0≤t)&&decide (t<(T.length:Int)))) (by omega) (λ t _=>by
  have h4:=zPT t (T.map Def.pv)
  rw[zAR]at h4
  refine h4.trans ?_
  rw[List.length_map]
  by_cases a:t<0
  ·rw[decide_eq_true a,decide_eq_false (show ¬ 0≤t by omega)];rfl
  ·rw[decide_eq_false a,decide_eq_true (show 0≤t by omega)]
   by_cases b:t<(T.length:Int)
   ·rw[decide_eq_true b,decide_eq_false (show ¬ t≥(T.length:Int) by omega)];rfl
   ·rw[decide_eq_false b,decide_eq_true (show t≥(T.length:Int) by omega)];rfl)]
 simp only[Option.bind_some,c_b_mk]
 rw[← zJW (f:=λ t:Int=>decide (0≤t)&&decide (t<(T.length:Int)))]
 cases h5:occ.any λ t=> !(decide (0≤t)&&decide (t<(T.length:Int))) with
 |true=>simp
 |false =>
 simp only[cond_false,Bool.not_false,Bool.true_and]
 by_cases h6:6<P.length
 ·rw[decide_eq_true (show((P.length:Nat):Int)>6 by omega),decide_eq_false (show ¬ P.length≤6 by omega)];simp
 rw[decide_eq_false (show ¬ ((P.length:Nat):Int)>6 by omega),decide_eq_true (show P.length≤6 by omega)]
 simp only[cond_false,Bool.true_and,zLb,zAR,zA,zAQ]
 have hall:=z32 T h1 occ (P.map Ex.pv) by_ sums out ord zGq [] [] (λ _=>true) (λ o _=>zPU (o:Int))
 rw[hall]
 have hcl:=zUE T h1 occ (λ _=>true) (min occ.length 4) 0
 have ecols:allL T occ (λ _=>true) 0 (min occ.length 4)=zJ4 T occ:=rfl
 rw[ecols]at hcl ⊢
 generalize zJ4 T occ=cols at hcl ⊢
 simp only[Option.bind_some,zEl,List.length_map]
 have hloop:=zMF (λ i=>zDz (occ.map intp) (P.map Ex.pv) by_ (sums.map intp) (out.map intp) ord (cols.map intp) (P.map Ex.pv) (P.length:Int) i) P.length (λ i=>(P[i]?).all (zSv cols)) (some (.bool false)) (some (.bool (zX1 by_ sums out ord cols))) (λ i hi=> ?_) ?_
 ·refine hloop.trans ?_
  rw[zWv P (zSv cols)]
  cases P.all (zSv cols)<;>rfl
 ·have hm:=List.getElem_mem hi
  conv=>lhs;rw[zHK]
  simp only[zP hi,zAM,cond_true,Int.toNat_natCast,List.getElem?_map,List.getElem?_eq_getElem hi,Option.map_some,Option.bind_some,Ex.c_mk,Ex.fold,zZj P[i] (hok _ hm),zEl,List.length_map,Option.all_some]
  have hcl2:(zG8 P[i]).length≤9223372036854775807:=by
   have:=zR4 P[i];omega
  simp only[zA,zMO (zG8 P[i]) cols hcl2 (by omega),Option.bind_some,c_b_mk]
  rw[zQ (by omega) (by omega)]
  unfold zSv
  cases hc:zG8 P[i] with
  |nil=>rfl
  |cons a r =>
   rw[zEV (show(((a::r).length:Nat):Int)≠0 by simp;omega)]
   simp only[cond_false,List.isEmpty_cons,Bool.not_false,Bool.true_and]
   cases zEm (a::r) cols<;>rfl
 ·have:=z2z (occ.map intp) (P.map Ex.pv) by_ sums out ord cols (P.map Ex.pv) hs ho (by omega)
  simpa using this
end Go.Cf

namespace Go.Cf
open Go Go.Ab
set_option linter.unusedVariables false
set_option linter.unusedSimpArgs false
theorem zVZ{c:List Int} {r s:List (List Val)} (h:r.Perm s) (by_:Int) (sums:List Int):zKt c r by_ sums=zKt c s by_ sums:=by
 unfold zKt
 rw[zVV h]
 refine List.map_congr_left λ k hk=> ?_
 have hp:=h.filter (hasK (idxI c λ x=>by_==x) k)
 unfold rowG
 rw[hp.length_eq]
 refine congrArg _ (congrArg _ (List.map_congr_left λ s hs=> ?_))
 unfold colG
 exact zXE (hp.map _)
theorem zSw{c:List Int} {r s:List (List Val)} (h:r.Perm s) (by_:Int) (sums:List Int):zIB c r by_ sums=zIB c s by_ sums:=by
 unfold zIB
 rw[zNZ h,zVZ h]
def finB(by_:Int) (sums out c:List Int) (r:List (List Val)):Option (List Int×List (List Val)):=bif by_ != -1 then zIB c r by_ sums else zRU c r out
theorem zZm(x:Option (List Int×List (List Val))):∃ c r b,bagR x= .tup [bagp c r, .bool b]:=by
 cases x with
 |none=>exact⟨_,_,_,rfl⟩
 |some b=>exact⟨_,_,_,rfl⟩
theorem zUF(occ:List Int) (p:List PV) (by_:Int) (sums out:List Int) (ord:Int) (c:List Int) (r:List (List Val)) (hc:c.length≤9223372036854775807) (hr:r.length≤1000000000) (hl:∀ x∈r,ROk x∧x.length≤9223372036854775807) (ho:out.length≤9223372036854775807) :
 wc W zE0 [zCA occ p by_ sums out ord,bagp c r]=some (bagR (finB by_ sums out c r)):=by
 have h:=zNj (occ.map intp) p by_ (sums.map intp) (out.map intp) ord (c.map intp) (r.map rowp)
 rw[zA,zA,zA,zAQ,zA,zR,zAA]at h
 have h1:=z05 c r by_ sums hc hr (λ x hx=>(hl x hx).2) (λ x hx=>(hl x hx).1)
 have h2:=z2j c r out hc (by omega) (λ x hx=>(hl x hx).2) ho
 rw[h]
 unfold finB
 cases by_ != -1 with
 |true =>
  obtain⟨d,s,b,e⟩:=zZm (zIB c r by_ sums)
  simp only[cond_true,h1,e,Option.bind_some,asTup_mk,List.getElem?_cons_zero,List.getElem?_cons_succ,zEG,c_b_mk,zA,zR,zAA]
 |false =>
  obtain⟨d,s,b,e⟩:=zZm (zRU c r out)
  simp only[cond_false,h2,e,Option.bind_some,asTup_mk,List.getElem?_cons_zero,List.getElem?_cons_succ,zEG,c_b_mk,zA,zR,zAA]
theorem vok(k:Int) (h: -5≤k∧k≤5):VOk ⟨k,0⟩:=⟨⟨by simp only;omega,by simp only;omega⟩,⟨by simp only;omega,by simp only;omega⟩⟩
theorem z0g{x:List Val} (h:ROk x) (at_:Int):VOk ⟨(keyR at_ x).1,(keyR at_ x).2⟩:=by
 unfold keyR
 cases decide (at_<0) with
 |true=>exact vok 0 (by omega)
 |false =>
  simp only[cond_false]
  cases e:x[at_.toNat]? with
  |none=>exact vok 0 (by omega)
  |some v =>
   simp only
   cases mayV v with
   |true=>exact h v (List.mem_of_getElem? e)
   |false=>exact vok 2 (by omega)
theorem vok0(n:Int) (h:I64 n):VOk ⟨0,n⟩:=⟨⟨by simp only;omega,by simp only;omega⟩,h⟩
theorem z0h(l:List Val):VOk (sumV l):=by
 unfold sumV
 cases l.any (λ v=>(zIe v).K==2) with
 |true=>exact vok 2 (by omega)
 |false =>
  simp only[cond_false]
  split
  ·exact vok 1 (by omega)
  ·split
   ·rename_i h;exact vok0 _ h
   ·exact vok 2 (by omega)
theorem zZF{c:List Int} {r:List (List Val)} (hr:∀ x∈r,ROk x) (hl:r.length≤1000000000) (by_:Int) (sums:List Int):∀ x∈zKt c r by_ sums,ROk x∧x.length=2+sums.length:=by
 intro x hx
 unfold zKt at hx
 obtain⟨k,hk,rfl⟩:=List.mem_map.1 hx
 obtain⟨y,hy,rfl⟩:=(zIA _ _ _).1 ((zBP _).mem_iff.1 hk)
 refine⟨λ v hv=> ?_,by simp[rowG];omega⟩
 unfold rowG at hv
 rcases List.mem_cons.1 hv with rfl | hv
 ·exact z0g (hr y hy) _
 ·rcases List.mem_cons.1 hv with rfl | hv
  ·have:=List.length_filter_le (hasK (idxI c λ x=>by_==x) (keyR (idxI c λ x=>by_==x) y)) r
   exact vok0 _ ⟨by omega,by omega⟩
  ·obtain⟨s,hs,rfl⟩:=List.mem_map.1 hv
   exact z0h _
theorem zX2(c:List Int) (r:List (List Val)) (by_:Int) (sums:List Int):(zKt c r by_ sums).length≤r.length:=by
 have hkl:(zFb (idxI c λ x=>by_==x) r).length≤r.length:=by have:=zNY (idxI c λ x=>by_==x) r [] [];simpa [zFb]using this
 unfold zKt
 rw[List.length_map,zFr];exact hkl
theorem zX3{c:List Int} {x:List Val} (h:ROk x) (cols:List Int):ROk (zBF c cols x)∧(zBF c cols x).length=cols.length:=by
 refine⟨λ v hv=> ?_,by simp[zBF]⟩
 unfold zBF at hv
 obtain⟨s,hs,rfl⟩:=List.mem_map.1 hv
 exact zP0 c h s
theorem zN4{by_:Int} {sums out c:List Int} {r s:List (List Val)} (h:r.Perm s) :
 (finB by_ sums out c r=none∧finB by_ sums out c s=none)∨(∃ d x y,finB by_ sums out c r=some (d,x)∧finB by_ sums out c s=some (d,y)∧x.Perm y):=by
 unfold finB
 cases by_ != -1 with
 |true =>
  simp only[cond_true]
  rw[zSw h]
  cases e:zIB c s by_ sums with
  |none=>exact .inl ⟨rfl,rfl⟩
  |some z=>exact .inr ⟨z.1,z.2,z.2,rfl,rfl,List.Perm.refl _⟩
 |false =>
  simp only[cond_false]
  unfold zRU
  rw[zNZ h]
  cases mayB c s&&mayB out []&&out.all (inC c) with
  |false=>exact .inl ⟨rfl,rfl⟩
  |true=>exact .inr ⟨out,_,_,rfl,rfl,h.map _⟩
theorem z0i{by_:Int} {sums out c d:List Int} {r x:List (List Val)} (hr:∀ x∈r,ROk x) (hl:r.length≤1000000000) (h:finB by_ sums out c r=some (d,x)) :
 (∀ y∈x,ROk y∧y.length=d.length)∧x.length≤r.length∧(by_= -1→d=out∧x.length=r.length)∧(by_≠ -1→d=zSo by_ sums.length∧sums.length≤4):=by
 unfold finB at h
 by_cases hb:by_= -1
 ·rw[zJV hb,cond_false]at h
  unfold zRU at h
  cases e:mayB c r&&mayB out []&&out.all (inC c) with
  |false=>rw[e]at h;cases h
  |true =>
   rw[e]at h
   simp only[cond_true,Option.some.injEq,Prod.mk.injEq]at h
   obtain⟨rfl,rfl⟩:=h
   refine⟨λ y hy=> ?_,by simp,λ _=>⟨rfl,by simp⟩,λ q=>absurd hb q⟩
   obtain⟨z,hz,rfl⟩:=List.mem_map.1 hy
   exact zX3 (hr z hz) _
 ·rw[zHv hb,cond_true]at h
  unfold zIB at h
  cases e:mayB c r&&inC c by_&&decide (sums.length≤4)&&sums.all (inC c) with
  |false=>rw[e]at h;cases h
  |true =>
   rw[e]at h
   simp only[cond_true,Option.some.injEq,Prod.mk.injEq]at h
   obtain⟨rfl,rfl⟩:=h
   simp only[Bool.and_eq_true,decide_eq_true_eq]at e
   refine⟨λ y hy=> ?_,zX2 _ _ _ _,λ q=>absurd q hb,λ _=>⟨rfl,e.1.2⟩⟩
   obtain⟨h1,h2⟩:=zZF hr hl by_ sums y hy
   exact⟨h1,by rw[h2];simp[zSo];omega⟩
end Go.Cf

namespace Go.Cf
open Go Go.Ab
set_option linter.unusedVariables false
set_option linter.unusedSimpArgs false
def occI(c:Int):Nat:=bif decide (0≤c)&&decide (c≤15)then(c / 4).toNat else 0
def setC:Nat→List Int→Nat
 |s,[]=>s
 |s,c::r=>setC (s ||| 2 ^ occI c) r
theorem zKy(c:Int):occI c<4:=by
 unfold occI
 cases h:decide (0≤c)&&decide (c≤15) with
 |false=>simp
 |true =>
  simp only[Bool.and_eq_true,decide_eq_true_eq]at h
  simp only[cond_true]
  omega
theorem zV0:∀ o:Nat,o<4→2 ^ o<16:=by decide
theorem zZG:∀ x:Nat,x<16→∀ y:Nat,y<16→x ||| y<16:=by decide +kernel
theorem zZn:∀ x:Nat,x<16→∀ y:Nat,y<16→IntKind.wrap .i64 (((BitVec.toNat (HOr.hOr (BitVec.ofInt 64 (x:Int)) (BitVec.ofInt 64 (y:Int)))):Nat):Int)=((x ||| y:Nat):Int):=by decide +kernel
theorem z0j:∀ x:Nat,x<16→∀ y:Nat,y<16→IntKind.wrap .i64 (((BitVec.toNat (HAnd.hAnd (BitVec.ofInt 64 (x:Int)) (BitVec.ofInt 64 (y:Int)))):Nat):Int)=((x &&& y:Nat):Int):=by decide +kernel
theorem shl4:∀ o:Nat,o<4→IntKind.wrap .i64 ((1:Int)*(HPow.hPow (2:Int) (Min.min (Int.toNat (o:Int)) 64)):Int)=((2 ^ o:Nat):Int):=by decide +kernel
theorem zX4:∀(l:List Int) (s:Nat),s<16→setC s l<16
 | [],s,h=>h
 |c::r,s,h=>zX4 r _ (zZG _ h _ (zV0 _ (zKy c)))
theorem zUG(l:List Int) (hl:l.length≤1000000):∀(k i s:Nat),i+k=l.length→s<16 →
 zGD (s:Int) (l.map intp) (l.length:Int) (i:Int)=some (.int .i64 (setC s (l.drop i):Nat))
 | 0,i,s,h,hs=>by
  rw[zHt,show i=l.length by omega]
  simp[setC]
 |k+1,i,s,h,hs=>by
  have hi:i<l.length:=by omega
  rw[zHt,List.drop_eq_getElem_cons hi]
  simp only[zP hi,zAM,cond_true,Int.toNat_natCast,List.getElem?_map,List.getElem?_eq_getElem hi,Option.map_some,Option.bind_some,zG6,z0e,setC]
  have hsp:∃ q b,zUC l[i]= .tup [.int .i64 (occI l[i]:Int),q, .bool b]∧∃ z,q= .int .i64 z:=by
   unfold zUC occI
   cases hc:decide (0≤l[i])&&decide (l[i]≤15) with
   |false=>exact⟨_,_,rfl,_,rfl⟩
   |true =>
    simp only[Bool.and_eq_true,decide_eq_true_eq]at hc
    refine⟨.int .i64 (l[i] % 4),true,?_,l[i] % 4,rfl⟩
    simp only[cond_true]
    rw[show(((l[i] / 4).toNat:Nat):Int)=l[i] / 4 by omega]
  obtain⟨q,b,e,z,rfl⟩:=hsp
  have h4:=zKy l[i]
  rw[e]
  simp only[asTup_mk,Option.bind_some,List.getElem?_cons_zero,List.getElem?_cons_succ,c_i64_mk,c_b_mk]
  rw[decide_eq_false (show ¬ ((occI l[i]:Nat):Int)<0 by omega)]
  simp only[cond_false,Option.bind_some,c_i64_mk]
  rw[shl4 _ h4,zZn _ hs _ (zV0 _ h4),zI (by omega)]
  exact zUG l hl k (i+1) _ (by omega) (zZG _ hs _ (zV0 _ h4))
theorem z0k(l:List Int) (hl:l.length≤1000000):wc W zKh [zBV l]=some (.int .i64 (setC 0 l:Nat)):=by
 have h:=zVN (l.map intp)
 rw[zA]at h
 rw[h,List.length_map]
 exact zUG l hl l.length 0 0 (by omega) (by omega)
def setE(e:Ex):Nat:=setC 0 (zG8 e)
theorem zSx(e:Ex):setE e<16:=zX4 _ _ (by omega)
theorem zO7(e:Ex) (he:e.ok):wc W zIY [e.pv]=some (.int .i64 (setE e:Nat)):=by
 have h:=zVL e.op e.col e.v.K e.v.N (e.l.map Ex.pv)
 rw[Ex.fold]at h
 rw[h,zZj e he]
 have:=zR4 e
 simp only[Option.bind_some,zEl,zA,z0k (zG8 e) (by omega),c_i64_mk]
 rfl
def zAB(s t:Nat):Bool:=decide (s &&& t=t)
theorem zPh(s t:Nat) (hs:s<16) (ht:t<16):wc W zAq [.int .i64 (s:Int), .int .i64 (t:Int)]=some (.bool (zAB s t)):=by
 rw[zKm,z0j _ hs _ ht]
 unfold zAB
 by_cases h:s &&& t=t
 ·rw[zKq (by rw[h]),decide_eq_true h]
 ·rw[zEV (by omega),decide_eq_false h]
theorem z0l(P:List Ex) (g:Nat) (fs cs:List PV) (f:Nat→Bool) (hP:P.length≤1000000) (hok:∀ e∈P,e.ok) (hf:∀ t,t<16→wc W g (fs++[.int .i64 ((t:Nat):Int)]++cs)=some (.bool (f t))) :
 ∀(k i:Nat) (acc:List Int),i+k=P.length→acc.length≤i →
 zDY (.fn g fs cs) (P.map Ex.pv) (P.length:Int) (i:Int) (acc.map intp)=some (zBV (acc++((List.range' i k).filter λ j=>(P[j]?).any λ e=>f (setE e)).map λ n:Nat=>(n:Int)))
 | 0,i,acc,h,ha=>by
  rw[zG0,show i=P.length by omega]
  simp
 |k+1,i,acc,h,ha=>by
  have hi:i<P.length:=by omega
  have hm:=List.getElem_mem hi
  rw[zG0,List.range'_succ,List.filter_cons]
  simp only[zP hi,zAM,cond_true,Int.toNat_natCast,List.getElem?_map,List.getElem?_eq_getElem hi,Option.map_some,Option.bind_some,Ex.c_mk,Ex.fold,zO7 _ (hok _ hm),c_i64_mk,asFn_mk,hf _ (zSx _),c_b_mk,Option.any_some]
  rw[zI (by omega)]
  cases f (setE P[i]) with
  |true =>
   simp only[cond_true,List.length_map,Bool.true_and,decide_eq_true (show acc.length+1≤4294967296 by omega),if_true]
   have:=z0l P g fs cs f hP hok hf k (i+1) (acc++[(i:Int)]) (by omega) (by simp;omega)
   simp only[List.map_append,List.map_cons,List.map_nil,List.append_assoc,List.cons_append,List.nil_append]at this ⊢
   exact this
  |false =>
   simp only[cond_false,Bool.false_eq_true,if_false]
   exact z0l P g fs cs f hP hok hf k (i+1) acc (by omega) (by omega)
def zN5(P:List Ex) (f:Nat→Bool):List Nat:=(List.range' 0 P.length).filter λ j=>(P[j]?).any λ e=>f (setE e)
theorem z33(occ:List Int) (P:List Ex) (by_:Int) (sums out:List Int) (ord:Int) (s:Nat) (hs:s<16) (hP:P.length≤1000000) (hok:∀ e∈P,e.ok) :
 wc W zJD [zCA occ (P.map Ex.pv) by_ sums out ord, .int .i64 (s:Int)]=some (zBV ((zN5 P (zAB s)).map λ n:Nat=>(n:Int))):=by
 have h:=zS2 (occ.map intp) (P.map Ex.pv) by_ (sums.map intp) (out.map intp) ord (s:Int)
 have h2:=zQu (occ.map intp) (P.map Ex.pv) by_ (sums.map intp) (out.map intp) ord (.fn zAq [.int .i64 (s:Int)] [])
 rw[zA,zA,zA,zAQ]at h h2
 have h3:=z0l P zAq [.int .i64 (s:Int)] [] (zAB s) hP hok (λ t ht=>zPh s t hs ht) P.length 0 [] (by omega) (by simp)
 rw[h,h2,List.length_map]
 simp only[List.map_nil,List.nil_append]at h3
 have h4:(0:Int)=((0:Nat):Int):=rfl
 rw[h4,h3]
 simp only[Option.bind_some,zEl]
 rfl
theorem z3A(t a b:Nat) (s:Nat) (ht:t<16) (hs:s<16) (ha:a<16) (hb:b<16):W zCz false [.pv (.int .i64 (t:Int)), .own 0 0, .own 1 0, .own 2 0] [.var false 0 (.pv (.int .i64 (s:Int))), .var false 0 (.pv (.int .i64 (a:Int))), .var false 0 (.pv (.int .i64 (b:Int)))] =
 some (.pv (.bool (zAB s t&& !zAB a t&& !zAB b t)),[.var false 0 (.pv (.int .i64 (s:Int))), .var false 0 (.pv (.int .i64 (a:Int))), .var false 0 (.pv (.int .i64 (b:Int)))]):=by
 rw[zKA,zPh s t hs ht,zPh a t ha ht,zPh b t hb ht]
 simp only[Option.bind_some,c_b_mk]
 cases zAB s t<;>cases zAB a t<;>rfl
def newF(a b t:Nat):Bool:=zAB (a ||| b) t&& !zAB a t&& !zAB b t
theorem z0m(P:List Ex) (a b:Nat) (ha:a<16) (hb:b<16) (hP:P.length≤1000000) (hok:∀ e∈P,e.ok) :
 ∀(k i:Nat) (acc:List Int),i+k=P.length→acc.length≤i →
 zCK (P.map Ex.pv) (P.length:Int) (i:Int) ((a ||| b:Nat):Int) (a:Int) (b:Int) (acc.map intp) =
  some (.pv (zBV (acc++((List.range' i k).filter λ j=>(P[j]?).any λ e=>newF a b (setE e)).map λ n:Nat=>(n:Int))),[.var false 0 (.pv (.int .i64 ((a ||| b:Nat):Int))), .var false 0 (.pv (.int .i64 (a:Int))), .var false 0 (.pv (.int .i64 (b:Int)))])
 | 0,i,acc,h,hc=>by
  rw[zEp,show i=P.length by omega]
  simp
 |k+1,i,acc,h,hc=>by
  have hi:i<P.length:=by omega
  have hm:=List.getElem_mem hi
  rw[zEp,List.range'_succ,List.filter_cons]
  simp only[zP hi,zAM,cond_true,Int.toNat_natCast,List.getElem?_map,List.getElem?_eq_getElem hi,Option.map_some,Option.bind_some,Ex.c_mk,Ex.fold,zO7 _ (hok _ hm),c_i64_mk,z3A (setE P[i]) a b (a ||| b) (zSx _) (zZG _ ha _ hb) ha hb,k_10961c_mk,c_b_mk,Option.any_some]
  rw[zI (by omega)]
  unfold newF
  cases zAB (a ||| b) (setE P[i])&& !zAB a (setE P[i])&& !zAB b (setE P[i]) with
  |true =>
   simp only[cond_true,List.length_map,Bool.true_and,decide_eq_true (show acc.length+1≤4294967296 by omega),if_true]
   have:=z0m P a b ha hb hP hok k (i+1) (acc++[(i:Int)]) (by omega) (by simp;omega)
   unfold newF at this
   simp only[List.map_append,List.map_cons,List.map_nil,List.append_assoc,List.cons_append,List.nil_append]at this ⊢
   exact this
  |false =>
   simp only[cond_false,Bool.false_eq_true,if_false]
   have:=z0m P a b ha hb hP hok k (i+1) acc (by omega) (by omega)
   unfold newF at this
   exact this
def newQ(P:List Ex) (a b:Nat):List Nat:=zN5 P (newF a b)
theorem z34(occ:List Int) (P:List Ex) (by_:Int) (sums out:List Int) (ord:Int) (a b:Nat) (ha:a<16) (hb:b<16) (hP:P.length≤1000000) (hok:∀ e∈P,e.ok) :
 wc W zJF [zCA occ (P.map Ex.pv) by_ sums out ord, .int .i64 (a:Int), .int .i64 (b:Int)]=some (zBV ((newQ P a b).map λ n:Nat=>(n:Int))):=by
 have h:=zS7 (occ.map intp) (P.map Ex.pv) by_ (sums.map intp) (out.map intp) ord (a:Int) (b:Int)
 have h2:=zKl (occ.map intp) (P.map Ex.pv) by_ (sums.map intp) (out.map intp) ord ((a ||| b:Nat):Int) (a:Int) (b:Int)
 rw[zA,zA,zA,zAQ]at h h2
 have h3:=z0m P a b ha hb hP hok P.length 0 [] (by omega) (by simp)
 rw[h,zZn _ ha _ hb,h2,List.length_map]
 simp only[List.map_nil,List.nil_append]at h3
 have h4:(0:Int)=((0:Nat):Int):=rfl
 rw[h4,h3]
 simp only[Option.bind_some,k_10961c_mk,zEl]
 rfl
def exQ(P:List Ex) (idx:List Nat):List Ex:=idx.filterMap λ i=>P[i]?
theorem zUH(occ:List PV) (P:List Ex) (by_:Int) (sums out:List PV) (ord:Int) (idx:List Nat) (hi:∀ i∈idx,i<P.length) (hl:idx.length≤1000000):∀(k j:Nat) (acc:List Ex),j+k=idx.length→acc.length≤j →
 zGA occ (P.map Ex.pv) by_ sums out ord ((idx.map λ n:Nat=>(n:Int)).map intp) (idx.length:Int) (j:Int) (acc.map Ex.pv)=some (exsp (acc++exQ P (idx.drop j)))
 | 0,j,acc,h,ha=>by
  rw[zHq,show j=idx.length by omega]
  simp[exQ,exsp]
 |k+1,j,acc,h,ha=>by
  have hj:j<idx.length:=by omega
  have hp:=hi _ (List.getElem_mem hj)
  rw[zHq,List.drop_eq_getElem_cons hj]
  simp only[zP hj,zAM,cond_true,Int.toNat_natCast,List.getElem?_map,List.getElem?_eq_getElem hj,Option.map_some,Option.bind_some,zG6,List.getElem?_eq_getElem hp,Ex.c_mk,Ex.fold,List.length_map,Bool.true_and,decide_eq_true (show acc.length+1≤4294967296 by omega)]
  rw[zI (by omega)]
  have:=zUH occ P by_ sums out ord idx hi hl k (j+1) (acc++[P[idx[j]]]) (by omega) (by simp;omega)
  simp only[List.map_append,List.map_cons,List.map_nil]at this
  refine this.trans ?_
  have e:exQ P (idx[j]::idx.drop (j+1))=P[idx[j]]::exQ P (idx.drop (j+1)):=by
   unfold exQ
   rw[List.filterMap_cons,List.getElem?_eq_getElem hp]
  rw[e,List.append_assoc];rfl
theorem zR5(occ:List Int) (P:List Ex) (by_:Int) (sums out:List Int) (ord:Int) (idx:List Nat) (hi:∀ i∈idx,i<P.length) (hl:idx.length≤1000000) :
 wc W zIW [zCA occ (P.map Ex.pv) by_ sums out ord,zBV (idx.map λ n:Nat=>(n:Int))]=some (exsp (exQ P idx)):=by
 have h:=zVF (occ.map intp) (P.map Ex.pv) by_ (sums.map intp) (out.map intp) ord ((idx.map λ n:Nat=>(n:Int)).map intp)
 rw[zA,zA,zA,zAQ,zA]at h
 rw[h,List.length_map,List.length_map]
 have:=zUH (occ.map intp) P by_ (sums.map intp) (out.map intp) ord idx hi hl idx.length 0 [] (by omega) (by simp)
 simpa using this
theorem zUI{P:List Ex} {f:Nat→Bool} {i:Nat} (h:i∈zN5 P f):i<P.length:=by
 unfold zN5 at h
 have:=List.mem_range'_1.1 (List.mem_filter.1 h).1
 omega
end Go.Cf

namespace Go.Cf
open Go Go.Ab
set_option linter.unusedVariables false
set_option linter.unusedSimpArgs false
inductive Tree where
 |mk (occ:Int) (l:List Tree)
namespace Tree
def occ:Tree→Int | mk o _=>o
def l:Tree→List Tree | mk _ l=>l
@[simp] theorem occ_mk(o:Int) (l:List Tree):(mk o l).occ=o:=rfl
@[simp] theorem l_mk(o:Int) (l:List Tree):(mk o l).l=l:=rfl
@[simp] theorem eta(t:Tree):mk t.occ t.l=t:=by cases t;rfl
theorem ind{P:Tree→Prop} (h:∀ o l,(∀ t∈l,P t)→P (mk o l)) (t:Tree):P t :=
 Tree.rec (motive_1:=P) (motive_2:=λ l=>∀ t∈l,P t) (λ o l ih=>h o l ih) (by simp) (λ a r ha hr=>by simpa using⟨ha,hr⟩) t
mutual
def pv:Tree→PV
 |mk o l=> .agg [.int .i64 o, .slice 3 (pvs l)]
def pvs:List Tree→List PV
 | []=>[]
 |t::r=>pv t::pvs r
end
theorem zX5:∀ l:List Tree,pvs l=l.map pv
 | []=>rfl
 |t::r=>by simp[pvs,zX5 r]
theorem pv_mk(o:Int) (l:List Tree):(mk o l).pv= .agg [.int .i64 o, .slice 3 (l.map pv)]:=by rw[pv,zX5]
theorem pv_eq(t:Tree):t.pv= .agg [.int .i64 t.occ, .slice 3 (t.l.map pv)]:=by cases t;exact pv_mk _ _
@[simp] theorem fold(t:Tree):PV.agg [.int .i64 t.occ, .slice 3 (t.l.map pv)]=t.pv:=(pv_eq t).symm
@[simp] theorem c_mk(t:Tree) {R:Type} (K:Int→List PV→Option R):zDA t.pv K=K t.occ (t.l.map pv):=by rw[pv_eq];rfl
def beq:Tree→Tree→Bool
 |mk o l,mk p m=>decide (o=p)&&beqs l m
where beqs:List Tree→List Tree→Bool
 | [],[]=>true
 |a::r,b::s=>beq a b&&beqs r s
 |_,_=>false
theorem z0n:∀ a b:Tree,beq a b=true↔a=b:=by
 intro a
 induction a using ind with
 |h o l ih =>
  intro b
  obtain⟨p,m⟩:=b
  have:∀(l m:List Tree),(∀ t∈l,∀ b,beq t b=true↔t=b)→(beq.beqs l m=true↔l=m):=by
   intro l
   induction l with
   |nil=>intro m _;cases m<;>simp[beq.beqs]
   |cons a r ih2 =>
    intro m h
    cases m with
    |nil=>simp[beq.beqs]
    |cons b s=>simp[beq.beqs,h a (by simp),ih2 s (λ t ht=>h t (by simp[ht]))]
  simp[beq,this l m ih]
instance:DecidableEq Tree:=λ a b=>decidable_of_iff _ (z0n a b)
end Tree
namespace Tree
inductive Ok:Tree→Prop
 |mk (o:Int) (l:List Tree) (ho:I64 o) (hl:l.length≤maxLen) (h:∀ t∈l,t.Ok):Ok (.mk o l)
theorem Ok.occ{t:Tree} (h:t.Ok):I64 t.occ:=by cases h;assumption
theorem Ok.len{t:Tree} (h:t.Ok):t.l.length≤9223372036854775807:=by cases h;assumption
theorem Ok.part{t:Tree} (h:t.Ok):∀ x∈t.l,x.Ok:=by cases h;assumption
end Tree
theorem z0o(t:Tree):∀ m:Int,t.Ok→∃ n,wc W zCC [t.pv, .int .i64 m]=some (.int .i64 n):=by
 induction t using Tree.ind with
 |h o l ih =>
  intro m ha
  have hll:=ha.len
  simp only[Tree.l_mk]at hll
  rw[Tree.pv_mk,zIc]
  have:∀(k i:Nat) (n:Int),i+k=l.length→∃ r,zBg m o (l.map Tree.pv) n (i:Int)=some (.int .i64 r):=by
   intro k
   induction k with
   |zero =>
    intro i n h
    simp at h;subst h
    exact⟨n,by rw[zDX];simp⟩
   |succ k ih2 =>
    intro i n h
    have hi:i<l.length:=by omega
    rw[zDX]
    simp only[List.length_map,zP hi,cond_true]
    cases decide (n≤m) with
    |false=>exact⟨n,rfl⟩
    |true =>
     obtain⟨q,hq⟩:=ih l[i] (List.getElem_mem hi) (IntKind.wrap .i64 (m-n)) (ha.part _ (List.getElem_mem hi))
     obtain⟨r,hr⟩:=ih2 (i+1) (IntKind.wrap .i64 (n+q)) (by omega)
     refine⟨r,?_⟩
     rw[cond_true,zGJ]
     simp only[zAM,cond_true,Int.toNat_natCast,List.getElem?_map,List.getElem?_eq_getElem hi,Option.map_some,Option.bind_some,Tree.c_mk,Tree.fold,hq,c_i64_mk]
     rw[zQ (n:=(i:Int)+1) (by omega) (by omega)]
     exact hr
  exact this l.length 0 1 (by omega)
def setO:Nat→Tree→Option Nat
 | 0,_=>none
 |_+1, .mk o []=>bif decide (0≤o)&&decide (o<4)then some (2 ^ o.toNat)else none
 |d+1, .mk o [a,b]=>bif decide (o=0)then(setO d a).bind λ x=>(setO d b).bind λ y=>bif decide (x &&& y=0)then some (x ||| y)else none else none
 |_+1, .mk _ [_]=>none
 |_+1, .mk _ (_::_::_::_)=>none
theorem pow4:∀ o:Nat,o<4→2 ^ o<16:=by decide
theorem or16:∀ x:Nat,x<16→∀ y:Nat,y<16→x ||| y<16:=by decide +kernel
theorem bif_some{α:Type} {c:Bool} {a:Option α} {r:α} (h:(bif c then a else none)=some r):c=true∧a=some r:=by
 cases c with
 |true=>exact⟨rfl,h⟩
 |false=>cases h
theorem zFc{d:Nat} {o:Int} {l:List Tree} {m:Nat} (h:setO (d+1) (.mk o l)=some m) :
 (l=[]∧0≤o∧o<4∧m=2 ^ o.toNat)∨(∃ a b x y,l=[a,b]∧o=0∧setO d a=some x∧setO d b=some y∧x &&& y=0∧m=x ||| y):=by
 rcases l with _ | ⟨a,_ | ⟨b,_ | ⟨c,l⟩⟩⟩<;>simp only[setO]at h
 ·obtain⟨h1,h2⟩:=bif_some h
  simp only[Bool.and_eq_true,decide_eq_true_eq,Option.some.injEq]at h1 h2
  exact .inl ⟨rfl,h1.1,h1.2,h2.symm⟩
 ·cases h
 ·obtain⟨h1,h2⟩:=bif_some h
  simp only[Option.bind_eq_some_iff,decide_eq_true_eq]at h1 h2
  obtain⟨x,hx,y,hy,h3⟩:=h2
  obtain⟨h4,h5⟩:=bif_some h3
  simp only[decide_eq_true_eq,Option.some.injEq]at h4 h5
  exact .inr ⟨a,b,x,y,rfl,h1,hx,hy,h4,h5.symm⟩
 ·cases h
theorem zDU:∀(d:Nat) (t:Tree) (m:Nat),setO d t=some m→m<16
 | 0,t,m,h=>by simp[setO]at h
 |d+1,⟨o,l⟩,m,h=>by
  rcases zFc h with⟨rfl,h0,h4,rfl⟩ | ⟨a,b,x,y,rfl,rfl,hx,hy,hxy,rfl⟩
  ·exact pow4 _ (by omega)
  ·exact or16 _ (zDU d a x hx) _ (zDU d b y hy)
theorem z3B:∀ x:Nat,x<16→∀ y:Nat,y<16→IntKind.wrap .i64 (((BitVec.toNat (HOr.hOr (BitVec.ofInt 64 (x:Int)) (BitVec.ofInt 64 (y:Int)))):Nat):Int)=((x ||| y:Nat):Int) ∧
 ((IntKind.wrap .i64 (((BitVec.toNat (HAnd.hAnd (BitVec.ofInt 64 (x:Int)) (BitVec.ofInt 64 (y:Int)))):Nat):Int))==(0:Int))=decide (x &&& y=0):=by decide +kernel
theorem z3C:∀ o:Nat,o<4→IntKind.wrap .i64 ((1:Int)*(HPow.hPow (2:Int) (Min.min (Int.toNat (bif (decide ((Int.tmod (o:Int) (4:Int))<(0:Int)))then(0:Int)else(Int.tmod (o:Int) (4:Int)))) 64)):Int)=((2 ^ o:Nat):Int):=by decide +kernel
theorem zZH:∀(d:Nat) (t:Tree),d<1000→∃ n:Int,wc W zDg [t.pv, .int .i64 (d:Int)]=some (.tup [.int .i64 n, .bool (setO d t).isSome])∧∀ m:Nat,setO d t=some m→n=m
 | 0,t,_=>by
  refine⟨0,?_,λ m h=>by simp[setO]at h⟩
  rw[Tree.pv_eq,zOV]
  simp[zCJ,setO]
 |d+1,⟨o,l⟩,hd=>by
  have hne:((((d+1:Nat):Int))==0)=false:=zEV (by omega)
  have hw:IntKind.wrap .i64 ((((d+1:Nat):Int))-1)=(d:Int):=by rw[zQ (by omega) (by omega)];omega
  rw[Tree.pv_mk,zOV,hne]
  rcases l with _ | ⟨a,_ | ⟨b,_ | ⟨c,l⟩⟩⟩
  ·have hc:decide ((bif (decide ((Int.tmod o (4:Int))<(0:Int)))then(0:Int)else(Int.tmod o (4:Int)))<(0:Int))=false:=by
    by_cases h:Int.tmod o 4<0
    ·simp[h]
    ·simp[h]
   simp only[cond_false,List.map_nil,List.length_nil,zCJ,zNK,show((((0:Nat)):Int) != (0:Int))=false from rfl,show((((0:Nat)):Int)==(2:Int))=false from rfl,show((((0:Nat)):Int)==(0:Int))=true from rfl,cond_true,hc,Option.bind_some,c_i64_mk,setO]
   by_cases h0:0≤o
   ·by_cases h4:o<4
    ·obtain⟨n,rfl⟩:=Int.eq_ofNat_of_zero_le h0
     refine⟨_,by rw[decide_eq_true h0,decide_eq_true h4];rfl,λ m h=> ?_⟩
     rw[decide_eq_true h0,decide_eq_true h4]at h
     simp only[Bool.and_self,cond_true,Option.some.injEq,Int.toNat_natCast]at h;subst h
     exact z3C n (by omega)
    ·exact⟨_,by rw[decide_eq_true h0,decide_eq_false h4];rfl,λ m h=>by rw[decide_eq_false h4,Bool.and_false]at h;cases h⟩
   ·exact⟨_,by rw[decide_eq_false h0];rfl,λ m h=>by rw[decide_eq_false h0]at h;cases h⟩
  ·exact⟨0,by simp[zCJ,setO],λ m h=>by simp[setO]at h⟩
  ·obtain⟨x,hx,ex⟩:=zZH d a (by omega)
   obtain⟨y,hy,ey⟩:=zZH d b (by omega)
   by_cases ho:o=0
   ·subst ho
    simp only[cond_false,List.map_cons,List.map_nil,List.length_cons,List.length_nil,zCJ,show((((0+1+1:Nat)):Int) != (0:Int))=true from rfl,show((((0+1+1:Nat)):Int) != (2:Int))=false from rfl,
     show((((0+1+1:Nat)):Int)==(2:Int))=true from rfl,show((((0+1+1:Nat)):Int)==(0:Int))=false from rfl,cond_true,bne_self_eq_false,List.getElem?_cons_zero,List.getElem?_cons_succ,Option.bind_some,Tree.c_mk,Tree.fold,hw,hx,hy,asTup_mk,c_i64_mk,c_b_mk]
    cases ha:setO d a with
    |none=>exact⟨_,by simp[setO,ha];rfl,λ m h=>by simp[setO,ha]at h⟩
    |some p =>
     cases hb:setO d b with
     |none=>exact⟨_,by simp[setO,ha,hb];rfl,λ m h=>by simp[setO,ha,hb]at h⟩
     |some q =>
      have:=ex p ha;subst this
      have:=ey q hb;subst this
      obtain⟨h1,h2⟩:=z3B p (zDU d a p ha) q (zDU d b q hb)
      refine⟨((p ||| q:Nat):Int),?_,λ m h=> ?_⟩
      ·simp only[Option.isSome_some,cond_true,h1,h2,setO,ha,hb,Option.bind_some,decide_true]
       cases decide (p &&& q=0)<;>rfl
      ·simp only[setO,ha,hb,Option.bind_some,decide_true,cond_true]at h
       obtain⟨_,h3⟩:=bif_some h
       simp only[Option.some.injEq]at h3;subst h3;rfl
   ·exact⟨0,by simp[zCJ,setO,ho,zHv ho],λ m h=>by simp[setO,ho]at h⟩
  ·refine⟨0,?_,λ m h=>by simp[setO]at h⟩
   have h1:((((a.pv::b.pv::c.pv::l.map Tree.pv).length:Nat):Int) != 0)=true:=zHv (by simp;omega)
   have h2:((((a.pv::b.pv::c.pv::l.map Tree.pv).length:Nat):Int) != 2)=true:=zHv (by simp;omega)
   simp only[List.map_cons,h1,h2,cond_true,cond_false,zCJ]
   rfl
theorem z35(t:Tree):wc W zKe [t.pv]=some (.bool (setO 4 t).isSome):=by
 have h:=zVE t.occ (t.l.map Tree.pv)
 obtain⟨n,h1,_⟩:=zZH 4 t (by omega)
 simp only[Tree.fold]at h
 rw[h]
 have h1' :wc W zDg [t.pv, .int .i64 (4:Int)]=some (.tup [.int .i64 n, .bool (setO 4 t).isSome]):=h1
 simp[h1']
theorem zX6(t:Tree):wc W zEP [t.pv]=some (.int .i64 (((setO 4 t).getD 0:Nat):Int)):=by
 have h:=zUz t.occ (t.l.map Tree.pv)
 obtain⟨n,h1,h2⟩:=zZH 4 t (by omega)
 simp only[Tree.fold]at h
 rw[h]
 have h1' :wc W zDg [t.pv, .int .i64 (4:Int)]=some (.tup [.int .i64 n, .bool (setO 4 t).isSome]):=h1
 simp only[h1',Option.bind_some,asTup_mk,List.getElem?_cons_zero,List.getElem?_cons_succ,c_i64_mk,c_b_mk]
 cases hs:setO 4 t with
 |none=>rfl
 |some m=>simp[h2 m hs]
end Go.Cf
