/- Part 1 of the proof: an abstract machine that runs the program's code over plain values, its soundness, and what the functions tell of plain values. Conditions: those in each theorem. -/
import Derived.WalkKit
import Derived.ProofKit
import Derived.Orders
set_option linter.unusedSectionVars false
set_option linter.unusedVariables false
set_option linter.unusedSimpArgs false
noncomputable section
theorem zB{α:Type _} {β:Type _} (a:α) (f:α->Option β):(some a).bind f=f a:=rfl
theorem zV{α:Type _} {β:Type _} (a:α) (f:α->β):(some a).map f=some (f a):=rfl
theorem zAS{α:Type _} {a:α} {l:List α}:(a::l)[0]? =some a:=rfl
theorem zAq{α:Type _} {a:α} {i:Nat} {l:List α}:(a::l)[i+1]? =l[i]? :=rfl
theorem zA{α:Sort _} (a b:α):cond true a b=a:=rfl
theorem zC{α:Sort _} (a b:α):cond false a b=b:=rfl
theorem zY(n:Nat):((n:Nat):Int).toNat=n:=rfl
theorem zH:type_of% @List.getElem?_eq_getElem:=@List.getElem?_eq_getElem
theorem zE:type_of% @Option.some.injEq:=@Option.some.injEq
theorem zJ:type_of% @Option.bind_eq_some_iff:=@Option.bind_eq_some_iff
theorem zQ:type_of% @List.getElem?_eq_some_iff:=@List.getElem?_eq_some_iff
theorem zK:type_of% @List.length_map:=@List.length_map
theorem zF:type_of% @Bool.and_eq_true:=@Bool.and_eq_true
theorem zN:type_of% @List.getElem?_map:=@List.getElem?_map
theorem zAJ:type_of% @List.getElem?_set_self:=@List.getElem?_set_self
theorem zM:type_of% @Nat.le_refl:=@Nat.le_refl
theorem zAv:type_of% @List.drop_eq_getElem_cons:=@List.drop_eq_getElem_cons
theorem zAG:type_of% @List.append_assoc:=@List.append_assoc
theorem zAO:type_of% @List.getElem?_append_right:=@List.getElem?_append_right
theorem zAK:type_of% @List.length_append:=@List.length_append
theorem zAC:type_of% @List.getElem_mem:=@List.getElem_mem
theorem zAj:type_of% @Array.getElem?_eq_getElem:=@Array.getElem?_eq_getElem
theorem zAD:type_of% @Bool.true_and:=@Bool.true_and
theorem zAV:type_of% @List.mem_of_getElem? :=@List.mem_of_getElem?
theorem zA0:type_of% @List.getD_eq_getElem?_getD:=@List.getD_eq_getElem?_getD
theorem zAW:type_of% @List.getElem?_append_left:=@List.getElem?_append_left
theorem zAr:type_of% @List.getElem?_set_ne:=@List.getElem?_set_ne
theorem zBe:type_of% @List.map_append:=@List.map_append
theorem zAH:type_of% @Bool.not_true:=@Bool.not_true
theorem zBD:type_of% @Option.bind_assoc:=@Option.bind_assoc
theorem zAX:type_of% @List.map_cons:=@List.map_cons
theorem zAF:type_of% @List.all_eq_true:=@List.all_eq_true
theorem zCJ:type_of% @List.length_eq_zero_iff:=@List.length_eq_zero_iff
theorem zAE:type_of% @List.mem_cons:=@List.mem_cons
theorem zKE:type_of% @List.map_congr_left:=@List.map_congr_left
theorem zBN:type_of% @List.append_nil:=@List.append_nil
theorem zB1:type_of% @Nat.lt_of_lt_of_le:=@Nat.lt_of_lt_of_le
theorem zA9:type_of% @List.map_nil:=@List.map_nil
theorem zD3:type_of% @List.eq_nil_of_length_eq_zero:=@List.eq_nil_of_length_eq_zero
theorem zBf:type_of% @List.mem_singleton:=@List.mem_singleton
theorem zCP:type_of% @List.getElem?_take:=@List.getElem?_take
theorem zBS:type_of% @List.mem_filter:=@List.mem_filter
theorem zC2:type_of% @List.flatMap_cons:=@List.flatMap_cons
theorem zAw:type_of% @Nat.add_mul:=@Nat.add_mul
theorem zEP:type_of% @List.length_filter_le:=@List.length_filter_le
theorem zAh:type_of% @List.mem_map:=@List.mem_map
theorem zD:type_of% @decide_eq_true:=@decide_eq_true
theorem zL:type_of% @decide_eq_false:=@decide_eq_false
theorem zAM:type_of% @of_decide_eq_true:=@of_decide_eq_true
theorem zU:type_of% @decide_eq_true_eq:=@decide_eq_true_eq
theorem zBj:type_of% @beq_self_eq_true:=@beq_self_eq_true
theorem zFM:type_of% @Bool.or_eq_true:=@Bool.or_eq_true
theorem zAl:type_of% @Prod.mk.injEq:=@Prod.mk.injEq
theorem zGZ:type_of% @List.getElem?_eq_none:=@List.getElem?_eq_none
namespace Go.Ab
inductive PV where
 |undef
 |off
 |int (k:IntKind) (n:Int)
 |bool (b:Bool)
 |str (s:ByteArray)
 |agg (cs:List PV)
 |tup (vs:List PV)
 |slice (sh:Nat) (xs:List PV)
 |imm (sh:Nat) (v:PV) (off:Nat)
 |fn (f:FuncId) (fst caps:List PV)
 |nilfn
 |map (es:List (PV×PV))
 |con (v:Value)
 deriving Inhabited
namespace PV
def cells:PV->List PV
 | .agg cs=>cs
 |p=>[p]
def okSh:Nat->PV->Bool
 | 0,.agg _=>false
 | 0,.tup _=>false
 | 0,.undef=>false
 | 0,.off=>false
 | 0,_=>true
 |n+1,.agg cs=>cs.length==n
 |_+1,_=>false
def cell(p:PV) (j:Nat):Option PV:=p.cells[j]?
def cellD(p:PV) (j:Nat):PV:=p.cells.getD j .undef
def asInt:PV->Option Int | .int _ n=>some n | _=>none
def asIntK(kd:IntKind):PV->Option Int | .int k n=>bif decide (k=kd)then some n else none | _=>none
def asAgg:PV->Option (List PV) | .agg cs=>some cs | _=>none
def asBool:PV->Option Bool | .bool b=>some b | _=>none
def asStr:PV->Option ByteArray | .str s=>some s | _=>none
def asTup:PV->Option (List PV) | .tup vs=>some vs | _=>none
def asFn:PV->Option (FuncId×List PV×List PV) | .fn f fs cs=>some (f,fs,cs) | _=>none
def asMap:PV->Option (List (PV×PV))
 | .map es=>some es
 | .con (.map none)=>some []
 |_=>none
def asSlice:Nat->PV->Option (List PV)
 |sh,.slice sh' xs=>bif sh==sh' then some xs else none
 |_,_=>none
def cellsN(p:PV):Nat->Nat->List PV
 |_,0=>[]
 |j,n+1=>p.cellD j::cellsN p (j+1) n
def load(sh:Nat) (v:PV) (off sh' :Nat):Option PV :=
 bif sh==sh' &&off==0 then some v else
 match sh' with
 | 0=>v.cell off
 |n+1=>bif decide (off+n<=sh-1)&&sh != 0 then some (.agg (v.cellsN off n))else none
end PV
inductive AV where
 |pv (p:PV)
 |nil (sh:Nat)
 |agg (cs:List AV)
 |view (o ver:Nat) (sub:Option (Nat×Nat))
 |own (o off:Nat)
 |elem (o ver i off:Nat)
 |mp (o:Nat)
 |fnv (f:FuncId) (fst caps:List AV)
 |tupA (vs:List AV)
 |sl (b:Bool) (sh:Nat) (xs:List PV)
 |gm (o:Nat)
 |fx (o sh:Nat)
 |fe (o i off:Nat)
 deriving Inhabited
def AV.undef:AV:= .pv .undef
inductive Ob where
 |var (fz:Bool) (sh:Nat) (a:AV)
 |row (sl:Bool) (ver sh:Nat) (xs:List PV)
 |sit (s:ByteArray) (pos:Nat)
 |map (sl:Bool) (es:List (PV×PV))
 |grp (sh:Nat) (out:Option Nat) (es:List (PV×PV))
 |fix (ver sh:Nat) (xs:List PV)
 |dead
 deriving Inhabited
inductive TK where
 |bool | int (k:IntKind) | str | slice (e:TypeId) | arr (n:Nat) (e:TypeId) | struct (fs:List (TypeId×Nat)) | map (k e:TypeId) | scalar | other
 deriving Inhabited
structure TyI where
 k:TK
 sz:Nat
 by_:Nat
 zero:List AV
 deriving Inhabited
structure Hi where
 own:List Nat:=[]
 opens:List Nat:=[]
 raws:List Nat:=[]
 tm:List (Nat×List (AV×List Ob)):=[]
 lks:List Nat:=[]
 late:List Nat:=[]
 deriving Inhabited
structure FnI where
 code:Code
 res:List ResultVar
 np:Nat
 nt:Nat
 own:Hi:={}
 lives:List (Nat×List Nat):=[]
 outs:List (Nat×List Nat):=[]
 seals:List (Nat×List Nat):=[]
 joins:List (Nat×List Nat):=[]
 scan:Option (Nat×Nat×Code):=none
 deriving Inhabited
abbrev Wf:=FuncId->Bool->List AV->List Ob->Option (AV×List Ob)
def zIr(call call' :Wf):Prop:=∀ f raw a ow r,call f raw a ow=some r->call' f raw a ow=some r
structure ExtF where
 g:Wf->Bool->List AV->List Ob->Option (AV×List Ob)
 mono:∀ call call' raw a ow r,zIr call call' ->g call raw a ow=some r->g call' raw a ow=some r
structure Cfg where
 ty:List TyI
 fn:FuncId->Option FnI
 ext:FuncId->Option ExtF
namespace Cfg
def at_(c:Cfg) (t:TypeId):TyI:=c.ty.getD t ⟨.other,0,0,[]⟩
def sh(c:Cfg) (t:TypeId):Nat:=match (c.at_ t).k with | .arr _ _=>(c.at_ t).sz+1 | .struct _=>(c.at_ t).sz+1 | _=>0
def known(c:Cfg) (t:TypeId):Bool:=match (c.at_ t).k with | .other=>false | _=>true
def shE(c:Cfg) (t:TypeId):Nat:=match (c.at_ t).k with | .slice e=>c.sh e | .arr _ e=>c.sh e | _=>0
end Cfg
def szOf:Nat->Nat | 0=>1 | n+1=>n
structure St where
 fr:List (Nat×AV)
 ow:List Ob
 deriving Inhabited
inductive Ex where
 |normal | exit (id:Nat) | ret
 deriving Inhabited
def get:List (Nat×AV)->Nat->AV
 | [],_=> .undef
 |(s,a)::r,t=>bif s==t then a else get r t
def mem:Nat->List Nat->Bool
 |_,[]=>false
 |n,m::r=>bif n==m then true else mem n r
def look{α:Type}:List (Nat×List α)->Nat->List α
 | [],_=>[]
 |(s,a)::r,t=>bif s==t then a else look r t
namespace AV
def ofConst(t:Nat):Value->AV
 | .int k n=> .pv (.int k n)
 | .bool b=> .pv (.bool b)
 | .string s=> .pv (.str s)
 | .slice none 0 0=> .nil t
 | .nilFunc=> .pv .nilfn
 | .pointer none=> .pv (.con (.pointer none))
 | .nilIface=> .pv (.con .nilIface)
 | .map none=> .pv (.con (.map none))
 |_=> .undef
def cells:AV->List AV
 | .pv p=>p.cells.map .pv
 | .agg cs=>cs
 |a=>[a]
def okSh(sh:Nat):AV->Bool
 | .pv p=>p.okSh sh
 | .agg cs=>sh==cs.length+1
 | .tupA _=>false
 |_=>sh==0
def cellsSh(sh:Nat) (a:AV):List AV :=
 match sh with
 | 0=>[a]
 |n+1=>match a with | .pv p=>(p.cellsN 0 n).map .pv | .agg cs=>cs | a=>[a]
def allPv:List AV->Option (List PV)
 | []=>some []
 | .pv p::r=>match allPv r with | some ps=>some (p::ps) | none=>none
 |_::_=>none
def mkAgg(cs:List AV):AV:=match allPv cs with | some ps=> .pv (.agg ps) | none=> .agg cs
def sub(xs:List PV):Option (Nat×Nat)->List PV
 |none=>xs
 |some (lo,n)=>(xs.drop lo).take n
def port1(ow:List Ob):AV->Option PV
 | .pv p=>some p
 | .nil sh=>some (.slice sh [])
 | .view o ver s=>match ow[o]? with
  |some (.row true ver' sh xs)=>bif ver==ver' then some (.slice sh (sub xs s))else none
  |_=>none
 | .own o off=>match ow[o]? with
  |some (.var true sh (.pv p))=>some (.imm sh p off)
  |_=>none
 | .mp o=>match ow[o]? with
  |some (.map true es)=>some (.map es)
  |_=>none
 | .sl _ sh xs=>some (.slice sh xs)
 |_=>none
def portL(ow:List Ob):List AV->Option (List PV)
 | []=>some []
 |a::r=>match port1 ow a with
  |some p=>match portL ow r with | some ps=>some (p::ps) | none=>none
  |none=>none
def port(ow:List Ob):AV->Option PV
 | .agg cs=>match portL ow cs with | some ps=>some (.agg ps) | none=>none
 |a=>port1 ow a
def setAt(cs:List AV) (off:Nat) (vs:List AV):List AV:=cs.take off++vs++cs.drop (off+vs.length)
def z2h(b:Bool) (p q:PV):PV:=match p,q with
 | .bool x,.bool y=> .bool (bif b then x else y)
 | .int k x,.int k' y=>bif decide (k=k')then .int k (bif b then x else y)else bif b then .int k x else .int k' y
 |p,q=>bif b then p else q
theorem z02(b:Bool) (p q:PV):z2h b p q=bif b then p else q:=by
 unfold z2h
 split
 ·cases b<;>rfl
 ·rename_i k x k' y
  by_cases h:k=k'
  ·subst h;cases b<;>simp
  ·simp[h]
 ·rfl
def z2i(b:Bool) (x y:AV):AV:=match x,y with
 | .pv p,.pv q=> .pv (z2h b p q)
 |x,y=>bif b then x else y
theorem zVp(b:Bool) (x y:AV):z2i b x y=bif b then x else y:=by
 unfold z2i
 split
 ·rw[z02];cases b<;>rfl
 ·rfl
def zQQ:List AV->Nat->Nat->AV->List AV
 | [],_,_,_=>[]
 |c::cs,i,off,v=>z2i (i==off) v c::zQQ cs (i+1) off v
theorem zSP:∀(cs:List AV) (i off:Nat) (v:AV),i<=off->off-i<cs.length->zQQ cs i off v=setAt cs (off-i) [v]
 | [],i,off,v,_,h=>by simp at h
 |c::cs,i,off,v,hi,h=>by
  simp only[zQQ,zVp]
  by_cases e:i=off
  ·subst e
   simp only[zBj,zA,Nat.sub_self,setAt,List.take_zero,List.nil_append,List.length_singleton,Nat.zero_add,List.drop_succ_cons,List.drop_zero,List.singleton_append]
   congr 1
   exact setOne_past cs (i+1) i v (by omega)
  ·have e' :(i==off)=false:=by simpa using e
   rw[e',zC,zSP cs (i+1) off v (by omega) (by simp only[List.length_cons]at h;omega)]
   have e2:off-i=(off-(i+1))+1:=by omega
   rw[e2]
   simp only[setAt,List.take_succ_cons,List.length_singleton,List.cons_append,List.drop_succ_cons]
where
 setOne_past:∀(cs:List AV) (i off:Nat) (v:AV),off<i->zQQ cs i off v=cs
  | [],_,_,_,_=>rfl
  |c::cs,i,off,v,h=>by
   have e:(i==off)=false:=by simp;omega
   simp only[zQQ,zVp,e,zC]
   rw[setOne_past cs (i+1) off v (by omega)]
def setB(cs:List AV) (off:Nat) (vs:List AV):List AV:=match vs with
 | [v]=>zQQ cs 0 off v
 |vs=>setAt cs off vs
theorem setB_eq{cs:List AV} {off:Nat} {vs:List AV} (h:off+vs.length<=cs.length):setB cs off vs=setAt cs off vs:=by
 unfold setB
 split
 ·rename_i v
  have:=zSP cs 0 off v (Nat.zero_le _) (by simp at h ⊢;omega)
  simpa using this
 ·rfl
end AV
def Cfg.zero(c:Cfg) (t:TypeId):AV:=match c.sh t with | 0=>(c.at_ t).zero.getD 0 .undef | _=>AV.mkAgg (c.at_ t).zero
section ops
variable {R:Type}
def zXD(sh:Nat) (a:AV) (off sh' :Nat) (k:AV->Option R):Option R :=
 bif sh==sh' &&off==0 then k a else
 match a with
 | .pv p=>(p.load sh off sh').bind λ q=>k (.pv q)
 | .agg cs=>match sh' with
  | 0=>(cs[off]?).bind k
  |n+1=>bif decide (off+n<=cs.length)then k (AV.mkAgg ((cs.drop off).take n))else none
 |_=>none
def zB2:List AV->List Ob->List AV×List Ob
 | [],ow=>([],ow)
 | .nil sh::r,ow=>match zB2 r (ow++[.row false 0 sh []])with | (cs,ow')=>(.view ow.length 0 none::cs,ow')
 |a::r,ow=>match zB2 r ow with | (cs,ow')=>(a::cs,ow')
def zMO(a:AV) (ow:List Ob):AV×List Ob :=
 match a with
 | .nil sh=>(.view ow.length 0 none,ow++[.row false 0 sh []])
 | .agg cs=>match zB2 cs ow with | (cs,ow')=>(.agg cs,ow')
 | .view o ver (some (lo,n))=>(match ow[o]? with
  |some (.row sl ver' sh xs)=>bif lo==0&&ver==ver' && !sl then(.view o (ver+1) none,ow.set o (.row sl (ver+1) sh (xs.take n)))else(.view o ver (some (lo,n)),ow)
  |_=>(.view o ver (some (lo,n)),ow))
 |a=>(a,ow)
def zGW(ow:List Ob) (ad:AV) (sh' :Nat) (k:AV->Option R):Option R :=
 match ad with
 | .own o off=>match ow[o]? with
  |some (.var _ sh a)=>zXD sh a off sh' k
  |_=>none
 | .pv (.imm sh v off)=>(v.load sh off sh').bind λ q=>k (.pv q)
 | .elem o ver i off=>match ow[o]? with
  |some (.row _ ver' sh xs)=>bif ver==ver' then(xs[i]?).bind λ v=>(v.load sh off sh').bind λ q=>k (.pv q)else none
  |_=>none
 | .fe o i off=>match ow[o]? with
  |some (.fix _ sh xs)=>(xs[i]?).bind λ v=>(v.load sh off sh').bind λ q=>k (.pv q)
  |_=>none
 |_=>none
def PV.put(sh:Nat) (v:PV) (off sh' :Nat) (x:PV):Option PV :=
 bif sh==sh' &&off==0 then some x else
 match sh,sh' with
 |n+1,0=>bif decide (off<n)then some (.agg ((v.cellsN 0 n).set off x))else none
 |n+1,m+1=>bif decide (off+m<=n)then some (.agg ((v.cellsN 0 off)++x.cellsN 0 m++v.cellsN (off+m) (n-off-m)))else none
 |_,_=>none
def zHo(ow:List Ob) (ad:AV) (sh' :Nat) (x:AV) (k:List Ob->Option R):Option R :=
 bif x.okSh sh' then
  match ad with
  | .own o off=>match ow[o]? with
   |some (.var false sh a) =>
    bif sh==sh' &&off==0 then k (ow.set o (.var false sh x)) else
    bif decide (off+szOf sh' <=szOf sh)&&sh != 0 then k (ow.set o (.var false sh (AV.mkAgg (AV.setB (a.cellsSh sh) off (x.cellsSh sh')))))else none
   |_=>none
  | .elem o ver i off=>match ow[o]? with
   |some (.row false ver' sh xs) =>
    bif ver==ver' then
     match x with
     | .pv p=>(xs[i]?).bind λ v=>(v.put sh off sh' p).bind λ v' =>k (ow.set o (.row false ver sh (xs.set i v')))
     |_=>none
    else none
   |_=>none
  | .fe o i off=>match ow[o]? with
   |some (.fix ver sh xs)=>match x with
    | .pv p=>(xs[i]?).bind λ v=>(v.put sh off sh' p).bind λ v' =>k (ow.set o (.fix ver sh (xs.set i v')))
    |_=>none
   |_=>none
  |_=>none
 else none
def zHp(sh:Nat) (ow:List Ob) (a:AV) (k:List PV->Option R):Option R :=
 match a with
 | .pv p=>(p.asSlice sh).bind k
 | .nil _=>k []
 | .view o ver s=>match ow[o]? with
  |some (.row _ ver' sh' xs)=>bif ver==ver' &&sh==sh' then k (AV.sub xs s)else none
  |_=>none
 | .sl _ sh' xs=>bif sh==sh' then k xs else none
 | .fx o _=>match ow[o]? with
  |some (.fix _ sh' xs)=>bif sh==sh' then k xs else none
  |_=>none
 |_=>none
def lim:Nat:=4294967296
def zO3(s:ByteArray):List PV:=s.data.toList.map λ b=> .int .u8 b.toNat
def zFN(sh:Nat) (mk:Bool) (ow:List Ob) (s:AV) (ys:List PV) (k:AV->List Ob->Option R):Option R :=
 match s with
 | .nil _=>bif decide (ys.length<=lim)then(bif mk then k (.view ow.length 0 none) (ow++[.row false 0 sh ys])else k (.pv (.slice sh ys)) ow)else none
 | .view o ver sb=>match ow[o]? with
  |some (.row sl ver' sh' xs) =>
   bif ver==ver' &&sh==sh' &&(!sl || sb.isNone)&&decide ((AV.sub xs sb).length+ys.length<=lim) then
    (bif mk then k (.view o (ver+1) none) (ow.set o (.row sl (ver+1) sh (AV.sub xs sb++ys)))
     else k (.pv (.slice sh (AV.sub xs sb++ys))) (ow.set o .dead))
   else none
  |_=>none
 |_=>none
def zFq(sh:Nat) (mk:Bool) (ow:List Ob) (s x:AV) (k:AV->List Ob->Option R):Option R :=
 zHp sh ow x λ ys=>zFN sh mk ow s ys k
def z2D(op:BinOp) (k:IntKind) (a b:Int):Option PV :=
 match op with
 | .add=>some (.int k (k.wrap (a+b)))
 | .sub=>some (.int k (k.wrap (a-b)))
 | .mul=>some (.int k (k.wrap (a*b)))
 | .quo=>bif b==0 then none else some (.int k (k.wrap (a.tdiv b)))
 | .rem=>bif b==0 then none else some (.int k (a.tmod b))
 | .and=>some (.int k (k.wrap (BitVec.ofInt k.bits a &&& BitVec.ofInt k.bits b).toNat))
 | .or=>some (.int k (k.wrap (BitVec.ofInt k.bits a ||| BitVec.ofInt k.bits b).toNat))
 | .xor=>some (.int k (k.wrap (BitVec.ofInt k.bits a ^^^ BitVec.ofInt k.bits b).toNat))
 | .andNot=>some (.int k (k.wrap (BitVec.ofInt k.bits a &&& ~~~BitVec.ofInt k.bits b).toNat))
 | .eql=>some (.bool (a==b))
 | .neq=>some (.bool (a != b))
 | .lss=>some (.bool (decide (a<b)))
 | .leq=>some (.bool (decide (a<=b)))
 | .gtr=>some (.bool (decide (a>b)))
 | .geq=>some (.bool (decide (a≥b)))
 |_=>none
def zVq(op:BinOp) (k:IntKind) (a b:Int):Option PV :=
 bif decide (b<0)then none else
 match op with
 | .shl=>some (.int k (k.wrap (a*2 ^ min b.toNat k.bits)))
 | .shr=>some (.int k (a.fdiv (2 ^ min b.toNat k.bits)))
 |_=>none
def z2E(op:BinOp) (a b:ByteArray):Option PV :=
 match op with
 | .add=>bif decide (a.size+b.size<=9223372036854775807)then some (.str (a++b))else none
 | .eql=>some (.bool (a.toList==b.toList))
 | .neq=>some (.bool (!(a.toList==b.toList)))
 | .lss=>some (.bool (Op.bytesLess a.toList b.toList))
 |_=>none
def z3r(p q:PV):Option Bool:=match p,q with
 | .int k a,.int k' b=>bif decide (k=k')then some (a==b)else none
 |_,_=>none
def eqFs(c:Cfg) (eq:TypeId->PV->PV->Option Bool) (p q:PV):List (TypeId×Nat)->Option Bool
 | []=>some true
 |(t,off)::r=>(p.load (p.cells.length+1) off (c.sh t)).bind λ x=>(q.load (q.cells.length+1) off (c.sh t)).bind λ y =>
  (eq t x y).bind λ b=>bif b then eqFs c eq p q r else some false
def eqAs(c:Cfg) (eq:PV->PV->Option Bool) (p q:PV) (sh:Nat):Nat->Nat->Option Bool
 | 0,_=>some true
 |m+1,i=>(p.load (p.cells.length+1) (i*szOf sh) sh).bind λ x=>(q.load (q.cells.length+1) (i*szOf sh) sh).bind λ y =>
  (eq x y).bind λ b=>bif b then eqAs c eq p q sh m (i+1)else some false
def eqP(c:Cfg):Nat->TypeId->PV->PV->Option Bool
 | 0,_,_,_=>none
 |n+1,t,p,q =>
  match (c.at_ t).k with
  | .bool=>p.asBool.bind λ a=>q.asBool.bind λ b=>some (a==b)
  | .int _=>z3r p q
  | .str=>p.asStr.bind λ a=>q.asStr.bind λ b=>some (a.toList==b.toList)
  | .struct fs=>bif p.okSh (c.sh t)&&q.okSh (c.sh t)then eqFs c (eqP c n) p q fs else none
  | .arr m e=>bif p.okSh (c.sh t)&&q.okSh (c.sh t)then eqAs c (eqP c n e) p q (c.sh e) m 0 else none
  |_=>none
def zSQ(op:BinOp) (p q:PV):Option PV:=match p,q with
 | .int k a,.int _ b=>zVq op k a b
 |_,_=>none
def intP(op:BinOp) (p q:PV):Option PV:=match p,q with
 | .int k a,.int k' b=>bif decide (k=k')then z2D op k a b else none
 |_,_=>none
def strP(op:BinOp) (p q:PV):Option PV:=match p,q with
 | .str a,.str b=>z2E op a b
 |_,_=>none
def eqNe(c:Cfg) (op:BinOp) (xT:TypeId) (p q:PV):Option PV :=
 match op with
 | .eql=>(eqP c 6 xT p q).bind λ b=>some (.bool b)
 | .neq=>(eqP c 6 xT p q).bind λ b=>some (.bool (!b))
 |_=>none
def z2j(c:Cfg) (op:BinOp) (xT:TypeId) (p q:PV):Option PV :=
 match (c.at_ xT).k with
 | .int _=>intP op p q
 | .str=>strP op p q
 |_=>eqNe c op xT p q
def binP(c:Cfg) (op:BinOp) (xT:TypeId) (p q:PV):Option PV :=
 match op with
 | .shl=>zSQ .shl p q
 | .shr=>zSQ .shr p q
 |op=>z2j c op xT p q
def negP(p:PV):Option PV:=match p with | .int k n=>some (.int k (k.wrap (0-n))) | _=>none
def maxP(p q:PV):Option PV:=match p,q with
 | .int kd a,.int kd' b=>bif decide (kd=kd')then some (.int kd (bif decide (a<b)then b else a))else none
 |_,_=>none
def minP(p q:PV):Option PV:=match p,q with
 | .int kd a,.int kd' b=>bif decide (kd=kd')then some (.int kd (bif decide (b<a)then b else a))else none
 |_,_=>none
def unP(op:UnOp) (p:PV):Option PV :=
 match op with
 | .not=>p.asBool.bind λ b=>some (.bool (!b))
 | .neg=>negP p
 |_=>none
def zSR:List PV->Option (List Int)
 | []=>some []
 |p::ps=>(PV.asIntK .u8 p).bind λ n=>(zSR ps).bind λ ns=>some (n::ns)
def zSS(ns:List Int):ByteArray:=⟨(ns.map λ n=>UInt8.ofNat n.toNat).toArray⟩
def z2k(c:Cfg) (src dst:TypeId) (p:PV):Option PV :=
 match (c.at_ src).k,(c.at_ dst).k with
 | .slice e,.str=>match (c.at_ e).k with
  | .int .u8=>(p.asSlice 0).bind λ xs=>(zSR xs).bind λ ns=>some (.str (zSS ns))
  |_=>none
 | .int _,.int k=>p.asInt.bind λ n=>some (.int k (k.wrap n))
 | .int _,.str=>p.asInt.bind λ n=>some (.str (Utf8.encode n))
 | .str,.str=>p.asStr.bind λ s=>some (.str s)
 |_,_=>none
def zMP(k:TK) (op:BinOp) (a:AV) (y:Operand):Option Bool:=match k,op,a,y with
 | .slice _,.eql,.sl b _ _,.const (.slice none 0 0)=>some b
 |_,_,_,_=>none
def pvOf(a:AV) (k:PV->Option R):Option R:=match a with | .pv p=>k p | _=>none
def ρ(fr:List (Nat×AV)) (x:Operand) (t:TypeId) (c:Cfg):AV :=
 match x with
 | .tmp s=>get fr s
 | .const v=>AV.ofConst (c.shE t) v
 | .func f=> .pv (.fn f [] [])
 | .global _=> .undef
def zDW(ow:List Ob) (a:AV) (k:PV->Option R):Option R :=
 match a with
 | .pv p=>k p
 |a=>(AV.port ow a).bind k
def zFO(ow:List Ob):List AV->(List PV->Option R)->Option R
 | [],k=>k []
 |a::r,k=>zDW ow a λ p=>zFO ow r λ ps=>k (p::ps)
def zJE(zFc:Nat->Option (Nat×Nat)) (cs:List AV):List (Nat×AV)->(List AV->Option R)->Option R
 | [],k=>k cs
 |(i,a)::r,k=>match zFc i with
  |some (off,sh)=>bif a.okSh sh&&decide (off+szOf sh<=cs.length)then zJE zFc (AV.setAt cs off (a.cellsSh sh)) r k else none
  |none=>none
def zFx(sh:Nat) (ow:List Ob):List AV->(List PV->Option R)->Option R
 | [],k=>k []
 |a::r,k=>zDW ow a λ p=>bif p.okSh sh then zFx sh ow r λ ps=>k (p::ps)else none
def idxI(n:PV) (k:Int->Option R):Option R:=n.asInt.bind k
def zFP(fr:AV) (k:Int->Option R):Option R:=pvOf fr λ p=>idxI p k
def zDF(own:Hi) (o:Oper):Bool:=match o.dst with | some d=>mem d own.own | none=>false
def z3s(own:Hi) (x:Operand):Bool:=match x with | .tmp d=>mem d own.own | _=>false
def zST(own:Hi) (o:Oper):Bool:=match o.dst with | some d=>mem d own.opens | none=>false
def isLk(own:Hi) (o:Oper):Bool:=match o.dst with | some d=>mem d own.lks | none=>false
def isOw:AV->Bool
 | .pv _=>false
 | .nil _=>false
 |_=>true
def z03:AV->Bool
 | .pv _=>false
 |_=>true
def isRo(own:Hi) (o:Oper):Bool:=match o.dst with | some d=>mem d own.late | none=>false
def z04(own:Hi) (o:Oper):Bool:=match o.dst with | some d=>mem d own.raws | none=>false
def zIS(own:Hi) (o:Oper) (r:Operand->TypeId->AV) (f:Operand) (xs:List Operand):Bool:=zST own o&&(z04 own o || z03 (r f 0) || xs.any λ x=>z03 (r x 0))
theorem zJJ{r1 r2:Operand->TypeId->AV}:∀(xs:List Operand),(∀ x∈xs,r1 x 0=r2 x 0)->(xs.any λ x=>z03 (r1 x 0))=xs.any λ x=>z03 (r2 x 0)
 | [],_=>rfl
 |x::xs,h=>by simp only[List.any_cons,h x (by simp),zJJ xs λ y hy=>h y (by simp[hy])]
theorem zL1{own:Hi} {o:Oper} {r1 r2:Operand->TypeId->AV} {f:Operand} {xs:List Operand} (hf:r1 f 0=r2 f 0) (hx:∀ x∈xs,r1 x 0=r2 x 0):zIS own o r1 f xs=zIS own o r2 f xs:=by
 unfold zIS
 rw[hf,zJJ xs hx]
def zSU(fs:List (TypeId×Nat)) (i:Nat):TypeId:=match fs[i]? with | some f=>f.1 | none=>0
def bnd(r:Operand->TypeId->AV) (x:Option Operand) (d:Int) (k:Int->Option R):Option R:=match x with | some l=>zFP (r l 0) k | none=>k d
def cutO(sh:Nat) (ow:List Ob) (a:AV) (lo:(Int->Option R)->Option R) (hi:Int->(Int->Option R)->Option R) (k:AV->Option R):Option R :=
 match a with
 | .view ob ver s=>match ow[ob]? with
  |some (.row _ ver' sh' xs)=>lo λ l=>hi (AV.sub xs s).length λ h =>
   bif ver==ver' &&sh==sh' &&decide (0<=l)&&decide (l<=h)&&decide (h<=(AV.sub xs s).length) then
    k (.view ob ver (some ((match s with | some (lo,_)=>lo | none=>0)+l.toNat,h.toNat-l.toNat)))else none
  |_=>none
 | .nil sh' =>lo λ l=>hi 0 λ h=>bif decide (0<=l)&&decide (l<=h)&&decide (h<=0)then k (.nil sh')else none
 | .fx _ _=>none
 |a=>zHp sh ow a λ xs=>lo λ l=>hi xs.length λ h =>
  bif decide (0<=l)&&decide (l<=h)&&decide (h<=xs.length)then k (.pv (.slice sh ((xs.drop l.toNat).take (h.toNat-l.toNat))))else none
def zSV(sh:Nat) (v:PV) (esh:Nat):Nat->Nat->Option (List PV)
 |_,0=>some []
 |off,n+1=>(v.load sh off esh).bind λ x=>bif x.okSh esh then(zSV sh v esh (off+szOf esh) n).bind λ xs=>some (x::xs)else none
def z2F(esh n:Nat):PV->Option (List PV)
 | .imm sh v off=>zSV sh v esh off n
 |_=>none
def zIT(z:AV) (p:PV) (k:PV->Option R):Option R :=
 match z with
 | .pv (.int kd _)=>(PV.asIntK kd p).bind λ n=>k (.int kd n)
 | .pv (.bool _)=>p.asBool.bind λ b=>k (.bool b)
 | .pv (.str _)=>p.asStr.bind λ s=>k (.str s)
 | .nil sh=>(p.asSlice sh).bind λ xs=>k (.slice sh xs)
 |_=>k p
def zFQ:List AV->Nat->List PV->(List PV->Option R)->Option R
 | [],i,cs,k=>bif cs.length==i then k []else none
 |z::zs,i,cs,k=>(cs[i]?).bind λ p=>zIT z p λ p' =>zFQ zs (i+1) cs λ ps' =>k (p' ::ps')
def zO4(c:Cfg) (t:TypeId) (p:PV) (k:PV->Option R):Option R :=
 match c.sh t with
 | 0=>(match (c.at_ t).zero with | [z]=>zIT z p k | _=>k p)
 |_=>p.asAgg.bind λ cs=>zFQ (c.at_ t).zero 0 cs λ cs' =>k (.agg cs')
def zKn(c:Cfg) (o:Oper) (a:AV) (k:AV->Option R):Option R :=
 match a with
 | .pv p=>(match o.op with
  | .call _=>zO4 c o.type p λ p' =>k (.pv p')
  | .extract _ _=>zO4 c o.type p λ p' =>k (.pv p')
  | .load _ _=>zO4 c o.type p λ p' =>k (.pv p')
  | .field _ _ _=>zO4 c o.type p λ p' =>k (.pv p')
  | .index _ _ _=>zO4 c o.type p λ p' =>k (.pv p')
  | .binOp _ _ _ _ _=>zO4 c o.type p λ p' =>k (.pv p')
  |_=>k (.pv p))
 |a=>k a
def zNe(c:Cfg):Nat->TypeId->PV->Bool
 | 0,_,_=>false
 |n+1,t,p=>match (c.at_ t).k with
  | .bool=>p.asBool.isSome
  | .int _=>p.asInt.isSome
  | .str=>p.asStr.isSome
  | .struct fs=>p.okSh (c.sh t)&&fs.all λ f=>match p.load (p.cells.length+1) f.2 (c.sh f.1)with | some q=>zNe c n f.1 q | none=>false
  | .arr m e=>p.okSh (c.sh t)&&(List.range m).all λ i=>match p.load (p.cells.length+1) (i*szOf (c.sh e)) (c.sh e)with | some q=>zNe c n e q | none=>false
  |_=>false
def zXE:PV->PV->Bool
 | .int k n,.int k' m=>decide (k=k')&&n==m
 | .bool b,.bool b' =>b==b'
 | .str s,.str s' =>s.toList==s'.toList
 |_,_=>false
def zSW:List PV->List PV->Bool
 | [],[]=>true
 |p::ps,q::qs=>zXE p q&&zSW ps qs
 |_,_=>false
def zPy:PV->PV->Bool
 | .agg ps,.agg qs=>zSW ps qs
 |p,q=>zXE p q
def zL2(eq:PV->PV->Option Bool) (k:PV):List (PV×PV)->Option (Option PV)
 | []=>some none
 |(x,v)::r=>(eq k x).bind λ b=>bif b then some (some v)else zL2 eq k r
def mput(eq:PV->PV->Option Bool) (k v:PV):List (PV×PV)->Option (List (PV×PV))
 | []=>some [(k,v)]
 |(x,u)::r=>(eq k x).bind λ b=>bif b then(bif zPy x k then some ((k,v)::r)else none)else(mput eq k v r).bind λ r' =>some ((x,u)::r')
def mapO(ow:List Ob) (a:AV) (k:List (PV×PV)->Option R):Option R :=
 match a with
 | .pv p=>p.asMap.bind k
 | .mp o=>match ow[o]? with
  |some (.map _ es)=>k es
  |_=>none
 | .gm o=>match ow[o]? with
  |some (.grp _ _ es)=>k es
  |_=>none
 |_=>none
def gidx(eq:PV->PV->Option Bool) (k:PV):List (PV×PV)->Option Nat
 | []=>some 0
 |(x,_)::r=>(eq k x).bind λ b=>bif b then(bif zPy x k then some 0 else none)else(gidx eq k r).bind λ j=>some (j+1)
def zUS(sh j:Nat) (es:List (PV×PV)):Option (List PV):=match es[j]? with
 |none=>some []
 |some e=>e.2.asSlice sh
def gput(k:PV) (sh j:Nat) (es:List (PV×PV)):List (PV×PV):=bif decide (j<es.length)then es.set j (k,(es.getD j default).2)else es++[(k,.slice sh [])]
def gset(v:PV) (j:Nat) (es:List (PV×PV)):List (PV×PV):=es.set j ((es.getD j default).1,v)
def zYV(c:Cfg) (ow:List Ob) (kt:TypeId) (z m key:AV) (k:AV->List Ob->Option R):Option R :=
 match m,z with
 | .gm o,.nil _=>match ow[o]?,ow[o+1]? with
  |some (.grp sh none es),some (.row true ver sh' _)=>zDW ow key λ kp=>bif zNe c 6 kt kp&&sh==sh' then
   (gidx (eqP c 6 kt) kp es).bind λ j=>(zUS sh j es).bind λ xs =>
    k (.tupA [.view (o+1) (ver+1) none,.pv (.int .i64 j)]) ((ow.set o (.grp sh (some j) (gput kp sh j es))).set (o+1) (.row true (ver+1) sh xs))else none
  |_,_=>none
 |_,_=>none
def zSX(ow:List Ob) (m s x:AV) (k:AV->List Ob->Option R):Option R :=
 match m with
 | .gm o=>match ow[o]?,ow[o+1]? with
  |some (.grp sh (some j) es),some (.row true ver sh' xs)=>match x with
   | .view o' ver' none=>zFP s λ n=>bif decide (n=j)&&sh==sh' &&ver==ver' &&o' ==o+1 then
    k .undef ((ow.set o (.grp sh none (gset (.slice sh xs) j es))).set (o+1) (.row true (ver+1) sh []))else none
   |_=>none
  |_,_=>none
 |_=>none
def putO(c:Cfg) (ow:List Ob) (kt et:TypeId) (m key x:AV) (k:AV->List Ob->Option R):Option R :=
 match m with
 | .mp o=>match ow[o]? with
  |some (.map false es)=>zDW ow key λ kp=>zDW ow x λ v=>bif zNe c 6 kt kp then(mput (eqP c 6 kt) kp v es).bind λ es' =>k .undef (ow.set o (.map false es'))else none
  |_=>none
 |_=>none
namespace AV
def cap:AV->AV
 | .pv p=> .pv p
 | .own o off=> .own o off
 | .mp o=> .mp o
 |_=> .undef
def z3t:AV->List Nat
 | .own o _=>[o]
 | .mp o=>[o]
 |_=>[]
def z3u:AV->List Nat
 | .view o _ _=>[o]
 | .own o _=>[o]
 | .elem o _ _ _=>[o]
 | .mp o=>[o]
 | .fx o _=>[o]
 | .fnv _ fs cs=>(fs.map z3t).flatten++(cs.map z3t).flatten
 |_=>[]
def refs2:AV->List Nat
 | .agg cs=>(cs.map z3u).flatten
 |a=>z3u a
def refs:AV->List Nat
 | .tupA as=>(as.map refs2).flatten
 |a=>refs2 a
end AV
def Ob.refs:Ob->List Nat
 | .var _ _ a=>a.refs2
 |_=>[]
def zRB(ow:List Ob):Nat->List Nat->List Nat->List Nat
 | 0,_,acc=>acc
 |_+1,[],acc=>acc
 |n+1,i::r,acc=>bif mem i acc then zRB ow n r acc else match ow[i]? with
  |some ob=>zRB ow n (ob.refs++r) (acc++[i])
  |none=>zRB ow n r acc
def zFc:List Nat->Nat->Option Nat
 | [],_=>none
 |x::r,o=>bif x==o then some 0 else match zFc r o with | some n=>some (n+1) | none=>none
def mv0(f:Nat->Option (Nat×Nat)):AV->AV
 | .pv p=> .pv p
 | .own o off=>(match f o with | some x=> .own x.1 off | none=> .undef)
 | .mp o=>(match f o with | some x=> .mp x.1 | none=> .undef)
 |_=> .undef
def mv1(ow:List Ob) (f:Nat->Option (Nat×Nat)):AV->AV
 | .pv p=> .pv p
 | .nil sh=> .nil sh
 | .view o ver s=>(match ow[o]? with
  |some (.row _ ver' _ _)=>bif ver==ver' then(match f o with | some x=> .view x.1 x.2 s | none=> .undef)else .undef
  |_=> .undef)
 | .elem o ver i off=>(match ow[o]? with
  |some (.row _ ver' _ _)=>bif ver==ver' then(match f o with | some x=> .elem x.1 x.2 i off | none=> .undef)else .undef
  |_=> .undef)
 | .own o off=>(match f o with | some x=> .own x.1 off | none=> .undef)
 | .mp o=>(match f o with | some x=> .mp x.1 | none=> .undef)
 | .fx o sh=>(match f o with | some x=> .fx x.1 sh | none=> .undef)
 | .fnv g fs cs=> .fnv g (fs.map (mv0 f)) (cs.map (mv0 f))
 |_=> .undef
def mv2(ow:List Ob) (f:Nat->Option (Nat×Nat)):AV->AV
 | .agg cs=> .agg (cs.map (mv1 ow f))
 |a=>mv1 ow f a
def mv(ow:List Ob) (f:Nat->Option (Nat×Nat)):AV->AV
 | .tupA as=> .tupA (as.map (mv2 ow f))
 |a=>mv2 ow f a
def mvOb(ow:List Ob) (f:Nat->Option (Nat×Nat)) (ver:Nat):Ob->Ob
 | .var fz sh a=>bif (mv2 ow f a).okSh sh then .var fz sh (mv2 ow f a)else .dead
 | .row sl _ sh xs=> .row sl ver sh xs
 | .grp _ _ _=> .dead
 | .fix _ sh xs=> .fix ver sh xs
 |ob=>ob
def zUT(is:List Nat) (o:Nat):Option (Nat×Nat):=match zFc is o with | some j=>some (j,0) | none=>none
def zO5:Ob->Nat
 | .row _ ver _ _=>ver
 |_=>0
def zD4(ow:List Ob) (is:List Nat) (j:Nat):Option (Nat×Nat):=match is[j]? with
 |some i=>some (i,zO5 (ow.getD i .dead)+1)
 |none=>some (ow.length+(j-is.length),0)
def zL3(old new:Ob):Ob:=match old,new with
 | .row ..,.row .. =>new
 | .var ..,.var .. =>new
 | .map ..,.map .. =>new
 | .sit ..,.sit .. =>new
 | .fix ver _ _,.fix _ sh xs=> .fix ver sh xs
 |_,_=> .dead
def merge(ow:List Ob) (is:List Nat) (ow2:List Ob):List Ob :=
 (List.range ow.length).map (λ i=>match zFc is i with
  |some j=>zL3 (ow.getD i .dead) (mvOb ow2 (zD4 ow is) (zO5 (ow.getD i .dead)+1) (ow2.getD j .dead))
  |none=>ow.getD i .dead)++(ow2.drop is.length).map (mvOb ow2 (zD4 ow is) 0)
def PV.asMapS:PV->Option (List (PV×PV)) | .map es=>some es | _=>none
def PV.asImm(sh off:Nat):PV->Option PV
 | .imm sh' v off' =>bif sh==sh' &&off==off' then some v else none
 |_=>none
def zL4(t p:PV) (k:PV->Option R):Option R :=
 match t with
 | .int kd _=>(PV.asIntK kd p).bind λ n=>k (.int kd n)
 | .bool _=>p.asBool.bind λ b=>k (.bool b)
 | .str _=>p.asStr.bind λ s=>k (.str s)
 | .slice sh _=>(p.asSlice sh).bind λ xs=>k (.slice sh xs)
 | .map _=>p.asMapS.bind λ es=>k (.map es)
 |_=>k p
def zL5:List PV->Nat->List PV->(List PV->Option R)->Option R
 | [],i,cs,k=>bif cs.length==i then k []else none
 |z::zs,i,cs,k=>(cs[i]?).bind λ p=>zL4 z p λ p' =>zL5 zs (i+1) cs λ ps' =>k (p' ::ps')
def zUU(t p:PV) (k:PV->Option R):Option R :=
 match t with
 | .agg ts=>p.asAgg.bind λ cs=>zL5 ts 0 cs λ cs' =>k (.agg cs')
 | .imm sh (.agg ts) off=>(PV.asImm sh off p).bind λ v=>v.asAgg.bind λ cs=>zL5 ts 0 cs λ cs' =>k (.imm sh (.agg cs') off)
 | .imm sh t off=>(PV.asImm sh off p).bind λ v=>zL4 t v λ v' =>k (.imm sh v' off)
 |t=>zL4 t p k
namespace AV
def asPv:AV->Option PV | .pv p=>some p | _=>none
def isNil(sh:Nat):AV->Bool | .nil sh' =>sh==sh' | _=>false
def isView(o:Nat):AV->Bool | .view o' 0 none=>o==o' | _=>false
def isOwn(o off:Nat):AV->Bool | .own o' off' =>o==o' &&off==off' | _=>false
def isMp(o:Nat):AV->Bool | .mp o' =>o==o' | _=>false
def asAggA:AV->Option (List AV) | .agg cs=>some cs | _=>none
def asTupA:AV->Option (List AV) | .tupA cs=>some cs | _=>none
def asFnv(f:FuncId):AV->Option (List AV×List AV) | .fnv g fs cs=>bif f==g then some (fs,cs)else none | _=>none
def headOwn:AV->Bool
 | .tupA (.own _ _::_)=>true
 | .own _ _=>true
 |_=>false
end AV
namespace Ob
def asVar(fz:Bool) (sh:Nat):Ob->Option AV | .var fz' sh' a=>bif fz==fz' &&sh==sh' then some a else none | _=>none
def asRow(sl:Bool) (ver sh:Nat):Ob->Option (List PV) | .row sl' ver' sh' xs=>bif sl==sl' &&ver==ver' &&sh==sh' then some xs else none | _=>none
def asMapB(sl:Bool):Ob->Option (List (PV×PV)) | .map sl' es=>bif sl==sl' then some es else none | _=>none
def isDead:Ob->Bool | .dead=>true | _=>false
def asFix(ver sh:Nat):Ob->Option (List PV) | .fix ver' sh' xs=>bif ver==ver' &&sh==sh' then some xs else none | _=>none
def asGrp(sh:Nat):Ob->Option (List (PV×PV)) | .grp sh' none es=>bif sh==sh' then some es else none | _=>none
def asSit:Ob->Option (ByteArray×Nat) | .sit s n=>some (s,n) | _=>none
end Ob
def zUV(t a:AV) (k:AV->Option R):Option R :=
 match t with
 | .pv p=>a.asPv.bind λ q=>zUU p q λ q' =>k (.pv q')
 | .own o off=>bif a.isOwn o off then k (.own o off)else none
 | .mp o=>bif a.isMp o then k (.mp o)else none
 |_=>none
def zL6:List AV->Nat->List AV->(List AV->Option R)->Option R
 | [],i,cs,k=>bif cs.length==i then k []else none
 |z::zs,i,cs,k=>(cs[i]?).bind λ p=>zUV z p λ p' =>zL6 zs (i+1) cs λ ps' =>k (p' ::ps')
def zSY(t a:AV) (k:AV->Option R):Option R :=
 match t with
 | .pv p=>a.asPv.bind λ q=>zUU p q λ q' =>k (.pv q')
 | .nil sh=>bif a.isNil sh then k (.nil sh)else none
 | .view o _ _=>bif a.isView o then k (.view o 0 none)else none
 | .own o off=>bif a.isOwn o off then k (.own o off)else none
 | .mp o=>bif a.isMp o then k (.mp o)else none
 | .fnv g fs cs=>(a.asFnv g).bind λ x=>zL6 fs 0 x.1 λ fs' =>zL6 cs 0 x.2 λ cs' =>k (.fnv g fs' cs')
 |_=>none
def zNH:List AV->Nat->List AV->(List AV->Option R)->Option R
 | [],i,cs,k=>bif cs.length==i then k []else none
 |z::zs,i,cs,k=>(cs[i]?).bind λ p=>zSY z p λ p' =>zNH zs (i+1) cs λ ps' =>k (p' ::ps')
def zRC(t a:AV) (k:AV->Option R):Option R :=
 match t with
 | .agg ts=>a.asAggA.bind λ cs=>zNH ts 0 cs λ cs' =>k (.agg cs')
 |t=>zSY t a k
def zNI:List AV->Nat->List AV->(List AV->Option R)->Option R
 | [],i,cs,k=>bif cs.length==i then k []else none
 |z::zs,i,cs,k=>(cs[i]?).bind λ p=>zRC z p λ p' =>zNI zs (i+1) cs λ ps' =>k (p' ::ps')
def zXF(t a:AV) (k:AV->Option R):Option R :=
 match t with
 | .tupA ts=>a.asTupA.bind λ cs=>zNI ts 0 cs λ cs' =>k (.tupA cs')
 |t=>zRC t a k
def zO6(t o:Ob) (k:Ob->Option R):Option R :=
 match t with
 | .var fz sh ta=>(o.asVar fz sh).bind λ a=>zRC ta a λ a' =>k (.var fz sh a')
 | .row sl _ sh _=>(o.asRow sl 0 sh).bind λ xs=>k (.row sl 0 sh xs)
 | .map sl _=>(o.asMapB sl).bind λ es=>k (.map sl es)
 | .sit _ _=>o.asSit.bind λ x=>k (.sit x.1 x.2)
 | .fix ver sh _=>(o.asFix ver sh).bind λ xs=>k (.fix ver sh xs)
 | .grp sh _ _=>(o.asGrp sh).bind λ es=>k (.grp sh none es)
 | .dead=>bif o.isDead then k .dead else none
def zJK:List Ob->Nat->List Ob->(List Ob->Option R)->Option R
 | [],i,cs,k=>bif cs.length==i then k []else none
 |z::zs,i,cs,k=>(cs[i]?).bind λ p=>zO6 z p λ p' =>zJK zs (i+1) cs λ ps' =>k (p' ::ps')
def zNJ(t z:AV×List Ob) (k:AV×List Ob->Option R):Option R :=
 zXF t.1 z.1 λ a=>zJK t.2 0 z.2 λ ow=>k (a,ow)
def zXG(ts:List (AV×List Ob)) (z:AV×List Ob) (k:AV×List Ob->Option R):Option R :=
 match ts with
 | []=>none
 | [t]=>zNJ t z k
 |t::u::_=>bif z.1.headOwn then zNJ t z k else zNJ u z k
def zNf(call:Wf) (raw:Bool) (tm:List (AV×List Ob)) (ow:List Ob) (g:FuncId) (as:List AV) (k:AV->List Ob->Option R):Option R :=
 let is:=zRB ow 64 (as.map AV.refs).flatten []
 let sub:=is.map λ i=>mvOb ow (zUT is) 0 (ow.getD i .dead)
 (call g raw (as.map (mv ow (zUT is))) sub).bind λ z =>
  zXG (match tm with | []=>[(.pv .undef,sub)] | tm=>tm) z λ z' =>
   bif decide (is.length<=z'.2.length)then k (mv z'.2 (zD4 ow is) z'.1) (merge ow is z'.2)else none
def AV.noFx1(o:Nat):AV->Bool
 | .fx i _=>i != o
 | .fe i _ _=>i != o
 |_=>true
def AV.noFx2(o:Nat):AV->Bool
 | .agg cs=>cs.all (AV.noFx1 o)
 | .tupA _=>false
 |a=>AV.noFx1 o a
def Ob.noFx(o:Nat):Ob->Bool
 | .var _ _ a=>a.noFx2 o
 |_=>true
def unlK(o ver sh:Nat) (k:AV->List Ob->Option R) (a:AV) (ow:List Ob):Option R:=match a,ow[o]? with
 | .pv p,some (.fix ver'' sh'' xs)=>bif ver'' ==ver&&sh'' ==sh&&ow.all (Ob.noFx o)then k (.pv p) (ow.set o (.row false ver sh xs))else none
 |_,_=>none
def zPz(lk:Bool) (call:Wf) (raw:Bool) (tm:List (AV×List Ob)) (ow:List Ob) (g:FuncId) (as:List AV) (k:AV->List Ob->Option R):Option R :=
 bif lk then
  match as with
  | .view o ver none::r=>match ow[o]? with
   |some (.row false ver' sh xs)=>bif ver==ver' then
    zNf call raw tm (ow.set o (.fix ver sh xs)) g (.fx o sh::r) (unlK o ver sh k)
    else none
   |_=>none
  |_=>none
 else zNf call raw tm ow g as k
def zKo(lk:Bool) (call:Wf) (raw:Bool) (tm:List (AV×List Ob)) (ow:List Ob) (f:AV) (as:List AV) (k:AV->List Ob->Option R):Option R :=
 match f with
 | .pv p=>p.asFn.bind λ g=>zPz lk call raw tm ow g.1 (g.2.1.map .pv++as++g.2.2.map .pv) k
 | .fnv g fs cs=>zPz lk call raw tm ow g (fs++as++cs) k
 |_=>none
def eqOw(a b:List Ob):Bool:=@decide (a=b) (Classical.propDecidable _)
theorem z2l{a b:List Ob} (h:eqOw a b=true):a=b:=@of_decide_eq_true _ (Classical.propDecidable _) h
theorem zSZ(a:List Ob):eqOw a a=true:=@decide_eq_true _ (Classical.propDecidable _) rfl
def roK(ro:Bool) (ow:List Ob) (k:AV->List Ob->Option R) (a:AV) (ow' :List Ob):Option R:=bif ro then(bif eqOw ow' ow then k a ow else none)else k a ow'
theorem z05{R' :Type} (ro:Bool) (ow:List Ob) (k:AV->List Ob->Option R) (g:R->Option R') (a:AV) (ow' :List Ob):(roK ro ow k a ow').bind g=roK ro ow (λ a b=>(k a b).bind g) a ow' :=by
 unfold roK
 cases ro with
 |false=>rfl
 |true=>cases eqOw ow' ow<;>rfl
def wc(W:Wf) (f:FuncId) (ps:List PV):Option PV:=(W f false (ps.map .pv) []).bind λ z=>z.1.asPv
variable (c:Cfg) (call:Wf)
def zHq(e:TypeId) (mk:Bool) (ow:List Ob) (s x:AV) (k:AV->List Ob->Option R):Option R :=
 match s with
 | .nil _=>zFP x λ n=>bif decide (0<n)&&decide (n<=lim)&&decide ((c.at_ e).by_<=4096)&&mk then
  zDW [] (c.zero e) λ d=>bif d.okSh (c.sh e)then k (.view ow.length 0 none) (ow++[.row false 0 (c.sh e) (List.replicate n.toNat d)])else none
  else none
 |_=>none
def op1(own:Hi) (o:Oper) (r:Operand->TypeId->AV) (ow:List Ob) (k:AV->List Ob->Option R):Option R :=
 match o.op with
 | .move x | .assign x =>
  bif zDF own o then
   (match zMO (r x o.type) ow with | (a,ow')=>k a ow')
  else k (r x o.type) ow
 | .pick q a b=>pvOf (r q 0) λ p=>p.asBool.bind λ z=>k (bif z then r a o.type else r b o.type) ow
 | .alloc t=>bif !c.known t then none else
  bif zDF own o then(match zMO (c.zero t) ow with | (a,ow')=>k (.own ow'.length 0) (ow' ++[.var false (c.sh t) a]))
  else k (.own ow.length 0) (ow++[.var false (c.sh t) (c.zero t)])
 | .box t x=>bif !c.known t then none else
  bif zDF own o then
   bif (r x t).okSh (c.sh t) then
    (match zMO (r x t) ow with | (a,ow')=>k (.own ow'.length 0) (ow' ++[.var false (c.sh t) a]))
   else none
  else zDW ow (r x t) λ p=>bif p.okSh (c.sh t)then k (.pv (.imm (c.sh t) p 0)) ow else none
 | .build t ps=>match (c.at_ t).k with
  | .struct fs=>zJE (λ i=>(fs[i]?).map λ f=>(f.2,c.sh f.1)) (c.at_ t).zero (ps.toList.map λ(i,x)=>(i,r x (zSU fs i))) λ cs=>k (AV.mkAgg cs) ow
  | .arr n e=>zJE (λ i=>some (i*szOf (c.sh e),c.sh e)) (c.at_ t).zero (ps.toList.map λ(i,x)=>(i,r x e)) λ cs=>k (AV.mkAgg cs) ow
  |_=>none
 | .buildSlice t n ps=>match (c.at_ t).k with
  | .slice e=>bif decide (n=ps.size)&&(ps.toList.map (·.1)==List.range n)&&decide (n<=4096)&&decide (szOf (c.sh e)<=4096) then
   zFx (c.sh e) ow (ps.toList.map λ(_,x)=>r x e) λ xs =>
    bif zDF own o then k (.view ow.length 0 none) (ow++[.row false 0 (c.sh e) xs])
    else k (.pv (.slice (c.sh e) xs)) ow
   else none
  |_=>none
 | .load t x=>bif !c.known t then none else zGW ow (r x 0) (c.sh t) λ a=>k a ow
 | .store t x y=>bif !c.known t then none else
  bif z3s own x then(match zMO (r y t) ow with | (a,ow')=>zHo ow' (r x 0) (c.sh t) a λ ow'' =>k .undef ow'')
  else zHo ow (r x 0) (c.sh t) (r y t) λ ow'' =>k .undef ow''
 | .nilCheck x=>match r x 0 with
  | .own o off=>k (.own o off) ow
  | .elem o v i off=>k (.elem o v i off) ow
  | .pv (.imm s v off)=>k (.pv (.imm s v off)) ow
  | .pv (.fn f fs cs)=>k (.pv (.fn f fs cs)) ow
  | .fnv f fs cs=>k (.fnv f fs cs) ow
  |_=>none
 | .binOp op xT x y yT=>match zMP (c.at_ xT).k op (r x xT) y with
  |some b=>k (.pv (.bool b)) ow
  |none=>pvOf (r x xT) λ p=>pvOf (r y yT) λ q=>(binP c op xT p q).bind λ z=>k (.pv z) ow
 | .unOp op t x=>pvOf (r x t) λ p=>(unP op p).bind λ z=>k (.pv z) ow
 | .convert s d x=>pvOf (r x s) λ p=>(z2k c s d p).bind λ z=>k (.pv z) ow
 | .makeFunc (.func f) fs cs=>bif zST own o then k (.fnv f (fs.toList.map λ x=>(r x 0).cap) (cs.toList.map λ x=>(r x 0).cap)) ow
  else zFO ow (fs.toList.map λ x=>r x 0) λ qs=>zFO ow (cs.toList.map λ x=>r x 0) λ ps=>k (.pv (.fn f qs ps)) ow
 | .makeMap t x=>match x,(c.at_ t).k with
  |none,.map _ et=>bif zDF own o then(match (c.at_ et).k with
   | .slice e=>k (.gm ow.length) (ow++[.grp (c.sh e) none [],.row true 0 (c.sh e) []])
   |_=>none)
   else k (.mp ow.length) (ow++[.map false []])
  |_,_=>none
 | .lookup t x i ok=>match (c.at_ t).k with
  | .map kt et=>mapO ow (r x t) λ es=>zDW ow (r i kt) λ kp=>zDW [] (c.zero et) λ d=>bif zNe c 6 kt kp then(zL2 (eqP c 6 kt) kp es).bind λ z =>
   k (.pv (bif ok then .tup [z.getD d,.bool z.isSome]else z.getD d)) ow else none
  |_=>none
 | .mapUpdate t m i x=>match (c.at_ t).k with
  | .map kt et=>putO c ow kt et (r m t) (r i kt) (r x et) k
  |_=>none
 | .mapEntry t m i=>match (c.at_ t).k with
  | .map kt et=>zYV c ow kt (c.zero et) (r m t) (r i kt) k
  |_=>none
 | .entryStore t m s x=>match (c.at_ t).k with
  | .map _ et=>zSX ow (r m t) (r s 0) (r x et) k
  |_=>none
 | .insert t m i x=>match (c.at_ t).k with
  | .map kt et=>putO c ow kt et (r m t) (r i kt) (r x et) k
  |_=>none
 | .makeSlice t l n=>zFP (r l 0) λ x=>zFP (r n 0) λ y=>match (c.at_ t).k with
  | .slice e=>bif decide (x=y)&&decide (0<=x)&&decide (x<=lim)&&decide ((c.at_ e).by_<=4096) then
   zDW [] (c.zero e) λ d=>bif d.okSh (c.sh e) then
    (bif zDF own o then k (.view ow.length 0 none) (ow++[.row false 0 (c.sh e) (List.replicate x.toNat d)])
    else k (.pv (.slice (c.sh e) (List.replicate x.toNat d))) ow)else none
   else none
  |_=>none
 | .fieldAddr s x f=>match (c.at_ s).k with
  | .struct fs=>(fs[f]?).bind λ g=>match r x 0 with
   | .own o off=>k (.own o (off+g.2)) ow
   | .elem o v i off=>k (.elem o v i (off+g.2)) ow
   | .pv (.imm sh v off)=>k (.pv (.imm sh v (off+g.2))) ow
   |_=>none
  |_=>none
 | .field s x f=>match (c.at_ s).k with
  | .struct fs=>(fs[f]?).bind λ g=>zDW ow (r x s) λ p=>bif p.okSh (c.sh s)then(p.load (c.sh s) g.2 (c.sh g.1)).bind λ z=>k (.pv z) ow else none
  |_=>none
 | .indexAddr t x i=>zFP (r i 0) λ n=>match (c.at_ t).k with
  | .slice e=>match r x t with
   | .view ob ver s=>match ow[ob]? with
    |some (.row _ ver' sh' xs)=>bif ver==ver' &&c.sh e==sh' &&decide (0<=n)&&decide (n<(AV.sub xs s).length) then
     k (.elem ob ver ((match s with | some (lo,_)=>lo | none=>0)+n.toNat) 0) ow else none
    |_=>none
   | .fx ob _=>match ow[ob]? with
    |some (.fix _ sh' xs)=>bif c.sh e==sh' &&decide (0<=n)&&decide (n<xs.length)then k (.fe ob n.toNat 0) ow else none
    |_=>none
   |a=>pvOf a λ p=>(p.asSlice (c.sh e)).bind λ xs=>bif decide (0<=n)then(xs[n.toNat]?).bind λ v=>k (.pv (.imm (c.sh e) v 0)) ow else none
  | .arr m e=>bif decide (0<=n)&&decide (n<m) then
   (match r x 0 with
   | .own o off=>k (.own o (off+n.toNat*szOf (c.sh e))) ow
   | .elem o v j off=>k (.elem o v j (off+n.toNat*szOf (c.sh e))) ow
   | .pv (.imm sh v off)=>k (.pv (.imm sh v (off+n.toNat*szOf (c.sh e)))) ow
   |_=>none)
   else none
  |_=>none
 | .index t x i=>zFP (r i 0) λ n=>match (c.at_ t).k with
  | .str=>pvOf (r x t) λ p=>p.asStr.bind λ s=>bif decide (0<=n)then(s[n.toNat]?).bind λ b=>k (.pv (.int .u8 b.toNat)) ow else none
  | .arr m e=>zDW ow (r x t) λ p=>bif decide (0<=n)&&decide (n<m)&&p.okSh (c.sh t)then(p.load (c.sh t) (n.toNat*szOf (c.sh e)) (c.sh e)).bind λ z=>k (.pv z) ow else none
  |_=>none
 | .slice t x lo hi mx=>match (c.at_ t).k with
  | .str=>pvOf (r x t) λ p=>p.asStr.bind λ s=>bnd r lo 0 λ l=>bnd r hi s.size λ h =>
   bif mx.isNone&&decide (0<=l)&&decide (l<=h)&&decide (h<=s.size)then k (.pv (.str (s.extract l.toNat h.toNat))) ow else none
  | .slice e=>match mx with
   |some m=>match lo,hi,m with
    |none,some (.const (.int _ 0)),.const (.int _ 0)=>zHp (c.sh e) ow (r x t) λ _=>k (.nil (c.sh e)) ow
    |_,_,_=>none
   |none=>cutO (c.sh e) ow (r x t) (bnd r lo 0) (λ d=>bnd r hi d) λ a=>k a ow
  | .arr n e=>zDW ow (r x 0) λ q=>(z2F (c.sh e) n q).bind λ xs=>bnd r lo 0 λ l=>bnd r hi n λ h =>
   bif mx.isNone&&decide (0<=l)&&decide (l<=h)&&decide (h<=n)then k (.pv (.slice (c.sh e) ((xs.drop l.toNat).take (h.toNat-l.toNat)))) ow else none
  |_=>none
 | .range t x=>match (c.at_ t).k with
  | .str=>pvOf (r x t) λ p=>p.asStr.bind λ s=>k (.own ow.length 0) (ow++[.sit s 0])
  |_=>none
 | .next x true=>match r x 0 with
  | .own ob 0=>match ow[ob]? with
   |some (.sit s pos)=>bif decide (pos<s.size) then
    k (.pv (.tup [.bool true,.int .i64 pos,.int .i32 (Utf8.decode s pos).1])) (ow.set ob (.sit s (pos+(Utf8.decode s pos).2)))
    else k (.pv (.tup [.bool false])) ow
   |_=>none
  |_=>none
 | .extract x j=>match r x 0 with
  | .tupA as=>(as[j]?).bind λ a=>k a ow
  |a=>pvOf a λ p=>p.asTup.bind λ vs=>(vs[j]?).bind λ v=>k (.pv v) ow
 | .call cl=>match cl.callee with
  | .value f=>bif zIS own o r f cl.args.toList then
   (bif cl.args.size==cl.argTypes.size then zKo (isLk own o) call (z04 own o) (look own.tm (o.dst.getD 0)) ow (r f 0) ((cl.args.toList.zip cl.argTypes.toList).map λ(x,t)=>r x t) (roK (isRo own o) ow k)else none)
   else pvOf (r f 0) λ p=>p.asFn.bind λ g =>
    zFO ow ((cl.args.toList.zip cl.argTypes.toList).map λ(x,t)=>r x t) λ ps =>
     bif cl.args.size==cl.argTypes.size then(wc call g.1 (g.2.1++ps++g.2.2)).bind λ z=>k (.pv z) ow else none
  | .builtin .len=>match cl.args.toList,cl.argTypes.toList with
   | [x],[t]=>match (c.at_ t).k with
    | .str=>pvOf (r x t) λ p=>p.asStr.bind λ s=>k (.pv (.int .i64 s.size)) ow
    | .slice e=>zHp (c.sh e) ow (r x t) λ xs=>k (.pv (.int .i64 xs.length)) ow
    | .arr n _=>k (.pv (.int .i64 n)) ow
    | .map _ _=>mapO ow (r x t) λ es=>k (.pv (.int .i64 es.length)) ow
    |_=>none
   |_,_=>none
  | .builtin .cap=>match cl.args.toList,cl.argTypes.toList with
   | [x],[t]=>match (c.at_ t).k,r x t with
    | .slice _,.nil _=>k (.pv (.int .i64 0)) ow
    |_,_=>none
   |_,_=>none
  | .builtin .append=>match cl.args.toList,cl.argTypes.toList with
   | [s,x],[t,u]=>match (c.at_ t).k,(c.at_ u).k with
    | .slice e,.slice _=>bif decide ((c.at_ e).by_<=4096)then zFq (c.sh e) (zDF own o) ow (r s t) (r x t) k else none
    | .slice e,.int _=>zHq c e (zDF own o) ow (r s t) (r x u) k
    | .slice e,.str=>(match (c.at_ e).k with
     | .int .u8=>bif decide ((c.at_ e).by_<=4096)then pvOf (r x u) λ p=>p.asStr.bind λ bs=>zFN (c.sh e) (zDF own o) ow (r s t) (zO3 bs) k else none
     |_=>none)
    |_,_=>none
   |_,_=>none
  | .builtin .max=>match cl.args.toList with
   | [x,y]=>pvOf (r x 0) λ p=>pvOf (r y 0) λ q=>(maxP p q).bind λ z=>k (.pv z) ow
   |_=>none
  | .builtin .min=>match cl.args.toList with
   | [x,y]=>pvOf (r x 0) λ p=>pvOf (r y 0) λ q=>(minP p q).bind λ z=>k (.pv z) ow
   |_=>none
  |_=>none
 |_=>none
end ops
end Go.Ab

namespace Go.Ab
def zKb(own:Hi) (o:Oper) (r:Operand->TypeId->AV):Nat :=
 let rd (xs:List Operand):Nat:=bif xs.any (λ x=>isOw (r x 0))then 1 else 0
 match o.op with
 | .move x | .assign x=>bif zDF own o then(match r x o.type with | .nil _=>2 | .agg _=>2 | .view _ _ (some _)=>2 | _=>0)else 0
 | .pick .. | .build .. | .nilCheck _ | .binOp .. | .unOp .. | .convert .. | .fieldAddr .. | .extract .. =>0
 | .box _ x=>bif zDF own o then 2 else rd [x]
 | .buildSlice _ _ ps=>bif zDF own o then 2 else rd (ps.toList.map (·.2))
 | .load _ x=>rd [x]
 | .makeFunc _ fs cs=>bif zST own o then 0 else rd (fs.toList++cs.toList)
 | .lookup _ x i _=>rd [x,i]
 | .makeSlice _ _ _=>bif zDF own o then 2 else 0
 | .field _ x _=>rd [x]
 | .indexAddr _ x _=>rd [x]
 | .index _ x _=>rd [x]
 | .slice _ x _ _ _=>rd [x]
 | .call cl=>match cl.callee with
  | .value f=>bif zIS own o r f cl.args.toList then(bif isRo own o then 1 else 2)else rd cl.args.toList
  | .builtin .len=>rd cl.args.toList
  | .builtin .max=>0
  | .builtin .min=>0
  | .builtin .append=>match cl.args.toList with
   | [s,x]=>(match r s 0 with | .nil _=>bif zDF own o then 2 else rd [x] | _=>2)
   |_=>2
  |_=>2
 |_=>2
def zYW(b:Array Nat) (i j:Nat):Bool:=(b.getD (max i j) 0).testBit (min i j)
def zS0(ops:Array Oper) (ts:List Nat):Bool :=
 bif !(ts.contains 2)then true else
 let l:=(ts.zipIdx.filter λ p=>p.1 != 0)
 bif decide (l.length<=1)then true else
 let b:=Region.before ops
 l.all λ p=>l.all λ q=>p.2==q.2 || (p.1==1&&q.1==1) || zYW b p.2 q.2
def putD(dst:Option Tmp) (a:AV) (fr:List (Nat×AV)):List (Nat×AV):=match dst with | some d=>(d,a)::fr | none=>fr
def zNK(own:Hi) (o:Oper):Bool:=match o.op with
 | .alloc _=>(match o.dst with | some d=>mem d own.late&& !zDF own o | none=>false)
 |_=>false
def opAt(ops:Array Oper) (i:Nat):Oper:=(ops[i]?).getD default
def zNg(own:Hi) (ops:Array Oper) (i:Nat):Bool:=zNK own (opAt ops i)
def zOJ(own:Hi) (ops:Array Oper) (ks:List Nat):Bool :=
 let b:=Region.before ops
 (ks.all λ i=>decide (i+ks.length<ops.size)&&(opAt ops i).guard.isNone) &&
 ((List.range ops.size).all λ j=>decide (j+ks.length<ops.size) || (List.range j).all λ i=>(b.getD j 0).testBit i || (decide (i+ks.length<ops.size)&& !zNg own ops i)) &&
 ((List.range ops.size).all λ i=> !zNg own ops i || (List.range ops.size).all λ j=>i==j || !((opAt ops i).dst==(opAt ops j).dst))
def zS1(own:Hi) (ops:Array Oper):List Nat:=match own.late with
 | []=>[]
 |_=>bif zOJ own ops ((List.range ops.size).filter (zNg own ops))then(List.range ops.size).filter (zNg own ops)else []
def zNh(own:Hi) (ops:Array Oper) (k:Nat):List Nat:=(List.range ops.size).filter λ i=>decide (i+k<ops.size)&& !zNg own ops i
def zO7(ops:Array Oper) (k:Nat):List Nat:=(List.range ops.size).filter λ i=> !decide (i+k<ops.size)
def zYX(own:Hi) (draw:Bool) (ops:Array Oper):List Oper:=bif draw then(match zS1 own ops with
 | []=>ops.toList
 |i::r=>(zNh own ops (r.length+1)).map (opAt ops)++((i::r).map (opAt ops)++(zO7 ops (r.length+1)).map (opAt ops)))else ops.toList
def zS2(own:Hi) (draw:Bool) (ops:Array Oper) (fr:List (Nat×AV)):List (Nat×AV):=bif draw then(zS1 own ops).foldl (λ fr i=>putD (opAt ops i).dst .undef fr) fr else fr
def z3v(ops:Array Oper) (l:List (Nat×Nat)):Bool :=
 let b:=Region.before ops
 l.all λ p=>l.all λ q=> !decide (p.1<q.1) || p.2==0 || q.2==0 || (p.2==1&&q.2==1) || (b.getD q.1 0).testBit p.1
def zVr(ops:Array Oper) (ks:List Nat) (p:Nat×Nat):Bool:=((zO7 ops ks.length).all λ j=>((Region.before ops).getD j 0).testBit p.1) || (p.2==0&&ks.all λ i=>match (opAt ops i).dst with | some d=> !((opAt ops p.1).looksAt ops).contains d | none=>false)
def zYY(own:Hi) (ops:Array Oper) (ks:List Nat) (ts:List Nat):Bool:=z3v ops ((zNh own ops ks.length).zip ts)&&((zNh own ops ks.length).zip ts).all (zVr ops ks)
def zUW(own:Hi) (ops:Array Oper) (ts:List Nat):Bool:=match zS1 own ops with
 | []=>zS0 ops ts
 |i::r=>zYY own ops (i::r) ts
def zYZ:PV->Option (Option Bool)
 | .bool b=>some (some b)
 | .off=>some none
 |_=>none
section
variable {R:Type} (c:Cfg) (call:Wf)
def zE6(own:Hi) (ops:Array Oper):List Oper->St->List Nat->(St->List Nat->Option R)->Option R
 | [],st,ts,k=>k st ts
 |o::rest,st,ts,k =>
  let run (fr:List (Nat×AV)):Option R :=
   op1 c call own o (λ x t=>ρ fr x t c) st.ow λ a ow' =>zKn c o a λ a' =>zE6 own ops rest ⟨putD o.dst a' fr,ow'⟩ (zKb own o (λ x t=>ρ fr x t c)::ts) k
  match o.guard with
  |none=>run st.fr
  |some (j,want)=>match (ops[j]?).bind (·.dst) with
   |some d=>pvOf (get st.fr d) λ p=>(zYZ p).bind fun
    |none=>zE6 own ops rest ⟨putD o.dst (.pv .off) st.fr,st.ow⟩ (0::ts) k
    |some b =>
     bif b then
      (bif want then run ((d,.pv (.bool true))::st.fr)else zE6 own ops rest ⟨putD o.dst (.pv .off) ((d,.pv (.bool true))::st.fr),st.ow⟩ (0::ts) k)
     else
      (bif want then zE6 own ops rest ⟨putD o.dst (.pv .off) ((d,.pv (.bool false))::st.fr),st.ow⟩ (0::ts) k else run ((d,.pv (.bool false))::st.fr))
   |none=>none
def zEl:Ob->Ob
 | .row _ ver sh xs=> .row true ver sh xs
 | .map _ es=> .map true es
 |ob=>ob
def sealAt(ow:List Ob) (o:Nat):List Ob:=match ow[o]? with | some ob=>ow.set o (zEl ob) | none=>ow
def sealCells:List AV->List Ob->List Ob
 | [],ow=>ow
 | .view o _ _::r,ow=>sealCells r (sealAt ow o)
 | .mp o::r,ow=>sealCells r (sealAt ow o)
 |_::r,ow=>sealCells r ow
def sealIn(a:AV) (ow:List Ob):List Ob:=match a with
 | .view o _ _=>sealAt ow o
 | .mp o=>sealAt ow o
 | .agg cs=>sealCells cs ow
 |_=>ow
def sealT(fr:List (Nat×AV)) (ow:List Ob) (m:Nat):List Ob :=
 match get fr (m / 2 % 50000) with
 | .view o _ _=>sealAt ow o
 | .mp o=>sealAt ow o
 | .own o _=>match ow[o]? with
  |some (.var fz sh a) =>
   let ow' :=sealIn a ow
   bif m % 2==0 then ow' else(match AV.port ow' a with | some p=>ow'.set o (.var true sh (.pv p)) | none=>ow')
  |_=>ow
 |_=>ow
def sealTs(fr:List (Nat×AV)):List Nat->List Ob->List Ob
 | [],ow=>ow
 |m::r,ow=>sealTs fr r (sealT fr ow m)
def z3w(ow:List Ob) (a:AV):AV:=match a with
 | .own o off=>(match AV.port1 ow (.own o off)with | some p=> .pv p | none=> .own o off)
 |a=>a
def sealFr(ow:List Ob):List Nat->List (Nat×AV)->List (Nat×AV)
 | [],fr=>fr
 |m::r,fr=>sealFr ow r (bif decide (100000<=m)then putD (some (m / 2 % 50000)) (z3w ow (get fr (m / 2 % 50000))) fr else fr)
def freezeAll(ow0:List Ob):List Ob->List Ob
 | []=>[]
 | .var fz sh a::r=>(match AV.port ow0 a with | some p=> .var true sh (.pv p) | none=> .var fz sh a)::freezeAll ow0 r
 |ob::r=>ob::freezeAll ow0 r
def sealAll(ow:List Ob):List Ob:=freezeAll (ow.map zEl) (ow.map zEl)
def zS3(n:Nat):AV->AV
 | .pv p=> .pv p
 | .own o off=>bif decide (o<n)then .own o off else .undef
 | .mp o=>bif decide (o<n)then .mp o else .undef
 |_=> .undef
def zGm(ow:List Ob) (n:Nat):AV->AV
 | .pv p=> .pv p
 | .nil sh=> .nil sh
 | .sl b sh xs=> .sl b sh xs
 | .gm o=>bif decide (o<n)then .gm o else .undef
 | .fx o sh=>bif decide (o<n)then .fx o sh else .undef
 | .view o ver s=>bif decide (o<n)then(match ow[o]? with | some (.row _ ver' _ _)=>bif ver==ver' then .view o 0 s else .undef | _=> .undef)else .undef
 | .own o off=>bif decide (o<n)then .own o off else .undef
 | .mp o=>bif decide (o<n)then .mp o else .undef
 | .fnv f fs caps=> .fnv f (fs.map (zS3 n)) (caps.map (zS3 n))
 |_=> .undef
def zXH(ow:List Ob) (n:Nat):AV->AV
 | .agg cs=> .agg (cs.map (zGm ow n))
 |a=>zGm ow n a
def zMQ(ow:List Ob) (n:Nat):Ob->Ob
 | .var fz sh a=>bif (zXH ow n a).okSh sh then .var fz sh (zXH ow n a)else .dead
 | .row sl _ sh xs=> .row sl 0 sh xs
 |ob=>ob
def norm(lv:List Nat) (n:Nat) (st:St):St:=⟨lv.map λ t=>(t,zXH st.ow n (get st.fr t)),(st.ow.take n).map (zMQ st.ow n)⟩
def spell(lv:List Nat) (n:Nat) (st:St):St:=⟨lv.map λ t=>(t,get st.fr t),(List.range n).map λ i=>st.ow.getD i .dead⟩
def zBG:Code->Nat
 | .region id _ _=>id
 | .seq a b=>match a with | .skip=>zBG b | _=>zBG a
 | .block _ a=>zBG a
 | .loop a=>zBG a
 | .scope a=>zBG a
 | .cond _ a b=>zBG a
 |_=>0
variable (lp:(St->Option (Ex×St))->St->Option (Ex×St))
def zY0(l:List Nat) (st:St) (f:St->Option R):Option R:=match l with
 | []=>f st
 |t::r=>f (norm (t::r) st.ow.length st)
def seqK(l:List Nat) (f:St->Option R) (k:Ex->St->Option R):Ex->St->Option R:=λ e st' =>match e with
 | .normal=>zY0 l st' f
 |e=>k e st'
def zJL(id:Nat) (k:Ex->St->Option R):Ex->St->Option R:=λ e st' =>match e with
 | .exit i=>bif i==id then k .normal st' else k (.exit i) st'
 |e=>k e st'
def rnd(lv lo:List Nat) (n:Nat) (e:Ex) (st' :St):Ex×St:=(e,match e with | .normal=>norm lv n st' | _=>norm lo n st')
def zUX(B:St->Option (Ex×St)) (lo:List Nat) (n:Nat) (k:Ex->St->Option R) (s:St):Option R:=(lp B s).bind λ x=>k x.1 (spell lo n x.2)
def F(fi:FnI) (x:Code) {R:Type} (st:St) (k:Ex->St->Option R):Option R :=
 @Code.rec (λ _=>∀(R:Type),St->(Ex->St->Option R)->Option R)
  (λ _ st k=>k .normal st)
  (λ id ops draw _ st k=>zE6 c call fi.own ops (zYX fi.own draw ops) ⟨zS2 fi.own draw ops (sealFr (sealTs st.fr (look fi.seals id) st.ow) (look fi.seals id) st.fr),sealTs st.fr (look fi.seals id) st.ow⟩ [] λ st' ts =>
   bif !draw then k .normal st' else bif zUW fi.own ops ts.reverse then k .normal st' else none)
  (λ a b ra rb R st k=>ra R st (seqK (look fi.joins (zBG b)) (λ s=>rb R s k) k))
  (λ x a b ra rb R st k=>pvOf (ρ st.fr x 0 c) λ p=>p.asBool.bind λ z=>bif z then ra R st k else rb R st k)
  (λ id a ra R st k=>ra R st (zJL id k))
  (λ a ra R st k=>zUX lp (λ st=>ra (Ex×St) st λ e st' =>some (rnd (look fi.lives (zBG a)) (look fi.outs (zBG a)) st.ow.length e st'))
   (look fi.outs (zBG a)) st.ow.length k (norm (look fi.lives (zBG a)) st.ow.length st))
  (λ _ _ _ _ _ _ _ _ _=>none)
  (λ id _ st k=>k (.exit id) st)
  (λ _ _ _ _ _=>none)
  (λ _ _ _ _=>none)
  (λ _ _ _ _=>none)
  (λ _ st k=>k .ret st)
  (λ _ _ _ _=>none)
  x R st k
section
variable (fi:FnI) (st:St) (k:Ex->St->Option R)
theorem zGn:F c call lp fi .skip st k=k .normal st:=rfl
theorem zD5(id:Nat) (ops:Array Oper) (draw:Bool):F c call lp fi (.region id ops draw) st k=zE6 c call fi.own ops (zYX fi.own draw ops) ⟨zS2 fi.own draw ops (sealFr (sealTs st.fr (look fi.seals id) st.ow) (look fi.seals id) st.fr),sealTs st.fr (look fi.seals id) st.ow⟩ [] λ st' ts =>
 bif !draw then k .normal st' else bif zUW fi.own ops ts.reverse then k .normal st' else none:=rfl
theorem zJM(a b:Code):F c call lp fi (.seq a b) st k=F c call lp fi a st (seqK (look fi.joins (zBG b)) (λ s=>F c call lp fi b s k) k):=rfl
theorem zGX(x:Operand) (a b:Code):F c call lp fi (.cond x a b) st k=pvOf (ρ st.fr x 0 c) λ p=>p.asBool.bind λ z=>bif z then F c call lp fi a st k else F c call lp fi b st k:=rfl
theorem zE7(id:Nat) (a:Code):F c call lp fi (.block id a) st k=F c call lp fi a st (zJL id k):=rfl
theorem zGo(a:Code):F c call lp fi (.loop a) st k=zUX lp (λ st=>F c call lp fi a st λ e st' =>some (rnd (look fi.lives (zBG a)) (look fi.outs (zBG a)) st.ow.length e st'))
 (look fi.outs (zBG a)) st.ow.length k (norm (look fi.lives (zBG a)) st.ow.length st):=rfl
theorem zGp(id:Nat):F c call lp fi (.exit id) st k=k (.exit id) st:=rfl
theorem zKp:F c call lp fi .ret st k=k .ret st:=rfl
theorem zY1(l:Nat):F c call lp fi (.label l) st k=none:=rfl
theorem z2G(l:Nat):F c call lp fi (.goto l) st k=none:=rfl
theorem zY2(a:Code):F c call lp fi (.scope a) st k=none:=rfl
theorem zVs(s:String):F c call lp fi (.refuse s) st k=none:=rfl
theorem zY3(f:Operand) (ps:Array Tmp) (a b:Code):F c call lp fi (.rangeFunc f ps a b) st k=none:=rfl
end
def iter:Nat->(St->Option (Ex×St))->St->Option (Ex×St)
 | 0,_,_=>none
 |n+1,b,st=>(b st).bind λ x=>match x.1 with
  | .normal=>iter n b x.2
  |e=>some (e,x.2)
def resO(ow:List Ob) (fr:List (Nat×AV)):List ResultVar->(List PV->Option R)->Option R
 | [],k=>k []
 | .tmp t::r,k=>zDW ow (get fr t) λ p=>resO ow fr r λ ps=>k (p::ps)
 | .cell t ty::r,k=>bif !c.known ty then none else zGW ow (get fr t) (c.sh ty) λ a=>zDW ow a λ p=>resO ow fr r λ ps=>k (p::ps)
def zS4:List (PV×PV)->Option Bool
 | []=>some true
 |(_,.int .i64 n)::r=>(zS4 r).map λ b=>(n==0)&&b
 |_=>none
def zY4(m:Nat) (st:St):Option PV:=match get st.fr m with
 | .mp o=>match st.ow[o]? with
  |some (.map _ es)=>(zS4 es).bind λ b=>some (.bool b)
  |_=>none
 |_=>none
def appN:Nat->Code->Code->Code
 |n+1,.seq a b,B=> .seq a (appN n b B)
 |_,x,B=> .seq x B
def FnI.whole(fi:FnI):Code:=match fi.scan with | none=>fi.code | some (n,_,B)=>appN n fi.code B
def oneP:List PV->PV
 | [p]=>p
 |ps=> .tup ps
def fin(fi:FnI) (e:Ex) (st:St):Option PV :=
 match e with
 | .exit _=>none
 | .ret=>resO c (sealAll st.ow) st.fr fi.res λ ps=>some (oneP ps)
 | .normal=>match fi.scan with
  |none=>resO c (sealAll st.ow) st.fr fi.res λ ps=>some (oneP ps)
  |some s=>zY4 s.2.1 st
def zUY:Nat->List PV->List (Nat×AV)
 |_,[]=>[]
 |i,p::r=>(i,.pv p)::zUY (i+1) r
def body(fi:FnI) (args:List PV):Option PV :=
 bif args.length==fi.np then F c call lp fi fi.code ⟨zUY 0 args,[]⟩ (fin c fi)else none
end
def sealFrom(n:Nat) (ow:List Ob):List Ob :=
 let ow1:=ow.take n++(ow.drop n).map zEl
 ow1.take n++freezeAll ow1 (ow1.drop n)
def resA(c:Cfg) {R:Type} (ow:List Ob) (fr:List (Nat×AV)):List ResultVar->(List AV->Option R)->Option R
 | [],k=>k []
 | .tmp t::r,k=>resA c ow fr r λ as=>k (get fr t::as)
 | .cell t ty::r,k=>bif !c.known ty then none else zGW ow (get fr t) (c.sh ty) λ a=>resA c ow fr r λ as=>k (a::as)
def zY5(n:Nat) (is:List Nat) (o:Nat):Option (Nat×Nat):=bif decide (o<n)then some (o,0)else(match zFc is o with | some j=>some (n+j,0) | none=>none)
def zVt(n:Nat) (ow:List Ob) (a:AV):List Nat:=(zRB ow 64 (a.refs++List.range n) []).filter λ i=>decide (n<=i)
def outs(n:Nat) (ow:List Ob) (a:AV):AV×List Ob :=
 (mv ow (zY5 n (zVt n ow a)) a,
  (List.range n++zVt n ow a).map λ i=>mvOb ow (zY5 n (zVt n ow a)) 0 (ow.getD i .dead))
def z06(as:List AV):Bool:=as.all λ a=>match a with | .tupA _=>false | _=>true
def oneA:List AV->AV
 | [a]=>a
 |as=> .tupA as
def finO(c:Cfg) (fi:FnI) (raw:Bool) (n:Nat) (e:Ex) (st:St):Option (AV×List Ob) :=
 match e with
 | .exit _=>none
 | .ret=>bif raw then resA c st.ow st.fr fi.res λ as=>bif z06 as then some (outs n st.ow (oneA as))else none
  else resO c (sealFrom n st.ow) st.fr fi.res λ ps=>some (outs n (sealFrom n st.ow) (.pv (oneP ps)))
 | .normal=>match fi.scan with
  |none=>bif raw then resA c st.ow st.fr fi.res λ as=>bif z06 as then some (outs n st.ow (oneA as))else none
   else resO c (sealFrom n st.ow) st.fr fi.res λ ps=>some (outs n (sealFrom n st.ow) (.pv (oneP ps)))
  |some s=>bif raw then none else bif n==0 then(zY4 s.2.1 st).bind λ p=>some (outs n st.ow (.pv p))else none
def zIs:Nat->List AV->List (Nat×AV)
 |_,[]=>[]
 |i,p::r=>(i,p)::zIs (i+1) r
def bodyO(c:Cfg) (call:Wf) (lp:(St->Option (Ex×St))->St->Option (Ex×St)) (fi:FnI) (raw:Bool) (args:List AV) (ow:List Ob):Option (AV×List Ob) :=
 bif args.length==fi.np then F c call lp fi fi.code ⟨zIs 0 args,ow⟩ (finO c fi raw ow.length)else none
def evF(c:Cfg):Nat->Wf
 | 0,_,_,_,_=>none
 |n+1,f,raw,args,ow=>match c.ext f with
  |some g=>g.g (evF c n) raw args ow
  |none=>(c.fn f).bind λ fi=>bodyO c (evF c n) (iter n) fi raw args ow
end Go.Ab
