/- Part 11 of the proof: an abstract machine that runs the program's code over plain values, its soundness, and what the functions tell of plain values. Conditions: those in each theorem. -/
import Derived.Test.YtgebkpchpliahaaGreatDoorA9
import Derived.Shelf.Bits.Mul64
import Derived.Shelf.Small.Bits
import Derived.Laws.Externs
import Derived.Shelf.Sort.Plain
import Derived.Shelf.Slices.CompactI
set_option linter.unusedSectionVars false
set_option linter.unusedVariables false
set_option linter.unusedSimpArgs false
noncomputable section
namespace Go.Ab
open Go.RowKit (Below)
variable [GL:Gl]
def zZR(args:List AV) (ow:List Ob):Option (AV×List Ob) :=
 match args,ow with
 | [.pv (.int .u64 x),.pv (.int .u64 y)],[]=>bif decide (0<=x)&&decide (x<18446744073709551616)&&decide (0<=y)&&decide (y<18446744073709551616) then
  some (.pv (.tup [.int .u64 ((x.toNat*y.toNat / 18446744073709551616:Nat):Int),.int .u64 ((x.toNat*y.toNat % 18446744073709551616:Nat):Int)]),[])else none
 |_,_=>none
def zI0:ExtF:=⟨λ _ raw a ow=>bif raw then none else zZR a ow,λ _ _ _ _ _ _ _ h=>h⟩
structure Mul64C (P:Program) (f:FuncId):Prop where
 fn:zNi P f
 run:∀(x y:Nat),x<18446744073709551616->y<18446744073709551616->∀ w:World,
  Calls P f #[.int .u64 x,.int .u64 y] w λ e w' =>e= .returned (.tuple #[.int .u64 ((x*y / 18446744073709551616:Nat):Int),.int .u64 ((x*y % 18446744073709551616:Nat):Int)])/\w' =w
theorem z1A{P:Program} {f:FuncId} (hC:Mul64C P f):zNk P f zI0:=by
 intro call hcall raw args ow r ow' h
 cases raw with
 |true=>simp[zI0]at h
 |false =>
 simp only[zI0,zC,zZR]at h
 split at h
 ·rename_i x y
  obtain⟨hc,h2⟩:=bif_some h
  clear h
  simp only[zF,zU]at hc
  simp only[zE,zAl]at h2
  obtain⟨rfl,rfl⟩:=h2
  refine Valid.of hC.fn λ S L w vs inv hvs=> ?_
  obtain⟨hlen,hv⟩:=hvs
  match vs,hlen,hv with
  | [v,u],_,hv =>
   have hv0:VP S v (.int .u64 x):=hv 0 v _ rfl rfl
   have hu0:VP S u (.int .u64 y):=hv 1 u _ rfl rfl
   cases hv0;cases hu0
   obtain⟨a,rfl⟩:∃ m:Nat,x=m:=⟨x.toNat,by omega⟩
   obtain⟨b,rfl⟩:∃ m:Nat,y=m:=⟨y.toNat,by omega⟩
   refine(hC.run a b (by omega) (by omega) w).mono ?_
   rintro e w' ⟨rfl,rfl⟩
   refine⟨_,S,L,rfl,inv,VP.tup _ _ rfl (λ j v p hv hp=> ?_)⟩
   match j,hv,hp with
   | 0,hv,hp=>simp at hv hp;subst hv;subst hp;exact VP.int _ _
   | 1,hv,hp=>simp at hv hp;subst hv;subst hp;exact VP.int _ _
   |(n+2),hv,hp=>simp at hv
 ·cases h
theorem z3G{c:Cfg} {f:FuncId} (he:c.ext f=some zI0) (x y:Int) (h1:0<=x) (h2:x<18446744073709551616) (h3:0<=y) (h4:y<18446744073709551616) :
 wc (evw c) f [.int .u64 x,.int .u64 y]=some (.tup [.int .u64 ((x.toNat*y.toNat / 18446744073709551616:Nat):Int),.int .u64 ((x.toNat*y.toNat % 18446744073709551616:Nat):Int)]):=by
 unfold wc
 rw[zJX he]
 simp[zI0,zZR,h1,h2,h3,h4,AV.asPv]
structure Len64C (P:Program) (f:FuncId):Prop where
 fn:zNi P f
 run:∀(x:Int) (w:World),0<=x->x<=18446744073709551615->Calls P f #[.int .u64 x] w λ e w' =>e= .returned (.int .i64 (Lib.bitLen x.toNat))/\w' =w
def z2P(args:List AV) (ow:List Ob):Option (AV×List Ob) :=
 match args,ow with
 | [.pv (.int .u64 x),.pv (.int .u64 y),.pv (.int .u64 c)],[]=>bif decide (0<=x)&&decide (0<=y)&&decide (0<=c)&&decide (c<=1) then
  some (.pv (.tup [.int .u64 ((x+y+c) % 18446744073709551616),.int .u64 ((x+y+c) / 18446744073709551616)]),[])else none
 |_,_=>none
def zOP:ExtF:=⟨λ _ raw a ow=>bif raw then none else z2P a ow,λ _ _ _ _ _ _ _ h=>h⟩
def z4M(P:Program) (f:FuncId):Prop:=∀(x y c:Int),0<=x->0<=y->0<=c->c<=1->∀ w:World,
 (callFunc f #[.int .u64 x,.int .u64 y,.int .u64 c]).run P w= .ok (.value (.tuple #[.int .u64 ((x+y+c) % 18446744073709551616),.int .u64 ((x+y+c) / 18446744073709551616)])) w
theorem z1B{P:Program} {f:FuncId} (hC:z4M P f):zNk P f zOP:=by
 intro call hcall raw args ow r ow' h
 cases raw with
 |true=>simp[zOP]at h
 |false =>
 simp only[zOP,zC,z2P]at h
 split at h
 ·rename_i x y c
  obtain⟨hc,h2⟩:=bif_some h
  clear h
  simp only[zF,zU]at hc
  simp only[zE,zAl]at h2
  obtain⟨rfl,rfl⟩:=h2
  intro S L w vs inv hvs
  obtain⟨hlen,hv⟩:=hvs
  match vs,hlen,hv with
  | [v,u,z],_,hv =>
   have hv0:VP S v (.int .u64 x):=hv 0 v _ rfl rfl
   have hu0:VP S u (.int .u64 y):=hv 1 u _ rfl rfl
   have hz0:VP S z (.int .u64 c):=hv 2 z _ rfl rfl
   cases hv0;cases hu0;cases hz0
   show Res P _ ((callFunc f #[.int .u64 x,.int .u64 y,.int .u64 c]).run P w)
   rw[hC x y c hc.1.1.1 hc.1.1.2 hc.1.2 hc.2 w]
   refine⟨S,L,inv,VP.tup _ _ rfl (λ j v p hv hp=> ?_)⟩
   match j,hv,hp with
   | 0,hv,hp=>simp at hv hp;subst hv;subst hp;exact VP.int _ _
   | 1,hv,hp=>simp at hv hp;subst hv;subst hp;exact VP.int _ _
   |(n+2),hv,hp=>simp at hv
 ·cases h
end Go.Ab

namespace Go.Ab
open Go.RowKit (Below)
def insI(x:Int):List Int->List Int
 | []=>[x]
 |y::r=>bif decide (x<=y)then x::y::r else y::insI x r
def zHr:List Int->List Int
 | []=>[]
 |x::r=>insI x (zHr r)
theorem zPF(x:Int):∀ l,(insI x l).Perm (x::l)
 | []=>List.Perm.refl _
 |y::r=>by
  unfold insI
  cases decide (x<=y) with
  |true=>exact List.Perm.refl _
  |false=>exact((zPF x r).cons y).trans (List.Perm.swap x y r)
theorem zPG(x:Int):∀ l:List Int,l.Pairwise (· <= ·)->(insI x l).Pairwise (· <= ·)
 | [],_=>by simp[insI]
 |y::r,h=>by
  unfold insI
  have h2:=List.pairwise_cons.1 h
  cases hx:decide (x<=y) with
  |true =>
   have hx:=zAM hx
   refine List.pairwise_cons.2 ⟨λ z hz=> ?_,h⟩
   rcases zAE.1 hz with rfl | hz
   ·exact hx
   ·exact Int.le_trans hx (h2.1 z hz)
  |false =>
   have hx:=of_decide_eq_false hx
   refine List.pairwise_cons.2 ⟨λ z hz=> ?_,zPG x r h2.2⟩
   rcases zAE.1 ((zPF x r).mem_iff.1 hz)with rfl | hz
   ·omega
   ·exact h2.1 z hz
theorem zKO:∀ l,(zHr l).Perm l
 | []=>List.Perm.refl _
 |x::r=>(zPF x (zHr r)).trans ((zKO r).cons x)
theorem zNW:∀ l,(zHr l).Pairwise (· <= ·)
 | []=>List.Pairwise.nil
 |x::r=>zPG x _ (zNW r)
theorem zPH:∀{l l' :List Int},l.Perm l' ->l.Pairwise (· <= ·)->l'.Pairwise (· <= ·)->l=l'
 | [],l',h,_,_=>(List.nil_perm.1 h).symm
 |x::r,[],h,_,_=>by have:=h.length_eq;simp at this
 |x::r,y::s,h,h1,h2=>by
  have a1:=List.pairwise_cons.1 h1
  have a2:=List.pairwise_cons.1 h2
  have e:x=y:=by
   rcases zAE.1 (h.mem_iff.1 (List.mem_cons_self))with e | hx
   ·exact e
   ·rcases zAE.1 (h.mem_iff.2 (List.mem_cons_self (a:=y)))with e | hy
    ·exact e.symm
    ·exact Int.le_antisymm (a1.1 y hy) (a2.1 x hx)
  subst e
  rw[zPH h.cons_inv a1.2 a2.2]
theorem z1C(zs:List Int):zs.mergeSort (λ x y=>decide (x<=y))=zHr zs:=by
 refine zPH ((List.mergeSort_perm zs _).trans (zKO zs).symm) ?_ (zNW zs)
 have:=List.pairwise_mergeSort (le:=λ x y:Int=>decide (x<=y)) (λ a b c h k=>by simp at *;omega) (λ a b=>by simp;omega) zs
 exact this.imp λ h=>zAM h
theorem zZS{x:Int} {l:List Int}:x∈zHr l↔x∈l:=(zKO l).mem_iff
theorem zJY(zs:List Int):(zHr zs).length=zs.length:=(zKO zs).length_eq
variable [GL:Gl]
structure PutW (w w' :World) (b:Nat) (f:Array Value->Array Value):Prop where
 os:w'.os=w.os
 tape:w'.tape=w.tape
 output:w'.output=w.output
 size:w.heap.size<=w'.heap.size
 other:∀ b',b' <w.heap.size->b' ≠b->w'.heap[b']? =w.heap[b']?
 mine:∀ cs t fr,w.heap[b]? =some (.cells cs t fr)->w'.heap[b]? =some (.cells (f cs) t fr)
theorem zUu(w:World) (n b:Nat) (f:Array Value->Array Value) (os:Array Obj):PutW w (Sort.grow (Sort.mapBlock (Sort.ahead w n) b f) os) b f where
 os:=rfl
 tape:=rfl
 output:=rfl
 size:=by simp[Sort.grow,Sort.mapBlock,Sort.ahead]
 other:=λ b' h h' =>by
  have h2:b' <((Sort.mapBlock (Sort.ahead w n) b f).heap).size:=by simpa [Sort.mapBlock,Sort.ahead]using h
  show((Sort.mapBlock (Sort.ahead w n) b f).heap++os)[b']? =_
  rw[Array.getElem?_append_left h2]
  simp[Sort.mapBlock,Sort.ahead,Array.getElem?_modify,Ne.symm h']
 mine:=λ cs t fr h=>by
  have h1:b<w.heap.size:=by
   rcases Nat.lt_or_ge b w.heap.size with h' | h'
   ·exact h'
   ·rw[Array.getElem?_eq_none h']at h;cases h
  have h2:b<((Sort.mapBlock (Sort.ahead w n) b f).heap).size:=by simpa [Sort.mapBlock,Sort.ahead]using h1
  show((Sort.mapBlock (Sort.ahead w n) b f).heap++os)[b]? =_
  rw[Array.getElem?_append_left h2]
  simp[Sort.mapBlock,Sort.ahead,Array.getElem?_modify,h,Sort.onCells]
section
variable {P:Program} {c:Cfg} {w0:Base} {w w' :World} {S0 S:Pr} {L:List Loc} {ow:List Ob}
theorem zWQ(inv:Inv w0 S0 S L ow w) {o ver sh:Nat} {xs ys:List PV} {base:Option Addr} {cap b o0:Nat} (ho:ow[o]? =some (.fix ver sh xs)) (hl:L[o]? =some (.fix sh base xs.length cap))
 (hb:base=some ⟨b,o0,none⟩) (hc0:cap≠0) (hlen:ys.length=xs.length) (hsh:∀ y∈ys,y.okSh sh=true) {f:Array Value->Array Value} (hw:PutW w w' b f) (hf:∀ cs,(f cs).size=cs.size)
 (hcell:∀ cs t,w.heap[b]? =some (.cells cs t (0,0))->o0+cap*szOf sh<=cs.size->∀(i j:Nat),i<ys.length->j<szOf sh->∃ v,(f cs)[o0+i*szOf sh+j]? =some v/\v.oneCell' =true/\(∀(x p:PV),ys[i]? =some x->x.cells[j]? =some p->VP S v p)) :
 Inv w0 S0 S L (ow.set o (.fix ver sh ys)) w' :=by
 have hlt:o<ow.length:=(zQ.1 ho).1
 obtain⟨_,_,r1,r2,r3⟩:=inv.obs o _ _ ho hl
 rcases r3 with r3 | ⟨b',o',cs,e,he,hh,hfit,hx⟩
 ·exact absurd r3 hc0
 rw[hb]at he
 simp only[zE,Addr.mk.injEq,and_true]at he
 obtain⟨rfl,rfl⟩:=he
 subst hb
 have mine:b∈zZ (.fix ver sh xs) (.fix sh (some ⟨b,o0,none⟩) xs.length cap):=by simp[zZ,hc0]
 obtain⟨hb0,hblt,hSn⟩:=inv.own o _ _ b ho hl mine
 have noS:∀ j v,S b j=some v->False:=λ j v hv=>by have:=hSn j v hv;simp[mayS]at this
 have hL:L.set o (.fix sh (some ⟨b,o0,none⟩) xs.length cap)=L:=by
  apply List.ext_getElem?
  intro i
  by_cases e:i=o
  ·subst e;rw[zAJ (zQ.1 hl).1,hl]
  ·rw[zAr (Ne.symm e)]
 have hE:Evo S L ow S (L.set o (.fix sh (some ⟨b,o0,none⟩) xs.length cap)) (ow.set o (.fix ver sh ys)) :=
  Evo.turn ho hl (Pr.le_refl S) (λ _ h _=>h) ⟨rfl,rfl,hlen⟩
 have key:=inv.turn (w' :=w') (l' := .fix sh (some ⟨b,o0,none⟩) xs.length cap) ho hl hE hw.size hw.os hw.tape hw.output (λ b' hb' hne=>hw.other b' hb' λ e' =>hne (by rw[e'];exact mine)) (λ _ _ _ _=>rfl)
  (λ b' o v hv=>by
   have e:b' ≠b:=λ e=>by subst e;exact noS _ _ hv
   have h1:=inv.prot b' o v hv
   rw[zCk (w:=w) (hw.other b' (zKq h1) e)];exact h1)
  ⟨rfl,hlen.symm,by rw[hlen];exact r1,hsh,.inr ⟨b,o0,_,e,rfl,hw.mine cs e (0,0) hh,by rw[hf];exact hfit,hcell cs e hh hfit⟩⟩
  (λ b' hb' =>by
   rw[show zZ (.fix ver sh ys) (.fix sh (some ⟨b,o0,none⟩) xs.length cap)=[b] by simp[zZ,hc0]]at hb'
   simp only[zBf]at hb'
   subst hb'
   exact⟨.inr mine,zB1 hblt hw.size,λ j v hv=>(noS j v hv).elim⟩)
 rwa [hL]at key
end
def zTC(k:IntKind):List PV->Option (List Int)
 | []=>some []
 |p::ps=>(PV.asIntK k p).bind λ n=>(zTC k ps).bind λ ns=>some (n::ns)
theorem zPI{k:IntKind} {p:PV} {n:Int} (h:PV.asIntK k p=some n):p= .int k n:=by
 cases p<;>simp[PV.asIntK]at h
 rename_i k' n'
 cases hd:decide (k' =k) with
 |true=>rw[hd]at h;simp at h;subst h;have:=zAM hd;subst this;rfl
 |false=>rw[hd]at h;simp at h
theorem zRX{k:IntKind}:∀{ps:List PV} {ns:List Int},zTC k ps=some ns->ps=ns.map (.int k)
 | [],ns,h=>by simp[zTC]at h;subst h;rfl
 |p::ps,ns,h=>by
  simp only[zTC]at h
  obtain⟨n,h1,h⟩:=zJ.1 h
  obtain⟨ms,h2,h⟩:=zJ.1 h
  simp only[zE]at h;subst h
  rw[zPI h1,zRX h2];rfl
theorem zPJ(k:IntKind):∀(ns:List Int),zTC k (ns.map (.int k))=some ns
 | []=>rfl
 |n::ns=>by simp[zTC,PV.asIntK,zPJ k ns]
def z3H(args:List AV) (ow:List Ob):Option (AV×List Ob) :=
 match args,ow with
 | [.fx 0 sh],[.fix ver sh' xs]=>bif sh==0&&sh' ==0&&decide (xs.length<=lim)then(zTC .i64 xs).bind λ zs=>some (.pv (.tup []),[.fix ver 0 ((zHr zs).map (.int .i64))])else none
 |_,_=>none
def zMc:ExtF:=⟨λ _ _=>z3H,λ _ _ _ _ _ _ _ h=>h⟩
structure SortC (P:Program) (f:FuncId):Prop where
 fn:zNi P f
 run:∀(blk off cap:Nat) (zs:List Int) (w:World),Sort.Holds (Value.int .i64) w blk off zs.toArray->blk<w.heap.size->zs.length<4611686018427387904 ->
  Calls P f #[.slice (some ⟨blk,off,none⟩) zs.length cap] w λ e w' =>e= .returned (.tuple #[])/\∃ n os,w' =Sort.grow (Sort.putRow (Value.int .i64) (Sort.ahead w n) blk off (zs.mergeSort λ x y=>decide (x<=y)).toArray) os
 none:∀(p:Option Addr) (cap:Nat) (w:World),Calls P f #[.slice p 0 cap] w λ e w' =>e= .returned (.tuple #[])/\w' =w
theorem VP.int_inv{S:Pr} {v:Value} {k:IntKind} {n:Int} (h:VP S v (.int k n)):v= .int k n:=by cases h;rfl
theorem zWR{S:Pr} {w:World} {b o0:Nat} {cs:Array Value} {t:TypeId} {zs:List Int} (hh:w.heap[b]? =some (.cells cs t (0,0)))
 (hx:∀(i j:Nat),i<(zs.map (PV.int .i64)).length->j<szOf 0->∃ v,cs[o0+i*szOf 0+j]? =some v/\v.oneCell' =true/\(∀(x p:PV),(zs.map (PV.int .i64))[i]? =some x->x.cells[j]? =some p->VP S v p)) :
 Sort.Holds (Value.int .i64) w b o0 zs.toArray:=by
 intro j hj
 have hj' :j<zs.length:=by simpa using hj
 obtain⟨v,h1,h2,h3⟩:=hx j 0 (by simpa using hj') (by simp[szOf])
 have h4:=VP.int_inv (h3 (.int .i64 (zs[j])) (.int .i64 (zs[j])) (by simp[hj']) rfl)
 subst h4
 have e:(zs.toArray[j]! :Int)=zs[j]:=by simp[getElem!_pos,hj']
 refine⟨?_,?_⟩
 ·unfold World.cell?
  simp only[hh,e]
  simpa [szOf]using h1
 ·unfold World.frozen?
  simp only[hh]
  simp
theorem z3I{P:Program} {f:FuncId} (hC:SortC P f):zNk P f zMc:=by
 intro call hcall raw args ow r ow' h
 simp only[zMc,z3H]at h
 split at h
 ·rename_i sh ver sh' xs
  obtain⟨hc,h2⟩:=bif_some h
  clear h
  simp only[zF,beq_iff_eq,zU]at hc
  obtain⟨⟨rfl,rfl⟩,hlim⟩:=hc
  obtain⟨zs,hzs,h3⟩:=zJ.1 h2
  clear h2
  simp only[zE,zAl]at h3
  obtain⟨rfl,rfl⟩:=h3
  have hxs:=zRX hzs
  subst hxs
  refine Valid.of hC.fn λ S L w vs inv hvs=> ?_
  obtain⟨hlen,hv⟩:=hvs
  match vs,hlen,hv with
  | [v],_,hv =>
   obtain⟨base,n,cap,hL,_,rfl⟩:=(show VA1 S L _ v (.fx 0 0)from hv 0 v _ rfl rfl)
   obtain⟨_,rfl,r1,r2,r3⟩:=inv.obs 0 _ _ rfl hL
   rw[zK]at r1 hL hlim ⊢
   by_cases hz:zs=[]
   ·subst hz
    refine(hC.none base cap w).mono ?_
    rintro e w' ⟨rfl,rfl⟩
    refine⟨_,S,L,rfl,?_,VP.tup #[] [] rfl (λ j v p h=>by simp at h)⟩
    simpa [zHr]using inv
   ·have hpos:0<zs.length:=List.length_pos_iff.2 hz
    rcases r3 with r3 | ⟨b,o0,cs,t,rfl,hh,hfit,hx⟩
    ·omega
    have hc0:cap≠0:=by omega
    have hblt:b<w.heap.size:=by
     rcases Nat.lt_or_ge b w.heap.size with h' | h'
     ·exact h'
     ·rw[Array.getElem?_eq_none h']at hh;cases hh
    refine(hC.run b o0 cap zs w (zWR hh hx) hblt (by unfold lim at hlim;omega)).mono ?_
    rintro e w' ⟨rfl,n,os,rfl⟩
    rw[z1C]
    refine⟨_,S,L,rfl,?_,VP.tup #[] [] rfl (λ j v p h=>by simp at h)⟩
    have hl2:((zHr zs).map (PV.int .i64)).length=(zs.map (PV.int .i64)).length:=by simp[zJY]
    refine zWQ inv (o:=0) (ver:=ver) (xs:=zs.map (.int .i64)) rfl (by rw[zK];exact hL) rfl hc0 hl2 (λ y hy=> ?_) (zUu w n b (Sort.putCells (Value.int .i64) o0 (zHr zs).toArray) os) (λ cs=>by simp[Sort.putCells]) ?_
    ·simp only[zAh]at hy;obtain⟨z,_,rfl⟩:=hy;rfl
    ·intro cs' t' hh' hfit' i j hi hj
     simp only[szOf,Nat.lt_one_iff]at hj hfit' ⊢
     subst hj
     have hi' :i<(zHr zs).length:=by simpa using hi
     have hi2:i<zs.length:=by rwa [zJY]at hi'
     refine⟨.int .i64 ((zHr zs)[i]),?_,rfl,λ x p hx hp=> ?_⟩
     ·rw[Sort.putCells,Array.getElem?_mapIdx,zAj (show o0+i*1+0<cs'.size by omega)]
      simp only[zV,zE]
      rw[if_pos (by simp only[List.size_toArray];omega)]
      congr 1
      have e:o0+i*1+0-o0=i:=by omega
      rw[e];simp[getElem!_pos,hi']
     ·simp[hi']at hx
      subst hx
      simp[PV.cells]at hp
      subst hp
      exact VP.int _ _
 ·cases h
theorem zUv(zs:List Int):(Lib.compact zs).length<=zs.length:=by
 unfold Lib.compact Lib.compactUpTo
 rw[zK]
 exact Nat.le_trans (zEP _ _) (by simp)
def zRY(args:List AV) (ow:List Ob):Option (AV×List Ob) :=
 match args,ow with
 | [.view 0 ver none],[.row false ver' sh xs]=>bif ver==ver' &&sh==0&&decide (xs.length<=lim)then(zTC .i64 xs).bind λ zs=>some (.pv (.slice 0 ((Lib.compact zs).map (.int .i64))),[.dead])else none
 |_,_=>none
def zFi:ExtF:=⟨λ _ raw a ow=>bif raw then none else zRY a ow,λ _ _ _ _ _ _ _ h=>h⟩
structure CompactC (P:Program) (f:FuncId):Prop where
 fn:zNi P f
 run:∀(blk off cap:Nat) (zs:List Int) (w:World),Sort.Holds (Value.int .i64) w blk off zs.toArray->zs.length<=9223372036854775807->zs.length<=cap ->
  Calls P f #[.slice (some ⟨blk,off,none⟩) zs.length cap] w λ e w' =>e= .returned (.slice (some ⟨blk,off,none⟩) (Lib.compact zs).length cap)/\∃ q,w' =Sort.putRow (Value.int .i64) (Sort.ahead w q) blk off (Lib.compact zs++List.replicate (zs.length-(Lib.compact zs).length) 0).toArray
 none:∀(p:Option Addr) (cap:Nat) (w:World),Calls P f #[.slice p 0 cap] w λ e w' =>e= .returned (.slice p 0 cap)/\w' =w
theorem zX8{P:Program} {f:FuncId} (hC:CompactC P f):zNk P f zFi:=by
 intro call hcall raw args ow r ow' h
 cases raw with
 |true=>simp[zFi]at h
 |false =>
 simp only[zFi,zC,zRY]at h
 split at h
 ·rename_i ver ver' sh xs
  obtain⟨hc,h2⟩:=bif_some h
  clear h
  simp only[zF,beq_iff_eq,zU]at hc
  obtain⟨⟨rfl,rfl⟩,hlim⟩:=hc
  obtain⟨zs,hzs,h3⟩:=zJ.1 h2
  clear h2
  simp only[zE,zAl]at h3
  obtain⟨rfl,rfl⟩:=h3
  have hxs:=zRX hzs
  subst hxs
  have hcl:=zUv zs
  refine Valid.of hC.fn λ S L w vs inv hvs=> ?_
  obtain⟨hlen,hv⟩:=hvs
  match vs,hlen,hv with
  | [v],_,hv =>
   obtain⟨_,h1⟩:=(show VA1 S L [Ob.row false ver 0 (zs.map (PV.int .i64))] v (.view 0 ver none)from hv 0 v _ rfl rfl)
   simp only[zAS]at h1
   obtain⟨_,h2⟩:=h1
   obtain⟨base,cap,hL,rfl⟩:=h2 trivial
   obtain⟨r1,r2,r3⟩:=inv.obs 0 _ _ rfl hL
   rw[zK]at r1 hlim ⊢
   have okI:∀ l:List Int,∀ z∈l.map (PV.int .i64),z.okSh 0=true:=λ l z hz=>by
    simp only[zAh]at hz;obtain⟨n,_,rfl⟩:=hz;rfl
   by_cases hz:zs=[]
   ·subst hz
    refine(hC.none base cap w).mono ?_
    rintro e w' ⟨rfl,rfl⟩
    by_cases hc0:cap=0
    ·obtain⟨_,S',L',k1,k2,k3⟩:=zIW (w' :=w') (zs:=[]) (base:=base) (cap:=cap) inv (ow:=[.row false ver 0 ([].map (PV.int .i64))]) (o:=0) rfl hL (zM _) rfl rfl rfl (λ _ _ _=>rfl) inv.prot (Nat.zero_le _) (by simp) (.inl hc0)
     exact⟨_,S',L',rfl,k1,k3⟩
    ·rcases r3 with r3 | ⟨b,o0,cs,t,rfl,hh,hfit,hx⟩
     ·exact absurd r3 hc0
     have mine:b∈zZ (.row false ver 0 ([].map (PV.int .i64))) (.row (some ⟨b,o0,none⟩) cap):=by simp[zZ,hc0]
     obtain⟨_,hblt,hSn⟩:=inv.own 0 _ _ b rfl hL mine
     obtain⟨_,S',L',k1,k2,k3⟩:=zIW (w' :=w') (zs:=[]) (base:=some ⟨b,o0,none⟩) (cap:=cap) inv (ow:=[.row false ver 0 ([].map (PV.int .i64))]) (o:=0) rfl hL (zM _) rfl rfl rfl (λ _ _ _=>rfl) inv.prot (Nat.zero_le _) (by simp)
      (.inr ⟨b,o0,cs,t,rfl,hh,hfit,λ i j hi=>by simp at hi,.inr mine,hblt,λ j v hv=>by have:=hSn j v hv;simp[mayS]at this⟩)
     exact⟨_,S',L',rfl,k1,k3⟩
   ·have hpos:0<zs.length:=List.length_pos_iff.2 hz
    rcases r3 with r3 | ⟨b,o0,cs,t,rfl,hh,hfit,hx⟩
    ·omega
    have hc0:cap≠0:=by omega
    have mine:b∈zZ (.row false ver 0 (zs.map (PV.int .i64))) (.row (some ⟨b,o0,none⟩) cap):=by simp[zZ,hc0]
    obtain⟨_,hblt,hSn⟩:=inv.own 0 _ _ b rfl hL mine
    have noS:∀ j v,S b j=some v->False:=λ j v hv=>by have:=hSn j v hv;simp[mayS]at this
    refine(hC.run b o0 cap zs w (zWR hh (λ i j hi hj=>by obtain⟨v,k1,k2,k3,_⟩:=hx i j hi hj;exact⟨v,k1,k2,k3⟩)) (by unfold lim at hlim;omega) r1).mono ?_
    rintro e w' ⟨rfl,q,rfl⟩
    have hw:PutW w (Sort.putRow (Value.int .i64) (Sort.ahead w q) b o0 (Lib.compact zs++List.replicate (zs.length-(Lib.compact zs).length) 0).toArray) b (Sort.putCells (Value.int .i64) o0 (Lib.compact zs++List.replicate (zs.length-(Lib.compact zs).length) 0).toArray):=by
     have:=zUu w q b (Sort.putCells (Value.int .i64) o0 (Lib.compact zs++List.replicate (zs.length-(Lib.compact zs).length) 0).toArray) #[]
     rwa [Sort.grow_empty]at this
    have hcl2:(Lib.compact zs).length<=cap:=Nat.le_trans hcl r1
    revert hw
    generalize Sort.putRow (Value.int .i64) (Sort.ahead w q) b o0 (Lib.compact zs++List.replicate (zs.length-(Lib.compact zs).length) 0).toArray=w'
    intro hw
    have hsz:(Lib.compact zs++List.replicate (zs.length-(Lib.compact zs).length) 0).length=zs.length:=by simp;omega
    have hget:∀ i (hi:i<(Lib.compact zs).length),(Lib.compact zs++List.replicate (zs.length-(Lib.compact zs).length) 0)[i]? =some (Lib.compact zs)[i]:=λ i hi=>by simp[zAW,hi]
    revert hw hsz hget
    generalize Lib.compact zs++List.replicate (zs.length-(Lib.compact zs).length) 0=ds
    intro hw hsz hget
    have hcell:CellsOf S (λ j=>(Sort.putCells (Value.int .i64) o0 ds.toArray cs)[o0+j]?) 0 ((Lib.compact zs).map (.int .i64)):=λ i j hi hj=>by
     simp only[szOf,Nat.lt_one_iff]at hj hfit ⊢
     subst hj
     have hi' :i<(Lib.compact zs).length:=by simpa using hi
     refine⟨.int .i64 ((Lib.compact zs)[i]),?_,rfl,λ x p hx hp=> ?_⟩
     ·rw[Sort.putCells,Array.getElem?_mapIdx,zAj (show o0+(i*1+0)<cs.size by omega)]
      simp only[zV,zE]
      rw[if_pos (by simp only[List.size_toArray];omega)]
      congr 1
      have e:o0+(i*1+0)-o0=i:=by omega
      have hlt:i<ds.length:=by omega
      have h4:=hget i hi'
      rw[zH hlt]at h4
      rw[e,getElem!_pos _ _ (by simpa using hlt)]
      simpa using h4
     ·simp[hi']at hx
      subst hx
      simp[PV.cells]at hp
      subst hp
      exact VP.int _ _
    have key:=zIW (w' :=w') (zs:=(Lib.compact zs).map (.int .i64)) (base:=some ⟨b,o0,none⟩) (cap:=cap) inv (o:=0) rfl hL hw.size hw.os hw.tape hw.output (λ b' hb' hne=>hw.other b' hb' λ e' =>hne (by rw[e'];exact mine))
     (λ b' o v hv' =>by
      have e:b' ≠b:=λ e=>by subst e;exact noS _ _ hv'
      have h1:=inv.prot b' o v hv'
      rw[zCk (w:=w) (hw.other b' (zKq h1) e)];exact h1)
     (by simpa using hcl2) (okI _)
     (.inr ⟨b,o0,_,t,rfl,hw.mine cs t (0,0) hh,by simpa [Sort.putCells]using hfit,hcell,.inr mine,zB1 hblt hw.size,λ j v hv=>(noS j v hv).elim⟩)
    obtain⟨_,S',L',k1,k2,k3⟩:=key
    rw[zK]at k3
    exact⟨_,S',L',rfl,k1,k3⟩
 ·cases h
theorem z4N{c:Cfg} {f:FuncId} (he:c.ext f=some zMc) (raw:Bool) (ver:Nat) (zs:List Int) (hl:zs.length<=lim) :
 evw c f raw [.fx 0 0] [.fix ver 0 (zs.map (.int .i64))]=some (.pv (.tup []),[.fix ver 0 ((zHr zs).map (.int .i64))]):=by
 rw[zJX he]
 simp[zMc,z3H,hl,zPJ]
theorem zZT{c:Cfg} {f:FuncId} (he:c.ext f=some zFi) (ver:Nat) (zs:List Int) (hl:zs.length<=lim) :
 evw c f false [.view 0 ver none] [.row false ver 0 (zs.map (.int .i64))]=some (.pv (.slice 0 ((Lib.compact zs).map (.int .i64))),[.dead]):=by
 rw[zJX he]
 simp[zFi,zRY,hl,zPJ]
end Go.Ab
