/- Part 12 of the proof: an abstract machine that runs the program's code over plain values, its soundness, and what the functions tell of plain values. Conditions: those in each theorem. -/
import Derived.Test.YtgebkpchpliahaaGreatDoorA10
import Derived.Shelf.SlSortCmp.NoneTotal
import Derived.Shelf.Strconv.Itoa3
set_option linter.unusedSectionVars false
set_option linter.unusedVariables false
set_option linter.unusedSimpArgs false
noncomputable section
namespace Go.Ab
open Go.RowKit (Below)
def encK(x:Int×Int):List Value:=[.int .i64 x.1,.int .i64 x.2]
def keyP(x:Int×Int):PV:= .agg [.int .i64 x.1,.int .i64 x.2]
def cmpK(a b:Int×Int):Int:=if a.1<b.1 then -1 else if a.1>b.1 then 1 else if a.2<b.2 then -1 else if a.2>b.2 then 1 else 0
def leK(x y:Int×Int):Bool:= !decide (cmpK y x<0)
def insK(x:Int×Int):List (Int×Int)->List (Int×Int)
 | []=>[x]
 |y::r=>bif leK x y then x::y::r else y::insK x r
def zCo:List (Int×Int)->List (Int×Int)
 | []=>[]
 |x::r=>insK x (zCo r)
theorem zRZ(x y:Int×Int):leK x y=true↔x.1<y.1∨(x.1=y.1/\x.2<=y.2):=by
 unfold leK cmpK
 rw[Bool.not_eq_true',decide_eq_false_iff_not]
 split
 ·constructor<;>intro<;>omega
 ·split
  ·constructor<;>intro<;>omega
  ·split
   ·constructor<;>intro<;>omega
   ·split<;>constructor<;>intro<;>omega
theorem zTD(x y:Int×Int):leK x y=true∨leK y x=true:=by rw[zRZ,zRZ];omega
theorem zTE(x y z:Int×Int) (h:leK x y=true) (k:leK y z=true):leK x z=true:=by rw[zRZ]at *;omega
theorem z1D(x y:Int×Int) (h:leK x y=true) (k:leK y x=true):x=y:=by
 rw[zRZ]at h k
 obtain⟨a,b⟩:=x
 obtain⟨c,d⟩:=y
 simp only[zAl]at *
 omega
theorem zPK(x:Int×Int):∀ l,(insK x l).Perm (x::l)
 | []=>List.Perm.refl _
 |y::r=>by
  unfold insK
  cases leK x y with
  |true=>exact List.Perm.refl _
  |false=>exact((zPK x r).cons y).trans (List.Perm.swap x y r)
theorem zPL(x:Int×Int):∀ l,l.Pairwise (λ a b=>leK a b=true)->(insK x l).Pairwise λ a b=>leK a b=true
 | [],_=>by simp[insK]
 |y::r,h=>by
  unfold insK
  have h2:=List.pairwise_cons.1 h
  cases hx:leK x y with
  |true =>
   refine List.pairwise_cons.2 ⟨λ z hz=> ?_,h⟩
   rcases zAE.1 hz with rfl | hz
   ·exact hx
   ·exact zTE _ _ _ hx (h2.1 z hz)
  |false =>
   refine List.pairwise_cons.2 ⟨λ z hz=> ?_,zPL x r h2.2⟩
   rcases zAE.1 ((zPK x r).mem_iff.1 hz)with rfl | hz
   ·rcases zTD y z with h | h
    ·exact h
    ·rw[hx]at h;cases h
   ·exact h2.1 z hz
theorem zI1:∀ l,(zCo l).Perm l
 | []=>List.Perm.refl _
 |x::r=>(zPK x (zCo r)).trans ((zI1 r).cons x)
theorem zJZ:∀ l,(zCo l).Pairwise λ a b=>leK a b=true
 | []=>List.Pairwise.nil
 |x::r=>zPL x _ (zJZ r)
theorem zQh:∀{l l' :List (Int×Int)},l.Perm l' ->l.Pairwise (λ a b=>leK a b=true)->l'.Pairwise (λ a b=>leK a b=true)->l=l'
 | [],l',h,_,_=>(List.nil_perm.1 h).symm
 |x::r,[],h,_,_=>by have:=h.length_eq;simp at this
 |x::r,y::s,h,h1,h2=>by
  have a1:=List.pairwise_cons.1 h1
  have a2:=List.pairwise_cons.1 h2
  have e:x=y:=by
   rcases zAE.1 (h.mem_iff.1 (List.mem_cons_self))with e | hx
   ·exact e
   ·rcases zAE.1 (h.mem_iff.2 (List.mem_cons_self (a:=y)))with e | hy
    ·exact e.symm
    ·exact z1D _ _ (a1.1 y hy) (a2.1 x hx)
  subst e
  rw[zQh h.cons_inv a1.2 a2.2]
theorem sortKeys_eq(zs:List (Int×Int)):zCo zs=zs.mergeSort leK :=
 zQh ((zI1 zs).trans (List.mergeSort_perm zs leK).symm) (zJZ zs) (List.pairwise_mergeSort (λ a b c=>zTE a b c) (λ a b=>by rcases zTD a b with h | h<;>simp[h]) zs)
theorem zNX(zs:List (Int×Int)):(zCo zs).length=zs.length:=(zI1 zs).length_eq
variable [GL:Gl]
structure SortKC (P:Program) (f g:FuncId):Prop where
 fn:zNi P f
 run:∀(blk off cap:Nat) (d:Array (Int×Int)) (w:World),Go.Sort.HoldsK encK 2 w blk off d->blk<w.heap.size->d.size<4611686018427387904 ->
  Calls P f #[.slice (some ⟨blk,off,none⟩) d.size cap,.func (.func g) #[] #[]] w λ e w' =>e= .returned (.tuple #[])/\∃ n os,w' =Go.Proofs.sortWorldK encK 2 w blk off n (zCo d.toList).toArray os
 none:∀(p:Option Addr) (cap:Nat) (fv:Value) (w:World),Calls P f #[.slice p 0 cap,fv] w λ e w' =>e= .returned (.tuple #[])/\w' =w
def z3J:PV->Option (Int×Int)
 | .agg [p,q]=>(PV.asIntK .i64 p).bind λ a=>(PV.asIntK .i64 q).bind λ b=>some (a,b)
 |_=>none
theorem z1E{p:PV} {k:Int×Int} (h:z3J p=some k):p=keyP k:=by
 unfold z3J at h
 split at h
 ·obtain⟨a,h1,h⟩:=zJ.1 h
  obtain⟨b,h2,h⟩:=zJ.1 h
  simp only[zE]at h;subst h
  rw[zPI h1,zPI h2];rfl
 ·cases h
def zZU:List PV->Option (List (Int×Int))
 | []=>some []
 |p::ps=>(z3J p).bind λ n=>(zZU ps).bind λ ns=>some (n::ns)
theorem zWS:∀{ps:List PV} {ns:List (Int×Int)},zZU ps=some ns->ps=ns.map keyP
 | [],ns,h=>by simp[zZU]at h;subst h;rfl
 |p::ps,ns,h=>by
  simp only[zZU]at h
  obtain⟨n,h1,h⟩:=zJ.1 h
  obtain⟨ms,h2,h⟩:=zJ.1 h
  simp only[zE]at h;subst h
  rw[z1E h1,zWS h2];rfl
def z2Q(g:FuncId) (args:List AV) (ow:List Ob):Option (AV×List Ob) :=
 match args,ow with
 | [.fx 0 sh,.pv (.fn g' [] [])],[.fix ver sh' xs]=>bif sh==3&&sh' ==3&&decide (g=g')&&decide (xs.length<=lim)then(zZU xs).bind λ zs=>some (.pv (.tup []),[.fix ver 3 ((zCo zs).map keyP)])else none
 |_,_=>none
def zR0(g:FuncId):ExtF:=⟨λ _ raw a ow=>bif raw then none else z2Q g a ow,λ _ _ _ _ _ _ _ h=>h⟩
theorem zZV{S:Pr} {w:World} {b o0:Nat} {cs:Array Value} {t:TypeId} {zs:List (Int×Int)} (hh:w.heap[b]? =some (.cells cs t (0,0)))
 (hx:∀(i j:Nat),i<(zs.map keyP).length->j<szOf 3->∃ v,cs[o0+i*szOf 3+j]? =some v/\v.oneCell' =true/\(∀(x p:PV),(zs.map keyP)[i]? =some x->x.cells[j]? =some p->VP S v p)) :
 Go.Sort.HoldsK encK 2 w b o0 zs.toArray:=by
 intro t ht
 rw[Go.Sort.size_flatK]at ht
 have hi:t / 2<zs.length:=by simp at ht;omega
 rw[Go.Sort.get_flatK _ _ _ _ ht]
 obtain⟨v,h1,h2,h3⟩:=hx (t / 2) (t % 2) (by simpa using hi) (by simp[szOf];omega)
 have e:(zs.toArray[t / 2]! :Int×Int)=zs[t / 2]:=by simp[getElem!_pos,hi]
 have e1:o0+t / 2*szOf 3+t % 2=o0+t:=by simp[szOf];omega
 rw[e1]at h1
 have hv:v=(encK zs[t / 2])[t % 2]! :=by
  rcases Nat.mod_two_eq_zero_or_one t with hm | hm
  ·rw[hm]at h3 ⊢
   exact VP.int_inv (h3 (keyP zs[t / 2]) (.int .i64 (zs[t / 2]).1) (by simp[hi]) rfl)
  ·rw[hm]at h3 ⊢
   exact VP.int_inv (h3 (keyP zs[t / 2]) (.int .i64 (zs[t / 2]).2) (by simp[hi]) rfl)
 subst hv
 refine⟨?_,?_⟩
 ·unfold World.cell?
  simp only[hh,e,id]
  exact h1
 ·unfold World.frozen?
  simp only[hh]
  simp
theorem z1F{P:Program} {f g:FuncId} (hC:SortKC P f g):zNk P f (zR0 g):=by
 intro call hcall raw args ow r ow' h
 simp only[zR0]at h
 cases raw with
 |true=>cases h
 |false =>
 simp only[zC,z2Q]at h
 split at h
 ·rename_i sh g' ver sh' xs
  obtain⟨hc,h2⟩:=bif_some h
  clear h
  simp only[zF,beq_iff_eq,zU]at hc
  obtain⟨⟨⟨rfl,rfl⟩,rfl⟩,hlim⟩:=hc
  obtain⟨zs,hzs,h3⟩:=zJ.1 h2
  clear h2
  simp only[zE,zAl]at h3
  obtain⟨rfl,rfl⟩:=h3
  have hxs:=zWS hzs
  subst hxs
  refine Valid.of hC.fn λ S L w vs inv hvs=> ?_
  obtain⟨hlen,hv⟩:=hvs
  match vs,hlen,hv with
  | [v,fv],_,hv =>
   have hf:VP S fv (.fn g [] []):=hv 1 fv _ rfl rfl
   have hfe:fv= .func (.func g) #[] #[]:=by
    cases hf with
    |fn f fs cs qs ps hm hl k h =>
     have e1:fs= #[]:=Array.size_eq_zero_iff.1 (by simpa using hm)
     have e2:cs= #[]:=Array.size_eq_zero_iff.1 (by simpa using hl)
     rw[e1,e2]
   subst hfe
   obtain⟨base,n,cap,hL,_,rfl⟩:=(show VA1 S L _ v (.fx 0 3)from hv 0 v _ rfl rfl)
   obtain⟨_,rfl,r1,r2,r3⟩:=inv.obs 0 _ _ rfl hL
   rw[zK]at r1 hL hlim ⊢
   by_cases hz:zs=[]
   ·subst hz
    refine(hC.none base cap _ w).mono ?_
    rintro e w' ⟨rfl,rfl⟩
    refine⟨_,S,L,rfl,?_,VP.tup #[] [] rfl (λ j v p h=>by simp at h)⟩
    simpa [zCo]using inv
   ·have hpos:0<zs.length:=List.length_pos_iff.2 hz
    rcases r3 with r3 | ⟨b,o0,cs,t,rfl,hh,hfit,hx⟩
    ·omega
    have hc0:cap≠0:=by omega
    have hblt:b<w.heap.size:=by
     rcases Nat.lt_or_ge b w.heap.size with h' | h'
     ·exact h'
     ·rw[Array.getElem?_eq_none h']at hh;cases hh
    refine(hC.run b o0 cap zs.toArray w (zZV hh hx) hblt (by unfold lim at hlim;simp;omega)).mono ?_
    rintro e w' ⟨rfl,n,os,rfl⟩
    refine⟨_,S,L,rfl,?_,VP.tup #[] [] rfl (λ j v p h=>by simp at h)⟩
    have hl2:((zCo zs).map keyP).length=(zs.map keyP).length:=by simp[zNX]
    refine zWQ inv (o:=0) (ver:=ver) (xs:=zs.map keyP) rfl (by rw[zK];exact hL) rfl hc0 hl2 (λ y hy=> ?_) (zUu w n b (Sort.putCells id o0 (Go.Sort.flatK encK 2 (zCo zs).toArray)) os) (λ cs=>by simp[Sort.putCells]) ?_
    ·simp only[zAh]at hy;obtain⟨z,_,rfl⟩:=hy;rfl
    ·intro cs' t' hh' hfit' i j hi hj
     have hj2:j<2:=by simpa [szOf]using hj
     have e3:szOf 3=2:=rfl
     rw[e3]at hfit' ⊢
     have hi' :i<(zCo zs).length:=by simpa using hi
     have hi2:i<zs.length:=by rwa [zNX]at hi'
     have ht:i*2+j<(zCo zs).toArray.size*2:=by simp only[List.size_toArray];omega
     have hg:=Go.Sort.get_flatK encK 2 (zCo zs).toArray (i*2+j) ht
     rw[show(i*2+j) / 2=i by omega,show(i*2+j) % 2=j by omega]at hg
     have ed:((zCo zs).toArray[i]! :Int×Int)=(zCo zs)[i]:=by simp[getElem!_pos,hi']
     rw[ed]at hg
     refine⟨(encK (zCo zs)[i])[j]!,?_,?_,λ x p hx hp=> ?_⟩
     ·rw[Sort.putCells,Array.getElem?_mapIdx,zAj (show o0+i*2+j<cs'.size by omega)]
      simp only[zV,zE]
      rw[if_pos (by rw[Go.Sort.size_flatK];omega),show o0+i*2+j-o0=i*2+j by omega,hg];rfl
     ·match j,hj2 with
      | 0,_=>rfl
      | 1,_=>rfl
     ·simp only[zN,zH hi',zV,zE]at hx
      subst hx
      match j,hj2 with
      | 0,_=>simp[keyP,PV.cells]at hp;subst hp;exact VP.int _ _
      | 1,_=>simp[keyP,PV.cells]at hp;subst hp;exact VP.int _ _
 ·cases h
end Go.Ab

namespace Go.Ab
open Go.RowKit (Below)
@[reducible] def Gl.one(g:Nat) (X:Obj):Gl:=⟨λ g' X' =>g' =g/\X' =X⟩
theorem Gl.one_here{g:Nat} {X:Obj} {w:World} (h:w.heap[g]? =some X):@Gl.here (Gl.one g X) w:=λ g' X' ⟨e,e'⟩=>by subst e;subst e';exact h
section
variable [GL:Gl]
structure ItoaC (P:Program) (f:FuncId):Prop where
 fn:zNi P f
 run:∀(n:Int) (w:World), -9223372036854775808<=n->n<=9223372036854775807->Lib.TabIs P w "internal/strconv.uint64pow10" .u64 Lib.pow10Tab ->
  Calls P f #[.int .i64 n] w λ e w' =>e= .returned (.string ⟨(Lib.itoa n).toArray⟩)/\∃ k os,w' =Sort.grow (w.drewN k) os
end
end Go.Ab

namespace Go.Ab
open Go.RowKit (Below)
def zHS:List (Int×Int)->List UInt8
 | []=>[]
 |x::r=>Lib.itoa x.1++[58]++Lib.itoa x.2++[59]++zHS r
theorem zPM:∀(a b:List (Int×Int)),zHS (a++b)=zHS a++zHS b
 | [],_=>rfl
 |x::r,b=>by simp[zHS,zPM r b]
def z1G(xs:List (Int×Int)):ByteArray:=⟨(zHS xs).toArray⟩
def zWT(w:World) (base:Option Addr) (xs:List (Int×Int)):Prop :=
 ∀(i:Nat) (x:Int×Int),xs[i]? =some x->∃ b o,base=some ⟨b,o,none⟩/\w.cell? ⟨b,o+i*2,none⟩=some (.int .i64 x.1)/\w.cell? ⟨b,o+i*2+1,none⟩=some (.int .i64 x.2)
def inI(n:Int):Bool:=decide (-9223372036854775808<=n)&&decide (n<=9223372036854775807)
def zNY:List PV->Option (List (Int×Int))
 | []=>some []
 | .agg [.int .i64 k,.int .i64 n]::r=>bif inI k&&inI n then(zNY r).bind λ l=>some ((k,n)::l)else none
 |_=>none
structure TextC (P:Program) (f:FuncId):Prop where
 fn:zNi P f
 run:∀(base:Option Addr) (cap:Nat) (xs:List (Int×Int)) (w:World),xs.length<=cap->xs.length<=1000000->(∀ x∈xs,(-9223372036854775808<=x.1/\x.1<=9223372036854775807)/\ -9223372036854775808<=x.2/\x.2<=9223372036854775807) ->
  zWT w base xs->Lib.TabIs P w "internal/strconv.uint64pow10" .u64 Lib.pow10Tab->Calls P f #[.slice base xs.length cap] w λ e w' =>e= .returned (.string ⟨(zHS xs).toArray⟩)/\Below w.heap.size w w'
section
variable [GL:Gl]
def z3K(args:List AV) (ow:List Ob):Option (AV×List Ob) :=
 match args,ow with
 | [.pv (.slice 3 xs)],[]=>bif decide (xs.length<=1000000)then(zNY xs).bind λ l=>some (.pv (.str (z1G l)),[])else none
 |_,_=>none
def zKz:ExtF:=⟨λ _ raw a ow=>bif raw then none else z3K a ow,λ _ _ _ _ _ _ _ h=>h⟩
theorem zPN{S:Pr}:∀{xs:List PV} {l:List (Int×Int)},zNY xs=some l->l.length=xs.length/\∀(i:Nat) (x:Int×Int),l[i]? =some x ->
 xs[i]? =some (.agg [.int .i64 x.1,.int .i64 x.2])/\(-9223372036854775808<=x.1/\x.1<=9223372036854775807)/\ -9223372036854775808<=x.2/\x.2<=9223372036854775807
 | [],l,h=>by
  have h:some []=some l:=h
  cases h
  exact⟨rfl,λ i x h=>by simp at h⟩
 |p::r,l,h=>by
  unfold zNY at h
  split at h
  ·rename_i e;cases e
  ·rename_i k n r' e
   cases e
   obtain⟨h1,h2⟩:=bif_some h
   obtain⟨l',h3,h4⟩:=zJ.1 h2
   cases h4
   simp only[inI,zF,zU]at h1
   obtain⟨k1,k2⟩:=zPN (S:=S) h3
   refine⟨by simp[k1],λ i x hx=> ?_⟩
   cases i with
   |zero=>simp at hx;subst hx;exact⟨rfl,h1.1,h1.2⟩
   |succ i=>exact k2 i x (by simpa using hx)
  ·cases h
theorem z3L{P:Program} {f:FuncId} (hC:TextC P f) (hG:∃ g t fr,P.globalNamed "internal/strconv.uint64pow10" =some g/\GL.tab g (.cells (Lib.pow10Tab.map λ z=>Value.int .u64 z).toArray t fr)):zNk P f zKz:=by
 intro call hcall raw args ow r ow' h
 cases raw with
 |true=>simp[zKz]at h
 |false =>
 simp only[zKz,zC]at h
 unfold z3K at h
 split at h
 ·rename_i xs
  obtain⟨hc,h2⟩:=bif_some h
  clear h
  simp only[zU]at hc
  obtain⟨l,hl,h3⟩:=zJ.1 h2
  simp only[zE,zAl]at h3
  obtain⟨rfl,rfl⟩:=h3
  refine Valid.of hC.fn λ S L w vs inv hvs=> ?_
  obtain⟨hlen,hv⟩:=hvs
  match vs,hlen,hv with
  | [v],_,hv =>
   have hv0:VP S v (.slice 3 xs):=hv 0 v _ rfl rfl
   obtain⟨hll,hsp⟩:=zPN (S:=S) hl
   cases hv0 with
   |slice base len cap _ _ b o vals hl' hc' hb' hsh hS hV =>
    obtain⟨g,t,fr,hg,hX⟩:=hG
    have htab:Lib.TabIs P w "internal/strconv.uint64pow10" .u64 Lib.pow10Tab:=by
     unfold Lib.TabIs World.var?
     rw[hg]
     simp only[zB]
     rw[Gl.ok_here inv.glob inv.below g _ hX]
    have hlen2:l.length=len:=by omega
    subst hlen2
    have hrow:zWT w base l:=λ i x hx=>by
     have hi:i<l.length:=(zQ.1 hx).1
     obtain⟨hx1,_⟩:=hsp i x hx
     obtain⟨s0,o0⟩:=hS i 0 hi (by decide)
     obtain⟨s1,o1⟩:=hS i 1 hi (by decide)
     have v0:=hV i 0 _ (.int .i64 x.1) hx1 rfl
     have v1:=hV i 1 _ (.int .i64 x.2) hx1 rfl
     have c0:=zJN (inv.prot _ _ _ s0) o0
     have c1:=zJN (inv.prot _ _ _ s1) o1
     rw[zE0 v0]at c0
     rw[zE0 v1]at c1
     exact⟨b,o,hb' (by omega),c0,c1⟩
    refine(hC.run base cap l w hc' (by omega) (λ x hx=>by
     obtain⟨i,hi,e⟩:=List.getElem_of_mem hx
     exact(hsp i x (by rw[<- e];exact zH hi)).2) hrow htab).mono ?_
    rintro e w' ⟨rfl,hB⟩
    exact⟨_,S,L,rfl,inv.grow hB (Pr.le_refl S) (λ _ _ _=>rfl) (λ b o v hv=>by
     have h1:=inv.prot b o v hv
     rw[zCk (hB.block b (zKq h1))];exact h1),VP.str _⟩
 ·cases h
theorem z4O{c:Cfg} {f:FuncId} (he:c.ext f=some zKz) (xs:List PV) (l:List (Int×Int)) (hp:zNY xs=some l) (hl:xs.length<=1000000):wc (evw c) f [.slice 3 xs]=some (.str (z1G l)):=by
 unfold wc
 rw[zJX he]
 simp[zKz,z3K,hp,hl,AV.asPv]
end
end Go.Ab

namespace Go.Ab
open Go.RowKit (Below)
theorem zTF{R:Type} {b:Bool} {x:Option R} {y:R} (h:(bif b then x else none)=some y):b=true/\x=some y:=by
 cases b with
 |true=>exact⟨rfl,h⟩
 |false=>cases h
def zZW(gs:List FuncId) (call:Wf) (args:List AV) (ow:List Ob):Option (AV×List Ob) :=
 match args with
 | [.fnv f fs cs]=>bif gs.contains f then((call f false (fs++cs) ow).bind λ r=>match r.1 with
  | .pv p=>bif p.okSh 3 then some (.pv (.tup [p,.bool true]),r.2)else none
  |_=>none)else none
 | [.pv (.fn f fs cs)]=>bif gs.contains f then((call f false ((fs++cs).map .pv) ow).bind λ r=>match r.1 with
  | .pv p=>bif p.okSh 3 then some (.pv (.tup [p,.bool true]),r.2)else none
  |_=>none)else none
 |_=>none
def zR1(gs:List FuncId):ExtF:=⟨λ call raw a ow=>bif raw then none else zZW gs call a ow,λ call call' raw a ow r hc h=>by
 cases raw with
 |true=>cases h
 |false =>
  simp only[zC]at h ⊢
  unfold zZW at h ⊢
  split at h
  ·obtain⟨hg,h⟩:=zTF h
   obtain⟨z,h1,h2⟩:=zJ.1 h
   simp only[hg,zA,hc _ _ _ _ _ h1,zB];exact h2
  ·obtain⟨hg,h⟩:=zTF h
   obtain⟨z,h1,h2⟩:=zJ.1 h
   simp only[hg,zA,hc _ _ _ _ _ h1,zB];exact h2
  ·cases h⟩
variable [GL:Gl]
structure ToldC (P:Program) (gs:List FuncId) (f:FuncId) (t1 t2:TypeId) (z1 z2:Value):Prop where
 fn:zNi P f
 fns:∀ g∈gs,zNi P g
 run:∀(g:FuncId) (fs cs:Array Value) (w:World) (Q:Value->Value->World->Prop),
  (∀ w' args,(callFunc g args).run P w' = .ok (.enter g args) w') ->
  Calls P g (fs++cs) ((w.alloc (.cells #[z1,z2] t1)).alloc (.cells #[.bool false] t2)) (λ e w3=>∃ x y,e= .returned (.agg #[x,y])/\x.oneCell' =true/\y.oneCell' =true /\
   w3.heap[w.heap.size]? =some (.cells #[z1,z2] t1)/\w3.heap[w.heap.size+1]? =some (.cells #[.bool false] t2)/\Q x y w3) ->
  Calls P f #[.func (.func g) fs cs] w λ e w' =>∃ x y w3,e= .returned (.tuple #[.agg #[x,y],.bool true])/\Q x y w3/\w3.heap[w.heap.size]? =some (.cells #[z1,z2] t1)/\w3.heap[w.heap.size+1]? =some (.cells #[.bool false] t2) /\
   w' ={ w3 with heap:=(w3.heap.setIfInBounds w.heap.size (.cells #[x,y] t1)).setIfInBounds (w.heap.size+1) (.cells #[.bool true] t2) }
theorem Inv.rebase{B B' :Base} {S0 S:Pr} {L:List Loc} {ow:List Ob} {w:World} (h:Inv B S0 S L ow w) (hw:B'.w=B.w) (ha:B'.anc=B.anc) (ho:∀ b,B'.old b↔B.old b):Inv B' S0 S L ow w where
 len:=h.len
 below:=⟨by rw[hw];exact h.below.os,by rw[hw];exact h.below.tape,by rw[hw];exact h.below.output,by rw[hw];exact h.below.size,λ k hk=>by rw[hw];exact h.below.block k ((ho k).1 hk)⟩
 prot:=h.prot
 old:=λ b o hb=>h.old b o ((ho b).1 hb)
 le:=h.le
 glob:=λ g X hg=>by
  obtain⟨h1,h2⟩:=h.glob g X hg
  exact⟨(ho g).2 h1,by rw[hw];exact h2⟩
 anc:=by rw[ha];exact h.anc
 obs:=h.obs
 own:=λ o ob l b q1 q2 q3=>by
  obtain⟨h1,h2,h3⟩:=h.own o ob l b q1 q2 q3
  exact⟨λ e=>h1 ((ho b).1 e),h2,h3⟩
 sep:=h.sep
theorem Inv.poke{w0:Base} {S0 S:Pr} {L:List Loc} {ow:List Ob} {w:World} (inv:Inv w0 S0 S L ow w) {b:Nat} (X:Go.Obj) (hS:∀ o,S b o=none) (ho:¬ w0.old b)
 (hfree:∀(o:Nat) (ob:Ob) (l:Loc),ow[o]? =some ob->L[o]? =some l->b∉zZ ob l):Inv w0 S0 S L ow { w with heap:=w.heap.setIfInBounds b X }:=by
 have hother:∀ k,k≠b->(w.heap.setIfInBounds b X)[k]? =w.heap[k]? :=λ k hk=>Array.getElem?_setIfInBounds_ne (Ne.symm hk)
 exact{
  len:=inv.len
  below:=⟨inv.below.os,inv.below.tape,inv.below.output,by simpa using inv.below.size,λ k hk=>(hother k (λ e=>ho (e▸hk))).trans (inv.below.block k hk)⟩
  prot:=λ k o v hv=>by
   have hne:k≠b:=λ e=>by subst e;rw[hS o]at hv;cases hv
   rw[zCk (w:=w) (hother k hne)];exact inv.prot k o v hv
  old:=inv.old
  le:=inv.le
  glob:=inv.glob
  anc:=inv.anc
  obs:=λ o x y hx hy=>(inv.obs o x y hx hy).keep (Evo.refl _ _ _) (λ k hk=>hother k (λ e=>hfree o x y hx hy (e▸hk)))
  own:=λ o x y k hx hy hb=>by
   obtain⟨h1,h2,h3⟩:=inv.own o x y k hx hy hb
   exact⟨h1,by simpa using h2,h3⟩
  sep:=inv.sep }
theorem zWU{L:List Loc} {ow:List Ob} {w:World} {b:Nat}:(hand L ow w).old b↔b<w.heap.size/\¬ ∃(o:Nat) (ob:Ob) (l:Loc),ow[o]? =some ob/\L[o]? =some l/\b∈zZ ob l:=Iff.rfl
theorem z3M{P:Program} {gs:List FuncId} {f:FuncId} {t1 t2:TypeId} {z1 z2:Value} (hC:ToldC P gs f t1 t2 z1 z2):zNk P f (zR1 gs):=by
 intro call hcall raw args ow r ow' h
 simp only[zR1]at h
 cases raw with
 |true=>cases h
 |false =>
 simp only[zC]at h
 have key:∀(g:FuncId) (ars:List AV) (hgs:gs.contains g=true) (hg:(call g false ars ow).bind (λ r=>match r.1 with | .pv p=>bif p.okSh 3 then some (.pv (.tup [p,.bool true]),r.2)else none | _=>none)=some (r,ow'))
  (S:Pr) (L:List Loc) (w:World) (fs cs:Array Value),Inv (hand L ow w) S S L ow w->VAs S L ow (fs++cs).toList ars ->
  Res P (λ v w' =>∃ S' L',Inv (hand L ow w) S S' L' ow' w' /\VA S' L' ow' v r) ((callFunc f #[.func (.func g) fs cs]).run P w):=by
  intro g ars hgs hg S L w fs cs inv hvs
  obtain⟨⟨q,ow1⟩,h1,h2⟩:=zJ.1 hg
  simp only at h2
  split at h2
  ·rename_i p
   obtain⟨hp,h3⟩:=bif_some h2
   simp only[zE,zAl]at h3
   obtain⟨rfl,rfl⟩:=h3
   have hv:=hcall g false ars ow _ _ h1
   have hgf:=hC.fns g (by simpa using hgs)
   have inv1:=inv.late (.cells #[z1,z2] t1)
   have inv2:=inv1.late (.cells #[.bool false] t2)
   have hs1:(w.alloc (.cells #[z1,z2] t1)).heap.size=w.heap.size+1:=by show(w.heap.push _).size=_;simp
   have hlt:∀(o:Nat) (ob:Ob) (l:Loc) b,ow[o]? =some ob->L[o]? =some l->b∈zZ ob l->b<w.heap.size:=λ o ob l b a1 a2 a3=>(inv.own o ob l b a1 a2 a3).2.1
   have holds:∀ b,(hand L ow ((w.alloc (.cells #[z1,z2] t1)).alloc (.cells #[.bool false] t2))).old b↔(late (late (hand L ow w) w (.cells #[z1,z2] t1)) (w.alloc (.cells #[z1,z2] t1)) (.cells #[.bool false] t2)).old b:=λ b=>by
    rw[zIY,zIY,zWU,zWU,hs1]
    have hs2:((w.alloc (.cells #[z1,z2] t1)).alloc (.cells #[.bool false] t2)).heap.size=w.heap.size+1+1:=by show((w.alloc _).heap.push _).size=_;simp[hs1]
    rw[hs2]
    constructor
    ·rintro⟨a1,a2⟩
     refine⟨a1,?_⟩
     rcases Nat.lt_or_ge b w.heap.size with c | c
     ·exact .inl ⟨by omega,.inl ⟨c,a2⟩⟩
     ·rcases Nat.lt_or_ge b (w.heap.size+1)with c2 | c2
      ·exact .inl ⟨c2,.inr (by omega)⟩
      ·exact .inr (by omega)
    ·rintro⟨a1,a2⟩
     refine⟨a1,?_⟩
     rintro⟨o,ob,l,b1,b2,b3⟩
     have:=hlt o ob l b b1 b2 b3
     rcases a2 with⟨_,a2 | a2⟩ | a2
     ·exact a2.2 ⟨o,ob,l,b1,b2,b3⟩
     ·omega
     ·omega
   have inv3:Inv (hand L ow ((w.alloc (.cells #[z1,z2] t1)).alloc (.cells #[.bool false] t2))) S S L ow ((w.alloc (.cells #[z1,z2] t1)).alloc (.cells #[.bool false] t2)):=inv2.rebase rfl rfl holds
   have hr:=hv S L _ _ inv3 hvs
   have eg:∀ w' args,(callFunc g args).run P w' = .ok (.enter g args) w' :=λ w' args=>by
    have:=zH3 (P:=P) (w:=w') (vs:=args.toList) hgf
    simpa using this
   rw[Array.toArray_toList,eg]at hr
   have hcall2:(callFunc f #[.func (.func g) fs cs]).run P w= .ok (.enter f #[.func (.func g) fs cs]) w:=zH3 (vs:=[.func (.func g) fs cs]) hC.fn
   rw[hcall2]
   refine Calls.mono (hC.run g fs cs w (λ x y w3=>∃ S' L',Inv (hand L ow ((w.alloc (.cells #[z1,z2] t1)).alloc (.cells #[.bool false] t2))) S S' L' ow1 w3/\VP S' (.agg #[x,y]) p) eg (Calls.mono hr ?_)) ?_
   ·rintro e w3 ⟨v,rfl,S',L',j3,hvp⟩
    have hvp:VP S' v p:=hvp
    obtain⟨ps,rfl⟩:∃ ps,p= .agg ps:=by cases p<;>simp[PV.okSh]at hp;exact⟨_,rfl⟩
    have hl:ps.length=2:=by simpa [PV.okSh]using hp
    cases hvp with
    |agg vs _ hl' ho hj =>
     have hsz:vs.size=2:=by omega
     obtain⟨x,y,rfl⟩:∃ x y,vs= #[x,y]:=⟨vs[0],vs[1],by
      apply Array.ext
      ·simp[hsz]
      ·intro i hi1 hi2
       match i,hi2 with
       | 0,_=>rfl
       | 1,_=>rfl⟩
     have j2:=j3.rebase (B' :=late (late (hand L ow w) w (.cells #[z1,z2] t1)) (w.alloc (.cells #[z1,z2] t1)) (.cells #[.bool false] t2)) rfl rfl (λ b=>(holds b).symm)
     have p2:=inv1.pending j2
     have j1:=inv1.back j2
     have p1:=inv.pending j1
     rw[hs1]at p2
     exact⟨x,y,rfl,ho x (by simp),ho y (by simp),p1.1,p2.1,S',L',j3,.agg _ _ hl' ho hj⟩
   ·rintro e w' ⟨x,y,w3,rfl,⟨S',L',j3,hvp⟩,a1,a2,rfl⟩
    have j2:=j3.rebase (B' :=late (late (hand L ow w) w (.cells #[z1,z2] t1)) (w.alloc (.cells #[z1,z2] t1)) (.cells #[.bool false] t2)) rfl rfl (λ b=>(holds b).symm)
    obtain⟨_,_,b3,b4,b5⟩:=inv1.pending j2
    have j1:=inv1.back j2
    obtain⟨_,_,c3,c4,c5⟩:=inv.pending j1
    have j0:=inv.back j1
    rw[hs1]at b3 b4 b5
    have k1:=j0.poke (.cells #[x,y] t1) c3 c4 c5
    have hno:¬ (hand L ow w).old (w.heap.size+1):=λ h=>by have:=h.1;simp[hand]at this;omega
    have k2:=k1.poke (b:=w.heap.size+1) (.cells #[.bool true] t2) b3 hno b5
    exact⟨_,rfl,S',L',k2,.tup _ _ rfl (λ j v q hj hq=>by
     match j with
     | 0=>simp at hj hq;subst hj;subst hq;exact hvp
     | 1=>simp at hj hq;subst hj;subst hq;exact VP.bool _
     |j+2=>simp at hj)⟩
  ·cases h2
 unfold zZW at h
 intro S L w vs inv hvs
 split at h
 ·rename_i g fs cs
  obtain⟨hgs,h⟩:=bif_some h
  obtain⟨hlen,hv⟩:=hvs
  match vs,hlen,hv with
  | [v],_,hv =>
   have hx:VA1 S L ow v (.fnv g fs cs):=hv 0 v _ rfl rfl
   obtain⟨fa,ca,rfl,e1,e2,k1,k2⟩:=hx
   refine key g (fs++cs) hgs h S L w fa ca inv ⟨by simp[e1,e2],λ j x a hx ha=> ?_⟩
   rw[Array.toList_append]at hx
   rcases Nat.lt_or_ge j fs.length with c | c
   ·rw[zAW (by simp[e1];omega)]at hx
    rw[zAW c]at ha
    exact(k1 j x a (by simpa using hx) ha).va
   ·rw[zAO (by simp[e1];omega)]at hx
    rw[zAO c]at ha
    exact(k2 (j-fs.length) x a (by simpa [e1]using hx) ha).va
 ·rename_i g fs cs
  obtain⟨hgs,h⟩:=bif_some h
  obtain⟨hlen,hv⟩:=hvs
  match vs,hlen,hv with
  | [v],_,hv =>
   have hx:VP S v (.fn g fs cs):=hv 0 v _ rfl rfl
   cases hx with
   |fn _ fa ca _ _ e1 e2 k1 k2 =>
    refine key g ((fs++cs).map .pv) hgs h S L w fa ca inv ⟨by simp[e1,e2],λ j x a hx ha=> ?_⟩
    rw[Array.toList_append]at hx
    rw[zN]at ha
    obtain⟨q,hq,rfl⟩:=Option.map_eq_some_iff.1 ha
    rcases Nat.lt_or_ge j fs.length with c | c
    ·rw[zAW (by simp[e1];omega)]at hx
     rw[zAW c]at hq
     exact k1 j x q (by simpa using hx) hq
    ·rw[zAO (by simp[e1];omega)]at hx
     rw[zAO c]at hq
     exact k2 (j-fs.length) x q (by simpa [e1]using hx) hq
 ·cases h
end Go.Ab
