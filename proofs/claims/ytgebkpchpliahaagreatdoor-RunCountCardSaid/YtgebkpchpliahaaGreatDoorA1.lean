/- Part 2 of the proof: an abstract machine that runs the program's code over plain values, its soundness, and what the functions tell of plain values. Conditions: those in each theorem. -/
import Derived.Test.YtgebkpchpliahaaGreatDoorA0
import Derived.Below
import Derived.Laws.CopyRow
import Derived.Deep.Quiet
set_option linter.unusedSectionVars false
set_option linter.unusedVariables false
set_option linter.unusedSimpArgs false
noncomputable section
namespace Go.Ab
open Go.RowKit (Below)
abbrev Pr:=Nat->Nat->Option Value
def zIt(es:Array MapEntry):Value:= .tuple #[.tuple (es.map (·.key)),.tuple (es.map (·.val))]
def zQA(x:Option Value):Option Value:=x.filter Value.oneCell'
theorem zKF{x:Option Value} {v:Value} (h:x=some v) (h1:v.oneCell' =true):zQA x=some v:=by subst h;simp[zQA,h1]
theorem zVu{x:Option Value} {v:Value} (h:zQA x=some v):x=some v/\v.oneCell' =true:=by
 cases x with
 |none=>simp[zQA]at h
 |some y=>simp[zQA,Option.filter_some]at h;obtain⟨h1,rfl⟩:=h;exact⟨rfl,h1⟩
def memV(w:World) (b o:Nat):Option Value:=match w.heap[b]? with
 |some (.cells c _ _)=>zQA c[o]?
 |some (.map es _)=>if o=0 then some (zIt es)else none
 |_=>none
theorem zJN{w:World} {b o:Nat} {v:Value} (h:memV w b o=some v) (h1:v.oneCell' =true):w.cell? ⟨b,o,none⟩=some v:=by
 unfold memV at h
 unfold World.cell?
 simp only
 split at h
 ·rename_i c t fz hb;rw[hb];simpa using(zVu h).1
 ·split at h
  ·cases h;simp[zIt,Value.oneCell']at h1
  ·cases h
 ·cases h
theorem zY6{w:World} {b o:Nat} {v:Value} (h:w.cell? ⟨b,o,none⟩=some v) (h1:v.oneCell' =true):memV w b o=some v:=by
 unfold World.cell? at h
 unfold memV
 simp only at h
 split at h
 ·rename_i c t fz hb;rw[hb];exact zKF (by simpa using h) h1
 ·cases h
theorem zCk{w w' :World} {b:Nat} (h:w'.heap[b]? =w.heap[b]?) (o:Nat):memV w' b o=memV w b o:=by unfold memV;rw[h]
theorem zKq{w:World} {b o:Nat} {v:Value} (h:memV w b o=some v):b<w.heap.size:=by
 rcases Nat.lt_or_ge b w.heap.size with h' | h'
 ·exact h'
 ·unfold memV at h;rw[Array.getElem?_eq_none h']at h;cases h
theorem zHx{w:World} {b:Nat} {cs:Array Value} {t:TypeId} {fz:Nat×Nat} (h:w.heap[b]? =some (.cells cs t fz)) (o:Nat):memV w b o=zQA cs[o]? :=by unfold memV;rw[h]
theorem z07{w:World} {b o:Nat} {es:Array MapEntry} (h:memV w b o=some (zIt es)):∃ es' n,w.heap[b]? =some (.map es' n)/\zIt es' =zIt es:=by
 unfold memV at h
 split at h
 ·have:=(zVu h).2;simp[zIt,Value.oneCell']at this
 ·rename_i es' n hb
  split at h
  ·exact⟨es',n,hb,Option.some.inj h⟩
  ·cases h
 ·cases h
theorem z08{w:World} {b:Nat} {es:Array MapEntry} {n:Nat} (h:w.heap[b]? =some (.map es n)):memV w b 0=some (zIt es):=by unfold memV;rw[h];rfl
inductive VP (S:Pr):Value->PV->Prop
 |undef (v:Value):VP S v .undef
 |off:VP S Go.undef .off
 |int (k:IntKind) (n:Int):VP S (.int k n) (.int k n)
 |bool (b:Bool):VP S (.bool b) (.bool b)
 |str (s:ByteArray):VP S (.string s) (.str s)
 |con (v:Value) (h:v.oneCell' =true):VP S v (.con v)
 |nilfn:VP S .nilFunc .nilfn
 |agg (cs:Array Value) (ps:List PV) (hl:cs.size=ps.length) (h1:∀ v∈cs,v.oneCell' =true)
  (h:∀(j:Nat) (v:Value) (p:PV),cs[j]? =some v->ps[j]? =some p->VP S v p):VP S (.agg cs) (.agg ps)
 |tup (cs:Array Value) (ps:List PV) (hl:cs.size=ps.length)
  (h:∀(j:Nat) (v:Value) (p:PV),cs[j]? =some v->ps[j]? =some p->VP S v p):VP S (.tuple cs) (.tup ps)
 |fn (f:FuncId) (fs cs:Array Value) (qs ps:List PV) (hm:fs.size=qs.length) (hl:cs.size=ps.length)
  (k:∀(j:Nat) (v:Value) (p:PV),fs[j]? =some v->qs[j]? =some p->VP S v p)
  (h:∀(j:Nat) (v:Value) (p:PV),cs[j]? =some v->ps[j]? =some p->VP S v p):VP S (.func (.func f) fs cs) (.fn f qs ps)
 |slice (base:Option Addr) (len cap sh:Nat) (xs:List PV) (b o:Nat) (vals:Nat->Nat->Value)
  (hl:xs.length=len) (hc:len<=cap) (hb:0<len->base=some ⟨b,o,none⟩) (hsh:∀ x∈xs,x.okSh sh=true)
  (hS:∀(i j:Nat),i<len->j<szOf sh->S b (o+i*szOf sh+j)=some (vals i j)/\(vals i j).oneCell' =true)
  (hV:∀(i j:Nat) (x p:PV),xs[i]? =some x->x.cells[j]? =some p->VP S (vals i j) p):VP S (.slice base len cap) (.slice sh xs)
 |imm (b o sh off:Nat) (v:PV) (vals:Nat->Value) (hsh:v.okSh sh=true)
  (hS:∀(j:Nat),j<szOf sh->S b (o+j)=some (vals j)/\(vals j).oneCell' =true)
  (hV:∀(j:Nat) (p:PV),v.cells[j]? =some p->VP S (vals j) p):VP S (.pointer (some ⟨b,o+off,none⟩)) (.imm sh v off)
 |map (r:Nat) (es:Array MapEntry) (ps:List (PV×PV)) (hl:es.size=ps.length) (hS:S r 0=some (zIt es))
  (hk:∀(j:Nat) (e:MapEntry) (p:PV×PV),es[j]? =some e->ps[j]? =some p->VP S e.key p.1)
  (hv:∀(j:Nat) (e:MapEntry) (p:PV×PV),es[j]? =some e->ps[j]? =some p->VP S e.val p.2):VP S (.map (some r)) (.map ps)
def Pr.le(S S' :Pr):Prop:=∀ b o v,S b o=some v->S' b o=some v
theorem Pr.le_refl(S:Pr):S.le S:=λ _ _ _ h=>h
theorem Pr.le_trans{S T U:Pr} (h:S.le T) (k:T.le U):S.le U:=λ _ _ _ x=>k _ _ _ (h _ _ _ x)
theorem VP.mono{S S' :Pr} (hs:S.le S') {v:Value} {p:PV} (h:VP S v p):VP S' v p:=by
 induction h with
 |undef v=>exact .undef v
 |off=>exact .off
 |int k n=>exact .int k n
 |bool b=>exact .bool b
 |str s=>exact .str s
 |con v h=>exact .con v h
 |nilfn=>exact .nilfn
 |agg cs ps hl h1 h ih=>exact .agg cs ps hl h1 ih
 |tup cs ps hl h ih=>exact .tup cs ps hl ih
 |fn f fs cs qs ps hm hl k h ihk ih=>exact .fn f fs cs qs ps hm hl ihk ih
 |slice base len cap sh xs b o vals hl hc hb hsh hS hV ih =>
  exact .slice base len cap sh xs b o vals hl hc hb hsh (λ i j hi hj=>⟨hs _ _ _ (hS i j hi hj).1,(hS i j hi hj).2⟩) ih
 |imm b o sh off v vals hsh hS hV ih=>exact .imm b o sh off v vals hsh (λ j hj=>⟨hs _ _ _ (hS j hj).1,(hS j hj).2⟩) ih
 |map r es ps hl hS hk hv ihk ihv=>exact .map r es ps hl (hs _ _ _ hS) ihk ihv
theorem PV.cells_len{sh:Nat} {p:PV} (h:p.okSh sh=true):p.cells.length=szOf sh:=by
 cases sh with
 |zero=>cases p<;>simp[PV.okSh]at h<;>rfl
 |succ n=>cases p<;>simp[PV.okSh]at h;rename_i cs;exact h
theorem PV.cells_of_succ{n:Nat} {p:PV} (h:p.okSh (n+1)=true):p= .agg p.cells:=by
 cases p<;>simp[PV.okSh]at h;rfl
theorem VP.cells{S:Pr} {v:Value} {p:PV} {sh:Nat} (h:VP S v p) (hsh:p.okSh sh=true) :
 v.cells.size=szOf sh/\(∀ x∈v.cells,x.oneCell' =true)/\∀(j:Nat) (x:Value) (q:PV),v.cells[j]? =some x->p.cells[j]? =some q->VP S x q:=by
 cases h with
 |undef v=>cases sh<;>simp[PV.okSh]at hsh
 |off=>cases sh<;>simp[PV.okSh]at hsh
 |agg cs ps hl h1 h =>
  refine⟨?_,h1,h⟩
  have:=PV.cells_len hsh
  simpa [Value.cells,hl,PV.cells]using this
 |tup cs ps hl h=>cases sh<;>simp[PV.okSh]at hsh
 |con v h1 =>
  cases sh with
  |zero =>
   refine⟨?_,?_,?_⟩<;>cases v<;>simp_all[Value.cells,Value.oneCell',szOf,PV.cells]
   all_goals (intro j x q hx hq;have:=zQ.1 hq;obtain⟨hj,rfl⟩:=this;simp at hj;subst hj;simp at hx;subst hx;exact VP.con _ rfl)
  |succ n=>simp[PV.okSh]at hsh
 |_ =>
  cases sh with
  |zero =>
   refine⟨by simp[Value.cells,szOf],by simp[Value.cells,Value.oneCell'],?_⟩
   intro j x q hx hq
   cases j with
   |zero =>
    simp[Value.cells]at hx
    simp[PV.cells]at hq
    subst hx;subst hq
    first
     |exact .int _ _ | exact .bool _ | exact .str _ | exact .nilfn
     |exact .fn _ _ _ _ _ ‹_› ‹_› ‹_› ‹_›
     |exact .slice _ _ _ _ _ _ _ _ ‹_› ‹_› ‹_› ‹_› ‹_› ‹_›
     |exact .imm _ _ _ _ _ _ ‹_› ‹_› ‹_›
     |exact .map _ _ _ ‹_› ‹_› ‹_› ‹_›
   |succ j=>simp[Value.cells]at hx
  |succ n=>simp[PV.okSh]at hsh
theorem VP.one{S:Pr} {v:Value} {p:PV} (h:VP S v p) (hsh:p.okSh 0=true):v.cells= #[v]/\v.oneCell' =true:=by
 cases h<;>simp[PV.okSh]at hsh<;>first
  |exact⟨rfl,rfl⟩
  |(rename_i h;exact⟨by cases v<;>simp_all[Value.cells,Value.oneCell'],h⟩)
inductive Loc where
 |blk (b:Nat)
 |row (base:Option Addr) (cap:Nat)
 |grp (b:Nat) (rs:List (Option Addr×Nat))
 |fix (sh:Nat) (base:Option Addr) (n cap:Nat)
 deriving Inhabited
def Loc.kept:Loc->Bool | .blk _=>true | .fix _ _ _ _=>true | _=>false
def VA0(S:Pr) (L:List Loc) (n:Nat) (v:Value):AV->Prop
 | .pv p=>VP S v p
 | .own o off=>∃ b,L[o]? =some (.blk b)/\o<n/\v= .pointer (some ⟨b,off,none⟩)
 | .mp o=>∃ b,L[o]? =some (.blk b)/\o<n/\v= .map (some b)
 |_=>False
def VA1(S:Pr) (L:List Loc) (ow:List Ob) (v:Value):AV->Prop
 | .pv p=>VP S v p
 | .nil _=>∃ a,v= .slice a 0 0
 | .sl b sh xs=>VP S v (.slice sh xs)/\∃ a n k,v= .slice a n k/\a.isNone=b
 | .own o off=>∃ b,L[o]? =some (.blk b)/\o<ow.length/\v= .pointer (some ⟨b,off,none⟩)
 | .mp o=>∃ b,L[o]? =some (.blk b)/\o<ow.length/\v= .map (some b)
 | .fnv f first caps=>∃ fs cs:Array Value,v= .func (.func f) fs cs/\fs.size=first.length/\cs.size=caps.length /\
  (∀(j:Nat) (x:Value) (a:AV),fs[j]? =some x->first[j]? =some a->VA0 S L ow.length x a) /\
  ∀(j:Nat) (x:Value) (a:AV),cs[j]? =some x->caps[j]? =some a->VA0 S L ow.length x a
 | .view o ver sb=>(∃ a n k,v= .slice a n k)/\match ow[o]? with
  |some (.row _ ver' sh xs)=>ver<=ver' /\(ver=ver' ->∃ base cap,L[o]? =some (.row base cap) /\
   match sb with
   |none=>v= .slice base xs.length cap
   |some (lo,n)=>lo+n<=xs.length/\∃ base',v= .slice base' n (cap-lo)/\(0<cap-lo->∃ b o0,base=some ⟨b,o0,none⟩/\base' =some ⟨b,o0+lo*szOf sh,none⟩))
  |some (.fix ver' sh xs)=>ver<=ver' /\(ver=ver' ->∃ base cap,L[o]? =some (.fix sh base xs.length cap) /\
   match sb with
   |none=>v= .slice base xs.length cap
   |some (lo,n)=>lo+n<=xs.length/\∃ base',v= .slice base' n (cap-lo)/\(0<cap-lo->∃ b o0,base=some ⟨b,o0,none⟩/\base' =some ⟨b,o0+lo*szOf sh,none⟩))
  |some .dead=>True
  |_=>False
 | .elem o ver i off=>(∃ a,v= .pointer (some a))/\match ow[o]? with
  |some (.row _ ver' sh xs)=>ver<=ver' /\(ver=ver' ->i<xs.length/\∃ b o0 cap,L[o]? =some (.row (some ⟨b,o0,none⟩) cap)/\v= .pointer (some ⟨b,o0+i*szOf sh+off,none⟩))
  |some (.fix ver' sh xs)=>ver<=ver' /\(ver=ver' ->i<xs.length/\∃ b o0 cap,L[o]? =some (.fix sh (some ⟨b,o0,none⟩) xs.length cap)/\v= .pointer (some ⟨b,o0+i*szOf sh+off,none⟩))
  |some .dead=>True
  |_=>False
 | .fx o sh=>∃ base n cap,L[o]? =some (.fix sh base n cap)/\o<ow.length/\v= .slice base n cap
 | .fe o i off=>∃ sh b o0 n cap,L[o]? =some (.fix sh (some ⟨b,o0,none⟩) n cap)/\o<ow.length/\i<n/\v= .pointer (some ⟨b,o0+i*szOf sh+off,none⟩)
 | .gm o=>∃ b,v= .map (some b)/\match ow[o]? with
  |some (.grp _ _ _)=>∃ rs,L[o]? =some (.grp b rs)
  |some .dead=>True
  |_=>False
 | .agg _=>False
 | .tupA _=>False
def VA2(S:Pr) (L:List Loc) (ow:List Ob) (v:Value):AV->Prop
 | .agg cs=>∃ vs:Array Value,v= .agg vs/\vs.size=cs.length/\(∀ x∈vs,x.oneCell' =true)/\∀(j:Nat) (x:Value) (c:AV),vs[j]? =some x->cs[j]? =some c->VA1 S L ow x c
 |a=>VA1 S L ow v a
def VA(S:Pr) (L:List Loc) (ow:List Ob) (v:Value):AV->Prop
 | .agg cs=>∃ vs:Array Value,v= .agg vs/\vs.size=cs.length/\(∀ x∈vs,x.oneCell' =true)/\∀(j:Nat) (x:Value) (c:AV),vs[j]? =some x->cs[j]? =some c->VA1 S L ow x c
 | .tupA as=>∃ vs:Array Value,v= .tuple vs/\vs.size=as.length/\∀(j:Nat) (x:Value) (a:AV),vs[j]? =some x->as[j]? =some a->VA2 S L ow x a
 |a=>VA1 S L ow v a
theorem VA.of2{S:Pr} {L:List Loc} {ow:List Ob} {v:Value} {a:AV} (h:VA2 S L ow v a):VA S L ow v a:=by
 cases a<;>first | exact h | exact h.elim
theorem VA.pv{S:Pr} {L:List Loc} {ow:List Ob} {v:Value} {p:PV}:VA S L ow v (.pv p)↔VP S v p:=Iff.rfl
def RowR(S:Pr) (w:World) (sh:Nat) (xs:List PV) (base:Option Addr) (cap:Nat):Prop :=
 xs.length<=cap/\(∀ x∈xs,x.okSh sh=true)/\(cap=0∨∃(b o0:Nat) (cs:Array Value) (t:TypeId),
  base=some ⟨b,o0,none⟩/\w.heap[b]? =some (.cells cs t (0,0))/\o0+cap*szOf sh<=cs.size /\
  ∀(i j:Nat),i<xs.length->j<szOf sh->∃ v,cs[o0+i*szOf sh+j]? =some v/\v.oneCell' =true /\
   (∀(x p:PV),xs[i]? =some x->x.cells[j]? =some p->VP S v p)/\(true=true->S b (o0+i*szOf sh+j)=some v))
def rowB(r:Option Addr×Nat):List Nat:=if r.2=0 then []else(r.1.map (·.block)).toList
def ObR(S:Pr) (L:List Loc) (ow:List Ob) (w:World):Ob->Loc->Prop
 | .var fz sh a,.blk b=>∃ cs t v,w.heap[b]? =some (.cells cs t (0,0))/\VA S L ow v a/\a.okSh sh=true/\v.cells=cs /\
  (fz=true->(∃ p,a= .pv p)/\∀(j:Nat) (x:Value),cs[j]? =some x->S b j=some x)
 | .row sl ver sh xs,.row base cap=>xs.length<=cap/\(∀ x∈xs,x.okSh sh=true)/\(cap=0∨∃(b o0:Nat) (cs:Array Value) (t:TypeId),
  base=some ⟨b,o0,none⟩/\w.heap[b]? =some (.cells cs t (0,0))/\o0+cap*szOf sh<=cs.size /\
  ∀(i j:Nat),i<xs.length->j<szOf sh->∃ v,cs[o0+i*szOf sh+j]? =some v/\v.oneCell' =true /\
   (∀(x p:PV),xs[i]? =some x->x.cells[j]? =some p->VP S v p)/\(sl=true->S b (o0+i*szOf sh+j)=some v))
 | .sit s pos,.blk b=>w.heap[b]? =some (.stringIter s pos)
 | .map sl es,.blk b=>∃ as n,w.heap[b]? =some (.map as n)/\as.size=es.length/\(n=as.size/\∀(j:Nat) (e:MapEntry),as[j]? =some e->e.born=j) /\
  (∀(j:Nat) (e:MapEntry) (p:PV×PV),as[j]? =some e->es[j]? =some p->VP S e.key p.1/\VP S e.val p.2)/\(sl=true->S b 0=some (zIt as))
 | .grp sh out es,.grp b rs=>∃ as n,w.heap[b]? =some (.map as n)/\as.size=es.length/\rs.length=es.length/\n=es.length /\
  (∀(j:Nat) (e:MapEntry) (p:PV×PV) (r:Option Addr×Nat),as[j]? =some e->es[j]? =some p->rs[j]? =some r->VP S e.key p.1/\VP S e.val p.2/\e.born=j /\
   (out=some j->r=(none,0))/\(out≠some j->∃ xs,p.2= .slice sh xs/\e.val= .slice r.1 xs.length r.2/\RowR S w sh xs r.1 r.2)) /\
  (∀(i j b' :Nat) (r r' :Option Addr×Nat),rs[i]? =some r->rs[j]? =some r' ->b' ∈rowB r->b' ∈rowB r' ->i=j) /\
  (∀(j:Nat) (r:Option Addr×Nat),rs[j]? =some r->b∉rowB r)/\∀ j,out=some j->j<es.length
 | .fix ver sh xs,.fix sh' base n cap=>sh' =sh/\n=xs.length/\xs.length<=cap/\(∀ x∈xs,x.okSh sh=true)/\(cap=0∨∃(b o0:Nat) (cs:Array Value) (t:TypeId),
  base=some ⟨b,o0,none⟩/\w.heap[b]? =some (.cells cs t (0,0))/\o0+cap*szOf sh<=cs.size /\
  ∀(i j:Nat),i<xs.length->j<szOf sh->∃ v,cs[o0+i*szOf sh+j]? =some v/\v.oneCell' =true /\
   (∀(x p:PV),xs[i]? =some x->x.cells[j]? =some p->VP S v p))
 | .dead,_=>True
 |_,_=>False
def zZ:Ob->Loc->List Nat
 | .dead,_=>[]
 |_,.blk b=>[b]
 |_,.row base cap=>if cap=0 then []else(base.map (·.block)).toList
 |_,.grp b rs=>b::(rs.map rowB).flatten
 |_,.fix _ base _ cap=>if cap=0 then []else(base.map (·.block)).toList
def mayS:Ob->Loc->Nat->Nat->Prop
 | .var fz _ _,_,_,_=>fz=true
 | .row sl _ sh xs,.row (some a) _,_,j=>sl=true/\j<a.off+xs.length*szOf sh
 | .map sl _,_,_,j=>sl=true/\j=0
 | .grp sh _ es,.grp _ rs,b,j=>∃(i:Nat) (a:Addr) (cap:Nat) (p:PV×PV) (xs:List PV),rs[i]? =some (some a,cap)/\cap≠0/\es[i]? =some p/\p.2= .slice sh xs/\b=a.block/\j<a.off+xs.length*szOf sh
 |_,_,_,_=>False
structure Base where
 w:World
 ex:Nat->Prop:=λ _=>False
 anc:List Loc:=[]
def Base.old(B:Base) (b:Nat):Prop:=b<B.w.heap.size/\¬ B.ex b
structure Stays (B:Base) (w:World):Prop where
 os:w.os=B.w.os
 tape:w.tape=B.w.tape
 output:w.output=B.w.output
 size:B.w.heap.size<=w.heap.size
 block:∀ k,B.old k->w.heap[k]? =B.w.heap[k]?
theorem Stays.refl(B:Base):Stays B B.w:=⟨rfl,rfl,rfl,zM _,λ _ _=>rfl⟩
theorem Stays.grow{B:Base} {w w' :World} (h:Stays B w) (k:Below w.heap.size w w'):Stays B w' :=
 ⟨k.os.trans h.os,k.tape.trans h.tape,k.output.trans h.output,Nat.le_trans h.size k.size,λ b hb=>(k.block b (zB1 hb.1 h.size)).trans (h.block b hb)⟩
class Gl where
 tab:Nat->Obj->Prop
@[reducible] def Gl.triv:Gl:=⟨λ _ _=>False⟩
variable [GL:Gl]
def Gl.here(w:World):Prop:=∀ g X,GL.tab g X->w.heap[g]? =some X
def Gl.ok(B:Base):Prop:=∀ g X,GL.tab g X->B.old g/\B.w.heap[g]? =some X
theorem Gl.ok_here{B:Base} {w:World} (h:Gl.ok B) (k:Stays B w):Gl.here w:=λ g X hg=>by
 obtain⟨h1,h2⟩:=h g X hg
 rw[k.block g h1,h2]
structure Inv (w0:Base) (S0 S:Pr) (L:List Loc) (ow:List Ob) (w:World):Prop where
 len:L.length=ow.length
 below:Stays w0 w
 prot:∀ b o v,S b o=some v->memV w b o=some v
 old:∀ b o,w0.old b->S b o=S0 b o
 le:S0.le S
 glob:Gl.ok w0
 anc:∀(j:Nat) (l:Loc),w0.anc[j]? =some l->l.kept=true->L[j]? =some l/\j<ow.length
 obs:∀(o:Nat) (ob:Ob) (l:Loc),ow[o]? =some ob->L[o]? =some l->ObR S L ow w ob l
 own:∀(o:Nat) (ob:Ob) (l:Loc) (b:Nat),ow[o]? =some ob->L[o]? =some l->b∈zZ ob l ->
  ¬ w0.old b/\b<w.heap.size/\∀ j v,S b j=some v->mayS ob l b j
 sep:∀(o o' :Nat) (ob ob' :Ob) (l l' :Loc) (b:Nat),ow[o]? =some ob->L[o]? =some l->ow[o']? =some ob' ->L[o']? =some l' ->
  b∈zZ ob l->b∈zZ ob' l' ->o=o'
def Evo(S:Pr) (L:List Loc) (ow:List Ob) (S' :Pr) (L' :List Loc) (ow' :List Ob):Prop :=
 S.le S' /\∀ v a,VA S L ow v a->VA S' L' ow' v a
theorem Evo.refl(S:Pr) (L:List Loc) (ow:List Ob):Evo S L ow S L ow:=⟨Pr.le_refl S,λ _ _ h=>h⟩
theorem Evo.trans{S S' S'' :Pr} {L L' L'' :List Loc} {ow ow' ow'' :List Ob} (h:Evo S L ow S' L' ow') (k:Evo S' L' ow' S'' L'' ow''):Evo S L ow S'' L'' ow'' :=
 ⟨Pr.le_trans h.1 k.1,λ v a x=>k.2 _ _ (h.2 _ _ x)⟩
theorem Evo.anc{S S' :Pr} {L L' :List Loc} {ow ow' :List Ob} {A:List Loc} (h:Evo S L ow S' L' ow') (k:∀(j:Nat) (l:Loc),A[j]? =some l->l.kept=true->L[j]? =some l/\j<ow.length) :
 ∀(j:Nat) (l:Loc),A[j]? =some l->l.kept=true->L'[j]? =some l/\j<ow'.length:=λ j l hj hk=>by
 obtain⟨h0,h0'⟩:=k j l hj hk
 cases l with
 |blk b =>
  obtain⟨b',h1,h2,h3⟩:=h.2 (.pointer (some ⟨b,0,none⟩)) (.own j 0) ⟨b,h0,h0',rfl⟩
  simp only[Value.pointer.injEq,zE,Addr.mk.injEq,and_true]at h3
  rw[<- h3]at h1
  exact⟨h1,h2⟩
 |fix sh base n cap =>
  obtain⟨base',n',cap',h1,h2,h3⟩:=h.2 (.slice base n cap) (.fx j sh) ⟨base,n,cap,h0,h0',rfl⟩
  simp only[Value.slice.injEq]at h3
  obtain⟨rfl,h5,rfl⟩:=h3
  have h6:n=n' :=by omega
  subst h6
  exact⟨h1,h2⟩
 |_=>cases hk
theorem Evo.of1{S S' :Pr} {L L' :List Loc} {ow ow' :List Ob} (hs:S.le S') (h:∀ v a,VA1 S L ow v a->VA1 S' L' ow' v a):Evo S L ow S' L' ow' :=by
 refine⟨hs,λ v a hv=> ?_⟩
 cases a with
 |agg cs =>
  obtain⟨vs,e,hl,h1,h2⟩:=hv
  exact⟨vs,e,hl,h1,λ j x c hx hc=>h _ _ (h2 j x c hx hc)⟩
 |tupA as =>
  obtain⟨vs,e,hl,h2⟩:=hv
  refine⟨vs,e,hl,λ j x a hx ha=> ?_⟩
  have h3:=h2 j x a hx ha
  cases a with
  |agg cs =>
   obtain⟨us,e,hl,h1,h2⟩:=h3
   exact⟨us,e,hl,h1,λ j x c hx hc=>h _ _ (h2 j x c hx hc)⟩
  |pv p=>exact h x (.pv p) h3
  |nil sh=>exact h x (.nil sh) h3
  |view o ver sb=>exact h x (.view o ver sb) h3
  |own o off=>exact h x (.own o off) h3
  |elem o ver i off=>exact h x (.elem o ver i off) h3
  |mp o=>exact h x (.mp o) h3
  |fnv f fs cs=>exact h x (.fnv f fs cs) h3
  |sl b sh xs=>exact h x (.sl b sh xs) h3
  |gm o=>exact h x (.gm o) h3
  |fx o sh=>exact h x (.fx o sh) h3
  |fe o i off=>exact h x (.fe o i off) h3
  |tupA as=>exact h3.elim
 |pv p=>exact h v (.pv p) hv
 |nil sh=>exact h v (.nil sh) hv
 |view o ver sb=>exact h v (.view o ver sb) hv
 |own o off=>exact h v (.own o off) hv
 |elem o ver i off=>exact h v (.elem o ver i off) hv
 |mp o=>exact h v (.mp o) hv
 |fnv f fs cs=>exact h v (.fnv f fs cs) hv
 |sl b sh xs=>exact h v (.sl b sh xs) hv
 |gm o=>exact h v (.gm o) hv
 |fx o sh=>exact h v (.fx o sh) hv
 |fe o i off=>exact h v (.fe o i off) hv
theorem Evo.grow{S S' :Pr} (hs:S.le S') (L:List Loc) (ow:List Ob):Evo S L ow S' L ow:=by
 refine .of1 hs λ v a h=> ?_
 cases a with
 |pv p=>exact VP.mono hs h
 |sl b sh xs=>exact⟨VP.mono hs h.1,h.2⟩
 |fnv f first caps =>
  obtain⟨fs,cs,e,hm,hl,k1,k2⟩:=h
  refine⟨fs,cs,e,hm,hl,λ j x a hx ha=> ?_,λ j x a hx ha=> ?_⟩
  ·have:=k1 j x a hx ha
   cases a<;>first | exact VP.mono hs this | exact this
  ·have:=k2 j x a hx ha
   cases a<;>first | exact VP.mono hs this | exact this
 |_=>exact h
theorem VA0.to{S S' :Pr} {L L' :List Loc} {n n' :Nat} (hs:S.le S') (h:∀(o:Nat) b,L[o]? =some (.blk b)->o<n->L'[o]? =some (.blk b)/\o<n') {v:Value} {a:AV} (k:VA0 S L n v a):VA0 S' L' n' v a:=by
 cases a with
 |pv p=>exact VP.mono hs k
 |own o off=>obtain⟨b,h1,h2,h3⟩:=k;exact⟨b,(h _ _ h1 h2).1,(h _ _ h1 h2).2,h3⟩
 |mp o=>obtain⟨b,h1,h2,h3⟩:=k;exact⟨b,(h _ _ h1 h2).1,(h _ _ h1 h2).2,h3⟩
 |_=>exact k
theorem Evo.push(S:Pr) (L:List Loc) (ow:List Ob) (hl:L.length=ow.length) (l:Loc) (ob:Ob):Evo S L ow S (L++[l]) (ow++[ob]):=by
 refine .of1 (Pr.le_refl S) λ v a h=> ?_
 have hL:∀ o x,L[o]? =some x->(L++[l])[o]? =some x:=λ o x hx=>by rw[zAW (zQ.1 hx).1];exact hx
 have hO:∀ o x,ow[o]? =some x->(ow++[ob])[o]? =some x:=λ o x hx=>by rw[zAW (zQ.1 hx).1];exact hx
 cases a with
 |pv p=>exact h
 |nil sh=>exact h
 |sl b sh xs=>exact h
 |agg cs=>exact h
 |own o off=>obtain⟨b,h1,h2,h3⟩:=h;exact⟨b,hL _ _ h1,by simp;omega,h3⟩
 |mp o=>obtain⟨b,h1,h2,h3⟩:=h;exact⟨b,hL _ _ h1,by simp;omega,h3⟩
 |tupA as=>exact h
 |fnv f first caps =>
  obtain⟨fs,cs,e,hm,hl,k1,k2⟩:=h
  exact⟨fs,cs,e,hm,hl,λ j x a hx ha=>(k1 j x a hx ha).to (Pr.le_refl S) λ o b h1 h2=>⟨hL _ _ h1,by simp;omega⟩,
   λ j x a hx ha=>(k2 j x a hx ha).to (Pr.le_refl S) λ o b h1 h2=>⟨hL _ _ h1,by simp;omega⟩⟩
 |view o ver sb =>
  simp only[VA1]at h ⊢
  refine⟨h.1,?_⟩
  replace h:=h.2
  cases hx:ow[o]? with
  |none=>rw[hx]at h;exact h.elim
  |some x =>
   rw[hx]at h;rw[hO _ _ hx]
   cases x<;>simp only at h ⊢
   all_goals
    refine⟨h.1,λ e=> ?_⟩
    obtain⟨base,cap,h1,h2⟩:=h.2 e
    exact⟨base,cap,hL _ _ h1,h2⟩
 |elem o ver i off =>
  simp only[VA1]at h ⊢
  refine⟨h.1,?_⟩
  replace h:=h.2
  cases hx:ow[o]? with
  |none=>rw[hx]at h;exact h.elim
  |some x =>
   rw[hx]at h;rw[hO _ _ hx]
   cases x<;>simp only at h ⊢
   all_goals
    refine⟨h.1,λ e=> ?_⟩
    obtain⟨hi,b,o0,cap,h1,h2⟩:=h.2 e
    exact⟨hi,b,o0,cap,hL _ _ h1,h2⟩
 |fx o sh=>obtain⟨base,n,cap,h1,h2,h3⟩:=h;exact⟨base,n,cap,hL _ _ h1,by simp;omega,h3⟩
 |fe o i off=>obtain⟨sh,b,o0,n,cap,h1,h2,h3⟩:=h;exact⟨sh,b,o0,n,cap,hL _ _ h1,by simp;omega,h3⟩
 |gm o =>
  simp only[VA1]at h ⊢
  obtain⟨b,e,h⟩:=h
  refine⟨b,e,?_⟩
  cases hx:ow[o]? with
  |none=>rw[hx]at h;exact h.elim
  |some x =>
   rw[hx]at h;rw[hO _ _ hx]
   cases x<;>simp only at h ⊢
   obtain⟨rs,h1⟩:=h
   exact⟨rs,hL _ _ h1⟩
end Go.Ab

namespace Go.Ab
open Go.RowKit (Below)
variable [GL:Gl]
theorem RowR.keep{S S' :Pr} {w w' :World} {sh:Nat} {xs:List PV} {base:Option Addr} {cap:Nat} (h:RowR S w sh xs base cap) (hE:S.le S')
 (hb:∀ b,b∈rowB (base,cap)->w'.heap[b]? =w.heap[b]?):RowR S' w' sh xs base cap:=by
 obtain⟨h1,h2,h3⟩:=h
 refine⟨h1,h2,?_⟩
 rcases h3 with h3 | ⟨b,o0,cs,t,e,hh,hs,hx⟩
 ·exact .inl h3
 ·by_cases hc:cap=0
  ·exact .inl hc
  ·refine .inr ⟨b,o0,cs,t,e,by rw[hb b (by simp[rowB,hc,e])];exact hh,hs,λ i j hi hj=> ?_⟩
   obtain⟨v,k1,k2,k3,k4⟩:=hx i j hi hj
   exact⟨v,k1,k2,λ x p hx hp=>(k3 x p hx hp).mono hE,λ hz=>hE _ _ _ (k4 hz)⟩
theorem ObR.keep{S S' :Pr} {L L' :List Loc} {ow ow' :List Ob} {w w' :World} {ob:Ob} {l:Loc} (h:ObR S L ow w ob l) (hE:Evo S L ow S' L' ow')
 (hb:∀ b,b∈zZ ob l->w'.heap[b]? =w.heap[b]?):ObR S' L' ow' w' ob l:=by
 cases ob with
 |dead=>trivial
 |var fz sh a =>
  cases l with
  |grp b rs=>exact h.elim
  |fix s b n k=>exact h.elim
  |row base cap=>exact h.elim
  |blk b =>
   obtain⟨cs,t,v,h1,h2,h3,h4,h5⟩:=h
   exact⟨cs,t,v,by rw[hb b (by simp[zZ])];exact h1,hE.2 _ _ h2,h3,h4,λ hz=>⟨(h5 hz).1,λ j x hx=>hE.1 _ _ _ ((h5 hz).2 j x hx)⟩⟩
 |row sl ver sh xs =>
  cases l with
  |grp b rs=>exact h.elim
  |fix s b n k=>exact h.elim
  |blk b=>exact h.elim
  |row base cap =>
   obtain⟨h1,h2,h3⟩:=h
   refine⟨h1,h2,?_⟩
   rcases h3 with h3 | ⟨b,o0,cs,t,e,hh,hs,hx⟩
   ·exact .inl h3
   ·by_cases hc:cap=0
    ·exact .inl hc
    ·refine .inr ⟨b,o0,cs,t,e,by rw[hb b (by simp[zZ,hc,e])];exact hh,hs,λ i j hi hj=> ?_⟩
     obtain⟨v,k1,k2,k3,k4⟩:=hx i j hi hj
     exact⟨v,k1,k2,λ x p hx hp=>(k3 x p hx hp).mono hE.1,λ hz=>hE.1 _ _ _ (k4 hz)⟩
 |sit s pos =>
  cases l with
  |grp b rs=>exact h.elim
  |fix s b n k=>exact h.elim
  |row base cap=>exact h.elim
  |blk b=>show w'.heap[b]? =_;rw[hb b (by simp[zZ])];exact h
 |map sl es =>
  cases l with
  |grp b rs=>exact h.elim
  |fix s b n k=>exact h.elim
  |row base cap=>exact h.elim
  |blk b =>
   obtain⟨as,n,h1,h2,hB,h3,h4⟩:=h
   exact⟨as,n,by rw[hb b (by simp[zZ])];exact h1,h2,hB,λ j e p he hp=>⟨(h3 j e p he hp).1.mono hE.1,(h3 j e p he hp).2.mono hE.1⟩,λ hz=>hE.1 _ _ _ (h4 hz)⟩
 |fix ver sh xs =>
  cases l with
  |row base cap=>exact h.elim
  |blk b=>exact h.elim
  |grp b rs=>exact h.elim
  |fix s base n cap =>
   obtain⟨h1,h2,h3,h4,h5⟩:=h
   refine⟨h1,h2,h3,h4,?_⟩
   rcases h5 with h5 | ⟨b,o0,cs,t,e,hh,hs,hx⟩
   ·exact .inl h5
   ·by_cases hc:cap=0
    ·exact .inl hc
    ·refine .inr ⟨b,o0,cs,t,e,by rw[hb b (by simp[zZ,hc,e])];exact hh,hs,λ i j hi hj=> ?_⟩
     obtain⟨v,k1,k2,k3⟩:=hx i j hi hj
     exact⟨v,k1,k2,λ x p hx hp=>(k3 x p hx hp).mono hE.1⟩
 |grp sh out es =>
  cases l with
  |row base cap=>exact h.elim
  |blk b=>exact h.elim
  |fix s b n k=>exact h.elim
  |grp b rs =>
   obtain⟨as,n,h1,h2,h3,h4,h5,h6,h7⟩:=h
   refine⟨as,n,by rw[hb b (by simp[zZ])];exact h1,h2,h3,h4,λ j e p r he hp hr=> ?_,h6,h7⟩
   obtain⟨k1,k2,k3,k4,k5⟩:=h5 j e p r he hp hr
   refine⟨k1.mono hE.1,k2.mono hE.1,k3,k4,λ ho=> ?_⟩
   obtain⟨xs,m1,m2,m3⟩:=k5 ho
   refine⟨xs,m1,m2,m3.keep hE.1 λ b' hb' =>hb b' ?_⟩
   simp only[zZ,zAE,List.mem_flatten,zAh]
   exact .inr ⟨_,⟨r,zAV hr,rfl⟩,hb'⟩
section
variable {w0:Base} {S0 S S' :Pr} {L L' :List Loc} {ow ow' :List Ob} {w w' :World}
theorem Inv.old_trans(inv:Inv w0 S0 S L ow w) (hS:∀ b o,b<w.heap.size->S' b o=S b o):∀ b o,w0.old b->S' b o=S0 b o :=
 λ b o hb=>(hS b o (zB1 hb.1 inv.below.size)).trans (inv.old b o hb)
theorem Inv.grow(inv:Inv w0 S0 S L ow w) (hB:Below w.heap.size w w') (hle:S.le S') (hS:∀ b o,b<w.heap.size->S' b o=S b o)
 (hp:∀ b o v,S' b o=some v->memV w' b o=some v):Inv w0 S0 S' L ow w' where
 len:=inv.len
 below:=inv.below.grow hB
 prot:=hp
 old:=inv.old_trans hS
 le:=Pr.le_trans inv.le hle
 glob:=inv.glob
 anc:=inv.anc
 obs:=λ o ob l ho hl=>(inv.obs o ob l ho hl).keep (Evo.grow hle L ow) (λ b hb=>hB.block b (inv.own o ob l b ho hl hb).2.1)
 own:=λ o ob l b ho hl hb=>by
  obtain⟨h1,h2,h3⟩:=inv.own o ob l b ho hl hb
  exact⟨h1,zB1 h2 hB.size,λ j v hv=>h3 j v (by rw[hS b j h2]at hv;exact hv)⟩
 sep:=inv.sep
theorem Inv.push(inv:Inv w0 S0 S L ow w) {ob:Ob} {l:Loc} (hB:Below w.heap.size w w') (hle:S.le S') (hS:∀ b o,b<w.heap.size->S' b o=S b o)
 (hp:∀ b o v,S' b o=some v->memV w' b o=some v) (hob:ObR S' (L++[l]) (ow++[ob]) w' ob l)
 (hn:∀ b,b∈zZ ob l->w.heap.size<=b/\b<w'.heap.size/\∀ j v,S' b j=some v->mayS ob l b j) :
 Inv w0 S0 S' (L++[l]) (ow++[ob]) w' /\Evo S L ow S' (L++[l]) (ow++[ob]):=by
 have hE:Evo S L ow S' (L++[l]) (ow++[ob]):=(Evo.push S L ow inv.len l ob).trans (Evo.grow hle _ _)
 have g:=inv.grow hB hle hS hp
 have at_:∀ o x,(ow++[ob])[o]? =some x->(ow[o]? =some x/\o<ow.length)∨(o=ow.length/\x=ob):=λ o x hx=>by
  rcases Nat.lt_or_ge o ow.length with h | h
  ·rw[zAW h]at hx;exact .inl ⟨hx,h⟩
  ·rw[zAO h]at hx
   have hlt:=(zQ.1 hx).1
   simp at hlt
   have:o=ow.length:=by omega
   subst this;simp at hx;exact .inr ⟨rfl,hx.symm⟩
 have atL:∀ o x,o<ow.length->(L++[l])[o]? =some x->L[o]? =some x:=λ o x h hx=>by
  rwa [zAW (by rw[inv.len];exact h)]at hx
 have atN:∀ x,(L++[l])[ow.length]? =some x->x=l:=λ x hx=>by
  rw[zAO (by rw[inv.len];exact zM _),inv.len]at hx;simp at hx;exact hx.symm
 refine⟨⟨by simp[inv.len],g.below,hp,g.old,g.le,g.glob,hE.anc inv.anc,?_,?_,?_⟩,hE⟩
 ·intro o x y hx hy
  rcases at_ o x hx with⟨h,hlt⟩ | ⟨rfl,rfl⟩
  ·exact(inv.obs o x y h (atL _ _ hlt hy)).keep hE (λ b hb=>hB.block b (inv.own o x y b h (atL _ _ hlt hy) hb).2.1)
  ·rw[atN _ hy];exact hob
 ·intro o x y b hx hy hb
  rcases at_ o x hx with⟨h,hlt⟩ | ⟨rfl,rfl⟩
  ·exact g.own o x y b h (atL _ _ hlt hy) hb
  ·rw[atN _ hy]at hb ⊢
   obtain⟨h1,h2,h3⟩:=hn b hb
   exact⟨λ h=>absurd (zB1 h.1 (Nat.le_trans inv.below.size h1)) (Nat.lt_irrefl _),h2,h3⟩
 ·intro o o' x x' y y' b hx hy hx' hy' hb hb'
  rcases at_ o x hx with⟨h,hlt⟩ | ⟨rfl,rfl⟩<;>rcases at_ o' x' hx' with⟨h',hlt'⟩ | ⟨rfl,rfl⟩
  ·exact inv.sep o o' x x' y y' b h (atL _ _ hlt hy) h' (atL _ _ hlt' hy') hb hb'
  ·rw[atN _ hy']at hb'
   have h1:=(hn b hb').1
   have h2:=(inv.own o x y b h (atL _ _ hlt hy) hb).2.1
   omega
  ·rw[atN _ hy]at hb
   have h1:=(hn b hb).1
   have h2:=(inv.own o' x' y' b h' (atL _ _ hlt' hy') hb').2.1
   omega
  ·rfl
theorem Inv.turn(inv:Inv w0 S0 S L ow w) {o:Nat} {ob ob' :Ob} {l l' :Loc} (ho:ow[o]? =some ob) (hl:L[o]? =some l)
 (hE:Evo S L ow S' (L.set o l') (ow.set o ob'))
 (hsz:w.heap.size<=w'.heap.size) (hos:w'.os=w.os) (htape:w'.tape=w.tape) (hout:w'.output=w.output)
 (hb:∀ b,b<w.heap.size->b∉zZ ob l->w'.heap[b]? =w.heap[b]?)
 (hS:∀ b j,b<w.heap.size->b∉zZ ob l->S' b j=S b j)
 (hp:∀ b o v,S' b o=some v->memV w' b o=some v)
 (hob:ObR S' (L.set o l') (ow.set o ob') w' ob' l')
 (hn:∀ b,b∈zZ ob' l' ->(w.heap.size<=b∨b∈zZ ob l)/\b<w'.heap.size/\∀ j v,S' b j=some v->mayS ob' l' b j) :
 Inv w0 S0 S' (L.set o l') (ow.set o ob') w' :=by
 have hlt:o<ow.length:=(zQ.1 ho).1
 have hltL:o<L.length:=(zQ.1 hl).1
 have at_:∀ i x,(ow.set o ob')[i]? =some x->(i≠o/\ow[i]? =some x)∨(i=o/\x=ob'):=λ i x hx=>by
  by_cases e:i=o
  ·subst e;rw[zAJ hlt]at hx;exact .inr ⟨rfl,(Option.some.inj hx).symm⟩
  ·rw[zAr (Ne.symm e)]at hx;exact .inl ⟨e,hx⟩
 have atL:∀ i x,i≠o->(L.set o l')[i]? =some x->L[i]? =some x:=λ i x e hx=>by rwa [zAr (Ne.symm e)]at hx
 have atN:∀ x,(L.set o l')[o]? =some x->x=l' :=λ x hx=>by rw[zAJ hltL]at hx;exact(Option.some.inj hx).symm
 have mine:∀ b,b∈zZ ob l->¬ w0.old b:=λ b h=>(inv.own o ob l b ho hl h).1
 refine⟨by simp[inv.len],⟨hos.trans inv.below.os,htape.trans inv.below.tape,hout.trans inv.below.output,Nat.le_trans inv.below.size hsz,?_⟩,hp,?_,Pr.le_trans inv.le hE.1,inv.glob,hE.anc inv.anc,?_,?_,?_⟩
 ·intro k hk
  rw[hb k (zB1 hk.1 inv.below.size) (λ e=>mine k e hk)]
  exact inv.below.block k hk
 ·intro b j hk
  rw[hS b j (zB1 hk.1 inv.below.size) (λ e=>mine b e hk)]
  exact inv.old b j hk
 ·intro i x y hx hy
  rcases at_ i x hx with⟨e,h⟩ | ⟨rfl,rfl⟩
  ·have hy' :=atL _ _ e hy
   exact(inv.obs i x y h hy').keep hE (λ b hbk=>hb b (inv.own i x y b h hy' hbk).2.1 (λ e' =>e (inv.sep i o x ob y l b h hy' ho hl hbk e')))
  ·rw[atN _ hy];exact hob
 ·intro i x y b hx hy hbk
  rcases at_ i x hx with⟨e,h⟩ | ⟨rfl,rfl⟩
  ·have hy' :=atL _ _ e hy
   obtain⟨h1,h2,h3⟩:=inv.own i x y b h hy' hbk
   exact⟨h1,zB1 h2 hsz,λ j v hv=>h3 j v (by rw[hS b j h2 (λ e' =>e (inv.sep i o x ob y l b h hy' ho hl hbk e'))]at hv;exact hv)⟩
  ·rw[atN _ hy]at hbk ⊢
   obtain⟨h1,h2,h3⟩:=hn b hbk
   refine⟨?_,h2,h3⟩
   rcases h1 with h1 | h1
   ·exact λ h=>absurd (zB1 h.1 (Nat.le_trans inv.below.size h1)) (Nat.lt_irrefl _)
   ·exact mine b h1
 ·intro i i' x x' y y' b hx hy hx' hy' hbk hbk'
  rcases at_ i x hx with⟨e,h⟩ | ⟨rfl,rfl⟩<;>rcases at_ i' x' hx' with⟨e',h'⟩ | ⟨rfl,rfl⟩
  ·exact inv.sep i i' x x' y y' b h (atL _ _ e hy) h' (atL _ _ e' hy') hbk hbk'
  ·rw[atN _ hy']at hbk'
   have h2:=(inv.own i x y b h (atL _ _ e hy) hbk).2.1
   rcases(hn b hbk').1 with h1 | h1
   ·omega
   ·exact inv.sep i i' x ob y l b h (atL _ _ e hy) ho hl hbk h1
  ·rw[atN _ hy]at hbk
   have h2:=(inv.own i' x' y' b h' (atL _ _ e' hy') hbk').2.1
   rcases(hn b hbk).1 with h1 | h1
   ·omega
   ·exact(inv.sep i' i x' ob y' l b h' (atL _ _ e' hy') ho hl hbk' h1).symm
  ·rfl
theorem Evo.turn{o:Nat} {ob ob' :Ob} {l l' :Loc} (ho:ow[o]? =some ob) (hl:L[o]? =some l) (hle:S.le S') (hb:∀ k,l=k->k.kept=true->l' =k)
 (hr:match ob with
  | .row _ ver sh xs=>(match ob' with
   | .dead=>True
   | .row _ ver' sh' xs' =>sh' =sh/\ver<=ver' /\(ver' =ver->xs'.length=xs.length/\l' =l)
   | .fix ver' sh' xs' =>sh' =sh/\ver' =ver/\xs'.length=xs.length/\∃ base cap,l= .row base cap/\l' = .fix sh base xs.length cap
   |_=>False)
  | .dead=>ob' = .dead
  | .fix ver sh xs=>(match ob' with
   | .dead=>True
   | .fix ver' sh' xs' =>sh' =sh/\ver' =ver/\xs'.length=xs.length
   |_=>False)
  | .grp _ _ _=>(match ob' with
   | .dead=>True
   | .grp _ _ _=>∃ b rs rs',l= .grp b rs/\l' = .grp b rs'
   |_=>False)
  |_=>True):Evo S L ow S' (L.set o l') (ow.set o ob'):=by
 have hlt:o<ow.length:=(zQ.1 ho).1
 have hltL:o<L.length:=(zQ.1 hl).1
 have hLk:∀(i:Nat) k,L[i]? =some k->k.kept=true->i<ow.length->(L.set o l')[i]? =some k/\i<(ow.set o ob').length:=λ i b h1 hk h2=>by
  refine⟨?_,by simpa using h2⟩
  by_cases e:i=o
  ·subst e;rw[zAJ hltL];rw[hl]at h1;rw[hb b (Option.some.inj h1) hk]
  ·rw[zAr (Ne.symm e)];exact h1
 have hLo:∀(i:Nat) b,L[i]? =some (.blk b)->i<ow.length->(L.set o l')[i]? =some (.blk b)/\i<(ow.set o ob').length:=λ i b h1 h2=>hLk i _ h1 rfl h2
 refine .of1 hle λ v a h=> ?_
 cases a with
 |pv p=>exact VP.mono hle h
 |nil sh=>exact h
 |sl b sh xs=>exact⟨VP.mono hle h.1,h.2⟩
 |agg cs=>exact h
 |tupA as=>exact h
 |fx i sh=>obtain⟨base,n,cap,h1,h2,h3⟩:=h;exact⟨base,n,cap,(hLk _ _ h1 rfl h2).1,(hLk _ _ h1 rfl h2).2,h3⟩
 |fe i j off=>obtain⟨sh,b,o0,n,cap,h1,h2,h3⟩:=h;exact⟨sh,b,o0,n,cap,(hLk _ _ h1 rfl h2).1,(hLk _ _ h1 rfl h2).2,h3⟩
 |own i off=>obtain⟨b,h1,h2,h3⟩:=h;exact⟨b,(hLo _ _ h1 h2).1,(hLo _ _ h1 h2).2,h3⟩
 |mp i=>obtain⟨b,h1,h2,h3⟩:=h;exact⟨b,(hLo _ _ h1 h2).1,(hLo _ _ h1 h2).2,h3⟩
 |fnv f first caps =>
  obtain⟨fs,cs,e,hm,hl,k1,k2⟩:=h
  exact⟨fs,cs,e,hm,hl,λ j x a hx ha=>(k1 j x a hx ha).to hle hLo,λ j x a hx ha=>(k2 j x a hx ha).to hle hLo⟩
 |view i ver sb =>
  simp only[VA1]at h ⊢
  refine⟨h.1,?_⟩
  replace h:=h.2
  by_cases e:i=o
  ·subst e
   rw[zAJ hlt];rw[ho]at h
   cases ob<;>simp only at h hr
   ·rename_i sl ver0 sh xs
    cases ob' <;>simp only at hr ⊢
    ·rename_i sl' ver' sh' xs'
     obtain⟨rfl,hv,hsame⟩:=hr
     refine⟨Nat.le_trans h.1 hv,λ e=> ?_⟩
     have e2:ver=ver0:=Nat.le_antisymm h.1 (by omega)
     obtain⟨hlen,rfl⟩:=hsame (by omega)
     obtain⟨base,cap,h1,h2⟩:=h.2 e2
     refine⟨base,cap,by rw[zAJ hltL];rw[hl]at h1;exact h1,?_⟩
     cases sb with
     |none=>rw[hlen];exact h2
     |some x=>rw[hlen];exact h2
    ·rename_i ver' sh' xs'
     obtain⟨rfl,rfl,hlen,base0,cap0,rfl,rfl⟩:=hr
     refine⟨h.1,λ e=> ?_⟩
     obtain⟨base,cap,h1,h2⟩:=h.2 e
     rw[hl]at h1;cases h1
     refine⟨base0,cap0,by rw[zAJ hltL,hlen],?_⟩
     cases sb with
     |none=>rw[hlen];exact h2
     |some x=>rw[hlen];exact h2
   ·rename_i ver0 sh xs
    cases ob' <;>simp only at hr ⊢
    rename_i ver' sh' xs'
    obtain⟨rfl,rfl,hlen⟩:=hr
    refine⟨h.1,λ e=> ?_⟩
    obtain⟨base,cap,h1,h2⟩:=h.2 e
    rw[hl]at h1
    refine⟨base,cap,by rw[zAJ hltL,hb _ (Option.some.inj h1) rfl,hlen],?_⟩
    cases sb with
    |none=>rw[hlen];exact h2
    |some x=>rw[hlen];exact h2
   ·rw[hr];trivial
  ·rw[zAr (Ne.symm e),zAr (Ne.symm e)];exact h
 |elem i ver j off =>
  simp only[VA1]at h ⊢
  refine⟨h.1,?_⟩
  replace h:=h.2
  by_cases e:i=o
  ·subst e
   rw[zAJ hlt];rw[ho]at h
   cases ob<;>simp only at h hr
   ·rename_i sl ver0 sh xs
    cases ob' <;>simp only at hr ⊢
    ·rename_i sl' ver' sh' xs'
     obtain⟨rfl,hv,hsame⟩:=hr
     refine⟨Nat.le_trans h.1 hv,λ e=> ?_⟩
     have e2:ver=ver0:=Nat.le_antisymm h.1 (by omega)
     obtain⟨hlen,rfl⟩:=hsame (by omega)
     obtain⟨hj,b,o0,cap,h1,h2⟩:=h.2 e2
     exact⟨by omega,b,o0,cap,by rw[zAJ hltL];rw[hl]at h1;exact h1,h2⟩
    ·rename_i ver' sh' xs'
     obtain⟨rfl,rfl,hlen,base0,cap0,rfl,rfl⟩:=hr
     refine⟨h.1,λ e=> ?_⟩
     obtain⟨hj,b,o0,cap,h1,h2⟩:=h.2 e
     rw[hl]at h1;cases h1
     exact⟨by omega,b,o0,_,by rw[zAJ hltL,hlen],h2⟩
   ·rename_i ver0 sh xs
    cases ob' <;>simp only at hr ⊢
    rename_i ver' sh' xs'
    obtain⟨rfl,rfl,hlen⟩:=hr
    refine⟨h.1,λ e=> ?_⟩
    obtain⟨hj,b,o0,cap,h1,h2⟩:=h.2 e
    rw[hl]at h1
    exact⟨by omega,b,o0,cap,by rw[zAJ hltL,hb _ (Option.some.inj h1) rfl,hlen],h2⟩
   ·rw[hr];trivial
  ·rw[zAr (Ne.symm e),zAr (Ne.symm e)];exact h
 |gm i =>
  simp only[VA1]at h ⊢
  obtain⟨b,eb,h⟩:=h
  refine⟨b,eb,?_⟩
  by_cases e:i=o
  ·subst e
   rw[zAJ hlt];rw[ho]at h
   cases ob<;>simp only at h hr
   ·obtain⟨rs,h1⟩:=h
    cases ob' <;>simp only at hr ⊢
    obtain⟨b',rs1,rs2,rfl,rfl⟩:=hr
    rw[hl]at h1
    simp only[zE,Loc.grp.injEq]at h1
    obtain⟨rfl,rfl⟩:=h1
    exact⟨rs2,by rw[zAJ hltL]⟩
   ·rw[hr];trivial
  ·rw[zAr (Ne.symm e),zAr (Ne.symm e)];exact h
theorem Inv.drewN(inv:Inv w0 S0 S L ow w) (n:Nat):Inv w0 S0 S L ow (w.drewN n) :=
 inv.grow ⟨rfl,rfl,rfl,zM _,λ _ _=>rfl⟩ (Pr.le_refl S) (λ _ _ _=>rfl) (λ b o v h=>inv.prot b o v h)
end
end Go.Ab
