/- Part 4 of the proof: an abstract machine that runs the program's code over plain values, its soundness, and what the functions tell of plain values. Conditions: those in each theorem. -/
import Derived.Test.YtgebkpchpliahaaGreatDoorA2
import Derived.Laws.StructEq
import Derived.ChangeKeysEq
import Derived.ChangeFn
import Derived.Laws.BytesArg
import Derived.Lib.SliceRun
set_option linter.unusedSectionVars false
set_option linter.unusedVariables false
set_option linter.unusedSimpArgs false
noncomputable section
namespace Go.Ab
open Go.RowKit (Below)
variable [GL:Gl]
section
variable {P:Program} {c:Cfg} {w:World} {S:Pr}
theorem zE0{x:Value} {k:IntKind} {n:Int} (h:VP S x (.int k n)):x= .int k n:=by cases h;rfl
theorem zGN{x:Value} {b:Bool} (h:VP S x (.bool b)):x= .bool b:=by cases h;rfl
theorem zIu{x:Value} {s:ByteArray} (h:VP S x (.str s)):x= .string s:=by cases h;rfl
theorem zGq{p:PV} {b:Bool} (h:p.asBool=some b):p= .bool b:=by cases p<;>simp[PV.asBool]at h;rw[h]
theorem zH0{p:PV} {b:ByteArray} (h:p.asStr=some b):p= .str b:=by cases p<;>simp[PV.asStr]at h;rw[h]
theorem zRK{p:PV} {n:Int} (h:p.asInt=some n):∃ k,p= .int k n:=by cases p<;>simp[PV.asInt]at h;subst h;exact⟨_,rfl⟩
def BinR(P:Program) (w:World) (op:BinOp) (t:TypeId) (xo yo:Operand) (x y:Value) (u:Value):Prop :=
 (do eqGuard op t xo yo x y;binOp op t x y:Sem Value).run P w= .ok u w
theorem zS6{op:BinOp} (hop:op= .shl∨op= .shr) {t:TypeId} {xo yo:Operand} {x y:Value} {p q z:PV} (hx:VP S x p) (hy:VP S y q) (h:zSQ op p q=some z) :
 ∃ u,BinR P w op t xo yo x y u/\VP S u z:=by
 unfold zSQ at h
 split at h
 ·rename_i k a kb b
  have ex:=zE0 hx;subst ex
  have ey:=zE0 hy;subst ey
  unfold zVq at h
  cases hd:decide (b<0) with
  |true=>rw[hd]at h;cases h
  |false =>
   rw[hd]at h
   have hb:¬ b<0:=of_decide_eq_false hd
   rcases hop with rfl | rfl
   ·simp only[zC,zE]at h;subst h
    refine⟨_,?_,.int _ _⟩
    simp[BinR,eqGuard_shl,binOp,Op.shift,hb]
   ·simp only[zC,zE]at h;subst h
    refine⟨_,?_,.int _ _⟩
    simp[BinR,eqGuard_shr,binOp,Op.shift,hb]
 ·cases h
theorem zXJ{op:BinOp} (h1:op≠ .shl) (h2:op≠ .shr) {t:TypeId} {xo yo:Operand} {x y:Value} {p q z:PV} (hx:VP S x p) (hy:VP S y q) (h:intP op p q=some z) :
 ∃ u,BinR P w op t xo yo x y u/\VP S u z:=by
 unfold intP at h
 split at h
 ·rename_i k a kb b
  have ex:=zE0 hx;subst ex
  have ey:=zE0 hy;subst ey
  cases hd:decide (k=kb) with
  |false=>rw[hd]at h;cases h
  |true =>
   rw[hd]at h
   have hk:k=kb:=zAM hd
   subst hk
   simp only[zA]at h
   cases op<;>simp only[z2D]at h
   case shl=>exact absurd rfl h1
   case shr=>exact absurd rfl h2
   case quo =>
    cases hb:(b==0) with
    |true=>rw[hb]at h;cases h
    |false =>
     rw[hb]at h
     simp only[zC,zE]at h;subst h
     have hb' :¬ b=0:=by simpa using hb
     exact⟨_,by simp[BinR,eqGuard_quo,binOp_quo,Op.intDiv,hb'],.int _ _⟩
   case rem =>
    cases hb:(b==0) with
    |true=>rw[hb]at h;cases h
    |false =>
     rw[hb]at h
     simp only[zC,zE]at h;subst h
     have hb' :¬ b=0:=by simpa using hb
     exact⟨_,by simp[BinR,eqGuard_rem,binOp_rem,Op.intDiv,hb'],.int _ _⟩
   all_goals
    simp only[zE]at h;subst h
    first
     |exact⟨_,by simp[BinR,eqGuard_at_int,binOp,Op.intArith,Op.intBits,Op.intCmp];rfl,.int _ _⟩
     |exact⟨_,by simp[BinR,eqGuard_at_int,binOp,Op.intArith,Op.intBits,Op.intCmp],.int _ _⟩
     |exact⟨_,by simp[BinR,eqGuard_at_int,binOp,Op.intArith,Op.intBits,Op.intCmp];rfl,.bool _⟩
     |exact⟨_,by simp[BinR,eqGuard_at_int,binOp,Op.intArith,Op.intBits,Op.intCmp],.bool _⟩
 ·cases h
theorem zXK{op:BinOp} (h1:op≠ .shl) (h2:op≠ .shr) {t:TypeId} {xo yo:Operand} {x y:Value} {p q z:PV} (hx:VP S x p) (hy:VP S y q) (h:strP op p q=some z) :
 ∃ u,BinR P w op t xo yo x y u/\VP S u z:=by
 unfold strP at h
 split at h
 ·rename_i a b
  have ex:=zIu hx;subst ex
  have ey:=zIu hy;subst ey
  cases op<;>simp only[z2E]at h<;>try (cases h;done)
  case add =>
   cases hd:decide (a.size+b.size<=9223372036854775807) with
   |false=>rw[hd]at h;cases h
   |true =>
    rw[hd]at h
    simp only[zA,zE]at h;subst h
    have hle:=zAM hd
    have hn:¬ (9223372036854775807<((a.size:Int)+(b.size:Int))):=by omega
    exact⟨_,by simp[BinR,eqGuard_at_string,binOp,Op.stringOp,hn],.str _⟩
  all_goals
   simp only[zE]at h;subst h
   exact⟨_,by simp[BinR,eqGuard_at_string,binOp,Op.stringOp],.bool _⟩
 ·cases h
theorem zFd(hT:TyOK P c) {t:TypeId} (hk:c.known t=true) {cs:Array Value} {ps:List PV} {off:Nat} {q:PV} (hx:VP S (.agg cs) (.agg ps)) (h:PV.load (ps.length+1) (.agg ps) off (c.sh t)=some q) :
 ∃ u,(part t cs off).run P w= .ok u w/\VP S u q:=by
 have hsh:(PV.agg ps).okSh (ps.length+1)=true:=by simp[PV.okSh]
 obtain⟨d1,d2,d3⟩:=hx.cells hsh
 obtain⟨hle,hv⟩:=PV.load_sound (f:=λ j=>cs.getD j undef) hsh (λ j hj=>by
  have hlt:j<cs.size:=by simpa [Value.cells,d1]using(by rw[show cs.size=szOf (ps.length+1)from d1];exact hj:j<cs.size)
  show(cs.getD j undef).oneCell' =true
  rw[zCV (zAj hlt)];exact d2 _ (Array.getElem_mem hlt)) (λ j p hp=>by
  have hlt:j<cs.size:=by rw[show cs.size=szOf (ps.length+1)from d1];exact(zQ.1 hp).1
  show VP S (cs.getD j undef) p
  rw[zCV (zAj hlt)];exact d3 j _ p (zAj hlt) hp) h
 refine⟨_,?_,hv⟩
 have hcs:cs.size=szOf (ps.length+1):=d1
 have ha:=hT.isAgg hk w
 have hs:=hT.sizeOf hk w
 simp only[part,Sem.run_bind,ha,Result.andThen_ok]
 cases hshh:c.sh t with
 |zero =>
  rw[hshh]at hle
  have hlt:off<cs.size:=by simp only[szOf]at hle hcs ⊢;omega
  simp[asSh,zAj hlt]
 |succ n =>
  rw[hshh]at hle hs
  simp only[szOf]at hle hcs hs
  have hne:(n+1 != 0)=true:=rfl
  simp only[asSh,hne,if_true,Sem.run_bind,hs,Result.andThen_ok,Sem.run_pure]
  congr 2
  apply Array.ext
  ·simp;omega
  ·intro i h1 h2
   have h3:i<n:=by simpa using h2
   simp only[Array.getElem_extract]
   have hlt:off+i<cs.size:=by omega
   simp[hlt]
theorem zQU(hT:TyOK P c) {eq:TypeId->PV->PV->Option Bool} {d:Nat} (heq:∀ t x y p q b,VP S x p->VP S y q->eq t p q=some b->(Op.equalIn d t x y).run P w= .ok b w)
 {xs ys:Array Value} {ps qs:List PV} (hx:VP S (.agg xs) (.agg ps)) (hy:VP S (.agg ys) (.agg qs)):∀(fds:List Field) (b:Bool),(∀ f∈fds,f.name≠ "_" /\c.known f.type=true) ->
  eqFs c eq (.agg ps) (.agg qs) (fds.map λ f=>(f.type,f.offset))=some b->(Op.eqFields d xs ys fds).run P w= .ok b w
 | [],b,_,h=>by simp[eqFs]at h;subst h;rfl
 |f::r,b,hf,h=>by
  simp only[zAX,eqFs,zJ]at h
  obtain⟨x,h1,y,h2,e,h3,h4⟩:=h
  obtain⟨hn,hk⟩:=hf f (by simp)
  obtain⟨u,k1,k2⟩:=zFd (w:=w) hT hk hx h1
  obtain⟨v,m1,m2⟩:=zFd (w:=w) hT hk hy h2
  have k3:=heq _ _ _ _ _ _ k2 m2 h3
  simp only[Op.eqFields,hn,ne_eq,not_false_eq_true,if_true,Sem.run_bind,k1,m1,k3,Result.andThen_ok]
  cases e with
  |false=>simp only[zC,zE]at h4;subst h4;simp
  |true =>
   simp only[zA]at h4
   simpa using zQU hT heq hx hy r b (λ g hg=>hf g (by simp[hg])) h4
theorem zQV(hT:TyOK P c) {eq:PV->PV->Option Bool} {d:Nat} {e:TypeId} (hk:c.known e=true) (heq:∀ x y p q b,VP S x p->VP S y q->eq p q=some b->(Op.equalIn d e x y).run P w= .ok b w)
 {xs ys:Array Value} {ps qs:List PV} (hx:VP S (.agg xs) (.agg ps)) (hy:VP S (.agg ys) (.agg qs)):∀(m i:Nat) (b:Bool),
  eqAs c eq (.agg ps) (.agg qs) (c.sh e) m i=some b->(Op.eqItems d e (szOf (c.sh e)) xs ys ((List.range m).map (i+ ·))).run P w= .ok b w
 | 0,i,b,h=>by simp[eqAs]at h;subst h;simp[Op.eqItems]
 |m+1,i,b,h=>by
  simp only[eqAs,zJ]at h
  obtain⟨x,h1,y,h2,z,h3,h4⟩:=h
  obtain⟨u,k1,k2⟩:=zFd (w:=w) hT hk hx h1
  obtain⟨v,m1,m2⟩:=zFd (w:=w) hT hk hy h2
  have k3:=heq _ _ _ _ _ k2 m2 h3
  have hl:(List.range (m+1)).map (i+ ·)=i::(List.range m).map (i+1+ ·):=by
   rw[List.range_succ_eq_map];simp[List.map_map,Function.comp_def,Nat.add_assoc,Nat.add_comm 1]
  rw[hl]
  simp only[Op.eqItems,Sem.run_bind,k1,m1,k3,Result.andThen_ok]
  cases z with
  |false=>simp only[zC,zE]at h4;subst h4;simp
  |true =>
   simp only[zA]at h4
   simpa using zQV hT hk heq hx hy m (i+1) b h4
theorem zG0{n:Nat} {p:PV} (h:p.okSh (n+1)=true):∃ ps,p= .agg ps/\ps.length=n:=by
 cases p<;>simp[PV.okSh]at h
 exact⟨_,rfl,h⟩
theorem eqP_sound(hT:TyOK P c):∀(n d:Nat) (t:TypeId) (x y:Value) (p q:PV) (b:Bool),n<=d->VP S x p->VP S y q->eqP c n t p q=some b->(Op.equalIn d t x y).run P w= .ok b w
 | 0,_,_,_,_,_,_,_,_,_,_,h=>by simp[eqP]at h
 |n+1,d,t,x,y,p,q,b,hd,hx,hy,h=>by
  obtain⟨d,rfl⟩:∃ d',d=d' +1:=⟨d-1,by omega⟩
  have hk:=hT.kind t
  simp only[eqP]at h
  cases hkk:(c.at_ t).k<;>rw[hkk]at h hk<;>simp only at h hk<;>try (cases h;done)
  case bool =>
   simp only[zJ,zE]at h
   obtain⟨a,ha,a',ha',rfl⟩:=h
   have e1:=zGq ha;subst e1;have e2:=zGq ha';subst e2
   have ex:=zGN hx;subst ex;have ey:=zGN hy;subst ey
   exact run_equalIn_bool w d t a a' hk
  case int k =>
   unfold z3r at h
   split at h
   ·rename_i k1 a k2 a'
    have ex:=zE0 hx;subst ex;have ey:=zE0 hy;subst ey
    cases hdd:decide (k1=k2) with
    |false=>rw[hdd]at h;cases h
    |true =>
     rw[hdd]at h
     have e:=zAM hdd;subst e
     simp only[zA,zE]at h;subst h
     exact run_equalIn_int w d t k1 k a a' hk
   ·cases h
  case str =>
   simp only[zJ,zE]at h
   obtain⟨a,ha,a',ha',rfl⟩:=h
   have e1:=zH0 ha;subst e1;have e2:=zH0 ha';subst e2
   have ex:=zIu hx;subst ex;have ey:=zIu hy;subst ey
   exact run_equalIn_string w d t a a' hk
  case struct fs =>
   cases hok:(p.okSh (c.sh t)&&q.okSh (c.sh t)) with
   |false=>rw[hok]at h;cases h
   |true =>
    rw[hok]at h
    simp only[zA]at h
    simp only[zF]at hok
    have hsh:c.sh t=(c.at_ t).sz+1:=by unfold Cfg.sh;rw[hkk]
    rw[hsh]at hok
    obtain⟨ps,rfl,_⟩:=zG0 hok.1
    obtain⟨qs,rfl,_⟩:=zG0 hok.2
    obtain⟨fds,hu,hfs,hnm,hkn⟩:=hk
    have hx' :=hx
    have hy' :=hy
    cases hx with | agg xs _ _ _ _=>cases hy with | agg ys _ _ _ _ =>
    have hfo:P.fieldsOf t=fds:=by unfold Program.fieldsOf;rw[hu]
    rw[run_equalIn_struct w d t _ _ (by rw[hfo];exact hu) (hT.held t fs hkk),hfo]
    refine zQU hT (λ t x y p q b hx hy he=>eqP_sound hT n d t x y p q b (by omega) hx hy he) hx' hy' fds.toList b (λ f hf=>⟨hnm f (by simpa using hf),?_⟩) (by rw[hfs];exact h)
    exact(hkn (f.type,f.offset) (by rw[<- hfs];exact zAh.2 ⟨f,hf,rfl⟩)).1
  case arr m e =>
   cases hok:(p.okSh (c.sh t)&&q.okSh (c.sh t)) with
   |false=>rw[hok]at h;cases h
   |true =>
    rw[hok]at h
    simp only[zA]at h
    simp only[zF]at hok
    have hsh:c.sh t=(c.at_ t).sz+1:=by unfold Cfg.sh;rw[hkk]
    rw[hsh]at hok
    obtain⟨ps,rfl,_⟩:=zG0 hok.1
    obtain⟨qs,rfl,_⟩:=zG0 hok.2
    have hx' :=hx
    have hy' :=hy
    cases hx with | agg xs _ _ _ _=>cases hy with | agg ys _ _ _ _ =>
    obtain⟨i,hi,hisz,_⟩:=hT.info e hk.2
    have hcell:P.cellsOf e=szOf (c.sh e):=by unfold Program.cellsOf;rw[hi];exact hisz
    rw[run_equalIn_array w d _ _ hk.1 hi,hcell]
    have:=zQV hT hk.2 (λ x y p q b hx hy he=>eqP_sound hT n d e x y p q b (by omega) hx hy he) hx' hy' m 0 b h
    simpa using this
theorem zXL(hT:TyOK P c) {op:BinOp} {t:TypeId} {xo yo:Operand} {x y:Value} {p q z:PV} (hx:VP S x p) (hy:VP S y q) (h:binP c op t p q=some z) :
 ∃ u,BinR P w op t xo yo x y u/\VP S u z:=by
 by_cases hs:op= .shl∨op= .shr
 ·have:zSQ op p q=some z:=by rcases hs with rfl | rfl<;>exact h
  exact zS6 hs hx hy this
 ·have h1:op≠ .shl:=λ e=>hs (.inl e)
  have h2:op≠ .shr:=λ e=>hs (.inr e)
  have hb:z2j c op t p q=some z:=by
   rw[<- h];cases op<;>first | rfl | exact absurd rfl h1 | exact absurd rfl h2
  have eqs:(∀ k,(c.at_ t).k≠ .int k)->(c.at_ t).k≠ .str->eqNe c op t p q=some z->∃ u,BinR P w op t xo yo x y u/\VP S u z:=λ hni hns he=>by
   have shape:∀ b,eqP c 6 t p q=some b->(∃ a a',x= .bool a/\y= .bool a')∨(∃ xs ys,x= .agg xs/\y= .agg ys/\c.sh t≠0):=λ b hbb=>by
    simp only[eqP]at hbb
    cases hkk:(c.at_ t).k<;>rw[hkk]at hbb hni hns<;>simp only at hbb<;>try (cases hbb;done)
    case bool =>
     simp only[zJ,zE]at hbb
     obtain⟨a,ha,a',ha',rfl⟩:=hbb
     have e1:=zGq ha;subst e1;have e2:=zGq ha';subst e2
     exact .inl ⟨a,a',zGN hx,zGN hy⟩
    case int k=>exact absurd rfl (hni k)
    case str=>exact absurd rfl hns
    all_goals
     right
     cases hok:(p.okSh (c.sh t)&&q.okSh (c.sh t)) with
     |false=>rw[hok]at hbb;cases hbb
     |true =>
      simp only[zF]at hok
      have hsh:c.sh t=(c.at_ t).sz+1:=by unfold Cfg.sh;rw[hkk]
      rw[hsh]at hok
      obtain⟨ps,rfl,_⟩:=zG0 hok.1
      obtain⟨qs,rfl,_⟩:=zG0 hok.2
      cases hx;cases hy
      exact⟨_,_,rfl,rfl,by rw[hsh];simp⟩
   cases op<;>simp only[eqNe]at he<;>try (cases he;done)
   case eql =>
    simp only[zJ,zE]at he
    obtain⟨b,hbb,rfl⟩:=he
    have hr:=eqP_sound (w:=w) hT 6 10000 t x y p q b (by omega) hx hy hbb
    refine⟨.bool b,?_,.bool b⟩
    rcases shape b hbb with⟨a,a',rfl,rfl⟩ | ⟨xs,ys,rfl,rfl,hne⟩
    ·simp only[BinR,eqGuard_at_bool,Sem.run_bind,Sem.run_pure,Result.andThen_ok,binOp,Op.equal,Op.maxDepth,hr]
    ·simp only[BinR,Sem.run_bind,run_eqGuard_agg w .eql t xo yo xs ys (hT.guard t hne),Result.andThen_ok,run_eql_struct,hr]
   case neq =>
    simp only[zJ,zE]at he
    obtain⟨b,hbb,rfl⟩:=he
    have hr:=eqP_sound (w:=w) hT 6 10000 t x y p q b (by omega) hx hy hbb
    refine⟨.bool (!b),?_,.bool (!b)⟩
    rcases shape b hbb with⟨a,a',rfl,rfl⟩ | ⟨xs,ys,rfl,rfl,hne⟩
    ·simp only[BinR,eqGuard_at_bool,Sem.run_bind,Sem.run_pure,Result.andThen_ok,binOp,Op.equal,Op.maxDepth,hr]
    ·simp only[BinR,Sem.run_bind,run_eqGuard_agg w .neq t xo yo xs ys (hT.guard t hne),Result.andThen_ok,run_neq_struct,hr]
  unfold z2j at hb
  cases hkk:(c.at_ t).k<;>rw[hkk]at hb eqs<;>simp only at hb
  case int k=>exact zXJ h1 h2 hx hy hb
  case str=>exact zXK h1 h2 hx hy hb
  all_goals exact eqs (by simp) (by simp) hb
theorem zYa{op:UnOp} {x:Value} {p z:PV} (hx:VP S x p) (h:unP op p=some z):∃ u,(Op.unary op x).run P w= .ok u w/\VP S u z:=by
 cases op<;>simp only[unP]at h<;>try (cases h;done)
 case not =>
  simp only[zJ,zE]at h
  obtain⟨b,hb,rfl⟩:=h
  have e:=zGq hb;subst e
  have ex:=zGN hx;subst ex
  exact⟨_,rfl,.bool _⟩
 case neg =>
  unfold negP at h
  split at h
  ·rename_i k n
   simp only[zE]at h;subst h
   have ex:=zE0 hx;subst ex
   exact⟨_,rfl,.int _ _⟩
  ·cases h
theorem zU0{sh:Nat} {p:PV} {xs:List PV} (h:PV.asSlice sh p=some xs):p= .slice sh xs:=by
 unfold PV.asSlice at h
 split at h
 ·rename_i sh' ys
  cases e:(sh==sh') with
  |true=>rw[e]at h;simp at h;subst h;rw[beq_iff_eq.1 e]
  |false=>rw[e]at h;simp at h
 ·cases h
theorem zS7:∀{xs:List PV} {ns:List Int},zSR xs=some ns->xs=ns.map (PV.int .u8)
 | [],ns,h=>by simp only[zSR,zE]at h;subst h;rfl
 |p::ps,ns,h=>by
  simp only[zSR,zJ,zE]at h
  obtain⟨n,hn,ms,hm,rfl⟩:=h
  rw[zS7 hm]
  unfold PV.asIntK at hn
  split at hn
  ·rename_i k m
   by_cases e:k= .u8
   ·subst e;simp at hn;subst hn;rfl
   ·simp[e]at hn
  ·cases hn
theorem zU1(hT:TyOK P c) (hp:∀ b o v,S b o=some v->memV w b o=some v) {s d:TypeId} {x:Value} {p z:PV} (hx:VP S x p) (h:z2k c s d p=some z):∃ u,(convert s d x).run P w= .ok u w/\VP S u z:=by
 unfold z2k at h
 have hs:=hT.kind s
 have hd:=hT.kind d
 split at h
 ·rename_i e e1 e2
  rw[e1]at hs;rw[e2]at hd
  split at h
  ·rename_i e3
   have he:=hT.kind e
   rw[e3]at he
   simp only[zJ,zE]at h
   obtain⟨xs,hxs,ns,hns,rfl⟩:=h
   have e4:=zS7 hns
   have e5:=zU0 hxs
   subst e5
   cases hx with
   |slice base len cap _ _ b o vals hl hc hb hsh hS hV =>
    cases base with
    |none =>
     have:len=0:=by
      rcases Nat.eq_zero_or_pos len with h | h
      ·exact h
      ·exact absurd (hb h) (by simp)
     subst this
     have:ns=[]:=by rw[e4]at hl;simpa using hl
     subst this
     exact⟨_,run_convert_bytes_nil w s e hs.1 he 0 cap d hd,by exact VP.str _⟩
    |some a =>
     rcases Nat.eq_zero_or_pos len with h0 | h0
     ·subst h0
      have:ns=[]:=by rw[e4]at hl;simpa using hl
      subst this
      refine⟨.string ByteArray.empty,?_,VP.str _⟩
      rw[run_convert_bytes_string w s d e _ 0 cap hs.1 he hd,run_bytesToString w a 0 cap [] (by simp[loadCells];rfl)]
      rfl
     ·have ha:=hb h0
      simp only[zE]at ha;subst ha
      refine⟨.string (zSS ns),?_,VP.str _⟩
      have:=run_convert_bytes_arg (P:=P) w s e hs.1 he b o len cap ns (by rw[<- hl,e4];simp) (λ i hi=>by
       have k1:=hS i 0 hi (by simp[szOf])
       have hin:i<ns.length:=by rw[e4]at hl;simp at hl;omega
       have k2:=hV i 0 (PV.int .u8 ns[i]) (PV.int .u8 ns[i]) (by rw[e4];simp[zH hin]) rfl
       have k3:=zE0 k2
       have k4:=zJN (hp _ _ _ k1.1) k1.2
       rw[k3]at k4
       simp only[szOf,Nat.mul_one,Nat.add_zero]at k4
       rw[k4]
       simp[List.getD,zH hin]) d hd
      exact this
  ·cases h
 ·rename_i k k' e1 e2
  rw[e1]at hs;rw[e2]at hd
  simp only[zJ,zE]at h
  obtain⟨n,hn,rfl⟩:=h
  obtain⟨kk,rfl⟩:=zRK hn
  have ex:=zE0 hx;subst ex
  exact⟨_,by simp[convert,run_underlying hs,run_underlying hd,Conv.intToInt],.int _ _⟩
 ·rename_i k e1 e2
  rw[e1]at hs;rw[e2]at hd
  simp only[zJ,zE]at h
  obtain⟨n,hn,rfl⟩:=h
  obtain⟨kk,rfl⟩:=zRK hn
  have ex:=zE0 hx;subst ex
  exact⟨_,by simp[convert,run_underlying hs,run_underlying hd,Conv.intToString],.str _⟩
 ·rename_i e1 e2
  rw[e1]at hs;rw[e2]at hd
  simp only[zJ,zE]at h
  obtain⟨n,hn,rfl⟩:=h
  have e:=zH0 hn;subst e
  have ex:=zIu hx;subst ex
  exact⟨_,by simp[convert,run_underlying hs,run_underlying hd],.str _⟩
 ·cases h
end
end Go.Ab

namespace Go.Ab
variable [GL:Gl]
section
variable {R:Type}
theorem zBV{a:AV} {k:PV->Option R} {y:R} (h:pvOf a k=some y):∃ p,a= .pv p/\k p=some y:=by
 cases a<;>simp only[pvOf]at h<;>first | exact⟨_,rfl,h⟩ | cases h
theorem zYb(sh:Nat) (a:AV) (off sh' :Nat) (k:AV->Option R):zXD sh a off sh' k=(zXD sh a off sh' some).bind k:=by
 unfold zXD
 cases (sh==sh' &&off==0) with
 |true=>rfl
 |false =>
  simp only[zC]
  cases a with
  |pv p=>simp only;cases p.load sh off sh' <;>rfl
  |agg cs =>
   cases sh' with
   |zero=>simp only;cases cs[off]? <;>rfl
   |succ n=>simp only;cases decide (off+n<=cs.length)<;>rfl
  |_=>rfl
theorem zEQ(ow:List Ob) (ad:AV) (sh' :Nat) (k:AV->Option R):zGW ow ad sh' k=(zGW ow ad sh' some).bind k:=by
 unfold zGW
 cases ad with
 |own o off =>
  simp only
  cases ow[o]? with
  |none=>rfl
  |some ob=>cases ob<;>first | rfl | exact zYb ..
 |pv p=>cases p<;>try rfl
        rename_i sh v off
        simp only;cases v.load sh off sh' <;>rfl
 |elem o ver i off =>
  simp only
  cases ow[o]? with
  |none=>rfl
  |some ob =>
   cases ob<;>try rfl
   rename_i sl ver' sh xs
   simp only
   cases (ver==ver')<;>simp only[zA,zC]<;>try rfl
   cases xs[i]? with
   |none=>rfl
   |some v=>simp only[zB];cases v.load sh off sh' <;>rfl
 |fe o i off =>
  simp only
  cases ow[o]? with
  |none=>rfl
  |some ob =>
   cases ob<;>try rfl
   rename_i ver sh xs
   simp only
   cases xs[i]? with
   |none=>rfl
   |some v=>simp only[zB];cases v.load sh off sh' <;>rfl
 |_=>rfl
theorem zKs(ow:List Ob) (ad:AV) (sh' :Nat) (x:AV) (k:List Ob->Option R):zHo ow ad sh' x k=(zHo ow ad sh' x some).bind k:=by
 unfold zHo
 cases x.okSh sh' with
 |false=>rfl
 |true =>
 simp only[zA]
 cases ad with
 |own o off =>
  simp only
  cases ow[o]? with
  |none=>rfl
  |some ob =>
   cases ob<;>try rfl
   rename_i fz sh a
   cases fz<;>try rfl
   simp only
   cases (sh==sh' &&off==0)<;>simp only[zA,zC]<;>try rfl
   cases (decide (off+szOf sh' <=szOf sh)&&sh != 0)<;>rfl
 |elem o ver i off =>
  simp only
  cases ow[o]? with
  |none=>rfl
  |some ob =>
   cases ob<;>try rfl
   rename_i sl ver' sh xs
   cases sl<;>try rfl
   simp only
   cases (ver==ver')<;>simp only[zA,zC]<;>try rfl
   cases x<;>try rfl
   rename_i p
   simp only
   cases xs[i]? with
   |none=>rfl
   |some v=>simp only[zB];cases v.put sh off sh' p<;>rfl
 |fe o i off =>
  simp only
  cases ow[o]? with
  |none=>rfl
  |some ob =>
   cases ob<;>try rfl
   rename_i ver sh xs
   cases x<;>try rfl
   rename_i p
   simp only
   cases xs[i]? with
   |none=>rfl
   |some v=>simp only[zB];cases v.put sh off sh' p<;>rfl
 |_=>rfl
theorem zKt(sh:Nat) (mk:Bool) (ow:List Ob) (s:AV) (ys:List PV) (k:AV->List Ob->Option R) :
 zFN sh mk ow s ys k=(zFN sh mk ow s ys λ a b=>some (a,b)).bind λ z=>k z.1 z.2:=by
 unfold zFN
 cases s with
 |nil n =>
  simp only
  cases decide (ys.length<=lim)<;>simp only[zA,zC]<;>try rfl
  cases mk<;>rfl
 |view o ver sb =>
  simp only
  cases ow[o]? with
  |none=>rfl
  |some ob =>
   cases ob<;>try rfl
   rename_i sl ver' sh' xs
   simp only
   cases (ver==ver' &&sh==sh' &&(!sl || sb.isNone)&&decide ((AV.sub xs sb).length+ys.length<=lim))<;>simp only[zA,zC]<;>try rfl
   cases mk<;>rfl
 |_=>rfl
theorem zNL(sh:Nat) (mk:Bool) (ow:List Ob) (s x:AV) (k:AV->List Ob->Option R) :
 zFq sh mk ow s x k=(zFq sh mk ow s x λ a b=>some (a,b)).bind λ z=>k z.1 z.2:=by
 unfold zFq
 rw[zD8 (R:=R) sh ow x,zD8 (R:=AV×List Ob) sh ow x,zBD]
 congr 1;funext ys
 exact zKt sh mk ow s ys k
theorem zAN(ow:List Ob) (a:AV) (k:PV->Option R):zDW ow a k=(zDW ow a some).bind k:=by
 unfold zDW
 cases a with
 |pv p=>rfl
 |_=>simp only;cases AV.port ow _<;>rfl
theorem zOb(c:Cfg) (e:TypeId) (mk:Bool) (ow:List Ob) (s x:AV) (k:AV->List Ob->Option R) :
 zHq c e mk ow s x k=(zHq c e mk ow s x λ a b=>some (a,b)).bind λ z=>k z.1 z.2:=by
 unfold zHq
 cases s<;>try rfl
 simp only
 unfold zFP pvOf
 cases x<;>try rfl
 rename_i p
 simp only[idxI]
 cases p.asInt with
 |none=>rfl
 |some n =>
  simp only[zB]
  cases (decide (0<n)&&decide (n<=(lim:Int))&&decide ((c.at_ e).by_<=4096)&&mk)<;>simp only[zA,zC]<;>try rfl
  rw[zAN [] (c.zero e),zAN (R:=AV×List Ob) [] (c.zero e)]
  cases zDW [] (c.zero e) some with
  |none=>rfl
  |some d=>simp only[zB];cases d.okSh (c.sh e)<;>rfl
theorem zL8(c:Cfg) (e:TypeId) (ow:List Ob) (s x:AV) (k:AV->List Ob->Option R):zHq c e false ow s x k=none:=by
 unfold zHq
 cases s<;>try rfl
 simp only[Bool.and_false,zC]
 unfold zFP pvOf
 cases x<;>try rfl
 rename_i p
 simp only[idxI]
 cases p.asInt<;>rfl
theorem zDG{R:Type} (ow:List Ob):∀(l:List AV) (k:List PV->Option R),zFO ow l k=(zFO ow l some).bind k
 | [],k=>rfl
 |a::r,k=>by
  simp only[zFO]
  rw[zAN (R:=R) ow a,zAN (R:=List PV) ow a]
  cases zDW ow a some with
  |none=>rfl
  |some p =>
   simp only[zB]
   rw[zDG ow r,zDG (R:=List PV) ow r (λ ps=>some (p::ps))]
   cases zFO ow r some<;>rfl
theorem zEx{R:Type} (sh:Nat) (ow:List Ob):∀(l:List AV) (k:List PV->Option R),zFx sh ow l k=(zFx sh ow l some).bind k
 | [],k=>rfl
 |a::r,k=>by
  simp only[zFx]
  rw[zAN (R:=R) ow a,zAN (R:=List PV) ow a]
  cases zDW ow a some with
  |none=>rfl
  |some p =>
   simp only[zB]
   cases p.okSh sh with
   |false=>rfl
   |true =>
    simp only[zA]
    rw[zEx sh ow r,zEx (R:=List PV) sh ow r (λ ps=>some (p::ps))]
    cases zFx sh ow r some<;>rfl
theorem zGr{R:Type} (zFc:Nat->Option (Nat×Nat)):∀(l:List (Nat×AV)) (cs:List AV) (k:List AV->Option R),zJE zFc cs l k=(zJE zFc cs l some).bind k
 | [],cs,k=>rfl
 |(i,a)::r,cs,k=>by
  simp only[zJE]
  cases zFc i with
  |none=>rfl
  |some q =>
   obtain⟨off,sh⟩:=q
   simp only
   cases (a.okSh sh&&decide (off+szOf sh<=cs.length)) with
   |false=>rfl
   |true=>simp only[zA];exact zGr zFc r _ k
theorem zH1{R:Type} (c:Cfg) (ow:List Ob) (fr:List (Nat×AV)):∀(l:List ResultVar) (k:List PV->Option R),resO c ow fr l k=(resO c ow fr l some).bind k
 | [],k=>rfl
 | .tmp t::r,k=>by
  simp only[resO]
  rw[zAN (R:=R) ow,zAN (R:=List PV) ow]
  cases zDW ow (get fr t) some with
  |none=>rfl
  |some p =>
   simp only[zB]
   rw[zH1 c ow fr r,zH1 (R:=List PV) c ow fr r (λ ps=>some (p::ps))]
   cases resO c ow fr r some<;>rfl
 | .cell t ty::r,k=>by
  simp only[resO]
  cases c.known ty with
  |false=>rfl
  |true =>
  simp only[zAH,zC]
  rw[zEQ (R:=R) ow,zEQ (R:=List PV) ow]
  cases zGW ow (get fr t) (c.sh ty) some with
  |none=>rfl
  |some a =>
   simp only[zB]
   rw[zAN (R:=R) ow,zAN (R:=List PV) ow]
   cases zDW ow a some with
   |none=>rfl
   |some p =>
    simp only[zB]
    rw[zH1 c ow fr r,zH1 (R:=List PV) c ow fr r (λ ps=>some (p::ps))]
    cases resO c ow fr r some<;>rfl
end
section
variable {R R' :Type}
theorem zL9{z:AV} {p:PV} {k:PV->Option R} {y:R} (h:zIT z p k=some y):k p=some y:=by
 unfold zIT at h
 split at h
 ·obtain⟨n,h1,h2⟩:=zJ.1 h
  cases p<;>simp only[PV.asIntK]at h1<;>try (cases h1;done)
  rename_i k' n' kd m
  cases e:decide (kd=k')<;>rw[e]at h1
  ·cases h1
  ·cases h1
   have:=zAM e
   subst this
   exact h2
 ·obtain⟨n,h1,h2⟩:=zJ.1 h
  cases p<;>simp only[PV.asBool]at h1<;>try (cases h1;done)
  cases h1;exact h2
 ·obtain⟨n,h1,h2⟩:=zJ.1 h
  cases p<;>simp only[PV.asStr]at h1<;>try (cases h1;done)
  cases h1;exact h2
 ·obtain⟨n,h1,h2⟩:=zJ.1 h
  cases p<;>simp only[PV.asSlice]at h1<;>try (cases h1;done)
  rename_i sh sh' xs
  cases e:(sh==sh')<;>rw[e]at h1
  ·cases h1
  ·cases h1
   have:=beq_iff_eq.1 e
   subst this
   exact h2
 ·exact h
theorem zKi:∀{zs:List AV} {i:Nat} {cs:List PV} {k:List PV->Option R} {y:R},zFQ zs i cs k=some y->k (cs.drop i)=some y
 | [],i,cs,k,y,h=>by
  simp only[zFQ]at h
  cases e:(cs.length==i)<;>rw[e]at h
  ·cases h
  ·have:=beq_iff_eq.1 e
   rw[List.drop_of_length_le (by omega)]
   exact h
 |z::zs,i,cs,k,y,h=>by
  simp only[zFQ]at h
  obtain⟨p,h1,h2⟩:=zJ.1 h
  have h3:=zKi (zL9 h2)
  obtain⟨hlt,rfl⟩:=zQ.1 h1
  rw[zAv hlt]
  exact h3
theorem zXM{c:Cfg} {t:TypeId} {p:PV} {k:PV->Option R} {y:R} (h:zO4 c t p k=some y):k p=some y:=by
 unfold zO4 at h
 split at h
 ·split at h
  ·exact zL9 h
  ·exact h
 ·obtain⟨cs,h1,h2⟩:=zJ.1 h
  cases p<;>simp only[PV.asAgg]at h1<;>try (cases h1;done)
  cases h1
  simpa using zKi h2
theorem zQW{c:Cfg} {o:Oper} {a:AV} {k:AV->Option R} {y:R} (h:zKn c o a k=some y):k a=some y:=by
 unfold zKn at h
 cases a<;>try exact h
 simp only at h
 split at h<;>first | exact zXM h | exact h
theorem zNM(z:AV) (p:PV) (k:PV->Option R) (g:R->Option R'):(zIT z p k).bind g=zIT z p λ q=>(k q).bind g:=by
 unfold zIT
 split<;>simp only[zBD]
theorem zLa:∀(zs:List AV) (i:Nat) (cs:List PV) (k:List PV->Option R) (g:R->Option R'),(zFQ zs i cs k).bind g=zFQ zs i cs λ q=>(k q).bind g
 | [],i,cs,k,g=>by simp only[zFQ];cases (cs.length==i)<;>rfl
 |z::zs,i,cs,k,g=>by
  simp only[zFQ,zBD,zNM]
  congr 1;funext p
  congr 1;funext p'
  exact zLa zs (i+1) cs _ g
theorem zYc(c:Cfg) (t:TypeId) (p:PV) (k:PV->Option R) (g:R->Option R'):(zO4 c t p k).bind g=zO4 c t p λ q=>(k q).bind g:=by
 unfold zO4
 split
 ·split
  ·exact zNM _ _ _ _
  ·rfl
 ·simp only[zBD]
  congr 1;funext cs
  exact zLa _ _ _ _ _
theorem zS8(c:Cfg) (o:Oper) (a:AV) (k:AV->Option R) (g:R->Option R'):(zKn c o a k).bind g=zKn c o a λ q=>(k q).bind g:=by
 unfold zKn
 cases a<;>try rfl
 simp only
 split<;>first | exact zYc _ _ _ _ _ | rfl
theorem z0a{c:Cfg} {o:Oper} {a:AV} {k k' :AV->Option R} {y:R} (h:zKn c o a k=some y) (hk:k a=some y->k' a=some y):zKn c o a k' =some y:=by
 have key:∀(f:AV->Option R),zKn c o a f=(zKn c o a some).bind f:=λ f=>by rw[zS8];rfl
 rw[key]at h ⊢
 obtain⟨b,h1,h2⟩:=zJ.1 h
 have:=zQW h1
 cases this
 rw[h1]
 exact hk h2
end
end Go.Ab
