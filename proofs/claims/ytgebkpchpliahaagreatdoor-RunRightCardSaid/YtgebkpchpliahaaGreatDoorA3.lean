/- Part 4 of the proof: an abstract machine that runs the program's code over plain values, its soundness, and what the functions tell of plain values. Conditions: those in each theorem. -/
import Derived.Test.YtgebkpchpliahaaGreatDoorA2
import Derived.Laws.StructEq
import Derived.ChangeKeysEq
import Derived.ChangeFn
import Derived.Laws.BytesArg
import Derived.Lib.SliceRun
set_option linter.unusedSectionVars false
set_option linter.unusedVariables false
set_option linter.unusedSimpArgs false
noncomputable section
namespace Go.Ab
open Go.RowKit (Below)
variable [GL:Gl]
section
variable {P:Program} {c:Cfg} {w:World} {S:Pr}
theorem zE9{x:Value} {k:IntKind} {n:Int} (h:VP S x (.int k n)):x= .int k n:=by cases h;rfl
theorem zG1{x:Value} {b:Bool} (h:VP S x (.bool b)):x= .bool b:=by cases h;rfl
theorem zJ5{x:Value} {s:ByteArray} (h:VP S x (.str s)):x= .string s:=by cases h;rfl
theorem zHK{p:PV} {b:Bool} (h:p.asBool=some b):p= .bool b:=by cases p<;>simp[PV.asBool]at h;rw[h]
theorem zHm{p:PV} {b:ByteArray} (h:p.asStr=some b):p= .str b:=by cases p<;>simp[PV.asStr]at h;rw[h]
theorem zSC{p:PV} {n:Int} (h:p.asInt=some n):∃ k,p= .int k n:=by cases p<;>simp[PV.asInt]at h;subst h;exact⟨_,rfl⟩
def BinR(P:Program) (w:World) (op:BinOp) (t:TypeId) (xo yo:Operand) (x y:Value) (u:Value):Prop :=
 (do eqGuard op t xo yo x y;binOp op t x y:Sem Value).run P w= .ok u w
theorem zTa{op:BinOp} (hop:op= .shl∨op= .shr) {t:TypeId} {xo yo:Operand} {x y:Value} {p q z:PV} (hx:VP S x p) (hy:VP S y q) (h:zTU op p q=some z) :
 ∃ u,BinR P w op t xo yo x y u/\VP S u z:=by
 unfold zTU at h
 split at h
 ·rename_i k a kb b
  have ex:=zE9 hx;subst ex
  have ey:=zE9 hy;subst ey
  unfold zXF at h
  cases hd:decide (b<0) with
  |true=>rw[hd]at h;cases h
  |false =>
   rw[hd]at h
   have hb:¬ b<0:=of_decide_eq_false hd
   rcases hop with rfl | rfl
   ·simp only[zC,zE]at h;subst h
    refine⟨_,?_,.int _ _⟩
    simp[BinR,eqGuard_shl,binOp,Op.shift,hb]
   ·simp only[zC,zE]at h;subst h
    refine⟨_,?_,.int _ _⟩
    simp[BinR,eqGuard_shr,binOp,Op.shift,hb]
 ·cases h
theorem zYY{op:BinOp} (h1:op≠ .shl) (h2:op≠ .shr) {t:TypeId} {xo yo:Operand} {x y:Value} {p q z:PV} (hx:VP S x p) (hy:VP S y q) (h:intP op p q=some z) :
 ∃ u,BinR P w op t xo yo x y u/\VP S u z:=by
 unfold intP at h
 split at h
 ·rename_i k a kb b
  have ex:=zE9 hx;subst ex
  have ey:=zE9 hy;subst ey
  cases hd:decide (k=kb) with
  |false=>rw[hd]at h;cases h
  |true =>
   rw[hd]at h
   have hk:k=kb:=zAP hd
   subst hk
   simp only[zA]at h
   cases op<;>simp only[z3u]at h
   case shl=>exact absurd rfl h1
   case shr=>exact absurd rfl h2
   case quo =>
    cases hb:(b==0) with
    |true=>rw[hb]at h;cases h
    |false =>
     rw[hb]at h
     simp only[zC,zE]at h;subst h
     have hb' :¬ b=0:=by simpa using hb
     exact⟨_,by simp[BinR,eqGuard_quo,binOp_quo,Op.intDiv,hb'],.int _ _⟩
   case rem =>
    cases hb:(b==0) with
    |true=>rw[hb]at h;cases h
    |false =>
     rw[hb]at h
     simp only[zC,zE]at h;subst h
     have hb' :¬ b=0:=by simpa using hb
     exact⟨_,by simp[BinR,eqGuard_rem,binOp_rem,Op.intDiv,hb'],.int _ _⟩
   all_goals
    simp only[zE]at h;subst h
    first
     |exact⟨_,by simp[BinR,eqGuard_at_int,binOp,Op.intArith,Op.intBits,Op.intCmp];rfl,.int _ _⟩
     |exact⟨_,by simp[BinR,eqGuard_at_int,binOp,Op.intArith,Op.intBits,Op.intCmp],.int _ _⟩
     |exact⟨_,by simp[BinR,eqGuard_at_int,binOp,Op.intArith,Op.intBits,Op.intCmp];rfl,.bool _⟩
     |exact⟨_,by simp[BinR,eqGuard_at_int,binOp,Op.intArith,Op.intBits,Op.intCmp],.bool _⟩
 ·cases h
theorem zYZ{op:BinOp} (h1:op≠ .shl) (h2:op≠ .shr) {t:TypeId} {xo yo:Operand} {x y:Value} {p q z:PV} (hx:VP S x p) (hy:VP S y q) (h:strP op p q=some z) :
 ∃ u,BinR P w op t xo yo x y u/\VP S u z:=by
 unfold strP at h
 split at h
 ·rename_i a b
  have ex:=zJ5 hx;subst ex
  have ey:=zJ5 hy;subst ey
  cases op<;>simp only[z3v]at h<;>try (cases h;done)
  case add =>
   cases hd:decide (a.size+b.size<=9223372036854775807) with
   |false=>rw[hd]at h;cases h
   |true =>
    rw[hd]at h
    simp only[zA,zE]at h;subst h
    have hle:=zAP hd
    have hn:¬ (9223372036854775807<((a.size:Int)+(b.size:Int))):=by omega
    exact⟨_,by simp[BinR,eqGuard_at_string,binOp,Op.stringOp,hn],.str _⟩
  all_goals
   simp only[zE]at h;subst h
   exact⟨_,by simp[BinR,eqGuard_at_string,binOp,Op.stringOp],.bool _⟩
 ·cases h
theorem zFn(hT:TyOK P c) {t:TypeId} (hk:c.known t=true) {cs:Array Value} {ps:List PV} {off:Nat} {q:PV} (hx:VP S (.agg cs) (.agg ps)) (h:PV.load (ps.length+1) (.agg ps) off (c.sh t)=some q) :
 ∃ u,(part t cs off).run P w= .ok u w/\VP S u q:=by
 have hsh:(PV.agg ps).okSh (ps.length+1)=true:=by simp[PV.okSh]
 obtain⟨d1,d2,d3⟩:=hx.cells hsh
 obtain⟨hle,hv⟩:=PV.load_sound (f:=λ j=>cs.getD j undef) hsh (λ j hj=>by
  have hlt:j<cs.size:=by simpa [Value.cells,d1]using(by rw[show cs.size=szOf (ps.length+1)from d1];exact hj:j<cs.size)
  show(cs.getD j undef).oneCell' =true
  rw[zCZ (zAo hlt)];exact d2 _ (Array.getElem_mem hlt)) (λ j p hp=>by
  have hlt:j<cs.size:=by rw[show cs.size=szOf (ps.length+1)from d1];exact(zQ.1 hp).1
  show VP S (cs.getD j undef) p
  rw[zCZ (zAo hlt)];exact d3 j _ p (zAo hlt) hp) h
 refine⟨_,?_,hv⟩
 have hcs:cs.size=szOf (ps.length+1):=d1
 have ha:=hT.isAgg hk w
 have hs:=hT.sizeOf hk w
 simp only[part,Sem.run_bind,ha,Result.andThen_ok]
 cases hshh:c.sh t with
 |zero =>
  rw[hshh]at hle
  have hlt:off<cs.size:=by simp only[szOf]at hle hcs ⊢;omega
  simp[asSh,zAo hlt]
 |succ n =>
  rw[hshh]at hle hs
  simp only[szOf]at hle hcs hs
  have hne:(n+1 != 0)=true:=rfl
  simp only[asSh,hne,if_true,Sem.run_bind,hs,Result.andThen_ok,Sem.run_pure]
  congr 2
  apply Array.ext
  ·simp;omega
  ·intro i h1 h2
   have h3:i<n:=by simpa using h2
   simp only[Array.getElem_extract]
   have hlt:off+i<cs.size:=by omega
   simp[hlt]
theorem zRI(hT:TyOK P c) {eq:TypeId->PV->PV->Option Bool} {d:Nat} (heq:∀ t x y p q b,VP S x p->VP S y q->eq t p q=some b->(Op.equalIn d t x y).run P w= .ok b w)
 {xs ys:Array Value} {ps qs:List PV} (hx:VP S (.agg xs) (.agg ps)) (hy:VP S (.agg ys) (.agg qs)):∀(fds:List Field) (b:Bool),(∀ f∈fds,f.name≠ "_" /\c.known f.type=true) ->
  eqFs c eq (.agg ps) (.agg qs) (fds.map λ f=>(f.type,f.offset))=some b->(Op.eqFields d xs ys fds).run P w= .ok b w
 | [],b,_,h=>by simp[eqFs]at h;subst h;rfl
 |f::r,b,hf,h=>by
  simp only[zA1,eqFs,zL]at h
  obtain⟨x,h1,y,h2,e,h3,h4⟩:=h
  obtain⟨hn,hk⟩:=hf f (by simp)
  obtain⟨u,k1,k2⟩:=zFn (w:=w) hT hk hx h1
  obtain⟨v,m1,m2⟩:=zFn (w:=w) hT hk hy h2
  have k3:=heq _ _ _ _ _ _ k2 m2 h3
  simp only[Op.eqFields,hn,ne_eq,not_false_eq_true,if_true,Sem.run_bind,k1,m1,k3,Result.andThen_ok]
  cases e with
  |false=>simp only[zC,zE]at h4;subst h4;simp
  |true =>
   simp only[zA]at h4
   simpa using zRI hT heq hx hy r b (λ g hg=>hf g (by simp[hg])) h4
theorem zRJ(hT:TyOK P c) {eq:PV->PV->Option Bool} {d:Nat} {e:TypeId} (hk:c.known e=true) (heq:∀ x y p q b,VP S x p->VP S y q->eq p q=some b->(Op.equalIn d e x y).run P w= .ok b w)
 {xs ys:Array Value} {ps qs:List PV} (hx:VP S (.agg xs) (.agg ps)) (hy:VP S (.agg ys) (.agg qs)):∀(m i:Nat) (b:Bool),
  eqAs c eq (.agg ps) (.agg qs) (c.sh e) m i=some b->(Op.eqItems d e (szOf (c.sh e)) xs ys ((List.range m).map (i+ ·))).run P w= .ok b w
 | 0,i,b,h=>by simp[eqAs]at h;subst h;simp[Op.eqItems]
 |m+1,i,b,h=>by
  simp only[eqAs,zL]at h
  obtain⟨x,h1,y,h2,z,h3,h4⟩:=h
  obtain⟨u,k1,k2⟩:=zFn (w:=w) hT hk hx h1
  obtain⟨v,m1,m2⟩:=zFn (w:=w) hT hk hy h2
  have k3:=heq _ _ _ _ _ k2 m2 h3
  have hl:(List.range (m+1)).map (i+ ·)=i::(List.range m).map (i+1+ ·):=by
   rw[List.range_succ_eq_map];simp[List.map_map,Function.comp_def,Nat.add_assoc,Nat.add_comm 1]
  rw[hl]
  simp only[Op.eqItems,Sem.run_bind,k1,m1,k3,Result.andThen_ok]
  cases z with
  |false=>simp only[zC,zE]at h4;subst h4;simp
  |true =>
   simp only[zA]at h4
   simpa using zRJ hT hk heq hx hy m (i+1) b h4
theorem zGg{n:Nat} {p:PV} (h:p.okSh (n+1)=true):∃ ps,p= .agg ps/\ps.length=n:=by
 cases p<;>simp[PV.okSh]at h
 exact⟨_,rfl,h⟩
theorem eqP_sound(hT:TyOK P c):∀(n d:Nat) (t:TypeId) (x y:Value) (p q:PV) (b:Bool),n<=d->VP S x p->VP S y q->eqP c n t p q=some b->(Op.equalIn d t x y).run P w= .ok b w
 | 0,_,_,_,_,_,_,_,_,_,_,h=>by simp[eqP]at h
 |n+1,d,t,x,y,p,q,b,hd,hx,hy,h=>by
  obtain⟨d,rfl⟩:∃ d',d=d' +1:=⟨d-1,by omega⟩
  have hk:=hT.kind t
  simp only[eqP]at h
  cases hkk:(c.at_ t).k<;>rw[hkk]at h hk<;>simp only at h hk<;>try (cases h;done)
  case bool =>
   simp only[zL,zE]at h
   obtain⟨a,ha,a',ha',rfl⟩:=h
   have e1:=zHK ha;subst e1;have e2:=zHK ha';subst e2
   have ex:=zG1 hx;subst ex;have ey:=zG1 hy;subst ey
   exact run_equalIn_bool w d t a a' hk
  case int k =>
   unfold z5u at h
   split at h
   ·rename_i k1 a k2 a'
    have ex:=zE9 hx;subst ex;have ey:=zE9 hy;subst ey
    cases hdd:decide (k1=k2) with
    |false=>rw[hdd]at h;cases h
    |true =>
     rw[hdd]at h
     have e:=zAP hdd;subst e
     simp only[zA,zE]at h;subst h
     exact run_equalIn_int w d t k1 k a a' hk
   ·cases h
  case str =>
   simp only[zL,zE]at h
   obtain⟨a,ha,a',ha',rfl⟩:=h
   have e1:=zHm ha;subst e1;have e2:=zHm ha';subst e2
   have ex:=zJ5 hx;subst ex;have ey:=zJ5 hy;subst ey
   exact run_equalIn_string w d t a a' hk
  case struct fs =>
   cases hok:(p.okSh (c.sh t)&&q.okSh (c.sh t)) with
   |false=>rw[hok]at h;cases h
   |true =>
    rw[hok]at h
    simp only[zA]at h
    simp only[zF]at hok
    have hsh:c.sh t=(c.at_ t).sz+1:=by unfold Cfg.sh;rw[hkk]
    rw[hsh]at hok
    obtain⟨ps,rfl,_⟩:=zGg hok.1
    obtain⟨qs,rfl,_⟩:=zGg hok.2
    obtain⟨fds,hu,hfs,hnm,hkn⟩:=hk
    have hx' :=hx
    have hy' :=hy
    cases hx with | agg xs _ _ _ _=>cases hy with | agg ys _ _ _ _ =>
    have hfo:P.fieldsOf t=fds:=by unfold Program.fieldsOf;rw[hu]
    rw[run_equalIn_struct w d t _ _ (by rw[hfo];exact hu) (hT.held t fs hkk),hfo]
    refine zRI hT (λ t x y p q b hx hy he=>eqP_sound hT n d t x y p q b (by omega) hx hy he) hx' hy' fds.toList b (λ f hf=>⟨hnm f (by simpa using hf),?_⟩) (by rw[hfs];exact h)
    exact(hkn (f.type,f.offset) (by rw[<- hfs];exact zAV.2 ⟨f,hf,rfl⟩)).1
  case arr m e =>
   cases hok:(p.okSh (c.sh t)&&q.okSh (c.sh t)) with
   |false=>rw[hok]at h;cases h
   |true =>
    rw[hok]at h
    simp only[zA]at h
    simp only[zF]at hok
    have hsh:c.sh t=(c.at_ t).sz+1:=by unfold Cfg.sh;rw[hkk]
    rw[hsh]at hok
    obtain⟨ps,rfl,_⟩:=zGg hok.1
    obtain⟨qs,rfl,_⟩:=zGg hok.2
    have hx' :=hx
    have hy' :=hy
    cases hx with | agg xs _ _ _ _=>cases hy with | agg ys _ _ _ _ =>
    obtain⟨i,hi,hisz,_⟩:=hT.info e hk.2
    have hcell:P.cellsOf e=szOf (c.sh e):=by unfold Program.cellsOf;rw[hi];exact hisz
    rw[run_equalIn_array w d _ _ hk.1 hi,hcell]
    have:=zRJ hT hk.2 (λ x y p q b hx hy he=>eqP_sound hT n d e x y p q b (by omega) hx hy he) hx' hy' m 0 b h
    simpa using this
theorem zY0(hT:TyOK P c) {op:BinOp} {t:TypeId} {xo yo:Operand} {x y:Value} {p q z:PV} (hx:VP S x p) (hy:VP S y q) (h:binP c op t p q=some z) :
 ∃ u,BinR P w op t xo yo x y u/\VP S u z:=by
 by_cases hs:op= .shl∨op= .shr
 ·have:zTU op p q=some z:=by rcases hs with rfl | rfl<;>exact h
  exact zTa hs hx hy this
 ·have h1:op≠ .shl:=λ e=>hs (.inl e)
  have h2:op≠ .shr:=λ e=>hs (.inr e)
  have hb:z4c c op t p q=some z:=by
   rw[<- h];cases op<;>first | rfl | exact absurd rfl h1 | exact absurd rfl h2
  have eqs:(∀ k,(c.at_ t).k≠ .int k)->(c.at_ t).k≠ .str->eqNe c op t p q=some z->∃ u,BinR P w op t xo yo x y u/\VP S u z:=λ hni hns he=>by
   have shape:∀ b,eqP c 6 t p q=some b->(∃ a a',x= .bool a/\y= .bool a')∨(∃ xs ys,x= .agg xs/\y= .agg ys/\c.sh t≠0):=λ b hbb=>by
    simp only[eqP]at hbb
    cases hkk:(c.at_ t).k<;>rw[hkk]at hbb hni hns<;>simp only at hbb<;>try (cases hbb;done)
    case bool =>
     simp only[zL,zE]at hbb
     obtain⟨a,ha,a',ha',rfl⟩:=hbb
     have e1:=zHK ha;subst e1;have e2:=zHK ha';subst e2
     exact .inl ⟨a,a',zG1 hx,zG1 hy⟩
    case int k=>exact absurd rfl (hni k)
    case str=>exact absurd rfl hns
    all_goals
     right
     cases hok:(p.okSh (c.sh t)&&q.okSh (c.sh t)) with
     |false=>rw[hok]at hbb;cases hbb
     |true =>
      simp only[zF]at hok
      have hsh:c.sh t=(c.at_ t).sz+1:=by unfold Cfg.sh;rw[hkk]
      rw[hsh]at hok
      obtain⟨ps,rfl,_⟩:=zGg hok.1
      obtain⟨qs,rfl,_⟩:=zGg hok.2
      cases hx;cases hy
      exact⟨_,_,rfl,rfl,by rw[hsh];simp⟩
   cases op<;>simp only[eqNe]at he<;>try (cases he;done)
   case eql =>
    simp only[zL,zE]at he
    obtain⟨b,hbb,rfl⟩:=he
    have hr:=eqP_sound (w:=w) hT 6 10000 t x y p q b (by omega) hx hy hbb
    refine⟨.bool b,?_,.bool b⟩
    rcases shape b hbb with⟨a,a',rfl,rfl⟩ | ⟨xs,ys,rfl,rfl,hne⟩
    ·simp only[BinR,eqGuard_at_bool,Sem.run_bind,Sem.run_pure,Result.andThen_ok,binOp,Op.equal,Op.maxDepth,hr]
    ·simp only[BinR,Sem.run_bind,run_eqGuard_agg w .eql t xo yo xs ys (hT.guard t hne),Result.andThen_ok,run_eql_struct,hr]
   case neq =>
    simp only[zL,zE]at he
    obtain⟨b,hbb,rfl⟩:=he
    have hr:=eqP_sound (w:=w) hT 6 10000 t x y p q b (by omega) hx hy hbb
    refine⟨.bool (!b),?_,.bool (!b)⟩
    rcases shape b hbb with⟨a,a',rfl,rfl⟩ | ⟨xs,ys,rfl,rfl,hne⟩
    ·simp only[BinR,eqGuard_at_bool,Sem.run_bind,Sem.run_pure,Result.andThen_ok,binOp,Op.equal,Op.maxDepth,hr]
    ·simp only[BinR,Sem.run_bind,run_eqGuard_agg w .neq t xo yo xs ys (hT.guard t hne),Result.andThen_ok,run_neq_struct,hr]
  unfold z4c at hb
  cases hkk:(c.at_ t).k<;>rw[hkk]at hb eqs<;>simp only at hb
  case int k=>exact zYY h1 h2 hx hy hb
  case str=>exact zYZ h1 h2 hx hy hb
  all_goals exact eqs (by simp) (by simp) hb
theorem zZx{op:UnOp} {x:Value} {p z:PV} (hx:VP S x p) (h:unP op p=some z):∃ u,(Op.unary op x).run P w= .ok u w/\VP S u z:=by
 cases op<;>simp only[unP]at h<;>try (cases h;done)
 case not =>
  simp only[zL,zE]at h
  obtain⟨b,hb,rfl⟩:=h
  have e:=zHK hb;subst e
  have ex:=zG1 hx;subst ex
  exact⟨_,rfl,.bool _⟩
 case neg =>
  unfold negP at h
  split at h
  ·rename_i k n
   simp only[zE]at h;subst h
   have ex:=zE9 hx;subst ex
   exact⟨_,rfl,.int _ _⟩
  ·cases h
theorem zV5{sh:Nat} {p:PV} {xs:List PV} (h:PV.asSlice sh p=some xs):p= .slice sh xs:=by
 unfold PV.asSlice at h
 split at h
 ·rename_i sh' ys
  cases e:(sh==sh') with
  |true=>rw[e]at h;simp at h;subst h;rw[beq_iff_eq.1 e]
  |false=>rw[e]at h;simp at h
 ·cases h
theorem zTb:∀{xs:List PV} {ns:List Int},zTV xs=some ns->xs=ns.map (PV.int .u8)
 | [],ns,h=>by simp only[zTV,zE]at h;subst h;rfl
 |p::ps,ns,h=>by
  simp only[zTV,zL,zE]at h
  obtain⟨n,hn,ms,hm,rfl⟩:=h
  rw[zTb hm]
  unfold PV.asIntK at hn
  split at hn
  ·rename_i k m
   by_cases e:k= .u8
   ·subst e;simp at hn;subst hn;rfl
   ·simp[e]at hn
  ·cases hn
theorem zV6(hT:TyOK P c) (hp:∀ b o v,S b o=some v->memV w b o=some v) {s d:TypeId} {x:Value} {p z:PV} (hx:VP S x p) (h:z4d c s d p=some z):∃ u,(convert s d x).run P w= .ok u w/\VP S u z:=by
 unfold z4d at h
 have hs:=hT.kind s
 have hd:=hT.kind d
 split at h
 ·rename_i e e1 e2
  rw[e1]at hs;rw[e2]at hd
  split at h
  ·rename_i e3
   have he:=hT.kind e
   rw[e3]at he
   simp only[zL,zE]at h
   obtain⟨xs,hxs,ns,hns,rfl⟩:=h
   have e4:=zTb hns
   have e5:=zV5 hxs
   subst e5
   cases hx with
   |slice base len cap _ _ b o vals hl hc hb hsh hS hV =>
    cases base with
    |none =>
     have:len=0:=by
      rcases Nat.eq_zero_or_pos len with h | h
      ·exact h
      ·exact absurd (hb h) (by simp)
     subst this
     have:ns=[]:=by rw[e4]at hl;simpa using hl
     subst this
     exact⟨_,run_convert_bytes_nil w s e hs.1 he 0 cap d hd,by exact VP.str _⟩
    |some a =>
     rcases Nat.eq_zero_or_pos len with h0 | h0
     ·subst h0
      have:ns=[]:=by rw[e4]at hl;simpa using hl
      subst this
      refine⟨.string ByteArray.empty,?_,VP.str _⟩
      rw[run_convert_bytes_string w s d e _ 0 cap hs.1 he hd,run_bytesToString w a 0 cap [] (by simp[loadCells];rfl)]
      rfl
     ·have ha:=hb h0
      simp only[zE]at ha;subst ha
      refine⟨.string (zTW ns),?_,VP.str _⟩
      have:=run_convert_bytes_arg (P:=P) w s e hs.1 he b o len cap ns (by rw[<- hl,e4];simp) (λ i hi=>by
       have k1:=hS i 0 hi (by simp[szOf])
       have hin:i<ns.length:=by rw[e4]at hl;simp at hl;omega
       have k2:=hV i 0 (PV.int .u8 ns[i]) (PV.int .u8 ns[i]) (by rw[e4];simp[zI hin]) rfl
       have k3:=zE9 k2
       have k4:=zJu (hp _ _ _ k1.1) k1.2
       rw[k3]at k4
       simp only[szOf,Nat.mul_one,Nat.add_zero]at k4
       rw[k4]
       simp[List.getD,zI hin]) d hd
      exact this
  ·cases h
 ·rename_i k k' e1 e2
  rw[e1]at hs;rw[e2]at hd
  simp only[zL,zE]at h
  obtain⟨n,hn,rfl⟩:=h
  obtain⟨kk,rfl⟩:=zSC hn
  have ex:=zE9 hx;subst ex
  exact⟨_,by simp[convert,run_underlying hs,run_underlying hd,Conv.intToInt],.int _ _⟩
 ·rename_i k e1 e2
  rw[e1]at hs;rw[e2]at hd
  simp only[zL,zE]at h
  obtain⟨n,hn,rfl⟩:=h
  obtain⟨kk,rfl⟩:=zSC hn
  have ex:=zE9 hx;subst ex
  exact⟨_,by simp[convert,run_underlying hs,run_underlying hd,Conv.intToString],.str _⟩
 ·rename_i e1 e2
  rw[e1]at hs;rw[e2]at hd
  simp only[zL,zE]at h
  obtain⟨n,hn,rfl⟩:=h
  have e:=zHm hn;subst e
  have ex:=zJ5 hx;subst ex
  exact⟨_,by simp[convert,run_underlying hs,run_underlying hd],.str _⟩
 ·cases h
end
end Go.Ab

namespace Go.Ab
variable [GL:Gl]
section
variable {R:Type}
theorem zBZ{a:AV} {k:PV->Option R} {y:R} (h:pvOf a k=some y):∃ p,a= .pv p/\k p=some y:=by
 cases a<;>simp only[pvOf]at h<;>first | exact⟨_,rfl,h⟩ | cases h
theorem zZy(sh:Nat) (a:AV) (off sh' :Nat) (k:AV->Option R):zYS sh a off sh' k=(zYS sh a off sh' some).bind k:=by
 unfold zYS
 cases (sh==sh' &&off==0) with
 |true=>rfl
 |false =>
  simp only[zC]
  cases a with
  |pv p=>simp only;cases p.load sh off sh' <;>rfl
  |agg cs =>
   cases sh' with
   |zero=>simp only;cases cs[off]? <;>rfl
   |succ n=>simp only;cases decide (off+n<=cs.length)<;>rfl
  |_=>rfl
theorem zEV(ow:List Ob) (ad:AV) (sh' :Nat) (k:AV->Option R):zGd ow ad sh' k=(zGd ow ad sh' some).bind k:=by
 unfold zGd
 cases ad with
 |own o off =>
  simp only
  cases ow[o]? with
  |none=>rfl
  |some ob=>cases ob<;>first | rfl | exact zZy ..
 |pv p=>cases p<;>try rfl
        rename_i sh v off
        simp only;cases v.load sh off sh' <;>rfl
 |elem o ver i off =>
  simp only
  cases ow[o]? with
  |none=>rfl
  |some ob =>
   cases ob<;>try rfl
   rename_i sl ver' sh xs
   simp only
   cases (ver==ver')<;>simp only[zA,zC]<;>try rfl
   cases xs[i]? with
   |none=>rfl
   |some v=>simp only[zB];cases v.load sh off sh' <;>rfl
 |fe o i off =>
  simp only
  cases ow[o]? with
  |none=>rfl
  |some ob =>
   cases ob<;>try rfl
   rename_i ver sh xs
   simp only
   cases xs[i]? with
   |none=>rfl
   |some v=>simp only[zB];cases v.load sh off sh' <;>rfl
 |_=>rfl
theorem zL2(ow:List Ob) (ad:AV) (sh' :Nat) (x:AV) (k:List Ob->Option R):zIO ow ad sh' x k=(zIO ow ad sh' x some).bind k:=by
 unfold zIO
 cases x.okSh sh' with
 |false=>rfl
 |true =>
 simp only[zA]
 cases ad with
 |own o off =>
  simp only
  cases ow[o]? with
  |none=>rfl
  |some ob =>
   cases ob<;>try rfl
   rename_i fz sh a
   cases fz<;>try rfl
   simp only
   cases (sh==sh' &&off==0)<;>simp only[zA,zC]<;>try rfl
   cases (decide (off+szOf sh' <=szOf sh)&&sh != 0)<;>rfl
 |elem o ver i off =>
  simp only
  cases ow[o]? with
  |none=>rfl
  |some ob =>
   cases ob<;>try rfl
   rename_i sl ver' sh xs
   cases sl<;>try rfl
   simp only
   cases (ver==ver')<;>simp only[zA,zC]<;>try rfl
   cases x<;>try rfl
   rename_i p
   simp only
   cases xs[i]? with
   |none=>rfl
   |some v=>simp only[zB];cases v.put sh off sh' p<;>rfl
 |fe o i off =>
  simp only
  cases ow[o]? with
  |none=>rfl
  |some ob =>
   cases ob<;>try rfl
   rename_i ver sh xs
   cases x<;>try rfl
   rename_i p
   simp only
   cases xs[i]? with
   |none=>rfl
   |some v=>simp only[zB];cases v.put sh off sh' p<;>rfl
 |_=>rfl
theorem zL3(sh:Nat) (mk:Bool) (ow:List Ob) (s:AV) (ys:List PV) (k:AV->List Ob->Option R) :
 zFW sh mk ow s ys k=(zFW sh mk ow s ys λ a b=>some (a,b)).bind λ z=>k z.1 z.2:=by
 unfold zFW
 cases s with
 |nil n =>
  simp only
  cases decide (ys.length<=lim)<;>simp only[zA,zC]<;>try rfl
  cases mk<;>rfl
 |view o ver sb =>
  simp only
  cases ow[o]? with
  |none=>rfl
  |some ob =>
   cases ob<;>try rfl
   rename_i sl ver' sh' xs
   simp only
   cases (ver==ver' &&sh==sh' &&(!sl || sb.isNone)&&decide ((AV.sub xs sb).length+ys.length<=lim))<;>simp only[zA,zC]<;>try rfl
   cases mk<;>rfl
 |_=>rfl
theorem zNu(sh:Nat) (mk:Bool) (ow:List Ob) (s x:AV) (k:AV->List Ob->Option R) :
 zFz sh mk ow s x k=(zFz sh mk ow s x λ a b=>some (a,b)).bind λ z=>k z.1 z.2:=by
 unfold zFz
 rw[zDe (R:=R) sh ow x,zDe (R:=AV×List Ob) sh ow x,zBG]
 congr 1;funext ys
 exact zL3 sh mk ow s ys k
theorem zAQ(ow:List Ob) (a:AV) (k:PV->Option R):zDZ ow a k=(zDZ ow a some).bind k:=by
 unfold zDZ
 cases a with
 |pv p=>rfl
 |_=>simp only;cases AV.port ow _<;>rfl
theorem zPX(c:Cfg) (e:TypeId) (mk:Bool) (ow:List Ob) (s x:AV) (k:AV->List Ob->Option R) :
 zIQ c e mk ow s x k=(zIQ c e mk ow s x λ a b=>some (a,b)).bind λ z=>k z.1 z.2:=by
 unfold zIQ
 cases s<;>try rfl
 simp only
 unfold zFY pvOf
 cases x<;>try rfl
 rename_i p
 simp only[idxI]
 cases p.asInt with
 |none=>rfl
 |some n =>
  simp only[zB]
  cases (decide (0<n)&&decide (n<=(lim:Int))&&decide ((c.at_ e).by_<=4096)&&mk)<;>simp only[zA,zC]<;>try rfl
  rw[zAQ [] (c.zero e),zAQ (R:=AV×List Ob) [] (c.zero e)]
  cases zDZ [] (c.zero e) some with
  |none=>rfl
  |some d=>simp only[zB];cases d.okSh (c.sh e)<;>rfl
theorem zMK(c:Cfg) (e:TypeId) (ow:List Ob) (s x:AV) (k:AV->List Ob->Option R):zIQ c e false ow s x k=none:=by
 unfold zIQ
 cases s<;>try rfl
 simp only[Bool.and_false,zC]
 unfold zFY pvOf
 cases x<;>try rfl
 rename_i p
 simp only[idxI]
 cases p.asInt<;>rfl
theorem zDO{R:Type} (ow:List Ob):∀(l:List AV) (k:List PV->Option R),zFX ow l k=(zFX ow l some).bind k
 | [],k=>rfl
 |a::r,k=>by
  simp only[zFX]
  rw[zAQ (R:=R) ow a,zAQ (R:=List PV) ow a]
  cases zDZ ow a some with
  |none=>rfl
  |some p =>
   simp only[zB]
   rw[zDO ow r,zDO (R:=List PV) ow r (λ ps=>some (p::ps))]
   cases zFX ow r some<;>rfl
theorem zFF{R:Type} (sh:Nat) (ow:List Ob):∀(l:List AV) (k:List PV->Option R),zGG sh ow l k=(zGG sh ow l some).bind k
 | [],k=>rfl
 |a::r,k=>by
  simp only[zGG]
  rw[zAQ (R:=R) ow a,zAQ (R:=List PV) ow a]
  cases zDZ ow a some with
  |none=>rfl
  |some p =>
   simp only[zB]
   cases p.okSh sh with
   |false=>rfl
   |true =>
    simp only[zA]
    rw[zFF sh ow r,zFF (R:=List PV) sh ow r (λ ps=>some (p::ps))]
    cases zGG sh ow r some<;>rfl
theorem zHL{R:Type} (zFm:Nat->Option (Nat×Nat)):∀(l:List (Nat×AV)) (cs:List AV) (k:List AV->Option R),zJk zFm cs l k=(zJk zFm cs l some).bind k
 | [],cs,k=>rfl
 |(i,a)::r,cs,k=>by
  simp only[zJk]
  cases zFm i with
  |none=>rfl
  |some q =>
   obtain⟨off,sh⟩:=q
   simp only
   cases (a.okSh sh&&decide (off+szOf sh<=cs.length)) with
   |false=>rfl
   |true=>simp only[zA];exact zHL zFm r _ k
theorem zHn{R:Type} (c:Cfg) (ow:List Ob) (fr:List (Nat×AV)):∀(l:List ResultVar) (k:List PV->Option R),resO c ow fr l k=(resO c ow fr l some).bind k
 | [],k=>rfl
 | .tmp t::r,k=>by
  simp only[resO]
  rw[zAQ (R:=R) ow,zAQ (R:=List PV) ow]
  cases zDZ ow (get fr t) some with
  |none=>rfl
  |some p =>
   simp only[zB]
   rw[zHn c ow fr r,zHn (R:=List PV) c ow fr r (λ ps=>some (p::ps))]
   cases resO c ow fr r some<;>rfl
 | .cell t ty::r,k=>by
  simp only[resO]
  cases c.known ty with
  |false=>rfl
  |true =>
  simp only[zAJ,zC]
  rw[zEV (R:=R) ow,zEV (R:=List PV) ow]
  cases zGd ow (get fr t) (c.sh ty) some with
  |none=>rfl
  |some a =>
   simp only[zB]
   rw[zAQ (R:=R) ow,zAQ (R:=List PV) ow]
   cases zDZ ow a some with
   |none=>rfl
   |some p =>
    simp only[zB]
    rw[zHn c ow fr r,zHn (R:=List PV) c ow fr r (λ ps=>some (p::ps))]
    cases resO c ow fr r some<;>rfl
end
section
variable {R R' :Type}
theorem zML{z:AV} {p:PV} {k:PV->Option R} {y:R} (h:zIr z p k=some y):k p=some y:=by
 unfold zIr at h
 split at h
 ·obtain⟨n,h1,h2⟩:=zL.1 h
  cases p<;>simp only[PV.asIntK]at h1<;>try (cases h1;done)
  rename_i k' n' kd m
  cases e:decide (kd=k')<;>rw[e]at h1
  ·cases h1
  ·cases h1
   have:=zAP e
   subst this
   exact h2
 ·obtain⟨n,h1,h2⟩:=zL.1 h
  cases p<;>simp only[PV.asBool]at h1<;>try (cases h1;done)
  cases h1;exact h2
 ·obtain⟨n,h1,h2⟩:=zL.1 h
  cases p<;>simp only[PV.asStr]at h1<;>try (cases h1;done)
  cases h1;exact h2
 ·obtain⟨n,h1,h2⟩:=zL.1 h
  cases p<;>simp only[PV.asSlice]at h1<;>try (cases h1;done)
  rename_i sh sh' xs
  cases e:(sh==sh')<;>rw[e]at h1
  ·cases h1
  ·cases h1
   have:=beq_iff_eq.1 e
   subst this
   exact h2
 ·exact h
theorem zLR:∀{zs:List AV} {i:Nat} {cs:List PV} {k:List PV->Option R} {y:R},zFZ zs i cs k=some y->k (cs.drop i)=some y
 | [],i,cs,k,y,h=>by
  simp only[zFZ]at h
  cases e:(cs.length==i)<;>rw[e]at h
  ·cases h
  ·have:=beq_iff_eq.1 e
   rw[List.drop_of_length_le (by omega)]
   exact h
 |z::zs,i,cs,k,y,h=>by
  simp only[zFZ]at h
  obtain⟨p,h1,h2⟩:=zL.1 h
  have h3:=zLR (zML h2)
  obtain⟨hlt,rfl⟩:=zQ.1 h1
  rw[zAk hlt]
  exact h3
theorem zY1{c:Cfg} {t:TypeId} {p:PV} {k:PV->Option R} {y:R} (h:zPQ c t p k=some y):k p=some y:=by
 unfold zPQ at h
 split at h
 ·split at h
  ·exact zML h
  ·exact h
 ·obtain⟨cs,h1,h2⟩:=zL.1 h
  cases p<;>simp only[PV.asAgg]at h1<;>try (cases h1;done)
  cases h1
  simpa using zLR h2
theorem zRK{c:Cfg} {o:Oper} {a:AV} {k:AV->Option R} {y:R} (h:zLX c o a k=some y):k a=some y:=by
 unfold zLX at h
 cases a<;>try exact h
 simp only at h
 split at h<;>first | exact zY1 h | exact h
theorem zNv(z:AV) (p:PV) (k:PV->Option R) (g:R->Option R'):(zIr z p k).bind g=zIr z p λ q=>(k q).bind g:=by
 unfold zIr
 split<;>simp only[zBG]
theorem zMM:∀(zs:List AV) (i:Nat) (cs:List PV) (k:List PV->Option R) (g:R->Option R'),(zFZ zs i cs k).bind g=zFZ zs i cs λ q=>(k q).bind g
 | [],i,cs,k,g=>by simp only[zFZ];cases (cs.length==i)<;>rfl
 |z::zs,i,cs,k,g=>by
  simp only[zFZ,zBG,zNv]
  congr 1;funext p
  congr 1;funext p'
  exact zMM zs (i+1) cs _ g
theorem zZz(c:Cfg) (t:TypeId) (p:PV) (k:PV->Option R) (g:R->Option R'):(zPQ c t p k).bind g=zPQ c t p λ q=>(k q).bind g:=by
 unfold zPQ
 split
 ·split
  ·exact zNv _ _ _ _
  ·rfl
 ·simp only[zBG]
  congr 1;funext cs
  exact zMM _ _ _ _ _
theorem zTc(c:Cfg) (o:Oper) (a:AV) (k:AV->Option R) (g:R->Option R'):(zLX c o a k).bind g=zLX c o a λ q=>(k q).bind g:=by
 unfold zLX
 cases a<;>try rfl
 simp only
 split<;>first | exact zZz _ _ _ _ _ | rfl
theorem z2Q{c:Cfg} {o:Oper} {a:AV} {k k' :AV->Option R} {y:R} (h:zLX c o a k=some y) (hk:k a=some y->k' a=some y):zLX c o a k' =some y:=by
 have key:∀(f:AV->Option R),zLX c o a f=(zLX c o a some).bind f:=λ f=>by rw[zTc];rfl
 rw[key]at h ⊢
 obtain⟨b,h1,h2⟩:=zL.1 h
 have:=zRK h1
 cases this
 rw[h1]
 exact hk h2
end
end Go.Ab
