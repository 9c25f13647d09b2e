/- Part 6 of the proof: an abstract machine that runs the program's code over plain values, its soundness, and what the functions tell of plain values. Conditions: those in each theorem. -/
import Derived.Test.YtgebkpchpliahaaGreatDoorA4
import Derived.Laws.Runes
set_option linter.unusedSectionVars false
set_option linter.unusedVariables false
set_option linter.unusedSimpArgs false
noncomputable section
namespace Go.Ab
open Go.RowKit (Below)
variable [GL:Gl]
section
variable {P:Program} {c:Cfg} {w0:Base} {w:World} {S0 S:Pr} {L:List Loc} {ow:List Ob} {call:Wf} {own:Hi} {o:Oper} {r:Operand->TypeId->AV} {act:Act} {av:AV} {ow' :List Ob}
theorem zYe(hT:TyOK P c) {t s:TypeId} (hk:c.known t=true) {v:Value} {p q:PV} {off:Nat} (hx:VP S v p) (hs:p.okSh (c.sh s)=true) (hne:c.sh s≠0) (h:p.load (c.sh s) off (c.sh t)=some q) :
 ∃ cs u,v= .agg cs/\(part t cs off).run P w= .ok u w/\VP S u q:=by
 obtain⟨n,hn⟩:∃ n,c.sh s=n+1:=⟨c.sh s-1,by omega⟩
 rw[hn]at hs h
 obtain⟨ps,rfl,hl⟩:=zG0 hs
 cases hx with
 |agg cs _ a b d =>
  subst hl
  obtain⟨u,k1,k2⟩:=zFd (w:=w) hT hk (.agg cs ps a b d) h
  exact⟨cs,u,rfl,k1,k2⟩
theorem z0e(pre:Pre P c w0 w S0 S L ow r act) {s:TypeId} {x:Operand} {f:Nat} (ho:o.op= .field s x f) (h:opD c call own o r ow=some (av,ow')) :
 Res P (G w0 S0 S L ow av ow') ((execOp act.eval o).run P w):=by
 unfold opD op1 at h;rw[ho]at h;simp only at h
 have hk:=pre.hT.kind s
 cases hkk:(c.at_ s).k<;>rw[hkk]at h hk<;>simp only at h hk<;>try (cases h;done)
 rename_i fs
 obtain⟨fds,hu,hfs,hnm,hkn⟩:=hk
 obtain⟨g,hg,h⟩:=zJ.1 h
 have hg' :∃ fd,fds[f]? =some fd/\g=(fd.type,fd.offset):=by
  rw[<- hfs,zN,Option.map_eq_some_iff]at hg
  obtain⟨fd,h1,h2⟩:=hg
  exact⟨fd,by simpa using h1,h2.symm⟩
 obtain⟨fd,hfd,rfl⟩:=hg'
 have hkf:c.known fd.type=true:=(hkn _ (zAV hg)).1
 rw[zAN]at h
 obtain⟨p,hp,h⟩:=zJ.1 h
 cases hs:p.okSh (c.sh s) with
 |false=>rw[hs]at h;cases h
 |true =>
 rw[hs]at h
 simp only[zA]at h
 obtain⟨z,hz,h⟩:=zJ.1 h
 obtain⟨rfl,rfl⟩:=zT h
 have hx:=zB9 pre.inv (pre.hr x s) hp
 have hne:c.sh s≠0:=by unfold Cfg.sh;rw[hkk];simp
 obtain⟨cs,u,e,k1,k2⟩:=zYe (w:=w) pre.hT hkf hx hs hne hz
 have hrun:(execOp act.eval o).run P w= .ok (.value u) w:=by
  simp[execOp,ho,Instr.field,run_underlying hu,hfd,e,asAgg,k1]
 rw[hrun]
 exact Good.same pre.inv k2
theorem zSc(pre:Pre P c w0 w S0 S L ow r act) {i:Operand} {kd:IntKind} {n:Int} (h:r i 0= .pv (.int kd n)):act.eval i= .int kd n:=by
 have:=pre.hr i 0;rw[h]at this;exact zE0 this
theorem zSd(pre:Pre P c w0 w S0 S L ow r act) {t:TypeId} {x i:Operand} (ho:o.op= .indexAddr t x i) (h:opD c call own o r ow=some (av,ow')) :
 Res P (G w0 S0 S L ow av ow') ((execOp act.eval o).run P w):=by
 unfold opD op1 at h;rw[ho]at h;simp only at h
 obtain⟨kd,n,hn,h⟩:=zEn h
 have hi:=zSc pre hn
 have hk:=pre.hT.kind t
 cases hkk:(c.at_ t).k<;>rw[hkk]at h hk<;>(try simp only at h)<;>(try simp only at hk)<;>try (cases h;done)
 case slice e =>
  obtain⟨hut,hke⟩:=hk
  have hsz:=pre.hT.sizeOf hke w
  have hrun:∀ base len cap a,act.eval x= .slice base len cap->base=some a->0<=n->n<len->(execOp act.eval o).run P w= .ok (.value (.pointer (some (a.add (n.toNat*szOf (c.sh e)))))) w:=λ base len cap a ex eb h0 h1=>by
   subst eb
   simp[execOp,ho,Instr.indexAt,run_underlying hut,hi,asIntOf,ex,h0,h1,hsz]
  have plain:∀ p,r x t= .pv p->((p.asSlice (c.sh e)).bind λ xs=>bif decide (0<=n)then(xs[n.toNat]?).bind λ v=>some (AV.pv (.imm (c.sh e) v 0),ow)else none)=some (av,ow') ->
   Res P (G w0 S0 S L ow av ow') ((execOp act.eval o).run P w):=λ p hp h=>by
   obtain⟨xs,hxs,h⟩:=zJ.1 h
   cases hd:decide (0<=n) with
   |false=>rw[hd]at h;cases h
   |true =>
   rw[hd]at h
   simp only[zA]at h
   obtain⟨v,hv,h⟩:=zJ.1 h
   obtain⟨rfl,rfl⟩:=zT h
   have h0:0<=n:=zAM hd
   have hps:p= .slice (c.sh e) xs:=by
    cases p<;>simp only[PV.asSlice]at hxs<;>try (cases hxs;done)
    rename_i sh' ys
    cases he:(c.sh e==sh') with
    |false=>rw[he]at hxs;cases hxs
    |true =>
     rw[he]at hxs
     simp only[zA,zE]at hxs
     have e2:=beq_iff_eq.1 he
     rw[e2,hxs]
   subst hps
   have hx:=pre.hr x t
   rw[hp]at hx
   have hx' :VP S (act.eval x) (.slice (c.sh e) xs):=hx
   obtain⟨base,len,cap,b,o0,ex,hl,hc,hs,hb,hcell⟩:=hx'.row
   have hlt:n.toNat<len:=by rw[<- hl];exact(zQ.1 hv).1
   rw[hrun base len cap ⟨b,o0,none⟩ ex (hb (by omega)) h0 (by omega),zDB]
   have hsh:=hs v (zAV hv)
   refine Good.same pre.inv (show VP S _ _ from ?_)
   have:=VP.imm (S:=S) b (o0+n.toNat*szOf (c.sh e)) (c.sh e) 0 v (λ j=>(S b (o0+n.toNat*szOf (c.sh e)+j)).getD undef) hsh (λ j hj=>by
    obtain⟨u,k1,k2,_⟩:=hcell n.toNat j hlt hj
    show _=some ((S b (o0+n.toNat*szOf (c.sh e)+j)).getD undef)/\((S b (o0+n.toNat*szOf (c.sh e)+j)).getD undef).oneCell' =true
    rw[k1];exact⟨rfl,k2⟩) (λ j p hp=>by
    have hj:j<szOf (c.sh e):=by rw[<- PV.cells_len hsh];exact(zQ.1 hp).1
    obtain⟨u,k1,_,k3⟩:=hcell n.toNat j hlt hj
    show VP S ((S b (o0+n.toNat*szOf (c.sh e)+j)).getD undef) p
    rw[k1];exact k3 v p hv hp)
   simpa using this
  cases ha:r x t with
  |view ob ver s =>
   rw[ha]at h
   simp only at h
   cases hob:ow[ob]? with
   |none=>rw[hob]at h;cases h
   |some oo =>
    rw[hob]at h
    cases oo<;>(try simp only at h)<;>try (cases h;done)
    rename_i sl ver' sh' xs
    cases hc:(ver==ver' &&c.sh e==sh' &&decide (0<=n)&&decide (n<((AV.sub xs s).length:Int))) with
    |false=>rw[hc]at h;cases h
    |true =>
    rw[hc]at h
    simp only[zF,beq_iff_eq,zU]at hc
    obtain⟨⟨⟨rfl,rfl⟩,h0⟩,h1⟩:=hc
    simp only[zA]at h
    obtain⟨rfl,rfl⟩:=zT h
    have hx:=pre.hr x t
    rw[ha]at hx
    obtain⟨_,hx'⟩:=(show VA1 S L ow (act.eval x) (.view ob ver s)from hx)
    rw[hob]at hx'
    obtain⟨base,cap,hL,hv⟩:=hx'.2 rfl
    obtain⟨r1,r2,r3⟩:=pre.inv.obs ob _ _ hob hL
    rcases r3 with r3 | ⟨b,o0,cs,t',eb,hh,hfit,hcell⟩
    ·
     have hxs:xs=[]:=zD3 (by omega)
     subst hxs
     cases s<;>simp[AV.sub]at h1<;>omega
    ·cases s with
     |none =>
      simp only[AV.sub]at h1
      rw[hrun base xs.length cap ⟨b,o0,none⟩ hv eb h0 h1,zDB]
      refine Good.same pre.inv (show VA1 S L ow _ (.elem ob ver (0+n.toNat) 0)from⟨⟨_,rfl⟩,?_⟩)
      rw[hob]
      exact⟨zM _,λ _=>⟨by omega,b,o0,cap,by rw[<- eb];exact hL,by simp⟩⟩
     |some q =>
      obtain⟨lo,m⟩:=q
      obtain⟨hle,base',ev,hb'⟩:=hv
      have hm:=zRF (lo:=lo) (n:=m) hle
      rw[hm]at h1
      obtain⟨b1,o1,e1,e2⟩:=hb' (by omega)
      rw[eb]at e1
      simp only[zE,Addr.mk.injEq,and_true]at e1
      obtain⟨rfl,rfl⟩:=e1
      rw[hrun base' m _ ⟨b,o0+lo*szOf (c.sh e),none⟩ ev e2 h0 h1,zDB]
      refine Good.same pre.inv (show VA1 S L ow _ (.elem ob ver (lo+n.toNat) 0)from⟨⟨_,rfl⟩,?_⟩)
      rw[hob]
      refine⟨zM _,λ _=>⟨by omega,b,o0,cap,by rw[<- eb];exact hL,?_⟩⟩
      rw[zAw];simp[Nat.add_assoc]
  |pv p=>rw[ha]at h;exact plain p ha h
  |nil sh=>rw[ha]at h;cases h
  |sl bb sh xxs=>rw[ha]at h;cases h
  |gm o=>rw[ha]at h;cases h
  |fe o i off=>rw[ha]at h;cases h
  |fx ob s =>
   rw[ha]at h
   simp only at h
   cases hob:ow[ob]? with
   |none=>rw[hob]at h;cases h
   |some ox =>
    rw[hob]at h
    cases ox<;>(try simp only at h)<;>try (cases h;done)
    rename_i ver' sh' xs
    cases hc:(c.sh e==sh' &&decide (0<=n)&&decide (n<(xs.length:Int))) with
    |false=>rw[hc]at h;cases h
    |true =>
    rw[hc]at h
    simp only[zF,beq_iff_eq,zU]at hc
    obtain⟨⟨rfl,h0⟩,h1⟩:=hc
    simp only[zA]at h
    obtain⟨rfl,rfl⟩:=zT h
    have hx:=pre.hr x t
    rw[ha]at hx
    obtain⟨base,m,cap,hL,ho',hv⟩:=(show VA1 S L ow (act.eval x) (.fx ob s)from hx)
    obtain⟨rfl,rfl,r1,r2,r3⟩:=pre.inv.obs ob _ _ hob hL
    rcases r3 with r3 | ⟨b,o0,cs,t',eb,hh,hfit,hcell⟩
    ·omega
    ·rw[hrun base xs.length cap ⟨b,o0,none⟩ hv eb h0 h1,zDB]
     exact Good.same pre.inv (show VA1 S L ow _ (.fe ob n.toNat 0)from⟨_,b,o0,xs.length,cap,by rw[<- eb];exact hL,ho',by omega,by simp⟩)
  |agg cs=>rw[ha]at h;cases h
  |own ob off=>rw[ha]at h;cases h
  |elem ob ver i off=>rw[ha]at h;cases h
  |mp ob=>rw[ha]at h;cases h
  |fnv f fs cs=>rw[ha]at h;cases h
  |tupA as=>rw[ha]at h;cases h
 case arr m e =>
  obtain⟨hut,hke⟩:=hk
  have hsz:=pre.hT.sizeOf hke w
  cases hc:(decide (0<=n)&&decide (n<(m:Int))) with
  |false=>rw[hc]at h;cases h
  |true =>
  rw[hc]at h
  simp only[zF,zU]at hc
  obtain⟨h0,h1⟩:=hc
  simp only[zA]at h
  have hrun:∀ a,act.eval x= .pointer (some a)->(execOp act.eval o).run P w= .ok (.value (.pointer (some (a.add (n.toNat*szOf (c.sh e)))))) w:=λ a ex=>by
   simp[execOp,ho,Instr.indexAt,run_underlying hut,hi,asIntOf,ex,h0,h1,hsz,Instr.sureAddr]
  have hx:=pre.hr x 0
  cases ha:r x 0 with
  |own ob off =>
   rw[ha]at h hx;obtain⟨rfl,rfl⟩:=zT h
   obtain⟨b,k1,k2,k3⟩:=hx.own_ptr
   rw[hrun _ k3,zDB]
   exact Good.same pre.inv ⟨b,k1,k2,rfl⟩
  |elem ob ver j off =>
   rw[ha]at h hx;obtain⟨rfl,rfl⟩:=zT h
   obtain⟨⟨a,ea⟩,hx'⟩:=(show VA1 S L ow (act.eval x) (.elem ob ver j off)from hx)
   rw[hrun a ea]
   refine Good.same pre.inv (show VA1 S L ow _ (.elem ob ver j (off+n.toNat*szOf (c.sh e)))from⟨⟨_,rfl⟩,?_⟩)
   cases hob:ow[ob]? with
   |none=>rw[hob]at hx';exact hx'.elim
   |some oo =>
    rw[hob]at hx'
    cases oo<;>simp only at hx' ⊢
    all_goals
     refine⟨hx'.1,λ e' => ?_⟩
     obtain⟨hi,b,o0,cap,k1,k2⟩:=hx'.2 e'
     refine⟨hi,b,o0,cap,k1,?_⟩
     rw[ea]at k2
     simp only[Value.pointer.injEq,zE]at k2
     rw[k2,zDB,Nat.add_assoc]
  |pv p =>
   rw[ha]at h hx
   cases p<;>simp only at h<;>try (cases h;done)
   rename_i sh v off
   obtain⟨rfl,rfl⟩:=zT h
   have hx' :VP S (act.eval x) (.imm sh v off):=hx
   generalize hv:act.eval x=u at hx' hrun
   cases hx' with
   |imm b ob _ _ _ vals hsh hS hV =>
    rw[hrun _ rfl,zDB]
    refine Good.same pre.inv (show VP S _ _ from ?_)
    rw[Nat.add_assoc]
    exact .imm b ob sh (off+n.toNat*szOf (c.sh e)) v vals hsh hS hV
  |nil sh=>rw[ha]at h;cases h
  |sl bb sh xxs=>rw[ha]at h;cases h
  |gm o=>rw[ha]at h;cases h
  |fx o s=>rw[ha]at h;cases h
  |fe o i off=>rw[ha]at h;cases h
  |agg cs=>rw[ha]at h;cases h
  |view ob ver sb=>rw[ha]at h;cases h
  |mp ob=>rw[ha]at h;cases h
  |fnv f fs cs=>rw[ha]at h;cases h
  |tupA as=>rw[ha]at h;cases h
theorem z0f(pre:Pre P c w0 w S0 S L ow r act) {t:TypeId} {x i:Operand} (ho:o.op= .index t x i) (h:opD c call own o r ow=some (av,ow')) :
 Res P (G w0 S0 S L ow av ow') ((execOp act.eval o).run P w):=by
 unfold opD op1 at h;rw[ho]at h;simp only at h
 obtain⟨kd,n,hn,h⟩:=zEn h
 have hi:=zSc pre hn
 have hk:=pre.hT.kind t
 cases hkk:(c.at_ t).k<;>rw[hkk]at h hk<;>(try simp only at h)<;>(try simp only at hk)<;>try (cases h;done)
 case str =>
  obtain⟨p,hp,h1⟩:=zBV h
  obtain⟨s,hs,h2⟩:=zJ.1 h1
  clear h h1
  have e:=zH0 hs;subst e
  have hx:=pre.hr x t;rw[hp]at hx
  have ex:=zIu hx
  cases hd:decide (0<=n) with
  |false=>rw[hd]at h2;cases h2
  |true =>
  rw[hd]at h2
  simp only[zA]at h2
  obtain⟨b,hb,h3⟩:=zJ.1 h2
  obtain⟨rfl,rfl⟩:=zT h3
  have h0:0<=n:=zAM hd
  have hrun:(execOp act.eval o).run P w= .ok (.value (.int .u8 b.toNat)) w:=by
   simp[execOp,ho,Instr.index,run_underlying hk,hi,asIntOf,ex,h0,hb]
  rw[hrun]
  exact Good.same pre.inv (VP.int _ _)
 case arr m e =>
  obtain⟨hut,hke⟩:=hk
  rw[zAN]at h
  obtain⟨p,hp,h⟩:=zJ.1 h
  cases hc:(decide (0<=n)&&decide (n<(m:Int))&&p.okSh (c.sh t)) with
  |false=>rw[hc]at h;cases h
  |true =>
  rw[hc]at h
  simp only[zF,zU]at hc
  obtain⟨⟨h0,h1⟩,hs⟩:=hc
  simp only[zA]at h
  obtain⟨z,hz,h⟩:=zJ.1 h
  obtain⟨rfl,rfl⟩:=zT h
  have hx:=zB9 pre.inv (pre.hr x t) hp
  have hne:c.sh t≠0:=by unfold Cfg.sh;rw[hkk];simp
  have hsz:=pre.hT.sizeOf hke w
  obtain⟨cs,u,e',k1,k2⟩:=zYe (w:=w) pre.hT hke hx hs hne hz
  have hrun:(execOp act.eval o).run P w= .ok (.value u) w:=by
   simp[execOp,ho,Instr.index,run_underlying hut,hi,asIntOf,e',h0,h1,hsz,k1]
  rw[hrun]
  exact Good.same pre.inv k2
theorem zNO{S:Pr} {v:PV} {sh esh:Nat} {f:Nat->Value} (hsh:v.okSh sh=true) (h1:∀ j,j<szOf sh->(f j).oneCell' =true) (hV:∀(j:Nat) (p:PV),v.cells[j]? =some p->VP S (f j) p) :
 ∀(n off:Nat) (xs:List PV),zSV sh v esh off n=some xs->xs.length=n/\(∀ x∈xs,x.okSh esh=true) /\
  ∀ i j,i<n->j<szOf esh->off+i*szOf esh+j<szOf sh/\∀(x p:PV),xs[i]? =some x->x.cells[j]? =some p->VP S (f (off+i*szOf esh+j)) p
 | 0,off,xs,h=>by simp[zSV]at h;subst h;exact⟨rfl,by simp,λ i j hi=>by omega⟩
 |n+1,off,xs,h=>by
  simp only[zSV]at h
  obtain⟨x,hx,h⟩:=zJ.1 h
  cases hxs:x.okSh esh with
  |false=>rw[hxs]at h;cases h
  |true =>
  rw[hxs]at h
  simp only[zA]at h
  obtain⟨ys,hys,h⟩:=zJ.1 h
  simp only[zE]at h
  subst h
  obtain⟨k1,k2,k3⟩:=zNO hsh h1 hV n (off+szOf esh) ys hys
  obtain⟨hle,hq⟩:=PV.load_sound hsh h1 hV hx
  refine⟨by simp[k1],λ y hy=> ?_,λ i j hi hj=> ?_⟩
  ·rcases zAE.1 hy with rfl | hy
   ·exact hxs
   ·exact k2 y hy
  ·cases i with
   |zero =>
    refine⟨by omega,λ y p hy hp=> ?_⟩
    simp only[zAS,zE]at hy
    subst hy
    obtain⟨m1,m2,m3⟩:=hq.cells hxs
    have hone:∀ j,j<szOf esh->(f (off+j)).oneCell' =true:=λ j hj=>h1 _ (by omega)
    rw[zXI hone]at m3
    have:=m3 j (f (off+j)) p (by simp[hj]) hp
    simpa using this
   |succ i =>
    obtain⟨m1,m2⟩:=k3 i j (by omega) hj
    have e:off+szOf esh+i*szOf esh+j=off+(i+1)*szOf esh+j:=by rw[zAw];omega
    rw[e]at m1 m2
    exact⟨m1,λ y p hy hp=>m2 y p (by simpa using hy) hp⟩
theorem zOL{R:Type} (sh:Nat) (ow:List Ob) (a:AV) (r:Operand->TypeId->AV) (lo hi:Option Operand) (k:AV->Option R) :
 cutO sh ow a (bnd r lo 0) (λ d=>bnd r hi d) k=(cutO sh ow a (bnd r lo 0) (λ d=>bnd r hi d) some).bind k:=by
 have bn:∀{R:Type} (x:Option Operand) (d:Int) (k:Int->Option R),bnd r x d k=(bnd r x d some).bind k:=λ x d k=>by
  cases x with
  |none=>rfl
  |some l =>
   simp only[bnd,zFP]
   cases r l 0<;>try rfl
   rename_i p
   cases p<;>rfl
 unfold cutO
 cases a with
 |view ob ver s =>
  simp only
  cases ow[ob]? with
  |none=>rfl
  |some oo =>
   cases oo<;>try rfl
   simp only
   rw[bn (R:=R) lo,bn (R:=AV) lo]
   cases bnd r lo 0 some with
   |none=>rfl
   |some l =>
    simp only[zB]
    rw[bn (R:=R) hi,bn (R:=AV) hi]
    cases bnd r hi _ some with
    |none=>rfl
    |some h=>simp only[zB];cases (_&&_)<;>rfl
 |nil sh' =>
  simp only
  rw[bn (R:=R) lo,bn (R:=AV) lo]
  cases bnd r lo 0 some with
  |none=>rfl
  |some l =>
   simp only[zB]
   rw[bn (R:=R) hi,bn (R:=AV) hi]
   cases bnd r hi _ some with
   |none=>rfl
   |some h=>simp only[zB];cases (_&&_)<;>rfl
 |fx o s=>rfl
 |_ =>
  simp only
  rw[zD8 (R:=R) sh ow,zD8 (R:=AV) sh ow]
  cases zHp sh ow _ some with
  |none=>rfl
  |some xs =>
   simp only[zB]
   rw[bn (R:=R) lo,bn (R:=AV) lo]
   cases bnd r lo 0 some with
   |none=>rfl
   |some l =>
    simp only[zB]
    rw[bn (R:=R) hi,bn (R:=AV) hi]
    cases bnd r hi _ some with
    |none=>rfl
    |some h=>simp only[zB];cases (_&&_)<;>rfl
theorem z0g(pre:Pre P c w0 w S0 S L ow r act) {t:TypeId} {x:Operand} {lo hi mx:Option Operand} (ho:o.op= .slice t x lo hi mx) (h:opD c call own o r ow=some (av,ow')) :
 Res P (G w0 S0 S L ow av ow') ((execOp act.eval o).run P w):=by
 unfold opD op1 at h;rw[ho]at h;simp only at h
 have hk:=pre.hT.kind t
 cases hkk:(c.at_ t).k<;>rw[hkk]at h hk<;>(try simp only at h)<;>(try simp only at hk)<;>try (cases h;done)
 case str =>
  obtain⟨p,hp,g1⟩:=zBV h
  obtain⟨s,hs,g2⟩:=zJ.1 g1
  clear h g1
  have e:=zH0 hs;subst e
  have hx:=pre.hr x t;rw[hp]at hx
  have ex:=zIu hx
  obtain⟨ql,l,el,hl,g3⟩:=zFr pre.hr g2
  obtain⟨qh,k,ek,hh,g4⟩:=zFr pre.hr g3
  clear g2 g3
  try simp only at g4
  cases hc:(mx.isNone&&decide (0<=l)&&decide (l<=k)&&decide (k<=(s.size:Int))) with
  |false=>rw[hc]at g4;cases g4
  |true =>
  rw[hc]at g4
  simp only[zF,zU,Option.isNone_iff_eq_none]at hc
  obtain⟨⟨⟨rfl,h0⟩,h1⟩,h2⟩:=hc
  simp only[zA]at g4
  obtain⟨rfl,rfl⟩:=zT g4
  have hb:=zMV (P:=P) (w:=w) false s.size s.size ql qh l k hl hh h0 h1 h2
  have hrun:(execOp act.eval o).run P w= .ok (.value (.string (s.extract l.toNat k.toNat))) w:=by
   simp[execOp,ho,Instr.sliceAt,Instr.slice,run_underlying hk,ex,el,ek,hb]
  rw[hrun]
  exact Good.same pre.inv (VP.str _)
 case arr n e =>
  obtain⟨hut,hke⟩:=hk
  have hsz:=pre.hT.sizeOf hke w
  rw[zAN]at h
  obtain⟨q,hq,h⟩:=zJ.1 h
  obtain⟨xs,hxs,g1⟩:=zJ.1 h
  obtain⟨ql,l,el,hl,g2⟩:=zFr pre.hr g1
  obtain⟨qh,k,ek,hh,g3⟩:=zFr pre.hr g2
  clear h g1 g2
  cases hc:(mx.isNone&&decide (0<=l)&&decide (l<=k)&&decide (k<=(n:Int))) with
  |false=>rw[hc]at g3;cases g3
  |true =>
  rw[hc]at g3
  simp only[zF,zU,Option.isNone_iff_eq_none]at hc
  obtain⟨⟨⟨rfl,h0⟩,h1⟩,h2⟩:=hc
  simp only[zA]at g3
  obtain⟨rfl,rfl⟩:=zT g3
  cases q<;>simp only[z2F]at hxs<;>try (cases hxs;done)
  rename_i sh v off
  have hvp:=zB9 pre.inv (pre.hr x 0) hq
  have hb:=zMV (P:=P) (w:=w) false n n ql qh l k hl hh h0 h1 h2
  generalize hex:act.eval x=u at hvp
  cases hvp with
  |imm b q0 _ _ _ vals hsh hS hV =>
   obtain⟨hlen,hok,hcell⟩:=zNO hsh (λ j hj=>(hS j hj).2) hV n off xs hxs
   obtain⟨l',rfl⟩:∃ m:Nat,l=m:=⟨l.toNat,by omega⟩
   obtain⟨k',rfl⟩:∃ m:Nat,k=m:=⟨k.toNat,by omega⟩
   simp only[zY]at hb ⊢
   have h1' :l' <=k' :=by omega
   have h2' :k' <=n:=by omega
   have hrun:(execOp act.eval o).run P w= .ok (.value (.slice (some (if n=l' then⟨b,q0+off,none⟩else⟨b,q0+off+l' *szOf (c.sh e),none⟩)) (k' -l') (n-l'))) w:=by
    simp[execOp,ho,Instr.sliceAt,run_underlying hut,hex,el,ek,hb,hsz,Instr.sureAddr,Addr.add]
    by_cases e1:n=l'
    ·rw[if_pos e1,if_pos e1]
    ·rw[if_neg e1,if_neg e1]
     by_cases e2:l' *szOf (c.sh e)=0
     ·rw[if_pos e2,e2,Nat.add_zero]
     ·rw[if_neg e2]
   rw[hrun]
   refine Good.same pre.inv (VP.slice _ _ _ _ _ b (q0+off+l' *szOf (c.sh e)) (λ i j=>vals (off+(l' +i)*szOf (c.sh e)+j)) ?_ (by omega) (λ h=>by rw[if_neg (by omega)]) (λ y hy=>hok y (List.mem_of_mem_drop (List.mem_of_mem_take hy))) (λ i j hi hj=> ?_) λ i j y p hy hp=> ?_)
   ·rw[List.length_take,List.length_drop,hlen];omega
   ·obtain⟨m1,m2⟩:=hcell (l' +i) j (by omega) hj
    have:=hS (off+(l' +i)*szOf (c.sh e)+j) m1
    refine⟨?_,this.2⟩
    rw[<- this.1]
    congr 1
    rw[zAw];omega
   ·have hil:i<k' -l' :=by have:=(zQ.1 hy).1;rw[List.length_take]at this;omega
    rw[zCP,if_pos hil,List.getElem?_drop]at hy
    have hyo:=hok y (zAV hy)
    have hj:j<szOf (c.sh e):=by have:=PV.cells_len hyo;rw[<- this];exact(zQ.1 hp).1
    exact(hcell (l' +i) j (by omega) hj).2 y p hy hp
 case slice e =>
  obtain⟨hut,hke⟩:=hk
  have hsz:=pre.hT.sizeOf hke w
  cases mx with
  |some m =>
   simp only at h
   split at h
   ·-- s[:0:0]
    rename_i k1 k2
    rw[zD8]at h
    obtain⟨ys,hys,h⟩:=zJ.1 h
    obtain⟨rfl,rfl⟩:=zT h
    obtain⟨base,n,cap,b,o0,ex,_⟩:=zKr pre.inv (pre.hr x t) hys
    have hrun:(execOp act.eval o).run P w= .ok (.value (.slice base 0 0)) w:=by
     have e1:act.eval (.const (.int k1 0))= .int k1 0:=rfl
     have e2:act.eval (.const (.int k2 0))= .int k2 0:=rfl
     simp[execOp,ho,Instr.sliceAt,Instr.slice,run_underlying hut,ex,e1,e2,Instr.sliceBounds,Instr.sliceBound,asIntOf,hsz]
    rw[hrun]
    exact Good.same pre.inv (show VA1 S L ow _ (.nil (c.sh e))from⟨base,rfl⟩)
   ·cases h
  |none =>
   simp only at h
   rw[zOL]at h
   obtain⟨a,ha,h⟩:=zJ.1 h
   obtain⟨rfl,rfl⟩:=zT h
   have hrun:∀ base len cap (ql qh:Option (IntKind×Int)) (l k:Int),act.eval x= .slice base len cap->lo.map act.eval=ql.map (λ q=>Value.int q.1 q.2)->hi.map act.eval=qh.map (λ q=>Value.int q.1 q.2) ->
    (ql.map (·.2)=some l∨ql=none/\l=0)->(qh.map (·.2)=some k∨qh=none/\k=len)->0<=l->l<=k->k<=cap ->
    (execOp act.eval o).run P w= .ok (.value (.slice (if cap=l.toNat then base else base.map (·.add (l.toNat*szOf (c.sh e)))) (k.toNat-l.toNat) (cap-l.toNat))) w:=λ base len cap ql qh l k ex el ek hl hh h0 h1 h2=>by
    have hb:=zMV (P:=P) (w:=w) true len cap ql qh l k hl hh h0 h1 h2
    simp[execOp,ho,Instr.sliceAt,Instr.slice,run_underlying hut,ex,el,ek,hb,hsz]
   have plain:(∀ ob ver s,r x t≠ .view ob ver s)->(∀ ob s,r x t≠ .fx ob s)->(zHp (c.sh e) ow (r x t) λ xs=>bnd r lo 0 λ l=>bnd r hi xs.length λ h =>
    bif decide (0<=l)&&decide (l<=h)&&decide (h<=(xs.length:Int))then some (AV.pv (.slice (c.sh e) ((xs.drop l.toNat).take (h.toNat-l.toNat))))else none)=some a ->
    Res P (G w0 S0 S L ow a ow) ((execOp act.eval o).run P w):=λ hnv hnf ha=>by
    rw[zD8]at ha
    obtain⟨xs,hxs,g1⟩:=zJ.1 ha
    obtain⟨ql,l,el,hl,g2⟩:=zFr pre.hr g1
    obtain⟨qh,k,ek,hh,g3⟩:=zFr pre.hr g2
    clear ha g1 g2
    try simp only at g3
    cases hc:(decide (0<=l)&&decide (l<=k)&&decide (k<=(xs.length:Int))) with
    |false=>rw[hc]at g3;cases g3
    |true =>
    rw[hc]at g3
    simp only[zF,zU]at hc
    obtain⟨⟨h0,h1⟩,h2⟩:=hc
    simp only[zA,zE]at g3
    subst g3
    have hrow:RowAt S S (act.eval x) (c.sh e) xs:=by
     have hx:=pre.hr x t
     cases hax:r x t with
     |pv p =>
      rw[hax]at hx hxs
      simp only[zHp,zB]at hxs
      have:p= .slice (c.sh e) xs:=by
       cases p<;>simp only[PV.asSlice]at hxs<;>try (cases hxs;done)
       rename_i sh' ys
       cases he:(c.sh e==sh') with
       |false=>rw[he]at hxs;cases hxs
       |true =>
        rw[he]at hxs
        simp only[zA,zB,zE]at hxs
        have e2:=beq_iff_eq.1 he
        rw[e2,hxs]
      subst this
      exact VP.row hx
     |nil sh =>
      rw[hax]at hx hxs
      simp only[zHp,zE]at hxs
      subst hxs
      exact VP.row (zQS (sh' :=sh) hx)
     |sl bb sh' ys =>
      rw[hax]at hx hxs
      simp only[zHp]at hxs
      cases he:(c.sh e==sh') with
      |false=>rw[he]at hxs;cases hxs
      |true =>
       rw[he]at hxs
       simp only[zA,zE]at hxs
       have e2:=beq_iff_eq.1 he
       subst e2;subst hxs
       exact VP.row hx.1
     |view ob ver s=>exact absurd hax (hnv ob ver s)
     |agg cs=>rw[hax]at hxs;cases hxs
     |own ob off=>rw[hax]at hxs;cases hxs
     |elem ob ver i off=>rw[hax]at hxs;cases hxs
     |mp ob=>rw[hax]at hxs;cases hxs
     |gm ob=>rw[hax]at hxs;cases hxs
     |fe ob i off=>rw[hax]at hxs;cases hxs
     |fx ob s=>exact absurd hax (hnf ob s)
     |fnv f fs cs=>rw[hax]at hxs;cases hxs
     |tupA as=>rw[hax]at hxs;cases hxs
    obtain⟨base,len,cap,b,o0,ex,hlen,hcap,_⟩:=id hrow
    rw[ex]at hrow
    rw[hrun base len cap ql qh l k ex el ek hl (by rw[<- hlen];exact hh) h0 h1 (by omega)]
    have:=hrow.cut (l:=l.toNat) (k:=k.toNat) (by omega) (by omega)
    exact Good.same pre.inv (RowAt.vp this)
   cases hax:r x t with
   |view ob ver s =>
    rw[hax]at ha
    simp only[cutO]at ha
    cases hob:ow[ob]? with
    |none=>rw[hob]at ha;cases ha
    |some oo =>
     rw[hob]at ha
     cases oo<;>(try simp only at ha)<;>try (cases ha;done)
     rename_i sl ver' sh' xs
     obtain⟨ql,l,el,hl,g1⟩:=zFr pre.hr ha
     obtain⟨qh,k,ek,hh,g2⟩:=zFr pre.hr g1
     clear ha g1
     try simp only at g2
     cases hc:(ver==ver' &&c.sh e==sh' &&decide (0<=l)&&decide (l<=k)&&decide (k<=((AV.sub xs s).length:Int))) with
     |false=>rw[hc]at g2;cases g2
     |true =>
     rw[hc]at g2
     simp only[zF,beq_iff_eq,zU]at hc
     obtain⟨⟨⟨⟨rfl,rfl⟩,h0⟩,h1⟩,h2⟩:=hc
     simp only[zA,zE]at g2
     subst g2
     have hx:=pre.hr x t
     rw[hax]at hx
     obtain⟨_,hx'⟩:=(show VA1 S L ow (act.eval x) (.view ob ver s)from hx)
     rw[hob]at hx'
     obtain⟨base,cap,hL,hv⟩:=hx'.2 rfl
     obtain⟨r1,r2,r3⟩:=pre.inv.obs ob _ _ hob hL
     cases s with
     |none =>
      simp only[AV.sub]at h2 hh
      rw[hrun base xs.length cap ql qh l k hv el ek hl hh h0 h1 (by omega)]
      refine Good.same pre.inv (show VA1 S L ow _ (.view ob ver (some (0+l.toNat,k.toNat-l.toNat)))from⟨⟨_,_,_,rfl⟩,?_⟩)
      rw[hob]
      refine⟨zM _,λ _=>⟨base,cap,hL,by omega,_,by rw[Nat.zero_add],λ hpos=> ?_⟩⟩
      rcases r3 with r3 | ⟨b,o0,cs,t',eb,_⟩
      ·omega
      ·exact⟨b,o0,eb,by rw[if_neg (by omega),eb];simp[zDB]⟩
     |some q =>
      obtain⟨lo',m⟩:=q
      obtain⟨hle,base',ev,hb'⟩:=hv
      have hm:=zRF (lo:=lo') (n:=m) hle
      rw[hm]at h2 hh
      rw[hrun base' m (cap-lo') ql qh l k ev el ek hl hh h0 h1 (by omega)]
      refine Good.same pre.inv (show VA1 S L ow _ (.view ob ver (some (lo' +l.toNat,k.toNat-l.toNat)))from⟨⟨_,_,_,rfl⟩,?_⟩)
      rw[hob]
      refine⟨zM _,λ _=>⟨base,cap,hL,by omega,_,by rw[Nat.sub_sub],λ hpos=> ?_⟩⟩
      obtain⟨b,o0,e1,e2⟩:=hb' (by omega)
      refine⟨b,o0,e1,?_⟩
      rw[if_neg (by omega),e2]
      simp only[zV,zDB]
      rw[zAw,Nat.add_assoc]
   |pv p=>exact plain (by rw[hax];simp) (by rw[hax];simp) (by rw[hax];rw[hax]at ha;exact ha)
   |nil sh =>
    rw[hax]at ha
    simp only[cutO]at ha
    obtain⟨ql,l,el,hl,g1⟩:=zFr pre.hr ha
    obtain⟨qh,k,ek,hh,g2⟩:=zFr pre.hr g1
    clear ha g1
    have hx:=pre.hr x t
    rw[hax]at hx
    obtain⟨base,ex⟩:=hx
    cases hc:(decide (0<=l)&&decide (l<=k)&&decide (k<=(0:Int))) with
    |false=>rw[hc]at g2;cases g2
    |true =>
    rw[hc]at g2
    simp only[zF,zU]at hc
    obtain⟨⟨h0,h1⟩,h2⟩:=hc
    simp only[zA,zE]at g2
    subst g2
    rw[hrun base 0 0 ql qh l k ex el ek hl (by simpa using hh) h0 h1 (by omega)]
    refine Good.same pre.inv (show VA1 S L ow _ (.nil sh)from ?_)
    have e1:k.toNat-l.toNat=0:=by omega
    rw[e1,Nat.zero_sub]
    exact⟨_,rfl⟩
   |agg cs=>exact plain (by rw[hax];simp) (by rw[hax];simp) (by rw[hax];rw[hax]at ha;exact ha)
   |sl bb sh' ys=>exact plain (by rw[hax];simp) (by rw[hax];simp) (by rw[hax];rw[hax]at ha;exact ha)
   |own ob off=>exact plain (by rw[hax];simp) (by rw[hax];simp) (by rw[hax];rw[hax]at ha;exact ha)
   |elem ob ver i off=>exact plain (by rw[hax];simp) (by rw[hax];simp) (by rw[hax];rw[hax]at ha;exact ha)
   |mp ob=>exact plain (by rw[hax];simp) (by rw[hax];simp) (by rw[hax];rw[hax]at ha;exact ha)
   |gm ob=>exact plain (by rw[hax];simp) (by rw[hax];simp) (by rw[hax];rw[hax]at ha;exact ha)
   |fx ob s=>rw[hax]at ha;cases ha
   |fe ob i off=>exact plain (by rw[hax];simp) (by rw[hax];simp) (by rw[hax];rw[hax]at ha;exact ha)
   |fnv f fs cs=>exact plain (by rw[hax];simp) (by rw[hax];simp) (by rw[hax];rw[hax]at ha;exact ha)
   |tupA as=>exact plain (by rw[hax];simp) (by rw[hax];simp) (by rw[hax];rw[hax]at ha;exact ha)
end
end Go.Ab
