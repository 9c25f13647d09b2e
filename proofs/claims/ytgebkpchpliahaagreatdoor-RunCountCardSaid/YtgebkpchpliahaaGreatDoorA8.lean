/- Part 9 of the proof: an abstract machine that runs the program's code over plain values, its soundness, and what the functions tell of plain values. Conditions: those in each theorem. -/
import Derived.Test.YtgebkpchpliahaaGreatDoorA7
import Derived.LoopN
set_option linter.unusedSectionVars false
set_option linter.unusedVariables false
set_option linter.unusedSimpArgs false
noncomputable section
namespace Go.Ab
open Go.RowKit (Below)
variable [GL:Gl]
section
variable {P:Program} {c:Cfg} {w0:Base} {w:World} {S0 S:Pr} {L:List Loc} {ow:List Ob}
theorem Inv.drop(inv:Inv w0 S0 S L ow w) {L' :List Loc} {ow' :List Ob} (len:L'.length=ow'.length) (hA:∀(j:Nat) (k:Loc),w0.anc[j]? =some k->k.kept=true->L'[j]? =some k/\j<ow'.length) (h:∀(o:Nat) (ob' :Ob) (l' :Loc),ow'[o]? =some ob' ->L'[o]? =some l' ->
 ob' = .dead∨(L[o]? =some l' /\∃ ob,ow[o]? =some ob/\(∀ b,b∈zZ ob' l' ->b∈zZ ob l')/\(∀ b j,mayS ob l' b j->mayS ob' l' b j)/\ObR S L' ow' w ob' l')):Inv w0 S0 S L' ow' w where
 len:=len
 below:=inv.below
 prot:=inv.prot
 old:=inv.old
 le:=inv.le
 glob:=inv.glob
 anc:=hA
 obs:=λ o ob' l' ho hl=>by
  rcases h o ob' l' ho hl with rfl | ⟨_,ob,_,_,_,h5⟩
  ·simp[ObR]
  ·exact h5
 own:=λ o ob' l' b ho hl hb=>by
  rcases h o ob' l' ho hl with rfl | ⟨h1,ob,h2,h3,h4,_⟩
  ·simp[zZ]at hb
  ·obtain⟨k1,k2,k3⟩:=inv.own o ob l' b h2 h1 (h3 b hb)
   exact⟨k1,k2,λ j v hv=>h4 _ j (k3 j v hv)⟩
 sep:=λ o o' ob ob' l l' b ho hl ho' hl' hb hb' =>by
  rcases h o ob l ho hl with rfl | ⟨h1,x,h2,h3,_⟩
  ·simp[zZ]at hb
  rcases h o' ob' l' ho' hl' with rfl | ⟨h1',x',h2',h3',_⟩
  ·simp[zZ]at hb'
  exact inv.sep o o' x x' l l' b h2 h1 h2' h1' (h3 b hb) (h3' b hb')
theorem z0r{α:Type} {l:List α} {n i:Nat} {x:α} (h:(l.take n)[i]? =some x):i<n/\l[i]? =some x:=by
 rw[zCP]at h
 split at h
 ·exact⟨‹_›,h⟩
 ·cases h
theorem zDy(inv:Inv w0 S0 S L ow w) (n:Nat) {v:Value} {a:AV} (h:VA1 S L ow v a):VA1 S (L.take n) ((ow.take n).map (zMQ ow n)) v (zGm ow n a):=by
 cases a with
 |pv p=>exact h
 |nil sh=>exact h
 |sl bb sh xxs=>exact h
 |fe o i off=>exact VP.undef v
 |fx o s =>
  obtain⟨base,k,cap,h1,h2,h3⟩:=h
  simp only[zGm]
  by_cases hn:o<n
  ·rw[zD hn]
   exact⟨base,k,cap,by rw[zCP,if_pos hn];exact h1,by simp;omega,h3⟩
  ·rw[zL hn];exact VP.undef v
 |gm o =>
  simp only[zGm]
  by_cases hn:o<n
  ·rw[zD hn]
   obtain⟨b,eb,h⟩:=h
   refine⟨b,eb,?_⟩
   rw[zN,zCP,if_pos hn]
   cases hob:ow[o]? with
   |none=>rw[hob]at h;exact h.elim
   |some ob =>
    rw[hob]at h
    cases ob<;>(try simp only at h)<;>try exact h.elim
    ·obtain⟨rs,h1⟩:=h
     exact⟨rs,by rw[zCP,if_pos hn];exact h1⟩
    ·trivial
  ·rw[zL hn];exact VP.undef v
 |agg cs=>exact h.elim
 |elem o ver i off=>exact VP.undef v
 |tupA as=>exact VP.undef v
 |own o off =>
  obtain⟨b,h1,h2,h3⟩:=h
  simp only[zGm]
  by_cases hn:o<n
  ·rw[zD hn]
   exact⟨b,by rw[zCP,if_pos hn];exact h1,by simp;omega,h3⟩
  ·rw[zL hn];exact VP.undef v
 |mp o =>
  obtain⟨b,h1,h2,h3⟩:=h
  simp only[zGm]
  by_cases hn:o<n
  ·rw[zD hn]
   exact⟨b,by rw[zCP,if_pos hn];exact h1,by simp;omega,h3⟩
  ·rw[zL hn];exact VP.undef v
 |fnv g first caps =>
  obtain⟨fs,cs,e,hm,hl,k1,k2⟩:=h
  have cap:∀(x:Value) (a:AV),VA0 S L ow.length x a->VA0 S (L.take n) ((ow.take n).map (zMQ ow n)).length x (zS3 n a):=λ x a hx=>by
   cases a with
   |pv p=>exact hx
   |own o off =>
    obtain⟨b,h1,h2,h3⟩:=hx
    simp only[zS3]
    by_cases hn:o<n
    ·rw[zD hn]
     exact⟨b,by rw[zCP,if_pos hn];exact h1,by simp;omega,h3⟩
    ·rw[zL hn];exact VP.undef x
   |mp o =>
    obtain⟨b,h1,h2,h3⟩:=hx
    simp only[zS3]
    by_cases hn:o<n
    ·rw[zD hn]
     exact⟨b,by rw[zCP,if_pos hn];exact h1,by simp;omega,h3⟩
    ·rw[zL hn];exact VP.undef x
   |_=>exact VP.undef x
  refine⟨fs,cs,e,by simpa using hm,by simpa using hl,λ j x a hx ha=> ?_,λ j x a hx ha=> ?_⟩
  ·rw[zN]at ha
   cases hc:first[j]? with
   |none=>rw[hc]at ha;cases ha
   |some a0=>rw[hc]at ha;simp at ha;subst ha;exact cap x a0 (k1 j x a0 hx hc)
  ·rw[zN]at ha
   cases hc:caps[j]? with
   |none=>rw[hc]at ha;cases ha
   |some a0=>rw[hc]at ha;simp at ha;subst ha;exact cap x a0 (k2 j x a0 hx hc)
 |view o ver sb =>
  simp only[zGm]
  by_cases hn:o<n
  ·rw[zD hn]
   simp only[zA]
   obtain⟨h1,h2⟩:=h
   cases hob:ow[o]? with
   |none=>rw[hob]at h2;exact h2.elim
   |some ob =>
    rw[hob]at h2
    cases ob<;>simp only at h2⊢ <;>first | exact VP.undef v | skip
    rename_i sl ver' sh xs
    cases hv:(ver==ver') with
    |false=>exact VP.undef v
    |true =>
     simp only[zA]
     have e:=beq_iff_eq.1 hv
     obtain⟨base,cap,k1,k2⟩:=h2.2 e
     have hget:((ow.take n).map (zMQ ow n))[o]? =some (.row sl 0 sh xs):=by
      rw[zN,zCP,if_pos hn,hob];rfl
     refine⟨h1,?_⟩
     rw[hget]
     exact⟨zM _,λ _=>⟨base,cap,by rw[zCP,if_pos hn];exact k1,k2⟩⟩
  ·rw[zL hn];exact VP.undef v
theorem zEb{n:Nat} {a:AV}:(∀ cs,zGm ow n a≠ .agg cs)/\∀ cs,zGm ow n a≠ .tupA cs:=by
 cases a with
 |pv p=>exact⟨λ _ h=>(by cases h),λ _ h=>(by cases h)⟩
 |nil sh=>exact⟨λ _ h=>(by cases h),λ _ h=>(by cases h)⟩
 |sl bb sh xxs=>exact⟨λ _ h=>(by cases h),λ _ h=>(by cases h)⟩
 |agg l=>exact⟨λ _ h=>(by cases h),λ _ h=>(by cases h)⟩
 |tupA l=>exact⟨λ _ h=>(by cases h),λ _ h=>(by cases h)⟩
 |elem o v i off=>exact⟨λ _ h=>(by cases h),λ _ h=>(by cases h)⟩
 |fnv g fs cs=>exact⟨λ _ h=>(by cases h),λ _ h=>(by cases h)⟩
 |own o off=>simp only[zGm];cases decide (o<n)<;>exact⟨λ _ h=>(by cases h),λ _ h=>(by cases h)⟩
 |mp o=>simp only[zGm];cases decide (o<n)<;>exact⟨λ _ h=>(by cases h),λ _ h=>(by cases h)⟩
 |gm o=>simp only[zGm];cases decide (o<n)<;>exact⟨λ _ h=>(by cases h),λ _ h=>(by cases h)⟩
 |fx o s=>simp only[zGm];cases decide (o<n)<;>exact⟨λ _ h=>(by cases h),λ _ h=>(by cases h)⟩
 |fe o i off=>exact⟨λ _ h=>(by cases h),λ _ h=>(by cases h)⟩
 |view o ver s =>
  simp only[zGm]
  cases decide (o<n) with
  |false=>exact⟨λ _ h=>(by cases h),λ _ h=>(by cases h)⟩
  |true =>
   simp only[zA]
   split
   ·rename_i sl ver' sh xs _
    cases (ver==ver')<;>exact⟨λ _ h=>(by cases h),λ _ h=>(by cases h)⟩
   ·exact⟨λ _ h=>(by cases h),λ _ h=>(by cases h)⟩
theorem zWK(inv:Inv w0 S0 S L ow w) (n:Nat) {v:Value} {a:AV} (h:VA S L ow v a):VA S (L.take n) ((ow.take n).map (zMQ ow n)) v (zXH ow n a):=by
 cases a with
 |agg cs =>
  obtain⟨vs,e,hl,h1,h2⟩:=h
  refine⟨vs,e,by simpa using hl,h1,λ j x a hx ha=> ?_⟩
  rw[zN]at ha
  cases hc:cs[j]? with
  |none=>rw[hc]at ha;cases ha
  |some a0=>rw[hc]at ha;simp at ha;subst ha;exact zDy inv n (h2 j x a0 hx hc)
 |pv p=>exact VA.ofVA1 (zEb (ow:=ow) (n:=n) (a:= .pv p)) (zDy inv n (a:= .pv p) h)
 |nil sh=>exact VA.ofVA1 (zEb (ow:=ow) (n:=n) (a:= .nil sh)) (zDy inv n (a:= .nil sh) h)
 |sl bb sh xxs=>exact VA.ofVA1 (zEb (ow:=ow) (n:=n) (a:= .sl bb sh xxs)) (zDy inv n (a:= .sl bb sh xxs) h)
 |gm o=>exact VA.ofVA1 (zEb (ow:=ow) (n:=n) (a:= .gm o)) (zDy inv n (a:= .gm o) h)
 |fx o s=>exact VA.ofVA1 (zEb (ow:=ow) (n:=n) (a:= .fx o s)) (zDy inv n (a:= .fx o s) h)
 |fe o i off=>exact VP.undef v
 |view o ver s=>exact VA.ofVA1 (zEb (ow:=ow) (n:=n) (a:= .view o ver s)) (zDy inv n (a:= .view o ver s) h)
 |own o off=>exact VA.ofVA1 (zEb (ow:=ow) (n:=n) (a:= .own o off)) (zDy inv n (a:= .own o off) h)
 |elem o ver i off=>exact VA.ofVA1 (zEb (ow:=ow) (n:=n) (a:= .elem o ver i off)) (zDy inv n (a:= .elem o ver i off) h)
 |mp o=>exact VA.ofVA1 (zEb (ow:=ow) (n:=n) (a:= .mp o)) (zDy inv n (a:= .mp o) h)
 |fnv g fs cs=>exact VA.ofVA1 (zEb (ow:=ow) (n:=n) (a:= .fnv g fs cs)) (zDy inv n (a:= .fnv g fs cs) h)
 |tupA as=>exact VP.undef v
theorem Inv.norm(inv:Inv w0 S0 S L ow w) (n:Nat) (hn:∀(j:Nat) (k:Loc),w0.anc[j]? =some k->k.kept=true->j<n):Inv w0 S0 S (L.take n) ((ow.take n).map (zMQ ow n)) w:=by
 refine inv.drop (by simp[inv.len]) (λ j b hj hk=>⟨by rw[zCP,if_pos (hn j b hj hk)];exact(inv.anc j b hj hk).1,by
  have h1:=hn j b hj hk;have h2:=(inv.anc j b hj hk).2
  simp;omega⟩) λ o ob' l' ho hl=> ?_
 obtain⟨hn,hl'⟩:=z0r hl
 rw[zN,zCP,if_pos hn]at ho
 cases hob:ow[o]? with
 |none=>rw[hob]at ho;cases ho
 |some ob =>
  rw[hob]at ho
  simp at ho
  have hr:=inv.obs o ob l' hob hl'
  cases ob with
  |var fz sh a =>
   simp only[zMQ]at ho
   cases hk:(zXH ow n a).okSh sh with
   |false=>rw[hk]at ho;exact .inl ho.symm
   |true =>
    rw[hk]at ho
    simp only[zA]at ho
    subst ho
    cases l' with
    |grp b rs=>exact hr.elim
    |fix s0 b0 n0 k0=>exact hr.elim
    |row base cap=>exact hr.elim
    |blk b =>
     obtain⟨cs,t,v,hh,hv,hsh,hcs,hf⟩:=hr
     refine .inr ⟨hl',_,rfl,λ b hb=>hb,λ b j hj=>hj,cs,t,v,hh,zWK inv n hv,hk,hcs,λ e=> ?_⟩
     obtain⟨⟨p,rfl⟩,h2⟩:=hf e
     exact⟨⟨p,rfl⟩,h2⟩
  |row sl ver sh xs =>
   simp only[zMQ]at ho
   subst ho
   cases l' with
   |grp b rs=>exact hr.elim
   |fix s0 b0 n0 k0=>exact hr.elim
   |blk b=>exact hr.elim
   |row base cap=>exact .inr ⟨hl',_,rfl,λ b hb=>hb,λ b j hj=>by cases base<;>exact hj,hr⟩
  |sit s pos =>
   simp only[zMQ]at ho
   subst ho
   cases l' with
   |grp b rs=>exact hr.elim
   |fix s0 b0 n0 k0=>exact hr.elim
   |row base cap=>exact hr.elim
   |blk b=>exact .inr ⟨hl',_,rfl,λ b hb=>hb,λ b j hj=>hj,hr⟩
  |map sl es =>
   simp only[zMQ]at ho
   subst ho
   cases l' with
   |grp b rs=>exact hr.elim
   |fix s0 b0 n0 k0=>exact hr.elim
   |row base cap=>exact hr.elim
   |blk b=>exact .inr ⟨hl',_,rfl,λ b hb=>hb,λ b j hj=>hj,hr⟩
  |grp sh out es =>
   simp only[zMQ]at ho
   subst ho
   cases l' with
   |row base cap=>exact hr.elim
   |blk b=>exact hr.elim
   |fix s0 b0 n0 k0=>exact hr.elim
   |grp b rs=>exact .inr ⟨hl',_,rfl,λ b hb=>hb,λ b j hj=>hj,hr⟩
  |fix ver sh xs =>
   simp only[zMQ]at ho
   subst ho
   cases l' with
   |row base cap=>exact hr.elim
   |blk b=>exact hr.elim
   |grp b rs=>exact hr.elim
   |fix s0 b0 n0 k0=>exact .inr ⟨hl',_,rfl,λ b hb=>hb,λ b j hj=>hj,hr⟩
  |dead=>simp only[zMQ]at ho;exact .inl ho.symm
theorem zZC(f:Nat->AV) (lv:List Nat) (t:Nat):get (lv.map λ t=>(t,f t)) t=f t∨get (lv.map λ t=>(t,f t)) t= .undef:=by
 induction lv with
 |nil=>exact .inr rfl
 |cons x r ih =>
  simp only[zAX,zFg]
  by_cases e:x=t
  ·subst e;rw[if_pos rfl];exact .inl rfl
  ·rw[if_neg e];exact ih
theorem StR.norm{nt:Nat} {a:Act} {st:St} (h:StR c w0 S0 nt st.fr st.ow a w S L) (lv:List Nat) (n:Nat) (hn:∀(j:Nat) (k:Loc),w0.anc[j]? =some k->k.kept=true->j<n):StR c w0 S0 nt (Ab.norm lv n st).fr (Ab.norm lv n st).ow a w S (L.take n) where
 inv:=h.inv.norm n hn
 frs:=λ t=>by
  simp only[Ab.norm]
  rcases zZC (λ t=>zXH st.ow n (get st.fr t)) lv t with e | e<;>rw[e]
  ·exact zWK h.inv n (h.frs t)
  ·exact VP.undef _
 size:=h.size
 defers:=h.defers
theorem zQd{α:Type} {l:List α} {n i:Nat} {d x:α} (h:((List.range n).map λ i=>l.getD i d)[i]? =some x):i<n/\((l[i]? =some x)∨(l.length<=i/\x=d)):=by
 rw[zN]at h
 have hi:i<n:=by
  rcases Nat.lt_or_ge i n with h' | h'
  ·exact h'
  ·rw[zGZ (by simpa using h')]at h;cases h
 rw[List.getElem?_range hi]at h
 simp only[zV,zE,zA0]at h
 refine⟨hi,?_⟩
 cases e:l[i]? with
 |some y=>rw[e]at h;simp at h;subst h;exact .inl rfl
 |none=>rw[e]at h;simp at h;exact .inr ⟨List.getElem?_eq_none_iff.1 e,h.symm⟩
theorem zJV{α:Type} {l:List α} {n i:Nat} {d x:α} (hi:i<n) (h:l[i]? =some x):((List.range n).map λ i=>l.getD i d)[i]? =some x:=by
 rw[zN,List.getElem?_range hi]
 simp[zA0,h]
theorem Inv.spell(inv:Inv w0 S0 S L ow w) {n:Nat} (hn:ow.length<=n) :
 Inv w0 S0 S ((List.range n).map λ i=>L.getD i (.blk 0)) ((List.range n).map λ i=>ow.getD i .dead) w/\Evo S L ow S ((List.range n).map λ i=>L.getD i (.blk 0)) ((List.range n).map λ i=>ow.getD i .dead):=by
 have hE:Evo S L ow S ((List.range n).map λ i=>L.getD i (.blk 0)) ((List.range n).map λ i=>ow.getD i .dead):=by
  have hL:∀(o:Nat) x,o<ow.length->L[o]? =some x->((List.range n).map λ i=>L.getD i (.blk 0))[o]? =some x:=λ o x ho hx=>zJV (by omega) hx
  have hO:∀(o:Nat) x,ow[o]? =some x->((List.range n).map λ i=>ow.getD i .dead)[o]? =some x:=λ o x hx=>zJV (by have:=(zQ.1 hx).1;omega) hx
  refine .of1 (Pr.le_refl S) λ v a h=> ?_
  cases a with
  |pv p=>exact h
  |nil sh=>exact h
  |sl bb sh xxs=>exact h
  |fx o s=>obtain⟨base,k,cap,h1,h2,h3⟩:=h;exact⟨base,k,cap,hL _ _ h2 h1,by simp;omega,h3⟩
  |fe o i off=>obtain⟨s,b,o0,k,cap,h1,h2,h3⟩:=h;exact⟨s,b,o0,k,cap,hL _ _ h2 h1,by simp;omega,h3⟩
  |gm o =>
   simp only[VA1]at h ⊢
   obtain⟨b,eb,h⟩:=h
   refine⟨b,eb,?_⟩
   cases hx:ow[o]? with
   |none=>rw[hx]at h;exact h.elim
   |some x =>
    have hlt:=(zQ.1 hx).1
    rw[hx]at h;rw[hO _ _ hx]
    cases x<;>simp only at h ⊢
    obtain⟨rs,h1⟩:=h
    exact⟨rs,hL _ _ hlt h1⟩
  |agg cs=>exact h
  |own o off=>obtain⟨b,h1,h2,h3⟩:=h;exact⟨b,hL _ _ h2 h1,by simp;omega,h3⟩
  |mp o=>obtain⟨b,h1,h2,h3⟩:=h;exact⟨b,hL _ _ h2 h1,by simp;omega,h3⟩
  |tupA as=>exact h
  |fnv g first caps =>
   obtain⟨fs,cs,e,hm,hl,k1,k2⟩:=h
   exact⟨fs,cs,e,hm,hl,λ j x a hx ha=>(k1 j x a hx ha).to (Pr.le_refl S) λ o b h1 h2=>⟨hL _ _ h2 h1,by simp;omega⟩,
    λ j x a hx ha=>(k2 j x a hx ha).to (Pr.le_refl S) λ o b h1 h2=>⟨hL _ _ h2 h1,by simp;omega⟩⟩
  |view o ver sb =>
   simp only[VA1]at h ⊢
   refine⟨h.1,?_⟩
   replace h:=h.2
   cases hx:ow[o]? with
   |none=>rw[hx]at h;exact h.elim
   |some x =>
    have hlt:=(zQ.1 hx).1
    rw[hx]at h;rw[hO _ _ hx]
    cases x<;>simp only at h ⊢
    all_goals
     obtain⟨h1,h2⟩:=h
     refine⟨h1,λ e=> ?_⟩
     obtain⟨base,cap,h3,h4⟩:=h2 e
     exact⟨base,cap,hL _ _ hlt h3,h4⟩
  |elem o ver i off =>
   simp only[VA1]at h ⊢
   refine⟨h.1,?_⟩
   replace h:=h.2
   cases hx:ow[o]? with
   |none=>rw[hx]at h;exact h.elim
   |some x =>
    have hlt:=(zQ.1 hx).1
    rw[hx]at h;rw[hO _ _ hx]
    cases x<;>simp only at h ⊢
    all_goals
     obtain⟨h1,h2⟩:=h
     refine⟨h1,λ e=> ?_⟩
     obtain⟨hi,b,o0,cap,h3,h4⟩:=h2 e
     exact⟨hi,b,o0,cap,hL _ _ hlt h3,h4⟩
 refine⟨inv.drop (by simp) (hE.anc inv.anc) λ o ob' l' ho hl=> ?_,hE⟩
 obtain⟨_,ho' | ⟨_,rfl⟩⟩:=zQd ho
 ·obtain⟨_,hl' | ⟨hlen,_⟩⟩:=zQd hl
  ·exact .inr ⟨hl',ob',ho',λ b hb=>hb,λ b j hj=>hj,(inv.obs o ob' l' ho' hl').keep hE (λ _ _=>rfl)⟩
  ·have:=(zQ.1 ho').1
   rw[inv.len]at hlen;omega
 ·exact .inl rfl
theorem StR.spell{nt:Nat} {a:Act} {st:St} (h:StR c w0 S0 nt st.fr st.ow a w S L) (lv:List Nat) {n:Nat} (hn:st.ow.length<=n) :
 ∃ L',StR c w0 S0 nt (Ab.spell lv n st).fr (Ab.spell lv n st).ow a w S L' :=by
 obtain⟨h1,h2⟩:=h.inv.spell hn
 refine⟨_,h1,λ t=> ?_,h.size,h.defers⟩
 simp only[Ab.spell]
 rcases zZC (λ t=>get st.fr t) lv t with e | e<;>rw[e]
 ·exact h2.2 _ _ (h.frs t)
 ·exact VP.undef _
theorem StR.gho{nt:Nat} {a:Act} {fr:List (Nat×AV)} {ow' :List Ob} (h:StR c w0 S0 nt fr ow a w S L) (g:Gho w0 w S0 ow ow'):∃ S' L',StR c w0 S0 nt fr ow' a w S' L' :=by
 obtain⟨S',L',h1,h2⟩:=g S L h.inv
 exact⟨S',L',h1,h.frs.evo h2,h.size,h.defers⟩
end
def exO:Ex->Exit
 | .normal=> .normal
 | .exit id=> .exit id
 | .ret=> .ret
def zFy(nt:Nat):Code->Bool
 | .region _ ops draw=>zQ9 nt ops.toList&&(!draw || zRR ops)
 | .seq a b=>zFy nt a&&zFy nt b
 | .cond _ a b=>zFy nt a&&zFy nt b
 | .block _ a=>zFy nt a
 | .loop a=>zFy nt a
 |_=>true
section
variable {P:Program} {c:Cfg} {call:Wf} {lp:(St->Option (Ex×St))->St->Option (Ex×St)} {fi:FnI} {w0:Base} {S0:Pr}
def LpOK(lp:(St->Option (Ex×St))->St->Option (Ex×St)):Prop:=∀ b st x,lp b st=some x->∃ n,iter n b st=some x
def zNT(c:Cfg) (w0:Base) (S0:Pr) (nt:Nat) (st:St) (a:Act) (w:World):Prop:=∃ S L,StR c w0 S0 nt st.fr st.ow a w S L
theorem StR.sealFr{c:Cfg} {w0:Base} {S0:Pr} {nt:Nat} {ow:List Ob} {a:Act} {w:World} {S:Pr} {L:List Loc}:∀(ms:List Nat) (fr:List (Nat×AV)),StR c w0 S0 nt fr ow a w S L->StR c w0 S0 nt (Ab.sealFr ow ms fr) ow a w S L
 | [],_,h=>h
 |m::r,fr,h=>by
  refine StR.sealFr r _ ?_
  cases decide (100000<=m) with
  |false=>exact h
  |true =>
   refine⟨h.inv,λ s=> ?_,h.size,h.defers⟩
   simp only[zA,putD,zFg]
   by_cases e:m / 2 % 50000=s
   ·rw[if_pos e,e]
    have h1:=h.frs s
    unfold z3w
    split
    ·rename_i o off hg
     rw[hg]at h1
     split
     ·rename_i p hp
      exact zBk h.inv (a:= .own o off) h1 hp
     ·exact h1
    ·exact h1
   ·rw[if_neg e];exact h.frs s
theorem zGw(hT:TyOK P c) (hcall:CallOK P call) (hlp:LpOK lp) {nt:Nat}:∀(x:Code),zFy nt x=true->∀{R:Type} (st:St) (k:Ex->St->Option R) (y:R) (a:Act) (w:World) (Q:Exit->Act->World->Prop),
 F c call lp fi x st k=some y->zNT c w0 S0 nt st a w->(∀ e st' a' w',zNT c w0 S0 nt st' a' w' ->k e st' =some y->Q (exO e) a' w')->x.wp P Q a w
 | .skip,_,_,st,k,y,a,w,Q,h,hs,hQ=>wp_skip (hQ .normal st a w hs h)
 | .exit id,_,_,st,k,y,a,w,Q,h,hs,hQ=>wp_exit (hQ (.exit id) st a w hs h)
 | .ret,_,_,st,k,y,a,w,Q,h,hs,hQ=>wp_ret (hQ .ret st a w hs h)
 | .region id ops draw,hok,_,st,k,y,a,w,Q,h,hs,hQ=>by
  obtain⟨S,L,hs⟩:=hs
  simp only[zFy,zF]at hok
  simp only[zGn,zD5,zJM,zGX,zE7,zGo,zGp,zKp]at h
  obtain⟨S1,L1,hs1⟩:=hs.gho (Gho.sealTs st.fr (look fi.seals id) st.ow)
  have hs1:=hs1.sealFr (look fi.seals id)
  cases draw with
  |false =>
   refine wp_region ?_
   have hr:List.range ops.size=List.range' 0 ops.toList.length:=by rw[List.range_eq_range'];simp
   rw[hr]
   refine zSp hT hcall ops.toList 0 ⟨sealFr (sealTs st.fr (look fi.seals id) st.ow) (look fi.seals id) st.fr,sealTs st.fr (look fi.seals id) st.ow⟩ [] a w S1 L1 (λ j o hj=>by simpa using hj) hok.1 hs1 h λ st' ts' a' w' S' L' h1 h2=> ?_
   exact hQ .normal st' a' w' ⟨S',L',h1⟩ (by simpa using h2)
  |true =>
   have hreg:zRR ops=true:=by simpa using hok.2
   have hs2:StR c w0 S0 nt (sealFr (sealTs st.fr (look fi.seals id) st.ow) (look fi.seals id) st.fr) (sealTs st.fr (look fi.seals id) st.ow) a { w with drawn:=w.drawn+1 } S1 L1:=⟨hs1.inv.drewN 1,hs1.frs,hs1.size,hs1.defers⟩
   refine zX4 hT.mixed hT hcall hreg hok.1 (st:=⟨sealFr (sealTs st.fr (look fi.seals id) st.ow) (look fi.seals id) st.fr,sealTs st.fr (look fi.seals id) st.ow⟩) hs2 (k:=λ st' _=>k .normal st') h λ st' ts' a' w' S' L' h1 h2=> ?_
   exact hQ .normal st' a' w' ⟨S',L',h1⟩ h2
 | .seq x1 x2,hok,_,st,k,y,a,w,Q,h,hs,hQ=>by
  simp only[zFy,zF]at hok
  simp only[zGn,zD5,zJM,zGX,zE7,zGo,zGp,zKp]at h
  refine wp_seq (zGw hT hcall hlp x1 hok.1 st _ y a w _ h hs λ e st' a' w' hs' hk=> ?_)
  cases e with
  |normal =>
   simp only[seqK]at hk
   unfold zY0 at hk
   split at hk
   ·exact zGw hT hcall hlp x2 hok.2 st' k y a' w' Q hk hs' hQ
   ·obtain⟨S',L',hs'⟩:=hs'
    exact zGw hT hcall hlp x2 hok.2 _ k y a' w' Q hk ⟨S',_,hs'.norm _ _ λ j b hj hk=>(hs'.inv.anc j b hj hk).2⟩ hQ
  |exit id=>exact hQ (.exit id) st' a' w' hs' hk
  |ret=>exact hQ .ret st' a' w' hs' hk
 | .cond q x1 x2,hok,_,st,k,y,a,w,Q,h,hs,hQ=>by
  simp only[zFy,zF]at hok
  simp only[zGn,zD5,zJM,zGX,zE7,zGo,zGp,zKp]at h
  obtain⟨p,hp,h1⟩:=zBV h
  obtain⟨z,hz,h2⟩:=zJ.1 h1
  have hv:a.eval q= .bool z:=by
   obtain⟨S,L,hs⟩:=hs
   have:=z2I (c:=c) hs.frs q 0
   rw[hp]at this
   cases p<;>simp only[PV.asBool]at hz<;>try (cases hz;done)
   cases hz
   exact zGN this
  cases z with
  |true=>exact wp_cond_true hv (zGw hT hcall hlp x1 hok.1 st k y a w Q h2 hs hQ)
  |false=>exact wp_cond_false hv (zGw hT hcall hlp x2 hok.2 st k y a w Q h2 hs hQ)
 | .block id x,hok,_,st,k,y,a,w,Q,h,hs,hQ=>by
  simp only[zFy]at hok
  simp only[zGn,zD5,zJM,zGX,zE7,zGo,zGp,zKp]at h
  refine wp_block (zGw hT hcall hlp x hok st _ y a w _ h hs λ e st' a' w' hs' hk=> ?_)
  cases e with
  |normal=>exact hQ .normal st' a' w' hs' hk
  |ret=>exact hQ .ret st' a' w' hs' hk
  |exit i =>
   simp only[exO,Exit.inBlock]
   simp only[zJL]at hk
   by_cases e:i=id
   ·subst e
    rw[if_pos rfl]
    simp only[BEq.rfl,zA]at hk
    exact hQ .normal st' a' w' hs' hk
   ·rw[if_neg e]
    rw[show(i==id)=false by simpa using e]at hk
    exact hQ (.exit i) st' a' w' hs' hk
 | .loop x,hok,R,st,k,y,a,w,Q,h,hs,hQ=>by
  simp only[zFy]at hok
  simp only[zGn,zD5,zJM,zGX,zE7,zGo,zGp,zKp,zUX]at h
  obtain⟨⟨e,st1⟩,h1,h2⟩:=zJ.1 h
  obtain⟨n,h1⟩:=hlp _ _ _ h1
  have key:∀(n:Nat) (s:St) (a:Act) (w:World),s.ow.length<=st.ow.length->zNT c w0 S0 nt s a w ->
   iter n (λ st=>F c call lp fi x st λ e st' =>some (rnd (look fi.lives (zBG x)) (look fi.outs (zBG x)) st.ow.length e st')) s=some (e,st1) ->
   Code.rounds P x Q n a w:=by
   intro n
   induction n with
   |zero=>intro s a w _ _ h;cases h
   |succ n ih =>
    intro s a w hsl hs h
    simp only[iter]at h
    obtain⟨⟨e1,s1⟩,h3,h4⟩:=zJ.1 h
    rw[rounds_succ]
    refine zGw hT hcall hlp x hok s _ (e1,s1) a w _ h3 hs λ e' st' a' w' hs' hk=> ?_
    obtain⟨S',L',hs'⟩:=hs'
    have hA:∀(j:Nat) (k:Loc),w0.anc[j]? =some k->k.kept=true->j<s.ow.length:=λ j b hj hk=>(by obtain⟨S1,L1,hs1⟩:=hs;exact(hs1.inv.anc j b hj hk).2)
    have hlen' :∀ lv,(Ab.norm lv s.ow.length st').ow.length<=s.ow.length:=λ lv=>by simp[Ab.norm,Nat.min_le_left]
    cases e' with
    |normal =>
     simp only[rnd,zE,zAl]at hk
     obtain⟨rfl,rfl⟩:=hk
     simp only at h4
     simp only[exO,Exit.then]
     exact ih _ a' w' (Nat.le_trans (hlen' _) hsl) ⟨S',_,hs'.norm (look fi.lives (zBG x)) s.ow.length hA⟩ h4
    |exit i =>
     simp only[rnd,zE,zAl]at hk
     obtain⟨rfl,rfl⟩:=hk
     simp only[zE,zAl]at h4
     obtain⟨rfl,rfl⟩:=h4
     obtain⟨L2,h5⟩:=(hs'.norm (look fi.outs (zBG x)) s.ow.length hA).spell (look fi.outs (zBG x)) (n:=st.ow.length) (Nat.le_trans (hlen' _) hsl)
     exact hQ (.exit i) _ a' w' ⟨S',L2,h5⟩ h2
    |ret =>
     simp only[rnd,zE,zAl]at hk
     obtain⟨rfl,rfl⟩:=hk
     simp only[zE,zAl]at h4
     obtain⟨rfl,rfl⟩:=h4
     obtain⟨L2,h5⟩:=(hs'.norm (look fi.outs (zBG x)) s.ow.length hA).spell (look fi.outs (zBG x)) (n:=st.ow.length) (Nat.le_trans (hlen' _) hsl)
     exact hQ .ret _ a' w' ⟨S',L2,h5⟩ h2
  obtain⟨S,L,hs⟩:=hs
  exact wp_loop_rounds n (key n _ a w (by simp[Ab.norm,Nat.min_le_left]) ⟨S,_,hs.norm (look fi.lives (zBG x)) st.ow.length λ j b hj hk=>(hs.inv.anc j b hj hk).2⟩ h1)
 | .label ..,_,_,_,_,_,_,_,_,h,_,_=>by rw[zY1]at h;cases h
 | .goto ..,_,_,_,_,_,_,_,_,h,_,_=>by rw[z2G]at h;cases h
 | .scope ..,_,_,_,_,_,_,_,_,h,_,_=>by rw[zY2]at h;cases h
 | .refuse ..,_,_,_,_,_,_,_,_,h,_,_=>by rw[zVs]at h;cases h
 | .rangeFunc ..,_,_,_,_,_,_,_,_,h,_,_=>by rw[zY3]at h;cases h
end
end Go.Ab

namespace Go.Ab
open Go.RowKit (Below)
variable [GL:Gl]
structure FnOK (P:Program) (c:Cfg) (f:FuncId) (fi:FnI):Prop where
 fn:∃ fn,P.funcs[f]? =some fn/\fn.body=some fi.whole/\fn.results=fi.res.toArray/\fn.ntmps=fi.nt/\(fn.name== "runtime.NumGoroutine")=false
 code:zFy fi.nt fi.code=true
 scan:∀ n m B,fi.scan=some (n,m,B)->∃ r,fi.res=[.tmp r]/\z0o c fi.nt m r B=true
theorem zZD{P:Program} {c:Cfg} {w0:Base} {S0:Pr} {call:Wf} {lp:(St->Option (Ex×St))->St->Option (Ex×St)} {fi:FnI} (hT:TyOK P c) (hcall:CallOK P call) (hlp:LpOK lp) {nt:Nat} {B:Code}:∀(n:Nat) (x:Code),zFy nt x=true->∀{R:Type} (st:St) (k:Ex->St->Option R) (y:R) (a:Act) (w:World) (Q:Exit->Act->World->Prop),
 F c call lp fi x st k=some y->zNT c w0 S0 nt st a w->(∀ e st' a' w',e≠ .normal->zNT c w0 S0 nt st' a' w' ->k e st' =some y->Q (exO e) a' w') ->
 (∀ st' a' w',zNT c w0 S0 nt st' a' w' ->k .normal st' =some y->B.wp P Q a' w')->(appN n x B).wp P Q a w:=by
 intro n
 induction n with
 |zero =>
  intro x hok R st k y a w Q h hs hQ hB
  refine wp_seq (zGw hT hcall hlp x hok st k y a w _ h hs λ e st' a' w' hs' hk=> ?_)
  cases e with
  |normal=>exact hB st' a' w' hs' hk
  |exit id=>exact hQ (.exit id) st' a' w' (by simp) hs' hk
  |ret=>exact hQ .ret st' a' w' (by simp) hs' hk
 |succ n ih =>
  intro x hok R st k y a w Q h hs hQ hB
  have base:∀ z,z=x->(Code.seq z B).wp P Q a w:=λ z hz=>by
   subst hz
   refine wp_seq (zGw hT hcall hlp z hok st k y a w _ h hs λ e st' a' w' hs' hk=> ?_)
   cases e with
   |normal=>exact hB st' a' w' hs' hk
   |exit id=>exact hQ (.exit id) st' a' w' (by simp) hs' hk
   |ret=>exact hQ .ret st' a' w' (by simp) hs' hk
  cases x with
  |seq x1 x2 =>
   simp only[zFy,zF]at hok
   simp only[zJM]at h
   refine wp_seq (zGw hT hcall hlp x1 hok.1 st _ y a w _ h hs λ e st' a' w' hs' hk=> ?_)
   cases e with
   |normal =>
    simp only[seqK]at hk
    unfold zY0 at hk
    split at hk
    ·exact ih x2 hok.2 st' k y a' w' Q hk hs' hQ hB
    ·obtain⟨S',L',hs'⟩:=hs'
     exact ih x2 hok.2 _ k y a' w' Q hk ⟨S',_,hs'.norm _ _ λ j b hj hk=>(hs'.inv.anc j b hj hk).2⟩ hQ hB
   |exit id=>exact hQ (.exit id) st' a' w' (by simp) hs' hk
   |ret=>exact hQ .ret st' a' w' (by simp) hs' hk
  |_=>exact base _ rfl
theorem zM7:∀(l:List AV) (i t:Nat),get (zIs i l) t=match l[t-i]? with | some p=>if i<=t then p else .undef | none=> .undef
 | [],i,t=>by simp[zIs,get]
 |p::r,i,t=>by
  simp only[zIs,zFg]
  rcases Nat.lt_trichotomy i t with h | h | h
  ·rw[if_neg (by omega),zM7 r (i+1) t,show t-i=(t-(i+1))+1 by omega,zAq]
   cases r[t-(i+1)]? with
   |none=>rfl
   |some p=>simp only;rw[if_pos (by omega),if_pos (by omega)]
  ·subst h;simp
  ·rw[if_neg (by omega),zM7 r (i+1) t,show t-(i+1)=0 by omega,show t-i=0 by omega]
   have hn:¬ i<=t:=by omega
   have hn1:¬ i+1<=t:=by omega
   cases r[0]? <;>simp[hn,hn1]
section
variable {w0:Base} {w:World} {S0 S:Pr} {L:List Loc} {ow:List Ob} {f:Nat->Option (Nat×Nat)} {ids:List Nat}
def zSu(ow:List Ob) (f:Nat->Option (Nat×Nat)) (ids:List Nat):List Ob:=ids.map λ i=>mvOb ow f 0 (ow.getD i .dead)
theorem zRV{j:Nat} {x:Ob} {l:Loc} (hl:L.length=ow.length) (h:(zSu ow f ids)[j]? =some x) (hL:(zDZ L ids)[j]? =some l) :
 x= .dead∨∃ i ob,ids[j]? =some i/\ow[i]? =some ob/\L[i]? =some l/\x=mvOb ow f 0 ob:=by
 simp only[zSu,zN,Option.map_eq_some_iff]at h
 obtain⟨i,hi,rfl⟩:=h
 simp only[zDZ,zN,hi,zV,zE]at hL
 cases ho:ow[i]? with
 |none=>left;simp[zA0,ho,mvOb]
 |some ob =>
  right
  have h1:=(zQ.1 ho).1
  have h2:i<L.length:=by omega
  refine⟨i,ob,hi,ho,?_,by simp[zA0,ho]⟩
  rw[<- hL];simp[zA0,h2]
theorem z2K(hl:L.length=ow.length) (hf:∀ o x,f o=some x->ids[x.1]? =some o/\x.2=0):Mv f L ow (zDZ L ids) (zSu ow f ids):=λ o x hx ho=>by
 obtain⟨h1,h2⟩:=hf o x hx
 have h3:o<L.length:=by omega
 refine⟨by simpa [zSu]using(zQ.1 h1).1,?_,λ sl ver sh xs hr=> .inr ⟨sl,?_⟩⟩
 ·simp[zDZ,h1,zA0,h3]
 ·simp[zSu,h1,zA0,hr,mvOb,h2]
theorem z2y(inv:Inv w0 S0 S L ow w) (hn:ids.Nodup) (hf:∀ o x,f o=some x->ids[x.1]? =some o/\x.2=0) (hA:∀(j:Nat) (k:Loc),w0.anc[j]? =some k->k.kept=true->ids[j]? =some j):Inv w0 S0 S (zDZ L ids) (zSu ow f ids) w where
 len:=by simp[zDZ,zSu]
 below:=inv.below
 prot:=inv.prot
 old:=inv.old
 le:=inv.le
 glob:=inv.glob
 anc:=λ j b h hk=>by
  have h1:=hA j b h hk
  obtain⟨h2,h3⟩:=inv.anc j b h hk
  have h4:=(zQ.1 h2).1
  exact⟨by simp[zDZ,h1,zA0,h2],by simpa [zSu]using(zQ.1 h1).1⟩
 obs:=λ j x l hx hl=>by
  rcases zRV inv.len hx hl with rfl | ⟨i,ob,h1,h2,h3,rfl⟩
  ·cases l<;>trivial
  ·exact(z2K inv.len hf).ob (Pr.le_refl S) (inv.obs i ob l h2 h3) (λ _ _=>rfl) 0
 own:=λ j x l b hx hl hb=>by
  rcases zRV inv.len hx hl with rfl | ⟨i,ob,h1,h2,h3,rfl⟩
  ·simp[zZ]at hb
  ·obtain⟨k1,k2⟩:=zFs hb
   obtain⟨m1,m2,m3⟩:=inv.own i ob l b h2 h3 k1
   exact⟨m1,m2,λ q v hv=>k2 _ q (m3 q v hv)⟩
 sep:=λ j j' x x' l l' b hx hl hx' hl' hb hb' =>by
  rcases zRV inv.len hx hl with rfl | ⟨i,ob,h1,h2,h3,rfl⟩
  ·simp[zZ]at hb
  rcases zRV inv.len hx' hl' with rfl | ⟨i',ob',h1',h2',h3',rfl⟩
  ·simp[zZ]at hb'
  have e:=inv.sep i i' ob ob' l l' b h2 h3 h2' h3' (zFs hb).1 (zFs hb').1
  subst e
  exact zOk hn h1 h1'
theorem zM8(inv:Inv w0 S0 S L ow w) {n:Nat} (hA:∀(j:Nat) (k:Loc),w0.anc[j]? =some k->k.kept=true->j<n) {v:Value} {a:AV} (h:VA S L ow v a) :
 ∃ L',Inv w0 S0 S L' (outs n ow a).2 w/\VA S L' (outs n ow a).2 v (outs n ow a).1:=by
 unfold outs
 generalize hi:zVt n ow a=is
 obtain⟨h1,h2⟩:=zLc ow 64 (a.refs++List.range n) [] List.nodup_nil (by simp)
 have hnd:is.Nodup:=by rw[<- hi];exact h1.filter _
 have hge:∀ i∈is,n<=i:=λ i hi' =>by rw[<- hi]at hi';exact zAM (zBS.1 hi').2
 have hf:∀ o x,zY5 n is o=some x->(List.range n++is)[x.1]? =some o/\x.2=0:=λ o x hx=>by
  unfold zY5 at hx
  by_cases ho:o<n
  ·rw[zD ho]at hx
   simp only[zA,zE]at hx;subst hx
   exact⟨by rw[zAW (by simpa using ho),List.getElem?_range ho],rfl⟩
  ·rw[zL ho]at hx
   simp only[zC]at hx
   cases hp:zFc is o with
   |none=>rw[hp]at hx;cases hx
   |some j =>
    rw[hp]at hx
    simp only[zE]at hx;subst hx
    refine⟨?_,rfl⟩
    rw[zAO (by simp)]
    simpa using zFf hp
 have hN:(List.range n++is).Nodup:=by
  rw[List.nodup_append]
  exact⟨List.nodup_range,hnd,λ x hx y hy=>λ e=>by
   have:=List.mem_range.1 hx
   have:=hge y hy
   omega⟩
 have k1:=z2y (f:=zY5 n is) inv hN hf (λ j b hj hk=>by
  have:=hA j b hj hk
  rw[zAW (by simpa using this),List.getElem?_range this])
 exact⟨_,k1,(z2K inv.len hf).va (Pr.le_refl S) h⟩
end
section
variable {P:Program} {c:Cfg} {call:Wf} {lp:(St->Option (Ex×St))->St->Option (Ex×St)} {w0:Base} {w:World} {S0 S:Pr} {L:List Loc} {ow:List Ob}
theorem zQe{t:TypeId} {v u:Value} (h:(Instr.loadAt t v).run P w= .ok u w):(asAddr v >>= loadVar t).run P w= .ok u w:=by
 cases v<;>simp only[Instr.loadAt,Instr.sureAddr]at h<;>try (simp at h;done)
 rename_i a
 cases a with
 |none=>simp at h
 |some a=>simpa [asAddr]using h
def resF(tmps:Array Value):ResultVar->Sem Value
 | .tmp t=>pure (tmps.getD t undef)
 | .cell a t=>do loadVar t (<- asAddr (tmps.getD a undef))
theorem zX5(fn:Func) (tmps:Array Value):results fn tmps=(do let vs<-fn.results.mapM (resF tmps);pure (if h:vs.size=1 then vs[0]else .tuple vs)):=by
 unfold results
 congr 1
theorem zM9(hT:TyOK P c) (inv:Inv w0 S0 S L ow w) {tmps:Array Value} {fr:List (Nat×AV)} (hf:FrR S L ow tmps fr) {R:Type}:∀(l:List ResultVar) (k:List PV->Option R) (y:R),resO c ow fr l k=some y ->
 ∃ ps vs,(l.mapM (resF tmps)).run P w= .ok vs w/\VPs S vs ps/\k ps=some y
 | [],k,y,h=>⟨[],[],rfl,VPs.nil S,h⟩
 | .tmp t::r,k,y,h=>by
  simp only[resO]at h
  rw[zAN]at h
  obtain⟨p,hp,h1⟩:=zJ.1 h
  obtain⟨ps,vs,h2,h3,h4⟩:=zM9 hT inv hf r _ y h1
  refine⟨p::ps,tmps.getD t undef::vs,?_,VPs.cons (zB9 inv (hf t) hp) h3,h4⟩
  simp only[List.mapM_cons,resF,Sem.run_bind,Sem.run_pure,Result.andThen_ok,h2]
 | .cell t ty::r,k,y,h=>by
  simp only[resO]at h
  cases hk:c.known ty with
  |false=>rw[hk]at h;cases h
  |true =>
   rw[hk]at h
   simp only[zAH,zC]at h
   rw[zEQ]at h
   obtain⟨a,ha,h0⟩:=zJ.1 h
   rw[zAN]at h0
   obtain⟨p,hp,h1⟩:=zJ.1 h0
   obtain⟨ps,vs,h2,h3,h4⟩:=zM9 hT inv hf r _ y h1
   obtain⟨u,hu,hua⟩:=zJO hT inv hk (hf t) ha
   refine⟨p::ps,u::vs,?_,VPs.cons (zB9 inv hua hp) h3,h4⟩
   have:=zQe hu
   simp only[List.mapM_cons,resF]
   rw[Sem.run_bind,this]
   simp only[Result.andThen_ok,Sem.run_bind,Sem.run_pure,h2]
theorem zMa(hT:TyOK P c) (inv:Inv w0 S0 S L ow w) {tmps:Array Value} {fr:List (Nat×AV)} (hf:FrR S L ow tmps fr) {R:Type}:∀(l:List ResultVar) (k:List AV->Option R) (y:R),resA c ow fr l k=some y ->
 ∃ as vs,(l.mapM (resF tmps)).run P w= .ok vs w/\VAs S L ow vs as/\k as=some y
 | [],k,y,h=>⟨[],[],rfl,⟨rfl,λ j v a hv=>by simp at hv⟩,h⟩
 | .tmp t::r,k,y,h=>by
  simp only[resA]at h
  obtain⟨as,vs,h2,h3,h4⟩:=zMa hT inv hf r _ y h
  refine⟨get fr t::as,tmps.getD t undef::vs,?_,⟨by simp[h3.1],λ j v a hv ha=> ?_⟩,h4⟩
  ·simp only[List.mapM_cons,resF,Sem.run_bind,Sem.run_pure,Result.andThen_ok,h2]
  ·cases j with
   |zero=>simp only[zAS,zE]at hv ha;subst hv;subst ha;exact hf t
   |succ j=>exact h3.2 j v a (by simpa using hv) (by simpa using ha)
 | .cell t ty::r,k,y,h=>by
  simp only[resA]at h
  cases hk:c.known ty with
  |false=>rw[hk]at h;cases h
  |true =>
   rw[hk]at h
   simp only[zAH,zC]at h
   rw[zEQ]at h
   obtain⟨a,ha,h0⟩:=zJ.1 h
   obtain⟨as,vs,h2,h3,h4⟩:=zMa hT inv hf r _ y h0
   obtain⟨u,hu,hua⟩:=zJO hT inv hk (hf t) ha
   refine⟨a::as,u::vs,?_,⟨by simp[h3.1],λ j v a' hv ha' => ?_⟩,h4⟩
   ·have:=zQe hu
    simp only[List.mapM_cons,resF]
    rw[Sem.run_bind,this]
    simp only[Result.andThen_ok,Sem.run_bind,Sem.run_pure,h2]
   ·cases j with
    |zero=>simp only[zAS,zE]at hv ha';subst hv;subst ha';exact hua
    |succ j=>exact h3.2 j v a' (by simpa using hv) (by simpa using ha')
theorem z2z{vs:List Value} {as:List AV} (h:VAs S L ow vs as) (hfl:z06 as=true):VA S L ow (if h:vs.toArray.size=1 then vs.toArray[0]else .tuple vs.toArray) (oneA as):=by
 obtain⟨e1,e2⟩:=h
 match vs,as,e1,e2,hfl with
 | [u],[a],_,e2,_=>simpa [oneA]using e2 0 u a rfl rfl
 | [],[],_,e2,_=>exact⟨#[],by simp,rfl,λ j v a h=>by simp at h⟩
 |u::u' ::us,a::a' ::as,e1,e2,hfl =>
  rw[dif_neg (by simp)]
  refine⟨_,rfl,by simpa using e1,λ j v b hv hb=> ?_⟩
  have h1:=e2 j v b (by simpa using hv) hb
  have h2:=zAF.1 hfl b (zAV hb)
  cases b<;>first | exact h1 | simp at h2
theorem z3A{vs:List Value} {ps:List PV} (h:VPs S vs ps):VP S (if h:vs.toArray.size=1 then vs.toArray[0]else .tuple vs.toArray) (oneP ps):=by
 obtain⟨e1,e2⟩:=h
 match vs,ps,e1,e2 with
 | [u],[p],_,e2=>simpa [oneP]using e2 0 u p rfl rfl
 | [],[],_,e2=>exact VP.tup #[] [] rfl (λ j v p h=>by simp at h)
 |u::u' ::us,p::p' ::ps,e1,e2 =>
  rw[dif_neg (by simp)]
  exact VP.tup _ _ (by simpa using e1) (λ j v q hv hq=>e2 j v q (by simpa using hv) hq)
theorem zIC(hT:TyOK P c) (hcall:CallOK P call) (hlp:LpOK lp) {f:FuncId} {fi:FnI} (hf:FnOK P c f fi) {raw:Bool} {args:List AV} {ow ow' :List Ob} {r:AV} (h:bodyO c call lp fi raw args ow=some (r,ow')):Valid P f args ow r ow' :=by
 obtain⟨⟨fn,h1,h2,h3,h4,h5⟩,hcode,hscan⟩:=hf
 refine Valid.of ⟨fn,h1,h5,by rw[h2];rfl⟩ λ S L w vs inv hvs=> ?_
 unfold bodyO at h
 obtain⟨hlen,h⟩:=bif_some h
 have hst:zNT c (hand L ow w) S fi.nt ⟨zIs 0 args,ow⟩ { tmps:=vs.toArray++Array.replicate (fn.ntmps-vs.toArray.size) undef,defers:=[] } w:=by
  refine⟨S,L,inv,λ t=> ?_,?_,rfl⟩
  ·rw[zM7]
   simp only[Nat.sub_zero,Nat.zero_le,if_true]
   cases ht:args[t]? with
   |none=>exact VP.undef _
   |some p =>
    have hlt:t<vs.length:=by rw[hvs.1];exact(zQ.1 ht).1
    have e:(vs.toArray++Array.replicate (fn.ntmps-vs.toArray.size) undef).getD t undef=vs[t]:=by
     simp[Array.getD_eq_getD_getElem?,Array.getElem?_append,hlt]
    rw[e]
    exact hvs.2 t vs[t] p (by simp[hlt]) ht
  ·simp only[Array.size_append,Array.size_replicate]
   omega
 have hmap:∀(tmps:Array Value) (w' :World) (us:List Value),(fi.res.mapM (resF tmps)).run P w' = .ok us w' ->(results fn tmps).run P w' = .ok (if h:us.toArray.size=1 then us.toArray[0]else .tuple us.toArray) w' :=λ tmps w' us hu=>by
  have hm:(fn.results.mapM (resF tmps)).run P w' = .ok us.toArray w' :=by
   rw[h3,List.mapM_toArray,Sem.run_map,hu];rfl
  rw[zX5,Sem.run_bind,hm]
  simp only[Result.andThen_ok,Sem.run_pure]
 have hA:∀(j:Nat) (k:Loc),(hand L ow w).anc[j]? =some k->k.kept=true->j<ow.length:=λ j b hj hk=>(inv.anc j b hj hk).2
 have usual:∀(x:Exit) (st' :St) (a' :Act) (w' :World),x= .normal∨x= .ret->zNT c (hand L ow w) S fi.nt st' a' w' ->
  (bif raw then resA c st'.ow st'.fr fi.res (λ as=>bif z06 as then some (outs ow.length st'.ow (oneA as))else none)
   else resO c (sealFrom ow.length st'.ow) st'.fr fi.res λ ps=>some (outs ow.length (sealFrom ow.length st'.ow) (.pv (oneP ps))))=some (r,ow') ->
  bodyPost P fn (λ e w' =>∃ v S' L',e= .returned v/\Inv (hand L ow w) S S' L' ow' w' /\VA S' L' ow' v r) x a' w' :=by
  intro x st' a' w' hx hs' hfin
  obtain⟨S1,L1,hs1⟩:=hs'
  have key:∃ v S' L',(results fn a'.tmps).run P w' = .ok v w' /\Inv (hand L ow w) S S' L' ow' w' /\VA S' L' ow' v r:=by
   cases raw with
   |true =>
    obtain⟨as,us,k1,k2,k3⟩:=zMa hT hs1.inv hs1.frs fi.res _ _ hfin
    obtain⟨hfl,k3⟩:=bif_some k3
    obtain⟨L2,m1,m2⟩:=zM8 hs1.inv hA (z2z k2 hfl)
    simp only[zE]at k3
    rw[k3]at m1 m2
    exact⟨_,S1,L2,hmap _ _ us k1,m1,m2⟩
   |false =>
    obtain⟨S2,L2,hs2⟩:=hs1.gho (Gho.sealFrom ow.length st'.ow)
    obtain⟨ps,us,k1,k2,k3⟩:=zM9 hT hs2.inv hs2.frs fi.res _ _ hfin
    obtain⟨L3,m1,m2⟩:=zM8 hs2.inv hA (show VA S2 L2 _ _ (.pv (oneP ps))from z3A k2)
    simp only[zE]at k3
    rw[k3]at m1 m2
    exact⟨_,S2,L3,hmap _ _ us k1,m1,m2⟩
  obtain⟨v,S2,L2,hv1,hv2,hv3⟩:=key
  have hR:∃ v' S' L',Ending.returned v= .returned v' /\Inv (hand L ow w) S S' L' ow' w' /\VA S' L' ow' v' r:=⟨v,S2,L2,rfl,hv2,hv3⟩
  rcases hx with e' | e' <;>rw[e']<;>exact⟨hs1.defers,v,hv1,hR⟩
 cases hsc:fi.scan with
 |none =>
  have h2' :fn.body=some fi.code:=by rw[h2];simp only[FnI.whole,hsc]
  refine calls_of_wp h1 h2' (zGw hT hcall hlp (w0:=hand L ow w) (S0:=S) fi.code hcode ⟨zIs 0 args,ow⟩ _ (r,ow') _ w _ h hst λ e st' a' w' hs' hk=> ?_)
  cases e with
  |exit id=>cases hk
  |normal=>simp only[finO,hsc]at hk;exact usual .normal st' a' w' (.inl rfl) hs' hk
  |ret=>exact usual .ret st' a' w' (.inr rfl) hs' hk
 |some s =>
  obtain⟨n,m,B⟩:=s
  have h2' :fn.body=some (appN n fi.code B):=by rw[h2];simp only[FnI.whole,hsc]
  obtain⟨rr,hres,hB⟩:=hscan n m B hsc
  refine calls_of_wp h1 h2' (zZD hT hcall hlp (w0:=hand L ow w) (S0:=S) n fi.code hcode ⟨zIs 0 args,ow⟩ _ (r,ow') _ w _ h hst (λ e st' a' w' hne hs' hk=> ?_) λ st' a' w' hs' hk=> ?_)
  ·cases e with
   |exit id=>cases hk
   |normal=>exact absurd rfl hne
   |ret=>exact usual .ret st' a' w' (.inr rfl) hs' hk
  ·simp only[finO,hsc]at hk
   cases raw with
   |true=>cases hk
   |false =>
   simp only[zC]at hk
   obtain⟨h0,hk⟩:=bif_some hk
   obtain⟨p,hp,hk⟩:=zJ.1 hk
   simp only[zE]at hk
   obtain⟨S1,L1,hs1⟩:=hs'
   unfold zY4 at hp
   have hvm:=hs1.frs m
   split at hp
   ·rename_i o hg
    rw[hg]at hvm
    split at hp
    ·rename_i sl es hob
     obtain⟨z,hz,hp⟩:=zJ.1 hp
     simp only[zE]at hp
     subst hp
     obtain⟨b,hL,hlt,hvm⟩:=hvm
     obtain⟨as,nn,hh,hl,hBo,hkv,_⟩:=hs1.inv.obs o _ _ hob hL
     refine z2x (S:=S1) hT hB hs1.size hvm hh hl hBo.1 hBo.2 (λ j e p he hp=>(hkv j e p he hp).2) hz λ a2 w2 hd hr hbl=> ?_
     have inv2:Inv (hand L ow w) S S1 L1 st'.ow w2:=hs1.inv.grow hbl (Pr.le_refl S1) (λ _ _ _=>rfl) (λ b o v hv=>by
      have h1:=hs1.inv.prot b o v hv
      rw[zCk (hbl.block b (zKq h1))];exact h1)
     obtain⟨L3,m1,m2⟩:=zM8 inv2 hA (show VA S1 L1 st'.ow (.bool z) (.pv (.bool z))from VP.bool z)
     rw[hk]at m1 m2
     have hrun:(results fn a2.tmps).run P w2= .ok (.bool z) w2:=by
      have:=hmap a2.tmps w2 [.bool z] (by rw[hres];simp[resF,hr])
      simpa using this
     exact⟨hd.trans hs1.defers,_,hrun,_,_,_,rfl,m1,m2⟩
    ·cases hp
   ·cases hp
end
end Go.Ab

namespace Go.Ab
variable [GL:Gl]
section
variable {c:Cfg} {call call' :Wf} {own:Hi}
def LpLe(lp lp' :(St->Option (Ex×St))->St->Option (Ex×St)):Prop:=∀ b b' :St->Option (Ex×St),(∀ s x,b s=some x->b' s=some x)->∀ s x,lp b s=some x->lp' b' s=some x
theorem z4H(hc:zIr call call') {f:FuncId} {ps:List PV} {z:PV} (h:wc call f ps=some z):wc call' f ps=some z:=by
 unfold wc at h ⊢
 obtain⟨u,h1,h2⟩:=zJ.1 h
 rw[hc _ _ _ _ _ h1];exact h2
theorem zWL(hc:zIr call call') {raw:Bool} {tm:List (AV×List Ob)} {ow:List Ob} {g:FuncId} {as:List AV} {R:Type} {k:AV->List Ob->Option R} {y:R} (h:zNf call raw tm ow g as k=some y):zNf call' raw tm ow g as k=some y:=by
 unfold zNf at h ⊢
 simp only at h ⊢
 obtain⟨u,h1,h2⟩:=zJ.1 h
 rw[hc _ _ _ _ _ h1];exact h2
theorem zWM(hc:zIr call call') {lk raw:Bool} {tm:List (AV×List Ob)} {ow:List Ob} {g:FuncId} {as:List AV} {R:Type} {k:AV->List Ob->Option R} {y:R} (h:zPz lk call raw tm ow g as k=some y):zPz lk call' raw tm ow g as k=some y:=by
 unfold zPz at h ⊢
 cases lk with
 |false=>exact zWL hc h
 |true =>
  simp only[zA]at h ⊢
  split at h
  ·split at h
   ·rename_i o ver r _ ver' sh xs ho
    try simp only at h ⊢
    try rw[ho]
    try simp only at h ⊢
    cases hv:(ver==ver') with
    |false=>rw[hv]at h;cases h
    |true =>
     rw[hv]at h
     exact zWL hc h
   ·cases h
  ·cases h
theorem z0s(hc:zIr call call') {lk raw:Bool} {tm:List (AV×List Ob)} {ow:List Ob} {f:AV} {as:List AV} {R:Type} {k:AV->List Ob->Option R} {y:R} (h:zKo lk call raw tm ow f as k=some y):zKo lk call' raw tm ow f as k=some y:=by
 unfold zKo at h ⊢
 cases f<;>try exact h
 ·simp only at h ⊢
  obtain⟨u,h1,h2⟩:=zJ.1 h
  rw[h1];exact zWM hc h2
 ·exact zWM hc h
theorem z4I(hc:zIr call call') {o:Oper} {r:Operand->TypeId->AV} {ow:List Ob} {z:AV×List Ob} (h:opD c call own o r ow=some z):opD c call' own o r ow=some z:=by
 unfold opD op1 at h ⊢
 cases hop:o.op<;>rw[hop]at h<;>try exact h
 case makeFunc f fi cs=>cases f<;>exact h
 case next x b=>cases b<;>exact h
 rename_i cl
 obtain⟨ce,args,ats⟩:=cl
 cases ce with
 |builtin b=>cases b<;>exact h
 |invoke x m=>exact h
 |value f =>
  simp only at h ⊢
  try simp only at h ⊢
  cases hop:zIS own o r f args.toList with
  |true =>
   rw[hop]at h
   simp only[zA]at h ⊢
   cases hb:(args.size==ats.size)<;>rw[hb]at h<;>simp only[zA,zC]at h ⊢
   ·cases h
   ·exact z0s hc h
  |false =>
  rw[hop]at h
  simp only[zC]at h ⊢
  obtain⟨p,hp,h⟩:=zBV h
  rw[hp]
  obtain⟨g,hg,h⟩:=zJ.1 h
  simp only[pvOf,hg,zB]
  rw[zDG]at h ⊢
  obtain⟨ps,hps,h⟩:=zJ.1 h
  rw[hps]
  simp only[zB]
  cases hb:(args.size==ats.size)<;>rw[hb]at h<;>simp only[zA,zC]at h ⊢
  ·cases h
  ·obtain⟨u,hu,h⟩:=zJ.1 h
   rw[z4H hc hu]
   exact h
theorem zON(hc:zIr call call') {ops:Array Oper} {R:Type}:∀(rest:List Oper) (st:St) (ts:List Nat) (k k' :St->List Nat->Option R) (y:R),(∀ st ts y,k st ts=some y->k' st ts=some y) ->
 zE6 c call own ops rest st ts k=some y->zE6 c call' own ops rest st ts k' =some y
 | [],st,ts,k,k',y,hk,h=>hk _ _ _ h
 |o::rest,st,ts,k,k',y,hk,h=>by
  have run:∀ fr,(op1 c call own o (λ x t=>ρ fr x t c) st.ow λ a ow' =>zKn c o a λ a' =>zE6 c call own ops rest ⟨putD o.dst a' fr,ow'⟩ (zKb own o (λ x t=>ρ fr x t c)::ts) k)=some y ->
   (op1 c call' own o (λ x t=>ρ fr x t c) st.ow λ a ow' =>zKn c o a λ a' =>zE6 c call' own ops rest ⟨putD o.dst a' fr,ow'⟩ (zKb own o (λ x t=>ρ fr x t c)::ts) k')=some y:=λ fr h=>by
   rw[zRP]at h ⊢
   obtain⟨z,h1,h2⟩:=zJ.1 h
   rw[z4I hc h1]
   exact z0a (k' :=λ a' =>zE6 c call' own ops rest ⟨putD o.dst a' fr,z.2⟩ _ k') h2 λ h3=>zON hc rest _ _ k k' y hk h3
  simp only[zE6]at h ⊢
  cases hg:o.guard with
  |none=>rw[hg]at h;exact run _ h
  |some q =>
   obtain⟨j,want⟩:=q
   rw[hg]at h
   simp only at h ⊢
   cases hd:(ops[j]?).bind (·.dst) with
   |none=>rw[hd]at h;cases h
   |some d =>
    rw[hd]at h
    simp only at h ⊢
    obtain⟨p,hp,h1⟩:=zBV h
    rw[hp]
    obtain⟨x,hx,h2⟩:=zJ.1 h1
    simp only[pvOf,hx,zB]
    cases x with
    |none=>exact zON hc rest _ _ k k' y hk h2
    |some b =>
     simp only at h2 ⊢
     cases b<;>cases want<;>simp only[zA,zC]at h2⊢ <;>first | exact run _ h2 | exact zON hc rest _ _ k k' y hk h2
theorem F_le{lp lp' :(St->Option (Ex×St))->St->Option (Ex×St)} (hc:zIr call call') (hl:LpLe lp lp') {fi:FnI}:∀(x:Code) {R:Type} (st:St) (k k' :Ex->St->Option R) (y:R),(∀ e st y,k e st=some y->k' e st=some y) ->
 F c call lp fi x st k=some y->F c call' lp' fi x st k' =some y
 | .skip,_,st,k,k',y,hk,h=>hk _ _ _ h
 | .exit id,_,st,k,k',y,hk,h=>hk _ _ _ h
 | .ret,_,st,k,k',y,hk,h=>hk _ _ _ h
 | .region id ops draw,_,st,k,k',y,hk,h=>by
  simp only[zGn,zD5,zJM,zGX,zE7,zGo,zGp,zKp]at h ⊢
  refine zON hc _ _ _ _ _ y (λ st' ts y h=> ?_) h
  cases draw with
  |false=>exact hk _ _ _ (by simpa using h)
  |true =>
   simp only[zAH,zC]at h ⊢
   cases hd:zUW fi.own ops ts.reverse<;>rw[hd]at h
   ·cases h
   ·exact hk _ _ _ (by simpa using h)
 | .seq a b,_,st,k,k',y,hk,h=>by
  simp only[zGn,zD5,zJM,zGX,zE7,zGo,zGp,zKp]at h ⊢
  refine F_le hc hl a st _ _ y (λ e st' y h=> ?_) h
  cases e with
  |normal =>
   simp only[seqK]at h ⊢
   unfold zY0 at h ⊢
   split at h<;>exact F_le hc hl b _ k k' y hk h
  |exit id=>exact hk _ _ _ h
  |ret=>exact hk _ _ _ h
 | .cond q a b,_,st,k,k',y,hk,h=>by
  simp only[zGn,zD5,zJM,zGX,zE7,zGo,zGp,zKp]at h ⊢
  obtain⟨p,hp,h1⟩:=zBV h
  obtain⟨z,hz,h2⟩:=zJ.1 h1
  rw[hp]
  simp only[pvOf,hz,zB]
  cases z with
  |true=>exact F_le hc hl a st k k' y hk h2
  |false=>exact F_le hc hl b st k k' y hk h2
 | .block id a,_,st,k,k',y,hk,h=>by
  simp only[zGn,zD5,zJM,zGX,zE7,zGo,zGp,zKp]at h ⊢
  refine F_le hc hl a st _ _ y (λ e st' y h=> ?_) h
  cases e with
  |normal=>exact hk _ _ _ h
  |ret=>exact hk _ _ _ h
  |exit i =>
   simp only[zJL]at h ⊢
   cases hi:(i==id)<;>rw[hi]at h<;>exact hk _ _ _ h
 | .loop a,_,st,k,k',y,hk,h=>by
  simp only[zGn,zD5,zJM,zGX,zE7,zGo,zGp,zKp,zUX]at h ⊢
  obtain⟨x,h1,h2⟩:=zJ.1 h
  rw[hl _ _ (λ s x hs=>F_le hc hl a s _ _ x (λ e st' y h=>h) hs) _ _ h1]
  exact hk _ _ _ h2
 | .label ..,_,_,_,_,_,_,h=>by rw[zY1]at h;cases h
 | .goto ..,_,_,_,_,_,_,h=>by rw[z2G]at h;cases h
 | .scope ..,_,_,_,_,_,_,h=>by rw[zY2]at h;cases h
 | .refuse ..,_,_,_,_,_,_,h=>by rw[zVs]at h;cases h
 | .rangeFunc ..,_,_,_,_,_,_,h=>by rw[zY3]at h;cases h
theorem zOO{lp lp' :(St->Option (Ex×St))->St->Option (Ex×St)} (hc:zIr call call') (hl:LpLe lp lp') {fi:FnI} {raw:Bool} {args:List AV} {ow:List Ob} {r:AV×List Ob} (h:bodyO c call lp fi raw args ow=some r):bodyO c call' lp' fi raw args ow=some r:=by
 unfold bodyO at h ⊢
 cases hn:(args.length==fi.np)<;>rw[hn]at h<;>simp only[zA,zC]at h ⊢
 ·cases h
 ·exact F_le hc hl _ _ _ _ _ (λ _ _ _ h=>h) h
end
theorem zSv{b:St->Option (Ex×St)} {x:Ex×St}:∀(n:Nat) {s:St},iter n b s=some x->iter (n+1) b s=some x
 | 0,s,h=>by cases h
 |n+1,s,h=>by
  simp only[iter]at h ⊢
  obtain⟨z,h1,h2⟩:=zJ.1 h
  rw[h1]
  simp only[zB]
  obtain⟨e,s'⟩:=z
  cases e with
  |normal=>exact zSv n h2
  |exit id=>exact h2
  |ret=>exact h2
theorem zZE{b:St->Option (Ex×St)} {x:Ex×St} {s:St} {n m:Nat} (hnm:n<=m) (h:iter n b s=some x):iter m b s=some x:=by
 induction hnm with
 |refl=>exact h
 |step _ ih=>exact zSv _ ih
theorem z0t{b:St->Option (Ex×St)} {x y:Ex×St} {s:St} {n m:Nat} (h:iter n b s=some x) (k:iter m b s=some y):x=y:=by
 have h1:=zZE (Nat.le_max_left n m) h
 have h2:=zZE (Nat.le_max_right n m) k
 rw[h1]at h2
 exact Option.some.inj h2
theorem zUn{b b' :St->Option (Ex×St)} (hb:∀ s x,b s=some x->b' s=some x) {x:Ex×St}:∀(n:Nat) {s:St},iter n b s=some x->iter n b' s=some x
 | 0,s,h=>by cases h
 |n+1,s,h=>by
  simp only[iter]at h ⊢
  obtain⟨z,h1,h2⟩:=zJ.1 h
  rw[hb _ _ h1]
  simp only[zB]
  obtain⟨e,s'⟩:=z
  cases e with
  |normal=>exact zUn hb n h2
  |exit id=>exact h2
  |ret=>exact h2
open Classical in
def lpw(b:St->Option (Ex×St)) (s:St):Option (Ex×St):=if h:∃ x n,iter n b s=some x then some (Classical.choose h)else none
theorem zQf{b:St->Option (Ex×St)} {s:St} {x:Ex×St} {n:Nat} (h:iter n b s=some x):lpw b s=some x:=by
 have hx:∃ x n,iter n b s=some x:=⟨x,n,h⟩
 unfold lpw
 rw[dif_pos hx]
 obtain⟨m,hm⟩:=Classical.choose_spec hx
 exact congrArg some (z0t hm h)
theorem zNU:LpOK lpw:=λ b s x h=>by
 unfold lpw at h
 split at h
 ·rename_i hx
  obtain⟨m,hm⟩:=Classical.choose_spec hx
  cases h
  exact⟨m,hm⟩
 ·cases h
theorem zZF:LpLe lpw lpw:=λ b b' hb s x h=>by
 obtain⟨n,hn⟩:=zNU b s x h
 exact zQf (zUn hb n hn)
theorem z4J(b:St->Option (Ex×St)) (s:St):lpw b s=(b s).bind λ x=>match x.1 with | .normal=>lpw b x.2 | e=>some (e,x.2):=by
 apply Option.ext
 intro x
 constructor
 ·intro h
  obtain⟨n,hn⟩:=zNU b s x h
  cases n with
  |zero=>cases hn
  |succ n =>
   simp only[iter]at hn
   obtain⟨z,h1,h2⟩:=zJ.1 hn
   rw[h1]
   simp only[zB]
   obtain⟨e,s'⟩:=z
   cases e with
   |normal=>exact zQf h2
   |exit id=>exact h2
   |ret=>exact h2
 ·intro h
  obtain⟨z,h1,h2⟩:=zJ.1 h
  obtain⟨e,s'⟩:=z
  cases e with
  |normal =>
   obtain⟨n,hn⟩:=zNU b s' x h2
   exact zQf (n:=n+1) (by simp only[iter,h1,zB];exact hn)
  |exit id=>exact zQf (n:=1) (by simp only[iter,h1,zB];exact h2)
  |ret=>exact zQf (n:=1) (by simp only[iter,h1,zB];exact h2)
inductive Ev (c:Cfg):FuncId->Bool->List AV->List Ob->AV×List Ob->Prop
 |ext (f:FuncId) (g:ExtF) (call:Wf) (raw:Bool) (args:List AV) (ow:List Ob) (r:AV×List Ob) (he:c.ext f=some g) (hc:∀ g raw a ow s,call g raw a ow=some s->Ev c g raw a ow s) (h:g.g call raw args ow=some r):Ev c f raw args ow r
 |mk (f:FuncId) (fi:FnI) (call:Wf) (raw:Bool) (args:List AV) (ow:List Ob) (r:AV×List Ob) (he:c.ext f=none) (hf:c.fn f=some fi) (hc:∀ g raw a ow s,call g raw a ow=some s->Ev c g raw a ow s) (h:bodyO c call lpw fi raw args ow=some r):Ev c f raw args ow r
def both(call call' :Wf):Wf:=λ g raw a ow=>match call g raw a ow with | some s=>some s | none=>call' g raw a ow
theorem z2L{call call' :Wf}:zIr call (both call call'):=λ g raw a ow s hs=>by simp only[both,hs]
theorem Ev.det{c:Cfg} {f:FuncId} {raw:Bool} {args:List AV} {ow:List Ob} {r:AV×List Ob} (h:Ev c f raw args ow r):∀{r'},Ev c f raw args ow r' ->r=r' :=by
 have both_r:∀(call call' :Wf),(∀ g raw a ow s,call g raw a ow=some s->∀{r'},Ev c g raw a ow r' ->s=r')->(∀ g raw a ow s,call' g raw a ow=some s->Ev c g raw a ow s)->zIr call' (both call call'):=λ call call' ih hc' g raw a ow s hs=>by
  simp only[both]
  cases hx:call g raw a ow with
  |none=>exact hs
  |some s' =>exact congrArg some (ih g raw a ow s' hx (hc' g raw a ow s hs))
 induction h with
 |ext f g call raw args ow r he hc h ih =>
  intro r' h'
  cases h' with
  |ext _ g' call' _ _ _ _ he' hc' h' =>
   rw[he]at he';cases he'
   have k1:=g.mono _ (both call call') _ _ _ _ z2L h
   have k2:=g.mono _ _ _ _ _ _ (both_r call call' ih hc') h'
   rw[k1]at k2;exact Option.some.inj k2
  |mk _ fi' call' _ _ _ _ he' =>rw[he]at he';cases he'
 |mk f fi call raw args ow r he hf hc h ih =>
  intro r' h'
  cases h' with
  |ext _ g' call' _ _ _ _ he' hc' h' =>rw[he]at he';cases he'
  |mk _ fi' call' _ _ _ _ he' hf' hc' h' =>
   rw[hf]at hf';cases hf'
   have k1:=zOO (z2L (call' :=call')) zZF h
   have k2:=zOO (both_r call call' ih hc') zZF h'
   rw[k1]at k2
   exact Option.some.inj k2
open Classical in
def evw(c:Cfg):Wf:=λ f raw args ow=>if h:∃ r,Ev c f raw args ow r then some (Classical.choose h)else none
theorem zIZ{c:Cfg} {f:FuncId} {raw:Bool} {args:List AV} {ow:List Ob} {r:AV×List Ob}:evw c f raw args ow=some r↔Ev c f raw args ow r:=by
 unfold evw
 constructor
 ·intro h
  split at h
  ·rename_i hx;cases h;exact Classical.choose_spec hx
  ·cases h
 ·intro h
  have hx:∃ r,Ev c f raw args ow r:=⟨r,h⟩
  rw[dif_pos hx]
  exact congrArg some (Ev.det (Classical.choose_spec hx) h)
def zNk(P:Program) (f:FuncId) (g:ExtF):Prop:=∀ call,CallOK P call->∀ raw args ow r ow',g.g call raw args ow=some (r,ow')->Valid P f args ow r ow'
theorem zSw{P:Program} {c:Cfg} (hT:TyOK P c) (hfn:∀ f fi,c.fn f=some fi->FnOK P c f fi) (hext:∀ f g,c.ext f=some g->zNk P f g):CallOK P (evw c):=by
 have key:∀ f raw args ow r,Ev c f raw args ow r->Valid P f args ow r.1 r.2:=λ f raw args ow r h=>by
  induction h with
  |ext f g call raw args ow r he hc h ih=>exact hext f g he call (λ g raw a ow s ow' hs=>ih g raw a ow (s,ow') hs) raw args ow r.1 r.2 h
  |mk f fi call raw args ow r he hf hc h ih=>exact zIC hT (λ g raw a ow s ow' hs=>ih g raw a ow (s,ow') hs) zNU (hfn f fi hf) h
 exact λ f raw args ow r ow' h=>key f raw args ow (r,ow') (zIZ.1 h)
end Go.Ab

namespace Go.Ab
variable [GL:Gl]
def z3B:Value->AV->Bool
 | .int k n,.pv (.int k' m)=>decide (k=k')&&decide (n=m)
 | .bool b,.pv (.bool b')=>b==b'
 | .string s,.pv (.str s')=>s.size==0&&s'.size==0
 | .slice none 0 0,.nil _=>true
 | .nilFunc,.pv .nilfn=>true
 | .pointer none,.pv (.con (.pointer none))=>true
 | .nilIface,.pv (.con .nilIface)=>true
 | .map none,.pv (.con (.map none))=>true
 |_,_=>false
theorem zZG{s s' :ByteArray} (h:(s.size==0&&s'.size==0)=true):s=s' :=by
 simp only[zF,beq_iff_eq]at h
 obtain⟨⟨d⟩⟩:=s
 obtain⟨⟨d'⟩⟩:=s'
 have h1:d.length=0:=h.1
 have h2:d'.length=0:=h.2
 rw[zCJ]at h1 h2
 rw[h1,h2]
theorem z0u{v:Value} {a:AV} (h:z3B v a=true):a.okSh 0=true/\∀ S L ow,VA1 S L ow v a:=by
 unfold z3B at h
 split at h
 ·simp only[zF,zU]at h
  obtain⟨rfl,rfl⟩:=h
  exact⟨rfl,λ S L ow=>VP.int _ _⟩
 ·have e:=beq_iff_eq.1 h;subst e
  exact⟨rfl,λ S L ow=>VP.bool _⟩
 ·have e:=zZG h;subst e
  exact⟨rfl,λ S L ow=>VP.str _⟩
 ·exact⟨rfl,λ S L ow=>⟨none,rfl⟩⟩
 ·exact⟨rfl,λ S L ow=>VP.nilfn⟩
 ·exact⟨rfl,λ S L ow=>VP.con _ rfl⟩
 ·exact⟨rfl,λ S L ow=>VP.con _ rfl⟩
 ·exact⟨rfl,λ S L ow=>VP.con _ rfl⟩
 ·cases h
def zWN:List Value->List AV->Bool
 | [],[]=>true
 |v::vs,a::as=>v.oneCell' &&z3B v a&&zWN vs as
 |_,_=>false
theorem zSx:∀{vs:List Value} {as:List AV},zWN vs as=true->vs.length=as.length/\(∀ x∈vs,x.oneCell' =true)/\∀(j:Nat) (x:Value) (a:AV),vs[j]? =some x->as[j]? =some a->a.okSh 0=true/\∀ S L ow,VA1 S L ow x a
 | [],[],_=>⟨rfl,by simp,λ j x a h=>by simp at h⟩
 |v::vs,a::as,h=>by
  simp only[zWN,zF]at h
  obtain⟨h1,h2,h3⟩:=zSx h.2
  refine⟨by simp[h1],λ x hx=> ?_,λ j x b hx hb=> ?_⟩
  ·rcases zAE.1 hx with rfl | hx
   ·exact h.1.1
   ·exact h2 x hx
  ·cases j with
   |zero =>
    simp only[zAS,zE]at hx hb
    subst hx;subst hb
    exact z0u h.1.2
   |succ j=>exact h3 j x b (by simpa using hx) (by simpa using hb)
 | [],_::_,h=>by cases h
 |_::_,[],h=>by cases h
def z2M:Value->Bool
 | .agg _=>true
 |_=>false
def zUo(sh:Nat) (z:Value) (cs:List AV):Bool :=
 zWN z.cells.toList cs&&cs.length==szOf sh&&(if sh=0 then z.oneCell' else z2M z)
theorem zX6{sh:Nat} {z:Value} {cs:List AV} (h:zUo sh z cs=true):zKf sh z cs:=by
 unfold zUo at h
 simp only[zF,beq_iff_eq]at h
 obtain⟨⟨h1,h2⟩,h3⟩:=h
 obtain⟨k1,k2,k3⟩:=zSx h1
 refine⟨by simpa using k1,h2,λ e=>by simpa [e]using h3,λ e=> ?_,λ x hx=>k2 x (by simpa using hx),λ j x a hx ha=>k3 j x a (by simpa using hx) ha⟩
 rw[if_neg e]at h3
 cases z<;>simp[z2M]at h3
 exact⟨_,rfl⟩
def zZH:TypeDesc->Bool
 | .struct _=>false
 | .array _ _=>false
 |_=>true
def tyB(P:Program) (c:Cfg) (t:TypeId):Bool :=
 match (c.at_ t).k with
 | .other=>true
 |k =>
  (match P.info? t with
  |some i=>i.size==szOf (c.sh t)&&i.bytes==(c.at_ t).by_&&decide (0<szOf (c.sh t))&&(match i.zero with | some z=>zUo (c.sh t) z (c.at_ t).zero | none=>false)
  |none=>false) &&
  (if c.sh t=0 then true else !(P.eqGuardType P.depth t)) &&
  match k,P.underlying t with
  | .bool,some .bool=>true
  | .int k,some (.int k')=>decide (k=k')
  | .str,some .string=>true
  | .slice e,some (.slice e')=>e==e' &&c.known e
  | .arr n e,some (.array n' e')=>n==n' &&e==e' &&c.known e
  | .struct fs,some (.struct fds)=>fds.toList.map (λ f=>(f.type,f.offset))==fs&&fds.toList.all (λ f=> !(f.name== "_"))&&fs.all (λ f=>c.known f.1&&decide (f.2+szOf (c.sh f.1)<=(c.at_ t).sz))&& !(P.stoodInHeld t)
  | .map a b,some (.map a' b')=>a==a' &&b==b' &&c.known a&&c.known b
  | .scalar,some d=>zZH d
  |_,_=>false
theorem z0v{c:Cfg} {t:TypeId} (h:c.ty.length<=t):(c.at_ t).k= .other:=by
 unfold Cfg.at_
 rw[zA0,zGZ h]
 rfl
def tysB(P:Program) (c:Cfg):Bool:=P.follows .mixedOrders&&(List.range c.ty.length).all λ t=>tyB P c t
theorem tysB_ok{P:Program} {c:Cfg} (h:tysB P c=true):TyOK P c:=by
 simp only[tysB,zF]at h
 obtain⟨hm,h⟩:=h
 have one:∀ t,tyB P c t=true:=λ t=>by
  rcases Nat.lt_or_ge t c.ty.length with hl | hl
  ·exact zAF.1 h t (by simpa using hl)
  ·unfold tyB;rw[z0v hl]
 refine⟨λ t=> ?_,λ t hk=> ?_,λ t fs hk=> ?_,λ t hs=> ?_,hm⟩
 ·have:=one t
  unfold tyB at this
  cases hk:(c.at_ t).k<;>rw[hk]at this<;>simp only at this ⊢
  all_goals
   simp only[zF]at this
   have h3:=this.2
   clear this
   cases hu:P.underlying t with
   |none=>rw[hu]at h3;simp at h3
   |some d =>
    rw[hu]at h3
    cases d<;>simp[zZH]at h3⊢ <;>first
     |done
     |exact h3.symm
     |exact⟨h3.1.symm,h3.2⟩
     |exact⟨⟨h3.1.1.symm,h3.1.2.symm⟩,h3.2⟩
     |exact⟨⟨h3.1.1.1.symm,h3.1.1.2.symm⟩,h3.1.2,h3.2⟩
     |(obtain⟨⟨⟨h4,h5⟩,h6⟩,h7⟩:=h3
       refine⟨h4,λ f hf=> ?_,h6⟩
       obtain⟨i,hi,rfl⟩:=Array.mem_iff_getElem.1 hf
       exact h5 i hi)
 ·have:=one t
  unfold tyB at this
  unfold Cfg.known at hk
  cases hkk:(c.at_ t).k<;>rw[hkk]at this hk<;>simp only at this hk
  case other=>cases hk
  all_goals
   simp only[zF]at this
   obtain⟨⟨h1,_⟩,_⟩:=this
   cases hi:P.info? t with
   |none=>rw[hi]at h1;cases h1
   |some i =>
    rw[hi]at h1
    simp only[zF,beq_iff_eq,zU]at h1
    obtain⟨⟨⟨k1,k2⟩,k3⟩,k4⟩:=h1
    cases hz:i.zero with
    |none=>rw[hz]at k4;cases k4
    |some z=>rw[hz]at k4;exact⟨i,rfl,k1,k2,k3,z,hz,zX6 k4⟩
 ·have:=one t
  unfold tyB at this
  rw[hk]at this
  simp only[zF]at this
  have h3:=this.2
  cases hu:P.underlying t with
  |none=>rw[hu]at h3;cases h3
  |some d =>
   rw[hu]at h3
   cases d<;>simp only at h3<;>try (cases h3;done)
   simp only[zF,Bool.not_eq_true']at h3
   exact h3.2
 ·have:=one t
  unfold tyB at this
  cases hkk:(c.at_ t).k<;>rw[hkk]at this<;>simp only at this
  case other=>exact absurd (by unfold Cfg.sh;rw[hkk]) hs
  all_goals
   simp only[zF,if_neg hs,Bool.not_eq_true']at this
   exact this.1.2
structure Hint where
 np:Nat
 own:Hi:={}
 lives:List (Nat×List Nat):=[]
 outs:List (Nat×List Nat):=[]
 seals:List (Nat×List Nat):=[]
 joins:List (Nat×List Nat):=[]
def mkFn(fn:Func) (h:Hint):FnI:=⟨fn.body.getD .skip,fn.results.toList,h.np,fn.ntmps,h.own,h.lives,h.outs,h.seals,h.joins,none⟩
def fnB(fn:Func):Bool:=fn.body.isSome&& !(fn.name== "runtime.NumGoroutine")&&zFy fn.ntmps (fn.body.getD .skip)
theorem zO{P:Program} {c:Cfg} {f:FuncId} {fn:Func} {h:Hint} (hf:P.funcs[f]? =some fn) (hb:fnB fn=true):FnOK P c f (mkFn fn h):=by
 simp only[fnB,zF,Bool.not_eq_true']at hb
 obtain⟨⟨h1,h2⟩,h3⟩:=hb
 refine⟨⟨fn,hf,?_,by simp[mkFn],rfl,h2⟩,h3,λ n m B h=>by cases h⟩
 cases hh:fn.body with
 |none=>rw[hh]at h1;cases h1
 |some b=>simp[mkFn,hh,FnI.whole]
def zQD:Nat->Code->Code×Code
 | 0,.seq a b=>(a,b)
 |n+1,.seq a b=>(.seq a (zQD n b).1,(zQD n b).2)
 |_,x=>(x,.skip)
def z3C:Nat->Code->Bool
 | 0,.seq _ _=>true
 |n+1,.seq _ b=>z3C n b
 |_,_=>false
theorem zZI:∀(n:Nat) (x:Code),z3C n x=true->appN n (zQD n x).1 (zQD n x).2=x
 | 0,.seq a b,_=>by simp[zQD,appN]
 |n+1,.seq a b,h=>by simp only[zQD,appN];rw[zZI n b h]
 | 0,.skip,h=>by cases h
 |n+1,.skip,h=>by cases h
 | 0,.region ..,h=>by cases h
 |n+1,.region ..,h=>by cases h
 | 0,.cond ..,h=>by cases h
 |n+1,.cond ..,h=>by cases h
 | 0,.block ..,h=>by cases h
 |n+1,.block ..,h=>by cases h
 | 0,.loop ..,h=>by cases h
 |n+1,.loop ..,h=>by cases h
 | 0,.rangeFunc ..,h=>by cases h
 |n+1,.rangeFunc ..,h=>by cases h
 | 0,.exit ..,h=>by cases h
 |n+1,.exit ..,h=>by cases h
 | 0,.scope ..,h=>by cases h
 |n+1,.scope ..,h=>by cases h
 | 0,.label ..,h=>by cases h
 |n+1,.label ..,h=>by cases h
 | 0,.goto ..,h=>by cases h
 |n+1,.goto ..,h=>by cases h
 | 0,.ret,h=>by cases h
 |n+1,.ret,h=>by cases h
 | 0,.refuse ..,h=>by cases h
 |n+1,.refuse ..,h=>by cases h
def zX7(fn:Func) (h:Hint) (n m:Nat):FnI:=⟨(zQD n (fn.body.getD .skip)).1,fn.results.toList,h.np,fn.ntmps,h.own,h.lives,h.outs,h.seals,h.joins,some (n,m,(zQD n (fn.body.getD .skip)).2)⟩
def fnSB(c:Cfg) (fn:Func) (n m r:Nat):Bool:=fn.body.isSome&& !(fn.name== "runtime.NumGoroutine")&&zFy fn.ntmps (zQD n (fn.body.getD .skip)).1&&z3C n (fn.body.getD .skip)&&z0o c fn.ntmps m r (zQD n (fn.body.getD .skip)).2
theorem z3D{P:Program} {c:Cfg} {f:FuncId} {fn:Func} {h:Hint} {n m r:Nat} (hf:P.funcs[f]? =some fn) (hr:fn.results.toList=[.tmp r]) (hb:fnSB c fn n m r=true):FnOK P c f (zX7 fn h n m):=by
 simp only[fnSB,zF,Bool.not_eq_true']at hb
 obtain⟨⟨⟨⟨h1,h2⟩,h3⟩,h4⟩,h5⟩:=hb
 refine⟨⟨fn,hf,?_,by simp[zX7],rfl,h2⟩,h3,λ n' m' B h=> ?_⟩
 ·cases hh:fn.body with
  |none=>rw[hh]at h1;cases h1
  |some b =>
   rw[hh]at h4
   simp only[FnI.whole,zX7,hh,Option.getD_some]
   rw[zZI n b h4]
 ·simp only[zX7,zE,zAl]at h
  obtain⟨rfl,rfl,rfl⟩:=h
  exact⟨r,by simp only[zX7];exact hr,h5⟩
def z0w:List (Nat×FnI)->Nat->Option FnI
 | [],_=>none
 |(a,i)::r,n=>bif a==n then some i else z0w r n
def AllF(P:Program) (c:Cfg):List (Nat×FnI)->Prop
 | []=>True
 |x::r=>FnOK P c x.1 x.2/\AllF P c r
theorem zPC{P:Program} {c:Cfg}:∀{tab:List (Nat×FnI)},AllF P c tab->∀ f fi,z0w tab f=some fi->FnOK P c f fi
 | [],_,f,fi,h=>by cases h
 |(a,i)::r,hA,f,fi,h=>by
  simp only[z0w]at h
  cases e:(a==f) with
  |true =>
   rw[e]at h
   have e2:=beq_iff_eq.1 e;subst e2
   simp only[zA,zE]at h
   subst h
   exact hA.1
  |false=>rw[e]at h;exact zPC hA.2 f fi h
end Go.Ab
