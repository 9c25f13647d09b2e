/- Part 15 of the proof: an abstract machine that runs the program's code over plain values, its soundness, and what the functions tell of plain values. Conditions: those in each theorem. -/
import Derived.Test.YtgebkpchpliahaaGreatDoorA13
import Derived.Carry
set_option linter.unusedSectionVars false
set_option linter.unusedVariables false
set_option linter.unusedSimpArgs false
noncomputable section
namespace Go.Ab
open Go.RowKit (Below)
variable [GL:Gl]
section
variable {c:Cfg} {t e:TypeId} {p:PV}
theorem Typed.int_inv{k:IntKind} (h:Typed c t p) (hk:(c.at_ t).k= .int k):∃ n,p= .int k n/\(Lit.int k n).wf=true:=by
 cases h with
 |int t k' n h hw=>rw[hk]at h;cases h;exact⟨n,rfl,hw⟩
 |bool t b h=>rw[hk]at h;cases h
 |str t s h=>rw[hk]at h;cases h
 |slice t e xs h=>rw[hk]at h;cases h
 |struct t fs ps h=>rw[hk]at h;cases h
 |arr t e n ps h=>rw[hk]at h;cases h
theorem Typed.slice_inv(h:Typed c t p) (hk:(c.at_ t).k= .slice e):∃ xs,p= .slice (c.sh e) xs/\xs.length<=maxLen/\∀ x∈xs,Typed c e x:=by
 cases h with
 |int t k' n h hw=>rw[hk]at h;cases h
 |bool t b h=>rw[hk]at h;cases h
 |str t s h=>rw[hk]at h;cases h
 |slice t e xs h hl hx=>rw[hk]at h;cases h;exact⟨xs,rfl,hl,hx⟩
 |struct t fs ps h=>rw[hk]at h;cases h
 |arr t e n ps h=>rw[hk]at h;cases h
theorem Typed.arr_inv{n:Nat} (h:Typed c t p) (hk:(c.at_ t).k= .arr n e):∃ ps:List PV,p= .agg (ps.flatMap PV.cells)/\ps.length=n/\∀ x∈ps,Typed c e x:=by
 cases h with
 |int t k' n h hw=>rw[hk]at h;cases h
 |bool t b h=>rw[hk]at h;cases h
 |str t s h=>rw[hk]at h;cases h
 |slice t e xs h=>rw[hk]at h;cases h
 |struct t fs ps h=>rw[hk]at h;cases h
 |arr t e n ps h hl hx=>rw[hk]at h;cases h;exact⟨ps,rfl,hl,hx⟩
def zQi(c:Cfg):List TypeId->List PV->Prop
 | [],[]=>True
 |t::ts,p::ps=>Typed c t p/\zQi c ts ps
 |_,_=>False
theorem zTS{c:Cfg}:∀{fs:List (TypeId×Nat)} {ps:List PV},ps.length=fs.length->(∀(i:Nat) (f:TypeId×Nat) (p:PV),fs[i]? =some f->ps[i]? =some p->Typed c f.1 p)->zQi c (fs.map (·.1)) ps
 | [],[],_,_=>trivial
 | [],_::_,h,_=>by simp at h
 |_::_,[],h,_=>by simp at h
 |f::fs,p::ps,h,k=>⟨k 0 f p rfl rfl,zTS (by simpa using h) λ i f p hf hp=>k (i+1) f p (by simpa using hf) (by simpa using hp)⟩
theorem Typed.struct_inv{fs:List (TypeId×Nat)} (h:Typed c t p) (hk:(c.at_ t).k= .struct fs):∃ ps:List PV,p= .agg (ps.flatMap PV.cells)/\zQi c (fs.map (·.1)) ps:=by
 cases h with
 |int t k' n h hw=>rw[hk]at h;cases h
 |bool t b h=>rw[hk]at h;cases h
 |str t s h=>rw[hk]at h;cases h
 |slice t e xs h=>rw[hk]at h;cases h
 |struct t fs ps h hl hp=>rw[hk]at h;cases h;exact⟨ps,rfl,zTS hl hp⟩
 |arr t e n ps h=>rw[hk]at h;cases h
theorem zLJ{a:TypeId} {ps:List PV} (h:zQi c [a] ps):∃ x,ps=[x]/\Typed c a x:=by
 match ps,h with
 | [x],h=>exact⟨x,rfl,h.1⟩
theorem zBy{a:TypeId} {ts:List TypeId} {ps:List PV} (h:zQi c (a::ts) ps):∃ x qs,ps=x::qs/\Typed c a x/\zQi c ts qs:=by
 match ps,h with
 |x::qs,h=>exact⟨x,qs,rfl,h.1,h.2⟩
theorem zIe{α:Type} {Q:α->Prop} {f:α->PV}:∀{xs:List PV},(∀ x∈xs,∃ a,x=f a/\Q a)->∃ l:List α,xs=l.map f/\∀ a∈l,Q a
 | [],_=>⟨[],rfl,by simp⟩
 |x::xs,h=>by
  obtain⟨a,rfl,ha⟩:=h x (by simp)
  obtain⟨l,rfl,hl⟩:=zIe (xs:=xs) (λ y hy=>h y (List.mem_cons_of_mem _ hy))
  exact⟨a::l,rfl,by simpa using⟨ha,hl⟩⟩
end
end Go.Ab

namespace Go.Cf
open Go Go.Ab
theorem zII{p:PV} (h:Typed cfg zMj p):∃ n:Int,p= .int .i64 n/\I64 n:=by
 obtain⟨n,rfl,hw⟩:=h.int_inv (k:= .i64) (by kernel_rfl)
 exact⟨n,rfl,z54 hw⟩
end Go.Cf

namespace Go.Cf
open Go Go.Ab
set_option maxRecDepth 100000
def zBs(a b c d:List PV) (e:Int) (f g:List PV) (h i j k l:Int) (m n o:List PV):Option PV:=(jN_ fi3) [1,1,1,1,1] (St.mk [(4,.pv (.imm 2 (.agg [.slice 3 a]) 0)),(5,.pv (.imm 2 (.agg [.slice 0 b]) 0)),(6,.pv (.imm 7 (.agg [.slice 0 c,.slice 6 d,.int .i64 e,.slice 0 f,.slice 0 g,.int .i64 h]) 0)),(7,.pv (.imm 6 (.agg [.int .i64 i,.int .i64 j,.int .i64 k,.int .i64 l,.slice 6 m]) 0)),(11,.own 0 0)] [.var false 3 (.pv (.agg [.slice 0 n,.slice 0 o]))])
theorem zCY(f d a g:List PV) (h:Int) (i j:List PV) (k l b n u:Int) (m e c:List PV):zBs f d a g h i j k l b n u m e c =
 bif l==0 then bif decide (GE.ge b 0)then bif decide (b<(a.length:Int))then bif decide (0<=b)then a[Int.toNat b]?.bind λ v=>zA2 v λ o=>bif decide (0<=o)then d[Int.toNat o]?.bind λ w=>c_s0 w λ x=>some (.bool (decide ((c.length:Int)<=(x.length:Int))))else none else none else some (.bool false)else some (.bool false)else m[0]?.bind λ y=>zG y λ z A B C D=>(wc W zFj [.agg [.slice 3 f],.agg [.slice 0 d],.agg [.slice 0 a,.slice 6 g,.int .i64 h,.slice 0 i,.slice 0 j,.int .i64 k],.agg [.int .i64 z,.int .i64 A,.int .i64 B,.int .i64 C,.slice 6 D]]).bind λ p=>p.asTup.bind λ E=>E[0]?.bind λ F=>zAT F λ q r=>p.asTup.bind λ G=>G[1]?.bind λ H=>c_b H λ s=>bif l==4 then bif s then(wc W zKP [.agg [.slice 0 q,.slice 0 r],.agg [.slice 0 e,.slice 0 c]]).bind λ I=>c_b I λ J=>bif J then(wc W zH6 [.agg [.slice 0 e,.slice 0 c],.int .i64 n]).bind λ K=>c_b K λ L=>some (.bool L)else some (.bool false)else some (.bool false)else m[1]?.bind λ M=>zG M λ N O P Q R=>(wc W zFj [.agg [.slice 3 f],.agg [.slice 0 d],.agg [.slice 0 a,.slice 6 g,.int .i64 h,.slice 0 i,.slice 0 j,.int .i64 k],.agg [.int .i64 N,.int .i64 O,.int .i64 P,.int .i64 Q,.slice 6 R]]).bind λ t=>t.asTup.bind λ S=>S[0]?.bind λ T=>zAT T λ U V=>t.asTup.bind λ X=>X[1]?.bind λ Y=>c_b Y λ Z=>bif s then bif Z then bif decide ((c.length:Int)<=(IntKind.wrap .i64 ((r.length:Int)*(V.length:Int):Int)))then some (.bool ((e.length:Int)==(IntKind.wrap .i64 ((q.length:Int)+(U.length:Int):Int))))else some (.bool false)else some (.bool false)else some (.bool false):=((tN_ fi3).join [1,1,1,1,1] _).trans (by kernel_rfl)
theorem zIJ(a b c d:List PV) (e:Int) (f g:List PV) (h i j k l:Int) (m:List PV):wc W zDI [.agg [.slice 3 a],.agg [.slice 0 b],.agg [.slice 0 c,.slice 6 d,.int .i64 e,.slice 0 f,.slice 0 g,.int .i64 h],.agg [.int .i64 i,.int .i64 j,.int .i64 k,.int .i64 l,.slice 6 m]] =
 (wc W zDz []).bind λ s=>c_b s λ n=>(wc W zBX [.agg [.slice 3 a],.agg [.slice 0 b],.agg [.slice 0 c,.slice 6 d,.int .i64 e,.slice 0 f,.slice 0 g,.int .i64 h],.agg [.int .i64 i,.int .i64 j,.int .i64 k,.int .i64 l,.slice 6 m]]).bind λ t=>c_b t λ u=>(wc W zFj [.agg [.slice 3 a],.agg [.slice 0 b],.agg [.slice 0 c,.slice 6 d,.int .i64 e,.slice 0 f,.slice 0 g,.int .i64 h],.agg [.int .i64 i,.int .i64 j,.int .i64 k,.int .i64 l,.slice 6 m]]).bind λ o=>o.asTup.bind λ v=>v[0]?.bind λ w=>zAT w λ x y=>o.asTup.bind λ p=>p[1]?.bind λ q=>c_b q λ r=>bif !n then some (.bool n)else bif !u then some (.bool n)else bif !r then some (.bool n)else zBs a b c d e f g h i j k l m x y:=gA_ (tN_ fi3)
def zE2(i j k l:List PV) (m:Int) (a b:List PV) (c d e f g:Int) (h:List PV):Option PV:=(jN_ fi5) [1,1,1,1] (St.mk [(4,.pv (.imm 2 (.agg [.slice 3 i]) 0)),(5,.pv (.imm 2 (.agg [.slice 0 j]) 0)),(6,.pv (.imm 7 (.agg [.slice 0 k,.slice 6 l,.int .i64 m,.slice 0 a,.slice 0 b,.int .i64 c]) 0)),(7,.pv (.imm 6 (.agg [.int .i64 d,.int .i64 e,.int .i64 f,.int .i64 g,.slice 6 h]) 0))] [])
theorem zDb(j u k l:List PV) (m:Int) (a b:List PV) (c d e f g:Int) (h:List PV):zE2 j u k l m a b c d e f g h =
 (wc W zFj [.agg [.slice 3 j],.agg [.slice 0 u],.agg [.slice 0 k,.slice 6 l,.int .i64 m,.slice 0 a,.slice 0 b,.int .i64 c],.agg [.int .i64 d,.int .i64 e,.int .i64 f,.int .i64 g,.slice 6 h]]).bind λ q=>q.asTup.bind λ v=>v[0]?.bind λ w=>zAT w λ i n=>q.asTup.bind λ x=>x[1]?.bind λ y=>c_b y λ z=>bif !z then some (.bool ((n.length:Int)==0))else(wc W zGz [.agg [.int .i64 d,.int .i64 e,.int .i64 f,.int .i64 g,.slice 6 h]]).bind λ r=>r.asTup.bind λ A=>A[0]?.bind λ B=>zB3 B λ o p=>r.asTup.bind λ C=>C[1]?.bind λ D=>c_b D λ Z=>(wc W zJ0 [.agg [.slice 3 j],.agg [.slice 0 u],.agg [.slice 0 k,.slice 6 l,.int .i64 m,.slice 0 a,.slice 0 b,.int .i64 c],.agg [.int .i64 o,.slice 3 p]]).bind λ s=>s.asTup.bind λ E=>E[0]?.bind λ F=>zAT F λ G H=>s.asTup.bind λ I=>I[1]?.bind λ J=>c_b J λ K=>(wc W zFz [.agg [.int .i64 d,.int .i64 e,.int .i64 f,.int .i64 g,.slice 6 h]]).bind λ L=>zA2 L λ t=>bif K then(wc W zKP [.agg [.slice 0 i,.slice 0 n],.agg [.slice 0 G,.slice 0 H]]).bind λ M=>c_b M λ N=>bif N then bif t==(-1)then(wc W zDK [.agg [.int .i64 o,.slice 3 p]]).bind λ O=>zA2 O λ P=>(wc W zGA [.agg [.slice 3 j],.agg [.slice 0 k,.slice 6 l,.int .i64 m,.slice 0 a,.slice 0 b,.int .i64 c],.int .i64 P]).bind λ Q=>c_s0 Q λ R=>some (.bool ((i.length:Int)==(R.length:Int)))else(wc W zH6 [.agg [.slice 0 i,.slice 0 n],.int .i64 t]).bind λ S=>c_b S λ T=>bif T then(wc W zDK [.agg [.int .i64 o,.slice 3 p]]).bind λ U=>zA2 U λ V=>(wc W zGA [.agg [.slice 3 j],.agg [.slice 0 k,.slice 6 l,.int .i64 m,.slice 0 a,.slice 0 b,.int .i64 c],.int .i64 V]).bind λ X=>c_s0 X λ Y=>some (.bool ((i.length:Int)==(Y.length:Int)))else some (.bool false)else some (.bool false)else some (.bool false):=((tN_ fi5).join [1,1,1,1] _).trans (by kernel_rfl)
theorem zIK(a b c d:List PV) (e:Int) (f g:List PV) (h i j k l:Int) (m:List PV):wc W zDJ [.agg [.slice 3 a],.agg [.slice 0 b],.agg [.slice 0 c,.slice 6 d,.int .i64 e,.slice 0 f,.slice 0 g,.int .i64 h],.agg [.int .i64 i,.int .i64 j,.int .i64 k,.int .i64 l,.slice 6 m]] =
 (wc W zDz []).bind λ o=>c_b o λ n=>(wc W zBX [.agg [.slice 3 a],.agg [.slice 0 b],.agg [.slice 0 c,.slice 6 d,.int .i64 e,.slice 0 f,.slice 0 g,.int .i64 h],.agg [.int .i64 i,.int .i64 j,.int .i64 k,.int .i64 l,.slice 6 m]]).bind λ p=>c_b p λ q=>bif !n then some (.bool n)else bif !q then some (.bool n)else zE2 a b c d e f g h i j k l m:=gA_ (tN_ fi5)
theorem zKc(h a b c:List PV) (d:Int) (e f:List PV) (g i j k l:Int) (m:List PV):wc W zBX [.agg [.slice 3 h],.agg [.slice 0 a],.agg [.slice 0 b,.slice 6 c,.int .i64 d,.slice 0 e,.slice 0 f,.int .i64 g],.agg [.int .i64 i,.int .i64 j,.int .i64 k,.int .i64 l,.slice 6 m]] =
 (wc W zHA [.agg [.slice 3 h],.agg [.slice 0 a],.agg [.slice 0 b,.slice 6 c,.int .i64 d,.slice 0 e,.slice 0 f,.int .i64 g]]).bind λ n=>zA2 n λ o=>bif o==0 then(wc W zEA [.agg [.slice 0 a],.agg [.slice 0 b,.slice 6 c,.int .i64 d,.slice 0 e,.slice 0 f,.int .i64 g]]).bind λ p=>zA2 p λ q=>bif q==0 then(wc W zDC [.agg [.int .i64 i,.int .i64 j,.int .i64 k,.int .i64 l,.slice 6 m],.int .i64 100]).bind λ r=>zA2 r λ s=>some (.bool (decide (s<=100)))else some (.bool false)else some (.bool false):=gA_ (tN_ fi14)
def zN0(i j k l:List PV) (m:Int) (a b:List PV) (c d e f g:Int) (h:List PV):Option PV:=(jN_ fi15) [1,1] (St.mk [(4,.pv (.imm 2 (.agg [.slice 3 i]) 0)),(5,.pv (.imm 2 (.agg [.slice 0 j]) 0)),(6,.pv (.imm 7 (.agg [.slice 0 k,.slice 6 l,.int .i64 m,.slice 0 a,.slice 0 b,.int .i64 c]) 0)),(7,.pv (.imm 6 (.agg [.int .i64 d,.int .i64 e,.int .i64 f,.int .i64 g,.slice 6 h]) 0)),(8,.own 0 0)] [.var false 3 (.agg [AV.nil 0,AV.nil 0])])
theorem zPU(i j k l:List PV) (m:Int) (a b:List PV) (c d e f g:Int) (h:List PV):zN0 i j k l m a b c d e f g h =
 (wc W zAk [.agg [.slice 3 i,.slice 0 j,.slice 0 k,.slice 6 l,.int .i64 m,.slice 0 a,.slice 0 b,.int .i64 c],.agg [.int .i64 d,.int .i64 e,.int .i64 f,.int .i64 g,.slice 6 h]]).bind λ n=>zAT n λ o p=>some (.tup [.agg [.slice 0 o,.slice 0 p],.bool true]):=((tN_ fi15).join [1,1] _).trans (by kernel_rfl)
theorem zXl(a b c d:List PV) (e:Int) (f g:List PV) (h i j k l:Int) (m:List PV):wc W zFj [.agg [.slice 3 a],.agg [.slice 0 b],.agg [.slice 0 c,.slice 6 d,.int .i64 e,.slice 0 f,.slice 0 g,.int .i64 h],.agg [.int .i64 i,.int .i64 j,.int .i64 k,.int .i64 l,.slice 6 m]] =
 (wc W zMe [.agg [.slice 3 a],.agg [.slice 0 c,.slice 6 d,.int .i64 e,.slice 0 f,.slice 0 g,.int .i64 h],.agg [.int .i64 i,.int .i64 j,.int .i64 k,.int .i64 l,.slice 6 m]]).bind λ n=>c_b n λ o=>bif !o then some (.tup [.agg [.slice 0 [],.slice 0 []],.bool false])else(wc W zHB [.agg [.slice 3 a],.agg [.slice 0 b]]).bind λ p=>c_b p λ q=>bif !q then some (.tup [.agg [.slice 0 [],.slice 0 []],.bool false])else zN0 a b c d e f g h i j k l m:=gA_ (tN_ fi15)
def zN1(a b c d:List PV):Option PV:=(jN_ fi16) [1,1] (St.mk [(2,.pv (.imm 3 (.agg [.slice 0 a,.slice 0 b]) 0)),(3,.pv (.imm 3 (.agg [.slice 0 c,.slice 0 d]) 0))] [])
def zHc(e f g a:List PV) (b c:Int) (d:List (PV×PV)):Option PV:=(lN_ fi16) [0,1,1,1,1] 1 (St.mk [(2,.pv (.imm 3 (.agg [.slice 0 e,.slice 0 f]) 0)),(3,.pv (.imm 3 (.agg [.slice 0 g,.slice 0 a]) 0)),(5,AV.mp 0),(27,.pv (.int .i64 b)),(28,.pv (.int .i64 c))] [.map false d])
theorem zPV(b a c d:List PV):zN1 b a c d =
 zHc b a c d (a.length:Int) 0 []:=((tN_ fi16).join [1,1] _).trans (by kernel_rfl)
theorem zJa(i:List PV) (h:List PV) (j:List PV) (c:List PV) (d:Int) (a:Int) (b:List (PV×PV)):zHc i h j c d a b =
 bif decide (a<d)then bif decide (0<=a)then h[Int.toNat a]?.bind λ k=>c_s3 k λ l=>(wc W zKQ [.slice 3 l]).bind λ m=>c_t m λ e=>(zL2 (eqP Cf.cfg (6:Nat) (9:TypeId)) (.str e) b).bind λ n=>(intP BinOp.add (Option.getD n (.int .i64 0)) (.int .i64 1)).bind λ o=>zA2 o λ p=>(mput (eqP Cf.cfg (6:Nat) (9:TypeId)) (.str e) (.int .i64 p) b).bind λ f=>bif decide (0<=a)then c[Int.toNat a]?.bind λ q=>c_s3 q λ r=>(wc W zKQ [.slice 3 r]).bind λ s=>c_t s λ g=>(zL2 (eqP Cf.cfg (6:Nat) (9:TypeId)) (.str g) f).bind λ t=>(intP BinOp.sub (Option.getD t (.int .i64 0)) (.int .i64 1)).bind λ u=>zA2 u λ v=>(mput (eqP Cf.cfg (6:Nat) (9:TypeId)) (.str g) (.int .i64 v) f).bind λ w=>zHc i h j c d (IntKind.wrap .i64 (a+1)) w else none else none else(zS4 b).bind λ x=>some (.bool x):=((tN_ fi16).loop [1,1,1,1,0] 1 _ rfl).trans (by kernel_rfl)
theorem zXm(a b c d:List PV):wc W zKP [.agg [.slice 0 a,.slice 0 b],.agg [.slice 0 c,.slice 0 d]] =
 (wc W zDl [.slice 0 a,.slice 0 c]).bind λ e=>c_b e λ f=>bif !f then some (.bool false)else bif (b.length:Int) != (d.length:Int)then some (.bool false)else zN1 a b c d:=gA_ (tN_ fi16)
theorem zTT(a b:List PV) (c:Int):wc W zH6 [.agg [.slice 0 a,.slice 0 b],.int .i64 c] =
 (wc W zAZ [.slice 0 a,.int .i64 c]).bind λ d=>zA2 d λ e=>(W zC1 false [.pv (.slice 0 b),.fnv zDh [] [.own 0 0]] [.var false 0 (.pv (.int .i64 e))]).bind λ f=>zDE f λ g i=>c_b g λ h=>some (.bool h):=gA_ (tN_ fi17)
theorem zLK(a b c d:List PV) (e:Int) (f g:List PV) (h:Int):wc W zCb [.agg [.slice 3 a],.agg [.slice 0 b],.agg [.slice 0 c,.slice 6 d,.int .i64 e,.slice 0 f,.slice 0 g,.int .i64 h]] =
 (wc W zHC [.agg [.slice 3 a],.agg [.slice 0 c,.slice 6 d,.int .i64 e,.slice 0 f,.slice 0 g,.int .i64 h]]).bind λ i=>zA2 i λ j=>bif j==0 then(wc W zHD [.agg [.slice 0 b]]).bind λ k=>zA2 k λ l=>some (.bool (l==0))else some (.bool false):=gA_ (tN_ fi19)
def zC5(a:List PV) (b:Int):Option PV:=(jN_ fi20) [1,1,1] (St.mk [(2,.pv (.imm 2 (.agg [.slice 0 a]) 0)),(5,.pv (.int .i64 b))] [])
def zC6(a:List PV) (b c:Int):Option PV:=(lN_ fi20) [0,1,0,1,1,1] 0 (St.mk [(2,.pv (.imm 2 (.agg [.slice 0 a]) 0)),(5,.pv (.int .i64 b)),(6,.pv (.int .i64 c))] [])
theorem zHU(a:List PV) (b:Int):zC5 a b =
 zC6 a b 0:=((tN_ fi20).join [1,1,1] _).trans (by kernel_rfl)
theorem zE3(b:List PV) (c a:Int):zC6 b c a =
 bif decide (a<(b.length:Int))then bif decide (0<=a)then b[Int.toNat a]?.bind λ d=>c_s0 d λ e=>bif decide (GT.gt (e.length:Int) c)then some (.int .i64 1)else zC6 b c (IntKind.wrap .i64 (a+1))else none else some (.int .i64 0):=((tN_ fi20).loop [1,1,1,0,1,0] 0 _ rfl).trans (by kernel_rfl)
theorem zJb(a b c:List PV) (d:Int) (e f:List PV) (g:Int):wc W zEA [.agg [.slice 0 a],.agg [.slice 0 b,.slice 6 c,.int .i64 d,.slice 0 e,.slice 0 f,.int .i64 g]] =
 bif decide (GT.gt (b.length:Int) 3)then zC5 a 3 else zC5 a 5:=gA_ (tN_ fi20)
def zLr(c d e:List PV) (f:Int) (g a:List PV) (b:Int):Option PV:=(jN_ fi22) [1,1,1] (St.mk [(2,.pv (.imm 2 (.agg [.slice 3 c]) 0)),(3,.pv (.imm 7 (.agg [.slice 0 d,.slice 6 e,.int .i64 f,.slice 0 g,.slice 0 a,.int .i64 b]) 0))] [])
def zFV(a b:List PV) (c:Int) (d e:List PV) (f:Int) (g h:List PV) (i j:Int):Option PV:=(lN_ fi22) [0,1,0,1,1,1,1] 0 (St.mk [(3,.pv (.imm 7 (.agg [.slice 0 a,.slice 6 b,.int .i64 c,.slice 0 d,.slice 0 e,.int .i64 f]) 0)),(6,.pv (.slice 0 g)),(43,.pv (.slice 6 h)),(44,.pv (.int .i64 i)),(45,.pv (.int .i64 j))] [])
def zEU(a b:List PV) (c:Int) (d e:List PV) (f:Int) (g:Bool):Option PV:=(jN_ fi22) [1,0,1,0,1,1,1,1,1] (St.mk [(3,.pv (.imm 7 (.agg [.slice 0 a,.slice 6 b,.int .i64 c,.slice 0 d,.slice 0 e,.int .i64 f]) 0)),(10,.pv (.bool g))] [])
theorem zNm(g d a:List PV) (e:Int) (f b:List PV) (c:Int):zLr g d a e f b c =
 (wc W zI5 [.agg [.slice 3 g],.agg [.slice 0 d,.slice 6 a,.int .i64 e,.slice 0 f,.slice 0 b,.int .i64 c],.fn zI6 [] []]).bind λ h=>c_s0 h λ i=>zFV d a e f b c i a (a.length:Int) 0:=((tN_ fi22).join [1,1,1] _).trans (by kernel_rfl)
theorem zIv(e f:List PV) (b:Int) (c a:List PV) (d:Int) (g i:List PV) (j h:Int):zFV e f b c a d g i j h =
 bif decide (h<j)then bif decide (0<=h)then i[Int.toNat h]?.bind λ l=>zG l λ m n o p q=>(wc W zI7 [.agg [.int .i64 m,.int .i64 n,.int .i64 o,.int .i64 p,.slice 6 q]]).bind λ r=>c_s0 r λ k=>bif (k.length:Int)==0 then some (.bool false)else(wc W zDi [.slice 0 k,.slice 0 g]).bind λ s=>c_b s λ t=>bif !t then some (.bool false)else zFV e f b c a d g i j (IntKind.wrap .i64 (h+1))else none else bif b==(-1)then bif decide (GE.ge (a.length:Int) 1)then bif decide ((a.length:Int)<=8)then(wc W zJ4 [.slice 0 a]).bind λ u=>c_b u λ v=>bif v then(wc W zDi [.slice 0 a,.slice 0 g]).bind λ w=>c_b w λ x=>zEU e f b c a d x else zEU e f b c a d false else zEU e f b c a d false else zEU e f b c a d false else(wc W zDi [.slice 0 [.int .i64 b],.slice 0 g]).bind λ y=>c_b y λ z=>bif z then bif decide ((c.length:Int)<=4)then(wc W zDi [.slice 0 c,.slice 0 g]).bind λ A=>c_b A λ B=>bif B then bif (a.length:Int)==0 then bif d==(-1)then some (.bool true)else some (.bool (d==b))else some (.bool false)else some (.bool false)else some (.bool false)else some (.bool false):=((tN_ fi22).loop [1,1,1,1,0,1,0] 0 _ rfl).trans (by kernel_rfl)
theorem zNn(e f:List PV) (g:Int) (b c:List PV) (a:Int) (d:Bool):zEU e f g b c a d =
 bif d then bif (b.length:Int)==0 then bif a==(-1)then some (.bool true)else(wc W zB4 [.slice 0 c,.int .i64 a]).bind λ h=>c_b h λ i=>some (.bool i)else some (.bool false)else some (.bool false):=((tN_ fi22).join [1,1,1,1,1,0,1,0,1] _).trans (by kernel_rfl)
theorem zVC(b a c:List PV) (d:Int) (e f:List PV) (g:Int):wc W zGy [.agg [.slice 3 b],.agg [.slice 0 a,.slice 6 c,.int .i64 d,.slice 0 e,.slice 0 f,.int .i64 g]] =
 (wc W zKS [.agg [.slice 3 b]]).bind λ h=>c_b h λ i=>bif !i then some (.bool false)else bif decide ((a.length:Int)<1)then some (.bool false)else bif decide (GT.gt (a.length:Int) 4)then some (.bool false)else(wc W zB8 [.slice 0 a,.fn zI4 [] [.imm 2 (.agg [.slice 3 b]) 0]]).bind λ j=>c_b j λ k=>bif k then some (.bool false)else bif decide (GT.gt (c.length:Int) 6)then some (.bool false)else zLr b a c d e f g:=gA_ (tN_ fi22)
theorem zVD(a b c d:Int) (e:List PV):wc W zGz [.agg [.int .i64 a,.int .i64 b,.int .i64 c,.int .i64 d,.slice 6 e]] =
 (wc W zKT [.agg [.int .i64 a,.int .i64 b,.int .i64 c,.int .i64 d,.slice 6 e]]).bind λ h=>c_b h λ i=>bif !i then some (.tup [.agg [.int .i64 0,.slice 3 []],.bool false])else(wc W zD6 [.agg [.int .i64 a,.int .i64 b,.int .i64 c,.int .i64 d,.slice 6 e]]).bind λ j=>zB3 j λ f g=>(wc W zKU [.agg [.int .i64 f,.slice 3 g]]).bind λ k=>c_b k λ l=>bif !l then some (.tup [.agg [.int .i64 0,.slice 3 []],.bool false])else some (.tup [.agg [.int .i64 f,.slice 3 g],.bool true]):=gA_ (tN_ fi24)
def zKj(j a b c:List PV) (d:Int) (e f:List PV) (g h:Int) (i:List PV):Option PV:=(jN_ fi25) [1,1] (St.mk [(4,.pv (.imm 2 (.agg [.slice 3 j]) 0)),(5,.pv (.imm 2 (.agg [.slice 0 a]) 0)),(6,.pv (.imm 7 (.agg [.slice 0 b,.slice 6 c,.int .i64 d,.slice 0 e,.slice 0 f,.int .i64 g]) 0)),(7,.pv (.imm 3 (.agg [.int .i64 h,.slice 3 i]) 0)),(8,.own 0 0)] [.var false 3 (.agg [AV.nil 0,AV.nil 0])])
theorem zMk(k a b c:List PV) (d:Int) (e f:List PV) (g h:Int) (i:List PV):zKj k a b c d e f g h i =
 (W zJ2 false [.fnv zCx [] [.own 0 0,.pv (.imm 3 (.agg [.int .i64 h,.slice 3 i]) 0)]] [.var false 0 (.fnv zAI [] [.pv (.imm 2 (.agg [.slice 3 k]) 0),.pv (.imm 2 (.agg [.slice 0 a]) 0),.pv (.imm 7 (.agg [.slice 0 b,.slice 6 c,.int .i64 d,.slice 0 e,.slice 0 f,.int .i64 g]) 0),.own 0 0])]).bind λ l=>zK0 l λ j t u v w x y z A=>j.asTup.bind λ m=>m[0]?.bind λ n=>zAT n λ o p=>j.asTup.bind λ q=>q[1]?.bind λ r=>c_b r λ s=>some (.tup [.agg [.slice 0 o,.slice 0 p],.bool s]):=((tN_ fi25).join [1,1] _).trans (by kernel_rfl)
theorem zTU(a e b f:List PV) (g:Int) (h i:List PV) (j c:Int) (d:List PV):wc W zJ0 [.agg [.slice 3 a],.agg [.slice 0 e],.agg [.slice 0 b,.slice 6 f,.int .i64 g,.slice 0 h,.slice 0 i,.int .i64 j],.agg [.int .i64 c,.slice 3 d]] =
 (wc W zGy [.agg [.slice 3 a],.agg [.slice 0 b,.slice 6 f,.int .i64 g,.slice 0 h,.slice 0 i,.int .i64 j]]).bind λ k=>c_b k λ l=>bif !l then some (.tup [.agg [.slice 0 [],.slice 0 []],.bool false])else(wc W zHB [.agg [.slice 3 a],.agg [.slice 0 e]]).bind λ m=>c_b m λ n=>bif !n then some (.tup [.agg [.slice 0 [],.slice 0 []],.bool false])else(wc W zKU [.agg [.int .i64 c,.slice 3 d]]).bind λ o=>c_b o λ p=>bif !p then some (.tup [.agg [.slice 0 [],.slice 0 []],.bool false])else(wc W zDK [.agg [.int .i64 c,.slice 3 d]]).bind λ q=>zA2 q λ r=>bif decide (GT.gt (Int.fdiv r (HPow.hPow (2:Int) (Min.min (Int.toNat (b.length:Int)) 64))) 0)then some (.tup [.agg [.slice 0 [],.slice 0 []],.bool false])else zKj a e b f g h i j c d:=gA_ (tN_ fi25)
def zFw(a b c d:Int) (e:List PV):Option PV:=(lN_ fi26) [0,0,1,1] 1 (St.mk [(1,.own 0 0)] [.var false 6 (.pv (.agg [.int .i64 a,.int .i64 b,.int .i64 c,.int .i64 d,.slice 6 e]))])
def zHs(a:Bool) (b c d e:Int) (f:List PV):Option PV:=(jN_ fi26) [1,0,1,1,1] (St.mk [(1,.own 0 0),(20,.pv (.bool a))] [.var false 6 (.pv (.agg [.int .i64 b,.int .i64 c,.int .i64 d,.int .i64 e,.slice 6 f]))])
theorem zMl(a c d e:Int) (b:List PV):zFw a c d e b =
 bif a==1 then b[0]?.bind λ j=>zG j λ k f g h i=>zFw k f g h i else bif a==4 then zHs true a c d e b else zHs (a==3) a c d e b:=((tN_ fi26).loop [1,1,0,0] 1 _ rfl).trans (by kernel_rfl)
theorem zFl(a:Bool) (c d b e:Int) (f:List PV):zHs a c d b e f =
 bif a then some (.int .i64 b)else some (.int .i64 (-1)):=((tN_ fi26).join [1,1,1,0,1] _).trans (by kernel_rfl)
theorem zTV(a b c d:Int) (e:List PV):wc W zFz [.agg [.int .i64 a,.int .i64 b,.int .i64 c,.int .i64 d,.slice 6 e]] =
 (wc W zKT [.agg [.int .i64 a,.int .i64 b,.int .i64 c,.int .i64 d,.slice 6 e]]).bind λ f=>c_b f λ g=>bif !g then some (.int .i64 (-1))else zFw a b c d e:=gA_ (tN_ fi26)
theorem zTW(a b c:List PV) (d:Int) (e f:List PV) (g h:Int):wc W zGA [.agg [.slice 3 a],.agg [.slice 0 b,.slice 6 c,.int .i64 d,.slice 0 e,.slice 0 f,.int .i64 g],.int .i64 h] =
 (wc W zGy [.agg [.slice 3 a],.agg [.slice 0 b,.slice 6 c,.int .i64 d,.slice 0 e,.slice 0 f,.int .i64 g]]).bind λ i=>c_b i λ j=>bif !j then some (.slice 0 [])else(wc W zI5 [.agg [.slice 3 a],.agg [.slice 0 b,.slice 6 c,.int .i64 d,.slice 0 e,.slice 0 f,.int .i64 g],.fn zFR [.int .i64 h] []]).bind λ k=>c_s0 k λ l=>some (.slice 0 l):=gA_ (tN_ fi27)
theorem zXn(a:Int) (b:List PV):wc W zDK [.agg [.int .i64 a,.slice 3 b]] =
 (wc W zEy [.agg [.int .i64 a,.slice 3 b],.int .i64 4]).bind λ c=>c.asTup.bind λ d=>d[0]?.bind λ e=>zA2 e λ f=>c.asTup.bind λ g=>g[1]?.bind λ h=>c_b h λ i=>bif !i then some (.int .i64 0)else some (.int .i64 f):=gA_ (tN_ fi28)
theorem zVE(a:Int) (b:List PV) (c:Int) (d:List PV):wc W zLA [.agg [.int .i64 a,.slice 3 b],.agg [.int .i64 c,.slice 3 d]] =
 some (.agg [.int .i64 0,.slice 3 [.agg [.int .i64 a,.slice 3 b],.agg [.int .i64 c,.slice 3 d]]]):=gA_ (tN_ fi38)
theorem zVF(a b:List PV) (c:Int) (d e:List PV) (f g:Int):wc W zI2 [.agg [.slice 0 a,.slice 6 b,.int .i64 c,.slice 0 d,.slice 0 e,.int .i64 f],.int .i64 g] =
 (wc W zH8 [.agg [.slice 0 a,.slice 6 b,.int .i64 c,.slice 0 d,.slice 0 e,.int .i64 f],.fn zAz [.int .i64 g] []]).bind λ h=>c_s0 h λ i=>some (.slice 0 i):=gA_ (tN_ fi40)
def zIf(m n o:List PV) (p q:Int) (r s t u a b c d e f g h i j k l:Bool):Option PV:=(lN_ fi41) [0,1,0,1,1] 1 (St.mk [(1,.pv (.imm 3 (.agg [.slice 0 m,.slice 0 n]) 0)),(3,.own 0 0),(10,.pv (.slice 0 o)),(11,.pv (.int .i64 p)),(12,.pv (.int .i64 q))] [.var false 17 (.pv (.agg [.bool r,.bool s,.bool t,.bool u,.bool a,.bool b,.bool c,.bool d,.bool e,.bool f,.bool g,.bool h,.bool i,.bool j,.bool k,.bool l]))])
def zIg(a b c:List PV) (d e:Int) (f g h i j k l m n o p q r s t u:Bool):Option PV:=(lN_ fi41) [0,1,0,1,1,1,1] 1 (St.mk [(1,.pv (.imm 3 (.agg [.slice 0 a,.slice 0 b]) 0)),(6,.pv (.fn zHE [] [])),(31,.pv (.slice 0 c)),(32,.pv (.int .i64 d)),(33,.pv (.int .i64 e))] [.var false 17 (.pv (.agg [.bool f,.bool g,.bool h,.bool i,.bool j,.bool k,.bool l,.bool m,.bool n,.bool o,.bool p,.bool q,.bool r,.bool s,.bool t,.bool u]))])
theorem zKk(t n u:List PV) (v o:Int) (p q r s b c d e f g h i j k l m:Bool):zIf t n u v o p q r s b c d e f g h i j k l m =
 bif decide (o<v)then bif decide (0<=o)then u[Int.toNat o]?.bind λ w=>zA2 w λ a=>bif decide (a<0)then some (.bool false)else bif decide (GT.gt a 15)then some (.bool false)else bif (decide (0<=a))&&(decide (a<16))then(PV.load 17 (.agg [.bool p,.bool q,.bool r,.bool s,.bool b,.bool c,.bool d,.bool e,.bool f,.bool g,.bool h,.bool i,.bool j,.bool k,.bool l,.bool m]) (0+((Int.toNat a)*1:Nat):Nat) 0).bind λ x=>c_b x λ y=>bif y then some (.bool false)else bif (decide (0<=a))&&(decide (a<16))then bif (decide (((0+((Int.toNat a)*1:Nat):Nat)+1:Nat)<=16))&&true then zIf t n u v (IntKind.wrap .i64 (o+1)) (bif 0==(0+((Int.toNat a)*1:Nat):Nat)then true else p) (bif 1==(0+((Int.toNat a)*1:Nat):Nat)then true else q) (bif 2==(0+((Int.toNat a)*1:Nat):Nat)then true else r) (bif 3==(0+((Int.toNat a)*1:Nat):Nat)then true else s) (bif 4==(0+((Int.toNat a)*1:Nat):Nat)then true else b) (bif 5==(0+((Int.toNat a)*1:Nat):Nat)then true else c) (bif 6==(0+((Int.toNat a)*1:Nat):Nat)then true else d) (bif 7==(0+((Int.toNat a)*1:Nat):Nat)then true else e) (bif 8==(0+((Int.toNat a)*1:Nat):Nat)then true else f) (bif 9==(0+((Int.toNat a)*1:Nat):Nat)then true else g) (bif 10==(0+((Int.toNat a)*1:Nat):Nat)then true else h) (bif 11==(0+((Int.toNat a)*1:Nat):Nat)then true else i) (bif 12==(0+((Int.toNat a)*1:Nat):Nat)then true else j) (bif 13==(0+((Int.toNat a)*1:Nat):Nat)then true else k) (bif 14==(0+((Int.toNat a)*1:Nat):Nat)then true else l) (bif 15==(0+((Int.toNat a)*1:Nat):Nat)then true else m)else none else none else none else none else zIg t n n (n.length:Int) 0 p q r s b c d e f g h i j k l m:=((tN_ fi41).loop [1,1,0,1,0] 1 _ rfl).trans (by kernel_rfl)
theorem zKl(b c d:List PV) (e a:Int) (f g h i j k l m n o p q r s t u:Bool):zIg b c d e a f g h i j k l m n o p q r s t u =
 bif decide (a<e)then bif decide (0<=a)then d[Int.toNat a]?.bind λ w=>c_s3 w λ v=>bif (v.length:Int) != (b.length:Int)then some (.bool false)else(wc W zAP [.slice 3 v,.fn zHE [] []]).bind λ x=>c_b x λ y=>bif y then some (.bool false)else zIg b c d e (IntKind.wrap .i64 (a+1)) f g h i j k l m n o p q r s t u else none else some (.bool (decide ((c.length:Int)<=5000))):=((tN_ fi41).loop [1,1,1,1,0,1,0] 1 _ rfl).trans (by kernel_rfl)
theorem zZ3(a b:List PV):wc W zJ1 [.agg [.slice 0 a,.slice 0 b]] =
 zIf a b a (a.length:Int) 0 false false false false false false false false false false false false false false false false:=gA_ (tN_ fi41)
theorem zXo(a b c:List PV):wc W zDL [.agg [.slice 0 a,.slice 0 b],.slice 6 c] =
 (wc W zID [.agg [.slice 0 a,.slice 0 b],.fn zH9 [] [.imm 0 (.slice 6 c) 0,.imm 3 (.agg [.slice 0 a,.slice 0 b]) 0]]).bind λ d=>zAT d λ e f=>some (.agg [.slice 0 e,.slice 0 f]):=gA_ (tN_ fi42)
theorem zXp(a b:List PV) (c:Int):wc W zMd [.agg [.slice 0 a,.slice 0 b],.int .i64 c] =
 (W zID true [.pv (.agg [.slice 0 a,.slice 0 b]),.pv (.fn zGB [] [])] []).bind λ f=>zWX f λ g h=>(wc W zAZ [.slice 0 a,.int .i64 c]).bind λ i=>zA2 i λ j=>(W zBP false [AV.fx 0 0,.fnv zR [] [.own 1 0]] [.fix 0 0 h,.var false 0 (.pv (.int .i64 j))]).bind λ d=>zET d λ k e l=>some (.agg [.slice 0 g,.slice 0 e]):=gA_ (tN_ fi43)
theorem zLL(a b c d:List PV) (e:Int) (f g:List PV) (h:Int):wc W zHA [.agg [.slice 3 a],.agg [.slice 0 b],.agg [.slice 0 c,.slice 6 d,.int .i64 e,.slice 0 f,.slice 0 g,.int .i64 h]] =
 (wc W zCb [.agg [.slice 3 a],.agg [.slice 0 b],.agg [.slice 0 c,.slice 6 d,.int .i64 e,.slice 0 f,.slice 0 g,.int .i64 h]]).bind λ i=>c_b i λ j=>bif j then some (.int .i64 0)else some (.int .i64 1):=gA_ (tN_ fi47)
def zCf(a b c d e:Int) (f:List PV) (g h:Int):Option PV:=(lN_ fi48) [0,1,0,1,1] 0 (St.mk [(1,.pv (.int .i64 a)),(2,.pv (.imm 6 (.agg [.int .i64 b,.int .i64 c,.int .i64 d,.int .i64 e,.slice 6 f]) 0)),(5,.pv (.int .i64 g)),(6,.pv (.int .i64 h))] [])
def zF4(h a b c d:Int) (e:List PV) (f g:Int):Option PV:=(jN_ fi48) [1,0,0,1,0,1,1] (St.mk [(1,.pv (.int .i64 h)),(2,.pv (.imm 6 (.agg [.int .i64 a,.int .i64 b,.int .i64 c,.int .i64 d,.slice 6 e]) 0)),(5,.pv (.int .i64 f)),(6,.pv (.int .i64 g))] [])
theorem zEc(b e f g h:Int) (c:List PV) (a d:Int):zCf b e f g h c a d =
 bif decide (d<(c.length:Int))then bif decide (a<=b)then zF4 b e f g h c a d else some (.int .i64 a)else some (.int .i64 a):=((tN_ fi48).loop [1,1,0,1,0] 0 _ rfl).trans (by kernel_rfl)
theorem zHt(h d e f g:Int) (b:List PV) (c a:Int):zF4 h d e f g b c a =
 bif decide (0<=a)then b[Int.toNat a]?.bind λ i=>zG i λ j k l m n=>(wc W zDC [.agg [.int .i64 j,.int .i64 k,.int .i64 l,.int .i64 m,.slice 6 n],.int .i64 (IntKind.wrap .i64 (h-c:Int))]).bind λ o=>zA2 o λ p=>zCf h d e f g b (IntKind.wrap .i64 (c+p:Int)) (IntKind.wrap .i64 (a+1))else none:=((tN_ fi48).join [1,1,0,1,0,0,1] _).trans (by kernel_rfl)
theorem zKd(a b c d:Int) (e:List PV) (f:Int):wc W zDC [.agg [.int .i64 a,.int .i64 b,.int .i64 c,.int .i64 d,.slice 6 e],.int .i64 f] =
 zCf f a b c d e 1 0:=gA_ (tN_ fi48)
def zN2(a b c:List PV) (d:Int) (e f:List PV) (g h i j k:Int) (l:List PV) (m:Int) (n:List PV):Option PV:=(jN_ fi49) [1,1,1] (St.mk [(3,.pv (.imm 2 (.agg [.slice 3 a]) 0)),(4,.pv (.imm 7 (.agg [.slice 0 b,.slice 6 c,.int .i64 d,.slice 0 e,.slice 0 f,.int .i64 g]) 0)),(5,.pv (.imm 6 (.agg [.int .i64 h,.int .i64 i,.int .i64 j,.int .i64 k,.slice 6 l]) 0))] [.var false 3 (.pv (.agg [.int .i64 m,.slice 3 n]))])
theorem zPW(a b c:List PV) (d:Int) (e f:List PV) (g h i j k:Int) (l:List PV) (m:Int) (n:List PV):zN2 a b c d e f g h i j k l m n =
 (wc W zEB [.agg [.int .i64 h,.int .i64 i,.int .i64 j,.int .i64 k,.slice 6 l],.fn zGC [] [.imm 2 (.agg [.slice 3 a]) 0,.imm 7 (.agg [.slice 0 b,.slice 6 c,.int .i64 d,.slice 0 e,.slice 0 f,.int .i64 g]) 0]]).bind λ o=>c_b o λ p=>some (.bool p):=((tN_ fi49).join [1,1,1] _).trans (by kernel_rfl)
theorem zXq(b a c:List PV) (d:Int) (e f:List PV) (g h i j k:Int) (l:List PV):wc W zMe [.agg [.slice 3 b],.agg [.slice 0 a,.slice 6 c,.int .i64 d,.slice 0 e,.slice 0 f,.int .i64 g],.agg [.int .i64 h,.int .i64 i,.int .i64 j,.int .i64 k,.slice 6 l]] =
 (wc W zGz [.agg [.int .i64 h,.int .i64 i,.int .i64 j,.int .i64 k,.slice 6 l]]).bind λ m=>m.asTup.bind λ s=>s[0]?.bind λ t=>zB3 t λ n o=>m.asTup.bind λ u=>u[1]?.bind λ v=>c_b v λ w=>bif !w then some (.bool false)else(wc W zGy [.agg [.slice 3 b],.agg [.slice 0 a,.slice 6 c,.int .i64 d,.slice 0 e,.slice 0 f,.int .i64 g]]).bind λ x=>c_b x λ p=>bif !p then some (.bool false)else(wc W zDK [.agg [.int .i64 n,.slice 3 o]]).bind λ q=>zA2 q λ r=>bif decide (GT.gt (Int.fdiv r (HPow.hPow (2:Int) (Min.min (Int.toNat (a.length:Int)) 64))) 0)then some (.bool false)else zN2 b a c d e f g h i j k l n o:=gA_ (tN_ fi49)
def zLs(a b:List PV):Option PV:=(jN_ fi50) [1,1] (St.mk [(2,.pv (.imm 2 (.agg [.slice 3 a]) 0)),(3,.pv (.imm 2 (.agg [.slice 0 b]) 0))] [])
def zG8(a b:List PV) (c d:Int):Option PV:=(lN_ fi50) [0,1,0,1,1] 0 (St.mk [(2,.pv (.imm 2 (.agg [.slice 3 a]) 0)),(21,.pv (.slice 0 b)),(22,.pv (.int .i64 c)),(23,.pv (.int .i64 d))] [])
theorem zNo(b a:List PV):zLs b a =
 zG8 b a (a.length:Int) 0:=((tN_ fi50).join [1,1] _).trans (by kernel_rfl)
theorem zIw(c d:List PV) (e a:Int):zG8 c d e a =
 bif decide (a<e)then bif decide (0<=a)then d[Int.toNat a]?.bind λ i=>c_s0 i λ b=>bif decide (GT.gt (b.length:Int) 8)then some (.bool false)else(W zBH false [.pv (.slice 0 b),.fnv zC3 [] [.pv (.imm 2 (.agg [.slice 3 c]) 0),.own 0 0]] [.var false 0 (.pv (.int .i64 a))]).bind λ f=>zDE f λ g j=>c_b g λ h=>bif h then some (.bool false)else zG8 c d e (IntKind.wrap .i64 (a+1))else none else some (.bool true):=((tN_ fi50).loop [1,1,0,1,0] 0 _ rfl).trans (by kernel_rfl)
theorem zVG(a b:List PV):wc W zHB [.agg [.slice 3 a],.agg [.slice 0 b]] =
 (wc W zKS [.agg [.slice 3 a]]).bind λ c=>c_b c λ d=>bif !d then some (.bool false)else bif (b.length:Int) != (a.length:Int)then some (.bool false)else zLs a b:=gA_ (tN_ fi50)
def zHd(a b c d:List PV) (e:Int) (f g:List PV) (h i j k l:Int) (m n o p q:List PV) (r:Int) (s t:List PV) (u:Int):Option PV:=(jN_ fi51) [1,1,1,1] (St.mk [(2,.pv (.imm 9 (.agg [.slice 3 a,.slice 0 b,.slice 0 c,.slice 6 d,.int .i64 e,.slice 0 f,.slice 0 g,.int .i64 h]) 0)),(3,.pv (.imm 6 (.agg [.int .i64 i,.int .i64 j,.int .i64 k,.int .i64 l,.slice 6 m]) 0)),(4,.own 0 0),(7,.pv (.fn zDa [.agg [.slice 3 n,.slice 0 o,.slice 0 p,.slice 6 q,.int .i64 r,.slice 0 s,.slice 0 t,.int .i64 u]] []))] [.var false 3 (.agg [AV.nil 0,AV.nil 0])])
def zHe(a b c d:List PV) (e:Int) (f g:List PV) (h i j k l:Int) (m n o p q:List PV) (r:Int) (s t:List PV) (u:Int):Option PV:=(jN_ fi51) [1,1,1,1] (St.mk [(2,.pv (.imm 9 (.agg [.slice 3 a,.slice 0 b,.slice 0 c,.slice 6 d,.int .i64 e,.slice 0 f,.slice 0 g,.int .i64 h]) 0)),(3,.pv (.imm 6 (.agg [.int .i64 i,.int .i64 j,.int .i64 k,.int .i64 l,.slice 6 m]) 0)),(4,.own 0 0),(7,.pv (.fn zDM [.agg [.slice 3 n,.slice 0 o,.slice 0 p,.slice 6 q,.int .i64 r,.slice 0 s,.slice 0 t,.int .i64 u]] []))] [.var false 3 (.agg [AV.nil 0,AV.nil 0])])
def zHf(a b c d:List PV) (e:Int) (f g:List PV) (h i j k l:Int) (m n o p q:List PV) (r:Int) (s t:List PV) (u:Int):Option PV:=(jN_ fi51) [1,1,1,1] (St.mk [(2,.pv (.imm 9 (.agg [.slice 3 a,.slice 0 b,.slice 0 c,.slice 6 d,.int .i64 e,.slice 0 f,.slice 0 g,.int .i64 h]) 0)),(3,.pv (.imm 6 (.agg [.int .i64 i,.int .i64 j,.int .i64 k,.int .i64 l,.slice 6 m]) 0)),(4,.own 0 0),(7,.pv (.fn zD9 [.agg [.slice 3 n,.slice 0 o,.slice 0 p,.slice 6 q,.int .i64 r,.slice 0 s,.slice 0 t,.int .i64 u]] []))] [.var false 3 (.agg [AV.nil 0,AV.nil 0])])
theorem zJc(h i a b:List PV) (c:Int) (d e:List PV) (f a7 a8 j k:Int) (g l m n o:List PV) (p:Int) (q r:List PV) (s:Int):zHd h i a b c d e f a7 a8 j k g l m n o p q r s =
 g[0]?.bind λ a9=>zG a9 λ b0 b1 b2 b3 t=>(wc W zAk [.agg [.slice 3 h,.slice 0 i,.slice 0 a,.slice 6 b,.int .i64 c,.slice 0 d,.slice 0 e,.int .i64 f],.agg [.int .i64 b0,.int .i64 b1,.int .i64 b2,.int .i64 b3,.slice 6 t]]).bind λ u=>zAT u λ v w=>g[1]?.bind λ x=>zG x λ y z A B C=>(wc W zAk [.agg [.slice 3 h,.slice 0 i,.slice 0 a,.slice 6 b,.int .i64 c,.slice 0 d,.slice 0 e,.int .i64 f],.agg [.int .i64 y,.int .i64 z,.int .i64 A,.int .i64 B,.slice 6 C]]).bind λ D=>zAT D λ E F=>(wc W zDa [.agg [.slice 3 l,.slice 0 m,.slice 0 n,.slice 6 o,.int .i64 p,.slice 0 q,.slice 0 r,.int .i64 s],.agg [.int .i64 j,.int .i64 k],.agg [.slice 0 v,.slice 0 w],.agg [.slice 0 E,.slice 0 F]]).bind λ G=>zAT G λ H I=>g[0]?.bind λ J=>zG J λ K L M N O=>(wc W zFS [.agg [.int .i64 K,.int .i64 L,.int .i64 M,.int .i64 N,.slice 6 O]]).bind λ P=>zA2 P λ Q=>g[1]?.bind λ R=>zG R λ S T U V X=>(wc W zFS [.agg [.int .i64 S,.int .i64 T,.int .i64 U,.int .i64 V,.slice 6 X]]).bind λ Y=>zA2 Y λ Z=>(wc W zEp [.agg [.slice 0 a,.slice 6 b,.int .i64 c,.slice 0 d,.slice 0 e,.int .i64 f],.int .i64 Q,.int .i64 Z]).bind λ a0=>c_s0 a0 λ a1=>(wc W zDj [.agg [.slice 3 h,.slice 0 i,.slice 0 a,.slice 6 b,.int .i64 c,.slice 0 d,.slice 0 e,.int .i64 f],.slice 0 a1]).bind λ a2=>c_s6 a2 λ a3=>(wc W zDL [.agg [.slice 0 H,.slice 0 I],.slice 6 a3]).bind λ a4=>zAT a4 λ a5 a6=>some (.agg [.slice 0 a5,.slice 0 a6]):=((tN_ fi51).join [1,1,1,1] _).trans (by kernel_rfl)
theorem zJd(h i a b:List PV) (c:Int) (d e:List PV) (f b2 b3 j k:Int) (g l m n o:List PV) (p:Int) (q r:List PV) (s:Int):zHe h i a b c d e f b2 b3 j k g l m n o p q r s =
 g[0]?.bind λ t=>zG t λ u v w x y=>(wc W zAk [.agg [.slice 3 h,.slice 0 i,.slice 0 a,.slice 6 b,.int .i64 c,.slice 0 d,.slice 0 e,.int .i64 f],.agg [.int .i64 u,.int .i64 v,.int .i64 w,.int .i64 x,.slice 6 y]]).bind λ z=>zAT z λ A B=>g[1]?.bind λ C=>zG C λ D E F G H=>(wc W zAk [.agg [.slice 3 h,.slice 0 i,.slice 0 a,.slice 6 b,.int .i64 c,.slice 0 d,.slice 0 e,.int .i64 f],.agg [.int .i64 D,.int .i64 E,.int .i64 F,.int .i64 G,.slice 6 H]]).bind λ I=>zAT I λ J K=>(wc W zDM [.agg [.slice 3 l,.slice 0 m,.slice 0 n,.slice 6 o,.int .i64 p,.slice 0 q,.slice 0 r,.int .i64 s],.agg [.int .i64 j,.int .i64 k],.agg [.slice 0 A,.slice 0 B],.agg [.slice 0 J,.slice 0 K]]).bind λ L=>zAT L λ M N=>g[0]?.bind λ O=>zG O λ P Q R S T=>(wc W zFS [.agg [.int .i64 P,.int .i64 Q,.int .i64 R,.int .i64 S,.slice 6 T]]).bind λ U=>zA2 U λ V=>g[1]?.bind λ X=>zG X λ Y Z a0 a1 a2=>(wc W zFS [.agg [.int .i64 Y,.int .i64 Z,.int .i64 a0,.int .i64 a1,.slice 6 a2]]).bind λ a3=>zA2 a3 λ a4=>(wc W zEp [.agg [.slice 0 a,.slice 6 b,.int .i64 c,.slice 0 d,.slice 0 e,.int .i64 f],.int .i64 V,.int .i64 a4]).bind λ a5=>c_s0 a5 λ a6=>(wc W zDj [.agg [.slice 3 h,.slice 0 i,.slice 0 a,.slice 6 b,.int .i64 c,.slice 0 d,.slice 0 e,.int .i64 f],.slice 0 a6]).bind λ a7=>c_s6 a7 λ a8=>(wc W zDL [.agg [.slice 0 M,.slice 0 N],.slice 6 a8]).bind λ a9=>zAT a9 λ b0 b1=>some (.agg [.slice 0 b0,.slice 0 b1]):=((tN_ fi51).join [1,1,1,1] _).trans (by kernel_rfl)
theorem zJe(h i a b:List PV) (c:Int) (d e:List PV) (f b2 b3 j k:Int) (g l m n o:List PV) (p:Int) (q r:List PV) (s:Int):zHf h i a b c d e f b2 b3 j k g l m n o p q r s =
 g[0]?.bind λ t=>zG t λ u v w x y=>(wc W zAk [.agg [.slice 3 h,.slice 0 i,.slice 0 a,.slice 6 b,.int .i64 c,.slice 0 d,.slice 0 e,.int .i64 f],.agg [.int .i64 u,.int .i64 v,.int .i64 w,.int .i64 x,.slice 6 y]]).bind λ z=>zAT z λ A B=>g[1]?.bind λ C=>zG C λ D E F G H=>(wc W zAk [.agg [.slice 3 h,.slice 0 i,.slice 0 a,.slice 6 b,.int .i64 c,.slice 0 d,.slice 0 e,.int .i64 f],.agg [.int .i64 D,.int .i64 E,.int .i64 F,.int .i64 G,.slice 6 H]]).bind λ I=>zAT I λ J K=>(wc W zD9 [.agg [.slice 3 l,.slice 0 m,.slice 0 n,.slice 6 o,.int .i64 p,.slice 0 q,.slice 0 r,.int .i64 s],.agg [.int .i64 j,.int .i64 k],.agg [.slice 0 A,.slice 0 B],.agg [.slice 0 J,.slice 0 K]]).bind λ L=>zAT L λ M N=>g[0]?.bind λ O=>zG O λ P Q R S T=>(wc W zFS [.agg [.int .i64 P,.int .i64 Q,.int .i64 R,.int .i64 S,.slice 6 T]]).bind λ U=>zA2 U λ V=>g[1]?.bind λ X=>zG X λ Y Z a0 a1 a2=>(wc W zFS [.agg [.int .i64 Y,.int .i64 Z,.int .i64 a0,.int .i64 a1,.slice 6 a2]]).bind λ a3=>zA2 a3 λ a4=>(wc W zEp [.agg [.slice 0 a,.slice 6 b,.int .i64 c,.slice 0 d,.slice 0 e,.int .i64 f],.int .i64 V,.int .i64 a4]).bind λ a5=>c_s0 a5 λ a6=>(wc W zDj [.agg [.slice 3 h,.slice 0 i,.slice 0 a,.slice 6 b,.int .i64 c,.slice 0 d,.slice 0 e,.int .i64 f],.slice 0 a6]).bind λ a7=>c_s6 a7 λ a8=>(wc W zDL [.agg [.slice 0 M,.slice 0 N],.slice 6 a8]).bind λ a9=>zAT a9 λ b0 b1=>some (.agg [.slice 0 b0,.slice 0 b1]):=((tN_ fi51).join [1,1,1,1] _).trans (by kernel_rfl)
theorem zGR(b c a d:List PV) (e:Int) (f g:List PV) (h i j k m:Int) (l:List PV):wc W zAk [.agg [.slice 3 b,.slice 0 c,.slice 0 a,.slice 6 d,.int .i64 e,.slice 0 f,.slice 0 g,.int .i64 h],.agg [.int .i64 i,.int .i64 j,.int .i64 k,.int .i64 m,.slice 6 l]] =
 bif i==0 then bif decide (0<=j)then a[Int.toNat j]?.bind λ J=>zA2 J λ K=>(wc W zJ3 [.agg [.slice 3 b],.agg [.slice 0 c],.int .i64 K,.int .i64 j]).bind λ n=>n.asTup.bind λ L=>L[0]?.bind λ M=>zAT M λ N O=>n.asTup.bind λ P=>P[1]?.bind λ Q=>c_b Q λ R=>(wc W zFS [.agg [.int .i64 i,.int .i64 j,.int .i64 k,.int .i64 m,.slice 6 l]]).bind λ o=>zA2 o λ p=>(wc W zI2 [.agg [.slice 0 a,.slice 6 d,.int .i64 e,.slice 0 f,.slice 0 g,.int .i64 h],.int .i64 p]).bind λ q=>c_s0 q λ r=>(wc W zDj [.agg [.slice 3 b,.slice 0 c,.slice 0 a,.slice 6 d,.int .i64 e,.slice 0 f,.slice 0 g,.int .i64 h],.slice 0 r]).bind λ s=>c_s6 s λ t=>(wc W zDL [.agg [.slice 0 N,.slice 0 O],.slice 6 t]).bind λ u=>zAT u λ v w=>some (.agg [.slice 0 v,.slice 0 w])else none else bif i==4 then l[0]?.bind λ x=>zG x λ y z A B C=>(wc W zAk [.agg [.slice 3 b,.slice 0 c,.slice 0 a,.slice 6 d,.int .i64 e,.slice 0 f,.slice 0 g,.int .i64 h],.agg [.int .i64 y,.int .i64 z,.int .i64 A,.int .i64 B,.slice 6 C]]).bind λ D=>zAT D λ E F=>(wc W zMd [.agg [.slice 0 E,.slice 0 F],.int .i64 k]).bind λ G=>zAT G λ H I=>some (.agg [.slice 0 H,.slice 0 I])else bif i==2 then zHd b c a d e f g h i j k m l b c a d e f g h else bif i==3 then zHe b c a d e f g h i j k m l b c a d e f g h else zHf b c a d e f g h i j k m l b c a d e f g h:=gA_ (tN_ fi51)
def zCQ(a b:List PV) (c d:Int):Option PV:=(lN_ fi52) [0,1,0,1,1] 0 (St.mk [(0,.pv (.slice 0 a)),(1,.pv (.slice 0 b)),(12,.pv (.int .i64 c)),(13,.pv (.int .i64 d))] [])
theorem zEH(b c:List PV) (d a:Int):zCQ b c d a =
 bif decide (a<d)then bif decide (0<=a)then b[Int.toNat a]?.bind λ e=>zA2 e λ f=>bif decide (0<=a)then c[Int.toNat a]?.bind λ g=>zA2 g λ h=>bif f != h then some (.bool false)else zCQ b c d (IntKind.wrap .i64 (a+1))else none else none else some (.bool true):=((tN_ fi52).loop [1,1,0,1,0] 0 _ rfl).trans (by kernel_rfl)
theorem zJF(a b:List PV):wc W zDl [.slice 0 a,.slice 0 b] =
 bif (a.length:Int) != (b.length:Int)then some (.bool false)else zCQ a b (a.length:Int) 0:=gA_ (tN_ fi52)
def zCR(a:List PV) (b c d:Int):Option PV:=(lN_ fi54) [0,1,0,1] 0 (St.mk [(0,.pv (.slice 0 a)),(1,.pv (.int .i64 b)),(7,.pv (.int .i64 c)),(8,.pv (.int .i64 d))] [])
theorem zEI(b:List PV) (c d a:Int):zCR b c d a =
 bif decide (a<d)then bif decide (0<=a)then b[Int.toNat a]?.bind λ e=>zA2 e λ f=>bif c==f then some (.int .i64 a)else zCR b c d (IntKind.wrap .i64 (a+1))else none else some (.int .i64 (-1)):=((tN_ fi54).loop [1,0,1,0] 0 _ rfl).trans (by kernel_rfl)
theorem zJG(a:List PV) (b:Int):wc W zAZ [.slice 0 a,.int .i64 b] =
 zCR a b (a.length:Int) 0:=gA_ (tN_ fi54)
def zAd(a:List PV) (b c:Int):Option (AV×List Ob):=(lO_ fi55 false 1) [0,1,0,1] 1 (St.mk [(0,.pv (.slice 0 a)),(1,.fnv zDh [] [.own 0 0]),(5,.pv (.int .i64 b))] [.var false 0 (.pv (.int .i64 c))])
theorem zBA(b:List PV) (a d:Int):zAd b a d =
 bif decide (GT.gt a 0)then bif decide (0<=a)then b[Int.toNat a]?.bind λ h=>c_s3 h λ i=>bif decide (0<=(IntKind.wrap .i64 (a-1)))then b[Int.toNat (IntKind.wrap .i64 (a-1))]?.bind λ j=>c_s3 j λ k=>(W zDh false [.pv (.slice 3 i),.pv (.slice 3 k),.own 0 0] [.var false 0 (.pv (.int .i64 d))]).bind λ e=>zDE e λ f c=>zA2 f λ g=>bif decide (g<0)then some (.pv (.bool false),[.var false 0 (.pv (.int .i64 c))])else zAd b (IntKind.wrap .i64 (a-1)) c else none else none else some (.pv (.bool true),[.var false 0 (.pv (.int .i64 d))]):=((tO_ fi55 false 1).loop [1,0,1,0] 1 _ rfl).trans (by kernel_rfl)
theorem zDc(a:List PV) (b:Int):W zC1 false [.pv (.slice 0 a),.fnv zDh [] [.own 0 0]] [.var false 0 (.pv (.int .i64 b))] =
 zAd a (IntKind.wrap .i64 ((a.length:Int)-1:Int)) b:=goO (by kernel_rfl) (by kernel_rfl) (tO_ fi55 false 1) rfl (by kernel_rfl)
theorem zLM(b c:List PV) (a:Int):W zDh false [.pv (.slice 3 b),.pv (.slice 3 c),.own 0 0] [.var false 0 (.pv (.int .i64 a))] =
 (wc W zKR [.slice 3 b,.int .i64 a]).bind λ d=>zP d λ e f=>(wc W zKR [.slice 3 c,.int .i64 a]).bind λ g=>zP g λ h i=>(wc W zG3 [.agg [.int .i64 e,.int .i64 f],.agg [.int .i64 h,.int .i64 i]]).bind λ j=>zA2 j λ k=>some (.pv (.int .i64 k),[.var false 0 (.pv (.int .i64 a))]):=goO (by kernel_rfl) (by kernel_rfl) (tO_ fi56 false 1) rfl (by kernel_rfl)
theorem zR8(a b c d:Int):wc W zG3 [.agg [.int .i64 a,.int .i64 b],.agg [.int .i64 c,.int .i64 d]] =
 ((bif a==c then bif b==d then some true else some false else some false).bind λ e=>some (.bool e)).bind λ f=>c_b f λ g=>bif g then some (.int .i64 0)else(wc W zEz [.slice 0 [.int .i64 a,.int .i64 b],.slice 0 [.int .i64 c,.int .i64 d]]).bind λ h=>zA2 h λ i=>some (.int .i64 i):=gA_ (tN_ fi57)
def zQj(a:List PV) (b c d:Int):Option PV:=(jN_ fi58) [1,1] (St.mk [(0,.pv (.slice 3 a)),(1,.pv (.int .i64 b)),(4,.own 0 0)] [.var false 3 (.pv (.agg [.int .i64 c,.int .i64 d]))])
def zMm(a b c d:Int):Option PV:=(jN_ fi58) [1,1,1,1] (St.mk [(4,.own 0 0),(5,.own 1 0)] [.var false 3 (.pv (.agg [.int .i64 a,.int .i64 b])),.var false 3 (.pv (.agg [.int .i64 c,.int .i64 d]))])
theorem zR9(d:List PV) (a b c:Int):zQj d a b c =
 bif decide (0<=a)then d[Int.toNat a]?.bind λ g=>zP g λ e f=>(wc W zHF [.agg [.int .i64 e,.int .i64 f]]).bind λ h=>c_b h λ i=>bif !i then zMm b c 2 0 else zMm b c e f else none:=((tN_ fi58).join [1,1] _).trans (by kernel_rfl)
theorem zRa(c d a b:Int):zMm c d a b =
 some (.agg [.int .i64 a,.int .i64 b]):=((tN_ fi58).join [1,1,1,1] _).trans (by kernel_rfl)
theorem z12(b:List PV) (a:Int):wc W zKR [.slice 3 b,.int .i64 a] =
 bif decide (a<0)then some (.agg [.int .i64 0,.int .i64 0])else bif decide (GE.ge a (b.length:Int))then some (.agg [.int .i64 0,.int .i64 0])else zQj b a 0 0:=gA_ (tN_ fi58)
theorem zLN(a b c:List PV) (d:Int) (e f:List PV) (g:Int):wc W zHC [.agg [.slice 3 a],.agg [.slice 0 b,.slice 6 c,.int .i64 d,.slice 0 e,.slice 0 f,.int .i64 g]] =
 (wc W zCc [.agg [.slice 3 a],.agg [.slice 0 b,.slice 6 c,.int .i64 d,.slice 0 e,.slice 0 f,.int .i64 g]]).bind λ h=>c_b h λ i=>bif i then some (.int .i64 0)else some (.int .i64 1):=gA_ (tN_ fi59)
theorem zLO(a:List PV):wc W zHD [.agg [.slice 0 a]] =
 (wc W zEq [.agg [.slice 0 a]]).bind λ b=>c_b b λ c=>bif c then some (.int .i64 0)else some (.int .i64 1):=gA_ (tN_ fi60)
theorem zTX(a b:List PV) (c:Bool):wc W zH7 [.agg [.slice 0 a,.slice 0 b],.bool c] =
 bif !c then none else some (.agg [.slice 0 a,.slice 0 b]):=gA_ (tN_ fi63)
def zPX(b c:Int) (d a:List PV):Option PV:=(jN_ fi64) [1,1] (St.mk [(2,.pv (.int .i64 b)),(3,.pv (.int .i64 c)),(4,.pv (.imm 2 (.agg [.slice 3 d]) 0)),(5,.pv (.imm 2 (.agg [.slice 0 a]) 0)),(8,.own 0 0)] [.var false 3 (.agg [AV.nil 0,AV.nil 0])])
def zHI(a b:Int) (c:List PV) (d e:Int) (f:List PV):Option PV:=(lN_ fi64) [0,1,0,1,1,1] 2 (St.mk [(2,.pv (.int .i64 a)),(3,.pv (.int .i64 b)),(5,.pv (.imm 2 (.agg [.slice 0 c]) 0)),(8,.own 0 0),(10,.view 1 0 none),(36,.pv (.int .i64 d)),(37,.pv (.int .i64 e))] [.var false 3 (.agg [AV.nil 0,AV.nil 0]),.row false 0 0 f])
theorem zQF(a c:Int) (d b:List PV):zPX a c d b =
 bif decide (0<=a)then d[Int.toNat a]?.bind λ e=>(PV.load 3 e 0 0).bind λ f=>zA2 f λ g=>zHI a c b g 0 []else none:=((tN_ fi64).join [1,1] _).trans (by kernel_rfl)
theorem zKm(a d:Int) (e:List PV) (f b:Int) (c:List PV):zHI a d e f b c =
 bif decide (b<f)then(wc W zIE [.int .i64 d,.int .i64 b]).bind λ g=>zA2 g λ h=>bif true&&(decide (((List.length c)+1:Nat)<=4294967296))then zHI a d e f (IntKind.wrap .i64 (b+1)) (c++[.int .i64 h])else none else bif decide (0<=a)then e[Int.toNat a]?.bind λ i=>c_s0 i λ j=>(wc W zDL [.agg [.slice 0 c,.slice 0 j],.slice 6 []]).bind λ k=>zAT k λ l m=>some (.tup [.agg [.slice 0 l,.slice 0 m],.bool true])else none:=((tN_ fi64).loop [1,1,1,0,1,0] 2 _ rfl).trans (by kernel_rfl)
theorem zZ4(a b:List PV) (c d:Int):wc W zJ3 [.agg [.slice 3 a],.agg [.slice 0 b],.int .i64 c,.int .i64 d] =
 (wc W zHB [.agg [.slice 3 a],.agg [.slice 0 b]]).bind λ e=>c_b e λ f=>bif !f then some (.tup [.agg [.slice 0 [],.slice 0 []],.bool false])else(wc W zFT [.int .i64 c,.int .i64 0,.int .i64 (IntKind.wrap .i64 ((a.length:Int)-1:Int))]).bind λ g=>c_b g λ h=>bif !h then some (.tup [.agg [.slice 0 [],.slice 0 []],.bool false])else(wc W zIE [.int .i64 d,.int .i64 0]).bind λ i=>zA2 i λ j=>bif j==(-1)then some (.tup [.agg [.slice 0 [],.slice 0 []],.bool false])else zPX c d a b:=gA_ (tN_ fi64)
def zLt(h a b c d e f g:List PV):Option PV:=(jN_ fi65) [1,1,1] (St.mk [(2,.pv (.imm 3 (.agg [.slice 0 h,.slice 0 a]) 0)),(3,.pv (.imm 3 (.agg [.slice 0 b,.slice 0 c]) 0)),(4,.own 0 0),(6,.own 3 0)] [.var false 3 (.agg [AV.nil 0,AV.nil 0]),.row false 0 0 d,.row false 0 0 e,.var false 3 (.agg [.pv (.slice 0 f),.view 4 0 none]),.row true 0 0 g])
def zFW(a b c:List PV) (d e:Int) (f g h i:List PV):Option PV:=(lN_ fi65) [0,1,0,1,1,1] 5 (St.mk [(3,.pv (.imm 3 (.agg [.slice 0 a,.slice 0 b]) 0)),(4,.own 0 0),(6,.own 3 0),(45,.pv (.slice 0 c)),(46,.pv (.int .i64 d)),(47,.pv (.int .i64 e))] [.var false 3 (.agg [AV.nil 0,AV.nil 0]),.row false 0 0 f,.row false 0 0 g,.var false 3 (.agg [.pv (.slice 0 h),.view 4 0 none]),.row true 0 0 i])
def zG9(a b c d:List PV) (e f:Int) (g:List PV) (h i:Int) (j k l m:List PV):Option PV:=(lN_ fi65) [0,1,1,0,0,1,1,5,0,1,0,1,1,1] 5 (St.mk [(3,.pv (.imm 3 (.agg [.slice 0 a,.slice 0 b]) 0)),(4,.own 0 0),(6,.own 3 0),(8,.pv (.slice 3 c)),(45,.pv (.slice 0 d)),(46,.pv (.int .i64 e)),(47,.pv (.int .i64 f)),(52,.pv (.slice 0 g)),(53,.pv (.int .i64 h)),(54,.pv (.int .i64 i))] [.var false 3 (.agg [AV.nil 0,AV.nil 0]),.row false 0 0 j,.row false 0 0 k,.var false 3 (.agg [.pv (.slice 0 l),.view 4 0 none]),.row true 0 0 m])
theorem zNp(h a b c d e f g:List PV):zLt h a b c d e f g =
 zFW b c a (a.length:Int) 0 d e f g:=((tN_ fi65).join [1,1,1] _).trans (by kernel_rfl)
theorem zIx(g b c:List PV) (d a:Int) (h i e f:List PV):zFW g b c d a h i e f =
 bif decide (a<d)then bif decide (0<=a)then c[Int.toNat a]?.bind λ j=>c_s3 j λ k=>zG9 g b k c d a b (b.length:Int) 0 h i e f else none else some (.tup [.agg [.slice 0 e,.slice 0 f],.bool true]):=((tN_ fi65).loop [1,1,1,0,1,0] 5 _ rfl).trans (by kernel_rfl)
theorem zIy(c d e f:List PV) (g h:Int) (i:List PV) (j a:Int) (k l m b:List PV):zG9 c d e f g h i j a k l m b =
 bif decide (a<j)then bif decide (0<=a)then i[Int.toNat a]?.bind λ n=>c_s3 n λ o=>(wc W zBT [.slice 0 [.slice 3 e,.slice 3 o]]).bind λ p=>c_s3 p λ q=>bif true&&(decide (((List.length b)+1:Nat)<=4294967296))then zG9 c d e f g h i j (IntKind.wrap .i64 (a+1)) k l m (b++[.slice 3 q])else none else none else zFW c d f g (IntKind.wrap .i64 (h+1)) k l m b:=((tN_ fi65).loop [1,1,1,0,1,0,5,1,1,0,0,1,1,0] 5 _ rfl).trans (by kernel_rfl)
theorem zVH(a b c d:List PV):wc W zI3 [.agg [.slice 0 a,.slice 0 b],.agg [.slice 0 c,.slice 0 d]] =
 (wc W zBl [.slice 0 [.slice 0 a,.slice 0 c]]).bind λ f=>c_s0 f λ e=>(wc W zJ1 [.agg [.slice 0 a,.slice 0 b]]).bind λ g=>c_b g λ h=>bif !h then some (.tup [.agg [.slice 0 [],.slice 0 []],.bool false])else(wc W zJ1 [.agg [.slice 0 c,.slice 0 d]]).bind λ i=>c_b i λ j=>bif !j then some (.tup [.agg [.slice 0 [],.slice 0 []],.bool false])else(wc W zJ1 [.agg [.slice 0 e,.slice 0 []]]).bind λ k=>c_b k λ l=>bif !l then some (.tup [.agg [.slice 0 [],.slice 0 []],.bool false])else bif decide (GT.gt (IntKind.wrap .i64 ((b.length:Int)*(d.length:Int):Int)) 5000)then some (.tup [.agg [.slice 0 [],.slice 0 []],.bool false])else zLt a b c d [] [] e []:=gA_ (tN_ fi65)
theorem zRb(b:Int) (a:List PV):wc W zI4 [.int .i64 b,.imm 2 (.agg [.slice 3 a]) 0] =
 bif decide (b<0)then some (.bool true)else some (.bool (decide (GE.ge b (a.length:Int)))):=gA_ (tN_ fi66)
theorem zXr(a:List PV):wc W zKS [.agg [.slice 3 a]] =
 (wc W zFT [.int .i64 (a.length:Int),.int .i64 1,.int .i64 4]).bind λ b=>c_b b λ c=>bif c then(wc W zBY [.slice 3 a,.fn zHa [] []]).bind λ d=>c_b d λ e=>some (.bool !e)else some (.bool false):=gA_ (tN_ fi67)
theorem zGS(a:List PV) (b:PV):wc W zB8 [.slice 0 a,b] =
 (wc W zCi [.slice 0 a,b]).bind λ c=>zA2 c λ d=>some (.bool (decide (GE.ge d 0))):=gA_ (tN_ fi68)
def zCr(c:PV) (d e f:List PV) (g:Int) (h i:List PV) (j k a:Int) (b:List PV):Option PV:=(lN_ fi69) [0,1,0,1,1] 1 (St.mk [(2,.pv c),(3,.pv (.imm 2 (.agg [.slice 3 d]) 0)),(4,.pv (.imm 7 (.agg [.slice 0 e,.slice 6 f,.int .i64 g,.slice 0 h,.slice 0 i,.int .i64 j]) 0)),(7,.view 0 0 none),(14,.pv (.int .i64 k)),(15,.pv (.int .i64 a))] [.row false 0 0 b])
def zLu(a:PV) (b c d:List PV) (e:Int) (f g:List PV) (h i j k l:Int) (m:List PV):Option PV:=(jN_ fi69) [1,1,1,0,0,1,1,1,0,1,0,1,1] (St.mk [(2,.pv a),(3,.pv (.imm 2 (.agg [.slice 3 b]) 0)),(4,.pv (.imm 7 (.agg [.slice 0 c,.slice 6 d,.int .i64 e,.slice 0 f,.slice 0 g,.int .i64 h]) 0)),(7,.view 0 0 none),(8,.pv (.int .i64 i)),(9,.pv (.int .i64 j)),(14,.pv (.int .i64 k)),(15,.pv (.int .i64 l))] [.row false 0 0 m])
def zGa(a:PV) (b c d:List PV) (e:Int) (f g:List PV) (h i j k l m:Int) (n:List PV):Option PV:=(lN_ fi69) [0,1,1,1,1,0,0,1,1,1,0,1,0,1,1] 1 (St.mk [(2,.pv a),(3,.pv (.imm 2 (.agg [.slice 3 b]) 0)),(4,.pv (.imm 7 (.agg [.slice 0 c,.slice 6 d,.int .i64 e,.slice 0 f,.slice 0 g,.int .i64 h]) 0)),(7,.view 0 0 none),(8,.pv (.int .i64 i)),(14,.pv (.int .i64 j)),(15,.pv (.int .i64 k)),(43,.pv (.int .i64 l)),(44,.pv (.int .i64 m))] [.row false 0 0 n])
theorem zIz(c:PV) (d e g:List PV) (h:Int) (i j:List PV) (k f a:Int) (b:List PV):zCr c d e g h i j k f a b =
 bif decide (a<f)then bif decide (0<=a)then e[Int.toNat a]?.bind λ n=>zA2 n λ l=>(PV.asFn c).bind λ m=>(wc W (Prod.fst m) (((Prod.fst (Prod.snd m))++[.int .i64 a])++(Prod.snd (Prod.snd m)))).bind λ o=>c_b o λ p=>bif !p then zCr c d e g h i j k f (IntKind.wrap .i64 (a+1)) b else bif decide (l<0)then zCr c d e g h i j k f (IntKind.wrap .i64 (a+1)) b else bif decide (GE.ge l (d.length:Int))then zCr c d e g h i j k f (IntKind.wrap .i64 (a+1)) b else zLu c d e g h i j k a l f a b else none else some (.slice 0 b):=((tN_ fi69).loop [1,1,0,1,0] 1 _ rfl).trans (by kernel_rfl)
theorem zNq(c:PV) (a d e:List PV) (f:Int) (g h:List PV) (i j b k l:Int) (m:List PV):zLu c a d e f g h i j b k l m =
 bif decide (0<=b)then a[Int.toNat b]?.bind λ n=>(PV.load 3 n 0 0).bind λ o=>zA2 o λ p=>zGa c a d e f g h i j k l p 0 m else none:=((tN_ fi69).join [1,1,0,1,0,1,1,1,0,0,1,1,1] _).trans (by kernel_rfl)
theorem zJA(c:PV) (d e f:List PV) (g:Int) (h i:List PV) (j k l m n a:Int) (b:List PV):zGa c d e f g h i j k l m n a b =
 bif decide (a<n)then(wc W zIE [.int .i64 k,.int .i64 a]).bind λ o=>zA2 o λ p=>bif true&&(decide (((List.length b)+1:Nat)<=4294967296))then zGa c d e f g h i j k l m n (IntKind.wrap .i64 (a+1)) (b++[.int .i64 p])else none else zCr c d e f g h i j l (IntKind.wrap .i64 (m+1)) b:=((tN_ fi69).loop [1,1,0,1,0,1,1,1,0,0,1,1,1,1,0] 1 _ rfl).trans (by kernel_rfl)
theorem zVI(b a c:List PV) (d:Int) (e f:List PV) (g:Int) (h:PV):wc W zI5 [.agg [.slice 3 b],.agg [.slice 0 a,.slice 6 c,.int .i64 d,.slice 0 e,.slice 0 f,.int .i64 g],h] =
 zCr h b a c d e f g (bif decide (4<(a.length:Int))then(4:Int)else(a.length:Int)) 0 []:=gA_ (tN_ fi69)
theorem zRc(a:Int):wc W zI6 [.int .i64 a] =
 some (.bool true):=gA_ (tN_ fi70)
theorem zVJ(a b c d:Int) (e:List PV):wc W zI7 [.agg [.int .i64 a,.int .i64 b,.int .i64 c,.int .i64 d,.slice 6 e]] =
 (wc W zIF [.agg [.int .i64 a,.int .i64 b,.int .i64 c,.int .i64 d,.slice 6 e]]).bind λ n=>c_b n λ o=>bif !o then some (.slice 0 [])else(W zEC false [.pv (.agg [.int .i64 a,.int .i64 b,.int .i64 c,.int .i64 d,.slice 6 e]),.pv (.int .i64 1),.fnv zCp [] [.own 0 0]] [.var false 0 (.view 1 0 none),.row false 0 0 []]).bind λ f=>zOR f λ g h=>c_b g λ p=>(W zED false [AV.fx 0 0] [.fix 0 0 h]).bind λ i=>zR6 i λ q j=>(W zDN false [.view 0 0 none] [.row false 0 0 j]).bind λ k=>zR5 k λ l=>c_s0 l λ m=>some (.slice 0 m):=gA_ (tN_ fi71)
theorem zQG(a b:List PV):wc W zDi [.slice 0 a,.slice 0 b] =
 (wc W zB8 [.slice 0 a,.fn zGP [] [.imm 0 (.slice 0 b) 0]]).bind λ c=>c_b c λ d=>some (.bool !d):=gA_ (tN_ fi72)
theorem zTY(a:List PV):wc W zJ4 [.slice 0 a] =
 (W zBt true [.pv (.slice 0 a)] []).bind λ d=>zR7 d λ e=>(W zED false [AV.fx 0 0] [.fix 0 0 e]).bind λ f=>zR6 f λ i g=>(W zDN false [.view 0 0 none] [.row false 0 0 g]).bind λ h=>zR5 h λ b=>c_s0 b λ c=>some (.bool ((c.length:Int)==(a.length:Int))):=gA_ (tN_ fi73)
theorem zHu(a:List PV) (b:Int):wc W zB4 [.slice 0 a,.int .i64 b] =
 (wc W zAZ [.slice 0 a,.int .i64 b]).bind λ c=>zA2 c λ d=>some (.bool (decide (GE.ge d 0))):=gA_ (tN_ fi74)
theorem zXs(a b c d:Int) (e:List PV):wc W zKT [.agg [.int .i64 a,.int .i64 b,.int .i64 c,.int .i64 d,.slice 6 e]] =
 (W zEB false [.pv (.agg [.int .i64 a,.int .i64 b,.int .i64 c,.int .i64 d,.slice 6 e]),.fnv zEE [] [.own 0 0]] [.var false 0 (.pv (.int .i64 0))]).bind λ g=>zDE g λ h i=>c_b h λ f=>some (.bool f):=gA_ (tN_ fi75)
theorem zRd(b c d e:Int) (a:List PV):wc W zD6 [.agg [.int .i64 b,.int .i64 c,.int .i64 d,.int .i64 e,.slice 6 a]] =
 bif b==0 then(wc W zLB [.int .i64 c]).bind λ D=>zB3 D λ E F=>some (.agg [.int .i64 E,.slice 3 F])else bif b==4 then a[0]?.bind λ G=>zG G λ H I J K L=>(wc W zD6 [.agg [.int .i64 H,.int .i64 I,.int .i64 J,.int .i64 K,.slice 6 L]]).bind λ f=>zB3 f λ g h=>some (.agg [.int .i64 g,.slice 3 h])else a[0]?.bind λ i=>zG i λ j k l m n=>(wc W zD6 [.agg [.int .i64 j,.int .i64 k,.int .i64 l,.int .i64 m,.slice 6 n]]).bind λ o=>zB3 o λ p q=>a[1]?.bind λ r=>zG r λ s t u v w=>(wc W zD6 [.agg [.int .i64 s,.int .i64 t,.int .i64 u,.int .i64 v,.slice 6 w]]).bind λ x=>zB3 x λ y z=>(wc W zLA [.agg [.int .i64 p,.slice 3 q],.agg [.int .i64 y,.slice 3 z]]).bind λ A=>zB3 A λ B C=>some (.agg [.int .i64 B,.slice 3 C]):=gA_ (tN_ fi76)
end Go.Cf

namespace Go.Cf
open Go Go.Ab
set_option maxRecDepth 100000
theorem zXt(a:Int) (b:List PV):wc W zKU [.agg [.int .i64 a,.slice 3 b]] =
 (wc W zEy [.agg [.int .i64 a,.slice 3 b],.int .i64 4]).bind λ c=>c.asTup.bind λ d=>d[0]?.bind λ e=>zA2 e λ i=>c.asTup.bind λ f=>f[1]?.bind λ g=>c_b g λ h=>some (.bool h):=gA_ (tN_ fi77)
theorem zLP(k:Int) (i I J j l:List PV) (m:Int) (n o:List PV) (p:Int) (a b c d:List PV) (e:Int) (f g:List PV) (h:Int):W zAI false [.pv (.agg [.int .i64 k,.slice 3 i]),.pv (.imm 2 (.agg [.slice 3 I]) 0),.pv (.imm 2 (.agg [.slice 0 J]) 0),.pv (.imm 7 (.agg [.slice 0 j,.slice 6 l,.int .i64 m,.slice 0 n,.slice 0 o,.int .i64 p]) 0),.own 0 0] [.var false 0 (.fnv zAI [] [.pv (.imm 2 (.agg [.slice 3 a]) 0),.pv (.imm 2 (.agg [.slice 0 b]) 0),.pv (.imm 7 (.agg [.slice 0 c,.slice 6 d,.int .i64 e,.slice 0 f,.slice 0 g,.int .i64 h]) 0),.own 0 0])] =
 bif (i.length:Int)==0 then bif decide (0<=k)then j[Int.toNat k]?.bind λ v1=>zA2 v1 λ v2=>(wc W zJ3 [.agg [.slice 3 I],.agg [.slice 0 J],.int .i64 v2,.int .i64 k]).bind λ K=>K.asTup.bind λ v4=>v4[0]?.bind λ v5=>zAT v5 λ v6 v7=>K.asTup.bind λ v8=>v8[1]?.bind λ v9=>c_b v9 λ L=>(wc W zH7 [.agg [.slice 0 v6,.slice 0 v7],.bool L]).bind λ M=>zAT M λ N O=>(wc W zDK [.agg [.int .i64 k,.slice 3 i]]).bind λ P=>zA2 P λ Q=>(wc W zI2 [.agg [.slice 0 j,.slice 6 l,.int .i64 m,.slice 0 n,.slice 0 o,.int .i64 p],.int .i64 Q]).bind λ R=>c_s0 R λ S=>(wc W zKV [.agg [.slice 0 j,.slice 6 l,.int .i64 m,.slice 0 n,.slice 0 o,.int .i64 p],.slice 0 S]).bind λ T=>c_s6 T λ U=>(wc W zDL [.agg [.slice 0 N,.slice 0 O],.slice 6 U]).bind λ V=>zAT V λ X Y=>some (.pv (.agg [.slice 0 X,.slice 0 Y]),[.var false 0 (.fnv zAI [] [.pv (.imm 2 (.agg [.slice 3 a]) 0),.pv (.imm 2 (.agg [.slice 0 b]) 0),.pv (.imm 7 (.agg [.slice 0 c,.slice 6 d,.int .i64 e,.slice 0 f,.slice 0 g,.int .i64 h]) 0),.own 0 0])])else none else i[0]?.bind λ Z=>zB3 Z λ a0 a1=>(W zAI false [.pv (.agg [.int .i64 a0,.slice 3 a1]),.pv (.imm 2 (.agg [.slice 3 a]) 0),.pv (.imm 2 (.agg [.slice 0 b]) 0),.pv (.imm 7 (.agg [.slice 0 c,.slice 6 d,.int .i64 e,.slice 0 f,.slice 0 g,.int .i64 h]) 0),.own 0 0] [.var false 0 (.fnv zAI [] [.pv (.imm 2 (.agg [.slice 3 a]) 0),.pv (.imm 2 (.agg [.slice 0 b]) 0),.pv (.imm 7 (.agg [.slice 0 c,.slice 6 d,.int .i64 e,.slice 0 f,.slice 0 g,.int .i64 h]) 0),.own 0 0])]).bind λ a2=>zK0 a2 λ a3 a4 a5 a6 a7 a8 a9 b0 b1=>bif eqOw [.var false 0 (.fnv zAI [] [.pv (.imm 2 (.agg [.slice 3 a4]) 0),.pv (.imm 2 (.agg [.slice 0 a5]) 0),.pv (.imm 7 (.agg [.slice 0 a6,.slice 6 a7,.int .i64 a8,.slice 0 a9,.slice 0 b0,.int .i64 b1]) 0),.own 0 0]),.var false 3 (.agg [AV.nil 0,AV.nil 0])] [.var false 0 (.fnv zAI [] [.pv (.imm 2 (.agg [.slice 3 a]) 0),.pv (.imm 2 (.agg [.slice 0 b]) 0),.pv (.imm 7 (.agg [.slice 0 c,.slice 6 d,.int .i64 e,.slice 0 f,.slice 0 g,.int .i64 h]) 0),.own 0 0]),.var false 3 (.agg [AV.nil 0,AV.nil 0])]then zAT a3 λ b2 b3=>i[1]?.bind λ b4=>zB3 b4 λ b5 b6=>(W zAI false [.pv (.agg [.int .i64 b5,.slice 3 b6]),.pv (.imm 2 (.agg [.slice 3 a]) 0),.pv (.imm 2 (.agg [.slice 0 b]) 0),.pv (.imm 7 (.agg [.slice 0 c,.slice 6 d,.int .i64 e,.slice 0 f,.slice 0 g,.int .i64 h]) 0),.own 0 0] [.var false 0 (.fnv zAI [] [.pv (.imm 2 (.agg [.slice 3 a]) 0),.pv (.imm 2 (.agg [.slice 0 b]) 0),.pv (.imm 7 (.agg [.slice 0 c,.slice 6 d,.int .i64 e,.slice 0 f,.slice 0 g,.int .i64 h]) 0),.own 0 0])]).bind λ b7=>zK0 b7 λ b8 b9 c0 c1 c2 c3 c4 c5 c6=>bif eqOw [.var false 0 (.fnv zAI [] [.pv (.imm 2 (.agg [.slice 3 b9]) 0),.pv (.imm 2 (.agg [.slice 0 c0]) 0),.pv (.imm 7 (.agg [.slice 0 c1,.slice 6 c2,.int .i64 c3,.slice 0 c4,.slice 0 c5,.int .i64 c6]) 0),.own 0 0]),.var false 3 (.agg [AV.nil 0,AV.nil 0])] [.var false 0 (.fnv zAI [] [.pv (.imm 2 (.agg [.slice 3 a]) 0),.pv (.imm 2 (.agg [.slice 0 b]) 0),.pv (.imm 7 (.agg [.slice 0 c,.slice 6 d,.int .i64 e,.slice 0 f,.slice 0 g,.int .i64 h]) 0),.own 0 0]),.var false 3 (.agg [AV.nil 0,AV.nil 0])]then zAT b8 λ c7 c8=>(wc W zI3 [.agg [.slice 0 b2,.slice 0 b3],.agg [.slice 0 c7,.slice 0 c8]]).bind λ q=>q.asTup.bind λ c9=>c9[0]?.bind λ d0=>zAT d0 λ d1 d2=>q.asTup.bind λ d3=>d3[1]?.bind λ d4=>c_b d4 λ d5=>(wc W zH7 [.agg [.slice 0 d1,.slice 0 d2],.bool d5]).bind λ d6=>zAT d6 λ d7 d8=>i[0]?.bind λ r=>zB3 r λ s t=>(wc W zDK [.agg [.int .i64 s,.slice 3 t]]).bind λ u=>zA2 u λ v=>i[1]?.bind λ w=>zB3 w λ x y=>(wc W zDK [.agg [.int .i64 x,.slice 3 y]]).bind λ z=>zA2 z λ A=>(wc W zEp [.agg [.slice 0 j,.slice 6 l,.int .i64 m,.slice 0 n,.slice 0 o,.int .i64 p],.int .i64 v,.int .i64 A]).bind λ B=>c_s0 B λ C=>(wc W zKV [.agg [.slice 0 j,.slice 6 l,.int .i64 m,.slice 0 n,.slice 0 o,.int .i64 p],.slice 0 C]).bind λ D=>c_s6 D λ E=>(wc W zDL [.agg [.slice 0 d7,.slice 0 d8],.slice 6 E]).bind λ F=>zAT F λ G H=>some (.pv (.agg [.slice 0 G,.slice 0 H]),[.var false 0 (.fnv zAI [] [.pv (.imm 2 (.agg [.slice 3 a]) 0),.pv (.imm 2 (.agg [.slice 0 b]) 0),.pv (.imm 7 (.agg [.slice 0 c,.slice 6 d,.int .i64 e,.slice 0 f,.slice 0 g,.int .i64 h]) 0),.own 0 0])])else none else none:=goO (by kernel_rfl) (by kernel_rfl) (tO_ fi78 false 1) rfl (by kernel_rfl)
def zHg(b c:List PV) (d:Int) (e f:List PV) (g:Int) (h:List PV) (i j:Int) (a:List PV):Option PV:=(lN_ fi79) [0,1,0,1,1] 1 (St.mk [(2,.pv (.imm 7 (.agg [.slice 0 b,.slice 6 c,.int .i64 d,.slice 0 e,.slice 0 f,.int .i64 g]) 0)),(5,.view 0 0 none),(8,.pv (.slice 0 h)),(9,.pv (.int .i64 i)),(10,.pv (.int .i64 j))] [.row false 0 6 a])
theorem zJf(g d:List PV) (h:Int) (i j:List PV) (k:Int) (e:List PV) (f b:Int) (a:List PV):zHg g d h i j k e f b a =
 bif decide (b<f)then bif decide (0<=b)then e[Int.toNat b]?.bind λ l=>zA2 l λ c=>bif decide (0<=c)then d[Int.toNat c]?.bind λ m=>zG m λ n o p q r=>bif true&&(decide (((List.length a)+1:Nat)<=4294967296))then zHg g d h i j k e f (IntKind.wrap .i64 (b+1)) (a++[.agg [.int .i64 n,.int .i64 o,.int .i64 p,.int .i64 q,.slice 6 r]])else none else none else none else some (.slice 6 a):=((tN_ fi79).loop [1,1,0,1,0] 1 _ rfl).trans (by kernel_rfl)
theorem zXu(a b:List PV) (c:Int) (d e:List PV) (f:Int) (g:List PV):wc W zKV [.agg [.slice 0 a,.slice 6 b,.int .i64 c,.slice 0 d,.slice 0 e,.int .i64 f],.slice 0 g] =
 zHg a b c d e f g (g.length:Int) 0 []:=gA_ (tN_ fi79)
theorem zVK(a b:List PV) (c:Int) (d e:List PV) (f g h:Int):wc W zEp [.agg [.slice 0 a,.slice 6 b,.int .i64 c,.slice 0 d,.slice 0 e,.int .i64 f],.int .i64 g,.int .i64 h] =
 (W zH8 false [.pv (.agg [.slice 0 a,.slice 6 b,.int .i64 c,.slice 0 d,.slice 0 e,.int .i64 f]),.fnv zER [] [.own 0 0,.own 1 0,.own 2 0]] [.var false 0 (.pv (.int .i64 (IntKind.wrap .i64 (((BitVec.toNat (HOr.hOr (BitVec.ofInt 64 g) (BitVec.ofInt 64 h))):Nat):Int)))),.var false 0 (.pv (.int .i64 g)),.var false 0 (.pv (.int .i64 h))]).bind λ i=>zR4 i λ j l m n=>c_s0 j λ k=>some (.slice 0 k):=gA_ (tN_ fi80)
theorem zLQ(i:Int) (j a b c d:List PV) (e:Int) (f g:List PV) (h:Int):W zCx false [.own 0 0,.pv (.imm 3 (.agg [.int .i64 i,.slice 3 j]) 0)] [.var false 0 (.fnv zAI [] [.pv (.imm 2 (.agg [.slice 3 a]) 0),.pv (.imm 2 (.agg [.slice 0 b]) 0),.pv (.imm 7 (.agg [.slice 0 c,.slice 6 d,.int .i64 e,.slice 0 f,.slice 0 g,.int .i64 h]) 0),.own 0 0])] =
 (W zAI false [.pv (.agg [.int .i64 i,.slice 3 j]),.pv (.imm 2 (.agg [.slice 3 a]) 0),.pv (.imm 2 (.agg [.slice 0 b]) 0),.pv (.imm 7 (.agg [.slice 0 c,.slice 6 d,.int .i64 e,.slice 0 f,.slice 0 g,.int .i64 h]) 0),.own 0 0] [.var false 0 (.fnv zAI [] [.pv (.imm 2 (.agg [.slice 3 a]) 0),.pv (.imm 2 (.agg [.slice 0 b]) 0),.pv (.imm 7 (.agg [.slice 0 c,.slice 6 d,.int .i64 e,.slice 0 f,.slice 0 g,.int .i64 h]) 0),.own 0 0])]).bind λ k=>zK0 k λ l m n o p q r s t=>zAT l λ u v=>some (.pv (.agg [.slice 0 u,.slice 0 v]),[.var false 0 (.fnv zAI [] [.pv (.imm 2 (.agg [.slice 3 m]) 0),.pv (.imm 2 (.agg [.slice 0 n]) 0),.pv (.imm 7 (.agg [.slice 0 o,.slice 6 p,.int .i64 q,.slice 0 r,.slice 0 s,.int .i64 t]) 0),.own 0 0])]):=goO (by kernel_rfl) (by kernel_rfl) (tO_ fi81 false 1) rfl (by kernel_rfl)
theorem zPY(b a:Int):wc W zFR [.int .i64 b,.int .i64 a] =
 (bif decide (a<0)then none else some (.int .i64 (Int.fdiv b (HPow.hPow (2:Int) (Min.min (Int.toNat a) 64))))).bind λ c=>zA2 c λ d=>some (.bool ((IntKind.wrap .i64 (((BitVec.toNat (HAnd.hAnd (BitVec.ofInt 64 d) (BitVec.ofInt 64 1))):Nat):Int))==1)):=gA_ (tN_ fi82)
def zEJ(a b:Int) (c:List PV) (d:Bool):Option PV:=(jN_ fi83) [1,0,0,1] (St.mk [(1,.pv (.int .i64 a)),(2,.pv (.imm 3 (.agg [.int .i64 b,.slice 3 c]) 0)),(11,.pv (.bool d))] [])
def zJg(a:Int) (b:List PV) (c:Bool):Option PV:=(jN_ fi83) [1,0,1,1,1,0,0,1] (St.mk [(2,.pv (.imm 3 (.agg [.int .i64 a,.slice 3 b]) 0)),(6,.pv (.bool c))] [])
theorem zDQ(g d:Int) (c:List PV) (h:Bool):zEJ g d c h =
 bif h then some (.tup [.int .i64 0,.bool false])else bif (c.length:Int)==0 then bif decide (GE.ge d 0)then zJg d c (decide (d<4))else zJg d c false else c[0]?.bind λ w=>zB3 w λ x i=>(wc W zEy [.agg [.int .i64 x,.slice 3 i],.int .i64 (IntKind.wrap .i64 (g-1))]).bind λ e=>e.asTup.bind λ j=>j[0]?.bind λ k=>zA2 k λ a=>e.asTup.bind λ l=>l[1]?.bind λ m=>c_b m λ n=>c[1]?.bind λ o=>zB3 o λ p q=>(wc W zEy [.agg [.int .i64 p,.slice 3 q],.int .i64 (IntKind.wrap .i64 (g-1))]).bind λ f=>f.asTup.bind λ r=>r[0]?.bind λ s=>zA2 s λ b=>f.asTup.bind λ t=>t[1]?.bind λ u=>c_b u λ v=>bif n then bif v then some (.tup [.int .i64 (IntKind.wrap .i64 (((BitVec.toNat (HOr.hOr (BitVec.ofInt 64 a) (BitVec.ofInt 64 b))):Nat):Int)),.bool ((IntKind.wrap .i64 (((BitVec.toNat (HAnd.hAnd (BitVec.ofInt 64 a) (BitVec.ofInt 64 b))):Nat):Int))==0)])else some (.tup [.int .i64 (IntKind.wrap .i64 (((BitVec.toNat (HOr.hOr (BitVec.ofInt 64 a) (BitVec.ofInt 64 b))):Nat):Int)),.bool false])else some (.tup [.int .i64 (IntKind.wrap .i64 (((BitVec.toNat (HOr.hOr (BitVec.ofInt 64 a) (BitVec.ofInt 64 b))):Nat):Int)),.bool false]):=((tN_ fi83).join [1,0,0,1] _).trans (by kernel_rfl)
theorem zPZ(a:Int) (e:List PV) (b:Bool):zJg a e b =
 (bif decide ((bif decide ((Int.tmod a 4)<0)then(0:Int)else Int.tmod a 4)<0)then none else some (.int .i64 (IntKind.wrap .i64 (1*(HPow.hPow (2:Int) (Min.min (Int.toNat (bif decide ((Int.tmod a 4)<0)then(0:Int)else Int.tmod a 4)) 64)):Int)))).bind λ c=>zA2 c λ d=>some (.tup [.int .i64 d,.bool b]):=((tN_ fi83).join [1,0,0,1,1,1,0,1] _).trans (by kernel_rfl)
theorem zQk(b:Int) (a:List PV) (c:Int):wc W zEy [.agg [.int .i64 b,.slice 3 a],.int .i64 c] =
 bif c==0 then zEJ c b a (c==0)else bif (a.length:Int) != 0 then bif (a.length:Int) != 2 then zEJ c b a ((a.length:Int) != 2)else bif (a.length:Int)==2 then zEJ c b a (b != 0)else zEJ c b a false else bif (a.length:Int)==2 then zEJ c b a (b != 0)else zEJ c b a false:=gA_ (tN_ fi83)
def zEd(a:PV) (b:List PV) (c d:Int) (e:List PV):Option PV:=(lN_ fi97) [0,1,0,1,1] 1 (St.mk [(1,.pv a),(5,.view 0 0 none),(9,.pv (.slice 6 b)),(10,.pv (.int .i64 c)),(11,.pv (.int .i64 d))] [.row false 0 0 e])
theorem zIL(d:PV) (e:List PV) (f a:Int) (b:List PV):zEd d e f a b =
 bif decide (a<f)then bif decide (0<=a)then e[Int.toNat a]?.bind λ m=>zG m λ n o p g h=>(wc W zKW [.agg [.int .i64 n,.int .i64 o,.int .i64 p,.int .i64 g,.slice 6 h]]).bind λ i=>zA2 i λ j=>(PV.asFn d).bind λ c=>(wc W (Prod.fst c) (((Prod.fst (Prod.snd c))++[.int .i64 j])++(Prod.snd (Prod.snd c)))).bind λ k=>c_b k λ l=>bif l then bif true&&(decide (((List.length b)+1:Nat)<=4294967296))then zEd d e f (IntKind.wrap .i64 (a+1)) (b++[.int .i64 a])else none else zEd d e f (IntKind.wrap .i64 (a+1)) b else none else some (.slice 0 b):=((tN_ fi97).loop [1,1,0,1,0] 1 _ rfl).trans (by kernel_rfl)
theorem zTZ(b a:List PV) (c:Int) (d e:List PV) (f:Int) (g:PV):wc W zH8 [.agg [.slice 0 b,.slice 6 a,.int .i64 c,.slice 0 d,.slice 0 e,.int .i64 f],g] =
 zEd g a (a.length:Int) 0 []:=gA_ (tN_ fi97)
def zDR(a:List PV) (b c d e f:Int) (g:List PV):Option (AV×List Ob):=(lO_ fi97 false 3) [0,1,0,1,1] 4 (St.mk [(1,.fnv zER [] [.own 0 0,.own 1 0,.own 2 0]),(5,.view 3 0 none),(9,.pv (.slice 6 a)),(10,.pv (.int .i64 b)),(11,.pv (.int .i64 c))] [.var false 0 (.pv (.int .i64 d)),.var false 0 (.pv (.int .i64 e)),.var false 0 (.pv (.int .i64 f)),.row false 0 0 g])
theorem zGY(c:List PV) (d a h i j:Int) (b:List PV):zDR c d a h i j b =
 bif decide (a<d)then bif decide (0<=a)then c[Int.toNat a]?.bind λ t=>zG t λ u k l m n=>(wc W zKW [.agg [.int .i64 u,.int .i64 k,.int .i64 l,.int .i64 m,.slice 6 n]]).bind λ o=>zA2 o λ p=>(W zER false [.pv (.int .i64 p),.own 0 0,.own 1 0,.own 2 0] [.var false 0 (.pv (.int .i64 h)),.var false 0 (.pv (.int .i64 i)),.var false 0 (.pv (.int .i64 j))]).bind λ q=>zR4 q λ r e f g=>c_b r λ s=>bif s then bif true&&(decide (((List.length b)+1:Nat)<=4294967296))then zDR c d (IntKind.wrap .i64 (a+1)) e f g (b++[.int .i64 a])else none else zDR c d (IntKind.wrap .i64 (a+1)) e f g b else none else some (.pv (.slice 0 b),[.var false 0 (.pv (.int .i64 h)),.var false 0 (.pv (.int .i64 i)),.var false 0 (.pv (.int .i64 j))]):=((tO_ fi97 false 3).loop [1,1,0,1,0] 4 _ rfl).trans (by kernel_rfl)
theorem zMn(e a:List PV) (f:Int) (g h:List PV) (i b c d:Int):W zH8 false [.pv (.agg [.slice 0 e,.slice 6 a,.int .i64 f,.slice 0 g,.slice 0 h,.int .i64 i]),.fnv zER [] [.own 0 0,.own 1 0,.own 2 0]] [.var false 0 (.pv (.int .i64 b)),.var false 0 (.pv (.int .i64 c)),.var false 0 (.pv (.int .i64 d))] =
 zDR a (a.length:Int) 0 b c d []:=goO (by kernel_rfl) (by kernel_rfl) (tO_ fi97 false 3) rfl (by kernel_rfl)
theorem zMo(b a:Int):wc W zAz [.int .i64 b,.int .i64 a] =
 some (.bool ((IntKind.wrap .i64 (((BitVec.toNat (HAnd.hAnd (BitVec.ofInt 64 b) (BitVec.ofInt 64 a))):Nat):Int))==a)):=gA_ (tN_ fi98)
theorem zVL(a b:Int):wc W zHE [.agg [.int .i64 a,.int .i64 b]] =
 (wc W zHF [.agg [.int .i64 a,.int .i64 b]]).bind λ c=>c_b c λ d=>some (.bool !d):=gA_ (tN_ fi99)
theorem zZ5(a b:Int):wc W zHF [.agg [.int .i64 a,.int .i64 b]] =
 bif decide (GE.ge a 0)then bif decide (a<3)then bif a==0 then some (.bool true)else some (.bool (b==0))else some (.bool false)else some (.bool false):=gA_ (tN_ z4Q)
theorem zDd(a:List PV) (b:PV):wc W zAP [.slice 3 a,b] =
 (wc W zBQ [.slice 3 a,b]).bind λ c=>zA2 c λ d=>some (.bool (decide (GE.ge d 0))):=gA_ (tN_ z4R)
def zGE(b:PV) (c:List PV) (d e:Int) (f g h a:List PV):Option PV:=(lN_ zUx) [0,1,0,1,1] 5 (St.mk [(1,.pv b),(4,.own 0 0),(5,.own 3 0),(13,.pv (.slice 0 c)),(14,.pv (.int .i64 d)),(15,.pv (.int .i64 e))] [.var false 3 (.agg [AV.nil 0,AV.nil 0]),.row false 0 0 f,.row false 0 0 g,.var false 3 (.agg [.pv (.slice 0 h),.view 4 0 none]),.row false 0 0 a])
theorem zJh(d:PV) (e:List PV) (f b:Int) (i j g a:List PV):zGE d e f b i j g a =
 bif decide (b<f)then bif decide (0<=b)then e[Int.toNat b]?.bind λ k=>c_s3 k λ h=>(PV.asFn d).bind λ c=>(wc W (Prod.fst c) (((Prod.fst (Prod.snd c))++[.slice 3 h])++(Prod.snd (Prod.snd c)))).bind λ l=>c_b l λ m=>bif m then(wc W zCL [.slice 3 h]).bind λ n=>c_s3 n λ o=>bif true&&(decide (((List.length a)+1:Nat)<=4294967296))then zGE d e f (IntKind.wrap .i64 (b+1)) i j g (a++[.slice 3 o])else none else zGE d e f (IntKind.wrap .i64 (b+1)) i j g a else none else some (.agg [.slice 0 g,.slice 0 a]):=((tN_ zUx).loop [1,1,0,1,0] 5 _ rfl).trans (by kernel_rfl)
theorem zXv(b a:List PV) (c:PV):wc W zID [.agg [.slice 0 b,.slice 0 a],c] =
 (wc W zBt [.slice 0 b]).bind λ d=>c_s0 d λ e=>zGE c a (a.length:Int) 0 [] [] e []:=gA_ (tN_ zUx)
def zEK(a:List PV) (b c:Int) (d e f g:List PV):Option (AV×List Ob):=(lO_ zUx true 0) [0,1,0,1,1] 5 (St.mk [(1,.pv (.fn zGB [] [])),(4,.own 0 0),(5,.own 3 0),(13,.pv (.slice 0 a)),(14,.pv (.int .i64 b)),(15,.pv (.int .i64 c))] [.var false 3 (.agg [AV.nil 0,AV.nil 0]),.row false 0 0 d,.row false 0 0 e,.var false 3 (.agg [.pv (.slice 0 f),.view 4 0 none]),.row false 0 0 g])
theorem zHh(c:List PV) (d a:Int) (g h e b:List PV):zEK c d a g h e b =
 bif decide (a<d)then bif decide (0<=a)then c[Int.toNat a]?.bind λ i=>c_s3 i λ f=>(wc W zGB [.slice 3 f]).bind λ j=>c_b j λ k=>bif k then(wc W zCL [.slice 3 f]).bind λ l=>c_s3 l λ m=>bif true&&(decide (((List.length b)+1:Nat)<=4294967296))then zEK c d (IntKind.wrap .i64 (a+1)) g h e (b++[.slice 3 m])else none else zEK c d (IntKind.wrap .i64 (a+1)) g h e b else none else some (.agg [.pv (.slice 0 e),.view 0 0 none],[.row false 0 0 b]):=((tO_ zUx true 0).loop [1,1,0,1,0] 5 _ rfl).trans (by kernel_rfl)
theorem zP0(b a:List PV):W zID true [.pv (.agg [.slice 0 b,.slice 0 a]),.pv (.fn zGB [] [])] [] =
 (wc W zBt [.slice 0 b]).bind λ c=>c_s0 c λ d=>zEK a (a.length:Int) 0 [] [] d []:=goO (by kernel_rfl) (by kernel_rfl) (tO_ zUx true 0) rfl (by kernel_rfl)
theorem zT0(c d a b:List PV):wc W zH9 [.slice 3 c,.imm 0 (.slice 6 d) 0,.imm 3 (.agg [.slice 0 a,.slice 0 b]) 0] =
 (wc W zBO [.slice 6 d,.fn zFu [] [.imm 3 (.agg [.slice 0 a,.slice 0 b]) 0,.imm 0 (.slice 3 c) 0]]).bind λ e=>c_b e λ f=>some (.bool !f):=gA_ (tN_ z4S)
theorem zEL(a:List PV) (b:PV):wc W zBO [.slice 6 a,b] =
 (wc W zB5 [.slice 6 a,b]).bind λ c=>zA2 c λ d=>some (.bool (decide (GE.ge d 0))):=gA_ (tN_ z4T)
theorem zQH(a b c d:Int) (e f g h:List PV):wc W zFu [.agg [.int .i64 a,.int .i64 b,.int .i64 c,.int .i64 d,.slice 6 e],.imm 3 (.agg [.slice 0 f,.slice 0 g]) 0,.imm 0 (.slice 3 h) 0] =
 (wc W zJ5 [.agg [.int .i64 a,.int .i64 b,.int .i64 c,.int .i64 d,.slice 6 e],.slice 0 f,.slice 3 h]).bind λ i=>c_b i λ j=>some (.bool !j):=gA_ (tN_ z4U)
theorem zT1(a b c d:Int) (e f g:List PV):wc W zJ5 [.agg [.int .i64 a,.int .i64 b,.int .i64 c,.int .i64 d,.slice 6 e],.slice 0 f,.slice 3 g] =
 (wc W zLC [.agg [.int .i64 a,.int .i64 b,.int .i64 c,.int .i64 d,.slice 6 e],.slice 0 f,.slice 3 g]).bind λ h=>zP h λ i j=>(wc W zGk [.agg [.int .i64 i,.int .i64 j]]).bind λ k=>c_b k λ l=>some (.bool l):=gA_ (tN_ z4V)
theorem zT2(a:List PV):wc W zGB [.slice 3 a] =
 some (.bool true):=gA_ (tN_ z4W)
theorem zDX(a:List PV) (b:Int):W zBP false [AV.fx 0 0,.fnv zR [] [.own 1 0]] [.fix 0 0 a,.var false 0 (.pv (.int .i64 b))] =
 (W zD0 false [AV.fx 0 0,.pv (.int .i64 (a.length:Int)),.fnv zR [] [.own 1 0]] [.fix 0 0 a,.var false 0 (.pv (.int .i64 b))]).bind λ c=>zET c λ f d e=>some (.pv (.tup []),[.fix 0 0 d,.var false 0 (.pv (.int .i64 e))]):=goO (by kernel_rfl) (by kernel_rfl) (tO_ z4X false 2) rfl (by kernel_rfl)
theorem zMp(b c:List PV) (a:Int):W zR false [.pv (.slice 3 b),.pv (.slice 3 c),.own 0 0] [.var false 0 (.pv (.int .i64 a))] =
 (wc W zKR [.slice 3 b,.int .i64 a]).bind λ d=>zP d λ e f=>(wc W zKR [.slice 3 c,.int .i64 a]).bind λ g=>zP g λ h i=>(wc W zG3 [.agg [.int .i64 e,.int .i64 f],.agg [.int .i64 h,.int .i64 i]]).bind λ j=>zA2 j λ k=>some (.pv (.int .i64 k),[.var false 0 (.pv (.int .i64 a))]):=goO (by kernel_rfl) (by kernel_rfl) (tO_ z4Y false 1) rfl (by kernel_rfl)
def zGb(a:PV) (b:List PV) (c d:Int):Option PV:=(lN_ zUy) [0,1,0,1,1] 0 (St.mk [(1,.pv a),(13,.pv (.slice 6 b)),(14,.pv (.int .i64 c)),(15,.pv (.int .i64 d))] [])
theorem zJB(b:PV) (c:List PV) (d a:Int):zGb b c d a =
 bif decide (a<d)then bif decide (0<=a)then c[Int.toNat a]?.bind λ k=>zG k λ l e f g h=>(wc W zEB [.agg [.int .i64 l,.int .i64 e,.int .i64 f,.int .i64 g,.slice 6 h],b]).bind λ i=>c_b i λ j=>bif !j then some (.bool false)else zGb b c d (IntKind.wrap .i64 (a+1))else none else some (.bool true):=((tN_ zUy).loop [1,1,0,1,0] 0 _ rfl).trans (by kernel_rfl)
theorem zVM(b c d e:Int) (a:List PV) (f:PV):wc W zEB [.agg [.int .i64 b,.int .i64 c,.int .i64 d,.int .i64 e,.slice 6 a],f] =
 (PV.asFn f).bind λ g=>(wc W (Prod.fst g) (((Prod.fst (Prod.snd g))++[.agg [.int .i64 b,.int .i64 c,.int .i64 d,.int .i64 e,.slice 6 a]])++(Prod.snd (Prod.snd g)))).bind λ h=>c_b h λ i=>bif !i then some (.bool false)else zGb f a (a.length:Int) 0:=gA_ (tN_ zUy)
def zEg(a:List PV) (b c d:Int):Option (AV×List Ob):=(lO_ zUy false 1) [0,1,0,1,1] 1 (St.mk [(1,.fnv zEE [] [.own 0 0]),(13,.pv (.slice 6 a)),(14,.pv (.int .i64 b)),(15,.pv (.int .i64 c))] [.var false 0 (.pv (.int .i64 d))])
theorem zHJ(b:List PV) (c a d:Int):zEg b c a d =
 bif decide (a<c)then bif decide (0<=a)then b[Int.toNat a]?.bind λ f=>zG f λ g h i j k=>(W zEB false [.pv (.agg [.int .i64 g,.int .i64 h,.int .i64 i,.int .i64 j,.slice 6 k]),.fnv zEE [] [.own 0 0]] [.var false 0 (.pv (.int .i64 d))]).bind λ l=>zDE l λ m e=>c_b m λ n=>bif !n then some (.pv (.bool false),[.var false 0 (.pv (.int .i64 e))])else zEg b c (IntKind.wrap .i64 (a+1)) e else none else some (.pv (.bool true),[.var false 0 (.pv (.int .i64 d))]):=((tO_ zUy false 1).loop [1,1,0,1,0] 1 _ rfl).trans (by kernel_rfl)
theorem zNr(b c d e:Int) (a:List PV) (f:Int):W zEB false [.pv (.agg [.int .i64 b,.int .i64 c,.int .i64 d,.int .i64 e,.slice 6 a]),.fnv zEE [] [.own 0 0]] [.var false 0 (.pv (.int .i64 f))] =
 (W zEE false [.pv (.agg [.int .i64 b,.int .i64 c,.int .i64 d,.int .i64 e,.slice 6 a]),.own 0 0] [.var false 0 (.pv (.int .i64 f))]).bind λ i=>zDE i λ j g=>c_b j λ h=>bif !h then some (.pv (.bool false),[.var false 0 (.pv (.int .i64 g))])else zEg a (a.length:Int) 0 g:=goO (by kernel_rfl) (by kernel_rfl) (tO_ zUy false 1) rfl (by kernel_rfl)
theorem zT3(a b c d:Int) (e f g h:List PV) (i:Int) (j k:List PV) (l:Int):wc W zGC [.agg [.int .i64 a,.int .i64 b,.int .i64 c,.int .i64 d,.slice 6 e],.imm 2 (.agg [.slice 3 f]) 0,.imm 7 (.agg [.slice 0 g,.slice 6 h,.int .i64 i,.slice 0 j,.slice 0 k,.int .i64 l]) 0] =
 (wc W zGO [.agg [.int .i64 a,.int .i64 b,.int .i64 c,.int .i64 d,.slice 6 e],.agg [.slice 3 f],.agg [.slice 0 g,.slice 6 h,.int .i64 i,.slice 0 j,.slice 0 k,.int .i64 l]]).bind λ m=>c_b m λ n=>some (.bool n):=gA_ (tN_ z4Z)
def zDo(f g h i:Int) (j k l m:List PV) (n:Int) (a b:List PV) (c d:Int) (e:Bool):Option PV:=(jN_ z1H) [1,0,1,0,1] (St.mk [(3,.pv (.imm 6 (.agg [.int .i64 f,.int .i64 g,.int .i64 h,.int .i64 i,.slice 6 j]) 0)),(4,.pv (.imm 2 (.agg [.slice 3 k]) 0)),(5,.pv (.imm 7 (.agg [.slice 0 l,.slice 6 m,.int .i64 n,.slice 0 a,.slice 0 b,.int .i64 c]) 0)),(12,.pv (.int .i64 d)),(13,.pv (.bool e))] [])
theorem zJi(s w a e:Int) (f x t u:List PV) (v:Int) (b c:List PV) (d g:Int) (h:Bool):zDo s w a e f x t u v b c d g h =
 bif h then some (.bool true)else bif g==4 then(wc W zEF [.agg [.int .i64 s,.int .i64 w,.int .i64 a,.int .i64 e,.slice 6 f]]).bind λ y=>zA2 y λ z=>(wc W zGA [.agg [.slice 3 x],.agg [.slice 0 t,.slice 6 u,.int .i64 v,.slice 0 b,.slice 0 c,.int .i64 d],.int .i64 z]).bind λ A=>c_s0 A λ B=>(wc W zB4 [.slice 0 B,.int .i64 a]).bind λ C=>c_b C λ D=>some (.bool D)else f[0]?.bind λ E=>zG E λ i j k l m=>f[1]?.bind λ F=>zG F λ n o p q r=>(wc W zEF [.agg [.int .i64 i,.int .i64 j,.int .i64 k,.int .i64 l,.slice 6 m]]).bind λ G=>zA2 G λ H=>(wc W zEF [.agg [.int .i64 n,.int .i64 o,.int .i64 p,.int .i64 q,.slice 6 r]]).bind λ I=>zA2 I λ J=>(wc W zI8 [.agg [.slice 0 t,.slice 6 u,.int .i64 v,.slice 0 b,.slice 0 c,.int .i64 d],.int .i64 H,.int .i64 J]).bind λ K=>c_s3 K λ L=>(wc W zCW [.slice 3 L,.agg [.int .i64 a,.int .i64 e]]).bind λ M=>c_b M λ N=>bif N then bif s==2 then some (.bool true)else(wc W zFz [.agg [.int .i64 i,.int .i64 j,.int .i64 k,.int .i64 l,.slice 6 m]]).bind λ O=>zA2 O λ P=>bif P==a then(wc W zFz [.agg [.int .i64 n,.int .i64 o,.int .i64 p,.int .i64 q,.slice 6 r]]).bind λ Q=>zA2 Q λ R=>some (.bool (R==e))else some (.bool false)else some (.bool false):=((tN_ z1H).join [1,0,1,0,1] _).trans (by kernel_rfl)
theorem zNs(a b c d:Int) (e f g h:List PV) (i:Int) (j k:List PV) (l:Int):wc W zGO [.agg [.int .i64 a,.int .i64 b,.int .i64 c,.int .i64 d,.slice 6 e],.agg [.slice 3 f],.agg [.slice 0 g,.slice 6 h,.int .i64 i,.slice 0 j,.slice 0 k,.int .i64 l]] =
 bif a==0 then zDo a b c d e f g h i j k l a (a==0)else zDo a b c d e f g h i j k l a (a==1):=gA_ (tN_ z1H)
theorem zLv(b c:List PV) (a:Int):W zC3 false [.pv (.slice 3 b),.pv (.imm 2 (.agg [.slice 3 c]) 0),.own 0 0] [.var false 0 (.pv (.int .i64 a))] =
 bif decide (0<=a)then c[Int.toNat a]?.bind λ d=>(PV.load 3 d 0 0).bind λ e=>zA2 e λ f=>(wc W zMf [.slice 3 b,.int .i64 f]).bind λ g=>c_b g λ h=>some (.pv (.bool !h),[.var false 0 (.pv (.int .i64 a))])else none:=goO (by kernel_rfl) (by kernel_rfl) (tO_ z40 false 1) rfl (by kernel_rfl)
theorem zXw(a:List PV) (b:Int):wc W zMf [.slice 3 a,.int .i64 b] =
 bif (a.length:Int)==b then(wc W zAP [.slice 3 a,.fn zHb [] []]).bind λ c=>c_b c λ d=>some (.bool !d)else some (.bool false):=gA_ (tN_ z41)
theorem zCy(a b:List PV) (c:Int):W zBH false [.pv (.slice 0 a),.fnv zC3 [] [.pv (.imm 2 (.agg [.slice 3 b]) 0),.own 0 0]] [.var false 0 (.pv (.int .i64 c))] =
 (W zCM false [.pv (.slice 0 a),.fnv zC3 [] [.pv (.imm 2 (.agg [.slice 3 b]) 0),.own 0 0]] [.var false 0 (.pv (.int .i64 c))]).bind λ d=>zDE d λ e f=>zA2 e λ g=>some (.pv (.bool (decide (GE.ge g 0))),[.var false 0 (.pv (.int .i64 f))]):=goO (by kernel_rfl) (by kernel_rfl) (tO_ z42 false 1) rfl (by kernel_rfl)
def zEh(d e f g:List PV) (h:Int) (i j:List PV) (k:Int) (l:List PV) (a b:Int) (c:List PV):Option PV:=(lN_ z1I) [0,1,0,1,1] 1 (St.mk [(2,.pv (.imm 9 (.agg [.slice 3 d,.slice 0 e,.slice 0 f,.slice 6 g,.int .i64 h,.slice 0 i,.slice 0 j,.int .i64 k]) 0)),(5,.view 0 0 none),(8,.pv (.slice 0 l)),(9,.pv (.int .i64 a)),(10,.pv (.int .i64 b))] [.row false 0 6 c])
theorem zHK(g h i e:List PV) (j:Int) (k l:List PV) (m:Int) (f:List PV) (c a:Int) (b:List PV):zEh g h i e j k l m f c a b =
 bif decide (a<c)then bif decide (0<=a)then f[Int.toNat a]?.bind λ n=>zA2 n λ d=>bif decide (0<=d)then e[Int.toNat d]?.bind λ o=>zG o λ p q r s t=>bif true&&(decide (((List.length b)+1:Nat)<=4294967296))then zEh g h i e j k l m f c (IntKind.wrap .i64 (a+1)) (b++[.agg [.int .i64 p,.int .i64 q,.int .i64 r,.int .i64 s,.slice 6 t]])else none else none else none else some (.slice 6 b):=((tN_ z1I).loop [1,1,0,1,0] 1 _ rfl).trans (by kernel_rfl)
theorem zQI(a b c d:List PV) (e:Int) (f g:List PV) (h:Int) (i:List PV):wc W zDj [.agg [.slice 3 a,.slice 0 b,.slice 0 c,.slice 6 d,.int .i64 e,.slice 0 f,.slice 0 g,.int .i64 h],.slice 0 i] =
 zEh a b c d e f g h i (i.length:Int) 0 []:=gA_ (tN_ z1I)
theorem zZ6(a b c d:Int) (e:List PV):wc W zFS [.agg [.int .i64 a,.int .i64 b,.int .i64 c,.int .i64 d,.slice 6 e]] =
 (wc W zGz [.agg [.int .i64 a,.int .i64 b,.int .i64 c,.int .i64 d,.slice 6 e]]).bind λ f=>f.asTup.bind λ h=>h[0]?.bind λ i=>zB3 i λ j k=>f.asTup.bind λ l=>l[1]?.bind λ m=>c_b m λ o=>(wc W zDK [.agg [.int .i64 j,.slice 3 k]]).bind λ n=>zA2 n λ g=>some (.int .i64 g):=gA_ (tN_ z43)
theorem zNt(e f g h:List PV) (i:Int) (j k:List PV) (l m n:Int) (a b c d:List PV):wc W zD9 [.agg [.slice 3 e,.slice 0 f,.slice 0 g,.slice 6 h,.int .i64 i,.slice 0 j,.slice 0 k,.int .i64 l],.agg [.int .i64 m,.int .i64 n],.agg [.slice 0 a,.slice 0 b],.agg [.slice 0 c,.slice 0 d]] =
 (wc W zI3 [.agg [.slice 0 a,.slice 0 b],.agg [.slice 0 c,.slice 0 d]]).bind λ o=>o.asTup.bind λ p=>p[0]?.bind λ q=>zAT q λ r s=>o.asTup.bind λ t=>t[1]?.bind λ u=>c_b u λ v=>some (.agg [.slice 0 r,.slice 0 s]):=gA_ (tN_ z44)
def zCs(g h i j:List PV) (k a:Int) (b:List PV) (c d:Int) (e:List (PV×PV)) (f:List PV):Option PV:=(lN_ zTH) [0,1,0,1,1,1] 3 (St.mk [(6,.pv (.imm 3 (.agg [.slice 0 g,.slice 0 h]) 0)),(7,.pv (.imm 3 (.agg [.slice 0 i,.slice 0 j]) 0)),(8,.own 0 0),(9,.pv (.int .i64 k)),(10,.pv (.int .i64 a)),(11,AV.gm 1),(35,.pv (.slice 0 b)),(36,.pv (.int .i64 c)),(37,.pv (.int .i64 d))] [.var false 3 (.agg [AV.nil 0,AV.nil 0]),.grp 0 none e,.row true 0 0 f])
def zBm(a:Int) (b:List PV) (c d:Int) (e:List (PV×PV)) (f g h i j:List PV):Option PV:=(lN_ zTH) [0,1,0,1,1,1,1,1] 7 (St.mk [(8,.own 0 0),(9,.pv (.int .i64 a)),(11,AV.gm 1),(16,.own 5 0),(65,.pv (.slice 0 b)),(66,.pv (.int .i64 c)),(67,.pv (.int .i64 d))] [.var false 3 (.agg [AV.nil 0,AV.nil 0]),.grp 0 none e,.row true 0 0 f,.row false 0 0 g,.row false 0 0 h,.var false 3 (.agg [.pv (.slice 0 i),.view 6 0 none]),.row false 0 0 j])
def zDp(a:Int) (b c:List PV) (d e:Int) (f:PV) (g h:Int) (i:List (PV×PV)) (j k l m n:List PV) (o p:Int):Option PV:=(lN_ zTH) [0,1,1,1,1,0,0,1,1,7,0,1,0,1,1,1,1,1] 8 (St.mk [(8,.own 0 0),(9,.pv (.int .i64 a)),(11,AV.gm 1),(16,.own 5 0),(18,.pv (.slice 3 b)),(65,.pv (.slice 0 c)),(66,.pv (.int .i64 d)),(67,.pv (.int .i64 e)),(81,.pv f),(82,.pv (.int .i64 g)),(83,.pv (.int .i64 h))] [.var false 3 (.agg [AV.nil 0,AV.nil 0]),.grp 0 none i,.row true 0 0 j,.row false 0 0 k,.row false 0 0 l,.var false 3 (.agg [.pv (.slice 0 m),.view 6 0 none]),.row false 0 0 n,.var false 3 (.pv (.agg [.int .i64 o,.int .i64 p]))])
theorem zGF(i:List PV) (g:List PV) (j:List PV) (q:List PV) (k:Int) (d:Int) (e:List PV) (f:Int) (a:Int) (b:List (PV×PV)) (h:List PV):zCs i g j q k d e f a b h =
 bif decide (a<f)then bif decide (0<=a)then e[Int.toNat a]?.bind λ r=>c_s3 r λ l=>(wc W zI9 [.slice 3 l,.int .i64 d]).bind λ m=>m.asTup.bind λ s=>s[0]?.bind λ t=>zP t λ n o=>m.asTup.bind λ u=>u[1]?.bind λ v=>c_b v λ w=>bif w then(gidx (eqP Cf.cfg (6:Nat) (196:TypeId)) (.agg [.int .i64 n,.int .i64 o]) b).bind λ c=>(zUS 0 c b).bind λ p=>bif true&&(decide (((List.length p)+1:Nat)<=4294967296))then bif (((decide (((c:Nat):Int)=((c:Nat):Int)))&&true)&&true)&&true then zCs i g j q k d e f (IntKind.wrap .i64 (a+1)) (gset (.slice 0 (p++[.slice 3 l])) c (gput (.agg [.int .i64 n,.int .i64 o]) 0 c b)) []else none else none else zCs i g j q k d e f (IntKind.wrap .i64 (a+1)) b h else none else(wc W zBl [.slice 0 [.slice 0 i,.slice 0 j]]).bind λ x=>c_s0 x λ y=>zBm k g (g.length:Int) 0 b h [] [] y []:=((tN_ zTH).loop [1,1,1,0,1,0] 3 _ rfl).trans (by kernel_rfl)
theorem zGG(b:Int) (c:List PV) (d:Int) (a:Int) (e:List (PV×PV)) (h:List PV) (i:List PV) (j:List PV) (f:List PV) (g:List PV):zBm b c d a e h i j f g =
 bif decide (a<d)then bif decide (0<=a)then c[Int.toNat a]?.bind λ p=>c_s3 p λ k=>(wc W zI9 [.slice 3 k,.int .i64 b]).bind λ l=>l.asTup.bind λ q=>q[0]?.bind λ r=>zP r λ m n=>l.asTup.bind λ s=>s[1]?.bind λ t=>c_b t λ u=>bif !u then zBm b c d (IntKind.wrap .i64 (a+1)) e h i j f g else(zL2 (eqP Cf.cfg (6:Nat) (196:TypeId)) (.agg [.int .i64 m,.int .i64 n]) e).bind λ o=>(PV.asSlice 0 (Option.getD o (.slice 0 []))).bind λ v=>zDp b k c d a (Option.getD o (.slice 0 [])) (v.length:Int) 0 e h i j f g m n else none else some (.agg [.slice 0 f,.slice 0 g]):=((tN_ zTH).loop [1,1,1,1,1,0,1,0] 7 _ rfl).trans (by kernel_rfl)
theorem zGH(c:Int) (d:List PV) (e:List PV) (f:Int) (g:Int) (h:PV) (i:Int) (a:Int) (j:List (PV×PV)) (k:List PV) (l:List PV) (m:List PV) (n:List PV) (b:List PV) (o:Int) (p:Int):zDp c d e f g h i a j k l m n b o p =
 bif decide (a<i)then(PV.asSlice 0 h).bind λ q=>bif decide (0<=a)then q[Int.toNat a]?.bind λ r=>c_s3 r λ s=>(wc W zKX [.slice 3 d,.slice 3 s]).bind λ t=>c_s3 t λ u=>bif true&&(decide (((List.length b)+1:Nat)<=4294967296))then zDp c d e f g h i (IntKind.wrap .i64 (a+1)) j k l m n (b++[.slice 3 u]) o p else none else none else zBm c e f (IntKind.wrap .i64 (g+1)) j k l m n b:=((tN_ zTH).loop [1,1,1,1,1,0,1,0,7,1,1,0,0,1,1,1,1,0] 8 _ rfl).trans (by kernel_rfl)
theorem zNu(g h i j:List PV) (k:Int) (l m:List PV) (n d e:Int) (b f c a:List PV):wc W zDa [.agg [.slice 3 g,.slice 0 h,.slice 0 i,.slice 6 j,.int .i64 k,.slice 0 l,.slice 0 m,.int .i64 n],.agg [.int .i64 d,.int .i64 e],.agg [.slice 0 b,.slice 0 f],.agg [.slice 0 c,.slice 0 a]] =
 (wc W zAZ [.slice 0 b,.int .i64 d]).bind λ o=>zA2 o λ p=>(wc W zAZ [.slice 0 c,.int .i64 e]).bind λ q=>zA2 q λ r=>zCs b f c a p r a (a.length:Int) 0 [] []:=gA_ (tN_ zTH)
def zBz(j k:List PV) (l a b:Int) (c:List PV) (d e:Int) (f g h i:List PV):Option PV:=(lN_ zNl) [0,1,0,1,1,1,1] 5 (St.mk [(7,.pv (.imm 3 (.agg [.slice 0 j,.slice 0 k]) 0)),(8,.own 0 0),(9,.pv (.int .i64 l)),(10,.pv (.int .i64 a)),(11,.own 3 0),(12,.pv (.int .i64 b)),(34,.pv (.slice 0 c)),(35,.pv (.int .i64 d)),(36,.pv (.int .i64 e))] [.var false 3 (.agg [AV.nil 0,AV.nil 0]),.row false 0 0 f,.row false 0 0 g,.var false 3 (.agg [.pv (.slice 0 h),.view 4 0 none]),.row false 0 0 i])
def zD7(a b:List PV) (c d e:Int) (f g:List PV) (h i:Int) (j k l m:List PV):Option PV:=(lN_ zNl) [0,0,1,0,0,1,1,5,0,1,0,1,1,1,1] 5 (St.mk [(7,.pv (.imm 3 (.agg [.slice 0 a,.slice 0 b]) 0)),(8,.own 0 0),(9,.pv (.int .i64 c)),(10,.pv (.int .i64 d)),(11,.own 3 0),(12,.pv (.int .i64 e)),(14,.pv (.slice 3 f)),(34,.pv (.slice 0 g)),(35,.pv (.int .i64 h)),(36,.pv (.int .i64 i))] [.var false 3 (.agg [AV.nil 0,AV.nil 0]),.row false 0 0 j,.row false 0 0 k,.var false 3 (.agg [.pv (.slice 0 l),.view 4 0 none]),.row false 0 0 m])
def zEs(a b:List PV) (c d e:Int) (f g:List PV) (h i:Int) (j k l m:List PV):Option PV:=(jN_ zNl) [1,1,0,0,1,1,5,0,1,0,1,1,1,1] (St.mk [(7,.pv (.imm 3 (.agg [.slice 0 a,.slice 0 b]) 0)),(8,.own 0 0),(9,.pv (.int .i64 c)),(10,.pv (.int .i64 d)),(11,.own 3 0),(12,.pv (.int .i64 e)),(14,.pv (.slice 3 f)),(34,.pv (.slice 0 g)),(35,.pv (.int .i64 h)),(36,.pv (.int .i64 i))] [.var false 3 (.agg [AV.nil 0,AV.nil 0]),.row false 0 0 j,.row false 0 0 k,.var false 3 (.agg [.pv (.slice 0 l),.view 4 0 none]),.row false 0 0 m])
def zCd(a b:List PV) (c d e:Int) (f:List PV) (g:Int) (h:List PV) (i j:Int) (k l m n:List PV):Option PV:=(lN_ zNl) [0,1,1,1,0,0,1,1,5,0,1,0,1,1,1,1] 5 (St.mk [(7,.pv (.imm 3 (.agg [.slice 0 a,.slice 0 b]) 0)),(8,.own 0 0),(9,.pv (.int .i64 c)),(10,.pv (.int .i64 d)),(11,.own 3 0),(12,.pv (.int .i64 e)),(14,.pv (.slice 3 f)),(15,.pv (.int .i64 g)),(34,.pv (.slice 0 h)),(35,.pv (.int .i64 i)),(36,.pv (.int .i64 j))] [.var false 3 (.agg [AV.nil 0,AV.nil 0]),.row false 0 0 k,.row false 0 0 l,.var false 3 (.agg [.pv (.slice 0 m),.view 4 0 none]),.row false 0 0 n])
def zHL(a b:List PV) (c d e:Int) (f:List PV) (g:Int) (h:List PV) (i j:Int) (k l m n:List PV):Option PV:=(jN_ zNl) [1,5,0,1,1,1,0,0,1,1,5,0,1,0,1,1,1,1] (St.mk [(7,.pv (.imm 3 (.agg [.slice 0 a,.slice 0 b]) 0)),(8,.own 0 0),(9,.pv (.int .i64 c)),(10,.pv (.int .i64 d)),(11,.own 3 0),(12,.pv (.int .i64 e)),(14,.pv (.slice 3 f)),(15,.pv (.int .i64 g)),(34,.pv (.slice 0 h)),(35,.pv (.int .i64 i)),(36,.pv (.int .i64 j))] [.var false 3 (.agg [AV.nil 0,AV.nil 0]),.row false 0 0 k,.row false 0 0 l,.var false 3 (.agg [.pv (.slice 0 m),.view 4 0 none]),.row false 0 0 n])
theorem zF5(j k:List PV) (l f g:Int) (b:List PV) (c a:Int) (h i d e:List PV):zBz j k l f g b c a h i d e =
 bif decide (a<c)then bif decide (0<=a)then b[Int.toNat a]?.bind λ m=>c_s3 m λ n=>zD7 j k l f g n b c a h i d e else none else some (.agg [.slice 0 d,.slice 0 e]):=((tN_ zNl).loop [1,1,1,1,0,1,0] 5 _ rfl).trans (by kernel_rfl)
theorem zF6(f b:List PV) (c d a:Int) (e g:List PV) (h i:Int) (j k l m:List PV):zD7 f b c d a e g h i j k l m =
 bif decide (a<(b.length:Int))then bif decide (0<=a)then b[Int.toNat a]?.bind λ n=>c_s3 n λ o=>bif decide (0<=d)then o[Int.toNat d]?.bind λ p=>zP p λ q r=>bif decide (0<=c)then e[Int.toNat c]?.bind λ s=>zP s λ t u=>(wc W zMh [.agg [.int .i64 q,.int .i64 r],.agg [.int .i64 t,.int .i64 u]]).bind λ v=>c_b v λ w=>bif w then zD7 f b c d (IntKind.wrap .i64 (a+1)) e g h i j k l m else zEs f b c d a e g h i j k l m else none else none else none else zEs f b c d a e g h i j k l m:=((tN_ zNl).loop [1,1,1,1,0,1,0,5,1,1,0,0,1,0,0] 5 _ rfl).trans (by kernel_rfl)
theorem zF7(b c:List PV) (d e a:Int) (f g:List PV) (h i:Int) (j k l m:List PV):zEs b c d e a f g h i j k l m =
 zCd b c d e a f a g h i j k l m:=((tN_ zNl).join [1,1,1,1,0,1,0,5,1,1,0,0,1,1] _).trans (by kernel_rfl)
theorem zF8(e a:List PV) (b c f:Int) (n:List PV) (d:Int) (g:List PV) (h i:Int) (j k l m:List PV):zCd e a b c f n d g h i j k l m =
 bif decide (d<(a.length:Int))then bif decide (0<=d)then a[Int.toNat d]?.bind λ o=>c_s3 o λ p=>bif decide (0<=c)then p[Int.toNat c]?.bind λ q=>zP q λ r s=>bif decide (0<=b)then n[Int.toNat b]?.bind λ t=>zP t λ u v=>(wc W zLj [.agg [.int .i64 r,.int .i64 s],.agg [.int .i64 u,.int .i64 v]]).bind λ w=>zP w λ x y=>(wc W zGk [.agg [.int .i64 x,.int .i64 y]]).bind λ z=>c_b z λ A=>bif A then zHL e a b c f n d g h i j k l m else zBz e a b c f g h (IntKind.wrap .i64 (i+1)) j k l m else none else none else none else zBz e a b c f g h (IntKind.wrap .i64 (i+1)) j k l m:=((tN_ zNl).loop [1,1,1,1,0,1,0,5,1,1,0,0,1,1,1,0] 5 _ rfl).trans (by kernel_rfl)
theorem zJH(e b:List PV) (f g h:Int) (c:List PV) (a:Int) (i:List PV) (j k:Int) (l m n d:List PV):zHL e b f g h c a i j k l m n d =
 bif decide (0<=a)then b[Int.toNat a]?.bind λ q=>c_s3 q λ r=>(wc W zKX [.slice 3 c,.slice 3 r]).bind λ o=>c_s3 o λ p=>bif true&&(decide (((List.length d)+1:Nat)<=4294967296))then zCd e b f g h c (IntKind.wrap .i64 (a+1)) i j k l m n (d++[.slice 3 p])else none else none:=((tN_ zNl).join [1,1,1,1,0,1,0,5,1,1,0,0,1,1,1,0,5,1] _).trans (by kernel_rfl)
theorem zMq(g h i j:List PV) (k:Int) (l m:List PV) (n d e:Int) (b c a f:List PV):wc W zDM [.agg [.slice 3 g,.slice 0 h,.slice 0 i,.slice 6 j,.int .i64 k,.slice 0 l,.slice 0 m,.int .i64 n],.agg [.int .i64 d,.int .i64 e],.agg [.slice 0 b,.slice 0 c],.agg [.slice 0 a,.slice 0 f]] =
 (wc W zAZ [.slice 0 b,.int .i64 d]).bind λ o=>zA2 o λ p=>(wc W zAZ [.slice 0 a,.int .i64 e]).bind λ q=>zA2 q λ r=>(wc W zBl [.slice 0 [.slice 0 b,.slice 0 a]]).bind λ s=>c_s0 s λ t=>zBz a f p r 0 c (c.length:Int) 0 [] [] t []:=gA_ (tN_ zNl)
def zCj(a b c:List PV) (d e:Int):Option PV:=(lN_ z1J) [0,1,0,1] 0 (St.mk [(0,.pv (.slice 0 a)),(1,.pv (.slice 0 b)),(9,.pv (.slice 0 c)),(10,.pv (.int .i64 d)),(11,.pv (.int .i64 e))] [])
theorem zCZ(d b e:List PV) (f a:Int):zCj d b e f a =
 bif decide (a<f)then bif decide (0<=a)then e[Int.toNat a]?.bind λ h=>zA2 h λ i=>bif decide (GE.ge a (b.length:Int))then some (.int .i64 1)else bif decide (0<=a)then b[Int.toNat a]?.bind λ j=>zA2 j λ k=>(wc W zDO [.int .i64 i,.int .i64 k]).bind λ g=>zA2 g λ c=>bif c != 0 then some (.int .i64 c)else zCj d b e f (IntKind.wrap .i64 (a+1))else none else none else bif decide ((d.length:Int)<(b.length:Int))then some (.int .i64 (-1))else some (.int .i64 0):=((tN_ z1J).loop [1,0,1,0] 0 _ rfl).trans (by kernel_rfl)
theorem zIM(a b:List PV):wc W zEz [.slice 0 a,.slice 0 b] =
 zCj a b a (a.length:Int) 0:=gA_ (tN_ z1J)
def zBR(a b:List PV) (c:Int) (d e:List PV) (f:Int) (g:Bool):Option PV:=(jN_ zTI) [1,1] (St.mk [(3,.pv (.imm 7 (.agg [.slice 0 a,.slice 6 b,.int .i64 c,.slice 0 d,.slice 0 e,.int .i64 f]) 0)),(5,.pv (.bool g))] [])
def zCt(g h:List PV) (a:Int) (b c:List PV) (d:Int) (e:Bool) (f:Int):Option PV:=(lN_ zTI) [0,1,0,1,1] 0 (St.mk [(3,.pv (.imm 7 (.agg [.slice 0 g,.slice 6 h,.int .i64 a,.slice 0 b,.slice 0 c,.int .i64 d]) 0)),(5,.pv (.bool e)),(6,.pv (.int .i64 f))] [])
def zGI(a b:List PV) (c:Int) (d e:List PV) (f g:Int):Option PV:=(jN_ zTI) [1,0,0,1,0,1,1] (St.mk [(3,.pv (.imm 7 (.agg [.slice 0 a,.slice 6 b,.int .i64 c,.slice 0 d,.slice 0 e,.int .i64 f]) 0)),(6,.pv (.int .i64 g))] [])
theorem zIN(a b:List PV) (c:Int) (d e:List PV) (f:Int) (g:Bool):zBR a b c d e f g =
 zCt a b c d e f g 0:=((tN_ zTI).join [1,1] _).trans (by kernel_rfl)
theorem zFE(h g:List PV) (c:Int) (d e:List PV) (f:Int) (a:Bool) (b:Int):zCt h g c d e f a b =
 bif decide (b<(g.length:Int))then bif a then zGI h g c d e f b else some (.bool a)else some (.bool a):=((tN_ zTI).loop [1,1,0,1,0] 0 _ rfl).trans (by kernel_rfl)
theorem zIO(c b:List PV) (d:Int) (e f:List PV) (g a:Int):zGI c b d e f g a =
 bif decide (0<=a)then b[Int.toNat a]?.bind λ h=>zG h λ i j k l m=>(wc W zEr [.agg [.int .i64 i,.int .i64 j,.int .i64 k,.int .i64 l,.slice 6 m],.int .i64 60]).bind λ n=>c_b n λ o=>zCt c b d e f g o (IntKind.wrap .i64 (a+1))else none:=((tN_ zTI).join [1,1,0,1,0,0,1] _).trans (by kernel_rfl)
theorem zLR(g a b:List PV) (e:Int) (c d:List PV) (f:Int):wc W zCc [.agg [.slice 3 g],.agg [.slice 0 a,.slice 6 b,.int .i64 e,.slice 0 c,.slice 0 d,.int .i64 f]] =
 bif decide ((g.length:Int)<=10)then bif decide ((a.length:Int)<=20)then bif decide ((b.length:Int)<=8)then bif decide ((c.length:Int)<=20)then zBR a b e c d f (decide ((d.length:Int)<=20))else zBR a b e c d f false else zBR a b e c d f false else zBR a b e c d f false else zBR a b e c d f false:=gA_ (tN_ zTI)
def zBc(a:List PV) (b:Bool) (c:Int):Option PV:=(lN_ zQE) [0,1,0,1,1] 0 (St.mk [(1,.pv (.imm 2 (.agg [.slice 0 a]) 0)),(3,.pv (.bool b)),(4,.pv (.int .i64 c))] [])
def zGJ(a:List PV) (b:Int):Option PV:=(jN_ zQE) [1,0,0,1,0,1,1] (St.mk [(1,.pv (.imm 2 (.agg [.slice 0 a]) 0)),(4,.pv (.int .i64 b))] [])
def zCu(c:List PV) (d:Bool) (a b:Int):Option PV:=(lN_ zQE) [0,1,1,0,0,1,0,0,1,0,1,1] 0 (St.mk [(1,.pv (.imm 2 (.agg [.slice 0 c]) 0)),(3,.pv (.bool d)),(4,.pv (.int .i64 a)),(5,.pv (.int .i64 b))] [])
def zGK(a:List PV) (b c:Int):Option PV:=(jN_ zQE) [1,0,0,1,1,0,0,1,0,0,1,0,1,1] (St.mk [(1,.pv (.imm 2 (.agg [.slice 0 a]) 0)),(4,.pv (.int .i64 b)),(5,.pv (.int .i64 c))] [])
theorem zFF(b:List PV) (a:Bool) (c:Int):zBc b a c =
 bif decide (c<(b.length:Int))then bif a then zGJ b c else some (.bool a)else some (.bool a):=((tN_ zQE).loop [1,1,0,1,0] 0 _ rfl).trans (by kernel_rfl)
theorem zIP(b:List PV) (a:Int):zGJ b a =
 bif decide (0<=a)then b[Int.toNat a]?.bind λ c=>c_s0 c λ d=>zCu b (decide ((d.length:Int)<=20)) a 0 else none:=((tN_ zQE).join [1,1,0,1,0,0,1] _).trans (by kernel_rfl)
theorem zFG(b:List PV) (d:Bool) (a c:Int):zCu b d a c =
 bif decide (0<=a)then b[Int.toNat a]?.bind λ e=>c_s0 e λ f=>bif decide (c<(f.length:Int))then bif d then zGK b a c else zBc b d (IntKind.wrap .i64 (a+1))else zBc b d (IntKind.wrap .i64 (a+1))else none:=((tN_ zQE).loop [1,1,0,1,0,0,1,0,0,1,1,0] 0 _ rfl).trans (by kernel_rfl)
theorem zIQ(c:List PV) (a b:Int):zGK c a b =
 bif decide (0<=a)then c[Int.toNat a]?.bind λ d=>c_s0 d λ e=>bif decide (0<=b)then e[Int.toNat b]?.bind λ f=>c_s3 f λ g=>zCu c (decide ((g.length:Int)<=20)) a (IntKind.wrap .i64 (b+1))else none else none:=((tN_ zQE).join [1,1,0,1,0,0,1,0,0,1,1,0,0,1] _).trans (by kernel_rfl)
theorem zLS(a:List PV):wc W zEq [.agg [.slice 0 a]] =
 zBc a (decide ((a.length:Int)<=10)) 0:=gA_ (tN_ zQE)
theorem zZ7(a b c:Int):wc W zFT [.int .i64 a,.int .i64 b,.int .i64 c] =
 bif decide (GE.ge a b)then some (.bool (decide (a<=c)))else some (.bool false):=gA_ (tN_ z47)
def zN3(a b:Int):Option PV:=(jN_ z1K) [1,1] (St.mk [(0,.pv (.int .i64 a)),(1,.pv (.int .i64 b))] [])
theorem zP1(a b:Int):zN3 a b =
 some (.int .i64 (IntKind.wrap .i64 ((IntKind.wrap .i64 (4*a:Int))+b:Int))):=((tN_ z1K).join [1,1] _).trans (by kernel_rfl)
theorem zXx(a b:Int):wc W zIE [.int .i64 a,.int .i64 b] =
 (wc W zFT [.int .i64 a,.int .i64 0,.int .i64 3]).bind λ c=>c_b c λ d=>bif !d then some (.int .i64 (-1))else(wc W zFT [.int .i64 b,.int .i64 0,.int .i64 3]).bind λ e=>c_b e λ f=>bif !f then some (.int .i64 (-1))else zN3 a b:=gA_ (tN_ z1K)
def zCK(a:List PV) (b:Int) (c:List PV) (d e:Int):Option PV:=(lN_ zX9) [0,1,0,1,1] 0 (St.mk [(0,.pv (.slice 0 a)),(3,.pv (.int .i64 b)),(9,.pv (.slice 0 c)),(10,.pv (.int .i64 d)),(11,.pv (.int .i64 e))] [])
def zB6(a:List PV) (b c:Int) (d:List PV):Option PV:=(lN_ zX9) [0,1,0,1,1,1,1] 1 (St.mk [(6,.view 0 0 none),(25,.pv (.slice 0 a)),(26,.pv (.int .i64 b)),(27,.pv (.int .i64 c))] [.row false 0 0 d])
theorem zDq(b:List PV) (c:Int) (d:List PV) (e a:Int):zCK b c d e a =
 bif decide (a<e)then bif decide (0<=a)then d[Int.toNat a]?.bind λ h=>c_s0 h λ f=>bif decide ((IntKind.wrap .i64 (c+(f.length:Int):Int))<0)then none else zCK b (IntKind.wrap .i64 (c+(f.length:Int):Int)) d e (IntKind.wrap .i64 (a+1))else none else(W zEG true [AV.nil 0,.pv (.int .i64 c)] []).bind λ i=>zR7 i λ g=>zB6 b (b.length:Int) 0 g:=((tN_ zX9).loop [1,1,0,1,0] 0 _ rfl).trans (by kernel_rfl)
theorem zDr(c:List PV) (d a:Int) (b:List PV):zB6 c d a b =
 bif decide (a<d)then bif decide (0<=a)then c[Int.toNat a]?.bind λ f=>c_s0 f λ e=>bif true&&(decide (((List.length b)+(List.length e):Nat)<=4294967296))then zB6 c d (IntKind.wrap .i64 (a+1)) (b++e)else none else none else some (.slice 0 b):=((tN_ zX9).loop [1,1,1,1,0,1,0] 1 _ rfl).trans (by kernel_rfl)
theorem zIh(a:List PV):wc W zBl [.slice 0 a] =
 zCK a 0 a (a.length:Int) 0:=gA_ (tN_ zX9)
def zBJ(a:List PV) (b:Int) (c:List PV) (d e:Int):Option PV:=(lN_ zXa) [0,1,0,1,1] 0 (St.mk [(0,.pv (.slice 0 a)),(3,.pv (.int .i64 b)),(9,.pv (.slice 0 c)),(10,.pv (.int .i64 d)),(11,.pv (.int .i64 e))] [])
def zAn(a:List PV) (b c:Int) (d:List PV):Option PV:=(lN_ zXa) [0,1,0,1,1,1,1] 1 (St.mk [(6,.view 0 0 none),(25,.pv (.slice 0 a)),(26,.pv (.int .i64 b)),(27,.pv (.int .i64 c))] [.row false 0 3 d])
theorem zC9(b:List PV) (c:Int) (d:List PV) (e a:Int):zBJ b c d e a =
 bif decide (a<e)then bif decide (0<=a)then d[Int.toNat a]?.bind λ h=>c_s3 h λ f=>bif decide ((IntKind.wrap .i64 (c+(f.length:Int):Int))<0)then none else zBJ b (IntKind.wrap .i64 (c+(f.length:Int):Int)) d e (IntKind.wrap .i64 (a+1))else none else(W zCX true [AV.nil 3,.pv (.int .i64 c)] []).bind λ i=>zWW i λ g=>zAn b (b.length:Int) 0 g:=((tN_ zXa).loop [1,1,0,1,0] 0 _ rfl).trans (by kernel_rfl)
theorem zCa(c:List PV) (d a:Int) (b:List PV):zAn c d a b =
 bif decide (a<d)then bif decide (0<=a)then c[Int.toNat a]?.bind λ f=>c_s3 f λ e=>bif true&&(decide (((List.length b)+(List.length e):Nat)<=4294967296))then zAn c d (IntKind.wrap .i64 (a+1)) (b++e)else none else none else some (.slice 3 b):=((tN_ zXa).loop [1,1,1,1,0,1,0] 1 _ rfl).trans (by kernel_rfl)
theorem zFm(a:List PV):wc W zBT [.slice 0 a] =
 zBJ a 0 a (a.length:Int) 0:=gA_ (tN_ zXa)
theorem zE8(a:List PV) (b:PV):wc W zBY [.slice 3 a,b] =
 (wc W zBh [.slice 3 a,b]).bind λ c=>zA2 c λ d=>some (.bool (decide (GE.ge d 0))):=gA_ (tN_ z48)
theorem zT4(a b:Int):wc W zHa [.agg [.int .i64 a,.int .i64 b]] =
 (wc W zMg [.agg [.int .i64 a,.int .i64 b]]).bind λ c=>c_b c λ d=>some (.bool !d):=gA_ (tN_ z49)
theorem zXy(a b:Int):wc W zMg [.agg [.int .i64 a,.int .i64 b]] =
 ((bif a==0 then bif b==0 then some true else some false else some false).bind λ c=>some (.bool !c)).bind λ d=>c_b d λ e=>bif e then(wc W zFT [.int .i64 a,.int .i64 1,.int .i64 4]).bind λ f=>c_b f λ g=>bif g then(wc W zFT [.int .i64 b,.int .i64 1,.int .i64 1000000]).bind λ h=>c_b h λ i=>some (.bool i)else some (.bool false)else some (.bool false):=gA_ (tN_ z4a)
def zBg(a:List PV) (b:PV) (c d:Int):Option PV:=(lN_ z1L) [0,1,0,1] 0 (St.mk [(0,.pv (.slice 0 a)),(1,.pv b),(7,.pv (.int .i64 c)),(8,.pv (.int .i64 d))] [])
theorem zDS(b:List PV) (c:PV) (d a:Int):zBg b c d a =
 bif decide (a<d)then bif decide (0<=a)then b[Int.toNat a]?.bind λ f=>zA2 f λ g=>(PV.asFn c).bind λ e=>(wc W (Prod.fst e) (((Prod.fst (Prod.snd e))++[.int .i64 g])++(Prod.snd (Prod.snd e)))).bind λ h=>c_b h λ i=>bif i then some (.int .i64 a)else zBg b c d (IntKind.wrap .i64 (a+1))else none else some (.int .i64 (-1)):=((tN_ z1L).loop [1,0,1,0] 0 _ rfl).trans (by kernel_rfl)
theorem zHV(a:List PV) (b:PV):wc W zCi [.slice 0 a,b] =
 zBg a b (a.length:Int) 0:=gA_ (tN_ z1L)
theorem zXz(a b c d:Int) (e:List PV):wc W zIF [.agg [.int .i64 a,.int .i64 b,.int .i64 c,.int .i64 d,.slice 6 e]] =
 (W zEC false [.pv (.agg [.int .i64 a,.int .i64 b,.int .i64 c,.int .i64 d,.slice 6 e]),.pv (.int .i64 1),.fnv zD1 [] [.own 0 0]] [.var false 0 (.pv (.int .i64 0))]).bind λ g=>zDE g λ h i=>c_b h λ f=>some (.bool f):=gA_ (tN_ z4b)
def zEi(a:Int) (b:List PV) (c d e:Int):Option (AV×List Ob):=(lO_ zUz false 1) [0,1,0,1,1] 1 (St.mk [(1,.pv (.int .i64 a)),(2,.fnv zD1 [] [.own 0 0]),(15,.pv (.slice 6 b)),(16,.pv (.int .i64 c)),(17,.pv (.int .i64 d))] [.var false 0 (.pv (.int .i64 e))])
theorem zHM(b:Int) (c:List PV) (d a e:Int):zEi b c d a e =
 bif decide (a<d)then bif decide (0<=a)then c[Int.toNat a]?.bind λ g=>zG g λ h i j k l=>(W zEC false [.pv (.agg [.int .i64 h,.int .i64 i,.int .i64 j,.int .i64 k,.slice 6 l]),.pv (.int .i64 (IntKind.wrap .i64 (b+1))),.fnv zD1 [] [.own 0 0]] [.var false 0 (.pv (.int .i64 e))]).bind λ m=>zDE m λ n f=>c_b n λ o=>bif !o then some (.pv (.bool false),[.var false 0 (.pv (.int .i64 f))])else zEi b c d (IntKind.wrap .i64 (a+1)) f else none else some (.pv (.bool true),[.var false 0 (.pv (.int .i64 e))]):=((tO_ zUz false 1).loop [1,1,0,1,0] 1 _ rfl).trans (by kernel_rfl)
theorem zNv(d e f g:Int) (a:List PV) (c h:Int):W zEC false [.pv (.agg [.int .i64 d,.int .i64 e,.int .i64 f,.int .i64 g,.slice 6 a]),.pv (.int .i64 c),.fnv zD1 [] [.own 0 0]] [.var false 0 (.pv (.int .i64 h))] =
 (W zD1 false [.pv (.agg [.int .i64 d,.int .i64 e,.int .i64 f,.int .i64 g,.slice 6 a]),.pv (.int .i64 c),.own 0 0] [.var false 0 (.pv (.int .i64 h))]).bind λ j=>zDE j λ k b=>c_b k λ i=>bif !i then some (.pv (.bool false),[.var false 0 (.pv (.int .i64 b))])else zEi c a (a.length:Int) 0 b:=goO (by kernel_rfl) (by kernel_rfl) (tO_ zUz false 1) rfl (by kernel_rfl)
def zEj(a:Int) (b:List PV) (c d:Int) (e:List PV):Option (AV×List Ob):=(lO_ zUz false 2) [0,1,0,1,1] 2 (St.mk [(1,.pv (.int .i64 a)),(2,.fnv zCp [] [.own 0 0]),(15,.pv (.slice 6 b)),(16,.pv (.int .i64 c)),(17,.pv (.int .i64 d))] [.var false 0 (.view 1 0 none),.row false 0 0 e])
theorem zHN(b:Int) (c:List PV) (d a:Int) (e:List PV):zEj b c d a e =
 bif decide (a<d)then bif decide (0<=a)then c[Int.toNat a]?.bind λ g=>zG g λ h i j k l=>(W zEC false [.pv (.agg [.int .i64 h,.int .i64 i,.int .i64 j,.int .i64 k,.slice 6 l]),.pv (.int .i64 (IntKind.wrap .i64 (b+1))),.fnv zCp [] [.own 0 0]] [.var false 0 (.view 1 0 none),.row false 0 0 e]).bind λ m=>zOR m λ n f=>c_b n λ o=>bif !o then some (.pv (.bool false),[.var false 0 (.view 1 0 none),.row false 0 0 f])else zEj b c d (IntKind.wrap .i64 (a+1)) f else none else some (.pv (.bool true),[.var false 0 (.view 1 0 none),.row false 0 0 e]):=((tO_ zUz false 2).loop [1,1,0,1,0] 2 _ rfl).trans (by kernel_rfl)
theorem zNw(d e f g:Int) (a:List PV) (c:Int) (h:List PV):W zEC false [.pv (.agg [.int .i64 d,.int .i64 e,.int .i64 f,.int .i64 g,.slice 6 a]),.pv (.int .i64 c),.fnv zCp [] [.own 0 0]] [.var false 0 (.view 1 0 none),.row false 0 0 h] =
 (W zCp false [.pv (.agg [.int .i64 d,.int .i64 e,.int .i64 f,.int .i64 g,.slice 6 a]),.pv (.int .i64 c),.own 0 0] [.var false 0 (.view 1 0 none),.row false 0 0 h]).bind λ j=>zOR j λ k b=>c_b k λ i=>bif !i then some (.pv (.bool false),[.var false 0 (.view 1 0 none),.row false 0 0 b])else zEj c a (a.length:Int) 0 b:=goO (by kernel_rfl) (by kernel_rfl) (tO_ zUz false 2) rfl (by kernel_rfl)
theorem zLw(b c d e:Int) (f:List PV) (g:Int) (a:List PV):W zCp false [.pv (.agg [.int .i64 b,.int .i64 c,.int .i64 d,.int .i64 e,.slice 6 f]),.pv (.int .i64 g),.own 0 0] [.var false 0 (.view 1 0 none),.row false 0 0 a] =
 bif b==1 then bif true&&(decide (((List.length a)+1:Nat)<=4294967296))then some (.pv (.bool true),[.var false 0 (.view 1 0 none),.row false 0 0 (a++[.int .i64 c])])else none else some (.pv (.bool true),[.var false 0 (.view 1 0 none),.row false 0 0 a]):=goO (by kernel_rfl) (by kernel_rfl) (tO_ z4c false 2) rfl (by kernel_rfl)
theorem zNx(a:Int) (b:List PV):wc W zGP [.int .i64 a,.imm 0 (.slice 0 b) 0] =
 (wc W zB4 [.slice 0 b,.int .i64 a]).bind λ c=>c_b c λ d=>some (.bool !d):=gA_ (tN_ z4d)
theorem zMr(b c d e:Int) (f:List PV) (a:Int):W zEE false [.pv (.agg [.int .i64 b,.int .i64 c,.int .i64 d,.int .i64 e,.slice 6 f]),.own 0 0] [.var false 0 (.pv (.int .i64 a))] =
 bif decide ((IntKind.wrap .i64 (a+1))<=20)then(wc W zGQ [.agg [.int .i64 b,.int .i64 c,.int .i64 d,.int .i64 e,.slice 6 f]]).bind λ g=>c_b g λ h=>some (.pv (.bool h),[.var false 0 (.pv (.int .i64 (IntKind.wrap .i64 (a+1))))])else some (.pv (.bool false),[.var false 0 (.pv (.int .i64 (IntKind.wrap .i64 (a+1))))]):=goO (by kernel_rfl) (by kernel_rfl) (tO_ z4e false 1) rfl (by kernel_rfl)
def zDs(a b c d:Int) (e:List PV) (f:Bool):Option PV:=(jN_ zXb) [1,1] (St.mk [(1,.pv (.imm 6 (.agg [.int .i64 a,.int .i64 b,.int .i64 c,.int .i64 d,.slice 6 e]) 0)),(3,.pv (.bool f))] [])
def zBn(a b c d:Int) (e:List PV) (f g:Bool):Option PV:=(jN_ zXb) [1,1,1] (St.mk [(1,.pv (.imm 6 (.agg [.int .i64 a,.int .i64 b,.int .i64 c,.int .i64 d,.slice 6 e]) 0)),(3,.pv (.bool f)),(4,.pv (.bool g))] [])
theorem zJj(a d c b:Int) (e:List PV) (f:Bool):zDs a d c b e f =
 ((bif c==0 then bif b==0 then some true else some false else some false).bind λ g=>some (.bool g)).bind λ h=>c_b h λ i=>bif i then zBn a d c b e f true else bif a==2 then zBn a d c b e f true else bif a==3 then zBn a d c b e f true else bif a==4 then zBn a d c b e f (b==0)else zBn a d c b e f false:=((tN_ zXb).join [1,1] _).trans (by kernel_rfl)
theorem zJk(a c d e:Int) (b:List PV) (f g:Bool):zBn a c d e b f g =
 bif decide (GE.ge a 0)then bif decide (a<5)then(wc W zFk [.agg [.int .i64 a,.int .i64 c,.int .i64 d,.int .i64 e,.slice 6 b]]).bind λ h=>zA2 h λ i=>bif (b.length:Int)==i then bif f then some (.bool g)else some (.bool false)else some (.bool false)else some (.bool false)else some (.bool false):=((tN_ zXb).join [1,1,1] _).trans (by kernel_rfl)
theorem zNy(a b c d:Int) (e:List PV):wc W zGQ [.agg [.int .i64 a,.int .i64 b,.int .i64 c,.int .i64 d,.slice 6 e]] =
 bif a==0 then zDs a b c d e true else zDs a b c d e (b==0):=gA_ (tN_ zXb)
theorem zVN(a:Int):wc W zLB [.int .i64 a] =
 some (.agg [.int .i64 a,.slice 3 []]):=gA_ (tN_ z4f)
theorem zLx(d a b c:Int):W zER false [.pv (.int .i64 d),.own 0 0,.own 1 0,.own 2 0] [.var false 0 (.pv (.int .i64 a)),.var false 0 (.pv (.int .i64 b)),.var false 0 (.pv (.int .i64 c))] =
 (wc W zAz [.int .i64 a,.int .i64 d]).bind λ e=>c_b e λ f=>bif f then(wc W zAz [.int .i64 b,.int .i64 d]).bind λ g=>c_b g λ h=>bif !h then(wc W zAz [.int .i64 c,.int .i64 d]).bind λ i=>c_b i λ j=>some (.pv (.bool !j),[.var false 0 (.pv (.int .i64 a)),.var false 0 (.pv (.int .i64 b)),.var false 0 (.pv (.int .i64 c))])else some (.pv (.bool false),[.var false 0 (.pv (.int .i64 a)),.var false 0 (.pv (.int .i64 b)),.var false 0 (.pv (.int .i64 c))])else some (.pv (.bool false),[.var false 0 (.pv (.int .i64 a)),.var false 0 (.pv (.int .i64 b)),.var false 0 (.pv (.int .i64 c))]):=goO (by kernel_rfl) (by kernel_rfl) (tO_ z4g false 3) rfl (by kernel_rfl)
theorem z13(a:Int):wc W zFv [.int .i64 a] =
 some (.agg [.int .i64 0,.int .i64 a]):=gA_ (tN_ z4h)
theorem zYA(a b c d:Int) (e:List PV):wc W zKW [.agg [.int .i64 a,.int .i64 b,.int .i64 c,.int .i64 d,.slice 6 e]] =
 (wc W zI7 [.agg [.int .i64 a,.int .i64 b,.int .i64 c,.int .i64 d,.slice 6 e]]).bind λ f=>c_s0 f λ g=>(wc W zGl [.slice 0 g]).bind λ h=>zA2 h λ i=>some (.int .i64 i):=gA_ (tN_ z4i)
def zAi(a:List PV) (b:PV) (c d:Int):Option PV:=(lN_ z1M) [0,1,0,1] 0 (St.mk [(0,.pv (.slice 3 a)),(1,.pv b),(7,.pv (.int .i64 c)),(8,.pv (.int .i64 d))] [])
theorem zBi(b:List PV) (c:PV) (d a:Int):zAi b c d a =
 bif decide (a<d)then bif decide (0<=a)then b[Int.toNat a]?.bind λ g=>zP g λ h i=>(PV.asFn c).bind λ e=>(wc W (Prod.fst e) (((Prod.fst (Prod.snd e))++[.agg [.int .i64 h,.int .i64 i]])++(Prod.snd (Prod.snd e)))).bind λ j=>c_b j λ f=>bif f then some (.int .i64 a)else zAi b c d (IntKind.wrap .i64 (a+1))else none else some (.int .i64 (-1)):=((tN_ z1M).loop [1,0,1,0] 0 _ rfl).trans (by kernel_rfl)
theorem zEM(a:List PV) (b:PV):wc W zBQ [.slice 3 a,b] =
 zAi a b (a.length:Int) 0:=gA_ (tN_ z1M)
end Go.Cf

namespace Go.Cf
open Go Go.Ab
set_option maxRecDepth 100000
def zAs(a:List PV) (b:PV) (c d:Int):Option PV:=(lN_ z1N) [0,1,0,1] 0 (St.mk [(0,.pv (.slice 6 a)),(1,.pv b),(7,.pv (.int .i64 c)),(8,.pv (.int .i64 d))] [])
theorem zBu(c:List PV) (d:PV) (e a:Int):zAs c d e a =
 bif decide (a<e)then bif decide (0<=a)then c[Int.toNat a]?.bind λ i=>zG i λ j k l m f=>(PV.asFn d).bind λ b=>(wc W (Prod.fst b) (((Prod.fst (Prod.snd b))++[.agg [.int .i64 j,.int .i64 k,.int .i64 l,.int .i64 m,.slice 6 f]])++(Prod.snd (Prod.snd b)))).bind λ g=>c_b g λ h=>bif h then some (.int .i64 a)else zAs c d e (IntKind.wrap .i64 (a+1))else none else some (.int .i64 (-1)):=((tN_ z1N).loop [1,0,1,0] 0 _ rfl).trans (by kernel_rfl)
theorem zEe(a:List PV) (b:PV):wc W zB5 [.slice 6 a,b] =
 zAs a b (a.length:Int) 0:=gA_ (tN_ z1N)
theorem zYB(a b:Int):wc W zGk [.agg [.int .i64 a,.int .i64 b]] =
 bif a==0 then some (.bool (b != 0))else some (.bool false):=gA_ (tN_ z4k)
theorem zVO(a b c d:Int) (e f g:List PV):wc W zLC [.agg [.int .i64 a,.int .i64 b,.int .i64 c,.int .i64 d,.slice 6 e],.slice 0 f,.slice 3 g] =
 (wc W zIF [.agg [.int .i64 a,.int .i64 b,.int .i64 c,.int .i64 d,.slice 6 e]]).bind λ h=>c_b h λ i=>bif !i then some (.agg [.int .i64 2,.int .i64 0])else(wc W zIa [.agg [.int .i64 a,.int .i64 b,.int .i64 c,.int .i64 d,.slice 6 e],.slice 0 f,.slice 3 g]).bind λ j=>zP j λ k l=>some (.agg [.int .i64 k,.int .i64 l]):=gA_ (tN_ z4l)
def zBE(a b c d:Int) (e:List PV) (f:Int):Option (AV×List Ob):=(lO_ zTJ false 2) [0,0,1,1] 2 (St.mk [(0,AV.fx 0 0),(1,.pv (.int .i64 a)),(2,.fnv zR [] [.own 1 0]),(6,.pv (.int .i64 b)),(7,.pv (.int .i64 c)),(8,.pv (.int .i64 d))] [.fix 0 0 e,.var false 0 (.pv (.int .i64 f))])
def zAf(a b:Int) (c:List PV) (d:Int):Option (AV×List Ob):=(lO_ zTJ false 2) [0,1,1,1,1] 2 (St.mk [(0,AV.fx 0 0),(1,.pv (.int .i64 a)),(2,.fnv zR [] [.own 1 0]),(6,.pv (.int .i64 b))] [.fix 0 0 c,.var false 0 (.pv (.int .i64 d))])
def zBF(a b c d:Int) (e:List PV) (f:Int):Option (AV×List Ob):=(lO_ zTJ false 2) [0,0,1,0,1,2,0,1,1,1,1] 2 (St.mk [(0,AV.fx 0 0),(1,.pv (.int .i64 a)),(2,.fnv zR [] [.own 1 0]),(6,.pv (.int .i64 b)),(7,.pv (.int .i64 c)),(8,.pv (.int .i64 d))] [.fix 0 0 e,.var false 0 (.pv (.int .i64 f))])
theorem zEV(a c d b:Int) (e:List PV) (f:Int):zBE a c d b e f =
 bif decide (b<=a)then(W zAx false [AV.fx 0 0,.pv (.int .i64 d),.pv (.int .i64 b),.fnv zR [] [.own 1 0]] [.fix 0 0 e,.var false 0 (.pv (.int .i64 f))]).bind λ g=>zET g λ m h i=>zBE a c b (IntKind.wrap .i64 (b+c:Int)) h i else(W zAx false [AV.fx 0 0,.pv (.int .i64 d),.pv (.int .i64 a),.fnv zR [] [.own 1 0]] [.fix 0 0 e,.var false 0 (.pv (.int .i64 f))]).bind λ j=>zET j λ n k l=>zAf a c k l:=((tO_ zTJ false 2).loop [1,1,0,0] 2 _ rfl).trans (by kernel_rfl)
theorem zCS(b a:Int) (c:List PV) (d:Int):zAf b a c d =
 bif decide (a<b)then zBF b a 0 (IntKind.wrap .i64 (2*a:Int)) c d else some (.pv (.tup []),[.fix 0 0 c,.var false 0 (.pv (.int .i64 d))]):=((tO_ zTJ false 2).loop [1,1,1,1,0] 2 _ rfl).trans (by kernel_rfl)
theorem zEW(b a c d:Int) (e:List PV) (f:Int):zBF b a c d e f =
 bif decide (d<=b)then(W zA8 false [AV.fx 0 0,.pv (.int .i64 c),.pv (.int .i64 (IntKind.wrap .i64 (c+a:Int))),.pv (.int .i64 d),.fnv zR [] [.own 1 0]] [.fix 0 0 e,.var false 0 (.pv (.int .i64 f))]).bind λ g=>zET g λ m h i=>zBF b a d (IntKind.wrap .i64 (d+(IntKind.wrap .i64 (2*a:Int)):Int)) h i else bif decide ((IntKind.wrap .i64 (c+a:Int))<b)then(W zA8 false [AV.fx 0 0,.pv (.int .i64 c),.pv (.int .i64 (IntKind.wrap .i64 (c+a:Int))),.pv (.int .i64 b),.fnv zR [] [.own 1 0]] [.fix 0 0 e,.var false 0 (.pv (.int .i64 f))]).bind λ j=>zET j λ n k l=>zAf b (IntKind.wrap .i64 (a*2:Int)) k l else zAf b (IntKind.wrap .i64 (a*2:Int)) e f:=((tO_ zTJ false 2).loop [1,1,1,1,0,2,1,0,1,0,0] 2 _ rfl).trans (by kernel_rfl)
theorem zEt(a:Int) (b:List PV) (c:Int):W zD0 false [AV.fx 0 0,.pv (.int .i64 a),.fnv zR [] [.own 1 0]] [.fix 0 0 b,.var false 0 (.pv (.int .i64 c))] =
 zBE a 20 0 20 b c:=goO (by kernel_rfl) (by kernel_rfl) (tO_ zTJ false 2) rfl (by kernel_rfl)
theorem zP2(a b c d:Int) (e:List PV):wc W zEF [.agg [.int .i64 a,.int .i64 b,.int .i64 c,.int .i64 d,.slice 6 e]] =
 (wc W zD6 [.agg [.int .i64 a,.int .i64 b,.int .i64 c,.int .i64 d,.slice 6 e]]).bind λ f=>zB3 f λ g h=>(wc W zDK [.agg [.int .i64 g,.slice 3 h]]).bind λ i=>zA2 i λ j=>some (.int .i64 j):=gA_ (tN_ z4m)
theorem zGT(c:List PV) (a b:Int):wc W zCW [.slice 3 c,.agg [.int .i64 a,.int .i64 b]] =
 (wc W zE1 [.slice 3 c,.agg [.int .i64 a,.int .i64 b]]).bind λ d=>zA2 d λ e=>some (.bool (decide (GE.ge e 0))):=gA_ (tN_ z4n)
def zCe(f g:Int) (h i:List PV) (j:Int) (k l:List PV) (a:Int) (b:List PV) (c d:Int) (e:List PV):Option PV:=(lN_ zTK) [0,1,0,1,1] 1 (St.mk [(1,.pv (.int .i64 f)),(2,.pv (.int .i64 g)),(3,.pv (.imm 7 (.agg [.slice 0 h,.slice 6 i,.int .i64 j,.slice 0 k,.slice 0 l,.int .i64 a]) 0)),(7,.view 0 0 none),(18,.pv (.slice 0 b)),(19,.pv (.int .i64 c)),(20,.pv (.int .i64 d))] [.row false 0 3 e])
def zEN(a b:Int) (c d:List PV) (e:Int) (f g:List PV) (h:Int) (i:List PV) (j k:Int) (l:List PV) (m n:Int) (o:List PV):Option PV:=(lN_ zTK) [0,1,1,1,1,0,0,1,1,1,0,1,0,1,1] 1 (St.mk [(1,.pv (.int .i64 a)),(2,.pv (.int .i64 b)),(3,.pv (.imm 7 (.agg [.slice 0 c,.slice 6 d,.int .i64 e,.slice 0 f,.slice 0 g,.int .i64 h]) 0)),(7,.view 0 0 none),(18,.pv (.slice 0 i)),(19,.pv (.int .i64 j)),(20,.pv (.int .i64 k)),(42,.pv (.slice 3 l)),(43,.pv (.int .i64 m)),(44,.pv (.int .i64 n))] [.row false 0 3 o])
def zHO(a b:Int) (c d:List PV) (e:Int) (f g:List PV) (h:Int) (i:List PV) (j k:Int) (l:List PV) (m n:Int) (o:Bool) (p:List PV) (q r:Int):Option PV:=(jN_ zTK) [1,1,0,0,1,1,1,0,1,1,1,1,0,0,1,1,1,0,1,0,1,1] (St.mk [(1,.pv (.int .i64 a)),(2,.pv (.int .i64 b)),(3,.pv (.imm 7 (.agg [.slice 0 c,.slice 6 d,.int .i64 e,.slice 0 f,.slice 0 g,.int .i64 h]) 0)),(7,.view 0 0 none),(14,.own 1 0),(18,.pv (.slice 0 i)),(19,.pv (.int .i64 j)),(20,.pv (.int .i64 k)),(42,.pv (.slice 3 l)),(43,.pv (.int .i64 m)),(44,.pv (.int .i64 n)),(57,.pv (.bool o))] [.row false 0 3 p,.var true 3 (.pv (.agg [.int .i64 q,.int .i64 r]))])
theorem zHi(k l:Int) (m g:List PV) (n:Int) (o p:List PV) (e:Int) (b:List PV) (c a:Int) (d:List PV):zCe k l m g n o p e b c a d =
 bif decide (a<c)then bif decide (0<=a)then b[Int.toNat a]?.bind λ q=>zA2 q λ h=>bif decide (0<=h)then g[Int.toNat h]?.bind λ r=>zG r λ s t u v w=>(wc W zLE [.agg [.int .i64 s,.int .i64 t,.int .i64 u,.int .i64 v,.slice 6 w]]).bind λ f=>f.asTup.bind λ x=>x[0]?.bind λ y=>zA2 y λ i=>f.asTup.bind λ z=>z[1]?.bind λ A=>zA2 A λ j=>f.asTup.bind λ B=>B[2]?.bind λ C=>c_b C λ D=>bif !D then zCe k l m g n o p e b c (IntKind.wrap .i64 (a+1)) d else zEN k l m g n o p e b c a [.agg [.int .i64 i,.int .i64 j],.agg [.int .i64 j,.int .i64 i]] 2 0 d else none else none else some (.slice 3 d):=((tN_ zTK).loop [1,1,0,1,0] 1 _ rfl).trans (by kernel_rfl)
theorem zFX(b c:Int) (d e:List PV) (f:Int) (g h:List PV) (i:Int) (j:List PV) (k l:Int) (m:List PV) (n a:Int) (o:List PV):zEN b c d e f g h i j k l m n a o =
 bif decide (a<n)then bif decide (0<=a)then m[Int.toNat a]?.bind λ r=>zP r λ p q=>(wc W zGl [.slice 0 [.int .i64 p]]).bind λ s=>zA2 s λ t=>(wc W zAz [.int .i64 b,.int .i64 t]).bind λ u=>c_b u λ v=>bif v then(wc W zGl [.slice 0 [.int .i64 q]]).bind λ w=>zA2 w λ x=>(wc W zAz [.int .i64 c,.int .i64 x]).bind λ y=>c_b y λ z=>zHO b c d e f g h i j k l m n a z o p q else zHO b c d e f g h i j k l m n a false o p q else none else zCe b c d e f g h i j k (IntKind.wrap .i64 (l+1)) o:=((tN_ zTK).loop [1,1,0,1,0,1,1,1,0,0,1,1,1,1,0] 1 _ rfl).trans (by kernel_rfl)
theorem zHj(b c:Int) (d e:List PV) (f:Int) (g h:List PV) (i:Int) (j:List PV) (k l:Int) (m:List PV) (n o:Int) (p:Bool) (a:List PV) (q r:Int):zHO b c d e f g h i j k l m n o p a q r =
 bif p then bif true&&(decide (((List.length a)+1:Nat)<=4294967296))then zCe b c d e f g h i j k (IntKind.wrap .i64 (l+1)) (a++[.agg [.int .i64 q,.int .i64 r]])else none else zEN b c d e f g h i j k l m n (IntKind.wrap .i64 (o+1)) a:=((tN_ zTK).join [1,1,0,1,0,1,1,1,0,0,1,1,1,1,0,1,1,1,0,0,1,1] _).trans (by kernel_rfl)
theorem zRe(a b:List PV) (c:Int) (d e:List PV) (f g h:Int):wc W zI8 [.agg [.slice 0 a,.slice 6 b,.int .i64 c,.slice 0 d,.slice 0 e,.int .i64 f],.int .i64 g,.int .i64 h] =
 (wc W zEp [.agg [.slice 0 a,.slice 6 b,.int .i64 c,.slice 0 d,.slice 0 e,.int .i64 f],.int .i64 g,.int .i64 h]).bind λ j=>c_s0 j λ i=>zCe g h a b c d e f i (i.length:Int) 0 []:=gA_ (tN_ zTK)
theorem zT5(a b:Int):wc W zHb [.agg [.int .i64 a,.int .i64 b]] =
 (wc W zHF [.agg [.int .i64 a,.int .i64 b]]).bind λ c=>c_b c λ d=>some (.bool !d):=gA_ (tN_ z4o)
def zA1(a b:List PV) (c d e:Int):Option (AV×List Ob):=(lO_ z1O false 1) [0,1,0,1] 1 (St.mk [(0,.pv (.slice 0 a)),(1,.fnv zC3 [] [.pv (.imm 2 (.agg [.slice 3 b]) 0),.own 0 0]),(7,.pv (.int .i64 c)),(8,.pv (.int .i64 d))] [.var false 0 (.pv (.int .i64 e))])
theorem zB7(c d:List PV) (e a f:Int):zA1 c d e a f =
 bif decide (a<e)then bif decide (0<=a)then c[Int.toNat a]?.bind λ j=>c_s3 j λ k=>(W zC3 false [.pv (.slice 3 k),.pv (.imm 2 (.agg [.slice 3 d]) 0),.own 0 0] [.var false 0 (.pv (.int .i64 f))]).bind λ g=>zDE g λ h b=>c_b h λ i=>bif i then some (.pv (.int .i64 a),[.var false 0 (.pv (.int .i64 b))])else zA1 c d e (IntKind.wrap .i64 (a+1)) b else none else some (.pv (.int .i64 (-1)),[.var false 0 (.pv (.int .i64 f))]):=((tO_ z1O false 1).loop [1,0,1,0] 1 _ rfl).trans (by kernel_rfl)
theorem zDY(a b:List PV) (c:Int):W zCM false [.pv (.slice 0 a),.fnv zC3 [] [.pv (.imm 2 (.agg [.slice 3 b]) 0),.own 0 0]] [.var false 0 (.pv (.int .i64 c))] =
 zA1 a b (a.length:Int) 0 c:=goO (by kernel_rfl) (by kernel_rfl) (tO_ z1O false 1) rfl (by kernel_rfl)
theorem zVP(b:List PV) (a:Int):wc W zI9 [.slice 3 b,.int .i64 a] =
 bif decide (0<=a)then b[Int.toNat a]?.bind λ d=>zP d λ c e=>some (.tup [.agg [.int .i64 c,.int .i64 e],.bool (c==0)])else none:=gA_ (tN_ z4p)
theorem zYC(a b:List PV):wc W zKX [.slice 3 a,.slice 3 b] =
 (wc W zBT [.slice 0 [.slice 3 a,.slice 3 b]]).bind λ c=>c_s3 c λ d=>some (.slice 3 d):=gA_ (tN_ z4q)
theorem zYD(a b c d:Int):wc W zMh [.agg [.int .i64 a,.int .i64 b],.agg [.int .i64 c,.int .i64 d]] =
 (wc W zIG [.agg [.int .i64 a,.int .i64 b]]).bind λ h=>zP h λ i j=>(wc W zIG [.agg [.int .i64 c,.int .i64 d]]).bind λ k=>zP k λ l m=>(wc W zDO [.int .i64 i,.int .i64 l]).bind λ n=>zA2 n λ o=>(wc W zDO [.int .i64 j,.int .i64 m]).bind λ p=>zA2 p λ e=>(wc W zJ7 [.slice 0 [.int .i64 o,.int .i64 e]]).bind λ f=>zA2 f λ g=>some (.bool (decide (g<0))):=gA_ (tN_ z4r)
theorem z14(a b c d:Int):wc W zLj [.agg [.int .i64 a,.int .i64 b],.agg [.int .i64 c,.int .i64 d]] =
 (wc W zHG [.slice 3 [.agg [.int .i64 a,.int .i64 b],.agg [.int .i64 c,.int .i64 d]]]).bind λ e=>e.asTup.bind λ k=>k[0]?.bind λ l=>zP l λ m n=>e.asTup.bind λ o=>o[1]?.bind λ p=>c_b p λ q=>bif q then some (.agg [.int .i64 m,.int .i64 n])else((bif a==c then bif b==d then some true else some false else some false).bind λ r=>some (.bool r)).bind λ f=>c_b f λ g=>(wc W zLk [.bool g]).bind λ h=>zP h λ i j=>some (.agg [.int .i64 i,.int .i64 j]):=gA_ (tN_ z4s)
theorem zMs(a b:Int):wc W zDO [.int .i64 a,.int .i64 b] =
 (wc W zHH [.int .i64 a]).bind λ d=>c_b d λ e=>(wc W zHH [.int .i64 b]).bind λ f=>c_b f λ c=>bif e then bif c then some (.int .i64 0)else some (.int .i64 (-1))else bif c then some (.int .i64 1)else bif decide (a<b)then some (.int .i64 (-1))else bif decide (GT.gt a b)then some (.int .i64 1)else some (.int .i64 0):=gA_ (tN_ z4t)
theorem zLT(a b c d:Int) (e:List PV) (f:Int):wc W zEr [.agg [.int .i64 a,.int .i64 b,.int .i64 c,.int .i64 d,.slice 6 e],.int .i64 f] =
 (wc W zDD [.agg [.int .i64 a,.int .i64 b,.int .i64 c,.int .i64 d,.slice 6 e],.int .i64 f]).bind λ g=>zA2 g λ h=>some (.bool (decide (h<=f))):=gA_ (tN_ z4u)
def zE4(a:Int) (b:List PV):Option (AV×List Ob):=(jO_ z1P true 0) [1,1] (St.mk [(0,AV.nil 0),(1,.pv (.int .i64 a))] [.row false 0 0 b])
theorem zGU(a:Int) (b:List PV):zE4 a b =
 bif decide (GT.gt (IntKind.wrap .i64 (a-0:Int)) 0)then bif (((decide (0<(IntKind.wrap .i64 (a-0:Int))))&&(decide ((IntKind.wrap .i64 (a-0:Int))<=4294967296)))&&true)&&true then some (.view 0 0 none,[.row false 0 0 []])else none else some (.view 0 0 none,[.row false 0 0 []]):=((tO_ z1P true 0).join [1,1] _).trans (by kernel_rfl)
theorem zHW(a:Int):W zEG true [AV.nil 0,.pv (.int .i64 a)] [] =
 bif decide (a<0)then none else zE4 a []:=goO (by kernel_rfl) (by kernel_rfl) (tO_ z1P true 0) rfl (by kernel_rfl)
def zCh(a:Int) (b:List PV):Option (AV×List Ob):=(jO_ z1Q true 0) [1,1] (St.mk [(0,AV.nil 3),(1,.pv (.int .i64 a))] [.row false 0 3 b])
theorem zE9(a:Int) (b:List PV):zCh a b =
 bif decide (GT.gt (IntKind.wrap .i64 (a-0:Int)) 0)then bif (((decide (0<(IntKind.wrap .i64 (a-0:Int))))&&(decide ((IntKind.wrap .i64 (a-0:Int))<=4294967296)))&&true)&&true then some (.view 0 0 none,[.row false 0 3 []])else none else some (.view 0 0 none,[.row false 0 3 []]):=((tO_ z1Q true 0).join [1,1] _).trans (by kernel_rfl)
theorem zFJ(a:Int):W zCX true [AV.nil 3,.pv (.int .i64 a)] [] =
 bif decide (a<0)then none else zCh a []:=goO (by kernel_rfl) (by kernel_rfl) (tO_ z1Q true 0) rfl (by kernel_rfl)
def zBC(a:List PV) (b:PV) (c d:Int):Option PV:=(lN_ z1R) [0,1,0,1] 0 (St.mk [(0,.pv (.slice 3 a)),(1,.pv b),(7,.pv (.int .i64 c)),(8,.pv (.int .i64 d))] [])
theorem zCO(b:List PV) (c:PV) (d a:Int):zBC b c d a =
 bif decide (a<d)then bif decide (0<=a)then b[Int.toNat a]?.bind λ g=>zP g λ h i=>(PV.asFn c).bind λ e=>(wc W (Prod.fst e) (((Prod.fst (Prod.snd e))++[.agg [.int .i64 h,.int .i64 i]])++(Prod.snd (Prod.snd e)))).bind λ j=>c_b j λ f=>bif f then some (.int .i64 a)else zBC b c d (IntKind.wrap .i64 (a+1))else none else some (.int .i64 (-1)):=((tN_ z1R).loop [1,0,1,0] 0 _ rfl).trans (by kernel_rfl)
theorem zFK(a:List PV) (b:PV):wc W zBh [.slice 3 a,b] =
 zBC a b (a.length:Int) 0:=gA_ (tN_ z1R)
theorem zMt(b c d e:Int) (f:List PV) (g a:Int):W zD1 false [.pv (.agg [.int .i64 b,.int .i64 c,.int .i64 d,.int .i64 e,.slice 6 f]),.pv (.int .i64 g),.own 0 0] [.var false 0 (.pv (.int .i64 a))] =
 bif decide ((IntKind.wrap .i64 (a+1))<=30)then bif decide (g<=6)then(wc W zLD [.agg [.int .i64 b,.int .i64 c,.int .i64 d,.int .i64 e,.slice 6 f]]).bind λ h=>c_b h λ i=>some (.pv (.bool i),[.var false 0 (.pv (.int .i64 (IntKind.wrap .i64 (a+1))))])else some (.pv (.bool false),[.var false 0 (.pv (.int .i64 (IntKind.wrap .i64 (a+1))))])else some (.pv (.bool false),[.var false 0 (.pv (.int .i64 (IntKind.wrap .i64 (a+1))))]):=goO (by kernel_rfl) (by kernel_rfl) (tO_ z4v false 1) rfl (by kernel_rfl)
def zGc(e f g h:Int) (i:List PV) (a:Bool) (b c:Int) (d:PV):Option PV:=(jN_ zTL) [1,1,1] (St.mk [(1,.pv (.imm 6 (.agg [.int .i64 e,.int .i64 f,.int .i64 g,.int .i64 h,.slice 6 i]) 0)),(4,.pv (.bool a))] [.var false 4 (.pv (.agg [.int .i64 b,.int .i64 c,d]))])
def zEX(a b c d:Int) (e:List PV) (f g:Bool) (h i:Int) (j:PV):Option PV:=(jN_ zTL) [1,1,1,1] (St.mk [(1,.pv (.imm 6 (.agg [.int .i64 a,.int .i64 b,.int .i64 c,.int .i64 d,.slice 6 e]) 0)),(4,.pv (.bool f)),(5,.pv (.bool g))] [.var false 4 (.pv (.agg [.int .i64 h,.int .i64 i,j]))])
def zFY(a b c d:Int) (e:List PV) (f g h:Bool) (i j:Int) (k:PV):Option PV:=(jN_ zTL) [1,1,1,1,1] (St.mk [(1,.pv (.imm 6 (.agg [.int .i64 a,.int .i64 b,.int .i64 c,.int .i64 d,.slice 6 e]) 0)),(4,.pv (.bool f)),(5,.pv (.bool g)),(6,.pv (.bool h))] [.var false 4 (.pv (.agg [.int .i64 i,.int .i64 j,k]))])
theorem zNz(f a g h:Int) (i:List PV) (b:Bool) (c d:Int) (e:PV):zGc f a g h i b c d e =
 bif a==0 then zEX f a g h i b true c d e else bif f==1 then bif decide (GT.gt a 0)then zEX f a g h i b (decide (a<=15)) c d e else zEX f a g h i b false c d e else zEX f a g h i b false c d e:=((tN_ zTL).join [1,1,1] _).trans (by kernel_rfl)
theorem zOA(c d a b:Int) (e:List PV) (f g:Bool) (h i:Int) (j:PV):zEX c d a b e f g h i j =
 ((bif a==0 then bif b==0 then some true else some false else some false).bind λ k=>some (.bool k)).bind λ l=>c_b l λ m=>bif m then zFY c d a b e f g true h i j else bif c==0 then(wc W zHF [.agg [.int .i64 a,.int .i64 b]]).bind λ n=>c_b n λ o=>zFY c d a b e f g o h i j else zFY c d a b e f g false h i j:=((tN_ zTL).join [1,1,1,1] _).trans (by kernel_rfl)
theorem zOB(a e f g:Int) (h:List PV) (b c d:Bool) (i j:Int) (k:PV):zFY a e f g h b c d i j k =
 bif decide (GE.ge a 0)then bif decide (a<11)then bif b then bif c then some (.bool d)else some (.bool false)else some (.bool false)else some (.bool false)else some (.bool false):=((tN_ zTL).join [1,1,1,1,1] _).trans (by kernel_rfl)
theorem zVQ(b c d e:Int) (a:List PV):wc W zLD [.agg [.int .i64 b,.int .i64 c,.int .i64 d,.int .i64 e,.slice 6 a]] =
 (wc W zIb [.int .i64 b]).bind λ i=>zC4 i λ f g h=>bif decide (GE.ge (a.length:Int) f)then zGc b c d e a (decide ((a.length:Int)<=g)) f g h else zGc b c d e a false f g h:=gA_ (tN_ zTL)
theorem zMu(a b c d:Int) (e:List PV):wc W zFk [.agg [.int .i64 a,.int .i64 b,.int .i64 c,.int .i64 d,.slice 6 e]] =
 bif a==0 then some (.int .i64 0)else bif a==4 then some (.int .i64 1)else some (.int .i64 2):=gA_ (tN_ z4w)
theorem zLy(a:List PV) (b:PV):wc W zCq [.slice 3 a,b] =
 (wc W zAP [.slice 3 a,b]).bind λ c=>c_b c λ d=>some (.bool d):=gA_ (tN_ z4x)
theorem zYE(a:Int):wc W zKY [.int .i64 a] =
 some (.fn zFA [] [.imm 0 (.int .i64 a) 0]):=gA_ (tN_ z4y)
theorem zZ8  :wc W zJ6 [] =
 some (.agg [.int .i64 2,.int .i64 0]):=gA_ (tN_ z4z)
theorem zYF  :wc W zMi [] =
 some (.agg [.int .i64 1,.int .i64 0]):=gA_ (tN_ z5A)
def zHk(a:Int) (b:List PV) (c d:Int):Option PV:=(lN_ z1S) [0,1,0,1,1] 0 (St.mk [(3,.pv (.int .i64 a)),(9,.pv (.slice 0 b)),(10,.pv (.int .i64 c)),(11,.pv (.int .i64 d))] [])
theorem zJl(c:Int) (d:List PV) (e a:Int):zHk c d e a =
 bif decide (a<e)then bif decide (0<=a)then d[Int.toNat a]?.bind λ m=>zA2 m λ n=>(wc W zJ8 [.int .i64 n]).bind λ f=>f.asTup.bind λ o=>o[0]?.bind λ p=>zA2 p λ b=>f.asTup.bind λ g=>g[1]?.bind λ h=>zA2 h λ q=>f.asTup.bind λ i=>i[2]?.bind λ j=>c_b j λ r=>(bif decide (b<0)then none else some (.int .i64 (IntKind.wrap .i64 (1*(HPow.hPow (2:Int) (Min.min (Int.toNat b) 64)):Int)))).bind λ k=>zA2 k λ l=>zHk (IntKind.wrap .i64 (((BitVec.toNat (HOr.hOr (BitVec.ofInt 64 c) (BitVec.ofInt 64 l))):Nat):Int)) d e (IntKind.wrap .i64 (a+1))else none else some (.int .i64 c):=((tN_ z1S).loop [1,1,0,1,0] 0 _ rfl).trans (by kernel_rfl)
theorem zYG(a:List PV):wc W zGl [.slice 0 a] =
 zHk 0 a (a.length:Int) 0:=gA_ (tN_ z1S)
def zLz(a:List PV) (b c d:Int):Option PV:=(jN_ zXc) [1,1,0,1,1,1,0,1,0,1] (St.mk [(2,.pv (.slice 3 a)),(6,.own 0 0),(7,.pv (.int .i64 b))] [.var false 3 (.pv (.agg [.int .i64 c,.int .i64 d]))])
def zGd(k l:List PV) (m a b c:Int) (d e:List PV) (f g h i:Int) (j:List PV):Option PV:=(lN_ zXc) [0,1,0,1,1,1] 2 (St.mk [(1,.pv (.slice 0 k)),(2,.pv (.slice 3 l)),(3,.pv (.imm 6 (.agg [.int .i64 m,.int .i64 a,.int .i64 b,.int .i64 c,.slice 6 d]) 0)),(6,.own 0 0),(8,.view 1 0 none),(37,.pv (.slice 6 e)),(38,.pv (.int .i64 f)),(39,.pv (.int .i64 g))] [.var false 3 (.pv (.agg [.int .i64 h,.int .i64 i])),.row false 0 3 j])
theorem zOC(b:List PV) (a f g:Int):zLz b a f g =
 bif decide (0<=a)then b[Int.toNat a]?.bind λ c=>zP c λ d e=>some (.agg [.int .i64 d,.int .i64 e])else none:=((tN_ zXc).join [1,0,1,0,1,1,1,0,1,1] _).trans (by kernel_rfl)
theorem zJC(l m:List PV) (n f g h:Int) (i c:List PV) (d a j k:Int) (b:List PV):zGd l m n f g h i c d a j k b =
 bif decide (a<d)then bif decide (0<=a)then c[Int.toNat a]?.bind λ o=>zG o λ p q r s t=>(wc W zIa [.agg [.int .i64 p,.int .i64 q,.int .i64 r,.int .i64 s,.slice 6 t],.slice 0 l,.slice 3 m]).bind λ u=>zP u λ v w=>bif true&&(decide (((List.length b)+1:Nat)<=4294967296))then zGd l m n f g h i c d (IntKind.wrap .i64 (a+1)) j k (b++[.agg [.int .i64 v,.int .i64 w]])else none else none else(wc W zIb [.int .i64 n]).bind λ x=>zC4 x λ C D y=>(PV.asFn y).bind λ e=>(wc W (Prod.fst e) (((Prod.fst (Prod.snd e))++[.slice 3 b])++(Prod.snd (Prod.snd e)))).bind λ z=>zP z λ A B=>some (.agg [.int .i64 A,.int .i64 B]):=((tN_ zXc).loop [1,1,1,0,1,0] 2 _ rfl).trans (by kernel_rfl)
theorem zVR(a c d e:Int) (b g f:List PV):wc W zIa [.agg [.int .i64 a,.int .i64 c,.int .i64 d,.int .i64 e,.slice 6 b],.slice 0 g,.slice 3 f] =
 bif a==0 then some (.agg [.int .i64 d,.int .i64 e])else bif a==1 then(wc W zAZ [.slice 0 g,.int .i64 c]).bind λ i=>zA2 i λ h=>bif decide (h<0)then some (.agg [.int .i64 2,.int .i64 0])else bif decide (GE.ge h (f.length:Int))then some (.agg [.int .i64 2,.int .i64 0])else zLz f h 0 0 else zGd g f a c d e b b (b.length:Int) 0 0 0 []:=gA_ (tN_ zXc)
def zAR(a b c:Int) (d:List PV) (e:Int):Option (AV×List Ob):=(lO_ zTM false 2) [0,1] 2 (St.mk [(0,AV.fx 0 0),(1,.pv (.int .i64 a)),(2,.pv (.int .i64 b)),(3,.fnv zR [] [.own 1 0]),(8,.pv (.int .i64 c))] [.fix 0 0 d,.var false 0 (.pv (.int .i64 e))])
def zAe(c d e f:Int) (a:List PV) (b:Int):Option (AV×List Ob):=(lO_ zTM false 2) [0,1,0,0,1,2,0,1] 2 (St.mk [(0,AV.fx 0 0),(1,.pv (.int .i64 c)),(2,.pv (.int .i64 d)),(3,.fnv zR [] [.own 1 0]),(8,.pv (.int .i64 e)),(9,.pv (.int .i64 f))] [.fix 0 0 a,.var false 0 (.pv (.int .i64 b))])
def zBp(a b c d:Int) (e:List PV) (f:Int):Option (AV×List Ob):=(jO_ zTM false 2) [1,2,0,1,0,0,1,2,0,1] (St.mk [(0,AV.fx 0 0),(1,.pv (.int .i64 a)),(2,.pv (.int .i64 b)),(3,.fnv zR [] [.own 1 0]),(8,.pv (.int .i64 c)),(9,.pv (.int .i64 d))] [.fix 0 0 e,.var false 0 (.pv (.int .i64 f))])
theorem zBB(e b a:Int) (c:List PV) (d:Int):zAR e b a c d =
 bif decide (a<b)then zAe e b a a c d else some (.pv (.tup []),[.fix 0 0 c,.var false 0 (.pv (.int .i64 d))]):=((tO_ zTM false 2).loop [1,0] 2 _ rfl).trans (by kernel_rfl)
theorem zBd(c e f b:Int) (a:List PV) (d:Int):zAe c e f b a d =
 bif decide (GT.gt b c)then bif (true&&(decide (0<=b)))&&(decide (b<(a.length:Int)))then a[Int.toNat b]?.bind λ h=>c_s3 h λ i=>bif (true&&(decide (0<=(IntKind.wrap .i64 (b-1)))))&&(decide ((IntKind.wrap .i64 (b-1))<(a.length:Int)))then a[Int.toNat (IntKind.wrap .i64 (b-1))]?.bind λ j=>c_s3 j λ k=>(W zR false [.pv (.slice 3 i),.pv (.slice 3 k),.own 0 0] [.var false 0 (.pv (.int .i64 d))]).bind λ l=>zDE l λ m g=>zA2 m λ n=>bif decide (n<0)then zBp c e f b a g else zAR c e (IntKind.wrap .i64 (f+1)) a g else none else none else zAR c e (IntKind.wrap .i64 (f+1)) a d:=((tO_ zTM false 2).loop [1,0,2,1,0,0,1,0] 2 _ rfl).trans (by kernel_rfl)
theorem zDT(d e f a:Int) (b:List PV) (g:Int):zBp d e f a b g =
 bif (true&&(decide (0<=(IntKind.wrap .i64 (a-1)))))&&(decide ((IntKind.wrap .i64 (a-1))<(b.length:Int)))then b[Int.toNat (IntKind.wrap .i64 (a-1))]?.bind λ h=>c_s3 h λ c=>bif (true&&(decide (0<=a)))&&(decide (a<(b.length:Int)))then b[Int.toNat a]?.bind λ i=>c_s3 i λ j=>bif (true&&(decide (0<=a)))&&(decide (a<(b.length:Int)))then b[Int.toNat a]?.bind λ k=>bif (true&&(decide (0<=(IntKind.wrap .i64 (a-1)))))&&(decide ((IntKind.wrap .i64 (a-1))<(((List.length (List.set b (Int.toNat a) (.slice 3 c))):Nat):Int)))then((List.set b (Int.toNat a) (.slice 3 c))[Int.toNat (IntKind.wrap .i64 (a-1))]?).bind λ l=>zAe d e f (IntKind.wrap .i64 (a-1)) (List.set (List.set b (Int.toNat a) (.slice 3 c)) (Int.toNat (IntKind.wrap .i64 (a-1))) (.slice 3 j)) g else none else none else none else none:=((tO_ zTM false 2).join [1,0,2,1,0,0,1,0,2,1] _).trans (by kernel_rfl)
theorem zDe(a b:Int) (c:List PV) (d:Int):W zAx false [AV.fx 0 0,.pv (.int .i64 a),.pv (.int .i64 b),.fnv zR [] [.own 1 0]] [.fix 0 0 c,.var false 0 (.pv (.int .i64 d))] =
 zAR a b (IntKind.wrap .i64 (a+1)) c d:=goO (by kernel_rfl) (by kernel_rfl) (tO_ zTM false 2) rfl (by kernel_rfl)
def zA3(a b c:Int) (d:List PV) (e:Int):Option (AV×List Ob):=(lO_ zG2 false 2) [0,0,1,1,0,1,0] 2 (St.mk [(0,AV.fx 0 0),(1,.pv (.int .i64 a)),(4,.fnv zR [] [.own 1 0]),(10,.pv (.int .i64 b)),(11,.pv (.int .i64 c))] [.fix 0 0 d,.var false 0 (.pv (.int .i64 e))])
def zA4(b c d:Int) (e:List PV) (a:Int):Option (AV×List Ob):=(lO_ zG2 false 2) [0,0,1,1,0,1,0,1] 2 (St.mk [(0,AV.fx 0 0),(2,.pv (.int .i64 b)),(4,.fnv zR [] [.own 1 0]),(14,.pv (.int .i64 c)),(15,.pv (.int .i64 d))] [.fix 0 0 e,.var false 0 (.pv (.int .i64 a))])
def zBZ(a b c d e f g:Int) (h:List PV) (i:Int):Option (AV×List Ob):=(jO_ zG2 false 2) [1,1,1,1,1,1] (St.mk [(0,AV.fx 0 0),(1,.pv (.int .i64 a)),(2,.pv (.int .i64 b)),(3,.pv (.int .i64 c)),(4,.fnv zR [] [.own 1 0]),(18,.pv (.int .i64 d)),(19,.pv (.int .i64 e)),(20,.pv (.int .i64 f)),(21,.pv (.int .i64 g))] [.fix 0 0 h,.var false 0 (.pv (.int .i64 i))])
def zA5(a b:Int) (c:List PV) (d:Int):Option (AV×List Ob):=(lO_ zG2 false 2) [0,1,0,1,1,1,0,1,0] 2 (St.mk [(0,AV.fx 0 0),(10,.pv (.int .i64 a)),(13,.pv (.int .i64 b))] [.fix 0 0 c,.var false 0 (.pv (.int .i64 d))])
def zA6(a b:Int) (c:List PV) (d:Int):Option (AV×List Ob):=(lO_ zG2 false 2) [0,1,0,1,1,1,0,1,0,1] 2 (St.mk [(0,AV.fx 0 0),(14,.pv (.int .i64 a)),(17,.pv (.int .i64 b))] [.fix 0 0 c,.var false 0 (.pv (.int .i64 d))])
def zA7(a b c d e f g h:Int) (i:List PV) (j:Int):Option (AV×List Ob):=(lO_ zG2 false 2) [0,0,1,1,1,1,1,1,1] 2 (St.mk [(0,AV.fx 0 0),(1,.pv (.int .i64 a)),(2,.pv (.int .i64 b)),(3,.pv (.int .i64 c)),(4,.fnv zR [] [.own 1 0]),(18,.pv (.int .i64 d)),(19,.pv (.int .i64 e)),(20,.pv (.int .i64 f)),(21,.pv (.int .i64 g)),(22,.pv (.int .i64 h))] [.fix 0 0 i,.var false 0 (.pv (.int .i64 j))])
def zS(a b c d e f:Int) (g:Bool) (h:List PV) (i:Int):Option (AV×List Ob):=(jO_ zG2 false 2) [1,0,1,1,1,1,1,1,1,1,1] (St.mk [(0,AV.fx 0 0),(1,.pv (.int .i64 a)),(2,.pv (.int .i64 b)),(3,.pv (.int .i64 c)),(4,.fnv zR [] [.own 1 0]),(18,.pv (.int .i64 d)),(20,.pv (.int .i64 e)),(24,.pv (.int .i64 f)),(185,.pv (.bool g))] [.fix 0 0 h,.var false 0 (.pv (.int .i64 i))])
def zAy(a b c d e:Int) (f:List PV) (g:Int):Option (AV×List Ob):=(jO_ zG2 false 2) [1,1,1,1,1,1,1,1,1,1] (St.mk [(0,AV.fx 0 0),(1,.pv (.int .i64 a)),(3,.pv (.int .i64 b)),(4,.fnv zR [] [.own 1 0]),(18,.pv (.int .i64 c)),(20,.pv (.int .i64 d)),(24,.pv (.int .i64 e))] [.fix 0 0 f,.var false 0 (.pv (.int .i64 g))])
def zB0(a b c d e:Int) (f:Bool) (g:List PV) (h:Int):Option (AV×List Ob):=(jO_ zG2 false 2) [1,0,1,1,1,1,1,1,1,1,1,1] (St.mk [(0,AV.fx 0 0),(1,.pv (.int .i64 a)),(3,.pv (.int .i64 b)),(4,.fnv zR [] [.own 1 0]),(18,.pv (.int .i64 c)),(20,.pv (.int .i64 d)),(24,.pv (.int .i64 e)),(199,.pv (.bool f))] [.fix 0 0 g,.var false 0 (.pv (.int .i64 h))])
def zAt(a b c:Int) (d:List PV) (e:Int):Option (AV×List Ob):=(jO_ zG2 false 2) [1,1,1,1,1,1,1,1,1,1,1] (St.mk [(0,AV.fx 0 0),(3,.pv (.int .i64 a)),(4,.fnv zR [] [.own 1 0]),(18,.pv (.int .i64 b)),(24,.pv (.int .i64 c))] [.fix 0 0 d,.var false 0 (.pv (.int .i64 e))])
def zBU(a b c:Int) (d:Bool) (e:List PV) (f:Int):Option (AV×List Ob):=(jO_ zG2 false 2) [1,1,1,1,1,1,1,1,1,1,1,1] (St.mk [(0,AV.fx 0 0),(3,.pv (.int .i64 a)),(4,.fnv zR [] [.own 1 0]),(18,.pv (.int .i64 b)),(24,.pv (.int .i64 c)),(213,.pv (.bool d))] [.fix 0 0 e,.var false 0 (.pv (.int .i64 f))])
theorem zCA(d a b:Int) (c:List PV) (f:Int):zA3 d a b c f =
 bif decide (a<b)then bif (true&&(decide (0<=(IntKind.wrap .i64 (Int.fdiv (IntKind.wrap .u64 (IntKind.wrap .i64 (a+b:Int))) 2)))))&&(decide ((IntKind.wrap .i64 (Int.fdiv (IntKind.wrap .u64 (IntKind.wrap .i64 (a+b:Int))) 2))<(c.length:Int)))then c[Int.toNat (IntKind.wrap .i64 (Int.fdiv (IntKind.wrap .u64 (IntKind.wrap .i64 (a+b:Int))) 2))]?.bind λ g=>c_s3 g λ h=>bif (true&&(decide (0<=d)))&&(decide (d<(c.length:Int)))then c[Int.toNat d]?.bind λ i=>c_s3 i λ j=>(W zR false [.pv (.slice 3 h),.pv (.slice 3 j),.own 0 0] [.var false 0 (.pv (.int .i64 f))]).bind λ k=>zDE k λ l e=>zA2 l λ m=>bif decide (m<0)then zA3 d (IntKind.wrap .i64 ((IntKind.wrap .i64 (Int.fdiv (IntKind.wrap .u64 (IntKind.wrap .i64 (a+b:Int))) 2))+1:Int)) b c e else zA3 d a (IntKind.wrap .i64 (Int.fdiv (IntKind.wrap .u64 (IntKind.wrap .i64 (a+b:Int))) 2)) c e else none else none else zA5 a d c f:=((tO_ zG2 false 2).loop [0,1,0,1,1,0,0] 2 _ rfl).trans (by kernel_rfl)
theorem zCB(d a b:Int) (c:List PV) (e:Int):zA4 d a b c e =
 bif decide (a<b)then bif (true&&(decide (0<=d)))&&(decide (d<(c.length:Int)))then c[Int.toNat d]?.bind λ g=>c_s3 g λ h=>bif (true&&(decide (0<=(IntKind.wrap .i64 (Int.fdiv (IntKind.wrap .u64 (IntKind.wrap .i64 (a+b:Int))) 2)))))&&(decide ((IntKind.wrap .i64 (Int.fdiv (IntKind.wrap .u64 (IntKind.wrap .i64 (a+b:Int))) 2))<(c.length:Int)))then c[Int.toNat (IntKind.wrap .i64 (Int.fdiv (IntKind.wrap .u64 (IntKind.wrap .i64 (a+b:Int))) 2))]?.bind λ i=>c_s3 i λ j=>(W zR false [.pv (.slice 3 h),.pv (.slice 3 j),.own 0 0] [.var false 0 (.pv (.int .i64 e))]).bind λ k=>zDE k λ l f=>zA2 l λ m=>bif !(decide (m<0))then zA4 d (IntKind.wrap .i64 ((IntKind.wrap .i64 (Int.fdiv (IntKind.wrap .u64 (IntKind.wrap .i64 (a+b:Int))) 2))+1:Int)) b c f else zA4 d a (IntKind.wrap .i64 (Int.fdiv (IntKind.wrap .u64 (IntKind.wrap .i64 (a+b:Int))) 2)) c f else none else none else zA6 a d c e:=((tO_ zG2 false 2).loop [1,0,1,0,1,1,0,0] 2 _ rfl).trans (by kernel_rfl)
theorem zCC(b c d e a f g:Int) (h:List PV) (i:Int):zBZ b c d e a f g h i =
 zA7 b c d e a f g (IntKind.wrap .i64 (a-1)) h i:=((tO_ zG2 false 2).join [1,1,1,1,1,1] _).trans (by kernel_rfl)
theorem zCD(c a:Int) (b:List PV) (d:Int):zA5 c a b d =
 bif decide (a<(IntKind.wrap .i64 (c-1)))then bif (true&&(decide (0<=(IntKind.wrap .i64 (a+1)))))&&(decide ((IntKind.wrap .i64 (a+1))<(b.length:Int)))then b[Int.toNat (IntKind.wrap .i64 (a+1))]?.bind λ f=>c_s3 f λ e=>bif (true&&(decide (0<=a)))&&(decide (a<(b.length:Int)))then b[Int.toNat a]?.bind λ g=>c_s3 g λ h=>bif (true&&(decide (0<=a)))&&(decide (a<(b.length:Int)))then b[Int.toNat a]?.bind λ i=>bif (true&&(decide (0<=(IntKind.wrap .i64 (a+1)))))&&(decide ((IntKind.wrap .i64 (a+1))<(((List.length (List.set b (Int.toNat a) (.slice 3 e))):Nat):Int)))then((List.set b (Int.toNat a) (.slice 3 e))[Int.toNat (IntKind.wrap .i64 (a+1))]?).bind λ j=>zA5 c (IntKind.wrap .i64 (a+1)) (List.set (List.set b (Int.toNat a) (.slice 3 e)) (Int.toNat (IntKind.wrap .i64 (a+1))) (.slice 3 h)) d else none else none else none else none else some (.pv (.tup []),[.fix 0 0 b,.var false 0 (.pv (.int .i64 d))]):=((tO_ zG2 false 2).loop [0,1,0,1,1,1,0,1,0] 2 _ rfl).trans (by kernel_rfl)
theorem zCE(c a:Int) (b:List PV) (d:Int):zA6 c a b d =
 bif decide (GT.gt a c)then bif (true&&(decide (0<=(IntKind.wrap .i64 (a-1)))))&&(decide ((IntKind.wrap .i64 (a-1))<(b.length:Int)))then b[Int.toNat (IntKind.wrap .i64 (a-1))]?.bind λ f=>c_s3 f λ e=>bif (true&&(decide (0<=a)))&&(decide (a<(b.length:Int)))then b[Int.toNat a]?.bind λ g=>c_s3 g λ h=>bif (true&&(decide (0<=a)))&&(decide (a<(b.length:Int)))then b[Int.toNat a]?.bind λ i=>bif (true&&(decide (0<=(IntKind.wrap .i64 (a-1)))))&&(decide ((IntKind.wrap .i64 (a-1))<(((List.length (List.set b (Int.toNat a) (.slice 3 e))):Nat):Int)))then((List.set b (Int.toNat a) (.slice 3 e))[Int.toNat (IntKind.wrap .i64 (a-1))]?).bind λ j=>zA6 c (IntKind.wrap .i64 (a-1)) (List.set (List.set b (Int.toNat a) (.slice 3 e)) (Int.toNat (IntKind.wrap .i64 (a-1))) (.slice 3 h)) d else none else none else none else none else some (.pv (.tup []),[.fix 0 0 b,.var false 0 (.pv (.int .i64 d))]):=((tO_ zG2 false 2).loop [1,0,1,0,1,1,1,0,1,0] 2 _ rfl).trans (by kernel_rfl)
theorem zCF(g d h i e a b f:Int) (c:List PV) (j:Int):zA7 g d h i e a b f c j =
 bif decide (a<b)then bif (true&&(decide (0<=(IntKind.wrap .i64 (f-(IntKind.wrap .i64 (Int.fdiv (IntKind.wrap .u64 (IntKind.wrap .i64 (a+b:Int))) 2)):Int)))))&&(decide ((IntKind.wrap .i64 (f-(IntKind.wrap .i64 (Int.fdiv (IntKind.wrap .u64 (IntKind.wrap .i64 (a+b:Int))) 2)):Int))<(c.length:Int)))then c[Int.toNat (IntKind.wrap .i64 (f-(IntKind.wrap .i64 (Int.fdiv (IntKind.wrap .u64 (IntKind.wrap .i64 (a+b:Int))) 2)):Int))]?.bind λ l=>c_s3 l λ m=>bif (true&&(decide (0<=(IntKind.wrap .i64 (Int.fdiv (IntKind.wrap .u64 (IntKind.wrap .i64 (a+b:Int))) 2)))))&&(decide ((IntKind.wrap .i64 (Int.fdiv (IntKind.wrap .u64 (IntKind.wrap .i64 (a+b:Int))) 2))<(c.length:Int)))then c[Int.toNat (IntKind.wrap .i64 (Int.fdiv (IntKind.wrap .u64 (IntKind.wrap .i64 (a+b:Int))) 2))]?.bind λ n=>c_s3 n λ o=>(W zR false [.pv (.slice 3 m),.pv (.slice 3 o),.own 0 0] [.var false 0 (.pv (.int .i64 j))]).bind λ p=>zDE p λ q k=>zA2 q λ r=>bif !(decide (r<0))then zA7 g d h i e (IntKind.wrap .i64 ((IntKind.wrap .i64 (Int.fdiv (IntKind.wrap .u64 (IntKind.wrap .i64 (a+b:Int))) 2))+1:Int)) b f c k else zA7 g d h i e a (IntKind.wrap .i64 (Int.fdiv (IntKind.wrap .u64 (IntKind.wrap .i64 (a+b:Int))) 2)) f c k else none else none else bif decide (a<d)then zS g d h i a (IntKind.wrap .i64 (e-a:Int)) (decide (d<(IntKind.wrap .i64 (e-a:Int)))) c j else zS g d h i a (IntKind.wrap .i64 (e-a:Int)) false c j:=((tO_ zG2 false 2).loop [1,1,1,1,1,1,1,0,0] 2 _ rfl).trans (by kernel_rfl)
theorem zCG(c h d e a b:Int) (i:Bool) (f:List PV) (g:Int):zS c h d e a b i f g =
 bif i then(W zCN false [AV.fx 0 0,.pv (.int .i64 a),.pv (.int .i64 h),.pv (.int .i64 b),.fnv zR [] [.own 1 0]] [.fix 0 0 f,.var false 0 (.pv (.int .i64 g))]).bind λ k=>zET k λ m l j=>zAy c d e a b l j else zAy c d e a b f g:=((tO_ zG2 false 2).join [1,1,1,1,1,1,1,1,1,0,1] _).trans (by kernel_rfl)
theorem zDv(b d c a e:Int) (f:List PV) (g:Int):zAy b d c a e f g =
 bif decide (b<a)then zB0 b d c a e (decide (a<c)) f g else zB0 b d c a e false f g:=((tO_ zG2 false 2).join [1,1,1,1,1,1,1,1,1,1] _).trans (by kernel_rfl)
theorem zCH(f b a g c:Int) (h:Bool) (d:List PV) (e:Int):zB0 f b a g c h d e =
 bif h then(W zA8 false [AV.fx 0 0,.pv (.int .i64 f),.pv (.int .i64 g),.pv (.int .i64 a),.fnv zR [] [.own 1 0]] [.fix 0 0 d,.var false 0 (.pv (.int .i64 e))]).bind λ i=>zET i λ l j k=>zAt b a c j k else zAt b a c d e:=((tO_ zG2 false 2).join [1,1,1,1,1,1,1,1,1,1,0,1] _).trans (by kernel_rfl)
theorem zDm(b c a:Int) (d:List PV) (e:Int):zAt b c a d e =
 bif decide (c<a)then zBU b c a (decide (a<b)) d e else zBU b c a false d e:=((tO_ zG2 false 2).join [1,1,1,1,1,1,1,1,1,1,1] _).trans (by kernel_rfl)
theorem zBv(c d e:Int) (f:Bool) (a:List PV) (b:Int):zBU c d e f a b =
 bif f then(W zA8 false [AV.fx 0 0,.pv (.int .i64 d),.pv (.int .i64 e),.pv (.int .i64 c),.fnv zR [] [.own 1 0]] [.fix 0 0 a,.var false 0 (.pv (.int .i64 b))]).bind λ g=>zET g λ j h i=>some (.pv (.tup []),[.fix 0 0 h,.var false 0 (.pv (.int .i64 i))])else some (.pv (.tup []),[.fix 0 0 a,.var false 0 (.pv (.int .i64 b))]):=((tO_ zG2 false 2).join [1,1,1,1,1,1,1,1,1,1,1,1] _).trans (by kernel_rfl)
theorem zEa(a b c:Int) (d:List PV) (e:Int):W zA8 false [AV.fx 0 0,.pv (.int .i64 a),.pv (.int .i64 b),.pv (.int .i64 c),.fnv zR [] [.own 1 0]] [.fix 0 0 d,.var false 0 (.pv (.int .i64 e))] =
 bif (IntKind.wrap .i64 (b-a:Int))==1 then zA3 a b c d e else bif (IntKind.wrap .i64 (c-b:Int))==1 then zA4 b a b d e else bif decide (GT.gt b (IntKind.wrap .i64 (Int.fdiv (IntKind.wrap .u64 (IntKind.wrap .i64 (a+c:Int))) 2)))then zBZ a b c (IntKind.wrap .i64 (Int.fdiv (IntKind.wrap .u64 (IntKind.wrap .i64 (a+c:Int))) 2)) (IntKind.wrap .i64 ((IntKind.wrap .i64 (Int.fdiv (IntKind.wrap .u64 (IntKind.wrap .i64 (a+c:Int))) 2))+b:Int)) (IntKind.wrap .i64 ((IntKind.wrap .i64 ((IntKind.wrap .i64 (Int.fdiv (IntKind.wrap .u64 (IntKind.wrap .i64 (a+c:Int))) 2))+b:Int))-c:Int)) (IntKind.wrap .i64 (Int.fdiv (IntKind.wrap .u64 (IntKind.wrap .i64 (a+c:Int))) 2)) d e else zBZ a b c (IntKind.wrap .i64 (Int.fdiv (IntKind.wrap .u64 (IntKind.wrap .i64 (a+c:Int))) 2)) (IntKind.wrap .i64 ((IntKind.wrap .i64 (Int.fdiv (IntKind.wrap .u64 (IntKind.wrap .i64 (a+c:Int))) 2))+b:Int)) a b d e:=goO (by kernel_rfl) (by kernel_rfl) (tO_ zG2 false 2) rfl (by kernel_rfl)
def zBK(a:List PV) (b c d e:Int):Option PV:=(lN_ z1T) [0,1,0,1] 0 (St.mk [(0,.pv (.slice 3 a)),(3,.pv (.imm 3 (.agg [.int .i64 b,.int .i64 c]) 0)),(7,.pv (.int .i64 d)),(8,.pv (.int .i64 e))] [])
theorem zDU(b:List PV) (c d e a:Int):zBK b c d e a =
 bif decide (a<e)then bif decide (0<=a)then b[Int.toNat a]?.bind λ h=>zP h λ i j=>((bif c==i then bif d==j then some true else some false else some false).bind λ k=>some (.bool k)).bind λ f=>c_b f λ g=>bif g then some (.int .i64 a)else zBK b c d e (IntKind.wrap .i64 (a+1))else none else some (.int .i64 (-1)):=((tN_ z1T).loop [1,0,1,0] 0 _ rfl).trans (by kernel_rfl)
theorem zHX(c:List PV) (a b:Int):wc W zE1 [.slice 3 c,.agg [.int .i64 a,.int .i64 b]] =
 zBK c a b (c.length:Int) 0:=gA_ (tN_ z1T)
def zMA(a b c d:Int) (e:List PV):Option PV:=(jN_ zXd) [1,1] (St.mk [(1,.pv (.imm 6 (.agg [.int .i64 a,.int .i64 b,.int .i64 c,.int .i64 d,.slice 6 e]) 0))] [])
def zMB(a b c d:Int) (e:List PV) (f g h i:Int) (j:List PV):Option PV:=(jN_ zXd) [1,1,1,1] (St.mk [(5,.own 0 0),(6,.own 1 0)] [.var false 6 (.pv (.agg [.int .i64 a,.int .i64 b,.int .i64 c,.int .i64 d,.slice 6 e])),.var false 6 (.pv (.agg [.int .i64 f,.int .i64 g,.int .i64 h,.int .i64 i,.slice 6 j]))])
theorem zOD(m n o p:Int) (d:List PV):zMA m n o p d =
 d[0]?.bind λ q=>zG q λ e a f g h=>d[1]?.bind λ i=>zG i λ b c j k l=>bif e != 1 then some (.tup [.int .i64 0,.int .i64 0,.bool false])else bif b != 1 then some (.tup [.int .i64 0,.int .i64 0,.bool false])else bif a==c then some (.tup [.int .i64 0,.int .i64 0,.bool false])else zMB e a f g h b c j k l:=((tN_ zXd).join [1,1] _).trans (by kernel_rfl)
theorem zOE(c a d e:Int) (f:List PV) (g b h i:Int) (j:List PV):zMB c a d e f g b h i j =
 some (.tup [.int .i64 a,.int .i64 b,.bool true]):=((tN_ zXd).join [1,1,1,1] _).trans (by kernel_rfl)
theorem zVS(a b c d:Int) (e:List PV):wc W zLE [.agg [.int .i64 a,.int .i64 b,.int .i64 c,.int .i64 d,.slice 6 e]] =
 (wc W zIF [.agg [.int .i64 a,.int .i64 b,.int .i64 c,.int .i64 d,.slice 6 e]]).bind λ f=>c_b f λ g=>bif !g then some (.tup [.int .i64 0,.int .i64 0,.bool false])else bif a != 6 then some (.tup [.int .i64 0,.int .i64 0,.bool false])else zMA a b c d e:=gA_ (tN_ zXd)
theorem zYH(a b:Int):wc W zIG [.agg [.int .i64 a,.int .i64 b]] =
 (wc W zHF [.agg [.int .i64 a,.int .i64 b]]).bind λ c=>c_b c λ d=>bif !d then(wc W zJ6 []).bind λ e=>zP e λ f g=>some (.agg [.int .i64 f,.int .i64 g])else some (.agg [.int .i64 a,.int .i64 b]):=gA_ (tN_ z5B)
def zHv(a:Int) (b:List PV) (c d:Int):Option PV:=(lN_ z1U) [0,1,0,1,1] 0 (St.mk [(3,.pv (.int .i64 a)),(6,.pv (.slice 0 b)),(7,.pv (.int .i64 c)),(8,.pv (.int .i64 d))] [])
theorem zFn(b:Int) (c:List PV) (d a:Int):zHv b c d a =
 bif decide (a<d)then bif decide (0<=a)then c[Int.toNat a]?.bind λ f=>zA2 f λ e=>bif e != b then some (.int .i64 e)else zHv b c d (IntKind.wrap .i64 (a+1))else none else some (.int .i64 b):=((tN_ z1U).loop [1,1,0,1,0] 0 _ rfl).trans (by kernel_rfl)
theorem zT6(a:List PV):wc W zJ7 [.slice 0 a] =
 zHv 0 a (a.length:Int) 0:=gA_ (tN_ z1U)
theorem zZ9(a:List PV):wc W zHG [.slice 3 a] =
 (wc W zKY [.int .i64 2]).bind λ e=>(wc W zCq [.slice 3 a,e]).bind λ f=>c_b f λ g=>bif g then(wc W zJ6 []).bind λ h=>zP h λ i j=>some (.tup [.agg [.int .i64 i,.int .i64 j],.bool true])else(wc W zKY [.int .i64 1]).bind λ k=>(wc W zCq [.slice 3 a,k]).bind λ l=>c_b l λ m=>bif m then(wc W zMi []).bind λ b=>zP b λ c d=>some (.tup [.agg [.int .i64 c,.int .i64 d],.bool true])else some (.tup [.agg [.int .i64 0,.int .i64 0],.bool false]):=gA_ (tN_ z5C)
theorem z15(a:Bool):wc W zLk [.bool a] =
 bif a then(wc W zFv [.int .i64 1]).bind λ b=>zP b λ c d=>some (.agg [.int .i64 c,.int .i64 d])else(wc W zFv [.int .i64 0]).bind λ e=>zP e λ f g=>some (.agg [.int .i64 f,.int .i64 g]):=gA_ (tN_ z5D)
theorem zJm(a:Int):wc W zHH [.int .i64 a] =
 some (.bool (a != a)):=gA_ (tN_ z5E)
def zCg(a b c d e:Int) (f:List PV) (g h:Int):Option PV:=(lN_ zXe) [0,1,0,1,1] 0 (St.mk [(1,.pv (.int .i64 a)),(2,.pv (.imm 6 (.agg [.int .i64 b,.int .i64 c,.int .i64 d,.int .i64 e,.slice 6 f]) 0)),(5,.pv (.int .i64 g)),(6,.pv (.int .i64 h))] [])
def zF9(h a b c d:Int) (e:List PV) (f g:Int):Option PV:=(jN_ zXe) [1,0,0,1,0,1,1] (St.mk [(1,.pv (.int .i64 h)),(2,.pv (.imm 6 (.agg [.int .i64 a,.int .i64 b,.int .i64 c,.int .i64 d,.slice 6 e]) 0)),(5,.pv (.int .i64 f)),(6,.pv (.int .i64 g))] [])
theorem zEf(b e f g h:Int) (c:List PV) (a d:Int):zCg b e f g h c a d =
 bif decide (d<(c.length:Int))then bif decide (a<=b)then zF9 b e f g h c a d else some (.int .i64 a)else some (.int .i64 a):=((tN_ zXe).loop [1,1,0,1,0] 0 _ rfl).trans (by kernel_rfl)
theorem zHw(h d e f g:Int) (b:List PV) (c a:Int):zF9 h d e f g b c a =
 bif decide (0<=a)then b[Int.toNat a]?.bind λ i=>zG i λ j k l m n=>(wc W zDD [.agg [.int .i64 j,.int .i64 k,.int .i64 l,.int .i64 m,.slice 6 n],.int .i64 (IntKind.wrap .i64 (h-c:Int))]).bind λ o=>zA2 o λ p=>zCg h d e f g b (IntKind.wrap .i64 (c+p:Int)) (IntKind.wrap .i64 (a+1))else none:=((tN_ zXe).join [1,1,0,1,0,0,1] _).trans (by kernel_rfl)
theorem zKe(a b c d:Int) (e:List PV) (f:Int):wc W zDD [.agg [.int .i64 a,.int .i64 b,.int .i64 c,.int .i64 d,.slice 6 e],.int .i64 f] =
 zCg f a b c d e 1 0:=gA_ (tN_ zXe)
theorem zVT(a:Int):wc W zIb [.int .i64 a] =
 bif a==2 then(wc W zFB [.fn zLl [] []]).bind λ q=>zC4 q λ r s t=>some (.agg [.int .i64 r,.int .i64 s,t])else bif a==3 then(wc W zFB [.fn zLm [] []]).bind λ u=>zC4 u λ v w x=>some (.agg [.int .i64 v,.int .i64 w,x])else bif a==4 then(wc W zFB [.fn zLn [] []]).bind λ y=>zC4 y λ b c d=>some (.agg [.int .i64 b,.int .i64 c,d])else bif a==5 then(wc W zFB [.fn zLo [] []]).bind λ e=>zC4 e λ f g h=>some (.agg [.int .i64 f,.int .i64 g,h])else bif a==6 then(wc W zFB [.fn zLj [] []]).bind λ i=>zC4 i λ j k l=>some (.agg [.int .i64 j,.int .i64 k,l])else bif a==7 then(wc W zFB [.fn zOQ [] []]).bind λ m=>zC4 m λ n o p=>some (.agg [.int .i64 n,.int .i64 o,p])else bif a==8 then some (.agg [.int .i64 0,.int .i64 4,.fn zG4 [] []])else bif a==9 then some (.agg [.int .i64 0,.int .i64 4,.fn zG5 [] []])else bif a==10 then some (.agg [.int .i64 1,.int .i64 1,.fn zG6 [] []])else some (.agg [.int .i64 0,.int .i64 0,PV.nilfn]):=gA_ (tN_ z5F)
theorem zT7(a b c:Int):wc W zFA [.agg [.int .i64 a,.int .i64 b],.imm 0 (.int .i64 c) 0] =
 (wc W zIG [.agg [.int .i64 a,.int .i64 b]]).bind λ d=>zP d λ e f=>some (.bool (e==c)):=gA_ (tN_ z5G)
theorem zT8(a:Int):wc W zJ8 [.int .i64 a] =
 (wc W zFT [.int .i64 a,.int .i64 0,.int .i64 15]).bind λ b=>c_b b λ c=>bif !c then some (.tup [.int .i64 0,.int .i64 0,.bool false])else some (.tup [.int .i64 (IntKind.wrap .i64 (Int.tdiv a 4)),.int .i64 (Int.tmod a 4),.bool true]):=gA_ (tN_ z5H)
def zAg(a b c:Int) (d:List PV) (e:Int):Option (AV×List Ob):=(lO_ z1V false 2) [0,0,1,1] 2 (St.mk [(0,AV.fx 0 0),(2,.pv (.int .i64 a)),(4,.fnv zR [] [.own 1 0]),(10,.pv (.int .i64 b)),(11,.pv (.int .i64 c))] [.fix 0 0 d,.var false 0 (.pv (.int .i64 e))])
theorem zEY(b a c:Int) (d:List PV) (e:Int):zAg b a c d e =
 bif a != c then bif decide (GT.gt a c)then(W zAm false [AV.fx 0 0,.pv (.int .i64 (IntKind.wrap .i64 (b-a:Int))),.pv (.int .i64 b),.pv (.int .i64 c),.fnv zR [] [.own 1 0]] [.fix 0 0 d,.var false 0 (.pv (.int .i64 e))]).bind λ f=>zET f λ o g h=>zAg b (IntKind.wrap .i64 (a-c:Int)) c g h else(W zAm false [AV.fx 0 0,.pv (.int .i64 (IntKind.wrap .i64 (b-a:Int))),.pv (.int .i64 (IntKind.wrap .i64 ((IntKind.wrap .i64 (b+c:Int))-a:Int))),.pv (.int .i64 a),.fnv zR [] [.own 1 0]] [.fix 0 0 d,.var false 0 (.pv (.int .i64 e))]).bind λ i=>zET i λ p j k=>zAg b a (IntKind.wrap .i64 (c-a:Int)) j k else(W zAm false [AV.fx 0 0,.pv (.int .i64 (IntKind.wrap .i64 (b-a:Int))),.pv (.int .i64 b),.pv (.int .i64 a),.fnv zR [] [.own 1 0]] [.fix 0 0 d,.var false 0 (.pv (.int .i64 e))]).bind λ l=>zET l λ q m n=>some (.pv (.tup []),[.fix 0 0 m,.var false 0 (.pv (.int .i64 n))]):=((tO_ z1V false 2).loop [1,1,0,0] 2 _ rfl).trans (by kernel_rfl)
theorem zEu(b a c:Int) (d:List PV) (e:Int):W zCN false [AV.fx 0 0,.pv (.int .i64 b),.pv (.int .i64 a),.pv (.int .i64 c),.fnv zR [] [.own 1 0]] [.fix 0 0 d,.var false 0 (.pv (.int .i64 e))] =
 zAg a (IntKind.wrap .i64 (a-b:Int)) (IntKind.wrap .i64 (c-a:Int)) d e:=goO (by kernel_rfl) (by kernel_rfl) (tO_ z1V false 2) rfl (by kernel_rfl)
theorem zYI(a:PV):wc W zFB [a] =
 bif PV.okSh 0 a then some (.agg [.int .i64 2,.int .i64 2,.fn zC8 [] [.imm 0 a 0]])else none:=gA_ (tN_ z5I)
theorem zZa(a b c d:Int):wc W zLl [.agg [.int .i64 a,.int .i64 b],.agg [.int .i64 c,.int .i64 d]] =
 (wc W zFC [.agg [.int .i64 a,.int .i64 b],.agg [.int .i64 c,.int .i64 d],.fn zLF [] []]).bind λ e=>zP e λ f g=>some (.agg [.int .i64 f,.int .i64 g]):=gA_ (tN_ z5J)
theorem zZb(a b c d:Int):wc W zLm [.agg [.int .i64 a,.int .i64 b],.agg [.int .i64 c,.int .i64 d]] =
 (wc W zFC [.agg [.int .i64 a,.int .i64 b],.agg [.int .i64 c,.int .i64 d],.fn zLG [] []]).bind λ e=>zP e λ f g=>some (.agg [.int .i64 f,.int .i64 g]):=gA_ (tN_ z5K)
theorem zZc(a b c d:Int):wc W zLn [.agg [.int .i64 a,.int .i64 b],.agg [.int .i64 c,.int .i64 d]] =
 (wc W zFC [.agg [.int .i64 a,.int .i64 b],.agg [.int .i64 c,.int .i64 d],.fn zIc [] []]).bind λ e=>zP e λ f g=>some (.agg [.int .i64 f,.int .i64 g]):=gA_ (tN_ z5L)
theorem zZd(a b c d:Int):wc W zLo [.agg [.int .i64 a,.int .i64 b],.agg [.int .i64 c,.int .i64 d]] =
 (wc W zFC [.agg [.int .i64 a,.int .i64 b],.agg [.int .i64 c,.int .i64 d],.fn zLH [] []]).bind λ e=>zP e λ f g=>some (.agg [.int .i64 f,.int .i64 g]):=gA_ (tN_ z5M)
theorem z16(c a d b:Int):wc W zOQ [.agg [.int .i64 c,.int .i64 a],.agg [.int .i64 d,.int .i64 b]] =
 (wc W zHG [.slice 3 [.agg [.int .i64 c,.int .i64 a],.agg [.int .i64 d,.int .i64 b]]]).bind λ e=>e.asTup.bind λ h=>h[0]?.bind λ i=>zP i λ j k=>e.asTup.bind λ l=>l[1]?.bind λ m=>c_b m λ n=>bif n then some (.agg [.int .i64 j,.int .i64 k])else(wc W zLk [.bool (decide (a<b))]).bind λ o=>zP o λ f g=>some (.agg [.int .i64 f,.int .i64 g]):=gA_ (tN_ z5N)
theorem zRf(a:List PV):wc W zG4 [.slice 3 a] =
 (wc W zPP [.slice 3 a]).bind λ b=>zP b λ c d=>some (.agg [.int .i64 c,.int .i64 d]):=gA_ (tN_ z5O)
theorem zZe(a:List PV):wc W zPP [.slice 3 a] =
 (wc W zFv [.int .i64 0]).bind λ b=>zP b λ c d=>(wc W zFv [.int .i64 1]).bind λ e=>zP e λ f g=>(wc W zId [.slice 3 a,.fn zG7 [] [],.agg [.int .i64 c,.int .i64 d],.agg [.int .i64 f,.int .i64 g]]).bind λ h=>zP h λ i j=>some (.agg [.int .i64 i,.int .i64 j]):=gA_ (tN_ z5P)
theorem zRg(a:List PV):wc W zG5 [.slice 3 a] =
 (wc W zR2 [.slice 3 a]).bind λ b=>zP b λ c d=>some (.agg [.int .i64 c,.int .i64 d]):=gA_ (tN_ z5Q)
theorem z17(a:List PV):wc W zR2 [.slice 3 a] =
 (wc W zFv [.int .i64 1]).bind λ b=>zP b λ c d=>(wc W zFv [.int .i64 0]).bind λ e=>zP e λ f g=>(wc W zId [.slice 3 a,.fn zGk [] [],.agg [.int .i64 c,.int .i64 d],.agg [.int .i64 f,.int .i64 g]]).bind λ h=>zP h λ i j=>some (.agg [.int .i64 i,.int .i64 j]):=gA_ (tN_ z5R)
theorem zRh(a:List PV):wc W zG6 [.slice 3 a] =
 a[0]?.bind λ b=>zP b λ c d=>(wc W zPQ [.agg [.int .i64 c,.int .i64 d]]).bind λ e=>zP e λ f g=>some (.agg [.int .i64 f,.int .i64 g]):=gA_ (tN_ z5S)
theorem zZf(b a:Int):wc W zPQ [.agg [.int .i64 b,.int .i64 a]] =
 (wc W zHG [.slice 3 [.agg [.int .i64 b,.int .i64 a]]]).bind λ c=>c.asTup.bind λ f=>f[0]?.bind λ g=>zP g λ h i=>c.asTup.bind λ j=>j[1]?.bind λ k=>c_b k λ l=>bif l then some (.agg [.int .i64 h,.int .i64 i])else(wc W zLk [.bool (a==0)]).bind λ m=>zP m λ d e=>some (.agg [.int .i64 d,.int .i64 e]):=gA_ (tN_ z5T)
def zAu(a b c d:Int) (e:List PV) (f:Int):Option (AV×List Ob):=(lO_ z1W false 2) [0,1] 2 (St.mk [(0,AV.fx 0 0),(1,.pv (.int .i64 a)),(2,.pv (.int .i64 b)),(3,.pv (.int .i64 c)),(10,.pv (.int .i64 d))] [.fix 0 0 e,.var false 0 (.pv (.int .i64 f))])
theorem zBw(b d e a:Int) (c:List PV) (f:Int):zAu b d e a c f =
 bif decide (a<e)then bif (true&&(decide (0<=(IntKind.wrap .i64 (d+a:Int)))))&&(decide ((IntKind.wrap .i64 (d+a:Int))<(c.length:Int)))then c[Int.toNat (IntKind.wrap .i64 (d+a:Int))]?.bind λ i=>c_s3 i λ g=>bif (true&&(decide (0<=(IntKind.wrap .i64 (b+a:Int)))))&&(decide ((IntKind.wrap .i64 (b+a:Int))<(c.length:Int)))then c[Int.toNat (IntKind.wrap .i64 (b+a:Int))]?.bind λ j=>c_s3 j λ h=>bif (true&&(decide (0<=(IntKind.wrap .i64 (b+a:Int)))))&&(decide ((IntKind.wrap .i64 (b+a:Int))<(c.length:Int)))then c[Int.toNat (IntKind.wrap .i64 (b+a:Int))]?.bind λ k=>bif (true&&(decide (0<=(IntKind.wrap .i64 (d+a:Int)))))&&(decide ((IntKind.wrap .i64 (d+a:Int))<(((List.length (List.set c (Int.toNat (IntKind.wrap .i64 (b+a:Int))) (.slice 3 g))):Nat):Int)))then((List.set c (Int.toNat (IntKind.wrap .i64 (b+a:Int))) (.slice 3 g))[Int.toNat (IntKind.wrap .i64 (d+a:Int))]?).bind λ l=>zAu b d e (IntKind.wrap .i64 (a+1)) (List.set (List.set c (Int.toNat (IntKind.wrap .i64 (b+a:Int))) (.slice 3 g)) (Int.toNat (IntKind.wrap .i64 (d+a:Int))) (.slice 3 h)) f else none else none else none else none else some (.pv (.tup []),[.fix 0 0 c,.var false 0 (.pv (.int .i64 f))]):=((tO_ z1W false 2).loop [1,0] 2 _ rfl).trans (by kernel_rfl)
theorem zEZ(a b c:Int) (d:List PV) (e:Int):W zAm false [AV.fx 0 0,.pv (.int .i64 a),.pv (.int .i64 b),.pv (.int .i64 c),.fnv zR [] [.own 1 0]] [.fix 0 0 d,.var false 0 (.pv (.int .i64 e))] =
 zAu a b c 0 d e:=goO (by kernel_rfl) (by kernel_rfl) (tO_ z1W false 2) rfl (by kernel_rfl)
theorem zT9(a:List PV) (c:PV):wc W zC8 [.slice 3 a,.imm 0 c 0] =
 a[0]?.bind λ e=>zP e λ f g=>a[1]?.bind λ h=>zP h λ i j=>(PV.asFn c).bind λ b=>(wc W (Prod.fst b) (((Prod.fst (Prod.snd b))++[.agg [.int .i64 f,.int .i64 g],.agg [.int .i64 i,.int .i64 j]])++(Prod.snd (Prod.snd b)))).bind λ k=>zP k λ l d=>some (.agg [.int .i64 l,.int .i64 d]):=gA_ (tN_ z5U)
theorem zTa(c a d b:Int) (g:PV):wc W zFC [.agg [.int .i64 c,.int .i64 a],.agg [.int .i64 d,.int .i64 b],g] =
 (wc W zHG [.slice 3 [.agg [.int .i64 c,.int .i64 a],.agg [.int .i64 d,.int .i64 b]]]).bind λ h=>h.asTup.bind λ u=>u[0]?.bind λ v=>zP v λ w x=>h.asTup.bind λ y=>y[1]?.bind λ z=>c_b z λ A=>bif A then some (.agg [.int .i64 w,.int .i64 x])else(PV.asFn g).bind λ f=>(wc W (Prod.fst f) (((Prod.fst (Prod.snd f))++[.int .i64 a,.int .i64 b])++(Prod.snd (Prod.snd f)))).bind λ e=>e.asTup.bind λ i=>i[0]?.bind λ j=>zA2 j λ k=>e.asTup.bind λ l=>l[1]?.bind λ m=>c_b m λ n=>bif !n then(wc W zJ6 []).bind λ o=>zP o λ p q=>some (.agg [.int .i64 p,.int .i64 q])else(wc W zFv [.int .i64 k]).bind λ r=>zP r λ s t=>some (.agg [.int .i64 s,.int .i64 t]):=gA_ (tN_ z5V)
theorem zVU(a b:Int):wc W zLF [.int .i64 a,.int .i64 b] =
 some (.tup [.int .i64 (IntKind.wrap .i64 (a+b:Int)),.bool ((decide ((IntKind.wrap .i64 (a+b:Int))<a))==(decide (b<0)))]):=gA_ (tN_ z5W)
theorem zVV(a b:Int):wc W zLG [.int .i64 a,.int .i64 b] =
 some (.tup [.int .i64 (IntKind.wrap .i64 (a-b:Int)),.bool ((decide (GT.gt (IntKind.wrap .i64 (a-b:Int)) a))==(decide (b<0)))]):=gA_ (tN_ z5X)
def zGe(a b c d e:Int):Option PV:=(jN_ z1X) [1,1,1,1] (St.mk [(0,.pv (.int .i64 a)),(1,.pv (.int .i64 b)),(6,.pv (.int IntKind.u64 c)),(7,.pv (.int IntKind.u64 d)),(8,.pv (.int IntKind.u64 e))] [])
theorem zOF(a b c d e:Int):zGe a b c d e =
 bif c==0 then some (.tup [.int .i64 (IntKind.wrap .i64 (a*b:Int)),.bool (decide (d<=e))])else some (.tup [.int .i64 (IntKind.wrap .i64 (a*b:Int)),.bool false]):=((tN_ z1X).join [1,1,1,1] _).trans (by kernel_rfl)
theorem zVW(a b:Int):wc W zIc [.int .i64 a,.int .i64 b] =
 (wc W zKZ [.int .i64 a]).bind λ g=>zZ1 g λ h=>(wc W zKZ [.int .i64 b]).bind λ i=>zZ1 i λ j=>(wc W zNZ [.int IntKind.u64 h,.int IntKind.u64 j]).bind λ d=>d.asTup.bind λ k=>k[0]?.bind λ l=>zZ1 l λ e=>d.asTup.bind λ m=>m[1]?.bind λ f=>zZ1 f λ c=>bif !((decide (a<0))==(decide (b<0)))then zGe a b e c 9223372036854775808 else zGe a b e c 9223372036854775807:=gA_ (tN_ z1X)
theorem zYJ(a:Int):wc W zKZ [.int .i64 a] =
 bif decide (a<0)then some (.int IntKind.u64 (IntKind.wrap .u64 (0-(IntKind.wrap .u64 a):Int)))else some (.int IntKind.u64 (IntKind.wrap .u64 a)):=gA_ (tN_ z5Y)
def zGf(a b:Int):Option PV:=(jN_ z1Y) [1,1] (St.mk [(0,.pv (.int .i64 a)),(1,.pv (.int .i64 b))] [])
theorem zOG(b a:Int):zGf b a =
 (bif a==0 then none else some (.int .i64 (IntKind.wrap .i64 (Int.tdiv b a)))).bind λ c=>zA2 c λ d=>some (.tup [.int .i64 d,.bool true]):=((tN_ z1Y).join [1,1] _).trans (by kernel_rfl)
theorem zVX(b a:Int):wc W zLH [.int .i64 b,.int .i64 a] =
 bif a==0 then some (.tup [.int .i64 0,.bool false])else bif b==(-9223372036854775808)then bif a==(-1)then some (.tup [.int .i64 0,.bool false])else zGf b a else zGf b a:=gA_ (tN_ z1Y)
theorem zVY(e:List PV) (f:PV) (a b c d:Int):wc W zId [.slice 3 e,f,.agg [.int .i64 a,.int .i64 b],.agg [.int .i64 c,.int .i64 d]] =
 (wc W zCq [.slice 3 e,f]).bind λ i=>c_b i λ j=>bif j then some (.agg [.int .i64 a,.int .i64 b])else(wc W zHG [.slice 3 e]).bind λ g=>g.asTup.bind λ k=>k[0]?.bind λ l=>zP l λ m n=>g.asTup.bind λ o=>o[1]?.bind λ p=>c_b p λ h=>bif h then some (.agg [.int .i64 m,.int .i64 n])else some (.agg [.int .i64 c,.int .i64 d]):=gA_ (tN_ z5Z)
theorem zRi(a b:Int):wc W zG7 [.agg [.int .i64 a,.int .i64 b]] =
 (wc W zFv [.int .i64 0]).bind λ c=>zP c λ d e=>((bif a==d then bif b==e then some true else some false else some false).bind λ f=>some (.bool f)).bind λ g=>c_b g λ h=>some (.bool h):=gA_ (tN_ z52)
end Go.Cf



namespace Go.Cf
open Go Go.Ab
structure Val where
 K:Int
 N:Int
 deriving DecidableEq
def Val.pv(v:Val):PV:= .agg [.int .i64 v.K,.int .i64 v.N]
@[simp] theorem Val.fold(v:Val):PV.agg [.int .i64 v.K,.int .i64 v.N]=v.pv:=rfl
@[simp] theorem Val.c_mk(v:Val) {R:Type} (f:Int->Int->Option R):zP v.pv f=f v.K v.N:=rfl
structure Def where
 Cols:Int
 Rows:Int
 deriving DecidableEq
def Def.pv(d:Def):PV:= .agg [.int .i64 d.Cols,.int .i64 d.Rows]
@[simp] theorem Def.fold(v:Def):PV.agg [.int .i64 v.Cols,.int .i64 v.Rows]=v.pv:=rfl
@[simp] theorem Def.c_mk(v:Def) {R:Type} (f:Int->Int->Option R):zP v.pv f=f v.Cols v.Rows:=rfl
@[simp] theorem Def.load0(v:Def):PV.load 3 v.pv 0 0=some (.int .i64 v.Cols):=rfl
@[simp] theorem Def.load1(v:Def):PV.load 3 v.pv 1 0=some (.int .i64 v.Rows):=rfl
def rowp(r:List Val):PV:= .slice 3 (r.map Val.pv)
def tabp(t:List (List Val)):PV:= .slice 0 (t.map rowp)
@[simp] theorem zDA(r:List Val) {R:Type} (f:List PV->Option R):c_s3 (rowp r) f=f (r.map Val.pv):=rfl
@[simp] theorem zN4(t:List (List Val)) {R:Type} (f:List PV->Option R):c_s0 (tabp t) f=f (t.map rowp):=rfl
@[simp] theorem zAA(r:List Val):PV.slice 3 (r.map Val.pv)=rowp r:=rfl
@[simp] theorem zAa(t:List (List Val)):PV.slice 0 (t.map rowp)=tabp t:=rfl
def intp(n:Int):PV:= .int .i64 n
@[simp] theorem zJD(n:Int) {R:Type} (f:Int->Option R):zA2 (intp n) f=f n:=rfl
def zBx(l:List Int):PV:= .slice 0 (l.map intp)
@[simp] theorem zI(l:List Int):PV.slice 0 (l.map intp)=zBx l:=rfl
@[simp] theorem zCz(l:List Int) {R:Type} (f:List PV->Option R):c_s0 (zBx l) f=f (l.map intp):=rfl
def idxI{α:Type} (l:List α) (f:α->Bool):Int:=match l.findIdx? f with | some i=>(i:Int) | none=> -1
theorem zIi{α:Type} (l:List α) (f:α->Bool):decide (idxI l f≥0)=l.any f:=by
 unfold idxI
 cases h:l.findIdx? f with
 |some i =>
  have:=List.findIdx?_eq_some_iff_getElem.1 h
  obtain⟨hi,h1,_⟩:=this
  have:l.any f=true:=List.any_eq_true.2 ⟨_,zAC hi,h1⟩
  rw[this];simp
 |none =>
  have:=List.findIdx?_eq_none_iff.1 h
  have:l.any f=false:=by
   rw[Bool.eq_false_iff]
   intro e
   obtain⟨x,hx,e⟩:=List.any_eq_true.1 e
   rw[this x hx]at e;cases e
  rw[this];rfl
theorem zIj{R α:Type} (L:Int->Option R) (l:List α) (f:α->Bool) (g:Int->Option R) (hs:∀(i:Nat) (h:i<l.length),L (i:Int)=bif f l[i]then g (i:Int)else L ((i:Int)+1)) (he:L (l.length:Int)=g (-1)) :
 L 0=g (idxI l f):=by
 have:∀ k i:Nat,i+k=l.length->L (i:Int)=g (match (l.drop i).findIdx? f with | some j=>((i+j:Nat):Int) | none=> -1):=by
  intro k
  induction k with
  |zero =>
   intro i h;simp at h;subst h
   rw[he,List.drop_of_length_le (zM _)];rfl
  |succ k ih =>
   intro i h
   have hi:i<l.length:=by omega
   rw[hs i hi,zAv hi,List.findIdx?_cons]
   cases f l[i] with
   |true=>simp
   |false =>
    simp only[zC,Bool.false_eq_true,if_false]
    rw[show((i:Int)+1)=((i+1:Nat):Int) by omega,ih (i+1) (by omega)]
    cases (List.drop (i+1) l).findIdx? f with
    |none=>rfl
    |some j =>
     simp only[zV]
     congr 1;omega
 have h0:=this l.length 0 (by omega)
 simp only[Nat.zero_add,List.drop_zero]at h0
 exact h0
theorem z18(l:List Val) (g:Nat) (fs cs:List PV) (f:Val->Bool) (hl:l.length<=9223372036854775807) (hf:∀ x∈l,wc W g (fs++[x.pv]++cs)=some (.bool (f x))) :
 wc W zBQ [rowp l,.fn g fs cs]=some (.int .i64 (idxI l f)):=by
 unfold rowp
 rw[zEM,zK]
 refine zIj (λ i=>zAi (l.map Val.pv) (.fn g fs cs) l.length i) l f (λ n=>some (.int .i64 n)) (λ i hi=> ?_) ?_
 ·rw[zBi]
  simp only[zAQ hi,zAc,zA,zY,zN,zH hi,zV,zB,Val.c_mk,asFn_mk,Val.fold]
  rw[hf _ (zAC hi),zAU (by omega) (by omega)]
  simp only[zB,c_b_mk]
 ·rw[zBi];simp
theorem zRj(l:List Val) (g:Nat) (fs cs:List PV) (f:Val->Bool) (hl:l.length<=9223372036854775807) (hf:∀ x∈l,wc W g (fs++[x.pv]++cs)=some (.bool (f x))) :
 wc W zAP [rowp l,.fn g fs cs]=some (.bool (l.any f)):=by
 have h:=zDd (l.map Val.pv) (.fn g fs cs)
 rw[zAA]at h
 rw[h,z18 l g fs cs f hl hf]
 simp[<- zIi]
def mayV(v:Val):Bool:=decide (v.K=0) || ((decide (v.K=1) || decide (v.K=2))&&decide (v.N=0))
theorem zJn(v:Val):wc W zHF [v.pv]=some (.bool (mayV v)):=by
 have h:=zZ5 v.K v.N
 rw[Val.fold]at h
 rw[h]
 unfold mayV
 by_cases h0:v.K=0
 ·rw[h0];simp
 ·by_cases h1:v.K=1
  ·rw[h1];simp[BEq.beq]
  ·by_cases h2:v.K=2
   ·rw[h2];simp[BEq.beq]
   ·by_cases a:v.K≥0
    ·rw[zD a,zL (show ¬ v.K<3 by omega)];simp[h0,h1,h2]
    ·rw[zL a];simp[h0,h1,h2]
end Go.Cf

namespace Go.Cf
open Go Go.Ab
def bagp(c:List Int) (r:List (List Val)):PV:= .agg [zBx c,tabp r]
@[simp] theorem zAo(c:List Int) (r:List (List Val)):PV.agg [zBx c,tabp r]=bagp c r:=rfl
@[simp] theorem zFa(c:List Int) (r:List (List Val)) {R:Type} (f:List PV->List PV->Option R):zAT (bagp c r) f=f (c.map intp) (r.map rowp):=rfl
theorem zMv{α:Type} (l:List α) (f:α->Bool):(!l.any λ x=> !f x)=l.all f:=by
 induction l with
 |nil=>rfl
 |cons a l ih=>simp only[List.any_cons,List.all_cons,Bool.not_or,Bool.not_not,ih]
def upd(f:Nat->Bool) (v:Nat):Nat->Bool:=λ k=>bif k==0+v*1 then true else f k
def goC:(Nat->Bool)->List Int->Option (Nat->Bool)
 |f,[]=>some f
 |f,c::r=>bif (decide (0<=c)&&decide (c<=15))&& !f c.toNat then goC (upd f c.toNat) r else none
def M1(l1 l2 l3:List PV) (n i:Int) (f:Nat->Bool):Option PV:=zIf l1 l2 l3 n i (f 0) (f 1) (f 2) (f 3) (f 4) (f 5) (f 6) (f 7) (f 8) (f 9) (f 10) (f 11) (f 12) (f 13) (f 14) (f 15)
def M2(l1 l2 l3:List PV) (n i:Int) (f:Nat->Bool):Option PV:=zIg l1 l2 l3 n i (f 0) (f 1) (f 2) (f 3) (f 4) (f 5) (f 6) (f 7) (f 8) (f 9) (f 10) (f 11) (f 12) (f 13) (f 14) (f 15)
theorem z57(f:Nat->Bool):∀ v:Nat,v<16->PV.load 17 (.agg [.bool (f 0),.bool (f 1),.bool (f 2),.bool (f 3),.bool (f 4),.bool (f 5),.bool (f 6),.bool (f 7),.bool (f 8),.bool (f 9),.bool (f 10),.bool (f 11),.bool (f 12),.bool (f 13),.bool (f 14),.bool (f 15)]) (0+v*1) 0=some (.bool (f v))
 | 0,_=>rfl | 1,_=>rfl | 2,_=>rfl | 3,_=>rfl | 4,_=>rfl | 5,_=>rfl | 6,_=>rfl | 7,_=>rfl
 | 8,_=>rfl | 9,_=>rfl | 10,_=>rfl | 11,_=>rfl | 12,_=>rfl | 13,_=>rfl | 14,_=>rfl | 15,_=>rfl
 |n+16,h=>by omega
theorem zTb(cols:List Int) (rows:List PV) (hl:cols.length<=9223372036854775807):∀(k i:Nat) (f:Nat->Bool),i+k=cols.length ->
 M1 (cols.map intp) rows (cols.map intp) (cols.length:Int) (i:Int) f=match goC f (cols.drop i)with | some f' =>M2 (cols.map intp) rows rows ((rows.length:Nat):Int) 0 f' | none=>some (.bool false)
 | 0,i,f,h=>by
  unfold M1
  rw[zKk,show i=cols.length by omega]
  simp only[zFU,zC,List.drop_length,goC]
  rfl
 |k+1,i,f,h=>by
  have hi:i<cols.length:=by omega
  unfold M1
  rw[zKk,zAv hi,goC]
  simp only[zAQ hi,zAc,zA,zY,zN,zH hi,zV,zB,zJD]
  by_cases h0:cols[i]<0
  ·rw[zD h0,zL (show ¬ 0<=cols[i] by omega)];rfl
  rw[zL h0,zD (show 0<=cols[i] by omega)]
  by_cases h15:cols[i]>15
  ·rw[zD h15,zL (show ¬ cols[i]<=15 by omega)];rfl
  rw[zL h15,zD (show cols[i]<=15 by omega),zD (show cols[i]<16 by omega)]
  simp only[zC,Bool.and_self,zA,zAD,z57 f cols[i].toNat (by omega),zB,c_b_mk]
  cases hf:f cols[i].toNat with
  |true=>rfl
  |false =>
   simp only[zC,Bool.not_false,zA,zD (show 0+cols[i].toNat*1+1<=16 by omega),Bool.and_true]
   rw[zAU (by omega) (by omega)]
   exact zTb cols rows hl k (i+1) (upd f cols[i].toNat) (by omega)
theorem zZg:∀(cols:List Int) (f:Nat->Bool),(goC f cols).isSome=true↔(∀ c∈cols,(0<=c/\c<=15)/\f c.toNat=false)/\cols.Nodup
 | [],f=>by simp[goC]
 |c::r,f=>by
  unfold goC
  cases hb:(decide (0<=c)&&decide (c<=15))&& !f c.toNat with
  |false =>
   simp only[zC,Option.isSome_none,Bool.false_eq_true,false_iff,not_and]
   intro h
   have:=h c (by simp)
   rw[zD this.1.1,zD this.1.2,this.2]at hb
   cases hb
  |true =>
   simp only[zA]
   rw[zZg r]
   simp only[zF,zU,Bool.not_eq_true']at hb
   obtain⟨⟨c0,c15⟩,hf⟩:=hb
   simp only[List.nodup_cons,zAE,forall_eq_or_imp,upd,Nat.zero_add,Nat.mul_one]
   constructor
   ·rintro⟨h1,h2⟩
    refine⟨⟨⟨⟨c0,c15⟩,hf⟩,λ x hx=>⟨(h1 x hx).1,?_⟩⟩,?_,h2⟩
    ·have:=(h1 x hx).2
     cases e:(x.toNat==c.toNat) with
     |true=>rw[e]at this;cases this
     |false=>rw[e]at this;exact this
    ·intro hc
     have:=(h1 c hc).2
     rw[zIH rfl]at this;cases this
   ·rintro⟨⟨_,h1⟩,h2,h3⟩
    refine⟨λ x hx=>⟨(h1 x hx).1,?_⟩,h3⟩
    have hne:x≠c:=λ e=>h2 (e▸hx)
    have:=(h1 x hx).1
    rw[zDP (show x.toNat≠c.toNat by omega)]
    exact(h1 x hx).2
def zYK(cols:List Int):Bool:=(goC (λ _=>false) cols).isSome
theorem zP3(cols:List Int):zYK cols=true↔(∀ c∈cols,0<=c/\c<=15)/\cols.Nodup:=by
 unfold zYK
 rw[zZg]
 simp
def rowB(n:Nat) (r:List Val):Bool:=decide (r.length=n)&&r.all mayV
def mayB(c:List Int) (r:List (List Val)):Bool:=zYK c&&r.all (rowB c.length)&&decide (r.length<=5000)
theorem z3O(v:Val):wc W zHE [v.pv]=some (.bool (!mayV v)):=by
 have h:=zVL v.K v.N
 rw[Val.fold]at h
 rw[h,zJn];rfl
theorem zP4(c:List Int) (r:List (List Val)) (hc:c.length<=9223372036854775807) (hr:r.length<=9223372036854775807) (hl:∀ x∈r,x.length<=9223372036854775807):wc W zJ1 [bagp c r]=some (.bool (mayB c r)):=by
 have h:=zZ3 (c.map intp) (r.map rowp)
 rw[zI,zAa,zAo]at h
 have h1:=zTb c (r.map rowp) hc c.length 0 (λ _=>false) (by omega)
 rw[List.drop_zero]at h1
 rw[h,zK]
 refine h1.trans ?_
 unfold mayB zYK
 cases hg:goC (λ _=>false) c with
 |none=>rfl
 |some f =>
  simp only[Option.isSome_some,zAD,zK]
  rw[zOS (λ i=>M2 (c.map intp) (r.map rowp) (r.map rowp) (r.length:Int) i f) r.length (λ i=>(r[i]?).all (rowB c.length)) (some (.bool false)) (some (.bool (decide (r.length<=5000)))) ?_ ?_,zZ2]
  ·cases r.all (rowB c.length)<;>rfl
  ·intro i hi
   unfold M2
   rw[zKl]
   simp only[zK,zAQ hi,zAc,zA,zY,zN,zH hi,zV,zB,zDA,zAA,Option.all_some,zRj r[i] zHE [] [] (λ v=> !mayV v) (hl _ (zAC hi)) (λ x _=>z3O x),c_b_mk]
   rw[zAU (by omega) (by omega)]
   unfold rowB
   by_cases e:r[i].length=c.length
   ·rw[zLq (by rw[e]),zD e,<-zMv]
    cases r[i].any λ v=> !mayV v<;>rfl
   ·rw[zLI (by omega),zL e];rfl
  ·unfold M2
   rw[zKl]
   simp only[zK,zFU,zC]
   congr 2
   have:((r.length:Int)<=5000)=(r.length<=5000):=by apply propext;omega
   simp only[this]
theorem zZh{c:List Int} (h:zYK c=true):c.length<=16:=by
 obtain⟨h1,h2⟩:=(zP3 c).1 h
 have hsub:c ⊆ (List.range 16).map λ n:Nat=>(n:Int):=by
  intro x hx
  have:=h1 x hx
  rw[zAh]
  exact⟨x.toNat,by simp;omega,by omega⟩
 have:=List.Nodup.length_le_of_subset h2 hsub
 simpa using this
theorem zBo{c:List Int} {r:List (List Val)} (h:mayB c r=true):c.length<=16/\r.length<=5000/\∀ x∈r,x.length=c.length/\x.all mayV=true:=by
 unfold mayB at h
 simp only[zF,zU,zAF]at h
 refine⟨zZh h.1.1,h.2,λ x hx=> ?_⟩
 have:=h.1.2 x hx
 unfold rowB at this
 simp only[zF,zU]at this
 exact this
def bagR(x:Option (List Int×List (List Val))):PV:=match x with | some b=> .tup [bagp b.1 b.2,.bool true] | none=> .tup [bagp [] [],.bool false]
end Go.Cf

namespace Go.Cf
open Go Go.Ab
def badV:Val:=⟨2,0⟩
def VOk(v:Val):Prop:=I64 v.K/\I64 v.N
def zW(cols:List Int) (row:List Val) (c:Int):Val:=bif decide (idxI cols (λ x=>c==x)<0)then badV else bif decide (idxI cols (λ x=>c==x)≥(row.length:Int))then badV else row.getD (idxI cols (λ x=>c==x)).toNat badV
theorem zJo(l:List Int) (n:Int) (hl:l.length<=9223372036854775807):wc W zAZ [zBx l,.int .i64 n]=some (.int .i64 (idxI l (λ x=>n==x))):=by
 have h:=zJG (l.map intp) n
 rw[zI]at h
 rw[h,zK]
 refine zIj (λ i=>zCR (l.map intp) n l.length i) l (λ x=>n==x) (λ n=>some (.int .i64 n)) (λ i hi=> ?_) ?_
 ·rw[zEI]
  simp only[zAQ hi,zAc,zA,zY,zN,zH hi,zV,zB,zJD]
  rw[zAU (by omega) (by omega)]
 ·rw[zEI];simp
theorem zZi{α:Type} [DecidableEq α] {R:Type} (L:Int->Option R) (a b:List α) (e:a.length=b.length) (r s:Option R) (hs:∀ i:Nat,∀(h:i<a.length) (h' :i<b.length),L (i:Int)=bif decide (a[i]=b[i])then L ((i:Int)+1)else r) (he:L (a.length:Int)=s) :
 L 0=bif decide (a=b)then s else r:=by
 rw[zOS L a.length (λ i=>decide (a[i]? =b[i]?)) r s (λ i hi=> ?_) he,z56 a b e]
 have hi' :i<b.length:=by omega
 rw[hs i hi hi',zH hi,zH hi']
 simp only[zE]
theorem z19(cols:List Int) {row:List Val} (h:∀ v∈row,VOk v) (c:Int):VOk (zW cols row c):=by
 have hb:VOk badV:=⟨⟨by decide,by decide⟩,⟨by decide,by decide⟩⟩
 unfold zW
 cases decide (idxI cols (λ x=>c==x)<0) with
 |true=>exact hb
 |false =>
  cases decide (idxI cols (λ x=>c==x)≥(row.length:Int)) with
  |true=>exact hb
  |false =>
   simp only[zC]
   rw[zA0]
   cases hr:row[(idxI cols (λ x=>c==x)).toNat]? with
   |none=>exact hb
   |some v=>exact h v (zAV hr)
def ROk(r:List Val):Prop:=∀ v∈r,VOk v
def inC(c:List Int) (x:Int):Bool:=decide (x∈c)
theorem zRk{c:List Int} {x:Int}:decide (idxI c (λ y=>x==y)<0)= !inC c x:=by
 have h:=zIi c (λ y=>x==y)
 have h2:c.any (λ y=>x==y)=inC c x:=by
  unfold inC
  rw[Bool.eq_iff_iff,List.any_eq_true,zU]
  constructor
  ·rintro⟨y,hy,e⟩;rw[beq_iff_eq]at e;subst e;exact hy
  ·intro h;exact⟨x,h,by simp⟩
 rw[h2]at h
 rw[<- h]
 by_cases hh:idxI c (λ y=>x==y)<0
 ·rw[zD hh,zL (by omega)];rfl
 ·rw[zL hh,zD (by omega)];rfl
theorem zWY(c:List Int) (x:Int):idxI c (λ y=>x==y)<(c.length:Int):=by
 unfold idxI
 cases h:c.findIdx? (λ y=>x==y) with
 |none=>simp only;omega
 |some i =>
  obtain⟨hi,_⟩:=List.findIdx?_eq_some_iff_getElem.1 h
  simp only;omega
theorem zEk{c:List Int} {row:List Val} {x:Int} (h:inC c x=true) (hl:row.length=c.length):(row[(idxI c (λ y=>x==y)).toNat]? =some (zW c row x))/\0<=idxI c (λ y=>x==y):=by
 have h1:decide (idxI c (λ y=>x==y)<0)=false:=by rw[zRk,h];rfl
 have h2:=of_decide_eq_false h1
 have h3:=zWY c x
 refine⟨?_,by omega⟩
 unfold zW
 rw[h1,zL (show ¬ idxI c (λ y=>x==y)≥(row.length:Int) by omega)]
 have hlt:(idxI c (λ y=>x==y)).toNat<row.length:=by omega
 simp only[zC,zH hlt,zA0,Option.getD_some]
theorem zTc{α:Type}:∀{l:List α},l.Nodup->∀{j k:Nat} {o:α},l[j]? =some o->l[k]? =some o->j=k
 | [],_,_,_,_,h,_=>by simp at h
 |x::r,hn,0,0,o,h,hk=>rfl
 |x::r,hn,0,k+1,o,h,hk=>by
  simp only[zAS,zE]at h;subst h
  exact absurd (zAV (by simpa using hk)) (List.nodup_cons.1 hn).1
 |x::r,hn,j+1,0,o,h,hk=>by
  simp only[zAS,zE]at hk;subst hk
  exact absurd (zAV (by simpa using h)) (List.nodup_cons.1 hn).1
 |x::r,hn,j+1,k+1,o,h,hk=>by
  exact congrArg (· +1) (zTc (o:=o) (List.nodup_cons.1 hn).2 (by simpa using h) (by simpa using hk))
theorem place_of{is:List Nat} (hn:is.Nodup) {o j:Nat} (h:is[j]? =some o):zFc is o=some j:=by
 cases hp:zFc is o with
 |none=>exact absurd (zAV h) (zMX hp)
 |some k =>
  have hk:=zFf hp
  exact congrArg some (zTc hn h hk).symm
theorem zYL{c:List Int} {r:List (List Val)} (h:mayB c r=true):zYK c=true/\r.all (rowB c.length)=true/\r.length<=5000:=by
 unfold mayB at h
 simp only[zF,zU]at h
 exact⟨h.1.1,h.1.2,h.2⟩
theorem z1a{c:List Int} {r:List (List Val)} (h:mayB c r=true):mayB c []=true:=by
 unfold mayB;rw[(zYL h).1];rfl
end Go.Cf

namespace Go.Cf
open Go Go.Ab
def z58:Val:=⟨1,0⟩
def zF2(v:Val):Val:=bif mayV v then v else badV
def oddV(l:List Val):Option Val:=bif l.any (λ v=>(zF2 v).K==2)then some badV else bif l.any (λ v=>(zF2 v).K==1)then some z58 else none
def oneV(b:Bool):Val:=⟨0,bif b then 1 else 0⟩
def zOH(a b:Val) (f:Int->Int->Option Int):Val:=match oddV [a,b]with | some v=>v | none=>match f a.N b.N with | some n=>⟨0,n⟩ | none=>badV
def inI(n:Int):Bool:=decide (-9223372036854775808<=n)&&decide (n<=9223372036854775807)
def addO(x y:Int):Option Int:=bif inI (x+y)then some (x+y)else none
def subO(x y:Int):Option Int:=bif inI (x-y)then some (x-y)else none
def mulO(x y:Int):Option Int:=bif inI (x*y)then some (x*y)else none
def divO(x y:Int):Option Int:=bif y==0 || (x== -9223372036854775808&&y== -1)then none else some (Int.tdiv x y)
def eqV(a b:Val):Val:=match oddV [a,b]with | some v=>v | none=>oneV (decide (a=b))
def ltV(a b:Val):Val:=match oddV [a,b]with | some v=>v | none=>oneV (decide (a.N<b.N))
def zP5(v:Val):Bool:=v.K==0&&v.N != 0
def zTd(v:Val):Bool:=v.K==0&&v.N==0
def andV(l:List Val):Val:=bif l.any zTd then⟨0,0⟩else match oddV l with | some v=>v | none=>⟨0,1⟩
def orV(l:List Val):Val:=bif l.any zP5 then⟨0,1⟩else match oddV l with | some v=>v | none=>⟨0,0⟩
def notV(v:Val):Val:=match oddV [v]with | some w=>w | none=>oneV (v.N==0)
theorem z3P:wc W zJ6 []=some badV.pv:=zZ8
theorem z59:wc W zMi []=some z58.pv:=zYF
theorem w_Of(n:Int):wc W zFv [.int .i64 n]=some (Val.mk 0 n).pv:=z13 n
theorem w_of(b:Bool):wc W zLk [.bool b]=some (oneV b).pv:=by
 rw[z15,w_Of,w_Of]
 cases b<;>rfl
theorem zZj(v:Val):wc W zIG [v.pv]=some (zF2 v).pv:=by
 have h:=zYH v.K v.N
 rw[Val.fold]at h
 rw[h,zJn,z3P]
 unfold zF2
 cases mayV v<;>rfl
theorem zZk(v:Val) (k:Int):wc W zFA [v.pv,.imm 0 (.int .i64 k) 0]=some (.bool ((zF2 v).K==k)):=by
 have h:=zT7 v.K v.N k
 rw[Val.fold]at h
 rw[h,zZj];rfl
theorem z5a(k:Int):wc W zKY [.int .i64 k]=some (.fn zFA [] [.imm 0 (.int .i64 k) 0]):=zYE k
theorem zVZ(l:List Val) (g:Nat) (fs cs:List PV) (f:Val->Bool) (hl:l.length<=9223372036854775807) (hf:∀ x∈l,wc W g (fs++[x.pv]++cs)=some (.bool (f x))) :
 wc W zCq [rowp l,.fn g fs cs]=some (.bool (l.any f)):=by
 have h:=zLy (l.map Val.pv) (.fn g fs cs)
 rw[zAA]at h
 rw[h,zRj l g fs cs f hl hf];rfl
def oddP(l:List Val):PV:=match oddV l with | some v=> .tup [v.pv,.bool true] | none=> .tup [(Val.mk 0 0).pv,.bool false]
theorem zZl(l:List Val) (hl:l.length<=9223372036854775807):wc W zHG [rowp l]=some (oddP l):=by
 have h:=zZ9 (l.map Val.pv)
 rw[zAA]at h
 rw[h]
 simp only[z5a,zB,zVZ l zFA [] [.imm 0 (.int .i64 2) 0] (λ v=>(zF2 v).K==2) hl (λ x _=>zZk x 2),zVZ l zFA [] [.imm 0 (.int .i64 1) 0] (λ v=>(zF2 v).K==1) hl (λ x _=>zZk x 1),c_b_mk,z3P,z59]
 unfold oddP oddV
 cases l.any (λ v=>(zF2 v).K==2)<;>cases l.any (λ v=>(zF2 v).K==1)<;>rfl
theorem row2(a b:Val):PV.slice 3 [a.pv,b.pv]=rowp [a,b]:=rfl
theorem row1(a:Val):PV.slice 3 [a.pv]=rowp [a]:=rfl
theorem zOT(a b:Val) (g:Nat) (f:Int->Int->Option Int) (hg:∃ n,wc W g [.int .i64 a.N,.int .i64 b.N]=some (.tup [.int .i64 ((f a.N b.N).getD n),.bool (f a.N b.N).isSome])) :
 wc W zFC [a.pv,b.pv,.fn g [] []]=some (zOH a b f).pv:=by
 have h:=zTa a.K a.N b.K b.N (.fn g [] [])
 simp only[Val.fold,row2]at h
 obtain⟨n,hg⟩:=hg
 rw[h,zZl [a,b] (by simp)]
 unfold zOH oddP
 cases oddV [a,b] with
 |some v=>simp
 |none =>
  simp only[zB,asTup_mk,zAS,zAq,Val.c_mk,c_b_mk,zC,asFn_mk,List.nil_append,zBN,hg,c_i64_mk,z3P,w_Of,Val.fold]
  cases f a.N b.N<;>rfl
theorem zZm(n:Int):IntKind.wrap .i64 n=(n+9223372036854775808) % 18446744073709551616-9223372036854775808:=by
 simp only[IntKind.wrap,IntKind.bits,IntKind.signed]
 simp
 omega
theorem z62(a b:Val) (ha:I64 a.N) (hb:I64 b.N):wc W zLl [a.pv,b.pv]=some (zOH a b addO).pv:=by
 have h:=zZa a.K a.N b.K b.N
 simp only[Val.fold]at h
 rw[h,zOT a b zLF addO ⟨IntKind.wrap .i64 (a.N+b.N),?_⟩]
 ·simp
 ·rw[zVU]
  obtain⟨a1,a2⟩:=ha
  obtain⟨b1,b2⟩:=hb
  unfold addO inI
  by_cases hi: -9223372036854775808<=a.N+b.N/\a.N+b.N<=9223372036854775807
  ·rw[zD hi.1,zD hi.2,zAU hi.1 hi.2]
   have:(decide (a.N+b.N<a.N)==decide (b.N<0))=true:=by
    rw[beq_iff_eq,decide_eq_decide];omega
   rw[this];rfl
  ·have hb' :(decide (-9223372036854775808<=a.N+b.N)&&decide (a.N+b.N<=9223372036854775807))=false:=by rw[<- Bool.decide_and];exact zL hi
   rw[hb']
   have:(decide (IntKind.wrap .i64 (a.N+b.N)<a.N)==decide (b.N<0))=false:=by
    rw[beq_eq_false_iff_ne,ne_eq,decide_eq_decide,zZm];omega
   rw[this];rfl
theorem z63(a b:Val) (ha:I64 a.N) (hb:I64 b.N):wc W zLm [a.pv,b.pv]=some (zOH a b subO).pv:=by
 have h:=zZb a.K a.N b.K b.N
 simp only[Val.fold]at h
 rw[h,zOT a b zLG subO ⟨IntKind.wrap .i64 (a.N-b.N),?_⟩]
 ·simp
 ·rw[zVV]
  obtain⟨a1,a2⟩:=ha
  obtain⟨b1,b2⟩:=hb
  unfold subO inI
  by_cases hi: -9223372036854775808<=a.N-b.N/\a.N-b.N<=9223372036854775807
  ·rw[zD hi.1,zD hi.2,zAU hi.1 hi.2]
   have:(decide (a.N-b.N>a.N)==decide (b.N<0))=true:=by
    rw[beq_iff_eq,decide_eq_decide];omega
   rw[this];rfl
  ·have hb' :(decide (-9223372036854775808<=a.N-b.N)&&decide (a.N-b.N<=9223372036854775807))=false:=by rw[<- Bool.decide_and];exact zL hi
   rw[hb']
   have:(decide (IntKind.wrap .i64 (a.N-b.N)>a.N)==decide (b.N<0))=false:=by
    rw[beq_eq_false_iff_ne,ne_eq,decide_eq_decide,zZm];omega
   rw[this];rfl
theorem z64(a b:Val) (ha:I64 a.N) (hb:I64 b.N):wc W zLo [a.pv,b.pv]=some (zOH a b divO).pv:=by
 have h:=zZd a.K a.N b.K b.N
 simp only[Val.fold]at h
 rw[h,zOT a b zLH divO ⟨0,?_⟩]
 ·simp
 ·rw[zVX]
  unfold divO
  cases h0:(b.N==0) with
  |true=>rfl
  |false =>
   have hJ:(a.N== -9223372036854775808&&b.N== -1)=false->zGf a.N b.N=some (.tup [.int .i64 (Int.tdiv a.N b.N),.bool true]):=λ hn=>by
    rw[zOG,h0]
    obtain⟨a1,a2⟩:=ha
    have hb0:b.N≠0:=by simpa using h0
    have hr: -9223372036854775808<=Int.tdiv a.N b.N/\Int.tdiv a.N b.N<=9223372036854775807:=by
     have h1:(Int.tdiv a.N b.N).natAbs<=a.N.natAbs:=by
      rw[Int.natAbs_tdiv]
      exact Nat.div_le_self _ _
     by_cases hm:Int.tdiv a.N b.N=9223372036854775808
     ·exfalso
      have hA:a.N= -9223372036854775808:=by omega
      rw[hA]at hm hn
      have hb1:b.N≠ -1:=by intro e;rw[e]at hn;cases hn
      have h2:(Int.tdiv (-9223372036854775808) b.N).natAbs=9223372036854775808 / b.N.natAbs:=by rw[Int.natAbs_tdiv];rfl
      rw[hm]at h2
      have h3:b.N.natAbs=1:=by
       rcases Nat.lt_or_ge b.N.natAbs 2 with h | h
       ·omega
       ·have:9223372036854775808 / b.N.natAbs<=9223372036854775808 / 2:=Nat.div_le_div_left h (by omega)
        have h4:(9223372036854775808:Int).natAbs=9223372036854775808:=rfl
        omega
      have hb2:b.N=1:=by omega
      rw[hb2]at hm
      simp at hm
     ·omega
    rw[zAU hr.1 hr.2];rfl
   simp only[zC,Bool.false_or]
   cases h1:(a.N== -9223372036854775808) with
   |false =>
    rw[h1]at hJ
    simp only[zC,Bool.false_and,hJ (by rfl)];rfl
   |true =>
    rw[h1]at hJ
    cases h2:(b.N== -1) with
    |true=>rfl
    |false =>
     rw[h2]at hJ
     simp only[zA,zC,Bool.and_false,hJ (by rfl)];rfl
theorem w_Eq(a b:Val):wc W zLj [a.pv,b.pv]=some (eqV a b).pv:=by
 have h:=z14 a.K a.N b.K b.N
 simp only[Val.fold,row2]at h
 rw[h,zZl [a,b] (by simp)]
 unfold eqV oddP
 cases oddV [a,b] with
 |some v=>simp
 |none =>
  simp only[zB,asTup_mk,zAS,zAq,Val.c_mk,c_b_mk,zC]
  have key:((bif (a.K==b.K)then(bif (a.N==b.N)then(some true)else(some false))else(some false)):Option Bool)=some (decide (a=b)):=by
   cases a;cases b
   simp only[Val.mk.injEq]
   rw[Bool.decide_and]
   rename_i k n k' n'
   show _=some ((k==k')&&(n==n'))
   cases k==k' <;>cases n==n' <;>rfl
  rw[key]
  simp only[zB,c_b_mk,w_of,Val.c_mk,Val.fold]
theorem w_Lt(a b:Val):wc W zOQ [a.pv,b.pv]=some (ltV a b).pv:=by
 have h:=z16 a.K a.N b.K b.N
 simp only[Val.fold,row2]at h
 rw[h,zZl [a,b] (by simp)]
 unfold ltV oddP
 cases oddV [a,b] with
 |some v=>simp
 |none=>simp only[zB,asTup_mk,zAS,zAq,Val.c_mk,c_b_mk,zC,w_of,Val.fold]
theorem z65(a:Val):wc W zPQ [a.pv]=some (notV a).pv:=by
 have h:=zZf a.K a.N
 simp only[Val.fold,row1]at h
 rw[h,zZl [a] (by simp)]
 unfold notV oddP
 cases oddV [a] with
 |some v=>simp
 |none=>simp only[zB,asTup_mk,zAS,zAq,Val.c_mk,c_b_mk,zC,w_of,Val.fold]
theorem zZn(v:Val):wc W zGk [v.pv]=some (.bool (zP5 v)):=by
 have h:=zYB v.K v.N
 rw[Val.fold]at h
 rw[h]
 unfold zP5
 cases v.K==0<;>rfl
theorem zZo(v:Val):wc W zG7 [v.pv]=some (.bool (zTd v)):=by
 have h:=zRi v.K v.N
 rw[Val.fold]at h
 rw[h,w_Of]
 unfold zTd
 simp only[zB,Val.c_mk]
 cases v.K==0<;>cases v.N==0<;>rfl
theorem zZp(l:List Val) (g:Nat) (f:Val->Bool) (x y:Val) (hl:l.length<=9223372036854775807) (hf:∀ v∈l,wc W g [v.pv]=some (.bool (f v))) :
 wc W zId [rowp l,.fn g [] [],x.pv,y.pv]=some (bif l.any f then x else match oddV l with | some v=>v | none=>y).pv:=by
 have h:=zVY (l.map Val.pv) (.fn g [] []) x.K x.N y.K y.N
 simp only[Val.fold,zAA]at h
 rw[h,zVZ l g [] [] f hl hf,zZl l hl]
 unfold oddP
 cases l.any f with
 |true=>rfl
 |false=>cases oddV l<;>simp
theorem z67(l:List Val) (hl:l.length<=9223372036854775807):wc W zPP [rowp l]=some (andV l).pv:=by
 have h:=zZe (l.map Val.pv)
 rw[zAA]at h
 rw[h,w_Of,w_Of]
 simp only[zB,Val.c_mk,Val.fold,show PV.agg [PV.int .i64 0,PV.int .i64 0]=(Val.mk 0 0).pv from rfl,show PV.agg [PV.int .i64 0,PV.int .i64 1]=(Val.mk 0 1).pv from rfl,zZp l zG7 zTd ⟨0,0⟩ ⟨0,1⟩ hl (λ v _=>zZo v)]
 rfl
theorem w_Or(l:List Val) (hl:l.length<=9223372036854775807):wc W zR2 [rowp l]=some (orV l).pv:=by
 have h:=z17 (l.map Val.pv)
 rw[zAA]at h
 rw[h,w_Of,w_Of]
 simp only[zB,Val.c_mk,Val.fold,show PV.agg [PV.int .i64 0,PV.int .i64 0]=(Val.mk 0 0).pv from rfl,show PV.agg [PV.int .i64 0,PV.int .i64 1]=(Val.mk 0 1).pv from rfl,zZp l zGk zP5 ⟨0,1⟩ ⟨0,0⟩ hl (λ v _=>zZn v)]
 rfl
end Go.Cf

namespace Go.Cf
open Go Go.Ab
theorem z2T(n:Int) (h:I64 n):wc W zKZ [.int .i64 n]=some (.int .u64 (n.natAbs:Int)):=by
 obtain⟨h1,h2⟩:=h
 have hw:∀ m:Int,IntKind.wrap .u64 m=m % 18446744073709551616:=λ m=>by simp[IntKind.wrap,IntKind.bits,IntKind.signed]
 rw[zYJ,hw,hw]
 by_cases hn:n<0
 ·rw[zD hn]
  simp only[zA]
  congr 2
  omega
 ·rw[zL hn]
  simp only[zC]
  congr 2
  omega
theorem zRl{a b:Int} (ha:I64 a) (hb:I64 b):a.natAbs*b.natAbs<=9223372036854775808*9223372036854775808:=Nat.mul_le_mul (by obtain⟨_,_⟩:=ha;omega) (by obtain⟨_,_⟩:=hb;omega)
theorem zZq{m:Nat} (hm:m<=9223372036854775808*9223372036854775808) (k:Nat) (hk:k<18446744073709551616) :
 (((m / 18446744073709551616:Nat):Int)==0&&decide (((m % 18446744073709551616:Nat):Int)<=(k:Int)))=decide (m<=k):=by
 by_cases h:m<=k
 ·rw[zD h]
  have h1:m / 18446744073709551616=0:=Nat.div_eq_of_lt (by omega)
  have h2:m % 18446744073709551616=m:=Nat.mod_eq_of_lt (by omega)
  rw[h1,h2]
  simpa using h
 ·rw[zL h]
  by_cases h1:m<18446744073709551616
  ·have h2:m % 18446744073709551616=m:=Nat.mod_eq_of_lt h1
   rw[h2]
   have:decide ((m:Int)<=(k:Int))=false:=zL (by omega)
   rw[this,Bool.and_false]
  ·have h3:0<m / 18446744073709551616:=Nat.div_pos (by omega) (by omega)
   have:((((m / 18446744073709551616:Nat):Int))==0)=false:=by simp only[beq_eq_false_iff_ne,ne_eq];omega
   rw[this,Bool.false_and]
theorem z5b(a b:Int) (ha:I64 a) (hb:I64 b):wc W zIc [.int .i64 a,.int .i64 b]=some (.tup [.int .i64 (IntKind.wrap .i64 (a*b)),.bool (inI (a*b))]):=by
 rw[zVW,z2T a ha,z2T b hb]
 have hm:=zRl ha hb
 obtain⟨a1,a2⟩:=ha
 obtain⟨b1,b2⟩:=hb
 simp only[zB,c_u64_mk]
 rw[zTR _ _ (by omega) (by omega) (by omega) (by omega)]
 simp only[zB,asTup_mk,zAS,zAq,c_u64_mk,zY]
 have hJ:∀ k:Nat,k<18446744073709551616->zGe a b ((a.natAbs*b.natAbs / 18446744073709551616:Nat):Int) ((a.natAbs*b.natAbs % 18446744073709551616:Nat):Int) (k:Int) =
  some (.tup [.int .i64 (IntKind.wrap .i64 (a*b)),.bool (decide (a.natAbs*b.natAbs<=k))]):=λ k hk=>by
  rw[zOF,<-zZq hm k hk]
  cases (((a.natAbs*b.natAbs / 18446744073709551616:Nat):Int)==0)<;>rfl
 have hab:(a*b).natAbs=a.natAbs*b.natAbs:=Int.natAbs_mul a b
 by_cases hs:decide (a<0)=decide (b<0)
 ·rw[zIH hs]
  simp only[zAH,zC]
  rw[show(9223372036854775807:Int)=((9223372036854775807:Nat):Int)from rfl,hJ _ (by omega)]
  have h0:0<=a*b:=by
   rw[decide_eq_decide]at hs
   by_cases h:a<0
   ·exact Int.le_of_lt (Int.mul_pos_of_neg_of_neg h (hs.1 h))
   ·exact Int.mul_nonneg (by omega) (by have:¬ b<0:=λ e=>h (hs.2 e);omega)
  unfold inI
  rw[<- hab,zD (show -9223372036854775808<=a*b by omega),zAD]
  congr 4
  congr 1
  rw[decide_eq_decide];omega
 ·rw[zDP hs]
  simp only[Bool.not_false,zA]
  rw[show(9223372036854775808:Int)=((9223372036854775808:Nat):Int)from rfl,hJ _ (by omega)]
  have h0:a*b<=0:=by
   rw[decide_eq_decide]at hs
   by_cases h:a<0
   ·exact Int.mul_nonpos_of_nonpos_of_nonneg (by omega) (by omega)
   ·exact Int.mul_nonpos_of_nonneg_of_nonpos (by omega) (by omega)
  unfold inI
  rw[<- hab,zD (show a*b<=9223372036854775807 by omega),Bool.and_true]
  congr 4
  congr 1
  rw[decide_eq_decide];omega
theorem z68(a b:Val) (ha:I64 a.N) (hb:I64 b.N):wc W zLn [a.pv,b.pv]=some (zOH a b mulO).pv:=by
 have h:=zZc a.K a.N b.K b.N
 simp only[Val.fold]at h
 rw[h,zOT a b zIc mulO ⟨IntKind.wrap .i64 (a.N*b.N),?_⟩]
 ·simp
 ·rw[z5b _ _ ha hb]
  unfold mulO
  cases hi:inI (a.N*b.N) with
  |false=>rfl
  |true =>
   unfold inI at hi
   simp only[zF,zU]at hi
   rw[zAU hi.1 hi.2];rfl
end Go.Cf

namespace Go.Cf
open Go Go.Ab
inductive Ex where
 |mk (op col:Int) (v:Val) (l:List Ex)
mutual
def Ex.pv:Ex->PV
 | .mk o c v l=> .agg [.int .i64 o,.int .i64 c,.int .i64 v.K,.int .i64 v.N,.slice 6 (Ex.pvL l)]
def Ex.pvL:List Ex->List PV
 | []=>[]
 |e::r=>e.pv::Ex.pvL r
end
theorem Ex.pvL_map:∀ l:List Ex,Ex.pvL l=l.map Ex.pv
 | []=>rfl
 |e::r=>by rw[Ex.pvL,Ex.pvL_map r];rfl
theorem Ex.pv_mk(o c:Int) (v:Val) (l:List Ex):(Ex.mk o c v l).pv= .agg [.int .i64 o,.int .i64 c,.int .i64 v.K,.int .i64 v.N,.slice 6 (l.map Ex.pv)]:=by rw[Ex.pv,Ex.pvL_map]
def Ex.op:Ex->Int | .mk o _ _ _=>o
def Ex.col:Ex->Int | .mk _ c _ _=>c
def Ex.v:Ex->Val | .mk _ _ v _=>v
def Ex.l:Ex->List Ex | .mk _ _ _ l=>l
theorem Ex.pv_eq(e:Ex):e.pv= .agg [.int .i64 e.op,.int .i64 e.col,.int .i64 e.v.K,.int .i64 e.v.N,.slice 6 (e.l.map Ex.pv)]:=by cases e;exact Ex.pv_mk ..
@[simp] theorem Ex.c_mk(e:Ex) {R:Type} (f:Int->Int->Int->Int->List PV->Option R):zG e.pv f=f e.op e.col e.v.K e.v.N (e.l.map Ex.pv):=by rw[Ex.pv_eq];rfl
theorem Ex.fold(e:Ex):PV.agg [.int .i64 e.op,.int .i64 e.col,.int .i64 e.v.K,.int .i64 e.v.N,.slice 6 (e.l.map Ex.pv)]=e.pv:=e.pv_eq.symm
mutual
def Ex.sz:Ex->Nat
 | .mk _ _ _ l=>Ex.szL l+1
def Ex.szL:List Ex->Nat
 | []=>0
 |e::r=>e.sz+Ex.szL r
end
theorem Ex.sz_pos(e:Ex):0<e.sz:=by cases e;simp[Ex.sz]
theorem Ex.szL_ge:∀ l:List Ex,l.length<=Ex.szL l
 | []=>zM _
 |e::r=>by have:=Ex.szL_ge r;have:=e.sz_pos;simp only[Ex.szL,List.length_cons];omega
theorem Ex.sz_mem:∀{l:List Ex} {e:Ex},e∈l->e.sz<=Ex.szL l
 |x::r,e,h=>by
  rcases zAE.1 h with rfl | h
  ·simp only[Ex.szL];omega
  ·have:=Ex.sz_mem h;simp only[Ex.szL];omega
theorem Ex.sz_drop(l:List Ex) (i:Nat) (hi:i<l.length):Ex.szL (l.drop i)=l[i].sz+Ex.szL (l.drop (i+1)):=by rw[zAv hi];rfl
def lowO(o:Int):Int:=bif decide (2<=o)&&decide (o<=7)then 2 else bif o==10 then 1 else 0
def zRm(o:Int):Int:=bif decide (2<=o)&&decide (o<=7)then 2 else bif o==10 then 1 else bif o==8 || o==9 then 4 else 0
def fnO(o:Int):PV :=
 bif o==2 then .fn zC8 [] [.imm 0 (.fn zLl [] []) 0]else bif o==3 then .fn zC8 [] [.imm 0 (.fn zLm [] []) 0] else
 bif o==4 then .fn zC8 [] [.imm 0 (.fn zLn [] []) 0]else bif o==5 then .fn zC8 [] [.imm 0 (.fn zLo [] []) 0] else
 bif o==6 then .fn zC8 [] [.imm 0 (.fn zLj [] []) 0]else bif o==7 then .fn zC8 [] [.imm 0 (.fn zOQ [] []) 0] else
 bif o==8 then .fn zG4 [] []else bif o==9 then .fn zG5 [] []else bif o==10 then .fn zG6 [] []else .nilfn
theorem z2U(o:Int):wc W zIb [.int .i64 o]=some (.agg [.int .i64 (lowO o),.int .i64 (zRm o),fnO o]):=by
 have two:∀ g:Nat,wc W zFB [.fn g [] []]=some (.agg [.int .i64 2,.int .i64 2,.fn zC8 [] [.imm 0 (.fn g [] []) 0]]):=λ g=>by rw[zYI];rfl
 rw[zVT]
 simp only[two,zB,c_g_i64_i64_p_mk]
 unfold lowO zRm fnO
 by_cases h2:o=2
 ·subst h2;rfl
 by_cases h3:o=3
 ·subst h3;rfl
 by_cases h4:o=4
 ·subst h4;rfl
 by_cases h5:o=5
 ·subst h5;rfl
 by_cases h6:o=6
 ·subst h6;rfl
 by_cases h7:o=7
 ·subst h7;rfl
 by_cases h8:o=8
 ·subst h8;rfl
 by_cases h9:o=9
 ·subst h9;rfl
 by_cases h10:o=10
 ·subst h10;rfl
 have hr:(decide (2<=o)&&decide (o<=7))=false:=by
  rw[<- Bool.decide_and];exact zL (by omega)
 rw[zDP h2,zDP h3,zDP h4,zDP h5,zDP h6,zDP h7,zDP h8,zDP h9,zDP h10,hr]
 rfl
def zRn(o c:Int) (v:Val) (n:Nat):Bool :=
 decide (0<=o)&&decide (o<11)&&(decide (lowO o<=(n:Int))&&decide ((n:Int)<=zRm o))&&(c==0 || (o==1&&decide (0<c)&&decide (c<=15)))&&((v.K==0&&v.N==0) || (o==0&&mayV v))
theorem z5c(e:Ex):wc W zLD [e.pv]=some (.bool (zRn e.op e.col e.v e.l.length)):=by
 have h:=zVQ e.op e.col e.v.K e.v.N (e.l.map Ex.pv)
 rw[Ex.fold]at h
 rw[h,z2U,zK]
 simp only[zB,c_g_i64_i64_p_mk]
 have h3:∀ b1 b2 b3 x y z,zFY e.op e.col e.v.K e.v.N (e.l.map Ex.pv) b1 b2 b3 x y z=some (.bool (decide (0<=e.op)&&decide (e.op<11)&&b1&&b2&&b3)):=λ b1 b2 b3 x y z=>by
  rw[zOB]
  have:decide (e.op≥0)=decide (0<=e.op):=rfl
  rw[this]
  cases decide (0<=e.op)<;>cases decide (e.op<11)<;>cases b1<;>cases b2<;>rfl
 have h2:∀ b1 b2 x y z,zEX e.op e.col e.v.K e.v.N (e.l.map Ex.pv) b1 b2 x y z=some (.bool (decide (0<=e.op)&&decide (e.op<11)&&b1&&b2&&((e.v.K==0&&e.v.N==0) || (e.op==0&&mayV e.v)))):=λ b1 b2 x y z=>by
  rw[zOA]
  cases e.v.K==0<;>cases e.v.N==0<;>cases e.op==0<;>simp[h3,zJn]
 have h1:∀ b1 x y z,zGc e.op e.col e.v.K e.v.N (e.l.map Ex.pv) b1 x y z=some (.bool (decide (0<=e.op)&&decide (e.op<11)&&b1&&(e.col==0 || (e.op==1&&decide (0<e.col)&&decide (e.col<=15)))&&((e.v.K==0&&e.v.N==0) || (e.op==0&&mayV e.v)))):=λ b1 x y z=>by
  rw[zNz]
  have:decide (e.col>0)=decide (0<e.col):=rfl
  rw[this]
  cases e.col==0<;>cases e.op==1<;>cases decide (0<e.col)<;>simp[h2]
 simp only[h1]
 unfold zRn
 have:decide (((e.l.length:Nat):Int)≥lowO e.op)=decide (lowO e.op<=(e.l.length:Int)):=rfl
 rw[this]
 cases decide (lowO e.op<=(e.l.length:Int))<;>simp
def zRo(d n:Int) (e:Ex):Bool:=decide (n+1<=30)&&decide (d<=6)&&zRn e.op e.col e.v e.l.length
mutual
def mayE:Int->Int->Ex->Bool×Int
 |d,n,.mk o c v l=>bif decide (n+1<=30)&&decide (d<=6)&&zRn o c v l.length then mayL (d+1) (n+1) l else(false,n+1)
def mayL:Int->Int->List Ex->Bool×Int
 |d,n,[]=>(true,n)
 |d,n,e::r=>match mayE d n e with | (true,m)=>mayL d m r | (false,m)=>(false,m)
end
theorem zV0(d n:Int) (e:Ex):mayE d n e=bif zRo d n e then mayL (d+1) (n+1) e.l else(false,n+1):=by cases e;rfl
theorem z5d(e:Ex) (d n:Int) (h0:0<=n) (h1:n<=30) :
 W zD1 false [.pv e.pv,.pv (.int .i64 d),.own 0 0] [.var false 0 (.pv (.int .i64 n))]=some (.pv (.bool (zRo d n e)),[.var false 0 (.pv (.int .i64 (n+1)))]):=by
 have h:=zMt e.op e.col e.v.K e.v.N (e.l.map Ex.pv) d n
 rw[Ex.fold]at h
 rw[h,zAU (by omega) (by omega),z5c]
 unfold zRo
 cases decide (n+1<=30)<;>cases decide (d<=6)<;>rfl
theorem zQl:∀(k:Nat),(∀(e:Ex) (d n:Int),e.sz<=k->0<=n->n<=30->0<=(mayE d n e).2/\(mayE d n e).2<=31/\((mayE d n e).1=true->(mayE d n e).2=n+e.sz/\(mayE d n e).2<=30)) /\
 (∀(l:List Ex) (d n:Int),Ex.szL l<=k->0<=n->n<=30->0<=(mayL d n l).2/\(mayL d n l).2<=31/\((mayL d n l).1=true->(mayL d n l).2=n+Ex.szL l/\(mayL d n l).2<=30))
 |k=>by
  have hE:∀(e:Ex) (d n:Int),(∀(l:List Ex) (d n:Int),Ex.szL l<e.sz->0<=n->n<=30->0<=(mayL d n l).2/\(mayL d n l).2<=31/\((mayL d n l).1=true->(mayL d n l).2=n+Ex.szL l/\(mayL d n l).2<=30))->0<=n->n<=30 ->
   0<=(mayE d n e).2/\(mayE d n e).2<=31/\((mayE d n e).1=true->(mayE d n e).2=n+e.sz/\(mayE d n e).2<=30):=λ e d n ih h0 h1=>by
   rw[zV0]
   cases hs:zRo d n e with
   |false =>
    refine⟨?_,?_,λ h=> ?_⟩
    ·show 0<=n+1;omega
    ·show n+1<=31;omega
    ·cases h
   |true =>
    simp only[zA]
    have h30:n+1<=30:=by
     unfold zRo at hs
     simp only[zF,zU]at hs
     exact hs.1.1
    have hsz:e.sz=Ex.szL e.l+1:=by cases e;rfl
    obtain⟨a,b,c⟩:=ih e.l (d+1) (n+1) (by omega) (by omega) h30
    exact⟨a,b,λ h=>by have:=c h;omega⟩
  have hL:∀(l:List Ex) (d n:Int),(∀ e∈l,∀(d n:Int),0<=n->n<=30->0<=(mayE d n e).2/\(mayE d n e).2<=31/\((mayE d n e).1=true->(mayE d n e).2=n+e.sz/\(mayE d n e).2<=30))->0<=n->n<=30 ->
   0<=(mayL d n l).2/\(mayL d n l).2<=31/\((mayL d n l).1=true->(mayL d n l).2=n+Ex.szL l/\(mayL d n l).2<=30):=λ l=>by
   induction l with
   |nil=>intro d n _ h0 h1;refine⟨h0,?_,λ _=>⟨?_,h1⟩⟩<;>simp[mayL,Ex.szL];omega
   |cons x r ih =>
    intro d n he h0 h1
    have k:=he x (by simp) d n h0 h1
    simp only[mayL]
    cases hx:mayE d n x with
    |mk b m =>
     rw[hx]at k
     cases b with
     |false=>exact⟨k.1,k.2.1,λ h=>by cases h⟩
     |true =>
      obtain⟨k1,k2⟩:=k.2.2 rfl
      simp only at k1 k2 k ⊢
      obtain⟨a,b,c⟩:=ih d m (λ e h=>he e (by simp[h])) k.1 k2
      exact⟨a,b,λ h=>by have:=c h;simp only[Ex.szL];omega⟩
  have main:∀(m:Nat) (e:Ex),e.sz<=m->∀(d n:Int),0<=n->n<=30->0<=(mayE d n e).2/\(mayE d n e).2<=31/\((mayE d n e).1=true->(mayE d n e).2=n+e.sz/\(mayE d n e).2<=30):=λ m=>by
   induction m with
   |zero=>intro e h;have:=e.sz_pos;omega
   |succ m ih =>
    intro e h d n h0 h1
    exact hE e d n (λ l d n hl h0 h1=>hL l d n (λ x hx=>ih x (by have:=Ex.sz_mem hx;omega)) h0 h1) h0 h1
  exact⟨λ e d n _=>main e.sz e (zM _) d n,λ l d n _=>hL l d n λ e _=>main e.sz e (zM _)⟩
mutual
def Ex.lens:Ex->Prop
 | .mk _ _ _ l=>l.length<=9223372036854775807/\Ex.lensL l
def Ex.lensL:List Ex->Prop
 | []=>True
 |e::r=>e.lens/\Ex.lensL r
end
theorem Ex.lensL_mem:∀{l:List Ex},Ex.lensL l->∀ e∈l,e.lens
 |x::r,h,e,he=>by
  rcases zAE.1 he with rfl | he
  ·exact h.1
  ·exact Ex.lensL_mem h.2 e he
theorem Ex.lens_l{e:Ex} (h:e.lens):e.l.length<=9223372036854775807/\∀ x∈e.l,x.lens:=by cases e;exact⟨h.1,Ex.lensL_mem h.2⟩
theorem Ex.lensL_of:∀{l:List Ex},(∀ e∈l,e.lens)->Ex.lensL l
 | [],_=>trivial
 |e::r,h=>⟨h e (by simp),Ex.lensL_of λ x hx=>h x (by simp[hx])⟩
theorem Ex.lens_of:∀(m:Nat) (e:Ex),e.sz<=m->m<=9223372036854775807->e.lens
 | 0,e,h,_=>by have:=e.sz_pos;omega
 |m+1,.mk o c v l,h,hm=>by
  have h1:(Ex.mk o c v l).sz=Ex.szL l+1:=rfl
  have h2:=Ex.szL_ge l
  exact⟨by omega,Ex.lensL_of λ x hx=>Ex.lens_of m x (by have:=Ex.sz_mem hx;omega) (by omega)⟩
theorem zZr:∀(m:Nat) (e:Ex),e.sz<=m->∀(d n:Int),e.lens->0<=n->n<=30->d<=9-> -9<=d ->
 W zEC false [.pv e.pv,.pv (.int .i64 d),.fnv zD1 [] [.own 0 0]] [.var false 0 (.pv (.int .i64 n))]=some (.pv (.bool (mayE d n e).1),[.var false 0 (.pv (.int .i64 (mayE d n e).2))])
 | 0,e,h,_,_,_,_,_,_,_=>by have:=e.sz_pos;omega
 |m+1,e,h,d,n,hk,h0,h1,hd,hd' =>by
  obtain⟨hl,hx⟩:=Ex.lens_l hk
  have he:=zNv e.op e.col e.v.K e.v.N (e.l.map Ex.pv) d n
  rw[Ex.fold]at he
  rw[he,z5d e d n h0 h1,zV0]
  simp only[zB,k_5b106d_mk,c_b_mk]
  cases hs:zRo d n e with
  |false=>rfl
  |true =>
   simp only[zAH,zC,zA,zK]
   have hs' :=hs
   unfold zRo at hs'
   simp only[zF,zU]at hs'
   obtain⟨⟨h30,h6⟩,_⟩:=hs'
   have hsz:e.sz=Ex.szL e.l+1:=by cases e;rfl
   have loop:∀(k i:Nat) (n' :Int),i+k=e.l.length->0<=n' ->n' <=30 ->
    zEi d (e.l.map Ex.pv) (e.l.length:Int) (i:Int) n' =some (.pv (.bool (mayL (d+1) n' (e.l.drop i)).1),[.var false 0 (.pv (.int .i64 (mayL (d+1) n' (e.l.drop i)).2))]):=λ k=>by
    induction k with
    |zero =>
     intro i n' hi _ _
     rw[zHM,show i=e.l.length by omega]
     simp only[zFU,zC,List.drop_length,mayL]
    |succ k ih =>
     intro i n' hi h0' h1'
     have hi' :i<e.l.length:=by omega
     have hm:=Ex.sz_mem (zAC hi')
     rw[zHM,zAv hi']
     simp only[zAQ hi',zAc,zA,zY,zN,zH hi',zV,zB,Ex.c_mk,Ex.fold]
     rw[zAU (by omega) (by omega),zZr m e.l[i] (by omega) (d+1) n' (hx _ (zAC hi')) h0' h1' (by omega) (by omega)]
     simp only[zB,k_5b106d_mk,c_b_mk,mayL]
     have hb:=(zQl e.l[i].sz).1 e.l[i] (d+1) n' (zM _) h0' h1'
     cases hy:mayE (d+1) n' e.l[i] with
     |mk b q =>
      rw[hy]at hb
      cases b with
      |false=>rfl
      |true =>
       simp only[zAH,zC]
       rw[zAB (by omega)]
       exact ih (i+1) q (by omega) hb.1 (hb.2.2 rfl).2
   have:=loop e.l.length 0 (n+1) (by omega) (by omega) h30
   rw[List.drop_zero]at this
   exact this
def mayT(e:Ex):Bool:=(mayE 1 0 e).1
def Ex.ok(e:Ex):Prop:=e.lens
theorem Ex.ok_of{e:Ex} (h:e.sz<=9223372036854775807):e.ok:=Ex.lens_of e.sz e (zM _) h
theorem zMw(e:Ex) (h:e.ok):wc W zIF [e.pv]=some (.bool (mayT e)):=by
 have he:=zXz e.op e.col e.v.K e.v.N (e.l.map Ex.pv)
 rw[Ex.fold]at he
 rw[he,zZr e.sz e (zM _) 1 0 h (by omega) (by omega) (by omega) (by omega)]
 rfl
theorem zV1{e:Ex} (h:mayT e=true):e.sz<=30:=by
 have:=((zQl e.sz).1 e 1 0 (zM _) (by omega) (by omega)).2.2 h
 omega
end Go.Cf

namespace Go.Cf
open Go Go.Ab
theorem z3Q{n:Int} (h:inI n=true):I64 n:=by unfold inI at h;simp only[zF,zU]at h;exact h
theorem zMx{l:List Val} {v:Val} (h:oddV l=some v):VOk v:=by
 unfold oddV at h
 cases h1:l.any (λ v=>(zF2 v).K==2) with
 |true=>rw[h1]at h;simp at h;subst h;exact⟨⟨by decide,by decide⟩,⟨by decide,by decide⟩⟩
 |false =>
  rw[h1]at h
  cases h2:l.any (λ v=>(zF2 v).K==1) with
  |true=>rw[h2]at h;simp at h;subst h;exact⟨⟨by decide,by decide⟩,⟨by decide,by decide⟩⟩
  |false=>rw[h2]at h;cases h
theorem vN{n:Int} (h:I64 n):VOk ⟨0,n⟩:=⟨⟨by simp only;omega,by simp only;omega⟩,h⟩
theorem zZs:VOk badV:=⟨⟨by decide,by decide⟩,⟨by decide,by decide⟩⟩
theorem zV2(b:Bool):VOk (oneV b):=by cases b<;>exact⟨⟨by decide,by decide⟩,⟨by decide,by decide⟩⟩
theorem zOU{a b:Val} {f:Int->Int->Option Int} (hf:∀ n,f a.N b.N=some n->I64 n):VOk (zOH a b f):=by
 unfold zOH
 cases h:oddV [a,b] with
 |some v=>exact zMx h
 |none =>
  simp only
  cases hn:f a.N b.N with
  |none=>exact zZs
  |some n=>exact vN (hf n hn)
def opV(o:Int) (l:List Val):Val :=
 bif o==2 then zOH (l.getD 0 badV) (l.getD 1 badV) addO else bif o==3 then zOH (l.getD 0 badV) (l.getD 1 badV) subO else
 bif o==4 then zOH (l.getD 0 badV) (l.getD 1 badV) mulO else bif o==5 then zOH (l.getD 0 badV) (l.getD 1 badV) divO else
 bif o==6 then eqV (l.getD 0 badV) (l.getD 1 badV)else bif o==7 then ltV (l.getD 0 badV) (l.getD 1 badV) else
 bif o==8 then andV l else bif o==9 then orV l else notV (l.getD 0 badV)
theorem ok0:VOk ⟨0,0⟩:=⟨⟨by decide,by decide⟩,⟨by decide,by decide⟩⟩
theorem ok1:VOk ⟨0,1⟩:=⟨⟨by decide,by decide⟩,⟨by decide,by decide⟩⟩
theorem z3R(l:List Val):VOk (andV l):=by
 unfold andV
 cases l.any zTd with
 |true=>exact ok0
 |false=>cases h:oddV l with
  |some v=>exact zMx h
  |none=>exact ok1
theorem z5e(l:List Val):VOk (orV l):=by
 unfold orV
 cases l.any zP5 with
 |true=>exact ok1
 |false=>cases h:oddV l with
  |some v=>exact zMx h
  |none=>exact ok0
theorem z3S{x y:Int} (hx:I64 x) (hy:I64 y) {n:Int} (h:divO x y=some n):I64 n:=by
 unfold divO at h
 cases hc:(y==0 || (x== -9223372036854775808&&y== -1)) with
 |true=>rw[hc]at h;cases h
 |false =>
  rw[hc]at h
  simp only[zC,zE]at h
  subst h
  obtain⟨a1,a2⟩:=hx
  have h1:(Int.tdiv x y).natAbs<=x.natAbs:=by
   rw[Int.natAbs_tdiv]
   exact Nat.div_le_self _ _
  refine⟨by omega,?_⟩
  by_cases hm:Int.tdiv x y=9223372036854775808
  ·exfalso
   have hA:x= -9223372036854775808:=by omega
   simp only[Bool.or_eq_false_iff,Bool.and_eq_false_iff,beq_eq_false_iff_ne,ne_eq]at hc
   have hy1:y≠ -1:=by
    rcases hc.2 with h | h
    ·exact absurd hA h
    ·exact h
   subst hA
   have h2:(Int.tdiv (-9223372036854775808) y).natAbs=9223372036854775808 / y.natAbs:=by rw[Int.natAbs_tdiv];rfl
   rw[hm]at h2
   have h3:y.natAbs=1:=by
    rcases Nat.lt_or_ge y.natAbs 2 with h | h
    ·have:=hc.1;omega
    ·have:9223372036854775808 / y.natAbs<=9223372036854775808 / 2:=Nat.div_le_div_left h (by omega)
     have h4:(9223372036854775808:Int).natAbs=9223372036854775808:=rfl
     omega
   have hb2:y=1:=by omega
   rw[hb2]at hm
   simp at hm
  ·omega
theorem zZt{l:List Val} (h:∀ v∈l,VOk v) (i:Nat):VOk (l.getD i badV):=by
 rw[zA0]
 cases e:l[i]? with
 |none=>exact zZs
 |some v=>exact h v (zAV e)
theorem z5f(o:Int) {l:List Val} (h:∀ v∈l,VOk v):VOk (opV o l):=by
 have a:=zZt h 0
 have b:=zZt h 1
 unfold opV
 have o1:∀{f:Int->Int->Int} {x y n:Int},(bif inI (f x y)then some (f x y)else none)=some n->I64 n:=λ{f x y n} hn=>by
  cases hi:inI (f x y) with
  |true=>rw[hi]at hn;simp at hn;subst hn;exact z3Q hi
  |false=>rw[hi]at hn;cases hn
 cases o==2 with
 |true=>exact zOU λ n hn=>o1 (f:=λ x y=>x+y) hn
 |false =>
 cases o==3 with
 |true=>exact zOU λ n hn=>o1 (f:=λ x y=>x-y) hn
 |false =>
 cases o==4 with
 |true=>exact zOU λ n hn=>o1 (f:=λ x y=>x*y) hn
 |false =>
 cases o==5 with
 |true=>exact zOU λ n hn=>z3S a.2 b.2 hn
 |false =>
 cases o==6 with
 |true =>
  show VOk (eqV _ _)
  unfold eqV
  cases e:oddV [l.getD 0 badV,l.getD 1 badV] with
  |some v=>exact zMx e
  |none=>exact zV2 _
 |false =>
 cases o==7 with
 |true =>
  show VOk (ltV _ _)
  unfold ltV
  cases e:oddV [l.getD 0 badV,l.getD 1 badV] with
  |some v=>exact zMx e
  |none=>exact zV2 _
 |false =>
 cases o==8 with
 |true=>exact z3R l
 |false =>
 cases o==9 with
 |true=>exact z5e l
 |false =>
  show VOk (notV _)
  unfold notV
  cases e:oddV [l.getD 0 badV] with
  |some v=>exact zMx e
  |none=>exact zV2 _
theorem z5g{l:List Val} (h:l.length=2):∃ a b,l=[a,b]:=by
 match l,h with
 | [a,b],_=>exact⟨a,b,rfl⟩
theorem zQm(l:List Val) (g:Nat) (v:Val) (a b:Val) (hl:l=[a,b]) (hg:wc W g [a.pv,b.pv]=some v.pv):wc W zC8 [rowp l,.imm 0 (.fn g [] []) 0]=some v.pv:=by
 subst hl
 have h:=zT9 ([a,b].map Val.pv) (.fn g [] [])
 rw[zAA]at h
 rw[h]
 simp only[zAX,zA9,zAS,zAq,zB,Val.c_mk,Val.fold,asFn_mk,List.nil_append,zBN,hg]
theorem w_op(o:Int) (l:List Val) (h0:0<=o) (h11:o<11) (h2:2<=o) (hlo:lowO o<=(l.length:Int)) (hhi:(l.length:Int)<=zRm o) (hl:∀ v∈l,VOk v) :
 ∃ g fs cs,fnO o= .fn g fs cs/\wc W g (fs++[rowp l]++cs)=some (opV o l).pv:=by
 have two:(2<=o/\o<=7)->∃ a b,l=[a,b]:=λ h=>z5g (by
  unfold lowO zRm at *
  rw[zD h.1,zD h.2]at hlo hhi
  simp only[Bool.and_self,zA]at hlo hhi
  omega)
 have hlen:l.length<=9223372036854775807:=by
  unfold zRm at hhi
  cases hb:(decide (2<=o)&&decide (o<=7))<;>rw[hb]at hhi
  ·cases h10:(o==10)<;>rw[h10]at hhi
   ·cases h8:(o==8 || o==9)<;>rw[h8]at hhi<;>simp only[zA,zC]at hhi<;>omega
   ·simp only[zA,zC]at hhi;omega
  ·simp only[zA]at hhi;omega
 by_cases e2:o=2
 ·obtain⟨a,b,e⟩:=two (by omega)
  subst e2;subst e
  exact⟨_,_,_,rfl,zQm _ _ _ a b rfl (z62 a b (hl a (by simp)).2 (hl b (by simp)).2)⟩
 by_cases e3:o=3
 ·obtain⟨a,b,e⟩:=two (by omega)
  subst e3;subst e
  exact⟨_,_,_,rfl,zQm _ _ _ a b rfl (z63 a b (hl a (by simp)).2 (hl b (by simp)).2)⟩
 by_cases e4:o=4
 ·obtain⟨a,b,e⟩:=two (by omega)
  subst e4;subst e
  exact⟨_,_,_,rfl,zQm _ _ _ a b rfl (z68 a b (hl a (by simp)).2 (hl b (by simp)).2)⟩
 by_cases e5:o=5
 ·obtain⟨a,b,e⟩:=two (by omega)
  subst e5;subst e
  exact⟨_,_,_,rfl,zQm _ _ _ a b rfl (z64 a b (hl a (by simp)).2 (hl b (by simp)).2)⟩
 by_cases e6:o=6
 ·obtain⟨a,b,e⟩:=two (by omega)
  subst e6;subst e
  exact⟨_,_,_,rfl,zQm _ _ _ a b rfl (w_Eq a b)⟩
 by_cases e7:o=7
 ·obtain⟨a,b,e⟩:=two (by omega)
  subst e7;subst e
  exact⟨_,_,_,rfl,zQm _ _ _ a b rfl (w_Lt a b)⟩
 by_cases e8:o=8
 ·subst e8
  refine⟨_,_,_,rfl,?_⟩
  have h:=zRf (l.map Val.pv)
  rw[zAA]at h
  show wc W zG4 [rowp l]=_
  rw[h,z67 l hlen];rfl
 by_cases e9:o=9
 ·subst e9
  refine⟨_,_,_,rfl,?_⟩
  have h:=zRg (l.map Val.pv)
  rw[zAA]at h
  show wc W zG5 [rowp l]=_
  rw[h,w_Or l hlen];rfl
 have e10:o=10:=by omega
 subst e10
 refine⟨_,_,_,rfl,?_⟩
 have h:=zRh (l.map Val.pv)
 rw[zAA]at h
 show wc W zG6 [rowp l]=_
 rw[h]
 have h1:l.length=1:=by
  have a:lowO 10=1:=rfl
  have b:zRm 10=1:=rfl
  rw[a]at hlo;rw[b]at hhi;omega
 match l,h1 with
 | [a],_ =>
  simp only[zAX,zA9,zAS,zB,Val.c_mk,Val.fold,z65]
  rfl
mutual
def zLU(look:Int->Val):Ex->Val
 | .mk o c v l=>bif o==0 then v else bif o==1 then look c else opV o (z1b look l)
def z1b(look:Int->Val):List Ex->List Val
 | []=>[]
 |e::r=>zLU look e::z1b look r
end
theorem zTe(look:Int->Val):∀ l:List Ex,z1b look l=l.map (zLU look)
 | []=>rfl
 |e::r=>by rw[z1b,zTe look r];rfl
theorem zK1(look:Int->Val) (e:Ex):zLU look e=bif e.op==0 then e.v else bif e.op==1 then look e.col else opV e.op (e.l.map (zLU look)):=by
 cases e;rw[zLU,zTe];rfl
mutual
def Ex.vals:Ex->Prop
 | .mk _ _ v l=>VOk v/\Ex.valsL l
def Ex.valsL:List Ex->Prop
 | []=>True
 |e::r=>e.vals/\Ex.valsL r
end
theorem Ex.valsL_mem:∀{l:List Ex},Ex.valsL l->∀ e∈l,e.vals
 |x::r,h,e,he=>by
  rcases zAE.1 he with rfl | he
  ·exact h.1
  ·exact Ex.valsL_mem h.2 e he
theorem Ex.vals_v{e:Ex} (h:e.vals):VOk e.v/\∀ x∈e.l,x.vals:=by
 cases e;exact⟨h.1,Ex.valsL_mem h.2⟩
mutual
def zN5:Ex->Bool
 | .mk o c v l=>zRn o c v l.length&&zWZ l
def zWZ:List Ex->Bool
 | []=>true
 |e::r=>zN5 e&&zWZ r
end
theorem zQn:∀ l:List Ex,zWZ l=l.all zN5
 | []=>rfl
 |e::r=>by rw[zWZ,zQn r];rfl
theorem zP6(e:Ex):zN5 e=(zRn e.op e.col e.v e.l.length&&e.l.all zN5):=by cases e;rw[zN5,zQn];rfl
theorem zJp:∀(m:Nat) (e:Ex),e.sz<=m->∀ d n,(mayE d n e).1=true->zN5 e=true
 | 0,e,h,_,_,_=>by have:=e.sz_pos;omega
 |m+1,e,h,d,n,hm=>by
  rw[zV0]at hm
  cases hs:zRo d n e with
  |false=>rw[hs]at hm;cases hm
  |true =>
   rw[hs]at hm
   simp only[zA]at hm
   have hp:zRn e.op e.col e.v e.l.length=true:=by unfold zRo at hs;simp only[zF]at hs;exact hs.2
   rw[zP6,hp,zAD,zAF]
   have hsz:e.sz=Ex.szL e.l+1:=by cases e;rfl
   have hl:∀(l:List Ex) (d n:Int),Ex.szL l<=m->(mayL d n l).1=true->∀ x∈l,zN5 x=true:=λ l=>by
    induction l with
    |nil=>intro _ _ _ _ x hx;cases hx
    |cons y r ih =>
     intro d n hsz hm x hx
     simp only[Ex.szL]at hsz
     simp only[mayL]at hm
     cases hy:mayE d n y with
     |mk b q =>
      rw[hy]at hm
      cases b with
      |false=>cases hm
      |true =>
       rcases zAE.1 hx with rfl | hx
       ·exact zJp m x (by omega) d n (by rw[hy])
       ·exact ih d q (by omega) hm x hx
   exact hl e.l (d+1) (n+1) (by omega) hm
theorem zW0(look:Int->Val) (hlk:∀ c,VOk (look c)):∀(m:Nat) (e:Ex),e.sz<=m->e.vals->VOk (zLU look e)
 | 0,e,h,_=>by have:=e.sz_pos;omega
 |m+1,e,h,hv=>by
  rw[zK1]
  obtain⟨h1,h2⟩:=Ex.vals_v hv
  have hsz:e.sz=Ex.szL e.l+1:=by cases e;rfl
  cases e.op==0 with
  |true=>exact h1
  |false =>
   cases e.op==1 with
   |true=>exact hlk _
   |false =>
    refine z5f _ λ v hv=> ?_
    obtain⟨x,hx,rfl⟩:=zAh.1 hv
    exact zW0 look hlk m x (by have:=Ex.sz_mem hx;omega) (h2 x hx)
theorem z2V(cols:List Int) (row:List Val) (hc:cols.length<=9223372036854775807) (hr:∀ v∈row,VOk v):∀(m:Nat) (e:Ex),e.sz<=m->e.sz<=4294967295->zN5 e=true->e.vals ->
 wc W zIa [e.pv,zBx cols,rowp row]=some (zLU (zW cols row) e).pv
 | 0,e,h,_,_,_=>by have:=e.sz_pos;omega
 |m+1,e,h,hs,hp,hv=>by
  have he:=zVR e.op e.col e.v.K e.v.N (e.l.map Ex.pv) (cols.map intp) (row.map Val.pv)
  rw[Ex.fold,zI,zAA]at he
  rw[he,zK1]
  have hsz:e.sz=Ex.szL e.l+1:=by cases e;rfl
  have hle:=Ex.szL_ge e.l
  rw[zP6,zF,zAF]at hp
  obtain⟨hp1,hp2⟩:=hp
  obtain⟨hv1,hv2⟩:=Ex.vals_v hv
  cases h0:e.op==0 with
  |true=>rfl
  |false =>
   cases h1:e.op==1 with
   |true =>
    simp only[zC,zA,zJo cols e.col hc,zB,c_i64_mk,zK]
    unfold zW
    cases ha:decide (idxI cols (λ x=>e.col==x)<0) with
    |true=>rfl
    |false =>
     simp only[zC]
     have hb0:decide (idxI cols (λ x=>e.col==x)≥(row.length:Int))=decide (idxI cols (λ x=>e.col==x)≥(row.length:Int)):=rfl
     cases hb:decide (idxI cols (λ x=>e.col==x)≥(row.length:Int)) with
     |true=>rfl
     |false =>
      simp only[zC]
      have ha' :=of_decide_eq_false ha
      have hb' :=of_decide_eq_false hb
      rw[zOC,zD (show 0<=idxI cols (λ x=>e.col==x) by omega)]
      have hlt:(idxI cols (λ x=>e.col==x)).toNat<row.length:=by omega
      simp only[zA,zN,zH hlt,zV,zB,Val.c_mk,Val.fold,zA0,Option.getD_some]
   |false =>
    simp only[zC,zK]
    have hop:2<=e.op/\e.op<11/\lowO e.op<=(e.l.length:Int)/\(e.l.length:Int)<=zRm e.op:=by
     unfold zRn at hp1
     simp only[zF,zU]at hp1
     have a:=beq_eq_false_iff_ne.1 h0
     have b:=beq_eq_false_iff_ne.1 h1
     omega
    have hok:∀ v∈e.l.map (zLU (zW cols row)),VOk v:=λ v hv=>by
     obtain⟨x,hx,rfl⟩:=zAh.1 hv
     exact zW0 _ (z19 cols hr) x.sz x (zM _) (hv2 x hx)
    have loop:∀(k i:Nat) (a b:Int),i+k=e.l.length ->
     zGd (cols.map intp) (row.map Val.pv) e.op e.col e.v.K e.v.N (e.l.map Ex.pv) (e.l.map Ex.pv) (e.l.length:Int) (i:Int) a b (((e.l.take i).map (zLU (zW cols row))).map Val.pv)=some (opV e.op (e.l.map (zLU (zW cols row)))).pv:=λ k=>by
     induction k with
     |zero =>
      intro i a b hi
      rw[zJC,show i=e.l.length by omega]
      simp only[zFU,zC,z2U,zB,c_g_i64_i64_p_mk,List.take_length]
      obtain⟨g,fs,cs,k1,k2⟩:=w_op e.op (e.l.map (zLU (zW cols row))) (by omega) hop.2.1 hop.1 (by rw[zK];exact hop.2.2.1) (by rw[zK];exact hop.2.2.2) hok
      rw[k1]
      simp only[asFn_mk,zB,zAA,k2,Val.c_mk,Val.fold]
     |succ k ih =>
      intro i a b hi
      have hi' :i<e.l.length:=by omega
      have hx:=zAC hi'
      have hm:=Ex.sz_mem hx
      rw[zJC]
      simp only[zAQ hi',zAc,zA,zY,zN,zH hi',zV,zB,Ex.c_mk,Ex.fold,zI,zAA]
      rw[z2V cols row hc hr m e.l[i] (by omega) (by omega) (hp2 _ hx) (hv2 _ hx)]
      simp only[zB,Val.c_mk,Val.fold,zK,List.length_take,Nat.min_eq_left (Nat.le_of_lt hi'),zAD,zD (show i+1<=4294967296 by omega),zA]
      rw[zAB (by omega)]
      have:=ih (i+1) a b (by omega)
      rw[List.take_succ_eq_append_getElem hi',zBe,zBe]at this
      exact this
    have:=loop e.l.length 0 0 0 (by omega)
    rw[List.take_zero]at this
    exact this
def zZu(e:Ex) (cols:List Int) (row:List Val):Val:=bif mayT e then zLU (zW cols row) e else badV
theorem z5h(e:Ex) (cols:List Int) (row:List Val) (he:e.ok) (hv:e.vals) (hc:cols.length<=9223372036854775807) (hr:∀ v∈row,VOk v) :
 wc W zLC [e.pv,zBx cols,rowp row]=some (zZu e cols row).pv:=by
 have h:=zVO e.op e.col e.v.K e.v.N (e.l.map Ex.pv) (cols.map intp) (row.map Val.pv)
 rw[Ex.fold,zI,zAA]at h
 rw[h,zMw e he]
 simp only[zB,c_b_mk]
 unfold zZu
 cases hm:mayT e with
 |false=>rfl
 |true =>
  have h30:=zV1 hm
  simp only[zAH,zC,zA,z2V cols row hc hr e.sz e (zM _) (by omega) (zJp e.sz e (zM _) 1 0 hm) hv,zB,Val.c_mk,Val.fold]
def zMC(e:Ex) (cols:List Int) (row:List Val):Bool:=zP5 (zZu e cols row)
theorem z3T(e:Ex) (cols:List Int) (row:List Val) (he:e.ok) (hv:e.vals) (hc:cols.length<=9223372036854775807) (hr:∀ v∈row,VOk v) :
 wc W zJ5 [e.pv,zBx cols,rowp row]=some (.bool (zMC e cols row)):=by
 have h:=zT1 e.op e.col e.v.K e.v.N (e.l.map Ex.pv) (cols.map intp) (row.map Val.pv)
 rw[Ex.fold,zI,zAA]at h
 rw[h,z5h e cols row he hv hc hr]
 simp only[zB,Val.c_mk,Val.fold,zZn,c_b_mk]
 rfl
mutual
def zJI:Ex->List Int
 | .mk o c _ l=>(bif o==1 then [c]else [])++zOI l
def zOI:List Ex->List Int
 | []=>[]
 |e::r=>zJI e++zOI r
end
theorem zMD(e:Ex):zJI e=(bif e.op==1 then [e.col]else [])++zOI e.l:=by cases e;rfl
theorem zYM(l:List Ex) (i:Nat) (hi:i<l.length):zOI (l.drop i)=zJI l[i]++zOI (l.drop (i+1)):=by rw[zAv hi];rfl
theorem zMy:∀(m:Nat),(∀ e:Ex,e.sz<=m->(zJI e).length<=e.sz)/\∀ l:List Ex,Ex.szL l<=m->(zOI l).length<=Ex.szL l
 | 0=>⟨λ e h=>by have:=e.sz_pos;omega,λ l h=>by
  cases l with
  |nil=>exact zM _
  |cons e r=>have:=e.sz_pos;simp only[Ex.szL]at h;omega⟩
 |m+1=>by
  obtain⟨h1,h2⟩:=zMy m
  have hE:∀ e:Ex,e.sz<=m+1->(zJI e).length<=e.sz:=λ e h=>by
   have hsz:e.sz=Ex.szL e.l+1:=by cases e;rfl
   have:=h2 e.l (by omega)
   rw[zMD,zAK]
   cases e.op==1<;>simp<;>omega
  refine⟨hE,λ l=> ?_⟩
  induction l with
  |nil=>exact λ _=>zM _
  |cons e r ih =>
   intro h
   simp only[Ex.szL]at h
   have a:=hE e (by omega)
   have b:=ih (by omega)
   simp only[zOI,Ex.szL,zAK];omega
theorem z3U(e:Ex) (d:Int) (acc:List Int) (h:acc.length+1<=4294967296) :
 W zCp false [.pv e.pv,.pv (.int .i64 d),.own 0 0] [.var false 0 (.view 1 0 none),.row false 0 0 (acc.map intp)] =
  some (.pv (.bool true),[.var false 0 (.view 1 0 none),.row false 0 0 ((acc++bif e.op==1 then [e.col]else []).map intp)]):=by
 have he:=zLw e.op e.col e.v.K e.v.N (e.l.map Ex.pv) d (acc.map intp)
 rw[Ex.fold]at he
 rw[he,zK]
 cases e.op==1 with
 |false=>simp
 |true =>
  simp only[zAD,zD h,zA,zBe,zAX,zA9]
  rfl
theorem zZv:∀(m:Nat) (e:Ex),e.sz<=m->∀(d:Int) (acc:List Int),acc.length+e.sz<=4294967295 ->
 W zEC false [.pv e.pv,.pv (.int .i64 d),.fnv zCp [] [.own 0 0]] [.var false 0 (.view 1 0 none),.row false 0 0 (acc.map intp)] =
  some (.pv (.bool true),[.var false 0 (.view 1 0 none),.row false 0 0 ((acc++zJI e).map intp)])
 | 0,e,h,_,_,_=>by have:=e.sz_pos;omega
 |m+1,e,h,d,acc,ha=>by
  have he:=zNw e.op e.col e.v.K e.v.N (e.l.map Ex.pv) d (acc.map intp)
  rw[Ex.fold]at he
  have hsz:e.sz=Ex.szL e.l+1:=by cases e;rfl
  have hge:=Ex.szL_ge e.l
  have hc:=(zMy e.sz).1 e (zM _)
  have hcl:=(zMy (Ex.szL e.l)).2 e.l (zM _)
  rw[he,z3U e d acc (by omega)]
  simp only[zB,k_b2223f_mk,c_b_mk,zAH,zC,zK]
  have hx:(acc++bif e.op==1 then [e.col]else []).length<=acc.length+1:=by rw[zAK];cases e.op==1<;>simp
  have loop:∀(k i:Nat) (ac:List Int),i+k=e.l.length->ac.length+Ex.szL (e.l.drop i)<=4294967295 ->
   zEj d (e.l.map Ex.pv) (e.l.length:Int) (i:Int) (ac.map intp)=some (.pv (.bool true),[.var false 0 (.view 1 0 none),.row false 0 0 ((ac++zOI (e.l.drop i)).map intp)]):=λ k=>by
   induction k with
   |zero =>
    intro i ac hi _
    rw[zHN,show i=e.l.length by omega]
    simp[zFU,zOI]
   |succ k ih =>
    intro i ac hi hb
    have hi' :i<e.l.length:=by omega
    have hm:=Ex.sz_mem (zAC hi')
    rw[Ex.sz_drop e.l i hi']at hb
    have hci:=(zMy e.l[i].sz).1 e.l[i] (zM _)
    rw[zHN]
    simp only[zAQ hi',zAc,zA,zY,zN,zH hi',zV,zB,Ex.c_mk,Ex.fold]
    rw[zZv m e.l[i] (by omega) _ ac (by omega)]
    simp only[zB,k_b2223f_mk,c_b_mk,zAH,zC]
    rw[zAB (by omega),ih (i+1) (ac++zJI e.l[i]) (by omega) (by rw[zAK];omega),zYM e.l i hi',zAG]
  have:=loop e.l.length 0 (acc++bif e.op==1 then [e.col]else []) (by omega) (by rw[List.drop_zero];omega)
  rw[List.drop_zero,zAG,<-zMD]at this
  exact this
def zHY(e:Ex):List Int:=bif mayT e then Lib.compact (zHr (zJI e))else []
theorem z2W(e:Ex) (he:e.ok):wc W zI7 [e.pv]=some (zBx (zHY e)):=by
 have h:=zVJ e.op e.col e.v.K e.v.N (e.l.map Ex.pv)
 rw[Ex.fold]at h
 rw[h,zMw e he]
 simp only[zB,c_b_mk]
 unfold zHY
 cases hm:mayT e with
 |false=>rfl
 |true =>
  have h30:=zV1 hm
  have hc:=(zMy e.sz).1 e (zM _)
  have h1:=zZv e.sz e (zM _) 1 [] (by simp;omega)
  have h2:=zGD false 0 (zJI e) (by omega)
  have h3:=zFD 0 (zHr (zJI e)) (by rw[zJY];omega)
  simp only[zA9,List.nil_append]at h1
  simp only[zAH,zC,zA,h1,zB,k_b2223f_mk,c_b_mk]
  have e1:∀ l:List Int,l.map intp=l.map (PV.int .i64):=λ _=>rfl
  rw[e1,h2]
  simp only[zB,k_cad770_mk,h3,k_b7636c_mk,c_s0_mk]
  rfl
theorem zV3(zs:List Int) (c:Int):c∈Lib.compact zs↔c∈zs:=by
 unfold Lib.compact Lib.compactUpTo
 simp only[zAh,zBS,List.mem_range]
 constructor
 ·rintro⟨j,⟨hj,_⟩,rfl⟩
  have:(zs.toArray[j]! :Int)=zs[j]:=by simp[getElem!_pos,hj]
  rw[this];exact zAC hj
 ·intro h
  have hex:∃ j,j<zs.length/\zs.toArray[j]! =c:=by
   obtain⟨j,hj,e⟩:=List.mem_iff_getElem.1 h
   exact⟨j,hj,by simp[getElem!_pos,hj,e]⟩
  have hmin:∀ n:Nat,∀ j,j<=n->j<zs.length->zs.toArray[j]! =c->∃ i,(i<zs.length/\Lib.keeps zs.toArray i=true)/\zs.toArray[i]! =c:=λ n=>by
   induction n with
   |zero =>
    intro j hj hl hc
    have:j=0:=by omega
    subst this
    exact⟨0,⟨hl,by simp[Lib.keeps]⟩,hc⟩
   |succ n ih =>
    intro j hj hl hc
    by_cases hk:Lib.keeps zs.toArray j=true
    ·exact⟨j,⟨hl,hk⟩,hc⟩
    ·have hk' :¬ (j=0∨zs.toArray[j]! ≠zs.toArray[j-1]!):=λ h=>hk (by unfold Lib.keeps;exact zD h)
     have h0:j≠0:=λ e=>hk' (.inl e)
     have h1:zs.toArray[j]! =zs.toArray[j-1]! :=Classical.byContradiction λ e=>hk' (.inr e)
     exact ih (j-1) (by omega) (by omega) (by rw[<- h1];exact hc)
  obtain⟨j,hj,hc⟩:=hex
  exact hmin j j (zM _) hj hc
theorem zTf{e:Ex} (h:mayT e=true) (c:Int):c∈zHY e↔c∈zJI e:=by
 unfold zHY
 rw[h,zA,zV3]
 exact zZS
theorem zP7{f g:Int->Val}:∀(m:Nat) (e:Ex),e.sz<=m->(∀ c∈zJI e,f c=g c)->zLU f e=zLU g e
 | 0,e,h,_=>by have:=e.sz_pos;omega
 |m+1,e,h,hc=>by
  rw[zK1,zK1]
  have hsz:e.sz=Ex.szL e.l+1:=by cases e;rfl
  rw[zMD]at hc
  cases e.op==0 with
  |true=>rfl
  |false =>
   cases h1:e.op==1 with
   |true=>exact hc e.col (by rw[h1];simp)
   |false =>
    simp only[zC]
    congr 1
    have hmem:∀(l:List Ex) (x:Ex),x∈l->∀ c∈zJI x,c∈zOI l:=λ l=>by
     induction l with
     |nil=>intro x hx;cases hx
     |cons y r ih =>
      intro x hx c hc
      simp only[zOI,List.mem_append]
      rcases zAE.1 hx with rfl | hx
      ·exact .inl hc
      ·exact .inr (ih x hx c hc)
    exact zKE λ x hx=>zP7 m x (by have:=Ex.sz_mem hx;omega) λ c hcx=>hc c (by rw[List.mem_append];exact .inr (hmem e.l x hx c hcx))
theorem zP8{e:Ex} {cols cols' :List Int} {row row' :List Val} (h:∀ c∈zHY e,zW cols row c=zW cols' row' c):zMC e cols row=zMC e cols' row' :=by
 unfold zMC zZu
 cases hm:mayT e with
 |false=>rfl
 |true=>simp only[zA];rw[zP7 e.sz e (zM _) λ c hc=>h c ((zTf hm c).2 hc)]
end Go.Cf

namespace Go.Cf
open Go Go.Ab
theorem zRp{α:Type} (ls:List (List α)) (i:Nat) (hi:i<ls.length):(ls.drop i).flatten.length=ls[i].length+(ls.drop (i+1)).flatten.length:=by
 rw[zAv hi,List.flatten_cons,zAK]
theorem z1c(n:Nat) (h:n<=4294967296):W zEG true [.nil 0,.pv (.int .i64 (n:Int))] []=some (.view 0 0 none,[.row false 0 0 []]):=by
 rw[zHW,zL (show ¬ (n:Int)<0 by omega)]
 simp only[zC,zGU]
 rw[zAU (by omega) (by omega)]
 by_cases h0:(n:Int)-0>0
 ·rw[zD h0,zD (show(n:Int)-0<=4294967296 by omega)]
  have:decide ((0:Int)<(n:Int)-0)=true:=zD h0
  simp
 ·rw[zL h0];rfl
theorem z5i(ls:List (List Int)) (hn:ls.length<=4294967296) (hl:ls.flatten.length<=4294967296):∀(k i s:Nat),i+k=ls.length->s+(ls.drop i).flatten.length=ls.flatten.length ->
 zCK (ls.map zBx) (s:Int) (ls.map zBx) (ls.length:Int) (i:Int)=zB6 (ls.map zBx) (ls.length:Int) 0 []
 | 0,i,s,h,hs=>by
  rw[zDq,show i=ls.length by omega]
  simp only[zFU,zC,z1c s (by omega),zB,zK]
  rfl
 |k+1,i,s,h,hs=>by
  have hi:i<ls.length:=by omega
  have hc:=zRp ls i hi
  rw[zDq]
  simp only[zAQ hi,zAc,zA,zY,zN,zH hi,zV,zB,zCz,zK]
  rw[show IntKind.wrap .i64 ((s:Int)+(ls[i].length:Int))=((s+ls[i].length:Nat):Int) by rw[zAU (by omega) (by omega)];omega,zL (by omega),zAB (by omega)]
  exact z5i ls hn hl k (i+1) (s+ls[i].length) (by omega) (by omega)
theorem z5j(ls:List (List Int)) (hn:ls.length<=4294967296):∀(k i:Nat) (acc:List Int),i+k=ls.length->acc.length+(ls.drop i).flatten.length<=4294967296 ->
 zB6 (ls.map zBx) (ls.length:Int) (i:Int) (acc.map intp)=some (zBx (acc++(ls.drop i).flatten))
 | 0,i,acc,h,hl=>by
  rw[zDr,show i=ls.length by omega]
  simp
 |k+1,i,acc,h,hl=>by
  have hi:i<ls.length:=by omega
  have hc:=zRp ls i hi
  rw[zDr]
  simp only[zAQ hi,zAc,zA,zY,zN,zH hi,zV,zB,zCz,zK,zAD,zD (show acc.length+ls[i].length<=4294967296 by omega)]
  rw[zAB (by omega)]
  have:=z5j ls hn k (i+1) (acc++ls[i]) (by omega) (by simp only[zAK];omega)
  rw[zBe]at this
  rw[this,zAv hi,List.flatten_cons,zAG]
theorem zP9(ls:List (List Int)) (hn:ls.length<=4294967296) (hl:ls.flatten.length<=4294967296):wc W zBl [.slice 0 (ls.map zBx)]=some (zBx ls.flatten):=by
 rw[zIh,zK]
 refine(z5i ls hn hl ls.length 0 0 (by omega) (by simp)).trans ?_
 have:=z5j ls hn ls.length 0 [] (by omega) (by simpa using hl)
 simpa using this
theorem z1d(n:Nat) (h:n<=4294967296):W zCX true [.nil 3,.pv (.int .i64 (n:Int))] []=some (.view 0 0 none,[.row false 0 3 []]):=by
 rw[zFJ,zL (show ¬ (n:Int)<0 by omega)]
 simp only[zC,zE9]
 rw[zAU (by omega) (by omega)]
 by_cases h0:(n:Int)-0>0
 ·rw[zD h0,zD (show(n:Int)-0<=4294967296 by omega)]
  have:decide ((0:Int)<(n:Int)-0)=true:=zD h0
  simp
 ·rw[zL h0];rfl
theorem z5k(ls:List (List Val)) (hn:ls.length<=4294967296) (hl:ls.flatten.length<=4294967296):∀(k i s:Nat),i+k=ls.length->s+(ls.drop i).flatten.length=ls.flatten.length ->
 zBJ (ls.map rowp) (s:Int) (ls.map rowp) (ls.length:Int) (i:Int)=zAn (ls.map rowp) (ls.length:Int) 0 []
 | 0,i,s,h,hs=>by
  rw[zC9,show i=ls.length by omega]
  simp only[zFU,zC,z1d s (by omega),zB,zK]
  rfl
 |k+1,i,s,h,hs=>by
  have hi:i<ls.length:=by omega
  have hc:=zRp ls i hi
  rw[zC9]
  simp only[zAQ hi,zAc,zA,zY,zN,zH hi,zV,zB,zDA,zK]
  rw[show IntKind.wrap .i64 ((s:Int)+(ls[i].length:Int))=((s+ls[i].length:Nat):Int) by rw[zAU (by omega) (by omega)];omega,zL (by omega),zAB (by omega)]
  exact z5k ls hn hl k (i+1) (s+ls[i].length) (by omega) (by omega)
theorem z5l(ls:List (List Val)) (hn:ls.length<=4294967296):∀(k i:Nat) (acc:List Val),i+k=ls.length->acc.length+(ls.drop i).flatten.length<=4294967296 ->
 zAn (ls.map rowp) (ls.length:Int) (i:Int) (acc.map Val.pv)=some (rowp (acc++(ls.drop i).flatten))
 | 0,i,acc,h,hl=>by
  rw[zCa,show i=ls.length by omega]
  simp
 |k+1,i,acc,h,hl=>by
  have hi:i<ls.length:=by omega
  have hc:=zRp ls i hi
  rw[zCa]
  simp only[zAQ hi,zAc,zA,zY,zN,zH hi,zV,zB,zDA,zK,zAD,zD (show acc.length+ls[i].length<=4294967296 by omega)]
  rw[zAB (by omega)]
  have:=z5l ls hn k (i+1) (acc++ls[i]) (by omega) (by simp only[zAK];omega)
  rw[zBe]at this
  rw[this,zAv hi,List.flatten_cons,zAG]
theorem zTg(ls:List (List Val)) (hn:ls.length<=4294967296) (hl:ls.flatten.length<=4294967296):wc W zBT [.slice 0 (ls.map rowp)]=some (rowp ls.flatten):=by
 rw[zFm,zK]
 refine(z5k ls hn hl ls.length 0 0 (by omega) (by simp)).trans ?_
 have:=z5l ls hn ls.length 0 [] (by omega) (by simpa using hl)
 simpa using this
def zC7(r s:List (List Val)):List (List Val):=r.flatMap λ x=>s.map λ y=>x++y
theorem z2X(C D E F:List PV) (x:List Val) (A:List PV) (n i:Int) (s:List (List Val)) (hx:x.length<=100) (hs:∀ y∈s,y.length<=100) (hsn:s.length<=5000) (X Y:List PV):∀(k j:Nat) (acc:List (List Val)),j+k=s.length->acc.length+k<=4294967295 ->
 zG9 C D (x.map Val.pv) A n i (s.map rowp) (s.length:Int) (j:Int) X Y E (acc.map rowp)=zFW C D A n (IntKind.wrap .i64 (i+1)) X Y E ((acc++(s.drop j).map λ y=>x++y).map rowp)
 | 0,j,acc,h,hl=>by
  rw[zIy,show j=s.length by omega]
  simp
 |k+1,j,acc,h,hl=>by
  have hj:j<s.length:=by omega
  have hy:=hs _ (zAC hj)
  rw[zIy]
  have hc:=zTg [x,s[j]] (by simp) (by simp;omega)
  simp only[zAX,zA9,List.flatten_cons,List.flatten_nil,zBN]at hc
  simp only[zAQ hj,zAc,zA,zY,zN,zH hj,zV,zB,zDA,zAA,hc,zK,zAD,zD (show acc.length+1<=4294967296 by omega)]
  rw[zAB (by omega)]
  have:=z2X C D E F x A n i s hx hs hsn X Y k (j+1) (acc++[x++s[j]]) (by omega) (by simp;omega)
  simp only[zBe,zAX,zA9]at this
  simp only[rowp,zBe]at this ⊢
  rw[this,zAv hj]
  simp only[zAX,zAG,List.cons_append,List.nil_append,rowp,zBe]
theorem z2Y(C D E F:List PV) (r s:List (List Val)) (hr:∀ x∈r,x.length<=100) (hs:∀ y∈s,y.length<=100) (hl:r.length<=5000) (hsn:s.length<=5000) (X Y:List PV):∀(k i:Nat) (acc:List (List Val)),i+k=r.length->acc.length+(zC7 (r.drop i) s).length<=4294967295 ->
 zFW C (s.map rowp) (r.map rowp) (r.length:Int) (i:Int) X Y E (acc.map rowp)=some (.tup [.agg [.slice 0 E,tabp (acc++zC7 (r.drop i) s)],.bool true])
 | 0,i,acc,h,hb=>by
  rw[zIx,show i=r.length by omega]
  simp[zC7]
 |k+1,i,acc,h,hb=>by
  have hi:i<r.length:=by omega
  have hp:zC7 (r.drop i) s=(s.map λ y=>r[i]++y)++zC7 (r.drop (i+1)) s:=by
   rw[zAv hi];rfl
  rw[hp]at hb ⊢
  simp only[zAK,zK]at hb
  rw[zIx]
  simp only[zAQ hi,zAc,zA,zY,zN,zH hi,zV,zB,zDA,zK]
  have h3:=z2X C (s.map rowp) E F r[i] (r.map rowp) (r.length:Int) (i:Int) s (hr _ (zAC hi)) hs hsn X Y s.length 0 acc (by omega) (by omega)
  refine h3.trans ?_
  rw[zAB (by omega),List.drop_zero]
  have:=z2Y C D E F r s hr hs hl hsn X Y k (i+1) (acc++s.map λ y=>r[i]++y) (by omega) (by simp only[zAK,zK];omega)
  rw[this,zAG]
def zQo(c:List Int) (r:List (List Val)) (d:List Int) (s:List (List Val)):Option (List Int×List (List Val)) :=
 bif mayB c r&&mayB d s&&mayB (c++d) []&&decide (r.length*s.length<=5000)then some (c++d,zC7 r s)else none
theorem zHP(r s:List (List Val)):(zC7 r s).length=r.length*s.length:=by
 unfold zC7
 induction r with
 |nil=>simp
 |cons a r ih=>rw[zC2,zAK,ih,zK,List.length_cons,Nat.succ_mul];omega
theorem zZw(c:List Int) (r:List (List Val)) (d:List Int) (s:List (List Val)) (hcd:c.length+d.length<=4294967296) (hr:r.length<=9223372036854775807) (hs:s.length<=9223372036854775807)
 (hrl:∀ x∈r,x.length<=9223372036854775807) (hsl:∀ x∈s,x.length<=9223372036854775807):wc W zI3 [bagp c r,bagp d s]=some (bagR (zQo c r d s)):=by
 have h:=zVH (c.map intp) (r.map rowp) (d.map intp) (s.map rowp)
 rw[zI,zI,zAa,zAa,zAo,zAo]at h
 have hc:=zP9 [c,d] (by simp) (by simpa using hcd)
 simp only[zAX,zA9,List.flatten_cons,List.flatten_nil,zBN]at hc
 have e0:PV.agg [zBx (c++d),PV.slice 0 []]=bagp (c++d) []:=rfl
 rw[h,hc]
 simp only[zB,zCz,zI,e0,zP4 c r (by omega) hr hrl,zP4 d s (by omega) hs hsl,zP4 (c++d) [] (by simp;omega) (by simp) (by simp),c_b_mk,zK]
 unfold zQo
 cases h1:mayB c r with
 |false=>rfl
 |true =>
  cases h2:mayB d s with
  |false=>rfl
  |true =>
   cases h3:mayB (c++d) [] with
   |false=>rfl
   |true =>
    obtain⟨a1,a2,a3⟩:=zBo h1
    obtain⟨b1,b2,b3⟩:=zBo h2
    have hm:r.length*s.length<=5000*5000:=Nat.mul_le_mul a2 b2
    have hw:IntKind.wrap .i64 ((r.length:Int)*(s.length:Int))=((r.length*s.length:Nat):Int):=by
     rw[<- Int.natCast_mul,zAU (by omega) (by omega)]
    rw[hw]
    by_cases h4:r.length*s.length<=5000
    ·rw[zD h4,zL (show ¬ ((r.length*s.length:Nat):Int)>5000 by omega)]
     simp only[zAH,zC,Bool.and_self,zA,zNp,zK]
     have:=z2Y (d.map intp) [] ((c++d).map intp) [] r s (λ x hx=>by have:=(a3 x hx).1;omega) (λ x hx=>by have:=(b3 x hx).1;omega) a2 b2 [] [] r.length 0 [] (by omega) (by rw[List.drop_zero,zHP];simp;omega)
     simp only[zA9,List.drop_zero,List.nil_append]at this
     exact this
    ·rw[zL h4,zD (show((r.length*s.length:Nat):Int)>5000 by omega)]
     rfl
end Go.Cf

namespace Go.Cf
open Go Go.Ab
end Go.Cf

namespace Go.Cf
open Go Go.Ab
theorem zZx:∀(k:Nat) (e:Ex),e.sz<=k->e.lens->∀ m:Nat,m<=1000000->wc W zDD [e.pv,.int .i64 (m:Int)]=some (.int .i64 ((min e.sz (m+1):Nat):Int))
 | 0,e,h,_,_,_=>by have:=e.sz_pos;omega
 |k+1,e,h,he,m,hm=>by
  have hh:=zKe e.op e.col e.v.K e.v.N (e.l.map Ex.pv) (m:Int)
  rw[Ex.fold]at hh
  rw[hh]
  have hsz:e.sz=Ex.szL e.l+1:=by cases e;rfl
  obtain⟨hl,hx⟩:=Ex.lens_l he
  have loop:∀(q i n:Nat),i+q=e.l.length->n<=m+1 ->
   zCg (m:Int) e.op e.col e.v.K e.v.N (e.l.map Ex.pv) (n:Int) (i:Int)=some (.int .i64 ((min (n+Ex.szL (e.l.drop i)) (m+1):Nat):Int)):=λ q=>by
   induction q with
   |zero =>
    intro i n hi hn
    rw[zEf,show i=e.l.length by omega,zK]
    simp only[zFU,zC,List.drop_length,Ex.szL,Nat.add_zero,Nat.min_eq_left hn]
   |succ q ih =>
    intro i n hi hn
    have hi' :i<e.l.length:=by omega
    rw[zEf,zK]
    simp only[zAQ hi',zA]
    by_cases hnm:n<=m
    ·have hm' :=Ex.sz_mem (zAC hi')
     rw[zD (show(n:Int)<=(m:Int) by omega),zA,zHw]
     simp only[zAc,zA,zY,zN,zH hi',zV,zB,Ex.c_mk,Ex.fold]
     rw[zAU (by omega) (by omega),show((m:Int)-(n:Int))=((m-n:Nat):Int) by omega,zZx k e.l[i] (by omega) (hx _ (zAC hi')) (m-n) (by omega)]
     simp only[zB,c_i64_mk]
     rw[show((n:Int)+((min e.l[i].sz (m-n+1):Nat):Int))=((n+min e.l[i].sz (m-n+1):Nat):Int) by omega,z11 (by omega),zAB (by omega),ih (i+1) (n+min e.l[i].sz (m-n+1)) (by omega) (by omega),Ex.sz_drop e.l i hi']
     congr 3
     omega
    ·rw[zL (show ¬ (n:Int)<=(m:Int) by omega),zC]
     congr 3
     omega
  have:=loop e.l.length 0 1 (by omega) (by omega)
  rw[List.drop_zero]at this
  rw[show(1:Int)=((1:Nat):Int)from rfl,show(0:Int)=((0:Nat):Int)from rfl,this]
  congr 3
  omega
theorem z5m(e:Ex) (he:e.lens):wc W zEr [e.pv,.int .i64 60]=some (.bool (decide (e.sz<=60))):=by
 have h:=zLT e.op e.col e.v.K e.v.N (e.l.map Ex.pv) 60
 rw[Ex.fold]at h
 rw[h,show(60:Int)=((60:Nat):Int)from rfl,zZx e.sz e (zM _) he 60 (by omega)]
 simp only[zB,c_i64_mk]
 congr 3
 first | (rw[decide_eq_decide];omega) | exact propext (by omega)
def exsp(l:List Ex):PV:= .slice 6 (l.map Ex.pv)
theorem zJq(l:List Ex):PV.slice 6 (l.map Ex.pv)=exsp l:=rfl
theorem zPa(c0:List Int) (g:Nat) (fs cs:List PV) (r:List (List Val)) (f:List Val->Bool) (hr:r.length<=4294967295) (hl:∀ x∈r,x.length<=4294967296) (hf:∀ x∈r,wc W g (fs++[rowp x]++cs)=some (.bool (f x))) :
 ∀(k i:Nat) (a b:List PV) (acc:List (List Val)),i+k=r.length->acc.length<=i ->
 zGE (.fn g fs cs) (r.map rowp) (r.length:Int) (i:Int) a b (c0.map intp) (acc.map rowp)=some (bagp c0 (acc++(r.drop i).filter f))
 | 0,i,a,b,acc,hi,hacc=>by
  rw[zJh,show i=r.length by omega]
  simp[zFU]
 |k+1,i,a,b,acc,hi,hacc=>by
  have hi' :i<r.length:=by omega
  rw[zJh,zAv hi',List.filter_cons]
  simp only[zAQ hi',zAc,zA,zY,zN,zH hi',zV,zB,zDA,asFn_mk,zAA,hf _ (zAC hi'),c_b_mk]
  have hcl:=zD2 (r[i].map Val.pv) (by rw[zK];exact hl _ (zAC hi'))
  rw[zAA]at hcl
  rw[zAB (by omega)]
  cases hfx:f r[i] with
  |false =>
   simp only[zC,Bool.false_eq_true,if_false]
   exact zPa c0 g fs cs r f hr hl hf k (i+1) a b acc (by omega) (by omega)
  |true =>
   simp only[zA,hcl,zB,zDA,zAA,zK,zAD,zD (show acc.length+1<=4294967296 by omega),if_true]
   have:=zPa c0 g fs cs r f hr hl hf k (i+1) a b (acc++[r[i]]) (by omega) (by rw[zAK,List.length_singleton];omega)
   rw[zBe,zAG]at this
   exact this
theorem z5n(c:List Int) (r:List (List Val)) (g:Nat) (fs cs:List PV) (f:List Val->Bool) (hc:c.length<=4294967296) (hr:r.length<=4294967295) (hl:∀ x∈r,x.length<=4294967296) (hf:∀ x∈r,wc W g (fs++[rowp x]++cs)=some (.bool (f x))) :
 wc W zID [bagp c r,.fn g fs cs]=some (bagp c (r.filter f)):=by
 have h:=zXv (c.map intp) (r.map rowp) (.fn g fs cs)
 rw[zI,zAa,zAo]at h
 have hcl:=zF3 (c.map intp) (by rw[zK];exact hc)
 rw[zI]at hcl
 rw[h,hcl,zK]
 simp only[zB,zCz]
 have:=zPa c g fs cs r f hr hl hf r.length 0 [] [] [] (by omega) (by simp)
 simpa using this
theorem z3V(l:List Ex) (g:Nat) (fs cs:List PV) (f:Ex->Bool) (hl:l.length<=9223372036854775807) (hf:∀ x∈l,wc W g (fs++[x.pv]++cs)=some (.bool (f x))) :
 wc W zBO [exsp l,.fn g fs cs]=some (.bool (l.any f)):=by
 have h:=zEL (l.map Ex.pv) (.fn g fs cs)
 have h2:=zEe (l.map Ex.pv) (.fn g fs cs)
 rw[zJq]at h h2
 have h3:wc W zB5 [exsp l,.fn g fs cs]=some (.int .i64 (idxI l f)):=by
  rw[h2,zK]
  refine zIj (λ i=>zAs (l.map Ex.pv) (.fn g fs cs) l.length i) l f (λ n=>some (.int .i64 n)) (λ i hi=> ?_) ?_
  ·rw[zBu]
   simp only[zAQ hi,zAc,zA,zY,zN,zH hi,zV,zB,Ex.c_mk,asFn_mk,Ex.fold]
   rw[hf _ (zAC hi),zAU (by omega) (by omega)]
   simp only[zB,c_b_mk]
  ·rw[zBu];simp
 rw[h,h3]
 simp[<- zIi]
def zTh(l:List Ex) (c:List Int) (row:List Val):Bool:=l.all λ e=>zMC e c row
theorem z1e{α:Type} (l:List α) (f:α->Bool):(!l.any λ x=> !f x)=l.all f:=by
 induction l with
 |nil=>rfl
 |cons a l ih=>simp only[List.any_cons,List.all_cons,Bool.not_or,Bool.not_not,ih]
theorem zW1(c:List Int) (r:List (List Val)) (l:List Ex) (hc:c.length<=4294967296) (hr:r.length<=4294967295) (hl:∀ x∈r,x.length<=4294967296) (hv:∀ x∈r,ROk x) (hll:l.length<=9223372036854775807) (he:∀ e∈l,e.ok/\e.vals) :
 wc W zDL [bagp c r,exsp l]=some (bagp c (r.filter (zTh l c))):=by
 have h:=zXo (c.map intp) (r.map rowp) (l.map Ex.pv)
 rw[zI,zAa,zAo,zJq]at h
 rw[h,z5n c r zH9 [] [.imm 0 (exsp l) 0,.imm 3 (bagp c r) 0] (zTh l c) hc hr hl ?_]
 ·simp only[zB,zFa]
  rfl
 ·intro x hx
  have h1:=zT0 (x.map Val.pv) (l.map Ex.pv) (c.map intp) (r.map rowp)
  rw[zI,zAa,zAo,zJq,zAA]at h1
  show wc W zH9 [rowp x,_,_]=_
  rw[h1,z3V l zFu [] [.imm 3 (bagp c r) 0,.imm 0 (rowp x) 0] (λ e=> !zMC e c x) hll ?_]
  ·simp only[zB,c_b_mk,z1e]
   rfl
  ·intro e hel
   have h2:=zQH e.op e.col e.v.K e.v.N (e.l.map Ex.pv) (c.map intp) (r.map rowp) (x.map Val.pv)
   rw[Ex.fold,zI,zAa,zAo,zAA]at h2
   show wc W zFu [e.pv,_,_]=_
   rw[h2,z3T e c x (he e hel).1 (he e hel).2 (by omega) (hv x hx)]
   rfl
end Go.Cf

namespace Go.Cf
open Go Go.Ab
theorem z1f(l:List Def) (g:Nat) (fs cs:List PV) (f:Def->Bool) (hl:l.length<=9223372036854775807) (hf:∀ x∈l,wc W g (fs++[x.pv]++cs)=some (.bool (f x))) :
 wc W zBh [.slice 3 (l.map Def.pv),.fn g fs cs]=some (.int .i64 (idxI l f)):=by
 rw[zFK,zK]
 refine zIj (λ i=>zBC (l.map Def.pv) (.fn g fs cs) l.length i) l f (λ n=>some (.int .i64 n)) (λ i hi=> ?_) ?_
 ·rw[zCO]
  simp only[zAQ hi,zAc,zA,zY,zN,zH hi,zV,zB,Def.c_mk,asFn_mk,Def.fold]
  rw[hf _ (zAC hi),zAU (by omega) (by omega)]
  simp only[zB,c_b_mk]
 ·rw[zCO];simp
theorem z1g(l:List Def) (g:Nat) (fs cs:List PV) (f:Def->Bool) (hl:l.length<=9223372036854775807) (hf:∀ x∈l,wc W g (fs++[x.pv]++cs)=some (.bool (f x))) :
 wc W zBY [.slice 3 (l.map Def.pv),.fn g fs cs]=some (.bool (l.any f)):=by
 rw[zE8,z1f l g fs cs f hl hf]
 simp[<- zIi]
def catp(T:List Def):PV:= .agg [.slice 3 (T.map Def.pv)]
def zGV(D:List (List (List Val))):PV:= .agg [.slice 0 (D.map tabp)]
@[simp] theorem zAY(T:List Def):PV.agg [.slice 3 (T.map Def.pv)]=catp T:=rfl
@[simp] theorem zBM(D:List (List (List Val))):PV.agg [.slice 0 (D.map tabp)]=zGV D:=rfl
@[simp] theorem c_catp(T:List Def) {R:Type} (f:List PV->Option R):z2S (catp T) f=f (T.map Def.pv):=rfl
@[simp] theorem c_datap(D:List (List (List Val))) {R:Type} (f:List PV->Option R):z2R (zGV D) f=f (D.map tabp):=rfl
theorem w_in(n a b:Int):wc W zFT [.int .i64 n,.int .i64 a,.int .i64 b]=some (.bool (decide (a<=n)&&decide (n<=b))):=by
 rw[zZ7]
 have:decide (n≥a)=decide (a<=n):=rfl
 rw[this]
 cases decide (a<=n)<;>rfl
def oneD(d:Def):Bool:=(decide (1<=d.Cols)&&decide (d.Cols<=4))&&(decide (1<=d.Rows)&&decide (d.Rows<=1000000))
theorem z69(d:Def):wc W zMg [d.pv]=some (.bool (oneD d)):=by
 have h:=zXy d.Cols d.Rows
 rw[Def.fold]at h
 rw[h]
 simp only[w_in,zB,c_b_mk]
 unfold oneD
 by_cases h0:d.Cols=0
 ·rw[h0]
  by_cases h1:d.Rows=0
  ·rw[h1];rfl
  ·rw[zDP h1];rfl
 ·rw[zDP h0]
  simp only[zC,zB,c_b_mk,Bool.not_false,zA]
  cases (decide (1<=d.Cols)&&decide (d.Cols<=4))<;>simp
def mayC(T:List Def):Bool:=(decide (1<=(T.length:Int))&&decide ((T.length:Int)<=4))&&T.all oneD
theorem zZy(d:Def):wc W zHa [d.pv]=some (.bool (!oneD d)):=by
 have h:=zT4 d.Cols d.Rows
 rw[Def.fold]at h
 rw[h,z69];rfl
theorem zQp(T:List Def) (hl:T.length<=9223372036854775807):wc W zKS [catp T]=some (.bool (mayC T)):=by
 have h:=zXr (T.map Def.pv)
 rw[zAY]at h
 rw[h,w_in,zK]
 simp only[zB,c_b_mk]
 rw[z1g T zHa [] [] (λ d=> !oneD d) hl (λ x _=>zZy x)]
 simp only[zB,c_b_mk,zMv]
 unfold mayC
 cases (decide (1<=(T.length:Int))&&decide ((T.length:Int)<=4))<;>rfl
def zTi(r:List Val) (n:Int):Bool:=decide ((r.length:Int)=n)&&r.all mayV
theorem z5o(v:Val):wc W zHb [v.pv]=some (.bool (!mayV v)):=by
 have h:=zT5 v.K v.N
 rw[Val.fold]at h
 rw[h,zJn];rfl
theorem z6a(r:List Val) (n:Int) (hl:r.length<=9223372036854775807):wc W zMf [rowp r,.int .i64 n]=some (.bool (zTi r n)):=by
 have h:=zXw (r.map Val.pv) n
 rw[zAA]at h
 rw[h,zK,zRj r zHb [] [] (λ v=> !mayV v) hl (λ x _=>z5o x)]
 simp only[zB,c_b_mk,zMv]
 unfold zTi
 by_cases e:(r.length:Int)=n
 ·rw[zIH e,zD e];simp
 ·rw[zDP e,zL e];simp
def zFb(T:List Def) (i:Nat):Int:=(T[i]?.map Def.Cols).getD 0
def zV4(T:List Def) (i:Nat) (t:List (List Val)):Bool:=decide (t.length<=8)&&t.all λ r=>zTi r (zFb T i)
def fits(T:List Def) (D:List (List (List Val))):Bool:=mayC T&&decide (D.length=T.length)&&(List.range D.length).all λ i=>(D[i]?).all (zV4 T i)
theorem z3W(T:List Def) (r:List Val) (i:Nat) (hi:i<T.length) (hl:r.length<=9223372036854775807) :
 W zC3 false [.pv (rowp r),.pv (.imm 2 (catp T) 0),.own 0 0] [.var false 0 (.pv (.int .i64 (i:Int)))]=some (.pv (.bool (!zTi r (zFb T i))),[.var false 0 (.pv (.int .i64 (i:Int)))]):=by
 have h:=zLv (r.map Val.pv) (T.map Def.pv) (i:Int)
 rw[zAA,zAY]at h
 rw[h]
 simp only[zAc,zA,zY,zN,zH hi,zV,zB,Def.load0,c_i64_mk,z6a _ _ hl,c_b_mk,zFb,Option.getD_some]
theorem z1h(T:List Def) (t:List (List Val)) (i:Nat) (hi:i<T.length) (ht:t.length<=9223372036854775807) (hl:∀ r∈t,r.length<=9223372036854775807) :
 W zBH false [.pv (tabp t),.fnv zC3 [] [.pv (.imm 2 (catp T) 0),.own 0 0]] [.var false 0 (.pv (.int .i64 (i:Int)))] =
  some (.pv (.bool (!t.all λ r=>zTi r (zFb T i))),[.var false 0 (.pv (.int .i64 (i:Int)))]):=by
 have h:=zCy (t.map rowp) (T.map Def.pv) (i:Int)
 have h2:=zDY (t.map rowp) (T.map Def.pv) (i:Int)
 rw[zAa,zAY]at h h2
 rw[h,h2,zK]
 rw[zIj (λ n=>zA1 (t.map rowp) (T.map Def.pv) t.length n (i:Int)) t (λ r=> !zTi r (zFb T i)) (λ n=>some (.pv (.int .i64 n),[.var false 0 (.pv (.int .i64 (i:Int)))])) ?_ ?_]
 ·simp only[zB,k_5b106d_mk,c_i64_mk,zIi]
  rw[<- zMv t,Bool.not_not]
 ·intro j hj
  rw[zB7]
  simp only[zAQ hj,zAc,zA,zY,zN,zH hj,zV,zB,zDA,zAA,zAY,z3W T _ i hi (hl _ (zAC hj)),k_5b106d_mk,c_b_mk]
  rw[zAU (by omega) (by omega)]
 ·rw[zB7];simp
structure DOk (D:List (List (List Val))):Prop where
 len:D.length<=9223372036854775807
 tab:∀ t∈D,t.length<=9223372036854775807
 row:∀ t∈D,∀ r∈t,r.length<=9223372036854775807
theorem zZz(T:List Def) (D:List (List (List Val))) (hT:T.length<=9223372036854775807) (hD:DOk D):wc W zHB [catp T,zGV D]=some (.bool (fits T D)):=by
 have h:=zVG (T.map Def.pv) (D.map tabp)
 rw[zAY,zBM]at h
 rw[h,zQp T hT]
 simp only[zB,c_b_mk,zK]
 unfold fits
 cases mayC T with
 |false=>rfl
 |true =>
  simp only[zAH,zC,zAD]
  by_cases hl:D.length=T.length
  ·rw[zLq (by rw[hl]),zD hl,zC,zNo,zAD,zK]
   rw[zOS (λ i=>zG8 (T.map Def.pv) (D.map tabp) D.length i) D.length (λ i=>(D[i]?).all (zV4 T i)) (some (.bool false)) (some (.bool true)) ?_ ?_]
   ·cases (List.range D.length).all λ i=>(D[i]?).all (zV4 T i)<;>rfl
   ·intro i hi
    have hiT:i<T.length:=by omega
    have hm:=zAC hi
    have:=hD.len
    rw[zIw]
    simp only[zAQ hi,zAc,zA,zY,zN,zH hi,zV,zB,zN4,zK,Option.all_some,zAa,zAY,z1h T D[i] i hiT (hD.tab _ hm) (hD.row _ hm),k_5b106d_mk,c_b_mk]
    rw[zAU (by omega) (by omega)]
    unfold zV4
    by_cases h8:D[i].length<=8
    ·rw[zD h8,zL (show ¬ ((D[i].length:Nat):Int)>8 by omega)]
     cases D[i].all λ r=>zTi r (zFb T i)<;>rfl
    ·rw[zL h8,zD (show((D[i].length:Nat):Int)>8 by omega)]
     rfl
   ·rw[zIw];simp
  ·rw[zLI (by omega),zL hl];rfl
def colI(occ col:Int):Int:=bif (decide (0<=occ)&&decide (occ<=3))&&(decide (0<=col)&&decide (col<=3))then 4*occ+col else -1
theorem z3X(o c:Int):wc W zIE [.int .i64 o,.int .i64 c]=some (.int .i64 (colI o c)):=by
 rw[zXx]
 simp only[w_in,zB,c_b_mk,colI]
 by_cases h:0<=o/\o<=3
 ·rw[zD h.1,zD h.2]
  by_cases h2:0<=c/\c<=3
  ·rw[zD h2.1,zD h2.2]
   simp only[Bool.and_self,zAH,zC,zA,zP1]
   rw[zAU (n:=4*o) (by omega) (by omega),zAU (by omega) (by omega)]
  ·have:(decide (0<=c)&&decide (c<=3))=false:=by rw[<- Bool.decide_and];exact zL h2
   rw[this];rfl
 ·have:(decide (0<=o)&&decide (o<=3))=false:=by rw[<- Bool.decide_and];exact zL h
  rw[this];rfl
def zW2(id:Int):PV:=bif decide (0<=id)&&decide (id<=15)then .tup [.int .i64 (id / 4),.int .i64 (id % 4),.bool true]else .tup [.int .i64 0,.int .i64 0,.bool false]
theorem div4{n:Int} (h:0<=n) (h2:n<=15):IntKind.wrap .i64 (Int.tdiv n 4)=n / 4/\Int.tmod n 4=n % 4:=by
 rw[Int.tdiv_eq_ediv_of_nonneg h,Int.tmod_eq_emod_of_nonneg h,zAU (by omega) (by omega)]
 exact⟨rfl,rfl⟩
theorem z3Y(n:Int):wc W zJ8 [.int .i64 n]=some (zW2 n):=by
 rw[zT8,w_in]
 simp only[zB,c_b_mk,zW2]
 by_cases h:0<=n/\n<=15
 ·rw[zD h.1,zD h.2,(div4 h.1 h.2).1,(div4 h.1 h.2).2];rfl
 ·have:(decide (0<=n)&&decide (n<=15))=false:=by rw[<- Bool.decide_and];exact zL h
  rw[this];rfl
def zDt(occ:Int) (k n:Nat):List Int:=(List.range' k n).map λ i:Nat=>4*occ+(i:Int)
theorem z0A(o:Int) (ho:0<=o/\o<=3) (t:Int) (D:List PV) (n:Nat) (hn:n<=4):∀(k i:Nat) (acc:List Int),i+k=n->acc.length<=i ->
 zHI t o D (n:Int) (i:Int) (acc.map intp)=zHI t o D (n:Int) (n:Int) ((acc++zDt o i k).map intp)
 | 0,i,acc,h,hl=>by
  rw[show i=n by omega];simp[zDt]
 |k+1,i,acc,h,hl=>by
  have hi:i<n:=by omega
  rw[zKm]
  have hc:colI o (i:Int)=4*o+(i:Int):=by
   unfold colI
   rw[zD ho.1,zD ho.2,zD (show(0:Int)<=i by omega),zD (show(i:Int)<=3 by omega)];rfl
  simp only[zAQ hi,zA,z3X,zB,c_i64_mk,hc,zK,zAD,zD (show acc.length+1<=4294967296 by omega)]
  rw[zAB (by omega)]
  have:=z0A o ho t D n hn k (i+1) (acc++[4*o+(i:Int)]) (by omega) (by simp;omega)
  simp only[zBe,zAX,zA9]at this
  refine this.trans ?_
  rw[show zDt o i (k+1)=(4*o+(i:Int))::zDt o (i+1) k from by simp[zDt,List.range'_succ]]
  simp only[zBe,zAX,zAG,List.cons_append,List.nil_append]
def ofT(T:List Def) (D:List (List (List Val))) (t o:Int):Option (List Int×List (List Val)) :=
 bif fits T D&&(decide (0<=t)&&decide (t<=(T.length:Int)-1))&&(decide (0<=o)&&decide (o<=3))then some (zDt o 0 (zFb T t.toNat).toNat,D.getD t.toNat [])else none
def ofP(x:Option (List Int×List (List Val))):PV:=match x with | some b=> .tup [bagp b.1 b.2,.bool true] | none=> .tup [bagp [] [],.bool false]
theorem zK2{T:List Def} {D:List (List (List Val))} (h:fits T D=true):D.length=T.length/\mayC T=true/\∀ i (hi:i<D.length),zV4 T i D[i]=true:=by
 unfold fits at h
 simp only[zF,zU,zAF,List.mem_range]at h
 refine⟨h.1.2,h.1.1,λ i hi=> ?_⟩
 have:=h.2 i hi
 simpa [zH hi]using this
theorem zJr{T:List Def} (h:mayC T=true) {i:Nat} (hi:i<T.length):1<=zFb T i/\zFb T i<=4:=by
 unfold mayC at h
 simp only[zF,zAF]at h
 have:=h.2 _ (zAC hi)
 unfold oneD at this
 simp only[zF,zU]at this
 unfold zFb
 rw[zH hi]
 exact this.1
theorem zW3{T:List Def} {i:Nat} {t:List (List Val)} (h:zV4 T i t=true) (hc:zFb T i<=4):t.length<=8/\∀ r∈t,(r.length:Int)=zFb T i/\r.length<=4/\r.all mayV=true:=by
 unfold zV4 at h
 simp only[zF,zU,zAF]at h
 refine⟨h.1,λ r hr=> ?_⟩
 have:=h.2 r hr
 unfold zTi at this
 simp only[zF,zU]at this
 exact⟨this.1,by omega,this.2⟩
end Go.Cf

namespace Go.Cf
open Go Go.Ab
theorem z1i(l:List Int) (g:Nat) (fs cs:List PV) (f:Int->Bool) (hl:l.length<=9223372036854775807) (hf:∀ x∈l,wc W g (fs++[.int .i64 x]++cs)=some (.bool (f x))) :
 wc W zCi [zBx l,.fn g fs cs]=some (.int .i64 (idxI l f)):=by
 unfold zBx
 rw[zHV,zK]
 refine zIj (λ i=>zBg (l.map intp) (.fn g fs cs) l.length i) l f (λ n=>some (.int .i64 n)) (λ i hi=> ?_) ?_
 ·rw[zDS]
  simp only[zAQ hi,zAc,zA,zY,zN,zH hi,zV,zB,zJD,asFn_mk]
  rw[hf _ (zAC hi),zAU (by omega) (by omega)]
  simp only[zB,c_b_mk]
 ·rw[zDS];simp
theorem zW4(l:List Int) (g:Nat) (fs cs:List PV) (f:Int->Bool) (hl:l.length<=9223372036854775807) (hf:∀ x∈l,wc W g (fs++[.int .i64 x]++cs)=some (.bool (f x))) :
 wc W zB8 [zBx l,.fn g fs cs]=some (.bool (l.any f)):=by
 have h:=zGS (l.map intp) (.fn g fs cs)
 rw[zI]at h
 rw[h,z1i l g fs cs f hl hf]
 simp[<- zIi]
theorem zMz(l:List Int) (n:Int) (hl:l.length<=9223372036854775807):wc W zB4 [zBx l,.int .i64 n]=some (.bool (inC l n)):=by
 have h:=zHu (l.map intp) n
 rw[zI,zJo l n hl]at h
 rw[h]
 have h1:decide (idxI l (λ y=>n==y)≥0)=inC l n:=by
  have:=zRk (c:=l) (x:=n)
  by_cases hh:idxI l (λ y=>n==y)<0
  ·rw[zD hh]at this
   rw[zL (by omega)]
   cases h2:inC l n with
   |false=>rfl
   |true=>rw[h2]at this;cases this
  ·rw[zL hh]at this
   rw[zD (by omega)]
   cases h2:inC l n with
   |true=>rfl
   |false=>rw[h2]at this;cases this
 simp only[zB,c_i64_mk,h1]
end Go.Cf
