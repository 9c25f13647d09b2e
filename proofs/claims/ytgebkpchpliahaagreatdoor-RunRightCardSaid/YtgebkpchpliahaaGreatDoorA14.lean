/- Part 15 of the proof: an abstract machine that runs the program's code over plain values, its soundness, and what the functions tell of plain values. Conditions: those in each theorem. -/
import Derived.Test.YtgebkpchpliahaaGreatDoorA13
import Derived.Carry
set_option linter.unusedSectionVars false
set_option linter.unusedVariables false
set_option linter.unusedSimpArgs false
noncomputable section
namespace Go.Ab
open Go.RowKit (Below)
variable [GL:Gl]
section
variable {c:Cfg} {t e:TypeId} {p:PV}
theorem Typed.int_inv{k:IntKind} (h:Typed c t p) (hk:(c.at_ t).k= .int k):∃ n,p= .int k n/\(Lit.int k n).wf=true:=by
 cases h with
 |int t k' n h hw=>rw[hk]at h;cases h;exact⟨n,rfl,hw⟩
 |bool t b h=>rw[hk]at h;cases h
 |str t s h=>rw[hk]at h;cases h
 |slice t e xs h=>rw[hk]at h;cases h
 |struct t fs ps h=>rw[hk]at h;cases h
 |arr t e n ps h=>rw[hk]at h;cases h
theorem Typed.bool_inv(h:Typed c t p) (hk:(c.at_ t).k= .bool):∃ b,p= .bool b:=by
 cases h with
 |int t k' n h hw=>rw[hk]at h;cases h
 |bool t b h=>exact⟨b,rfl⟩
 |str t s h=>rw[hk]at h;cases h
 |slice t e xs h=>rw[hk]at h;cases h
 |struct t fs ps h=>rw[hk]at h;cases h
 |arr t e n ps h=>rw[hk]at h;cases h
theorem Typed.slice_inv(h:Typed c t p) (hk:(c.at_ t).k= .slice e):∃ xs,p= .slice (c.sh e) xs/\xs.length<=maxLen/\∀ x∈xs,Typed c e x:=by
 cases h with
 |int t k' n h hw=>rw[hk]at h;cases h
 |bool t b h=>rw[hk]at h;cases h
 |str t s h=>rw[hk]at h;cases h
 |slice t e xs h hl hx=>rw[hk]at h;cases h;exact⟨xs,rfl,hl,hx⟩
 |struct t fs ps h=>rw[hk]at h;cases h
 |arr t e n ps h=>rw[hk]at h;cases h
theorem Typed.arr_inv{n:Nat} (h:Typed c t p) (hk:(c.at_ t).k= .arr n e):∃ ps:List PV,p= .agg (ps.flatMap PV.cells)/\ps.length=n/\∀ x∈ps,Typed c e x:=by
 cases h with
 |int t k' n h hw=>rw[hk]at h;cases h
 |bool t b h=>rw[hk]at h;cases h
 |str t s h=>rw[hk]at h;cases h
 |slice t e xs h=>rw[hk]at h;cases h
 |struct t fs ps h=>rw[hk]at h;cases h
 |arr t e n ps h hl hx=>rw[hk]at h;cases h;exact⟨ps,rfl,hl,hx⟩
def zR5(c:Cfg):List TypeId->List PV->Prop
 | [],[]=>True
 |t::ts,p::ps=>Typed c t p/\zR5 c ts ps
 |_,_=>False
theorem zUX{c:Cfg}:∀{fs:List (TypeId×Nat)} {ps:List PV},ps.length=fs.length->(∀(i:Nat) (f:TypeId×Nat) (p:PV),fs[i]? =some f->ps[i]? =some p->Typed c f.1 p)->zR5 c (fs.map (·.1)) ps
 | [],[],_,_=>trivial
 | [],_::_,h,_=>by simp at h
 |_::_,[],h,_=>by simp at h
 |f::fs,p::ps,h,k=>⟨k 0 f p rfl rfl,zUX (by simpa using h) λ i f p hf hp=>k (i+1) f p (by simpa using hf) (by simpa using hp)⟩
theorem Typed.struct_inv{fs:List (TypeId×Nat)} (h:Typed c t p) (hk:(c.at_ t).k= .struct fs):∃ ps:List PV,p= .agg (ps.flatMap PV.cells)/\zR5 c (fs.map (·.1)) ps:=by
 cases h with
 |int t k' n h hw=>rw[hk]at h;cases h
 |bool t b h=>rw[hk]at h;cases h
 |str t s h=>rw[hk]at h;cases h
 |slice t e xs h=>rw[hk]at h;cases h
 |struct t fs ps h hl hp=>rw[hk]at h;cases h;exact⟨ps,rfl,zUX hl hp⟩
 |arr t e n ps h=>rw[hk]at h;cases h
theorem zKM{a:TypeId} {ps:List PV} (h:zR5 c [a] ps):∃ x,ps=[x]/\Typed c a x:=by
 match ps,h with
 | [x],h=>exact⟨x,rfl,h.1⟩
theorem zBd{a:TypeId} {ts:List TypeId} {ps:List PV} (h:zR5 c (a::ts) ps):∃ x qs,ps=x::qs/\Typed c a x/\zR5 c ts qs:=by
 match ps,h with
 |x::qs,h=>exact⟨x,qs,rfl,h.1,h.2⟩
theorem zJQ{α:Type} {Q:α->Prop} {f:α->PV}:∀{xs:List PV},(∀ x∈xs,∃ a,x=f a/\Q a)->∃ l:List α,xs=l.map f/\∀ a∈l,Q a
 | [],_=>⟨[],rfl,by simp⟩
 |x::xs,h=>by
  obtain⟨a,rfl,ha⟩:=h x (by simp)
  obtain⟨l,rfl,hl⟩:=zJQ (xs:=xs) (λ y hy=>h y (List.mem_cons_of_mem _ hy))
  exact⟨a::l,rfl,by simpa using⟨ha,hl⟩⟩
end
end Go.Ab

namespace Go.Cf
open Go Go.Ab
theorem zHx{p:PV} (h:Typed cfg zM0 p):∃ n:Int,p= .int .i64 n/\I64 n:=by
 obtain⟨n,rfl,hw⟩:=h.int_inv (k:= .i64) (by kernel_rfl)
 exact⟨n,rfl,z79 hw⟩
end Go.Cf

namespace Go.Cf
open Go Go.Ab
set_option maxRecDepth 100000
def zEb(k l m n:List PV) (o:Int) (a b:List PV) (c d e f g:Int) (h:List PV) (i:Int) (j:Bool):Option PV:=(jN_ fi12) [1,1,1,1] (St.mk [(4,.pv (.imm 2 (.agg [.slice 3 k]) 0)),(5,.pv (.imm 2 (.agg [.slice 0 l]) 0)),(6,.pv (.imm 7 (.agg [.slice 0 m,.slice 6 n,.int .i64 o,.slice 0 a,.slice 0 b,.int .i64 c]) 0)),(7,.pv (.imm 8 (.agg [.int .i64 d,.int .i64 e,.int .i64 f,.int .i64 g,.slice 6 h,.int .i64 i,.bool j]) 0))] [])
def zCr(a b c d:List PV) (e:Int) (f g:List PV) (h:Int) (i:Bool) (j k l m:List PV):Option PV:=(jN_ fi12) [1,1,1,1,1,1,1] (St.mk [(4,.pv (.imm 2 (.agg [.slice 3 a]) 0)),(5,.pv (.imm 2 (.agg [.slice 0 b]) 0)),(6,.pv (.imm 7 (.agg [.slice 0 c,.slice 6 d,.int .i64 e,.slice 0 f,.slice 0 g,.int .i64 h]) 0)),(11,.own 0 0),(12,.pv (.bool i))] [.var false 3 (.pv (.agg [.slice 0 j,.slice 0 k])),.var false 3 (.pv (.agg [.slice 0 l,.slice 0 m]))])
theorem zG5(e i f g:List PV) (h:Int) (a b:List PV) (c j k l m:Int) (n:List PV) (o:Int) (p:Bool):zEb e i f g h a b c j k l m n o p =
 (wc W zST [.agg [.slice 3 e],.agg [.slice 0 i],.agg [.slice 0 f,.slice 6 g,.int .i64 h,.slice 0 a,.slice 0 b,.int .i64 c],.agg [.int .i64 j,.int .i64 k,.int .i64 l,.int .i64 m,.slice 6 n,.int .i64 o,.bool p]]).bind λ q=>q.asTup.bind λ w=>w[0]?.bind λ x=>zAR x λ r s=>q.asTup.bind λ y=>y[1]?.bind λ z=>c_b z λ d=>(wc W zJA [.agg [.slice 3 e],.agg [.slice 0 i],.agg [.slice 0 f,.slice 6 g,.int .i64 h,.slice 0 a,.slice 0 b,.int .i64 c]]).bind λ t=>t.asTup.bind λ A=>A[0]?.bind λ B=>zAR B λ u v=>t.asTup.bind λ C=>C[1]?.bind λ D=>c_b D λ E=>(wc W zJC [.agg [.slice 3 e],.agg [.slice 0 f,.slice 6 g,.int .i64 h,.slice 0 a,.slice 0 b,.int .i64 c],.agg [.int .i64 j,.int .i64 k,.int .i64 l,.int .i64 m,.slice 6 n,.int .i64 o,.bool p]]).bind λ F=>c_b F λ G=>bif G then bif !(d==E)then some (.bool false)else zCr e i f g h a b c d r s u v else bif !(d==false)then some (.bool false)else zCr e i f g h a b c d r s u v:=((tN_ fi12).join [1,1,1,1] _).trans (by kernel_rfl)
theorem zC2(a b c d:List PV) (e:Int) (f g:List PV) (h:Int) (i:Bool) (j k l m:List PV):zCr a b c d e f g h i j k l m =
 bif !i then some (.bool true)else(wc W zJB [.agg [.slice 3 a],.agg [.slice 0 b],.agg [.slice 0 c,.slice 6 d,.int .i64 e,.slice 0 f,.slice 0 g,.int .i64 h],.agg [.slice 0 j,.slice 0 k]]).bind λ n=>c_b n λ o=>some (.bool o):=((tN_ fi12).join [1,1,1,1,1,1,1] _).trans (by kernel_rfl)
theorem zIe(a b c d:List PV) (e:Int) (f g:List PV) (h i j k l:Int) (m:List PV) (n:Int) (o:Bool):wc W zDQ [.agg [.slice 3 a],.agg [.slice 0 b],.agg [.slice 0 c,.slice 6 d,.int .i64 e,.slice 0 f,.slice 0 g,.int .i64 h],.agg [.int .i64 i,.int .i64 j,.int .i64 k,.int .i64 l,.slice 6 m,.int .i64 n,.bool o]] =
 (wc W zGI []).bind λ q=>c_b q λ p=>(wc W zC6 [.agg [.slice 3 a],.agg [.slice 0 b],.agg [.slice 0 c,.slice 6 d,.int .i64 e,.slice 0 f,.slice 0 g,.int .i64 h],.agg [.int .i64 i,.int .i64 j,.int .i64 k,.int .i64 l,.slice 6 m]]).bind λ r=>c_b r λ s=>bif !p then some (.bool p)else bif !s then some (.bool p)else zEb a b c d e f g h i j k l m n o:=gA_ (tN_ fi12)
theorem zLK(h a b c:List PV) (d:Int) (e f:List PV) (g i j k l:Int) (m:List PV):wc W zC6 [.agg [.slice 3 h],.agg [.slice 0 a],.agg [.slice 0 b,.slice 6 c,.int .i64 d,.slice 0 e,.slice 0 f,.int .i64 g],.agg [.int .i64 i,.int .i64 j,.int .i64 k,.int .i64 l,.slice 6 m]] =
 (wc W zHU [.agg [.slice 3 h],.agg [.slice 0 a],.agg [.slice 0 b,.slice 6 c,.int .i64 d,.slice 0 e,.slice 0 f,.int .i64 g]]).bind λ n=>zA6 n λ o=>bif o==0 then(wc W zEE [.agg [.slice 0 a],.agg [.slice 0 b,.slice 6 c,.int .i64 d,.slice 0 e,.slice 0 f,.int .i64 g]]).bind λ p=>zA6 p λ q=>bif q==0 then(wc W zDK [.agg [.int .i64 i,.int .i64 j,.int .i64 k,.int .i64 l,.slice 6 m],.int .i64 100]).bind λ r=>zA6 r λ s=>some (.bool (decide (s<=100)))else some (.bool false)else some (.bool false):=gA_ (tN_ fi14)
def zOI(a b c d:List PV):Option PV:=(jN_ fi16) [1,1] (St.mk [(2,.pv (.imm 3 (.agg [.slice 0 a,.slice 0 b]) 0)),(3,.pv (.imm 3 (.agg [.slice 0 c,.slice 0 d]) 0))] [])
def zHy(e f g a:List PV) (b c:Int) (d:List (PV×PV)):Option PV:=(lN_ fi16) [0,1,1,1,1] 1 (St.mk [(2,.pv (.imm 3 (.agg [.slice 0 e,.slice 0 f]) 0)),(3,.pv (.imm 3 (.agg [.slice 0 g,.slice 0 a]) 0)),(5,AV.mp 0),(27,.pv (.int .i64 b)),(28,.pv (.int .i64 c))] [.map false d])
theorem zQH(b a c d:List PV):zOI b a c d =
 zHy b a c d (a.length:Int) 0 []:=((tN_ fi16).join [1,1] _).trans (by kernel_rfl)
theorem zKN(i:List PV) (h:List PV) (j:List PV) (c:List PV) (d:Int) (a:Int) (b:List (PV×PV)):zHy i h j c d a b =
 bif decide (a<d)then bif decide (0<=a)then h[Int.toNat a]?.bind λ k=>c_s3 k λ l=>(wc W zKr [.slice 3 l]).bind λ m=>c_t m λ e=>(zIZ (eqP Cf.cfg (6:Nat) (9:TypeId)) (.str e) b).bind λ n=>(intP BinOp.add (Option.getD n (.int .i64 0)) (.int .i64 1)).bind λ o=>zA6 o λ p=>(mput (eqP Cf.cfg (6:Nat) (9:TypeId)) (.str e) (.int .i64 p) b).bind λ f=>bif decide (0<=a)then c[Int.toNat a]?.bind λ q=>c_s3 q λ r=>(wc W zKr [.slice 3 r]).bind λ s=>c_t s λ g=>(zIZ (eqP Cf.cfg (6:Nat) (9:TypeId)) (.str g) f).bind λ t=>(intP BinOp.sub (Option.getD t (.int .i64 0)) (.int .i64 1)).bind λ u=>zA6 u λ v=>(mput (eqP Cf.cfg (6:Nat) (9:TypeId)) (.str g) (.int .i64 v) f).bind λ w=>zHy i h j c d (IntKind.wrap .i64 (a+1)) w else none else none else(zT8 b).bind λ x=>some (.bool x):=((tN_ fi16).loop [1,1,1,1,0] 1 _ rfl).trans (by kernel_rfl)
theorem zZC(a b c d:List PV):wc W zNY [.agg [.slice 0 a,.slice 0 b],.agg [.slice 0 c,.slice 0 d]] =
 (wc W zDq [.slice 0 a,.slice 0 c]).bind λ e=>c_b e λ f=>bif !f then some (.bool false)else bif (b.length:Int) != (d.length:Int)then some (.bool false)else zOI a b c d:=gA_ (tN_ fi16)
theorem zUY(a b:List PV) (c:Int):wc W zKE [.agg [.slice 0 a,.slice 0 b],.int .i64 c] =
 (wc W zAG [.slice 0 a,.int .i64 c]).bind λ d=>zA6 d λ e=>(W zC7 false [.pv (.slice 0 b),.fnv zDl [] [.own 0 0]] [.var false 0 (.pv (.int .i64 e))]).bind λ f=>zDM f λ g i=>c_b g λ h=>some (.bool h):=gA_ (tN_ fi17)
theorem zLk(a b c d:List PV) (e:Int) (f g:List PV) (h:Int):wc W zCi [.agg [.slice 3 a],.agg [.slice 0 b],.agg [.slice 0 c,.slice 6 d,.int .i64 e,.slice 0 f,.slice 0 g,.int .i64 h]] =
 (wc W zHW [.agg [.slice 3 a],.agg [.slice 0 c,.slice 6 d,.int .i64 e,.slice 0 f,.slice 0 g,.int .i64 h]]).bind λ i=>zA6 i λ j=>bif j==0 then(wc W zHX [.agg [.slice 0 b]]).bind λ k=>zA6 k λ l=>some (.bool (l==0))else some (.bool false):=gA_ (tN_ fi19)
def zCb(a:List PV) (b:Int):Option PV:=(jN_ fi20) [1,1,1] (St.mk [(2,.pv (.imm 2 (.agg [.slice 0 a]) 0)),(5,.pv (.int .i64 b))] [])
def zCc(a:List PV) (b c:Int):Option PV:=(lN_ fi20) [0,1,0,1,1,1] 0 (St.mk [(2,.pv (.imm 2 (.agg [.slice 0 a]) 0)),(5,.pv (.int .i64 b)),(6,.pv (.int .i64 c))] [])
theorem zHi(a:List PV) (b:Int):zCb a b =
 zCc a b 0:=((tN_ fi20).join [1,1,1] _).trans (by kernel_rfl)
theorem zEc(b:List PV) (c a:Int):zCc b c a =
 bif decide (a<(b.length:Int))then bif decide (0<=a)then b[Int.toNat a]?.bind λ d=>c_s0 d λ e=>bif decide (GT.gt (e.length:Int) c)then some (.int .i64 1)else zCc b c (IntKind.wrap .i64 (a+1))else none else some (.int .i64 0):=((tN_ fi20).loop [1,1,1,0,1,0] 0 _ rfl).trans (by kernel_rfl)
theorem zKO(a b c:List PV) (d:Int) (e f:List PV) (g:Int):wc W zEE [.agg [.slice 0 a],.agg [.slice 0 b,.slice 6 c,.int .i64 d,.slice 0 e,.slice 0 f,.int .i64 g]] =
 bif decide (GT.gt (b.length:Int) 3)then zCb a 3 else zCb a 5:=gA_ (tN_ fi20)
def zM2(d e f g:List PV) (h:Int) (a b:List PV) (c:Int):Option PV:=(jN_ fi21) [1,1] (St.mk [(3,.pv (.imm 2 (.agg [.slice 3 d]) 0)),(4,.pv (.imm 2 (.agg [.slice 0 e]) 0)),(5,.pv (.imm 7 (.agg [.slice 0 f,.slice 6 g,.int .i64 h,.slice 0 a,.slice 0 b,.int .i64 c]) 0)),(6,.own 0 0)] [.var false 3 (.agg [AV.nil 0,AV.nil 0])])
theorem zO0(e f g h:List PV) (i:Int) (a b:List PV) (c:Int):zM2 e f g h i a b c =
 (wc W zKG [.fn zEX [] [.imm 2 (.agg [.slice 3 e]) 0,.imm 2 (.agg [.slice 0 f]) 0,.imm 7 (.agg [.slice 0 g,.slice 6 h,.int .i64 i,.slice 0 a,.slice 0 b,.int .i64 c]) 0]]).bind λ d=>d.asTup.bind λ j=>j[0]?.bind λ k=>zAR k λ l m=>d.asTup.bind λ n=>n[1]?.bind λ o=>c_b o λ p=>some (.tup [.agg [.slice 0 l,.slice 0 m],.bool p]):=((tN_ fi21).join [1,1] _).trans (by kernel_rfl)
theorem zWK(a b c d:List PV) (e:Int) (f g:List PV) (h:Int):wc W zJA [.agg [.slice 3 a],.agg [.slice 0 b],.agg [.slice 0 c,.slice 6 d,.int .i64 e,.slice 0 f,.slice 0 g,.int .i64 h]] =
 (wc W zHS [.agg [.slice 3 a],.agg [.slice 0 c,.slice 6 d,.int .i64 e,.slice 0 f,.slice 0 g,.int .i64 h]]).bind λ i=>c_b i λ j=>bif !j then some (.tup [.agg [.slice 0 [],.slice 0 []],.bool false])else(wc W zHV [.agg [.slice 3 a],.agg [.slice 0 b]]).bind λ k=>c_b k λ l=>bif !l then some (.tup [.agg [.slice 0 [],.slice 0 []],.bool false])else zM2 a b c d e f g h:=gA_ (tN_ fi21)
def zM3(c d e:List PV) (f:Int) (g a:List PV) (b:Int):Option PV:=(jN_ fi22) [1,1,1] (St.mk [(2,.pv (.imm 2 (.agg [.slice 3 c]) 0)),(3,.pv (.imm 7 (.agg [.slice 0 d,.slice 6 e,.int .i64 f,.slice 0 g,.slice 0 a,.int .i64 b]) 0))] [])
def zF4(a b:List PV) (c:Int) (d e:List PV) (f:Int) (g h:List PV) (i j:Int):Option PV:=(lN_ fi22) [0,1,0,1,1,1,1] 0 (St.mk [(3,.pv (.imm 7 (.agg [.slice 0 a,.slice 6 b,.int .i64 c,.slice 0 d,.slice 0 e,.int .i64 f]) 0)),(6,.pv (.slice 0 g)),(43,.pv (.slice 6 h)),(44,.pv (.int .i64 i)),(45,.pv (.int .i64 j))] [])
def zE0(a b:List PV) (c:Int) (d e:List PV) (f:Int) (g:Bool):Option PV:=(jN_ fi22) [1,0,1,0,1,1,1,1,1] (St.mk [(3,.pv (.imm 7 (.agg [.slice 0 a,.slice 6 b,.int .i64 c,.slice 0 d,.slice 0 e,.int .i64 f]) 0)),(10,.pv (.bool g))] [])
theorem zO1(g d a:List PV) (e:Int) (f b:List PV) (c:Int):zM3 g d a e f b c =
 (wc W zJG [.agg [.slice 3 g],.agg [.slice 0 d,.slice 6 a,.int .i64 e,.slice 0 f,.slice 0 b,.int .i64 c],.fn zJH [] []]).bind λ h=>c_s0 h λ i=>zF4 d a e f b c i a (a.length:Int) 0:=((tN_ fi22).join [1,1,1] _).trans (by kernel_rfl)
theorem zJ6(e f:List PV) (b:Int) (c a:List PV) (d:Int) (g i:List PV) (j h:Int):zF4 e f b c a d g i j h =
 bif decide (h<j)then bif decide (0<=h)then i[Int.toNat h]?.bind λ l=>zJ l λ m n o p q=>(wc W zJI [.agg [.int .i64 m,.int .i64 n,.int .i64 o,.int .i64 p,.slice 6 q]]).bind λ r=>c_s0 r λ k=>bif (k.length:Int)==0 then some (.bool false)else(wc W zDm [.slice 0 k,.slice 0 g]).bind λ s=>c_b s λ t=>bif !t then some (.bool false)else zF4 e f b c a d g i j (IntKind.wrap .i64 (h+1))else none else bif b==(-1)then bif decide (GE.ge (a.length:Int) 1)then bif decide ((a.length:Int)<=8)then(wc W zKH [.slice 0 a]).bind λ u=>c_b u λ v=>bif v then(wc W zDm [.slice 0 a,.slice 0 g]).bind λ w=>c_b w λ x=>zE0 e f b c a d x else zE0 e f b c a d false else zE0 e f b c a d false else zE0 e f b c a d false else(wc W zDm [.slice 0 [.int .i64 b],.slice 0 g]).bind λ y=>c_b y λ z=>bif z then bif decide ((c.length:Int)<=4)then(wc W zDm [.slice 0 c,.slice 0 g]).bind λ A=>c_b A λ B=>bif B then bif (a.length:Int)==0 then bif d==(-1)then some (.bool true)else some (.bool (d==b))else some (.bool false)else some (.bool false)else some (.bool false)else some (.bool false):=((tN_ fi22).loop [1,1,1,1,0,1,0] 0 _ rfl).trans (by kernel_rfl)
theorem zO2(e f:List PV) (g:Int) (b c:List PV) (a:Int) (d:Bool):zE0 e f g b c a d =
 bif d then bif (b.length:Int)==0 then bif a==(-1)then some (.bool true)else(wc W zBN [.slice 0 c,.int .i64 a]).bind λ h=>c_b h λ i=>some (.bool i)else some (.bool false)else some (.bool false):=((tN_ fi22).join [1,1,1,1,1,0,1,0,1] _).trans (by kernel_rfl)
theorem zWL(b a c:List PV) (d:Int) (e f:List PV) (g:Int):wc W zHS [.agg [.slice 3 b],.agg [.slice 0 a,.slice 6 c,.int .i64 d,.slice 0 e,.slice 0 f,.int .i64 g]] =
 (wc W zKs [.agg [.slice 3 b]]).bind λ h=>c_b h λ i=>bif !i then some (.bool false)else bif decide ((a.length:Int)<1)then some (.bool false)else bif decide (GT.gt (a.length:Int) 4)then some (.bool false)else(wc W zBK [.slice 0 a,.fn zJF [] [.imm 2 (.agg [.slice 3 b]) 0]]).bind λ j=>c_b j λ k=>bif k then some (.bool false)else bif decide (GT.gt (c.length:Int) 6)then some (.bool false)else zM3 b a c d e f g:=gA_ (tN_ fi22)
theorem zWM(a b c d:Int) (e:List PV):wc W zHT [.agg [.int .i64 a,.int .i64 b,.int .i64 c,.int .i64 d,.slice 6 e]] =
 (wc W zKt [.agg [.int .i64 a,.int .i64 b,.int .i64 c,.int .i64 d,.slice 6 e]]).bind λ h=>c_b h λ i=>bif !i then some (.tup [.agg [.int .i64 0,.slice 3 []],.bool false])else(wc W zDa [.agg [.int .i64 a,.int .i64 b,.int .i64 c,.int .i64 d,.slice 6 e]]).bind λ j=>zCV j λ f g=>(wc W zN1 [.agg [.int .i64 f,.slice 3 g]]).bind λ k=>c_b k λ l=>bif !l then some (.tup [.agg [.int .i64 0,.slice 3 []],.bool false])else some (.tup [.agg [.int .i64 f,.slice 3 g],.bool true]):=gA_ (tN_ fi24)
def zGF(a b c d:Int) (e:List PV):Option PV:=(lN_ fi26) [0,0,1,1] 1 (St.mk [(1,.own 0 0)] [.var false 6 (.pv (.agg [.int .i64 a,.int .i64 b,.int .i64 c,.int .i64 d,.slice 6 e]))])
def zIU(a:Bool) (b c d e:Int) (f:List PV):Option PV:=(jN_ fi26) [1,0,1,1,1] (St.mk [(1,.own 0 0),(20,.pv (.bool a))] [.var false 6 (.pv (.agg [.int .i64 b,.int .i64 c,.int .i64 d,.int .i64 e,.slice 6 f]))])
theorem zN5(a c d e:Int) (b:List PV):zGF a c d e b =
 bif a==1 then b[0]?.bind λ j=>zJ j λ k f g h i=>zGF k f g h i else bif a==4 then zIU true a c d e b else zIU (a==3) a c d e b:=((tN_ fi26).loop [1,1,0,0] 1 _ rfl).trans (by kernel_rfl)
theorem zFv(a:Bool) (c d b e:Int) (f:List PV):zIU a c d b e f =
 bif a then some (.int .i64 b)else some (.int .i64 (-1)):=((tN_ fi26).join [1,1,1,0,1] _).trans (by kernel_rfl)
theorem zUZ(a b c d:Int) (e:List PV):wc W zGJ [.agg [.int .i64 a,.int .i64 b,.int .i64 c,.int .i64 d,.slice 6 e]] =
 (wc W zKt [.agg [.int .i64 a,.int .i64 b,.int .i64 c,.int .i64 d,.slice 6 e]]).bind λ f=>c_b f λ g=>bif !g then some (.int .i64 (-1))else zGF a b c d e:=gA_ (tN_ fi26)
theorem zU0(a b c:List PV) (d:Int) (e f:List PV) (g h:Int):wc W zKF [.agg [.slice 3 a],.agg [.slice 0 b,.slice 6 c,.int .i64 d,.slice 0 e,.slice 0 f,.int .i64 g],.int .i64 h] =
 (wc W zHS [.agg [.slice 3 a],.agg [.slice 0 b,.slice 6 c,.int .i64 d,.slice 0 e,.slice 0 f,.int .i64 g]]).bind λ i=>c_b i λ j=>bif !j then some (.slice 0 [])else(wc W zJG [.agg [.slice 3 a],.agg [.slice 0 b,.slice 6 c,.int .i64 d,.slice 0 e,.slice 0 f,.int .i64 g],.fn zF0 [.int .i64 h] []]).bind λ k=>c_s0 k λ l=>some (.slice 0 l):=gA_ (tN_ fi27)
theorem zZD(a:Int) (b:List PV):wc W zHD [.agg [.int .i64 a,.slice 3 b]] =
 (wc W zFH [.agg [.int .i64 a,.slice 3 b],.int .i64 4]).bind λ c=>c.asTup.bind λ d=>d[0]?.bind λ e=>zA6 e λ f=>c.asTup.bind λ g=>g[1]?.bind λ h=>c_b h λ i=>bif !i then some (.int .i64 0)else some (.int .i64 f):=gA_ (tN_ fi28)
theorem zQu(f g:List PV) (a:Int) (d e:List PV) (h:Int) (b c:List PV):wc W zGD [.agg [.slice 0 f,.slice 6 g,.int .i64 a,.slice 0 d,.slice 0 e,.int .i64 h],.agg [.slice 0 b,.slice 0 c]] =
 bif a != (-1)then(wc W zLc [.agg [.slice 0 b,.slice 0 c],.int .i64 a,.slice 0 d]).bind λ i=>i.asTup.bind λ r=>r[0]?.bind λ s=>zAR s λ t u=>i.asTup.bind λ v=>v[1]?.bind λ w=>c_b w λ x=>some (.tup [.agg [.slice 0 t,.slice 0 u],.bool x])else(wc W zNZ [.agg [.slice 0 b,.slice 0 c],.slice 0 e]).bind λ j=>j.asTup.bind λ k=>k[0]?.bind λ l=>zAR l λ m n=>j.asTup.bind λ o=>o[1]?.bind λ p=>c_b p λ q=>some (.tup [.agg [.slice 0 m,.slice 0 n],.bool q]):=gA_ (tN_ fi32)
theorem zS0(d e f g:List PV) (h:Int) (i j:List PV) (a:Int) (b c:List PV):wc W zJB [.agg [.slice 3 d],.agg [.slice 0 e],.agg [.slice 0 f,.slice 6 g,.int .i64 h,.slice 0 i,.slice 0 j,.int .i64 a],.agg [.slice 0 b,.slice 0 c]] =
 (wc W zJA [.agg [.slice 3 d],.agg [.slice 0 e],.agg [.slice 0 f,.slice 6 g,.int .i64 h,.slice 0 i,.slice 0 j,.int .i64 a]]).bind λ k=>k.asTup.bind λ o=>o[0]?.bind λ p=>zAR p λ q r=>k.asTup.bind λ s=>s[1]?.bind λ t=>c_b t λ u=>bif u then(wc W zNY [.agg [.slice 0 q,.slice 0 r],.agg [.slice 0 b,.slice 0 c]]).bind λ v=>c_b v λ l=>bif l then bif a==(-1)then some (.bool true)else(wc W zKE [.agg [.slice 0 b,.slice 0 c],.int .i64 a]).bind λ m=>c_b m λ n=>some (.bool n)else some (.bool false)else some (.bool false):=gA_ (tN_ fi36)
theorem zWN(a:Int) (b:List PV) (c:Int) (d:List PV):wc W zLa [.agg [.int .i64 a,.slice 3 b],.agg [.int .i64 c,.slice 3 d]] =
 some (.agg [.int .i64 0,.slice 3 [.agg [.int .i64 a,.slice 3 b],.agg [.int .i64 c,.slice 3 d]]]):=gA_ (tN_ fi38)
def zOJ(a b c:List PV):Option PV:=(jN_ fi39) [1,1] (St.mk [(1,.pv (.slice 0 a)),(2,.pv (.imm 3 (.agg [.slice 0 b,.slice 0 c]) 0)),(4,.own 0 0)] [.var false 3 (.agg [AV.nil 0,AV.nil 0])])
def zHz(f g a b:List PV) (c d:Int) (e:List PV):Option PV:=(lN_ fi39) [0,1,0,1,1,1] 2 (St.mk [(1,.pv (.slice 0 f)),(2,.pv (.imm 3 (.agg [.slice 0 g,.slice 0 a]) 0)),(4,.own 0 0),(6,.view 1 0 none),(26,.pv (.slice 0 b)),(27,.pv (.int .i64 c)),(28,.pv (.int .i64 d))] [.var false 3 (.agg [AV.nil 0,AV.nil 0]),.row false 0 0 e])
def zGO(a:List PV) (b c:Int) (d e f g h:List PV):Option PV:=(lN_ fi39) [0,1,0,1,1,1,1,1] 6 (St.mk [(4,.own 0 0),(6,.view 1 0 none),(10,.own 4 0),(48,.pv (.slice 0 a)),(49,.pv (.int .i64 b)),(50,.pv (.int .i64 c))] [.var false 3 (.agg [AV.nil 0,AV.nil 0]),.row false 0 0 d,.row false 0 0 e,.row false 0 0 f,.var false 3 (.agg [.pv (.slice 0 g),.view 5 0 none]),.row false 0 0 h])
def zIA(a b:List PV) (c d e f:Int) (g h i j k l:List PV):Option PV:=(lN_ fi39) [0,1,0,1,1,0,0,1,1,6,0,1,0,1,1,1,1,1] 7 (St.mk [(4,.own 0 0),(6,.view 1 0 none),(10,.own 4 0),(12,.pv (.slice 3 a)),(13,.view 6 0 none),(48,.pv (.slice 0 b)),(49,.pv (.int .i64 c)),(50,.pv (.int .i64 d)),(54,.view 1 0 none),(55,.pv (.int .i64 e)),(56,.pv (.int .i64 f))] [.var false 3 (.agg [AV.nil 0,AV.nil 0]),.row false 0 0 g,.row false 0 0 h,.row false 0 0 i,.var false 3 (.agg [.pv (.slice 0 j),.view 5 0 none]),.row false 0 0 k,.row false 0 3 l])
theorem zQI(a b c:List PV):zOJ a b c =
 zHz a b c a (a.length:Int) 0 []:=((tN_ fi39).join [1,1] _).trans (by kernel_rfl)
theorem zKP(g h b d:List PV) (e a:Int) (c:List PV):zHz g h b d e a c =
 bif decide (a<e)then bif decide (0<=a)then d[Int.toNat a]?.bind λ i=>zA6 i λ j=>(wc W zAG [.slice 0 h,.int .i64 j]).bind λ k=>zA6 k λ f=>bif decide (f<0)then some (.tup [.agg [.slice 0 [],.slice 0 []],.bool false])else bif true&&(decide (((List.length c)+1:Nat)<=4294967296))then zHz g h b d e (IntKind.wrap .i64 (a+1)) (c++[.int .i64 f])else none else none else(wc W zB6 [.slice 0 g]).bind λ l=>c_s0 l λ m=>zGO b (b.length:Int) 0 c [] [] m []:=((tN_ fi39).loop [1,1,1,0,1,0] 2 _ rfl).trans (by kernel_rfl)
theorem zKQ(b:List PV) (c a:Int) (d g h e f:List PV):zGO b c a d g h e f =
 bif decide (a<c)then bif decide (0<=a)then b[Int.toNat a]?.bind λ i=>c_s3 i λ j=>zIA j b c a (d.length:Int) 0 d g h e f []else none else some (.tup [.agg [.slice 0 e,.slice 0 f],.bool true]):=((tN_ fi39).loop [1,1,1,1,1,0,1,0] 6 _ rfl).trans (by kernel_rfl)
theorem zKR(e f:List PV) (g h i a:Int) (b j k l c d:List PV):zIA e f g h i a b j k l c d =
 bif decide (a<i)then bif (true&&(decide (0<=a)))&&(decide (a<(b.length:Int)))then b[(0+(Int.toNat a):Nat)]?.bind λ n=>zA6 n λ m=>bif decide (0<=m)then e[Int.toNat m]?.bind λ o=>zM o λ p q=>bif true&&(decide (((List.length d)+1:Nat)<=4294967296))then zIA e f g h i (IntKind.wrap .i64 (a+1)) b j k l c (d++[.agg [.int .i64 p,.int .i64 q]])else none else none else none else bif true&&(decide (((List.length c)+1:Nat)<=4294967296))then zGO f g (IntKind.wrap .i64 (h+1)) b j k l (c++[.slice 3 d])else none:=((tN_ fi39).loop [1,1,1,1,1,0,1,0,6,1,1,0,0,1,1,0,1,0] 7 _ rfl).trans (by kernel_rfl)
theorem zZE(a b c:List PV):wc W zNZ [.agg [.slice 0 a,.slice 0 b],.slice 0 c] =
 (wc W zGK [.agg [.slice 0 a,.slice 0 b]]).bind λ d=>c_b d λ e=>bif !e then some (.tup [.agg [.slice 0 [],.slice 0 []],.bool false])else(wc W zGK [.agg [.slice 0 c,.slice 0 []]]).bind λ f=>c_b f λ g=>bif !g then some (.tup [.agg [.slice 0 [],.slice 0 []],.bool false])else zOJ c a b:=gA_ (tN_ fi39)
theorem zWO(a b:List PV) (c:Int) (d e:List PV) (f g:Int):wc W zLb [.agg [.slice 0 a,.slice 6 b,.int .i64 c,.slice 0 d,.slice 0 e,.int .i64 f],.int .i64 g] =
 (wc W zHt [.agg [.slice 0 a,.slice 6 b,.int .i64 c,.slice 0 d,.slice 0 e,.int .i64 f],.fn zBB [.int .i64 g] []]).bind λ h=>c_s0 h λ i=>some (.slice 0 i):=gA_ (tN_ fi40)
def zJR(m n o:List PV) (p q:Int) (r s t u a b c d e f g h i j k l:Bool):Option PV:=(lN_ fi41) [0,1,0,1,1] 1 (St.mk [(1,.pv (.imm 3 (.agg [.slice 0 m,.slice 0 n]) 0)),(3,.own 0 0),(10,.pv (.slice 0 o)),(11,.pv (.int .i64 p)),(12,.pv (.int .i64 q))] [.var false 17 (.pv (.agg [.bool r,.bool s,.bool t,.bool u,.bool a,.bool b,.bool c,.bool d,.bool e,.bool f,.bool g,.bool h,.bool i,.bool j,.bool k,.bool l]))])
def zJS(a b c:List PV) (d e:Int) (f g h i j k l m n o p q r s t u:Bool):Option PV:=(lN_ fi41) [0,1,0,1,1,1,1] 1 (St.mk [(1,.pv (.imm 3 (.agg [.slice 0 a,.slice 0 b]) 0)),(6,.pv (.fn zHY [] [])),(31,.pv (.slice 0 c)),(32,.pv (.int .i64 d)),(33,.pv (.int .i64 e))] [.var false 17 (.pv (.agg [.bool f,.bool g,.bool h,.bool i,.bool j,.bool k,.bool l,.bool m,.bool n,.bool o,.bool p,.bool q,.bool r,.bool s,.bool t,.bool u]))])
theorem zLT(t n u:List PV) (v o:Int) (p q r s b c d e f g h i j k l m:Bool):zJR t n u v o p q r s b c d e f g h i j k l m =
 bif decide (o<v)then bif decide (0<=o)then u[Int.toNat o]?.bind λ w=>zA6 w λ a=>bif decide (a<0)then some (.bool false)else bif decide (GT.gt a 15)then some (.bool false)else bif (decide (0<=a))&&(decide (a<16))then(PV.load 17 (.agg [.bool p,.bool q,.bool r,.bool s,.bool b,.bool c,.bool d,.bool e,.bool f,.bool g,.bool h,.bool i,.bool j,.bool k,.bool l,.bool m]) (0+((Int.toNat a)*1:Nat):Nat) 0).bind λ x=>c_b x λ y=>bif y then some (.bool false)else bif (decide (0<=a))&&(decide (a<16))then bif (decide (((0+((Int.toNat a)*1:Nat):Nat)+1:Nat)<=16))&&true then zJR t n u v (IntKind.wrap .i64 (o+1)) (bif 0==(0+((Int.toNat a)*1:Nat):Nat)then true else p) (bif 1==(0+((Int.toNat a)*1:Nat):Nat)then true else q) (bif 2==(0+((Int.toNat a)*1:Nat):Nat)then true else r) (bif 3==(0+((Int.toNat a)*1:Nat):Nat)then true else s) (bif 4==(0+((Int.toNat a)*1:Nat):Nat)then true else b) (bif 5==(0+((Int.toNat a)*1:Nat):Nat)then true else c) (bif 6==(0+((Int.toNat a)*1:Nat):Nat)then true else d) (bif 7==(0+((Int.toNat a)*1:Nat):Nat)then true else e) (bif 8==(0+((Int.toNat a)*1:Nat):Nat)then true else f) (bif 9==(0+((Int.toNat a)*1:Nat):Nat)then true else g) (bif 10==(0+((Int.toNat a)*1:Nat):Nat)then true else h) (bif 11==(0+((Int.toNat a)*1:Nat):Nat)then true else i) (bif 12==(0+((Int.toNat a)*1:Nat):Nat)then true else j) (bif 13==(0+((Int.toNat a)*1:Nat):Nat)then true else k) (bif 14==(0+((Int.toNat a)*1:Nat):Nat)then true else l) (bif 15==(0+((Int.toNat a)*1:Nat):Nat)then true else m)else none else none else none else none else zJS t n n (n.length:Int) 0 p q r s b c d e f g h i j k l m:=((tN_ fi41).loop [1,1,0,1,0] 1 _ rfl).trans (by kernel_rfl)
theorem zLU(b c d:List PV) (e a:Int) (f g h i j k l m n o p q r s t u:Bool):zJS b c d e a f g h i j k l m n o p q r s t u =
 bif decide (a<e)then bif decide (0<=a)then d[Int.toNat a]?.bind λ w=>c_s3 w λ v=>bif (v.length:Int) != (b.length:Int)then some (.bool false)else(wc W zAW [.slice 3 v,.fn zHY [] []]).bind λ x=>c_b x λ y=>bif y then some (.bool false)else zJS b c d e (IntKind.wrap .i64 (a+1)) f g h i j k l m n o p q r s t u else none else some (.bool (decide ((c.length:Int)<=5000))):=((tN_ fi41).loop [1,1,1,1,0,1,0] 1 _ rfl).trans (by kernel_rfl)
theorem z0s(a b:List PV):wc W zGK [.agg [.slice 0 a,.slice 0 b]] =
 zJR a b a (a.length:Int) 0 false false false false false false false false false false false false false false false false:=gA_ (tN_ fi41)
theorem zZF(a b c:List PV):wc W zEW [.agg [.slice 0 a,.slice 0 b],.slice 6 c] =
 (wc W zI9 [.agg [.slice 0 a,.slice 0 b],.fn zHu [] [.imm 0 (.slice 6 c) 0,.imm 3 (.agg [.slice 0 a,.slice 0 b]) 0]]).bind λ d=>zAR d λ e f=>some (.agg [.slice 0 e,.slice 0 f]):=gA_ (tN_ fi42)
theorem zZG(a b:List PV) (c:Int):wc W zKq [.agg [.slice 0 a,.slice 0 b],.int .i64 c] =
 (W zI9 true [.pv (.agg [.slice 0 a,.slice 0 b]),.pv (.fn zGL [] [])] []).bind λ f=>zXc f λ g h=>(wc W zAG [.slice 0 a,.int .i64 c]).bind λ i=>zA6 i λ j=>(W zBU false [AV.fx 0 0,.fnv zS [] [.own 1 0]] [.fix 0 0 h,.var false 0 (.pv (.int .i64 j))]).bind λ d=>zEZ d λ k e l=>some (.agg [.slice 0 g,.slice 0 e]):=gA_ (tN_ fi43)
def zR6(k l m n:List PV) (o:Int) (a b:List PV) (c d e f g:Int) (h:List PV) (i:Int) (j:Bool):Option PV:=(jN_ fi44) [1,1] (St.mk [(4,.pv (.imm 2 (.agg [.slice 3 k]) 0)),(5,.pv (.imm 2 (.agg [.slice 0 l]) 0)),(6,.pv (.imm 7 (.agg [.slice 0 m,.slice 6 n,.int .i64 o,.slice 0 a,.slice 0 b,.int .i64 c]) 0)),(7,.pv (.imm 8 (.agg [.int .i64 d,.int .i64 e,.int .i64 f,.int .i64 g,.slice 6 h,.int .i64 i,.bool j]) 0)),(8,.own 0 0)] [.var false 3 (.agg [AV.nil 0,AV.nil 0])])
def zN6(a b:List PV) (c:Int) (d e:List PV) (f:Int) (g h:Bool) (i j:List PV):Option PV:=(jN_ fi44) [1,0,1,1,1] (St.mk [(6,.pv (.imm 7 (.agg [.slice 0 a,.slice 6 b,.int .i64 c,.slice 0 d,.slice 0 e,.int .i64 f]) 0)),(8,.own 0 0),(10,.own 1 0),(11,.pv (.bool g)),(40,.pv (.bool h))] [.var false 3 (.agg [AV.nil 0,AV.nil 0]),.var false 3 (.pv (.agg [.slice 0 i,.slice 0 j]))])
def zN7(a:Bool) (b c:List PV):Option PV:=(jN_ fi44) [1,1,1,1] (St.mk [(8,.own 0 0),(10,.own 1 0),(11,.pv (.bool a))] [.var false 3 (.agg [AV.nil 0,AV.nil 0]),.var false 3 (.pv (.agg [.slice 0 b,.slice 0 c]))])
theorem zS1(q r d e:List PV) (f:Int) (a b:List PV) (c h i j k:Int) (l:List PV) (s:Int) (m:Bool):zR6 q r d e f a b c h i j k l s m =
 (wc W zAp [.agg [.slice 3 q,.slice 0 r,.slice 0 d,.slice 6 e,.int .i64 f,.slice 0 a,.slice 0 b,.int .i64 c],.agg [.int .i64 h,.int .i64 i,.int .i64 j,.int .i64 k,.slice 6 l]]).bind λ t=>zAR t λ u v=>(wc W zGD [.agg [.slice 0 d,.slice 6 e,.int .i64 f,.slice 0 a,.slice 0 b,.int .i64 c],.agg [.slice 0 u,.slice 0 v]]).bind λ n=>n.asTup.bind λ w=>w[0]?.bind λ x=>zAR x λ o p=>n.asTup.bind λ y=>y[1]?.bind λ z=>c_b z λ g=>bif g then zN6 d e f a b c g m o p else zN6 d e f a b c g false o p:=((tN_ fi44).join [1,1] _).trans (by kernel_rfl)
theorem zM4(f g:List PV) (h:Int) (i j:List PV) (d:Int) (a e:Bool) (b c:List PV):zN6 f g h i j d a e b c =
 bif e then(wc W zKq [.agg [.slice 0 b,.slice 0 c],.int .i64 d]).bind λ k=>zAR k λ l m=>zN7 a l m else zN7 a b c:=((tN_ fi44).join [1,1,1,0,1] _).trans (by kernel_rfl)
theorem zM5(a:Bool) (b c:List PV):zN7 a b c =
 some (.tup [.agg [.slice 0 b,.slice 0 c],.bool a]):=((tN_ fi44).join [1,1,1,1] _).trans (by kernel_rfl)
theorem z3M(a b c d:List PV) (e:Int) (f g:List PV) (h i j k l:Int) (m:List PV) (n:Int) (o:Bool):wc W zST [.agg [.slice 3 a],.agg [.slice 0 b],.agg [.slice 0 c,.slice 6 d,.int .i64 e,.slice 0 f,.slice 0 g,.int .i64 h],.agg [.int .i64 i,.int .i64 j,.int .i64 k,.int .i64 l,.slice 6 m,.int .i64 n,.bool o]] =
 (wc W zJC [.agg [.slice 3 a],.agg [.slice 0 c,.slice 6 d,.int .i64 e,.slice 0 f,.slice 0 g,.int .i64 h],.agg [.int .i64 i,.int .i64 j,.int .i64 k,.int .i64 l,.slice 6 m,.int .i64 n,.bool o]]).bind λ p=>c_b p λ q=>bif !q then some (.tup [.agg [.slice 0 [],.slice 0 []],.bool false])else(wc W zHV [.agg [.slice 3 a],.agg [.slice 0 b]]).bind λ r=>c_b r λ s=>bif !s then some (.tup [.agg [.slice 0 [],.slice 0 []],.bool false])else zR6 a b c d e f g h i j k l m n o:=gA_ (tN_ fi44)
def zM6(a b:List PV) (c:Int) (d e:List PV) (f g h i j:Int) (k:List PV) (l:Int) (m:Bool) (n:Int) (o:List PV):Option PV:=(jN_ fi45) [1,1,1] (St.mk [(4,.pv (.imm 7 (.agg [.slice 0 a,.slice 6 b,.int .i64 c,.slice 0 d,.slice 0 e,.int .i64 f]) 0)),(5,.pv (.imm 8 (.agg [.int .i64 g,.int .i64 h,.int .i64 i,.int .i64 j,.slice 6 k,.int .i64 l,.bool m]) 0))] [.var false 3 (.pv (.agg [.int .i64 n,.slice 3 o]))])
theorem zO3(k l:List PV) (c:Int) (m n:List PV) (a d e f g:Int) (h:List PV) (b:Int) (i:Bool) (o:Int) (p:List PV):zM6 k l c m n a d e f g h b i o p =
 (wc W zGJ [.agg [.int .i64 d,.int .i64 e,.int .i64 f,.int .i64 g,.slice 6 h]]).bind λ q=>zA6 q λ j=>bif i then bif a != (-1)then some (.bool (b==1))else some (.bool false)else bif b==2 then some (.bool (j==c))else bif a != (-1)then bif b==0 then some (.bool (j==a))else some (.bool false)else some (.bool true):=((tN_ fi45).join [1,1,1] _).trans (by kernel_rfl)
theorem zWP(m b i:List PV) (c:Int) (j k:List PV) (l d e f g:Int) (h:List PV) (a:Int) (n:Bool):wc W zJC [.agg [.slice 3 m],.agg [.slice 0 b,.slice 6 i,.int .i64 c,.slice 0 j,.slice 0 k,.int .i64 l],.agg [.int .i64 d,.int .i64 e,.int .i64 f,.int .i64 g,.slice 6 h,.int .i64 a,.bool n]] =
 (wc W zHT [.agg [.int .i64 d,.int .i64 e,.int .i64 f,.int .i64 g,.slice 6 h]]).bind λ o=>o.asTup.bind λ u=>u[0]?.bind λ v=>zCV v λ p q=>o.asTup.bind λ w=>w[1]?.bind λ x=>c_b x λ z=>(wc W zN0 [.agg [.slice 3 m],.agg [.slice 0 b,.slice 6 i,.int .i64 c,.slice 0 j,.slice 0 k,.int .i64 l],.agg [.int .i64 d,.int .i64 e,.int .i64 f,.int .i64 g,.slice 6 h]]).bind λ y=>c_b y λ r=>bif !r then some (.bool false)else(wc W zHD [.agg [.int .i64 p,.slice 3 q]]).bind λ s=>zA6 s λ t=>bif t != (IntKind.wrap .i64 ((IntKind.wrap .i64 (1*(HPow.hPow (2:Int) (Min.min (Int.toNat (b.length:Int)) 64)):Int))-1:Int))then some (.bool false)else bif decide (a<0)then some (.bool false)else bif decide (GE.ge a 3)then some (.bool false)else bif !((a==0)==(c==(-1)))then some (.bool false)else zM6 b i c j k l d e f g h a n p q:=gA_ (tN_ fi45)
theorem zLl(a b c d:List PV) (e:Int) (f g:List PV) (h:Int):wc W zHU [.agg [.slice 3 a],.agg [.slice 0 b],.agg [.slice 0 c,.slice 6 d,.int .i64 e,.slice 0 f,.slice 0 g,.int .i64 h]] =
 (wc W zCi [.agg [.slice 3 a],.agg [.slice 0 b],.agg [.slice 0 c,.slice 6 d,.int .i64 e,.slice 0 f,.slice 0 g,.int .i64 h]]).bind λ i=>c_b i λ j=>bif j then some (.int .i64 0)else some (.int .i64 1):=gA_ (tN_ fi47)
def zCn(a b c d e:Int) (f:List PV) (g h:Int):Option PV:=(lN_ fi48) [0,1,0,1,1] 0 (St.mk [(1,.pv (.int .i64 a)),(2,.pv (.imm 6 (.agg [.int .i64 b,.int .i64 c,.int .i64 d,.int .i64 e,.slice 6 f]) 0)),(5,.pv (.int .i64 g)),(6,.pv (.int .i64 h))] [])
def zFf(h a b c d:Int) (e:List PV) (f g:Int):Option PV:=(jN_ fi48) [1,0,0,1,0,1,1] (St.mk [(1,.pv (.int .i64 h)),(2,.pv (.imm 6 (.agg [.int .i64 a,.int .i64 b,.int .i64 c,.int .i64 d,.slice 6 e]) 0)),(5,.pv (.int .i64 f)),(6,.pv (.int .i64 g))] [])
theorem zEm(b e f g h:Int) (c:List PV) (a d:Int):zCn b e f g h c a d =
 bif decide (d<(c.length:Int))then bif decide (a<=b)then zFf b e f g h c a d else some (.int .i64 a)else some (.int .i64 a):=((tN_ fi48).loop [1,1,0,1,0] 0 _ rfl).trans (by kernel_rfl)
theorem zIV(h d e f g:Int) (b:List PV) (c a:Int):zFf h d e f g b c a =
 bif decide (0<=a)then b[Int.toNat a]?.bind λ i=>zJ i λ j k l m n=>(wc W zDK [.agg [.int .i64 j,.int .i64 k,.int .i64 l,.int .i64 m,.slice 6 n],.int .i64 (IntKind.wrap .i64 (h-c:Int))]).bind λ o=>zA6 o λ p=>zCn h d e f g b (IntKind.wrap .i64 (c+p:Int)) (IntKind.wrap .i64 (a+1))else none:=((tN_ fi48).join [1,1,0,1,0,0,1] _).trans (by kernel_rfl)
theorem zLL(a b c d:Int) (e:List PV) (f:Int):wc W zDK [.agg [.int .i64 a,.int .i64 b,.int .i64 c,.int .i64 d,.slice 6 e],.int .i64 f] =
 zCn f a b c d e 1 0:=gA_ (tN_ fi48)
def zOK(a b c:List PV) (d:Int) (e f:List PV) (g h i j k:Int) (l:List PV) (m:Int) (n:List PV):Option PV:=(jN_ fi49) [1,1,1] (St.mk [(3,.pv (.imm 2 (.agg [.slice 3 a]) 0)),(4,.pv (.imm 7 (.agg [.slice 0 b,.slice 6 c,.int .i64 d,.slice 0 e,.slice 0 f,.int .i64 g]) 0)),(5,.pv (.imm 6 (.agg [.int .i64 h,.int .i64 i,.int .i64 j,.int .i64 k,.slice 6 l]) 0))] [.var false 3 (.pv (.agg [.int .i64 m,.slice 3 n]))])
theorem zQJ(a b c:List PV) (d:Int) (e f:List PV) (g h i j k:Int) (l:List PV) (m:Int) (n:List PV):zOK a b c d e f g h i j k l m n =
 (wc W zEF [.agg [.int .i64 h,.int .i64 i,.int .i64 j,.int .i64 k,.slice 6 l],.fn zGM [] [.imm 2 (.agg [.slice 3 a]) 0,.imm 7 (.agg [.slice 0 b,.slice 6 c,.int .i64 d,.slice 0 e,.slice 0 f,.int .i64 g]) 0]]).bind λ o=>c_b o λ p=>some (.bool p):=((tN_ fi49).join [1,1,1] _).trans (by kernel_rfl)
theorem zZH(b a c:List PV) (d:Int) (e f:List PV) (g h i j k:Int) (l:List PV):wc W zN0 [.agg [.slice 3 b],.agg [.slice 0 a,.slice 6 c,.int .i64 d,.slice 0 e,.slice 0 f,.int .i64 g],.agg [.int .i64 h,.int .i64 i,.int .i64 j,.int .i64 k,.slice 6 l]] =
 (wc W zHT [.agg [.int .i64 h,.int .i64 i,.int .i64 j,.int .i64 k,.slice 6 l]]).bind λ m=>m.asTup.bind λ s=>s[0]?.bind λ t=>zCV t λ n o=>m.asTup.bind λ u=>u[1]?.bind λ v=>c_b v λ w=>bif !w then some (.bool false)else(wc W zHS [.agg [.slice 3 b],.agg [.slice 0 a,.slice 6 c,.int .i64 d,.slice 0 e,.slice 0 f,.int .i64 g]]).bind λ x=>c_b x λ p=>bif !p then some (.bool false)else(wc W zHD [.agg [.int .i64 n,.slice 3 o]]).bind λ q=>zA6 q λ r=>bif decide (GT.gt (Int.fdiv r (HPow.hPow (2:Int) (Min.min (Int.toNat (a.length:Int)) 64))) 0)then some (.bool false)else zOK b a c d e f g h i j k l n o:=gA_ (tN_ fi49)
def zM7(a b:List PV):Option PV:=(jN_ fi50) [1,1] (St.mk [(2,.pv (.imm 2 (.agg [.slice 3 a]) 0)),(3,.pv (.imm 2 (.agg [.slice 0 b]) 0))] [])
def zGo(a b:List PV) (c d:Int):Option PV:=(lN_ fi50) [0,1,0,1,1] 0 (St.mk [(2,.pv (.imm 2 (.agg [.slice 3 a]) 0)),(21,.pv (.slice 0 b)),(22,.pv (.int .i64 c)),(23,.pv (.int .i64 d))] [])
theorem zO4(b a:List PV):zM7 b a =
 zGo b a (a.length:Int) 0:=((tN_ fi50).join [1,1] _).trans (by kernel_rfl)
theorem zJ7(c d:List PV) (e a:Int):zGo c d e a =
 bif decide (a<e)then bif decide (0<=a)then d[Int.toNat a]?.bind λ i=>c_s0 i λ b=>bif decide (GT.gt (b.length:Int) 8)then some (.bool false)else(W zBL false [.pv (.slice 0 b),.fnv zC9 [] [.pv (.imm 2 (.agg [.slice 3 c]) 0),.own 0 0]] [.var false 0 (.pv (.int .i64 a))]).bind λ f=>zDM f λ g j=>c_b g λ h=>bif h then some (.bool false)else zGo c d e (IntKind.wrap .i64 (a+1))else none else some (.bool true):=((tN_ fi50).loop [1,1,0,1,0] 0 _ rfl).trans (by kernel_rfl)
theorem zWQ(a b:List PV):wc W zHV [.agg [.slice 3 a],.agg [.slice 0 b]] =
 (wc W zKs [.agg [.slice 3 a]]).bind λ c=>c_b c λ d=>bif !d then some (.bool false)else bif (b.length:Int) != (a.length:Int)then some (.bool false)else zM7 a b:=gA_ (tN_ fi50)
def zIB(a b c d:List PV) (e:Int) (f g:List PV) (h i j k l:Int) (m n o p q:List PV) (r:Int) (s t:List PV) (u:Int):Option PV:=(jN_ fi51) [1,1,1,1] (St.mk [(2,.pv (.imm 9 (.agg [.slice 3 a,.slice 0 b,.slice 0 c,.slice 6 d,.int .i64 e,.slice 0 f,.slice 0 g,.int .i64 h]) 0)),(3,.pv (.imm 6 (.agg [.int .i64 i,.int .i64 j,.int .i64 k,.int .i64 l,.slice 6 m]) 0)),(4,.own 0 0),(7,.pv (.fn zDg [.agg [.slice 3 n,.slice 0 o,.slice 0 p,.slice 6 q,.int .i64 r,.slice 0 s,.slice 0 t,.int .i64 u]] []))] [.var false 3 (.agg [AV.nil 0,AV.nil 0])])
def zIC(a b c d:List PV) (e:Int) (f g:List PV) (h i j k l:Int) (m n o p q:List PV) (r:Int) (s t:List PV) (u:Int):Option PV:=(jN_ fi51) [1,1,1,1] (St.mk [(2,.pv (.imm 9 (.agg [.slice 3 a,.slice 0 b,.slice 0 c,.slice 6 d,.int .i64 e,.slice 0 f,.slice 0 g,.int .i64 h]) 0)),(3,.pv (.imm 6 (.agg [.int .i64 i,.int .i64 j,.int .i64 k,.int .i64 l,.slice 6 m]) 0)),(4,.own 0 0),(7,.pv (.fn zDR [.agg [.slice 3 n,.slice 0 o,.slice 0 p,.slice 6 q,.int .i64 r,.slice 0 s,.slice 0 t,.int .i64 u]] []))] [.var false 3 (.agg [AV.nil 0,AV.nil 0])])
def zID(a b c d:List PV) (e:Int) (f g:List PV) (h i j k l:Int) (m n o p q:List PV) (r:Int) (s t:List PV) (u:Int):Option PV:=(jN_ fi51) [1,1,1,1] (St.mk [(2,.pv (.imm 9 (.agg [.slice 3 a,.slice 0 b,.slice 0 c,.slice 6 d,.int .i64 e,.slice 0 f,.slice 0 g,.int .i64 h]) 0)),(3,.pv (.imm 6 (.agg [.int .i64 i,.int .i64 j,.int .i64 k,.int .i64 l,.slice 6 m]) 0)),(4,.own 0 0),(7,.pv (.fn zDf [.agg [.slice 3 n,.slice 0 o,.slice 0 p,.slice 6 q,.int .i64 r,.slice 0 s,.slice 0 t,.int .i64 u]] []))] [.var false 3 (.agg [AV.nil 0,AV.nil 0])])
theorem zKS(h i a b:List PV) (c:Int) (d e:List PV) (f a7 a8 j k:Int) (g l m n o:List PV) (p:Int) (q r:List PV) (s:Int):zIB h i a b c d e f a7 a8 j k g l m n o p q r s =
 g[0]?.bind λ a9=>zJ a9 λ b0 b1 b2 b3 t=>(wc W zAp [.agg [.slice 3 h,.slice 0 i,.slice 0 a,.slice 6 b,.int .i64 c,.slice 0 d,.slice 0 e,.int .i64 f],.agg [.int .i64 b0,.int .i64 b1,.int .i64 b2,.int .i64 b3,.slice 6 t]]).bind λ u=>zAR u λ v w=>g[1]?.bind λ x=>zJ x λ y z A B C=>(wc W zAp [.agg [.slice 3 h,.slice 0 i,.slice 0 a,.slice 6 b,.int .i64 c,.slice 0 d,.slice 0 e,.int .i64 f],.agg [.int .i64 y,.int .i64 z,.int .i64 A,.int .i64 B,.slice 6 C]]).bind λ D=>zAR D λ E F=>(wc W zDg [.agg [.slice 3 l,.slice 0 m,.slice 0 n,.slice 6 o,.int .i64 p,.slice 0 q,.slice 0 r,.int .i64 s],.agg [.int .i64 j,.int .i64 k],.agg [.slice 0 v,.slice 0 w],.agg [.slice 0 E,.slice 0 F]]).bind λ G=>zAR G λ H I=>g[0]?.bind λ J=>zJ J λ K L M N O=>(wc W zF1 [.agg [.int .i64 K,.int .i64 L,.int .i64 M,.int .i64 N,.slice 6 O]]).bind λ P=>zA6 P λ Q=>g[1]?.bind λ R=>zJ R λ S T U V X=>(wc W zF1 [.agg [.int .i64 S,.int .i64 T,.int .i64 U,.int .i64 V,.slice 6 X]]).bind λ Y=>zA6 Y λ Z=>(wc W zFt [.agg [.slice 0 a,.slice 6 b,.int .i64 c,.slice 0 d,.slice 0 e,.int .i64 f],.int .i64 Q,.int .i64 Z]).bind λ a0=>c_s0 a0 λ a1=>(wc W zDn [.agg [.slice 3 h,.slice 0 i,.slice 0 a,.slice 6 b,.int .i64 c,.slice 0 d,.slice 0 e,.int .i64 f],.slice 0 a1]).bind λ a2=>c_s6 a2 λ a3=>(wc W zEW [.agg [.slice 0 H,.slice 0 I],.slice 6 a3]).bind λ a4=>zAR a4 λ a5 a6=>some (.agg [.slice 0 a5,.slice 0 a6]):=((tN_ fi51).join [1,1,1,1] _).trans (by kernel_rfl)
theorem zKT(h i a b:List PV) (c:Int) (d e:List PV) (f b2 b3 j k:Int) (g l m n o:List PV) (p:Int) (q r:List PV) (s:Int):zIC h i a b c d e f b2 b3 j k g l m n o p q r s =
 g[0]?.bind λ t=>zJ t λ u v w x y=>(wc W zAp [.agg [.slice 3 h,.slice 0 i,.slice 0 a,.slice 6 b,.int .i64 c,.slice 0 d,.slice 0 e,.int .i64 f],.agg [.int .i64 u,.int .i64 v,.int .i64 w,.int .i64 x,.slice 6 y]]).bind λ z=>zAR z λ A B=>g[1]?.bind λ C=>zJ C λ D E F G H=>(wc W zAp [.agg [.slice 3 h,.slice 0 i,.slice 0 a,.slice 6 b,.int .i64 c,.slice 0 d,.slice 0 e,.int .i64 f],.agg [.int .i64 D,.int .i64 E,.int .i64 F,.int .i64 G,.slice 6 H]]).bind λ I=>zAR I λ J K=>(wc W zDR [.agg [.slice 3 l,.slice 0 m,.slice 0 n,.slice 6 o,.int .i64 p,.slice 0 q,.slice 0 r,.int .i64 s],.agg [.int .i64 j,.int .i64 k],.agg [.slice 0 A,.slice 0 B],.agg [.slice 0 J,.slice 0 K]]).bind λ L=>zAR L λ M N=>g[0]?.bind λ O=>zJ O λ P Q R S T=>(wc W zF1 [.agg [.int .i64 P,.int .i64 Q,.int .i64 R,.int .i64 S,.slice 6 T]]).bind λ U=>zA6 U λ V=>g[1]?.bind λ X=>zJ X λ Y Z a0 a1 a2=>(wc W zF1 [.agg [.int .i64 Y,.int .i64 Z,.int .i64 a0,.int .i64 a1,.slice 6 a2]]).bind λ a3=>zA6 a3 λ a4=>(wc W zFt [.agg [.slice 0 a,.slice 6 b,.int .i64 c,.slice 0 d,.slice 0 e,.int .i64 f],.int .i64 V,.int .i64 a4]).bind λ a5=>c_s0 a5 λ a6=>(wc W zDn [.agg [.slice 3 h,.slice 0 i,.slice 0 a,.slice 6 b,.int .i64 c,.slice 0 d,.slice 0 e,.int .i64 f],.slice 0 a6]).bind λ a7=>c_s6 a7 λ a8=>(wc W zEW [.agg [.slice 0 M,.slice 0 N],.slice 6 a8]).bind λ a9=>zAR a9 λ b0 b1=>some (.agg [.slice 0 b0,.slice 0 b1]):=((tN_ fi51).join [1,1,1,1] _).trans (by kernel_rfl)
theorem zKU(h i a b:List PV) (c:Int) (d e:List PV) (f b2 b3 j k:Int) (g l m n o:List PV) (p:Int) (q r:List PV) (s:Int):zID h i a b c d e f b2 b3 j k g l m n o p q r s =
 g[0]?.bind λ t=>zJ t λ u v w x y=>(wc W zAp [.agg [.slice 3 h,.slice 0 i,.slice 0 a,.slice 6 b,.int .i64 c,.slice 0 d,.slice 0 e,.int .i64 f],.agg [.int .i64 u,.int .i64 v,.int .i64 w,.int .i64 x,.slice 6 y]]).bind λ z=>zAR z λ A B=>g[1]?.bind λ C=>zJ C λ D E F G H=>(wc W zAp [.agg [.slice 3 h,.slice 0 i,.slice 0 a,.slice 6 b,.int .i64 c,.slice 0 d,.slice 0 e,.int .i64 f],.agg [.int .i64 D,.int .i64 E,.int .i64 F,.int .i64 G,.slice 6 H]]).bind λ I=>zAR I λ J K=>(wc W zDf [.agg [.slice 3 l,.slice 0 m,.slice 0 n,.slice 6 o,.int .i64 p,.slice 0 q,.slice 0 r,.int .i64 s],.agg [.int .i64 j,.int .i64 k],.agg [.slice 0 A,.slice 0 B],.agg [.slice 0 J,.slice 0 K]]).bind λ L=>zAR L λ M N=>g[0]?.bind λ O=>zJ O λ P Q R S T=>(wc W zF1 [.agg [.int .i64 P,.int .i64 Q,.int .i64 R,.int .i64 S,.slice 6 T]]).bind λ U=>zA6 U λ V=>g[1]?.bind λ X=>zJ X λ Y Z a0 a1 a2=>(wc W zF1 [.agg [.int .i64 Y,.int .i64 Z,.int .i64 a0,.int .i64 a1,.slice 6 a2]]).bind λ a3=>zA6 a3 λ a4=>(wc W zFt [.agg [.slice 0 a,.slice 6 b,.int .i64 c,.slice 0 d,.slice 0 e,.int .i64 f],.int .i64 V,.int .i64 a4]).bind λ a5=>c_s0 a5 λ a6=>(wc W zDn [.agg [.slice 3 h,.slice 0 i,.slice 0 a,.slice 6 b,.int .i64 c,.slice 0 d,.slice 0 e,.int .i64 f],.slice 0 a6]).bind λ a7=>c_s6 a7 λ a8=>(wc W zEW [.agg [.slice 0 M,.slice 0 N],.slice 6 a8]).bind λ a9=>zAR a9 λ b0 b1=>some (.agg [.slice 0 b0,.slice 0 b1]):=((tN_ fi51).join [1,1,1,1] _).trans (by kernel_rfl)
theorem zG6(b c a d:List PV) (e:Int) (f g:List PV) (h i j k m:Int) (l:List PV):wc W zAp [.agg [.slice 3 b,.slice 0 c,.slice 0 a,.slice 6 d,.int .i64 e,.slice 0 f,.slice 0 g,.int .i64 h],.agg [.int .i64 i,.int .i64 j,.int .i64 k,.int .i64 m,.slice 6 l]] =
 bif i==0 then bif decide (0<=j)then a[Int.toNat j]?.bind λ J=>zA6 J λ K=>(wc W zI8 [.agg [.slice 3 b],.agg [.slice 0 c],.int .i64 K,.int .i64 j]).bind λ n=>n.asTup.bind λ L=>L[0]?.bind λ M=>zAR M λ N O=>n.asTup.bind λ P=>P[1]?.bind λ Q=>c_b Q λ R=>(wc W zF1 [.agg [.int .i64 i,.int .i64 j,.int .i64 k,.int .i64 m,.slice 6 l]]).bind λ o=>zA6 o λ p=>(wc W zLb [.agg [.slice 0 a,.slice 6 d,.int .i64 e,.slice 0 f,.slice 0 g,.int .i64 h],.int .i64 p]).bind λ q=>c_s0 q λ r=>(wc W zDn [.agg [.slice 3 b,.slice 0 c,.slice 0 a,.slice 6 d,.int .i64 e,.slice 0 f,.slice 0 g,.int .i64 h],.slice 0 r]).bind λ s=>c_s6 s λ t=>(wc W zEW [.agg [.slice 0 N,.slice 0 O],.slice 6 t]).bind λ u=>zAR u λ v w=>some (.agg [.slice 0 v,.slice 0 w])else none else bif i==4 then l[0]?.bind λ x=>zJ x λ y z A B C=>(wc W zAp [.agg [.slice 3 b,.slice 0 c,.slice 0 a,.slice 6 d,.int .i64 e,.slice 0 f,.slice 0 g,.int .i64 h],.agg [.int .i64 y,.int .i64 z,.int .i64 A,.int .i64 B,.slice 6 C]]).bind λ D=>zAR D λ E F=>(wc W zKq [.agg [.slice 0 E,.slice 0 F],.int .i64 k]).bind λ G=>zAR G λ H I=>some (.agg [.slice 0 H,.slice 0 I])else bif i==2 then zIB b c a d e f g h i j k m l b c a d e f g h else bif i==3 then zIC b c a d e f g h i j k m l b c a d e f g h else zID b c a d e f g h i j k m l b c a d e f g h:=gA_ (tN_ fi51)
def zCW(a b:List PV) (c d:Int):Option PV:=(lN_ fi52) [0,1,0,1,1] 0 (St.mk [(0,.pv (.slice 0 a)),(1,.pv (.slice 0 b)),(12,.pv (.int .i64 c)),(13,.pv (.int .i64 d))] [])
theorem zEL(b c:List PV) (d a:Int):zCW b c d a =
 bif decide (a<d)then bif decide (0<=a)then b[Int.toNat a]?.bind λ e=>zA6 e λ f=>bif decide (0<=a)then c[Int.toNat a]?.bind λ g=>zA6 g λ h=>bif f != h then some (.bool false)else zCW b c d (IntKind.wrap .i64 (a+1))else none else none else some (.bool true):=((tN_ fi52).loop [1,1,0,1,0] 0 _ rfl).trans (by kernel_rfl)
theorem zJl(a b:List PV):wc W zDq [.slice 0 a,.slice 0 b] =
 bif (a.length:Int) != (b.length:Int)then some (.bool false)else zCW a b (a.length:Int) 0:=gA_ (tN_ fi52)
def zCX(a:List PV) (b c d:Int):Option PV:=(lN_ fi54) [0,1,0,1] 0 (St.mk [(0,.pv (.slice 0 a)),(1,.pv (.int .i64 b)),(7,.pv (.int .i64 c)),(8,.pv (.int .i64 d))] [])
theorem zEM(b:List PV) (c d a:Int):zCX b c d a =
 bif decide (a<d)then bif decide (0<=a)then b[Int.toNat a]?.bind λ e=>zA6 e λ f=>bif c==f then some (.int .i64 a)else zCX b c d (IntKind.wrap .i64 (a+1))else none else some (.int .i64 (-1)):=((tN_ fi54).loop [1,0,1,0] 0 _ rfl).trans (by kernel_rfl)
theorem zJm(a:List PV) (b:Int):wc W zAG [.slice 0 a,.int .i64 b] =
 zCX a b (a.length:Int) 0:=gA_ (tN_ fi54)
def zAe(a:List PV) (b c:Int):Option (AV×List Ob):=(lO_ fi55 false 1) [0,1,0,1] 1 (St.mk [(0,.pv (.slice 0 a)),(1,.fnv zDl [] [.own 0 0]),(5,.pv (.int .i64 b))] [.var false 0 (.pv (.int .i64 c))])
theorem zBC(b:List PV) (a d:Int):zAe b a d =
 bif decide (GT.gt a 0)then bif decide (0<=a)then b[Int.toNat a]?.bind λ h=>c_s3 h λ i=>bif decide (0<=(IntKind.wrap .i64 (a-1)))then b[Int.toNat (IntKind.wrap .i64 (a-1))]?.bind λ j=>c_s3 j λ k=>(W zDl false [.pv (.slice 3 i),.pv (.slice 3 k),.own 0 0] [.var false 0 (.pv (.int .i64 d))]).bind λ e=>zDM e λ f c=>zA6 f λ g=>bif decide (g<0)then some (.pv (.bool false),[.var false 0 (.pv (.int .i64 c))])else zAe b (IntKind.wrap .i64 (a-1)) c else none else none else some (.pv (.bool true),[.var false 0 (.pv (.int .i64 d))]):=((tO_ fi55 false 1).loop [1,0,1,0] 1 _ rfl).trans (by kernel_rfl)
theorem zDh(a:List PV) (b:Int):W zC7 false [.pv (.slice 0 a),.fnv zDl [] [.own 0 0]] [.var false 0 (.pv (.int .i64 b))] =
 zAe a (IntKind.wrap .i64 ((a.length:Int)-1:Int)) b:=goO (by kernel_rfl) (by kernel_rfl) (tO_ fi55 false 1) rfl (by kernel_rfl)
theorem zLm(b c:List PV) (a:Int):W zDl false [.pv (.slice 3 b),.pv (.slice 3 c),.own 0 0] [.var false 0 (.pv (.int .i64 a))] =
 (wc W zJD [.slice 3 b,.int .i64 a]).bind λ d=>zM d λ e f=>(wc W zJD [.slice 3 c,.int .i64 a]).bind λ g=>zM g λ h i=>(wc W zC8 [.agg [.int .i64 e,.int .i64 f],.agg [.int .i64 h,.int .i64 i]]).bind λ j=>zA6 j λ k=>some (.pv (.int .i64 k),[.var false 0 (.pv (.int .i64 a))]):=goO (by kernel_rfl) (by kernel_rfl) (tO_ fi56 false 1) rfl (by kernel_rfl)
theorem zS2(a b c d:Int):wc W zC8 [.agg [.int .i64 a,.int .i64 b],.agg [.int .i64 c,.int .i64 d]] =
 ((bif a==c then bif b==d then some true else some false else some false).bind λ e=>some (.bool e)).bind λ f=>c_b f λ g=>bif g then some (.int .i64 0)else(wc W zFI [.slice 0 [.int .i64 a,.int .i64 b],.slice 0 [.int .i64 c,.int .i64 d]]).bind λ h=>zA6 h λ i=>some (.int .i64 i):=gA_ (tN_ fi57)
def zR7(a:List PV) (b c d:Int):Option PV:=(jN_ fi58) [1,1] (St.mk [(0,.pv (.slice 3 a)),(1,.pv (.int .i64 b)),(4,.own 0 0)] [.var false 3 (.pv (.agg [.int .i64 c,.int .i64 d]))])
def zN8(a b c d:Int):Option PV:=(jN_ fi58) [1,1,1,1] (St.mk [(4,.own 0 0),(5,.own 1 0)] [.var false 3 (.pv (.agg [.int .i64 a,.int .i64 b])),.var false 3 (.pv (.agg [.int .i64 c,.int .i64 d]))])
theorem zS3(d:List PV) (a b c:Int):zR7 d a b c =
 bif decide (0<=a)then d[Int.toNat a]?.bind λ g=>zM g λ e f=>(wc W zHZ [.agg [.int .i64 e,.int .i64 f]]).bind λ h=>c_b h λ i=>bif !i then zN8 b c 2 0 else zN8 b c e f else none:=((tN_ fi58).join [1,1] _).trans (by kernel_rfl)
theorem zS4(c d a b:Int):zN8 c d a b =
 some (.agg [.int .i64 a,.int .i64 b]):=((tN_ fi58).join [1,1,1,1] _).trans (by kernel_rfl)
theorem z3N(b:List PV) (a:Int):wc W zJD [.slice 3 b,.int .i64 a] =
 bif decide (a<0)then some (.agg [.int .i64 0,.int .i64 0])else bif decide (GE.ge a (b.length:Int))then some (.agg [.int .i64 0,.int .i64 0])else zR7 b a 0 0:=gA_ (tN_ fi58)
theorem zLn(a b c:List PV) (d:Int) (e f:List PV) (g:Int):wc W zHW [.agg [.slice 3 a],.agg [.slice 0 b,.slice 6 c,.int .i64 d,.slice 0 e,.slice 0 f,.int .i64 g]] =
 (wc W zCj [.agg [.slice 3 a],.agg [.slice 0 b,.slice 6 c,.int .i64 d,.slice 0 e,.slice 0 f,.int .i64 g]]).bind λ h=>c_b h λ i=>bif i then some (.int .i64 0)else some (.int .i64 1):=gA_ (tN_ fi59)
theorem zLo(a:List PV):wc W zHX [.agg [.slice 0 a]] =
 (wc W zEz [.agg [.slice 0 a]]).bind λ b=>c_b b λ c=>bif c then some (.int .i64 0)else some (.int .i64 1):=gA_ (tN_ fi60)
def zF5(a b c d:List PV) (e:Int) (f g:List PV) (h i:Int) (j k:List PV):Option PV:=(lN_ fi62) [0,1,0,1,1] 2 (St.mk [(0,.pv (.imm 2 (.agg [.slice 3 a]) 0)),(1,.pv (.imm 2 (.agg [.slice 0 b]) 0)),(2,.pv (.imm 7 (.agg [.slice 0 c,.slice 6 d,.int .i64 e,.slice 0 f,.slice 0 g,.int .i64 h]) 0)),(3,.own 0 0),(4,.own 1 0),(5,.pv (.int .i64 i))] [.var false 3 (.agg [AV.nil 0,AV.nil 0]),.var false 3 (.pv (.agg [.slice 0 j,.slice 0 k]))])
theorem zIE(d e b c:List PV) (f:Int) (g h:List PV) (i a:Int) (j k:List PV):zF5 d e b c f g h i a j k =
 bif decide (a<(b.length:Int))then bif decide (0<=a)then b[Int.toNat a]?.bind λ o=>zA6 o λ p=>(wc W zI8 [.agg [.slice 3 d],.agg [.slice 0 e],.int .i64 p,.int .i64 a]).bind λ l=>l.asTup.bind λ q=>q[0]?.bind λ r=>zAR r λ s t=>l.asTup.bind λ u=>u[1]?.bind λ v=>c_b v λ w=>(wc W zFG [.agg [.slice 0 s,.slice 0 t],.bool w]).bind λ x=>zAR x λ y z=>(wc W zJE [.agg [.slice 0 j,.slice 0 k],.agg [.slice 0 y,.slice 0 z]]).bind λ m=>m.asTup.bind λ A=>A[0]?.bind λ B=>zAR B λ C D=>m.asTup.bind λ E=>E[1]?.bind λ F=>c_b F λ G=>(wc W zFG [.agg [.slice 0 C,.slice 0 D],.bool G]).bind λ H=>zAR H λ I J=>zF5 d e b c f g h i (IntKind.wrap .i64 (a+1)) I J else none else(wc W zEW [.agg [.slice 0 j,.slice 0 k],.slice 6 c]).bind λ K=>zAR K λ L M=>(wc W zGD [.agg [.slice 0 b,.slice 6 c,.int .i64 f,.slice 0 g,.slice 0 h,.int .i64 i],.agg [.slice 0 L,.slice 0 M]]).bind λ n=>n.asTup.bind λ N=>N[0]?.bind λ O=>zAR O λ P Q=>n.asTup.bind λ R=>R[1]?.bind λ S=>c_b S λ T=>(wc W zFG [.agg [.slice 0 P,.slice 0 Q],.bool T]).bind λ U=>zAR U λ V X=>some (.agg [.slice 0 V,.slice 0 X]):=((tN_ fi62).loop [1,1,0,1,0] 2 _ rfl).trans (by kernel_rfl)
theorem zS5(a b c d:List PV) (e:Int) (f g:List PV) (h:Int):wc W zEX [.imm 2 (.agg [.slice 3 a]) 0,.imm 2 (.agg [.slice 0 b]) 0,.imm 7 (.agg [.slice 0 c,.slice 6 d,.int .i64 e,.slice 0 f,.slice 0 g,.int .i64 h]) 0] =
 c[0]?.bind λ n=>zA6 n λ o=>(wc W zI8 [.agg [.slice 3 a],.agg [.slice 0 b],.int .i64 o,.int .i64 0]).bind λ i=>i.asTup.bind λ p=>p[0]?.bind λ q=>zAR q λ r s=>i.asTup.bind λ t=>t[1]?.bind λ u=>c_b u λ j=>(wc W zFG [.agg [.slice 0 r,.slice 0 s],.bool j]).bind λ k=>zAR k λ l m=>zF5 a b c d e f g h 1 l m:=gA_ (tN_ fi62)
theorem zU1(a b:List PV) (c:Bool):wc W zFG [.agg [.slice 0 a,.slice 0 b],.bool c] =
 bif !c then none else some (.agg [.slice 0 a,.slice 0 b]):=gA_ (tN_ fi63)
def zQK(b c:Int) (d a:List PV):Option PV:=(jN_ fi64) [1,1] (St.mk [(2,.pv (.int .i64 b)),(3,.pv (.int .i64 c)),(4,.pv (.imm 2 (.agg [.slice 3 d]) 0)),(5,.pv (.imm 2 (.agg [.slice 0 a]) 0)),(8,.own 0 0)] [.var false 3 (.agg [AV.nil 0,AV.nil 0])])
def zH4(a b:Int) (c:List PV) (d e:Int) (f:List PV):Option PV:=(lN_ fi64) [0,1,0,1,1,1] 2 (St.mk [(2,.pv (.int .i64 a)),(3,.pv (.int .i64 b)),(5,.pv (.imm 2 (.agg [.slice 0 c]) 0)),(8,.own 0 0),(10,.view 1 0 none),(36,.pv (.int .i64 d)),(37,.pv (.int .i64 e))] [.var false 3 (.agg [AV.nil 0,AV.nil 0]),.row false 0 0 f])
theorem zQv(a c:Int) (d b:List PV):zQK a c d b =
 bif decide (0<=a)then d[Int.toNat a]?.bind λ e=>(PV.load 3 e 0 0).bind λ f=>zA6 f λ g=>zH4 a c b g 0 []else none:=((tN_ fi64).join [1,1] _).trans (by kernel_rfl)
theorem zLV(a d:Int) (e:List PV) (f b:Int) (c:List PV):zH4 a d e f b c =
 bif decide (b<f)then(wc W zIa [.int .i64 d,.int .i64 b]).bind λ g=>zA6 g λ h=>bif true&&(decide (((List.length c)+1:Nat)<=4294967296))then zH4 a d e f (IntKind.wrap .i64 (b+1)) (c++[.int .i64 h])else none else bif decide (0<=a)then e[Int.toNat a]?.bind λ i=>c_s0 i λ j=>(wc W zEW [.agg [.slice 0 c,.slice 0 j],.slice 6 []]).bind λ k=>zAR k λ l m=>some (.tup [.agg [.slice 0 l,.slice 0 m],.bool true])else none:=((tN_ fi64).loop [1,1,1,0,1,0] 2 _ rfl).trans (by kernel_rfl)
theorem z0t(a b:List PV) (c d:Int):wc W zI8 [.agg [.slice 3 a],.agg [.slice 0 b],.int .i64 c,.int .i64 d] =
 (wc W zHV [.agg [.slice 3 a],.agg [.slice 0 b]]).bind λ e=>c_b e λ f=>bif !f then some (.tup [.agg [.slice 0 [],.slice 0 []],.bool false])else(wc W zF2 [.int .i64 c,.int .i64 0,.int .i64 (IntKind.wrap .i64 ((a.length:Int)-1:Int))]).bind λ g=>c_b g λ h=>bif !h then some (.tup [.agg [.slice 0 [],.slice 0 []],.bool false])else(wc W zIa [.int .i64 d,.int .i64 0]).bind λ i=>zA6 i λ j=>bif j==(-1)then some (.tup [.agg [.slice 0 [],.slice 0 []],.bool false])else zQK c d a b:=gA_ (tN_ fi64)
def zM8(h a b c d e f g:List PV):Option PV:=(jN_ fi65) [1,1,1] (St.mk [(2,.pv (.imm 3 (.agg [.slice 0 h,.slice 0 a]) 0)),(3,.pv (.imm 3 (.agg [.slice 0 b,.slice 0 c]) 0)),(4,.own 0 0),(6,.own 3 0)] [.var false 3 (.agg [AV.nil 0,AV.nil 0]),.row false 0 0 d,.row false 0 0 e,.var false 3 (.agg [.pv (.slice 0 f),.view 4 0 none]),.row true 0 0 g])
def zF6(a b c:List PV) (d e:Int) (f g h i:List PV):Option PV:=(lN_ fi65) [0,1,0,1,1,1] 5 (St.mk [(3,.pv (.imm 3 (.agg [.slice 0 a,.slice 0 b]) 0)),(4,.own 0 0),(6,.own 3 0),(45,.pv (.slice 0 c)),(46,.pv (.int .i64 d)),(47,.pv (.int .i64 e))] [.var false 3 (.agg [AV.nil 0,AV.nil 0]),.row false 0 0 f,.row false 0 0 g,.var false 3 (.agg [.pv (.slice 0 h),.view 4 0 none]),.row true 0 0 i])
def zGp(a b c d:List PV) (e f:Int) (g:List PV) (h i:Int) (j k l m:List PV):Option PV:=(lN_ fi65) [0,1,1,0,0,1,1,5,0,1,0,1,1,1] 5 (St.mk [(3,.pv (.imm 3 (.agg [.slice 0 a,.slice 0 b]) 0)),(4,.own 0 0),(6,.own 3 0),(8,.pv (.slice 3 c)),(45,.pv (.slice 0 d)),(46,.pv (.int .i64 e)),(47,.pv (.int .i64 f)),(52,.pv (.slice 0 g)),(53,.pv (.int .i64 h)),(54,.pv (.int .i64 i))] [.var false 3 (.agg [AV.nil 0,AV.nil 0]),.row false 0 0 j,.row false 0 0 k,.var false 3 (.agg [.pv (.slice 0 l),.view 4 0 none]),.row true 0 0 m])
theorem zO5(h a b c d e f g:List PV):zM8 h a b c d e f g =
 zF6 b c a (a.length:Int) 0 d e f g:=((tN_ fi65).join [1,1,1] _).trans (by kernel_rfl)
theorem zJ8(g b c:List PV) (d a:Int) (h i e f:List PV):zF6 g b c d a h i e f =
 bif decide (a<d)then bif decide (0<=a)then c[Int.toNat a]?.bind λ j=>c_s3 j λ k=>zGp g b k c d a b (b.length:Int) 0 h i e f else none else some (.tup [.agg [.slice 0 e,.slice 0 f],.bool true]):=((tN_ fi65).loop [1,1,1,0,1,0] 5 _ rfl).trans (by kernel_rfl)
theorem zJ9(c d e f:List PV) (g h:Int) (i:List PV) (j a:Int) (k l m b:List PV):zGp c d e f g h i j a k l m b =
 bif decide (a<j)then bif decide (0<=a)then i[Int.toNat a]?.bind λ n=>c_s3 n λ o=>(wc W zBX [.slice 0 [.slice 3 e,.slice 3 o]]).bind λ p=>c_s3 p λ q=>bif true&&(decide (((List.length b)+1:Nat)<=4294967296))then zGp c d e f g h i j (IntKind.wrap .i64 (a+1)) k l m (b++[.slice 3 q])else none else none else zF6 c d f g (IntKind.wrap .i64 (h+1)) k l m b:=((tN_ fi65).loop [1,1,1,0,1,0,5,1,1,0,0,1,1,0] 5 _ rfl).trans (by kernel_rfl)
theorem zWR(a b c d:List PV):wc W zJE [.agg [.slice 0 a,.slice 0 b],.agg [.slice 0 c,.slice 0 d]] =
 (wc W zBp [.slice 0 [.slice 0 a,.slice 0 c]]).bind λ f=>c_s0 f λ e=>(wc W zGK [.agg [.slice 0 a,.slice 0 b]]).bind λ g=>c_b g λ h=>bif !h then some (.tup [.agg [.slice 0 [],.slice 0 []],.bool false])else(wc W zGK [.agg [.slice 0 c,.slice 0 d]]).bind λ i=>c_b i λ j=>bif !j then some (.tup [.agg [.slice 0 [],.slice 0 []],.bool false])else(wc W zGK [.agg [.slice 0 e,.slice 0 []]]).bind λ k=>c_b k λ l=>bif !l then some (.tup [.agg [.slice 0 [],.slice 0 []],.bool false])else bif decide (GT.gt (IntKind.wrap .i64 ((b.length:Int)*(d.length:Int):Int)) 5000)then some (.tup [.agg [.slice 0 [],.slice 0 []],.bool false])else zM8 a b c d [] [] e []:=gA_ (tN_ fi65)
theorem zS6(b:Int) (a:List PV):wc W zJF [.int .i64 b,.imm 2 (.agg [.slice 3 a]) 0] =
 bif decide (b<0)then some (.bool true)else some (.bool (decide (GE.ge b (a.length:Int)))):=gA_ (tN_ fi66)
theorem zZI(a:List PV):wc W zKs [.agg [.slice 3 a]] =
 (wc W zF2 [.int .i64 (a.length:Int),.int .i64 1,.int .i64 4]).bind λ b=>c_b b λ c=>bif c then(wc W zB1 [.slice 3 a,.fn zHv [] []]).bind λ d=>c_b d λ e=>some (.bool !e)else some (.bool false):=gA_ (tN_ fi67)
theorem zG7(a:List PV) (b:PV):wc W zBK [.slice 0 a,b] =
 (wc W zCq [.slice 0 a,b]).bind λ c=>zA6 c λ d=>some (.bool (decide (GE.ge d 0))):=gA_ (tN_ fi68)
def zCz(c:PV) (d e f:List PV) (g:Int) (h i:List PV) (j k a:Int) (b:List PV):Option PV:=(lN_ fi69) [0,1,0,1,1] 1 (St.mk [(2,.pv c),(3,.pv (.imm 2 (.agg [.slice 3 d]) 0)),(4,.pv (.imm 7 (.agg [.slice 0 e,.slice 6 f,.int .i64 g,.slice 0 h,.slice 0 i,.int .i64 j]) 0)),(7,.view 0 0 none),(14,.pv (.int .i64 k)),(15,.pv (.int .i64 a))] [.row false 0 0 b])
def zM9(a:PV) (b c d:List PV) (e:Int) (f g:List PV) (h i j k l:Int) (m:List PV):Option PV:=(jN_ fi69) [1,1,1,0,0,1,1,1,0,1,0,1,1] (St.mk [(2,.pv a),(3,.pv (.imm 2 (.agg [.slice 3 b]) 0)),(4,.pv (.imm 7 (.agg [.slice 0 c,.slice 6 d,.int .i64 e,.slice 0 f,.slice 0 g,.int .i64 h]) 0)),(7,.view 0 0 none),(8,.pv (.int .i64 i)),(9,.pv (.int .i64 j)),(14,.pv (.int .i64 k)),(15,.pv (.int .i64 l))] [.row false 0 0 m])
def zGq(a:PV) (b c d:List PV) (e:Int) (f g:List PV) (h i j k l m:Int) (n:List PV):Option PV:=(lN_ fi69) [0,1,1,1,1,0,0,1,1,1,0,1,0,1,1] 1 (St.mk [(2,.pv a),(3,.pv (.imm 2 (.agg [.slice 3 b]) 0)),(4,.pv (.imm 7 (.agg [.slice 0 c,.slice 6 d,.int .i64 e,.slice 0 f,.slice 0 g,.int .i64 h]) 0)),(7,.view 0 0 none),(8,.pv (.int .i64 i)),(14,.pv (.int .i64 j)),(15,.pv (.int .i64 k)),(43,.pv (.int .i64 l)),(44,.pv (.int .i64 m))] [.row false 0 0 n])
theorem zJa(c:PV) (d e g:List PV) (h:Int) (i j:List PV) (k f a:Int) (b:List PV):zCz c d e g h i j k f a b =
 bif decide (a<f)then bif decide (0<=a)then e[Int.toNat a]?.bind λ n=>zA6 n λ l=>(PV.asFn c).bind λ m=>(wc W (Prod.fst m) (((Prod.fst (Prod.snd m))++[.int .i64 a])++(Prod.snd (Prod.snd m)))).bind λ o=>c_b o λ p=>bif !p then zCz c d e g h i j k f (IntKind.wrap .i64 (a+1)) b else bif decide (l<0)then zCz c d e g h i j k f (IntKind.wrap .i64 (a+1)) b else bif decide (GE.ge l (d.length:Int))then zCz c d e g h i j k f (IntKind.wrap .i64 (a+1)) b else zM9 c d e g h i j k a l f a b else none else some (.slice 0 b):=((tN_ fi69).loop [1,1,0,1,0] 1 _ rfl).trans (by kernel_rfl)
theorem zO6(c:PV) (a d e:List PV) (f:Int) (g h:List PV) (i j b k l:Int) (m:List PV):zM9 c a d e f g h i j b k l m =
 bif decide (0<=b)then a[Int.toNat b]?.bind λ n=>(PV.load 3 n 0 0).bind λ o=>zA6 o λ p=>zGq c a d e f g h i j k l p 0 m else none:=((tN_ fi69).join [1,1,0,1,0,1,1,1,0,0,1,1,1] _).trans (by kernel_rfl)
theorem zJb(c:PV) (d e f:List PV) (g:Int) (h i:List PV) (j k l m n a:Int) (b:List PV):zGq c d e f g h i j k l m n a b =
 bif decide (a<n)then(wc W zIa [.int .i64 k,.int .i64 a]).bind λ o=>zA6 o λ p=>bif true&&(decide (((List.length b)+1:Nat)<=4294967296))then zGq c d e f g h i j k l m n (IntKind.wrap .i64 (a+1)) (b++[.int .i64 p])else none else zCz c d e f g h i j l (IntKind.wrap .i64 (m+1)) b:=((tN_ fi69).loop [1,1,0,1,0,1,1,1,0,0,1,1,1,1,0] 1 _ rfl).trans (by kernel_rfl)
theorem zWS(b a c:List PV) (d:Int) (e f:List PV) (g:Int) (h:PV):wc W zJG [.agg [.slice 3 b],.agg [.slice 0 a,.slice 6 c,.int .i64 d,.slice 0 e,.slice 0 f,.int .i64 g],h] =
 zCz h b a c d e f g (bif decide (4<(a.length:Int))then(4:Int)else(a.length:Int)) 0 []:=gA_ (tN_ fi69)
theorem zS7(a:Int):wc W zJH [.int .i64 a] =
 some (.bool true):=gA_ (tN_ fi70)
theorem zWT(a b c d:Int) (e:List PV):wc W zJI [.agg [.int .i64 a,.int .i64 b,.int .i64 c,.int .i64 d,.slice 6 e]] =
 (wc W zIb [.agg [.int .i64 a,.int .i64 b,.int .i64 c,.int .i64 d,.slice 6 e]]).bind λ n=>c_b n λ o=>bif !o then some (.slice 0 [])else(W zEG false [.pv (.agg [.int .i64 a,.int .i64 b,.int .i64 c,.int .i64 d,.slice 6 e]),.pv (.int .i64 1),.fnv zCx [] [.own 0 0]] [.var false 0 (.view 1 0 none),.row false 0 0 []]).bind λ f=>zPC f λ g h=>c_b g λ p=>(W zEH false [AV.fx 0 0] [.fix 0 0 h]).bind λ i=>zSY i λ q j=>(W zDS false [.view 0 0 none] [.row false 0 0 j]).bind λ k=>zSX k λ l=>c_s0 l λ m=>some (.slice 0 m):=gA_ (tN_ fi71)
theorem zQw(a b:List PV):wc W zDm [.slice 0 a,.slice 0 b] =
 (wc W zBK [.slice 0 a,.fn zG3 [] [.imm 0 (.slice 0 b) 0]]).bind λ c=>c_b c λ d=>some (.bool !d):=gA_ (tN_ fi72)
theorem zU2(a:List PV):wc W zKH [.slice 0 a] =
 (W zB6 true [.pv (.slice 0 a)] []).bind λ d=>zSZ d λ e=>(W zEH false [AV.fx 0 0] [.fix 0 0 e]).bind λ f=>zSY f λ i g=>(W zDS false [.view 0 0 none] [.row false 0 0 g]).bind λ h=>zSX h λ b=>c_s0 b λ c=>some (.bool ((c.length:Int)==(a.length:Int))):=gA_ (tN_ fi73)
theorem zIW(a:List PV) (b:Int):wc W zBN [.slice 0 a,.int .i64 b] =
 (wc W zAG [.slice 0 a,.int .i64 b]).bind λ c=>zA6 c λ d=>some (.bool (decide (GE.ge d 0))):=gA_ (tN_ fi74)
theorem zZJ(a b c d:Int) (e:List PV):wc W zKt [.agg [.int .i64 a,.int .i64 b,.int .i64 c,.int .i64 d,.slice 6 e]] =
 (W zEF false [.pv (.agg [.int .i64 a,.int .i64 b,.int .i64 c,.int .i64 d,.slice 6 e]),.fnv zEI [] [.own 0 0]] [.var false 0 (.pv (.int .i64 0))]).bind λ g=>zDM g λ h i=>c_b h λ f=>some (.bool f):=gA_ (tN_ fi75)
theorem zS8(b c d e:Int) (a:List PV):wc W zDa [.agg [.int .i64 b,.int .i64 c,.int .i64 d,.int .i64 e,.slice 6 a]] =
 bif b==0 then(wc W zLd [.int .i64 c]).bind λ D=>zCV D λ E F=>some (.agg [.int .i64 E,.slice 3 F])else bif b==4 then a[0]?.bind λ G=>zJ G λ H I J K L=>(wc W zDa [.agg [.int .i64 H,.int .i64 I,.int .i64 J,.int .i64 K,.slice 6 L]]).bind λ f=>zCV f λ g h=>some (.agg [.int .i64 g,.slice 3 h])else a[0]?.bind λ i=>zJ i λ j k l m n=>(wc W zDa [.agg [.int .i64 j,.int .i64 k,.int .i64 l,.int .i64 m,.slice 6 n]]).bind λ o=>zCV o λ p q=>a[1]?.bind λ r=>zJ r λ s t u v w=>(wc W zDa [.agg [.int .i64 s,.int .i64 t,.int .i64 u,.int .i64 v,.slice 6 w]]).bind λ x=>zCV x λ y z=>(wc W zLa [.agg [.int .i64 p,.slice 3 q],.agg [.int .i64 y,.slice 3 z]]).bind λ A=>zCV A λ B C=>some (.agg [.int .i64 B,.slice 3 C]):=gA_ (tN_ fi76)
end Go.Cf

namespace Go.Cf
open Go Go.Ab
set_option maxRecDepth 100000
theorem zZK(a:Int) (b:List PV):wc W zN1 [.agg [.int .i64 a,.slice 3 b]] =
 (wc W zFH [.agg [.int .i64 a,.slice 3 b],.int .i64 4]).bind λ c=>c.asTup.bind λ d=>d[0]?.bind λ e=>zA6 e λ i=>c.asTup.bind λ f=>f[1]?.bind λ g=>c_b g λ h=>some (.bool h):=gA_ (tN_ fi77)
theorem zWU(a b:List PV) (c:Int) (d e:List PV) (f g h:Int):wc W zFt [.agg [.slice 0 a,.slice 6 b,.int .i64 c,.slice 0 d,.slice 0 e,.int .i64 f],.int .i64 g,.int .i64 h] =
 (W zHt false [.pv (.agg [.slice 0 a,.slice 6 b,.int .i64 c,.slice 0 d,.slice 0 e,.int .i64 f]),.fnv zEY [] [.own 0 0,.own 1 0,.own 2 0]] [.var false 0 (.pv (.int .i64 (IntKind.wrap .i64 (((BitVec.toNat (HOr.hOr (BitVec.ofInt 64 g) (BitVec.ofInt 64 h))):Nat):Int)))),.var false 0 (.pv (.int .i64 g)),.var false 0 (.pv (.int .i64 h))]).bind λ i=>zSW i λ j l m n=>c_s0 j λ k=>some (.slice 0 k):=gA_ (tN_ fi80)
theorem zQL(b a:Int):wc W zF0 [.int .i64 b,.int .i64 a] =
 (bif decide (a<0)then none else some (.int .i64 (Int.fdiv b (HPow.hPow (2:Int) (Min.min (Int.toNat a) 64))))).bind λ c=>zA6 c λ d=>some (.bool ((IntKind.wrap .i64 (((BitVec.toNat (HAnd.hAnd (BitVec.ofInt 64 d) (BitVec.ofInt 64 1))):Nat):Int))==1)):=gA_ (tN_ fi82)
def zEN(a b:Int) (c:List PV) (d:Bool):Option PV:=(jN_ fi83) [1,0,0,1] (St.mk [(1,.pv (.int .i64 a)),(2,.pv (.imm 3 (.agg [.int .i64 b,.slice 3 c]) 0)),(11,.pv (.bool d))] [])
def zKV(a:Int) (b:List PV) (c:Bool):Option PV:=(jN_ fi83) [1,0,1,1,1,0,0,1] (St.mk [(2,.pv (.imm 3 (.agg [.int .i64 a,.slice 3 b]) 0)),(6,.pv (.bool c))] [])
theorem zDU(g d:Int) (c:List PV) (h:Bool):zEN g d c h =
 bif h then some (.tup [.int .i64 0,.bool false])else bif (c.length:Int)==0 then bif decide (GE.ge d 0)then zKV d c (decide (d<4))else zKV d c false else c[0]?.bind λ w=>zCV w λ x i=>(wc W zFH [.agg [.int .i64 x,.slice 3 i],.int .i64 (IntKind.wrap .i64 (g-1))]).bind λ e=>e.asTup.bind λ j=>j[0]?.bind λ k=>zA6 k λ a=>e.asTup.bind λ l=>l[1]?.bind λ m=>c_b m λ n=>c[1]?.bind λ o=>zCV o λ p q=>(wc W zFH [.agg [.int .i64 p,.slice 3 q],.int .i64 (IntKind.wrap .i64 (g-1))]).bind λ f=>f.asTup.bind λ r=>r[0]?.bind λ s=>zA6 s λ b=>f.asTup.bind λ t=>t[1]?.bind λ u=>c_b u λ v=>bif n then bif v then some (.tup [.int .i64 (IntKind.wrap .i64 (((BitVec.toNat (HOr.hOr (BitVec.ofInt 64 a) (BitVec.ofInt 64 b))):Nat):Int)),.bool ((IntKind.wrap .i64 (((BitVec.toNat (HAnd.hAnd (BitVec.ofInt 64 a) (BitVec.ofInt 64 b))):Nat):Int))==0)])else some (.tup [.int .i64 (IntKind.wrap .i64 (((BitVec.toNat (HOr.hOr (BitVec.ofInt 64 a) (BitVec.ofInt 64 b))):Nat):Int)),.bool false])else some (.tup [.int .i64 (IntKind.wrap .i64 (((BitVec.toNat (HOr.hOr (BitVec.ofInt 64 a) (BitVec.ofInt 64 b))):Nat):Int)),.bool false]):=((tN_ fi83).join [1,0,0,1] _).trans (by kernel_rfl)
theorem zQM(a:Int) (e:List PV) (b:Bool):zKV a e b =
 (bif decide ((bif decide ((Int.tmod a 4)<0)then(0:Int)else Int.tmod a 4)<0)then none else some (.int .i64 (IntKind.wrap .i64 (1*(HPow.hPow (2:Int) (Min.min (Int.toNat (bif decide ((Int.tmod a 4)<0)then(0:Int)else Int.tmod a 4)) 64)):Int)))).bind λ c=>zA6 c λ d=>some (.tup [.int .i64 d,.bool b]):=((tN_ fi83).join [1,0,0,1,1,1,0,1] _).trans (by kernel_rfl)
theorem zR8(b:Int) (a:List PV) (c:Int):wc W zFH [.agg [.int .i64 b,.slice 3 a],.int .i64 c] =
 bif c==0 then zEN c b a (c==0)else bif (a.length:Int) != 0 then bif (a.length:Int) != 2 then zEN c b a ((a.length:Int) != 2)else bif (a.length:Int)==2 then zEN c b a (b != 0)else zEN c b a false else bif (a.length:Int)==2 then zEN c b a (b != 0)else zEN c b a false:=gA_ (tN_ fi83)
def zMa(c:Int) (d e a:List PV) (b:Int):Option PV:=(jN_ fi87) [1,1,1,1] (St.mk [(1,.pv (.int .i64 c)),(2,.pv (.slice 0 d)),(3,.pv (.imm 3 (.agg [.slice 0 e,.slice 0 a]) 0)),(6,.own 0 0),(8,.pv (.int .i64 b))] [.var false 3 (.agg [AV.nil 0,AV.nil 0])])
def zGr(a:Int) (b c d:List PV) (e:Int) (f:List PV) (g h:Int) (i:List (PV×PV)) (j k:List PV):Option PV:=(lN_ fi87) [0,1,0,1,1,1,1,1,1] 4 (St.mk [(1,.pv (.int .i64 a)),(2,.pv (.slice 0 b)),(3,.pv (.imm 3 (.agg [.slice 0 c,.slice 0 d]) 0)),(6,.own 0 0),(8,.pv (.int .i64 e)),(10,AV.gm 1),(11,.view 3 0 none),(51,.pv (.slice 0 f)),(52,.pv (.int .i64 g)),(53,.pv (.int .i64 h))] [.var false 3 (.agg [AV.nil 0,AV.nil 0]),.grp 0 none i,.row true 0 0 j,.row false 0 3 k])
def zGs(a:Int) (b c d:List PV) (e:Int) (f g:List PV) (h i:Int) (j:List (PV×PV)) (k l:List PV) (m n:Int):Option PV:=(jN_ fi87) [1,1,1,0,0,1,1,4,0,1,0,1,1,1,1,1,1] (St.mk [(1,.pv (.int .i64 a)),(2,.pv (.slice 0 b)),(3,.pv (.imm 3 (.agg [.slice 0 c,.slice 0 d]) 0)),(6,.own 0 0),(8,.pv (.int .i64 e)),(10,AV.gm 1),(11,.view 3 0 none),(13,.pv (.slice 3 f)),(14,.own 4 0),(51,.pv (.slice 0 g)),(52,.pv (.int .i64 h)),(53,.pv (.int .i64 i))] [.var false 3 (.agg [AV.nil 0,AV.nil 0]),.grp 0 none j,.row true 0 0 k,.row false 0 3 l,.var false 3 (.pv (.agg [.int .i64 m,.int .i64 n]))])
def zE1(a b c:List PV) (d e:Int) (f:List (PV×PV)) (g h i j k l:List PV):Option PV:=(lN_ fi87) [0,1,0,1,1,1,1,1,1,1,1,1] 9 (St.mk [(2,.pv (.slice 0 a)),(3,.pv (.imm 3 (.agg [.slice 0 b,.slice 0 c]) 0)),(6,.own 0 0),(10,AV.gm 1),(11,.view 3 0 none),(15,.own 7 0),(84,.pv (.int .i64 d)),(85,.pv (.int .i64 e))] [.var false 3 (.agg [AV.nil 0,AV.nil 0]),.grp 0 none f,.row true 0 0 g,.row false 0 3 h,.row false 0 0 i,.row false 0 0 j,.row false 0 0 k,.var false 3 (.agg [.view 4 0 none,.view 8 0 none]),.row false 0 0 l])
def zE2(a b c:List PV) (d e:Int) (f:List (PV×PV)) (g h i j k l:List PV):Option PV:=(lN_ fi87) [0,1,0,1,1,1,1,1,1,1,1,1,1] 9 (St.mk [(2,.pv (.slice 0 a)),(3,.pv (.imm 3 (.agg [.slice 0 b,.slice 0 c]) 0)),(6,.own 0 0),(10,AV.gm 1),(15,.own 7 0),(96,.view 3 0 none),(97,.pv (.int .i64 d)),(98,.pv (.int .i64 e))] [.var false 3 (.agg [AV.nil 0,AV.nil 0]),.grp 0 none f,.row true 0 0 g,.row false 0 3 h,.row false 0 0 i,.row false 0 0 j,.row false 0 0 k,.var false 3 (.agg [.view 4 0 none,.view 8 0 none]),.row false 0 0 l])
def zF7(a b c:List PV) (d e:Int) (f:List PV) (g h:Int) (i:List (PV×PV)) (j k l m n o:List PV) (p q:Int) (r:List PV):Option PV:=(lN_ fi87) [0,1,0,1,1,0,0,1,1,9,0,1,0,1,1,1,1,1,1,1,1,1,1] 11 (St.mk [(2,.pv (.slice 0 a)),(3,.pv (.imm 3 (.agg [.slice 0 b,.slice 0 c]) 0)),(6,.own 0 0),(10,AV.gm 1),(15,.own 7 0),(18,.own 9 0),(19,.view 10 0 none),(96,.view 3 0 none),(97,.pv (.int .i64 d)),(98,.pv (.int .i64 e)),(113,.pv (.slice 0 f)),(114,.pv (.int .i64 g)),(115,.pv (.int .i64 h))] [.var false 3 (.agg [AV.nil 0,AV.nil 0]),.grp 0 none i,.row true 0 0 j,.row false 0 3 k,.row false 0 0 l,.row false 0 0 m,.row false 0 0 n,.var false 3 (.agg [.view 4 0 none,.view 8 0 none]),.row false 0 0 o,.var false 3 (.pv (.agg [.int .i64 p,.int .i64 q])),.row false 0 3 r])
def zGt(a b c:List PV) (d e f:Int) (g:List PV) (h i:Int) (j:PV) (k l:Int) (m:List (PV×PV)) (n o p q r s:List PV) (t u:Int) (v w:List PV):Option PV:=(lN_ fi87) [0,1,0,1,1,1,0,0,1,1,11,0,1,0,1,1,0,0,1,1,9,0,1,0,1,1,1,1,1,1,1,1,1,1] 12 (St.mk [(2,.pv (.slice 0 a)),(3,.pv (.imm 3 (.agg [.slice 0 b,.slice 0 c]) 0)),(6,.own 0 0),(10,AV.gm 1),(15,.own 7 0),(18,.own 9 0),(19,.view 10 0 none),(22,.pv (.int .i64 d)),(23,.view 11 0 none),(96,.view 3 0 none),(97,.pv (.int .i64 e)),(98,.pv (.int .i64 f)),(113,.pv (.slice 0 g)),(114,.pv (.int .i64 h)),(115,.pv (.int .i64 i)),(125,.pv j),(126,.pv (.int .i64 k)),(127,.pv (.int .i64 l))] [.var false 3 (.agg [AV.nil 0,AV.nil 0]),.grp 0 none m,.row true 0 0 n,.row false 0 3 o,.row false 0 0 p,.row false 0 0 q,.row false 0 0 r,.var false 3 (.agg [.view 4 0 none,.view 8 0 none]),.row false 0 0 s,.var false 3 (.pv (.agg [.int .i64 t,.int .i64 u])),.row false 0 3 v,.row false 0 3 w])
theorem zO7(c:Int) (d e a:List PV) (b:Int):zMa c d e a b =
 zGr c d e a b a (a.length:Int) 0 [] [] []:=((tN_ fi87).join [1,1,1,1] _).trans (by kernel_rfl)
theorem zJc(e:Int) (b:List PV) (f:List PV) (g:List PV) (h:Int) (i:List PV) (j:Int) (a:Int) (c:List (PV×PV)) (k:List PV) (d:List PV):zGr e b f g h i j a c k d =
 bif decide (a<j)then bif decide (0<=a)then i[Int.toNat a]?.bind λ o=>c_s3 o λ n=>(wc W zJD [.slice 3 n,.int .i64 h]).bind λ p=>zM p λ l m=>(zIZ (eqP Cf.cfg (6:Nat) (100:TypeId)) (.agg [.int .i64 l,.int .i64 m]) c).bind λ q=>(PV.asSlice 0 (Option.getD q (.slice 0 []))).bind λ r=>bif (r.length:Int)==0 then bif true&&(decide (((List.length d)+1:Nat)<=4294967296))then zGs e b f g h n i j a c k (d++[.agg [.int .i64 l,.int .i64 m]]) l m else none else zGs e b f g h n i j a c k d l m else none else(W zAq false [AV.fx 0 3,.pv (.fn zC8 [] [])] [.fix 0 3 d]).bind λ s=>zPB s λ u t=>zE1 b f g (b.length:Int) 0 c k t [.int .i64 e,.int .i64 16] [] [] []:=((tN_ fi87).loop [1,1,1,1,1,1,0,1,0] 4 _ rfl).trans (by kernel_rfl)
theorem zO8(e:Int) (f:List PV) (g:List PV) (h:List PV) (i:Int) (j:List PV) (k:List PV) (l:Int) (m:Int) (b:List (PV×PV)) (p:List PV) (n:List PV) (c:Int) (d:Int):zGs e f g h i j k l m b p n c d =
 (gidx (eqP Cf.cfg (6:Nat) (100:TypeId)) (.agg [.int .i64 c,.int .i64 d]) b).bind λ a=>(zT1 0 a b).bind λ o=>bif true&&(decide (((List.length o)+1:Nat)<=4294967296))then bif (((decide (((a:Nat):Int)=((a:Nat):Int)))&&true)&&true)&&true then zGr e f g h i k l (IntKind.wrap .i64 (m+1)) (gset (.slice 0 (o++[.slice 3 j])) a (gput (.agg [.int .i64 c,.int .i64 d]) 0 a b)) [] n else none else none:=((tN_ fi87).join [1,1,1,1,1,1,0,1,0,4,1,1,0,0,1,1,1] _).trans (by kernel_rfl)
theorem zJd(d:List PV) (e:List PV) (f:List PV) (g:Int) (a:Int) (h:List (PV×PV)) (i:List PV) (b:List PV) (c:List PV) (j:List PV) (k:List PV) (l:List PV):zE1 d e f g a h i b c j k l =
 bif decide (a<g)then bif true&&(decide (((List.length c)+1:Nat)<=4294967296))then zE1 d e f g (IntKind.wrap .i64 (a+1)) h i b (c++[.int .i64 (IntKind.wrap .i64 (17+a:Int))]) j k l else none else zE2 d e f (b.length:Int) 0 h i b c j k l:=((tN_ fi87).loop [1,1,1,1,1,1,1,1,1,0,1,0] 9 _ rfl).trans (by kernel_rfl)
theorem zJe(b:List PV) (j:List PV) (k:List PV) (d:Int) (a:Int) (e:List (PV×PV)) (l:List PV) (c:List PV) (f:List PV) (m:List PV) (n:List PV) (g:List PV):zE2 b j k d a e l c f m n g =
 bif decide (a<d)then bif (true&&(decide (0<=a)))&&(decide (a<(c.length:Int)))then c[(0+(Int.toNat a):Nat)]?.bind λ o=>zM o λ h i=>(zIZ (eqP Cf.cfg (6:Nat) (100:TypeId)) (.agg [.int .i64 h,.int .i64 i]) e).bind λ p=>(PV.asSlice 0 (Option.getD p (.slice 0 []))).bind λ q=>(wc W zEq [.int .i64 (q.length:Int)]).bind λ r=>zM r λ s t=>zF7 b j k d a b (b.length:Int) 0 e l c f m n g h i [.agg [.int .i64 h,.int .i64 i],.agg [.int .i64 s,.int .i64 t]]else none else some (.tup [.agg [.slice 0 f,.slice 0 g],.bool true]):=((tN_ fi87).loop [1,1,1,1,1,1,1,1,1,1,0,1,0] 9 _ rfl).trans (by kernel_rfl)
theorem zJf(e:List PV) (b:List PV) (f:List PV) (g:Int) (h:Int) (i:List PV) (j:Int) (a:Int) (c:List (PV×PV)) (k:List PV) (l:List PV) (m:List PV) (n:List PV) (o:List PV) (d:List PV) (p:Int) (q:Int) (r:List PV):zF7 e b f g h i j a c k l m n o d p q r =
 bif decide (a<j)then bif decide (0<=a)then i[Int.toNat a]?.bind λ t=>zA6 t λ u=>(wc W zAG [.slice 0 b,.int .i64 u]).bind λ v=>zA6 v λ w=>(zIZ (eqP Cf.cfg (6:Nat) (100:TypeId)) (.agg [.int .i64 p,.int .i64 q]) c).bind λ s=>(PV.asSlice 0 (Option.getD s (.slice 0 []))).bind λ x=>zGt e b f w g h i j a (Option.getD s (.slice 0 [])) (x.length:Int) 0 c k l m n o d p q r []else none else bif true&&(decide (((List.length d)+1:Nat)<=4294967296))then zE2 e b f g (IntKind.wrap .i64 (h+1)) c k l m n o (d++[.slice 3 r])else none:=((tN_ fi87).loop [1,1,1,1,1,1,1,1,1,1,0,1,0,9,1,1,0,0,1,1,0,1,0] 11 _ rfl).trans (by kernel_rfl)
theorem zJg(e:List PV) (f:List PV) (g:List PV) (b:Int) (h:Int) (i:Int) (j:List PV) (k:Int) (l:Int) (m:PV) (n:Int) (a:Int) (o:List (PV×PV)) (p:List PV) (q:List PV) (r:List PV) (s:List PV) (t:List PV) (u:List PV) (v:Int) (w:Int) (c:List PV) (d:List PV):zGt e f g b h i j k l m n a o p q r s t u v w c d =
 bif decide (a<n)then(PV.asSlice 0 m).bind λ x=>bif decide (0<=a)then x[Int.toNat a]?.bind λ y=>c_s3 y λ z=>bif decide (0<=b)then z[Int.toNat b]?.bind λ A=>zM A λ B C=>bif true&&(decide (((List.length d)+1:Nat)<=4294967296))then zGt e f g b h i j k l m n (IntKind.wrap .i64 (a+1)) o p q r s t u v w c (d++[.agg [.int .i64 B,.int .i64 C]])else none else none else none else(wc W zQB [.slice 3 d]).bind λ D=>zM D λ E F=>bif true&&(decide (((List.length c)+1:Nat)<=4294967296))then zF7 e f g h i j k (IntKind.wrap .i64 (l+1)) o p q r s t u v w (c++[.agg [.int .i64 E,.int .i64 F]])else none:=((tN_ fi87).loop [1,1,1,1,1,1,1,1,1,1,0,1,0,9,1,1,0,0,1,1,0,1,0,11,1,1,0,0,1,1,1,0,1,0] 12 _ rfl).trans (by kernel_rfl)
theorem zWV(a b:List PV) (d:Int) (c:List PV):wc W zLc [.agg [.slice 0 a,.slice 0 b],.int .i64 d,.slice 0 c] =
 (wc W zAG [.slice 0 a,.int .i64 d]).bind λ f=>zA6 f λ e=>(wc W zGK [.agg [.slice 0 a,.slice 0 b]]).bind λ g=>c_b g λ h=>bif !h then some (.tup [.agg [.slice 0 [],.slice 0 []],.bool false])else bif decide (e<0)then some (.tup [.agg [.slice 0 [],.slice 0 []],.bool false])else bif decide (GT.gt (c.length:Int) 4)then some (.tup [.agg [.slice 0 [],.slice 0 []],.bool false])else(wc W zBK [.slice 0 c,.fn zJJ [] [.imm 3 (.agg [.slice 0 a,.slice 0 b]) 0]]).bind λ i=>c_b i λ j=>bif j then some (.tup [.agg [.slice 0 [],.slice 0 []],.bool false])else zMa d c a b e:=gA_ (tN_ fi87)
def zEn(a:PV) (b:List PV) (c d:Int) (e:List PV):Option PV:=(lN_ fi97) [0,1,0,1,1] 1 (St.mk [(1,.pv a),(5,.view 0 0 none),(9,.pv (.slice 6 b)),(10,.pv (.int .i64 c)),(11,.pv (.int .i64 d))] [.row false 0 0 e])
theorem zIf(d:PV) (e:List PV) (f a:Int) (b:List PV):zEn d e f a b =
 bif decide (a<f)then bif decide (0<=a)then e[Int.toNat a]?.bind λ m=>zJ m λ n o p g h=>(wc W zKu [.agg [.int .i64 n,.int .i64 o,.int .i64 p,.int .i64 g,.slice 6 h]]).bind λ i=>zA6 i λ j=>(PV.asFn d).bind λ c=>(wc W (Prod.fst c) (((Prod.fst (Prod.snd c))++[.int .i64 j])++(Prod.snd (Prod.snd c)))).bind λ k=>c_b k λ l=>bif l then bif true&&(decide (((List.length b)+1:Nat)<=4294967296))then zEn d e f (IntKind.wrap .i64 (a+1)) (b++[.int .i64 a])else none else zEn d e f (IntKind.wrap .i64 (a+1)) b else none else some (.slice 0 b):=((tN_ fi97).loop [1,1,0,1,0] 1 _ rfl).trans (by kernel_rfl)
theorem zU3(b a:List PV) (c:Int) (d e:List PV) (f:Int) (g:PV):wc W zHt [.agg [.slice 0 b,.slice 6 a,.int .i64 c,.slice 0 d,.slice 0 e,.int .i64 f],g] =
 zEn g a (a.length:Int) 0 []:=gA_ (tN_ fi97)
def zDV(a:List PV) (b c d e f:Int) (g:List PV):Option (AV×List Ob):=(lO_ fi97 false 3) [0,1,0,1,1] 4 (St.mk [(1,.fnv zEY [] [.own 0 0,.own 1 0,.own 2 0]),(5,.view 3 0 none),(9,.pv (.slice 6 a)),(10,.pv (.int .i64 b)),(11,.pv (.int .i64 c))] [.var false 0 (.pv (.int .i64 d)),.var false 0 (.pv (.int .i64 e)),.var false 0 (.pv (.int .i64 f)),.row false 0 0 g])
theorem zGf(c:List PV) (d a h i j:Int) (b:List PV):zDV c d a h i j b =
 bif decide (a<d)then bif decide (0<=a)then c[Int.toNat a]?.bind λ t=>zJ t λ u k l m n=>(wc W zKu [.agg [.int .i64 u,.int .i64 k,.int .i64 l,.int .i64 m,.slice 6 n]]).bind λ o=>zA6 o λ p=>(W zEY false [.pv (.int .i64 p),.own 0 0,.own 1 0,.own 2 0] [.var false 0 (.pv (.int .i64 h)),.var false 0 (.pv (.int .i64 i)),.var false 0 (.pv (.int .i64 j))]).bind λ q=>zSW q λ r e f g=>c_b r λ s=>bif s then bif true&&(decide (((List.length b)+1:Nat)<=4294967296))then zDV c d (IntKind.wrap .i64 (a+1)) e f g (b++[.int .i64 a])else none else zDV c d (IntKind.wrap .i64 (a+1)) e f g b else none else some (.pv (.slice 0 b),[.var false 0 (.pv (.int .i64 h)),.var false 0 (.pv (.int .i64 i)),.var false 0 (.pv (.int .i64 j))]):=((tO_ fi97 false 3).loop [1,1,0,1,0] 4 _ rfl).trans (by kernel_rfl)
theorem zN9(e a:List PV) (f:Int) (g h:List PV) (i b c d:Int):W zHt false [.pv (.agg [.slice 0 e,.slice 6 a,.int .i64 f,.slice 0 g,.slice 0 h,.int .i64 i]),.fnv zEY [] [.own 0 0,.own 1 0,.own 2 0]] [.var false 0 (.pv (.int .i64 b)),.var false 0 (.pv (.int .i64 c)),.var false 0 (.pv (.int .i64 d))] =
 zDV a (a.length:Int) 0 b c d []:=goO (by kernel_rfl) (by kernel_rfl) (tO_ fi97 false 3) rfl (by kernel_rfl)
theorem zNa(b a:Int):wc W zBB [.int .i64 b,.int .i64 a] =
 some (.bool ((IntKind.wrap .i64 (((BitVec.toNat (HAnd.hAnd (BitVec.ofInt 64 b) (BitVec.ofInt 64 a))):Nat):Int))==a)):=gA_ (tN_ fi98)
theorem zWW(a b:Int):wc W zHY [.agg [.int .i64 a,.int .i64 b]] =
 (wc W zHZ [.agg [.int .i64 a,.int .i64 b]]).bind λ c=>c_b c λ d=>some (.bool !d):=gA_ (tN_ fi99)
theorem z0u(a b:Int):wc W zHZ [.agg [.int .i64 a,.int .i64 b]] =
 bif decide (GE.ge a 0)then bif decide (a<3)then bif a==0 then some (.bool true)else some (.bool (b==0))else some (.bool false)else some (.bool false):=gA_ (tN_ z6T)
theorem zDi(a:List PV) (b:PV):wc W zAW [.slice 3 a,b] =
 (wc W zBV [.slice 3 a,b]).bind λ c=>zA6 c λ d=>some (.bool (decide (GE.ge d 0))):=gA_ (tN_ z6U)
def zGP(b:PV) (c:List PV) (d e:Int) (f g h a:List PV):Option PV:=(lN_ zWD) [0,1,0,1,1] 5 (St.mk [(1,.pv b),(4,.own 0 0),(5,.own 3 0),(13,.pv (.slice 0 c)),(14,.pv (.int .i64 d)),(15,.pv (.int .i64 e))] [.var false 3 (.agg [AV.nil 0,AV.nil 0]),.row false 0 0 f,.row false 0 0 g,.var false 3 (.agg [.pv (.slice 0 h),.view 4 0 none]),.row false 0 0 a])
theorem zKW(d:PV) (e:List PV) (f b:Int) (i j g a:List PV):zGP d e f b i j g a =
 bif decide (b<f)then bif decide (0<=b)then e[Int.toNat b]?.bind λ k=>c_s3 k λ h=>(PV.asFn d).bind λ c=>(wc W (Prod.fst c) (((Prod.fst (Prod.snd c))++[.slice 3 h])++(Prod.snd (Prod.snd c)))).bind λ l=>c_b l λ m=>bif m then(wc W zCQ [.slice 3 h]).bind λ n=>c_s3 n λ o=>bif true&&(decide (((List.length a)+1:Nat)<=4294967296))then zGP d e f (IntKind.wrap .i64 (b+1)) i j g (a++[.slice 3 o])else none else zGP d e f (IntKind.wrap .i64 (b+1)) i j g a else none else some (.agg [.slice 0 g,.slice 0 a]):=((tN_ zWD).loop [1,1,0,1,0] 5 _ rfl).trans (by kernel_rfl)
theorem zZL(b a:List PV) (c:PV):wc W zI9 [.agg [.slice 0 b,.slice 0 a],c] =
 (wc W zB6 [.slice 0 b]).bind λ d=>c_s0 d λ e=>zGP c a (a.length:Int) 0 [] [] e []:=gA_ (tN_ zWD)
def zEO(a:List PV) (b c:Int) (d e f g:List PV):Option (AV×List Ob):=(lO_ zWD true 0) [0,1,0,1,1] 5 (St.mk [(1,.pv (.fn zGL [] [])),(4,.own 0 0),(5,.own 3 0),(13,.pv (.slice 0 a)),(14,.pv (.int .i64 b)),(15,.pv (.int .i64 c))] [.var false 3 (.agg [AV.nil 0,AV.nil 0]),.row false 0 0 d,.row false 0 0 e,.var false 3 (.agg [.pv (.slice 0 f),.view 4 0 none]),.row false 0 0 g])
theorem zIF(c:List PV) (d a:Int) (g h e b:List PV):zEO c d a g h e b =
 bif decide (a<d)then bif decide (0<=a)then c[Int.toNat a]?.bind λ i=>c_s3 i λ f=>(wc W zGL [.slice 3 f]).bind λ j=>c_b j λ k=>bif k then(wc W zCQ [.slice 3 f]).bind λ l=>c_s3 l λ m=>bif true&&(decide (((List.length b)+1:Nat)<=4294967296))then zEO c d (IntKind.wrap .i64 (a+1)) g h e (b++[.slice 3 m])else none else zEO c d (IntKind.wrap .i64 (a+1)) g h e b else none else some (.agg [.pv (.slice 0 e),.view 0 0 none],[.row false 0 0 b]):=((tO_ zWD true 0).loop [1,1,0,1,0] 5 _ rfl).trans (by kernel_rfl)
theorem zQN(b a:List PV):W zI9 true [.pv (.agg [.slice 0 b,.slice 0 a]),.pv (.fn zGL [] [])] [] =
 (wc W zB6 [.slice 0 b]).bind λ c=>c_s0 c λ d=>zEO a (a.length:Int) 0 [] [] d []:=goO (by kernel_rfl) (by kernel_rfl) (tO_ zWD true 0) rfl (by kernel_rfl)
theorem zU4(c d a b:List PV):wc W zHu [.slice 3 c,.imm 0 (.slice 6 d) 0,.imm 3 (.agg [.slice 0 a,.slice 0 b]) 0] =
 (wc W zBT [.slice 6 d,.fn zGE [] [.imm 3 (.agg [.slice 0 a,.slice 0 b]) 0,.imm 0 (.slice 3 c) 0]]).bind λ e=>c_b e λ f=>some (.bool !f):=gA_ (tN_ z6V)
theorem zEP(a:List PV) (b:PV):wc W zBT [.slice 6 a,b] =
 (wc W zB8 [.slice 6 a,b]).bind λ c=>zA6 c λ d=>some (.bool (decide (GE.ge d 0))):=gA_ (tN_ z6W)
theorem zQx(a b c d:Int) (e f g h:List PV):wc W zGE [.agg [.int .i64 a,.int .i64 b,.int .i64 c,.int .i64 d,.slice 6 e],.imm 3 (.agg [.slice 0 f,.slice 0 g]) 0,.imm 0 (.slice 3 h) 0] =
 (wc W zKI [.agg [.int .i64 a,.int .i64 b,.int .i64 c,.int .i64 d,.slice 6 e],.slice 0 f,.slice 3 h]).bind λ i=>c_b i λ j=>some (.bool !j):=gA_ (tN_ z6X)
theorem zU5(a b c d:Int) (e f g:List PV):wc W zKI [.agg [.int .i64 a,.int .i64 b,.int .i64 c,.int .i64 d,.slice 6 e],.slice 0 f,.slice 3 g] =
 (wc W zLe [.agg [.int .i64 a,.int .i64 b,.int .i64 c,.int .i64 d,.slice 6 e],.slice 0 f,.slice 3 g]).bind λ h=>zM h λ i j=>(wc W zHE [.agg [.int .i64 i,.int .i64 j]]).bind λ k=>c_b k λ l=>some (.bool l):=gA_ (tN_ z6Y)
theorem zU6(a:List PV):wc W zGL [.slice 3 a] =
 some (.bool true):=gA_ (tN_ z6Z)
theorem zD0(a:List PV) (b:Int):W zBU false [AV.fx 0 0,.fnv zS [] [.own 1 0]] [.fix 0 0 a,.var false 0 (.pv (.int .i64 b))] =
 (W zD3 false [AV.fx 0 0,.pv (.int .i64 (a.length:Int)),.fnv zS [] [.own 1 0]] [.fix 0 0 a,.var false 0 (.pv (.int .i64 b))]).bind λ c=>zEZ c λ f d e=>some (.pv (.tup []),[.fix 0 0 d,.var false 0 (.pv (.int .i64 e))]):=goO (by kernel_rfl) (by kernel_rfl) (tO_ z60 false 2) rfl (by kernel_rfl)
theorem zNb(b c:List PV) (a:Int):W zS false [.pv (.slice 3 b),.pv (.slice 3 c),.own 0 0] [.var false 0 (.pv (.int .i64 a))] =
 (wc W zJD [.slice 3 b,.int .i64 a]).bind λ d=>zM d λ e f=>(wc W zJD [.slice 3 c,.int .i64 a]).bind λ g=>zM g λ h i=>(wc W zC8 [.agg [.int .i64 e,.int .i64 f],.agg [.int .i64 h,.int .i64 i]]).bind λ j=>zA6 j λ k=>some (.pv (.int .i64 k),[.var false 0 (.pv (.int .i64 a))]):=goO (by kernel_rfl) (by kernel_rfl) (tO_ z61 false 1) rfl (by kernel_rfl)
def zGu(a:PV) (b:List PV) (c d:Int):Option PV:=(lN_ zWE) [0,1,0,1,1] 0 (St.mk [(1,.pv a),(13,.pv (.slice 6 b)),(14,.pv (.int .i64 c)),(15,.pv (.int .i64 d))] [])
theorem zJh(b:PV) (c:List PV) (d a:Int):zGu b c d a =
 bif decide (a<d)then bif decide (0<=a)then c[Int.toNat a]?.bind λ k=>zJ k λ l e f g h=>(wc W zEF [.agg [.int .i64 l,.int .i64 e,.int .i64 f,.int .i64 g,.slice 6 h],b]).bind λ i=>c_b i λ j=>bif !j then some (.bool false)else zGu b c d (IntKind.wrap .i64 (a+1))else none else some (.bool true):=((tN_ zWE).loop [1,1,0,1,0] 0 _ rfl).trans (by kernel_rfl)
theorem zWX(b c d e:Int) (a:List PV) (f:PV):wc W zEF [.agg [.int .i64 b,.int .i64 c,.int .i64 d,.int .i64 e,.slice 6 a],f] =
 (PV.asFn f).bind λ g=>(wc W (Prod.fst g) (((Prod.fst (Prod.snd g))++[.agg [.int .i64 b,.int .i64 c,.int .i64 d,.int .i64 e,.slice 6 a]])++(Prod.snd (Prod.snd g)))).bind λ h=>c_b h λ i=>bif !i then some (.bool false)else zGu f a (a.length:Int) 0:=gA_ (tN_ zWE)
def zEr(a:List PV) (b c d:Int):Option (AV×List Ob):=(lO_ zWE false 1) [0,1,0,1,1] 1 (St.mk [(1,.fnv zEI [] [.own 0 0]),(13,.pv (.slice 6 a)),(14,.pv (.int .i64 b)),(15,.pv (.int .i64 c))] [.var false 0 (.pv (.int .i64 d))])
theorem zH5(b:List PV) (c a d:Int):zEr b c a d =
 bif decide (a<c)then bif decide (0<=a)then b[Int.toNat a]?.bind λ f=>zJ f λ g h i j k=>(W zEF false [.pv (.agg [.int .i64 g,.int .i64 h,.int .i64 i,.int .i64 j,.slice 6 k]),.fnv zEI [] [.own 0 0]] [.var false 0 (.pv (.int .i64 d))]).bind λ l=>zDM l λ m e=>c_b m λ n=>bif !n then some (.pv (.bool false),[.var false 0 (.pv (.int .i64 e))])else zEr b c (IntKind.wrap .i64 (a+1)) e else none else some (.pv (.bool true),[.var false 0 (.pv (.int .i64 d))]):=((tO_ zWE false 1).loop [1,1,0,1,0] 1 _ rfl).trans (by kernel_rfl)
theorem zO9(b c d e:Int) (a:List PV) (f:Int):W zEF false [.pv (.agg [.int .i64 b,.int .i64 c,.int .i64 d,.int .i64 e,.slice 6 a]),.fnv zEI [] [.own 0 0]] [.var false 0 (.pv (.int .i64 f))] =
 (W zEI false [.pv (.agg [.int .i64 b,.int .i64 c,.int .i64 d,.int .i64 e,.slice 6 a]),.own 0 0] [.var false 0 (.pv (.int .i64 f))]).bind λ i=>zDM i λ j g=>c_b j λ h=>bif !h then some (.pv (.bool false),[.var false 0 (.pv (.int .i64 g))])else zEr a (a.length:Int) 0 g:=goO (by kernel_rfl) (by kernel_rfl) (tO_ zWE false 1) rfl (by kernel_rfl)
theorem zU7(a b c d:Int) (e f g h:List PV) (i:Int) (j k:List PV) (l:Int):wc W zGM [.agg [.int .i64 a,.int .i64 b,.int .i64 c,.int .i64 d,.slice 6 e],.imm 2 (.agg [.slice 3 f]) 0,.imm 7 (.agg [.slice 0 g,.slice 6 h,.int .i64 i,.slice 0 j,.slice 0 k,.int .i64 l]) 0] =
 (wc W zG2 [.agg [.int .i64 a,.int .i64 b,.int .i64 c,.int .i64 d,.slice 6 e],.agg [.slice 3 f],.agg [.slice 0 g,.slice 6 h,.int .i64 i,.slice 0 j,.slice 0 k,.int .i64 l]]).bind λ m=>c_b m λ n=>some (.bool n):=gA_ (tN_ z62)
def zDu(f g h i:Int) (j k l m:List PV) (n:Int) (a b:List PV) (c d:Int) (e:Bool):Option PV:=(jN_ z2r) [1,0,1,0,1] (St.mk [(3,.pv (.imm 6 (.agg [.int .i64 f,.int .i64 g,.int .i64 h,.int .i64 i,.slice 6 j]) 0)),(4,.pv (.imm 2 (.agg [.slice 3 k]) 0)),(5,.pv (.imm 7 (.agg [.slice 0 l,.slice 6 m,.int .i64 n,.slice 0 a,.slice 0 b,.int .i64 c]) 0)),(12,.pv (.int .i64 d)),(13,.pv (.bool e))] [])
theorem zKX(s w a e:Int) (f x t u:List PV) (v:Int) (b c:List PV) (d g:Int) (h:Bool):zDu s w a e f x t u v b c d g h =
 bif h then some (.bool true)else bif g==4 then(wc W zEJ [.agg [.int .i64 s,.int .i64 w,.int .i64 a,.int .i64 e,.slice 6 f]]).bind λ y=>zA6 y λ z=>(wc W zKF [.agg [.slice 3 x],.agg [.slice 0 t,.slice 6 u,.int .i64 v,.slice 0 b,.slice 0 c,.int .i64 d],.int .i64 z]).bind λ A=>c_s0 A λ B=>(wc W zBN [.slice 0 B,.int .i64 a]).bind λ C=>c_b C λ D=>some (.bool D)else f[0]?.bind λ E=>zJ E λ i j k l m=>f[1]?.bind λ F=>zJ F λ n o p q r=>(wc W zEJ [.agg [.int .i64 i,.int .i64 j,.int .i64 k,.int .i64 l,.slice 6 m]]).bind λ G=>zA6 G λ H=>(wc W zEJ [.agg [.int .i64 n,.int .i64 o,.int .i64 p,.int .i64 q,.slice 6 r]]).bind λ I=>zA6 I λ J=>(wc W zJK [.agg [.slice 0 t,.slice 6 u,.int .i64 v,.slice 0 b,.slice 0 c,.int .i64 d],.int .i64 H,.int .i64 J]).bind λ K=>c_s3 K λ L=>(wc W zC0 [.slice 3 L,.agg [.int .i64 a,.int .i64 e]]).bind λ M=>c_b M λ N=>bif N then bif s==2 then some (.bool true)else(wc W zGJ [.agg [.int .i64 i,.int .i64 j,.int .i64 k,.int .i64 l,.slice 6 m]]).bind λ O=>zA6 O λ P=>bif P==a then(wc W zGJ [.agg [.int .i64 n,.int .i64 o,.int .i64 p,.int .i64 q,.slice 6 r]]).bind λ Q=>zA6 Q λ R=>some (.bool (R==e))else some (.bool false)else some (.bool false):=((tN_ z2r).join [1,0,1,0,1] _).trans (by kernel_rfl)
theorem zOa(a b c d:Int) (e f g h:List PV) (i:Int) (j k:List PV) (l:Int):wc W zG2 [.agg [.int .i64 a,.int .i64 b,.int .i64 c,.int .i64 d,.slice 6 e],.agg [.slice 3 f],.agg [.slice 0 g,.slice 6 h,.int .i64 i,.slice 0 j,.slice 0 k,.int .i64 l]] =
 bif a==0 then zDu a b c d e f g h i j k l a (a==0)else zDu a b c d e f g h i j k l a (a==1):=gA_ (tN_ z2r)
theorem zMb(b c:List PV) (a:Int):W zC9 false [.pv (.slice 3 b),.pv (.imm 2 (.agg [.slice 3 c]) 0),.own 0 0] [.var false 0 (.pv (.int .i64 a))] =
 bif decide (0<=a)then c[Int.toNat a]?.bind λ d=>(PV.load 3 d 0 0).bind λ e=>zA6 e λ f=>(wc W zN2 [.slice 3 b,.int .i64 f]).bind λ g=>c_b g λ h=>some (.pv (.bool !h),[.var false 0 (.pv (.int .i64 a))])else none:=goO (by kernel_rfl) (by kernel_rfl) (tO_ z63 false 1) rfl (by kernel_rfl)
theorem zZM(a:List PV) (b:Int):wc W zN2 [.slice 3 a,.int .i64 b] =
 bif (a.length:Int)==b then(wc W zAW [.slice 3 a,.fn zHw [] []]).bind λ c=>c_b c λ d=>some (.bool !d)else some (.bool false):=gA_ (tN_ z64)
theorem zDF(a b:List PV) (c:Int):W zBL false [.pv (.slice 0 a),.fnv zC9 [] [.pv (.imm 2 (.agg [.slice 3 b]) 0),.own 0 0]] [.var false 0 (.pv (.int .i64 c))] =
 (W zCR false [.pv (.slice 0 a),.fnv zC9 [] [.pv (.imm 2 (.agg [.slice 3 b]) 0),.own 0 0]] [.var false 0 (.pv (.int .i64 c))]).bind λ d=>zDM d λ e f=>zA6 e λ g=>some (.pv (.bool (decide (GE.ge g 0))),[.var false 0 (.pv (.int .i64 f))]):=goO (by kernel_rfl) (by kernel_rfl) (tO_ z65 false 1) rfl (by kernel_rfl)
def zEs(d e f g:List PV) (h:Int) (i j:List PV) (k:Int) (l:List PV) (a b:Int) (c:List PV):Option PV:=(lN_ z2s) [0,1,0,1,1] 1 (St.mk [(2,.pv (.imm 9 (.agg [.slice 3 d,.slice 0 e,.slice 0 f,.slice 6 g,.int .i64 h,.slice 0 i,.slice 0 j,.int .i64 k]) 0)),(5,.view 0 0 none),(8,.pv (.slice 0 l)),(9,.pv (.int .i64 a)),(10,.pv (.int .i64 b))] [.row false 0 6 c])
theorem zH6(g h i e:List PV) (j:Int) (k l:List PV) (m:Int) (f:List PV) (c a:Int) (b:List PV):zEs g h i e j k l m f c a b =
 bif decide (a<c)then bif decide (0<=a)then f[Int.toNat a]?.bind λ n=>zA6 n λ d=>bif decide (0<=d)then e[Int.toNat d]?.bind λ o=>zJ o λ p q r s t=>bif true&&(decide (((List.length b)+1:Nat)<=4294967296))then zEs g h i e j k l m f c (IntKind.wrap .i64 (a+1)) (b++[.agg [.int .i64 p,.int .i64 q,.int .i64 r,.int .i64 s,.slice 6 t]])else none else none else none else some (.slice 6 b):=((tN_ z2s).loop [1,1,0,1,0] 1 _ rfl).trans (by kernel_rfl)
theorem zQy(a b c d:List PV) (e:Int) (f g:List PV) (h:Int) (i:List PV):wc W zDn [.agg [.slice 3 a,.slice 0 b,.slice 0 c,.slice 6 d,.int .i64 e,.slice 0 f,.slice 0 g,.int .i64 h],.slice 0 i] =
 zEs a b c d e f g h i (i.length:Int) 0 []:=gA_ (tN_ z2s)
theorem z0v(a b c d:Int) (e:List PV):wc W zF1 [.agg [.int .i64 a,.int .i64 b,.int .i64 c,.int .i64 d,.slice 6 e]] =
 (wc W zHT [.agg [.int .i64 a,.int .i64 b,.int .i64 c,.int .i64 d,.slice 6 e]]).bind λ f=>f.asTup.bind λ h=>h[0]?.bind λ i=>zCV i λ j k=>f.asTup.bind λ l=>l[1]?.bind λ m=>c_b m λ o=>(wc W zHD [.agg [.int .i64 j,.slice 3 k]]).bind λ n=>zA6 n λ g=>some (.int .i64 g):=gA_ (tN_ z67)
theorem zOb(e f g h:List PV) (i:Int) (j k:List PV) (l m n:Int) (a b c d:List PV):wc W zDf [.agg [.slice 3 e,.slice 0 f,.slice 0 g,.slice 6 h,.int .i64 i,.slice 0 j,.slice 0 k,.int .i64 l],.agg [.int .i64 m,.int .i64 n],.agg [.slice 0 a,.slice 0 b],.agg [.slice 0 c,.slice 0 d]] =
 (wc W zJE [.agg [.slice 0 a,.slice 0 b],.agg [.slice 0 c,.slice 0 d]]).bind λ o=>o.asTup.bind λ p=>p[0]?.bind λ q=>zAR q λ r s=>o.asTup.bind λ t=>t[1]?.bind λ u=>c_b u λ v=>some (.agg [.slice 0 r,.slice 0 s]):=gA_ (tN_ z68)
def zDA(g h i j:List PV) (k a:Int) (b:List PV) (c d:Int) (e:List (PV×PV)) (f:List PV):Option PV:=(lN_ zUL) [0,1,0,1,1,1] 3 (St.mk [(6,.pv (.imm 3 (.agg [.slice 0 g,.slice 0 h]) 0)),(7,.pv (.imm 3 (.agg [.slice 0 i,.slice 0 j]) 0)),(8,.own 0 0),(9,.pv (.int .i64 k)),(10,.pv (.int .i64 a)),(11,AV.gm 1),(35,.pv (.slice 0 b)),(36,.pv (.int .i64 c)),(37,.pv (.int .i64 d))] [.var false 3 (.agg [AV.nil 0,AV.nil 0]),.grp 0 none e,.row true 0 0 f])
def zBr(a:Int) (b:List PV) (c d:Int) (e:List (PV×PV)) (f g h i j:List PV):Option PV:=(lN_ zUL) [0,1,0,1,1,1,1,1] 7 (St.mk [(8,.own 0 0),(9,.pv (.int .i64 a)),(11,AV.gm 1),(16,.own 5 0),(65,.pv (.slice 0 b)),(66,.pv (.int .i64 c)),(67,.pv (.int .i64 d))] [.var false 3 (.agg [AV.nil 0,AV.nil 0]),.grp 0 none e,.row true 0 0 f,.row false 0 0 g,.row false 0 0 h,.var false 3 (.agg [.pv (.slice 0 i),.view 6 0 none]),.row false 0 0 j])
def zDv(a:Int) (b c:List PV) (d e:Int) (f:PV) (g h:Int) (i:List (PV×PV)) (j k l m n:List PV) (o p:Int):Option PV:=(lN_ zUL) [0,1,1,1,1,0,0,1,1,7,0,1,0,1,1,1,1,1] 8 (St.mk [(8,.own 0 0),(9,.pv (.int .i64 a)),(11,AV.gm 1),(16,.own 5 0),(18,.pv (.slice 3 b)),(65,.pv (.slice 0 c)),(66,.pv (.int .i64 d)),(67,.pv (.int .i64 e)),(81,.pv f),(82,.pv (.int .i64 g)),(83,.pv (.int .i64 h))] [.var false 3 (.agg [AV.nil 0,AV.nil 0]),.grp 0 none i,.row true 0 0 j,.row false 0 0 k,.row false 0 0 l,.var false 3 (.agg [.pv (.slice 0 m),.view 6 0 none]),.row false 0 0 n,.var false 3 (.pv (.agg [.int .i64 o,.int .i64 p]))])
theorem zGQ(i:List PV) (g:List PV) (j:List PV) (q:List PV) (k:Int) (d:Int) (e:List PV) (f:Int) (a:Int) (b:List (PV×PV)) (h:List PV):zDA i g j q k d e f a b h =
 bif decide (a<f)then bif decide (0<=a)then e[Int.toNat a]?.bind λ r=>c_s3 r λ l=>(wc W zJL [.slice 3 l,.int .i64 d]).bind λ m=>m.asTup.bind λ s=>s[0]?.bind λ t=>zM t λ n o=>m.asTup.bind λ u=>u[1]?.bind λ v=>c_b v λ w=>bif w then(gidx (eqP Cf.cfg (6:Nat) (196:TypeId)) (.agg [.int .i64 n,.int .i64 o]) b).bind λ c=>(zT1 0 c b).bind λ p=>bif true&&(decide (((List.length p)+1:Nat)<=4294967296))then bif (((decide (((c:Nat):Int)=((c:Nat):Int)))&&true)&&true)&&true then zDA i g j q k d e f (IntKind.wrap .i64 (a+1)) (gset (.slice 0 (p++[.slice 3 l])) c (gput (.agg [.int .i64 n,.int .i64 o]) 0 c b)) []else none else none else zDA i g j q k d e f (IntKind.wrap .i64 (a+1)) b h else none else(wc W zBp [.slice 0 [.slice 0 i,.slice 0 j]]).bind λ x=>c_s0 x λ y=>zBr k g (g.length:Int) 0 b h [] [] y []:=((tN_ zUL).loop [1,1,1,0,1,0] 3 _ rfl).trans (by kernel_rfl)
theorem zGR(b:Int) (c:List PV) (d:Int) (a:Int) (e:List (PV×PV)) (h:List PV) (i:List PV) (j:List PV) (f:List PV) (g:List PV):zBr b c d a e h i j f g =
 bif decide (a<d)then bif decide (0<=a)then c[Int.toNat a]?.bind λ p=>c_s3 p λ k=>(wc W zJL [.slice 3 k,.int .i64 b]).bind λ l=>l.asTup.bind λ q=>q[0]?.bind λ r=>zM r λ m n=>l.asTup.bind λ s=>s[1]?.bind λ t=>c_b t λ u=>bif !u then zBr b c d (IntKind.wrap .i64 (a+1)) e h i j f g else(zIZ (eqP Cf.cfg (6:Nat) (196:TypeId)) (.agg [.int .i64 m,.int .i64 n]) e).bind λ o=>(PV.asSlice 0 (Option.getD o (.slice 0 []))).bind λ v=>zDv b k c d a (Option.getD o (.slice 0 [])) (v.length:Int) 0 e h i j f g m n else none else some (.agg [.slice 0 f,.slice 0 g]):=((tN_ zUL).loop [1,1,1,1,1,0,1,0] 7 _ rfl).trans (by kernel_rfl)
theorem zGS(c:Int) (d:List PV) (e:List PV) (f:Int) (g:Int) (h:PV) (i:Int) (a:Int) (j:List (PV×PV)) (k:List PV) (l:List PV) (m:List PV) (n:List PV) (b:List PV) (o:Int) (p:Int):zDv c d e f g h i a j k l m n b o p =
 bif decide (a<i)then(PV.asSlice 0 h).bind λ q=>bif decide (0<=a)then q[Int.toNat a]?.bind λ r=>c_s3 r λ s=>(wc W zKv [.slice 3 d,.slice 3 s]).bind λ t=>c_s3 t λ u=>bif true&&(decide (((List.length b)+1:Nat)<=4294967296))then zDv c d e f g h i (IntKind.wrap .i64 (a+1)) j k l m n (b++[.slice 3 u]) o p else none else none else zBr c e f (IntKind.wrap .i64 (g+1)) j k l m n b:=((tN_ zUL).loop [1,1,1,1,1,0,1,0,7,1,1,0,0,1,1,1,1,0] 8 _ rfl).trans (by kernel_rfl)
theorem zOc(g h i j:List PV) (k:Int) (l m:List PV) (n d e:Int) (b f c a:List PV):wc W zDg [.agg [.slice 3 g,.slice 0 h,.slice 0 i,.slice 6 j,.int .i64 k,.slice 0 l,.slice 0 m,.int .i64 n],.agg [.int .i64 d,.int .i64 e],.agg [.slice 0 b,.slice 0 f],.agg [.slice 0 c,.slice 0 a]] =
 (wc W zAG [.slice 0 b,.int .i64 d]).bind λ o=>zA6 o λ p=>(wc W zAG [.slice 0 c,.int .i64 e]).bind λ q=>zA6 q λ r=>zDA b f c a p r a (a.length:Int) 0 [] []:=gA_ (tN_ zUL)
def zCE(j k:List PV) (l a b:Int) (c:List PV) (d e:Int) (f g h i:List PV):Option PV:=(lN_ zOZ) [0,1,0,1,1,1,1] 5 (St.mk [(7,.pv (.imm 3 (.agg [.slice 0 j,.slice 0 k]) 0)),(8,.own 0 0),(9,.pv (.int .i64 l)),(10,.pv (.int .i64 a)),(11,.own 3 0),(12,.pv (.int .i64 b)),(34,.pv (.slice 0 c)),(35,.pv (.int .i64 d)),(36,.pv (.int .i64 e))] [.var false 3 (.agg [AV.nil 0,AV.nil 0]),.row false 0 0 f,.row false 0 0 g,.var false 3 (.agg [.pv (.slice 0 h),.view 4 0 none]),.row false 0 0 i])
def zDb(a b:List PV) (c d e:Int) (f g:List PV) (h i:Int) (j k l m:List PV):Option PV:=(lN_ zOZ) [0,0,1,0,0,1,1,5,0,1,0,1,1,1,1] 5 (St.mk [(7,.pv (.imm 3 (.agg [.slice 0 a,.slice 0 b]) 0)),(8,.own 0 0),(9,.pv (.int .i64 c)),(10,.pv (.int .i64 d)),(11,.own 3 0),(12,.pv (.int .i64 e)),(14,.pv (.slice 3 f)),(34,.pv (.slice 0 g)),(35,.pv (.int .i64 h)),(36,.pv (.int .i64 i))] [.var false 3 (.agg [AV.nil 0,AV.nil 0]),.row false 0 0 j,.row false 0 0 k,.var false 3 (.agg [.pv (.slice 0 l),.view 4 0 none]),.row false 0 0 m])
def zFB(a b:List PV) (c d e:Int) (f g:List PV) (h i:Int) (j k l m:List PV):Option PV:=(jN_ zOZ) [1,1,0,0,1,1,5,0,1,0,1,1,1,1] (St.mk [(7,.pv (.imm 3 (.agg [.slice 0 a,.slice 0 b]) 0)),(8,.own 0 0),(9,.pv (.int .i64 c)),(10,.pv (.int .i64 d)),(11,.own 3 0),(12,.pv (.int .i64 e)),(14,.pv (.slice 3 f)),(34,.pv (.slice 0 g)),(35,.pv (.int .i64 h)),(36,.pv (.int .i64 i))] [.var false 3 (.agg [AV.nil 0,AV.nil 0]),.row false 0 0 j,.row false 0 0 k,.var false 3 (.agg [.pv (.slice 0 l),.view 4 0 none]),.row false 0 0 m])
def zCk(a b:List PV) (c d e:Int) (f:List PV) (g:Int) (h:List PV) (i j:Int) (k l m n:List PV):Option PV:=(lN_ zOZ) [0,1,1,1,0,0,1,1,5,0,1,0,1,1,1,1] 5 (St.mk [(7,.pv (.imm 3 (.agg [.slice 0 a,.slice 0 b]) 0)),(8,.own 0 0),(9,.pv (.int .i64 c)),(10,.pv (.int .i64 d)),(11,.own 3 0),(12,.pv (.int .i64 e)),(14,.pv (.slice 3 f)),(15,.pv (.int .i64 g)),(34,.pv (.slice 0 h)),(35,.pv (.int .i64 i)),(36,.pv (.int .i64 j))] [.var false 3 (.agg [AV.nil 0,AV.nil 0]),.row false 0 0 k,.row false 0 0 l,.var false 3 (.agg [.pv (.slice 0 m),.view 4 0 none]),.row false 0 0 n])
def zH7(a b:List PV) (c d e:Int) (f:List PV) (g:Int) (h:List PV) (i j:Int) (k l m n:List PV):Option PV:=(jN_ zOZ) [1,5,0,1,1,1,0,0,1,1,5,0,1,0,1,1,1,1] (St.mk [(7,.pv (.imm 3 (.agg [.slice 0 a,.slice 0 b]) 0)),(8,.own 0 0),(9,.pv (.int .i64 c)),(10,.pv (.int .i64 d)),(11,.own 3 0),(12,.pv (.int .i64 e)),(14,.pv (.slice 3 f)),(15,.pv (.int .i64 g)),(34,.pv (.slice 0 h)),(35,.pv (.int .i64 i)),(36,.pv (.int .i64 j))] [.var false 3 (.agg [AV.nil 0,AV.nil 0]),.row false 0 0 k,.row false 0 0 l,.var false 3 (.agg [.pv (.slice 0 m),.view 4 0 none]),.row false 0 0 n])
theorem zFg(j k:List PV) (l f g:Int) (b:List PV) (c a:Int) (h i d e:List PV):zCE j k l f g b c a h i d e =
 bif decide (a<c)then bif decide (0<=a)then b[Int.toNat a]?.bind λ m=>c_s3 m λ n=>zDb j k l f g n b c a h i d e else none else some (.agg [.slice 0 d,.slice 0 e]):=((tN_ zOZ).loop [1,1,1,1,0,1,0] 5 _ rfl).trans (by kernel_rfl)
theorem zFh(f b:List PV) (c d a:Int) (e g:List PV) (h i:Int) (j k l m:List PV):zDb f b c d a e g h i j k l m =
 bif decide (a<(b.length:Int))then bif decide (0<=a)then b[Int.toNat a]?.bind λ n=>c_s3 n λ o=>bif decide (0<=d)then o[Int.toNat d]?.bind λ p=>zM p λ q r=>bif decide (0<=c)then e[Int.toNat c]?.bind λ s=>zM s λ t u=>(wc W zN4 [.agg [.int .i64 q,.int .i64 r],.agg [.int .i64 t,.int .i64 u]]).bind λ v=>c_b v λ w=>bif w then zDb f b c d (IntKind.wrap .i64 (a+1)) e g h i j k l m else zFB f b c d a e g h i j k l m else none else none else none else zFB f b c d a e g h i j k l m:=((tN_ zOZ).loop [1,1,1,1,0,1,0,5,1,1,0,0,1,0,0] 5 _ rfl).trans (by kernel_rfl)
theorem zFi(b c:List PV) (d e a:Int) (f g:List PV) (h i:Int) (j k l m:List PV):zFB b c d e a f g h i j k l m =
 zCk b c d e a f a g h i j k l m:=((tN_ zOZ).join [1,1,1,1,0,1,0,5,1,1,0,0,1,1] _).trans (by kernel_rfl)
theorem zFj(e a:List PV) (b c f:Int) (n:List PV) (d:Int) (g:List PV) (h i:Int) (j k l m:List PV):zCk e a b c f n d g h i j k l m =
 bif decide (d<(a.length:Int))then bif decide (0<=d)then a[Int.toNat d]?.bind λ o=>c_s3 o λ p=>bif decide (0<=c)then p[Int.toNat c]?.bind λ q=>zM q λ r s=>bif decide (0<=b)then n[Int.toNat b]?.bind λ t=>zM t λ u v=>(wc W zMU [.agg [.int .i64 r,.int .i64 s],.agg [.int .i64 u,.int .i64 v]]).bind λ w=>zM w λ x y=>(wc W zHE [.agg [.int .i64 x,.int .i64 y]]).bind λ z=>c_b z λ A=>bif A then zH7 e a b c f n d g h i j k l m else zCE e a b c f g h (IntKind.wrap .i64 (i+1)) j k l m else none else none else none else zCE e a b c f g h (IntKind.wrap .i64 (i+1)) j k l m:=((tN_ zOZ).loop [1,1,1,1,0,1,0,5,1,1,0,0,1,1,1,0] 5 _ rfl).trans (by kernel_rfl)
theorem zJn(e b:List PV) (f g h:Int) (c:List PV) (a:Int) (i:List PV) (j k:Int) (l m n d:List PV):zH7 e b f g h c a i j k l m n d =
 bif decide (0<=a)then b[Int.toNat a]?.bind λ q=>c_s3 q λ r=>(wc W zKv [.slice 3 c,.slice 3 r]).bind λ o=>c_s3 o λ p=>bif true&&(decide (((List.length d)+1:Nat)<=4294967296))then zCk e b f g h c (IntKind.wrap .i64 (a+1)) i j k l m n (d++[.slice 3 p])else none else none:=((tN_ zOZ).join [1,1,1,1,0,1,0,5,1,1,0,0,1,1,1,0,5,1] _).trans (by kernel_rfl)
theorem zNc(g h i j:List PV) (k:Int) (l m:List PV) (n d e:Int) (b c a f:List PV):wc W zDR [.agg [.slice 3 g,.slice 0 h,.slice 0 i,.slice 6 j,.int .i64 k,.slice 0 l,.slice 0 m,.int .i64 n],.agg [.int .i64 d,.int .i64 e],.agg [.slice 0 b,.slice 0 c],.agg [.slice 0 a,.slice 0 f]] =
 (wc W zAG [.slice 0 b,.int .i64 d]).bind λ o=>zA6 o λ p=>(wc W zAG [.slice 0 a,.int .i64 e]).bind λ q=>zA6 q λ r=>(wc W zBp [.slice 0 [.slice 0 b,.slice 0 a]]).bind λ s=>c_s0 s λ t=>zCE a f p r 0 c (c.length:Int) 0 [] [] t []:=gA_ (tN_ zOZ)
def zCs(a b c:List PV) (d e:Int):Option PV:=(lN_ z2t) [0,1,0,1] 0 (St.mk [(0,.pv (.slice 0 a)),(1,.pv (.slice 0 b)),(9,.pv (.slice 0 c)),(10,.pv (.int .i64 d)),(11,.pv (.int .i64 e))] [])
theorem zC3(d b e:List PV) (f a:Int):zCs d b e f a =
 bif decide (a<f)then bif decide (0<=a)then e[Int.toNat a]?.bind λ h=>zA6 h λ i=>bif decide (GE.ge a (b.length:Int))then some (.int .i64 1)else bif decide (0<=a)then b[Int.toNat a]?.bind λ j=>zA6 j λ k=>(wc W zDT [.int .i64 i,.int .i64 k]).bind λ g=>zA6 g λ c=>bif c != 0 then some (.int .i64 c)else zCs d b e f (IntKind.wrap .i64 (a+1))else none else none else bif decide ((d.length:Int)<(b.length:Int))then some (.int .i64 (-1))else some (.int .i64 0):=((tN_ z2t).loop [1,0,1,0] 0 _ rfl).trans (by kernel_rfl)
theorem zIg(a b:List PV):wc W zFI [.slice 0 a,.slice 0 b] =
 zCs a b a (a.length:Int) 0:=gA_ (tN_ z2t)
def zBW(a b:List PV) (c:Int) (d e:List PV) (f:Int) (g:Bool):Option PV:=(jN_ zUM) [1,1] (St.mk [(3,.pv (.imm 7 (.agg [.slice 0 a,.slice 6 b,.int .i64 c,.slice 0 d,.slice 0 e,.int .i64 f]) 0)),(5,.pv (.bool g))] [])
def zDB(g h:List PV) (a:Int) (b c:List PV) (d:Int) (e:Bool) (f:Int):Option PV:=(lN_ zUM) [0,1,0,1,1] 0 (St.mk [(3,.pv (.imm 7 (.agg [.slice 0 g,.slice 6 h,.int .i64 a,.slice 0 b,.slice 0 c,.int .i64 d]) 0)),(5,.pv (.bool e)),(6,.pv (.int .i64 f))] [])
def zGT(a b:List PV) (c:Int) (d e:List PV) (f g:Int):Option PV:=(jN_ zUM) [1,0,0,1,0,1,1] (St.mk [(3,.pv (.imm 7 (.agg [.slice 0 a,.slice 6 b,.int .i64 c,.slice 0 d,.slice 0 e,.int .i64 f]) 0)),(6,.pv (.int .i64 g))] [])
theorem zIh(a b:List PV) (c:Int) (d e:List PV) (f:Int) (g:Bool):zBW a b c d e f g =
 zDB a b c d e f g 0:=((tN_ zUM).join [1,1] _).trans (by kernel_rfl)
theorem zFM(h g:List PV) (c:Int) (d e:List PV) (f:Int) (a:Bool) (b:Int):zDB h g c d e f a b =
 bif decide (b<(g.length:Int))then bif a then zGT h g c d e f b else some (.bool a)else some (.bool a):=((tN_ zUM).loop [1,1,0,1,0] 0 _ rfl).trans (by kernel_rfl)
theorem zIi(c b:List PV) (d:Int) (e f:List PV) (g a:Int):zGT c b d e f g a =
 bif decide (0<=a)then b[Int.toNat a]?.bind λ h=>zJ h λ i j k l m=>(wc W zFA [.agg [.int .i64 i,.int .i64 j,.int .i64 k,.int .i64 l,.slice 6 m],.int .i64 60]).bind λ n=>c_b n λ o=>zDB c b d e f g o (IntKind.wrap .i64 (a+1))else none:=((tN_ zUM).join [1,1,0,1,0,0,1] _).trans (by kernel_rfl)
theorem zLp(g a b:List PV) (e:Int) (c d:List PV) (f:Int):wc W zCj [.agg [.slice 3 g],.agg [.slice 0 a,.slice 6 b,.int .i64 e,.slice 0 c,.slice 0 d,.int .i64 f]] =
 bif decide ((g.length:Int)<=10)then bif decide ((a.length:Int)<=20)then bif decide ((b.length:Int)<=8)then bif decide ((c.length:Int)<=20)then zBW a b e c d f (decide ((d.length:Int)<=20))else zBW a b e c d f false else zBW a b e c d f false else zBW a b e c d f false else zBW a b e c d f false:=gA_ (tN_ zUM)
def zBf(a:List PV) (b:Bool) (c:Int):Option PV:=(lN_ zQt) [0,1,0,1,1] 0 (St.mk [(1,.pv (.imm 2 (.agg [.slice 0 a]) 0)),(3,.pv (.bool b)),(4,.pv (.int .i64 c))] [])
def zGU(a:List PV) (b:Int):Option PV:=(jN_ zQt) [1,0,0,1,0,1,1] (St.mk [(1,.pv (.imm 2 (.agg [.slice 0 a]) 0)),(4,.pv (.int .i64 b))] [])
def zDC(c:List PV) (d:Bool) (a b:Int):Option PV:=(lN_ zQt) [0,1,1,0,0,1,0,0,1,0,1,1] 0 (St.mk [(1,.pv (.imm 2 (.agg [.slice 0 c]) 0)),(3,.pv (.bool d)),(4,.pv (.int .i64 a)),(5,.pv (.int .i64 b))] [])
def zGV(a:List PV) (b c:Int):Option PV:=(jN_ zQt) [1,0,0,1,1,0,0,1,0,0,1,0,1,1] (St.mk [(1,.pv (.imm 2 (.agg [.slice 0 a]) 0)),(4,.pv (.int .i64 b)),(5,.pv (.int .i64 c))] [])
theorem zFN(b:List PV) (a:Bool) (c:Int):zBf b a c =
 bif decide (c<(b.length:Int))then bif a then zGU b c else some (.bool a)else some (.bool a):=((tN_ zQt).loop [1,1,0,1,0] 0 _ rfl).trans (by kernel_rfl)
theorem zIj(b:List PV) (a:Int):zGU b a =
 bif decide (0<=a)then b[Int.toNat a]?.bind λ c=>c_s0 c λ d=>zDC b (decide ((d.length:Int)<=20)) a 0 else none:=((tN_ zQt).join [1,1,0,1,0,0,1] _).trans (by kernel_rfl)
theorem zFO(b:List PV) (d:Bool) (a c:Int):zDC b d a c =
 bif decide (0<=a)then b[Int.toNat a]?.bind λ e=>c_s0 e λ f=>bif decide (c<(f.length:Int))then bif d then zGV b a c else zBf b d (IntKind.wrap .i64 (a+1))else zBf b d (IntKind.wrap .i64 (a+1))else none:=((tN_ zQt).loop [1,1,0,1,0,0,1,0,0,1,1,0] 0 _ rfl).trans (by kernel_rfl)
theorem zIk(c:List PV) (a b:Int):zGV c a b =
 bif decide (0<=a)then c[Int.toNat a]?.bind λ d=>c_s0 d λ e=>bif decide (0<=b)then e[Int.toNat b]?.bind λ f=>c_s3 f λ g=>zDC c (decide ((g.length:Int)<=20)) a (IntKind.wrap .i64 (b+1))else none else none:=((tN_ zQt).join [1,1,0,1,0,0,1,0,0,1,1,0,0,1] _).trans (by kernel_rfl)
theorem zLq(a:List PV):wc W zEz [.agg [.slice 0 a]] =
 zBf a (decide ((a.length:Int)<=10)) 0:=gA_ (tN_ zQt)
theorem z0w(a b c:Int):wc W zF2 [.int .i64 a,.int .i64 b,.int .i64 c] =
 bif decide (GE.ge a b)then some (.bool (decide (a<=c)))else some (.bool false):=gA_ (tN_ z69)
def zOL(a b:Int):Option PV:=(jN_ z2u) [1,1] (St.mk [(0,.pv (.int .i64 a)),(1,.pv (.int .i64 b))] [])
theorem zQO(a b:Int):zOL a b =
 some (.int .i64 (IntKind.wrap .i64 ((IntKind.wrap .i64 (4*a:Int))+b:Int))):=((tN_ z2u).join [1,1] _).trans (by kernel_rfl)
theorem zZN(a b:Int):wc W zIa [.int .i64 a,.int .i64 b] =
 (wc W zF2 [.int .i64 a,.int .i64 0,.int .i64 3]).bind λ c=>c_b c λ d=>bif !d then some (.int .i64 (-1))else(wc W zF2 [.int .i64 b,.int .i64 0,.int .i64 3]).bind λ e=>c_b e λ f=>bif !f then some (.int .i64 (-1))else zOL a b:=gA_ (tN_ z2u)
def zCP(a:List PV) (b:Int) (c:List PV) (d e:Int):Option PV:=(lN_ zYo) [0,1,0,1,1] 0 (St.mk [(0,.pv (.slice 0 a)),(3,.pv (.int .i64 b)),(9,.pv (.slice 0 c)),(10,.pv (.int .i64 d)),(11,.pv (.int .i64 e))] [])
def zB9(a:List PV) (b c:Int) (d:List PV):Option PV:=(lN_ zYo) [0,1,0,1,1,1,1] 1 (St.mk [(6,.view 0 0 none),(25,.pv (.slice 0 a)),(26,.pv (.int .i64 b)),(27,.pv (.int .i64 c))] [.row false 0 0 d])
theorem zDw(b:List PV) (c:Int) (d:List PV) (e a:Int):zCP b c d e a =
 bif decide (a<e)then bif decide (0<=a)then d[Int.toNat a]?.bind λ h=>c_s0 h λ f=>bif decide ((IntKind.wrap .i64 (c+(f.length:Int):Int))<0)then none else zCP b (IntKind.wrap .i64 (c+(f.length:Int):Int)) d e (IntKind.wrap .i64 (a+1))else none else(W zEK true [AV.nil 0,.pv (.int .i64 c)] []).bind λ i=>zSZ i λ g=>zB9 b (b.length:Int) 0 g:=((tN_ zYo).loop [1,1,0,1,0] 0 _ rfl).trans (by kernel_rfl)
theorem zDx(c:List PV) (d a:Int) (b:List PV):zB9 c d a b =
 bif decide (a<d)then bif decide (0<=a)then c[Int.toNat a]?.bind λ f=>c_s0 f λ e=>bif true&&(decide (((List.length b)+(List.length e):Nat)<=4294967296))then zB9 c d (IntKind.wrap .i64 (a+1)) (b++e)else none else none else some (.slice 0 b):=((tN_ zYo).loop [1,1,1,1,0,1,0] 1 _ rfl).trans (by kernel_rfl)
theorem zJT(a:List PV):wc W zBp [.slice 0 a] =
 zCP a 0 a (a.length:Int) 0:=gA_ (tN_ zYo)
def zBQ(a:List PV) (b:Int) (c:List PV) (d e:Int):Option PV:=(lN_ zYp) [0,1,0,1,1] 0 (St.mk [(0,.pv (.slice 0 a)),(3,.pv (.int .i64 b)),(9,.pv (.slice 0 c)),(10,.pv (.int .i64 d)),(11,.pv (.int .i64 e))] [])
def zAs(a:List PV) (b c:Int) (d:List PV):Option PV:=(lN_ zYp) [0,1,0,1,1,1,1] 1 (St.mk [(6,.view 0 0 none),(25,.pv (.slice 0 a)),(26,.pv (.int .i64 b)),(27,.pv (.int .i64 c))] [.row false 0 3 d])
theorem zCf(b:List PV) (c:Int) (d:List PV) (e a:Int):zBQ b c d e a =
 bif decide (a<e)then bif decide (0<=a)then d[Int.toNat a]?.bind λ h=>c_s3 h λ f=>bif decide ((IntKind.wrap .i64 (c+(f.length:Int):Int))<0)then none else zBQ b (IntKind.wrap .i64 (c+(f.length:Int):Int)) d e (IntKind.wrap .i64 (a+1))else none else(W zC1 true [AV.nil 3,.pv (.int .i64 c)] []).bind λ i=>zXb i λ g=>zAs b (b.length:Int) 0 g:=((tN_ zYp).loop [1,1,0,1,0] 0 _ rfl).trans (by kernel_rfl)
theorem zCg(c:List PV) (d a:Int) (b:List PV):zAs c d a b =
 bif decide (a<d)then bif decide (0<=a)then c[Int.toNat a]?.bind λ f=>c_s3 f λ e=>bif true&&(decide (((List.length b)+(List.length e):Nat)<=4294967296))then zAs c d (IntKind.wrap .i64 (a+1)) (b++e)else none else none else some (.slice 3 b):=((tN_ zYp).loop [1,1,1,1,0,1,0] 1 _ rfl).trans (by kernel_rfl)
theorem zFw(a:List PV):wc W zBX [.slice 0 a] =
 zBQ a 0 a (a.length:Int) 0:=gA_ (tN_ zYp)
theorem zEh(a:List PV) (b:PV):wc W zB1 [.slice 3 a,b] =
 (wc W zBj [.slice 3 a,b]).bind λ c=>zA6 c λ d=>some (.bool (decide (GE.ge d 0))):=gA_ (tN_ z6a)
theorem zU8(a b:Int):wc W zHv [.agg [.int .i64 a,.int .i64 b]] =
 (wc W zN3 [.agg [.int .i64 a,.int .i64 b]]).bind λ c=>c_b c λ d=>some (.bool !d):=gA_ (tN_ z6b)
theorem zZO(a b:Int):wc W zN3 [.agg [.int .i64 a,.int .i64 b]] =
 ((bif a==0 then bif b==0 then some true else some false else some false).bind λ c=>some (.bool !c)).bind λ d=>c_b d λ e=>bif e then(wc W zF2 [.int .i64 a,.int .i64 1,.int .i64 4]).bind λ f=>c_b f λ g=>bif g then(wc W zF2 [.int .i64 b,.int .i64 1,.int .i64 1000000]).bind λ h=>c_b h λ i=>some (.bool i)else some (.bool false)else some (.bool false):=gA_ (tN_ z6c)
def zBh(a:List PV) (b:PV) (c d:Int):Option PV:=(lN_ z2v) [0,1,0,1] 0 (St.mk [(0,.pv (.slice 0 a)),(1,.pv b),(7,.pv (.int .i64 c)),(8,.pv (.int .i64 d))] [])
theorem zDW(b:List PV) (c:PV) (d a:Int):zBh b c d a =
 bif decide (a<d)then bif decide (0<=a)then b[Int.toNat a]?.bind λ f=>zA6 f λ g=>(PV.asFn c).bind λ e=>(wc W (Prod.fst e) (((Prod.fst (Prod.snd e))++[.int .i64 g])++(Prod.snd (Prod.snd e)))).bind λ h=>c_b h λ i=>bif i then some (.int .i64 a)else zBh b c d (IntKind.wrap .i64 (a+1))else none else some (.int .i64 (-1)):=((tN_ z2v).loop [1,0,1,0] 0 _ rfl).trans (by kernel_rfl)
theorem zHj(a:List PV) (b:PV):wc W zCq [.slice 0 a,b] =
 zBh a b (a.length:Int) 0:=gA_ (tN_ z2v)
theorem zZP(a b c d:Int) (e:List PV):wc W zIb [.agg [.int .i64 a,.int .i64 b,.int .i64 c,.int .i64 d,.slice 6 e]] =
 (W zEG false [.pv (.agg [.int .i64 a,.int .i64 b,.int .i64 c,.int .i64 d,.slice 6 e]),.pv (.int .i64 1),.fnv zD4 [] [.own 0 0]] [.var false 0 (.pv (.int .i64 0))]).bind λ g=>zDM g λ h i=>c_b h λ f=>some (.bool f):=gA_ (tN_ z6d)
def zEt(a:Int) (b:List PV) (c d e:Int):Option (AV×List Ob):=(lO_ zWF false 1) [0,1,0,1,1] 1 (St.mk [(1,.pv (.int .i64 a)),(2,.fnv zD4 [] [.own 0 0]),(15,.pv (.slice 6 b)),(16,.pv (.int .i64 c)),(17,.pv (.int .i64 d))] [.var false 0 (.pv (.int .i64 e))])
theorem zH8(b:Int) (c:List PV) (d a e:Int):zEt b c d a e =
 bif decide (a<d)then bif decide (0<=a)then c[Int.toNat a]?.bind λ g=>zJ g λ h i j k l=>(W zEG false [.pv (.agg [.int .i64 h,.int .i64 i,.int .i64 j,.int .i64 k,.slice 6 l]),.pv (.int .i64 (IntKind.wrap .i64 (b+1))),.fnv zD4 [] [.own 0 0]] [.var false 0 (.pv (.int .i64 e))]).bind λ m=>zDM m λ n f=>c_b n λ o=>bif !o then some (.pv (.bool false),[.var false 0 (.pv (.int .i64 f))])else zEt b c d (IntKind.wrap .i64 (a+1)) f else none else some (.pv (.bool true),[.var false 0 (.pv (.int .i64 e))]):=((tO_ zWF false 1).loop [1,1,0,1,0] 1 _ rfl).trans (by kernel_rfl)
theorem zOd(d e f g:Int) (a:List PV) (c h:Int):W zEG false [.pv (.agg [.int .i64 d,.int .i64 e,.int .i64 f,.int .i64 g,.slice 6 a]),.pv (.int .i64 c),.fnv zD4 [] [.own 0 0]] [.var false 0 (.pv (.int .i64 h))] =
 (W zD4 false [.pv (.agg [.int .i64 d,.int .i64 e,.int .i64 f,.int .i64 g,.slice 6 a]),.pv (.int .i64 c),.own 0 0] [.var false 0 (.pv (.int .i64 h))]).bind λ j=>zDM j λ k b=>c_b k λ i=>bif !i then some (.pv (.bool false),[.var false 0 (.pv (.int .i64 b))])else zEt c a (a.length:Int) 0 b:=goO (by kernel_rfl) (by kernel_rfl) (tO_ zWF false 1) rfl (by kernel_rfl)
def zEu(a:Int) (b:List PV) (c d:Int) (e:List PV):Option (AV×List Ob):=(lO_ zWF false 2) [0,1,0,1,1] 2 (St.mk [(1,.pv (.int .i64 a)),(2,.fnv zCx [] [.own 0 0]),(15,.pv (.slice 6 b)),(16,.pv (.int .i64 c)),(17,.pv (.int .i64 d))] [.var false 0 (.view 1 0 none),.row false 0 0 e])
theorem zH9(b:Int) (c:List PV) (d a:Int) (e:List PV):zEu b c d a e =
 bif decide (a<d)then bif decide (0<=a)then c[Int.toNat a]?.bind λ g=>zJ g λ h i j k l=>(W zEG false [.pv (.agg [.int .i64 h,.int .i64 i,.int .i64 j,.int .i64 k,.slice 6 l]),.pv (.int .i64 (IntKind.wrap .i64 (b+1))),.fnv zCx [] [.own 0 0]] [.var false 0 (.view 1 0 none),.row false 0 0 e]).bind λ m=>zPC m λ n f=>c_b n λ o=>bif !o then some (.pv (.bool false),[.var false 0 (.view 1 0 none),.row false 0 0 f])else zEu b c d (IntKind.wrap .i64 (a+1)) f else none else some (.pv (.bool true),[.var false 0 (.view 1 0 none),.row false 0 0 e]):=((tO_ zWF false 2).loop [1,1,0,1,0] 2 _ rfl).trans (by kernel_rfl)
theorem zOe(d e f g:Int) (a:List PV) (c:Int) (h:List PV):W zEG false [.pv (.agg [.int .i64 d,.int .i64 e,.int .i64 f,.int .i64 g,.slice 6 a]),.pv (.int .i64 c),.fnv zCx [] [.own 0 0]] [.var false 0 (.view 1 0 none),.row false 0 0 h] =
 (W zCx false [.pv (.agg [.int .i64 d,.int .i64 e,.int .i64 f,.int .i64 g,.slice 6 a]),.pv (.int .i64 c),.own 0 0] [.var false 0 (.view 1 0 none),.row false 0 0 h]).bind λ j=>zPC j λ k b=>c_b k λ i=>bif !i then some (.pv (.bool false),[.var false 0 (.view 1 0 none),.row false 0 0 b])else zEu c a (a.length:Int) 0 b:=goO (by kernel_rfl) (by kernel_rfl) (tO_ zWF false 2) rfl (by kernel_rfl)
theorem zMc(b c d e:Int) (f:List PV) (g:Int) (a:List PV):W zCx false [.pv (.agg [.int .i64 b,.int .i64 c,.int .i64 d,.int .i64 e,.slice 6 f]),.pv (.int .i64 g),.own 0 0] [.var false 0 (.view 1 0 none),.row false 0 0 a] =
 bif b==1 then bif true&&(decide (((List.length a)+1:Nat)<=4294967296))then some (.pv (.bool true),[.var false 0 (.view 1 0 none),.row false 0 0 (a++[.int .i64 c])])else none else some (.pv (.bool true),[.var false 0 (.view 1 0 none),.row false 0 0 a]):=goO (by kernel_rfl) (by kernel_rfl) (tO_ z6e false 2) rfl (by kernel_rfl)
theorem zOf(a:Int) (b:List PV):wc W zG3 [.int .i64 a,.imm 0 (.slice 0 b) 0] =
 (wc W zBN [.slice 0 b,.int .i64 a]).bind λ c=>c_b c λ d=>some (.bool !d):=gA_ (tN_ z6f)
theorem zNd(b c d e:Int) (f:List PV) (a:Int):W zEI false [.pv (.agg [.int .i64 b,.int .i64 c,.int .i64 d,.int .i64 e,.slice 6 f]),.own 0 0] [.var false 0 (.pv (.int .i64 a))] =
 bif decide ((IntKind.wrap .i64 (a+1))<=20)then(wc W zG4 [.agg [.int .i64 b,.int .i64 c,.int .i64 d,.int .i64 e,.slice 6 f]]).bind λ g=>c_b g λ h=>some (.pv (.bool h),[.var false 0 (.pv (.int .i64 (IntKind.wrap .i64 (a+1))))])else some (.pv (.bool false),[.var false 0 (.pv (.int .i64 (IntKind.wrap .i64 (a+1))))]):=goO (by kernel_rfl) (by kernel_rfl) (tO_ z6g false 1) rfl (by kernel_rfl)
def zDy(a b c d:Int) (e:List PV) (f:Bool):Option PV:=(jN_ zYq) [1,1] (St.mk [(1,.pv (.imm 6 (.agg [.int .i64 a,.int .i64 b,.int .i64 c,.int .i64 d,.slice 6 e]) 0)),(3,.pv (.bool f))] [])
def zBs(a b c d:Int) (e:List PV) (f g:Bool):Option PV:=(jN_ zYq) [1,1,1] (St.mk [(1,.pv (.imm 6 (.agg [.int .i64 a,.int .i64 b,.int .i64 c,.int .i64 d,.slice 6 e]) 0)),(3,.pv (.bool f)),(4,.pv (.bool g))] [])
theorem zKY(a d c b:Int) (e:List PV) (f:Bool):zDy a d c b e f =
 ((bif c==0 then bif b==0 then some true else some false else some false).bind λ g=>some (.bool g)).bind λ h=>c_b h λ i=>bif i then zBs a d c b e f true else bif a==2 then zBs a d c b e f true else bif a==3 then zBs a d c b e f true else bif a==4 then zBs a d c b e f (b==0)else zBs a d c b e f false:=((tN_ zYq).join [1,1] _).trans (by kernel_rfl)
theorem zKZ(a c d e:Int) (b:List PV) (f g:Bool):zBs a c d e b f g =
 bif decide (GE.ge a 0)then bif decide (a<5)then(wc W zFu [.agg [.int .i64 a,.int .i64 c,.int .i64 d,.int .i64 e,.slice 6 b]]).bind λ h=>zA6 h λ i=>bif (b.length:Int)==i then bif f then some (.bool g)else some (.bool false)else some (.bool false)else some (.bool false)else some (.bool false):=((tN_ zYq).join [1,1,1] _).trans (by kernel_rfl)
theorem zOg(a b c d:Int) (e:List PV):wc W zG4 [.agg [.int .i64 a,.int .i64 b,.int .i64 c,.int .i64 d,.slice 6 e]] =
 bif a==0 then zDy a b c d e true else zDy a b c d e (b==0):=gA_ (tN_ zYq)
theorem zWY(a:Int):wc W zLd [.int .i64 a] =
 some (.agg [.int .i64 a,.slice 3 []]):=gA_ (tN_ z6h)
theorem zMd(d a b c:Int):W zEY false [.pv (.int .i64 d),.own 0 0,.own 1 0,.own 2 0] [.var false 0 (.pv (.int .i64 a)),.var false 0 (.pv (.int .i64 b)),.var false 0 (.pv (.int .i64 c))] =
 (wc W zBB [.int .i64 a,.int .i64 d]).bind λ e=>c_b e λ f=>bif f then(wc W zBB [.int .i64 b,.int .i64 d]).bind λ g=>c_b g λ h=>bif !h then(wc W zBB [.int .i64 c,.int .i64 d]).bind λ i=>c_b i λ j=>some (.pv (.bool !j),[.var false 0 (.pv (.int .i64 a)),.var false 0 (.pv (.int .i64 b)),.var false 0 (.pv (.int .i64 c))])else some (.pv (.bool false),[.var false 0 (.pv (.int .i64 a)),.var false 0 (.pv (.int .i64 b)),.var false 0 (.pv (.int .i64 c))])else some (.pv (.bool false),[.var false 0 (.pv (.int .i64 a)),.var false 0 (.pv (.int .i64 b)),.var false 0 (.pv (.int .i64 c))]):=goO (by kernel_rfl) (by kernel_rfl) (tO_ z6i false 3) rfl (by kernel_rfl)
theorem zS9(c:Int) (a b:List PV):wc W zJJ [.int .i64 c,.imm 3 (.agg [.slice 0 a,.slice 0 b]) 0] =
 (wc W zBN [.slice 0 a,.int .i64 c]).bind λ d=>c_b d λ e=>some (.bool !e):=gA_ (tN_ z6j)
theorem zPE(a:Int):wc W zEq [.int .i64 a] =
 some (.agg [.int .i64 0,.int .i64 a]):=gA_ (tN_ z6k)
def zHa(f g h:Int) (a:List PV) (b c d e:Int):Option PV:=(lN_ z2w) [0,1,0,1,1,1,1] 1 (St.mk [(2,.own 0 0),(3,.pv (.int IntKind.u64 f)),(4,.pv (.int IntKind.u64 g)),(5,.pv (.int .i64 h)),(14,.pv (.slice 3 a)),(15,.pv (.int .i64 b)),(16,.pv (.int .i64 c))] [.var false 3 (.pv (.agg [.int .i64 d,.int .i64 e]))])
theorem zLW(g d h:Int) (b:List PV) (c a e f:Int):zHa g d h b c a e f =
 bif decide (a<c)then bif decide (0<=a)then b[Int.toNat a]?.bind λ k=>zM k λ l i=>bif l != 0 then zHa g d h b c (IntKind.wrap .i64 (a+1)) e f else(wc W zOG [.int IntKind.u64 d,.int IntKind.u64 (IntKind.wrap .u64 i),.int IntKind.u64 0]).bind λ j=>j.asTup.bind λ m=>m[0]?.bind λ n=>zWJ n λ o=>j.asTup.bind λ p=>p[1]?.bind λ q=>zWJ q λ r=>zHa (IntKind.wrap .u64 (g+(IntKind.wrap .u64 (r+(IntKind.wrap .u64 (Int.fdiv i 9223372036854775808)):Int)):Int)) o (IntKind.wrap .i64 (h+1)) b c (IntKind.wrap .i64 (a+1)) e f else none else bif h==0 then(wc W zKw []).bind λ s=>zM s λ t u=>some (.agg [.int .i64 t,.int .i64 u])else bif g != (IntKind.wrap .u64 (Int.fdiv (IntKind.wrap .i64 d) 9223372036854775808))then(wc W zH0 []).bind λ v=>zM v λ w x=>some (.agg [.int .i64 w,.int .i64 x])else(wc W zEq [.int .i64 (IntKind.wrap .i64 d)]).bind λ y=>zM y λ z A=>some (.agg [.int .i64 z,.int .i64 A]):=((tN_ z2w).loop [1,1,1,1,0,1,0] 1 _ rfl).trans (by kernel_rfl)
theorem z0x(a:List PV):wc W zQB [.slice 3 a] =
 (wc W zIc [.int .i64 2]).bind λ b=>(wc W zBq [.slice 3 a,b]).bind λ c=>c_b c λ d=>bif d then(wc W zH0 []).bind λ e=>zM e λ f g=>some (.agg [.int .i64 f,.int .i64 g])else zHa 0 0 0 a (a.length:Int) 0 0 0:=gA_ (tN_ z2w)
theorem zZQ(a b c d:Int) (e:List PV):wc W zKu [.agg [.int .i64 a,.int .i64 b,.int .i64 c,.int .i64 d,.slice 6 e]] =
 (wc W zJI [.agg [.int .i64 a,.int .i64 b,.int .i64 c,.int .i64 d,.slice 6 e]]).bind λ f=>c_s0 f λ g=>(wc W zHF [.slice 0 g]).bind λ h=>zA6 h λ i=>some (.int .i64 i):=gA_ (tN_ z6l)
def zAn(a:List PV) (b:PV) (c d:Int):Option PV:=(lN_ z2x) [0,1,0,1] 0 (St.mk [(0,.pv (.slice 3 a)),(1,.pv b),(7,.pv (.int .i64 c)),(8,.pv (.int .i64 d))] [])
theorem zBk(b:List PV) (c:PV) (d a:Int):zAn b c d a =
 bif decide (a<d)then bif decide (0<=a)then b[Int.toNat a]?.bind λ g=>zM g λ h i=>(PV.asFn c).bind λ e=>(wc W (Prod.fst e) (((Prod.fst (Prod.snd e))++[.agg [.int .i64 h,.int .i64 i]])++(Prod.snd (Prod.snd e)))).bind λ j=>c_b j λ f=>bif f then some (.int .i64 a)else zAn b c d (IntKind.wrap .i64 (a+1))else none else some (.int .i64 (-1)):=((tN_ z2x).loop [1,0,1,0] 0 _ rfl).trans (by kernel_rfl)
theorem zEQ(a:List PV) (b:PV):wc W zBV [.slice 3 a,b] =
 zAn a b (a.length:Int) 0:=gA_ (tN_ z2x)
def zAu(a:List PV) (b:PV) (c d:Int):Option PV:=(lN_ z2y) [0,1,0,1] 0 (St.mk [(0,.pv (.slice 6 a)),(1,.pv b),(7,.pv (.int .i64 c)),(8,.pv (.int .i64 d))] [])
theorem zCB(c:List PV) (d:PV) (e a:Int):zAu c d e a =
 bif decide (a<e)then bif decide (0<=a)then c[Int.toNat a]?.bind λ i=>zJ i λ j k l m f=>(PV.asFn d).bind λ b=>(wc W (Prod.fst b) (((Prod.fst (Prod.snd b))++[.agg [.int .i64 j,.int .i64 k,.int .i64 l,.int .i64 m,.slice 6 f]])++(Prod.snd (Prod.snd b)))).bind λ g=>c_b g λ h=>bif h then some (.int .i64 a)else zAu c d e (IntKind.wrap .i64 (a+1))else none else some (.int .i64 (-1)):=((tN_ z2y).loop [1,0,1,0] 0 _ rfl).trans (by kernel_rfl)
theorem zEo(a:List PV) (b:PV):wc W zB8 [.slice 6 a,b] =
 zAu a b (a.length:Int) 0:=gA_ (tN_ z2y)
theorem zZR(a b:Int):wc W zHE [.agg [.int .i64 a,.int .i64 b]] =
 bif a==0 then some (.bool (b != 0))else some (.bool false):=gA_ (tN_ z6n)
theorem zWZ(a b c d:Int) (e f g:List PV):wc W zLe [.agg [.int .i64 a,.int .i64 b,.int .i64 c,.int .i64 d,.slice 6 e],.slice 0 f,.slice 3 g] =
 (wc W zIb [.agg [.int .i64 a,.int .i64 b,.int .i64 c,.int .i64 d,.slice 6 e]]).bind λ h=>c_b h λ i=>bif !i then some (.agg [.int .i64 2,.int .i64 0])else(wc W zJM [.agg [.int .i64 a,.int .i64 b,.int .i64 c,.int .i64 d,.slice 6 e],.slice 0 f,.slice 3 g]).bind λ j=>zM j λ k l=>some (.agg [.int .i64 k,.int .i64 l]):=gA_ (tN_ z6o)
def zBH(a b c d:Int) (e:List PV) (f:Int):Option (AV×List Ob):=(lO_ zUN false 2) [0,0,1,1] 2 (St.mk [(0,AV.fx 0 0),(1,.pv (.int .i64 a)),(2,.fnv zS [] [.own 1 0]),(6,.pv (.int .i64 b)),(7,.pv (.int .i64 c)),(8,.pv (.int .i64 d))] [.fix 0 0 e,.var false 0 (.pv (.int .i64 f))])
def zAh(a b:Int) (c:List PV) (d:Int):Option (AV×List Ob):=(lO_ zUN false 2) [0,1,1,1,1] 2 (St.mk [(0,AV.fx 0 0),(1,.pv (.int .i64 a)),(2,.fnv zS [] [.own 1 0]),(6,.pv (.int .i64 b))] [.fix 0 0 c,.var false 0 (.pv (.int .i64 d))])
def zBI(a b c d:Int) (e:List PV) (f:Int):Option (AV×List Ob):=(lO_ zUN false 2) [0,0,1,0,1,2,0,1,1,1,1] 2 (St.mk [(0,AV.fx 0 0),(1,.pv (.int .i64 a)),(2,.fnv zS [] [.own 1 0]),(6,.pv (.int .i64 b)),(7,.pv (.int .i64 c)),(8,.pv (.int .i64 d))] [.fix 0 0 e,.var false 0 (.pv (.int .i64 f))])
theorem zE3(a c d b:Int) (e:List PV) (f:Int):zBH a c d b e f =
 bif decide (b<=a)then(W zAz false [AV.fx 0 0,.pv (.int .i64 d),.pv (.int .i64 b),.fnv zS [] [.own 1 0]] [.fix 0 0 e,.var false 0 (.pv (.int .i64 f))]).bind λ g=>zEZ g λ m h i=>zBH a c b (IntKind.wrap .i64 (b+c:Int)) h i else(W zAz false [AV.fx 0 0,.pv (.int .i64 d),.pv (.int .i64 a),.fnv zS [] [.own 1 0]] [.fix 0 0 e,.var false 0 (.pv (.int .i64 f))]).bind λ j=>zEZ j λ n k l=>zAh a c k l:=((tO_ zUN false 2).loop [1,1,0,0] 2 _ rfl).trans (by kernel_rfl)
theorem zCY(b a:Int) (c:List PV) (d:Int):zAh b a c d =
 bif decide (a<b)then zBI b a 0 (IntKind.wrap .i64 (2*a:Int)) c d else some (.pv (.tup []),[.fix 0 0 c,.var false 0 (.pv (.int .i64 d))]):=((tO_ zUN false 2).loop [1,1,1,1,0] 2 _ rfl).trans (by kernel_rfl)
theorem zE4(b a c d:Int) (e:List PV) (f:Int):zBI b a c d e f =
 bif decide (d<=b)then(W zAc false [AV.fx 0 0,.pv (.int .i64 c),.pv (.int .i64 (IntKind.wrap .i64 (c+a:Int))),.pv (.int .i64 d),.fnv zS [] [.own 1 0]] [.fix 0 0 e,.var false 0 (.pv (.int .i64 f))]).bind λ g=>zEZ g λ m h i=>zBI b a d (IntKind.wrap .i64 (d+(IntKind.wrap .i64 (2*a:Int)):Int)) h i else bif decide ((IntKind.wrap .i64 (c+a:Int))<b)then(W zAc false [AV.fx 0 0,.pv (.int .i64 c),.pv (.int .i64 (IntKind.wrap .i64 (c+a:Int))),.pv (.int .i64 b),.fnv zS [] [.own 1 0]] [.fix 0 0 e,.var false 0 (.pv (.int .i64 f))]).bind λ j=>zEZ j λ n k l=>zAh b (IntKind.wrap .i64 (a*2:Int)) k l else zAh b (IntKind.wrap .i64 (a*2:Int)) e f:=((tO_ zUN false 2).loop [1,1,1,1,0,2,1,0,1,0,0] 2 _ rfl).trans (by kernel_rfl)
theorem zFC(a:Int) (b:List PV) (c:Int):W zD3 false [AV.fx 0 0,.pv (.int .i64 a),.fnv zS [] [.own 1 0]] [.fix 0 0 b,.var false 0 (.pv (.int .i64 c))] =
 zBH a 20 0 20 b c:=goO (by kernel_rfl) (by kernel_rfl) (tO_ zUN false 2) rfl (by kernel_rfl)
end Go.Cf

namespace Go.Cf
open Go Go.Ab
set_option maxRecDepth 100000
theorem zQP(a b c d:Int) (e:List PV):wc W zEJ [.agg [.int .i64 a,.int .i64 b,.int .i64 c,.int .i64 d,.slice 6 e]] =
 (wc W zDa [.agg [.int .i64 a,.int .i64 b,.int .i64 c,.int .i64 d,.slice 6 e]]).bind λ f=>zCV f λ g h=>(wc W zHD [.agg [.int .i64 g,.slice 3 h]]).bind λ i=>zA6 i λ j=>some (.int .i64 j):=gA_ (tN_ z6p)
theorem zG8(c:List PV) (a b:Int):wc W zC0 [.slice 3 c,.agg [.int .i64 a,.int .i64 b]] =
 (wc W zEa [.slice 3 c,.agg [.int .i64 a,.int .i64 b]]).bind λ d=>zA6 d λ e=>some (.bool (decide (GE.ge e 0))):=gA_ (tN_ z6q)
def zCl(f g:Int) (h i:List PV) (j:Int) (k l:List PV) (a:Int) (b:List PV) (c d:Int) (e:List PV):Option PV:=(lN_ zUO) [0,1,0,1,1] 1 (St.mk [(1,.pv (.int .i64 f)),(2,.pv (.int .i64 g)),(3,.pv (.imm 7 (.agg [.slice 0 h,.slice 6 i,.int .i64 j,.slice 0 k,.slice 0 l,.int .i64 a]) 0)),(7,.view 0 0 none),(18,.pv (.slice 0 b)),(19,.pv (.int .i64 c)),(20,.pv (.int .i64 d))] [.row false 0 3 e])
def zER(a b:Int) (c d:List PV) (e:Int) (f g:List PV) (h:Int) (i:List PV) (j k:Int) (l:List PV) (m n:Int) (o:List PV):Option PV:=(lN_ zUO) [0,1,1,1,1,0,0,1,1,1,0,1,0,1,1] 1 (St.mk [(1,.pv (.int .i64 a)),(2,.pv (.int .i64 b)),(3,.pv (.imm 7 (.agg [.slice 0 c,.slice 6 d,.int .i64 e,.slice 0 f,.slice 0 g,.int .i64 h]) 0)),(7,.view 0 0 none),(18,.pv (.slice 0 i)),(19,.pv (.int .i64 j)),(20,.pv (.int .i64 k)),(42,.pv (.slice 3 l)),(43,.pv (.int .i64 m)),(44,.pv (.int .i64 n))] [.row false 0 3 o])
def zHb(a b:Int) (c d:List PV) (e:Int) (f g:List PV) (h:Int) (i:List PV) (j k:Int) (l:List PV) (m n:Int) (o:Bool) (p:List PV) (q r:Int):Option PV:=(jN_ zUO) [1,1,0,0,1,1,1,0,1,1,1,1,0,0,1,1,1,0,1,0,1,1] (St.mk [(1,.pv (.int .i64 a)),(2,.pv (.int .i64 b)),(3,.pv (.imm 7 (.agg [.slice 0 c,.slice 6 d,.int .i64 e,.slice 0 f,.slice 0 g,.int .i64 h]) 0)),(7,.view 0 0 none),(14,.own 1 0),(18,.pv (.slice 0 i)),(19,.pv (.int .i64 j)),(20,.pv (.int .i64 k)),(42,.pv (.slice 3 l)),(43,.pv (.int .i64 m)),(44,.pv (.int .i64 n)),(57,.pv (.bool o))] [.row false 0 3 p,.var true 3 (.pv (.agg [.int .i64 q,.int .i64 r]))])
theorem zIG(k l:Int) (m g:List PV) (n:Int) (o p:List PV) (e:Int) (b:List PV) (c a:Int) (d:List PV):zCl k l m g n o p e b c a d =
 bif decide (a<c)then bif decide (0<=a)then b[Int.toNat a]?.bind λ q=>zA6 q λ h=>bif decide (0<=h)then g[Int.toNat h]?.bind λ r=>zJ r λ s t u v w=>(wc W zLg [.agg [.int .i64 s,.int .i64 t,.int .i64 u,.int .i64 v,.slice 6 w]]).bind λ f=>f.asTup.bind λ x=>x[0]?.bind λ y=>zA6 y λ i=>f.asTup.bind λ z=>z[1]?.bind λ A=>zA6 A λ j=>f.asTup.bind λ B=>B[2]?.bind λ C=>c_b C λ D=>bif !D then zCl k l m g n o p e b c (IntKind.wrap .i64 (a+1)) d else zER k l m g n o p e b c a [.agg [.int .i64 i,.int .i64 j],.agg [.int .i64 j,.int .i64 i]] 2 0 d else none else none else some (.slice 3 d):=((tN_ zUO).loop [1,1,0,1,0] 1 _ rfl).trans (by kernel_rfl)
theorem zF8(b c:Int) (d e:List PV) (f:Int) (g h:List PV) (i:Int) (j:List PV) (k l:Int) (m:List PV) (n a:Int) (o:List PV):zER b c d e f g h i j k l m n a o =
 bif decide (a<n)then bif decide (0<=a)then m[Int.toNat a]?.bind λ r=>zM r λ p q=>(wc W zHF [.slice 0 [.int .i64 p]]).bind λ s=>zA6 s λ t=>(wc W zBB [.int .i64 b,.int .i64 t]).bind λ u=>c_b u λ v=>bif v then(wc W zHF [.slice 0 [.int .i64 q]]).bind λ w=>zA6 w λ x=>(wc W zBB [.int .i64 c,.int .i64 x]).bind λ y=>c_b y λ z=>zHb b c d e f g h i j k l m n a z o p q else zHb b c d e f g h i j k l m n a false o p q else none else zCl b c d e f g h i j k (IntKind.wrap .i64 (l+1)) o:=((tN_ zUO).loop [1,1,0,1,0,1,1,1,0,0,1,1,1,1,0] 1 _ rfl).trans (by kernel_rfl)
theorem zIH(b c:Int) (d e:List PV) (f:Int) (g h:List PV) (i:Int) (j:List PV) (k l:Int) (m:List PV) (n o:Int) (p:Bool) (a:List PV) (q r:Int):zHb b c d e f g h i j k l m n o p a q r =
 bif p then bif true&&(decide (((List.length a)+1:Nat)<=4294967296))then zCl b c d e f g h i j k (IntKind.wrap .i64 (l+1)) (a++[.agg [.int .i64 q,.int .i64 r]])else none else zER b c d e f g h i j k l m n (IntKind.wrap .i64 (o+1)) a:=((tN_ zUO).join [1,1,0,1,0,1,1,1,0,0,1,1,1,1,0,1,1,1,0,0,1,1] _).trans (by kernel_rfl)
theorem zSa(a b:List PV) (c:Int) (d e:List PV) (f g h:Int):wc W zJK [.agg [.slice 0 a,.slice 6 b,.int .i64 c,.slice 0 d,.slice 0 e,.int .i64 f],.int .i64 g,.int .i64 h] =
 (wc W zFt [.agg [.slice 0 a,.slice 6 b,.int .i64 c,.slice 0 d,.slice 0 e,.int .i64 f],.int .i64 g,.int .i64 h]).bind λ j=>c_s0 j λ i=>zCl g h a b c d e f i (i.length:Int) 0 []:=gA_ (tN_ zUO)
theorem zU9(a b:Int):wc W zHw [.agg [.int .i64 a,.int .i64 b]] =
 (wc W zHZ [.agg [.int .i64 a,.int .i64 b]]).bind λ c=>c_b c λ d=>some (.bool !d):=gA_ (tN_ z6r)
def zA5(a b:List PV) (c d e:Int):Option (AV×List Ob):=(lO_ z2z false 1) [0,1,0,1] 1 (St.mk [(0,.pv (.slice 0 a)),(1,.fnv zC9 [] [.pv (.imm 2 (.agg [.slice 3 b]) 0),.own 0 0]),(7,.pv (.int .i64 c)),(8,.pv (.int .i64 d))] [.var false 0 (.pv (.int .i64 e))])
theorem zBa(c d:List PV) (e a f:Int):zA5 c d e a f =
 bif decide (a<e)then bif decide (0<=a)then c[Int.toNat a]?.bind λ j=>c_s3 j λ k=>(W zC9 false [.pv (.slice 3 k),.pv (.imm 2 (.agg [.slice 3 d]) 0),.own 0 0] [.var false 0 (.pv (.int .i64 f))]).bind λ g=>zDM g λ h b=>c_b h λ i=>bif i then some (.pv (.int .i64 a),[.var false 0 (.pv (.int .i64 b))])else zA5 c d e (IntKind.wrap .i64 (a+1)) b else none else some (.pv (.int .i64 (-1)),[.var false 0 (.pv (.int .i64 f))]):=((tO_ z2z false 1).loop [1,0,1,0] 1 _ rfl).trans (by kernel_rfl)
theorem zD1(a b:List PV) (c:Int):W zCR false [.pv (.slice 0 a),.fnv zC9 [] [.pv (.imm 2 (.agg [.slice 3 b]) 0),.own 0 0]] [.var false 0 (.pv (.int .i64 c))] =
 zA5 a b (a.length:Int) 0 c:=goO (by kernel_rfl) (by kernel_rfl) (tO_ z2z false 1) rfl (by kernel_rfl)
theorem zW0(b:List PV) (a:Int):wc W zJL [.slice 3 b,.int .i64 a] =
 bif decide (0<=a)then b[Int.toNat a]?.bind λ d=>zM d λ c e=>some (.tup [.agg [.int .i64 c,.int .i64 e],.bool (c==0)])else none:=gA_ (tN_ z6s)
theorem zZS(a b:List PV):wc W zKv [.slice 3 a,.slice 3 b] =
 (wc W zBX [.slice 0 [.slice 3 a,.slice 3 b]]).bind λ c=>c_s3 c λ d=>some (.slice 3 d):=gA_ (tN_ z6t)
theorem zZT(a b c d:Int):wc W zN4 [.agg [.int .i64 a,.int .i64 b],.agg [.int .i64 c,.int .i64 d]] =
 (wc W zId [.agg [.int .i64 a,.int .i64 b]]).bind λ h=>zM h λ i j=>(wc W zId [.agg [.int .i64 c,.int .i64 d]]).bind λ k=>zM k λ l m=>(wc W zDT [.int .i64 i,.int .i64 l]).bind λ n=>zA6 n λ o=>(wc W zDT [.int .i64 j,.int .i64 m]).bind λ p=>zA6 p λ e=>(wc W zKJ [.slice 0 [.int .i64 o,.int .i64 e]]).bind λ f=>zA6 f λ g=>some (.bool (decide (g<0))):=gA_ (tN_ z6u)
theorem z3O(a b c d:Int):wc W zMU [.agg [.int .i64 a,.int .i64 b],.agg [.int .i64 c,.int .i64 d]] =
 (wc W zH1 [.slice 3 [.agg [.int .i64 a,.int .i64 b],.agg [.int .i64 c,.int .i64 d]]]).bind λ e=>e.asTup.bind λ k=>k[0]?.bind λ l=>zM l λ m n=>e.asTup.bind λ o=>o[1]?.bind λ p=>c_b p λ q=>bif q then some (.agg [.int .i64 m,.int .i64 n])else((bif a==c then bif b==d then some true else some false else some false).bind λ r=>some (.bool r)).bind λ f=>c_b f λ g=>(wc W zMV [.bool g]).bind λ h=>zM h λ i j=>some (.agg [.int .i64 i,.int .i64 j]):=gA_ (tN_ z6v)
theorem zNe(a b:Int):wc W zDT [.int .i64 a,.int .i64 b] =
 (wc W zH2 [.int .i64 a]).bind λ d=>c_b d λ e=>(wc W zH2 [.int .i64 b]).bind λ f=>c_b f λ c=>bif e then bif c then some (.int .i64 0)else some (.int .i64 (-1))else bif c then some (.int .i64 1)else bif decide (a<b)then some (.int .i64 (-1))else bif decide (GT.gt a b)then some (.int .i64 1)else some (.int .i64 0):=gA_ (tN_ z6w)
theorem zLr(a b c d:Int) (e:List PV) (f:Int):wc W zFA [.agg [.int .i64 a,.int .i64 b,.int .i64 c,.int .i64 d,.slice 6 e],.int .i64 f] =
 (wc W zDL [.agg [.int .i64 a,.int .i64 b,.int .i64 c,.int .i64 d,.slice 6 e],.int .i64 f]).bind λ g=>zA6 g λ h=>some (.bool (decide (h<=f))):=gA_ (tN_ z6x)
def zEd(a:Int) (b:List PV):Option (AV×List Ob):=(jO_ z3A true 0) [1,1] (St.mk [(0,AV.nil 0),(1,.pv (.int .i64 a))] [.row false 0 0 b])
theorem zG9(a:Int) (b:List PV):zEd a b =
 bif decide (GT.gt (IntKind.wrap .i64 (a-0:Int)) 0)then bif (((decide (0<(IntKind.wrap .i64 (a-0:Int))))&&(decide ((IntKind.wrap .i64 (a-0:Int))<=4294967296)))&&true)&&true then some (.view 0 0 none,[.row false 0 0 []])else none else some (.view 0 0 none,[.row false 0 0 []]):=((tO_ z3A true 0).join [1,1] _).trans (by kernel_rfl)
theorem zHk(a:Int):W zEK true [AV.nil 0,.pv (.int .i64 a)] [] =
 bif decide (a<0)then none else zEd a []:=goO (by kernel_rfl) (by kernel_rfl) (tO_ z3A true 0) rfl (by kernel_rfl)
def zCp(a:Int) (b:List PV):Option (AV×List Ob):=(jO_ z3B true 0) [1,1] (St.mk [(0,AV.nil 3),(1,.pv (.int .i64 a))] [.row false 0 3 b])
theorem zEi(a:Int) (b:List PV):zCp a b =
 bif decide (GT.gt (IntKind.wrap .i64 (a-0:Int)) 0)then bif (((decide (0<(IntKind.wrap .i64 (a-0:Int))))&&(decide ((IntKind.wrap .i64 (a-0:Int))<=4294967296)))&&true)&&true then some (.view 0 0 none,[.row false 0 3 []])else none else some (.view 0 0 none,[.row false 0 3 []]):=((tO_ z3B true 0).join [1,1] _).trans (by kernel_rfl)
theorem zFS(a:Int):W zC1 true [AV.nil 3,.pv (.int .i64 a)] [] =
 bif decide (a<0)then none else zCp a []:=goO (by kernel_rfl) (by kernel_rfl) (tO_ z3B true 0) rfl (by kernel_rfl)
def zBF(a:List PV) (b:PV) (c d:Int):Option PV:=(lN_ z3C) [0,1,0,1] 0 (St.mk [(0,.pv (.slice 3 a)),(1,.pv b),(7,.pv (.int .i64 c)),(8,.pv (.int .i64 d))] [])
theorem zCT(b:List PV) (c:PV) (d a:Int):zBF b c d a =
 bif decide (a<d)then bif decide (0<=a)then b[Int.toNat a]?.bind λ g=>zM g λ h i=>(PV.asFn c).bind λ e=>(wc W (Prod.fst e) (((Prod.fst (Prod.snd e))++[.agg [.int .i64 h,.int .i64 i]])++(Prod.snd (Prod.snd e)))).bind λ j=>c_b j λ f=>bif f then some (.int .i64 a)else zBF b c d (IntKind.wrap .i64 (a+1))else none else some (.int .i64 (-1)):=((tN_ z3C).loop [1,0,1,0] 0 _ rfl).trans (by kernel_rfl)
theorem zFT(a:List PV) (b:PV):wc W zBj [.slice 3 a,b] =
 zBF a b (a.length:Int) 0:=gA_ (tN_ z3C)
theorem zNf(b c d e:Int) (f:List PV) (g a:Int):W zD4 false [.pv (.agg [.int .i64 b,.int .i64 c,.int .i64 d,.int .i64 e,.slice 6 f]),.pv (.int .i64 g),.own 0 0] [.var false 0 (.pv (.int .i64 a))] =
 bif decide ((IntKind.wrap .i64 (a+1))<=30)then bif decide (g<=6)then(wc W zLf [.agg [.int .i64 b,.int .i64 c,.int .i64 d,.int .i64 e,.slice 6 f]]).bind λ h=>c_b h λ i=>some (.pv (.bool i),[.var false 0 (.pv (.int .i64 (IntKind.wrap .i64 (a+1))))])else some (.pv (.bool false),[.var false 0 (.pv (.int .i64 (IntKind.wrap .i64 (a+1))))])else some (.pv (.bool false),[.var false 0 (.pv (.int .i64 (IntKind.wrap .i64 (a+1))))]):=goO (by kernel_rfl) (by kernel_rfl) (tO_ z6y false 1) rfl (by kernel_rfl)
def zGv(e f g h:Int) (i:List PV) (a:Bool) (b c:Int) (d:PV):Option PV:=(jN_ zUP) [1,1,1] (St.mk [(1,.pv (.imm 6 (.agg [.int .i64 e,.int .i64 f,.int .i64 g,.int .i64 h,.slice 6 i]) 0)),(4,.pv (.bool a))] [.var false 4 (.pv (.agg [.int .i64 b,.int .i64 c,d]))])
def zE5(a b c d:Int) (e:List PV) (f g:Bool) (h i:Int) (j:PV):Option PV:=(jN_ zUP) [1,1,1,1] (St.mk [(1,.pv (.imm 6 (.agg [.int .i64 a,.int .i64 b,.int .i64 c,.int .i64 d,.slice 6 e]) 0)),(4,.pv (.bool f)),(5,.pv (.bool g))] [.var false 4 (.pv (.agg [.int .i64 h,.int .i64 i,j]))])
def zF9(a b c d:Int) (e:List PV) (f g h:Bool) (i j:Int) (k:PV):Option PV:=(jN_ zUP) [1,1,1,1,1] (St.mk [(1,.pv (.imm 6 (.agg [.int .i64 a,.int .i64 b,.int .i64 c,.int .i64 d,.slice 6 e]) 0)),(4,.pv (.bool f)),(5,.pv (.bool g)),(6,.pv (.bool h))] [.var false 4 (.pv (.agg [.int .i64 i,.int .i64 j,k]))])
theorem zOh(f a g h:Int) (i:List PV) (b:Bool) (c d:Int) (e:PV):zGv f a g h i b c d e =
 bif a==0 then zE5 f a g h i b true c d e else bif f==1 then bif decide (GT.gt a 0)then zE5 f a g h i b (decide (a<=15)) c d e else zE5 f a g h i b false c d e else zE5 f a g h i b false c d e:=((tN_ zUP).join [1,1,1] _).trans (by kernel_rfl)
theorem zOi(c d a b:Int) (e:List PV) (f g:Bool) (h i:Int) (j:PV):zE5 c d a b e f g h i j =
 ((bif a==0 then bif b==0 then some true else some false else some false).bind λ k=>some (.bool k)).bind λ l=>c_b l λ m=>bif m then zF9 c d a b e f g true h i j else bif c==0 then(wc W zHZ [.agg [.int .i64 a,.int .i64 b]]).bind λ n=>c_b n λ o=>zF9 c d a b e f g o h i j else zF9 c d a b e f g false h i j:=((tN_ zUP).join [1,1,1,1] _).trans (by kernel_rfl)
theorem zOj(a e f g:Int) (h:List PV) (b c d:Bool) (i j:Int) (k:PV):zF9 a e f g h b c d i j k =
 bif decide (GE.ge a 0)then bif decide (a<11)then bif b then bif c then some (.bool d)else some (.bool false)else some (.bool false)else some (.bool false)else some (.bool false):=((tN_ zUP).join [1,1,1,1,1] _).trans (by kernel_rfl)
theorem zW1(b c d e:Int) (a:List PV):wc W zLf [.agg [.int .i64 b,.int .i64 c,.int .i64 d,.int .i64 e,.slice 6 a]] =
 (wc W zJN [.int .i64 b]).bind λ i=>zCa i λ f g h=>bif decide (GE.ge (a.length:Int) f)then zGv b c d e a (decide ((a.length:Int)<=g)) f g h else zGv b c d e a false f g h:=gA_ (tN_ zUP)
theorem zNg(a b c d:Int) (e:List PV):wc W zFu [.agg [.int .i64 a,.int .i64 b,.int .i64 c,.int .i64 d,.slice 6 e]] =
 bif a==0 then some (.int .i64 0)else bif a==4 then some (.int .i64 1)else some (.int .i64 2):=gA_ (tN_ z6z)
theorem zII(a:List PV) (b:PV):wc W zBq [.slice 3 a,b] =
 (wc W zAW [.slice 3 a,b]).bind λ c=>c_b c λ d=>some (.bool d):=gA_ (tN_ z7A)
theorem zR9(a:Int):wc W zIc [.int .i64 a] =
 some (.fn zCy [] [.imm 0 (.int .i64 a) 0]):=gA_ (tN_ z7B)
theorem zMe  :wc W zH0 [] =
 some (.agg [.int .i64 2,.int .i64 0]):=gA_ (tN_ z7C)
theorem zRa  :wc W zKw [] =
 some (.agg [.int .i64 1,.int .i64 0]):=gA_ (tN_ z7D)
def zIJ(a:Int) (b:List PV) (c d:Int):Option PV:=(lN_ z3D) [0,1,0,1,1] 0 (St.mk [(3,.pv (.int .i64 a)),(9,.pv (.slice 0 b)),(10,.pv (.int .i64 c)),(11,.pv (.int .i64 d))] [])
theorem zK0(c:Int) (d:List PV) (e a:Int):zIJ c d e a =
 bif decide (a<e)then bif decide (0<=a)then d[Int.toNat a]?.bind λ m=>zA6 m λ n=>(wc W zKK [.int .i64 n]).bind λ f=>f.asTup.bind λ o=>o[0]?.bind λ p=>zA6 p λ b=>f.asTup.bind λ g=>g[1]?.bind λ h=>zA6 h λ q=>f.asTup.bind λ i=>i[2]?.bind λ j=>c_b j λ r=>(bif decide (b<0)then none else some (.int .i64 (IntKind.wrap .i64 (1*(HPow.hPow (2:Int) (Min.min (Int.toNat b) 64)):Int)))).bind λ k=>zA6 k λ l=>zIJ (IntKind.wrap .i64 (((BitVec.toNat (HOr.hOr (BitVec.ofInt 64 c) (BitVec.ofInt 64 l))):Nat):Int)) d e (IntKind.wrap .i64 (a+1))else none else some (.int .i64 c):=((tN_ z3D).loop [1,1,0,1,0] 0 _ rfl).trans (by kernel_rfl)
theorem zZU(a:List PV):wc W zHF [.slice 0 a] =
 zIJ 0 a (a.length:Int) 0:=gA_ (tN_ z3D)
def zMf(a:List PV) (b c d:Int):Option PV:=(jN_ zYr) [1,1,0,1,1,1,0,1,0,1] (St.mk [(2,.pv (.slice 3 a)),(6,.own 0 0),(7,.pv (.int .i64 b))] [.var false 3 (.pv (.agg [.int .i64 c,.int .i64 d]))])
def zGw(k l:List PV) (m a b c:Int) (d e:List PV) (f g h i:Int) (j:List PV):Option PV:=(lN_ zYr) [0,1,0,1,1,1] 2 (St.mk [(1,.pv (.slice 0 k)),(2,.pv (.slice 3 l)),(3,.pv (.imm 6 (.agg [.int .i64 m,.int .i64 a,.int .i64 b,.int .i64 c,.slice 6 d]) 0)),(6,.own 0 0),(8,.view 1 0 none),(37,.pv (.slice 6 e)),(38,.pv (.int .i64 f)),(39,.pv (.int .i64 g))] [.var false 3 (.pv (.agg [.int .i64 h,.int .i64 i])),.row false 0 3 j])
theorem zOk(b:List PV) (a f g:Int):zMf b a f g =
 bif decide (0<=a)then b[Int.toNat a]?.bind λ c=>zM c λ d e=>some (.agg [.int .i64 d,.int .i64 e])else none:=((tN_ zYr).join [1,0,1,0,1,1,1,0,1,1] _).trans (by kernel_rfl)
theorem zJi(l m:List PV) (n f g h:Int) (i c:List PV) (d a j k:Int) (b:List PV):zGw l m n f g h i c d a j k b =
 bif decide (a<d)then bif decide (0<=a)then c[Int.toNat a]?.bind λ o=>zJ o λ p q r s t=>(wc W zJM [.agg [.int .i64 p,.int .i64 q,.int .i64 r,.int .i64 s,.slice 6 t],.slice 0 l,.slice 3 m]).bind λ u=>zM u λ v w=>bif true&&(decide (((List.length b)+1:Nat)<=4294967296))then zGw l m n f g h i c d (IntKind.wrap .i64 (a+1)) j k (b++[.agg [.int .i64 v,.int .i64 w]])else none else none else(wc W zJN [.int .i64 n]).bind λ x=>zCa x λ C D y=>(PV.asFn y).bind λ e=>(wc W (Prod.fst e) (((Prod.fst (Prod.snd e))++[.slice 3 b])++(Prod.snd (Prod.snd e)))).bind λ z=>zM z λ A B=>some (.agg [.int .i64 A,.int .i64 B]):=((tN_ zYr).loop [1,1,1,0,1,0] 2 _ rfl).trans (by kernel_rfl)
theorem zW2(a c d e:Int) (b g f:List PV):wc W zJM [.agg [.int .i64 a,.int .i64 c,.int .i64 d,.int .i64 e,.slice 6 b],.slice 0 g,.slice 3 f] =
 bif a==0 then some (.agg [.int .i64 d,.int .i64 e])else bif a==1 then(wc W zAG [.slice 0 g,.int .i64 c]).bind λ i=>zA6 i λ h=>bif decide (h<0)then some (.agg [.int .i64 2,.int .i64 0])else bif decide (GE.ge h (f.length:Int))then some (.agg [.int .i64 2,.int .i64 0])else zMf f h 0 0 else zGw g f a c d e b b (b.length:Int) 0 0 0 []:=gA_ (tN_ zYr)
def zAX(a b c:Int) (d:List PV) (e:Int):Option (AV×List Ob):=(lO_ zUQ false 2) [0,1] 2 (St.mk [(0,AV.fx 0 0),(1,.pv (.int .i64 a)),(2,.pv (.int .i64 b)),(3,.fnv zS [] [.own 1 0]),(8,.pv (.int .i64 c))] [.fix 0 0 d,.var false 0 (.pv (.int .i64 e))])
def zAf(c d e f:Int) (a:List PV) (b:Int):Option (AV×List Ob):=(lO_ zUQ false 2) [0,1,0,0,1,2,0,1] 2 (St.mk [(0,AV.fx 0 0),(1,.pv (.int .i64 c)),(2,.pv (.int .i64 d)),(3,.fnv zS [] [.own 1 0]),(8,.pv (.int .i64 e)),(9,.pv (.int .i64 f))] [.fix 0 0 a,.var false 0 (.pv (.int .i64 b))])
def zBx(a b c d:Int) (e:List PV) (f:Int):Option (AV×List Ob):=(jO_ zUQ false 2) [1,2,0,1,0,0,1,2,0,1] (St.mk [(0,AV.fx 0 0),(1,.pv (.int .i64 a)),(2,.pv (.int .i64 b)),(3,.fnv zS [] [.own 1 0]),(8,.pv (.int .i64 c)),(9,.pv (.int .i64 d))] [.fix 0 0 e,.var false 0 (.pv (.int .i64 f))])
theorem zBD(e b a:Int) (c:List PV) (d:Int):zAX e b a c d =
 bif decide (a<b)then zAf e b a a c d else some (.pv (.tup []),[.fix 0 0 c,.var false 0 (.pv (.int .i64 d))]):=((tO_ zUQ false 2).loop [1,0] 2 _ rfl).trans (by kernel_rfl)
theorem zBg(c e f b:Int) (a:List PV) (d:Int):zAf c e f b a d =
 bif decide (GT.gt b c)then bif (true&&(decide (0<=b)))&&(decide (b<(a.length:Int)))then a[Int.toNat b]?.bind λ h=>c_s3 h λ i=>bif (true&&(decide (0<=(IntKind.wrap .i64 (b-1)))))&&(decide ((IntKind.wrap .i64 (b-1))<(a.length:Int)))then a[Int.toNat (IntKind.wrap .i64 (b-1))]?.bind λ j=>c_s3 j λ k=>(W zS false [.pv (.slice 3 i),.pv (.slice 3 k),.own 0 0] [.var false 0 (.pv (.int .i64 d))]).bind λ l=>zDM l λ m g=>zA6 m λ n=>bif decide (n<0)then zBx c e f b a g else zAX c e (IntKind.wrap .i64 (f+1)) a g else none else none else zAX c e (IntKind.wrap .i64 (f+1)) a d:=((tO_ zUQ false 2).loop [1,0,2,1,0,0,1,0] 2 _ rfl).trans (by kernel_rfl)
theorem zDX(d e f a:Int) (b:List PV) (g:Int):zBx d e f a b g =
 bif (true&&(decide (0<=(IntKind.wrap .i64 (a-1)))))&&(decide ((IntKind.wrap .i64 (a-1))<(b.length:Int)))then b[Int.toNat (IntKind.wrap .i64 (a-1))]?.bind λ h=>c_s3 h λ c=>bif (true&&(decide (0<=a)))&&(decide (a<(b.length:Int)))then b[Int.toNat a]?.bind λ i=>c_s3 i λ j=>bif (true&&(decide (0<=a)))&&(decide (a<(b.length:Int)))then b[Int.toNat a]?.bind λ k=>bif (true&&(decide (0<=(IntKind.wrap .i64 (a-1)))))&&(decide ((IntKind.wrap .i64 (a-1))<(((List.length (List.set b (Int.toNat a) (.slice 3 c))):Nat):Int)))then((List.set b (Int.toNat a) (.slice 3 c))[Int.toNat (IntKind.wrap .i64 (a-1))]?).bind λ l=>zAf d e f (IntKind.wrap .i64 (a-1)) (List.set (List.set b (Int.toNat a) (.slice 3 c)) (Int.toNat (IntKind.wrap .i64 (a-1))) (.slice 3 j)) g else none else none else none else none:=((tO_ zUQ false 2).join [1,0,2,1,0,0,1,0,2,1] _).trans (by kernel_rfl)
theorem zDj(a b:Int) (c:List PV) (d:Int):W zAz false [AV.fx 0 0,.pv (.int .i64 a),.pv (.int .i64 b),.fnv zS [] [.own 1 0]] [.fix 0 0 c,.var false 0 (.pv (.int .i64 d))] =
 zAX a b (IntKind.wrap .i64 (a+1)) c d:=goO (by kernel_rfl) (by kernel_rfl) (tO_ zUQ false 2) rfl (by kernel_rfl)
def zA7(a b c:Int) (d:List PV) (e:Int):Option (AV×List Ob):=(lO_ zGj false 2) [0,0,1,1,0,1,0] 2 (St.mk [(0,AV.fx 0 0),(1,.pv (.int .i64 a)),(4,.fnv zS [] [.own 1 0]),(10,.pv (.int .i64 b)),(11,.pv (.int .i64 c))] [.fix 0 0 d,.var false 0 (.pv (.int .i64 e))])
def zA8(b c d:Int) (e:List PV) (a:Int):Option (AV×List Ob):=(lO_ zGj false 2) [0,0,1,1,0,1,0,1] 2 (St.mk [(0,AV.fx 0 0),(2,.pv (.int .i64 b)),(4,.fnv zS [] [.own 1 0]),(14,.pv (.int .i64 c)),(15,.pv (.int .i64 d))] [.fix 0 0 e,.var false 0 (.pv (.int .i64 a))])
def zB2(a b c d e f g:Int) (h:List PV) (i:Int):Option (AV×List Ob):=(jO_ zGj false 2) [1,1,1,1,1,1] (St.mk [(0,AV.fx 0 0),(1,.pv (.int .i64 a)),(2,.pv (.int .i64 b)),(3,.pv (.int .i64 c)),(4,.fnv zS [] [.own 1 0]),(18,.pv (.int .i64 d)),(19,.pv (.int .i64 e)),(20,.pv (.int .i64 f)),(21,.pv (.int .i64 g))] [.fix 0 0 h,.var false 0 (.pv (.int .i64 i))])
def zA9(a b:Int) (c:List PV) (d:Int):Option (AV×List Ob):=(lO_ zGj false 2) [0,1,0,1,1,1,0,1,0] 2 (St.mk [(0,AV.fx 0 0),(10,.pv (.int .i64 a)),(13,.pv (.int .i64 b))] [.fix 0 0 c,.var false 0 (.pv (.int .i64 d))])
def zAa(a b:Int) (c:List PV) (d:Int):Option (AV×List Ob):=(lO_ zGj false 2) [0,1,0,1,1,1,0,1,0,1] 2 (St.mk [(0,AV.fx 0 0),(14,.pv (.int .i64 a)),(17,.pv (.int .i64 b))] [.fix 0 0 c,.var false 0 (.pv (.int .i64 d))])
def zAb(a b c d e f g h:Int) (i:List PV) (j:Int):Option (AV×List Ob):=(lO_ zGj false 2) [0,0,1,1,1,1,1,1,1] 2 (St.mk [(0,AV.fx 0 0),(1,.pv (.int .i64 a)),(2,.pv (.int .i64 b)),(3,.pv (.int .i64 c)),(4,.fnv zS [] [.own 1 0]),(18,.pv (.int .i64 d)),(19,.pv (.int .i64 e)),(20,.pv (.int .i64 f)),(21,.pv (.int .i64 g)),(22,.pv (.int .i64 h))] [.fix 0 0 i,.var false 0 (.pv (.int .i64 j))])
def zT(a b c d e f:Int) (g:Bool) (h:List PV) (i:Int):Option (AV×List Ob):=(jO_ zGj false 2) [1,0,1,1,1,1,1,1,1,1,1] (St.mk [(0,AV.fx 0 0),(1,.pv (.int .i64 a)),(2,.pv (.int .i64 b)),(3,.pv (.int .i64 c)),(4,.fnv zS [] [.own 1 0]),(18,.pv (.int .i64 d)),(20,.pv (.int .i64 e)),(24,.pv (.int .i64 f)),(185,.pv (.bool g))] [.fix 0 0 h,.var false 0 (.pv (.int .i64 i))])
def zBA(a b c d e:Int) (f:List PV) (g:Int):Option (AV×List Ob):=(jO_ zGj false 2) [1,1,1,1,1,1,1,1,1,1] (St.mk [(0,AV.fx 0 0),(1,.pv (.int .i64 a)),(3,.pv (.int .i64 b)),(4,.fnv zS [] [.own 1 0]),(18,.pv (.int .i64 c)),(20,.pv (.int .i64 d)),(24,.pv (.int .i64 e))] [.fix 0 0 f,.var false 0 (.pv (.int .i64 g))])
def zB3(a b c d e:Int) (f:Bool) (g:List PV) (h:Int):Option (AV×List Ob):=(jO_ zGj false 2) [1,0,1,1,1,1,1,1,1,1,1,1] (St.mk [(0,AV.fx 0 0),(1,.pv (.int .i64 a)),(3,.pv (.int .i64 b)),(4,.fnv zS [] [.own 1 0]),(18,.pv (.int .i64 c)),(20,.pv (.int .i64 d)),(24,.pv (.int .i64 e)),(199,.pv (.bool f))] [.fix 0 0 g,.var false 0 (.pv (.int .i64 h))])
def zAv(a b c:Int) (d:List PV) (e:Int):Option (AV×List Ob):=(jO_ zGj false 2) [1,1,1,1,1,1,1,1,1,1,1] (St.mk [(0,AV.fx 0 0),(3,.pv (.int .i64 a)),(4,.fnv zS [] [.own 1 0]),(18,.pv (.int .i64 b)),(24,.pv (.int .i64 c))] [.fix 0 0 d,.var false 0 (.pv (.int .i64 e))])
def zBY(a b c:Int) (d:Bool) (e:List PV) (f:Int):Option (AV×List Ob):=(jO_ zGj false 2) [1,1,1,1,1,1,1,1,1,1,1,1] (St.mk [(0,AV.fx 0 0),(3,.pv (.int .i64 a)),(4,.fnv zS [] [.own 1 0]),(18,.pv (.int .i64 b)),(24,.pv (.int .i64 c)),(213,.pv (.bool d))] [.fix 0 0 e,.var false 0 (.pv (.int .i64 f))])
theorem zCF(d a b:Int) (c:List PV) (f:Int):zA7 d a b c f =
 bif decide (a<b)then bif (true&&(decide (0<=(IntKind.wrap .i64 (Int.fdiv (IntKind.wrap .u64 (IntKind.wrap .i64 (a+b:Int))) 2)))))&&(decide ((IntKind.wrap .i64 (Int.fdiv (IntKind.wrap .u64 (IntKind.wrap .i64 (a+b:Int))) 2))<(c.length:Int)))then c[Int.toNat (IntKind.wrap .i64 (Int.fdiv (IntKind.wrap .u64 (IntKind.wrap .i64 (a+b:Int))) 2))]?.bind λ g=>c_s3 g λ h=>bif (true&&(decide (0<=d)))&&(decide (d<(c.length:Int)))then c[Int.toNat d]?.bind λ i=>c_s3 i λ j=>(W zS false [.pv (.slice 3 h),.pv (.slice 3 j),.own 0 0] [.var false 0 (.pv (.int .i64 f))]).bind λ k=>zDM k λ l e=>zA6 l λ m=>bif decide (m<0)then zA7 d (IntKind.wrap .i64 ((IntKind.wrap .i64 (Int.fdiv (IntKind.wrap .u64 (IntKind.wrap .i64 (a+b:Int))) 2))+1:Int)) b c e else zA7 d a (IntKind.wrap .i64 (Int.fdiv (IntKind.wrap .u64 (IntKind.wrap .i64 (a+b:Int))) 2)) c e else none else none else zA9 a d c f:=((tO_ zGj false 2).loop [0,1,0,1,1,0,0] 2 _ rfl).trans (by kernel_rfl)
theorem zCG(d a b:Int) (c:List PV) (e:Int):zA8 d a b c e =
 bif decide (a<b)then bif (true&&(decide (0<=d)))&&(decide (d<(c.length:Int)))then c[Int.toNat d]?.bind λ g=>c_s3 g λ h=>bif (true&&(decide (0<=(IntKind.wrap .i64 (Int.fdiv (IntKind.wrap .u64 (IntKind.wrap .i64 (a+b:Int))) 2)))))&&(decide ((IntKind.wrap .i64 (Int.fdiv (IntKind.wrap .u64 (IntKind.wrap .i64 (a+b:Int))) 2))<(c.length:Int)))then c[Int.toNat (IntKind.wrap .i64 (Int.fdiv (IntKind.wrap .u64 (IntKind.wrap .i64 (a+b:Int))) 2))]?.bind λ i=>c_s3 i λ j=>(W zS false [.pv (.slice 3 h),.pv (.slice 3 j),.own 0 0] [.var false 0 (.pv (.int .i64 e))]).bind λ k=>zDM k λ l f=>zA6 l λ m=>bif !(decide (m<0))then zA8 d (IntKind.wrap .i64 ((IntKind.wrap .i64 (Int.fdiv (IntKind.wrap .u64 (IntKind.wrap .i64 (a+b:Int))) 2))+1:Int)) b c f else zA8 d a (IntKind.wrap .i64 (Int.fdiv (IntKind.wrap .u64 (IntKind.wrap .i64 (a+b:Int))) 2)) c f else none else none else zAa a d c e:=((tO_ zGj false 2).loop [1,0,1,0,1,1,0,0] 2 _ rfl).trans (by kernel_rfl)
theorem zCH(b c d e a f g:Int) (h:List PV) (i:Int):zB2 b c d e a f g h i =
 zAb b c d e a f g (IntKind.wrap .i64 (a-1)) h i:=((tO_ zGj false 2).join [1,1,1,1,1,1] _).trans (by kernel_rfl)
theorem zCI(c a:Int) (b:List PV) (d:Int):zA9 c a b d =
 bif decide (a<(IntKind.wrap .i64 (c-1)))then bif (true&&(decide (0<=(IntKind.wrap .i64 (a+1)))))&&(decide ((IntKind.wrap .i64 (a+1))<(b.length:Int)))then b[Int.toNat (IntKind.wrap .i64 (a+1))]?.bind λ f=>c_s3 f λ e=>bif (true&&(decide (0<=a)))&&(decide (a<(b.length:Int)))then b[Int.toNat a]?.bind λ g=>c_s3 g λ h=>bif (true&&(decide (0<=a)))&&(decide (a<(b.length:Int)))then b[Int.toNat a]?.bind λ i=>bif (true&&(decide (0<=(IntKind.wrap .i64 (a+1)))))&&(decide ((IntKind.wrap .i64 (a+1))<(((List.length (List.set b (Int.toNat a) (.slice 3 e))):Nat):Int)))then((List.set b (Int.toNat a) (.slice 3 e))[Int.toNat (IntKind.wrap .i64 (a+1))]?).bind λ j=>zA9 c (IntKind.wrap .i64 (a+1)) (List.set (List.set b (Int.toNat a) (.slice 3 e)) (Int.toNat (IntKind.wrap .i64 (a+1))) (.slice 3 h)) d else none else none else none else none else some (.pv (.tup []),[.fix 0 0 b,.var false 0 (.pv (.int .i64 d))]):=((tO_ zGj false 2).loop [0,1,0,1,1,1,0,1,0] 2 _ rfl).trans (by kernel_rfl)
theorem zCJ(c a:Int) (b:List PV) (d:Int):zAa c a b d =
 bif decide (GT.gt a c)then bif (true&&(decide (0<=(IntKind.wrap .i64 (a-1)))))&&(decide ((IntKind.wrap .i64 (a-1))<(b.length:Int)))then b[Int.toNat (IntKind.wrap .i64 (a-1))]?.bind λ f=>c_s3 f λ e=>bif (true&&(decide (0<=a)))&&(decide (a<(b.length:Int)))then b[Int.toNat a]?.bind λ g=>c_s3 g λ h=>bif (true&&(decide (0<=a)))&&(decide (a<(b.length:Int)))then b[Int.toNat a]?.bind λ i=>bif (true&&(decide (0<=(IntKind.wrap .i64 (a-1)))))&&(decide ((IntKind.wrap .i64 (a-1))<(((List.length (List.set b (Int.toNat a) (.slice 3 e))):Nat):Int)))then((List.set b (Int.toNat a) (.slice 3 e))[Int.toNat (IntKind.wrap .i64 (a-1))]?).bind λ j=>zAa c (IntKind.wrap .i64 (a-1)) (List.set (List.set b (Int.toNat a) (.slice 3 e)) (Int.toNat (IntKind.wrap .i64 (a-1))) (.slice 3 h)) d else none else none else none else none else some (.pv (.tup []),[.fix 0 0 b,.var false 0 (.pv (.int .i64 d))]):=((tO_ zGj false 2).loop [1,0,1,0,1,1,1,0,1,0] 2 _ rfl).trans (by kernel_rfl)
theorem zCK(g d h i e a b f:Int) (c:List PV) (j:Int):zAb g d h i e a b f c j =
 bif decide (a<b)then bif (true&&(decide (0<=(IntKind.wrap .i64 (f-(IntKind.wrap .i64 (Int.fdiv (IntKind.wrap .u64 (IntKind.wrap .i64 (a+b:Int))) 2)):Int)))))&&(decide ((IntKind.wrap .i64 (f-(IntKind.wrap .i64 (Int.fdiv (IntKind.wrap .u64 (IntKind.wrap .i64 (a+b:Int))) 2)):Int))<(c.length:Int)))then c[Int.toNat (IntKind.wrap .i64 (f-(IntKind.wrap .i64 (Int.fdiv (IntKind.wrap .u64 (IntKind.wrap .i64 (a+b:Int))) 2)):Int))]?.bind λ l=>c_s3 l λ m=>bif (true&&(decide (0<=(IntKind.wrap .i64 (Int.fdiv (IntKind.wrap .u64 (IntKind.wrap .i64 (a+b:Int))) 2)))))&&(decide ((IntKind.wrap .i64 (Int.fdiv (IntKind.wrap .u64 (IntKind.wrap .i64 (a+b:Int))) 2))<(c.length:Int)))then c[Int.toNat (IntKind.wrap .i64 (Int.fdiv (IntKind.wrap .u64 (IntKind.wrap .i64 (a+b:Int))) 2))]?.bind λ n=>c_s3 n λ o=>(W zS false [.pv (.slice 3 m),.pv (.slice 3 o),.own 0 0] [.var false 0 (.pv (.int .i64 j))]).bind λ p=>zDM p λ q k=>zA6 q λ r=>bif !(decide (r<0))then zAb g d h i e (IntKind.wrap .i64 ((IntKind.wrap .i64 (Int.fdiv (IntKind.wrap .u64 (IntKind.wrap .i64 (a+b:Int))) 2))+1:Int)) b f c k else zAb g d h i e a (IntKind.wrap .i64 (Int.fdiv (IntKind.wrap .u64 (IntKind.wrap .i64 (a+b:Int))) 2)) f c k else none else none else bif decide (a<d)then zT g d h i a (IntKind.wrap .i64 (e-a:Int)) (decide (d<(IntKind.wrap .i64 (e-a:Int)))) c j else zT g d h i a (IntKind.wrap .i64 (e-a:Int)) false c j:=((tO_ zGj false 2).loop [1,1,1,1,1,1,1,0,0] 2 _ rfl).trans (by kernel_rfl)
theorem zCL(c h d e a b:Int) (i:Bool) (f:List PV) (g:Int):zT c h d e a b i f g =
 bif i then(W zCS false [AV.fx 0 0,.pv (.int .i64 a),.pv (.int .i64 h),.pv (.int .i64 b),.fnv zS [] [.own 1 0]] [.fix 0 0 f,.var false 0 (.pv (.int .i64 g))]).bind λ k=>zEZ k λ m l j=>zBA c d e a b l j else zBA c d e a b f g:=((tO_ zGj false 2).join [1,1,1,1,1,1,1,1,1,0,1] _).trans (by kernel_rfl)
theorem zEA(b d c a e:Int) (f:List PV) (g:Int):zBA b d c a e f g =
 bif decide (b<a)then zB3 b d c a e (decide (a<c)) f g else zB3 b d c a e false f g:=((tO_ zGj false 2).join [1,1,1,1,1,1,1,1,1,1] _).trans (by kernel_rfl)
theorem zCM(f b a g c:Int) (h:Bool) (d:List PV) (e:Int):zB3 f b a g c h d e =
 bif h then(W zAc false [AV.fx 0 0,.pv (.int .i64 f),.pv (.int .i64 g),.pv (.int .i64 a),.fnv zS [] [.own 1 0]] [.fix 0 0 d,.var false 0 (.pv (.int .i64 e))]).bind λ i=>zEZ i λ l j k=>zAv b a c j k else zAv b a c d e:=((tO_ zGj false 2).join [1,1,1,1,1,1,1,1,1,1,0,1] _).trans (by kernel_rfl)
theorem zDs(b c a:Int) (d:List PV) (e:Int):zAv b c a d e =
 bif decide (c<a)then zBY b c a (decide (a<b)) d e else zBY b c a false d e:=((tO_ zGj false 2).join [1,1,1,1,1,1,1,1,1,1,1] _).trans (by kernel_rfl)
theorem zCC(c d e:Int) (f:Bool) (a:List PV) (b:Int):zBY c d e f a b =
 bif f then(W zAc false [AV.fx 0 0,.pv (.int .i64 d),.pv (.int .i64 e),.pv (.int .i64 c),.fnv zS [] [.own 1 0]] [.fix 0 0 a,.var false 0 (.pv (.int .i64 b))]).bind λ g=>zEZ g λ j h i=>some (.pv (.tup []),[.fix 0 0 h,.var false 0 (.pv (.int .i64 i))])else some (.pv (.tup []),[.fix 0 0 a,.var false 0 (.pv (.int .i64 b))]):=((tO_ zGj false 2).join [1,1,1,1,1,1,1,1,1,1,1,1] _).trans (by kernel_rfl)
theorem zEj(a b c:Int) (d:List PV) (e:Int):W zAc false [AV.fx 0 0,.pv (.int .i64 a),.pv (.int .i64 b),.pv (.int .i64 c),.fnv zS [] [.own 1 0]] [.fix 0 0 d,.var false 0 (.pv (.int .i64 e))] =
 bif (IntKind.wrap .i64 (b-a:Int))==1 then zA7 a b c d e else bif (IntKind.wrap .i64 (c-b:Int))==1 then zA8 b a b d e else bif decide (GT.gt b (IntKind.wrap .i64 (Int.fdiv (IntKind.wrap .u64 (IntKind.wrap .i64 (a+c:Int))) 2)))then zB2 a b c (IntKind.wrap .i64 (Int.fdiv (IntKind.wrap .u64 (IntKind.wrap .i64 (a+c:Int))) 2)) (IntKind.wrap .i64 ((IntKind.wrap .i64 (Int.fdiv (IntKind.wrap .u64 (IntKind.wrap .i64 (a+c:Int))) 2))+b:Int)) (IntKind.wrap .i64 ((IntKind.wrap .i64 ((IntKind.wrap .i64 (Int.fdiv (IntKind.wrap .u64 (IntKind.wrap .i64 (a+c:Int))) 2))+b:Int))-c:Int)) (IntKind.wrap .i64 (Int.fdiv (IntKind.wrap .u64 (IntKind.wrap .i64 (a+c:Int))) 2)) d e else zB2 a b c (IntKind.wrap .i64 (Int.fdiv (IntKind.wrap .u64 (IntKind.wrap .i64 (a+c:Int))) 2)) (IntKind.wrap .i64 ((IntKind.wrap .i64 (Int.fdiv (IntKind.wrap .u64 (IntKind.wrap .i64 (a+c:Int))) 2))+b:Int)) a b d e:=goO (by kernel_rfl) (by kernel_rfl) (tO_ zGj false 2) rfl (by kernel_rfl)
def zBR(a:List PV) (b c d e:Int):Option PV:=(lN_ z3E) [0,1,0,1] 0 (St.mk [(0,.pv (.slice 3 a)),(3,.pv (.imm 3 (.agg [.int .i64 b,.int .i64 c]) 0)),(7,.pv (.int .i64 d)),(8,.pv (.int .i64 e))] [])
theorem zDY(b:List PV) (c d e a:Int):zBR b c d e a =
 bif decide (a<e)then bif decide (0<=a)then b[Int.toNat a]?.bind λ h=>zM h λ i j=>((bif c==i then bif d==j then some true else some false else some false).bind λ k=>some (.bool k)).bind λ f=>c_b f λ g=>bif g then some (.int .i64 a)else zBR b c d e (IntKind.wrap .i64 (a+1))else none else some (.int .i64 (-1)):=((tN_ z3E).loop [1,0,1,0] 0 _ rfl).trans (by kernel_rfl)
theorem zHl(c:List PV) (a b:Int):wc W zEa [.slice 3 c,.agg [.int .i64 a,.int .i64 b]] =
 zBR c a b (c.length:Int) 0:=gA_ (tN_ z3E)
def zMg(a b c d:Int) (e:List PV):Option PV:=(jN_ zYs) [1,1] (St.mk [(1,.pv (.imm 6 (.agg [.int .i64 a,.int .i64 b,.int .i64 c,.int .i64 d,.slice 6 e]) 0))] [])
def zMh(a b c d:Int) (e:List PV) (f g h i:Int) (j:List PV):Option PV:=(jN_ zYs) [1,1,1,1] (St.mk [(5,.own 0 0),(6,.own 1 0)] [.var false 6 (.pv (.agg [.int .i64 a,.int .i64 b,.int .i64 c,.int .i64 d,.slice 6 e])),.var false 6 (.pv (.agg [.int .i64 f,.int .i64 g,.int .i64 h,.int .i64 i,.slice 6 j]))])
theorem zOl(m n o p:Int) (d:List PV):zMg m n o p d =
 d[0]?.bind λ q=>zJ q λ e a f g h=>d[1]?.bind λ i=>zJ i λ b c j k l=>bif e != 1 then some (.tup [.int .i64 0,.int .i64 0,.bool false])else bif b != 1 then some (.tup [.int .i64 0,.int .i64 0,.bool false])else bif a==c then some (.tup [.int .i64 0,.int .i64 0,.bool false])else zMh e a f g h b c j k l:=((tN_ zYs).join [1,1] _).trans (by kernel_rfl)
theorem zOm(c a d e:Int) (f:List PV) (g b h i:Int) (j:List PV):zMh c a d e f g b h i j =
 some (.tup [.int .i64 a,.int .i64 b,.bool true]):=((tN_ zYs).join [1,1,1,1] _).trans (by kernel_rfl)
theorem zW3(a b c d:Int) (e:List PV):wc W zLg [.agg [.int .i64 a,.int .i64 b,.int .i64 c,.int .i64 d,.slice 6 e]] =
 (wc W zIb [.agg [.int .i64 a,.int .i64 b,.int .i64 c,.int .i64 d,.slice 6 e]]).bind λ f=>c_b f λ g=>bif !g then some (.tup [.int .i64 0,.int .i64 0,.bool false])else bif a != 6 then some (.tup [.int .i64 0,.int .i64 0,.bool false])else zMg a b c d e:=gA_ (tN_ zYs)
theorem zZV(a b:Int):wc W zId [.agg [.int .i64 a,.int .i64 b]] =
 (wc W zHZ [.agg [.int .i64 a,.int .i64 b]]).bind λ c=>c_b c λ d=>bif !d then(wc W zH0 []).bind λ e=>zM e λ f g=>some (.agg [.int .i64 f,.int .i64 g])else some (.agg [.int .i64 a,.int .i64 b]):=gA_ (tN_ z7E)
def zIX(a:Int) (b:List PV) (c d:Int):Option PV:=(lN_ z3F) [0,1,0,1,1] 0 (St.mk [(3,.pv (.int .i64 a)),(6,.pv (.slice 0 b)),(7,.pv (.int .i64 c)),(8,.pv (.int .i64 d))] [])
theorem zFx(b:Int) (c:List PV) (d a:Int):zIX b c d a =
 bif decide (a<d)then bif decide (0<=a)then c[Int.toNat a]?.bind λ f=>zA6 f λ e=>bif e != b then some (.int .i64 e)else zIX b c d (IntKind.wrap .i64 (a+1))else none else some (.int .i64 b):=((tN_ z3F).loop [1,1,0,1,0] 0 _ rfl).trans (by kernel_rfl)
theorem zUa(a:List PV):wc W zKJ [.slice 0 a] =
 zIX 0 a (a.length:Int) 0:=gA_ (tN_ z3F)
theorem z0y(a:List PV):wc W zH1 [.slice 3 a] =
 (wc W zIc [.int .i64 2]).bind λ e=>(wc W zBq [.slice 3 a,e]).bind λ f=>c_b f λ g=>bif g then(wc W zH0 []).bind λ h=>zM h λ i j=>some (.tup [.agg [.int .i64 i,.int .i64 j],.bool true])else(wc W zIc [.int .i64 1]).bind λ k=>(wc W zBq [.slice 3 a,k]).bind λ l=>c_b l λ m=>bif m then(wc W zKw []).bind λ b=>zM b λ c d=>some (.tup [.agg [.int .i64 c,.int .i64 d],.bool true])else some (.tup [.agg [.int .i64 0,.int .i64 0],.bool false]):=gA_ (tN_ z7F)
theorem z3P(a:Bool):wc W zMV [.bool a] =
 bif a then(wc W zEq [.int .i64 1]).bind λ b=>zM b λ c d=>some (.agg [.int .i64 c,.int .i64 d])else(wc W zEq [.int .i64 0]).bind λ e=>zM e λ f g=>some (.agg [.int .i64 f,.int .i64 g]):=gA_ (tN_ z7G)
theorem zK1(a:Int):wc W zH2 [.int .i64 a] =
 some (.bool (a != a)):=gA_ (tN_ z7H)
def zCo(a b c d e:Int) (f:List PV) (g h:Int):Option PV:=(lN_ zYt) [0,1,0,1,1] 0 (St.mk [(1,.pv (.int .i64 a)),(2,.pv (.imm 6 (.agg [.int .i64 b,.int .i64 c,.int .i64 d,.int .i64 e,.slice 6 f]) 0)),(5,.pv (.int .i64 g)),(6,.pv (.int .i64 h))] [])
def zFk(h a b c d:Int) (e:List PV) (f g:Int):Option PV:=(jN_ zYt) [1,0,0,1,0,1,1] (St.mk [(1,.pv (.int .i64 h)),(2,.pv (.imm 6 (.agg [.int .i64 a,.int .i64 b,.int .i64 c,.int .i64 d,.slice 6 e]) 0)),(5,.pv (.int .i64 f)),(6,.pv (.int .i64 g))] [])
theorem zEp(b e f g h:Int) (c:List PV) (a d:Int):zCo b e f g h c a d =
 bif decide (d<(c.length:Int))then bif decide (a<=b)then zFk b e f g h c a d else some (.int .i64 a)else some (.int .i64 a):=((tN_ zYt).loop [1,1,0,1,0] 0 _ rfl).trans (by kernel_rfl)
theorem zIY(h d e f g:Int) (b:List PV) (c a:Int):zFk h d e f g b c a =
 bif decide (0<=a)then b[Int.toNat a]?.bind λ i=>zJ i λ j k l m n=>(wc W zDL [.agg [.int .i64 j,.int .i64 k,.int .i64 l,.int .i64 m,.slice 6 n],.int .i64 (IntKind.wrap .i64 (h-c:Int))]).bind λ o=>zA6 o λ p=>zCo h d e f g b (IntKind.wrap .i64 (c+p:Int)) (IntKind.wrap .i64 (a+1))else none:=((tN_ zYt).join [1,1,0,1,0,0,1] _).trans (by kernel_rfl)
theorem zLM(a b c d:Int) (e:List PV) (f:Int):wc W zDL [.agg [.int .i64 a,.int .i64 b,.int .i64 c,.int .i64 d,.slice 6 e],.int .i64 f] =
 zCo f a b c d e 1 0:=gA_ (tN_ zYt)
theorem zW4(a:Int):wc W zJN [.int .i64 a] =
 bif a==2 then(wc W zFJ [.fn zMW [] []]).bind λ q=>zCa q λ r s t=>some (.agg [.int .i64 r,.int .i64 s,t])else bif a==3 then(wc W zFJ [.fn zMX [] []]).bind λ u=>zCa u λ v w x=>some (.agg [.int .i64 v,.int .i64 w,x])else bif a==4 then(wc W zFJ [.fn zMY [] []]).bind λ y=>zCa y λ b c d=>some (.agg [.int .i64 b,.int .i64 c,d])else bif a==5 then(wc W zFJ [.fn zMZ [] []]).bind λ e=>zCa e λ f g h=>some (.agg [.int .i64 f,.int .i64 g,h])else bif a==6 then(wc W zFJ [.fn zMU [] []]).bind λ i=>zCa i λ j k l=>some (.agg [.int .i64 j,.int .i64 k,l])else bif a==7 then(wc W zFJ [.fn zPA [] []]).bind λ m=>zCa m λ n o p=>some (.agg [.int .i64 n,.int .i64 o,p])else bif a==8 then some (.agg [.int .i64 0,.int .i64 4,.fn zGk [] []])else bif a==9 then some (.agg [.int .i64 0,.int .i64 4,.fn zGl [] []])else bif a==10 then some (.agg [.int .i64 1,.int .i64 1,.fn zGm [] []])else some (.agg [.int .i64 0,.int .i64 0,PV.nilfn]):=gA_ (tN_ z7I)
theorem zUb(a b c:Int):wc W zCy [.agg [.int .i64 a,.int .i64 b],.imm 0 (.int .i64 c) 0] =
 (wc W zId [.agg [.int .i64 a,.int .i64 b]]).bind λ d=>zM d λ e f=>some (.bool (e==c)):=gA_ (tN_ z7J)
theorem zUc(a:Int):wc W zKK [.int .i64 a] =
 (wc W zF2 [.int .i64 a,.int .i64 0,.int .i64 15]).bind λ b=>c_b b λ c=>bif !c then some (.tup [.int .i64 0,.int .i64 0,.bool false])else some (.tup [.int .i64 (IntKind.wrap .i64 (Int.tdiv a 4)),.int .i64 (Int.tmod a 4),.bool true]):=gA_ (tN_ z7K)
def zAi(a b c:Int) (d:List PV) (e:Int):Option (AV×List Ob):=(lO_ z3G false 2) [0,0,1,1] 2 (St.mk [(0,AV.fx 0 0),(2,.pv (.int .i64 a)),(4,.fnv zS [] [.own 1 0]),(10,.pv (.int .i64 b)),(11,.pv (.int .i64 c))] [.fix 0 0 d,.var false 0 (.pv (.int .i64 e))])
theorem zE6(b a c:Int) (d:List PV) (e:Int):zAi b a c d e =
 bif a != c then bif decide (GT.gt a c)then(W zAr false [AV.fx 0 0,.pv (.int .i64 (IntKind.wrap .i64 (b-a:Int))),.pv (.int .i64 b),.pv (.int .i64 c),.fnv zS [] [.own 1 0]] [.fix 0 0 d,.var false 0 (.pv (.int .i64 e))]).bind λ f=>zEZ f λ o g h=>zAi b (IntKind.wrap .i64 (a-c:Int)) c g h else(W zAr false [AV.fx 0 0,.pv (.int .i64 (IntKind.wrap .i64 (b-a:Int))),.pv (.int .i64 (IntKind.wrap .i64 ((IntKind.wrap .i64 (b+c:Int))-a:Int))),.pv (.int .i64 a),.fnv zS [] [.own 1 0]] [.fix 0 0 d,.var false 0 (.pv (.int .i64 e))]).bind λ i=>zEZ i λ p j k=>zAi b a (IntKind.wrap .i64 (c-a:Int)) j k else(W zAr false [AV.fx 0 0,.pv (.int .i64 (IntKind.wrap .i64 (b-a:Int))),.pv (.int .i64 b),.pv (.int .i64 a),.fnv zS [] [.own 1 0]] [.fix 0 0 d,.var false 0 (.pv (.int .i64 e))]).bind λ l=>zEZ l λ q m n=>some (.pv (.tup []),[.fix 0 0 m,.var false 0 (.pv (.int .i64 n))]):=((tO_ z3G false 2).loop [1,1,0,0] 2 _ rfl).trans (by kernel_rfl)
theorem zFD(b a c:Int) (d:List PV) (e:Int):W zCS false [AV.fx 0 0,.pv (.int .i64 b),.pv (.int .i64 a),.pv (.int .i64 c),.fnv zS [] [.own 1 0]] [.fix 0 0 d,.var false 0 (.pv (.int .i64 e))] =
 zAi a (IntKind.wrap .i64 (a-b:Int)) (IntKind.wrap .i64 (c-a:Int)) d e:=goO (by kernel_rfl) (by kernel_rfl) (tO_ z3G false 2) rfl (by kernel_rfl)
theorem zZW(a:PV):wc W zFJ [a] =
 bif PV.okSh 0 a then some (.agg [.int .i64 2,.int .i64 2,.fn zCe [] [.imm 0 a 0]])else none:=gA_ (tN_ z7L)
theorem z0z(a b c d:Int):wc W zMW [.agg [.int .i64 a,.int .i64 b],.agg [.int .i64 c,.int .i64 d]] =
 (wc W zFK [.agg [.int .i64 a,.int .i64 b],.agg [.int .i64 c,.int .i64 d],.fn zLh [] []]).bind λ e=>zM e λ f g=>some (.agg [.int .i64 f,.int .i64 g]):=gA_ (tN_ z7M)
theorem z1A(a b c d:Int):wc W zMX [.agg [.int .i64 a,.int .i64 b],.agg [.int .i64 c,.int .i64 d]] =
 (wc W zFK [.agg [.int .i64 a,.int .i64 b],.agg [.int .i64 c,.int .i64 d],.fn zLi [] []]).bind λ e=>zM e λ f g=>some (.agg [.int .i64 f,.int .i64 g]):=gA_ (tN_ z7N)
theorem z1B(a b c d:Int):wc W zMY [.agg [.int .i64 a,.int .i64 b],.agg [.int .i64 c,.int .i64 d]] =
 (wc W zFK [.agg [.int .i64 a,.int .i64 b],.agg [.int .i64 c,.int .i64 d],.fn zJO [] []]).bind λ e=>zM e λ f g=>some (.agg [.int .i64 f,.int .i64 g]):=gA_ (tN_ z7O)
theorem z1C(a b c d:Int):wc W zMZ [.agg [.int .i64 a,.int .i64 b],.agg [.int .i64 c,.int .i64 d]] =
 (wc W zFK [.agg [.int .i64 a,.int .i64 b],.agg [.int .i64 c,.int .i64 d],.fn zLj [] []]).bind λ e=>zM e λ f g=>some (.agg [.int .i64 f,.int .i64 g]):=gA_ (tN_ z7P)
theorem z3Q(c a d b:Int):wc W zPA [.agg [.int .i64 c,.int .i64 a],.agg [.int .i64 d,.int .i64 b]] =
 (wc W zH1 [.slice 3 [.agg [.int .i64 c,.int .i64 a],.agg [.int .i64 d,.int .i64 b]]]).bind λ e=>e.asTup.bind λ h=>h[0]?.bind λ i=>zM i λ j k=>e.asTup.bind λ l=>l[1]?.bind λ m=>c_b m λ n=>bif n then some (.agg [.int .i64 j,.int .i64 k])else(wc W zMV [.bool (decide (a<b))]).bind λ o=>zM o λ f g=>some (.agg [.int .i64 f,.int .i64 g]):=gA_ (tN_ z7Q)
theorem zSb(a:List PV):wc W zGk [.slice 3 a] =
 (wc W zQC [.slice 3 a]).bind λ b=>zM b λ c d=>some (.agg [.int .i64 c,.int .i64 d]):=gA_ (tN_ z7R)
theorem z1D(a:List PV):wc W zQC [.slice 3 a] =
 (wc W zEq [.int .i64 0]).bind λ b=>zM b λ c d=>(wc W zEq [.int .i64 1]).bind λ e=>zM e λ f g=>(wc W zJP [.slice 3 a,.fn zGn [] [],.agg [.int .i64 c,.int .i64 d],.agg [.int .i64 f,.int .i64 g]]).bind λ h=>zM h λ i j=>some (.agg [.int .i64 i,.int .i64 j]):=gA_ (tN_ z7S)
theorem zSc(a:List PV):wc W zGl [.slice 3 a] =
 (wc W zSU [.slice 3 a]).bind λ b=>zM b λ c d=>some (.agg [.int .i64 c,.int .i64 d]):=gA_ (tN_ z7T)
theorem z3R(a:List PV):wc W zSU [.slice 3 a] =
 (wc W zEq [.int .i64 1]).bind λ b=>zM b λ c d=>(wc W zEq [.int .i64 0]).bind λ e=>zM e λ f g=>(wc W zJP [.slice 3 a,.fn zHE [] [],.agg [.int .i64 c,.int .i64 d],.agg [.int .i64 f,.int .i64 g]]).bind λ h=>zM h λ i j=>some (.agg [.int .i64 i,.int .i64 j]):=gA_ (tN_ z7U)
theorem zSd(a:List PV):wc W zGm [.slice 3 a] =
 a[0]?.bind λ b=>zM b λ c d=>(wc W zQD [.agg [.int .i64 c,.int .i64 d]]).bind λ e=>zM e λ f g=>some (.agg [.int .i64 f,.int .i64 g]):=gA_ (tN_ z7V)
theorem z1E(b a:Int):wc W zQD [.agg [.int .i64 b,.int .i64 a]] =
 (wc W zH1 [.slice 3 [.agg [.int .i64 b,.int .i64 a]]]).bind λ c=>c.asTup.bind λ f=>f[0]?.bind λ g=>zM g λ h i=>c.asTup.bind λ j=>j[1]?.bind λ k=>c_b k λ l=>bif l then some (.agg [.int .i64 h,.int .i64 i])else(wc W zMV [.bool (a==0)]).bind λ m=>zM m λ d e=>some (.agg [.int .i64 d,.int .i64 e]):=gA_ (tN_ z7W)
def zAw(a b c d:Int) (e:List PV) (f:Int):Option (AV×List Ob):=(lO_ z3H false 2) [0,1] 2 (St.mk [(0,AV.fx 0 0),(1,.pv (.int .i64 a)),(2,.pv (.int .i64 b)),(3,.pv (.int .i64 c)),(10,.pv (.int .i64 d))] [.fix 0 0 e,.var false 0 (.pv (.int .i64 f))])
theorem zCD(b d e a:Int) (c:List PV) (f:Int):zAw b d e a c f =
 bif decide (a<e)then bif (true&&(decide (0<=(IntKind.wrap .i64 (d+a:Int)))))&&(decide ((IntKind.wrap .i64 (d+a:Int))<(c.length:Int)))then c[Int.toNat (IntKind.wrap .i64 (d+a:Int))]?.bind λ i=>c_s3 i λ g=>bif (true&&(decide (0<=(IntKind.wrap .i64 (b+a:Int)))))&&(decide ((IntKind.wrap .i64 (b+a:Int))<(c.length:Int)))then c[Int.toNat (IntKind.wrap .i64 (b+a:Int))]?.bind λ j=>c_s3 j λ h=>bif (true&&(decide (0<=(IntKind.wrap .i64 (b+a:Int)))))&&(decide ((IntKind.wrap .i64 (b+a:Int))<(c.length:Int)))then c[Int.toNat (IntKind.wrap .i64 (b+a:Int))]?.bind λ k=>bif (true&&(decide (0<=(IntKind.wrap .i64 (d+a:Int)))))&&(decide ((IntKind.wrap .i64 (d+a:Int))<(((List.length (List.set c (Int.toNat (IntKind.wrap .i64 (b+a:Int))) (.slice 3 g))):Nat):Int)))then((List.set c (Int.toNat (IntKind.wrap .i64 (b+a:Int))) (.slice 3 g))[Int.toNat (IntKind.wrap .i64 (d+a:Int))]?).bind λ l=>zAw b d e (IntKind.wrap .i64 (a+1)) (List.set (List.set c (Int.toNat (IntKind.wrap .i64 (b+a:Int))) (.slice 3 g)) (Int.toNat (IntKind.wrap .i64 (d+a:Int))) (.slice 3 h)) f else none else none else none else none else some (.pv (.tup []),[.fix 0 0 c,.var false 0 (.pv (.int .i64 f))]):=((tO_ z3H false 2).loop [1,0] 2 _ rfl).trans (by kernel_rfl)
theorem zE7(a b c:Int) (d:List PV) (e:Int):W zAr false [AV.fx 0 0,.pv (.int .i64 a),.pv (.int .i64 b),.pv (.int .i64 c),.fnv zS [] [.own 1 0]] [.fix 0 0 d,.var false 0 (.pv (.int .i64 e))] =
 zAw a b c 0 d e:=goO (by kernel_rfl) (by kernel_rfl) (tO_ z3H false 2) rfl (by kernel_rfl)
theorem zUd(a:List PV) (c:PV):wc W zCe [.slice 3 a,.imm 0 c 0] =
 a[0]?.bind λ e=>zM e λ f g=>a[1]?.bind λ h=>zM h λ i j=>(PV.asFn c).bind λ b=>(wc W (Prod.fst b) (((Prod.fst (Prod.snd b))++[.agg [.int .i64 f,.int .i64 g],.agg [.int .i64 i,.int .i64 j]])++(Prod.snd (Prod.snd b)))).bind λ k=>zM k λ l d=>some (.agg [.int .i64 l,.int .i64 d]):=gA_ (tN_ z7X)
theorem zUe(c a d b:Int) (g:PV):wc W zFK [.agg [.int .i64 c,.int .i64 a],.agg [.int .i64 d,.int .i64 b],g] =
 (wc W zH1 [.slice 3 [.agg [.int .i64 c,.int .i64 a],.agg [.int .i64 d,.int .i64 b]]]).bind λ h=>h.asTup.bind λ u=>u[0]?.bind λ v=>zM v λ w x=>h.asTup.bind λ y=>y[1]?.bind λ z=>c_b z λ A=>bif A then some (.agg [.int .i64 w,.int .i64 x])else(PV.asFn g).bind λ f=>(wc W (Prod.fst f) (((Prod.fst (Prod.snd f))++[.int .i64 a,.int .i64 b])++(Prod.snd (Prod.snd f)))).bind λ e=>e.asTup.bind λ i=>i[0]?.bind λ j=>zA6 j λ k=>e.asTup.bind λ l=>l[1]?.bind λ m=>c_b m λ n=>bif !n then(wc W zH0 []).bind λ o=>zM o λ p q=>some (.agg [.int .i64 p,.int .i64 q])else(wc W zEq [.int .i64 k]).bind λ r=>zM r λ s t=>some (.agg [.int .i64 s,.int .i64 t]):=gA_ (tN_ z7Y)
theorem zW5(a b:Int):wc W zLh [.int .i64 a,.int .i64 b] =
 some (.tup [.int .i64 (IntKind.wrap .i64 (a+b:Int)),.bool ((decide ((IntKind.wrap .i64 (a+b:Int))<a))==(decide (b<0)))]):=gA_ (tN_ z7Z)
theorem zW6(a b:Int):wc W zLi [.int .i64 a,.int .i64 b] =
 some (.tup [.int .i64 (IntKind.wrap .i64 (a-b:Int)),.bool ((decide (GT.gt (IntKind.wrap .i64 (a-b:Int)) a))==(decide (b<0)))]):=gA_ (tN_ z71)
def zGx(a b c d e:Int):Option PV:=(jN_ z3I) [1,1,1,1] (St.mk [(0,.pv (.int .i64 a)),(1,.pv (.int .i64 b)),(6,.pv (.int IntKind.u64 c)),(7,.pv (.int IntKind.u64 d)),(8,.pv (.int IntKind.u64 e))] [])
theorem zOn(a b c d e:Int):zGx a b c d e =
 bif c==0 then some (.tup [.int .i64 (IntKind.wrap .i64 (a*b:Int)),.bool (decide (d<=e))])else some (.tup [.int .i64 (IntKind.wrap .i64 (a*b:Int)),.bool false]):=((tN_ z3I).join [1,1,1,1] _).trans (by kernel_rfl)
theorem zW7(a b:Int):wc W zJO [.int .i64 a,.int .i64 b] =
 (wc W zKx [.int .i64 a]).bind λ g=>zWJ g λ h=>(wc W zKx [.int .i64 b]).bind λ i=>zWJ i λ j=>(wc W zOH [.int IntKind.u64 h,.int IntKind.u64 j]).bind λ d=>d.asTup.bind λ k=>k[0]?.bind λ l=>zWJ l λ e=>d.asTup.bind λ m=>m[1]?.bind λ f=>zWJ f λ c=>bif !((decide (a<0))==(decide (b<0)))then zGx a b e c 9223372036854775808 else zGx a b e c 9223372036854775807:=gA_ (tN_ z3I)
theorem zZX(a:Int):wc W zKx [.int .i64 a] =
 bif decide (a<0)then some (.int IntKind.u64 (IntKind.wrap .u64 (0-(IntKind.wrap .u64 a):Int)))else some (.int IntKind.u64 (IntKind.wrap .u64 a)):=gA_ (tN_ z73)
def zGy(a b:Int):Option PV:=(jN_ z3J) [1,1] (St.mk [(0,.pv (.int .i64 a)),(1,.pv (.int .i64 b))] [])
theorem zOo(b a:Int):zGy b a =
 (bif a==0 then none else some (.int .i64 (IntKind.wrap .i64 (Int.tdiv b a)))).bind λ c=>zA6 c λ d=>some (.tup [.int .i64 d,.bool true]):=((tN_ z3J).join [1,1] _).trans (by kernel_rfl)
theorem zW8(b a:Int):wc W zLj [.int .i64 b,.int .i64 a] =
 bif a==0 then some (.tup [.int .i64 0,.bool false])else bif b==(-9223372036854775808)then bif a==(-1)then some (.tup [.int .i64 0,.bool false])else zGy b a else zGy b a:=gA_ (tN_ z3J)
theorem zW9(e:List PV) (f:PV) (a b c d:Int):wc W zJP [.slice 3 e,f,.agg [.int .i64 a,.int .i64 b],.agg [.int .i64 c,.int .i64 d]] =
 (wc W zBq [.slice 3 e,f]).bind λ i=>c_b i λ j=>bif j then some (.agg [.int .i64 a,.int .i64 b])else(wc W zH1 [.slice 3 e]).bind λ g=>g.asTup.bind λ k=>k[0]?.bind λ l=>zM l λ m n=>g.asTup.bind λ o=>o[1]?.bind λ p=>c_b p λ h=>bif h then some (.agg [.int .i64 m,.int .i64 n])else some (.agg [.int .i64 c,.int .i64 d]):=gA_ (tN_ z74)
theorem zSe(a b:Int):wc W zGn [.agg [.int .i64 a,.int .i64 b]] =
 (wc W zEq [.int .i64 0]).bind λ c=>zM c λ d e=>((bif a==d then bif b==e then some true else some false else some false).bind λ f=>some (.bool f)).bind λ g=>c_b g λ h=>some (.bool h):=gA_ (tN_ z75)
end Go.Cf



namespace Go.Cf
open Go Go.Ab
structure Val where
 K:Int
 N:Int
 deriving DecidableEq
def Val.pv(v:Val):PV:= .agg [.int .i64 v.K,.int .i64 v.N]
@[simp] theorem Val.fold(v:Val):PV.agg [.int .i64 v.K,.int .i64 v.N]=v.pv:=rfl
@[simp] theorem Val.c_mk(v:Val) {R:Type} (f:Int->Int->Option R):zM v.pv f=f v.K v.N:=rfl
structure Def where
 Cols:Int
 Rows:Int
 deriving DecidableEq
def Def.pv(d:Def):PV:= .agg [.int .i64 d.Cols,.int .i64 d.Rows]
@[simp] theorem Def.fold(v:Def):PV.agg [.int .i64 v.Cols,.int .i64 v.Rows]=v.pv:=rfl
@[simp] theorem Def.c_mk(v:Def) {R:Type} (f:Int->Int->Option R):zM v.pv f=f v.Cols v.Rows:=rfl
@[simp] theorem Def.load0(v:Def):PV.load 3 v.pv 0 0=some (.int .i64 v.Cols):=rfl
@[simp] theorem Def.load1(v:Def):PV.load 3 v.pv 1 0=some (.int .i64 v.Rows):=rfl
def rowp(r:List Val):PV:= .slice 3 (r.map Val.pv)
def tabp(t:List (List Val)):PV:= .slice 0 (t.map rowp)
@[simp] theorem zCm(r:List Val) {R:Type} (f:List PV->Option R):c_s3 (rowp r) f=f (r.map Val.pv):=rfl
@[simp] theorem zQQ(t:List (List Val)) {R:Type} (f:List PV->Option R):c_s0 (tabp t) f=f (t.map rowp):=rfl
@[simp] theorem zZ(r:List Val):PV.slice 3 (r.map Val.pv)=rowp r:=rfl
@[simp] theorem zAM(t:List (List Val)):PV.slice 0 (t.map rowp)=tabp t:=rfl
def intp(n:Int):PV:= .int .i64 n
@[simp] theorem zIK(n:Int) {R:Type} (f:Int->Option R):zA6 (intp n) f=f n:=rfl
def zBv(l:List Int):PV:= .slice 0 (l.map intp)
@[simp] theorem zH(l:List Int):PV.slice 0 (l.map intp)=zBv l:=rfl
@[simp] theorem zDc(l:List Int) {R:Type} (f:List PV->Option R):c_s0 (zBv l) f=f (l.map intp):=rfl
def idxI{α:Type} (l:List α) (f:α->Bool):Int:=match l.findIdx? f with | some i=>(i:Int) | none=> -1
theorem zJU{α:Type} (l:List α) (f:α->Bool):decide (idxI l f≥0)=l.any f:=by
 unfold idxI
 cases h:l.findIdx? f with
 |some i =>
  have:=List.findIdx?_eq_some_iff_getElem.1 h
  obtain⟨hi,h1,_⟩:=this
  have:l.any f=true:=List.any_eq_true.2 ⟨_,zAF hi,h1⟩
  rw[this];simp
 |none =>
  have:=List.findIdx?_eq_none_iff.1 h
  have:l.any f=false:=by
   rw[Bool.eq_false_iff]
   intro e
   obtain⟨x,hx,e⟩:=List.any_eq_true.1 e
   rw[this x hx]at e;cases e
  rw[this];rfl
theorem zJV{R α:Type} (L:Int->Option R) (l:List α) (f:α->Bool) (g:Int->Option R) (hs:∀(i:Nat) (h:i<l.length),L (i:Int)=bif f l[i]then g (i:Int)else L ((i:Int)+1)) (he:L (l.length:Int)=g (-1)) :
 L 0=g (idxI l f):=by
 have:∀ k i:Nat,i+k=l.length->L (i:Int)=g (match (l.drop i).findIdx? f with | some j=>((i+j:Nat):Int) | none=> -1):=by
  intro k
  induction k with
  |zero =>
   intro i h;simp at h;subst h
   rw[he,List.drop_of_length_le (zO _)];rfl
  |succ k ih =>
   intro i h
   have hi:i<l.length:=by omega
   rw[hs i hi,zAk hi,List.findIdx?_cons]
   cases f l[i] with
   |true=>simp
   |false =>
    simp only[zC,Bool.false_eq_true,if_false]
    rw[show((i:Int)+1)=((i+1:Nat):Int) by omega,ih (i+1) (by omega)]
    cases (List.drop (i+1) l).findIdx? f with
    |none=>rfl
    |some j =>
     simp only[zU]
     congr 1;omega
 have h0:=this l.length 0 (by omega)
 simp only[Nat.zero_add,List.drop_zero]at h0
 exact h0
theorem z3S(l:List Val) (g:Nat) (fs cs:List PV) (f:Val->Bool) (hl:l.length<=9223372036854775807) (hf:∀ x∈l,wc W g (fs++[x.pv]++cs)=some (.bool (f x))) :
 wc W zBV [rowp l,.fn g fs cs]=some (.int .i64 (idxI l f)):=by
 unfold rowp
 rw[zEQ,zG]
 refine zJV (λ i=>zAn (l.map Val.pv) (.fn g fs cs) l.length i) l f (λ n=>some (.int .i64 n)) (λ i hi=> ?_) ?_
 ·rw[zBk]
  simp only[zAK hi,zA2,zA,zY,zN,zI hi,zU,zB,Val.c_mk,asFn_mk,Val.fold]
  rw[hf _ (zAF hi),zAZ (by omega) (by omega)]
  simp only[zB,c_b_mk]
 ·rw[zBk];simp
theorem zPF(l:List Val) (g:Nat) (fs cs:List PV) (f:Val->Bool) (hl:l.length<=9223372036854775807) (hf:∀ x∈l,wc W g (fs++[x.pv]++cs)=some (.bool (f x))) :
 wc W zAW [rowp l,.fn g fs cs]=some (.bool (l.any f)):=by
 have h:=zDi (l.map Val.pv) (.fn g fs cs)
 rw[zZ]at h
 rw[h,z3S l g fs cs f hl hf]
 simp[<- zJU]
def mayV(v:Val):Bool:=decide (v.K=0) || ((decide (v.K=1) || decide (v.K=2))&&decide (v.N=0))
theorem zK2(v:Val):wc W zHZ [v.pv]=some (.bool (mayV v)):=by
 have h:=z0u v.K v.N
 rw[Val.fold]at h
 rw[h]
 unfold mayV
 by_cases h0:v.K=0
 ·rw[h0];simp
 ·by_cases h1:v.K=1
  ·rw[h1];simp[BEq.beq]
  ·by_cases h2:v.K=2
   ·rw[h2];simp[BEq.beq]
   ·by_cases a:v.K≥0
    ·rw[zD a,zK (show ¬ v.K<3 by omega)];simp[h0,h1,h2]
    ·rw[zK a];simp[h0,h1,h2]
end Go.Cf

namespace Go.Cf
open Go Go.Ab
def bagp(c:List Int) (r:List (List Val)):PV:= .agg [zBv c,tabp r]
@[simp] theorem zAY(c:List Int) (r:List (List Val)):PV.agg [zBv c,tabp r]=bagp c r:=rfl
@[simp] theorem zFa(c:List Int) (r:List (List Val)) {R:Type} (f:List PV->List PV->Option R):zAR (bagp c r) f=f (c.map intp) (r.map rowp):=rfl
theorem zLs{α:Type} (l:List α) (f:α->Bool):(!l.any λ x=> !f x)=l.all f:=by
 induction l with
 |nil=>rfl
 |cons a l ih=>simp only[List.any_cons,List.all_cons,Bool.not_or,Bool.not_not,ih]
def upd(f:Nat->Bool) (v:Nat):Nat->Bool:=λ k=>bif k==0+v*1 then true else f k
def goC:(Nat->Bool)->List Int->Option (Nat->Bool)
 |f,[]=>some f
 |f,c::r=>bif (decide (0<=c)&&decide (c<=15))&& !f c.toNat then goC (upd f c.toNat) r else none
def M1(l1 l2 l3:List PV) (n i:Int) (f:Nat->Bool):Option PV:=zJR l1 l2 l3 n i (f 0) (f 1) (f 2) (f 3) (f 4) (f 5) (f 6) (f 7) (f 8) (f 9) (f 10) (f 11) (f 12) (f 13) (f 14) (f 15)
def M2(l1 l2 l3:List PV) (n i:Int) (f:Nat->Bool):Option PV:=zJS l1 l2 l3 n i (f 0) (f 1) (f 2) (f 3) (f 4) (f 5) (f 6) (f 7) (f 8) (f 9) (f 10) (f 11) (f 12) (f 13) (f 14) (f 15)
theorem z7b(f:Nat->Bool):∀ v:Nat,v<16->PV.load 17 (.agg [.bool (f 0),.bool (f 1),.bool (f 2),.bool (f 3),.bool (f 4),.bool (f 5),.bool (f 6),.bool (f 7),.bool (f 8),.bool (f 9),.bool (f 10),.bool (f 11),.bool (f 12),.bool (f 13),.bool (f 14),.bool (f 15)]) (0+v*1) 0=some (.bool (f v))
 | 0,_=>rfl | 1,_=>rfl | 2,_=>rfl | 3,_=>rfl | 4,_=>rfl | 5,_=>rfl | 6,_=>rfl | 7,_=>rfl
 | 8,_=>rfl | 9,_=>rfl | 10,_=>rfl | 11,_=>rfl | 12,_=>rfl | 13,_=>rfl | 14,_=>rfl | 15,_=>rfl
 |n+16,h=>by omega
theorem zUf(cols:List Int) (rows:List PV) (hl:cols.length<=9223372036854775807):∀(k i:Nat) (f:Nat->Bool),i+k=cols.length ->
 M1 (cols.map intp) rows (cols.map intp) (cols.length:Int) (i:Int) f=match goC f (cols.drop i)with | some f' =>M2 (cols.map intp) rows rows ((rows.length:Nat):Int) 0 f' | none=>some (.bool false)
 | 0,i,f,h=>by
  unfold M1
  rw[zLT,show i=cols.length by omega]
  simp only[zDG,zC,List.drop_length,goC]
  rfl
 |k+1,i,f,h=>by
  have hi:i<cols.length:=by omega
  unfold M1
  rw[zLT,zAk hi,goC]
  simp only[zAK hi,zA2,zA,zY,zN,zI hi,zU,zB,zIK]
  by_cases h0:cols[i]<0
  ·rw[zD h0,zK (show ¬ 0<=cols[i] by omega)];rfl
  rw[zK h0,zD (show 0<=cols[i] by omega)]
  by_cases h15:cols[i]>15
  ·rw[zD h15,zK (show ¬ cols[i]<=15 by omega)];rfl
  rw[zK h15,zD (show cols[i]<=15 by omega),zD (show cols[i]<16 by omega)]
  simp only[zC,Bool.and_self,zA,zAA,z7b f cols[i].toNat (by omega),zB,c_b_mk]
  cases hf:f cols[i].toNat with
  |true=>rfl
  |false =>
   simp only[zC,Bool.not_false,zA,zD (show 0+cols[i].toNat*1+1<=16 by omega),Bool.and_true]
   rw[zAZ (by omega) (by omega)]
   exact zUf cols rows hl k (i+1) (upd f cols[i].toNat) (by omega)
theorem z1F:∀(cols:List Int) (f:Nat->Bool),(goC f cols).isSome=true↔(∀ c∈cols,(0<=c/\c<=15)/\f c.toNat=false)/\cols.Nodup
 | [],f=>by simp[goC]
 |c::r,f=>by
  unfold goC
  cases hb:(decide (0<=c)&&decide (c<=15))&& !f c.toNat with
  |false =>
   simp only[zC,Option.isSome_none,Bool.false_eq_true,false_iff,not_and]
   intro h
   have:=h c (by simp)
   rw[zD this.1.1,zD this.1.2,this.2]at hb
   cases hb
  |true =>
   simp only[zA]
   rw[z1F r]
   simp only[zF,zR,Bool.not_eq_true']at hb
   obtain⟨⟨c0,c15⟩,hf⟩:=hb
   simp only[List.nodup_cons,zAD,forall_eq_or_imp,upd,Nat.zero_add,Nat.mul_one]
   constructor
   ·rintro⟨h1,h2⟩
    refine⟨⟨⟨⟨c0,c15⟩,hf⟩,λ x hx=>⟨(h1 x hx).1,?_⟩⟩,?_,h2⟩
    ·have:=(h1 x hx).2
     cases e:(x.toNat==c.toNat) with
     |true=>rw[e]at this;cases this
     |false=>rw[e]at this;exact this
    ·intro hc
     have:=(h1 c hc).2
     rw[zIT rfl]at this;cases this
   ·rintro⟨⟨_,h1⟩,h2,h3⟩
    refine⟨λ x hx=>⟨(h1 x hx).1,?_⟩,h3⟩
    have hne:x≠c:=λ e=>h2 (e▸hx)
    have:=(h1 x hx).1
    rw[zDI (show x.toNat≠c.toNat by omega)]
    exact(h1 x hx).2
def zWa(cols:List Int):Bool:=(goC (λ _=>false) cols).isSome
theorem zK3(cols:List Int):zWa cols=true↔(∀ c∈cols,0<=c/\c<=15)/\cols.Nodup:=by
 unfold zWa
 rw[z1F]
 simp
def rowB(n:Nat) (r:List Val):Bool:=decide (r.length=n)&&r.all mayV
def mayB(c:List Int) (r:List (List Val)):Bool:=zWa c&&r.all (rowB c.length)&&decide (r.length<=5000)
theorem z5J(v:Val):wc W zHY [v.pv]=some (.bool (!mayV v)):=by
 have h:=zWW v.K v.N
 rw[Val.fold]at h
 rw[h,zK2];rfl
theorem zIl(c:List Int) (r:List (List Val)) (hc:c.length<=9223372036854775807) (hr:r.length<=9223372036854775807) (hl:∀ x∈r,x.length<=9223372036854775807):wc W zGK [bagp c r]=some (.bool (mayB c r)):=by
 have h:=z0s (c.map intp) (r.map rowp)
 rw[zH,zAM,zAY]at h
 have h1:=zUf c (r.map rowp) hc c.length 0 (λ _=>false) (by omega)
 rw[List.drop_zero]at h1
 rw[h,zG]
 refine h1.trans ?_
 unfold mayB zWa
 cases hg:goC (λ _=>false) c with
 |none=>rfl
 |some f =>
  simp only[Option.isSome_some,zAA,zG]
  rw[zPD (λ i=>M2 (c.map intp) (r.map rowp) (r.map rowp) (r.length:Int) i f) r.length (λ i=>(r[i]?).all (rowB c.length)) (some (.bool false)) (some (.bool (decide (r.length<=5000)))) ?_ ?_,z0r]
  ·cases r.all (rowB c.length)<;>rfl
  ·intro i hi
   unfold M2
   rw[zLU]
   simp only[zG,zAK hi,zA2,zA,zY,zN,zI hi,zU,zB,zCm,zZ,Option.all_some,zPF r[i] zHY [] [] (λ v=> !mayV v) (hl _ (zAF hi)) (λ x _=>z5J x),c_b_mk]
   rw[zAZ (by omega) (by omega)]
   unfold rowB
   by_cases e:r[i].length=c.length
   ·rw[zIS (by rw[e]),zD e,<-zLs]
    cases r[i].any λ v=> !mayV v<;>rfl
   ·rw[zH3 (by omega),zK e];rfl
  ·unfold M2
   rw[zLU]
   simp only[zG,zDG,zC]
   congr 2
   have:((r.length:Int)<=5000)=(r.length<=5000):=by apply propext;omega
   simp only[this]
theorem z1G{c:List Int} (h:zWa c=true):c.length<=16:=by
 obtain⟨h1,h2⟩:=(zK3 c).1 h
 have hsub:c ⊆ (List.range 16).map λ n:Nat=>(n:Int):=by
  intro x hx
  have:=h1 x hx
  rw[zAV]
  exact⟨x.toNat,by simp;omega,by omega⟩
 have:=List.Nodup.length_le_of_subset h2 hsub
 simpa using this
theorem zBi{c:List Int} {r:List (List Val)} (h:mayB c r=true):c.length<=16/\r.length<=5000/\∀ x∈r,x.length=c.length/\x.all mayV=true:=by
 unfold mayB at h
 simp only[zF,zR,zAB]at h
 refine⟨z1G h.1.1,h.2,λ x hx=> ?_⟩
 have:=h.1.2 x hx
 unfold rowB at this
 simp only[zF,zR]at this
 exact this
def bagR(x:Option (List Int×List (List Val))):PV:=match x with | some b=> .tup [bagp b.1 b.2,.bool true] | none=> .tup [bagp [] [],.bool false]
end Go.Cf

namespace Go.Cf
open Go Go.Ab
def badV:Val:=⟨2,0⟩
def VOk(v:Val):Prop:=I64 v.K/\I64 v.N
def zV(cols:List Int) (row:List Val) (c:Int):Val:=bif decide (idxI cols (λ x=>c==x)<0)then badV else bif decide (idxI cols (λ x=>c==x)≥(row.length:Int))then badV else row.getD (idxI cols (λ x=>c==x)).toNat badV
theorem zHc(l:List Int) (n:Int) (hl:l.length<=9223372036854775807):wc W zAG [zBv l,.int .i64 n]=some (.int .i64 (idxI l (λ x=>n==x))):=by
 have h:=zJm (l.map intp) n
 rw[zH]at h
 rw[h,zG]
 refine zJV (λ i=>zCX (l.map intp) n l.length i) l (λ x=>n==x) (λ n=>some (.int .i64 n)) (λ i hi=> ?_) ?_
 ·rw[zEM]
  simp only[zAK hi,zA2,zA,zY,zN,zI hi,zU,zB,zIK]
  rw[zAZ (by omega) (by omega)]
 ·rw[zEM];simp
theorem z1H{α:Type} [DecidableEq α] {R:Type} (L:Int->Option R) (a b:List α) (e:a.length=b.length) (r s:Option R) (hs:∀ i:Nat,∀(h:i<a.length) (h' :i<b.length),L (i:Int)=bif decide (a[i]=b[i])then L ((i:Int)+1)else r) (he:L (a.length:Int)=s) :
 L 0=bif decide (a=b)then s else r:=by
 rw[zPD L a.length (λ i=>decide (a[i]? =b[i]?)) r s (λ i hi=> ?_) he,z7a a b e]
 have hi' :i<b.length:=by omega
 rw[hs i hi hi',zI hi,zI hi']
 simp only[zE]
theorem zSf(cols:List Int) {row:List Val} (h:∀ v∈row,VOk v) (c:Int):VOk (zV cols row c):=by
 have hb:VOk badV:=⟨⟨by decide,by decide⟩,⟨by decide,by decide⟩⟩
 unfold zV
 cases decide (idxI cols (λ x=>c==x)<0) with
 |true=>exact hb
 |false =>
  cases decide (idxI cols (λ x=>c==x)≥(row.length:Int)) with
  |true=>exact hb
  |false =>
   simp only[zC]
   rw[zAl]
   cases hr:row[(idxI cols (λ x=>c==x)).toNat]? with
   |none=>exact hb
   |some v=>exact h v (zAU hr)
def ROk(r:List Val):Prop:=∀ v∈r,VOk v
def inC(c:List Int) (x:Int):Bool:=decide (x∈c)
theorem zLt{c:List Int} {x:Int}:decide (idxI c (λ y=>x==y)<0)= !inC c x:=by
 have h:=zJU c (λ y=>x==y)
 have h2:c.any (λ y=>x==y)=inC c x:=by
  unfold inC
  rw[Bool.eq_iff_iff,List.any_eq_true,zR]
  constructor
  ·rintro⟨y,hy,e⟩;rw[beq_iff_eq]at e;subst e;exact hy
  ·intro h;exact⟨x,h,by simp⟩
 rw[h2]at h
 rw[<- h]
 by_cases hh:idxI c (λ y=>x==y)<0
 ·rw[zD hh,zK (by omega)];rfl
 ·rw[zK hh,zD (by omega)];rfl
theorem zXd(c:List Int) (x:Int):idxI c (λ y=>x==y)<(c.length:Int):=by
 unfold idxI
 cases h:c.findIdx? (λ y=>x==y) with
 |none=>simp only;omega
 |some i =>
  obtain⟨hi,_⟩:=List.findIdx?_eq_some_iff_getElem.1 h
  simp only;omega
theorem zCd{c:List Int} {row:List Val} {x:Int} (h:inC c x=true) (hl:row.length=c.length):(row[(idxI c (λ y=>x==y)).toNat]? =some (zV c row x))/\0<=idxI c (λ y=>x==y):=by
 have h1:decide (idxI c (λ y=>x==y)<0)=false:=by rw[zLt,h];rfl
 have h2:=of_decide_eq_false h1
 have h3:=zXd c x
 refine⟨?_,by omega⟩
 unfold zV
 rw[h1,zK (show ¬ idxI c (λ y=>x==y)≥(row.length:Int) by omega)]
 have hlt:(idxI c (λ y=>x==y)).toNat<row.length:=by omega
 simp only[zC,zI hlt,zAl,Option.getD_some]
def atC(c cols:List Int):List Int:=cols.map λ x=>idxI c (λ y=>x==y)
def zBw(c cols:List Int) (row:List Val):List Val:=cols.map (zV c row)
theorem zXe{c:List Int} {x:Int} (h:inC c x=true):c[(idxI c (λ y=>x==y)).toNat]? =some x:=by
 have h1:decide (idxI c (λ y=>x==y)<0)=false:=by rw[zLt,h];rfl
 have h2:=of_decide_eq_false h1
 unfold idxI at h2 ⊢
 cases hf:c.findIdx? (λ y=>x==y) with
 |none=>rw[hf]at h2;simp only at h2;omega
 |some i =>
  obtain⟨hi,e,_⟩:=List.findIdx?_eq_some_iff_getElem.1 hf
  simp only[zY,zI hi]
  rw[beq_iff_eq]at e
  rw[e]
theorem zIm{c cols:List Int} {row:List Val} {y:Int} (h:inC cols y=true):zV cols (zBw c cols row) y=zV c row y:=by
 have h1:=(zCd (row:=zBw c cols row) h (by unfold zBw;rw[zG])).1
 have h2:=zXe h
 unfold zBw at h1
 rw[zN,h2,zU]at h1
 exact(Option.some.inj h1).symm
theorem zQR{α:Type}:∀{l:List α},l.Nodup->∀{j k:Nat} {o:α},l[j]? =some o->l[k]? =some o->j=k
 | [],_,_,_,_,h,_=>by simp at h
 |x::r,hn,0,0,o,h,hk=>rfl
 |x::r,hn,0,k+1,o,h,hk=>by
  simp only[zAO,zE]at h;subst h
  exact absurd (zAU (by simpa using hk)) (List.nodup_cons.1 hn).1
 |x::r,hn,j+1,0,o,h,hk=>by
  simp only[zAO,zE]at hk;subst hk
  exact absurd (zAU (by simpa using h)) (List.nodup_cons.1 hn).1
 |x::r,hn,j+1,k+1,o,h,hk=>by
  exact congrArg (· +1) (zQR (o:=o) (List.nodup_cons.1 hn).2 (by simpa using h) (by simpa using hk))
theorem place_of{is:List Nat} (hn:is.Nodup) {o j:Nat} (h:is[j]? =some o):zFm is o=some j:=by
 cases hp:zFm is o with
 |none=>exact absurd (zAU h) (zNI hp)
 |some k =>
  have hk:=zFp hp
  exact congrArg some (zQR hn h hk).symm
theorem zMi{c:List Int} {row:List Val} (hn:c.Nodup) (hl:row.length=c.length):zBw c c row=row:=by
 unfold zBw
 apply List.ext_getElem?
 intro i
 rw[zN]
 by_cases hi:i<c.length
 ·rw[zI hi,zU]
  have hin:inC c c[i]=true:=by unfold inC;exact zD (zAF hi)
  have h1:=(zCd hin hl).1
  have h2:=zXe hin
  have hlt:=(zQ.1 h2).1
  have e:(idxI c (λ y=>c[i]==y)).toNat=i:=zQR hn h2 (zI hi)
  rw[e]at h1
  exact h1.symm
 ·rw[zFV (by omega),zFV (by omega)];rfl
theorem zRb{c:List Int} {r:List (List Val)} (h:mayB c r=true):zWa c=true/\r.all (rowB c.length)=true/\r.length<=5000:=by
 unfold mayB at h
 simp only[zF,zR]at h
 exact⟨h.1.1,h.1.2,h.2⟩
theorem zXf{c:List Int} {r:List (List Val)} (h:mayB c r=true):mayB c []=true:=by
 unfold mayB;rw[(zRb h).1];rfl
end Go.Cf

namespace Go.Cf
open Go Go.Ab
def z7c:Val:=⟨1,0⟩
def zEk(v:Val):Val:=bif mayV v then v else badV
def oddV(l:List Val):Option Val:=bif l.any (λ v=>(zEk v).K==2)then some badV else bif l.any (λ v=>(zEk v).K==1)then some z7c else none
def oneV(b:Bool):Val:=⟨0,bif b then 1 else 0⟩
def zOp(a b:Val) (f:Int->Int->Option Int):Val:=match oddV [a,b]with | some v=>v | none=>match f a.N b.N with | some n=>⟨0,n⟩ | none=>badV
def inI(n:Int):Bool:=decide (-9223372036854775808<=n)&&decide (n<=9223372036854775807)
def addO(x y:Int):Option Int:=bif inI (x+y)then some (x+y)else none
def subO(x y:Int):Option Int:=bif inI (x-y)then some (x-y)else none
def mulO(x y:Int):Option Int:=bif inI (x*y)then some (x*y)else none
def divO(x y:Int):Option Int:=bif y==0 || (x== -9223372036854775808&&y== -1)then none else some (Int.tdiv x y)
def eqV(a b:Val):Val:=match oddV [a,b]with | some v=>v | none=>oneV (decide (a=b))
def ltV(a b:Val):Val:=match oddV [a,b]with | some v=>v | none=>oneV (decide (a.N<b.N))
def zQS(v:Val):Bool:=v.K==0&&v.N != 0
def zUg(v:Val):Bool:=v.K==0&&v.N==0
def andV(l:List Val):Val:=bif l.any zUg then⟨0,0⟩else match oddV l with | some v=>v | none=>⟨0,1⟩
def orV(l:List Val):Val:=bif l.any zQS then⟨0,1⟩else match oddV l with | some v=>v | none=>⟨0,0⟩
def notV(v:Val):Val:=match oddV [v]with | some w=>w | none=>oneV (v.N==0)
theorem z5K:wc W zH0 []=some badV.pv:=zMe
theorem z7d:wc W zKw []=some z7c.pv:=zRa
theorem w_Of(n:Int):wc W zEq [.int .i64 n]=some (Val.mk 0 n).pv:=zPE n
theorem w_of(b:Bool):wc W zMV [.bool b]=some (oneV b).pv:=by
 rw[z3P,w_Of,w_Of]
 cases b<;>rfl
theorem z1I(v:Val):wc W zId [v.pv]=some (zEk v).pv:=by
 have h:=zZV v.K v.N
 rw[Val.fold]at h
 rw[h,zK2,z5K]
 unfold zEk
 cases mayV v<;>rfl
theorem zWb(v:Val) (k:Int):wc W zCy [v.pv,.imm 0 (.int .i64 k) 0]=some (.bool ((zEk v).K==k)):=by
 have h:=zUb v.K v.N k
 rw[Val.fold]at h
 rw[h,z1I];rfl
theorem z7e(k:Int):wc W zIc [.int .i64 k]=some (.fn zCy [] [.imm 0 (.int .i64 k) 0]):=zR9 k
theorem zWc(l:List Val) (g:Nat) (fs cs:List PV) (f:Val->Bool) (hl:l.length<=9223372036854775807) (hf:∀ x∈l,wc W g (fs++[x.pv]++cs)=some (.bool (f x))) :
 wc W zBq [rowp l,.fn g fs cs]=some (.bool (l.any f)):=by
 have h:=zII (l.map Val.pv) (.fn g fs cs)
 rw[zZ]at h
 rw[h,zPF l g fs cs f hl hf];rfl
def oddP(l:List Val):PV:=match oddV l with | some v=> .tup [v.pv,.bool true] | none=> .tup [(Val.mk 0 0).pv,.bool false]
theorem z1J(l:List Val) (hl:l.length<=9223372036854775807):wc W zH1 [rowp l]=some (oddP l):=by
 have h:=z0y (l.map Val.pv)
 rw[zZ]at h
 rw[h]
 simp only[z7e,zB,zWc l zCy [] [.imm 0 (.int .i64 2) 0] (λ v=>(zEk v).K==2) hl (λ x _=>zWb x 2),zWc l zCy [] [.imm 0 (.int .i64 1) 0] (λ v=>(zEk v).K==1) hl (λ x _=>zWb x 1),c_b_mk,z5K,z7d]
 unfold oddP oddV
 cases l.any (λ v=>(zEk v).K==2)<;>cases l.any (λ v=>(zEk v).K==1)<;>rfl
theorem row2(a b:Val):PV.slice 3 [a.pv,b.pv]=rowp [a,b]:=rfl
theorem row1(a:Val):PV.slice 3 [a.pv]=rowp [a]:=rfl
theorem zPG(a b:Val) (g:Nat) (f:Int->Int->Option Int) (hg:∃ n,wc W g [.int .i64 a.N,.int .i64 b.N]=some (.tup [.int .i64 ((f a.N b.N).getD n),.bool (f a.N b.N).isSome])) :
 wc W zFK [a.pv,b.pv,.fn g [] []]=some (zOp a b f).pv:=by
 have h:=zUe a.K a.N b.K b.N (.fn g [] [])
 simp only[Val.fold,row2]at h
 obtain⟨n,hg⟩:=hg
 rw[h,z1J [a,b] (by simp)]
 unfold zOp oddP
 cases oddV [a,b] with
 |some v=>simp
 |none =>
  simp only[zB,asTup_mk,zAO,zAg,Val.c_mk,c_b_mk,zC,asFn_mk,List.nil_append,zBM,hg,c_i64_mk,z5K,w_Of,Val.fold]
  cases f a.N b.N<;>rfl
theorem z1K(n:Int):IntKind.wrap .i64 n=(n+9223372036854775808) % 18446744073709551616-9223372036854775808:=by
 simp only[IntKind.wrap,IntKind.bits,IntKind.signed]
 simp
 omega
theorem z8a(a b:Val) (ha:I64 a.N) (hb:I64 b.N):wc W zMW [a.pv,b.pv]=some (zOp a b addO).pv:=by
 have h:=z0z a.K a.N b.K b.N
 simp only[Val.fold]at h
 rw[h,zPG a b zLh addO ⟨IntKind.wrap .i64 (a.N+b.N),?_⟩]
 ·simp
 ·rw[zW5]
  obtain⟨a1,a2⟩:=ha
  obtain⟨b1,b2⟩:=hb
  unfold addO inI
  by_cases hi: -9223372036854775808<=a.N+b.N/\a.N+b.N<=9223372036854775807
  ·rw[zD hi.1,zD hi.2,zAZ hi.1 hi.2]
   have:(decide (a.N+b.N<a.N)==decide (b.N<0))=true:=by
    rw[beq_iff_eq,decide_eq_decide];omega
   rw[this];rfl
  ·have hb' :(decide (-9223372036854775808<=a.N+b.N)&&decide (a.N+b.N<=9223372036854775807))=false:=by rw[<- Bool.decide_and];exact zK hi
   rw[hb']
   have:(decide (IntKind.wrap .i64 (a.N+b.N)<a.N)==decide (b.N<0))=false:=by
    rw[beq_eq_false_iff_ne,ne_eq,decide_eq_decide,z1K];omega
   rw[this];rfl
theorem z8b(a b:Val) (ha:I64 a.N) (hb:I64 b.N):wc W zMX [a.pv,b.pv]=some (zOp a b subO).pv:=by
 have h:=z1A a.K a.N b.K b.N
 simp only[Val.fold]at h
 rw[h,zPG a b zLi subO ⟨IntKind.wrap .i64 (a.N-b.N),?_⟩]
 ·simp
 ·rw[zW6]
  obtain⟨a1,a2⟩:=ha
  obtain⟨b1,b2⟩:=hb
  unfold subO inI
  by_cases hi: -9223372036854775808<=a.N-b.N/\a.N-b.N<=9223372036854775807
  ·rw[zD hi.1,zD hi.2,zAZ hi.1 hi.2]
   have:(decide (a.N-b.N>a.N)==decide (b.N<0))=true:=by
    rw[beq_iff_eq,decide_eq_decide];omega
   rw[this];rfl
  ·have hb' :(decide (-9223372036854775808<=a.N-b.N)&&decide (a.N-b.N<=9223372036854775807))=false:=by rw[<- Bool.decide_and];exact zK hi
   rw[hb']
   have:(decide (IntKind.wrap .i64 (a.N-b.N)>a.N)==decide (b.N<0))=false:=by
    rw[beq_eq_false_iff_ne,ne_eq,decide_eq_decide,z1K];omega
   rw[this];rfl
theorem z8c(a b:Val) (ha:I64 a.N) (hb:I64 b.N):wc W zMZ [a.pv,b.pv]=some (zOp a b divO).pv:=by
 have h:=z1C a.K a.N b.K b.N
 simp only[Val.fold]at h
 rw[h,zPG a b zLj divO ⟨0,?_⟩]
 ·simp
 ·rw[zW8]
  unfold divO
  cases h0:(b.N==0) with
  |true=>rfl
  |false =>
   have hJ:(a.N== -9223372036854775808&&b.N== -1)=false->zGy a.N b.N=some (.tup [.int .i64 (Int.tdiv a.N b.N),.bool true]):=λ hn=>by
    rw[zOo,h0]
    obtain⟨a1,a2⟩:=ha
    have hb0:b.N≠0:=by simpa using h0
    have hr: -9223372036854775808<=Int.tdiv a.N b.N/\Int.tdiv a.N b.N<=9223372036854775807:=by
     have h1:(Int.tdiv a.N b.N).natAbs<=a.N.natAbs:=by
      rw[Int.natAbs_tdiv]
      exact Nat.div_le_self _ _
     by_cases hm:Int.tdiv a.N b.N=9223372036854775808
     ·exfalso
      have hA:a.N= -9223372036854775808:=by omega
      rw[hA]at hm hn
      have hb1:b.N≠ -1:=by intro e;rw[e]at hn;cases hn
      have h2:(Int.tdiv (-9223372036854775808) b.N).natAbs=9223372036854775808 / b.N.natAbs:=by rw[Int.natAbs_tdiv];rfl
      rw[hm]at h2
      have h3:b.N.natAbs=1:=by
       rcases Nat.lt_or_ge b.N.natAbs 2 with h | h
       ·omega
       ·have:9223372036854775808 / b.N.natAbs<=9223372036854775808 / 2:=Nat.div_le_div_left h (by omega)
        have h4:(9223372036854775808:Int).natAbs=9223372036854775808:=rfl
        omega
      have hb2:b.N=1:=by omega
      rw[hb2]at hm
      simp at hm
     ·omega
    rw[zAZ hr.1 hr.2];rfl
   simp only[zC,Bool.false_or]
   cases h1:(a.N== -9223372036854775808) with
   |false =>
    rw[h1]at hJ
    simp only[zC,Bool.false_and,hJ (by rfl)];rfl
   |true =>
    rw[h1]at hJ
    cases h2:(b.N== -1) with
    |true=>rfl
    |false =>
     rw[h2]at hJ
     simp only[zA,zC,Bool.and_false,hJ (by rfl)];rfl
theorem w_Eq(a b:Val):wc W zMU [a.pv,b.pv]=some (eqV a b).pv:=by
 have h:=z3O a.K a.N b.K b.N
 simp only[Val.fold,row2]at h
 rw[h,z1J [a,b] (by simp)]
 unfold eqV oddP
 cases oddV [a,b] with
 |some v=>simp
 |none =>
  simp only[zB,asTup_mk,zAO,zAg,Val.c_mk,c_b_mk,zC]
  have key:((bif (a.K==b.K)then(bif (a.N==b.N)then(some true)else(some false))else(some false)):Option Bool)=some (decide (a=b)):=by
   cases a;cases b
   simp only[Val.mk.injEq]
   rw[Bool.decide_and]
   rename_i k n k' n'
   show _=some ((k==k')&&(n==n'))
   cases k==k' <;>cases n==n' <;>rfl
  rw[key]
  simp only[zB,c_b_mk,w_of,Val.c_mk,Val.fold]
theorem w_Lt(a b:Val):wc W zPA [a.pv,b.pv]=some (ltV a b).pv:=by
 have h:=z3Q a.K a.N b.K b.N
 simp only[Val.fold,row2]at h
 rw[h,z1J [a,b] (by simp)]
 unfold ltV oddP
 cases oddV [a,b] with
 |some v=>simp
 |none=>simp only[zB,asTup_mk,zAO,zAg,Val.c_mk,c_b_mk,zC,w_of,Val.fold]
theorem z8d(a:Val):wc W zQD [a.pv]=some (notV a).pv:=by
 have h:=z1E a.K a.N
 simp only[Val.fold,row1]at h
 rw[h,z1J [a] (by simp)]
 unfold notV oddP
 cases oddV [a] with
 |some v=>simp
 |none=>simp only[zB,asTup_mk,zAO,zAg,Val.c_mk,c_b_mk,zC,w_of,Val.fold]
theorem z1L(v:Val):wc W zHE [v.pv]=some (.bool (zQS v)):=by
 have h:=zZR v.K v.N
 rw[Val.fold]at h
 rw[h]
 unfold zQS
 cases v.K==0<;>rfl
theorem z1M(v:Val):wc W zGn [v.pv]=some (.bool (zUg v)):=by
 have h:=zSe v.K v.N
 rw[Val.fold]at h
 rw[h,w_Of]
 unfold zUg
 simp only[zB,Val.c_mk]
 cases v.K==0<;>cases v.N==0<;>rfl
theorem z1N(l:List Val) (g:Nat) (f:Val->Bool) (x y:Val) (hl:l.length<=9223372036854775807) (hf:∀ v∈l,wc W g [v.pv]=some (.bool (f v))) :
 wc W zJP [rowp l,.fn g [] [],x.pv,y.pv]=some (bif l.any f then x else match oddV l with | some v=>v | none=>y).pv:=by
 have h:=zW9 (l.map Val.pv) (.fn g [] []) x.K x.N y.K y.N
 simp only[Val.fold,zZ]at h
 rw[h,zWc l g [] [] f hl hf,z1J l hl]
 unfold oddP
 cases l.any f with
 |true=>rfl
 |false=>cases oddV l<;>simp
theorem z8e(l:List Val) (hl:l.length<=9223372036854775807):wc W zQC [rowp l]=some (andV l).pv:=by
 have h:=z1D (l.map Val.pv)
 rw[zZ]at h
 rw[h,w_Of,w_Of]
 simp only[zB,Val.c_mk,Val.fold,show PV.agg [PV.int .i64 0,PV.int .i64 0]=(Val.mk 0 0).pv from rfl,show PV.agg [PV.int .i64 0,PV.int .i64 1]=(Val.mk 0 1).pv from rfl,z1N l zGn zUg ⟨0,0⟩ ⟨0,1⟩ hl (λ v _=>z1M v)]
 rfl
theorem w_Or(l:List Val) (hl:l.length<=9223372036854775807):wc W zSU [rowp l]=some (orV l).pv:=by
 have h:=z3R (l.map Val.pv)
 rw[zZ]at h
 rw[h,w_Of,w_Of]
 simp only[zB,Val.c_mk,Val.fold,show PV.agg [PV.int .i64 0,PV.int .i64 0]=(Val.mk 0 0).pv from rfl,show PV.agg [PV.int .i64 0,PV.int .i64 1]=(Val.mk 0 1).pv from rfl,z1N l zHE zQS ⟨0,1⟩ ⟨0,0⟩ hl (λ v _=>z1L v)]
 rfl
end Go.Cf

namespace Go.Cf
open Go Go.Ab
theorem z4I(n:Int) (h:I64 n):wc W zKx [.int .i64 n]=some (.int .u64 (n.natAbs:Int)):=by
 obtain⟨h1,h2⟩:=h
 have hw:∀ m:Int,IntKind.wrap .u64 m=m % 18446744073709551616:=λ m=>by simp[IntKind.wrap,IntKind.bits,IntKind.signed]
 rw[zZX,hw,hw]
 by_cases hn:n<0
 ·rw[zD hn]
  simp only[zA]
  congr 2
  omega
 ·rw[zK hn]
  simp only[zC]
  congr 2
  omega
theorem zSg{a b:Int} (ha:I64 a) (hb:I64 b):a.natAbs*b.natAbs<=9223372036854775808*9223372036854775808:=Nat.mul_le_mul (by obtain⟨_,_⟩:=ha;omega) (by obtain⟨_,_⟩:=hb;omega)
theorem z1O{m:Nat} (hm:m<=9223372036854775808*9223372036854775808) (k:Nat) (hk:k<18446744073709551616) :
 (((m / 18446744073709551616:Nat):Int)==0&&decide (((m % 18446744073709551616:Nat):Int)<=(k:Int)))=decide (m<=k):=by
 by_cases h:m<=k
 ·rw[zD h]
  have h1:m / 18446744073709551616=0:=Nat.div_eq_of_lt (by omega)
  have h2:m % 18446744073709551616=m:=Nat.mod_eq_of_lt (by omega)
  rw[h1,h2]
  simpa using h
 ·rw[zK h]
  by_cases h1:m<18446744073709551616
  ·have h2:m % 18446744073709551616=m:=Nat.mod_eq_of_lt h1
   rw[h2]
   have:decide ((m:Int)<=(k:Int))=false:=zK (by omega)
   rw[this,Bool.and_false]
  ·have h3:0<m / 18446744073709551616:=Nat.div_pos (by omega) (by omega)
   have:((((m / 18446744073709551616:Nat):Int))==0)=false:=by simp only[beq_eq_false_iff_ne,ne_eq];omega
   rw[this,Bool.false_and]
theorem z7f(a b:Int) (ha:I64 a) (hb:I64 b):wc W zJO [.int .i64 a,.int .i64 b]=some (.tup [.int .i64 (IntKind.wrap .i64 (a*b)),.bool (inI (a*b))]):=by
 rw[zW7,z4I a ha,z4I b hb]
 have hm:=zSg ha hb
 obtain⟨a1,a2⟩:=ha
 obtain⟨b1,b2⟩:=hb
 simp only[zB,c_u64_mk]
 rw[zUV _ _ (by omega) (by omega) (by omega) (by omega)]
 simp only[zB,asTup_mk,zAO,zAg,c_u64_mk,zY]
 have hJ:∀ k:Nat,k<18446744073709551616->zGx a b ((a.natAbs*b.natAbs / 18446744073709551616:Nat):Int) ((a.natAbs*b.natAbs % 18446744073709551616:Nat):Int) (k:Int) =
  some (.tup [.int .i64 (IntKind.wrap .i64 (a*b)),.bool (decide (a.natAbs*b.natAbs<=k))]):=λ k hk=>by
  rw[zOn,<-z1O hm k hk]
  cases (((a.natAbs*b.natAbs / 18446744073709551616:Nat):Int)==0)<;>rfl
 have hab:(a*b).natAbs=a.natAbs*b.natAbs:=Int.natAbs_mul a b
 by_cases hs:decide (a<0)=decide (b<0)
 ·rw[zIT hs]
  simp only[zAJ,zC]
  rw[show(9223372036854775807:Int)=((9223372036854775807:Nat):Int)from rfl,hJ _ (by omega)]
  have h0:0<=a*b:=by
   rw[decide_eq_decide]at hs
   by_cases h:a<0
   ·exact Int.le_of_lt (Int.mul_pos_of_neg_of_neg h (hs.1 h))
   ·exact Int.mul_nonneg (by omega) (by have:¬ b<0:=λ e=>h (hs.2 e);omega)
  unfold inI
  rw[<- hab,zD (show -9223372036854775808<=a*b by omega),zAA]
  congr 4
  congr 1
  rw[decide_eq_decide];omega
 ·rw[zDI hs]
  simp only[Bool.not_false,zA]
  rw[show(9223372036854775808:Int)=((9223372036854775808:Nat):Int)from rfl,hJ _ (by omega)]
  have h0:a*b<=0:=by
   rw[decide_eq_decide]at hs
   by_cases h:a<0
   ·exact Int.mul_nonpos_of_nonpos_of_nonneg (by omega) (by omega)
   ·exact Int.mul_nonpos_of_nonneg_of_nonpos (by omega) (by omega)
  unfold inI
  rw[<- hab,zD (show a*b<=9223372036854775807 by omega),Bool.and_true]
  congr 4
  congr 1
  rw[decide_eq_decide];omega
theorem z8f(a b:Val) (ha:I64 a.N) (hb:I64 b.N):wc W zMY [a.pv,b.pv]=some (zOp a b mulO).pv:=by
 have h:=z1B a.K a.N b.K b.N
 simp only[Val.fold]at h
 rw[h,zPG a b zJO mulO ⟨IntKind.wrap .i64 (a.N*b.N),?_⟩]
 ·simp
 ·rw[z7f _ _ ha hb]
  unfold mulO
  cases hi:inI (a.N*b.N) with
  |false=>rfl
  |true =>
   unfold inI at hi
   simp only[zF,zR]at hi
   rw[zAZ hi.1 hi.2];rfl
end Go.Cf

namespace Go.Cf
open Go Go.Ab
inductive Ex where
 |mk (op col:Int) (v:Val) (l:List Ex)
mutual
def Ex.pv:Ex->PV
 | .mk o c v l=> .agg [.int .i64 o,.int .i64 c,.int .i64 v.K,.int .i64 v.N,.slice 6 (Ex.pvL l)]
def Ex.pvL:List Ex->List PV
 | []=>[]
 |e::r=>e.pv::Ex.pvL r
end
theorem Ex.pvL_map:∀ l:List Ex,Ex.pvL l=l.map Ex.pv
 | []=>rfl
 |e::r=>by rw[Ex.pvL,Ex.pvL_map r];rfl
theorem Ex.pv_mk(o c:Int) (v:Val) (l:List Ex):(Ex.mk o c v l).pv= .agg [.int .i64 o,.int .i64 c,.int .i64 v.K,.int .i64 v.N,.slice 6 (l.map Ex.pv)]:=by rw[Ex.pv,Ex.pvL_map]
def Ex.op:Ex->Int | .mk o _ _ _=>o
def Ex.col:Ex->Int | .mk _ c _ _=>c
def Ex.v:Ex->Val | .mk _ _ v _=>v
def Ex.l:Ex->List Ex | .mk _ _ _ l=>l
theorem Ex.pv_eq(e:Ex):e.pv= .agg [.int .i64 e.op,.int .i64 e.col,.int .i64 e.v.K,.int .i64 e.v.N,.slice 6 (e.l.map Ex.pv)]:=by cases e;exact Ex.pv_mk ..
@[simp] theorem Ex.c_mk(e:Ex) {R:Type} (f:Int->Int->Int->Int->List PV->Option R):zJ e.pv f=f e.op e.col e.v.K e.v.N (e.l.map Ex.pv):=by rw[Ex.pv_eq];rfl
theorem Ex.fold(e:Ex):PV.agg [.int .i64 e.op,.int .i64 e.col,.int .i64 e.v.K,.int .i64 e.v.N,.slice 6 (e.l.map Ex.pv)]=e.pv:=e.pv_eq.symm
mutual
def Ex.sz:Ex->Nat
 | .mk _ _ _ l=>Ex.szL l+1
def Ex.szL:List Ex->Nat
 | []=>0
 |e::r=>e.sz+Ex.szL r
end
theorem Ex.sz_pos(e:Ex):0<e.sz:=by cases e;simp[Ex.sz]
theorem Ex.szL_ge:∀ l:List Ex,l.length<=Ex.szL l
 | []=>zO _
 |e::r=>by have:=Ex.szL_ge r;have:=e.sz_pos;simp only[Ex.szL,List.length_cons];omega
theorem Ex.sz_mem:∀{l:List Ex} {e:Ex},e∈l->e.sz<=Ex.szL l
 |x::r,e,h=>by
  rcases zAD.1 h with rfl | h
  ·simp only[Ex.szL];omega
  ·have:=Ex.sz_mem h;simp only[Ex.szL];omega
theorem Ex.sz_drop(l:List Ex) (i:Nat) (hi:i<l.length):Ex.szL (l.drop i)=l[i].sz+Ex.szL (l.drop (i+1)):=by rw[zAk hi];rfl
def lowO(o:Int):Int:=bif decide (2<=o)&&decide (o<=7)then 2 else bif o==10 then 1 else 0
def zSh(o:Int):Int:=bif decide (2<=o)&&decide (o<=7)then 2 else bif o==10 then 1 else bif o==8 || o==9 then 4 else 0
def fnO(o:Int):PV :=
 bif o==2 then .fn zCe [] [.imm 0 (.fn zMW [] []) 0]else bif o==3 then .fn zCe [] [.imm 0 (.fn zMX [] []) 0] else
 bif o==4 then .fn zCe [] [.imm 0 (.fn zMY [] []) 0]else bif o==5 then .fn zCe [] [.imm 0 (.fn zMZ [] []) 0] else
 bif o==6 then .fn zCe [] [.imm 0 (.fn zMU [] []) 0]else bif o==7 then .fn zCe [] [.imm 0 (.fn zPA [] []) 0] else
 bif o==8 then .fn zGk [] []else bif o==9 then .fn zGl [] []else bif o==10 then .fn zGm [] []else .nilfn
theorem z4J(o:Int):wc W zJN [.int .i64 o]=some (.agg [.int .i64 (lowO o),.int .i64 (zSh o),fnO o]):=by
 have two:∀ g:Nat,wc W zFJ [.fn g [] []]=some (.agg [.int .i64 2,.int .i64 2,.fn zCe [] [.imm 0 (.fn g [] []) 0]]):=λ g=>by rw[zZW];rfl
 rw[zW4]
 simp only[two,zB,c_g_i64_i64_p_mk]
 unfold lowO zSh fnO
 by_cases h2:o=2
 ·subst h2;rfl
 by_cases h3:o=3
 ·subst h3;rfl
 by_cases h4:o=4
 ·subst h4;rfl
 by_cases h5:o=5
 ·subst h5;rfl
 by_cases h6:o=6
 ·subst h6;rfl
 by_cases h7:o=7
 ·subst h7;rfl
 by_cases h8:o=8
 ·subst h8;rfl
 by_cases h9:o=9
 ·subst h9;rfl
 by_cases h10:o=10
 ·subst h10;rfl
 have hr:(decide (2<=o)&&decide (o<=7))=false:=by
  rw[<- Bool.decide_and];exact zK (by omega)
 rw[zDI h2,zDI h3,zDI h4,zDI h5,zDI h6,zDI h7,zDI h8,zDI h9,zDI h10,hr]
 rfl
def zSi(o c:Int) (v:Val) (n:Nat):Bool :=
 decide (0<=o)&&decide (o<11)&&(decide (lowO o<=(n:Int))&&decide ((n:Int)<=zSh o))&&(c==0 || (o==1&&decide (0<c)&&decide (c<=15)))&&((v.K==0&&v.N==0) || (o==0&&mayV v))
theorem z7g(e:Ex):wc W zLf [e.pv]=some (.bool (zSi e.op e.col e.v e.l.length)):=by
 have h:=zW1 e.op e.col e.v.K e.v.N (e.l.map Ex.pv)
 rw[Ex.fold]at h
 rw[h,z4J,zG]
 simp only[zB,c_g_i64_i64_p_mk]
 have h3:∀ b1 b2 b3 x y z,zF9 e.op e.col e.v.K e.v.N (e.l.map Ex.pv) b1 b2 b3 x y z=some (.bool (decide (0<=e.op)&&decide (e.op<11)&&b1&&b2&&b3)):=λ b1 b2 b3 x y z=>by
  rw[zOj]
  have:decide (e.op≥0)=decide (0<=e.op):=rfl
  rw[this]
  cases decide (0<=e.op)<;>cases decide (e.op<11)<;>cases b1<;>cases b2<;>rfl
 have h2:∀ b1 b2 x y z,zE5 e.op e.col e.v.K e.v.N (e.l.map Ex.pv) b1 b2 x y z=some (.bool (decide (0<=e.op)&&decide (e.op<11)&&b1&&b2&&((e.v.K==0&&e.v.N==0) || (e.op==0&&mayV e.v)))):=λ b1 b2 x y z=>by
  rw[zOi]
  cases e.v.K==0<;>cases e.v.N==0<;>cases e.op==0<;>simp[h3,zK2]
 have h1:∀ b1 x y z,zGv e.op e.col e.v.K e.v.N (e.l.map Ex.pv) b1 x y z=some (.bool (decide (0<=e.op)&&decide (e.op<11)&&b1&&(e.col==0 || (e.op==1&&decide (0<e.col)&&decide (e.col<=15)))&&((e.v.K==0&&e.v.N==0) || (e.op==0&&mayV e.v)))):=λ b1 x y z=>by
  rw[zOh]
  have:decide (e.col>0)=decide (0<e.col):=rfl
  rw[this]
  cases e.col==0<;>cases e.op==1<;>cases decide (0<e.col)<;>simp[h2]
 simp only[h1]
 unfold zSi
 have:decide (((e.l.length:Nat):Int)≥lowO e.op)=decide (lowO e.op<=(e.l.length:Int)):=rfl
 rw[this]
 cases decide (lowO e.op<=(e.l.length:Int))<;>simp
def zSj(d n:Int) (e:Ex):Bool:=decide (n+1<=30)&&decide (d<=6)&&zSi e.op e.col e.v e.l.length
mutual
def mayE:Int->Int->Ex->Bool×Int
 |d,n,.mk o c v l=>bif decide (n+1<=30)&&decide (d<=6)&&zSi o c v l.length then mayL (d+1) (n+1) l else(false,n+1)
def mayL:Int->Int->List Ex->Bool×Int
 |d,n,[]=>(true,n)
 |d,n,e::r=>match mayE d n e with | (true,m)=>mayL d m r | (false,m)=>(false,m)
end
theorem zWd(d n:Int) (e:Ex):mayE d n e=bif zSj d n e then mayL (d+1) (n+1) e.l else(false,n+1):=by cases e;rfl
theorem z7h(e:Ex) (d n:Int) (h0:0<=n) (h1:n<=30) :
 W zD4 false [.pv e.pv,.pv (.int .i64 d),.own 0 0] [.var false 0 (.pv (.int .i64 n))]=some (.pv (.bool (zSj d n e)),[.var false 0 (.pv (.int .i64 (n+1)))]):=by
 have h:=zNf e.op e.col e.v.K e.v.N (e.l.map Ex.pv) d n
 rw[Ex.fold]at h
 rw[h,zAZ (by omega) (by omega),z7g]
 unfold zSj
 cases decide (n+1<=30)<;>cases decide (d<=6)<;>rfl
theorem zRc:∀(k:Nat),(∀(e:Ex) (d n:Int),e.sz<=k->0<=n->n<=30->0<=(mayE d n e).2/\(mayE d n e).2<=31/\((mayE d n e).1=true->(mayE d n e).2=n+e.sz/\(mayE d n e).2<=30)) /\
 (∀(l:List Ex) (d n:Int),Ex.szL l<=k->0<=n->n<=30->0<=(mayL d n l).2/\(mayL d n l).2<=31/\((mayL d n l).1=true->(mayL d n l).2=n+Ex.szL l/\(mayL d n l).2<=30))
 |k=>by
  have hE:∀(e:Ex) (d n:Int),(∀(l:List Ex) (d n:Int),Ex.szL l<e.sz->0<=n->n<=30->0<=(mayL d n l).2/\(mayL d n l).2<=31/\((mayL d n l).1=true->(mayL d n l).2=n+Ex.szL l/\(mayL d n l).2<=30))->0<=n->n<=30 ->
   0<=(mayE d n e).2/\(mayE d n e).2<=31/\((mayE d n e).1=true->(mayE d n e).2=n+e.sz/\(mayE d n e).2<=30):=λ e d n ih h0 h1=>by
   rw[zWd]
   cases hs:zSj d n e with
   |false =>
    refine⟨?_,?_,λ h=> ?_⟩
    ·show 0<=n+1;omega
    ·show n+1<=31;omega
    ·cases h
   |true =>
    simp only[zA]
    have h30:n+1<=30:=by
     unfold zSj at hs
     simp only[zF,zR]at hs
     exact hs.1.1
    have hsz:e.sz=Ex.szL e.l+1:=by cases e;rfl
    obtain⟨a,b,c⟩:=ih e.l (d+1) (n+1) (by omega) (by omega) h30
    exact⟨a,b,λ h=>by have:=c h;omega⟩
  have hL:∀(l:List Ex) (d n:Int),(∀ e∈l,∀(d n:Int),0<=n->n<=30->0<=(mayE d n e).2/\(mayE d n e).2<=31/\((mayE d n e).1=true->(mayE d n e).2=n+e.sz/\(mayE d n e).2<=30))->0<=n->n<=30 ->
   0<=(mayL d n l).2/\(mayL d n l).2<=31/\((mayL d n l).1=true->(mayL d n l).2=n+Ex.szL l/\(mayL d n l).2<=30):=λ l=>by
   induction l with
   |nil=>intro d n _ h0 h1;refine⟨h0,?_,λ _=>⟨?_,h1⟩⟩<;>simp[mayL,Ex.szL];omega
   |cons x r ih =>
    intro d n he h0 h1
    have k:=he x (by simp) d n h0 h1
    simp only[mayL]
    cases hx:mayE d n x with
    |mk b m =>
     rw[hx]at k
     cases b with
     |false=>exact⟨k.1,k.2.1,λ h=>by cases h⟩
     |true =>
      obtain⟨k1,k2⟩:=k.2.2 rfl
      simp only at k1 k2 k ⊢
      obtain⟨a,b,c⟩:=ih d m (λ e h=>he e (by simp[h])) k.1 k2
      exact⟨a,b,λ h=>by have:=c h;simp only[Ex.szL];omega⟩
  have main:∀(m:Nat) (e:Ex),e.sz<=m->∀(d n:Int),0<=n->n<=30->0<=(mayE d n e).2/\(mayE d n e).2<=31/\((mayE d n e).1=true->(mayE d n e).2=n+e.sz/\(mayE d n e).2<=30):=λ m=>by
   induction m with
   |zero=>intro e h;have:=e.sz_pos;omega
   |succ m ih =>
    intro e h d n h0 h1
    exact hE e d n (λ l d n hl h0 h1=>hL l d n (λ x hx=>ih x (by have:=Ex.sz_mem hx;omega)) h0 h1) h0 h1
  exact⟨λ e d n _=>main e.sz e (zO _) d n,λ l d n _=>hL l d n λ e _=>main e.sz e (zO _)⟩
theorem z1P:∀(m:Nat) (e:Ex),e.sz<=m->∀(d n:Int),e.l.length<=9223372036854775807->(∀(x:Ex),x.sz<e.sz->x.l.length<=9223372036854775807)->0<=n->n<=30->d<=9-> -9<=d ->
 W zEG false [.pv e.pv,.pv (.int .i64 d),.fnv zD4 [] [.own 0 0]] [.var false 0 (.pv (.int .i64 n))]=some (.pv (.bool (mayE d n e).1),[.var false 0 (.pv (.int .i64 (mayE d n e).2))])
 | 0,e,h,_,_,_,_,_,_,_,_=>by have:=e.sz_pos;omega
 |m+1,e,h,d,n,hl,hx,h0,h1,hd,hd' =>by
  have he:=zOd e.op e.col e.v.K e.v.N (e.l.map Ex.pv) d n
  rw[Ex.fold]at he
  rw[he,z7h e d n h0 h1,zWd]
  simp only[zB,k_5b106d_mk,c_b_mk]
  cases hs:zSj d n e with
  |false=>rfl
  |true =>
   simp only[zAJ,zC,zA,zG]
   have hs' :=hs
   unfold zSj at hs'
   simp only[zF,zR]at hs'
   obtain⟨⟨h30,h6⟩,_⟩:=hs'
   have hsz:e.sz=Ex.szL e.l+1:=by cases e;rfl
   have loop:∀(k i:Nat) (n' :Int),i+k=e.l.length->0<=n' ->n' <=30 ->
    zEt d (e.l.map Ex.pv) (e.l.length:Int) (i:Int) n' =some (.pv (.bool (mayL (d+1) n' (e.l.drop i)).1),[.var false 0 (.pv (.int .i64 (mayL (d+1) n' (e.l.drop i)).2))]):=λ k=>by
    induction k with
    |zero =>
     intro i n' hi _ _
     rw[zH8,show i=e.l.length by omega]
     simp only[zDG,zC,List.drop_length,mayL]
    |succ k ih =>
     intro i n' hi h0' h1'
     have hi' :i<e.l.length:=by omega
     have hm:=Ex.sz_mem (zAF hi')
     rw[zH8,zAk hi']
     simp only[zAK hi',zA2,zA,zY,zN,zI hi',zU,zB,Ex.c_mk,Ex.fold]
     rw[zAZ (by omega) (by omega),z1P m e.l[i] (by omega) (d+1) n' (hx _ (by omega)) (λ x hx' =>hx x (by omega)) h0' h1' (by omega) (by omega)]
     simp only[zB,k_5b106d_mk,c_b_mk,mayL]
     have hb:=(zRc e.l[i].sz).1 e.l[i] (d+1) n' (zO _) h0' h1'
     cases hy:mayE (d+1) n' e.l[i] with
     |mk b q =>
      rw[hy]at hb
      cases b with
      |false=>rfl
      |true =>
       simp only[zAJ,zC]
       rw[zX (by omega)]
       exact ih (i+1) q (by omega) hb.1 (hb.2.2 rfl).2
   have:=loop e.l.length 0 (n+1) (by omega) (by omega) h30
   rw[List.drop_zero]at this
   exact this
def mayT(e:Ex):Bool:=(mayE 1 0 e).1
def Ex.ok(e:Ex):Prop:=∀ x:Ex,x.sz<=e.sz->x.l.length<=9223372036854775807
theorem Ex.ok_of{e:Ex} (h:e.sz<=9223372036854775807):e.ok:=λ x hx=>by
 have h1:x.sz=Ex.szL x.l+1:=by cases x;rfl
 have:=Ex.szL_ge x.l
 omega
theorem zNh(e:Ex) (h:e.ok):wc W zIb [e.pv]=some (.bool (mayT e)):=by
 have he:=zZP e.op e.col e.v.K e.v.N (e.l.map Ex.pv)
 rw[Ex.fold]at he
 rw[he,z1P e.sz e (zO _) 1 0 (h e (zO _)) (λ x hx=>h x (by omega)) (by omega) (by omega) (by omega) (by omega)]
 rfl
theorem zWe{e:Ex} (h:mayT e=true):e.sz<=30:=by
 have:=((zRc e.sz).1 e 1 0 (zO _) (by omega) (by omega)).2.2 h
 omega
end Go.Cf

namespace Go.Cf
open Go Go.Ab
theorem z5L{n:Int} (h:inI n=true):I64 n:=by unfold inI at h;simp only[zF,zR]at h;exact h
theorem zNi{l:List Val} {v:Val} (h:oddV l=some v):VOk v:=by
 unfold oddV at h
 cases h1:l.any (λ v=>(zEk v).K==2) with
 |true=>rw[h1]at h;simp at h;subst h;exact⟨⟨by decide,by decide⟩,⟨by decide,by decide⟩⟩
 |false =>
  rw[h1]at h
  cases h2:l.any (λ v=>(zEk v).K==1) with
  |true=>rw[h2]at h;simp at h;subst h;exact⟨⟨by decide,by decide⟩,⟨by decide,by decide⟩⟩
  |false=>rw[h2]at h;cases h
theorem vN{n:Int} (h:I64 n):VOk ⟨0,n⟩:=⟨⟨by simp only;omega,by simp only;omega⟩,h⟩
theorem z1Q:VOk badV:=⟨⟨by decide,by decide⟩,⟨by decide,by decide⟩⟩
theorem zWf(b:Bool):VOk (oneV b):=by cases b<;>exact⟨⟨by decide,by decide⟩,⟨by decide,by decide⟩⟩
theorem zPH{a b:Val} {f:Int->Int->Option Int} (hf:∀ n,f a.N b.N=some n->I64 n):VOk (zOp a b f):=by
 unfold zOp
 cases h:oddV [a,b] with
 |some v=>exact zNi h
 |none =>
  simp only
  cases hn:f a.N b.N with
  |none=>exact z1Q
  |some n=>exact vN (hf n hn)
def opV(o:Int) (l:List Val):Val :=
 bif o==2 then zOp (l.getD 0 badV) (l.getD 1 badV) addO else bif o==3 then zOp (l.getD 0 badV) (l.getD 1 badV) subO else
 bif o==4 then zOp (l.getD 0 badV) (l.getD 1 badV) mulO else bif o==5 then zOp (l.getD 0 badV) (l.getD 1 badV) divO else
 bif o==6 then eqV (l.getD 0 badV) (l.getD 1 badV)else bif o==7 then ltV (l.getD 0 badV) (l.getD 1 badV) else
 bif o==8 then andV l else bif o==9 then orV l else notV (l.getD 0 badV)
theorem ok0:VOk ⟨0,0⟩:=⟨⟨by decide,by decide⟩,⟨by decide,by decide⟩⟩
theorem ok1:VOk ⟨0,1⟩:=⟨⟨by decide,by decide⟩,⟨by decide,by decide⟩⟩
theorem z5M(l:List Val):VOk (andV l):=by
 unfold andV
 cases l.any zUg with
 |true=>exact ok0
 |false=>cases h:oddV l with
  |some v=>exact zNi h
  |none=>exact ok1
theorem z7i(l:List Val):VOk (orV l):=by
 unfold orV
 cases l.any zQS with
 |true=>exact ok1
 |false=>cases h:oddV l with
  |some v=>exact zNi h
  |none=>exact ok0
theorem z5N{x y:Int} (hx:I64 x) (hy:I64 y) {n:Int} (h:divO x y=some n):I64 n:=by
 unfold divO at h
 cases hc:(y==0 || (x== -9223372036854775808&&y== -1)) with
 |true=>rw[hc]at h;cases h
 |false =>
  rw[hc]at h
  simp only[zC,zE]at h
  subst h
  obtain⟨a1,a2⟩:=hx
  have h1:(Int.tdiv x y).natAbs<=x.natAbs:=by
   rw[Int.natAbs_tdiv]
   exact Nat.div_le_self _ _
  refine⟨by omega,?_⟩
  by_cases hm:Int.tdiv x y=9223372036854775808
  ·exfalso
   have hA:x= -9223372036854775808:=by omega
   simp only[Bool.or_eq_false_iff,Bool.and_eq_false_iff,beq_eq_false_iff_ne,ne_eq]at hc
   have hy1:y≠ -1:=by
    rcases hc.2 with h | h
    ·exact absurd hA h
    ·exact h
   subst hA
   have h2:(Int.tdiv (-9223372036854775808) y).natAbs=9223372036854775808 / y.natAbs:=by rw[Int.natAbs_tdiv];rfl
   rw[hm]at h2
   have h3:y.natAbs=1:=by
    rcases Nat.lt_or_ge y.natAbs 2 with h | h
    ·have:=hc.1;omega
    ·have:9223372036854775808 / y.natAbs<=9223372036854775808 / 2:=Nat.div_le_div_left h (by omega)
     have h4:(9223372036854775808:Int).natAbs=9223372036854775808:=rfl
     omega
   have hb2:y=1:=by omega
   rw[hb2]at hm
   simp at hm
  ·omega
theorem z1R{l:List Val} (h:∀ v∈l,VOk v) (i:Nat):VOk (l.getD i badV):=by
 rw[zAl]
 cases e:l[i]? with
 |none=>exact z1Q
 |some v=>exact h v (zAU e)
theorem z7j(o:Int) {l:List Val} (h:∀ v∈l,VOk v):VOk (opV o l):=by
 have a:=z1R h 0
 have b:=z1R h 1
 unfold opV
 have o1:∀{f:Int->Int->Int} {x y n:Int},(bif inI (f x y)then some (f x y)else none)=some n->I64 n:=λ{f x y n} hn=>by
  cases hi:inI (f x y) with
  |true=>rw[hi]at hn;simp at hn;subst hn;exact z5L hi
  |false=>rw[hi]at hn;cases hn
 cases o==2 with
 |true=>exact zPH λ n hn=>o1 (f:=λ x y=>x+y) hn
 |false =>
 cases o==3 with
 |true=>exact zPH λ n hn=>o1 (f:=λ x y=>x-y) hn
 |false =>
 cases o==4 with
 |true=>exact zPH λ n hn=>o1 (f:=λ x y=>x*y) hn
 |false =>
 cases o==5 with
 |true=>exact zPH λ n hn=>z5N a.2 b.2 hn
 |false =>
 cases o==6 with
 |true =>
  show VOk (eqV _ _)
  unfold eqV
  cases e:oddV [l.getD 0 badV,l.getD 1 badV] with
  |some v=>exact zNi e
  |none=>exact zWf _
 |false =>
 cases o==7 with
 |true =>
  show VOk (ltV _ _)
  unfold ltV
  cases e:oddV [l.getD 0 badV,l.getD 1 badV] with
  |some v=>exact zNi e
  |none=>exact zWf _
 |false =>
 cases o==8 with
 |true=>exact z5M l
 |false =>
 cases o==9 with
 |true=>exact z7i l
 |false =>
  show VOk (notV _)
  unfold notV
  cases e:oddV [l.getD 0 badV] with
  |some v=>exact zNi e
  |none=>exact zWf _
theorem z7k{l:List Val} (h:l.length=2):∃ a b,l=[a,b]:=by
 match l,h with
 | [a,b],_=>exact⟨a,b,rfl⟩
theorem zRd(l:List Val) (g:Nat) (v:Val) (a b:Val) (hl:l=[a,b]) (hg:wc W g [a.pv,b.pv]=some v.pv):wc W zCe [rowp l,.imm 0 (.fn g [] []) 0]=some v.pv:=by
 subst hl
 have h:=zUd ([a,b].map Val.pv) (.fn g [] [])
 rw[zZ]at h
 rw[h]
 simp only[zA1,zAd,zAO,zAg,zB,Val.c_mk,Val.fold,asFn_mk,List.nil_append,zBM,hg]
theorem w_op(o:Int) (l:List Val) (h0:0<=o) (h11:o<11) (h2:2<=o) (hlo:lowO o<=(l.length:Int)) (hhi:(l.length:Int)<=zSh o) (hl:∀ v∈l,VOk v) :
 ∃ g fs cs,fnO o= .fn g fs cs/\wc W g (fs++[rowp l]++cs)=some (opV o l).pv:=by
 have two:(2<=o/\o<=7)->∃ a b,l=[a,b]:=λ h=>z7k (by
  unfold lowO zSh at *
  rw[zD h.1,zD h.2]at hlo hhi
  simp only[Bool.and_self,zA]at hlo hhi
  omega)
 have hlen:l.length<=9223372036854775807:=by
  unfold zSh at hhi
  cases hb:(decide (2<=o)&&decide (o<=7))<;>rw[hb]at hhi
  ·cases h10:(o==10)<;>rw[h10]at hhi
   ·cases h8:(o==8 || o==9)<;>rw[h8]at hhi<;>simp only[zA,zC]at hhi<;>omega
   ·simp only[zA,zC]at hhi;omega
  ·simp only[zA]at hhi;omega
 by_cases e2:o=2
 ·obtain⟨a,b,e⟩:=two (by omega)
  subst e2;subst e
  exact⟨_,_,_,rfl,zRd _ _ _ a b rfl (z8a a b (hl a (by simp)).2 (hl b (by simp)).2)⟩
 by_cases e3:o=3
 ·obtain⟨a,b,e⟩:=two (by omega)
  subst e3;subst e
  exact⟨_,_,_,rfl,zRd _ _ _ a b rfl (z8b a b (hl a (by simp)).2 (hl b (by simp)).2)⟩
 by_cases e4:o=4
 ·obtain⟨a,b,e⟩:=two (by omega)
  subst e4;subst e
  exact⟨_,_,_,rfl,zRd _ _ _ a b rfl (z8f a b (hl a (by simp)).2 (hl b (by simp)).2)⟩
 by_cases e5:o=5
 ·obtain⟨a,b,e⟩:=two (by omega)
  subst e5;subst e
  exact⟨_,_,_,rfl,zRd _ _ _ a b rfl (z8c a b (hl a (by simp)).2 (hl b (by simp)).2)⟩
 by_cases e6:o=6
 ·obtain⟨a,b,e⟩:=two (by omega)
  subst e6;subst e
  exact⟨_,_,_,rfl,zRd _ _ _ a b rfl (w_Eq a b)⟩
 by_cases e7:o=7
 ·obtain⟨a,b,e⟩:=two (by omega)
  subst e7;subst e
  exact⟨_,_,_,rfl,zRd _ _ _ a b rfl (w_Lt a b)⟩
 by_cases e8:o=8
 ·subst e8
  refine⟨_,_,_,rfl,?_⟩
  have h:=zSb (l.map Val.pv)
  rw[zZ]at h
  show wc W zGk [rowp l]=_
  rw[h,z8e l hlen];rfl
 by_cases e9:o=9
 ·subst e9
  refine⟨_,_,_,rfl,?_⟩
  have h:=zSc (l.map Val.pv)
  rw[zZ]at h
  show wc W zGl [rowp l]=_
  rw[h,w_Or l hlen];rfl
 have e10:o=10:=by omega
 subst e10
 refine⟨_,_,_,rfl,?_⟩
 have h:=zSd (l.map Val.pv)
 rw[zZ]at h
 show wc W zGm [rowp l]=_
 rw[h]
 have h1:l.length=1:=by
  have a:lowO 10=1:=rfl
  have b:zSh 10=1:=rfl
  rw[a]at hlo;rw[b]at hhi;omega
 match l,h1 with
 | [a],_ =>
  simp only[zA1,zAd,zAO,zB,Val.c_mk,Val.fold,z8d]
  rfl
mutual
def zLu(look:Int->Val):Ex->Val
 | .mk o c v l=>bif o==0 then v else bif o==1 then look c else opV o (z3T look l)
def z3T(look:Int->Val):List Ex->List Val
 | []=>[]
 |e::r=>zLu look e::z3T look r
end
theorem zUh(look:Int->Val):∀ l:List Ex,z3T look l=l.map (zLu look)
 | []=>rfl
 |e::r=>by rw[z3T,zUh look r];rfl
theorem zKy(look:Int->Val) (e:Ex):zLu look e=bif e.op==0 then e.v else bif e.op==1 then look e.col else opV e.op (e.l.map (zLu look)):=by
 cases e;rw[zLu,zUh];rfl
mutual
def Ex.vals:Ex->Prop
 | .mk _ _ v l=>VOk v/\Ex.valsL l
def Ex.valsL:List Ex->Prop
 | []=>True
 |e::r=>e.vals/\Ex.valsL r
end
theorem Ex.valsL_mem:∀{l:List Ex},Ex.valsL l->∀ e∈l,e.vals
 |x::r,h,e,he=>by
  rcases zAD.1 he with rfl | he
  ·exact h.1
  ·exact Ex.valsL_mem h.2 e he
theorem Ex.vals_v{e:Ex} (h:e.vals):VOk e.v/\∀ x∈e.l,x.vals:=by
 cases e;exact⟨h.1,Ex.valsL_mem h.2⟩
mutual
def zOM:Ex->Bool
 | .mk o c v l=>zSi o c v l.length&&zXg l
def zXg:List Ex->Bool
 | []=>true
 |e::r=>zOM e&&zXg r
end
theorem zRe:∀ l:List Ex,zXg l=l.all zOM
 | []=>rfl
 |e::r=>by rw[zXg,zRe r];rfl
theorem zQT(e:Ex):zOM e=(zSi e.op e.col e.v e.l.length&&e.l.all zOM):=by cases e;rw[zOM,zRe];rfl
theorem zK4:∀(m:Nat) (e:Ex),e.sz<=m->∀ d n,(mayE d n e).1=true->zOM e=true
 | 0,e,h,_,_,_=>by have:=e.sz_pos;omega
 |m+1,e,h,d,n,hm=>by
  rw[zWd]at hm
  cases hs:zSj d n e with
  |false=>rw[hs]at hm;cases hm
  |true =>
   rw[hs]at hm
   simp only[zA]at hm
   have hp:zSi e.op e.col e.v e.l.length=true:=by unfold zSj at hs;simp only[zF]at hs;exact hs.2
   rw[zQT,hp,zAA,zAB]
   have hsz:e.sz=Ex.szL e.l+1:=by cases e;rfl
   have hl:∀(l:List Ex) (d n:Int),Ex.szL l<=m->(mayL d n l).1=true->∀ x∈l,zOM x=true:=λ l=>by
    induction l with
    |nil=>intro _ _ _ _ x hx;cases hx
    |cons y r ih =>
     intro d n hsz hm x hx
     simp only[Ex.szL]at hsz
     simp only[mayL]at hm
     cases hy:mayE d n y with
     |mk b q =>
      rw[hy]at hm
      cases b with
      |false=>cases hm
      |true =>
       rcases zAD.1 hx with rfl | hx
       ·exact zK4 m x (by omega) d n (by rw[hy])
       ·exact ih d q (by omega) hm x hx
   exact hl e.l (d+1) (n+1) (by omega) hm
theorem zXh(look:Int->Val) (hlk:∀ c,VOk (look c)):∀(m:Nat) (e:Ex),e.sz<=m->e.vals->VOk (zLu look e)
 | 0,e,h,_=>by have:=e.sz_pos;omega
 |m+1,e,h,hv=>by
  rw[zKy]
  obtain⟨h1,h2⟩:=Ex.vals_v hv
  have hsz:e.sz=Ex.szL e.l+1:=by cases e;rfl
  cases e.op==0 with
  |true=>exact h1
  |false =>
   cases e.op==1 with
   |true=>exact hlk _
   |false =>
    refine z7j _ λ v hv=> ?_
    obtain⟨x,hx,rfl⟩:=zAV.1 hv
    exact zXh look hlk m x (by have:=Ex.sz_mem hx;omega) (h2 x hx)
theorem z4K(cols:List Int) (row:List Val) (hc:cols.length<=9223372036854775807) (hr:∀ v∈row,VOk v):∀(m:Nat) (e:Ex),e.sz<=m->e.sz<=4294967295->zOM e=true->e.vals ->
 wc W zJM [e.pv,zBv cols,rowp row]=some (zLu (zV cols row) e).pv
 | 0,e,h,_,_,_=>by have:=e.sz_pos;omega
 |m+1,e,h,hs,hp,hv=>by
  have he:=zW2 e.op e.col e.v.K e.v.N (e.l.map Ex.pv) (cols.map intp) (row.map Val.pv)
  rw[Ex.fold,zH,zZ]at he
  rw[he,zKy]
  have hsz:e.sz=Ex.szL e.l+1:=by cases e;rfl
  have hle:=Ex.szL_ge e.l
  rw[zQT,zF,zAB]at hp
  obtain⟨hp1,hp2⟩:=hp
  obtain⟨hv1,hv2⟩:=Ex.vals_v hv
  cases h0:e.op==0 with
  |true=>rfl
  |false =>
   cases h1:e.op==1 with
   |true =>
    simp only[zC,zA,zHc cols e.col hc,zB,c_i64_mk,zG]
    unfold zV
    cases ha:decide (idxI cols (λ x=>e.col==x)<0) with
    |true=>rfl
    |false =>
     simp only[zC]
     have hb0:decide (idxI cols (λ x=>e.col==x)≥(row.length:Int))=decide (idxI cols (λ x=>e.col==x)≥(row.length:Int)):=rfl
     cases hb:decide (idxI cols (λ x=>e.col==x)≥(row.length:Int)) with
     |true=>rfl
     |false =>
      simp only[zC]
      have ha' :=of_decide_eq_false ha
      have hb' :=of_decide_eq_false hb
      rw[zOk,zD (show 0<=idxI cols (λ x=>e.col==x) by omega)]
      have hlt:(idxI cols (λ x=>e.col==x)).toNat<row.length:=by omega
      simp only[zA,zN,zI hlt,zU,zB,Val.c_mk,Val.fold,zAl,Option.getD_some]
   |false =>
    simp only[zC,zG]
    have hop:2<=e.op/\e.op<11/\lowO e.op<=(e.l.length:Int)/\(e.l.length:Int)<=zSh e.op:=by
     unfold zSi at hp1
     simp only[zF,zR]at hp1
     have a:=beq_eq_false_iff_ne.1 h0
     have b:=beq_eq_false_iff_ne.1 h1
     omega
    have hok:∀ v∈e.l.map (zLu (zV cols row)),VOk v:=λ v hv=>by
     obtain⟨x,hx,rfl⟩:=zAV.1 hv
     exact zXh _ (zSf cols hr) x.sz x (zO _) (hv2 x hx)
    have loop:∀(k i:Nat) (a b:Int),i+k=e.l.length ->
     zGw (cols.map intp) (row.map Val.pv) e.op e.col e.v.K e.v.N (e.l.map Ex.pv) (e.l.map Ex.pv) (e.l.length:Int) (i:Int) a b (((e.l.take i).map (zLu (zV cols row))).map Val.pv)=some (opV e.op (e.l.map (zLu (zV cols row)))).pv:=λ k=>by
     induction k with
     |zero =>
      intro i a b hi
      rw[zJi,show i=e.l.length by omega]
      simp only[zDG,zC,z4J,zB,c_g_i64_i64_p_mk,List.take_length]
      obtain⟨g,fs,cs,k1,k2⟩:=w_op e.op (e.l.map (zLu (zV cols row))) (by omega) hop.2.1 hop.1 (by rw[zG];exact hop.2.2.1) (by rw[zG];exact hop.2.2.2) hok
      rw[k1]
      simp only[asFn_mk,zB,zZ,k2,Val.c_mk,Val.fold]
     |succ k ih =>
      intro i a b hi
      have hi' :i<e.l.length:=by omega
      have hx:=zAF hi'
      have hm:=Ex.sz_mem hx
      rw[zJi]
      simp only[zAK hi',zA2,zA,zY,zN,zI hi',zU,zB,Ex.c_mk,Ex.fold,zH,zZ]
      rw[z4K cols row hc hr m e.l[i] (by omega) (by omega) (hp2 _ hx) (hv2 _ hx)]
      simp only[zB,Val.c_mk,Val.fold,zG,List.length_take,Nat.min_eq_left (Nat.le_of_lt hi'),zAA,zD (show i+1<=4294967296 by omega),zA]
      rw[zX (by omega)]
      have:=ih (i+1) a b (by omega)
      rw[List.take_succ_eq_append_getElem hi',zAm,zAm]at this
      exact this
    have:=loop e.l.length 0 0 0 (by omega)
    rw[List.take_zero]at this
    exact this
def z1S(e:Ex) (cols:List Int) (row:List Val):Val:=bif mayT e then zLu (zV cols row) e else badV
theorem z7l(e:Ex) (cols:List Int) (row:List Val) (he:e.ok) (hv:e.vals) (hc:cols.length<=9223372036854775807) (hr:∀ v∈row,VOk v) :
 wc W zLe [e.pv,zBv cols,rowp row]=some (z1S e cols row).pv:=by
 have h:=zWZ e.op e.col e.v.K e.v.N (e.l.map Ex.pv) (cols.map intp) (row.map Val.pv)
 rw[Ex.fold,zH,zZ]at h
 rw[h,zNh e he]
 simp only[zB,c_b_mk]
 unfold z1S
 cases hm:mayT e with
 |false=>rfl
 |true =>
  have h30:=zWe hm
  simp only[zAJ,zC,zA,z4K cols row hc hr e.sz e (zO _) (by omega) (zK4 e.sz e (zO _) 1 0 hm) hv,zB,Val.c_mk,Val.fold]
def zLN(e:Ex) (cols:List Int) (row:List Val):Bool:=zQS (z1S e cols row)
theorem z5O(e:Ex) (cols:List Int) (row:List Val) (he:e.ok) (hv:e.vals) (hc:cols.length<=9223372036854775807) (hr:∀ v∈row,VOk v) :
 wc W zKI [e.pv,zBv cols,rowp row]=some (.bool (zLN e cols row)):=by
 have h:=zU5 e.op e.col e.v.K e.v.N (e.l.map Ex.pv) (cols.map intp) (row.map Val.pv)
 rw[Ex.fold,zH,zZ]at h
 rw[h,z7l e cols row he hv hc hr]
 simp only[zB,Val.c_mk,Val.fold,z1L,c_b_mk]
 rfl
mutual
def zJo:Ex->List Int
 | .mk o c _ l=>(bif o==1 then [c]else [])++zOq l
def zOq:List Ex->List Int
 | []=>[]
 |e::r=>zJo e++zOq r
end
theorem zMj(e:Ex):zJo e=(bif e.op==1 then [e.col]else [])++zOq e.l:=by cases e;rfl
theorem zZY(l:List Ex) (i:Nat) (hi:i<l.length):zOq (l.drop i)=zJo l[i]++zOq (l.drop (i+1)):=by rw[zAk hi];rfl
theorem zNj:∀(m:Nat),(∀ e:Ex,e.sz<=m->(zJo e).length<=e.sz)/\∀ l:List Ex,Ex.szL l<=m->(zOq l).length<=Ex.szL l
 | 0=>⟨λ e h=>by have:=e.sz_pos;omega,λ l h=>by
  cases l with
  |nil=>exact zO _
  |cons e r=>have:=e.sz_pos;simp only[Ex.szL]at h;omega⟩
 |m+1=>by
  obtain⟨h1,h2⟩:=zNj m
  have hE:∀ e:Ex,e.sz<=m+1->(zJo e).length<=e.sz:=λ e h=>by
   have hsz:e.sz=Ex.szL e.l+1:=by cases e;rfl
   have:=h2 e.l (by omega)
   rw[zMj,zAH]
   cases e.op==1<;>simp<;>omega
  refine⟨hE,λ l=> ?_⟩
  induction l with
  |nil=>exact λ _=>zO _
  |cons e r ih =>
   intro h
   simp only[Ex.szL]at h
   have a:=hE e (by omega)
   have b:=ih (by omega)
   simp only[zOq,Ex.szL,zAH];omega
theorem z5P(e:Ex) (d:Int) (acc:List Int) (h:acc.length+1<=4294967296) :
 W zCx false [.pv e.pv,.pv (.int .i64 d),.own 0 0] [.var false 0 (.view 1 0 none),.row false 0 0 (acc.map intp)] =
  some (.pv (.bool true),[.var false 0 (.view 1 0 none),.row false 0 0 ((acc++bif e.op==1 then [e.col]else []).map intp)]):=by
 have he:=zMc e.op e.col e.v.K e.v.N (e.l.map Ex.pv) d (acc.map intp)
 rw[Ex.fold]at he
 rw[he,zG]
 cases e.op==1 with
 |false=>simp
 |true =>
  simp only[zAA,zD h,zA,zAm,zA1,zAd]
  rfl
theorem z1T:∀(m:Nat) (e:Ex),e.sz<=m->∀(d:Int) (acc:List Int),acc.length+e.sz<=4294967295 ->
 W zEG false [.pv e.pv,.pv (.int .i64 d),.fnv zCx [] [.own 0 0]] [.var false 0 (.view 1 0 none),.row false 0 0 (acc.map intp)] =
  some (.pv (.bool true),[.var false 0 (.view 1 0 none),.row false 0 0 ((acc++zJo e).map intp)])
 | 0,e,h,_,_,_=>by have:=e.sz_pos;omega
 |m+1,e,h,d,acc,ha=>by
  have he:=zOe e.op e.col e.v.K e.v.N (e.l.map Ex.pv) d (acc.map intp)
  rw[Ex.fold]at he
  have hsz:e.sz=Ex.szL e.l+1:=by cases e;rfl
  have hge:=Ex.szL_ge e.l
  have hc:=(zNj e.sz).1 e (zO _)
  have hcl:=(zNj (Ex.szL e.l)).2 e.l (zO _)
  rw[he,z5P e d acc (by omega)]
  simp only[zB,k_b2223f_mk,c_b_mk,zAJ,zC,zG]
  have hx:(acc++bif e.op==1 then [e.col]else []).length<=acc.length+1:=by rw[zAH];cases e.op==1<;>simp
  have loop:∀(k i:Nat) (ac:List Int),i+k=e.l.length->ac.length+Ex.szL (e.l.drop i)<=4294967295 ->
   zEu d (e.l.map Ex.pv) (e.l.length:Int) (i:Int) (ac.map intp)=some (.pv (.bool true),[.var false 0 (.view 1 0 none),.row false 0 0 ((ac++zOq (e.l.drop i)).map intp)]):=λ k=>by
   induction k with
   |zero =>
    intro i ac hi _
    rw[zH9,show i=e.l.length by omega]
    simp[zDG,zOq]
   |succ k ih =>
    intro i ac hi hb
    have hi' :i<e.l.length:=by omega
    have hm:=Ex.sz_mem (zAF hi')
    rw[Ex.sz_drop e.l i hi']at hb
    have hci:=(zNj e.l[i].sz).1 e.l[i] (zO _)
    rw[zH9]
    simp only[zAK hi',zA2,zA,zY,zN,zI hi',zU,zB,Ex.c_mk,Ex.fold]
    rw[z1T m e.l[i] (by omega) _ ac (by omega)]
    simp only[zB,k_b2223f_mk,c_b_mk,zAJ,zC]
    rw[zX (by omega),ih (i+1) (ac++zJo e.l[i]) (by omega) (by rw[zAH];omega),zZY e.l i hi',zAE]
  have:=loop e.l.length 0 (acc++bif e.op==1 then [e.col]else []) (by omega) (by rw[List.drop_zero];omega)
  rw[List.drop_zero,zAE,<-zMj]at this
  exact this
def zGa(e:Ex):List Int:=bif mayT e then Lib.compact (zGi (zJo e))else []
theorem z4L(e:Ex) (he:e.ok):wc W zJI [e.pv]=some (zBv (zGa e)):=by
 have h:=zWT e.op e.col e.v.K e.v.N (e.l.map Ex.pv)
 rw[Ex.fold]at h
 rw[h,zNh e he]
 simp only[zB,c_b_mk]
 unfold zGa
 cases hm:mayT e with
 |false=>rfl
 |true =>
  have h30:=zWe hm
  have hc:=(zNj e.sz).1 e (zO _)
  have h1:=z1T e.sz e (zO _) 1 [] (by simp;omega)
  have h2:=zGN false 0 (zJo e) (by omega)
  have h3:=zFL 0 (zGi (zJo e)) (by rw[zI7];omega)
  simp only[zAd,List.nil_append]at h1
  simp only[zAJ,zC,zA,h1,zB,k_b2223f_mk,c_b_mk]
  have e1:∀ l:List Int,l.map intp=l.map (PV.int .i64):=λ _=>rfl
  rw[e1,h2]
  simp only[zB,k_cad770_mk,h3,k_b7636c_mk,c_s0_mk]
  rfl
theorem zWg(zs:List Int) (c:Int):c∈Lib.compact zs↔c∈zs:=by
 unfold Lib.compact Lib.compactUpTo
 simp only[zAV,zBE,List.mem_range]
 constructor
 ·rintro⟨j,⟨hj,_⟩,rfl⟩
  have:(zs.toArray[j]! :Int)=zs[j]:=by simp[getElem!_pos,hj]
  rw[this];exact zAF hj
 ·intro h
  have hex:∃ j,j<zs.length/\zs.toArray[j]! =c:=by
   obtain⟨j,hj,e⟩:=List.mem_iff_getElem.1 h
   exact⟨j,hj,by simp[getElem!_pos,hj,e]⟩
  have hmin:∀ n:Nat,∀ j,j<=n->j<zs.length->zs.toArray[j]! =c->∃ i,(i<zs.length/\Lib.keeps zs.toArray i=true)/\zs.toArray[i]! =c:=λ n=>by
   induction n with
   |zero =>
    intro j hj hl hc
    have:j=0:=by omega
    subst this
    exact⟨0,⟨hl,by simp[Lib.keeps]⟩,hc⟩
   |succ n ih =>
    intro j hj hl hc
    by_cases hk:Lib.keeps zs.toArray j=true
    ·exact⟨j,⟨hl,hk⟩,hc⟩
    ·have hk' :¬ (j=0∨zs.toArray[j]! ≠zs.toArray[j-1]!):=λ h=>hk (by unfold Lib.keeps;exact zD h)
     have h0:j≠0:=λ e=>hk' (.inl e)
     have h1:zs.toArray[j]! =zs.toArray[j-1]! :=Classical.byContradiction λ e=>hk' (.inr e)
     exact ih (j-1) (by omega) (by omega) (by rw[<- h1];exact hc)
  obtain⟨j,hj,hc⟩:=hex
  exact hmin j j (zO _) hj hc
theorem zUi{e:Ex} (h:mayT e=true) (c:Int):c∈zGa e↔c∈zJo e:=by
 unfold zGa
 rw[h,zA,zWg]
 exact z0i
theorem zQU{f g:Int->Val}:∀(m:Nat) (e:Ex),e.sz<=m->(∀ c∈zJo e,f c=g c)->zLu f e=zLu g e
 | 0,e,h,_=>by have:=e.sz_pos;omega
 |m+1,e,h,hc=>by
  rw[zKy,zKy]
  have hsz:e.sz=Ex.szL e.l+1:=by cases e;rfl
  rw[zMj]at hc
  cases e.op==0 with
  |true=>rfl
  |false =>
   cases h1:e.op==1 with
   |true=>exact hc e.col (by rw[h1];simp)
   |false =>
    simp only[zC]
    congr 1
    have hmem:∀(l:List Ex) (x:Ex),x∈l->∀ c∈zJo x,c∈zOq l:=λ l=>by
     induction l with
     |nil=>intro x hx;cases hx
     |cons y r ih =>
      intro x hx c hc
      simp only[zOq,List.mem_append]
      rcases zAD.1 hx with rfl | hx
      ·exact .inl hc
      ·exact .inr (ih x hx c hc)
    exact zBz λ x hx=>zQU m x (by have:=Ex.sz_mem hx;omega) λ c hcx=>hc c (by rw[List.mem_append];exact .inr (hmem e.l x hx c hcx))
theorem zLv{e:Ex} {cols cols' :List Int} {row row' :List Val} (h:∀ c∈zGa e,zV cols row c=zV cols' row' c):zLN e cols row=zLN e cols' row' :=by
 unfold zLN z1S
 cases hm:mayT e with
 |false=>rfl
 |true=>simp only[zA];rw[zQU e.sz e (zO _) λ c hc=>h c ((zUi hm c).2 hc)]
end Go.Cf

namespace Go.Cf
open Go Go.Ab
theorem zSk{α:Type} (ls:List (List α)) (i:Nat) (hi:i<ls.length):(ls.drop i).flatten.length=ls[i].length+(ls.drop (i+1)).flatten.length:=by
 rw[zAk hi,List.flatten_cons,zAH]
theorem z3U(n:Nat) (h:n<=4294967296):W zEK true [.nil 0,.pv (.int .i64 (n:Int))] []=some (.view 0 0 none,[.row false 0 0 []]):=by
 rw[zHk,zK (show ¬ (n:Int)<0 by omega)]
 simp only[zC,zG9]
 rw[zAZ (by omega) (by omega)]
 by_cases h0:(n:Int)-0>0
 ·rw[zD h0,zD (show(n:Int)-0<=4294967296 by omega)]
  have:decide ((0:Int)<(n:Int)-0)=true:=zD h0
  simp
 ·rw[zK h0];rfl
theorem z7m(ls:List (List Int)) (hn:ls.length<=4294967296) (hl:ls.flatten.length<=4294967296):∀(k i s:Nat),i+k=ls.length->s+(ls.drop i).flatten.length=ls.flatten.length ->
 zCP (ls.map zBv) (s:Int) (ls.map zBv) (ls.length:Int) (i:Int)=zB9 (ls.map zBv) (ls.length:Int) 0 []
 | 0,i,s,h,hs=>by
  rw[zDw,show i=ls.length by omega]
  simp only[zDG,zC,z3U s (by omega),zB,zG]
  rfl
 |k+1,i,s,h,hs=>by
  have hi:i<ls.length:=by omega
  have hc:=zSk ls i hi
  rw[zDw]
  simp only[zAK hi,zA2,zA,zY,zN,zI hi,zU,zB,zDc,zG]
  rw[show IntKind.wrap .i64 ((s:Int)+(ls[i].length:Int))=((s+ls[i].length:Nat):Int) by rw[zAZ (by omega) (by omega)];omega,zK (by omega),zX (by omega)]
  exact z7m ls hn hl k (i+1) (s+ls[i].length) (by omega) (by omega)
theorem z7n(ls:List (List Int)) (hn:ls.length<=4294967296):∀(k i:Nat) (acc:List Int),i+k=ls.length->acc.length+(ls.drop i).flatten.length<=4294967296 ->
 zB9 (ls.map zBv) (ls.length:Int) (i:Int) (acc.map intp)=some (zBv (acc++(ls.drop i).flatten))
 | 0,i,acc,h,hl=>by
  rw[zDx,show i=ls.length by omega]
  simp
 |k+1,i,acc,h,hl=>by
  have hi:i<ls.length:=by omega
  have hc:=zSk ls i hi
  rw[zDx]
  simp only[zAK hi,zA2,zA,zY,zN,zI hi,zU,zB,zDc,zG,zAA,zD (show acc.length+ls[i].length<=4294967296 by omega)]
  rw[zX (by omega)]
  have:=z7n ls hn k (i+1) (acc++ls[i]) (by omega) (by simp only[zAH];omega)
  rw[zAm]at this
  rw[this,zAk hi,List.flatten_cons,zAE]
theorem zQV(ls:List (List Int)) (hn:ls.length<=4294967296) (hl:ls.flatten.length<=4294967296):wc W zBp [.slice 0 (ls.map zBv)]=some (zBv ls.flatten):=by
 rw[zJT,zG]
 refine(z7m ls hn hl ls.length 0 0 (by omega) (by simp)).trans ?_
 have:=z7n ls hn ls.length 0 [] (by omega) (by simpa using hl)
 simpa using this
theorem z3V(n:Nat) (h:n<=4294967296):W zC1 true [.nil 3,.pv (.int .i64 (n:Int))] []=some (.view 0 0 none,[.row false 0 3 []]):=by
 rw[zFS,zK (show ¬ (n:Int)<0 by omega)]
 simp only[zC,zEi]
 rw[zAZ (by omega) (by omega)]
 by_cases h0:(n:Int)-0>0
 ·rw[zD h0,zD (show(n:Int)-0<=4294967296 by omega)]
  have:decide ((0:Int)<(n:Int)-0)=true:=zD h0
  simp
 ·rw[zK h0];rfl
theorem z7o(ls:List (List Val)) (hn:ls.length<=4294967296) (hl:ls.flatten.length<=4294967296):∀(k i s:Nat),i+k=ls.length->s+(ls.drop i).flatten.length=ls.flatten.length ->
 zBQ (ls.map rowp) (s:Int) (ls.map rowp) (ls.length:Int) (i:Int)=zAs (ls.map rowp) (ls.length:Int) 0 []
 | 0,i,s,h,hs=>by
  rw[zCf,show i=ls.length by omega]
  simp only[zDG,zC,z3V s (by omega),zB,zG]
  rfl
 |k+1,i,s,h,hs=>by
  have hi:i<ls.length:=by omega
  have hc:=zSk ls i hi
  rw[zCf]
  simp only[zAK hi,zA2,zA,zY,zN,zI hi,zU,zB,zCm,zG]
  rw[show IntKind.wrap .i64 ((s:Int)+(ls[i].length:Int))=((s+ls[i].length:Nat):Int) by rw[zAZ (by omega) (by omega)];omega,zK (by omega),zX (by omega)]
  exact z7o ls hn hl k (i+1) (s+ls[i].length) (by omega) (by omega)
theorem z7p(ls:List (List Val)) (hn:ls.length<=4294967296):∀(k i:Nat) (acc:List Val),i+k=ls.length->acc.length+(ls.drop i).flatten.length<=4294967296 ->
 zAs (ls.map rowp) (ls.length:Int) (i:Int) (acc.map Val.pv)=some (rowp (acc++(ls.drop i).flatten))
 | 0,i,acc,h,hl=>by
  rw[zCg,show i=ls.length by omega]
  simp
 |k+1,i,acc,h,hl=>by
  have hi:i<ls.length:=by omega
  have hc:=zSk ls i hi
  rw[zCg]
  simp only[zAK hi,zA2,zA,zY,zN,zI hi,zU,zB,zCm,zG,zAA,zD (show acc.length+ls[i].length<=4294967296 by omega)]
  rw[zX (by omega)]
  have:=z7p ls hn k (i+1) (acc++ls[i]) (by omega) (by simp only[zAH];omega)
  rw[zAm]at this
  rw[this,zAk hi,List.flatten_cons,zAE]
theorem zUj(ls:List (List Val)) (hn:ls.length<=4294967296) (hl:ls.flatten.length<=4294967296):wc W zBX [.slice 0 (ls.map rowp)]=some (rowp ls.flatten):=by
 rw[zFw,zG]
 refine(z7o ls hn hl ls.length 0 0 (by omega) (by simp)).trans ?_
 have:=z7p ls hn ls.length 0 [] (by omega) (by simpa using hl)
 simpa using this
def zBl(r s:List (List Val)):List (List Val):=r.flatMap λ x=>s.map λ y=>x++y
theorem z4M(C D E F:List PV) (x:List Val) (A:List PV) (n i:Int) (s:List (List Val)) (hx:x.length<=100) (hs:∀ y∈s,y.length<=100) (hsn:s.length<=5000) (X Y:List PV):∀(k j:Nat) (acc:List (List Val)),j+k=s.length->acc.length+k<=4294967295 ->
 zGp C D (x.map Val.pv) A n i (s.map rowp) (s.length:Int) (j:Int) X Y E (acc.map rowp)=zF6 C D A n (IntKind.wrap .i64 (i+1)) X Y E ((acc++(s.drop j).map λ y=>x++y).map rowp)
 | 0,j,acc,h,hl=>by
  rw[zJ9,show j=s.length by omega]
  simp
 |k+1,j,acc,h,hl=>by
  have hj:j<s.length:=by omega
  have hy:=hs _ (zAF hj)
  rw[zJ9]
  have hc:=zUj [x,s[j]] (by simp) (by simp;omega)
  simp only[zA1,zAd,List.flatten_cons,List.flatten_nil,zBM]at hc
  simp only[zAK hj,zA2,zA,zY,zN,zI hj,zU,zB,zCm,zZ,hc,zG,zAA,zD (show acc.length+1<=4294967296 by omega)]
  rw[zX (by omega)]
  have:=z4M C D E F x A n i s hx hs hsn X Y k (j+1) (acc++[x++s[j]]) (by omega) (by simp;omega)
  simp only[zAm,zA1,zAd]at this
  simp only[rowp,zAm]at this ⊢
  rw[this,zAk hj]
  simp only[zA1,zAE,List.cons_append,List.nil_append,rowp,zAm]
theorem z4N(C D E F:List PV) (r s:List (List Val)) (hr:∀ x∈r,x.length<=100) (hs:∀ y∈s,y.length<=100) (hl:r.length<=5000) (hsn:s.length<=5000) (X Y:List PV):∀(k i:Nat) (acc:List (List Val)),i+k=r.length->acc.length+(zBl (r.drop i) s).length<=4294967295 ->
 zF6 C (s.map rowp) (r.map rowp) (r.length:Int) (i:Int) X Y E (acc.map rowp)=some (.tup [.agg [.slice 0 E,tabp (acc++zBl (r.drop i) s)],.bool true])
 | 0,i,acc,h,hb=>by
  rw[zJ8,show i=r.length by omega]
  simp[zBl]
 |k+1,i,acc,h,hb=>by
  have hi:i<r.length:=by omega
  have hp:zBl (r.drop i) s=(s.map λ y=>r[i]++y)++zBl (r.drop (i+1)) s:=by
   rw[zAk hi];rfl
  rw[hp]at hb ⊢
  simp only[zAH,zG]at hb
  rw[zJ8]
  simp only[zAK hi,zA2,zA,zY,zN,zI hi,zU,zB,zCm,zG]
  have h3:=z4M C (s.map rowp) E F r[i] (r.map rowp) (r.length:Int) (i:Int) s (hr _ (zAF hi)) hs hsn X Y s.length 0 acc (by omega) (by omega)
  refine h3.trans ?_
  rw[zX (by omega),List.drop_zero]
  have:=z4N C D E F r s hr hs hl hsn X Y k (i+1) (acc++s.map λ y=>r[i]++y) (by omega) (by simp only[zAH,zG];omega)
  rw[this,zAE]
def zRf(c:List Int) (r:List (List Val)) (d:List Int) (s:List (List Val)):Option (List Int×List (List Val)) :=
 bif mayB c r&&mayB d s&&mayB (c++d) []&&decide (r.length*s.length<=5000)then some (c++d,zBl r s)else none
theorem zIn(r s:List (List Val)):(zBl r s).length=r.length*s.length:=by
 unfold zBl
 induction r with
 |nil=>simp
 |cons a r ih=>rw[zCA,zAH,ih,zG,List.length_cons,Nat.succ_mul];omega
theorem z1U(c:List Int) (r:List (List Val)) (d:List Int) (s:List (List Val)) (hcd:c.length+d.length<=4294967296) (hr:r.length<=9223372036854775807) (hs:s.length<=9223372036854775807)
 (hrl:∀ x∈r,x.length<=9223372036854775807) (hsl:∀ x∈s,x.length<=9223372036854775807):wc W zJE [bagp c r,bagp d s]=some (bagR (zRf c r d s)):=by
 have h:=zWR (c.map intp) (r.map rowp) (d.map intp) (s.map rowp)
 rw[zH,zH,zAM,zAM,zAY,zAY]at h
 have hc:=zQV [c,d] (by simp) (by simpa using hcd)
 simp only[zA1,zAd,List.flatten_cons,List.flatten_nil,zBM]at hc
 have e0:PV.agg [zBv (c++d),PV.slice 0 []]=bagp (c++d) []:=rfl
 rw[h,hc]
 simp only[zB,zDc,zH,e0,zIl c r (by omega) hr hrl,zIl d s (by omega) hs hsl,zIl (c++d) [] (by simp;omega) (by simp) (by simp),c_b_mk,zG]
 unfold zRf
 cases h1:mayB c r with
 |false=>rfl
 |true =>
  cases h2:mayB d s with
  |false=>rfl
  |true =>
   cases h3:mayB (c++d) [] with
   |false=>rfl
   |true =>
    obtain⟨a1,a2,a3⟩:=zBi h1
    obtain⟨b1,b2,b3⟩:=zBi h2
    have hm:r.length*s.length<=5000*5000:=Nat.mul_le_mul a2 b2
    have hw:IntKind.wrap .i64 ((r.length:Int)*(s.length:Int))=((r.length*s.length:Nat):Int):=by
     rw[<- Int.natCast_mul,zAZ (by omega) (by omega)]
    rw[hw]
    by_cases h4:r.length*s.length<=5000
    ·rw[zD h4,zK (show ¬ ((r.length*s.length:Nat):Int)>5000 by omega)]
     simp only[zAJ,zC,Bool.and_self,zA,zO5,zG]
     have:=z4N (d.map intp) [] ((c++d).map intp) [] r s (λ x hx=>by have:=(a3 x hx).1;omega) (λ x hx=>by have:=(b3 x hx).1;omega) a2 b2 [] [] r.length 0 [] (by omega) (by rw[List.drop_zero,zIn];simp;omega)
     simp only[zAd,List.drop_zero,List.nil_append]at this
     exact this
    ·rw[zK h4,zD (show((r.length*s.length:Nat):Int)>5000 by omega)]
     rfl
end Go.Cf

namespace Go.Cf
open Go Go.Ab
theorem z7q(c cols:List Int) (row:List Val) (hl:row.length=c.length) (hin:∀ x∈cols,inC c x=true) (hn:cols.length<=100) (A:List PV) (n i:Int) (X Y Z:List PV) (out:List (List Val)) (ho:out.length<=4294967295):∀(k j:Nat) (acc:List Val),j+k=cols.length->acc.length=j ->
 zIA (row.map Val.pv) A n i (cols.length:Int) (j:Int) ((atC c cols).map intp) X Y Z (out.map rowp) (acc.map Val.pv) =
  zGO A n (IntKind.wrap .i64 (i+1)) ((atC c cols).map intp) X Y Z ((out++[acc++(cols.drop j).map (zV c row)]).map rowp)
 | 0,j,acc,h,ha=>by
  rw[zKR,show j=cols.length by omega]
  simp only[zDG,zC,zG,zAA,zD (show out.length+1<=4294967296 by omega),zA,List.drop_length,zAd,zBM,zAm,zA1]
  rfl
 |k+1,j,acc,h,ha=>by
  have hj:j<cols.length:=by omega
  have hj2:j<(atC c cols).length:=by unfold atC;rw[zG];exact hj
  obtain⟨h1,h2⟩:=zCd (hin _ (zAF hj)) hl
  have he:(atC c cols)[j]=idxI c (λ y=>cols[j]==y):=by simp only[atC,List.getElem_map]
  have hlen:((atC c cols).map intp).length=cols.length:=by unfold atC;rw[zG,zG]
  rw[zKR,hlen]
  simp only[zAK hj,zA2,Bool.and_self,zA,zY,Nat.zero_add,zN,zI hj2,zU,zB,zIK,he,zD h2,h1,Val.c_mk,Val.fold,zG,zAA,zD (show acc.length+1<=4294967296 by omega)]
  rw[zX (by omega)]
  have:=z7q c cols row hl hin hn A n i X Y Z out ho k (j+1) (acc++[zV c row cols[j]]) (by omega) (by rw[zAH,List.length_singleton];omega)
  rw[zAm]at this
  rw[zAE,List.singleton_append]at this
  rw[zAk hj,zA1]
  exact this
theorem z7r(c cols:List Int) (r:List (List Val)) (hl:∀ x∈r,x.length=c.length) (hin:∀ x∈cols,inC c x=true) (hn:cols.length<=100) (hr:r.length<=4294967295) (X Y:List PV):∀(k i:Nat) (acc:List (List Val)),i+k=r.length->acc.length=i ->
 zGO (r.map rowp) (r.length:Int) (i:Int) ((atC c cols).map intp) X Y (cols.map intp) (acc.map rowp)=some (.tup [bagp cols (acc++(r.drop i).map (zBw c cols)),.bool true])
 | 0,i,acc,h,ha=>by
  rw[zKQ,show i=r.length by omega]
  simp[zDG]
 |k+1,i,acc,h,ha=>by
  have hi:i<r.length:=by omega
  rw[zKQ]
  have hlen:((atC c cols).map intp).length=cols.length:=by unfold atC;rw[zG,zG]
  simp only[zAK hi,zA2,zA,zY,zN,zI hi,zU,zB,zCm,hlen]
  have h4:=z7q c cols r[i] (hl _ (zAF hi)) hin hn (r.map rowp) (r.length:Int) (i:Int) X Y (cols.map intp) acc (by omega) cols.length 0 [] (by omega) rfl
  refine h4.trans ?_
  rw[zX (by omega),List.drop_zero,List.nil_append]
  have:=z7r c cols r hl hin hn hr X Y k (i+1) (acc++[cols.map (zV c r[i])]) (by omega) (by rw[zAH,List.length_singleton];omega)
  rw[this,zAk hi,zA1,zAE]
  rfl
theorem z7s(c cols:List Int) (r:List (List Val)) (hl:∀ x∈r,x.length=c.length) (hc:c.length<=100) (hn:cols.length<=100) (hr:r.length<=4294967295):∀(k i:Nat),i+k=cols.length->(∀ x∈cols.take i,inC c x=true) ->
 zHz (cols.map intp) (c.map intp) (r.map rowp) (cols.map intp) (cols.length:Int) (i:Int) ((atC c (cols.take i)).map intp) =
  bif (cols.drop i).all (inC c)then some (.tup [bagp cols (r.map (zBw c cols)),.bool true])else some (.tup [bagp [] [],.bool false])
 | 0,i,h,hin=>by
  rw[zKP,show i=cols.length by omega]
  have hcl:=zDr (cols.map intp) (by rw[zG];omega)
  rw[zH]at hcl
  rw[show i=cols.length by omega,List.take_length]at hin
  simp only[zDG,zC,List.drop_length,List.all_nil,zA,List.take_length,zH,hcl,zB,zDc,zG]
  have:=z7r c cols r hl hin hn hr [] [] r.length 0 [] (by omega) rfl
  simpa using this
 |k+1,i,h,hin=>by
  have hi:i<cols.length:=by omega
  rw[zKP,zAk hi,List.all_cons]
  simp only[zAK hi,zA2,zA,zY,zN,zI hi,zU,zB,zIK,zH,zHc c cols[i] (by omega),c_i64_mk,zLt]
  cases hx:inC c cols[i] with
  |false=>rfl
  |true =>
   have ht:(cols.take i).length=i:=by rw[List.length_take];omega
   have hlen:((atC c (cols.take i)).map intp).length=i:=by unfold atC;rw[zG,zG,ht]
   simp only[zAJ,zC,zAA,hlen,zD (show i+1<=4294967296 by omega),zA]
   rw[zX (by omega)]
   have:=z7s c cols r hl hc hn hr k (i+1) (by omega) (λ x hx' =>by
    rw[List.take_succ_eq_append_getElem hi]at hx'
    rcases List.mem_append.1 hx' with h | h
    ·exact hin x h
    ·rw[zBS]at h;rw[h];exact hx)
   rw[List.take_succ_eq_append_getElem hi]at this
   unfold atC at this ⊢
   rw[zAm,zAm]at this
   exact this
def zSl(c:List Int) (r:List (List Val)) (cols:List Int):Option (List Int×List (List Val)):=bif mayB c r&&mayB cols []&&cols.all (inC c)then some (cols,r.map (zBw c cols))else none
theorem z7t(c:List Int) (r:List (List Val)) (cols:List Int) (hc:c.length<=9223372036854775807) (hr:r.length<=9223372036854775807) (hl:∀ x∈r,x.length<=9223372036854775807) (hn:cols.length<=9223372036854775807) :
 wc W zNZ [bagp c r,zBv cols]=some (bagR (zSl c r cols)):=by
 have h:=zZE (c.map intp) (r.map rowp) (cols.map intp)
 rw[zH,zAM,zAY,zH]at h
 have e0:PV.agg [zBv cols,PV.slice 0 []]=bagp cols []:=rfl
 rw[h]
 simp only[e0,zIl c r hc hr hl,zIl cols [] hn (by simp) (by simp),zB,c_b_mk]
 unfold zSl
 cases h1:mayB c r with
 |false=>rfl
 |true =>
  cases h2:mayB cols [] with
  |false=>rfl
  |true =>
   obtain⟨a1,a2,a3⟩:=zBi h1
   obtain⟨b1,_,_⟩:=zBi h2
   simp only[zAJ,zC,Bool.and_self,zAA,zQI,zG]
   have:=z7s c cols r (λ x hx=>(a3 x hx).1) (by omega) (by omega) (by omega) cols.length 0 (by omega) (by simp)
   rw[List.take_zero,List.drop_zero]at this
   refine this.trans ?_
   cases cols.all (inC c)<;>rfl
end Go.Cf
