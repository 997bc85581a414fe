/- A part of the proof of CellSelectsCardSaid: lemmas on the way (AmTm, AmCr, AmCzc, AmCzf, AmGg, AmTp, AmHd, AmHx, AmXd, AmXe, AmXb, AmTu, AmXf, AmXg, AmXh, AmXi, AmRz, AmRb, AmRc, AmRd, AmRe, AmRf). Conditions: none of ours. -/
import Derived.KernelRfl
import Derived.Test.YtmoanlnleppcpaaGreatDoorProg
import Derived.Test.YtmoanlnleppcpaaGreatDoorAmW13
set_option linter.unusedSectionVars false
set_option maxHeartbeats 32000000
set_option maxRecDepth 100000
set_option linter.unusedVariables false
set_option linter.unusedSimpArgs false
namespace Go.AM
variable{P:Program}
def tight(i:Nat)(f:FP):Prop:=f.all=false/\∀b,b∈f.R\/b∈f.W->b∈[i]
def wpRS(P:Program)(z:Nat):Nat->List SOper->Tmps->Heap->(Tmps->Heap->Nat->Prop)->Prop|n,[],T,h,K=>K T h n|n,s::r,T,h,K=>∃v h1 f,StepV P n s T h v h1 f/\(n=z->tight n f)/\wpRS P z (n+1) r (putD T s.dst v) h1 K
theorem QiC{z:Nat}:∀{r:List SOper}{n:Nat}{T:Tmps}{h:Heap}{K:Tmps->Heap->Nat->Prop},z<n->wpR P n r T h K->wpRS P z n r T h K|[],n,T,h,K,_,b=>b|s::r,n,T,h,K,d,⟨v,h1,f,a,c⟩=>⟨v,h1,f,a,fun e=>by omega,QiC (by omega) c⟩
theorem Qpw{s:SOper}{K:Tmps->Heap->Nat->Prop}:∀(k:Nat)(r:List SOper)(n:Nat)(T:Tmps)(h:Heap),r[k]?=some s->wpR P n (r.take k) T h (fun T1 h1 d=>∃v a f,StepV P d s T1 h1 v a f/\tight d f/\wpR P (d+1) (r.drop (k+1)) (putD T1 s.dst v) a K)->wpRS P (n+k) n r T h K:=by intro k;induction k with
 |zero=>intro r n T h e hw;cases r with|nil=>cases e|cons t r=>rw[Za9,Zaa]at e;subst e;rw[List.take_zero]at hw;simp only[wpR]at hw;obtain⟨v,a,f,b,c,g⟩:=hw;rw[Za0,Za2]at g;exact⟨v,a,f,b,fun _=>c,QiC (by omega) g⟩
 |succ k i=>intro r n T h e hw;cases r with|nil=>cases e|cons t r=>rw[ZaN]at hw;simp only[wpR]at hw;obtain⟨v,h1,f,b,c⟩:=hw;refine⟨v,h1,f,b,fun e=>by omega,?_⟩;rw[show n+(k+1)=n+1+k by omega];exact i r (n+1) _ _ (by simpa using e) c
theorem Qj9{z:Nat}:∀{r:List SOper}{n:Nat}{T:Tmps}{h:Heap}{K:Tmps->Heap->Nat->Prop},wpRS P z n r T h K->∃T' h' n',K T' h' n'/\∀d,(∀s∈r,s.dst≠some d)->lk T' d=lk T d|[],n,T,h,K,a=>⟨T,h,n,a,fun _ _=>rfl⟩|s::r,n,T,h,K,⟨v,h1,f,g,_,b⟩=>by obtain⟨T',h',n',a,he⟩:=Qj9 b;refine⟨T',h',n',a,fun d c=>?_⟩;simp_all[Qbg]
def touch3(z i:Nat)(ax:Opd->Option (List Nat))(s:SOp):Option (List Nat):=bif Nat.beq i z then some [i]else touch2 i ax s
def touchesN(z:Nat)(C:Claims)(n:Nat)(T:Tmps):List SOper->Abs->List (Option (List Nat))|[],_=>[]|s::r,A=>touch3 z n (absO T A) s.op::touchesN z C (n+1) T r (match s.dst with|some d=>(d,absH C d (s.op.absV n (absO T A)))::A|none=>A)
theorem Qka{T0:Tmps}{C:Claims}{z:Nat}:∀{r:List SOper}{n:Nat}{A:Abs}{T:Tmps}{h:Heap}{K:Tmps->Heap->Nat->Prop}(hA:AbsOK T0 A T)(K':List FP->Tmps->Heap->Nat->Prop)(l:∀T h n,K T h n->∀d bs,clm C d=some bs->Pts (lk T d) bs)(a:ssa C r=true),(∀fs T h n',fs.length=r.length->(∀(j:Nat)i,(touchesN z C n T0 r A).getD j none=some i->(fs.getD j ⟨false,[],[]⟩).all=false/\∀b,b∈(fs.getD j ⟨false,[],[]⟩).R\/b∈(fs.getD j ⟨false,[],[]⟩).W->b∈i)->K T h n'->K' fs T h n')->wpRS P z n r T h K->wpRF P n r T h K'
 |[],n,A,T,h,K,hA,K',l,a,o,hw=>o [] T h n rfl (fun j i c=>by simp_all) hw|s::r,n,A,T,h,K,hA,K',l,a,o,hw=>by
  obtain⟨v,h1,f,u,y,w⟩:=hw;simp only[ssa,Zab]at a;obtain⟨g,m⟩:=a;refine⟨v,h1,f,u,?_⟩;have t:AbsOK T0 (match s.dst with|some d=>(d,absH C d (s.op.absV n (absO T0 A)))::A|none=>A) (putD T s.dst v):=by cases e:s.dst with|none=>exact hA|some d=>
   refine AbsOK.up hA fun bs k=>?_;unfold absH at k;split at k
   ·rename_i F hc;cases k;obtain⟨T',E,n',q,he⟩:=Qj9 w;have x:=l T' E n' q d _ hc;rw[he d ?_,Qbg,if_pos e]at x;·exact x
    intro G p;rw[e]at g;simp only[hc,Option.isNone_some,Bool.false_or,ZaC]at g;have:=g G p;intro H;simp_all
   exact Qdt hA.opd k u
  refine Qka t (fun fs T h n=>K' (f::fs) T h n) l m (fun fs T h n' B hf q=>?_) w;refine o (f::fs) T h n' (by simp[B]) (fun j i c=>?_) q;cases j with
  |zero=>simp only[touchesN,List.getD_cons_zero]at c⊢;unfold touch3 at c;cases e:Nat.beq n z with|true=>rw[e]at c;simp only[cond_true,Zaa]at c;subst c;exact y (by simpa using e)|false=>rw[e]at c;exact Qd1 hA.opd c u
  |succ j=>simp only[touchesN,List.getD_cons_succ]at c⊢;exact hf j i c
def NewAt(P:Program)(N:NM)(x:Opd)(ag:List Opd)(d:Option Nat)(r:List SOper)(n:Nat)(T:Tmps)(h:Heap)(Q:QC):Prop:=∃f a len sz,ev T x=.fn f [] []/\NSpec P f (evs T ag) a len sz/\noRefs a=true/\n<lim/\h.get n=none/\wR P N r [] [] (n+1) (putD T d (.sl n 0 0 len sz)) (h.set n (.cells 0 a)) Q
theorem Qmt(C:Claims)(k:Nat){x:Opd}{ag:List Opd}{d:Option Nat}{N:NM}{ops:List SOper}{p:Nat×Nat}{u:List (Nat×Nat)}{dead:List Nat}{fs:List Fr}{n:Nat}{T:Tmps}{h:Heap}{Q:QC}{af:List Nat}(m:ops[k]?=some ⟨d,.call .heap x ag,af,none⟩)(i:ssa C ops=true)(hp:pairsOK (touchesN (n+k) C n T ops []) (p::u)=true)(hw:wR P N (ops.take k) [] [] n T h fun e T h n=>NewAt P N x ag d (ops.drop (k+1)) n T h fun e T h n=>Clms T C/\wX P N .normal fs n (rm T dead) h Q):wS P N (.region ops (p::u) dead) fs n T h Q:=by
 have rm0:∀T:Tmps,rm T []=T:=by intro T;induction T with|nil=>rfl|cons p T o=>obtain⟨j,v⟩:=p;simp[rm,o]
 refine Qka (C:=C) (z:=n+k) (K:=fun T h n=>Clms T C/\wX P N .normal fs n (rm T dead) h Q) AbsOK.nil _ (fun T h n m d z hc=>m.1.get d z hc) i (fun O T h V hl hf m=>⟨?_,m.2⟩) ?_
 ·rw[ZaC];intro q F;have:=ZaC.1 hp q F;split at this
  ·rename_i a b E t;obtain⟨R,f2⟩:=hf _ _ E;obtain⟨Z,U⟩:=hf _ _ t;have Y:∀x y,x∈a->y∈b->x≠y:=by grind
   have X:∀xs g:List Nat,(∀x∈xs,∀y∈g,x≠y)->disj xs g=true:=by intro xs g w;unfold disj;grind
   grind[FP.apart]
  cases this
 refine Qpw k ops n T h m ?_;have l:wpR P n (ops.take k) T h fun T h n=>NewAt P N x ag d (ops.drop (k+1)) n (rm T []) h fun e T h n=>Clms T C/\wX P N .normal fs n (rm T dead) h Q:=hw;simp only[rm0]at l;have mono:∀{r:List SOper}{n:Nat}{T:Tmps}{h:Heap}{K K':Tmps->Heap->Nat->Prop},(∀T h n,K T h n->K' T h n)->wpR P n r T h K->wpR P n r T h K':=by intro r;induction r with|nil=>intro n T h K K' hi hw;exact hi _ _ _ hw|cons s r o=>intro n T h K K' hi hw;obtain⟨v,h1,f,A,I⟩:=hw;exact⟨v,h1,f,A,o hi I⟩
 refine mono (fun T1 h1 c w=>?_) l;obtain⟨f,g,len,sz,S,J,L,M,G,H⟩:=w;refine⟨.sl c 0 0 len sz,h1.set c (.cells 0 g),⟨false,[c],[c]⟩,?_,⟨rfl,fun b t=>?_⟩,?_⟩;·refine⟨.call .heap f (evs T1 ag),h1,?_,.inr (.inr (.inl ⟨evs T1 ag,[],.inl ⟨rfl,rfl⟩,.inl ⟨g,len,sz,J,.inr ⟨L,rfl⟩,M,G,rfl,rfl,rfl⟩⟩))⟩;simp_all[aop,aCall,HM.run]
 ·simpa using t
 have B:wpR P (c+1) (ops.drop (k+1)) (putD T1 d (.sl c 0 0 len sz)) (h1.set c (.cells 0 g)) fun T h n=>Clms (rm T []) C/\wX P N .normal fs n (rm (rm T []) dead) h Q:=H;simp_all
end Go.AM
namespace Go.AM.SO
open Go.Proofs Go.AM.SD Go.AM.SE
theorem u8_wf{n:Int}(h:(Lit.int .u8 n).wf=true):0<=n/\n<256:=by grind[Lit.wf,IntKind.min,IntKind.max,IntKind.signed,IntKind.bits]
theorem i8_wf{n:Int}(h:(Lit.int .i8 n).wf=true):-128<=n/\n<128:=by grind[Lit.wf,IntKind.min,IntKind.max,IntKind.signed,IntKind.bits]
def u8O:Ty->Bool|.int k=>k==.u8|.arr _ t=>u8O t|.st t=>u8O t|.unit=>true|.pair a b=>u8O a&&u8O b|_=>false
theorem QeP{a b:List Nat}:u8s (a++b)=u8s a++u8s b:=by simp[u8s]
theorem Qb0:∀(t:Ty),u8O t=true->∀(d:t.D),t.wf d->∃l:List Nat,l.length=t.sz/\(∀x∈l,x<256)/\t.cells d=u8s l
 |.int k,h,d,hw=>by
  have:k=.u8:=by grind[u8O]
  subst this;have:=u8_wf hw;refine⟨[Int.toNat d],rfl,by simp;omega,?_⟩;show[AV.int .u8 d]=[AV.int .u8 ((Int.toNat d:Nat):Int)];grind|.bool,h,_,_=>by cases h|.str,h,_,_=>by cases h|.sl _,h,_,_=>by cases h|.st t,h,d,hw=>Qb0 t h d hw|.unit,_,_,_=>⟨[],rfl,by simp,rfl⟩|.pair a b,h,d,hw=>by simp only[u8O,Zab]at h;obtain⟨l,h1,p,o⟩:=Qb0 a h.1 d.1 hw.1;obtain⟨m,i,g,f⟩:=Qb0 b h.2 d.2 hw.2;refine⟨l++m,by rw[Zai,h1,i];rfl,fun x c=>(Zbf.1 c).elim (p x) (g x),?_⟩;show a.cells d.1++b.cells d.2=_;rw[o,f,QeP]|.arr n t,h,d,hw=>by
  obtain⟨j,c⟩:=hw;have key:∀l:List t.D,(∀x∈l,t.wf x)->∃r:List Nat,r.length=l.length*t.sz/\(∀x∈r,x<256)/\l.flatMap t.cells=u8s r:=by intro l;induction l with|nil=>intro _;exact⟨[],by simp,by simp,rfl⟩|cons a l s=>intro j;obtain⟨r,i,g,f⟩:=s fun y q=>j y (by simp[q]);obtain⟨m,h1,p,o⟩:=Qb0 t h a (j a (by simp));refine⟨m++r,by grind,fun x c=>(Zbf.1 c).elim (p x) (g x),?_⟩;rw[Zay,f,o,QeP]
  obtain⟨r,i,g,f⟩:=key d c;refine⟨r,by rw[i];show List.length d*t.sz=n*t.sz;rw[j],g,f⟩
abbrev tyTo:Ty:=.arr 5 (.arr 5 (.int .u8))
abbrev tyGr:Ty:=.st (.pair (.int .u8) (.pair (.int .u8) (.pair tyTo .unit)))
abbrev tyPln:Ty:=.st (.pair (.arr 5 (.int .u8)) (.pair (.int .u8) (.pair (.arr 3 (.int .u8)) (.pair (.arr 3 tyGr) (.pair (.int .u8) (.pair (.arr 2 (.int .u8)) (.pair (.arr 2 tyGr) (.pair (.sl (.arr 4 (.int .u8))) (.pair (.arr 3 (.int .i8)) (.pair (.int .i8) .unit))))))))))
theorem Qqt{d:tyPln.D}(h:tyPln.wf d):∃p:Pln,POk p/\p.xn<=9223372036854775807/\tyPln.val d=plnV p:=by
 obtain⟨a,b,c,g,e,f,k,x,y,z,u⟩:=d;obtain⟨h1,B,v,t,r,A,s,o,w,n,_⟩:=h;dsimp only at h1 B v t r A s o w n;obtain⟨l1,a1,b1,K⟩:=Qb0 (.arr 5 (.int .u8)) rfl _ h1;obtain⟨C,a2,b2,c2⟩:=Qb0 (.int .u8) rfl _ B;obtain⟨U,I,b3,X⟩:=Qb0 (.arr 3 (.int .u8)) rfl _ v;obtain⟨J,N,b4,Q⟩:=Qb0 (.arr 3 tyGr) rfl _ t;obtain⟨S,G,b5,M⟩:=Qb0 (.int .u8) rfl _ r;obtain⟨F,Y,b6,H⟩:=Qb0 (.arr 2 (.int .u8)) rfl _ A;obtain⟨l7,E,b7,R⟩:=Qb0 (.arr 2 tyGr) rfl _ s;obtain⟨q,o⟩:=o;obtain⟨O,a8,b8,P⟩:=Qb0 (.arr (List.length x) (.arr 4 (.int .u8))) rfl x ⟨rfl,o⟩;obtain⟨T,m⟩:=w;obtain⟨i,j,l,rfl⟩:∃i j l,y=[i,j,l]:=by match y,T with|[i,j,l],_=>exact⟨i,j,l,rfl⟩
 have L:=i8_wf (m i (by simp));have V:=i8_wf (m j (by simp));have w2:=i8_wf (m l (by simp));have Z:=i8_wf n;refine⟨⟨l1++C++U++J++S++F++l7,O,List.length x,i,j,l,z⟩,⟨?_,?_,a8,b8,L,V,w2,Z⟩,q,?_⟩;·simp only[Zai,a1,a2,I,N,G,Y,E];rfl
 ·grind
 show AV.agg (tyPln.cells _)=_;congr 1;show(Ty.arr 5 (.int .u8)).cells a++((Ty.int .u8).cells b++((Ty.arr 3 (.int .u8)).cells c++((Ty.arr 3 tyGr).cells g++((Ty.int .u8).cells e++((Ty.arr 2 (.int .u8)).cells f++((Ty.arr 2 tyGr).cells k++([.fsl ((Ty.arr (List.length x) (.arr 4 (.int .u8))).cells x) (List.length x) 4]++((Ty.arr 3 (.int .i8)).cells [i,j,l]++((Ty.int .i8).cells z++[])))))))))=_;rw[K,c2,X,Q,M,H,R,P];simp only[plnC,QeP,ZaM];rfl
end Go.AM.SO
namespace Go.AM.SK
open Go.Proofs
noncomputable section
def isT:AV->Bool|.bool true=>true|_=>false
theorem Qqu:∀u,isT u=true->u=.bool true:=by
 intro u h;unfold isT at h;split at h;·rfl
 cases h
theorem known15:PSpec Tryz.prog 15 [] (.bool true):=QbZ (t:=ft) ft_ok Qd0 (d:=100000) isT Qqu (by kernel_rfl)
end
end Go.AM.SK
namespace Go.AM.SO
open Go.Proofs Go.AM.SD Go.AM.SE
theorem short25(p:Pln)(h:POk p)(c:p.xn<=9223372036854775807):PSpec Tryz.prog 25 [plnV p] (.bool (decide (p.xn<=4))):=by refine Zb3 64 ok25 rfl (by simp only[noRefs,noRef,SU.QeO];rfl) rfl ?_;have hlen:=SU.QhE h;have b:=SU.QhF h;have a:(plnC p)[147]?=some (.fsl (u8s p.X) p.xn 4):=SU.Qer h (k:=0);show wS _ _ _ _ _ (argT 0 [.agg (plnC p)]) _ _;generalize plnC p=C at*;have e:decide ((p.xn:Int)<=4)=decide (p.xn<=4):=decide_eq_decide.2 (by omega);unfold s25;refine Zcy (ZcB hlen b a e) ?_;exact⟨.inr trivial,_,rfl,rfl⟩
end Go.AM.SO
namespace Go.AM.SO
open Go.Proofs Go.AM.SD Go.AM.SE
theorem Qix(x:Aut):autB x x=true:=by simp[autB]
end Go.AM.SO
namespace Go.AM
variable{P:Program}
theorem RSpec.of_wS{b N n:Nat}{T:Tmps}{c:List Nat}{a body:SCode}{args:List AV}{h h':Heap}{v:AV}(f:(noLoop a&&noLoop body)=true)(j:h.get b=some (.loop 0 N T c (.s a) (.s body) .ready))(i:Nat.blt b 1099511627775=true)(hlen:args.length=c.length)(k:(c.all fun p=>Nat.blt p N)=true)(hw:wS P ⟨N,0⟩ a [] n (upsT T c args) h fun e T1 h1 g=>e=.normal/\h1.get b=some (.loop 0 N T c (.s a) (.s body) .ready)/\wS P ⟨N,0⟩ body [] g T1 (h1.set b (.loop 0 N T c (.s a) (.s body) .busy)) fun e T2 d _=>d.get b=some (.loop 0 N T c (.s a) (.s body) .busy)/\v=.bool e.isNormal/\∀x,(d.set b (.loop 0 N T c (.s a) (.s body) (stOf e))).get x=h'.get x):RSpec P b 0 args h v h':=by simp only[Zab]at f;refine RSpec.of_W j (by simpa[lim]using i) hlen (fun p hp=>by simp_all) ((wpC.toW1 f.1 hw).mono ?_);rintro e B⟨g,rfl,h1,d⟩;refine⟨rfl,N,T,c,.s a,.s body,h1,(wpC.toW1 f.2 d).mono ?_⟩;rintro e C⟨q,o,m,l⟩;grind
section
variable{k m n:Nat}{T:Tmps}{h:Heap}{Q:QC}{fs:List Fr}
theorem Qd7{g:Opd}{j:List Nat}{a body:SCode}{f b n':Nat}{first cap:List AV}{v:AV}{p:Heap}{T' T2:Tmps}{L:HL}{N2:Nat}{l:List Nat}{o c:LCode}{st:LSt}(r:Rec m T' L T h)(s:ev T' g=.fn f first cap)(q:(hp L).get b=none)(t:Nat.blt b 1099511627775=true)(u:HSpec P f (first++[.yld b 0]++cap) ((hp L).set b (.loop 0 k T' j (.s a) (.s body) .ready)) v p)(i:p.get b=some (.loop 0 N2 T2 l o c st))(d:leftQ (fun e B=>wX P ⟨k,m⟩ e fs n' B.T B.h Q) ⟨T',p.set b (.dead 0)⟩ st):wS P ⟨k,m⟩ (.rfunc g j k a body) fs n T h Q:=by show W2 P ⟨k,m⟩ (.rfunc g j k a body) (fun e B=>∃n,ct P ⟨k,m⟩ fs Q e B.T B.h n) ⟨T,h⟩;refine W2.recL r (W2.of_W (W.rfunc (las:=.s a) (lbody:=.s body) rfl rfl s q (by simpa[lim]using t) u i ?_));cases st with|ready=>exact⟨n',d⟩|busy=>exact d|done e=>exact⟨d.1,n',d.2⟩
theorem cy{N:NM}{b g:Nat}{args:List AV}{v:AV}{h1:Heap}{d:Option Nat}{ops:List SOper}{dead:List Nat}(a:RSpec P b g args h v h1)(c:wR P N ops dead fs (n+1) (putD T d v) h1 Q):wCall P N .heap (.yld b g) args d ops dead fs n T h Q:=⟨_,_,a,c⟩
def loopI(P:Program)(k m:Nat){α:Type}(env:α->Tmps)(H:α->Heap)(I:α->Prop)(μ:α->Nat)(a:α)(fs:List Fr)(Q:QC):QC:=fun e T h n=>match e with|.normal=>∃c,μ c<μ a/\I c/\Sub (env c) T/\∀b,h.get b=(H c).get b|e=>wX P ⟨k,m⟩ e fs n T h Q
section
variable{α:Type}{env:α->Tmps}{H:α->Heap}{I:α->Prop}{μ:α->Nat}{a:α}
theorem Qqv:loopI P k m env H I μ a fs Q .normal T h n=∃c,μ c<μ a/\I c/\Sub (env c) T/\∀b,h.get b=(H c).get b:=rfl
theorem QqH{i:Nat}:loopI P k m env H I μ a fs Q (.exit i) T h n=wX P ⟨k,m⟩ (.exit i) fs n T h Q:=rfl
theorem QqK:loopI P k m env H I μ a fs Q .ret T h n=wX P ⟨k,m⟩ .ret fs n T h Q:=rfl
end
end
end Go.AM
namespace Go.AM.SO
open Go.Proofs Go.AM.SD Go.AM.SE
theorem clone41(l:List Nat)(a:l.length<=1000000):PSpec Tryz.prog 41 [sliN l] (sliN l):=by
 have h:=(clone56 l a).freeze (b:=83) (g:=0) (ds:=ints (nz l)) gg (by
  have:∀m:List Int,flatVs (ints m)=true:=fun m=>by induction m with|nil=>rfl|cons x m b=>simp only[ints,ZaW,flatVs,Zab];exact⟨rfl,b⟩
  exact this _) (by simp[ints]) rfl;have e:(ints (nz l)).take (l.length*1)=ints (nz l):=by rw[ZaD (by simp[ints])]
 rw[e]at h;exact⟨by rw[noRefs,Qab];rfl,Qab _,_,h⟩
end Go.AM.SO
namespace Go.AM.TV
open Go.Proofs
set_option maxHeartbeats 4000000
noncomputable section
def cf:YA.Cf:={}
def s75:SFn:=by
 refine(?f:YA.Yt Tryz.prog cf 75 [[2],[3],[0,4],[0,4,5,6,7]]) ?s ?h;case h=>exact YA.rr
 exact fun s _=>s
theorem ok75:okFn Tryz.prog 75 s75=true:=by kernel_rfl
end
end Go.AM.TV
namespace Go.AM.SO
open Go.Proofs Go.AM.SD Go.AM.SE
theorem _root_.Go.AM.au17{p:Prop}(h:p:=by repeat'(first|exact Zb9|(refine Zb1 ?_;first|rfl|(simp only[noRef,noRefs,Qah,Zak,Zac,Zag,Qaa,Qam,Qab,QaE,Qad,SU.Qaf];done))|exact RnM.keyM rfl|exact Zcf|exact(True.intro:RnM _ _ _ [] [])|refine Zcg ?_ ?_|(refine Zb0 ?_;first|rfl|(simp only[noRef,noRefs,Qah,Zak,Zac,Zag,Qaa,Qam,Qab,QaE,Qad,SU.Qaf];done))|exact Rn.x1 rfl rfl|exact Rn.x2 rfl rfl|exact Rn.x3 rfl rfl|exact Rn.x4 rfl rfl|exact Rn.x5 rfl|exact Rn.x6 rfl|exact Rn.x7 rfl|refine Zcb rfl rfl ?_|refine Zca rfl rfl rfl ?_ ?_|refine Zcc rfl rfl rfl ?_ ?_|refine Zcd rfl rfl ?_ ?_|refine Zce rfl rfl ?_ ?_)):p:=h
theorem _root_.Go.AM.au18{p:Prop}(h:p:=by repeat(first|exact Zb7|(refine Zb8 ?_ ?_;·(first|exact Rn.any|exact Rn.x1 rfl rfl|exact Rn.x2 rfl rfl|exact Rn.x3 rfl rfl|exact Rn.x4 rfl rfl|exact Rn.x5 rfl|exact Rn.x6 rfl|exact Rn.x7 rfl|(refine Rn.slot ?_ ?_;(first|rfl|(rw[ZaS];rfl));(first|rfl|(simp only[noRef,noRefs,Qah,Zak,Zac,Zag,Qaa,Qam,Qab,QaE,Qad,SU.Qaf];done)))|(refine Rn.fn ?_ ?_<;>(repeat'(first|exact Zcf|refine Zcg ?_ ?_|exact Zb0 rfl|exact Rn.x6 rfl|exact Rn.x2 rfl rfl|exact Rn.x5 rfl|exact Rn.x1 rfl rfl))))))):p:=h
theorem clone75H(l:List Ed)(d:l.length<=1000000):HSpec Tryz.prog 75 [egsN l] .e (.sl 83 0 0 l.length 3) (hp [(83,.cells 0 (l.flatMap edC))]):=by cases l with|nil=>
 refine HSpec.empty ?_ ?_;·refine Zcm 100 TV.ok75 rfl ?_;have b:aEqN false .nilsl=.ret (.bool true):=rfl;unfold TV.s75;refine Zcy b ?_;exact⟨.inr trivial,_,rfl,⟨[(83,.nil)],rfl,au0,au17,au18⟩⟩
 refine Zcm 100 TV.ok75 rfl ?_;have b:aEqN false .nsl=.ret (.bool false):=rfl;unfold TV.s75;refine Zcy (Zcz b @Qck) ?_;exact⟨.inr trivial,_,rfl,⟨[(83,.blk 103 1)],rfl,au0,au17,au18⟩⟩|cons x l=>refine Zcm 100 TV.ok75 rfl ?_;have b:aEqN false (egsN (x::l))=.ret (.bool false):=rfl;have a:((x::l).flatMap edC).all AV.one=true:=QbK (fun _=>rfl) _;have c:((x::l).flatMap edC).length=(x::l).length*3:=Qa8 (k:=3) (fun _=>rfl) _;generalize x::l=q at*;unfold TV.s75;refine Zcy (ZcA b a c) ?_;refine⟨.inr trivial,_,rfl,?_⟩;refine⟨[(83,.blk 103 1)],rfl,au0,?_,au18⟩;exact Zca rfl rfl gg (Zb1 (Qad _)) Zb9
theorem clone75P(l:List Ed)(b:l.length<=1000000):PSpec Tryz.prog 75 [egsN l] (egsN l):=by
 have a:(l.flatMap edC).length=l.length*3:=Qa8 (k:=3) (fun _=>rfl) _;have h:=(clone75H l b).freeze (b:=83) (g:=0) (ds:=l.flatMap edC) gg (by induction l with|nil=>rfl|cons x l c=>rw[Zay];have:=c (by simp at b;omega) (Qa8 (k:=3) (fun _=>rfl) _);simpa[edC,flatVs,flatV]using this) (by rw[a];exact ZaG _) rfl;have e:(l.flatMap edC).take (l.length*3)=l.flatMap edC:=by rw[ZaD (by rw[a];exact ZaG _)]
 rw[e]at h;exact⟨by rw[noRefs,QaE];rfl,QaE _,_,h⟩
theorem chosen142(ch:UInt8)(l:List (Nat×Aut))(P:List Nat)(y:l.length<=1000)(s:P.length<=1000)(b:∀i∈P,i<l.length)(u:∀x∈l,x.2.al.length<=1000/\x.2.ms.length<=1000/\x.2.es.length<=1000):PSpec Tryz.prog 142 [its ch l,sliN P] (its ch (pk P l)):=by
 have v:=SU.Qaf (ch:=ch) l;refine Zb2 64 UA.ok142 rfl (by simp only[noRefs,noRef,Qaa];rw[SU.Qaf];rfl) (by simp only[noRefs,noRef];rw[SU.Qaf]) ?_;have w:=SU.QbF (ch:=ch) l;unfold UA.s142;refine Zcx ?_;refine Qaj 100 (fun i:Nat=>[(0,its ch l),(5,.sl 76 0 0 i 5),(9,sliN P),(10,.int .i64 P.length),(11,.int .i64 i)]) (fun i=>[(76,.cells 0 ((pk (P.take i) l).flatMap (itC ch)))]) (fun i=>i<=P.length) (fun i=>P.length-i) 0 0 160 (fun _:Unit=>[(5,its ch (pk P l))]) (fun _=>[]) (fun _=>True) ?_ (Zah _) ?_ ?_;·refine⟨[(76,.nil)],rfl,au0,?_,au18⟩;exact Zcb rfl rfl Zb9
 ·rintro i hi;by_cases a:i<P.length
  ·obtain⟨q,p⟩:=Qac a;have c:=b q (Zae p);obtain⟨x,m⟩:=Qac c;have f:=Qes p m;have h:=SU.QdF (ch:=ch) m;have o:5<=((l.flatMap (itC ch)).drop (q*5)).length:=by rw[h];simp
   have r:(q:Int)<l.length:=by omega
   have k:(pk (P.take i) l).length=i:=by rw[Qbz fun j t=>b j (ZaR t),Zar];omega
   have g:=SU.QbF (ch:=ch) (pk (P.take i) l);rw[k]at g;obtain⟨s1,s2,z⟩:=u x (Zae m);refine Zcy (ZcC a (QaP p) h o c) ?_;refine cp (clone41 x.2.al (by omega)) ?_;refine Zcx ?_;refine cp (clone41 x.2.ms (by omega)) ?_;refine Zcx ?_;refine cp (clone75P x.2.es (by omega)) ?_;refine Zcy g ?_;refine⟨i+1,by omega,by omega,?_⟩;rw[f,Zaq];refine⟨[(76,.blk 76 1)],rfl,au0,?_,au18⟩;exact Zca rfl rfl gg (Zb1 (SU.QaB (SU.Qaf _) (by simp only[Zay,Zbq,Zax,itC,noRefs,noRef,Qaa,Qad];rfl))) Zb9
  have e:i=P.length:=by omega
  subst e;have d:=Qbz b;have n:=SU.QbF (ch:=ch) (pk P l);refine Zcu a ?_;refine⟨(),?_⟩;exact⟨[],rfl,Zb6,Zb9,Zb8 (Zch (b:=76) (g:=0) gg rfl rfl d (by rw[n,d]) (Zb1 (SU.Qaf _))) Zb7⟩
 rintro _ _;refine Zcx ?_;exact⟨.inr trivial,_,rfl,Zb0 (by simp only[noRef,noRefs];rw[SU.Qaf])⟩
end Go.AM.SO
namespace Go.AM.SO
open Go.Proofs Go.AM.SD Go.AM.SE
theorem clone141(e:Nat->Evt):PSpec Tryz.prog 141 [evsV e] (evsV e):=by
 have d:noRefs (evsC e)=true:=rfl;have h:HSpec Tryz.prog 141 [evsV e] .e (.sl 83 0 0 5 5) (hp [(83,.cells 0 (evsC e))]):=by refine Zcm 100 UA.ok141 rfl ?_;have c:aEqN false (evsV e)=.ret (.bool false):=rfl;have a:(evsC e).all AV.one=true:=rfl;have b:(evsC e).length=25:=rfl;show wS _ _ _ _ _ (argT 0 [.fsl (evsC e) 5 5]) _ _;replace c:aEqN false (.fsl (evsC e) 5 5)=.ret (.bool false):=rfl;generalize evsC e=C at*;unfold UA.s141;refine Zcy (ZcA c a b) ?_;refine⟨.inr trivial,_,rfl,?_⟩;refine⟨[(83,.blk 103 1)],rfl,au0,?_,au9⟩;exact Zca rfl rfl gg (Zb1 d) Zb9
 have h:=h.freeze (b:=83) (g:=0) (ds:=evsC e) gg rfl (ZaG _) rfl;exact⟨rfl,rfl,_,h⟩
theorem up59(n:Nat)(c:n<=1000):PSpec Tryz.prog 59 [.int .i64 (n:Int)] (sliN (List.range n)):=by
 refine Zb2 64 UA.ok59 rfl rfl (Qab _) ?_;unfold UA.s59;refine Zcx ?_;refine Qaj 100 (fun i:Nat=>[(3,.sl 76 0 0 i 1),(5,.int .i64 (n:Int)),(6,.int .i64 i)]) (fun i=>[(76,.cells 0 (ints (nz (List.range i))))]) (fun i=>i<=n) (fun i=>n-i) 0 0 160 (fun _:Unit=>[(3,sliN (List.range n))]) (fun _=>[]) (fun _=>True) ?_ (Zah _) ?_ ?_;·refine⟨[(76,.nil)],rfl,au0,?_,au9⟩;exact Zcb rfl rfl Zb9
 ·rintro i hi;by_cases a:i<n
  ·have b:(ints (nz (List.range i))).length=i:=by simp[ints]
   refine Zcy (Zcz a b) ?_;refine⟨i+1,by omega,by omega,?_⟩;rw[ZaP,QaL,QaA];refine⟨[(76,.blk 76 1)],rfl,au0,?_,au9⟩;exact Zca rfl rfl gg (Zb1 (SU.QaB (Qaa _) rfl)) Zb9
  have e:i=n:=by omega
  subst e;refine Zcy a ?_;refine⟨(),?_⟩;exact⟨[],rfl,Zb6,Zb9,Zb8 (Zch (b:=76) (g:=0) gg rfl rfl (by simp) (by simp[ints]) (Zb1 (Qaa _))) Zb7⟩
 rintro _ _;refine Zcx ?_;exact⟨.inr trivial,_,rfl,Zb0 (Qab _)⟩
theorem index143(P:List Nat)(q1 q2 a:AV)(t:Nat)(m:Bool)(c:P.Pairwise (·<=·))(g:P.length<=1000)(f:noRefs [q1,q2,a]=true):HSpec Tryz.prog 143 [.int .i64 (t:Int),.ptr 50 0 0,.ptr 51 0 0] (hp [(50,.cells 0 [sliN P,q1,q2,a]),(51,.cells 0 [.bool m])]) (.int .i64 (lbN P t:Int)) (hp [(50,.cells 0 [sliN P,q1,q2,a]),(51,.cells 0 [.bool (m||!P.contains t)])]):=by
 have d:=find57 P t c (by omega);refine HSpec.Qfn (m:=52) 100 UA.ok143 rfl rfl rfl ?_;unfold UA.s143;refine Zcx ?_;refine cp d ?_;have b:noRefs [sliN P,q1,q2,a]=true:=by rw[noRefs,Qab,f];rfl
 cases m;·refine Zcx ?_;refine⟨.inr trivial,_,rfl,rfl,?_⟩;refine⟨[(50,.nil),(51,.nil)],rfl,au0,?_,au9⟩;exact Zcd rfl gg (Zb1 b) (Zcd rfl gg (Zb1 rfl) Zb9)
 refine Zcx ?_;refine⟨.inr trivial,_,rfl,rfl,?_⟩;refine⟨[(50,.nil),(51,.nil)],rfl,au0,?_,au9⟩;exact Zcd rfl gg (Zb1 b) (Zcd rfl gg (Zb1 rfl) Zb9)
end Go.AM.SO
namespace Go.AM.UB
open Go.Proofs
set_option maxHeartbeats 4000000
noncomputable section
def cf:YA.Cf:={most:=.pure,always:=[148,149].map fun k=>(k,.heap)}
def s57:SFn:=by
 refine(?f:YA.Yt Tryz.prog cf 57 [[0,1,5],[24,25],[26],[2,3,6,27,28,29],[5,6,27,30,31,32,33,34,35,36,37,38,39,40,41,42,43,44,45,46,47,48,49,50,51,52,53],[],[57,58,59],[8,60,61,62,63,64],[65],[2,3,54,55,56,9,66,67,68],[5,9,66,69],[54,55,56,70,71,72,73,74,75,76,77,78,79,80,81,82,83],[],[84],[85],[],[89,90,91],[92,93,94,95,96,97,98],[14,99,100,101,102,103],[],[107,108,109],[17,110,111,112,113,114,115,116,117,118,119,120,121],[122],[15,104,105,106,123,124,125,126,127,128],[129],[3,86,87,88,130],[],[134,135,136],[137,138,139,140,141,142,143,144,145,146,147,148,149],[19,150,151,152,153,154],[],[158,159,160],[22,161,162,163,164,165,166,167,168,169,170,171,172],[173],[20,155,156,157,174,175,176,177,178,179],[180],[2,11,12,131,132,133],[10,181,182],[5,181,183,184],[185],[10,23,186,187,188],[10,23,186,189]] [(30,[(2,14),(7,14),(12,14)]),(20,[(1,5),(5,7),(1,9)]),(9,[(1,5),(5,7),(1,9)])]) ?s ?h;case h=>exact YA.rr
 exact fun s _=>s
def s58:SFn:=by
 refine(?f:YA.Yt Tryz.prog cf 58 [[0,1,5],[22,23,24],[7,8,9,10],[26,27,28,29,30,25,31,32,33],[35,36,37,38,39,34,40,41,42],[44,45,46,47,48,43,49,50],[2,52,53,54,55,56,51,57,58],[7,8,9,10,59,60,61,62],[],[66,67,68],[69],[3,6,11,12,63,64,65,14,70,71,72],[5,14,70,73],[11,63,64,65],[],[77,78,79],[80,81,82,83],[84,85],[],[88,89],[90,91,92,93,94,95,96,97,98,99,100,101,102,103],[17,104,105,106,107,108,109],[3,6,12,74,75,76,16,86,87,110,111],[5,110,112],[16,86,87,113,114,115,116,117,118],[119],[12,74,75,76],[],[123,124,125],[126,127,128,129],[130,131],[],[134,135],[136,137,138,139,140,141,142,143,144,145,146,147,148,149],[20,150,151,152,153,154,155],[3,6,120,121,122,19,132,133,156,157],[5,156,158],[19,132,133,159,160,161,162,163,164],[165],[3,120,121,122,166,167],[168],[6,21,169,170,171],[6,21,169,172]]) ?s ?h;case h=>exact YA.rr
 exact fun s _=>s
theorem ok57:okFn Tryz.prog 57 s57=true:=by kernel_rfl
theorem ok58:okFn Tryz.prog 58 s58=true:=by kernel_rfl
end
end Go.AM.UB
namespace Go.AM
variable{P:Program}
def tightL(L:List Nat)(f:FP):Prop:=f.all=false/\∀b,b∈f.R\/b∈f.W->b∈L
def wpRL(P:Program)(z:Nat)(L:List Nat):Nat->List SOper->Tmps->Heap->(Tmps->Heap->Nat->Prop)->Prop|n,[],T,h,K=>K T h n|n,s::r,T,h,K=>∃v h1 f,StepV P n s T h v h1 f/\(n=z->tightL L f)/\wpRL P z L (n+1) r (putD T s.dst v) h1 K
theorem QiD{z:Nat}{L:List Nat}:∀{r:List SOper}{n:Nat}{T:Tmps}{h:Heap}{K:Tmps->Heap->Nat->Prop},z<n->wpR P n r T h K->wpRL P z L n r T h K|[],n,T,h,K,_,b=>b|s::r,n,T,h,K,d,⟨v,h1,f,a,c⟩=>⟨v,h1,f,a,fun e=>by omega,QiD (by omega) c⟩
theorem Qpx{s:SOper}{L:List Nat}{K:Tmps->Heap->Nat->Prop}:∀(k:Nat)(r:List SOper)(n:Nat)(T:Tmps)(h:Heap),r[k]?=some s->wpR P n (r.take k) T h (fun T1 h1 d=>∃v a f,StepV P d s T1 h1 v a f/\tightL L f/\wpR P (d+1) (r.drop (k+1)) (putD T1 s.dst v) a K)->wpRL P (n+k) L n r T h K:=by intro k;induction k with
 |zero=>intro r n T h e hw;cases r with|nil=>cases e|cons t r=>rw[Za9,Zaa]at e;subst e;rw[List.take_zero]at hw;simp only[wpR]at hw;obtain⟨v,a,f,b,c,g⟩:=hw;rw[Za0,Za2]at g;exact⟨v,a,f,b,fun _=>c,QiD (by omega) g⟩
 |succ k i=>intro r n T h e hw;cases r with|nil=>cases e|cons t r=>rw[ZaN]at hw;simp only[wpR]at hw;obtain⟨v,h1,f,b,c⟩:=hw;refine⟨v,h1,f,b,fun e=>by omega,?_⟩;rw[show n+(k+1)=n+1+k by omega];exact i r (n+1) _ _ (by simpa using e) c
theorem Qkb{z:Nat}{L:List Nat}:∀{r:List SOper}{n:Nat}{T:Tmps}{h:Heap}{K:Tmps->Heap->Nat->Prop},wpRL P z L n r T h K->∃T' h' n',K T' h' n'/\∀d,(∀s∈r,s.dst≠some d)->lk T' d=lk T d|[],n,T,h,K,a=>⟨T,h,n,a,fun _ _=>rfl⟩|s::r,n,T,h,K,⟨v,h1,f,g,_,b⟩=>by obtain⟨T',h',n',a,he⟩:=Qkb b;refine⟨T',h',n',a,fun d c=>?_⟩;simp_all[Qbg]
def touchL(z:Nat)(L:List Nat)(i:Nat)(ax:Opd->Option (List Nat))(s:SOp):Option (List Nat):=bif Nat.beq i z then some L else touch2 i ax s
def touchesL(z:Nat)(L:List Nat)(C:Claims)(n:Nat)(T:Tmps):List SOper->Abs->List (Option (List Nat))|[],_=>[]|s::r,A=>touchL z L n (absO T A) s.op::touchesL z L C (n+1) T r (match s.dst with|some d=>(d,absH C d (s.op.absV n (absO T A)))::A|none=>A)
theorem Qkc{T0:Tmps}{C:Claims}{z:Nat}{L:List Nat}:∀{r:List SOper}{n:Nat}{A:Abs}{T:Tmps}{h:Heap}{K:Tmps->Heap->Nat->Prop}(hA:AbsOK T0 A T)(K':List FP->Tmps->Heap->Nat->Prop)(l:∀T h n,K T h n->∀d bs,clm C d=some bs->Pts (lk T d) bs)(a:ssa C r=true),(∀fs T h n',fs.length=r.length->(∀(j:Nat)i,(touchesL z L C n T0 r A).getD j none=some i->(fs.getD j ⟨false,[],[]⟩).all=false/\∀b,b∈(fs.getD j ⟨false,[],[]⟩).R\/b∈(fs.getD j ⟨false,[],[]⟩).W->b∈i)->K T h n'->K' fs T h n')->wpRL P z L n r T h K->wpRF P n r T h K'
 |[],n,A,T,h,K,hA,K',l,a,o,hw=>o [] T h n rfl (fun j i c=>by simp_all) hw|s::r,n,A,T,h,K,hA,K',l,a,o,hw=>by
  obtain⟨v,h1,f,u,y,w⟩:=hw;simp only[ssa,Zab]at a;obtain⟨g,m⟩:=a;refine⟨v,h1,f,u,?_⟩;have t:AbsOK T0 (match s.dst with|some d=>(d,absH C d (s.op.absV n (absO T0 A)))::A|none=>A) (putD T s.dst v):=by cases e:s.dst with|none=>exact hA|some d=>
   refine AbsOK.up hA fun bs k=>?_;unfold absH at k;split at k
   ·rename_i F hc;cases k;obtain⟨T',E,n',q,he⟩:=Qkb w;have x:=l T' E n' q d _ hc;rw[he d ?_,Qbg,if_pos e]at x;·exact x
    intro G p;rw[e]at g;simp only[hc,Option.isNone_some,Bool.false_or,ZaC]at g;have:=g G p;intro H;simp_all
   exact Qdt hA.opd k u
  refine Qkc t (fun fs T h n=>K' (f::fs) T h n) l m (fun fs T h n' B hf q=>?_) w;refine o (f::fs) T h n' (by simp[B]) (fun j i c=>?_) q;cases j with
  |zero=>simp only[touchesL,List.getD_cons_zero]at c⊢;unfold touchL at c;cases e:Nat.beq n z with|true=>rw[e]at c;simp only[cond_true,Zaa]at c;subst c;exact y (by simpa using e)|false=>rw[e]at c;exact Qd1 hA.opd c u
  |succ j=>simp only[touchesL,List.getD_cons_succ]at c⊢;exact hf j i c
theorem FStep.two{f a b:Nat}{g o c:Blk}{args:List AV}{v:AV}{h:Heap}(A:HSpec P f args (hp [(a,g),(b,o)]) v (hp [(a,g),(b,c)]))(s:inBs [b,a] args=true)(t:blkIn [b,a] (some g)=true)(r:blkIn [b,a] (some o)=true)(u:h.get a=some g)(z:h.get b=some o)(x:a≠b)(q:Nat.blt a 1099511627775=true)(y:Nat.blt b 1099511627775=true):FStep P f args h v ((h.set b c).set a g) ⟨false,[b,a],[b]⟩:=by
 have l:a<1099511627775:=by simp_all
 have m:b<1099511627775:=by simp_all
 have k:(hp [(a,g),(b,c)]).get a=some g:=by show((Tr.e.set b c).set a g).get a=_;rw[ZbU _ l];simp
 have n:(hp [(a,g),(b,c)]).get b=some c:=by show((Tr.e.set b c).set a g).get b=_;rw[ZbU _ l,if_neg (Ne.symm x),ZbU _ m];simp
 have w:∀j,j≠a->j≠b->(hp [(a,g),(b,c)]).get j=none:=fun j h1 p=>by show((Tr.e.set b c).set a g).get j=_;rw[ZbU _ l,if_neg h1,ZbU _ m,if_neg p];rfl
 refine⟨[b,a],[b,a],[b],hp [(a,g),(b,c)],?_,?_,s,?_,?_,?_,?_,fun _ h=>h,?_,?_,?_,?_,rfl⟩;·simp[allLim,lim];omega
 ·simp[allLim,lim];omega
 ·intro j d;simp only[ZaF,Zbj,or_false]at d;rcases d with rfl|rfl;·rw[z];exact r
  rw[u];exact t
 ·have e:pick h [b,a]=hp [(a,g),(b,o)]:=by simp only[pick,over,z,u];rfl
  rw[e];exact A
 ·intro j d;simp only[ZaF,Zbj,or_false]at d;rcases d with rfl|rfl;·rw[n];simp
  rw[k];simp
 ·intro j d;by_cases h1:j=a;·simp[h1]
  by_cases p:j=b;·simp[p]
  exact absurd (w j h1 p) d
 ·intro j d i;exact absurd d i
 ·intro j d i;simp only[ZaF,Zbj,or_false]at d i;rcases d with rfl|rfl;·exact absurd rfl i
  rw[k,u]
 ·intro j d;simp only[ZaF,Zbj,or_false]at d⊢;exact .inl d
 simp only[over,n,k]
def FrmAt(P:Program)(N:NM)(x:Opd)(ag:List Opd)(d:Option Nat)(L:List Nat)(r:List SOper)(n:Nat)(T:Tmps)(h:Heap)(Q:QC):Prop:=∃f a c v h1 fp,ev T x=.fn f a c/\FStep P f (a++evs T ag++c) h v h1 fp/\tightL L fp/\wR P N r [] [] (n+1) (putD T d v) h1 Q
theorem Qhk(C:Claims)(L:List Nat)(k:Nat){x:Opd}{ag:List Opd}{d:Option Nat}{N:NM}{ops:List SOper}{p:Nat×Nat}{t:List (Nat×Nat)}{dead:List Nat}{fs:List Fr}{n:Nat}{T:Tmps}{h:Heap}{Q:QC}{af:List Nat}(i:ops[k]?=some ⟨d,.call .heap x ag,af,none⟩)(g:ssa C ops=true)(hp:pairsOK (touchesL (n+k) L C n T ops []) (p::t)=true)(hw:wR P N (ops.take k) [] [] n T h fun e T h n=>FrmAt P N x ag d L (ops.drop (k+1)) n T h fun e T h n=>Clms T C/\wX P N .normal fs n (rm T dead) h Q):wS P N (.region ops (p::t) dead) fs n T h Q:=by
 have rm0:∀T:Tmps,rm T []=T:=by intro T;induction T with|nil=>rfl|cons p T o=>obtain⟨j,v⟩:=p;simp[rm,o]
 refine Qkc (C:=C) (z:=n+k) (L:=L) (K:=fun T h n=>Clms T C/\wX P N .normal fs n (rm T dead) h Q) AbsOK.nil _ (fun T h n i d z hc=>i.1.get d z hc) g (fun O T h Z hl hf i=>⟨?_,i.2⟩) ?_
 ·rw[ZaC];intro q H;have:=ZaC.1 hp q H;split at this
  ·rename_i a b G J;obtain⟨S,f2⟩:=hf _ _ G;obtain⟨U,X⟩:=hf _ _ J;have hd:∀x y,x∈a->y∈b->x≠y:=by grind
   have Y:∀xs m:List Nat,(∀x∈xs,∀y∈m,x≠y)->disj xs m=true:=by intro xs m w;unfold disj;grind
   grind[FP.apart]
  cases this
 refine Qpx k ops n T h i ?_;have l:wpR P n (ops.take k) T h fun T h n=>FrmAt P N x ag d L (ops.drop (k+1)) n (rm T []) h fun e T h n=>Clms T C/\wX P N .normal fs n (rm T dead) h Q:=hw;simp only[rm0]at l;have mono:∀{r:List SOper}{n:Nat}{T:Tmps}{h:Heap}{K K':Tmps->Heap->Nat->Prop},(∀T h n,K T h n->K' T h n)->wpR P n r T h K->wpR P n r T h K':=by intro r;induction r with|nil=>intro n T h K K' hi hw;exact hi _ _ _ hw|cons s r o=>intro n T h K K' hi hw;obtain⟨v,h1,f,B,M⟩:=hw;exact⟨v,h1,f,B,o hi M⟩
 refine mono (fun T1 h1 R w=>?_) l;obtain⟨f,a,c,v,u,fp,V,A,I,F⟩:=w;refine⟨v,u,fp,?_,I,?_⟩;·refine⟨.call .heap f (a++evs T1 ag++c),h1,?_,.inr (.inr (.inr A))⟩;simp_all[aop,aCall,HM.run]
 have E:wpR P (R+1) (ops.drop (k+1)) (putD T1 d v) u fun T h n=>Clms (rm T []) C/\wX P N .normal fs n (rm (rm T []) dead) h Q:=F;simp_all
end Go.AM
namespace Go.AM.SO
open Go.Proofs Go.AM.SD Go.AM.SE
theorem QgB{B:List Nat}(l:List Nat):inB B (sliN l)=true:=by show inBs B (ints (nz l))=true;generalize nz l=m;induction m with|nil=>rfl|cons x m a=>show(inB B (.int .i64 x)&&inBs B (ints m))=true;rw[a];rfl
theorem index143F{P:List Nat}{q1 q2 a:AV}{m:Bool}{h:Heap}(t:Nat)(i:P.Pairwise (·<=·))(g:P.length<=1000)(f:noRefs [q1,q2,a]=true)(c:inBs [51,50] [q1,q2,a]=true)(d:h.get 50=some (.cells 0 [sliN P,q1,q2,a]))(b:h.get 51=some (.cells 0 [.bool m])):FStep Tryz.prog 143 [.int .i64 (t:Int),.ptr 50 0 0,.ptr 51 0 0] h (.int .i64 (lbN P t:Int)) ((h.set 51 (.cells 0 [.bool (m||!P.contains t)])).set 50 (.cells 0 [sliN P,q1,q2,a])) ⟨false,[51,50],[51]⟩:=FStep.two (index143 P q1 q2 a t m i g f) rfl (by show inBs [51,50] (sliN P::[q1,q2,a])=true;rw[inBs,c,Zac];exact QgB _) rfl d b (by decide) rfl rfl
def newX(P:List Nat)(x:Nat×List (Nat×Nat)):Nat×List (Nat×Nat):=(x.1,x.2.map fun l=>(lbN P l.1,l.2))
def newK(P:List Nat)(x:List (Nat×Int)×Int):List (Nat×Int)×Int:=(x.1.map fun t=>(lbN P t.1,t.2),x.2)
def missX(P:List Nat)(x:Nat×List (Nat×Nat)):Bool:=x.2.any fun l=>!P.contains l.1
def missK(P:List Nat)(x:List (Nat×Int)×Int):Bool:=x.1.any fun t=>!P.contains t.1
def selC(c:Cel)(P1 P2 P3 P4:List Nat):Cel:=⟨c.ev,pk P1 c.cs,pk P2 c.rs,(pk P3 c.xs).map (newX P1),(pk P4 c.ks).map (newK P1)⟩
def selM(c:Cel)(P1 P3 P4:List Nat):Bool:=(pk P3 c.xs).any (missX P1)||(pk P4 c.ks).any (missK P1)
theorem Qfu{a:Aut}(h:WfI a):a.al.length<=1000/\a.ms.length<=1000/\a.es.length<=1000:=⟨by have:=Qhh h.wf;omega,by have:=QaN a.n a.ms h.wf.nd h.wf.msn;have:=h.n3;omega,by have:=h.el;omega⟩
abbrev celN0:AV:=.agg [.nilsl,.nilsl,.nilsl,.nilsl,.nilsl]
theorem select57(c:Cel)(h:WfCel c)(P1 P2 P3 P4:List Nat)(E:Int)(s1:setErr (nz P1) c.cs.length=0)(s2:setErr (nz P2) c.rs.length=0)(s3:setErr (nz P3) c.xs.length=0)(s4:setErr (nz P4) c.ks.length=0)(hl1:P1.length<=4)(hl2:P2.length<=4)(hl3:P3.length<=4)(hl4:P4.length<=4)(hE:selM c P1 P3 P4=false->PSpec Tryz.prog 21 [celV (selC c P1 P2 P3 P4)] (.int .i64 E)):PSpec Tryz.prog 57 [celV c,.agg [sliN P1,sliN P2,sliN P3,sliN P4]] (if selM c P1 P3 P4=true then .tup [celN0,.int .i64 13]else if E≠0 then .tup [celN0,.int .i64 E]else .tup [celV (selC c P1 P2 P3 P4),.int .i64 0]):=by
 have d:=Qcl c;refine Zb2 64 UB.ok57 rfl (by rw[noRefs,SU.Qa5];simp only[noRefs,noRef,Qaa];rfl) (by
  split;·rfl
  split;·rfl
  rw[noRef,noRefs,SU.Qa5];rfl) ?_;have hc3:=h.c3;have hr2:=h.r2;have hx2:=h.x2;have hk1:=h.k1;have hC:=check21 c h;have k1:=set38X (nz P1) c.cs.length (by simp;omega);have k2:=set38X (nz P2) c.rs.length (by simp;omega);have k3:=set38X (nz P3) c.xs.length (by simp;omega);have k4:=set38X (nz P4) c.ks.length (by simp;omega);rw[s1,QaO]at k1;rw[s2,QaO]at k2;rw[s3,QaO]at k3;rw[s4,QaO]at k4;have o1:=QaZ s1;have o2:=QaZ s2;have o3:=QaZ s3;have o4:=QaZ s4;unfold UB.s57;refine Zcx ?_;refine cp hC ?_;refine Zcx ?_;have a:noRefs [sliN P1,sliN P2,sliN P3,sliN P4]=true:=by simp only[noRefs,noRef,Qaa];rfl
 refine Qaj 140 (fun i:Nat=>[(2,.ptr 52 0 0),(3,.ptr 50 0 0),(4,.ptr 53 0 0),(54,.sl 57 0 0 4 2),(55,.int .i64 4),(56,.int .i64 i)]) (fun i=>[(50,.cells 0 [sliN P1,sliN P2,sliN P3,sliN P4]),(52,.cells 0 [evsV c.ev,its 99 c.cs,its 114 c.rs,exs c.xs,cos c.ks]),(53,.cells 0 [.nilsl,.nilsl,.nilsl,.nilsl,.nilsl]),(57,.cells 0 [sliN P1,.int .i64 c.cs.length,sliN P2,.int .i64 c.rs.length,sliN P3,.int .i64 c.xs.length,sliN P4,.int .i64 c.ks.length])]) (fun i=>i<=4) (fun i=>4-i) 0 0 240 (fun _:Unit=>[(2,.ptr 52 0 0),(3,.ptr 50 0 0),(4,.ptr 53 0 0)]) (fun _=>[(50,.cells 0 [sliN P1,sliN P2,sliN P3,sliN P4]),(52,.cells 0 [evsV c.ev,its 99 c.cs,its 114 c.rs,exs c.xs,cos c.ks]),(53,.cells 0 [.nilsl,.nilsl,.nilsl,.nilsl,.nilsl])]) (fun _=>True) ?_ (Zah _) ?_ ?_;·refine⟨[(50,.blk 65 0),(52,.blk 64 0),(53,.blk 66 0),(57,.blk 97 0)],rfl,au0,?_,au16⟩;exact Zca rfl rfl gg (Zb1 a) (Zca rfl rfl gg (Zb1 d) (Zca rfl rfl gg (Zb1 rfl) (Zca rfl rfl gg (Zb1 (by simp only[noRefs,noRef,Qaa];rfl)) Zb9)))
 ·rintro i hi;have S:i=0\/i=1\/i=2\/i=3\/i=4:=by omega
  rcases S with rfl|rfl|rfl|rfl|rfl;·refine Zcx ?_;refine cp k1 ?_;refine Zcx ?_;refine⟨1,by omega,by omega,?_⟩;refine⟨[(50,.blk 50 0),(52,.blk 52 0),(53,.blk 53 0),(57,.blk 57 0)],rfl,au0,?_,au16⟩;exact Zca rfl rfl gg (Zb1 a) (Zca rfl rfl gg (Zb1 d) (Zca rfl rfl gg (Zb1 rfl) (Zca rfl rfl gg (Zb1 (by simp only[noRefs,noRef,Qaa];rfl)) Zb9)))
  ·refine Zcx ?_;refine cp k2 ?_;refine Zcx ?_;refine⟨2,by omega,by omega,?_⟩;refine⟨[(50,.blk 50 0),(52,.blk 52 0),(53,.blk 53 0),(57,.blk 57 0)],rfl,au0,?_,au16⟩;exact Zca rfl rfl gg (Zb1 a) (Zca rfl rfl gg (Zb1 d) (Zca rfl rfl gg (Zb1 rfl) (Zca rfl rfl gg (Zb1 (by simp only[noRefs,noRef,Qaa];rfl)) Zb9)))
  ·refine Zcx ?_;refine cp k3 ?_;refine Zcx ?_;refine⟨3,by omega,by omega,?_⟩;refine⟨[(50,.blk 50 0),(52,.blk 52 0),(53,.blk 53 0),(57,.blk 57 0)],rfl,au0,?_,au16⟩;exact Zca rfl rfl gg (Zb1 a) (Zca rfl rfl gg (Zb1 d) (Zca rfl rfl gg (Zb1 rfl) (Zca rfl rfl gg (Zb1 (by simp only[noRefs,noRef,Qaa];rfl)) Zb9)))
  ·refine Zcx ?_;refine cp k4 ?_;refine Zcx ?_;refine⟨4,by omega,by omega,?_⟩;refine⟨[(50,.blk 50 0),(52,.blk 52 0),(53,.blk 53 0),(57,.blk 57 0)],rfl,au0,?_,au16⟩;exact Zca rfl rfl gg (Zb1 a) (Zca rfl rfl gg (Zb1 d) (Zca rfl rfl gg (Zb1 rfl) (Zca rfl rfl gg (Zb1 (by simp only[noRefs,noRef,Qaa];rfl)) Zb9)))
  refine Zcx ?_;refine⟨(),?_⟩;refine⟨[(50,.blk 50 0),(52,.blk 52 0),(53,.blk 53 0)],rfl,au0,?_,au16⟩;exact Zca rfl rfl gg (Zb1 a) (Zca rfl rfl gg (Zb1 d) (Zca rfl rfl gg (Zb1 rfl) Zb9))
 rintro _ _;have I:=Qcd o1;have H:=Qcd o2;have v:=Qcd o3;have u:=Qcd o4;have V:∀P:List Nat,(nz P).map Int.toNat=P:=fun P=>by unfold nz;rw[List.map_map];exact(ZaH fun x _=>by show((x:Int)).toNat=x;omega).trans (ZbL P)
 rw[V]at I H v u;have b1:=chosen142 99 c.cs P1 (by omega) (by omega) I (fun x B=>Qfu (h.ca x B));have b2:=chosen142 114 c.rs P2 (by omega) (by omega) H (fun x B=>Qfu (h.ra x B));refine Zcx ?_;refine Qhc [] rfl rfl ?_;refine Zcx ?_;refine cp (clone141 c.ev) ?_;refine Zcx ?_;refine cp b1 ?_;refine Zcx ?_;refine cp b2 ?_;refine Zcx ?_;refine⟨trivial,?_⟩;have Z:P1.Pairwise (·<=·):=by have:=o1.2;unfold nz at this;rw[Za8]at this;exact this.imp fun h=>by omega
 have U:noRefs [sliN P2,sliN P3,sliN P4]=true:=by simp only[noRefs,noRef,Qaa];rfl
 have hxi:=SU.Qbr c.xs;refine Qaj 300 (fun i:Nat=>[(2,.ptr 52 0 0),(3,.ptr 50 0 0),(4,.ptr 53 0 0),(10,.ptr 54 0 0),(11,.ptr 51 0 0),(12,.fn 143 [] [.ptr 50 0 0,.ptr 51 0 0]),(86,sliN P3),(87,.int .i64 P3.length),(88,.int .i64 i)]) (fun i=>[(50,.cells 0 [sliN P1,sliN P2,sliN P3,sliN P4]),(51,.cells 0 [.bool ((pk (P3.take i) c.xs).any (missX P1))]),(52,.cells 0 [evsV c.ev,its 99 c.cs,its 114 c.rs,exs c.xs,cos c.ks]),(53,.cells 0 [.nilsl,.nilsl,.nilsl,.nilsl,.nilsl]),(54,.cells 0 [evsV c.ev,its 99 (pk P1 c.cs),its 114 (pk P2 c.rs),.sl 76 0 0 i 2,.nilsl]),(76,.cells 0 (((pk (P3.take i) c.xs).map (newX P1)).flatMap exC))]) (fun i=>i<=P3.length) (fun i=>P3.length-i) 0 2 560 (fun _:Unit=>[(2,.ptr 52 0 0),(3,.ptr 50 0 0),(4,.ptr 53 0 0),(10,.ptr 54 0 0),(11,.ptr 51 0 0),(12,.fn 143 [] [.ptr 50 0 0,.ptr 51 0 0])]) (fun _=>[(50,.cells 0 [sliN P1,sliN P2,sliN P3,sliN P4]),(51,.cells 0 [.bool ((pk P3 c.xs).any (missX P1))]),(52,.cells 0 [evsV c.ev,its 99 c.cs,its 114 c.rs,exs c.xs,cos c.ks]),(53,.cells 0 [.nilsl,.nilsl,.nilsl,.nilsl,.nilsl]),(54,.cells 0 [evsV c.ev,its 99 (pk P1 c.cs),its 114 (pk P2 c.rs),exs ((pk P3 c.xs).map (newX P1)),.nilsl])]) (fun _=>True) ?_ (Zah _) ?_ ?_;·refine⟨[(50,.blk 50 0),(51,.blk 256 0),(52,.blk 52 0),(53,.blk 53 0),(54,.blk 254 0),(76,.nil)],rfl,au0,?_,au16⟩;exact Zca rfl rfl gg (Zb1 a) (Zca rfl rfl gg (Zb1 rfl) (Zca rfl rfl gg (Zb1 d) (Zca rfl rfl gg (Zb1 rfl) (Zca rfl rfl gg (Zcg (Zb0 rfl) (Zcg (Zb0 (by simp only[noRef];exact SU.Qaf _)) (Zcg (Zb0 (by simp only[noRef];exact SU.Qaf _)) (Zcg (Rn.x4 rfl rfl) (Zcg (Zb0 rfl) Zcf))))) (Zcb rfl rfl Zb9)))))
 ·rintro i hi;by_cases r:i<P3.length
  ·obtain⟨q,L⟩:=Qac r;have F:=v q (Zae L);obtain⟨x,B⟩:=Qac F;have n:=Qes L B;have G:=Qc4 B;have T:2<=((c.xs.flatMap exC).drop (q*2)).length:=by rw[G];simp
   refine Zcy (ZcC r (QaP L) G T F) ?_;have R:=Zae B;have hxl:x.2.length<=1000:=by have:=h.xlen R;omega
   have M:(pk (P3.take i) c.xs).length=i:=by rw[Qbz fun j hj=>v j (ZaR hj),Zar];omega
   have y:=SU.Qbr ((pk (P3.take i) c.xs).map (newX P1));rw[Zal,M]at y;have hD:(pk (P3.take (i+1)) c.xs).map (newX P1)=(pk (P3.take i) c.xs).map (newX P1)++[newX P1 x]:=by rw[n,ZaQ];rfl
   have hM:(pk (P3.take (i+1)) c.xs).any (missX P1)=((pk (P3.take i) c.xs).any (missX P1)||missX P1 x):=by rw[n,Zbv,ZbH,ZbP,ZbG]
   generalize(pk (P3.take i) c.xs).map (newX P1)=D at*;generalize(pk (P3.take i) c.xs).any (missX P1)=z at*;have p:=SU.Qar D;have hrow:noRefs [evsV c.ev,its 99 (pk P1 c.cs),its 114 (pk P2 c.rs)]=true:=by rw[noRefs,noRefs,noRefs];simp only[noRef];rw[SU.Qaf,SU.Qaf];rfl
   refine Qaj 700 (fun k:Nat=>[(2,.ptr 52 0 0),(3,.ptr 50 0 0),(4,.ptr 53 0 0),(10,.ptr 54 0 0),(11,.ptr 51 0 0),(12,.fn 143 [] [.ptr 50 0 0,.ptr 51 0 0]),(86,sliN P3),(87,.int .i64 P3.length),(88,.int .i64 i),(15,.ptr 55 0 0),(104,los x.2),(105,.int .i64 x.2.length),(106,.int .i64 k)]) (fun k=>[(50,.cells 0 [sliN P1,sliN P2,sliN P3,sliN P4]),(51,.cells 0 [.bool (z||(x.2.take k).any fun l=>!P1.contains l.1)]),(52,.cells 0 [evsV c.ev,its 99 c.cs,its 114 c.rs,exs c.xs,cos c.ks]),(53,.cells 0 [.nilsl,.nilsl,.nilsl,.nilsl,.nilsl]),(54,.cells 0 [evsV c.ev,its 99 (pk P1 c.cs),its 114 (pk P2 c.rs),.sl 76 0 0 i 2,.nilsl]),(55,.cells 0 [.str [101,UInt8.ofNat (48+x.1)],.sl 77 0 0 k 2]),(76,.cells 0 (D.flatMap exC)),(77,.cells 0 (((x.2.take k).map fun l=>(lbN P1 l.1,l.2)).flatMap loC))]) (fun k=>k<=x.2.length) (fun k=>x.2.length-k) 0 4 780 (fun _:Unit=>[(2,.ptr 52 0 0),(3,.ptr 50 0 0),(4,.ptr 53 0 0),(10,.ptr 54 0 0),(11,.ptr 51 0 0),(12,.fn 143 [] [.ptr 50 0 0,.ptr 51 0 0]),(86,sliN P3),(87,.int .i64 P3.length),(88,.int .i64 i),(15,.ptr 55 0 0)]) (fun _=>[(50,.cells 0 [sliN P1,sliN P2,sliN P3,sliN P4]),(51,.cells 0 [.bool (z||missX P1 x)]),(52,.cells 0 [evsV c.ev,its 99 c.cs,its 114 c.rs,exs c.xs,cos c.ks]),(53,.cells 0 [.nilsl,.nilsl,.nilsl,.nilsl,.nilsl]),(54,.cells 0 [evsV c.ev,its 99 (pk P1 c.cs),its 114 (pk P2 c.rs),.sl 76 0 0 i 2,.nilsl]),(55,.cells 0 [.str [101,UInt8.ofNat (48+x.1)],los (x.2.map fun l=>(lbN P1 l.1,l.2))]),(76,.cells 0 (D.flatMap exC))]) (fun _=>True) ?_ (Zah _) ?_ ?_;·refine⟨[(50,.blk 50 0),(51,.blk 51 0),(52,.blk 52 0),(53,.blk 53 0),(54,.blk 54 0),(55,.blk 311 0),(76,.blk 76 0),(77,.nil)],rfl,au0,?_,au16⟩;exact Zca rfl rfl gg (Zb1 a) (Zca rfl rfl gg (by simpa using Zb1 rfl) (Zca rfl rfl gg (Zb1 d) (Zca rfl rfl gg (Zb1 rfl) (Zca rfl rfl gg (Zcg (Zb0 rfl) (Zcg (Zb0 (by simp only[noRef];exact SU.Qaf _)) (Zcg (Zb0 (by simp only[noRef];exact SU.Qaf _)) (Zcg (Rn.x1 rfl rfl) (Zcg (Zb0 rfl) Zcf))))) (Zca rfl rfl gg (Zcg (Zb0 rfl) (Zcg (Rn.x4 rfl rfl) Zcf)) (Zca rfl rfl gg (Zb1 p) (Zcb rfl rfl Zb9)))))))
   ·rintro k hk;by_cases s:k<x.2.length
    ·obtain⟨l,Q⟩:=Qac s;have m:=QdG Q;have w:2<=((x.2.flatMap loC).drop (k*2)).length:=by rw[m];simp
     have O:inBs [51,50] [sliN P2,sliN P3,sliN P4]=true:=by simp only[inBs,QgB];rfl
     have hI:=fun{hh:Heap}(t:Nat)(K:hh.get 50=some (.cells 0 [sliN P1,sliN P2,sliN P3,sliN P4]))(N:hh.get 51=some (.cells 0 [.bool (z||(x.2.take k).any fun l=>!P1.contains l.1)]))=>index143F t Z (by omega) U O K N;refine Zcy (ZcA s m w) ?_;refine Qhk [] [51,50] 5 (x:=.t 112) (ag:=[.t 114]) (d:=some 115) rfl rfl rfl ?_;refine Zcx ?_;refine⟨143,[],_,_,_,_,rfl,hI l.1 gg gg,⟨rfl,fun b hb=>by simp only[ZaF,Zbj,or_false]at hb⊢;omega⟩,?_⟩;have J:((x.2.take k).map fun l=>(lbN P1 l.1,l.2)).length=k:=by rw[Zal,Zar];omega
     have g:=SU.QbP ((x.2.take k).map fun l=>(lbN P1 l.1,l.2));rw[J]at g;refine Zcy g ?_;refine⟨trivial,k+1,by omega,by omega,?_⟩;have e1:(x.2.take (k+1)).map (fun l=>(lbN P1 l.1,l.2))=(x.2.take k).map (fun l=>(lbN P1 l.1,l.2))++[(lbN P1 l.1,l.2)]:=by rw[take_succ' Q,ZaQ];rfl
     have e2:(z||(x.2.take (k+1)).any fun l=>!P1.contains l.1)=((z||(x.2.take k).any fun l=>!P1.contains l.1)||!P1.contains l.1):=by rw[take_succ' Q,Zbv,ZbH,ZbP,ZbG,Bool.or_assoc]
     rw[e1,e2,Zaq];refine⟨[(50,.blk 50 0),(51,.blk 51 0),(52,.blk 52 0),(53,.blk 53 0),(54,.blk 54 0),(55,.blk 55 0),(76,.blk 76 0),(77,.blk 77 1)],rfl,au0,?_,au16⟩;exact Zca rfl rfl gg (Zb1 a) (Zca rfl rfl gg (Zb1 rfl) (Zca rfl rfl gg (Zb1 d) (Zca rfl rfl gg (Zb1 rfl) (Zca rfl rfl gg (Zcg (Zb0 rfl) (Zcg (Zb0 (by simp only[noRef];exact SU.Qaf _)) (Zcg (Zb0 (by simp only[noRef];exact SU.Qaf _)) (Zcg (Rn.x1 rfl rfl) (Zcg (Zb0 rfl) Zcf))))) (Zca rfl rfl gg (Zcg (Zb0 rfl) (Zcg (Rn.x1 rfl rfl) Zcf)) (Zca rfl rfl gg (Zb1 p) (Zca rfl rfl gg (Zb1 (SU.QaB (SU.QaD _) rfl)) Zb9)))))))
    have e:k=x.2.length:=by omega
    subst e;have g:=SU.QbP (x.2.map fun l=>(lbN P1 l.1,l.2));rw[Zal]at g;refine Zcu s ?_;refine⟨(),?_⟩;refine⟨[(50,.blk 50 0),(51,.blk 51 0),(52,.blk 52 0),(53,.blk 53 0),(54,.blk 54 0),(55,.blk 55 0),(76,.blk 76 0)],rfl,au0,?_,au16⟩;exact Zca rfl rfl gg (Zb1 a) (Zca rfl rfl gg (Zb1 rfl) (Zca rfl rfl gg (Zb1 d) (Zca rfl rfl gg (Zb1 rfl) (Zca rfl rfl gg (Zcg (Zb0 rfl) (Zcg (Zb0 (by simp only[noRef];exact SU.Qaf _)) (Zcg (Zb0 (by simp only[noRef];exact SU.Qaf _)) (Zcg (Rn.x1 rfl rfl) (Zcg (Zb0 rfl) Zcf))))) (Zca rfl rfl gg (Zcg (Zb0 rfl) (Zcg (Zch (b:=77) (g:=0) gg rfl rfl (by simp) (by rw[g]) (Zb1 (SU.QaD _))) Zcf)) (Zca rfl rfl gg (Zb1 p) Zb9))))))
   rintro _ _;have o:noRefs (exC (newX P1 x))=true:=by simp only[exC,newX,noRefs,noRef];rw[SU.QaD];rfl
   refine Zcy y ?_;refine⟨i+1,by omega,by omega,?_⟩;rw[hD,hM,Zaq];refine⟨[(50,.blk 50 0),(51,.blk 51 0),(52,.blk 52 0),(53,.blk 53 0),(54,.blk 54 0),(76,.blk 76 1)],rfl,au0,?_,au16⟩;exact Zca rfl rfl gg (Zb1 a) (Zca rfl rfl gg (Zb1 rfl) (Zca rfl rfl gg (Zb1 d) (Zca rfl rfl gg (Zb1 rfl) (Zca rfl rfl gg (Zcg (Zb0 rfl) (Zcg (Zb0 (by simp only[noRef];exact SU.Qaf _)) (Zcg (Zb0 (by simp only[noRef];exact SU.Qaf _)) (Zcg (Rn.x1 rfl rfl) (Zcg (Zb0 rfl) Zcf))))) (Zca rfl rfl gg (Zb1 (SU.QaB (SU.Qar _) (by simpa using o))) Zb9)))))
  have e:i=P3.length:=by omega
  subst e;have A:=Qbz v;have C:=SU.Qbr ((pk P3 c.xs).map (newX P1));rw[Zal,A]at C;refine Zcu r ?_;refine⟨(),?_⟩;refine⟨[(50,.blk 50 0),(51,.blk 51 0),(52,.blk 52 0),(53,.blk 53 0),(54,.blk 54 0)],rfl,au0,?_,au16⟩;exact Zca rfl rfl gg (Zb1 a) (Zca rfl rfl gg (Zb1 rfl) (Zca rfl rfl gg (Zb1 d) (Zca rfl rfl gg (Zb1 rfl) (Zca rfl rfl gg (Zcg (Zb0 rfl) (Zcg (Zb0 (by simp only[noRef];exact SU.Qaf _)) (Zcg (Zb0 (by simp only[noRef];exact SU.Qaf _)) (Zcg (Zch (b:=76) (g:=0) gg rfl rfl (by rw[Zal,A]) (by rw[C]) (Zb1 (SU.Qar _))) (Zcg (Zb0 rfl) Zcf))))) Zb9))))
 rintro _ _;refine Zcx ?_;generalize hsX:(pk P3 c.xs).any (missX P1)=f;have hxi:=QbG c.ks;refine Qaj 1300 (fun i:Nat=>[(2,.ptr 52 0 0),(4,.ptr 53 0 0),(10,.ptr 54 0 0),(11,.ptr 51 0 0),(12,.fn 143 [] [.ptr 50 0 0,.ptr 51 0 0]),(131,sliN P4),(132,.int .i64 P4.length),(133,.int .i64 i)]) (fun i=>[(50,.cells 0 [sliN P1,sliN P2,sliN P3,sliN P4]),(51,.cells 0 [.bool (f||(pk (P4.take i) c.ks).any (missK P1))]),(52,.cells 0 [evsV c.ev,its 99 c.cs,its 114 c.rs,exs c.xs,cos c.ks]),(53,.cells 0 [.nilsl,.nilsl,.nilsl,.nilsl,.nilsl]),(54,.cells 0 [evsV c.ev,its 99 (pk P1 c.cs),its 114 (pk P2 c.rs),exs ((pk P3 c.xs).map (newX P1)),.sl 76 0 0 i 3]),(76,.cells 0 (((pk (P4.take i) c.ks).map (newK P1)).flatMap coC))]) (fun i=>i<=P4.length) (fun i=>P4.length-i) 0 6 1560 (fun _:Unit=>[(2,.ptr 52 0 0),(4,.ptr 53 0 0),(10,.ptr 54 0 0),(11,.ptr 51 0 0),(12,.fn 143 [] [.ptr 50 0 0,.ptr 51 0 0])]) (fun _=>[(50,.cells 0 [sliN P1,sliN P2,sliN P3,sliN P4]),(51,.cells 0 [.bool (f||(pk P4 c.ks).any (missK P1))]),(52,.cells 0 [evsV c.ev,its 99 c.cs,its 114 c.rs,exs c.xs,cos c.ks]),(53,.cells 0 [.nilsl,.nilsl,.nilsl,.nilsl,.nilsl]),(54,.cells 0 [evsV c.ev,its 99 (pk P1 c.cs),its 114 (pk P2 c.rs),exs ((pk P3 c.xs).map (newX P1)),cos ((pk P4 c.ks).map (newK P1))])]) (fun _=>True) ?_ (Zah _) ?_ ?_;·have z0:(f||(pk (P4.take 0) c.ks).any (missK P1))=f:=ZbG _;refine⟨[(50,.blk 50 0),(51,.blk 51 0),(52,.blk 52 0),(53,.blk 53 0),(54,.blk 54 0),(76,.nil)],rfl,au0,?_,au16⟩;rw[z0];exact Zca rfl rfl gg (Zb1 a) (Zca rfl rfl gg (Zb1 rfl) (Zca rfl rfl gg (Zb1 d) (Zca rfl rfl gg (Zb1 rfl) (Zca rfl rfl gg (Zcg (Zb0 rfl) (Zcg (Zb0 (by simp only[noRef];exact SU.Qaf _)) (Zcg (Zb0 (by simp only[noRef];exact SU.Qaf _)) (Zcg (Zb0 (by simp only[noRef];exact SU.Qar _)) (Zcg (Rn.x4 rfl rfl) Zcf))))) (Zcb rfl rfl Zb9)))))
 ·rintro i hi;by_cases r:i<P4.length
  ·obtain⟨q,L⟩:=Qac r;have F:=u q (Zae L);obtain⟨x,B⟩:=Qac F;have n:=Qes L B;have G:=Qc5 B;have T:3<=((c.ks.flatMap coC).drop (q*3)).length:=by rw[G];simp
   refine Zcy (ZcC r (QaP L) G T F) ?_;have R:=Zae B;have hxl:x.1.length<=1000:=by have:=h.klen R;omega
   have M:(pk (P4.take i) c.ks).length=i:=by rw[Qbz fun j hj=>u j (ZaR hj),Zar];omega
   have y:=QbG ((pk (P4.take i) c.ks).map (newK P1));rw[Zal,M]at y;have hD:(pk (P4.take (i+1)) c.ks).map (newK P1)=(pk (P4.take i) c.ks).map (newK P1)++[newK P1 x]:=by rw[n,ZaQ];rfl
   have hM:(f||(pk (P4.take (i+1)) c.ks).any (missK P1))=((f||(pk (P4.take i) c.ks).any (missK P1))||missK P1 x):=by rw[n,Zbv,ZbH,ZbP,ZbG,Bool.or_assoc]
   generalize(pk (P4.take i) c.ks).map (newK P1)=D at*;generalize(f||(pk (P4.take i) c.ks).any (missK P1))=z at*;have p:=SU.QaI D;have hrow:noRefs [evsV c.ev,its 99 (pk P1 c.cs),its 114 (pk P2 c.rs)]=true:=by rw[noRefs,noRefs,noRefs];simp only[noRef];rw[SU.Qaf,SU.Qaf];rfl
   refine Qaj 1700 (fun k:Nat=>[(2,.ptr 52 0 0),(4,.ptr 53 0 0),(10,.ptr 54 0 0),(11,.ptr 51 0 0),(12,.fn 143 [] [.ptr 50 0 0,.ptr 51 0 0]),(131,sliN P4),(132,.int .i64 P4.length),(133,.int .i64 i),(20,.ptr 55 0 0),(155,tes x.1),(156,.int .i64 x.1.length),(157,.int .i64 k)]) (fun k=>[(50,.cells 0 [sliN P1,sliN P2,sliN P3,sliN P4]),(51,.cells 0 [.bool (z||(x.1.take k).any fun l=>!P1.contains l.1)]),(52,.cells 0 [evsV c.ev,its 99 c.cs,its 114 c.rs,exs c.xs,cos c.ks]),(53,.cells 0 [.nilsl,.nilsl,.nilsl,.nilsl,.nilsl]),(54,.cells 0 [evsV c.ev,its 99 (pk P1 c.cs),its 114 (pk P2 c.rs),exs ((pk P3 c.xs).map (newX P1)),.sl 76 0 0 i 3]),(55,.cells 0 [.str [107],.sl 77 0 0 k 2,.int .i64 x.2]),(76,.cells 0 (D.flatMap coC)),(77,.cells 0 (((x.1.take k).map fun l=>(lbN P1 l.1,l.2)).flatMap teC))]) (fun k=>k<=x.1.length) (fun k=>x.1.length-k) 0 8 1780 (fun _:Unit=>[(2,.ptr 52 0 0),(4,.ptr 53 0 0),(10,.ptr 54 0 0),(11,.ptr 51 0 0),(12,.fn 143 [] [.ptr 50 0 0,.ptr 51 0 0]),(131,sliN P4),(132,.int .i64 P4.length),(133,.int .i64 i),(20,.ptr 55 0 0)]) (fun _=>[(50,.cells 0 [sliN P1,sliN P2,sliN P3,sliN P4]),(51,.cells 0 [.bool (z||missK P1 x)]),(52,.cells 0 [evsV c.ev,its 99 c.cs,its 114 c.rs,exs c.xs,cos c.ks]),(53,.cells 0 [.nilsl,.nilsl,.nilsl,.nilsl,.nilsl]),(54,.cells 0 [evsV c.ev,its 99 (pk P1 c.cs),its 114 (pk P2 c.rs),exs ((pk P3 c.xs).map (newX P1)),.sl 76 0 0 i 3]),(55,.cells 0 [.str [107],tes (x.1.map fun l=>(lbN P1 l.1,l.2)),.int .i64 x.2]),(76,.cells 0 (D.flatMap coC))]) (fun _=>True) ?_ (Zah _) ?_ ?_;·refine⟨[(50,.blk 50 0),(51,.blk 51 0),(52,.blk 52 0),(53,.blk 53 0),(54,.blk 54 0),(55,.blk 1317 0),(76,.blk 76 0),(77,.nil)],rfl,au0,?_,au16⟩;exact Zca rfl rfl gg (Zb1 a) (Zca rfl rfl gg (by simpa using Zb1 rfl) (Zca rfl rfl gg (Zb1 d) (Zca rfl rfl gg (Zb1 rfl) (Zca rfl rfl gg (Zcg (Zb0 rfl) (Zcg (Zb0 (by simp only[noRef];exact SU.Qaf _)) (Zcg (Zb0 (by simp only[noRef];exact SU.Qaf _)) (Zcg (Zb0 (by simp only[noRef];exact SU.Qar _)) (Zcg (Rn.x1 rfl rfl) Zcf))))) (Zca rfl rfl gg (Zcg (Zb0 rfl) (Zcg (Rn.x4 rfl rfl) (Zcg (Zb0 rfl) Zcf))) (Zca rfl rfl gg (Zb1 p) (Zcb rfl rfl Zb9)))))))
   ·rintro k hk;by_cases s:k<x.1.length
    ·obtain⟨l,Q⟩:=Qac s;have m:=SU.Qb5 Q;have w:2<=((x.1.flatMap teC).drop (k*2)).length:=by rw[m];simp
     have O:inBs [51,50] [sliN P2,sliN P3,sliN P4]=true:=by simp only[inBs,QgB];rfl
     have hI:=fun{hh:Heap}(t:Nat)(K:hh.get 50=some (.cells 0 [sliN P1,sliN P2,sliN P3,sliN P4]))(N:hh.get 51=some (.cells 0 [.bool (z||(x.1.take k).any fun l=>!P1.contains l.1)]))=>index143F t Z (by omega) U O K N;refine Zcy (ZcA s m w) ?_;refine Qhk [] [51,50] 5 (x:=.t 163) (ag:=[.t 165]) (d:=some 166) rfl rfl rfl ?_;refine Zcx ?_;refine⟨143,[],_,_,_,_,rfl,hI l.1 gg gg,⟨rfl,fun b hb=>by simp only[ZaF,Zbj,or_false]at hb⊢;omega⟩,?_⟩;have J:((x.1.take k).map fun l=>(lbN P1 l.1,l.2)).length=k:=by rw[Zal,Zar];omega
     have g:=SU.Qbm ((x.1.take k).map fun l=>(lbN P1 l.1,l.2));rw[J]at g;refine Zcy g ?_;refine⟨trivial,k+1,by omega,by omega,?_⟩;have e1:(x.1.take (k+1)).map (fun l=>(lbN P1 l.1,l.2))=(x.1.take k).map (fun l=>(lbN P1 l.1,l.2))++[(lbN P1 l.1,l.2)]:=by rw[take_succ' Q,ZaQ];rfl
     have e2:(z||(x.1.take (k+1)).any fun l=>!P1.contains l.1)=((z||(x.1.take k).any fun l=>!P1.contains l.1)||!P1.contains l.1):=by rw[take_succ' Q,Zbv,ZbH,ZbP,ZbG,Bool.or_assoc]
     rw[e1,e2,Zaq];refine⟨[(50,.blk 50 0),(51,.blk 51 0),(52,.blk 52 0),(53,.blk 53 0),(54,.blk 54 0),(55,.blk 55 0),(76,.blk 76 0),(77,.blk 77 1)],rfl,au0,?_,au16⟩;exact Zca rfl rfl gg (Zb1 a) (Zca rfl rfl gg (Zb1 rfl) (Zca rfl rfl gg (Zb1 d) (Zca rfl rfl gg (Zb1 rfl) (Zca rfl rfl gg (Zcg (Zb0 rfl) (Zcg (Zb0 (by simp only[noRef];exact SU.Qaf _)) (Zcg (Zb0 (by simp only[noRef];exact SU.Qaf _)) (Zcg (Zb0 (by simp only[noRef];exact SU.Qar _)) (Zcg (Rn.x1 rfl rfl) Zcf))))) (Zca rfl rfl gg (Zcg (Zb0 rfl) (Zcg (Rn.x1 rfl rfl) (Zcg (Zb0 rfl) Zcf))) (Zca rfl rfl gg (Zb1 p) (Zca rfl rfl gg (Zb1 (SU.QaB (SU.Qat _) rfl)) Zb9)))))))
    have e:k=x.1.length:=by omega
    subst e;have g:=SU.Qbm (x.1.map fun l=>(lbN P1 l.1,l.2));rw[Zal]at g;refine Zcu s ?_;refine⟨(),?_⟩;refine⟨[(50,.blk 50 0),(51,.blk 51 0),(52,.blk 52 0),(53,.blk 53 0),(54,.blk 54 0),(55,.blk 55 0),(76,.blk 76 0)],rfl,au0,?_,au16⟩;exact Zca rfl rfl gg (Zb1 a) (Zca rfl rfl gg (Zb1 rfl) (Zca rfl rfl gg (Zb1 d) (Zca rfl rfl gg (Zb1 rfl) (Zca rfl rfl gg (Zcg (Zb0 rfl) (Zcg (Zb0 (by simp only[noRef];exact SU.Qaf _)) (Zcg (Zb0 (by simp only[noRef];exact SU.Qaf _)) (Zcg (Zb0 (by simp only[noRef];exact SU.Qar _)) (Zcg (Rn.x1 rfl rfl) Zcf))))) (Zca rfl rfl gg (Zcg (Zb0 rfl) (Zcg (Zch (b:=77) (g:=0) gg rfl rfl (by simp) (by rw[g]) (Zb1 (SU.Qat _))) (Zcg (Zb0 rfl) Zcf))) (Zca rfl rfl gg (Zb1 p) Zb9))))))
   rintro _ _;have o:noRefs (coC (newK P1 x))=true:=by simp only[coC,newK,noRefs,noRef];rw[SU.Qat];rfl
   refine Zcy y ?_;refine⟨i+1,by omega,by omega,?_⟩;rw[hD,hM,Zaq];refine⟨[(50,.blk 50 0),(51,.blk 51 0),(52,.blk 52 0),(53,.blk 53 0),(54,.blk 54 0),(76,.blk 76 1)],rfl,au0,?_,au16⟩;exact Zca rfl rfl gg (Zb1 a) (Zca rfl rfl gg (Zb1 rfl) (Zca rfl rfl gg (Zb1 d) (Zca rfl rfl gg (Zb1 rfl) (Zca rfl rfl gg (Zcg (Zb0 rfl) (Zcg (Zb0 (by simp only[noRef];exact SU.Qaf _)) (Zcg (Zb0 (by simp only[noRef];exact SU.Qaf _)) (Zcg (Zb0 (by simp only[noRef];exact SU.Qar _)) (Zcg (Rn.x1 rfl rfl) Zcf))))) (Zca rfl rfl gg (Zb1 (SU.QaB (SU.QaI _) (by simpa using o))) Zb9)))))
  have e:i=P4.length:=by omega
  subst e;have A:=Qbz u;have C:=QbG ((pk P4 c.ks).map (newK P1));rw[Zal,A]at C;refine Zcu r ?_;refine⟨(),?_⟩;refine⟨[(50,.blk 50 0),(51,.blk 51 0),(52,.blk 52 0),(53,.blk 53 0),(54,.blk 54 0)],rfl,au0,?_,au16⟩;exact Zca rfl rfl gg (Zb1 a) (Zca rfl rfl gg (Zb1 rfl) (Zca rfl rfl gg (Zb1 d) (Zca rfl rfl gg (Zb1 rfl) (Zca rfl rfl gg (Zcg (Zb0 rfl) (Zcg (Zb0 (by simp only[noRef];exact SU.Qaf _)) (Zcg (Zb0 (by simp only[noRef];exact SU.Qaf _)) (Zcg (Zb0 (by simp only[noRef];exact SU.Qar _)) (Zcg (Zch (b:=76) (g:=0) gg rfl rfl (by rw[Zal,A]) (by rw[C]) (Zb1 (SU.QaI _))) Zcf))))) Zb9))))
 rintro _ _;have X:selM c P1 P3 P4=(f||(pk P4 c.ks).any (missK P1)):=by unfold selM;rw[hsX]
 rw[X]at hE⊢;generalize(f||(pk P4 c.ks).any (missK P1))=mm at*;cases mm with|true=>refine Zcx ?_;exact⟨.inr trivial,_,rfl,Zb0 rfl⟩|false=>
  have Y:=hE rfl;dsimp only[selC]at Y;refine Zcx ?_;refine cp Y ?_;by_cases h0:E=0;·refine Zcy h0 ?_;exact⟨.inr trivial,_,rfl,Zb0 (by rw[noRef,noRefs];exact(by rw[SU.Qa5 (c:=selC c P1 P2 P3 P4)];rfl))⟩
  refine Zcy h0 ?_;exact⟨.inr trivial,_,rfl,Zb0 rfl⟩
end Go.AM.SO
namespace Go.AM.SO
open Go.Proofs Go.AM.SD Go.AM.SE
def fst4(a b c d:Int):Int:=if a≠0 then a else if b≠0 then b else if c≠0 then c else d
theorem QnX{a b c d:Int}(h:a≠0):fst4 a b c d=a:=if_pos h
theorem QnY{a b c d:Int}(f:a=0)(h:b≠0):fst4 a b c d=b:=by unfold fst4;rw[if_neg (fun k=>k f),if_pos h]
theorem QnZ{a b c d:Int}(f:a=0)(h1:b=0)(h:c≠0):fst4 a b c d=c:=by unfold fst4;rw[if_neg (fun k=>k f),if_neg (fun k=>k h1),if_pos h]
theorem Qn0{a b c d:Int}(f:a=0)(h1:b=0)(g:c=0):fst4 a b c d=d:=by unfold fst4;rw[if_neg (fun k=>k f),if_neg (fun k=>k h1),if_neg (fun k=>k g)]
def selE(c:Cel)(X1 X2 X3 X4:List Int):Int:=fst4 (setErr X1 c.cs.length) (setErr X2 c.rs.length) (setErr X3 c.xs.length) (setErr X4 c.ks.length)
theorem select57E(c:Cel)(h:WfCel c)(X1 X2 X3 X4:List Int)(B:X1.length<=1000)(y:X2.length<=1000)(A:X3.length<=1000)(x:X4.length<=1000)(o:selE c X1 X2 X3 X4≠0):PSpec Tryz.prog 57 [celV c,.agg [sli X1,sli X2,sli X3,sli X4]] (.tup [celN0,.int .i64 (selE c X1 X2 X3 X4)]):=by
 have d:=Qcl c;refine Zb2 64 UB.ok57 rfl (by rw[noRefs,SU.Qa5];simp only[noRefs,noRef,Qaa];rfl) rfl ?_;have v:=check21 c h;have l:=set38X X1 c.cs.length (by omega);have s:=set38X X2 c.rs.length (by omega);have q:=set38X X3 c.xs.length (by omega);have t:=set38X X4 c.ks.length (by omega);have b:noRefs [sli X1,sli X2,sli X3,sli X4]=true:=by simp only[noRefs,noRef,Qaa];rfl
 obtain⟨R,g⟩:∃R,R=selE c X1 X2 X3 X4:=⟨_,rfl⟩;rw[<-g]at o⊢;unfold selE at g;generalize setErr X1 c.cs.length=r at*;generalize setErr X2 c.rs.length=m at*;generalize setErr X3 c.xs.length=n at*;generalize setErr X4 c.ks.length=u at*;unfold UB.s57;refine Zcx ?_;refine cp v ?_;refine Zcx ?_;refine Qaj 140 (fun i:Nat=>[(2,.ptr 52 0 0),(3,.ptr 50 0 0),(4,.ptr 53 0 0),(54,.sl 57 0 0 4 2),(55,.int .i64 4),(56,.int .i64 i)]) (fun i=>[(50,.cells 0 [sli X1,sli X2,sli X3,sli X4]),(52,.cells 0 [evsV c.ev,its 99 c.cs,its 114 c.rs,exs c.xs,cos c.ks]),(53,.cells 0 [.nilsl,.nilsl,.nilsl,.nilsl,.nilsl]),(57,.cells 0 [sli X1,.int .i64 c.cs.length,sli X2,.int .i64 c.rs.length,sli X3,.int .i64 c.xs.length,sli X4,.int .i64 c.ks.length])]) (fun i=>i<=3/\(0<i->r=0)/\(1<i->m=0)/\(2<i->n=0)) (fun i=>4-i) 0 0 240 (fun _:Unit=>[]) (fun _=>[]) (fun _=>False) ?_ ⟨Zah _,fun h=>by omega,fun h=>by omega,fun h=>by omega⟩ ?_ (fun _ h=>h.elim);·refine⟨[(50,.blk 65 0),(52,.blk 64 0),(53,.blk 66 0),(57,.blk 97 0)],rfl,au0,?_,au16⟩;exact Zca rfl rfl gg (Zb1 b) (Zca rfl rfl gg (Zb1 d) (Zca rfl rfl gg (Zb1 rfl) (Zca rfl rfl gg (Zb1 (by simp only[noRefs,noRef,Qaa];rfl)) Zb9)))
 rintro i⟨hi,k,p,w⟩;have f:i=0\/i=1\/i=2\/i=3:=by omega
 rcases f with rfl|rfl|rfl|rfl
 ·by_cases z:r=0;·subst z;refine Zcx ?_;refine cp l ?_;refine Zcx ?_;refine⟨1,by omega,⟨by omega,by simp,fun h=>by omega,fun h=>by omega⟩,?_⟩;refine⟨[(50,.blk 50 0),(52,.blk 52 0),(53,.blk 53 0),(57,.blk 57 0)],rfl,au0,?_,au16⟩;exact Zca rfl rfl gg (Zb1 b) (Zca rfl rfl gg (Zb1 d) (Zca rfl rfl gg (Zb1 rfl) (Zca rfl rfl gg (Zb1 (by simp only[noRefs,noRef,Qaa];rfl)) Zb9)))
  have a:=g.trans (QnX z);refine Zcx ?_;refine cp l ?_;refine Zcy z ?_;exact⟨.inr trivial,_,rfl,by rw[a];exact Zb0 rfl⟩
 ·have j:=k (by omega);by_cases z:m=0;·subst z;refine Zcx ?_;refine cp s ?_;refine Zcx ?_;refine⟨2,by omega,⟨by omega,fun _=>j,by simp,fun h=>by omega⟩,?_⟩;refine⟨[(50,.blk 50 0),(52,.blk 52 0),(53,.blk 53 0),(57,.blk 57 0)],rfl,au0,?_,au16⟩;exact Zca rfl rfl gg (Zb1 b) (Zca rfl rfl gg (Zb1 d) (Zca rfl rfl gg (Zb1 rfl) (Zca rfl rfl gg (Zb1 (by simp only[noRefs,noRef,Qaa];rfl)) Zb9)))
  have a:=g.trans (QnY j z);refine Zcx ?_;refine cp s ?_;refine Zcy z ?_;exact⟨.inr trivial,_,rfl,by rw[a];exact Zb0 rfl⟩
 ·have j:=k (by omega);have q1:=p (by omega);by_cases z:n=0;·subst z;refine Zcx ?_;refine cp q ?_;refine Zcx ?_;refine⟨3,by omega,⟨by omega,fun _=>j,fun _=>q1,by simp⟩,?_⟩;refine⟨[(50,.blk 50 0),(52,.blk 52 0),(53,.blk 53 0),(57,.blk 57 0)],rfl,au0,?_,au16⟩;exact Zca rfl rfl gg (Zb1 b) (Zca rfl rfl gg (Zb1 d) (Zca rfl rfl gg (Zb1 rfl) (Zca rfl rfl gg (Zb1 (by simp only[noRefs,noRef,Qaa];rfl)) Zb9)))
  have a:=g.trans (QnZ j q1 z);refine Zcx ?_;refine cp q ?_;refine Zcy z ?_;exact⟨.inr trivial,_,rfl,by rw[a];exact Zb0 rfl⟩
 have a:=g.trans (Qn0 (k (by omega)) (p (by omega)) (w (by omega)));have z:¬u=0:=fun h=>o (a.trans h);refine Zcx ?_;refine cp t ?_;refine Zcy z ?_;exact⟨.inr trivial,_,rfl,by rw[a];exact Zb0 rfl⟩
end Go.AM.SO
namespace Go.AM.SO
open Go.Proofs Go.AM.SD Go.AM.SE
theorem clone148L(l:List (Nat×Nat))(g:l.length<=1000)(d:l≠[]):HSpec Tryz.prog 148 [los l] .e (.sl 483 0 0 l.length 2) (hp [(483,.cells 0 (l.flatMap loC))]):=by cases l with|nil=>exact absurd rfl d|cons x l=>refine Zcm 100 ok148 rfl ?_;have f:aEqN false (los (x::l))=.ret (.bool false):=rfl;have a:((x::l).flatMap loC).all AV.one=true:=QbK (fun _=>rfl) _;have b:=SU.QaD (x::l);have c:=SU.QbP (x::l);generalize x::l=q at*;unfold s148;refine Zcy (ZcA f a c) ?_;refine⟨.inr trivial,_,rfl,?_⟩;refine⟨[(483,.blk 103 1)],rfl,au0,?_,au16⟩;exact Zca rfl rfl gg (Zb1 b) Zb9
theorem clone149L(l:List (Nat×Int))(g:l.length<=1000)(d:l≠[]):HSpec Tryz.prog 149 [tes l] .e (.sl 1483 0 0 l.length 2) (hp [(1483,.cells 0 (l.flatMap teC))]):=by cases l with|nil=>exact absurd rfl d|cons x l=>refine Zcm 100 ok149 rfl ?_;have f:aEqN false (tes (x::l))=.ret (.bool false):=rfl;have a:((x::l).flatMap teC).all AV.one=true:=QbK (fun _=>rfl) _;have b:=SU.Qat (x::l);have c:=SU.Qbm (x::l);generalize x::l=q at*;unfold s149;refine Zcy (ZcA f a c) ?_;refine⟨.inr trivial,_,rfl,?_⟩;refine⟨[(1483,.blk 103 1)],rfl,au0,?_,au16⟩;exact Zca rfl rfl gg (Zb1 b) Zb9
theorem Qkd:∀{P:List Nat}{a:Nat},P.Pairwise (·<·)->a∈P->indexR (nz P) (a:Int)=lbN P a
 |[],a,_,hm=>by cases hm|x::P,a,h,hm=>by
  have d:(a:Int)∈nz (x::P):=Zas.2 ⟨a,hm,rfl⟩;unfold indexR lbN;rw[if_pos d];show((((x:Int)::nz P).findIdx (·==(a:Int)):Nat):Int)=_;rw[List.findIdx_cons,List.countP_cons];by_cases e:x=a
  ·subst e;have:P.countP (fun y=>decide (y<x))=0:=by rw[List.countP_eq_zero];intro y g;have:=List.rel_of_pairwise_cons h g;simp only[decide_eq_true_eq];omega
   simp[this]
  have b:a∈P:=by
   rcases ZaF.1 hm with h1|h1;·exact absurd h1.symm e
   exact h1
  have f:=Qkd (Zaz.1 h).2 b;unfold indexR lbN at f;rw[if_pos (Zas.2 ⟨a,b,rfl⟩)]at f;have c:=List.rel_of_pairwise_cons h b;have i:((x:Int)==(a:Int))=false:=by simp;omega
  rw[i];simp only[cond_false,c,decide_true,if_true];omega
theorem QlG{P:List Nat}{a:Nat}(h:a∉P):indexR (nz P) (a:Int)=-1:=by
 unfold indexR;rw[if_neg];intro hm;obtain⟨b,c,e⟩:=Zas.1 hm;have:b=a:=by omega
 exact h (this▸c)
theorem Qqw{A B:List (Nat×Nat)}{l:Nat×Nat}{k v:Nat}(a:A.length=k):((A++l::B).flatMap loC).set (k*2) (.int .i64 (v:Int))=(A++[(v,l.2)]++B).flatMap loC:=by subst a;rw[Zaq,Zaq,Zaq,Zay,List.set_append_right _ _ (by rw[SU.QbP];omega),SU.QbP,Nat.sub_self,ZaM];rfl
theorem Qqx{A B:List (Nat×Int)}{l:Nat×Int}{k v:Nat}(a:A.length=k):((A++l::B).flatMap teC).set (k*2) (.int .i64 (v:Int))=(A++[(v,l.2)]++B).flatMap teC:=by subst a;rw[Zaq,Zaq,Zaq,Zay,List.set_append_right _ _ (by rw[SU.Qbm];omega),SU.Qbm,Nat.sub_self,ZaM];rfl
theorem pk_ok{X:List Int}{α:Type}{l:List α}(h:setErr X l.length=0):nz (X.map Int.toNat)=X/\(∀i∈X.map Int.toNat,i<l.length):=⟨nz_of (QaZ h),Qcd (QaZ h)⟩
theorem selected58(c:Cel)(h:WfCel c)(P1 P2 P3 P4:List Nat)(E:Int)(s1:setErr (nz P1) c.cs.length=0)(s2:setErr (nz P2) c.rs.length=0)(s3:setErr (nz P3) c.xs.length=0)(s4:setErr (nz P4) c.ks.length=0)(hl1:P1.length<=4)(hl2:P2.length<=4)(hl3:P3.length<=4)(hl4:P4.length<=4)(hE:selM c P1 P3 P4=false->PSpec Tryz.prog 56 [celV (selC c P1 P2 P3 P4)] (.int .i64 E)):PSpec Tryz.prog 58 [celV c,.agg [sliN P1,sliN P2,sliN P3,sliN P4]] (if selM c P1 P3 P4=true then .tup [celN0,.int .i64 13]else if E≠0 then .tup [celN0,.int .i64 E]else .tup [celV (selC c P1 P2 P3 P4),.int .i64 0]):=by
 have hnr:=Qcl c;refine Zb2 64 UB.ok58 rfl (by rw[noRefs,SU.Qa5];simp only[noRefs,noRef,Qaa];rfl) (by
  split;·rfl
  split;·rfl
  rw[noRef,noRefs,SU.Qa5];rfl) ?_;have hc3:=h.c3;have hr2:=h.r2;have hx2:=h.x2;have hk1:=h.k1;have o1:=QaZ s1;have n:∀P:List Nat,(nz P).map Int.toNat=P:=fun P=>by unfold nz;rw[List.map_map];exact(ZaH fun x _=>by show((x:Int)).toNat=x;omega).trans (ZbL P)
 have hs1:P1.Pairwise (·<·):=by have:=o1.2;unfold nz at this;rw[Za8]at this;exact this.imp fun h=>by omega
 have hlt1:=Qcd o1;have N:=Qcd (QaZ s3);have M:=Qcd (QaZ s4);rw[n]at hlt1 N M;have k1:=pick145 99 c.cs (nz P1) (by omega) (by simp;omega);have k2:=pick145 114 c.rs (nz P2) (by omega) (by simp;omega);have k3:=pick146 c.xs (nz P3) (by omega) (by simp;omega);have k4:=pick147 c.ks (nz P4) (by omega) (by simp;omega);rw[if_pos s1,n,QaO]at k1;rw[if_pos s2,n,QaO]at k2;rw[if_pos s3,n,QaO]at k3;rw[if_pos s4,n,QaO]at k4;unfold UB.s58;refine Zcx ?_;refine cp k1 ?_;refine Zcx ?_;refine cp k2 ?_;refine Zcx ?_;refine cp k3 ?_;refine Zcx ?_;refine cp k4 ?_;refine Zcx ?_;have a:noRefs [sliN P1,sliN P2,sliN P3,sliN P4]=true:=by simp only[noRefs,noRef,Qaa];rfl
 have g:noRefs [evsV c.ev,its 99 (pk P1 c.cs),its 114 (pk P2 c.rs),.nilsl,.nilsl]=true:=by rw[noRefs,noRefs,noRefs];simp only[noRef];rw[SU.Qaf,SU.Qaf];rfl
 have hnX:=SU.Qar (pk P3 c.xs);have hnK:=SU.QaI (pk P4 c.ks);refine Qaj 140 (fun i:Nat=>[(3,.ptr 50 0 0),(4,.ptr 53 0 0),(6,.ptr 54 0 0),(11,exs (pk P3 c.xs)),(12,cos (pk P4 c.ks)),(63,.sl 57 0 0 4 1),(64,.int .i64 4),(65,.int .i64 i)]) (fun i=>[(50,.cells 0 [sliN P1,sliN P2,sliN P3,sliN P4]),(53,.cells 0 [.nilsl,.nilsl,.nilsl,.nilsl,.nilsl]),(54,.cells 0 [evsV c.ev,its 99 (pk P1 c.cs),its 114 (pk P2 c.rs),.nilsl,.nilsl]),(57,.cells 0 [.int .i64 0,.int .i64 0,.int .i64 0,.int .i64 0])]) (fun i=>i<=4) (fun i=>4-i) 0 0 240 (fun _:Unit=>[(3,.ptr 50 0 0),(4,.ptr 53 0 0),(6,.ptr 54 0 0),(11,exs (pk P3 c.xs)),(12,cos (pk P4 c.ks))]) (fun _=>[(50,.cells 0 [sliN P1,sliN P2,sliN P3,sliN P4]),(53,.cells 0 [.nilsl,.nilsl,.nilsl,.nilsl,.nilsl]),(54,.cells 0 [evsV c.ev,its 99 (pk P1 c.cs),its 114 (pk P2 c.rs),.nilsl,.nilsl])]) (fun _=>True) ?_ (Zah _) ?_ ?_;·refine⟨[(50,.blk 65 0),(53,.blk 66 0),(54,.blk 71 0),(57,.blk 123 0)],rfl,au0,?_,au16⟩;exact Zca rfl rfl gg (Zb1 a) (Zca rfl rfl gg (Zb1 rfl) (Zca rfl rfl gg (Zb1 g) (Zca rfl rfl gg (Zb1 rfl) Zb9)))
 ·rintro i hi;have Z:i=0\/i=1\/i=2\/i=3\/i=4:=by omega
  rcases Z with rfl|rfl|rfl|rfl|rfl;·refine Zcx ?_;refine⟨1,by omega,by omega,?_⟩;refine⟨[(50,.blk 50 0),(53,.blk 53 0),(54,.blk 54 0),(57,.blk 57 0)],rfl,au0,?_,au16⟩;exact Zca rfl rfl gg (Zb1 a) (Zca rfl rfl gg (Zb1 rfl) (Zca rfl rfl gg (Zb1 g) (Zca rfl rfl gg (Zb1 rfl) Zb9)))
  ·refine Zcx ?_;refine⟨2,by omega,by omega,?_⟩;refine⟨[(50,.blk 50 0),(53,.blk 53 0),(54,.blk 54 0),(57,.blk 57 0)],rfl,au0,?_,au16⟩;exact Zca rfl rfl gg (Zb1 a) (Zca rfl rfl gg (Zb1 rfl) (Zca rfl rfl gg (Zb1 g) (Zca rfl rfl gg (Zb1 rfl) Zb9)))
  ·refine Zcx ?_;refine⟨3,by omega,by omega,?_⟩;refine⟨[(50,.blk 50 0),(53,.blk 53 0),(54,.blk 54 0),(57,.blk 57 0)],rfl,au0,?_,au16⟩;exact Zca rfl rfl gg (Zb1 a) (Zca rfl rfl gg (Zb1 rfl) (Zca rfl rfl gg (Zb1 g) (Zca rfl rfl gg (Zb1 rfl) Zb9)))
  ·refine Zcx ?_;refine⟨4,by omega,by omega,?_⟩;refine⟨[(50,.blk 50 0),(53,.blk 53 0),(54,.blk 54 0),(57,.blk 57 0)],rfl,au0,?_,au16⟩;exact Zca rfl rfl gg (Zb1 a) (Zca rfl rfl gg (Zb1 rfl) (Zca rfl rfl gg (Zb1 g) (Zca rfl rfl gg (Zb1 rfl) Zb9)))
  refine Zcx ?_;refine⟨(),?_⟩;refine⟨[(50,.blk 50 0),(53,.blk 53 0),(54,.blk 54 0)],rfl,au0,?_,au16⟩;exact Zca rfl rfl gg (Zb1 a) (Zca rfl rfl gg (Zb1 rfl) (Zca rfl rfl gg (Zb1 g) Zb9))
 rintro _ _;refine Zcx ?_;have hXl:=Qbz N;have hKl:=Qbz M;have hXw:∀x∈pk P3 c.xs,x.2≠[]/\x.2.length<=1000:=fun x u=>by have hm:=Qcm u;exact⟨(h.xl x hm).1,by have:=h.xlen hm;omega⟩
 have hKw:∀x∈pk P4 c.ks,x.1≠[]/\x.1.length<=1000:=fun x u=>by have hm:=Qcm u;exact⟨(h.kl x hm).1,by have:=h.klen hm;omega⟩
 have K:selM c P1 P3 P4=((pk P3 c.xs).any (missX P1)||(pk P4 c.ks).any (missK P1)):=rfl;have hrow3:noRefs [evsV c.ev,its 99 (pk P1 c.cs),its 114 (pk P2 c.rs)]=true:=by rw[noRefs,noRefs,noRefs];simp only[noRef];rw[SU.Qaf,SU.Qaf];rfl
 dsimp only[selC]at hE⊢;generalize selM c P1 P3 P4=SM at*;generalize pk P3 c.xs=XS at*;generalize pk P4 c.ks=KS at*;generalize L:its 99 (pk P1 c.cs)=AA at*;generalize J:its 114 (pk P2 c.rs)=BB at*;have b:noRef AA=true:=by rw[<-L];simp only[noRef];exact SU.Qaf _
 have d:noRef BB=true:=by rw[<-J];simp only[noRef];exact SU.Qaf _
 refine Qaj 300 (fun i:Nat=>[(3,.ptr 50 0 0),(4,.ptr 53 0 0),(6,.ptr 54 0 0),(12,cos KS),(74,exs XS),(75,.int .i64 XS.length),(76,.int .i64 i)]) (fun i=>[(50,.cells 0 [sliN P1,sliN P2,sliN P3,sliN P4]),(53,.cells 0 [.nilsl,.nilsl,.nilsl,.nilsl,.nilsl]),(54,.cells 0 [evsV c.ev,AA,BB,.sl 76 0 0 i 2,.nilsl]),(76,.cells 0 (((XS.take i).map (newX P1)).flatMap exC))]) (fun i=>i<=XS.length/\(XS.take i).any (missX P1)=false) (fun i=>XS.length-i) 0 2 560 (fun _:Unit=>[(3,.ptr 50 0 0),(4,.ptr 53 0 0),(6,.ptr 54 0 0),(12,cos KS)]) (fun _=>[(50,.cells 0 [sliN P1,sliN P2,sliN P3,sliN P4]),(53,.cells 0 [.nilsl,.nilsl,.nilsl,.nilsl,.nilsl]),(54,.cells 0 [evsV c.ev,AA,BB,exs (XS.map (newX P1)),.nilsl])]) (fun _=>XS.any (missX P1)=false) ?_ ⟨Zah _,rfl⟩ ?_ ?_;·refine⟨[(50,.blk 50 0),(53,.blk 53 0),(54,.blk 54 0),(76,.nil)],rfl,au0,?_,au16⟩;exact Zca rfl rfl gg (Zb1 a) (Zca rfl rfl gg (Zb1 rfl) (Zca rfl rfl gg (Zcg (Zb0 rfl) (Zcg (Zb0 b) (Zcg (Zb0 d) (Zcg (Rn.x4 rfl rfl) (Zcg (Zb0 rfl) Zcf))))) (Zcb rfl rfl Zb9)))
 ·rintro i⟨hi,S⟩;by_cases p:i<XS.length
  ·obtain⟨x,u⟩:=Qac p;have w:=Zae u;obtain⟨w1,w2⟩:=hXw x w;have B:=Qc4 u;have hdl:2<=((XS.flatMap exC).drop (i*2)).length:=by rw[B];simp
   have T:=clone148L x.2 w2 w1;refine Zcy (ZcA p B hdl) ?_;refine ch (HSpec.of_O (b:=483) (by(try simp only[noRefs,Qaa,Qad,noRef,noRefs,Zak,Zac,SU.QaD,SU.Qat])<;>rfl) T (by repeat(first|exact Fresh.e|exact Fresh.le (by assumption) (by omega)|refine Fresh.set ?_ (by omega) (by omega))) rfl) ?_;refine Zcx ?_;have z:=SU.Qbr ((XS.take i).map (newX P1));have U:(XS.take i).length=i:=by rw[Zar];omega
   rw[Zal,U]at z;have hD:(XS.take (i+1)).map (newX P1)=(XS.take i).map (newX P1)++[newX P1 x]:=by rw[take_succ' u,ZaQ];rfl
   have hM:(XS.take (i+1)).any (missX P1)=missX P1 x:=by rw[take_succ' u,Zbv,S,ZbH,ZbP,ZbG,Bool.false_or]
   have H:missX P1 x=true->SM=true:=fun hm=>by rw[K,Zbl.2 ⟨x,w,hm⟩];rfl
   generalize(XS.take i).map (newX P1)=D at*;have s:=SU.Qar D;refine Qaj 700 (fun k:Nat=>[(3,.ptr 50 0 0),(4,.ptr 53 0 0),(6,.ptr 54 0 0),(12,cos KS),(74,exs XS),(75,.int .i64 XS.length),(76,.int .i64 i),(16,.ptr 55 0 0),(86,.int .i64 x.2.length),(87,.int .i64 k)]) (fun k=>[(50,.cells 0 [sliN P1,sliN P2,sliN P3,sliN P4]),(53,.cells 0 [.nilsl,.nilsl,.nilsl,.nilsl,.nilsl]),(54,.cells 0 [evsV c.ev,AA,BB,.sl 76 0 0 i 2,.nilsl]),(55,.cells 0 [.str [101,UInt8.ofNat (48+x.1)],.sl 77 0 0 x.2.length 2]),(76,.cells 0 (D.flatMap exC)),(77,.cells 0 (((x.2.take k).map (fun l=>(lbN P1 l.1,l.2))++x.2.drop k).flatMap loC))]) (fun k=>k<=x.2.length/\((x.2.take k).any fun l=>!P1.contains l.1)=false) (fun k=>x.2.length-k) 0 4 780 (fun _:Unit=>[(3,.ptr 50 0 0),(4,.ptr 53 0 0),(6,.ptr 54 0 0),(12,cos KS),(74,exs XS),(75,.int .i64 XS.length),(76,.int .i64 i),(16,.ptr 55 0 0)]) (fun _=>[(50,.cells 0 [sliN P1,sliN P2,sliN P3,sliN P4]),(53,.cells 0 [.nilsl,.nilsl,.nilsl,.nilsl,.nilsl]),(54,.cells 0 [evsV c.ev,AA,BB,.sl 76 0 0 i 2,.nilsl]),(55,.cells 0 [.str [101,UInt8.ofNat (48+x.1)],los (x.2.map fun l=>(lbN P1 l.1,l.2))]),(76,.cells 0 (D.flatMap exC))]) (fun _=>missX P1 x=false) ?_ ⟨Zah _,rfl⟩ ?_ ?_;·refine⟨[(50,.blk 50 0),(53,.blk 53 0),(54,.blk 54 0),(55,.blk 303 0),(76,.blk 76 0),(77,.blk 483 0)],rfl,au0,?_,au16⟩;exact Zca rfl rfl gg (Zb1 a) (Zca rfl rfl gg (Zb1 rfl) (Zca rfl rfl gg (Zcg (Zb0 rfl) (Zcg (Zb0 b) (Zcg (Zb0 d) (Zcg (Rn.x1 rfl rfl) (Zcg (Zb0 rfl) Zcf))))) (Zca rfl rfl gg (Zcg (Zb0 rfl) (Zcg (Rn.x1 rfl rfl) Zcf)) (Zca rfl rfl gg (Zb1 s) (Zca rfl rfl gg (Zb1 (SU.QaD _)) Zb9)))))
   ·rintro k⟨hk,t⟩;by_cases j:k<x.2.length
    ·obtain⟨l,y⟩:=Qac j;have f:((((x.2.take k).map (fun l=>(lbN P1 l.1,l.2))++x.2.drop k).flatMap loC)).drop (k*2)=.int .i64 (l.1:Int)::.int .i64 (l.2:Int)::(x.2.drop (k+1)).flatMap loC:=by
      have:((x.2.take k).map (fun l=>(lbN P1 l.1,l.2))++x.2.drop k)[k]?=some l:=by rw[List.getElem?_append_right (by simp;omega),Zal,Zar,Nat.min_eq_left hk,Nat.sub_self,Zbi,Nat.add_zero,y]
      rw[QdG this,List.drop_append,List.drop_eq_nil_of_le (by simp;omega),ZaU,Zal,Zar,Nat.min_eq_left hk,Nat.add_sub_cancel_left,ZaL]
     have G:=index70 (nz P1) l.1 (by simp;omega);rw[QaO]at G;have hg:(((x.2.take k).map (fun l=>(lbN P1 l.1,l.2))++x.2.drop k).flatMap loC)[k*2]?=some (.int .i64 (l.1:Int)):=by rw[<-List.head?_drop,f];rfl
     have C:(((x.2.take k).map (fun l=>(lbN P1 l.1,l.2))++x.2.drop k).flatMap loC).length=x.2.length*2:=by rw[SU.QbP,Zai,Zal,Zar,ZaE];omega
     have hle:k*2+1<=x.2.length*2:=by omega
     have O:k*2<(((x.2.take k).map (fun l=>(lbN P1 l.1,l.2))++x.2.drop k).flatMap loC).length:=by omega
     have o:∀v:Nat,(((x.2.take k).map (fun l=>(lbN P1 l.1,l.2))++x.2.drop k).flatMap loC).set (k*2) (.int .i64 (v:Int))=((x.2.take k).map (fun l=>(lbN P1 l.1,l.2))++[(v,l.2)]++x.2.drop (k+1)).flatMap loC:=fun v=>by
      have e:x.2.drop k=l::x.2.drop (k+1):=by have X:=Zau.1 y;obtain⟨h1,h2⟩:=X;rw[List.drop_eq_getElem_cons h1,h2]
      rw[e];exact Qqw (by rw[Zal,Zar];omega)
     have F:=fun v:AV=>List.getElem?_set_self (a:=v) O;by_cases m:l.1∈P1
     ·rw[Qkd hs1 m]at G;have R:¬(lbN P1 l.1:Int)<0:=by omega
      refine Zcy (ZcA j f hg) ?_;refine cp G ?_;refine Zcy (ZcB C hle F R) ?_;refine⟨k+1,by omega,⟨by omega,?_⟩,?_⟩;·rw[take_succ' y,Zbv,t,ZbH,ZbP];simpa using m
      have e1:(x.2.take (k+1)).map (fun l=>(lbN P1 l.1,l.2))=(x.2.take k).map (fun l=>(lbN P1 l.1,l.2))++[(lbN P1 l.1,l.2)]:=by rw[take_succ' y,ZaQ];rfl
      rw[e1,<-o];have hnF:noRefs ((((x.2.take k).map (fun l=>(lbN P1 l.1,l.2))++x.2.drop k).flatMap loC).set (k*2) (.int .i64 (lbN P1 l.1:Int)))=true:=by rw[o];exact SU.QaD _
      refine⟨[(50,.blk 50 0),(53,.blk 53 0),(54,.blk 54 0),(55,.blk 55 0),(76,.blk 76 0),(77,.blk 77 0)],rfl,au0,?_,au16⟩;exact Zca rfl rfl gg (Zb1 a) (Zca rfl rfl gg (Zb1 rfl) (Zca rfl rfl gg (Zcg (Zb0 rfl) (Zcg (Zb0 b) (Zcg (Zb0 d) (Zcg (Rn.x1 rfl rfl) (Zcg (Zb0 rfl) Zcf))))) (Zca rfl rfl gg (Zcg (Zb0 rfl) (Zcg (Rn.x1 rfl rfl) Zcf)) (Zca rfl rfl gg (Zb1 s) (Zca rfl rfl gg (Zb1 hnF) Zb9)))))
     rw[QlG m]at G;have Y:SM=true:=H (Zbl.2 ⟨l,Zae y,by simpa using m⟩);subst Y;refine Zcy (ZcA j f hg) ?_;refine cp G ?_;refine Zcy (ZcA C hle F) ?_;exact⟨.inr trivial,_,rfl,Zb0 rfl⟩
    have e:k=x.2.length:=by omega
    subst e;have I:=SU.QbP (x.2.map fun l=>(lbN P1 l.1,l.2));rw[Zal]at I;simp(disch:=first|omega|exact PairsOK.mk rfl|(simp only[lenW]<;>omega))only[j,Zav,List.drop_length,Zax,wW,wV,simprocAttr];rw[Zav]at t;refine⟨(),t,?_⟩;refine⟨[(50,.blk 50 0),(53,.blk 53 0),(54,.blk 54 0),(55,.blk 55 0),(76,.blk 76 0)],rfl,au0,?_,au16⟩;exact Zca rfl rfl gg (Zb1 a) (Zca rfl rfl gg (Zb1 rfl) (Zca rfl rfl gg (Zcg (Zb0 rfl) (Zcg (Zb0 b) (Zcg (Zb0 d) (Zcg (Rn.x1 rfl rfl) (Zcg (Zb0 rfl) Zcf))))) (Zca rfl rfl gg (Zcg (Zb0 rfl) (Zcg (Zch (b:=77) (g:=0) (len:=x.2.length) gg rfl rfl (by rw[Zal]) (by rw[I]) (Zb1 (SU.QaD _))) Zcf)) (Zca rfl rfl gg (Zb1 s) Zb9))))
   rintro _ hmx;have r:noRefs (exC (newX P1 x))=true:=by simp only[exC,newX,noRefs,noRef];rw[SU.QaD];rfl
   refine Zcy z ?_;refine⟨i+1,by omega,⟨by omega,by rw[hM];exact hmx⟩,?_⟩;rw[hD,Zaq];refine⟨[(50,.blk 50 0),(53,.blk 53 0),(54,.blk 54 0),(76,.blk 76 1)],rfl,au0,?_,au16⟩;exact Zca rfl rfl gg (Zb1 a) (Zca rfl rfl gg (Zb1 rfl) (Zca rfl rfl gg (Zcg (Zb0 rfl) (Zcg (Zb0 b) (Zcg (Zb0 d) (Zcg (Rn.x1 rfl rfl) (Zcg (Zb0 rfl) Zcf))))) (Zca rfl rfl gg (Zb1 (SU.QaB (SU.Qar _) (by simpa using r))) Zb9)))
  have e:i=XS.length:=by omega
  subst e;have A:=SU.Qbr (XS.map (newX P1));rw[Zal]at A;rw[Zav]at S;refine Zcu p ?_;refine⟨(),S,?_⟩;refine⟨[(50,.blk 50 0),(53,.blk 53 0),(54,.blk 54 0)],rfl,au0,?_,au16⟩;exact Zca rfl rfl gg (Zb1 a) (Zca rfl rfl gg (Zb1 rfl) (Zca rfl rfl gg (Zcg (Zb0 rfl) (Zcg (Zb0 b) (Zcg (Zb0 d) (Zcg (Zch (b:=76) (g:=0) gg rfl rfl (by rw[Zal]) (by rw[A]) (Zb1 (SU.Qar _))) (Zcg (Zb0 rfl) Zcf))))) Zb9))
 rintro _ hmX;refine Zcx ?_;have q:noRef (exs (XS.map (newX P1)))=true:=by simp only[noRef];exact SU.Qar _
 generalize Q:exs (XS.map (newX P1))=EXS at*;refine Qaj 1300 (fun i:Nat=>[(3,.ptr 50 0 0),(4,.ptr 53 0 0),(6,.ptr 54 0 0),(120,cos KS),(121,.int .i64 KS.length),(122,.int .i64 i)]) (fun i=>[(50,.cells 0 [sliN P1,sliN P2,sliN P3,sliN P4]),(53,.cells 0 [.nilsl,.nilsl,.nilsl,.nilsl,.nilsl]),(54,.cells 0 [evsV c.ev,AA,BB,EXS,.sl 76 0 0 i 3]),(76,.cells 0 (((KS.take i).map (newK P1)).flatMap coC))]) (fun i=>i<=KS.length/\(KS.take i).any (missK P1)=false) (fun i=>KS.length-i) 0 6 1560 (fun _:Unit=>[(3,.ptr 50 0 0),(4,.ptr 53 0 0),(6,.ptr 54 0 0)]) (fun _=>[(50,.cells 0 [sliN P1,sliN P2,sliN P3,sliN P4]),(53,.cells 0 [.nilsl,.nilsl,.nilsl,.nilsl,.nilsl]),(54,.cells 0 [evsV c.ev,AA,BB,EXS,cos (KS.map (newK P1))])]) (fun _=>KS.any (missK P1)=false) ?_ ⟨Zah _,rfl⟩ ?_ ?_;·refine⟨[(50,.blk 50 0),(53,.blk 53 0),(54,.blk 54 0),(76,.nil)],rfl,au0,?_,au16⟩;exact Zca rfl rfl gg (Zb1 a) (Zca rfl rfl gg (Zb1 rfl) (Zca rfl rfl gg (Zcg (Zb0 rfl) (Zcg (Zb0 b) (Zcg (Zb0 d) (Zcg (Zb0 q) (Zcg (Rn.x4 rfl rfl) Zcf))))) (Zcb rfl rfl Zb9)))
 ·rintro i⟨hi,S⟩;by_cases p:i<KS.length
  ·obtain⟨x,u⟩:=Qac p;have w:=Zae u;obtain⟨w1,w2⟩:=hKw x w;have B:=Qc5 u;have hdl:3<=((KS.flatMap coC).drop (i*3)).length:=by rw[B];simp
   have T:=clone149L x.1 w2 w1;refine Zcy (ZcA p B hdl) ?_;refine ch (HSpec.of_O (b:=1483) (by(try simp only[noRefs,Qaa,Qad,noRef,noRefs,Zak,Zac,SU.QaD,SU.Qat])<;>rfl) T (by repeat(first|exact Fresh.e|exact Fresh.le (by assumption) (by omega)|refine Fresh.set ?_ (by omega) (by omega))) rfl) ?_;refine Zcx ?_;have z:=QbG ((KS.take i).map (newK P1));have U:(KS.take i).length=i:=by rw[Zar];omega
   rw[Zal,U]at z;have hD:(KS.take (i+1)).map (newK P1)=(KS.take i).map (newK P1)++[newK P1 x]:=by rw[take_succ' u,ZaQ];rfl
   have hM:(KS.take (i+1)).any (missK P1)=missK P1 x:=by rw[take_succ' u,Zbv,S,ZbH,ZbP,ZbG,Bool.false_or]
   have H:missK P1 x=true->SM=true:=fun hm=>by rw[K,Zbl.2 ⟨x,w,hm⟩,Bool.or_true]
   generalize(KS.take i).map (newK P1)=D at*;have s:=SU.QaI D;refine Qaj 1700 (fun k:Nat=>[(3,.ptr 50 0 0),(4,.ptr 53 0 0),(6,.ptr 54 0 0),(120,cos KS),(121,.int .i64 KS.length),(122,.int .i64 i),(19,.ptr 55 0 0),(132,.int .i64 x.1.length),(133,.int .i64 k)]) (fun k=>[(50,.cells 0 [sliN P1,sliN P2,sliN P3,sliN P4]),(53,.cells 0 [.nilsl,.nilsl,.nilsl,.nilsl,.nilsl]),(54,.cells 0 [evsV c.ev,AA,BB,EXS,.sl 76 0 0 i 3]),(55,.cells 0 [.str [107],.sl 77 0 0 x.1.length 2,.int .i64 x.2]),(76,.cells 0 (D.flatMap coC)),(77,.cells 0 (((x.1.take k).map (fun l=>(lbN P1 l.1,l.2))++x.1.drop k).flatMap teC))]) (fun k=>k<=x.1.length/\((x.1.take k).any fun l=>!P1.contains l.1)=false) (fun k=>x.1.length-k) 0 8 1780 (fun _:Unit=>[(3,.ptr 50 0 0),(4,.ptr 53 0 0),(6,.ptr 54 0 0),(120,cos KS),(121,.int .i64 KS.length),(122,.int .i64 i),(19,.ptr 55 0 0)]) (fun _=>[(50,.cells 0 [sliN P1,sliN P2,sliN P3,sliN P4]),(53,.cells 0 [.nilsl,.nilsl,.nilsl,.nilsl,.nilsl]),(54,.cells 0 [evsV c.ev,AA,BB,EXS,.sl 76 0 0 i 3]),(55,.cells 0 [.str [107],tes (x.1.map fun l=>(lbN P1 l.1,l.2)),.int .i64 x.2]),(76,.cells 0 (D.flatMap coC))]) (fun _=>missK P1 x=false) ?_ ⟨Zah _,rfl⟩ ?_ ?_;·refine⟨[(50,.blk 50 0),(53,.blk 53 0),(54,.blk 54 0),(55,.blk 1303 0),(76,.blk 76 0),(77,.blk 1483 0)],rfl,au0,?_,au16⟩;exact Zca rfl rfl gg (Zb1 a) (Zca rfl rfl gg (Zb1 rfl) (Zca rfl rfl gg (Zcg (Zb0 rfl) (Zcg (Zb0 b) (Zcg (Zb0 d) (Zcg (Zb0 q) (Zcg (Rn.x1 rfl rfl) Zcf))))) (Zca rfl rfl gg (Zcg (Zb0 rfl) (Zcg (Rn.x1 rfl rfl) (Zcg (Zb0 rfl) Zcf))) (Zca rfl rfl gg (Zb1 s) (Zca rfl rfl gg (Zb1 (SU.Qat _)) Zb9)))))
   ·rintro k⟨hk,t⟩;by_cases j:k<x.1.length
    ·obtain⟨l,y⟩:=Qac j;have f:((((x.1.take k).map (fun l=>(lbN P1 l.1,l.2))++x.1.drop k).flatMap teC)).drop (k*2)=.int .i64 (l.1:Int)::.int .i64 (l.2:Int)::(x.1.drop (k+1)).flatMap teC:=by
      have:((x.1.take k).map (fun l=>(lbN P1 l.1,l.2))++x.1.drop k)[k]?=some l:=by rw[List.getElem?_append_right (by simp;omega),Zal,Zar,Nat.min_eq_left hk,Nat.sub_self,Zbi,Nat.add_zero,y]
      rw[SU.Qb5 this,List.drop_append,List.drop_eq_nil_of_le (by simp;omega),ZaU,Zal,Zar,Nat.min_eq_left hk,Nat.add_sub_cancel_left,ZaL]
     have G:=index70 (nz P1) l.1 (by simp;omega);rw[QaO]at G;have hg:(((x.1.take k).map (fun l=>(lbN P1 l.1,l.2))++x.1.drop k).flatMap teC)[k*2]?=some (.int .i64 (l.1:Int)):=by rw[<-List.head?_drop,f];rfl
     have C:(((x.1.take k).map (fun l=>(lbN P1 l.1,l.2))++x.1.drop k).flatMap teC).length=x.1.length*2:=by rw[SU.Qbm,Zai,Zal,Zar,ZaE];omega
     have hle:k*2+1<=x.1.length*2:=by omega
     have O:k*2<(((x.1.take k).map (fun l=>(lbN P1 l.1,l.2))++x.1.drop k).flatMap teC).length:=by omega
     have o:∀v:Nat,(((x.1.take k).map (fun l=>(lbN P1 l.1,l.2))++x.1.drop k).flatMap teC).set (k*2) (.int .i64 (v:Int))=((x.1.take k).map (fun l=>(lbN P1 l.1,l.2))++[(v,l.2)]++x.1.drop (k+1)).flatMap teC:=fun v=>by
      have e:x.1.drop k=l::x.1.drop (k+1):=by have X:=Zau.1 y;obtain⟨h1,h2⟩:=X;rw[List.drop_eq_getElem_cons h1,h2]
      rw[e];exact Qqx (by rw[Zal,Zar];omega)
     have F:=fun v:AV=>List.getElem?_set_self (a:=v) O;by_cases m:l.1∈P1
     ·rw[Qkd hs1 m]at G;have R:¬(lbN P1 l.1:Int)<0:=by omega
      refine Zcy (ZcA j f hg) ?_;refine cp G ?_;refine Zcy (ZcB C hle F R) ?_;refine⟨k+1,by omega,⟨by omega,?_⟩,?_⟩;·rw[take_succ' y,Zbv,t,ZbH,ZbP];simpa using m
      have e1:(x.1.take (k+1)).map (fun l=>(lbN P1 l.1,l.2))=(x.1.take k).map (fun l=>(lbN P1 l.1,l.2))++[(lbN P1 l.1,l.2)]:=by rw[take_succ' y,ZaQ];rfl
      rw[e1,<-o];have hnF:noRefs ((((x.1.take k).map (fun l=>(lbN P1 l.1,l.2))++x.1.drop k).flatMap teC).set (k*2) (.int .i64 (lbN P1 l.1:Int)))=true:=by rw[o];exact SU.Qat _
      refine⟨[(50,.blk 50 0),(53,.blk 53 0),(54,.blk 54 0),(55,.blk 55 0),(76,.blk 76 0),(77,.blk 77 0)],rfl,au0,?_,au16⟩;exact Zca rfl rfl gg (Zb1 a) (Zca rfl rfl gg (Zb1 rfl) (Zca rfl rfl gg (Zcg (Zb0 rfl) (Zcg (Zb0 b) (Zcg (Zb0 d) (Zcg (Zb0 q) (Zcg (Rn.x1 rfl rfl) Zcf))))) (Zca rfl rfl gg (Zcg (Zb0 rfl) (Zcg (Rn.x1 rfl rfl) (Zcg (Zb0 rfl) Zcf))) (Zca rfl rfl gg (Zb1 s) (Zca rfl rfl gg (Zb1 hnF) Zb9)))))
     rw[QlG m]at G;have Y:SM=true:=H (Zbl.2 ⟨l,Zae y,by simpa using m⟩);subst Y;refine Zcy (ZcA j f hg) ?_;refine cp G ?_;refine Zcy (ZcA C hle F) ?_;exact⟨.inr trivial,_,rfl,Zb0 rfl⟩
    have e:k=x.1.length:=by omega
    subst e;have I:=SU.Qbm (x.1.map fun l=>(lbN P1 l.1,l.2));rw[Zal]at I;simp(disch:=first|omega|exact PairsOK.mk rfl|(simp only[lenW]<;>omega))only[j,Zav,List.drop_length,Zax,wW,wV,simprocAttr];rw[Zav]at t;refine⟨(),t,?_⟩;refine⟨[(50,.blk 50 0),(53,.blk 53 0),(54,.blk 54 0),(55,.blk 55 0),(76,.blk 76 0)],rfl,au0,?_,au16⟩;exact Zca rfl rfl gg (Zb1 a) (Zca rfl rfl gg (Zb1 rfl) (Zca rfl rfl gg (Zcg (Zb0 rfl) (Zcg (Zb0 b) (Zcg (Zb0 d) (Zcg (Zb0 q) (Zcg (Rn.x1 rfl rfl) Zcf))))) (Zca rfl rfl gg (Zcg (Zb0 rfl) (Zcg (Zch (b:=77) (g:=0) (len:=x.1.length) gg rfl rfl (by rw[Zal]) (by rw[I]) (Zb1 (SU.Qat _))) (Zcg (Zb0 rfl) Zcf))) (Zca rfl rfl gg (Zb1 s) Zb9))))
   rintro _ hmx;have r:noRefs (coC (newK P1 x))=true:=by simp only[coC,newK,noRefs,noRef];rw[SU.Qat];rfl
   refine Zcy z ?_;refine⟨i+1,by omega,⟨by omega,by rw[hM];exact hmx⟩,?_⟩;rw[hD,Zaq];refine⟨[(50,.blk 50 0),(53,.blk 53 0),(54,.blk 54 0),(76,.blk 76 1)],rfl,au0,?_,au16⟩;exact Zca rfl rfl gg (Zb1 a) (Zca rfl rfl gg (Zb1 rfl) (Zca rfl rfl gg (Zcg (Zb0 rfl) (Zcg (Zb0 b) (Zcg (Zb0 d) (Zcg (Zb0 q) (Zcg (Rn.x1 rfl rfl) Zcf))))) (Zca rfl rfl gg (Zb1 (SU.QaB (SU.QaI _) (by simpa using r))) Zb9)))
  have e:i=KS.length:=by omega
  subst e;have A:=QbG (KS.map (newK P1));rw[Zal]at A;rw[Zav]at S;refine Zcu p ?_;refine⟨(),S,?_⟩;refine⟨[(50,.blk 50 0),(53,.blk 53 0),(54,.blk 54 0)],rfl,au0,?_,au16⟩;exact Zca rfl rfl gg (Zb1 a) (Zca rfl rfl gg (Zb1 rfl) (Zca rfl rfl gg (Zcg (Zb0 rfl) (Zcg (Zb0 b) (Zcg (Zb0 d) (Zcg (Zb0 q) (Zcg (Zch (b:=76) (g:=0) gg rfl rfl (by rw[Zal]) (by rw[A]) (Zb1 (SU.QaI _))) Zcf))))) Zb9))
 rintro _ hmK;rw[hmX,hmK]at K;subst K;have V:=hE rfl;dsimp only[celV]at V;rw[L,J,Q]at V;have hnR:noRefs [evsV c.ev,AA,BB,EXS,cos (KS.map (newK P1))]=true:=by rw[noRefs,noRefs,noRefs,noRefs,noRefs,b,d,q];simp only[noRef];rw[SU.QaI];rfl
 have eV:celV ⟨c.ev,pk P1 c.cs,pk P2 c.rs,XS.map (newX P1),KS.map (newK P1)⟩=.agg [evsV c.ev,AA,BB,EXS,cos (KS.map (newK P1))]:=by rw[celV,L,J,Q]
 rw[eV];refine Zcx ?_;refine cp V ?_;by_cases h0:E=0
 ·have h1A:AA.one=true:=by rw[<-L];rfl
  have h1B:BB.one=true:=by rw[<-J];rfl
  have h1E:EXS.one=true:=by rw[<-Q];rfl
  have hfin:noRef (.tup [.agg [evsV c.ev,AA,BB,EXS,cos (KS.map (newK P1))],.int .i64 0])=true:=by show(noRefs [evsV c.ev,AA,BB,EXS,cos (KS.map (newK P1))]&&(true&&true))=true;rw[hnR];rfl
  refine Zcy (ZcB h0 h1A h1B h1E) ?_;refine⟨.inr trivial,_,rfl,?_⟩;rw[if_neg (by decide)];exact Zb0 hfin
 refine Zcy h0 ?_;exact⟨.inr trivial,_,rfl,Zb0 rfl⟩
end Go.AM.SO
namespace Go.AM.SO
open Go.Proofs Go.AM.SD Go.AM.SE
theorem QeQ{f:Nat}{args:List AV}{e:Int}{w:AV}(hw:noRef w=true)(h1:w.one=true/\w.cells=[w])(hp:PSpec Tryz.prog f args (if e=0 then .tup [w,.int .i64 0]else .tup [.nilsl,.int .i64 e])):∃v,noRef v=true/\(v.one=true/\v.cells=[v])/\PSpec Tryz.prog f args (.tup [v,.int .i64 e]):=by
 by_cases h:e=0;·rw[if_pos h]at hp;exact⟨w,hw,h1,by rw[h];exact hp⟩
 rw[if_neg h]at hp;exact⟨.nilsl,rfl,⟨rfl,rfl⟩,hp⟩
theorem _root_.Go.AM.au19{p:Prop}(h:p:=by repeat(first|exact Zb7|(refine Zb8 ?_ ?_;·(first|exact Rn.any|exact Rn.x1 rfl rfl|exact Rn.x2 rfl rfl|exact Rn.x3 rfl rfl|exact Rn.x4 rfl rfl|exact Rn.x5 rfl|exact Rn.x6 rfl|exact Rn.x7 rfl|(refine Rn.slot ?_ ?_;(first|rfl|(rw[ZaS];rfl));(first|rfl|(simp only[noRef,noRefs,Qah,Zak,Zac,Zag,Qaa,Qam,Qab,n3,n4];done)))|(refine Rn.fn ?_ ?_<;>(repeat'(first|exact Zcf|refine Zcg ?_ ?_|exact Zb0 rfl|exact Rn.x6 rfl|exact Rn.x2 rfl rfl|exact Rn.x5 rfl|exact Rn.x1 rfl rfl))))))):p:=h
theorem selected58E(c:Cel)(h:WfCel c)(X1 X2 X3 X4:List Int)(l1:X1.length<=1000)(l2:X2.length<=1000)(l3:X3.length<=1000)(l4:X4.length<=1000)(h0:selE c X1 X2 X3 X4≠0):PSpec Tryz.prog 58 [celV c,.agg [sli X1,sli X2,sli X3,sli X4]] (.tup [celN0,.int .i64 (selE c X1 X2 X3 X4)]):=by
 have hnr:=Qcl c;refine Zb2 64 UB.ok58 rfl (by rw[noRefs,SU.Qa5];simp only[noRefs,noRef,Qaa];rfl) rfl ?_;have hc3:=h.c3;have hr2:=h.r2;have hx2:=h.x2;have hk1:=h.k1;obtain⟨v1,n1,⟨f1,g1⟩,k1⟩:=QeQ (by simp only[noRef];exact SU.Qaf _) ⟨rfl,rfl⟩ (pick145 99 c.cs X1 (by omega) l1);obtain⟨v2,n2,⟨f2,g2⟩,k2⟩:=QeQ (by simp only[noRef];exact SU.Qaf _) ⟨rfl,rfl⟩ (pick145 114 c.rs X2 (by omega) l2);obtain⟨v3,n3,⟨f3,g3⟩,k3⟩:=QeQ (by simp only[noRef];exact SU.Qar _) ⟨rfl,rfl⟩ (pick146 c.xs X3 (by omega) l3);obtain⟨v4,n4,⟨f4,g4⟩,k4⟩:=QeQ (by simp only[noRef];exact SU.QaI _) ⟨rfl,rfl⟩ (pick147 c.ks X4 (by omega) l4);have hnp:noRefs [sli X1,sli X2,sli X3,sli X4]=true:=by simp only[noRefs,noRef,Qaa];rfl
 have hrow:noRefs [evsV c.ev,v1,v2,.nilsl,.nilsl]=true:=by rw[noRefs,noRefs,noRefs,n1,n2];rfl
 obtain⟨R,hR⟩:∃R,R=selE c X1 X2 X3 X4:=⟨_,rfl⟩;rw[<-hR]at h0⊢;unfold selE at hR;generalize setErr X1 c.cs.length=e1 at*;generalize setErr X2 c.rs.length=e2 at*;generalize setErr X3 c.xs.length=e3 at*;generalize setErr X4 c.ks.length=e4 at*;unfold UB.s58;refine Zcx ?_;refine cp k1 ?_;refine Zcy (ZcF f1 f2 f3 f4 g1 g2 g3 g4) ?_;refine cp k2 ?_;refine Zcy (ZcF f1 f2 f3 f4 g1 g2 g3 g4) ?_;refine cp k3 ?_;refine Zcy (ZcF f1 f2 f3 f4 g1 g2 g3 g4) ?_;refine cp k4 ?_;refine Zcy (ZcF f1 f2 f3 f4 g1 g2 g3 g4) ?_;refine Qaj 140 (fun i:Nat=>[(3,.ptr 50 0 0),(4,.ptr 53 0 0),(6,.ptr 54 0 0),(11,v3),(12,v4),(63,.sl 57 0 0 4 1),(64,.int .i64 4),(65,.int .i64 i)]) (fun i=>[(50,.cells 0 [sli X1,sli X2,sli X3,sli X4]),(53,.cells 0 [.nilsl,.nilsl,.nilsl,.nilsl,.nilsl]),(54,.cells 0 [evsV c.ev,v1,v2,.nilsl,.nilsl]),(57,.cells 0 [.int .i64 e1,.int .i64 e2,.int .i64 e3,.int .i64 e4])]) (fun i=>i<=3/\(0<i->e1=0)/\(1<i->e2=0)/\(2<i->e3=0)) (fun i=>4-i) 0 0 240 (fun _:Unit=>[]) (fun _=>[]) (fun _=>False) ?_ ⟨Zah _,fun h=>by omega,fun h=>by omega,fun h=>by omega⟩ ?_ (fun _ h=>h.elim);·refine⟨[(50,.blk 65 0),(53,.blk 66 0),(54,.blk 71 0),(57,.blk 123 0)],rfl,au0,?_,au19⟩;exact Zca rfl rfl gg (Zb1 hnp) (Zca rfl rfl gg (Zb1 rfl) (Zca rfl rfl gg (Zb1 hrow) (Zca rfl rfl gg (Zb1 rfl) Zb9)))
 rintro i⟨hi,p0,p1,p2⟩;have hcase:i=0\/i=1\/i=2\/i=3:=by omega
 rcases hcase with rfl|rfl|rfl|rfl
 ·by_cases z:e1=0;·subst z;refine Zcx ?_;refine⟨1,by omega,⟨by omega,by simp,fun h=>by omega,fun h=>by omega⟩,?_⟩;refine⟨[(50,.blk 50 0),(53,.blk 53 0),(54,.blk 54 0),(57,.blk 57 0)],rfl,au0,?_,au19⟩;exact Zca rfl rfl gg (Zb1 hnp) (Zca rfl rfl gg (Zb1 rfl) (Zca rfl rfl gg (Zb1 hrow) (Zca rfl rfl gg (Zb1 rfl) Zb9)))
  ·have hR':=hR.trans (QnX z);refine Zcy z ?_;exact⟨.inr trivial,_,rfl,by rw[hR'];exact Zb0 rfl⟩
 ·have q0:=p0 (by omega);by_cases z:e2=0;·subst z;refine Zcx ?_;refine⟨2,by omega,⟨by omega,fun _=>q0,by simp,fun h=>by omega⟩,?_⟩;refine⟨[(50,.blk 50 0),(53,.blk 53 0),(54,.blk 54 0),(57,.blk 57 0)],rfl,au0,?_,au19⟩;exact Zca rfl rfl gg (Zb1 hnp) (Zca rfl rfl gg (Zb1 rfl) (Zca rfl rfl gg (Zb1 hrow) (Zca rfl rfl gg (Zb1 rfl) Zb9)))
  ·have hR':=hR.trans (QnY q0 z);refine Zcy z ?_;exact⟨.inr trivial,_,rfl,by rw[hR'];exact Zb0 rfl⟩
 ·have q0:=p0 (by omega);have q1:=p1 (by omega);by_cases z:e3=0;·subst z;refine Zcx ?_;refine⟨3,by omega,⟨by omega,fun _=>q0,fun _=>q1,by simp⟩,?_⟩;refine⟨[(50,.blk 50 0),(53,.blk 53 0),(54,.blk 54 0),(57,.blk 57 0)],rfl,au0,?_,au19⟩;exact Zca rfl rfl gg (Zb1 hnp) (Zca rfl rfl gg (Zb1 rfl) (Zca rfl rfl gg (Zb1 hrow) (Zca rfl rfl gg (Zb1 rfl) Zb9)))
  ·have hR':=hR.trans (QnZ q0 q1 z);refine Zcy z ?_;exact⟨.inr trivial,_,rfl,by rw[hR'];exact Zb0 rfl⟩
 ·have hR':=hR.trans (Qn0 (p0 (by omega)) (p1 (by omega)) (p2 (by omega)));have z:¬e4=0:=fun h=>h0 (hR'.trans h);refine Zcy z ?_;exact⟨.inr trivial,_,rfl,by rw[hR'];exact Zb0 rfl⟩
end Go.AM.SO
namespace Go.AM.TX
open Go.Proofs
set_option maxHeartbeats 4000000
noncomputable section
def cf:YA.Cf:={most:=.pure}
def s101:SFn:=by
 refine(?f:YA.Yt Tryz.prog cf 101 [[1,2,6,7,8],[],[12,13,14],[5,15,16,17,18],[19,20]]) ?s ?h;case h=>exact YA.rr
 exact fun s _=>s
def s102:SFn:=by
 refine(?f:YA.Yt Tryz.prog cf 102 [[0],[6,7],[1,2,8],[1,8],[9,10],[2,5,11,12],[13],[2,9]]) ?s ?h;case h=>exact YA.rr
 exact fun s _=>s
def s104:SFn:=by
 refine(?f:YA.Yt Tryz.prog cf 104 [[1,2,6,7,8],[],[12,13,14],[5,15,16,17,18],[19,20]]) ?s ?h;case h=>exact YA.rr
 exact fun s _=>s
def s135:SFn:=by
 refine(?f:YA.Yt Tryz.prog cf 135 [[2],[6],[],[9,10],[11,12,13],[14,15,16,19,20,27,28,31],[3,4,5,32,33,34],[0,7,8,44,41,43,42,40,37,39,38,36,35,30,29,26,23,25,24,22,21,18,17,53,52,51,45],[2,45,46],[0,7,8,44,41,43,42,40,37,39,38,36,35,30,29,26,23,25,24,22,21,18,17,53,52,51,47,48,49,50,54]]) ?s ?h;case h=>exact YA.rr
 exact fun s _=>s
theorem ok101:okFn Tryz.prog 101 s101=true:=by kernel_rfl
theorem ok102:okFn Tryz.prog 102 s102=true:=by kernel_rfl
theorem ok104:okFn Tryz.prog 104 s104=true:=by kernel_rfl
theorem ok135:okFn Tryz.prog 135 s135=true:=by kernel_rfl
end
end Go.AM.TX
namespace Go.AM.SO
open Go.Proofs Go.AM.SD Go.AM.SE
theorem Qmn{s:List UInt8}{i:Nat}{b:UInt8}(h:s[i]?=some b):aIndex none (.str s) (.int .i64 (i:Int))=some (.int .u8 ((b.toNat:Nat):Int)):=by simp[aIndex,h]
def okC(i n:Nat):Bool:=decide (97<=n/\n<=122\/65<=n/\n<=90\/n=95\/0<i/\48<=n/\n<=57)
def nmOk(s:List UInt8):Bool:=(List.range s.length).all (fun i=>okC i (s.getD i 0).toNat)&&decide (0<s.length)&&decide (s.length<=32)
theorem QoM{s:List UInt8}{i:Nat}{b:UInt8}(h:s[i]?=some b)(a:okC i b.toNat=false):nmOk s=false:=by
 have:(List.range s.length).all (fun i=>okC i (s.getD i 0).toNat)=false:=by rw[List.all_eq_false];exact⟨i,ZaT.2 (Zau.1 h).1,by rw[QaM h,a];simp⟩
 unfold nmOk;rw[this];rfl
theorem QoN{s:List UInt8}(h:∀(i:Nat)b,s[i]?=some b->okC i b.toNat=true):nmOk s=(decide (0<s.length)&&decide (s.length<=32)):=by
 have:(List.range s.length).all (fun i=>okC i (s.getD i 0).toNat)=true:=by rw[ZaC];intro i hi;obtain⟨b,a⟩:=Qac (ZaT.1 hi);rw[QaM a];exact h i b a
 unfold nmOk;rw[this];rfl
theorem name135(s:List UInt8)(hl:s.length<=9223372036854775807):PSpec Tryz.prog 135 [.str s] (.bool (nmOk s)):=by
 refine Zb3 64 TX.ok135 rfl rfl rfl ?_;unfold TX.s135;refine Zcr ?_;refine Qay 100 (fun i:Nat=>[(0,.str s),(7,.int .i64 s.length),(8,.int .i64 i)]) (fun _=>[]) (fun i=>i<=s.length/\∀(j:Nat)b,j<i->s[j]?=some b->okC j b.toNat=true) (fun i=>s.length-i) 0 ⟨[],rfl,au0,au10,au9⟩ ⟨Zah _,fun j b hj=>absurd hj (Zaw _)⟩ ?_;rintro i⟨hi,hb⟩;by_cases hlt:i<s.length
 ·obtain⟨b,hx⟩:=Qac hlt;have hix:=Qmn hx;have go:okC i b.toNat=true->∀j c,j<i+1->s[j]?=some c->okC j c.toNat=true:=fun h j c hj hc=>by
   by_cases e:j=i;·subst e;rw[hx]at hc;cases hc;exact h
   ·exact hb j c (by omega) hc
  have bad:=fun h=>QoM hx h;have ke:okC i b.toNat=decide (97<=b.toNat/\b.toNat<=122\/65<=b.toNat/\b.toNat<=90\/b.toNat=95\/0<i/\48<=b.toNat/\b.toNat<=57):=rfl;have go:=fun h=>go (ke.trans (decide_eq_true h));have bad:=fun h=>bad (ke.trans (decide_eq_false h));clear ke;generalize b.toNat=n at*;have hcls:97<=n/\n<=122\/97<=n/\122<n\/n<97/\65<=n/\n<=90\/n<97/\90<n/\n=95\/n<97/\90<n/\n≠95\/n<65/\57<n\/n<65/\n<48\/48<=n/\n<=57:=by omega
  by_cases h0:(i:Int)=0;·rcases hcls with h|h|h|h|h|h|h|h;all_goals refine Zcs (ZcB hlt hix @decide_eq_true @decide_eq_false) ?_;first|exact⟨.inr trivial,_,rfl,by rw[bad (by omega)];rfl⟩|exact⟨i+1,by omega,⟨by omega,go (by omega)⟩,⟨[],rfl,au0,au10,au9⟩⟩
  ·rcases hcls with h|h|h|h|h|h|h|h;all_goals refine Zcs (ZcB hlt hix @decide_eq_true @decide_eq_false) ?_;first|exact⟨.inr trivial,_,rfl,by rw[bad (by omega)];rfl⟩|exact⟨i+1,by omega,⟨by omega,go (by omega)⟩,⟨[],rfl,au0,au10,au9⟩⟩
 ·have hA:=QoN fun j b hj=>hb j b (by have :=(Zau.1 hj).1;omega) hj;rw[hA];by_cases h0:0<s.length
  ·by_cases h3:s.length<=32;·refine Zcs (ZcA hlt @decide_eq_true @decide_eq_false) ?_;exact⟨.inr trivial,_,rfl,by simp[h0,h3,resOf,QaH]⟩
   ·refine Zcs (ZcA hlt @decide_eq_true @decide_eq_false) ?_;exact⟨.inr trivial,_,rfl,by simp[h0,h3,resOf,QaH]⟩
  ·refine Zcs (ZcA hlt @decide_eq_true @decide_eq_false) ?_;exact⟨.inr trivial,_,rfl,by simp[h0,resOf,QaH]⟩
end Go.AM.SO
namespace Go.AM.SO
open Go.Proofs Go.AM.SD Go.AM.SE
structure Evn where
 nm:List UInt8
 c:Bool
 o:Bool
 f:Bool
 flt:Int
def evnC(e:Evn):List AV:=[.str e.nm,.bool e.c,.bool e.o,.bool e.f,.int .i64 e.flt]
abbrev evns(l:List Evn):AV:=.fsl (l.flatMap evnC) l.length 5
theorem Qmu(l:List Evn):noRefs (l.flatMap evnC)=true:=QaJ (fun _=>rfl) l
theorem QeR(l:List Evn):noRef (evns l)=true:=by rw[evns,noRef];exact Qmu l
theorem QoO{l:List Evn}{i:Nat}{x:Evn}(h:l[i]?=some x):(l.flatMap evnC).drop (i*5)=.str x.nm::.bool x.c::.bool x.o::.bool x.f::.int .i64 x.flt::(l.drop (i+1)).flatMap evnC:=QaY (f:=evnC) (k:=5) (fun _=>rfl) h
def ev0:Evn:=⟨[],false,false,false,0⟩
def evnE(l:List Evn)(i:Nat):Int:=let x:=l.getD i ev0
 if nmOk x.nm=false then 7 else if x.nm∈(l.take i).map Evn.nm then 8 else if x.flt<0\/4<x.flt then 2 else if x.flt≠0/\(x.c=true\/x.o=true)then 13 else 0
def evErr(l:List Evn):Int:=if 32<l.length then 3 else fe (evnE l) l.length
theorem Qpy{l:List Evn}{i:Nat}{x:Evn}(h:l[i]?=some x):(l.take (i+1)).map Evn.nm=(l.take i).map Evn.nm++[x.nm]:=by rw[Zbe,h,ZaQ];rfl
theorem check82X(l:List Evn)(G:l.length<=9223372036854775807)(F:∀x∈l,x.nm.length<=9223372036854775807):PSpec Tryz.prog 82 [evns l] (.int .i64 (evErr l)):=by
 refine Zb3 64 ok82 rfl (by rw[noRefs,QeR];rfl) rfl ?_;have m:=QeR l;unfold evErr;by_cases r:32<l.length
 ·have q:(32:Int)<(l.length:Int):=by omega
  rw[if_pos r];unfold s82;refine Zcy q ?_;exact⟨.inr trivial,_,rfl,rfl⟩
 have q:¬(32:Int)<(l.length:Int):=by omega
 rw[if_neg r];unfold s82;refine Zcy q ?_;refine Qay 100 (fun i:Nat=>[(10,evns l),(11,.int .i64 l.length),(12,.int .i64 i),(3,.map 68 0)]) (fun i=>[(68,.map 0 (mapS yes ((l.take i).map Evn.nm)))]) (fun i=>i<=l.length/\∀j,j<i->evnE l j=0) (fun i=>l.length-i) 0 ?_ ⟨Zah _,fun j A=>absurd A (Zaw _)⟩ ?_;·refine⟨[(68,.blk 68 0)],rfl,Zb6,Zcc rfl rfl rfl trivial Zb9,Zb8 (Zb0 m) au9⟩
 rintro i⟨hi,w⟩;by_cases d:i<l.length
 ·obtain⟨x,t⟩:=Qac d;have s:=QoO t;have v:5<=((l.flatMap evnC).drop (i*5)).length:=by rw[s];simp
  have E:=name135 x.nm (F x (Zae t));have y:=Qpy t;have b:∀e:Int,evnE l i=e->e≠0->fe (evnE l) l.length=e:=fun e h C=>fe_at h C w d;have up:evnE l i=0->∀j,j<i+1->evnE l j=0:=fe_up w;have z:evnE l i=if nmOk x.nm=false then 7 else if x.nm∈(l.take i).map Evn.nm then 8 else if x.flt<0\/4<x.flt then 2 else if x.flt≠0/\(x.c=true\/x.o=true)then 13 else 0:=by unfold evnE;rw[QaM t]
  rw[z]at b up;clear z;generalize B:(l.take i).map Evn.nm=N at*;obtain⟨u,c,o,f,g⟩:=x;dsimp only at*;refine Zcy (ZcA d s v) ?_;refine cp E ?_;cases ho:nmOk u with|false=>refine Zcx ?_;exact⟨.inr trivial,_,rfl,by rw[b 7 (by rw[if_pos ho]) (by decide)];rfl⟩|true=>
   have a:¬nmOk u=false:=by rw[ho];decide
   refine Zcx ?_;by_cases hm:u∈N;·refine Qga rfl hm ?_;simp(disch:=first|omega|exact PairsOK.mk rfl|(simp only[lenW]<;>omega))only[yes,wW,wV,simprocAttr];exact⟨.inr trivial,_,rfl,by rw[b 8 (by rw[if_neg a,if_pos hm]) (by decide)];rfl⟩
   refine QcO rfl hm ?_;by_cases n:g<0;·refine Zcy n ?_;exact⟨.inr trivial,_,rfl,by rw[b 2 (by rw[if_neg a,if_neg hm,if_pos (by omega)]) (by decide)];rfl⟩
   by_cases p:4<g;·refine Zcy (Zcz n p) ?_;exact⟨.inr trivial,_,rfl,by rw[b 2 (by rw[if_neg a,if_neg hm,if_pos (by omega)]) (by decide)];rfl⟩
   by_cases k:g=0;·refine Zcy (ZcA n p k) ?_;refine QbO gg hm (by omega) ?_;refine Zcy @Qc3 ?_;refine⟨i+1,by omega,⟨by omega,up (by rw[if_neg a,if_neg hm,if_neg (by omega),if_neg (fun h=>h.1 k)])⟩,?_⟩;rw[y];refine⟨[(68,.blk 68 0)],rfl,Zb6,?_,Zb8 (Zb0 m) au9⟩;exact Zcc rfl rfl gg (Zco fun _ _=>Zb0 rfl) Zb9
   cases c with|true=>refine Zcy (ZcA n p k) ?_;exact⟨.inr trivial,_,rfl,by rw[b 13 (by rw[if_neg a,if_neg hm,if_neg (by omega),if_pos ⟨k,.inl rfl⟩]) (by decide)];rfl⟩|false=>cases o with|true=>refine Zcy (ZcA n p k) ?_;exact⟨.inr trivial,_,rfl,by rw[b 13 (by rw[if_neg a,if_neg hm,if_neg (by omega),if_pos ⟨k,.inr rfl⟩]) (by decide)];rfl⟩|false=>refine Zcy (ZcA n p k) ?_;refine QbO gg hm (by omega) ?_;refine Zcy @Qc3 ?_;refine⟨i+1,by omega,⟨by omega,up (by rw[if_neg a,if_neg hm,if_neg (by omega),if_neg (fun h=>h.2.elim (fun h=>by cases h) fun h=>by cases h)])⟩,?_⟩;rw[y];refine⟨[(68,.blk 68 0)],rfl,Zb6,?_,Zb8 (Zb0 m) au9⟩;exact Zcc rfl rfl gg (Zco fun _ _=>Zb0 rfl) Zb9
 refine Zcy d ?_;exact⟨.inr trivial,_,rfl,by rw[Qa6 fun j A=>w j (by omega)];rfl⟩
end Go.AM.SO
namespace Go.AM.SE
open Go.Proofs Go.AM.SD
structure WfG(a:Aut):Prop where
 al:a.al.Pairwise (·<·)al5:∀x∈a.al,x<32
 n5:a.n<=1000
 ms:a.ms.Pairwise (·<·)msn:∀x∈a.ms,x<a.n
 es:a.es.Pairwise fun x y=>x.1<y.1\/(x.1=y.1/\x.2.1<y.2.1)esn:∀e∈a.es,e.1<a.n/\e.2.2<a.n
 ev:∀e∈a.es,e.2.1∈a.al
theorem WfG.nd{a:Aut}(h:WfG a):a.ms.Nodup:=by rw[ZaJ];exact h.ms.imp fun h=>by omega
theorem WfG.srt{a:Aut}(h:WfG a):a.es.Pairwise fun x y=>x.1<=y.1:=h.es.imp fun h=>by omega
theorem out58G(a:Aut)(v:Nat)(h:WfG a)(b:a.es.length<=1000000)(n:v<=1000):PSpec Tryz.prog 199 [aV a,.int .i64 (v:Int)] (egsN (sOut a.es (fun _=>true) v)):=by
 have i:(froms a.es).Pairwise (·<=·):=by rw[Za8];exact h.srt
 have f:∀e∈a.es,e.1<=1000000:=fun e he=>by have:=(h.esn e he).1;have:=h.n5;omega
 have l:=find67 a.es v i f (by omega) b;have g:=find67b a.es (v+1) i f (by omega) b;have k:((v+1:Nat):Int)=(v:Int)+1:=by omega
 rw[k]at g;have ho:=QjX h.srt v;have j:=lb_le (l:=froms a.es) (t:=v+1);rw[Zal]at j;have hm:lbN (froms a.es) v<=lbN (froms a.es) (v+1):=List.countP_mono_left fun x _ m=>by simp at m⊢;omega
 generalize(froms a.es).contains v=o at*;generalize(froms a.es).contains (v+1)=b2 at*;generalize lbN (froms a.es) v=p at*;generalize lbN (froms a.es) (v+1)=q at*;have hlen:q-p=(sOut a.es (fun _=>true) v).length:=by rw[<-ho,Zar,ZaE];omega
 have d:(p:Int)<=(q:Int):=by omega
 have c:(q:Int)<=(a.es.length:Int):=by omega
 refine Zb2 64 ok199 rfl (by(try simp only[noRefs,Qax,Qao,Qap,Qaa,Qak,Qad,Qal,Qaz,Qag,noRef,Zak,Zac])<;>rfl) (QaE _) ?_;unfold s199;refine Zcx ?_;refine cp l ?_;refine Zcx ?_;refine cp g ?_;refine Zcy (Zcz d c) ?_;refine⟨.inr trivial,_,rfl,?_⟩;rw[Qfq,Qfr,ho,hlen];exact Zb0 (QaE _)
theorem canonical44G(a:Aut)(h:WfG a)(X:a.es.length<=1000000):PSpec Tryz.prog 150 [aV a] (aV (restr a tru)):=by
 have hn5:=h.n5;have hal:a.al.length<=32:=QaN 32 a.al (by rw[ZaJ];exact h.al.imp fun h=>by omega) h.al5;have hml:a.ms.length<=a.n:=QaN a.n a.ms h.nd h.msn;have N:a.ms.Pairwise (·<=·):=h.ms.imp fun h=>by omega
 have T:(a.n:Int)<=140737488355328:=by omega
 have R:(8:Int)*(a.n:Int)<=140737488355328:=by omega
 refine Zb2 40 ok150 rfl (by(try simp only[noRefs,Qax,Qao,Qap,Qaa,Qak,Qad,Qal,Qaz,Qag,noRef,Zak,Zac])<;>rfl) (Qcr _) ?_;unfold s150;refine Zcx ?_;refine ch (HSpec.of_O (b:=83) (by(try simp only[noRefs,Qax,Qao,Qap,Qaa,Qak,Qad,Qal,Qaz,Qag,noRef,Zak,Zac])<;>rfl) (clone56 a.al (by omega)) (by repeat(first|exact Fresh.e|exact Fresh.le (by assumption) (by omega)|refine Fresh.set ?_ (by omega) (by omega))) rfl) ?_;by_cases h0:a.n=0
 ·have K:(a.n:Int)=0:=by omega
  have e:sAll a tru=([],[]):=by unfold sAll;rw[h0];rfl
  have hr:restr a tru=⟨a.al,0,[],[]⟩:=by unfold restr;rw[e];rfl
  refine Zcy K ?_;refine⟨.inr trivial,_,rfl,?_⟩;rw[hr];exact Rn.agg (Zcg (Rn.fz0 (g:=0) rfl (by simp[ints]) (Zb1 (Qaa _))) (Zcg (Zb0 rfl) (Zcg Rn.nilK (Zcg Rn.nilK Zcf))))
 have K:¬(a.n:Int)=0:=by omega
 have J:0<a.n:=by omega
 have h0n:(0:Int)<(a.n:Int):=by omega
 refine Zcy (ZcB K T R @QjU) ?_;refine Qaj 100 (fun i:Nat=>[(1,.ptr 50 0 0),(2,.ptr 60 0 0),(3,.ptr 69 0 0),(4,.sl 78 0 0 a.n 1),(24,.int .i64 a.n),(25,.int .i64 i)]) (fun i=>[(50,.cells 0 (rsA a)),(60,.cells 0 rsN),(69,.cells 0 [.sl 83 0 0 a.al.length 1,.int .i64 0,.nilsl,.nilsl]),(83,.cells 0 (ints (nz a.al))),(78,.cells 0 (ints (List.replicate i (-1)++List.replicate (a.n-i) 0)))]) (fun i=>i<=a.n) (fun i=>a.n-i) 0 0 120 (fun _:Unit=>[(1,.ptr 50 0 0),(2,.ptr 60 0 0),(3,.ptr 69 0 0),(4,.sl 78 0 0 a.n 1)]) (fun _=>[(50,.cells 0 (rsA a)),(60,.cells 0 rsN),(69,.cells 0 [.sl 83 0 0 a.al.length 1,.int .i64 0,.nilsl,.nilsl]),(83,.cells 0 (ints (nz a.al))),(78,.cells 0 (ints (List.replicate a.n (-1))))]) (fun _=>True) ?_ (Zah _) ?_ ?_;·exact⟨[(50,.blk 40 0),(60,.blk 41 0),(69,.blk 46 0),(83,.blk 83 0),(78,.blk 53 0)],rfl,au0,au7,au8⟩
 ·rintro i hi;by_cases k:i<a.n
  ·have h1:i+1<=i+(a.n-i):=by omega
   refine Zcy (ZcB k h1 @Qcb (Qis k)) ?_;exact⟨i+1,by omega,by omega,⟨[(50,.blk 50 0),(60,.blk 60 0),(69,.blk 69 0),(83,.blk 83 0),(78,.blk 78 0)],rfl,au0,au7,au8⟩⟩
  have e:i=a.n:=by omega
  subst e;have e2:List.replicate a.n (-1:Int)++List.replicate (a.n-a.n) 0=List.replicate a.n (-1):=by simp
  refine Zcy k ?_;refine⟨(),?_⟩;rw[e2];exact⟨[(50,.blk 50 0),(60,.blk 60 0),(69,.blk 69 0),(83,.blk 83 0),(78,.blk 78 0)],rfl,au0,au7,au8⟩
 rintro _ _;have r:1<=a.n:=J;have m:=QjY J;refine Zcy (ZcB h0n r @Qcb m) ?_;have d:SI a.n a.es tru 0 (([0],[]):OE):=⟨⟨by simp,fun x hx=>by simp at hx;omega⟩,fun _ _=>rfl,Zah _,fun j v hj=>by omega,by simp⟩;have hq0:sQ a.es tru (a.n+1) 0 ([0],[])=sAll a tru:=by unfold sAll;rw[if_pos (by simp[J])]
 refine Qaj 180 (fun t:Nat×OE=>[(1,.ptr 50 0 0),(2,.ptr 60 0 0),(3,.ptr 69 0 0),(4,.sl 78 0 0 a.n 1),(6,.sl 75 0 0 t.2.1.length 1),(7,.int .i64 t.1)]) (fun t=>[(50,.cells 0 (rsA a)),(60,.cells 0 rsN),(69,.cells 0 (cnB a (mks a t.1 t.2.1).length t.2.2.length)),(83,.cells 0 (ints (nz a.al))),(78,.cells 0 (ints (pl a.n t.2.1))),(75,.cells 0 (ints (nz t.2.1))),(76,.cells 0 (t.2.2.flatMap edC)),(77,.cells 0 (ints (nz (mks a t.1 t.2.1))))]) (fun t=>t.1<=a.n/\SI a.n a.es tru t.1 t.2/\t.2.2.length<=t.1*1000000/\sQ a.es tru (a.n+1-t.1) t.1 t.2=sAll a tru) (fun t=>a.n+1-t.1) (0,([0],[])) 2 260 (fun _:Unit=>[(2,.ptr 60 0 0),(3,.ptr 69 0 0),(6,.sl 75 0 0 (sAll a tru).1.length 1)]) (fun _=>[(60,.cells 0 rsN),(69,.cells 0 (cnB a (restr a tru).ms.length (restr a tru).es.length)),(83,.cells 0 (ints (nz a.al))),(75,.cells 0 (ints (nz (sAll a tru).1))),(76,.cells 0 ((restr a tru).es.flatMap edC)),(77,.cells 0 (ints (nz (restr a tru).ms)))]) (fun _=>True) ?_ ⟨Zah _,d,Zah _,hq0⟩ ?_ ?_;·dsimp only;have O:mks a 0 [0]=[]:=rfl;rw[O];exact⟨[(50,.blk 50 0),(60,.blk 60 0),(69,.blk 69 0),(83,.blk 83 0),(78,.blk 78 0),(75,.blk 123 0),(76,.nil),(77,.nil)],rfl,au0,au7,au8⟩
 ·rintro⟨i,s⟩⟨hi,d,S,U⟩;dsimp only at hi d S U⊢;have hfl:=d.fi.len;have hile:=d.le;by_cases k:i<s.1.length
  ·obtain⟨v,z⟩:=Qac k;have hvn:=d.fi.lt v (Zae z);have C:i<a.n:=by omega
   have E:=d.step h.esn z;have L:sQ a.es tru (a.n+1-(i+1)) (i+1) (sRow a.es tru i v s)=sAll a tru:=by rw[<-U,show a.n+1-i=(a.n+1-(i+1))+1 by omega];simp only[sQ,z]
   have B:=fun j=>Qcq (n:=a.n) (left:=tru) i ((sOut a.es tru v).take j) s (fun e he=>⟨(h.esn e (QaV.1 (ZaR he)).1).2,rfl⟩) d.fi d.lft;have hol:=Qcs a.es tru v;have A:=Qgx (a:=a) z;have hmsl:=@Qhy a i s.1;have w:mks a (i+1) (sRow a.es tru i v s).1=mks a (i+1) s.1:=by obtain⟨_,_,⟨t,ht⟩,_⟩:=Qcq (n:=a.n) (left:=tru) i (sOut a.es tru v) s (fun e he=>⟨(h.esn e (QaV.1 he).1).2,rfl⟩) d.fi d.lft;have ht:(sRow a.es tru i v s).1=s.1++t:=ht;rw[ht,QlD (by omega)]
   have hc:=find57 a.ms v N (by omega);have ho:=out58G a v h X (by omega);generalize hM0:mks a i s.1=M0 at*;generalize hM:mks a (i+1) s.1=M at*;refine Zcy (Zcz k (Qcc (nz_at z))) ?_;refine cp hc ?_;by_cases o:a.ms.contains v=true
   ·rw[if_pos o]at A;rw[o];refine Zcy (Zcz k (Qcc (nz_at z))) ?_;refine cp ho ?_;refine Zcx ?_;refine Qaj 300 (fun j:Nat=>[(1,.ptr 50 0 0),(2,.ptr 60 0 0),(3,.ptr 69 0 0),(4,.sl 78 0 0 a.n 1),(6,.sl 75 0 0 (((sOut a.es tru v).take j).foldl (sEd i) s).1.length 1),(7,.int .i64 i),(63,egsN (sOut a.es tru v)),(64,.int .i64 (sOut a.es tru v).length),(65,.int .i64 j)]) (fun j=>[(50,.cells 0 (rsA a)),(60,.cells 0 rsN),(69,.cells 0 (cnB a M.length (((sOut a.es tru v).take j).foldl (sEd i) s).2.length)),(83,.cells 0 (ints (nz a.al))),(78,.cells 0 (ints (pl a.n (((sOut a.es tru v).take j).foldl (sEd i) s).1))),(75,.cells 0 (ints (nz (((sOut a.es tru v).take j).foldl (sEd i) s).1))),(76,.cells 0 ((((sOut a.es tru v).take j).foldl (sEd i) s).2.flatMap edC)),(77,.cells 0 (ints (nz M)))]) (fun j=>j<=(sOut a.es tru v).length) (fun j=>(sOut a.es tru v).length-j) 0 4 400 (fun _:Unit=>[(1,.ptr 50 0 0),(2,.ptr 60 0 0),(3,.ptr 69 0 0),(4,.sl 78 0 0 a.n 1),(6,.sl 75 0 0 (sRow a.es tru i v s).1.length 1),(7,.int .i64 i)]) (fun _=>[(50,.cells 0 (rsA a)),(60,.cells 0 rsN),(69,.cells 0 (cnB a M.length (sRow a.es tru i v s).2.length)),(83,.cells 0 (ints (nz a.al))),(78,.cells 0 (ints (pl a.n (sRow a.es tru i v s).1))),(75,.cells 0 (ints (nz (sRow a.es tru i v s).1))),(76,.cells 0 ((sRow a.es tru i v s).2.flatMap edC)),(77,.cells 0 (ints (nz M)))]) (fun _=>True) ?_ (Zah _) ?_ ?_;·rw[A,Zai,QaL,QaA];exact⟨[(50,.blk 50 0),(60,.blk 60 0),(69,.blk 69 0),(83,.blk 83 0),(78,.blk 78 0),(75,.blk 75 0),(76,.blk 76 0),(77,.blk 77 1)],rfl,au0,au7,au8⟩
    ·rintro j hj;by_cases f:j<(sOut a.es tru v).length
     ·obtain⟨e,he⟩:=Qac f;have F:=QaV.1 (Zae he);have c:=(h.esn e F.1).2;obtain⟨V,_,_,_,_⟩:=B j;have Y:=V.len;have b:=Qd5 (i:=i) (s:=s) he;have n:=QbJ (i:=i) ((sOut a.es tru v).take j) s;rw[Zar]at n;generalize(((sOut a.es tru v).take j).foldl (sEd i) s)=t at*;have l:=QbD t.2;have hpl:=Qdn (n:=a.n) (o:=t.1);have g:=Qdo (o:=t.1) c;have y:e.2.2<(pl a.n t.1).length:=by omega
      have r:e.2.2+1<=(pl a.n t.1).length:=by omega
      by_cases hc:e.2.2∈t.1
      ·have H:sEd i t e=(t.1,t.2++[(i,e.2.1,SD.idx t.1 e.2.2)]):=if_pos (by simpa using hc);rw[H]at b;rw[if_pos (by simpa using hc)]at g;have I:¬((SD.idx t.1 e.2.2:Nat):Int)<0:=by omega
       generalize SD.idx t.1 e.2.2=q at*;refine Zcy (ZcE f (QaU he) c (Qbh y) g I l) ?_;refine⟨j+1,by omega,by omega,?_⟩;rw[b,Zaq,Zai];exact⟨[(50,.blk 50 0),(60,.blk 60 0),(69,.blk 69 0),(83,.blk 83 0),(78,.blk 78 0),(75,.blk 75 0),(76,.blk 76 1),(77,.blk 77 0)],rfl,au0,au7,au8⟩
      have H:sEd i t e=(t.1++[e.2.2],t.2++[(i,e.2.1,t.1.length)]):=if_neg (by simpa using hc);rw[H]at b;rw[if_neg (by simpa using hc)]at g;have m:=Qhf (n:=a.n) hc;have I:(-1:Int)<0:=by decide
      have p:e.2.2<(pl a.n (t.1++[e.2.2])).length:=by rw[Qdn];exact c
      have u:(pl a.n (t.1++[e.2.2])).getD e.2.2 0=(t.1.length:Int):=by rw[Qdo c,if_pos (by simp),SD.QcZ hc]
      refine Zcy (ZcJ f (QaU he) c (Qbh y) g I l r @Qcb m (Qbh p) u) ?_;refine⟨j+1,by omega,by omega,?_⟩;rw[b,Zaq,Zai];dsimp only;rw[Zai,QaL,QaA];exact⟨[(50,.blk 50 0),(60,.blk 60 0),(69,.blk 69 0),(83,.blk 83 0),(78,.blk 78 0),(75,.blk 75 1),(76,.blk 76 1),(77,.blk 77 0)],rfl,au0,au7,au8⟩
     have e:j=(sOut a.es tru v).length:=by omega
     subst e;refine Zcy f ?_;refine⟨(),?_⟩;exact⟨[(50,.blk 50 0),(60,.blk 60 0),(69,.blk 69 0),(83,.blk 83 0),(78,.blk 78 0),(75,.blk 75 0),(76,.blk 76 0),(77,.blk 77 0)],rfl,au0,au7,au8⟩
    rintro _ _;have Q:(sRow a.es tru i v s).2.length=s.2.length+(sOut a.es tru v).length:=QbJ _ _;have P:=Qcs a.es tru v;refine Zcx ?_;refine⟨(i+1,sRow a.es tru i v s),by dsimp only;omega,⟨C,E,by dsimp only;omega,L⟩,?_⟩;dsimp only;rw[w];exact⟨[(50,.blk 50 0),(60,.blk 60 0),(69,.blk 69 0),(83,.blk 83 0),(78,.blk 78 0),(75,.blk 75 0),(76,.blk 76 0),(77,.blk 77 0)],rfl,au0,au7,au8⟩
   rw[if_neg o,Zax]at A;rw[Zaj]at o;rw[o];refine Zcy (Zcz k (Qcc (nz_at z))) ?_;refine cp ho ?_;refine Zcx ?_;refine Qaj 300 (fun j:Nat=>[(1,.ptr 50 0 0),(2,.ptr 60 0 0),(3,.ptr 69 0 0),(4,.sl 78 0 0 a.n 1),(6,.sl 75 0 0 (((sOut a.es tru v).take j).foldl (sEd i) s).1.length 1),(7,.int .i64 i),(63,egsN (sOut a.es tru v)),(64,.int .i64 (sOut a.es tru v).length),(65,.int .i64 j)]) (fun j=>[(50,.cells 0 (rsA a)),(60,.cells 0 rsN),(69,.cells 0 (cnB a M.length (((sOut a.es tru v).take j).foldl (sEd i) s).2.length)),(83,.cells 0 (ints (nz a.al))),(78,.cells 0 (ints (pl a.n (((sOut a.es tru v).take j).foldl (sEd i) s).1))),(75,.cells 0 (ints (nz (((sOut a.es tru v).take j).foldl (sEd i) s).1))),(76,.cells 0 ((((sOut a.es tru v).take j).foldl (sEd i) s).2.flatMap edC)),(77,.cells 0 (ints (nz M)))]) (fun j=>j<=(sOut a.es tru v).length) (fun j=>(sOut a.es tru v).length-j) 0 4 400 (fun _:Unit=>[(1,.ptr 50 0 0),(2,.ptr 60 0 0),(3,.ptr 69 0 0),(4,.sl 78 0 0 a.n 1),(6,.sl 75 0 0 (sRow a.es tru i v s).1.length 1),(7,.int .i64 i)]) (fun _=>[(50,.cells 0 (rsA a)),(60,.cells 0 rsN),(69,.cells 0 (cnB a M.length (sRow a.es tru i v s).2.length)),(83,.cells 0 (ints (nz a.al))),(78,.cells 0 (ints (pl a.n (sRow a.es tru i v s).1))),(75,.cells 0 (ints (nz (sRow a.es tru i v s).1))),(76,.cells 0 ((sRow a.es tru i v s).2.flatMap edC)),(77,.cells 0 (ints (nz M)))]) (fun _=>True) ?_ (Zah _) ?_ ?_;·rw[A];exact⟨[(50,.blk 50 0),(60,.blk 60 0),(69,.blk 69 0),(83,.blk 83 0),(78,.blk 78 0),(75,.blk 75 0),(76,.blk 76 0),(77,.blk 77 0)],rfl,au0,au7,au8⟩
   ·rintro j hj;by_cases f:j<(sOut a.es tru v).length
    ·obtain⟨e,he⟩:=Qac f;have F:=QaV.1 (Zae he);have c:=(h.esn e F.1).2;obtain⟨V,_,_,_,_⟩:=B j;have Y:=V.len;have b:=Qd5 (i:=i) (s:=s) he;have n:=QbJ (i:=i) ((sOut a.es tru v).take j) s;rw[Zar]at n;generalize(((sOut a.es tru v).take j).foldl (sEd i) s)=t at*;have l:=QbD t.2;have hpl:=Qdn (n:=a.n) (o:=t.1);have g:=Qdo (o:=t.1) c;have y:e.2.2<(pl a.n t.1).length:=by omega
     have r:e.2.2+1<=(pl a.n t.1).length:=by omega
     by_cases hc:e.2.2∈t.1
     ·have H:sEd i t e=(t.1,t.2++[(i,e.2.1,SD.idx t.1 e.2.2)]):=if_pos (by simpa using hc);rw[H]at b;rw[if_pos (by simpa using hc)]at g;have I:¬((SD.idx t.1 e.2.2:Nat):Int)<0:=by omega
      generalize SD.idx t.1 e.2.2=q at*;refine Zcy (ZcE f (QaU he) c (Qbh y) g I l) ?_;refine⟨j+1,by omega,by omega,?_⟩;rw[b,Zaq,Zai];exact⟨[(50,.blk 50 0),(60,.blk 60 0),(69,.blk 69 0),(83,.blk 83 0),(78,.blk 78 0),(75,.blk 75 0),(76,.blk 76 1),(77,.blk 77 0)],rfl,au0,au7,au8⟩
     have H:sEd i t e=(t.1++[e.2.2],t.2++[(i,e.2.1,t.1.length)]):=if_neg (by simpa using hc);rw[H]at b;rw[if_neg (by simpa using hc)]at g;have m:=Qhf (n:=a.n) hc;have I:(-1:Int)<0:=by decide
     have p:e.2.2<(pl a.n (t.1++[e.2.2])).length:=by rw[Qdn];exact c
     have u:(pl a.n (t.1++[e.2.2])).getD e.2.2 0=(t.1.length:Int):=by rw[Qdo c,if_pos (by simp),SD.QcZ hc]
     refine Zcy (ZcJ f (QaU he) c (Qbh y) g I l r @Qcb m (Qbh p) u) ?_;refine⟨j+1,by omega,by omega,?_⟩;rw[b,Zaq,Zai];dsimp only;rw[Zai,QaL,QaA];exact⟨[(50,.blk 50 0),(60,.blk 60 0),(69,.blk 69 0),(83,.blk 83 0),(78,.blk 78 0),(75,.blk 75 1),(76,.blk 76 1),(77,.blk 77 0)],rfl,au0,au7,au8⟩
    have e:j=(sOut a.es tru v).length:=by omega
    subst e;refine Zcy f ?_;refine⟨(),?_⟩;exact⟨[(50,.blk 50 0),(60,.blk 60 0),(69,.blk 69 0),(83,.blk 83 0),(78,.blk 78 0),(75,.blk 75 0),(76,.blk 76 0),(77,.blk 77 0)],rfl,au0,au7,au8⟩
   rintro _ _;have Q:(sRow a.es tru i v s).2.length=s.2.length+(sOut a.es tru v).length:=QbJ _ _;have P:=Qcs a.es tru v;refine Zcx ?_;refine⟨(i+1,sRow a.es tru i v s),by dsimp only;omega,⟨C,E,by dsimp only;omega,L⟩,?_⟩;dsimp only;rw[w];exact⟨[(50,.blk 50 0),(60,.blk 60 0),(69,.blk 69 0),(83,.blk 83 0),(78,.blk 78 0),(75,.blk 75 0),(76,.blk 76 0),(77,.blk 77 0)],rfl,au0,au7,au8⟩
  have z:s.1[i]?=none:=ZaA (by omega);have G:s=sAll a tru:=by rw[<-U,show a.n+1-i=(a.n-i)+1 by omega];simp only[sQ,z]
  have Z:i=s.1.length:=by omega
  have hmf:mks a i s.1=(restr a tru).ms:=by rw[Z,G];rfl
  have hef:s.2=(restr a tru).es:=by rw[G];rfl
  refine Zcy k ?_;refine⟨(),?_⟩;rw[hmf,hef,<-G];exact⟨[(60,.blk 60 0),(69,.blk 69 0),(83,.blk 83 0),(75,.blk 75 0),(76,.blk 76 0),(77,.blk 77 0)],rfl,au0,au7,au8⟩
 rintro _ _;have hra:(restr a tru).al=a.al:=rfl;have hrn2:(restr a tru).n=(sAll a tru).1.length:=rfl;refine Zcx ?_;refine⟨.inr trivial,_,rfl,?_⟩;exact Rn.agg (Zcg (Rn.fz0 (g:=0) rfl (by simp[ints,hra]) (Zb1 (Qaa _))) (Zcg (Zb0 rfl) (Zcg (Rn.fz0 (g:=0) rfl (by simp[ints]) (Zb1 (Qaa _))) (Zcg (Rn.fz0 (g:=0) rfl (QbD _) (Zb1 (Qad _))) Zcf))))
end Go.AM.SE
namespace Go.AM.SO
open Go.Proofs Go.AM.SD Go.AM.SE
def natA(a:Au):Aut:=⟨a.al.map Int.toNat,a.n.toNat,a.ms.map Int.toNat,a.es.map fun e=>(e.fr.toNat,e.ev.toNat,e.to.toNat)⟩
theorem Qke{l:List Int}(h:∀x∈l,0<=x):nz (l.map Int.toNat)=l:=by
 rw[nz,List.map_map];conv=>rhs;rw[<-ZbL l]
 refine ZaH fun x a=>?_;have:=h x a;simp;omega
theorem Qfv{l:List Int}{n:Int}(h:SetOk l n):(l.map Int.toNat).Pairwise (·<·):=by rw[Za8];refine h.2.imp_of_mem fun{x y}b c a=>?_;have:=(h.1 x b).1;omega
theorem Qqy{a:Au}(h:edgErr a=0){i:Nat}{x:Eg}(b:a.es[i]?=some x):(0<=x.fr/\x.fr<a.n/\0<=x.to/\x.to<a.n/\x.ev∈a.al)/\∀y,0<i->a.es[i-1]?=some y->y.fr<x.fr\/y.fr=x.fr/\y.ev<x.ev:=by
 have:=Qhx h i (Zau.1 b).1;unfold edgE at this;dsimp only at this;rw[QaM b]at this;split at this;·cases this
 split at this;·cases this
 split at this;·cases this
 rename_i q1 q2 d;refine⟨⟨by omega,by omega,by omega,by omega,by simpa using q2⟩,fun y f c=>?_⟩;rw[QaM c]at d;omega
theorem Qn1{α:Type}{R:α->α->Prop}(j:∀a b c,R a b->R b c->R a c):∀{l:List α},(∀(i:Nat)x y,l[i]?=some x->l[i+1]?=some y->R x y)->l.Pairwise R
 |[],_=>List.Pairwise.nil|[x],_=>by simp|x::y::l,h=>by
  have g:=Qn1 j (l:=y::l) fun i a b m k=>h (i+1) a b (by simpa using m) (by simpa using k);rw[Zaz];refine⟨fun z f=>?_,g⟩;have d:=h 0 x y rfl rfl;rcases ZaF.1 f with rfl|f;·exact d
  exact j _ _ _ d ((Zaz.1 g).1 z f)
theorem QeS{a:Au}(h:auErr a=0)(w:a.n<=1000):au (natA a)=a/\WfG (natA a):=by
 unfold auErr at h;split at h;·rename_i q;exact absurd h q
 rename_i h1;split at h;·cases h
 rename_i m;split at h;·cases h
 rename_i s;split at h;·rename_i q;exact absurd h q
 rename_i o;have s1:=QaZ (by simpa using h1);have s2:=QaZ (by simpa using o);have he:=fun(i:Nat)x d=>Qqy h (i:=i) (x:=x) d;have g:∀x∈a.es,0<=x.fr/\x.fr<a.n/\0<=x.to/\x.to<a.n/\x.ev∈a.al:=fun x d=>by obtain⟨i,hi,rfl⟩:=ZaX d;exact(he i _ (Zad hi)).1
 have k:∀x∈a.es,0<=x.ev:=fun x d=>(s1.1 x.ev (g x d).2.2.2.2).1;constructor
 ·show(⟨nz _,_,nz _,_⟩:Au)=a;obtain⟨p,n,ms,es⟩:=a;simp only[natA,Au.mk.injEq]at*;refine⟨Qke fun x d=>(s1.1 x d).1,by omega,Qke fun x d=>(s2.1 x d).1,?_⟩;rw[List.map_map];conv=>rhs;rw[<-ZbL es]
  refine ZaH fun x d=>?_;have q:=g x d;have q2:=k x d;obtain⟨f,v,t⟩:=x;simp only[Function.comp,eg,id,Eg.mk.injEq]at*;omega
 refine⟨Qfv s1,fun x d=>?_,by show a.n.toNat<=1000;omega,Qfv s2,fun x d=>?_,?_,fun e d=>?_,fun e d=>?_⟩;·obtain⟨y,j,rfl⟩:=Zas.1 (show x∈a.al.map Int.toNat from d);have:=s1.1 y j;omega
 ·obtain⟨y,j,rfl⟩:=Zas.1 (show x∈a.ms.map Int.toNat from d);have:=s2.1 y j;show y.toNat<a.n.toNat;omega
 ·show(a.es.map _).Pairwise _;rw[Za8];have hp:a.es.Pairwise fun x y=>x.fr<y.fr\/x.fr=y.fr/\x.ev<y.ev:=Qn1 (fun a b c h1 m=>by omega) fun i x y d j=>by have:=(he (i+1) y j).2 x (by omega) (by simpa using d);omega
  refine hp.imp_of_mem fun{x y}d j l=>?_;have q1:=g x d;have q2:=g y j;have u:=k x d;have r:=k y j;show x.fr.toNat<y.fr.toNat\/x.fr.toNat=y.fr.toNat/\x.ev.toNat<y.ev.toNat;omega
 ·obtain⟨y,j,rfl⟩:=Zas.1 (show e∈a.es.map _ from d);have q:=g y j;show y.fr.toNat<a.n.toNat/\y.to.toNat<a.n.toNat;omega
 obtain⟨y,j,rfl⟩:=Zas.1 (show e∈a.es.map _ from d);exact Zas.2 ⟨y.ev,(g y j).2.2.2.2,rfl⟩
theorem QoP{a:Aut}{left:Nat->Bool}(h:WfG a):SI a.n a.es left (sAll a left).1.length (sAll a left)/\∃t,(sAll a left).1=(if decide (0<a.n)&&left 0 then[0]else[])++t:=by
 refine sQ_ok h.esn (a.n+1) 0 _ ?_ (by omega);refine⟨?_,fun x b=>?_,Zah _,fun j v c=>by omega,by simp⟩
 ·split;·rename_i hc;simp only[Zab,decide_eq_true_eq]at hc;exact⟨by simp,fun x b=>by simp at b;omega⟩
  exact⟨by simp,fun x b=>by cases b⟩
 dsimp only at b;split at b;·rename_i hc;simp only[Zab]at hc;simp at b;subst b;exact hc.2
 cases b
theorem sQ_es{es:List Ed}{left:Nat->Bool}:∀(k i:Nat)(s:OE),(sQ es left k i s).2.length<=s.2.length+k*es.length|0,_,_=>by simp[sQ]|k+1,i,s=>by unfold sQ;cases s.1[i]? with|none=>dsimp only;omega|some v=>dsimp only;have h1:=sQ_es (es:=es) (left:=left) k (i+1) (sRow es left i v s);have a:(sRow es left i v s).2.length=s.2.length+(sOut es left v).length:=QbJ _ _;have b:=Qcs es left v;have c:(k+1)*es.length=k*es.length+es.length:=Za3 _ _;omega
theorem QkU{a:Aut}(h:WfG a)(b:a.es.length<=9000):AOk (restr a tru):=by
 obtain⟨h1,_⟩:=QoP (left:=tru) h;have c:=h1.fi.len;have d:=h.n5;refine⟨?_,?_,?_⟩;·show a.al.length<=_;have:=Qbf h.al h.al5;omega
 ·show((List.range _).filter _).length<=_;refine ZaI (ZbE _ _) ?_;rw[List.length_range];omega
 show(sAll a tru).2.length<=_;refine ZaI (sQ_es _ _ _) ?_;have:=Nat.mul_le_mul (show a.n+1<=1001 by omega) b;simp only[ZaO];omega
def caB(a:Au):Bool:=decide (auErr a=0)&&autB (natA a) (restr (natA a) tru)
theorem isCanon60X(a:Au)(h1:a.al.length<=9223372036854775807)(h:a.ms.length<=9223372036854775807)(n:a.es.length<=9000)(j:a.n<=1000):PSpec Tryz.prog 60 [auV a] (.bool (caB a)):=by
 refine Zb3 64 ok60 rfl (by(try simp only[noRefs,Qaa,Qak,Qad,Qal,Qag,noRef,Zak,Zac])<;>rfl) rfl ?_;have c:=check37X a h1 h (by omega);unfold caB;by_cases b:auErr a=0
 ·obtain⟨e,hw⟩:=QeS b j;have d:(natA a).es.length<=9000:=by show(a.es.map _).length<=_;rw[Zal];exact n
  have m:(natA a).ms.length<=(natA a).n:=QaN _ _ hw.nd hw.msn;have l:=Qbf hw.al hw.al5;have k:=hw.n5;have g:=canonical44G (natA a) hw (by omega);have f:=eq43 (natA a) (restr (natA a) tru) ⟨by omega,by omega,by omega⟩ (QkU hw d);have i:aV (natA a)=auV a:=by rw[<-Qnt,e]
  rw[i]at g f;rw[b]at c;unfold s60;refine Zcr ?_;refine cp c ?_;refine Zcr ?_;refine cp g ?_;refine Zcr ?_;refine cp f ?_;refine Zcr ?_;exact⟨.inr trivial,_,rfl,by simp[b,resOf,QaH]⟩
 unfold s60;refine Zcr ?_;refine cp c ?_;refine Zcs b ?_;exact⟨.inr trivial,_,rfl,by simp[b,resOf,QaH]⟩
end Go.AM.SO
namespace Go.AM.SO
open Go.Proofs Go.AM.SD Go.AM.SE
abbrev Itn:=List UInt8×Au
def itV(x:Itn):List AV:=[.str x.1,sli x.2.al,.int .i64 x.2.n,sli x.2.ms,egs x.2.es]
structure ItOk(x:Itn):Prop where
 nm:x.1.length<=9223372036854775807
 al:x.2.al.length<=9223372036854775807
 ms:x.2.ms.length<=9223372036854775807
 es:x.2.es.length<=9000
 n:x.2.n<=1000
def minB(A B:List Nat):Bool:=decide ((mrg (fun a b=>a&&!b) A B).length=0)
def itE2(E:Int)(B:List Nat)(a:Au):Int:=if auErr a≠0 then auErr a else if caB a=false then 6 else if a.n=0 then 12 else if(natA a).al.any (fun x=>decide (E<=(x:Int)))=true then 2 else if minB (natA a).al B=false then 9 else 0
def itEr(E:Int)(B:List Nat)(N:List (List UInt8))(x:Itn):Int:=if nmOk x.1=false then 7 else if x.1∈N then 8 else itE2 E B x.2
def itNs(N:List (List UInt8))(x:Itn):List (List UInt8):=if nmOk x.1=false\/x.1∈N then N else N++[x.1]
theorem Qkf{E:Int}{B:List Nat}{N:List (List UInt8)}{x:Itn}(h:nmOk x.1=false):itEr E B N x=7/\itNs N x=N:=⟨if_pos h,if_pos (.inl h)⟩
theorem Qkg{E:Int}{B:List Nat}{N:List (List UInt8)}{x:Itn}(h:nmOk x.1=true)(hm:x.1∈N):itEr E B N x=8/\itNs N x=N:=by
 have a:¬nmOk x.1=false:=by rw[h];decide
 exact⟨(if_neg a).trans (if_pos hm),if_pos (.inr hm)⟩
theorem Qkh{E:Int}{B:List Nat}{N:List (List UInt8)}{x:Itn}(h:nmOk x.1=true)(hm:x.1∉N):itEr E B N x=itE2 E B x.2/\itNs N x=N++[x.1]:=by
 have a:¬nmOk x.1=false:=by rw[h];decide
 exact⟨(if_neg a).trans (if_neg hm),if_neg fun k=>k.elim a hm⟩
theorem ge166X(x:Nat)(E:Int):PSpec Tryz.prog 166 [.int .i64 (x:Int),.fptr [.int .i64 E]] (.bool (decide (E<=(x:Int)))):=by refine Zb3 64 ok166 rfl rfl rfl ?_;unfold s166;refine Zcx ?_;exact⟨.inr trivial,_,rfl,rfl⟩
theorem Qdv(x:Itn):noRefs (itV x)=true:=by unfold itV;simp only[noRefs,noRef,Qam,Qa4,Qaa,Qak,Zac,Zag]
theorem _root_.Go.AM.au20{p:Prop}(h:p:=by repeat(first|exact Zb7|(refine Zb8 ?_ ?_;·(first|exact Rn.any|exact Rn.x1 rfl rfl|exact Rn.x2 rfl rfl|exact Rn.x3 rfl rfl|exact Rn.x4 rfl rfl|exact Rn.x5 rfl|exact Rn.x6 rfl|exact Rn.x7 rfl|(refine Rn.slot ?_ ?_;(first|rfl|(rw[ZaS];rfl));(first|rfl|(simp only[noRef,noRefs,Qah,Zak,Zac,Zag,Qaa,Qam,Qab,Qa4];done)))|(refine Rn.fn ?_ ?_<;>(repeat'(first|exact Zcf|refine Zcg ?_ ?_|exact Zb0 rfl|exact Rn.x6 rfl|exact Rn.x2 rfl rfl|exact Rn.x5 rfl|exact Rn.x1 rfl rfl))))))):p:=h
theorem item83X(x:Itn)(E:Int)(B:List Nat)(N:List (List UInt8))(h:ItOk x)(w:N.length<=100)(l:B.length<=1000000):HSpec Tryz.prog 83 [.agg (itV x),.int .i64 E,sliN B,.map 68 0] (hp [(68,nmsB N)]) (.int .i64 (itEr E B N x)) (hp [(68,nmsB (itNs N x))]):=by obtain⟨f,a⟩:=x;have p:=name135 f h.nm;have u:=check37X a h.al h.ms (by have:=h.es;dsimp only at this;omega);have v:=isCanon60X a h.al h.ms h.es h.n;refine HSpec.Qfn (m:=69) 100 SR.ok83 rfl rfl rfl ?_;have s:=@Qkf E B N (f,a);have t:=@Qkg E B N (f,a);have o:=@Qkh E B N (f,a);dsimp only[itV]at*;generalize itEr E B N (f,a)=y at*;generalize itNs N (f,a)=z at*;unfold SR.s83;refine Zcx ?_;refine cp p ?_;cases ho:nmOk f with|false=>obtain⟨rfl,rfl⟩:=s ho;refine Zcx ?_;refine⟨.inr trivial,_,rfl,rfl,?_⟩;refine⟨[(68,.nil)],rfl,au0,?_,au20⟩;exact Zce rfl gg (Zco fun _ _=>Zb0 rfl) Zb9|true=>
 refine Zcx ?_;by_cases i:f∈N;·obtain⟨rfl,rfl⟩:=t ho i;refine Qga gg i ?_;simp(disch:=first|omega|exact PairsOK.mk rfl|(simp only[lenW]<;>omega))only[yes,wW,wV,simprocAttr];refine⟨.inr trivial,_,rfl,rfl,?_⟩;refine⟨[(68,.nil)],rfl,au0,?_,au20⟩;exact Zce rfl gg (Zco fun _ _=>Zb0 rfl) Zb9
 obtain⟨rfl,rfl⟩:=o ho i;refine QcO gg i ?_;refine Zcx ?_;refine QbO gg i (by omega) ?_;refine Zcy @Qc3 ?_;refine cp u ?_;unfold itE2;by_cases j:auErr a=0;·obtain⟨q,hw⟩:=QeS j h.n;rw[j];refine Zcx ?_;refine cp v ?_;cases hc:caB a with|false=>refine Zcx ?_;refine⟨.inr trivial,_,rfl,rfl,?_⟩;refine⟨[(68,.nil)],rfl,au0,?_,au20⟩;exact Zce rfl gg (Zco fun _ _=>Zb0 rfl) Zb9|true=>
  by_cases k:a.n=0;·refine Zcy k ?_;refine⟨.inr trivial,_,rfl,rfl,?_⟩;refine⟨[(68,.nil)],rfl,au0,?_,au20⟩;exact Zce rfl gg (Zco fun _ _=>Zb0 rfl) Zb9
  have r:=Qbf hw.al hw.al5;have c:=contains36 (K:=166) (cap:=[.fptr [.int .i64 E]]) (fun x=>decide (E<=(x:Int))) (natA a).al (by omega) rfl (fun x _=>ge166X x E);have g:sli a.al=sliN (natA a).al:=by rw[<-QaO];exact congrArg (fun b=>sli b.al) q.symm
  rw[<-g]at c;have d:=subset167 (natA a).al B (by omega) l;rw[<-g]at d;cases m:(natA a).al.any (fun x=>decide (E<=(x:Int)))with|true=>rw[m]at c;refine Zcy k ?_;refine SU.chc (Zcj (Zcl (Zb4 _) (Zcl (FrzTo.fn Zck (Zcl (Zci (g:=0) (cs:=[.int .i64 E]) gg (Zb5 _)) Zck)) Zck)) c rfl) ?_;refine Zcx ?_;refine⟨.inr trivial,_,rfl,rfl,?_⟩;refine⟨[(68,.nil)],rfl,au0,?_,au20⟩;exact Zce rfl gg (Zco fun _ _=>Zb0 rfl) Zb9|false=>rw[m]at c;refine Zcy k ?_;refine SU.chc (Zcj (Zcl (Zb4 _) (Zcl (FrzTo.fn Zck (Zcl (Zci (g:=0) (cs:=[.int .i64 E]) gg (Zb5 _)) Zck)) Zck)) c rfl) ?_;refine Zcx ?_;refine cp d ?_;unfold minB;generalize decide ((mrg (fun a b=>a&&!b) (natA a).al B).length=0)=n at*;cases n with|false=>refine Zcx ?_;refine⟨.inr trivial,_,rfl,rfl,?_⟩;refine⟨[(68,.nil)],rfl,au0,?_,au20⟩;exact Zce rfl gg (Zco fun _ _=>Zb0 rfl) Zb9|true=>refine Zcx ?_;refine⟨.inr trivial,_,rfl,rfl,?_⟩;refine⟨[(68,.nil)],rfl,au0,?_,au20⟩;exact Zce rfl gg (Zco fun _ _=>Zb0 rfl) Zb9
 refine Zcy j ?_;refine⟨.inr trivial,_,rfl,rfl,?_⟩;refine⟨[(68,.nil)],rfl,au0,?_,au20⟩;exact Zce rfl gg (Zco fun _ _=>Zb0 rfl) Zb9
theorem item83XF{h:Heap}(x:Itn)(E:Int)(B:List Nat)(N:List (List UInt8))(d:ItOk x)(b:N.length<=100)(c:B.length<=1000000)(a:h.get 68=some (nmsB N)):HSpec Tryz.prog 83 [.agg (itV x),.int .i64 E,sliN B,.map 68 0] h (.int .i64 (itEr E B N x)) (h.set 68 (nmsB (itNs N x))):=by
 have hm:∀(l:List (List UInt8)),∀e∈mapS yes l,noRef e.1=true/\noRef e.2=true:=fun l e he=>by unfold mapS at he;obtain⟨x,_,rfl⟩:=Zas.1 he;exact⟨rfl,rfl⟩
 exact HSpec.frameM (item83X x E B N d b c) (Zcn (OnlyD.same (by rw[noRef];exact Qdv x)) (Zcn (OnlyD.same rfl) (Zcn (OnlyD.same (Qab _)) (Zcn (OnlyD.map rfl) OnlyD.nil)))) (OnlyD.same rfl) (hm _) (hm _) a rfl
end Go.AM.SO
