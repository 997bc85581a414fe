/- A part of the proof of GuardsLoopCardSaid: lemmas on the way (AmTk, AnCt, AnCx, AnDk, AnBi, AnBj). Conditions: none of ours. -/
import Derived.Test.YtikknocmfjfohaaGreatDoorProg
import Derived.KernelRfl
import Derived.Test.YtikknocmfjfohaaGreatDoorAmL11
theorem Go.AM.bbslj{p:Prop}(h:p:=by
 have a:b<1099511627775:=by simp_all
 refine HSpec.frame (fun k=>k=b) n p l (fun k=>?_) (fun k c=>?_) (fun k=>?_) (fun k x c=>?_) (fun k x c=>?_);·rw[Qch a];simp_all
 ·simp_all[Qch]
 ·rw[Qch a];by_cases e:k=b;·subst e;rw[if_pos rfl,if_pos rfl,QaF a]
  simp_all[QaI]
 ·rw[Qch a]at c;split at c;·cases c;exact m
  cases c
 rw[Qch a]at c;split at c;·cases c;exact o
 cases c):p:=h
theorem Go.AM.b33Ql{p:Prop}(h:p:=by
 refine⟨.inr trivial,_,rfl,?_⟩;have hr:restr a (lf l)=⟨a.al,0,[],[]⟩:=by unfold restr;rw[e];rfl
 rw[hr,e];exact RnO.tup (ZcG (RnO.agg (ZcG (RnO.slm (g:=0) rfl rfl rfl (QcK _) (by simp[ints])) (ZcG (RnO.flat rfl) (ZcG RnO.nil (ZcG RnO.nil RnOL.nil))))) (ZcG RnO.nil RnOL.nil))):p:=h
theorem Go.AM.bW89E{p:Prop}(h:p:=by
 have h2:=hsb k b' g' h1;simp only[Zaz,Zbx,or_false]at hp;rcases hp with rfl|rfl|rfl|rfl<;>cases hb<;>omega):p:=h
theorem Go.AM.bv52L{p:Prop}(h:p:=by
 refine⟨[(60,.blk 60 0),(69,.blk 69 0),(83,.blk 83 0),(78,.blk 78 0),(74,.blk 74 0),(75,.blk 75 0),(76,.blk 76 0),(77,.blk 77 0)],rfl,au0,?_,au11⟩;repeat'(first|exact Zcv|(refine Zcn ?_;first|rfl|(simp only[noRef,noRefs,Qag,Zae,Zad,Zag,Qaa,Qal,Qaf,Qan,Qap,QaA,Qai,Qah,Qab,Qar,Qaj,Qak,Qao,Qaq];done))|exact ZcJ rfl|exact ZcB|exact(True.intro:RnM _ _ _ [] [])|refine ZcC ?_ ?_|(refine Zcm ?_;first|rfl|(simp only[noRef,noRefs,Qag,Zae,Zad,Zag,Qaa,Qal,Qaf,Qan,Qap,QaA,Qai,Qah,Qab,Qar,Qaj,Qak,Qao,Qaq];done))|exact Rn.x1 rfl rfl|exact Rn.x2 rfl rfl|exact Rn.x3 rfl rfl|exact Rn.x4 rfl rfl|exact Rn.x5 rfl|exact Rn.x6 rfl|exact Rn.x7 rfl|refine Zcx rfl rfl ?_|refine Zcw rfl rfl rfl ?_ ?_|refine Zcy rfl rfl rfl ?_ ?_|refine Zcz rfl rfl ?_ ?_|refine ZcA rfl rfl ?_ ?_)
 exact ZcN fun x _=>Zcm rfl):p:=h
set_option linter.unusedSectionVars false
set_option maxHeartbeats 32000000
set_option maxRecDepth 100000
set_option linter.unusedVariables false
set_option linter.unusedSimpArgs false
namespace Go.AM
variable{P:Program}
variable{v:AV}{x:Blk}{h:Heap}{args xs ys:List AV}{vs:List Value}{b f g:Nat}{sf:SFn}{w:World}
def OnlyD(D:Nat->Prop)(args:List AV):Prop:=∀(ok:Okc)(c a:Ctx ok)(w:World)(d:List Value),(∀b g,D b->a.ρ b g=c.ρ b g)->(∀k,c.F k->a.F k)->VRels c w args d->VRels a w args d
theorem OnlyD.nil{D}:OnlyD D []:=fun _ c b w a _ _ h=>by grind[VRels]
theorem OnlyD.cons{D}{x}(i:OnlyD D [x])(h:OnlyD D xs):OnlyD D (x::xs):=fun ok c d w m h1 f b=>by simp only[VRels]at b⊢;obtain⟨v,a,rfl,n,k⟩:=b;have:=i ok c d w [v] h1 f (by simp only[VRels];simp_all);simp only[VRels]at this;obtain⟨v2,l,e,g,_⟩:=this;cases e;exact⟨v,a,rfl,g,h _ c d w a h1 f k⟩
theorem OnlyD.same{D}{x}(d:noRef x=true):OnlyD D [x]:=fun _ c k w i h1 h b=>by simp only[VRels]at b⊢;obtain⟨v,a,rfl,f,g⟩:=b;exact⟨v,a,rfl,Zcj h _ _ d f,g⟩
theorem OnlyD.sl{D}{off len sz}(m:D b):OnlyD D [.sl b g off len sz]:=fun _ c i w h h1 l d=>by simp only[VRels]at d⊢;obtain⟨v,a,rfl,k,f⟩:=d;refine⟨v,a,rfl,?_,f⟩;simp_all[VRel]
theorem OnlyD.ptr{D}{off}(m:D b):OnlyD D [.ptr b g off]:=fun _ c i w h h1 l d=>by simp only[VRels]at d⊢;obtain⟨v,a,rfl,k,f⟩:=d;refine⟨v,a,rfl,?_,f⟩;simp_all[VRel]
theorem OnlyD.fn{D}(m:OnlyD D xs)(l:OnlyD D ys):OnlyD D [.fn f xs ys]:=fun ok c d w q h1 h g=>by simp only[VRels]at g⊢;obtain⟨v,a,rfl,b,k⟩:=g;refine⟨v,a,rfl,?_,k⟩;simp only[VRel]at b⊢;obtain⟨p,o,rfl,i,n⟩:=b;exact⟨p,o,rfl,m ok c d w _ h1 h i,l ok c d w _ h1 h n⟩
theorem OnlyD.map{D}(m:D b):OnlyD D [.map b g]:=fun _ c i w h h1 l d=>by simp only[VRels]at d⊢;obtain⟨v,a,rfl,k,f⟩:=d;refine⟨v,a,rfl,?_,f⟩;simp_all[VRel]
def NoRefB:Blk->Prop|.cells _ cs=>noRefs cs=true|.map _ es=>∀e∈es,noRef e.1=true/\noRef e.2=true|.dead _=>True|_=>False
theorem VPre.noRef2{ok}{c c':Ctx ok}(a:∀k,c.F k->c'.F k)(b:noRefs xs=true)(h:VPre c w xs vs):VPre c' w xs vs:=VPre.noRef a _ _ b h
theorem MRel.noRef2{ok}{c c':Ctx ok}(b:∀k,c.F k->c'.F k):∀{xs:List (AV×AV)}{es:List MapEntry}{clock:Nat},(∀e∈xs,noRef e.1=true/\noRef e.2=true)->MRel c w xs es clock->MRel c' w xs es clock|[],_,_,_,h=>h|(k,x)::r,es,clock,d,h=>by obtain⟨e,a,h1,m,l,i,f,g⟩:=h;obtain⟨q1,q2⟩:=d (k,x) (by simp);exact⟨e,a,h1,Zcj b _ _ q1 m,Zcj b _ _ q2 l,i,f,MRel.noRef2 b (fun e he=>d e (by simp[he])) g⟩
theorem NoRefB.rel{ok}{c c':Ctx ok}(m:NoRefB x)(p:∀k,c.F k->c'.F k)(n:∀g,c'.ρ b g=c.ρ b g)(o:∀k g base,c.ρ b g=some (.loc k base)->(∀j,x≠.dead j)->x.gen=g->c.O k->c'.O k)(h:BRel c w b x):BRel c' w b x:=by cases x with|dead g=>trivial|map g es=>obtain⟨d,l,clock,h1,a,i,f⟩:=h;exact⟨d,l,clock,(n _).trans h1,o d g 0 h1 (fun _=>by simp) rfl a,i,MRel.noRef2 p m f.1,f.2⟩|loop=>exact m.elim|cells g cs=>
 rcases h with⟨h1,a⟩|⟨d,base,C,e,t,h1,a,i,f,q,s⟩;·exact .inl ⟨(n _).trans h1,a⟩
 exact .inr ⟨d,base,C,e,t,(n _).trans h1,o d g base h1 (fun _=>by simp) rfl a,i,f,q,VPre.noRef2 p m s⟩
theorem HSpec.frame{h1 q h':Heap}(D)[DecidablePred D](hs:HSpec P f args h1 v q)(ha:OnlyD D args)(hv:OnlyD D [v])(e1:∀k,h1.get k=if D k then h.get k else none)(e2:∀k,¬D k->q.get k=none)(e3:∀k,h'.get k=if D k then q.get k else h.get k)(n1:∀k x,h1.get k=some x->NoRefB x)(n2:∀k x,q.get k=some x->NoRefB x):HSpec P f args h v h':=by
 obtain⟨hc,hs⟩:=hs;refine⟨hc,fun c w M H N=>?_⟩;let J:Ctx (okc P):={ρ:=fun k y=>if D k then c.ρ k y else none,F:=c.F,O:=fun k=>∃b g base,D b/\Live h b g/\c.ρ b g=some (.loc k base),base:=c.base};have o:∀b y,D b->J.ρ b y=c.ρ b y:=fun b y u=>if_pos u;have R:∀k,J.O k->c.O k:=fun k⟨b,g,base,_,S,a⟩=>H.owned S a;have F:∀{k x},h1.get k=some x->D k/\h.get k=some x:=fun{k x}a=>by simp_all
 have hl1:∀{k y},Live h1 k y->D k/\Live h k y:=fun{k y}⟨x,a,hx,d⟩=>⟨(F a).1,x,(F a).2,hx,d⟩;have H1:HRel J h1 w:=by
  refine⟨fun k a y=>?_,fun k x a y z=>?_,fun k x a=>?_,fun k y U y' m base l t s A G=>?_,fun k hF i=>H.disj k hF (R k i),H.inF,fun k i=>H.inO k (R k i)⟩
  ·rw[e1]at a;split at a;·rename_i d;rw[o _ _ d];exact H.fresh k a y
   grind
  ·obtain⟨d,a⟩:=F a;rw[o _ _ d];exact H.later k _ a y z
  ·obtain⟨d,X⟩:=F a;exact NoRefB.rel (c:=c) (c':=J) (n1 k x a) (fun _ h=>h) (fun g=>o k g d) (fun m g base hp B I _=>⟨k,g,base,d,⟨x,X,I,B⟩,hp⟩) (H.blk k x X)
  obtain⟨Z,t⟩:=hl1 t;obtain⟨Q,s⟩:=hl1 s;rw[o _ _ Z]at A;rw[o _ _ Q]at G;exact H.inj _ _ _ _ _ _ _ t s A G
 refine(hs J w M H1 (ha _ c J w _ (fun b g u=>o b g u) (fun _ h=>h) N)).mono ?_;rintro e w'⟨cv,K,rfl,E,H',V⟩;let T:Ctx (okc P):={ρ:=fun k y=>if D k then K.ρ k y else c.ρ k y,F:=K.F,O:=fun k=>K.O k\/(c.O k/\¬J.O k),base:=c.base};have n:∀b y,D b->T.ρ b y=K.ρ b y:=fun b y u=>if_pos u;have C:∀b y,¬D b->T.ρ b y=c.ρ b y:=fun b y u=>if_neg u;have E2:Evo c w T w':=by
  refine⟨E.os,E.tape,E.output,E.size,E.shape,fun k a i=>E.keep k a fun h=>i (R k h),fun b y p hp=>?_,fun k a=>E.frz k a,fun k a=>?_,fun k a=>?_,rfl⟩
  ·by_cases d:D b;·rw[n _ _ d];exact E.rho b y p ((o _ _ d).trans hp)
   simp_all
  ·rcases E.frzNew k a with h|h|h;·exact .inl h
   ·simp_all
   omega
  rcases a with a|a
  ·rcases E.own k a with h|h;·simp_all
   exact .inr h
  simp_all
 have L:∀{k x},h'.get k=some x->(D k/\q.get k=some x)\/(¬D k/\h.get k=some x):=fun{k x}a=>by grind
 have O:∀{k y},Live h' k y->(D k/\Live q k y)\/(¬D k/\Live h k y):=fun{k y}⟨x,a,hx,d⟩=>by
  rcases L a with⟨q1,q2⟩|⟨q1,q2⟩;·exact .inl ⟨q1,x,q2,hx,d⟩
  exact .inr ⟨q1,x,q2,hx,d⟩
 have Y:∀{k y m base},¬D k->Live h k y->c.ρ k y=some (.loc m base)->¬J.O m:=by rintro k y m base d S hp⟨b,g,l,u,hlb,hpb⟩;have:=H.inj _ _ _ _ _ _ _ S hlb hp hpb;simp_all
 have hcross:∀{k y U y' m base l},D k->Live q k y->K.ρ k y=some (.loc m base)->¬D U->Live h U y'->c.ρ U y'=some (.loc m l)->False:=by
  intro k y U y' m base l d t A hd' s G;rcases E.own m (H'.owned t A)with h|h;·grind
  have:=H.inO m (H.owned s G);omega
 refine⟨cv,T,rfl,E2,⟨fun k a y=>?_,fun k x a y z=>?_,fun k x a=>?_,fun k y U y' m base l t s A G=>?_,fun k hF i=>?_,H'.inF,fun k i=>?_⟩,?_⟩
 ·rw[e3]at a;split at a;·rename_i d;rw[n _ _ d];exact H'.fresh k a y
  rename_i d;rw[C _ _ d];exact H.fresh k a y
 ·rcases L a with⟨d,a⟩|⟨d,a⟩;·rw[n _ _ d];exact H'.later k x a y z
  rw[C _ _ d];exact H.later k x a y z
 ·rcases L a with⟨d,a⟩|⟨d,a⟩;·exact NoRefB.rel (c:=K) (c':=T) (n2 k x a) (fun _ h=>h) (fun g=>n k g d) (fun m g base hp B I i=>.inl i) (H'.blk k x a)
  refine Zci (E2.ext H.disj) (fun m base B hp=>?_) (H.blk k x a);have S:Live h k x.gen:=⟨x,a,rfl,B⟩;have i:=H.owned S hp;have hn:=Y d S hp;exact⟨.inr ⟨i,hn⟩,E.keep m (H.inO m i) hn⟩
 ·rcases O t with⟨Z,t⟩|⟨Z,t⟩
  ·rw[n _ _ Z]at A;rcases O s with⟨Q,s⟩|⟨Q,s⟩;·rw[n _ _ Q]at G;exact H'.inj _ _ _ _ _ _ _ t s A G
   grind
  rw[C _ _ Z]at A;rcases O s with⟨Q,s⟩|⟨Q,s⟩;·grind
  rw[C _ _ Q]at G;exact H.inj _ _ _ _ _ _ _ t s A G
 ·rcases i with i|⟨i,hn⟩;·exact H'.disj k hF i
  rcases E.frzNew k hF with h|h|h;·exact H.disj k h i
  ·exact hn h
  have:=H.inO k i;omega
 ·rcases i with i|⟨i,_⟩;·exact H'.inO k i
  exact Za2 (H.inO k i) E.size
 have h5:VRels K w' [v] [cv]:=by simp only[VRels];simp_all
 have h6:=hv _ K T w' [cv] (fun b g u=>n b g u) (fun _ h=>h) h5;simp_all[VRels]
theorem Qch(a:b<1099511627775)(k):(hp [(b,x)]).get k=if k=b then some x else none:=by
 simp only[hp];by_cases e:k=b;·subst e;rw[QaF a,if_pos rfl]
 simp_all[QaI,get_e]
theorem Qfr{c}{y}(a:b<1099511627775)(hc:c<1099511627775)(k):(hp [(b,x),(c,y)]).get k=if k=b then some x else if k=c then some y else none:=by
 rw[QaZ];by_cases e:k=b;·subst e;rw[QaF a,if_pos rfl]
 simp_all[QaI,Qch]
theorem HSpec.frameA{i}(n:HSpec P f args (hp [(b,.cells g xs)]) v (hp [(b,.cells i ys)]))(p:OnlyD (fun k=>k=b) args)(l:OnlyD (fun k=>k=b) [v])(m:noRefs xs=true)(o:noRefs ys=true)(q:h.get b=some (.cells g xs))(d:Nat.blt b 1099511627775=true):HSpec P f args h v (h.set b (.cells i ys)):=by
 exact bbslj
theorem HSpec.frameM{i}{xs ys}(n:HSpec P f args (hp [(b,.map g xs)]) v (hp [(b,.map i ys)]))(p:OnlyD (fun k=>k=b) args)(l:OnlyD (fun k=>k=b) [v])(m:∀e∈xs,noRef e.1=true/\noRef e.2=true)(o:∀e∈ys,noRef e.1=true/\noRef e.2=true)(q:h.get b=some (.map g xs))(d:Nat.blt b 1099511627775=true):HSpec P f args h v (h.set b (.map i ys)):=by
 exact bbslj
theorem HSpec.frameB{a l q}{us}(y:HSpec P f args (hp [(a,.cells l us),(b,.cells g xs)]) v (hp [(a,.cells l us),(b,.cells q ys)]))(u:OnlyD (fun k=>k=a\/k=b) args)(s:OnlyD (fun k=>k=a\/k=b) [v])(hu:noRefs us=true)(t:noRefs xs=true)(z:noRefs ys=true)(n:h.get a=some (.cells l us))(A:h.get b=some (.cells g xs))(o:a≠b)(m:Nat.blt a 1099511627775=true)(p:Nat.blt b 1099511627775=true):HSpec P f args h v (h.set b (.cells q ys)):=by
 have i:a<1099511627775:=by simp_all
 have d:b<1099511627775:=by simp_all
 refine HSpec.frame (fun k=>k=a\/k=b) y u s (fun k=>?_) (fun k c=>?_) (fun k=>?_) (fun k x c=>?_) (fun k x c=>?_);·rw[Qfr i d];grind
 ·simp_all[Qfr]
 ·rw[Qfr i d];by_cases e:k=a;·subst e;rw[if_pos rfl,if_pos (.inl rfl),QaI d o,n]
  rw[if_neg e];by_cases w:k=b;·subst w;rw[if_pos rfl,if_pos (.inr rfl),QaF d]
  simp_all[QaI]
 ·rw[Qfr i d]at c;split at c;·cases c;exact hu
  split at c;·cases c;exact t
  cases c
 rw[Qfr i d]at c;split at c;·cases c;exact hu
 split at c;·cases c;exact z
 cases c
theorem HSpec.QoR{m:Nat}{L0 L}(n)(d:okFn P f sf=true)(o:Nat.ble args.length sf.n=true)(hm:(Nat.ble m 1099511627775&&L0.all fun p=>Nat.blt p.1 m)=true)(hw:wS P ⟨sf.n,m⟩ sf.body [] n (argT 0 args) (hp L0) fun e T k _=>(e=.normal\/e=.ret)/\∃vs,resV T k sf.res=some vs/\Rec m [(0,v)] L [(0,resOf vs)] k):HSpec P f args (hp L0) v (hp L):=by
 simp only[Zab,Nat.ble_eq]at hm;refine HSpec.of_W2 d (Zau o) (fun b a=>?_) ((wpC.toW hw).mono ?_)
 ·have :∀M:HL,M.all (fun p=>Nat.blt p.1 m)=true->(hp M).get b=none:=by intro M;induction M with|nil=>intro _;exact get_e|cons q M h=>obtain⟨j,x⟩:=q;intro l;simp only[Zb5,Zab,Nat.blt,Nat.ble_eq]at l;rw[QaZ,QaI (by omega) (by omega)];exact h (by grind[Nat.blt])
  grind
 rintro e B⟨s,h1,vs,g,t,ho,c,a,i⟩;exact⟨h1,vs,_,g,Rec.maps ho a,Rec.heap ho a,Rec.dom ho c,i 0⟩
end Go.AM
namespace Go.AM.SU
open Go.Proofs Go.AM.SD Go.AM.SE
variable{v:AV}{h:Heap}{a c cs:List AV}{fs:List Fr}{A dead l:List Nat}{N:NM}{f i k n off:Nat}{d:Option Nat}{P:Program}{Q:QC}{T:Tmps}
theorem _root_.Go.AM.ZcT{p q:Prop}(k:q)(h:p=q:=by conv=>lhs;simp(disch:=first|omega|exact PairsOK.mk rfl|(simp only[lenW]<;>omega))only[Zam,wW,wV,simprocAttr]):p:=h▸k
theorem _root_.Go.AM.ZcU{p q A:Prop}(a:A)(k:q)(h:A->p=q:=by intro a;conv=>lhs;simp(disch:=first|omega|exact PairsOK.mk rfl|(simp only[lenW]<;>omega))only[a,Zam,wW,wV,simprocAttr]):p:=h a▸k
theorem not92(A)(x:Nat)(hA:A.length<=1000000):Ps 94 [.int .i64 (x:Int),.fptr [sliN A]] (.bool (!decide (x∈A))):=by
 refine Zcp 64 (Ok s94) rfl (by simp only[noRefs,noRef,Qaa];rfl) rfl ?_;have h:=contains62 (nz A) x (by simp;omega);have e:decide ((x:Int)∈nz A)=decide (x∈A):=by
  refine decide_eq_decide.2 ⟨fun h=>?_,fun h=>Zap.2 ⟨x,h,rfl⟩⟩;obtain⟨a,h1,b⟩:=Zap.1 h;have:a=x:=by omega
  exact this▸h1
 rw[e,Qbg]at h;unfold s94;refine ZcT ?_;refine cp h ?_;refine ZcT ?_;exact⟨.inr trivial,_,rfl,rfl⟩
def fstN(A l:List Nat):Int:=if l.all (fun x=>decide (x∈A))then-1 else(l.findIdx (fun x=>!decide (x∈A)):Int)
theorem cpc{r}{args}(hp:PSpec P f (a++args++c) v)(k:wR P N r dead fs (n+1) (putD T d v) h Q):wCall P N .heap (.fn f a c) args d r dead fs n T h Q:=⟨v,h,hp.toH h,k⟩
theorem chc{r}{h1}{args}(hp:HSpec P f (a++args++c) h v h1)(k:wR P N r dead fs (n+1) (putD T d v) h1 Q):wCall P N .heap (.fn f a c) args d r dead fs n T h Q:=⟨v,h1,hp,k⟩
theorem index110(A l)(hA:A.length<=1000000)(o:l.length<=1000000):Ps 151 [sliN l,.fn 94 [] [.fptr [sliN A]]] (.int .i64 (fstN A l)):=by
 refine Zcp 64 (Ok s151) rfl (by simp only[noRefs,noRef,Qaa];rfl) rfl ?_;unfold s151;refine ZcT ?_;refine QaE 100 (fun i:Nat=>[(0,sliN l),(1,.fn 94 [] [.fptr [sliN A]]),(7,.int .i64 l.length),(8,.int .i64 i)]) (fun _=>[]) (fun i=>i<=l.length/\∀(j:Nat)y,j<i->l[j]?=some y->y∈A) (fun i=>l.length-i) 0 ⟨[],rfl,au0,au7,au8⟩ ⟨Zah _,fun j y c=>absurd c (Zay _)⟩ ?_;rintro i⟨hi,g⟩;by_cases a:i<l.length
 ·obtain⟨x,b⟩:=Qam a;have f:=not92 A x hA;by_cases d:x∈A
  ·have e:(!decide (x∈A))=false:=by simp[d]
   rw[e]at f;refine ZcU (Zc1 a (QaJ b)) ?_;refine cpc f ?_;refine ZcT ?_;refine⟨i+1,by omega,⟨by omega,fun j y c m=>?_⟩,⟨[],rfl,au0,au7,au8⟩⟩;by_cases e:j=i;·subst e;rw[b]at m;cases m;exact d
   exact g j y (by omega) m
  have e:(!decide (x∈A))=true:=by simp[d]
  rw[e]at f;refine ZcU (Zc1 a (QaJ b)) ?_;refine cpc f ?_;refine ZcT ?_;refine⟨.inr trivial,_,rfl,?_⟩;have h1:¬l.all (fun x=>decide (x∈A))=true:=by intro h;exact d (by simpa using ZaJ.1 h x (Zac b))
  have n:l.findIdx (fun x=>!decide (x∈A))=i:=by rw[Zce a];refine⟨by rw[Zak a]at b;cases b;simp[d],fun j c=>?_⟩;have:=g j l[j] c (Zak (by omega));simpa using this
  unfold fstN;rw[if_neg h1,n];rfl
 have h1:l.all (fun x=>decide (x∈A))=true:=by rw[ZaJ];intro x b;obtain⟨j,c,k⟩:=ZaU b;simpa using g j x (by omega) (by rw[Zak c,k])
 refine ZcU a ?_;refine⟨.inr trivial,_,rfl,?_⟩;unfold fstN;rw[if_pos h1];rfl
theorem Qff{vs}(h:off<cs.length):putR cs off vs=cs.take off++vs++cs.drop (off+vs.length):=by
 unfold putR;split;·rename_i v;rw[List.set_eq_take_append_cons_drop,if_pos h];simp
 rfl
theorem QmL{r}{b g len sz}{zero}(i:h.get b=some (.cells g cs))(p:0<len)(o:off+len*sz<=cs.length)(f:zero.length=sz)(ho:zero.all AV.one=true)(c:b<lim)(m:wR P N r dead fs (n+1) (putD T d .any) (h.set b (.cells g (putR cs off (List.replicate len zero).flatten))) Q):wM P N (aClear sz zero (.sl b g off len sz)) d r dead fs n T h Q:=by
 obtain⟨k,rfl⟩:∃k,len=k+1:=⟨len-1,by omega⟩;refine⟨_,_,?_,m⟩;have l:Nat.beq g g=true:=by simp
 have a:Nat.blt b lim=true:=by simpa using c
 simp only[aClear,if_true,HM.cells,HM.run,i,l,cond_true];rw[if_pos ⟨o,f,ho⟩];simp only[HM.run,a,cond_true]
def fltN(A l:List Nat):List Nat:=l.filter fun x=>decide (x∈A)
theorem QmM{j v}(h:l[j]?=some v):fltN A (l.take (j+1))=if v∈A then fltN A (l.take j)++[v]else fltN A (l.take j):=by unfold fltN;rw[ZaS,h,Option.toList,Zbj];by_cases a:v∈A<;>simp[a]
def delL(A l:List Nat):List Nat:=fltN A l++List.replicate (l.length-(fltN A l).length) 0
theorem QtI(h:l.all (fun x=>decide (x∈A))=true):fltN A l=l:=by unfold fltN;exact ZbI.2 fun x a=>ZaJ.1 h x a
theorem QsD:(List.replicate k [AV.int .i64 0]).flatten=ints (nz (List.replicate k 0)):=by induction k with|zero=>rfl|succ k a=>rw[Za4,Zbr,a];rfl
theorem Qq3:(ints (nz l)).take i=ints (nz (l.take i)):=by simp[ints,nz,List.map_take]
theorem QoS{x}(h:l[i]?=some x):(ints (nz l))[i]?=some (.int .i64 (x:Int)):=by simp[ints,h]
theorem del40(A l)(hA:A.length<=1000000)(P:l.length<=1000000):HSpec Tryz.prog 93 [.sl 98 0 0 l.length 1,.fn 94 [] [.ptr 75 0 0]] (hp [(75,.cells 0 [sliN A]),(98,.cells 0 (ints (nz l)))]) (.sl 98 0 0 (fltN A l).length 1) (hp [(75,.cells 0 [sliN A]),(98,.cells 0 (ints (nz (delL A l))))]):=by
 refine HSpec.QoR (m:=99) 100 (Ok s93) rfl rfl ?_;have N:(ints (nz l)).length=l.length*1:=by simp[ints]
 unfold s93;refine ZcT ?_;refine chc (ZcI (ZcL (FrzTo.all gg N) (ZcL (FrzTo.fn ZcK (ZcL (ZcH (g:=0) (cs:=[sliN A]) gg (ZcL (Zcq _) ZcK)) ZcK)) ZcK)) (index110 A l hA P) rfl) ?_;by_cases a:l.all (fun x=>decide (x∈A))=true;·have z:fstN A l=-1:=if_pos a;refine ZcU z ?_;refine⟨.inr trivial,_,rfl,?_⟩;unfold delL;rw[QtI a,Nat.sub_self,List.replicate_zero,Zas];exact⟨[(75,.nil),(98,.nil)],rfl,au0,au7,au8⟩
 have z:fstN A l=(l.findIdx (fun x=>!decide (x∈A)):Int):=if_neg a;have hex:∃x∈l,(!decide (x∈A))=true:=by have:¬∀x∈l,decide (x∈A)=true:=fun h=>a (ZaJ.2 h);obtain⟨x,s⟩:=Classical.not_forall.1 this;obtain⟨s,Q⟩:=Classical.not_imp.1 s;exact⟨x,s,by simpa using Q⟩
 have k:l.findIdx (fun x=>!decide (x∈A))<l.length:=Zbp hex;obtain⟨c,F⟩:∃c,c=l.findIdx (fun x=>!decide (x∈A)):=⟨_,rfl⟩;rw[<-F]at z k;have L:l[c]∉A:=by have:=List.findIdx_getElem (w:=by rw[<-F];exact k) (xs:=l) (p:=fun x=>!decide (x∈A));simp only[<-F]at this;simpa using this
 have q:fltN A (l.take c)=l.take c:=by unfold fltN;refine ZbI.2 fun x s=>?_;obtain⟨j,I,rfl⟩:=ZaU s;rw[Zar]at I;have:=List.not_of_lt_findIdx (xs:=l) (p:=fun x=>!decide (x∈A)) (i:=j) (by rw[<-F];omega);rw[List.getElem_take];simpa using this
 have H:fltN A (l.take (c+1))=l.take c:=by rw[QmM (Zak k),if_neg L,q]
 have G:¬(c:Int)=-1:=by omega
 refine ZcU (Zc1 z G) ?_;refine QaE 110 (fun t:Nat×Nat×List Nat=>[(0,.sl 98 0 0 l.length 1),(1,.fn 94 [] [.ptr 75 0 0]),(5,.int .i64 t.2.1),(6,.int .i64 t.1)]) (fun t=>[(75,.cells 0 [sliN A]),(98,.cells 0 (ints (nz t.2.2)))]) (fun t=>t.1<=l.length/\t.2.1<t.1/\t.2.2.length=l.length/\t.2.2.take t.2.1=fltN A (l.take t.1)/\t.2.2.drop t.1=l.drop t.1) (fun t=>l.length-t.1) (c+1,c,l) ⟨[(75,.nil),(98,.nil)],rfl,au0,au7,au8⟩ ⟨by dsimp only;omega,by dsimp only;omega,rfl,H.symm,rfl⟩ ?_;rintro⟨j,i,C⟩⟨I,J,b,m,E⟩;dsimp only at I J b m E⊢;by_cases d:j<l.length
 ·obtain⟨v,M⟩:=Qam d;have y:C[j]?=some v:=by
   have:(C.drop j)[0]?=(l.drop j)[0]?:=by rw[E]
   simpa[M]using this
  have B:=QmM (A:=A) M;have f:=not92 A v hA;by_cases hm:v∈A
  ·have K:(!decide (v∈A))=false:=by simp[hm]
   rw[K]at f;rw[if_pos hm]at B;refine ZcU (Zc2 d b (QoS y)) ?_;refine chc (ZcI (ZcL (Zcq _) (ZcL (ZcH (g:=0) (cs:=[sliN A]) gg (ZcL (Zcq _) ZcK)) ZcK)) f rfl) ?_;have g:i<l.length:=by omega
   have p:(ints (nz C)).set i (.int .i64 (v:Int))=ints (nz (C.set i v)):=by simp[ints,nz,List.map_set]
   have u:i+1<=(ints (nz C)).length:=by simp[ints,b];omega
   have n:i+1<=l.length:=by omega
   refine ZcU (Zc4 g b p u n) ?_;refine⟨(j+1,i+1,C.set i v),by dsimp only;omega,⟨by dsimp only;omega,by dsimp only;omega,by simp[b],?_,?_⟩,?_⟩;·dsimp only;rw[B,<-m,ZaS,ZbK (by omega),List.take_set,List.set_eq_of_length_le (by rw[Zar];omega)];rfl
   ·dsimp only;rw[List.drop_set_of_lt (by omega)];have:=congrArg (List.drop 1) E;simpa[ZaV]using this
   exact⟨[(75,.nil),(98,.nil)],rfl,au0,au7,au8⟩
  have K:(!decide (v∈A))=true:=by simp[hm]
  rw[K]at f;rw[if_neg hm]at B;refine ZcU (Zc2 d b (QoS y)) ?_;refine chc (ZcI (ZcL (Zcq _) (ZcL (ZcH (g:=0) (cs:=[sliN A]) gg (ZcL (Zcq _) ZcK)) ZcK)) f rfl) ?_;refine ZcT ?_;refine⟨(j+1,i,C),by dsimp only;omega,⟨by dsimp only;omega,by dsimp only;omega,b,by rw[B];exact m,?_⟩,?_⟩;·dsimp only;have:=congrArg (List.drop 1) E;simpa[ZaV]using this
  exact⟨[(75,.nil),(98,.nil)],rfl,au0,au7,au8⟩
 have O:j=l.length:=by omega
 subst O;rw[Zao]at m;have g:(i:Int)<=(l.length:Int):=by omega
 refine ZcU (Zc1 d g) ?_;refine QmL gg (by omega) (by simp[ints,b];omega) rfl rfl (by decide) ?_;refine ZcU g ?_;refine⟨.inr trivial,_,rfl,?_⟩;have o:(fltN A l).length=i:=by rw[<-m,Zar];omega
 have w:putR (ints (nz C)) i (List.replicate (l.length-i) [AV.int .i64 0]).flatten=ints (nz (delL A l)):=by rw[Qff (by simp[ints,b];omega),QsD,Qq3,m];unfold delL;rw[o,QaM,QaB,List.drop_of_length_le (by simp[ints,b];omega),Zas]
 rw[o,w];exact⟨[(75,.nil),(98,.nil)],rfl,au0,au7,au8⟩
end Go.AM.SU
namespace Go.AM.SO
open Go.Proofs
set_option maxHeartbeats 4000000
noncomputable section
def cf:YA.Cf:={most:=.pure,always:=[154].map fun k=>(k,.heap),value:=.pure}
def s98:SFn:=by
 refine(?f:YA.Yt Tryz.prog cf 98 [[0,2],[15,16,17],[18],[1,3,19,20],[2,3,19,21,22,23],[25,26],[1,4,24],[4,24,28,29,30,31,32,33,34,35,36,37],[1,27],[2,27,38],[],[39,40],[],[43,44],[8,45,46,47,48],[49],[41,42,50],[],[54,55,56],[57,58,59,60,61,62,63],[64],[1,5,6,7,51,52,53,10,11,65,66],[2,10,11,65,67,68,69,70,71],[72],[6,51,52,53,73],[],[77,78,79],[13,80,81,82,83,84,85,86],[87],[1,5,7,74,75,76,14,88,89],[2,14,88,90],[1,5,7,74,75,76,91,92,93]]) ?s ?h;case h=>exact YA.rr
 exact fun s _=>s
def s9:SFn:=by
 refine(?f:YA.Yt Tryz.prog cf 9 [[0,2],[1,3,4,5,6]]) ?s ?h;case h=>exact YA.rr
 exact fun s _=>s
def s144:SFn:=by
 refine(?f:YA.Yt Tryz.prog cf 144 [[4],[0,1,5,6,7,8]]) ?s ?h;case h=>exact YA.rr
 exact fun s _=>s
def s191:SFn:=by
 refine(?f:YA.Yt Tryz.prog cf 191 [[0,2],[1,3,4,5,6,7,8,9,10,11]]) ?s ?h;case h=>exact YA.rr
 exact fun s _=>s
def s102:SFn:=by
 refine(?f:YA.Yt Tryz.prog cf 102 [[2],[6,7],[0,8],[2,8,9],[0],[],[13,14,15],[17,18,19,20],[3,10,11,12,45,42,44,43,41,40,33,32,31,5,16],[16,22,23,24,25],[3,10,11,12,45,42,44,43,41,40,33,32,31,5,21],[21,27,28,29,30,34],[3,10,11,12,45,42,44,43,41,40,33,32,31,5,26],[26,36,37,38,39,46],[3,10,11,12,45,42,44,43,41,40,33,32,31,5,35],[2,5,35,47,48,49],[50],[3,10,11,12,45,42,44,43,41,40,33,32,31]]) ?s ?h;case h=>exact YA.rr
 exact fun s _=>s
def s155:SFn:=by
 refine(?f:YA.Yt Tryz.prog cf 155 [[4],[0,1,5,6,7]]) ?s ?h;case h=>exact YA.rr
 exact fun s _=>s
def s157:SFn:=by
 refine(?f:YA.Yt Tryz.prog cf 157 [[0],[10],[11],[],[15,16,17],[5,18,19,20,21,22,23,24,25],[26],[12,13,14,27],[],[31,32,33],[7,34,35,36,37,38,39,40,41,42,43,44],[45],[1,28,29,30,46],[],[50,51,52],[9,53,54,55,56,57,58,59,60,61,62,63,64,65],[66],[3,47,48,49,67]]) ?s ?h;case h=>exact YA.rr
 exact fun s _=>s
def s89:SFn:=by
 refine(?f:YA.Yt Tryz.prog cf 89 [[0,2],[],[],[6],[7,10,11,12,13,14,15],[16,17,18,19,20],[25,26,27,28,29,30,31],[25,32,33,34,35,36,37,38,39,40,41,42,43,44,45,46,47,48,49],[5,50,51,52,53],[8,9],[1,3,4,24,23,22,21,54]] [(3,[(7,16),(12,16),(12,18)])]) ?s ?h;case h=>exact YA.rr
 exact fun s _=>s
def s198:SFn:=by
 refine(?f:YA.Yt Tryz.prog cf 198 [[0,1,4],[7,8,9],[2,3,10],[4,10,11],[],[15,16,17,18],[20,21,22,23,30],[2,3,12,13,14,59,52,58,57,54,56,55,53,51,44,36,43,42,41,38,40,39,37,35,29,25,28,27,26,24,6,5,19],[5,19,32,33,34,45],[2,3,12,13,14,59,52,58,57,54,56,55,53,51,44,36,43,42,41,38,40,39,37,35,29,25,28,27,26,24,6,31],[6,31,47,48,49,50,60],[2,3,12,13,14,59,52,58,57,54,56,55,53,51,44,36,43,42,41,38,40,39,37,35,29,25,28,27,26,24,46],[4,46,61],[2,3,12,13,14,59,52,58,57,54,56,55,53,51,44,36,43,42,41,38,40,39,37,35,29,25,28,27,26,24]]) ?s ?h;case h=>exact YA.rr
 exact fun s _=>s
def s200:SFn:=by
 refine(?f:YA.Yt Tryz.prog cf 200 [[0,1,4],[7,8,9],[2,3,10],[4,10,11],[],[15,16,17,18],[20,21,22,23,30],[2,3,12,13,14,53,52,51,44,36,43,42,41,38,40,39,37,35,29,25,28,27,26,24,6,5,19],[5,19,32,33,34,45],[2,3,12,13,14,53,52,51,44,36,43,42,41,38,40,39,37,35,29,25,28,27,26,24,6,31],[6,31,47,48,49,50,54],[2,3,12,13,14,53,52,51,44,36,43,42,41,38,40,39,37,35,29,25,28,27,26,24,46],[4,46,55],[2,3,12,13,14,53,52,51,44,36,43,42,41,38,40,39,37,35,29,25,28,27,26,24,56,57],[58],[58]]) ?s ?h;case h=>exact YA.rr
 exact fun s _=>s
def s151:SFn:=by
 refine(?f:YA.Yt Tryz.prog cf 151 [[4],[6],[],[9,10],[11,12,13,14,15],[0,1,7,8,5,16,17],[4,5,16,18],[0,1,7,8]]) ?s ?h;case h=>exact YA.rr
 exact fun s _=>s
def s201:SFn:=by
 refine(?f:YA.Yt Tryz.prog cf 201 [[2],[3],[0,4],[0,4,5,6,7]]) ?s ?h;case h=>exact YA.rr
 exact fun s _=>s
def s202:SFn:=by
 refine(?f:YA.Yt Tryz.prog cf 202 [[2],[3],[0,4],[0,4,5,6,7]]) ?s ?h;case h=>exact YA.rr
 exact fun s _=>s
def s192:SFn:=by
 refine(?f:YA.Yt Tryz.prog cf 192 [[3],[0,1,4,5,6]]) ?s ?h;case h=>exact YA.rr
 exact fun s _=>s
def s193:SFn:=by
 refine(?f:YA.Yt Tryz.prog cf 193 [[4],[0,1,5,6,7,8,9]]) ?s ?h;case h=>exact YA.rr
 exact fun s _=>s
def s194:SFn:=by
 refine(?f:YA.Yt Tryz.prog cf 194 [[6],[],[11,12,13,14],[18,19,20,21,22,35],[36,37,38,39,52],[],[],[53,54,55,56,57,58],[53],[59,60,61,62,63,64],[8,9,59,65,66,67],[10,68,69,70,71,72],[0,1,2,7,51,43,50,46,49,48,47,45,44,42,41,40,34,26,33,29,32,31,30,28,27,25,24,23,17,16,15,73]]) ?s ?h;case h=>exact YA.rr
 exact fun s _=>s
def s195:SFn:=by
 refine(?f:YA.Yt Tryz.prog cf 195 [[4],[0,1,5,6,7,8]]) ?s ?h;case h=>exact YA.rr
 exact fun s _=>s
def s253:SFn:=by
 refine(?f:YA.Yt Tryz.prog cf 253 [[2],[0,3,4,5,6,7,8]]) ?s ?h;case h=>exact YA.rr
 exact fun s _=>s
def s252:SFn:=by
 refine(?f:YA.Yt Tryz.prog cf 252 [[4],[0,1,5,6,7]]) ?s ?h;case h=>exact YA.rr
 exact fun s _=>s
def s277:SFn:=by
 refine(?f:YA.Yt Tryz.prog cf 277 [[4],[0,1,5,6,7,8,9]]) ?s ?h;case h=>exact YA.rr
 exact fun s _=>s
end
end Go.AM.SO
namespace Go.AM.SD
variable{l:List Rm}
def stR(l:List Rm)(k:Nat):Nat:=(l.getD k (rm0 0)).st
def sw(l:List Rm)(j:Nat):List Rm:=(l.set (j+1) (l.getD j (rm0 0))).set j (l.getD (j+1) (rm0 0))
def insJ:Nat->List Rm->List Rm|0,l=>l|j+1,l=>if stR l (j+1)<stR l j then insJ j (sw l j)else l
def isort(l:List Rm):Nat->List Rm|0=>l|i+1=>insJ (i+1) (isort l i)
theorem QmN{j}:(sw l j).length=l.length:=by simp[sw]
theorem QmO:∀(j:Nat)(l:List Rm),(insJ j l).length=l.length
 |0,l=>rfl|j+1,l=>by
  simp only[insJ];split;·rw[QmO j,QmN]
  rfl
theorem QcL(l):∀i,(isort l i).length=l.length|0=>rfl|i+1=>by rw[isort,QmO,QcL l i]
theorem Qi5{j k}(b:j+1<l.length):stR (sw l j) k=if k=j then stR l (j+1)else if k=j+1 then stR l j else stR l k:=by
 unfold stR sw;simp only[Zaj,List.getElem?_set,ZbR];by_cases h1:k=j;·subst h1;rw[if_pos rfl,if_pos rfl,if_pos (by omega)];rfl
 rw[if_neg (fun e=>h1 e.symm),if_neg h1];by_cases a:k=j+1;·subst a;rw[if_pos rfl,if_pos rfl,if_pos b];rfl
 rw[if_neg (fun e=>a e.symm),if_neg a]
theorem QtJ{j}(a:j+1<l.length):(sw l j).Perm l:=by
 have h1:l.getD j (rm0 0)=l[j]:=by simp[show j<l.length by omega]
 have b:l.getD (j+1) (rm0 0)=l[j+1]:=by simp[a]
 unfold sw;rw[h1,b];exact List.set_set_perm (i:=j+1) (j:=j) a (by omega)
theorem QkX:∀(j:Nat)(l:List Rm),j<l.length->(insJ j l).Perm l
 |0,l,_=>List.Perm.refl _|j+1,l,h=>by
  simp only[insJ];split;·exact(QkX j (sw l j) (by rw[QmN];omega)).trans (QtJ h)
  exact List.Perm.refl _
theorem Qi6(l):∀i,i<l.length\/i=0->(isort l i).Perm l|0,_=>List.Perm.refl _|i+1,h=>by rw[isort];exact(QkX (i+1) _ (by rw[QcL];omega)).trans (Qi6 l i (by omega))
def SrtTo(l:List Rm)(i:Nat):Prop:=∀p q,p<q->q<=i->stR l p<=stR l q
theorem QmP:∀(j i:Nat)(l:List Rm),j<=i->i<l.length->(∀p q,p<q->q<=i->p≠j->q≠j->stR l p<=stR l q)->(∀q,j<q->q<=i->stR l j<=stR l q)->SrtTo (insJ j l) i
 |0,i,l,m,hi,h1,f=>fun p q a b=>by
  rw[insJ];by_cases e:p=0;·subst e;exact f q a b
  exact h1 p q a b e (by omega)|j+1,i,l,m,hi,h1,f=>by
  rw[insJ];split
  ·rename_i n;refine QmP j i (sw l j) (by omega) (by rw[QmN];exact hi) (fun p q a b hp h=>?_) (fun q b g=>?_)
   ·rw[Qi5 (by omega),Qi5 (by omega),if_neg hp,if_neg h];by_cases d:p=j+1;·subst d;rw[if_pos rfl,if_neg (by omega)];exact h1 j q (by omega) b (by omega) (by omega)
    rw[if_neg d];by_cases c:q=j+1;·subst c;rw[if_pos rfl];exact h1 p j (by omega) (by omega) d (by omega)
    rw[if_neg c];exact h1 p q a b d c
   rw[Qi5 (by omega),Qi5 (by omega),if_pos rfl,if_neg (by omega)];by_cases e:q=j+1;·subst e;rw[if_pos rfl];omega
   rw[if_neg e];exact f q (by omega) g
  rename_i k;intro p q a b;by_cases d:q=j+1
  ·subst d;by_cases c:p=j;·subst c;omega
   have :=h1 p j (by omega) (by omega) (by omega) (by omega);omega
  by_cases c:p=j+1;·subst c;exact f q a b
  exact h1 p q a b c d
theorem QkY(l):∀i,i<l.length->SrtTo (isort l i) i|0,_=>fun p q a c=>by omega|i+1,h=>by have d:=QkY l i (by omega);rw[isort];refine QmP (i+1) (i+1) _ (ZaC _) (by rw[QcL];exact h) (fun p q a c hp b=>d p q a (by omega)) (fun q c b=>by omega)
theorem QpM(h:0<l.length):(isort l (l.length-1)).Pairwise fun a b=>a.st<=b.st:=by rw[Zbd];intro i j hi d c;rw[QcL]at hi d;have:=QkY l (l.length-1) (by omega) i j c (by omega);unfold stR at this;rw[Zaj,Zaj,Zak (by rw[QcL];exact hi),Zak (by rw[QcL];exact d)]at this;exact this
def srtR(l:List Rm):List Rm:=isort l (l.length-1)
theorem Qq4(l):(srtR l).Perm l:=by unfold srtR;cases l with|nil=>exact List.Perm.refl _|cons a l=>exact Qi6 _ _ (by simp)
theorem Qq5(l):(srtR l).Pairwise fun a b=>a.st<=b.st:=by unfold srtR;cases l with|nil=>exact List.Pairwise.nil|cons a l=>exact QpM (by simp)
theorem QsE(l):(srtR l).length=l.length:=QcL l _
end Go.AM.SD
namespace Go.AM.SE
open Go.Proofs Go.AM.SD
variable{a:Aut}{h:Heap}{es:List Ed}{fs:List Fr}{dead o t:List Nat}{N:NM}{i n:Nat}{left:Nat->Bool}{s:OE}{d:Option Nat}{P:Program}{Q:QC}{T:Tmps}
theorem QpN:aEq (.nil 2) false .nilsl .nilsl=some (.bool true):=rfl
theorem QpO:aEq (.nil 2) false .nsl .nilsl=some (.bool false):=rfl
theorem Qn4{r}{sz bytes b2 c b a}:wM P N (aAppend .dyn n sz bytes (.sl b2 c b a sz) .nsl) d r dead fs n T h Q=wA P N (srcB (h.get b2) c b a sz) (some []) c a 0 sz bytes b2 d r dead fs n T h Q:=Qfc
theorem QkZ:HSpec Tryz.prog 86 [.nilsl] .e (.sl 83 0 0 0 1) (hp [(83,.cells 0 [])]):=by refine ZcM 100 (Ok s86) rfl ?_;unfold s86;refine Zc0 @QpN ?_;exact⟨.inr trivial,_,rfl,⟨[(83,.nil)],rfl,au0,au7,au8⟩⟩
theorem Qk0:HSpec Tryz.prog 86 [.nsl] .e (.sl 83 0 0 0 1) (hp [(83,.cells 0 [])]):=by refine ZcM 100 (Ok s86) rfl ?_;unfold s86;refine Zc0 (Zc1 @QpO @Qn4) ?_;exact⟨.inr trivial,_,rfl,⟨[(83,.blk 103 1)],rfl,au0,au7,au8⟩⟩
theorem clone56(l)(c:l.length<=1000000):HSpec Tryz.prog 86 [sliN l] .e (.sl 83 0 0 l.length 1) (hp [(83,.cells 0 (ints (nz l)))]):=by cases l with|nil=>exact HSpec.empty QkZ Qk0|cons x l=>
 refine ZcM 100 (Ok s86) rfl ?_;have b:aEq (.nil 2) false (sliN (x::l)) .nilsl=some (.bool false):=rfl;have a:(ints (nz (x::l))).all AV.one=true:=by simp[ints,AV.one]
 generalize x::l=q at*;unfold s86;refine Zc0 (Zc1 b a) ?_;exact⟨.inr trivial,_,rfl,⟨[(83,.blk 103 1)],rfl,au0,au7,au8⟩⟩
abbrev frzE(es:List Ed)(left:Nat->Bool):Nat->AV:=fun k=>egsN (sOut es left k)
abbrev rowE(es:List Ed)(left:Nat->Bool):Nat->List AV:=fun k=>(sOut es left k).flatMap edC
abbrev ptrE(es:List Ed)(left:Nat->Bool):Nat->AV:=fun k=>.sl (300+k) 0 0 (sOut es left k).length 3
theorem Qaq(es)(left)(l:List Nat):noRefs (l.map (frzE es left))=true:=QdZ (fun x=>Qaj _) l
theorem Qbx(l:List Ed):(l.flatMap edC).length=l.length*3:=Qbf (f:=edC) (k:=3) (fun _=>rfl) l
theorem QtK(l:List Ed):flatVs (l.flatMap edC)=true:=by induction l with|nil=>rfl|cons x l a=>rw[ZaD];simp only[edC,ZaW,ZaP,flatVs,flatV,Zag];exact a
theorem Qk1{e}(h:es[i]?=some e)(v):sOut (es.take (i+1)) left v=sOut (es.take i) left v++if e.1=v/\left e.2.2=true then[e]else[]:=by unfold sOut;rw[ZaS,h,Option.toList,Zbj];congr 1;by_cases h1:e.1=v<;>by_cases a:left e.2.2=true<;>simp[h1,a]
theorem Qcw(es)(left)(v):(sOut es left v).length<=es.length:=by unfold sOut;exact ZaY _ _
theorem repN(n):(List.replicate n [AV.nilsl]).flatten=(List.range n).map fun _=>AV.nilsl:=by rw[List.map_const',ZbH];induction n with|zero=>rfl|succ n a=>rw[Za4,Zbr,a];rfl
theorem Qii(h:i<n):((List.range n).map (frzE es left))[i]?=some (egsN (sOut es left i)):=QgP h
abbrev numF(o:List Nat):Nat->AV:=fun x=>.int .i64 (idx o x:Nat)
def mks(a:Aut)(i:Nat)(o:List Nat):List Nat:=(List.range i).filter fun j=>a.ms.contains (o.getD j 0)
theorem QdQ{a}{i}{o}:(mks a i o).length<=i:=by unfold mks;exact Zaw (ZaY _ _) (by simp)
theorem Qha(h:i<=o.length):mks a i (o++t)=mks a i o:=by unfold mks;refine ZbF fun j b=>?_;have:=Zat.1 b;rw[Zaj,Zaj,Za1 (by omega)]
theorem QeQ{v}(h:o[i]?=some v):mks a (i+1) o=mks a i o++if a.ms.contains v then[i]else[]:=by
 unfold mks;rw[ZaL,Zbj];congr 1;have:o.getD i 0=v:=by rw[Zaj,h];rfl
 rw[ZbX,this];rfl
theorem QgQ{j}{e}(h:es[j]?=some e):(es.take (j+1)).foldl (sEd i) s=sEd i ((es.take j).foldl (sEd i) s) e:=by rw[ZaS,h,Option.toList,Za0];rfl
theorem QbZ:∀(es:List Ed)(s:OE),(es.foldl (sEd i) s).2.length=s.2.length+es.length|[],s=>by simp|e::es,s=>by rw[ZaO,QbZ es];unfold sEd;split<;>simp<;>omega
abbrev ablk(a:Aut):List AV:=[.sl 83 0 0 a.al.length 1,.int .i64 0,.nilsl,.nilsl]
theorem _root_.Go.AM.au11{p:Prop}(h:p:=by repeat(first|exact Zct|(refine Zcu ?_ ?_;·(first|exact Zcl|exact Rn.x1 rfl rfl|exact Rn.x2 rfl rfl|exact Rn.x3 rfl rfl|exact Rn.x4 rfl rfl|exact Rn.x5 rfl|exact Rn.x6 rfl|exact Rn.x7 rfl|(refine ZcF ?_ ?_;(first|rfl|(rw[ZaE];rfl));(first|rfl|(simp only[noRef,noRefs,SD.Qaa,SD.Qab,SD.Qaf,SD.Qag,SD.Qah,SD.Qai,SD.Qaj,SD.Qal,SD.Qan,SD.Qar,SE.QaA,SE.Qak,SE.Qao,SE.Qap,SE.Qaq,SO.QaC,SO.Qau,SO.Qay,Zad,Zae,Zag];done)))|(refine Rn.fn ?_ ?_<;>(repeat'(first|exact ZcB|refine ZcC ?_ ?_|exact Zcm rfl|exact Rn.x6 rfl|exact Rn.x2 rfl rfl|exact Rn.x5 rfl|exact Rn.x1 rfl rfl))))))):p:=h
theorem _root_.Go.AM.au12{p:Prop}(h:p:=by repeat'(first|exact Zcv|(refine Zcn ?_;first|rfl|(simp only[noRef,noRefs,SD.Qaa,SD.Qab,SD.Qaf,SD.Qag,SD.Qah,SD.Qai,SD.Qaj,SD.Qal,SD.Qan,SD.Qar,SE.QaA,SE.Qak,SE.Qao,SE.Qap,SE.Qaq,SO.QaC,SO.Qau,SO.Qay,Zad,Zae,Zag];done))|exact ZcJ rfl|exact ZcB|exact(True.intro:RnM _ _ _ [] [])|refine ZcC ?_ ?_|(refine Zcm ?_;first|rfl|(simp only[noRef,noRefs,SD.Qaa,SD.Qab,SD.Qaf,SD.Qag,SD.Qah,SD.Qai,SD.Qaj,SD.Qal,SD.Qan,SD.Qar,SE.QaA,SE.Qak,SE.Qao,SE.Qap,SE.Qaq,SO.QaC,SO.Qau,SO.Qay,Zad,Zae,Zag];done))|exact Rn.x1 rfl rfl|exact Rn.x2 rfl rfl|exact Rn.x3 rfl rfl|exact Rn.x4 rfl rfl|exact Rn.x5 rfl|exact Rn.x6 rfl|exact Rn.x7 rfl|refine Zcx rfl rfl ?_|refine Zcw rfl rfl rfl ?_ ?_|refine Zcy rfl rfl rfl ?_ ?_|refine Zcz rfl rfl ?_ ?_|refine ZcA rfl rfl ?_ ?_)):p:=h
theorem super54(a)(u)(l)(hw:WfA a)(hl:l.length=a.n)(hel:a.es.length<=1000000)(hul:u.length<=1000000):FSpec Tryz.prog 123 [pv a u l] (.tup [aV (restr a (lf l)),sliN (sAll a (lf l)).1]):=by
 have hn5:=hw.n5;have hal:a.al.length<=32:=QaV 32 a.al (by rw[ZaM];exact hw.al.imp fun h=>by omega) hw.al5;have hms:a.ms.length<=a.n:=QaV a.n a.ms hw.nd hw.msn;refine FSpec.of_wS 60 (Ok s123) rfl (by(try simp only[noRefs,Qak,Qao,Qaa,Qal,Qaf,Qan,Qap,Qai,noRef,Zae,Zad])<;>rfl) (by simp only[noRef,noRefs,Qaa,Qaf];rfl) ?_;unfold s123;refine ZcZ ?_;refine ch (HSpec.of_O (b:=83) (by(try simp only[noRefs,Qak,Qao,Qaa,Qal,Qaf,Qan,Qap,Qai,noRef,Zae,Zad])<;>rfl) (clone56 a.al (by omega)) (by repeat(first|exact Fresh.e|exact Fresh.le (by assumption) (by omega)|refine Fresh.set ?_ (by omega) (by omega))) rfl) ?_;by_cases h0:a.n=0
 ·have e:sAll a (lf l)=([],[]):=by unfold sAll;rw[h0];rfl
  have h0':(a.n:Int)=0:=by omega
  refine Zc0 h0' ?_;exact b33Ql
 have h0':¬(a.n:Int)=0:=by omega
 have h0n:(0:Int)<(a.n:Int):=by omega
 have h0l:0<l.length:=by omega
 have hh0:(bls l).head?=some (.bool (lf l 0)):=by have:=Qbd h0l;simpa using this
 by_cases hl0:lf l 0=true
 ·have hn':(a.n:Int)<=140737488355328:=by omega
  have hn24:(24:Int)*(a.n:Int)<=140737488355328:=by omega
  refine Zc0 (Zc6 h0' h0n hh0 hl0 hn' hn24 @repN) ?_;have hrn:∀k∈List.range a.n,k<1000000:=fun k hk=>by have:=Zat.1 hk;omega
  refine Qas 100 (fun i:Nat=>[(0,pv a u l),(2,.ptr 60 0 0),(4,.ptr 69 0 0),(5,.sl 78 0 0 a.n 1),(48,egsN a.es),(49,.int .i64 a.es.length),(50,.int .i64 i)]) (fun i=>[(60,.cells 0 [.nilsl,.int .i64 0,.nilsl,.nilsl]),(69,.cells 0 (ablk a)),(83,.cells 0 (ints (nz a.al))),(78,.cells 0 ((List.range a.n).map (ptrE (a.es.take i) (lf l))))]++rowsL (rowE (a.es.take i) (lf l)) (List.range a.n)) (fun i=>i<=a.es.length) (fun i=>a.es.length-i) 0 0 160 (fun _:Unit=>[(0,pv a u l),(2,.ptr 60 0 0),(4,.ptr 69 0 0),(5,.sl 78 0 0 a.n 1)]) (fun _=>[(60,.cells 0 [.nilsl,.int .i64 0,.nilsl,.nilsl]),(69,.cells 0 (ablk a)),(83,.cells 0 (ints (nz a.al))),(78,.cells 0 ((List.range a.n).map (frzE a.es (lf l))))]) (fun _=>True) ?_ (Zah _) ?_ ?_
  ·refine⟨[(60,.blk 60 0),(69,.blk 69 0),(83,.blk 83 0),(78,.blk 91 0)]++psL (fun _=>.nil) (List.range a.n),QdP (QcJ ZaX hrn (fun _ _ _ _ _ b g b' g' h=>by cases h)) rfl (by decide) (fun _ _ _ _ _ _ _ b g h=>by cases h),Zcs,?_,au11⟩;refine Zcw rfl rfl rfl (Zcn rfl) (Zcw rfl rfl rfl ?_ (Zcw rfl rfl rfl (Zcn (Qaa _)) (Zcw rfl rfl rfl (Qdf fun k hk=>Rn.x4 rfl (QcZ hk (A:=[(60,.blk 60 0),(69,.blk 69 0),(83,.blk 83 0),(78,.blk 91 0)]) (by decide))) ?_)));·repeat'(first|exact Zcv|(refine Zcn ?_;first|rfl|(simp only[noRef,noRefs,Qag,Zae,Zad,Zag,Qaa,Qal,Qaf,Qan,Qap,QaA,Qai,Qah,Qab,Qar,Qaj,Qak,Qao,Qaq];done))|exact ZcJ rfl|exact ZcB|exact(True.intro:RnM _ _ _ [] [])|refine ZcC ?_ ?_|(refine Zcm ?_;first|rfl|(simp only[noRef,noRefs,Qag,Zae,Zad,Zag,Qaa,Qal,Qaf,Qan,Qap,QaA,Qai,Qah,Qab,Qar,Qaj,Qak,Qao,Qaq];done))|exact Rn.x1 rfl rfl|exact Rn.x2 rfl rfl|exact Rn.x3 rfl rfl|exact Rn.x4 rfl rfl|exact Rn.x5 rfl|exact Rn.x6 rfl|exact Rn.x7 rfl|refine Zcx rfl rfl ?_|refine Zcw rfl rfl rfl ?_ ?_|refine Zcy rfl rfl rfl ?_ ?_|refine Zcz rfl rfl ?_ ?_|refine ZcA rfl rfl ?_ ?_)
   ·exact QcT fun k hk=>Zcx rfl (QcZ hk (A:=[(60,.blk 60 0),(69,.blk 69 0),(83,.blk 83 0),(78,.blk 91 0)]) (by decide)) Zcv
  ·rintro i hi;have hr0:∀b,b<300->(hp (rowsL (rowE (a.es.take i) (lf l)) (List.range a.n))).get b=none:=fun b hb=>Qeh hrn fun k hk=>by omega
   by_cases hlt:i<a.es.length
   ·obtain⟨e,he⟩:=Qam hlt;obtain⟨hfr,hto⟩:=hw.esn e (Zac he);have hroom:∀k:Nat,k<a.n->(hp (rowsL (rowE (a.es.take i) (lf l)) (List.range a.n))).get (300+k)=some (.cells 0 (rowE (a.es.take i) (lf l) k)):=fun k hk=>Qb7 ZaX hrn (Zat.2 hk);have hrow:=hroom e.1 hfr;have htl:e.2.2<l.length:=by omega
    have hstep:=Qk1 (left:=lf l) he;have hpl:=Qcw (a.es.take i) (lf l) e.1;rw[Zar]at hpl;have hel2:=Qbx (sOut (a.es.take i) (lf l) e.1);by_cases h1:lf l e.2.2=true
    ·refine Zc0 (Zc7 @ZaW @ZaP hlt (QaQ he) hr0 hto (Qbd htl) h1) ?_;refine Qb8 [(69,[300+e.1])] rfl ?_ ?_;·exact Qdq (a:=[103]) (b:=[123,300+e.1,122]) rfl rfl (fun x hx=>by simp only[Zaz,Zbx,or_false]at hx⊢;omega) QgN
     have hfr1:e.1+1<=a.n:=by omega
     simp(disch:=first|omega|exact PairsOK.mk rfl|(simp only[lenW]<;>omega))only[hr0,hfr,hrow,hel2,QgP hfr,QkW hfr,ZbH,hfr1,wW,wV,simprocAttr];refine⟨⟨⟨_,rfl,fun b hb=>hb⟩,trivial⟩,i+1,by omega,by omega,?_⟩;have hsb:∀k b g,(fun k=>if k=e.1 then Src.blk (300+e.1) 1 else Src.blk (300+k) 0) k=.blk b g->b=300+k:=by
      intro k b g h2;dsimp only at h2;split at h2<;>cases h2;·rename_i h3;rw[h3]
      ·rfl
     refine⟨[(60,.blk 60 0),(69,.blk 69 0),(83,.blk 83 0),(78,.blk 78 0)]++psL (fun k=>if k=e.1 then Src.blk (300+e.1) 1 else Src.blk (300+k) 0) (List.range a.n),QdP (A:=[(60,.blk 60 0),(69,.blk 69 0),(83,.blk 83 0),(78,.blk 78 0)]) (L:=[(60,_),(69,_),(83,_),(78,_)]) (QcJ ZaX hrn (fun k hk j hj hkj b g b' g' h1 h2=>?_)) rfl (by decide) (fun p hp b g hb k hk b' g' h1=>?_),Zcs,?_,au11⟩;·have :=hsb k b g h1;have:=hsb j b' g' h2;omega
     ·exact bW89E
     refine Zcw rfl rfl gg (Zcn rfl) (Zcw rfl rfl gg ?_ (Zcw rfl rfl gg (Zcn (Qaa _)) (Zcw rfl rfl gg (Qdf fun k hk=>?_) (QcT fun k hk=>?_))));·repeat'(first|exact Zcv|(refine Zcn ?_;first|rfl|(simp only[noRef,noRefs,Qag,Zae,Zad,Zag,Qaa,Qal,Qaf,Qan,Qap,QaA,Qai,Qah,Qab,Qar,Qaj,Qak,Qao,Qaq];done))|exact ZcJ rfl|exact ZcB|exact(True.intro:RnM _ _ _ [] [])|refine ZcC ?_ ?_|(refine Zcm ?_;first|rfl|(simp only[noRef,noRefs,Qag,Zae,Zad,Zag,Qaa,Qal,Qaf,Qan,Qap,QaA,Qai,Qah,Qab,Qar,Qaj,Qak,Qao,Qaq];done))|exact Rn.x1 rfl rfl|exact Rn.x2 rfl rfl|exact Rn.x3 rfl rfl|exact Rn.x4 rfl rfl|exact Rn.x5 rfl|exact Rn.x6 rfl|exact Rn.x7 rfl|refine Zcx rfl rfl ?_|refine Zcw rfl rfl rfl ?_ ?_|refine Zcy rfl rfl rfl ?_ ?_|refine Zcz rfl rfl ?_ ?_|refine ZcA rfl rfl ?_ ?_)
     ·have hw2:=QcZ (s:=fun k=>if k=e.1 then Src.blk (300+e.1) 1 else Src.blk (300+k) 0) hk (A:=[(60,.blk 60 0),(69,.blk 69 0),(83,.blk 83 0),(78,.blk 78 0)]) (by decide);unfold updF ptrE;rw[hstep];by_cases h2:k=e.1;·subst h2;rw[if_pos rfl,if_pos ⟨rfl,h1⟩,Zaf];exact Rn.x1 rfl (by rw[hw2];simp)
      ·rw[if_neg h2,if_neg (fun h3=>h2 h3.1.symm),Zas];exact Rn.x1 rfl (by rw[hw2];simp[h2])
     ·have hw2:=QcZ (s:=fun k=>if k=e.1 then Src.blk (300+e.1) 1 else Src.blk (300+k) 0) hk (A:=[(60,.blk 60 0),(69,.blk 69 0),(83,.blk 83 0),(78,.blk 78 0)]) (by decide);have hkn:=Zat.1 hk;by_cases h2:k=e.1;·subst h2;refine Zcw rfl (b:=300+e.1) (g:=1) (by rw[hw2];simp) gg (RnL.eq ?_ (Qaf _)) Zcv;unfold SE.rowE;rw[hstep,if_pos ⟨rfl,h1⟩,Zan];rfl
      ·refine Zcw rfl (b:=300+k) (g:=0) (ds:=SE.rowE (a.es.take i) (lf l) k) (by rw[hw2];simp[h2]) (by first|(simp(disch:=omega)only[QaF,QaI,QaZ,hroom k hkn];done)|(simp(disch:=omega)only[QaF,QaI,QaZ,hroom k hkn];rfl)) (RnL.eq ?_ (Qaf _)) Zcv;unfold SE.rowE;rw[hstep,if_neg (fun h3=>h2 h3.1.symm),Zas]
    ·rw[Zam]at h1;refine Zc0 (Zc7 @ZaW @ZaP hlt (QaQ he) hr0 hto (Qbd htl) h1) ?_;refine⟨i+1,by omega,by omega,?_⟩;have hsb:∀k b g,(fun k=>Src.blk (300+k) 0) k=.blk b g->b=300+k:=by intro k b g h2;cases h2;rfl
     have hno:∀k,sOut (a.es.take (i+1)) (lf l) k=sOut (a.es.take i) (lf l) k:=fun k=>by rw[hstep,if_neg (by rw[h1];simp),Zas]
     refine⟨[(60,.blk 60 0),(69,.blk 69 0),(83,.blk 83 0),(78,.blk 78 0)]++psL (fun k=>Src.blk (300+k) 0) (List.range a.n),QdP (A:=[(60,.blk 60 0),(69,.blk 69 0),(83,.blk 83 0),(78,.blk 78 0)]) (L:=[(60,_),(69,_),(83,_),(78,_)]) (QcJ ZaX hrn (fun k hk j hj hkj b g b' g' h1 h2=>?_)) rfl (by decide) (fun p hp b g hb k hk b' g' h1=>?_),Zcs,?_,au11⟩;·have :=hsb k b g h1;have:=hsb j b' g' h2;omega
     ·exact bW89E
     refine Zcw rfl rfl gg (Zcn rfl) (Zcw rfl rfl gg ?_ (Zcw rfl rfl gg (Zcn (Qaa _)) (Zcw rfl rfl gg (Qdf fun k hk=>?_) (QcT fun k hk=>?_))));·repeat'(first|exact Zcv|(refine Zcn ?_;first|rfl|(simp only[noRef,noRefs,Qag,Zae,Zad,Zag,Qaa,Qal,Qaf,Qan,Qap,QaA,Qai,Qah,Qab,Qar,Qaj,Qak,Qao,Qaq];done))|exact ZcJ rfl|exact ZcB|exact(True.intro:RnM _ _ _ [] [])|refine ZcC ?_ ?_|(refine Zcm ?_;first|rfl|(simp only[noRef,noRefs,Qag,Zae,Zad,Zag,Qaa,Qal,Qaf,Qan,Qap,QaA,Qai,Qah,Qab,Qar,Qaj,Qak,Qao,Qaq];done))|exact Rn.x1 rfl rfl|exact Rn.x2 rfl rfl|exact Rn.x3 rfl rfl|exact Rn.x4 rfl rfl|exact Rn.x5 rfl|exact Rn.x6 rfl|exact Rn.x7 rfl|refine Zcx rfl rfl ?_|refine Zcw rfl rfl rfl ?_ ?_|refine Zcy rfl rfl rfl ?_ ?_|refine Zcz rfl rfl ?_ ?_|refine ZcA rfl rfl ?_ ?_)
     ·have hw2:=QcZ (s:=fun k=>Src.blk (300+k) 0) hk (A:=[(60,.blk 60 0),(69,.blk 69 0),(83,.blk 83 0),(78,.blk 78 0)]) (by decide);unfold ptrE;rw[hno];exact Rn.x1 rfl hw2
     ·have hw2:=QcZ (s:=fun k=>Src.blk (300+k) 0) hk (A:=[(60,.blk 60 0),(69,.blk 69 0),(83,.blk 83 0),(78,.blk 78 0)]) (by decide);have hkn:=Zat.1 hk;refine Zcw rfl (b:=300+k) (g:=0) (ds:=SE.rowE (a.es.take i) (lf l) k) hw2 (by first|(simp(disch:=omega)only[QaF,QaI,QaZ,hroom k hkn];done)|(simp(disch:=omega)only[QaF,QaI,QaZ,hroom k hkn];rfl)) (RnL.eq ?_ (Qaf _)) Zcv;unfold SE.rowE;rw[hno]
   ·have e:i=a.es.length:=by omega
    subst e;refine Zc0 (Zc2 @ZaW @ZaP hlt) ?_;refine⟨(),[(60,.blk 60 0),(69,.blk 69 0),(83,.blk 83 0),(78,.blk 78 0)],rfl,Zcs,?_,au11⟩;refine Zcw rfl rfl gg (Zcn rfl) (Zcw rfl rfl gg ?_ (Zcw rfl rfl gg (Zcn (Qaa _)) (Zcw rfl rfl gg (Qdf fun k hk=>?_) Zcv)));·repeat'(first|exact Zcv|(refine Zcn ?_;first|rfl|(simp only[noRef,noRefs,Qag,Zae,Zad,Zag,Qaa,Qal,Qaf,Qan,Qap,QaA,Qai,Qah,Qab,Qar,Qaj,Qak,Qao,Qaq];done))|exact ZcJ rfl|exact ZcB|exact(True.intro:RnM _ _ _ [] [])|refine ZcC ?_ ?_|(refine Zcm ?_;first|rfl|(simp only[noRef,noRefs,Qag,Zae,Zad,Zag,Qaa,Qal,Qaf,Qan,Qap,QaA,Qai,Qah,Qab,Qar,Qaj,Qak,Qao,Qaq];done))|exact Rn.x1 rfl rfl|exact Rn.x2 rfl rfl|exact Rn.x3 rfl rfl|exact Rn.x4 rfl rfl|exact Rn.x5 rfl|exact Rn.x6 rfl|exact Rn.x7 rfl|refine Zcx rfl rfl ?_|refine Zcw rfl rfl rfl ?_ ?_|refine Zcy rfl rfl rfl ?_ ?_|refine Zcz rfl rfl ?_ ?_|refine ZcA rfl rfl ?_ ?_)
    ·have hkn:=Zat.1 hk;have hr:=Qb7 (f:=SE.rowE a.es (lf l)) ZaX hrn hk;have b1:Nat.beq (300+k) 60=false:=by rw[ZaH];simp;try omega
     have b2:Nat.beq (300+k) 69=false:=by rw[ZaH];simp;try omega
     have b3:Nat.beq (300+k) 83=false:=by rw[ZaH];simp;try omega
     have b4:Nat.beq (300+k) 78=false:=by rw[ZaH];simp;try omega
     exact ZcD (by first|(simp(disch:=omega)only[QaF,QaI,QaZ,hr];done)|(simp(disch:=omega)only[QaF,QaI,QaZ,hr];rfl)) (by simp[srcNew,b1,b2,b3,b4]) (by simp) rfl (Qbx _) (Zcn (Qaf _))
  rintro _ _;refine ZcZ ?_;refine QbF ?_;refine ZcZ ?_;refine Qce (x:=0) (f:=numF [0]) (l:=[]) (by simp) (by decide) ?_;refine ZcZ ?_;have hms0:mks a 0 [0]=[]:=rfl;have hsi:SI a.n a.es (lf l) 0 (([0],[]):OE):=by refine⟨⟨by simp,fun x hx=>by simp at hx;omega⟩,fun x hx=>by simp at hx;subst hx;exact hl0,Zah _,fun j v hj=>by omega,by simp⟩
  have hq0:sQ a.es (lf l) (a.n+1) 0 ([0],[])=sAll a (lf l):=by unfold sAll;rw[hl0,Zad,if_pos (by simp;omega)]
  refine Qas 180 (fun t:Nat×OE=>[(0,pv a u l),(2,.ptr 60 0 0),(4,.ptr 69 0 0),(5,.sl 78 0 0 a.n 1),(8,.map 74 0),(9,.sl 75 0 0 t.2.1.length 1),(10,.int .i64 t.1)]) (fun t=>[(60,.cells 0 [.nilsl,.int .i64 0,.nilsl,.nilsl]),(69,.cells 0 [.sl 83 0 0 a.al.length 1,.int .i64 0,.sl 77 0 0 (mks a t.1 t.2.1).length 1,.sl 76 0 0 t.2.2.length 3]),(83,.cells 0 (ints (nz a.al))),(78,.cells 0 ((List.range a.n).map (frzE a.es (lf l)))),(74,.map 0 (mapF .i64 (numF t.2.1) t.2.1)),(75,.cells 0 (ints (nz t.2.1))),(76,.cells 0 (t.2.2.flatMap edC)),(77,.cells 0 (ints (nz (mks a t.1 t.2.1))))]) (fun t=>t.1<=a.n/\SI a.n a.es (lf l) t.1 t.2/\t.2.2.length<=t.1*1000000/\sQ a.es (lf l) (a.n+1-t.1) t.1 t.2=sAll a (lf l)) (fun t=>a.n+1-t.1) (0,([0],[])) 2 260 (fun _:Unit=>[(2,.ptr 60 0 0),(4,.ptr 69 0 0),(9,.sl 75 0 0 (sAll a (lf l)).1.length 1)]) (fun _=>[(60,.cells 0 [.nilsl,.int .i64 0,.nilsl,.nilsl]),(69,.cells 0 [.sl 83 0 0 a.al.length 1,.int .i64 0,.sl 77 0 0 (restr a (lf l)).ms.length 1,.sl 76 0 0 (restr a (lf l)).es.length 3]),(83,.cells 0 (ints (nz a.al))),(75,.cells 0 (ints (nz (sAll a (lf l)).1))),(76,.cells 0 ((restr a (lf l)).es.flatMap edC)),(77,.cells 0 (ints (nz (restr a (lf l)).ms)))]) (fun _=>True) ?_ ⟨Zah _,hsi,Zah _,hq0⟩ ?_ ?_
  ·dsimp only;rw[hms0];refine⟨[(60,.blk 60 0),(69,.blk 69 0),(83,.blk 83 0),(78,.blk 78 0),(74,.blk 160 0),(75,.blk 164 0),(76,.nil),(77,.nil)],rfl,Zcs,?_,au11⟩;repeat'(first|exact Zcv|(refine Zcn ?_;first|rfl|(simp only[noRef,noRefs,Qag,Zae,Zad,Zag,Qaa,Qal,Qaf,Qan,Qap,QaA,Qai,Qah,Qab,Qar,Qaj,Qak,Qao,Qaq];done))|exact ZcJ rfl|exact ZcB|exact(True.intro:RnM _ _ _ [] [])|refine ZcC ?_ ?_|(refine Zcm ?_;first|rfl|(simp only[noRef,noRefs,Qag,Zae,Zad,Zag,Qaa,Qal,Qaf,Qan,Qap,QaA,Qai,Qah,Qab,Qar,Qaj,Qak,Qao,Qaq];done))|exact Rn.x1 rfl rfl|exact Rn.x2 rfl rfl|exact Rn.x3 rfl rfl|exact Rn.x4 rfl rfl|exact Rn.x5 rfl|exact Rn.x6 rfl|exact Rn.x7 rfl|refine Zcx rfl rfl ?_|refine Zcw rfl rfl rfl ?_ ?_|refine Zcy rfl rfl rfl ?_ ?_|refine Zcz rfl rfl ?_ ?_|refine ZcA rfl rfl ?_ ?_)
   refine ZcN (l:=[0]) fun x hx=>?_;have:x=0:=by simpa using hx
   subst this;exact Zcm rfl
  ·rintro⟨i,s⟩⟨hi,hsi,hsl,hq⟩;dsimp only at hi hsi hsl hq⊢;have hfl:=hsi.fi.len;have hile:=hsi.le;by_cases hlt:i<s.1.length
   ·obtain⟨v,hv⟩:=Qam hlt;have hvn:=hsi.fi.lt v (Zac hv);have hin':i<a.n:=by omega
    have hsi':=hsi.step hw.esn hv;have hq':sQ a.es (lf l) (a.n+1-(i+1)) (i+1) (sRow a.es (lf l) i v s)=sAll a (lf l):=by rw[<-hq,show a.n+1-i=(a.n+1-(i+1))+1 by omega];simp only[sQ,hv]
    have hol:=Qcw a.es (lf l) v;have hrow:=fun j=>QcG (n:=a.n) (left:=lf l) i ((sOut a.es (lf l) v).take j) s (fun e he=>⟨(hw.esn e (Qa5.1 (ZaR he)).1).2,(Qa5.1 (ZaR he)).2.2⟩) hsi.fi hsi.lft;have hmsl:=@QdQ a i s.1;have hmsk:∀j,mks a i (((sOut a.es (lf l) v).take j).foldl (sEd i) s).1=mks a i s.1:=fun j=>by obtain⟨_,_,⟨t,ht⟩,_⟩:=hrow j;rw[ht,Qha hile]
    generalize hmm:mks a i s.1=M at*;simp(disch:=first|omega|exact PairsOK.mk rfl|(simp only[lenW]<;>omega))only[hlt,Qbh (nz_at hv),hvn,Qii hvn,wW,wV,simprocAttr];refine Qas 300 (fun j:Nat=>[(90,egsN (sOut a.es (lf l) v)),(91,.int .i64 (sOut a.es (lf l) v).length),(0,pv a u l),(2,.ptr 60 0 0),(4,.ptr 69 0 0),(5,.sl 78 0 0 a.n 1),(8,.map 74 0),(9,.sl 75 0 0 (((sOut a.es (lf l) v).take j).foldl (sEd i) s).1.length 1),(10,.int .i64 i),(92,.int .i64 j)]) (fun j=>[(60,.cells 0 [.nilsl,.int .i64 0,.nilsl,.nilsl]),(69,.cells 0 [.sl 83 0 0 a.al.length 1,.int .i64 0,.sl 77 0 0 M.length 1,.sl 76 0 0 (((sOut a.es (lf l) v).take j).foldl (sEd i) s).2.length 3]),(83,.cells 0 (ints (nz a.al))),(78,.cells 0 ((List.range a.n).map (frzE a.es (lf l)))),(74,.map 0 (mapF .i64 (numF (((sOut a.es (lf l) v).take j).foldl (sEd i) s).1) (((sOut a.es (lf l) v).take j).foldl (sEd i) s).1)),(75,.cells 0 (ints (nz (((sOut a.es (lf l) v).take j).foldl (sEd i) s).1))),(76,.cells 0 ((((sOut a.es (lf l) v).take j).foldl (sEd i) s).2.flatMap edC)),(77,.cells 0 (ints (nz M)))]) (fun j=>j<=(sOut a.es (lf l) v).length) (fun j=>(sOut a.es (lf l) v).length-j) 0 4 400 (fun _:Unit=>[(0,pv a u l),(2,.ptr 60 0 0),(4,.ptr 69 0 0),(5,.sl 78 0 0 a.n 1),(8,.map 74 0),(9,.sl 75 0 0 (sRow a.es (lf l) i v s).1.length 1),(10,.int .i64 i)]) (fun _=>[(60,.cells 0 [.nilsl,.int .i64 0,.nilsl,.nilsl]),(69,.cells 0 [.sl 83 0 0 a.al.length 1,.int .i64 0,.sl 77 0 0 M.length 1,.sl 76 0 0 (sRow a.es (lf l) i v s).2.length 3]),(83,.cells 0 (ints (nz a.al))),(78,.cells 0 ((List.range a.n).map (frzE a.es (lf l)))),(74,.map 0 (mapF .i64 (numF (sRow a.es (lf l) i v s).1) (sRow a.es (lf l) i v s).1)),(75,.cells 0 (ints (nz (sRow a.es (lf l) i v s).1))),(76,.cells 0 ((sRow a.es (lf l) i v s).2.flatMap edC)),(77,.cells 0 (ints (nz M)))]) (fun _=>True) ?_ (Zah _) ?_ ?_
    ·exact bv52L
    ·rintro j hj;by_cases hjl:j<(sOut a.es (lf l) v).length
     ·obtain⟨e,he⟩:=Qam hjl;have hem:=Qa5.1 (Zac he);have hto:=(hw.esn e hem.1).2;obtain⟨k1,_,_,_,_⟩:=hrow j;have hfi:=k1.len;have hnd:=k1.nd;have hstep:=QgQ (i:=i) (s:=s) he;have hsl2:=QbZ (i:=i) ((sOut a.es (lf l) v).take j) s;rw[Zar]at hsl2;generalize((sOut a.es (lf l) v).take j).foldl (sEd i) s=t at*;have hel2:=Qbx t.2;by_cases hc:e.2.2∈t.1
      ·have h2:sEd i t e=(t.1,t.2++[(i,e.2.1,idx t.1 e.2.2)]):=if_pos (by simpa using hc);rw[h2]at hstep;refine Zc0 (Zc1 hjl (QaQ he)) ?_;refine Qcz ?_;refine ZcZ ?_;refine wK_in hc ?_;refine Zc0 hel2 ?_;refine⟨j+1,by omega,by omega,?_⟩;rw[hstep,Zan,Zaf];refine⟨[(60,.blk 60 0),(69,.blk 69 0),(83,.blk 83 0),(78,.blk 78 0),(74,.blk 74 0),(75,.blk 75 0),(76,.blk 76 1),(77,.blk 77 0)],rfl,au0,?_,au11⟩;repeat'(first|exact Zcv|(refine Zcn ?_;first|rfl|(simp only[noRef,noRefs,Qag,Zae,Zad,Zag,Qaa,Qal,Qaf,Qan,Qap,QaA,Qai,Qah,Qab,Qar,Qaj,Qak,Qao,Qaq];done))|exact ZcJ rfl|exact ZcB|exact(True.intro:RnM _ _ _ [] [])|refine ZcC ?_ ?_|(refine Zcm ?_;first|rfl|(simp only[noRef,noRefs,Qag,Zae,Zad,Zag,Qaa,Qal,Qaf,Qan,Qap,QaA,Qai,Qah,Qab,Qar,Qaj,Qak,Qao,Qaq];done))|exact Rn.x1 rfl rfl|exact Rn.x2 rfl rfl|exact Rn.x3 rfl rfl|exact Rn.x4 rfl rfl|exact Rn.x5 rfl|exact Rn.x6 rfl|exact Rn.x7 rfl|refine Zcx rfl rfl ?_|refine Zcw rfl rfl rfl ?_ ?_|refine Zcy rfl rfl rfl ?_ ?_|refine Zcz rfl rfl ?_ ?_|refine ZcA rfl rfl ?_ ?_)
       exact ZcN fun x _=>Zcm rfl
      ·have h2:sEd i t e=(t.1++[e.2.2],t.2++[(i,e.2.1,t.1.length)]):=if_neg (by simpa using hc);rw[h2]at hstep;refine Zc0 (Zc1 hjl (QaQ he)) ?_;refine Qcz ?_;refine ZcZ ?_;refine Qmy hc ?_;refine Zc0 hel2 ?_;refine QbF ?_;refine ZcZ ?_;refine Qce hc (by decide) ?_;have hm:mapF .i64 (updF (numF t.1) e.2.2 (.int .i64 (t.1.length:Int))) (t.1++[e.2.2])=mapF .i64 (numF (t.1++[e.2.2])) (t.1++[e.2.2]):=by
        refine Qi4 fun x hx=>?_;unfold updF numF;split;·rename_i hx2;subst hx2;rw[QdH hc]
        ·rename_i hx2;have:x∈t.1:=by
          rcases ZaG.1 hx with h3|h3;·exact h3
          ·exact absurd (by simpa using h3) hx2
         rw[Qda this]
       refine Zc0 (Zc1 hm hel2) ?_;refine⟨j+1,by omega,by omega,?_⟩;rw[hstep,Zan,Zaf];dsimp only;rw[Zaf,QaM,QaB];refine⟨[(60,.blk 60 0),(69,.blk 69 0),(83,.blk 83 0),(78,.blk 78 0),(74,.blk 74 0),(75,.blk 75 1),(76,.blk 76 1),(77,.blk 77 0)],rfl,au0,?_,au11⟩;repeat'(first|exact Zcv|(refine Zcn ?_;first|rfl|(simp only[noRef,noRefs,Qag,Zae,Zad,Zag,Qaa,Qal,Qaf,Qan,Qap,QaA,Qai,Qah,Qab,Qar,Qaj,Qak,Qao,Qaq];done))|exact ZcJ rfl|exact ZcB|exact(True.intro:RnM _ _ _ [] [])|refine ZcC ?_ ?_|(refine Zcm ?_;first|rfl|(simp only[noRef,noRefs,Qag,Zae,Zad,Zag,Qaa,Qal,Qaf,Qan,Qap,QaA,Qai,Qah,Qab,Qar,Qaj,Qak,Qao,Qaq];done))|exact Rn.x1 rfl rfl|exact Rn.x2 rfl rfl|exact Rn.x3 rfl rfl|exact Rn.x4 rfl rfl|exact Rn.x5 rfl|exact Rn.x6 rfl|exact Rn.x7 rfl|refine Zcx rfl rfl ?_|refine Zcw rfl rfl rfl ?_ ?_|refine Zcy rfl rfl rfl ?_ ?_|refine Zcz rfl rfl ?_ ?_|refine ZcA rfl rfl ?_ ?_)
       exact ZcN fun x _=>Zcm rfl
     ·have e:j=(sOut a.es (lf l) v).length:=by omega
      subst e;refine Zc0 hjl ?_;refine⟨(),?_⟩;exact bv52L
    rintro _ _;have hfull:=hmsk (sOut a.es (lf l) v).length;rw[Zao]at hfull;have hfull:mks a i (sRow a.es (lf l) i v s).1=M:=hfull;have hv':(sRow a.es (lf l) i v s).1[i]?=some v:=by obtain⟨_,_,⟨t,ht⟩,_⟩:=hrow (sOut a.es (lf l) v).length;rw[Zao]at ht;have ht:(sRow a.es (lf l) i v s).1=s.1++t:=ht;rw[ht,Za1 hlt];exact hv
    have hmn:=QeQ (a:=a) hv';rw[hfull]at hmn;have hsl3:(sRow a.es (lf l) i v s).2.length=s.2.length+(sOut a.es (lf l) v).length:=QbZ _ _;have hfi':=hsi'.fi.len;have hii:i<(sRow a.es (lf l) i v s).1.length:=(Zai.1 hv').1;generalize hrr:sRow a.es (lf l) i v s=R at*;have hc:=contains62 (nz a.ms) v (by simp;omega);rw[Qbg,Qd8]at hc;by_cases hmv:a.ms.contains v=true
    ·rw[if_pos hmv]at hmn;rw[hmv]at hc;refine Zc0 (Zc1 hii (Qbh (nz_at hv'))) ?_;refine cp hc ?_;refine ZcZ ?_;refine⟨(i+1,R),by dsimp only;omega,⟨hin',hsi',by dsimp only;omega,hq'⟩,?_⟩;dsimp only;rw[hmn,Zaf,QaM,QaB];refine⟨[(60,.blk 60 0),(69,.blk 69 0),(83,.blk 83 0),(78,.blk 78 0),(74,.blk 74 0),(75,.blk 75 0),(76,.blk 76 0),(77,.blk 77 1)],rfl,au0,?_,au11⟩;repeat'(first|exact Zcv|(refine Zcn ?_;first|rfl|(simp only[noRef,noRefs,Qag,Zae,Zad,Zag,Qaa,Qal,Qaf,Qan,Qap,QaA,Qai,Qah,Qab,Qar,Qaj,Qak,Qao,Qaq];done))|exact ZcJ rfl|exact ZcB|exact(True.intro:RnM _ _ _ [] [])|refine ZcC ?_ ?_|(refine Zcm ?_;first|rfl|(simp only[noRef,noRefs,Qag,Zae,Zad,Zag,Qaa,Qal,Qaf,Qan,Qap,QaA,Qai,Qah,Qab,Qar,Qaj,Qak,Qao,Qaq];done))|exact Rn.x1 rfl rfl|exact Rn.x2 rfl rfl|exact Rn.x3 rfl rfl|exact Rn.x4 rfl rfl|exact Rn.x5 rfl|exact Rn.x6 rfl|exact Rn.x7 rfl|refine Zcx rfl rfl ?_|refine Zcw rfl rfl rfl ?_ ?_|refine Zcy rfl rfl rfl ?_ ?_|refine Zcz rfl rfl ?_ ?_|refine ZcA rfl rfl ?_ ?_)
     exact ZcN fun x _=>Zcm rfl
    ·rw[if_neg hmv,Zas]at hmn;rw[Zam]at hmv;rw[hmv]at hc;refine Zc0 (Zc1 hii (Qbh (nz_at hv'))) ?_;refine cp hc ?_;refine ZcZ ?_;refine⟨(i+1,R),by dsimp only;omega,⟨hin',hsi',by dsimp only;omega,hq'⟩,?_⟩;dsimp only;rw[hmn];exact bv52L
   ·have hv:s.1[i]?=none:=Zax (by omega);have hqf:s=sAll a (lf l):=by rw[<-hq,show a.n+1-i=(a.n-i)+1 by omega];simp only[sQ,hv]
    have hil:i=s.1.length:=by omega
    have hmf:mks a i s.1=(restr a (lf l)).ms:=by rw[hil,hqf];rfl
    have hef:s.2=(restr a (lf l)).es:=by rw[hqf];rfl
    refine Zc0 hlt ?_;refine⟨(),?_⟩;rw[hmf,hef,<-hqf];exact⟨[(60,.blk 60 0),(69,.blk 69 0),(83,.blk 83 0),(75,.blk 75 0),(76,.blk 76 0),(77,.blk 77 0)],rfl,au0,au12,au11⟩
  rintro _ _;have hra:(restr a (lf l)).al=a.al:=rfl;have hrn2:(restr a (lf l)).n=(sAll a (lf l)).1.length:=rfl;refine ZcZ ?_;refine⟨.inr trivial,_,rfl,?_⟩;refine RnO.tup (ZcG (RnO.agg (ZcG (RnO.slm (g:=0) rfl rfl rfl (QcK _) (by simp[ints,hra])) (ZcG (RnO.flat rfl) (ZcG (RnO.slm (g:=0) rfl rfl rfl (QcK _) (by simp[ints])) (ZcG (RnO.slm (g:=0) rfl rfl rfl (QtK _) (Qbx _)) RnOL.nil))))) (ZcG (RnO.slm (g:=0) rfl rfl rfl (QcK _) (by simp[ints])) RnOL.nil))
 ·rw[Zam]at hl0;have e:sAll a (lf l)=([],[]):=by unfold sAll;rw[hl0,ZbN,if_neg (by decide)];unfold sQ;rfl
  refine Zc0 (Zc3 h0' h0n hh0 hl0) ?_;exact b33Ql
end Go.AM.SE
