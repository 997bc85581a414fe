/- A part of the proof of CellSelectsCardSaid: lemmas on the way (AmTk, AmTi, AmCx, AmBd, AmBe, AmBf, AmBg, AmBi, AmBj, AmBl, AmBm, AmBn, AmBo, AmCa, AmCb, AmFa, AmBFb, AmBw, AmBFd, AmBy, AmBFe, AmCc, AmCza, AmCe, AmCf, AmCg, AmCh). Conditions: none of ours. -/
import Derived.Test.YtmoanlnleppcpaaGreatDoorProg
import Derived.KernelRfl
import Derived.Test.YtmoanlnleppcpaaGreatDoorAmW11
set_option linter.unusedSectionVars false
set_option maxHeartbeats 32000000
set_option maxRecDepth 100000
set_option linter.unusedVariables false
set_option linter.unusedSimpArgs false
namespace Go.AM
variable{P:Program}
def OnlyD(D:Nat->Prop)(args:List AV):Prop:=∀(ok:Okc)(c a:Ctx ok)(w:World)(d:List Value),(∀b g,D b->a.ρ b g=c.ρ b g)->(∀k,c.F k->a.F k)->VRels c w args d->VRels a w args d
theorem OnlyD.nil{D:Nat->Prop}:OnlyD D []:=fun _ c b w a _ _ h=>by grind[VRels]
theorem OnlyD.cons{D:Nat->Prop}{x:AV}{xs:List AV}(i:OnlyD D [x])(h:OnlyD D xs):OnlyD D (x::xs):=fun ok c d w l h1 f b=>by simp only[VRels]at b⊢;obtain⟨v,a,rfl,m,j⟩:=b;have:=i ok c d w [v] h1 f (by simp only[VRels];simp_all);simp only[VRels]at this;obtain⟨v2,k,e,g,_⟩:=this;cases e;exact⟨v,a,rfl,g,h _ c d w a h1 f j⟩
theorem OnlyD.same{D:Nat->Prop}{x:AV}(d:noRef x=true):OnlyD D [x]:=fun _ c j w i h1 h b=>by simp only[VRels]at b⊢;obtain⟨v,a,rfl,f,g⟩:=b;exact⟨v,a,rfl,ZbY h _ _ d f,g⟩
theorem OnlyD.sl{D:Nat->Prop}{b g off len sz:Nat}(l:D b):OnlyD D [.sl b g off len sz]:=fun _ c i w h h1 k d=>by simp only[VRels]at d⊢;obtain⟨v,a,rfl,j,f⟩:=d;refine⟨v,a,rfl,?_,f⟩;simp_all[VRel]
theorem OnlyD.ptr{D:Nat->Prop}{b g off:Nat}(l:D b):OnlyD D [.ptr b g off]:=fun _ c i w h h1 k d=>by simp only[VRels]at d⊢;obtain⟨v,a,rfl,j,f⟩:=d;refine⟨v,a,rfl,?_,f⟩;simp_all[VRel]
theorem OnlyD.fn{D:Nat->Prop}{f:Nat}{xs ys:List AV}(l:OnlyD D xs)(k:OnlyD D ys):OnlyD D [.fn f xs ys]:=fun ok c d w p h1 h g=>by simp only[VRels]at g⊢;obtain⟨v,a,rfl,b,j⟩:=g;refine⟨v,a,rfl,?_,j⟩;simp only[VRel]at b⊢;obtain⟨o,n,rfl,i,m⟩:=b;exact⟨o,n,rfl,l ok c d w _ h1 h i,k ok c d w _ h1 h m⟩
theorem OnlyD.map{D:Nat->Prop}{b g:Nat}(l:D b):OnlyD D [.map b g]:=fun _ c i w h h1 k d=>by simp only[VRels]at d⊢;obtain⟨v,a,rfl,j,f⟩:=d;refine⟨v,a,rfl,?_,f⟩;simp_all[VRel]
def NoRefB:Blk->Prop|.cells _ cs=>noRefs cs=true|.map _ es=>∀e∈es,noRef e.1=true/\noRef e.2=true|.dead _=>True|_=>False
theorem VPre.noRef2{ok:Okc}{c c':Ctx ok}{w:World}(a:∀k,c.F k->c'.F k){xs:List AV}{vs:List Value}(b:noRefs xs=true)(h:VPre c w xs vs):VPre c' w xs vs:=VPre.noRef a _ _ b h
theorem MRel.noRef2{ok:Okc}{c c':Ctx ok}{w:World}(b:∀k,c.F k->c'.F k):∀{xs:List (AV×AV)}{es:List MapEntry}{clock:Nat},(∀e∈xs,noRef e.1=true/\noRef e.2=true)->MRel c w xs es clock->MRel c' w xs es clock|[],_,_,_,h=>h|(k,x)::r,es,clock,d,h=>by obtain⟨e,a,h1,l,j,i,f,g⟩:=h;obtain⟨q1,q2⟩:=d (k,x) (by simp);exact⟨e,a,h1,ZbY b _ _ q1 l,ZbY b _ _ q2 j,i,f,MRel.noRef2 b (fun e he=>d e (by simp[he])) g⟩
theorem NoRefB.rel{ok:Okc}{c c':Ctx ok}{w:World}{b:Nat}{x:Blk}(m:NoRefB x)(p:∀k,c.F k->c'.F k)(n:∀g,c'.ρ b g=c.ρ b g)(o:∀k g base,c.ρ b g=some (.loc k base)->(∀j,x≠.dead j)->x.gen=g->c.O k->c'.O k)(h:BRel c w b x):BRel c' w b x:=by cases x with|dead g=>trivial|map g es=>obtain⟨d,l,clock,h1,a,i,f⟩:=h;exact⟨d,l,clock,(n _).trans h1,o d g 0 h1 (fun _=>by simp) rfl a,i,MRel.noRef2 p m f.1,f.2⟩|loop=>exact m.elim|cells g cs=>
 rcases h with⟨h1,a⟩|⟨d,base,C,e,s,h1,a,i,f,q,r⟩;·exact .inl ⟨(n _).trans h1,a⟩
 exact .inr ⟨d,base,C,e,s,(n _).trans h1,o d g base h1 (fun _=>by simp) rfl a,i,f,q,VPre.noRef2 p m r⟩
theorem HSpec.frame{f:Nat}{args:List AV}{v:AV}{h h1 o h':Heap}(D:Nat->Prop)[DecidablePred D](hs:HSpec P f args h1 v o)(ha:OnlyD D args)(hv:OnlyD D [v])(e1:∀k,h1.get k=if D k then h.get k else none)(e2:∀k,¬D k->o.get k=none)(e3:∀k,h'.get k=if D k then o.get k else h.get k)(n1:∀k x,h1.get k=some x->NoRefB x)(n2:∀k x,o.get k=some x->NoRefB x):HSpec P f args h v h':=by
 obtain⟨hc,hs⟩:=hs;refine⟨hc,fun c w K H L=>?_⟩;let G:Ctx (okc P):={ρ:=fun k y=>if D k then c.ρ k y else none,F:=c.F,O:=fun k=>∃b g base,D b/\Live h b g/\c.ρ b g=some (.loc k base),base:=c.base};have n:∀b y,D b->G.ρ b y=c.ρ b y:=fun b y s=>if_pos s;have O:∀k,G.O k->c.O k:=fun k⟨b,g,base,_,Q,a⟩=>H.owned Q a;have B:∀{k x},h1.get k=some x->D k/\h.get k=some x:=fun{k x}a=>by simp_all
 have Y:∀{k y},Live h1 k y->D k/\Live h k y:=fun{k y}⟨x,a,hx,d⟩=>⟨(B a).1,x,(B a).2,hx,d⟩;have H1:HRel G h1 w:=by
  refine⟨fun k a y=>?_,fun k x a y t=>?_,fun k x a=>?_,fun k y S Z l base j r q u C=>?_,fun k hF i=>H.disj k hF (O k i),H.inF,fun k i=>H.inO k (O k i)⟩
  ·rw[e1]at a;split at a;·rename_i d;rw[n _ _ d];exact H.fresh k a y
   grind
  ·obtain⟨d,a⟩:=B a;rw[n _ _ d];exact H.later k _ a y t
  ·obtain⟨d,T⟩:=B a;exact NoRefB.rel (c:=c) (c':=G) (n1 k x a) (fun _ h=>h) (fun g=>n k g d) (fun l g base hp z F _=>⟨k,g,base,d,⟨x,T,F,z⟩,hp⟩) (H.blk k x T)
  obtain⟨X,r⟩:=Y r;obtain⟨N,q⟩:=Y q;rw[n _ _ X]at u;rw[n _ _ N]at C;exact H.inj _ _ _ _ _ _ _ r q u C
 refine(hs G w K H1 (ha _ c G w _ (fun b g s=>n b g s) (fun _ h=>h) L)).mono ?_;rintro e w'⟨cv,I,rfl,E,H',V⟩;let R:Ctx (okc P):={ρ:=fun k y=>if D k then I.ρ k y else c.ρ k y,F:=I.F,O:=fun k=>I.O k\/(c.O k/\¬G.O k),base:=c.base};have m:∀b y,D b->R.ρ b y=I.ρ b y:=fun b y s=>if_pos s;have A:∀b y,¬D b->R.ρ b y=c.ρ b y:=fun b y s=>if_neg s;have E2:Evo c w R w':=by
  refine⟨E.os,E.tape,E.output,E.size,E.shape,fun k a i=>E.keep k a fun h=>i (O k h),fun b y p hp=>?_,fun k a=>E.frz k a,fun k a=>?_,fun k a=>?_,rfl⟩
  ·by_cases d:D b;·rw[m _ _ d];exact E.rho b y p ((n _ _ d).trans hp)
   simp_all
  ·rcases E.frzNew k a with h|h|h;·exact .inl h
   ·simp_all
   omega
  rcases a with a|a
  ·rcases E.own k a with h|h;·simp_all
   exact .inr h
  simp_all
 have J:∀{k x},h'.get k=some x->(D k/\o.get k=some x)\/(¬D k/\h.get k=some x):=fun{k x}a=>by grind
 have M:∀{k y},Live h' k y->(D k/\Live o k y)\/(¬D k/\Live h k y):=fun{k y}⟨x,a,hx,d⟩=>by
  rcases J a with⟨q1,q2⟩|⟨q1,q2⟩;·exact .inl ⟨q1,x,q2,hx,d⟩
  exact .inr ⟨q1,x,q2,hx,d⟩
 have U:∀{k y l base},¬D k->Live h k y->c.ρ k y=some (.loc l base)->¬G.O l:=by rintro k y l base d Q hp⟨b,g,j,s,hlb,hpb⟩;have:=H.inj _ _ _ _ _ _ _ Q hlb hp hpb;simp_all
 have hcross:∀{k y S Z l base j},D k->Live o k y->I.ρ k y=some (.loc l base)->¬D S->Live h S Z->c.ρ S Z=some (.loc l j)->False:=by
  intro k y S Z l base j d r u hd' q C;rcases E.own l (H'.owned r u)with h|h;·grind
  have:=H.inO l (H.owned q C);omega
 refine⟨cv,R,rfl,E2,⟨fun k a y=>?_,fun k x a y t=>?_,fun k x a=>?_,fun k y S Z l base j r q u C=>?_,fun k hF i=>?_,H'.inF,fun k i=>?_⟩,?_⟩
 ·rw[e3]at a;split at a;·rename_i d;rw[m _ _ d];exact H'.fresh k a y
  rename_i d;rw[A _ _ d];exact H.fresh k a y
 ·rcases J a with⟨d,a⟩|⟨d,a⟩;·rw[m _ _ d];exact H'.later k x a y t
  rw[A _ _ d];exact H.later k x a y t
 ·rcases J a with⟨d,a⟩|⟨d,a⟩;·exact NoRefB.rel (c:=I) (c':=R) (n2 k x a) (fun _ h=>h) (fun g=>m k g d) (fun l g base hp z F i=>.inl i) (H'.blk k x a)
  refine ZbX (E2.ext H.disj) (fun l base z hp=>?_) (H.blk k x a);have Q:Live h k x.gen:=⟨x,a,rfl,z⟩;have i:=H.owned Q hp;have hn:=U d Q hp;exact⟨.inr ⟨i,hn⟩,E.keep l (H.inO l i) hn⟩
 ·rcases M r with⟨X,r⟩|⟨X,r⟩
  ·rw[m _ _ X]at u;rcases M q with⟨N,q⟩|⟨N,q⟩;·rw[m _ _ N]at C;exact H'.inj _ _ _ _ _ _ _ r q u C
   grind
  rw[A _ _ X]at u;rcases M q with⟨N,q⟩|⟨N,q⟩;·grind
  rw[A _ _ N]at C;exact H.inj _ _ _ _ _ _ _ r q u C
 ·rcases i with i|⟨i,hn⟩;·exact H'.disj k hF i
  rcases E.frzNew k hF with h|h|h;·exact H.disj k h i
  ·exact hn h
  have:=H.inO k i;omega
 ·rcases i with i|⟨i,_⟩;·exact H'.inO k i
  exact ZaZ (H.inO k i) E.size
 have h5:VRels I w' [v] [cv]:=by simp only[VRels];simp_all
 have h6:=hv _ I R w' [cv] (fun b g s=>m b g s) (fun _ h=>h) h5;simp_all[VRels]
theorem QbN{b:Nat}{x:Blk}(a:b<1099511627775)(k:Nat):(hp [(b,x)]).get k=if k=b then some x else none:=by
 simp only[hp];by_cases e:k=b;·subst e;rw[QaS a,if_pos rfl]
 simp_all[QaW,get_e]
theorem Qeq{b c:Nat}{x y:Blk}(a:b<1099511627775)(hc:c<1099511627775)(k:Nat):(hp [(b,x),(c,y)]).get k=if k=b then some x else if k=c then some y else none:=by
 rw[QcE];by_cases e:k=b;·subst e;rw[QaS a,if_pos rfl]
 simp_all[QaW,QbN]
theorem HSpec.frameA{f b g i:Nat}{args xs ys:List AV}{v:AV}{h:Heap}(m:HSpec P f args (hp [(b,.cells g xs)]) v (hp [(b,.cells i ys)]))(o:OnlyD (fun k=>k=b) args)(j:OnlyD (fun k=>k=b) [v])(l:noRefs xs=true)(n:noRefs ys=true)(p:h.get b=some (.cells g xs))(d:Nat.blt b 1099511627775=true):HSpec P f args h v (h.set b (.cells i ys)):=by
 have a:b<1099511627775:=by simp_all
 refine HSpec.frame (fun k=>k=b) m o j (fun k=>?_) (fun k c=>?_) (fun k=>?_) (fun k x c=>?_) (fun k x c=>?_);·rw[QbN a];simp_all
 ·simp_all[QbN]
 ·rw[QbN a];by_cases e:k=b;·subst e;rw[if_pos rfl,if_pos rfl,QaS a]
  simp_all[QaW]
 ·rw[QbN a]at c;split at c;·cases c;exact l
  cases c
 rw[QbN a]at c;split at c;·cases c;exact n
 cases c
theorem HSpec.frameM{f b g i:Nat}{args:List AV}{xs ys:List (AV×AV)}{v:AV}{h:Heap}(m:HSpec P f args (hp [(b,.map g xs)]) v (hp [(b,.map i ys)]))(o:OnlyD (fun k=>k=b) args)(j:OnlyD (fun k=>k=b) [v])(l:∀e∈xs,noRef e.1=true/\noRef e.2=true)(n:∀e∈ys,noRef e.1=true/\noRef e.2=true)(p:h.get b=some (.map g xs))(d:Nat.blt b 1099511627775=true):HSpec P f args h v (h.set b (.map i ys)):=by
 have a:b<1099511627775:=by simp_all
 refine HSpec.frame (fun k=>k=b) m o j (fun k=>?_) (fun k c=>?_) (fun k=>?_) (fun k x c=>?_) (fun k x c=>?_);·rw[QbN a];simp_all
 ·simp_all[QbN]
 ·rw[QbN a];by_cases e:k=b;·subst e;rw[if_pos rfl,if_pos rfl,QaS a]
  simp_all[QaW]
 ·rw[QbN a]at c;split at c;·cases c;exact l
  cases c
 rw[QbN a]at c;split at c;·cases c;exact n
 cases c
theorem HSpec.frameB{f a j b g p:Nat}{args us xs ys:List AV}{v:AV}{h:Heap}(u:HSpec P f args (hp [(a,.cells j us),(b,.cells g xs)]) v (hp [(a,.cells j us),(b,.cells p ys)]))(s:OnlyD (fun k=>k=a\/k=b) args)(q:OnlyD (fun k=>k=a\/k=b) [v])(hu:noRefs us=true)(r:noRefs xs=true)(w:noRefs ys=true)(m:h.get a=some (.cells j us))(y:h.get b=some (.cells g xs))(n:a≠b)(l:Nat.blt a 1099511627775=true)(o:Nat.blt b 1099511627775=true):HSpec P f args h v (h.set b (.cells p ys)):=by
 have i:a<1099511627775:=by simp_all
 have d:b<1099511627775:=by simp_all
 refine HSpec.frame (fun k=>k=a\/k=b) u s q (fun k=>?_) (fun k c=>?_) (fun k=>?_) (fun k x c=>?_) (fun k x c=>?_);·rw[Qeq i d];grind
 ·simp_all[Qeq]
 ·rw[Qeq i d];by_cases e:k=a;·subst e;rw[if_pos rfl,if_pos (.inl rfl),QaW d n,m]
  rw[if_neg e];by_cases t:k=b;·subst t;rw[if_pos rfl,if_pos (.inr rfl),QaS d]
  simp_all[QaW]
 ·rw[Qeq i d]at c;split at c;·cases c;exact hu
  split at c;·cases c;exact r
  cases c
 rw[Qeq i d]at c;split at c;·cases c;exact hu
 split at c;·cases c;exact w
 cases c
theorem HSpec.QlC{f m:Nat}{sf:SFn}{args:List AV}{L0 L:HL}{v:AV}(n:Nat)(d:okFn P f sf=true)(o:Nat.ble args.length sf.n=true)(hm:(Nat.ble m 1099511627775&&L0.all fun p=>Nat.blt p.1 m)=true)(hw:wS P ⟨sf.n,m⟩ sf.body [] n (argT 0 args) (hp L0) fun e T k _=>(e=.normal\/e=.ret)/\∃vs,resV T k sf.res=some vs/\Rec m [(0,v)] L [(0,resOf vs)] k):HSpec P f args (hp L0) v (hp L):=by
 simp only[Zab,Nat.ble_eq]at hm;refine HSpec.of_W2 d (Zat o) (fun b a=>?_) ((wpC.toW hw).mono ?_)
 ·have :∀M:HL,M.all (fun p=>Nat.blt p.1 m)=true->(hp M).get b=none:=by intro M;induction M with|nil=>intro _;exact get_e|cons q M h=>obtain⟨j,x⟩:=q;intro l;simp only[ZbF,Zab,Nat.blt,Nat.ble_eq]at l;rw[QcE,QaW (by omega) (by omega)];exact h (by grind[Nat.blt])
  grind
 rintro e B⟨r,h1,vs,g,s,ho,c,a,i⟩;exact⟨h1,vs,_,g,Rec.maps ho a,Rec.heap ho a,Rec.dom ho c,i 0⟩
end Go.AM
theorem _root_.Go.AM.Zcn:type_of%@Go.AM.OnlyD.cons:=@Go.AM.OnlyD.cons
namespace Go.AM
variable{P:Program}
def mapS(f:List UInt8->AV)(l:List (List UInt8)):List (AV×AV):=l.map fun x=>(.str x,f x)
def updS(f:List UInt8->AV)(x:List UInt8)(v:AV):List UInt8->AV:=fun y=>if y=x then v else f y
theorem Qfo{x y:List UInt8}:keyEq false [.s] (.str x) (.str y)=some (decide (x=y)):=by simp_all[keyEq,eqCells,eqCell]
theorem Qir{f:List UInt8->AV}{x:List UInt8}:∀(l:List (List UInt8))(i:Nat),x∈l->aFind false [.s] (.str x) (mapS f l) i=some (some (i+l.findIdx (·==x),f x))
 |y::l,i,b=>by
  show(match keyEq false [.s] (.str x) (.str y)with|some true=>_|some false=>_|none=>_)=_;rw[Qfo,List.findIdx_cons];by_cases e:x=y;·subst e;simp
  have a:(y==x)=false:=by grind
  rw[decide_eq_false e,a];show aFind false [.s] (.str x) (mapS f l) (i+1)=_;rw[Qir l (i+1) ((ZaF.1 b).resolve_left e)];grind
theorem QeJ{f:List UInt8->AV}{x:List UInt8}:∀(l:List (List UInt8))(i:Nat),x∉l->aFind false [.s] (.str x) (mapS f l) i=some none|[],_,_=>rfl|y::l,i,a=>by simp only[ZaF,not_or]at a;show(match keyEq false [.s] (.str x) (.str y)with|some true=>_|some false=>_|none=>_)=_;rw[Qfo,decide_eq_false a.1];exact QeJ l (i+1) a.2
theorem Qow{f:List UInt8->AV}{x:List UInt8}{v:AV}{l:List (List UInt8)}(a:x∉l):mapS f l++[(.str x,v)]=mapS (updS f x v) (l++[x]):=by grind[mapS,updS,ZaH]
theorem Qfp{x:List UInt8}:keyOK false [.s] (.str x)=true:=by unfold keyOK;rw[Qfo]
section
variable{N:NM}{d:Option Nat}{r:List SOper}{dead:List Nat}{fs:List Fr}{n:Nat}{T:Tmps}{h:Heap}{Q:QC}
theorem Qga{f:List UInt8->AV}{x:List UInt8}{l:List (List UInt8)}{b g:Nat}{z:AV}{ok:Bool}(c:h.get b=some (.map g (mapS f l)))(i:x∈l)(a:wR P N r dead fs (n+1) (putD T d (if ok then .tup [f x,.bool true]else f x)) h Q):wM P N (aLookup false [.s] z ok (.map b g) (.str x)) d r dead fs n T h Q:=by refine⟨_,h,?_,a⟩;simp_all[aLookup,Qfp,HM.entries,HM.run,Qir]
theorem QcO{f:List UInt8->AV}{x:List UInt8}{l:List (List UInt8)}{b g:Nat}{z:AV}{ok:Bool}(c:h.get b=some (.map g (mapS f l)))(i:x∉l)(a:wR P N r dead fs (n+1) (putD T d (if ok then .tup [z,.bool false]else z)) h Q):wM P N (aLookup false [.s] z ok (.map b g) (.str x)) d r dead fs n T h Q:=by refine⟨_,h,?_,a⟩;simp_all[aLookup,Qfp,HM.entries,HM.run,QeJ]
theorem QbO{f:List UInt8->AV}{x:List UInt8}{l:List (List UInt8)}{b g:Nat}{v:AV}(i:h.get b=some (.map g (mapS f l)))(c:x∉l)(j:b<1099511627775)(k:wR P N r dead fs (n+1) (putD T d .any) (h.set b (.map g (mapS (updS f x v) (l++[x])))) Q):wM P N (aMapUpd false [.s] (.map b g) (.str x) v) d r dead fs n T h Q:=by
 refine⟨_,_,?_,k⟩;have m:Nat.beq g g=true:=by simp
 have a:Nat.blt b lim=true:=by simp[Nat.blt];exact j
 unfold aMapUpd;rw[if_pos Qfp];simp only[HM.entries,HM.run,i,m,cond_true,QeJ l 0 c,a,Qow c]
end
theorem RnM.mapS{m:Nat}{π:Nat->Option Src}{h:Heap}{f g:List UInt8->AV}:∀{l:List (List UInt8)},(∀x∈l,Rn m π h (f x) (g x))->RnM m π h (mapS f l) (mapS g l)|[],_=>trivial|x::l,hf=>⟨⟨Zb0 rfl,hf x (by simp)⟩,RnM.mapS (l:=l) fun y a=>hf y (by simp[a])⟩
end Go.AM
theorem _root_.Go.AM.Zco:type_of%@Go.AM.RnM.mapS:=@Go.AM.RnM.mapS
namespace Go.AM.SO
open Go.Proofs
set_option maxHeartbeats 4000000
noncomputable section
def cf:YA.Cf:={most:=.pure,always:=[83].map fun k=>(k,.heap),value:=.pure}
def s21:SFn:=by
 refine(?f:YA.Yt Tryz.prog cf 21 [[0,2],[15,16,17],[18],[1,3,19,20],[2,3,19,21,22,23],[25,26],[1,4,24],[4,24,28,29,30,31,32,33,34,35,36,37],[1,27],[2,27,38],[],[39,40],[],[43,44],[8,45,46,47,48],[49],[41,42,50],[],[54,55,56],[57,58,59,60,61,62,63],[64],[1,5,6,7,51,52,53,10,11,65,66],[2,10,11,65,67,68,69,70,71],[72],[6,51,52,53,73],[],[77,78,79],[13,80,81,82,83,84,85,86],[87],[1,5,7,74,75,76,14,88,89],[2,14,88,90],[1,5,7,74,75,76,91,92,93]]) ?s ?h;case h=>exact YA.rr
 exact fun s _=>s
def s25:SFn:=by
 refine(?f:YA.Yt Tryz.prog cf 25 [[0,2],[1,3,4,5,6]]) ?s ?h;case h=>exact YA.rr
 exact fun s _=>s
def s36:SFn:=by
 refine(?f:YA.Yt Tryz.prog cf 36 [[4],[0,1,5,6,7,8]]) ?s ?h;case h=>exact YA.rr
 exact fun s _=>s
def s51:SFn:=by
 refine(?f:YA.Yt Tryz.prog cf 51 [[0,1,4],[],[2,3,5,6,7,8,9,10,11,12,13,14,15,16,17,18,19,20,21,22,23,24,25,26,27,28,29,30,31,32,33,34,35,36,37,38,39,40]]) ?s ?h;case h=>exact YA.rr
 exact fun s _=>s
def s52:SFn:=by
 refine(?f:YA.Yt Tryz.prog cf 52 [[4],[6],[],[9,10],[11,12,13,14,15],[0,1,7,8,5,16,17],[4,5,16,18],[0,1,7,8]]) ?s ?h;case h=>exact YA.rr
 exact fun s _=>s
def s60:SFn:=by
 refine(?f:YA.Yt Tryz.prog cf 60 [[0,2],[1,3,4,5,6,7,8,9,10,11]]) ?s ?h;case h=>exact YA.rr
 exact fun s _=>s
def s82:SFn:=by
 refine(?f:YA.Yt Tryz.prog cf 82 [[2],[6,7],[0,8],[2,8,9],[0],[],[13,14,15],[17,18,19,20],[3,10,11,12,45,42,44,43,41,40,33,32,31,5,16],[16,22,23,24,25],[3,10,11,12,45,42,44,43,41,40,33,32,31,5,21],[21,27,28,29,30,34],[3,10,11,12,45,42,44,43,41,40,33,32,31,5,26],[26,36,37,38,39,46],[3,10,11,12,45,42,44,43,41,40,33,32,31,5,35],[2,5,35,47,48,49],[50],[3,10,11,12,45,42,44,43,41,40,33,32,31]]) ?s ?h;case h=>exact YA.rr
 exact fun s _=>s
def s84:SFn:=by
 refine(?f:YA.Yt Tryz.prog cf 84 [[4],[0,1,5,6,7]]) ?s ?h;case h=>exact YA.rr
 exact fun s _=>s
def s85:SFn:=by
 refine(?f:YA.Yt Tryz.prog cf 85 [[0],[10],[11],[],[15,16,17],[5,18,19,20,21,22,23,24,25],[26],[12,13,14,27],[],[31,32,33],[7,34,35,36,37,38,39,40,41,42,43,44],[45],[1,28,29,30,46],[],[50,51,52],[9,53,54,55,56,57,58,59,60,61,62,63,64,65],[66],[3,47,48,49,67]]) ?s ?h;case h=>exact YA.rr
 exact fun s _=>s
def s88:SFn:=by
 refine(?f:YA.Yt Tryz.prog cf 88 [[0,2],[],[],[6],[7,10,11,12,13,14,15],[16,17,18,19,20],[25,26,27,28,29,30,31],[25,32,33,34,35,36,37,38,39,40,41,42,43,44,45,46,47,48,49],[5,50,51,52,53],[8,9],[1,3,4,24,23,22,21,54]] [(3,[(7,16),(12,16),(12,18)])]) ?s ?h;case h=>exact YA.rr
 exact fun s _=>s
def s103:SFn:=by
 refine(?f:YA.Yt Tryz.prog cf 103 [[0,1,4],[7,8,9],[2,3,10],[4,10,11],[],[15,16,17,18],[20,21,22,23,30],[2,3,12,13,14,59,52,58,57,54,56,55,53,51,44,36,43,42,41,38,40,39,37,35,29,25,28,27,26,24,6,5,19],[5,19,32,33,34,45],[2,3,12,13,14,59,52,58,57,54,56,55,53,51,44,36,43,42,41,38,40,39,37,35,29,25,28,27,26,24,6,31],[6,31,47,48,49,50,60],[2,3,12,13,14,59,52,58,57,54,56,55,53,51,44,36,43,42,41,38,40,39,37,35,29,25,28,27,26,24,46],[4,46,61],[2,3,12,13,14,59,52,58,57,54,56,55,53,51,44,36,43,42,41,38,40,39,37,35,29,25,28,27,26,24]]) ?s ?h;case h=>exact YA.rr
 exact fun s _=>s
def s105:SFn:=by
 refine(?f:YA.Yt Tryz.prog cf 105 [[0,1,4],[7,8,9],[2,3,10],[4,10,11],[],[15,16,17,18],[20,21,22,23,30],[2,3,12,13,14,53,52,51,44,36,43,42,41,38,40,39,37,35,29,25,28,27,26,24,6,5,19],[5,19,32,33,34,45],[2,3,12,13,14,53,52,51,44,36,43,42,41,38,40,39,37,35,29,25,28,27,26,24,6,31],[6,31,47,48,49,50,54],[2,3,12,13,14,53,52,51,44,36,43,42,41,38,40,39,37,35,29,25,28,27,26,24,46],[4,46,55],[2,3,12,13,14,53,52,51,44,36,43,42,41,38,40,39,37,35,29,25,28,27,26,24,56,57],[58],[58]]) ?s ?h;case h=>exact YA.rr
 exact fun s _=>s
def s110:SFn:=by
 refine(?f:YA.Yt Tryz.prog cf 110 [[4],[6],[],[9,10],[11,12,13,14,15],[0,1,7,8,5,16,17],[4,5,16,18],[0,1,7,8]]) ?s ?h;case h=>exact YA.rr
 exact fun s _=>s
def s114:SFn:=by
 refine(?f:YA.Yt Tryz.prog cf 114 [[2],[3],[0,4],[0,4,5,6,7]]) ?s ?h;case h=>exact YA.rr
 exact fun s _=>s
def s123:SFn:=by
 refine(?f:YA.Yt Tryz.prog cf 123 [[4],[6,7,8,9],[0,1,10],[4,10,11],[],[14,15],[5,16,17,18,19,20,21,22,23],[0,1,12,13,24],[4,24,25],[0,1,12,13]]) ?s ?h;case h=>exact YA.rr
 exact fun s _=>s
def s124:SFn:=by
 refine(?f:YA.Yt Tryz.prog cf 124 [[6],[10,11,12,13],[0,1,2,14],[6,0,14],[],[18,19,20,21],[7,22,23,24,25],[8,9,26,27,28,29],[1,2,15,16,17,30],[6,30,31],[1,2,15,16,17]]) ?s ?h;case h=>exact YA.rr
 exact fun s _=>s
def s125:SFn:=by
 refine(?f:YA.Yt Tryz.prog cf 125 [[6],[10,11,12,13],[0,1,2,14],[6,0,14],[],[18,19,20,21],[7,22,23,24,25],[8,9,26,27,28,29],[1,2,15,16,17,30],[6,30,31],[1,2,15,16,17]]) ?s ?h;case h=>exact YA.rr
 exact fun s _=>s
def s127:SFn:=by
 refine(?f:YA.Yt Tryz.prog cf 127 [[4],[6,7,8,9],[0,1,10],[4,10,11],[],[14,15],[5,16,17,18,19,20,21,22,23],[0,1,12,13,24],[4,24,25],[0,1,12,13]]) ?s ?h;case h=>exact YA.rr
 exact fun s _=>s
def s128:SFn:=by
 refine(?f:YA.Yt Tryz.prog cf 128 [[6],[10,11,12,13],[0,1,2,14],[6,0,14],[],[18,19,20,21],[7,22,23,24,25],[8,9,26,27,28,29],[1,2,15,16,17,30],[6,30,31],[1,2,15,16,17]]) ?s ?h;case h=>exact YA.rr
 exact fun s _=>s
def s130:SFn:=by
 refine(?f:YA.Yt Tryz.prog cf 130 [[4],[6,7,8,9],[0,1,10],[4,10,11],[],[14,15],[5,16,17,18,19,20,21,22,23],[0,1,12,13,24],[4,24,25],[0,1,12,13]]) ?s ?h;case h=>exact YA.rr
 exact fun s _=>s
def s131:SFn:=by
 refine(?f:YA.Yt Tryz.prog cf 131 [[0,1,4],[2,3,5,6,7,8,9,10,11,12,13,14,15,16]]) ?s ?h;case h=>exact YA.rr
 exact fun s _=>s
def s132:SFn:=by
 refine(?f:YA.Yt Tryz.prog cf 132 [[0,1,4],[2,3,5,6,7,8,9,10,11,12,13,14,15,16]]) ?s ?h;case h=>exact YA.rr
 exact fun s _=>s
def s133:SFn:=by
 refine(?f:YA.Yt Tryz.prog cf 133 [[0,1,4],[2,3,5,6,7,8,9,10,11,12,13,14,15,16,17,18,19,20,21,22,23]]) ?s ?h;case h=>exact YA.rr
 exact fun s _=>s
def s148:SFn:=by
 refine(?f:YA.Yt Tryz.prog cf 148 [[2],[3],[0,4],[0,4,5,6,7]]) ?s ?h;case h=>exact YA.rr
 exact fun s _=>s
def s149:SFn:=by
 refine(?f:YA.Yt Tryz.prog cf 149 [[2],[3],[0,4],[0,4,5,6,7]]) ?s ?h;case h=>exact YA.rr
 exact fun s _=>s
def s166:SFn:=by
 refine(?f:YA.Yt Tryz.prog cf 166 [[3],[0,1,4,5,6]]) ?s ?h;case h=>exact YA.rr
 exact fun s _=>s
def s167:SFn:=by
 refine(?f:YA.Yt Tryz.prog cf 167 [[4],[0,1,5,6,7,8,9]]) ?s ?h;case h=>exact YA.rr
 exact fun s _=>s
def s168:SFn:=by
 refine(?f:YA.Yt Tryz.prog cf 168 [[6],[],[11,12,13,14],[18,19,20,21,22,35],[36,37,38,39,52],[],[],[53,54,55,56,57,58],[53],[59,60,61,62,63,64],[8,9,59,65,66,67],[10,68,69,70,71,72],[0,1,2,7,51,43,50,46,49,48,47,45,44,42,41,40,34,26,33,29,32,31,30,28,27,25,24,23,17,16,15,73]]) ?s ?h;case h=>exact YA.rr
 exact fun s _=>s
def s169:SFn:=by
 refine(?f:YA.Yt Tryz.prog cf 169 [[4],[0,1,5,6,7,8]]) ?s ?h;case h=>exact YA.rr
 exact fun s _=>s
def s190:SFn:=by
 refine(?f:YA.Yt Tryz.prog cf 190 [[2],[0,3,4,5,6,7,8]]) ?s ?h;case h=>exact YA.rr
 exact fun s _=>s
def s219:SFn:=by
 refine(?f:YA.Yt Tryz.prog cf 219 [[4],[0,1,5,6,7]]) ?s ?h;case h=>exact YA.rr
 exact fun s _=>s
def s242:SFn:=by
 refine(?f:YA.Yt Tryz.prog cf 242 [[4],[0,1,5,6,7,8,9]]) ?s ?h;case h=>exact YA.rr
 exact fun s _=>s
theorem ok21:okFn Tryz.prog 21 s21=true:=by kernel_rfl
theorem ok25:okFn Tryz.prog 25 s25=true:=by kernel_rfl
theorem ok36:okFn Tryz.prog 36 s36=true:=by kernel_rfl
theorem ok51:okFn Tryz.prog 51 s51=true:=by kernel_rfl
theorem ok52:okFn Tryz.prog 52 s52=true:=by kernel_rfl
theorem ok60:okFn Tryz.prog 60 s60=true:=by kernel_rfl
theorem ok82:okFn Tryz.prog 82 s82=true:=by kernel_rfl
theorem ok84:okFn Tryz.prog 84 s84=true:=by kernel_rfl
theorem ok85:okFn Tryz.prog 85 s85=true:=by kernel_rfl
theorem ok88:okFn Tryz.prog 88 s88=true:=by kernel_rfl
theorem ok103:okFn Tryz.prog 103 s103=true:=by kernel_rfl
theorem ok105:okFn Tryz.prog 105 s105=true:=by kernel_rfl
theorem ok110:okFn Tryz.prog 110 s110=true:=by kernel_rfl
theorem ok114:okFn Tryz.prog 114 s114=true:=by kernel_rfl
theorem ok123:okFn Tryz.prog 123 s123=true:=by kernel_rfl
theorem ok124:okFn Tryz.prog 124 s124=true:=by kernel_rfl
theorem ok125:okFn Tryz.prog 125 s125=true:=by kernel_rfl
theorem ok127:okFn Tryz.prog 127 s127=true:=by kernel_rfl
theorem ok128:okFn Tryz.prog 128 s128=true:=by kernel_rfl
theorem ok130:okFn Tryz.prog 130 s130=true:=by kernel_rfl
theorem ok131:okFn Tryz.prog 131 s131=true:=by kernel_rfl
theorem ok132:okFn Tryz.prog 132 s132=true:=by kernel_rfl
theorem ok133:okFn Tryz.prog 133 s133=true:=by kernel_rfl
theorem ok148:okFn Tryz.prog 148 s148=true:=by kernel_rfl
theorem ok149:okFn Tryz.prog 149 s149=true:=by kernel_rfl
theorem ok166:okFn Tryz.prog 166 s166=true:=by kernel_rfl
theorem ok167:okFn Tryz.prog 167 s167=true:=by kernel_rfl
theorem ok168:okFn Tryz.prog 168 s168=true:=by kernel_rfl
theorem ok169:okFn Tryz.prog 169 s169=true:=by kernel_rfl
theorem ok190:okFn Tryz.prog 190 s190=true:=by kernel_rfl
theorem ok219:okFn Tryz.prog 219 s219=true:=by kernel_rfl
theorem ok242:okFn Tryz.prog 242 s242=true:=by kernel_rfl
end
end Go.AM.SO
namespace Go.AM.SE
open Go.Proofs Go.AM.SD
abbrev backF(es:List Ed):Nat->AV:=fun k=>sliN (preds es k)
end Go.AM.SE
namespace Go.AM.SE
open Go.Proofs Go.AM.SD
theorem Qdf{f:Nat->AV}(h:∀x,noRef (f x)=true)(l:List Nat):noRefs (l.map f)=true:=by induction l with|nil=>rfl|cons x l a=>simp only[ZaW,noRefs,h,a];rfl
theorem Qao(k:IntKind)(l:List Nat):noRefs (l.map fun x:Nat=>AV.int k (x:Int))=true:=Qdf (fun _=>rfl) l
theorem Qap(es:List Ed)(l:List Nat):noRefs (l.map (backF es))=true:=Qdf (fun x=>Qab _) l
theorem QjU(n:Nat)(x:Int):(List.replicate n [AV.int .i64 x]).flatten=ints (List.replicate n x):=by induction n with|zero=>rfl|succ n a=>rw[Zbp,List.flatten_cons,a];rfl
theorem Qis{n i:Nat}(h:i<n):(List.replicate i (-1:Int)++List.replicate (n-i) 0).set i (-1)=List.replicate (i+1) (-1)++List.replicate (n-(i+1)) 0:=by rw[List.set_append_right _ _ (by simp),List.length_replicate,Nat.sub_self,show n-i=(n-(i+1))+1 by omega,Zbp,List.set_cons_zero,List.replicate_succ',ZaM];rfl
theorem Qcb{l:List Int}{i:Nat}{x:Int}:(ints l).set i (.int .i64 x)=ints (l.set i x):=by simp[ints,List.map_set]
theorem Qcc{l:List Int}{i:Nat}{x:Int}(h:l[i]?=some x):(ints l)[i]?=some (.int .i64 x):=by simp[ints,h]
theorem Qbh{l:List Int}{i:Nat}(h:i<l.length):(ints l)[i]?=some (.int .i64 (l.getD i 0)):=by simp[ints,h]
end Go.AM.SE
namespace Go.AM.SE
open Go.Proofs Go.AM.SD
def bkC(a:Int)(x:Nat):List AV:=[.int .i64 (x:Int),.int .i64 a,.int .i64 3,.int .i64 (-1)]
theorem QbC(a:Int)(l:List Nat):noRefs (l.flatMap (bkC a))=true:=QaJ (fun x=>rfl) l
def lsC(a:Int)(p:Nat×Nat):List AV:=[.int .i64 (p.1:Int),.int .i64 a,.int .i64 2,.int .i64 (p.2:Int)]
theorem Qaz(a:Int)(l:List (Nat×Nat)):noRefs (l.flatMap (lsC a))=true:=QaJ (fun x=>rfl) l
end Go.AM.SE
namespace Go.AM.SE
open Go.Proofs Go.AM.SD
theorem Qnw(l:List Int):flatVs (ints l)=true:=by induction l with|nil=>rfl|cons x l a=>simp only[ints,ZaW,flatVs,flatV,Zag];exact a
theorem FrzTo.all{h:Heap}{b g len sz:Nat}{cs:List AV}(c:h.get b=some (.cells g cs))(a:cs.length=len*sz):FrzTo h (.sl b g 0 len sz) (.fsl cs len sz):=by refine FrzTo.sl c (by omega) ?_;rw[Za2,<-a,Zav];exact Zb5 _
theorem WfA.auOk{a:Aut}(h:WfA a)(c:a.es.length<=1000000):AuOk (au a):=by
 have f:a.al.length<=5:=by have:=QaN 5 a.al (by rw[ZaJ];exact h.al.imp fun h=>by omega) h.al5;exact this
 have g:a.ms.length<=a.n:=QaN a.n a.ms h.nd h.msn;have d:=h.n5;refine{len:=?_,all:=?_,fr:=?_,to:=?_,ev:=?_,up:=?_,alS:=SetOk.nz (n:=32) (fun x b=>by have:=h.al5 x b;omega) h.al,msS:=SetOk.nz h.msn h.ms,mslen:=?_,n0:=?_,nm:=?_};·show(a.es.map eg).length<=_;simp;omega
 ·show(nz a.al).length<=_;simp;omega
 ·intro e he;obtain⟨x,b,rfl⟩:=Zas.1 he;have:=h.esn x b;show(0:Int)<=x.1/\(x.1:Int)<a.n;omega
 ·intro e he;obtain⟨x,b,rfl⟩:=Zas.1 he;have:=h.esn x b;show(0:Int)<=x.2.2/\(x.2.2:Int)<a.n;omega
 ·intro e he;obtain⟨x,b,rfl⟩:=Zas.1 he;exact Zas.2 ⟨x.2.1,h.ev x b,rfl⟩
 ·show(a.es.map eg).Pairwise _;rw[Za8];refine h.es.imp fun h=>?_;show(_:Int)<_\/(_:Int)=_/\(_:Int)<_;simp only[eg];omega
 ·show(nz a.ms).length<=_;simp;omega
 ·show(0:Int)<=(a.n:Int);omega
 show(a.n:Int)<=4096;omega
structure QOk(a:Aut)(f u:List Nat):Prop where
 fS:f.Pairwise (·<·)fn:∀x∈f,x<a.n
 uS:u.Pairwise (·<·)un:∀x∈u,x<32
theorem Qbf{l:List Nat}{n:Nat}(h:l.Pairwise (·<·))(a:∀x∈l,x<n):l.length<=n:=QaN n l (by rw[ZaJ];exact h.imp fun h=>by omega) a
end Go.AM.SE
namespace Go.AM.SE
open Go.Proofs Go.AM.SD
theorem _root_.Go.AM.Zcx{p q:Prop}(k:q)(h:p=q:=by conv=>lhs;simp(disch:=first|omega|exact PairsOK.mk rfl|(simp only[lenW]<;>omega))only[wW,wV,simprocAttr]):p:=h▸k
theorem _root_.Go.AM.Zcy{p q A:Prop}(a:A)(k:q)(h:A->p=q:=by intro a;conv=>lhs;simp(disch:=first|omega|exact PairsOK.mk rfl|(simp only[lenW]<;>omega))only[a,wW,wV,simprocAttr]):p:=h a▸k
theorem Qmo:aEq (.nil 2) false .nilsl .nilsl=some (.bool true):=rfl
theorem Qmp:aEq (.nil 2) false .nsl .nilsl=some (.bool false):=rfl
theorem Qck{P:Program}{N:NM}{n:Nat}{d:Option Nat}{dead:List Nat}{r:List SOper}{T:Tmps}{h:Heap}{Q:QC}{fs:List Fr}{sz bytes b2 c b a:Nat}:wM P N (aAppend .dyn n sz bytes (.sl b2 c b a sz) .nsl) d r dead fs n T h Q=wA P N (srcB (h.get b2) c b a sz) (some []) c a 0 sz bytes b2 d r dead fs n T h Q:=Qeg
theorem _root_.Go.AM.au3{p:Prop}(h:p:=by repeat'(first|exact Zb9|(refine Zb1 ?_;first|rfl|(simp only[noRef,noRefs,Qah,Zak,Zac,Zag,Qaa,Qak,Qad,Qal,Qaz,QbC,Qag,Qam,Qab,Qa4,QaE,Qao,Qap];done))|exact RnM.keyM rfl|exact Zcf|exact(True.intro:RnM _ _ _ [] [])|refine Zcg ?_ ?_|(refine Zb0 ?_;first|rfl|(simp only[noRef,noRefs,Qah,Zak,Zac,Zag,Qaa,Qak,Qad,Qal,Qaz,QbC,Qag,Qam,Qab,Qa4,QaE,Qao,Qap];done))|exact Rn.x1 rfl rfl|exact Rn.x2 rfl rfl|exact Rn.x3 rfl rfl|exact Rn.x4 rfl rfl|exact Rn.x5 rfl|exact Rn.x6 rfl|exact Rn.x7 rfl|refine Zcb rfl rfl ?_|refine Zca rfl rfl rfl ?_ ?_|refine Zcc rfl rfl rfl ?_ ?_|refine Zcd rfl rfl ?_ ?_|refine Zce rfl rfl ?_ ?_)):p:=h
theorem _root_.Go.AM.au4{p:Prop}(h:p:=by repeat(first|exact Zb7|(refine Zb8 ?_ ?_;·(first|exact Rn.any|exact Rn.x1 rfl rfl|exact Rn.x2 rfl rfl|exact Rn.x3 rfl rfl|exact Rn.x4 rfl rfl|exact Rn.x5 rfl|exact Rn.x6 rfl|exact Rn.x7 rfl|(refine Rn.slot ?_ ?_;(first|rfl|(rw[ZaS];rfl));(first|rfl|(simp only[noRef,noRefs,Qah,Zak,Zac,Zag,Qaa,Qak,Qad,Qal,Qaz,QbC,Qag,Qam,Qab,Qa4,QaE,Qao,Qap];done)))|(refine Rn.fn ?_ ?_<;>(repeat'(first|exact Zcf|refine Zcg ?_ ?_|exact Zb0 rfl|exact Rn.x6 rfl|exact Rn.x2 rfl rfl|exact Rn.x5 rfl|exact Rn.x1 rfl rfl))))))):p:=h
theorem Qnx:HSpec Tryz.prog 41 [.nilsl] .e (.sl 83 0 0 0 1) (hp [(83,.cells 0 [])]):=by refine Zcm 100 ok41 rfl ?_;unfold s41;refine Zcy @Qmo ?_;exact⟨.inr trivial,_,rfl,⟨[(83,.nil)],rfl,au0,au3,au4⟩⟩
theorem Qny:HSpec Tryz.prog 41 [.nsl] .e (.sl 83 0 0 0 1) (hp [(83,.cells 0 [])]):=by refine Zcm 100 ok41 rfl ?_;unfold s41;refine Zcy (Zcz @Qmp @Qck) ?_;exact⟨.inr trivial,_,rfl,⟨[(83,.blk 103 1)],rfl,au0,au3,au4⟩⟩
theorem clone56(l:List Nat)(c:l.length<=1000000):HSpec Tryz.prog 41 [sliN l] .e (.sl 83 0 0 l.length 1) (hp [(83,.cells 0 (ints (nz l)))]):=by cases l with|nil=>exact HSpec.empty Qnx Qny|cons x l=>
 refine Zcm 100 ok41 rfl ?_;have b:aEq (.nil 2) false (sliN (x::l)) .nilsl=some (.bool false):=rfl;have a:(ints (nz (x::l))).all AV.one=true:=by simp[ints,AV.one]
 generalize x::l=q at*;unfold s41;refine Zcy (Zcz b a) ?_;exact⟨.inr trivial,_,rfl,⟨[(83,.blk 103 1)],rfl,au0,au3,au4⟩⟩
end Go.AM.SE
namespace Go.AM.SE
open Go.Proofs Go.AM.SD
abbrev frzE(es:List Ed)(left:Nat->Bool):Nat->AV:=fun k=>egsN (sOut es left k)
theorem Qb3(es:List Ed)(left:Nat->Bool)(l:List Nat):noRefs (l.map (frzE es left))=true:=Qdf (fun x=>QaE _) l
theorem QbD(l:List Ed):(l.flatMap edC).length=l.length*3:=Qa8 (f:=edC) (k:=3) (fun _=>rfl) l
theorem Qcs(es:List Ed)(left:Nat->Bool)(v:Nat):(sOut es left v).length<=es.length:=by unfold sOut;exact ZbE _ _
def mks(a:Aut)(i:Nat)(o:List Nat):List Nat:=(List.range i).filter fun j=>a.ms.contains (o.getD j 0)
theorem Qhy{a:Aut}{i:Nat}{o:List Nat}:(mks a i o).length<=i:=by unfold mks;exact ZaI (ZbE _ _) (by simp)
theorem QlD{a:Aut}{i:Nat}{o t:List Nat}(h:i<=o.length):mks a i (o++t)=mks a i o:=by unfold mks;refine ZbI fun j b=>?_;have:=ZaT.1 b;rw[Zan,Zan,Za6 (by omega)]
theorem Qgx{a:Aut}{i v:Nat}{o:List Nat}(h:o[i]?=some v):mks a (i+1) o=mks a i o++if a.ms.contains v then[i]else[]:=by
 unfold mks;rw[ZaP,List.filter_append];congr 1;have:o.getD i 0=v:=by rw[Zan,h];rfl
 rw[List.filter_cons,this];rfl
theorem Qd5{i:Nat}{s:OE}{es:List Ed}{j:Nat}{e:Ed}(h:es[j]?=some e):(es.take (j+1)).foldl (sEd i) s=sEd i ((es.take j).foldl (sEd i) s) e:=by rw[Zbe,h,Option.toList,List.foldl_append];rfl
theorem QbJ{i:Nat}:∀(es:List Ed)(s:OE),(es.foldl (sEd i) s).2.length=s.2.length+es.length|[],s=>by simp|e::es,s=>by rw[Za1,QbJ es];unfold sEd;split<;>simp<;>omega
end Go.AM.SE
namespace Go.AM.SE
open Go.Proofs Go.AM.SD
def mach:Aut:=⟨[0,1,2,3],3,[0],[(0,0,1),(1,1,0),(1,2,2),(2,3,0)]⟩
def mach3:Aut:=⟨[0,1,2,3],3,[0],[(0,0,1),(1,1,0),(1,2,2)]⟩
theorem q1:QOk mach [2] [1,2]:=⟨by decide,by decide,by decide,by decide⟩
theorem q2:QOk mach3 [] [1,2]:=⟨by decide,by decide,by decide,by decide⟩
end Go.AM.SE
namespace Go.AM.SE
open Go.Proofs Go.AM.SD
theorem Qpe{α:Type}{p:α->Bool}{l:List α}{i:Nat}{x:α}(b:l[i]?=some x)(hp:p x=true)(a:∀j y,j<i->l[j]?=some y->p y=false):l.find? p=some x:=by obtain⟨hi,e⟩:=Zau.1 b;rw[List.find?_eq_some_iff_getElem];refine⟨hp,i,hi,e,fun j c=>?_⟩;have:=a j l[j] c (Zad (by omega));simp[this]
def stepI(es:List Ed)(s ev:Nat):Int:=match stepA es s ev with|some to=>(to:Int)|none=>-1
theorem _root_.Go.AM.au5{p:Prop}(h:p:=by repeat'(first|exact Zb9|(refine Zb1 ?_;first|rfl|(simp only[noRef,noRefs,Qah,Zak,Zac,Zag,Qaa,Qak,Qad,Qal,Qaz,QbC,Qag,Qam,Qab,Qa4,QaE,Qao,Qap,Qb3];done))|exact RnM.keyM rfl|exact Zcf|exact(True.intro:RnM _ _ _ [] [])|refine Zcg ?_ ?_|(refine Zb0 ?_;first|rfl|(simp only[noRef,noRefs,Qah,Zak,Zac,Zag,Qaa,Qak,Qad,Qal,Qaz,QbC,Qag,Qam,Qab,Qa4,QaE,Qao,Qap,Qb3];done))|exact Rn.x1 rfl rfl|exact Rn.x2 rfl rfl|exact Rn.x3 rfl rfl|exact Rn.x4 rfl rfl|exact Rn.x5 rfl|exact Rn.x6 rfl|exact Rn.x7 rfl|refine Zcb rfl rfl ?_|refine Zca rfl rfl rfl ?_ ?_|refine Zcc rfl rfl rfl ?_ ?_|refine Zcd rfl rfl ?_ ?_|refine Zce rfl rfl ?_ ?_)):p:=h
theorem _root_.Go.AM.au6{p:Prop}(h:p:=by repeat(first|exact Zb7|(refine Zb8 ?_ ?_;·(first|exact Rn.any|exact Rn.x1 rfl rfl|exact Rn.x2 rfl rfl|exact Rn.x3 rfl rfl|exact Rn.x4 rfl rfl|exact Rn.x5 rfl|exact Rn.x6 rfl|exact Rn.x7 rfl|(refine Rn.slot ?_ ?_;(first|rfl|(rw[ZaS];rfl));(first|rfl|(simp only[noRef,noRefs,Qah,Zak,Zac,Zag,Qaa,Qak,Qad,Qal,Qaz,QbC,Qag,Qam,Qab,Qa4,QaE,Qao,Qap,Qb3];done)))|(refine Rn.fn ?_ ?_<;>(repeat'(first|exact Zcf|refine Zcg ?_ ?_|exact Zb0 rfl|exact Rn.x6 rfl|exact Rn.x2 rfl rfl|exact Rn.x5 rfl|exact Rn.x1 rfl rfl))))))):p:=h
theorem step60(a:Aut)(s ev:Nat)(o:a.es.length<=1000000):PSpec Tryz.prog 62 [aV a,.int .i64 s,.int .i64 ev] (.int .i64 (stepI a.es s ev)):=by
 refine Zb3 64 ok62 rfl (by(try simp only[noRefs,Qao,Qap,Qaa,Qak,Qad,Qal,Qaz,Qag,noRef,Zak,Zac])<;>rfl) rfl ?_;unfold s62;refine Zcx ?_;refine Qay 100 (fun i:Nat=>[(1,.int .i64 s),(2,.int .i64 ev),(3,.ptr 50 0 0),(7,.int .i64 i)]) (fun _=>[(50,.cells 0 [sliN a.al,.int .i64 (a.n:Int),sliN a.ms,egsN a.es])]) (fun i=>i<=a.es.length/\∀(j:Nat)y,j<i->a.es[j]?=some y->(y.1==s&&y.2.1==ev)=false) (fun i=>a.es.length-i) 0 ⟨[(50,.blk 64 0)],rfl,au0,au5,au6⟩ ⟨Zah _,fun j y k=>absurd k (Zaw _)⟩ ?_;rintro i⟨hi,l⟩;by_cases c:i<a.es.length
 ·obtain⟨e,he⟩:=Qac c;have f:(e.1==s&&e.2.1==ev)=false->i+1<=a.es.length/\∀(j:Nat)y,j<i+1->a.es[j]?=some y->(y.1==s&&y.2.1==ev)=false:=fun h=>⟨by omega,fun j y k g=>by
  by_cases q:j=i;·subst q;rw[he]at g;cases g;exact h
  exact l j y (by omega) g⟩;by_cases h1:e.1=s
  ·by_cases n:e.2.1=ev
   ·have hf:=Qpe (p:=fun e:Ed=>e.1==s&&e.2.1==ev) he (by simp[h1,n]) l;have m:stepI a.es s ev=e.2.2:=by unfold stepI stepA;rw[hf];rfl
    have b:(e.1:Int)=(s:Int):=by omega
    have d:(e.2.1:Int)=(ev:Int):=by omega
    refine Zcy (ZcB c (QaU he) b d) ?_;exact⟨.inr trivial,_,rfl,by rw[m];rfl⟩
   have b:(e.1:Int)=(s:Int):=by omega
   have d:¬(e.2.1:Int)=(ev:Int):=by omega
   refine Zcy (ZcB c (QaU he) b d) ?_;exact⟨i+1,by omega,f (by simp[n]),⟨[(50,.blk 50 0)],rfl,au0,au5,au6⟩⟩
  have b:¬(e.1:Int)=(s:Int):=by omega
  refine Zcy (ZcA c (QaU he) b) ?_;exact⟨i+1,by omega,f (by simp[h1]),⟨[(50,.blk 50 0)],rfl,au0,au5,au6⟩⟩
 have hf:a.es.find? (fun e=>e.1==s&&e.2.1==ev)=none:=by rw[List.find?_eq_none];intro y g;obtain⟨j,k,p⟩:=Qep g;rw[l j y (by omega) k];decide
 have m:stepI a.es s ev=-1:=by unfold stepI stepA;rw[hf];rfl
 refine Zcy c ?_;exact⟨.inr trivial,_,rfl,by rw[m];rfl⟩
theorem index61(l:List Int)(n:Int)(o:l.length<=140737488355328):PSpec Tryz.prog 261 [sli l,.int .i64 n] (.int .i64 (indexR l n)):=by
 refine Zb3 64 ok261 rfl (by(try simp only[noRefs,Qao,Qap,Qaa,Qak,Qad,Qal,Qaz,Qag,noRef,Zak,Zac])<;>rfl) rfl ?_;unfold s261;refine Zcx ?_;refine Qay 100 (fun i:Nat=>[(0,sli l),(1,.int .i64 n),(5,.int .i64 i)]) (fun _=>[]) (fun i=>i<=l.length/\∀(j:Nat)y,j<i->l[j]?=some y->y≠n) (fun i=>l.length-i) 0 ⟨[],rfl,au0,au5,au6⟩ ⟨Zah _,fun j y c=>absurd c (Zaw _)⟩ ?_;rintro i⟨hi,f⟩;by_cases a:i<l.length
 ·obtain⟨x,b⟩:=Qac a;by_cases d:x=n
  ·have h1:n∈l:=d▸Zae b;have k:l.findIdx (·==n)=i:=by rw[List.findIdx_eq a];refine⟨by rw[Zad a]at b;cases b;simp[d],fun j c=>?_⟩;have:=f j l[j] c (Zad (by omega));simpa using this
   refine Zcy (ZcA a (Qav b) d) ?_;refine⟨.inr trivial,_,rfl,?_⟩;simp only[indexR,if_pos h1,k];rfl
  refine Zcy (ZcA a (Qav b) d) ?_;refine⟨i+1,by omega,⟨by omega,fun j y c g=>?_⟩,⟨[],rfl,au0,au5,au6⟩⟩;by_cases e:j=i;·subst e;rw[b]at g;cases g;exact d
  exact f j y (by omega) g
 have :n∉l:=fun h=>by obtain⟨j,c,m⟩:=Qep h;exact f j n (by omega) c rfl
 refine Zcy a ?_;exact⟨.inr trivial,_,rfl,by simp only[indexR,if_neg this];rfl⟩
theorem QjV{l:List Nat}{x:Nat}(h:x∈l):indexR (nz l) x=idx l x:=by
 have h1:(x:Int)∈nz l:=Zas.2 ⟨x,h,rfl⟩;unfold indexR;rw[if_pos h1];unfold idx nz;rw[List.findIdx_map];congr 2;funext y;show((y:Int)==(x:Int))=(y==x);by_cases e:y=x;·subst e;simp
 have :¬(y:Int)=(x:Int):=by omega
 rw[beq_eq_false_iff_ne.2 this,beq_eq_false_iff_ne.2 e]
theorem Qit{al:List Nat}{es:List Ed}{s:Nat}{out:List Nat}{k ev:Nat}(h:al[k]?=some ev):(al.take (k+1)).foldl (fEv es s) out=fEv es s ((al.take k).foldl (fEv es s) out) ev:=by rw[Zbe,h,Option.toList,List.foldl_append];rfl
structure Raw(a:Aut):Prop where
 esn:∀e∈a.es,e.1<a.n/\e.2.2<a.n
 n5:a.n<=5
 el:a.es.length<=1000000
 al:a.al.length<=32
 ml:a.ms.length<=32
theorem found59(a:Aut)(h:Raw a):PSpec Tryz.prog 259 [aV a] (sliN (found a)):=by
 have J:=h.n5;have K:=h.al;refine Zb2 64 ok259 rfl (by(try simp only[noRefs,Qao,Qap,Qaa,Qak,Qad,Qal,Qaz,Qag,noRef,Zak,Zac])<;>rfl) (Qab _) ?_;have l:fQ a.al a.es (a.n+1) 0 (if 0<a.n then[0]else[])=found a:=rfl;by_cases I:0<a.n
 ·rw[if_pos I]at l;have A:(0:Int)<(a.n:Int):=by omega
  unfold s259;refine Zcy (ZcA A @QjT @Qov) ?_;refine Qay 100 (fun t:Nat×List Nat=>[(1,.ptr 50 0 0),(3,.sl 75 0 0 t.2.length 1),(4,.int .i64 t.1)]) (fun t=>[(50,.cells 0 [sliN a.al,.int .i64 (a.n:Int),sliN a.ms,egsN a.es]),(75,.cells 0 (ints (nz t.2)))]) (fun t=>t.1<=t.2.length/\FI a.n t.2/\fQ a.al a.es (a.n+1-t.1) t.1 t.2=found a) (fun t=>a.n+1-t.1) (0,[0]) ?_ ⟨Zah _,⟨by simp,fun x G=>by simp at G;omega⟩,by dsimp only;exact l⟩ ?_;·exact⟨[(50,.blk 64 0),(75,.blk 72 0)],rfl,au0,au5,au6⟩
  rintro⟨i,out⟩⟨hi,j,w⟩;dsimp only at hi j w⊢;have H:=j.len;by_cases d:i<out.length
  ·obtain⟨s,B⟩:=Qac d;have z:fQ a.al a.es (a.n+1-(i+1)) (i+1) (fRow a.al a.es s out)=found a:=by rw[<-w,show a.n+1-i=(a.n+1-(i+1))+1 by omega];simp only[fQ,B]
   have f:=fun k=>FI.row h.esn s (a.al.take k) out j;refine Zcy d ?_;refine Qaj 200 (fun k:Nat=>[(1,.ptr 50 0 0),(3,.sl 75 0 0 ((a.al.take k).foldl (fEv a.es s) out).length 1),(4,.int .i64 i),(5,.int .i64 k)]) (fun k=>[(50,.cells 0 [sliN a.al,.int .i64 (a.n:Int),sliN a.ms,egsN a.es]),(75,.cells 0 (ints (nz ((a.al.take k).foldl (fEv a.es s) out))))]) (fun k=>k<=a.al.length) (fun k=>a.al.length-k) 0 2 300 (fun _:Unit=>[(1,.ptr 50 0 0),(3,.sl 75 0 0 (fRow a.al a.es s out).length 1),(4,.int .i64 i)]) (fun _=>[(50,.cells 0 [sliN a.al,.int .i64 (a.n:Int),sliN a.ms,egsN a.es]),(75,.cells 0 (ints (nz (fRow a.al a.es s out))))]) (fun _=>True) ?_ (Zah _) ?_ ?_;·exact⟨[(50,.blk 50 0),(75,.blk 75 0)],rfl,au0,au5,au6⟩
   ·rintro k L;by_cases g:k<a.al.length
    ·obtain⟨ev,r⟩:=Qac g;have b:=Qit (es:=a.es) (s:=s) (out:=out) r;obtain⟨u,⟨t,m⟩,_⟩:=f k;have F:=u.len;have n:((a.al.take k).foldl (fEv a.es s) out)[i]?=some s:=by rw[m,Za6 d];exact B
     generalize(a.al.take k).foldl (fEv a.es s) out=o at*;have y:i<o.length:=(Zau.1 n).1
     refine Zcy (ZcB g y (Qcc (nz_at n)) (QaP r)) ?_;refine cp (step60 a s ev h.el) ?_;cases c:stepA a.es s ev with|none=>
      have h1:stepI a.es s ev=-1:=by unfold stepI;rw[c]
      have p:fEv a.es s o ev=o:=by unfold fEv;rw[c]
      rw[p]at b;rw[h1];refine Zcx ?_;refine⟨k+1,by omega,by omega,?_⟩;rw[b];exact⟨[(50,.blk 50 0),(75,.blk 75 0)],rfl,au0,au5,au6⟩|some to=>
      have h1:stepI a.es s ev=to:=by unfold stepI;rw[c]
      have E:=Qgv h.esn c;rw[h1];refine Zcx ?_;have q:=has36 (nz o) to (by simp;omega);rw[QjQ,QaO]at q;by_cases hc:o.contains to=true
      ·have p:fEv a.es s o ev=o:=by unfold fEv;rw[c];exact if_pos hc
       rw[p]at b;rw[hc]at q;refine ch (Zcj (Zcl (FrzTo.all gg (by simp[ints])) (Zcl (Zb4 _) Zck)) q rfl) ?_;refine Zcx ?_;refine⟨k+1,by omega,by omega,?_⟩;rw[b];exact⟨[(50,.blk 50 0),(75,.blk 75 0)],rfl,au0,au5,au6⟩
      have p:fEv a.es s o ev=o++[to]:=by unfold fEv;rw[c];exact if_neg hc
      rw[p]at b;rw[Zaj]at hc;rw[hc]at q;refine ch (Zcj (Zcl (FrzTo.all gg (by simp[ints])) (Zcl (Zb4 _) Zck)) q rfl) ?_;refine Zcx ?_;refine⟨k+1,by omega,by omega,?_⟩;rw[b,Zai,QaL,QaA];exact⟨[(50,.blk 50 0),(75,.blk 75 1)],rfl,au0,au5,au6⟩
    have e:k=a.al.length:=by omega
    subst e;refine Zcy g ?_;refine⟨(),?_⟩;exact⟨[(50,.blk 50 0),(75,.blk 75 0)],rfl,au0,au5,au6⟩
   rintro _ _;obtain⟨u,⟨t,m⟩,_⟩:=f a.al.length;rw[Zav]at u m;have m:fRow a.al a.es s out=out++t:=m;refine Zcx ?_;refine⟨(i+1,fRow a.al a.es s out),by dsimp only;omega,⟨by dsimp only;rw[m,List.length_append];omega,u,z⟩,?_⟩;exact⟨[(50,.blk 50 0),(75,.blk 75 0)],rfl,au0,au5,au6⟩
  have C:out[i]?=none:=ZaA (by omega);have v:out=found a:=by rw[<-w,show a.n+1-i=(a.n-i)+1 by omega];simp only[fQ,C]
  refine Zcy d ?_;refine⟨.inr trivial,_,rfl,?_⟩;rw[v];exact Rn.fz0 (g:=0) rfl (by simp[ints]) (Zb1 (Qaa _))
 rw[if_neg I]at l;have A:¬(0:Int)<(a.n:Int):=by omega
 unfold s259;refine Zcy A ?_;refine Qay 100 (fun t:Nat×List Nat=>[(1,.ptr 50 0 0),(3,.sl 75 0 0 t.2.length 1),(4,.int .i64 t.1)]) (fun t=>[(50,.cells 0 [sliN a.al,.int .i64 (a.n:Int),sliN a.ms,egsN a.es]),(75,.cells 0 (ints (nz t.2)))]) (fun t=>t.1<=t.2.length/\FI a.n t.2/\fQ a.al a.es (a.n+1-t.1) t.1 t.2=found a) (fun t=>a.n+1-t.1) (0,([]:List Nat)) ?_ ⟨Zah _,⟨by simp,fun x G=>by cases G⟩,by dsimp only;exact l⟩ ?_;·exact⟨[(50,.blk 64 0),(75,.nil)],rfl,au0,au5,au6⟩
 rintro⟨i,out⟩⟨hi,j,w⟩;dsimp only at hi j w⊢;have H:=j.len;by_cases d:i<out.length
 ·obtain⟨s,B⟩:=Qac d;have z:fQ a.al a.es (a.n+1-(i+1)) (i+1) (fRow a.al a.es s out)=found a:=by rw[<-w,show a.n+1-i=(a.n+1-(i+1))+1 by omega];simp only[fQ,B]
  have f:=fun k=>FI.row h.esn s (a.al.take k) out j;refine Zcy d ?_;refine Qaj 200 (fun k:Nat=>[(1,.ptr 50 0 0),(3,.sl 75 0 0 ((a.al.take k).foldl (fEv a.es s) out).length 1),(4,.int .i64 i),(5,.int .i64 k)]) (fun k=>[(50,.cells 0 [sliN a.al,.int .i64 (a.n:Int),sliN a.ms,egsN a.es]),(75,.cells 0 (ints (nz ((a.al.take k).foldl (fEv a.es s) out))))]) (fun k=>k<=a.al.length) (fun k=>a.al.length-k) 0 2 300 (fun _:Unit=>[(1,.ptr 50 0 0),(3,.sl 75 0 0 (fRow a.al a.es s out).length 1),(4,.int .i64 i)]) (fun _=>[(50,.cells 0 [sliN a.al,.int .i64 (a.n:Int),sliN a.ms,egsN a.es]),(75,.cells 0 (ints (nz (fRow a.al a.es s out))))]) (fun _=>True) ?_ (Zah _) ?_ ?_;·exact⟨[(50,.blk 50 0),(75,.blk 75 0)],rfl,au0,au5,au6⟩
  ·rintro k L;by_cases g:k<a.al.length
   ·obtain⟨ev,r⟩:=Qac g;have b:=Qit (es:=a.es) (s:=s) (out:=out) r;obtain⟨u,⟨t,m⟩,_⟩:=f k;have F:=u.len;have n:((a.al.take k).foldl (fEv a.es s) out)[i]?=some s:=by rw[m,Za6 d];exact B
    generalize(a.al.take k).foldl (fEv a.es s) out=o at*;have y:i<o.length:=(Zau.1 n).1
    refine Zcy (ZcB g y (Qcc (nz_at n)) (QaP r)) ?_;refine cp (step60 a s ev h.el) ?_;cases c:stepA a.es s ev with|none=>
     have h1:stepI a.es s ev=-1:=by unfold stepI;rw[c]
     have p:fEv a.es s o ev=o:=by unfold fEv;rw[c]
     rw[p]at b;rw[h1];refine Zcx ?_;refine⟨k+1,by omega,by omega,?_⟩;rw[b];exact⟨[(50,.blk 50 0),(75,.blk 75 0)],rfl,au0,au5,au6⟩|some to=>
     have h1:stepI a.es s ev=to:=by unfold stepI;rw[c]
     have E:=Qgv h.esn c;rw[h1];refine Zcx ?_;have q:=has36 (nz o) to (by simp;omega);rw[QjQ,QaO]at q;by_cases hc:o.contains to=true
     ·have p:fEv a.es s o ev=o:=by unfold fEv;rw[c];exact if_pos hc
      rw[p]at b;rw[hc]at q;refine ch (Zcj (Zcl (FrzTo.all gg (by simp[ints])) (Zcl (Zb4 _) Zck)) q rfl) ?_;refine Zcx ?_;refine⟨k+1,by omega,by omega,?_⟩;rw[b];exact⟨[(50,.blk 50 0),(75,.blk 75 0)],rfl,au0,au5,au6⟩
     have p:fEv a.es s o ev=o++[to]:=by unfold fEv;rw[c];exact if_neg hc
     rw[p]at b;rw[Zaj]at hc;rw[hc]at q;refine ch (Zcj (Zcl (FrzTo.all gg (by simp[ints])) (Zcl (Zb4 _) Zck)) q rfl) ?_;refine Zcx ?_;refine⟨k+1,by omega,by omega,?_⟩;rw[b,Zai,QaL,QaA];exact⟨[(50,.blk 50 0),(75,.blk 75 1)],rfl,au0,au5,au6⟩
   have e:k=a.al.length:=by omega
   subst e;refine Zcy g ?_;refine⟨(),?_⟩;exact⟨[(50,.blk 50 0),(75,.blk 75 0)],rfl,au0,au5,au6⟩
  rintro _ _;obtain⟨u,⟨t,m⟩,_⟩:=f a.al.length;rw[Zav]at u m;have m:fRow a.al a.es s out=out++t:=m;refine Zcx ?_;refine⟨(i+1,fRow a.al a.es s out),by dsimp only;omega,⟨by dsimp only;rw[m,List.length_append];omega,u,z⟩,?_⟩;exact⟨[(50,.blk 50 0),(75,.blk 75 0)],rfl,au0,au5,au6⟩
 have C:out[i]?=none:=ZaA (by omega);have v:out=found a:=by rw[<-w,show a.n+1-i=(a.n-i)+1 by omega];simp only[fQ,C]
 refine Zcy d ?_;refine⟨.inr trivial,_,rfl,?_⟩;rw[v];exact Rn.fz0 (g:=0) rfl (by simp[ints]) (Zb1 (Qaa _))
end Go.AM.SE
namespace Go.AM.SE
open Go.Proofs Go.AM.SD
theorem Qox(l:List Int):(ints l).all AV.one=true:=by induction l with|nil=>rfl|cons x l a=>show(AV.one _&&(ints l).all AV.one)=true;rw[a];rfl
theorem empty45(l:List Nat)(b:l.length<=1000000):PSpec Tryz.prog 224 [sliN l] (.agg [sliN l,.int .i64 0,.nilsl,.nilsl]):=by refine Zb2 64 ok224 rfl (by(try simp only[noRefs,Qao,Qap,Qaa,Qak,Qad,Qal,Qaz,Qag,noRef,Zak,Zac])<;>rfl) (by simp only[noRef,noRefs,Qaa];rfl) ?_;have a:=Qox (nz l);unfold s224;refine Zcy a ?_;refine⟨.inr trivial,_,rfl,?_⟩;exact Rn.agg (Zcg (Rn.fz0 (g:=1) rfl (by simp[ints]) (Zb1 (Qaa _))) (Zb1 rfl))
theorem Qiu{a:Aut}{f:List Nat}{i s k ev:Nat}(h:a.al[k]?=some ev):(a.al.take (k+1)).filterMap (fun ev=>(stepA a.es s ev).map fun to=>(i,ev,idx f to))=(a.al.take k).filterMap (fun ev=>(stepA a.es s ev).map fun to=>(i,ev,idx f to))++match stepA a.es s ev with|some to=>[(i,ev,idx f to)]|none=>[]:=by rw[Zbe,h,Option.toList,List.filterMap_append];congr 1;cases e:stepA a.es s ev with|none=>simp[e]|some to=>simp[e]
def cPre(a:Aut)(f:List Nat)(i:Nat):List Ed:=(List.range i).flatMap fun i=>cRow a f i (f.getD i 0)
def cPart(a:Aut)(f:List Nat)(i s k:Nat):List Ed:=cPre a f i++(a.al.take k).filterMap (fun ev=>(stepA a.es s ev).map fun to=>(i,ev,idx f to))
theorem Qnz{a:Aut}{f:List Nat}{i s:Nat}(h:f[i]?=some s):cPre a f (i+1)=cPre a f i++cRow a f i s:=by
 unfold cPre;rw[ZaP,Zaq];have:f.getD i 0=s:=by rw[Zan,h];rfl
 rw[Zay,Zbq,Zax,this]
theorem Qoy(a:Aut)(f:List Nat)(i s:Nat):(cRow a f i s).length<=a.al.length:=by unfold cRow;exact Zbu _ _
theorem Qgy(a:Aut)(f:List Nat):∀i,(cPre a f i).length<=i*a.al.length|0=>by simp[cPre]|i+1=>by have h1:=Qgy a f i;have b:=Qoy a f i (f.getD i 0);unfold cPre at h1⊢;rw[ZaP,Zaq,Zai,Za3];simp only[Zay,Zbq,Zax];omega
theorem canon46(a:Aut)(h:Raw a):PSpec Tryz.prog 225 [aV a] (aV (canon a)):=by
 have K:=h.n5;have z:=h.al;have J:=h.ml;obtain⟨I,_,F⟩:=QeG h.esn;have O:=I.len;refine Zb2 64 ok225 rfl (by(try simp only[noRefs,Qao,Qap,Qaa,Qak,Qad,Qal,Qaz,Qag,noRef,Zak,Zac])<;>rfl) (Qcr _) ?_;have N:=found59 a h;have x:canon a=⟨a.al,(found a).length,mks a (found a).length (found a),cPre a (found a) (found a).length⟩:=rfl;rw[x];generalize found a=f at*;unfold s225;refine Zcx ?_;refine cp N ?_;refine Zcx ?_;refine cp (empty45 a.al (by omega)) ?_;refine Zcx ?_;refine Qaj 100 (fun i:Nat=>[(1,.ptr 50 0 0),(2,.ptr 51 0 0),(3,sliN f),(4,.ptr 52 0 0),(5,.int .i64 i)]) (fun i=>[(50,.cells 0 [sliN a.al,.int .i64 (a.n:Int),sliN a.ms,egsN a.es]),(51,.cells 0 [.nilsl,.int .i64 0,.nilsl,.nilsl]),(52,.cells 0 [sliN a.al,.int .i64 f.length,.sl 77 0 0 (mks a i f).length 1,.sl 76 0 0 (cPre a f i).length 3]),(76,.cells 0 ((cPre a f i).flatMap edC)),(77,.cells 0 (ints (nz (mks a i f))))]) (fun i=>i<=f.length) (fun i=>f.length-i) 0 0 160 (fun _:Unit=>[(2,.ptr 51 0 0),(4,.ptr 52 0 0)]) (fun _=>[(51,.cells 0 [.nilsl,.int .i64 0,.nilsl,.nilsl]),(52,.cells 0 [sliN a.al,.int .i64 f.length,.sl 77 0 0 (mks a f.length f).length 1,.sl 76 0 0 (cPre a f f.length).length 3]),(76,.cells 0 ((cPre a f f.length).flatMap edC)),(77,.cells 0 (ints (nz (mks a f.length f))))]) (fun _=>True) ?_ (Zah _) ?_ ?_;·exact⟨[(50,.blk 64 0),(51,.blk 65 0),(52,.blk 72 0),(76,.nil),(77,.nil)],rfl,au0,au5,au6⟩
 ·rintro i hi;by_cases n:i<f.length
  ·obtain⟨s,t⟩:=Qac n;have v:=Zae t;have q:=Qgx (a:=a) t;have H:=@Qhy a i f;have C:=Qgy a f i;have E:(cPre a f i).length<=1000:=ZaI C (ZaI (Nat.mul_le_mul (show i<=5 by omega) z) (by decide));have B:=Qnz (a:=a) t;have G:=QbD (cPre a f i);have y:=has36 (nz a.ms) s (by simp;omega);rw[QjQ,QaO]at y;have m:cPart a f i s 0=cPre a f i:=by simp[cPart]
   have l:cPart a f i s a.al.length=cPre a f (i+1):=by rw[B];unfold cPart cRow;rw[Zav]
   generalize w:mks a (i+1) f=M1 at*;generalize P:mks a i f=M at*;by_cases o:a.ms.contains s=true
   ·rw[if_pos o]at q;rw[o]at y;refine Zcy (Zcz n (QaP t)) ?_;refine ch (Zcj (Zb5 _) y rfl) ?_;refine Zcx ?_;refine Qaj 300 (fun k:Nat=>[(1,.ptr 50 0 0),(2,.ptr 51 0 0),(3,sliN f),(4,.ptr 52 0 0),(5,.int .i64 i),(6,.int .i64 k)]) (fun k=>[(50,.cells 0 [sliN a.al,.int .i64 (a.n:Int),sliN a.ms,egsN a.es]),(51,.cells 0 [.nilsl,.int .i64 0,.nilsl,.nilsl]),(52,.cells 0 [sliN a.al,.int .i64 f.length,.sl 77 0 0 M1.length 1,.sl 76 0 0 (cPart a f i s k).length 3]),(76,.cells 0 ((cPart a f i s k).flatMap edC)),(77,.cells 0 (ints (nz M1)))]) (fun k=>k<=a.al.length) (fun k=>a.al.length-k) 0 2 400 (fun _:Unit=>[(1,.ptr 50 0 0),(2,.ptr 51 0 0),(3,sliN f),(4,.ptr 52 0 0),(5,.int .i64 i)]) (fun _=>[(50,.cells 0 [sliN a.al,.int .i64 (a.n:Int),sliN a.ms,egsN a.es]),(51,.cells 0 [.nilsl,.int .i64 0,.nilsl,.nilsl]),(52,.cells 0 [sliN a.al,.int .i64 f.length,.sl 77 0 0 M1.length 1,.sl 76 0 0 (cPre a f (i+1)).length 3]),(76,.cells 0 ((cPre a f (i+1)).flatMap edC)),(77,.cells 0 (ints (nz M1)))]) (fun _=>True) ?_ (Zah _) ?_ ?_;·rw[m,q,Zai,QaL,QaA];exact⟨[(50,.blk 50 0),(51,.blk 51 0),(52,.blk 52 0),(76,.blk 76 0),(77,.blk 77 1)],rfl,au0,au5,au6⟩
    ·rintro k L;by_cases c:k<a.al.length
     ·obtain⟨ev,d⟩:=Qac c;have p:=Zae d;have r:=Qiu (a:=a) (f:=f) (i:=i) (s:=s) d;have A:(cPart a f i s k).length<=2000:=by unfold cPart;rw[Zai];have h1:=Zbu (fun ev=>(stepA a.es s ev).map fun to=>(i,ev,idx f to)) (a.al.take k);rw[Zar]at h1;omega
      have u:=QbD (cPart a f i s k);have g:cPart a f i s (k+1)=cPart a f i s k++match stepA a.es s ev with|some to=>[(i,ev,idx f to)]|none=>[]:=by unfold cPart;rw[r,ZaM]
      generalize cPart a f i s k=R at*;refine Zcy (ZcB c n (QaP t) (QaP d)) ?_;refine cp (step60 a s ev h.el) ?_;cases b:stepA a.es s ev with|none=>
       have h1:stepI a.es s ev=-1:=by unfold stepI;rw[b]
       rw[b,Zax]at g;rw[h1];refine Zcx ?_;refine⟨k+1,by omega,by omega,?_⟩;rw[g];exact⟨[(50,.blk 50 0),(51,.blk 51 0),(52,.blk 52 0),(76,.blk 76 0),(77,.blk 77 0)],rfl,au0,au5,au6⟩|some to=>
       have h1:stepI a.es s ev=to:=by unfold stepI;rw[b]
       rw[b]at g;have j:=index61 (nz f) to (by simp;omega);rw[QaO,QjV (F s v ev p to b)]at j;rw[h1];refine Zcy (Zcz c (QaP d)) ?_;refine cp j ?_;refine Zcy u ?_;refine⟨k+1,by omega,by omega,?_⟩;rw[g,Zaq,Zai];exact⟨[(50,.blk 50 0),(51,.blk 51 0),(52,.blk 52 0),(76,.blk 76 1),(77,.blk 77 0)],rfl,au0,au5,au6⟩
     have e:k=a.al.length:=by omega
     subst e;refine Zcy c ?_;refine⟨(),?_⟩;rw[l];exact⟨[(50,.blk 50 0),(51,.blk 51 0),(52,.blk 52 0),(76,.blk 76 0),(77,.blk 77 0)],rfl,au0,au5,au6⟩
    rintro _ _;refine Zcx ?_;refine⟨i+1,by omega,by omega,?_⟩;rw[w];exact⟨[(50,.blk 50 0),(51,.blk 51 0),(52,.blk 52 0),(76,.blk 76 0),(77,.blk 77 0)],rfl,au0,au5,au6⟩
   rw[if_neg o,Zax]at q;rw[Zaj]at o;rw[o]at y;refine Zcy (Zcz n (QaP t)) ?_;refine ch (Zcj (Zb5 _) y rfl) ?_;refine Zcx ?_;refine Qaj 300 (fun k:Nat=>[(1,.ptr 50 0 0),(2,.ptr 51 0 0),(3,sliN f),(4,.ptr 52 0 0),(5,.int .i64 i),(6,.int .i64 k)]) (fun k=>[(50,.cells 0 [sliN a.al,.int .i64 (a.n:Int),sliN a.ms,egsN a.es]),(51,.cells 0 [.nilsl,.int .i64 0,.nilsl,.nilsl]),(52,.cells 0 [sliN a.al,.int .i64 f.length,.sl 77 0 0 M1.length 1,.sl 76 0 0 (cPart a f i s k).length 3]),(76,.cells 0 ((cPart a f i s k).flatMap edC)),(77,.cells 0 (ints (nz M1)))]) (fun k=>k<=a.al.length) (fun k=>a.al.length-k) 0 2 400 (fun _:Unit=>[(1,.ptr 50 0 0),(2,.ptr 51 0 0),(3,sliN f),(4,.ptr 52 0 0),(5,.int .i64 i)]) (fun _=>[(50,.cells 0 [sliN a.al,.int .i64 (a.n:Int),sliN a.ms,egsN a.es]),(51,.cells 0 [.nilsl,.int .i64 0,.nilsl,.nilsl]),(52,.cells 0 [sliN a.al,.int .i64 f.length,.sl 77 0 0 M1.length 1,.sl 76 0 0 (cPre a f (i+1)).length 3]),(76,.cells 0 ((cPre a f (i+1)).flatMap edC)),(77,.cells 0 (ints (nz M1)))]) (fun _=>True) ?_ (Zah _) ?_ ?_;·rw[m,q];exact⟨[(50,.blk 50 0),(51,.blk 51 0),(52,.blk 52 0),(76,.blk 76 0),(77,.blk 77 0)],rfl,au0,au5,au6⟩
   ·rintro k L;by_cases c:k<a.al.length
    ·obtain⟨ev,d⟩:=Qac c;have p:=Zae d;have r:=Qiu (a:=a) (f:=f) (i:=i) (s:=s) d;have A:(cPart a f i s k).length<=2000:=by unfold cPart;rw[Zai];have h1:=Zbu (fun ev=>(stepA a.es s ev).map fun to=>(i,ev,idx f to)) (a.al.take k);rw[Zar]at h1;omega
     have u:=QbD (cPart a f i s k);have g:cPart a f i s (k+1)=cPart a f i s k++match stepA a.es s ev with|some to=>[(i,ev,idx f to)]|none=>[]:=by unfold cPart;rw[r,ZaM]
     generalize cPart a f i s k=R at*;refine Zcy (ZcB c n (QaP t) (QaP d)) ?_;refine cp (step60 a s ev h.el) ?_;cases b:stepA a.es s ev with|none=>
      have h1:stepI a.es s ev=-1:=by unfold stepI;rw[b]
      rw[b,Zax]at g;rw[h1];refine Zcx ?_;refine⟨k+1,by omega,by omega,?_⟩;rw[g];exact⟨[(50,.blk 50 0),(51,.blk 51 0),(52,.blk 52 0),(76,.blk 76 0),(77,.blk 77 0)],rfl,au0,au5,au6⟩|some to=>
      have h1:stepI a.es s ev=to:=by unfold stepI;rw[b]
      rw[b]at g;have j:=index61 (nz f) to (by simp;omega);rw[QaO,QjV (F s v ev p to b)]at j;rw[h1];refine Zcy (Zcz c (QaP d)) ?_;refine cp j ?_;refine Zcy u ?_;refine⟨k+1,by omega,by omega,?_⟩;rw[g,Zaq,Zai];exact⟨[(50,.blk 50 0),(51,.blk 51 0),(52,.blk 52 0),(76,.blk 76 1),(77,.blk 77 0)],rfl,au0,au5,au6⟩
    have e:k=a.al.length:=by omega
    subst e;refine Zcy c ?_;refine⟨(),?_⟩;rw[l];exact⟨[(50,.blk 50 0),(51,.blk 51 0),(52,.blk 52 0),(76,.blk 76 0),(77,.blk 77 0)],rfl,au0,au5,au6⟩
   rintro _ _;refine Zcx ?_;refine⟨i+1,by omega,by omega,?_⟩;rw[w];exact⟨[(50,.blk 50 0),(51,.blk 51 0),(52,.blk 52 0),(76,.blk 76 0),(77,.blk 77 0)],rfl,au0,au5,au6⟩
  have e:i=f.length:=by omega
  subst e;refine Zcy n ?_;refine⟨(),?_⟩;exact⟨[(51,.blk 51 0),(52,.blk 52 0),(76,.blk 76 0),(77,.blk 77 0)],rfl,au0,au5,au6⟩
 rintro _ _;refine Zcx ?_;refine⟨.inr trivial,_,rfl,?_⟩;exact Rn.agg (Zcg (Zb0 (Qab _)) (Zcg (Zb0 rfl) (Zcg (Rn.fz0 (g:=0) rfl (by simp[ints]) (Zb1 (Qaa _))) (Zcg (Rn.fz0 (g:=0) rfl (QbD _) (Zb1 (Qad _))) Zcf))))
end Go.AM.SE
namespace Go.AM.SE
open Go.Proofs Go.AM.SD
def u8s(l:List Nat):List AV:=l.map fun x:Nat=>.int .u8 (x:Int)
theorem Qax(l:List Nat):noRefs (u8s l)=true:=Qdf (fun _=>rfl) l
theorem Qhd{l:List Nat}{i x:Nat}(h:l[i]?=some x):(u8s l)[i]?=some (.int .u8 (x:Int)):=by simp[u8s,h]
def gEd(al:List Nat)(n:Nat)(T:List Nat)(i k:Nat):Option Ed:=if T.getD (i*5+k) 0%(n+2)<n then some (i,al.getD k 0,T.getD (i*5+k) 0%(n+2))else none
def gRow(al:List Nat)(n:Nat)(T:List Nat)(i k:Nat):List Ed:=(List.range k).filterMap (gEd al n T i)
def gPre(al:List Nat)(n:Nat)(T:List Nat)(i:Nat):List Ed:=(List.range i).flatMap fun i=>gRow al n T i al.length
def gPart(al:List Nat)(n:Nat)(T:List Nat)(i k:Nat):List Ed:=gPre al n T i++gRow al n T i k
def gRaw(al:List Nat)(st mk:Nat)(T:List Nat):Aut:=if 250<=st then⟨al,0,[],[]⟩else⟨al,1+st%5,SD.part (1+st%5) mk,gPre al (1+st%5) T (1+st%5)⟩
theorem Qoz{al:List Nat}{n:Nat}{T:List Nat}{i k:Nat}{e:Ed}(h:e∈gRow al n T i k):e.1=i/\e.2.2<n:=by
 unfold gRow at h;obtain⟨j,_,a⟩:=List.mem_filterMap.1 h;unfold gEd at a;split at a;·rename_i h1;cases a;exact⟨rfl,h1⟩
 cases a
theorem Qiv{al:List Nat}{n:Nat}{T:List Nat}{i k:Nat}:gRow al n T i (k+1)=gRow al n T i k++match gEd al n T i k with|some e=>[e]|none=>[]:=by unfold gRow;rw[ZaP,List.filterMap_append];congr 1;cases e:gEd al n T i k<;>simp[e]
theorem Qgz{al:List Nat}{n:Nat}{T:List Nat}{i k:Nat}:(gRow al n T i k).length<=k:=by unfold gRow;exact ZaI (Zbu _ _) (by simp)
theorem QgA{al:List Nat}{n:Nat}{T:List Nat}(a:al.length<=5):∀i,(gPre al n T i).length<=i*5|0=>by simp[gPre]|i+1=>by have h1:=QgA (n:=n) (T:=T) a i;have b:=@Qgz al n T i al.length;unfold gPre at h1⊢;rw[ZaP,Zaq,Zai,Za3,Zay,Zbq,Zax];omega
theorem QnA{al:List Nat}{n:Nat}{T:List Nat}{i:Nat}:gPre al n T (i+1)=gPart al n T i al.length:=by unfold gPart gPre;rw[ZaP,Zaq,Zay,Zbq,Zax]
theorem QeK{al:List Nat}{st mk:Nat}{T:List Nat}(a:al.length<=5):Raw (gRaw al st mk T):=by
 unfold gRaw;split;·exact⟨by simp,by simp,by simp,by dsimp only;omega,by simp⟩
 have b:1+st%5<=5:=by omega
 refine⟨fun e he=>?_,b,?_,by dsimp only;omega,?_⟩;·unfold gPre at he;obtain⟨i,hi,he⟩:=ZbO.1 he;have:=ZaT.1 hi;obtain⟨h1,c⟩:=Qoz he;exact⟨by rw[h1];exact this,c⟩
 ·have :=QgA (n:=1+st%5) (T:=T) a (1+st%5);dsimp only;omega
 have :=@Qc1 (1+st%5) mk;dsimp only;omega
def mkA(al:List Nat)(st mk:Nat)(T:List Nat):Aut:=canon (gRaw al st mk T)
theorem QpT{al:List Nat}{st mk:Nat}{T:List Nat}(c:al.Pairwise (·<·))(b:∀x∈al,x<5):WfA (mkA al st mk T):=by
 have a:al.length<=5:=Qbf c b;have f:=QeK (st:=st) (mk:=mk) (T:=T) a;have d:(gRaw al st mk T).al=al:=by unfold gRaw;split<;>rfl
 exact Qoo (by rw[d];exact c) (by rw[d];exact b) f.n5 f.esn
abbrev grV(st mk:Nat)(T:List Nat):AV:=.agg (.int .u8 (st:Int)::.int .u8 (mk:Int)::u8s T)
theorem _root_.Go.AM.au7{p:Prop}(h:p:=by repeat'(first|exact Zb9|(refine Zb1 ?_;first|rfl|(simp only[noRef,noRefs,Qah,Zak,Zac,Zag,Qaa,Qax,Qak,Qad,Qal,Qaz,QbC,Qag,Qam,Qab,Qa4,QaE,Qao,Qap,Qb3];done))|exact RnM.keyM rfl|exact Zcf|exact(True.intro:RnM _ _ _ [] [])|refine Zcg ?_ ?_|(refine Zb0 ?_;first|rfl|(simp only[noRef,noRefs,Qah,Zak,Zac,Zag,Qaa,Qax,Qak,Qad,Qal,Qaz,QbC,Qag,Qam,Qab,Qa4,QaE,Qao,Qap,Qb3];done))|exact Rn.x1 rfl rfl|exact Rn.x2 rfl rfl|exact Rn.x3 rfl rfl|exact Rn.x4 rfl rfl|exact Rn.x5 rfl|exact Rn.x6 rfl|exact Rn.x7 rfl|refine Zcb rfl rfl ?_|refine Zca rfl rfl rfl ?_ ?_|refine Zcc rfl rfl rfl ?_ ?_|refine Zcd rfl rfl ?_ ?_|refine Zce rfl rfl ?_ ?_)):p:=h
theorem _root_.Go.AM.au8{p:Prop}(h:p:=by repeat(first|exact Zb7|(refine Zb8 ?_ ?_;·(first|exact Rn.any|exact Rn.x1 rfl rfl|exact Rn.x2 rfl rfl|exact Rn.x3 rfl rfl|exact Rn.x4 rfl rfl|exact Rn.x5 rfl|exact Rn.x6 rfl|exact Rn.x7 rfl|(refine Rn.slot ?_ ?_;(first|rfl|(rw[ZaS];rfl));(first|rfl|(simp only[noRef,noRefs,Qah,Zak,Zac,Zag,Qaa,Qax,Qak,Qad,Qal,Qaz,QbC,Qag,Qam,Qab,Qa4,QaE,Qao,Qap,Qb3];done)))|(refine Rn.fn ?_ ?_<;>(repeat'(first|exact Zcf|refine Zcg ?_ ?_|exact Zb0 rfl|exact Rn.x6 rfl|exact Rn.x2 rfl rfl|exact Rn.x5 rfl|exact Rn.x1 rfl rfl))))))):p:=h
theorem Make32(al:List Nat)(st mk:Nat)(T:List Nat)(hs:al.Pairwise (·<·))(X:∀x∈al,x<5)(r:st<256)(hmk:mk<256)(hT:T.length=25)(y:∀x∈T,x<256):PSpec Tryz.prog 185 [sliN al,grV st mk T] (aV (mkA al st mk T)):=by
 have A:al.length<=5:=Qbf hs X;have U:(u8s T).length=25:=by simp[u8s,hT]
 have h:=canon46 (gRaw al st mk T) (QeK A);refine Zb2 40 ok185 rfl (by(try simp only[noRefs,Qax,Qao,Qap,Qaa,Qak,Qad,Qal,Qaz,Qag,noRef,Zak,Zac])<;>rfl) (Qcr _) ?_;unfold mkA;by_cases Q:250<=st
 ·have u:(250:Int)<=(st:Int):=by omega
  have G:gRaw al st mk T=⟨al,0,[],[]⟩:=if_pos Q;have hc:canon (gRaw al st mk T)=⟨al,0,[],[]⟩:=by rw[G];rfl
  rw[hc];unfold s185;refine Zcy u ?_;refine cp (empty45 al (by omega)) ?_;refine Zcx ?_;refine⟨.inr trivial,_,rfl,?_⟩;exact Rn.agg (Zcg (Zb0 (Qab _)) (Zcg (Zb0 rfl) (Zcg Rn.nilK (Zcg Rn.nilK Zcf))))
 have u:¬(250:Int)<=(st:Int):=by omega
 have G:gRaw al st mk T=⟨al,1+st%5,SD.part (1+st%5) mk,gPre al (1+st%5) T (1+st%5)⟩:=if_neg Q;rw[G]at h⊢;have K:1+st%5<=5:=by omega
 obtain⟨n,S⟩:∃n,n=1+st%5:=⟨_,rfl⟩;rw[<-S]at G h K⊢;have N:(1:Int)+((st%5:Nat):Int)=(n:Int):=by omega
 unfold s185;refine Zcy u ?_;refine cp (empty45 al (by omega)) ?_;have J:(st:Int).tmod 5=((st%5:Nat):Int):=by rw[Zba (Za7 _)];norm_cast
 refine Zcy (Zcz J N) ?_;refine Qaj 100 (fun i:Nat=>[(0,sliN al),(3,.ptr 50 0 0),(4,.ptr 51 0 0),(5,.ptr 52 0 0),(6,.int .i64 i)]) (fun i=>[(50,.cells 0 (.int .u8 (st:Int)::.int .u8 (mk:Int)::u8s T)),(51,.cells 0 [.nilsl,.int .i64 0,.nilsl,.nilsl]),(52,.cells 0 [sliN al,.int .i64 (n:Int),.sl 77 0 0 (SD.part i mk).length 1,.sl 76 0 0 (gPre al n T i).length 3]),(76,.cells 0 ((gPre al n T i).flatMap edC)),(77,.cells 0 (ints (nz (SD.part i mk))))]) (fun i=>i<=n) (fun i=>n-i) 0 0 160 (fun _:Unit=>[(4,.ptr 51 0 0),(5,.ptr 52 0 0)]) (fun _=>[(51,.cells 0 [.nilsl,.int .i64 0,.nilsl,.nilsl]),(52,.cells 0 [sliN al,.int .i64 (n:Int),sliN (SD.part n mk),egsN (gPre al n T n)])]) (fun _=>True) ?_ (Zah _) ?_ ?_;·exact⟨[(50,.blk 40 0),(51,.blk 41 0),(52,.blk 47 0),(76,.nil),(77,.nil)],rfl,au0,au7,au8⟩
 ·rintro i hi;by_cases w:i<n
  ·have q:=Qdm (n:=n) (b:=mk) (i:=i);have V:=@Qc1 i mk;have Z:=QgA (n:=n) (T:=T) A i;have z:gPart al n T i 0=gPre al n T i:=by simp[gPart,gRow]
   have F:=QnA (al:=al) (n:=n) (T:=T) (i:=i);have P:=QbD (gPre al n T i);generalize E:SD.part (i+1) mk=M1 at*;generalize hM:SD.part i mk=M at*;by_cases p:mk.testBit i=true
   ·rw[if_pos p]at q;have H:=QdE.2 p;simp(disch:=first|omega|(simp only[lenW]<;>omega))only[w,QcF (k:=.u8) (show i<=8 by omega),QcG,H,wW,wV,simprocAttr];refine Qaj 300 (fun k:Nat=>[(0,sliN al),(3,.ptr 50 0 0),(4,.ptr 51 0 0),(5,.ptr 52 0 0),(6,.int .i64 i),(7,.int .i64 k)]) (fun k=>[(50,.cells 0 (.int .u8 (st:Int)::.int .u8 (mk:Int)::u8s T)),(51,.cells 0 [.nilsl,.int .i64 0,.nilsl,.nilsl]),(52,.cells 0 [sliN al,.int .i64 (n:Int),.sl 77 0 0 M1.length 1,.sl 76 0 0 (gPart al n T i k).length 3]),(76,.cells 0 ((gPart al n T i k).flatMap edC)),(77,.cells 0 (ints (nz M1)))]) (fun k=>k<=al.length) (fun k=>al.length-k) 0 2 400 (fun _:Unit=>[(0,sliN al),(3,.ptr 50 0 0),(4,.ptr 51 0 0),(5,.ptr 52 0 0),(6,.int .i64 i)]) (fun _=>[(50,.cells 0 (.int .u8 (st:Int)::.int .u8 (mk:Int)::u8s T)),(51,.cells 0 [.nilsl,.int .i64 0,.nilsl,.nilsl]),(52,.cells 0 [sliN al,.int .i64 (n:Int),.sl 77 0 0 M1.length 1,.sl 76 0 0 (gPre al n T (i+1)).length 3]),(76,.cells 0 ((gPre al n T (i+1)).flatMap edC)),(77,.cells 0 (ints (nz M1)))]) (fun _=>True) ?_ (Zah _) ?_ ?_;·rw[z,q,Zai,QaL,QaA];exact⟨[(50,.blk 50 0),(51,.blk 51 0),(52,.blk 52 0),(76,.blk 76 0),(77,.blk 77 1)],rfl,au0,au7,au8⟩
    ·rintro k Y;by_cases b:k<al.length
     ·obtain⟨ev,f⟩:=Qac b;have c:al.getD k 0=ev:=by rw[Zan,f];rfl
      obtain⟨x,t⟩:=Qac (l:=T) (i:=i*5+k) (by omega);have s:T.getD (i*5+k) 0=x:=by rw[Zan,t];rfl
      have L:=y x (Zae t);have d:(k:Int)<5:=by omega
      have m:(i:Int)<5:=by omega
      have g:(AV.int .u8 (st:Int)::AV.int .u8 (mk:Int)::u8s T)[2+i*5+k]?=some (.int .u8 (x:Int)):=by rw[show 2+i*5+k=(i*5+k)+2 by omega];simpa using Qhd t
      have l:(x:Int).tmod ((n:Int)+2)=((x%(n+2):Nat):Int):=by rw[Zba (Za7 _)];norm_cast
      have j:¬(n:Int)+2=0:=by omega
      have O:x%(n+2)<=10:=by have:=Nat.mod_lt x (show 0<n+2 by omega);omega
      have r:=Qiv (al:=al) (n:=n) (T:=T) (i:=i) (k:=k);have I:=@Qgz al n T i k;have a:gPart al n T i (k+1)=gPart al n T i k++match gEd al n T i k with|some e=>[e]|none=>[]:=by unfold gPart;rw[r,ZaM]
      have B:(gPart al n T i k).length<=100:=by unfold gPart;rw[Zai];omega
      have v:=QbD (gPart al n T i k);unfold gEd at a;rw[s,c]at a;generalize gPart al n T i k=R at*;by_cases o:x%(n+2)<n;·rw[if_pos o]at a;refine Zcy (ZcG b d m g j l o (QaP f) v) ?_;refine⟨k+1,by omega,by omega,?_⟩;rw[a,Zaq,Zai];exact⟨[(50,.blk 50 0),(51,.blk 51 0),(52,.blk 52 0),(76,.blk 76 1),(77,.blk 77 0)],rfl,au0,au7,au8⟩
      rw[if_neg o,Zax]at a;refine Zcy (ZcE b d m g j l o) ?_;refine⟨k+1,by omega,by omega,?_⟩;rw[a];exact⟨[(50,.blk 50 0),(51,.blk 51 0),(52,.blk 52 0),(76,.blk 76 0),(77,.blk 77 0)],rfl,au0,au7,au8⟩
     have e:k=al.length:=by omega
     subst e;refine Zcy b ?_;refine⟨(),?_⟩;rw[F];exact⟨[(50,.blk 50 0),(51,.blk 51 0),(52,.blk 52 0),(76,.blk 76 0),(77,.blk 77 0)],rfl,au0,au7,au8⟩
    rintro _ _;refine Zcx ?_;refine⟨i+1,by omega,by omega,?_⟩;rw[E];exact⟨[(50,.blk 50 0),(51,.blk 51 0),(52,.blk 52 0),(76,.blk 76 0),(77,.blk 77 0)],rfl,au0,au7,au8⟩
   rw[if_neg p,Zax]at q;have H:¬((mk/2^i%2:Nat):Int)=1:=fun e=>p (QdE.1 e);simp(disch:=first|omega|(simp only[lenW]<;>omega))only[w,QcF (k:=.u8) (show i<=8 by omega),QcG,H,wW,wV,simprocAttr];refine Qaj 300 (fun k:Nat=>[(0,sliN al),(3,.ptr 50 0 0),(4,.ptr 51 0 0),(5,.ptr 52 0 0),(6,.int .i64 i),(7,.int .i64 k)]) (fun k=>[(50,.cells 0 (.int .u8 (st:Int)::.int .u8 (mk:Int)::u8s T)),(51,.cells 0 [.nilsl,.int .i64 0,.nilsl,.nilsl]),(52,.cells 0 [sliN al,.int .i64 (n:Int),.sl 77 0 0 M1.length 1,.sl 76 0 0 (gPart al n T i k).length 3]),(76,.cells 0 ((gPart al n T i k).flatMap edC)),(77,.cells 0 (ints (nz M1)))]) (fun k=>k<=al.length) (fun k=>al.length-k) 0 2 400 (fun _:Unit=>[(0,sliN al),(3,.ptr 50 0 0),(4,.ptr 51 0 0),(5,.ptr 52 0 0),(6,.int .i64 i)]) (fun _=>[(50,.cells 0 (.int .u8 (st:Int)::.int .u8 (mk:Int)::u8s T)),(51,.cells 0 [.nilsl,.int .i64 0,.nilsl,.nilsl]),(52,.cells 0 [sliN al,.int .i64 (n:Int),.sl 77 0 0 M1.length 1,.sl 76 0 0 (gPre al n T (i+1)).length 3]),(76,.cells 0 ((gPre al n T (i+1)).flatMap edC)),(77,.cells 0 (ints (nz M1)))]) (fun _=>True) ?_ (Zah _) ?_ ?_;·rw[z,q];exact⟨[(50,.blk 50 0),(51,.blk 51 0),(52,.blk 52 0),(76,.blk 76 0),(77,.blk 77 0)],rfl,au0,au7,au8⟩
   ·rintro k Y;by_cases b:k<al.length
    ·obtain⟨ev,f⟩:=Qac b;have c:al.getD k 0=ev:=by rw[Zan,f];rfl
     obtain⟨x,t⟩:=Qac (l:=T) (i:=i*5+k) (by omega);have s:T.getD (i*5+k) 0=x:=by rw[Zan,t];rfl
     have L:=y x (Zae t);have d:(k:Int)<5:=by omega
     have m:(i:Int)<5:=by omega
     have g:(AV.int .u8 (st:Int)::AV.int .u8 (mk:Int)::u8s T)[2+i*5+k]?=some (.int .u8 (x:Int)):=by rw[show 2+i*5+k=(i*5+k)+2 by omega];simpa using Qhd t
     have l:(x:Int).tmod ((n:Int)+2)=((x%(n+2):Nat):Int):=by rw[Zba (Za7 _)];norm_cast
     have j:¬(n:Int)+2=0:=by omega
     have O:x%(n+2)<=10:=by have:=Nat.mod_lt x (show 0<n+2 by omega);omega
     have r:=Qiv (al:=al) (n:=n) (T:=T) (i:=i) (k:=k);have I:=@Qgz al n T i k;have a:gPart al n T i (k+1)=gPart al n T i k++match gEd al n T i k with|some e=>[e]|none=>[]:=by unfold gPart;rw[r,ZaM]
     have B:(gPart al n T i k).length<=100:=by unfold gPart;rw[Zai];omega
     have v:=QbD (gPart al n T i k);unfold gEd at a;rw[s,c]at a;generalize gPart al n T i k=R at*;by_cases o:x%(n+2)<n;·rw[if_pos o]at a;refine Zcy (ZcG b d m g j l o (QaP f) v) ?_;refine⟨k+1,by omega,by omega,?_⟩;rw[a,Zaq,Zai];exact⟨[(50,.blk 50 0),(51,.blk 51 0),(52,.blk 52 0),(76,.blk 76 1),(77,.blk 77 0)],rfl,au0,au7,au8⟩
     rw[if_neg o,Zax]at a;refine Zcy (ZcE b d m g j l o) ?_;refine⟨k+1,by omega,by omega,?_⟩;rw[a];exact⟨[(50,.blk 50 0),(51,.blk 51 0),(52,.blk 52 0),(76,.blk 76 0),(77,.blk 77 0)],rfl,au0,au7,au8⟩
    have e:k=al.length:=by omega
    subst e;refine Zcy b ?_;refine⟨(),?_⟩;rw[F];exact⟨[(50,.blk 50 0),(51,.blk 51 0),(52,.blk 52 0),(76,.blk 76 0),(77,.blk 77 0)],rfl,au0,au7,au8⟩
   rintro _ _;refine Zcx ?_;refine⟨i+1,by omega,by omega,?_⟩;rw[E];exact⟨[(50,.blk 50 0),(51,.blk 51 0),(52,.blk 52 0),(76,.blk 76 0),(77,.blk 77 0)],rfl,au0,au7,au8⟩
  have e:i=n:=by omega
  subst e;refine Zcy w ?_;refine⟨(),[(51,.blk 51 0),(52,.blk 52 0)],rfl,Zb6,?_,au8⟩;refine Zca rfl rfl rfl (Zb1 rfl) (Zca rfl rfl rfl (Zcg (Zb0 (Qab _)) (Zcg (Zb0 rfl) (Zcg (Zch rfl rfl rfl rfl (by simp[ints]) (Zb1 (Qaa _))) (Zcg (Zch rfl rfl rfl rfl (QbD _) (Zb1 (Qad _))) Zcf)))) Zb9)
 rintro _ _;refine Zcx ?_;refine cp h ?_;generalize canon ⟨al,n,SD.part n mk,gPre al n T n⟩=C at*;refine Zcx ?_;exact⟨.inr trivial,_,rfl,Zb0 (Qcr _)⟩
end Go.AM.SE
namespace Go.AM.SO
open Go.Proofs Go.AM.SD Go.AM.SE
def mrg(k:Bool->Bool->Bool):List Nat->List Nat->List Nat|[],[]=>[]|a::A,[]=>(if k true false=true then[a]else[])++mrg k A []|[],b::B=>(if k false true=true then[b]else[])++mrg k [] B|a::A,b::B=>if a<b then(if k true false=true then[a]else[])++mrg k A (b::B)else if b<a then(if k false true=true then[b]else[])++mrg k (a::A) B else(if k true true=true then[a]else[])++mrg k A B termination_by A B=>A.length+B.length
theorem Qa7{k:Bool->Bool->Bool}{x:Nat}:∀{A B:List Nat},A.Pairwise (·<·)->B.Pairwise (·<·)->(x∈mrg k A B↔k (decide (x∈A)) (decide (x∈B))=true/\(x∈A\/x∈B))
 |[],[],_,_=>by simp[mrg]|a::A,[],hA,c=>by have d:=Qa7 (k:=k) (x:=x) (Zaz.1 hA).2 c;grind[mrg]|[],b::B,hA,c=>by have d:=Qa7 (k:=k) (x:=x) hA (Zaz.1 c).2;grind[mrg]|a::A,b::B,hA,c=>by
  have h:=(Zaz.1 hA).1;have f:=(Zaz.1 c).1;rw[mrg];by_cases h1:a<b;·have d:=Qa7 (k:=k) (x:=x) (Zaz.1 hA).2 c;grind
  rw[if_neg h1];by_cases i:b<a;·have d:=Qa7 (k:=k) (x:=x) hA (Zaz.1 c).2;grind
  have g:a=b:=by omega
  subst g;have d:=Qa7 (k:=k) (x:=x) (Zaz.1 hA).2 (Zaz.1 c).2;grind termination_by A B=>A.length+B.length
theorem QbE{k:Bool->Bool->Bool}:∀{A B:List Nat},A.Pairwise (·<·)->B.Pairwise (·<·)->(mrg k A B).Pairwise (·<·)
 |[],[],_,_=>by simp[mrg]|a::A,[],hA,c=>by have h:=QbE (k:=k) (Zaz.1 hA).2 c;grind[Zaz,mrg,Qa7]|[],b::B,hA,c=>by have h:=QbE (k:=k) hA (Zaz.1 c).2;grind[Zaz,mrg,Qa7]|a::A,b::B,hA,c=>by
  have j:=(Zaz.1 hA).1;have i:=(Zaz.1 c).1;rw[mrg];split
  ·rename_i h1;rw[Zbm];refine⟨by split<;>simp,QbE (Zaz.1 hA).2 c,fun x d y f=>?_⟩;have d:x=a:=by simp_all
   have:=(Qa7 (Zaz.1 hA).2 c).1 f;grind
  rename_i h1;split
  ·rename_i g;rw[Zbm];refine⟨by split<;>simp,QbE hA (Zaz.1 c).2,fun x d y f=>?_⟩;have d:x=b:=by simp_all
   have:=(Qa7 hA (Zaz.1 c).2).1 f;grind
  rename_i g;have l:a=b:=by omega
  subst l;rw[Zbm];refine⟨by split<;>simp,QbE (Zaz.1 hA).2 (Zaz.1 c).2,fun x d y f=>?_⟩;grind[Qa7]termination_by A B=>A.length+B.length
end Go.AM.SO
namespace Go.AM.SO
open Go.Proofs Go.AM.SD Go.AM.SE
theorem iaddr0{a:Nat}{A:List Nat}:aIAddr none 1 (sliN (a::A)) (.int .i64 0)=some (.fptr (ints (nz (a::A)))):=by simp[aIAddr]
theorem head0{a:Nat}{A:List Nat}:(ints (nz (a::A))).head?=some (.int .i64 (a:Int)):=rfl
theorem tk1{b:Nat}{B1:List Nat}:List.take (B1.length+1-1) (List.drop 1 (ints (nz (b::B1))))=ints (nz B1):=by simp only[ints,nz,ZaW,Za0,Za2];exact ZaD (by simp)
theorem tk2{b:Nat}{B1:List Nat}:List.take B1.length (List.drop 1 (ints (nz (b::B1))))=ints (nz B1):=by simp only[ints,nz,ZaW,Za0,Za2];exact ZaD (by simp)
theorem union169(a b:Bool):PSpec Tryz.prog 169 [.bool a,.bool b] (.bool (a||b)):=by
 refine Zb3 64 ok169 rfl rfl rfl ?_;cases a;·unfold s169;refine Zcr ?_;exact⟨.inr trivial,_,rfl,by simp[resOf,QaH]⟩
 unfold s169;refine Zcr ?_;exact⟨.inr trivial,_,rfl,by simp[resOf,QaH]⟩
theorem minus242(a b:Bool):PSpec Tryz.prog 242 [.bool a,.bool b] (.bool (a&&!b)):=by
 refine Zb3 64 ok242 rfl rfl rfl ?_;cases a;·unfold s242;refine Zcr ?_;exact⟨.inr trivial,_,rfl,by simp[resOf,QaH]⟩
 unfold s242;refine Zcr ?_;exact⟨.inr trivial,_,rfl,by simp[resOf,QaH]⟩
theorem merge168(K:Nat)(k:Bool->Bool->Bool)(h:∀a b,PSpec Tryz.prog K [.bool a,.bool b] (.bool (k a b)))(A B:List Nat)(hA:A.length<=1000000)(p:B.length<=1000000):PSpec Tryz.prog 168 [sliN A,sliN B,.fn K [] []] (sliN (mrg k A B)):=by
 refine Zb2 64 ok168 rfl (by(try simp only[noRefs,Qaa,Qak,Qad,Qal,Qag,noRef,Zak,Zac])<;>rfl) (Qab _) ?_;unfold s168;refine Zcr ?_;refine Qay 120 (fun t:List Nat×List Nat×List Nat=>[(0,sliN t.1),(1,sliN t.2.1),(2,.fn K [] []),(7,.sl 50 0 0 t.2.2.length 1)]) (fun t=>[(50,.cells 0 (ints (nz t.2.2)))]) (fun t=>mrg k A B=t.2.2++mrg k t.1 t.2.1/\t.1.length+t.2.1.length+t.2.2.length<=2000000) (fun t=>t.1.length+t.2.1.length) (A,B,[]) ⟨[(50,.nil)],rfl,au0,au1,au2⟩ ⟨by simp,by simp;omega⟩ ?_;rintro⟨A',B',out⟩⟨hm,g⟩;dsimp only at hm g;rcases A' with _|⟨a,A1⟩<;>rcases B' with _|⟨b,B1⟩;·simp(disch:=first|omega|(simp only[lenW]<;>omega))only[ZaO,List.map_nil,wV,simprocAttr];refine⟨.inr trivial,_,rfl,?_⟩;rw[hm,mrg,Zax];exact Rn.fz0 rfl (by simp[ints]) (Zb1 (Qaa _))
 ·have h1:(0:Int)<(B1.length:Int)+1:=by omega
  have f:¬(B1.length:Int)+1=0:=by omega
  simp only[ZaO,ZaB]at g;refine Zcs (ZcG @ZaO @ZaB h1 f @iaddr0 @tk1 @tk2 @head0 @Zbr) ?_;refine cp (h false true) ?_;rw[mrg]at hm;cases c:k false true;·refine Zcr ?_;rw[if_neg (by simp[c]),ZaU]at hm;exact⟨(([]:List Nat),(B1:List Nat),out),by simp<;>omega,⟨hm,by simp;omega⟩,⟨[(50,.blk 50 0)],rfl,au0,au1,au2⟩⟩
  refine Zcr ?_;rw[if_pos c,<-ZaM]at hm;refine⟨(([]:List Nat),(B1:List Nat),out++[b]),by simp<;>omega,⟨hm,by simp;omega⟩,?_⟩;rw[QaL,QaA,Zai];exact⟨[(50,.blk 50 1)],rfl,au0,au1,au2⟩
 ·have h1:(0:Int)<(A1.length:Int)+1:=by omega
  have f:¬(A1.length:Int)+1=0:=by omega
  simp only[ZaO,ZaB]at g;refine Zcs (ZcG @ZaO @ZaB h1 f @iaddr0 @tk1 @tk2 @head0 @Zbr) ?_;refine cp (h true false) ?_;rw[mrg]at hm;cases c:k true false;·refine Zcr ?_;rw[if_neg (by simp[c]),ZaU]at hm;exact⟨((A1:List Nat),([]:List Nat),out),by simp<;>omega,⟨hm,by simp;omega⟩,⟨[(50,.blk 50 0)],rfl,au0,au1,au2⟩⟩
  refine Zcr ?_;rw[if_pos c,<-ZaM]at hm;refine⟨((A1:List Nat),([]:List Nat),out++[a]),by simp<;>omega,⟨hm,by simp;omega⟩,?_⟩;rw[QaL,QaA,Zai];exact⟨[(50,.blk 50 1)],rfl,au0,au1,au2⟩
 have h1:(0:Int)<(A1.length:Int)+1:=by omega
 have f:¬(A1.length:Int)+1=0:=by omega
 have n:(0:Int)<(B1.length:Int)+1:=by omega
 have l:¬(B1.length:Int)+1=0:=by omega
 by_cases d:a<b
 ·have i:(a:Int)<=(b:Int):=by omega
  have m:¬(b:Int)<=(a:Int):=by omega
  simp only[ZaO,ZaB]at g;refine Zcs (ZcK @ZaO @ZaB h1 f n l i m @iaddr0 @tk1 @tk2 @head0 @Zbr) ?_;refine cp (h true false) ?_;rw[mrg,if_pos d]at hm;cases c:k true false;·refine Zcr ?_;rw[if_neg (by simp[c]),ZaU]at hm;exact⟨((A1:List Nat),(b::B1:List Nat),out),by simp<;>omega,⟨hm,by simp;omega⟩,⟨[(50,.blk 50 0)],rfl,au0,au1,au2⟩⟩
  refine Zcr ?_;rw[if_pos c,<-ZaM]at hm;refine⟨((A1:List Nat),(b::B1:List Nat),out++[a]),by simp<;>omega,⟨hm,by simp;omega⟩,?_⟩;rw[QaL,QaA,Zai];exact⟨[(50,.blk 50 1)],rfl,au0,au1,au2⟩
 by_cases j:b<a
 ·have i:¬(a:Int)<=(b:Int):=by omega
  have m:(b:Int)<=(a:Int):=by omega
  simp only[ZaO,ZaB]at g;refine Zcs (ZcK @ZaO @ZaB h1 f n l i m @iaddr0 @tk1 @tk2 @head0 @Zbr) ?_;refine cp (h false true) ?_;rw[mrg,if_neg d,if_pos j]at hm;cases c:k false true;·refine Zcr ?_;rw[if_neg (by simp[c]),ZaU]at hm;exact⟨((a::A1:List Nat),(B1:List Nat),out),by simp<;>omega,⟨hm,by simp;omega⟩,⟨[(50,.blk 50 0)],rfl,au0,au1,au2⟩⟩
  refine Zcr ?_;rw[if_pos c,<-ZaM]at hm;refine⟨((a::A1:List Nat),(B1:List Nat),out++[b]),by simp<;>omega,⟨hm,by simp;omega⟩,?_⟩;rw[QaL,QaA,Zai];exact⟨[(50,.blk 50 1)],rfl,au0,au1,au2⟩
 have o:a=b:=by omega
 subst o;have i:(a:Int)<=(a:Int):=by omega
 simp only[ZaO,ZaB]at g;refine Zcs (ZcJ @ZaO @ZaB h1 f n l i @iaddr0 @tk1 @tk2 @head0 @Zbr) ?_;refine cp (h true true) ?_;rw[mrg,if_neg d,if_neg j]at hm;cases c:k true true;·refine Zcr ?_;rw[if_neg (by simp[c]),ZaU]at hm;exact⟨((A1:List Nat),(B1:List Nat),out),by simp<;>omega,⟨hm,by simp;omega⟩,⟨[(50,.blk 50 0)],rfl,au0,au1,au2⟩⟩
 refine Zcr ?_;rw[if_pos c,<-ZaM]at hm;refine⟨((A1:List Nat),(B1:List Nat),out++[a]),by simp<;>omega,⟨hm,by simp;omega⟩,?_⟩;rw[QaL,QaA,Zai];exact⟨[(50,.blk 50 1)],rfl,au0,au1,au2⟩
theorem union84(A B:List Nat)(hA:A.length<=1000000)(c:B.length<=1000000):PSpec Tryz.prog 84 [sliN A,sliN B] (sliN (mrg (fun a b=>a||b) A B)):=by refine Zb2 64 ok84 rfl (by(try simp only[noRefs,Qaa,Qak,Qad,Qal,Qag,noRef,Zak,Zac])<;>rfl) (Qab _) ?_;unfold s84;refine Zcr ?_;refine cp (merge168 169 _ union169 A B hA c) ?_;refine Zcr ?_;exact⟨.inr trivial,_,rfl,Zb0 (Qab _)⟩
theorem minus219(A B:List Nat)(hA:A.length<=1000000)(c:B.length<=1000000):PSpec Tryz.prog 219 [sliN A,sliN B] (sliN (mrg (fun a b=>a&&!b) A B)):=by refine Zb2 64 ok219 rfl (by(try simp only[noRefs,Qaa,Qak,Qad,Qal,Qag,noRef,Zak,Zac])<;>rfl) (Qab _) ?_;unfold s219;refine Zcr ?_;refine cp (merge168 242 _ minus242 A B hA c) ?_;refine Zcr ?_;exact⟨.inr trivial,_,rfl,Zb0 (Qab _)⟩
theorem subset167(A B:List Nat)(hA:A.length<=1000000)(d:B.length<=1000000):PSpec Tryz.prog 167 [sliN A,sliN B] (.bool (decide ((mrg (fun a b=>a&&!b) A B).length=0))):=by
 refine Zb3 64 ok167 rfl (by(try simp only[noRefs,Qaa,Qak,Qad,Qal,Qag,noRef,Zak,Zac])<;>rfl) rfl ?_;unfold s167;refine Zcr ?_;refine cp (minus219 A B hA d) ?_;by_cases h:(mrg (fun a b=>a&&!b) A B).length=0
 ·have c:(((mrg (fun a b=>a&&!b) A B).length:Nat):Int)=0:=by omega
  refine Zcs c ?_;exact⟨.inr trivial,_,rfl,by simp[resOf,QaH,h]⟩
 have c:¬(((mrg (fun a b=>a&&!b) A B).length:Nat):Int)=0:=by omega
 refine Zcs c ?_;exact⟨.inr trivial,_,rfl,by simp[resOf,QaH,h]⟩
end Go.AM.SO
namespace Go.AM.SD
theorem Qhe{α:Type}(f:α->Nat):∀{l c:List α},l.Pairwise (fun a b=>f a<f b)->c.Pairwise (fun a b=>f a<f b)->(∀p,p∈l↔p∈c)->l=c
 |[],[],_,_,_=>rfl|[],y::c,_,_,hm=>absurd ((hm y).2 (by simp)) (by simp)|x::l,[],_,_,hm=>absurd ((hm x).1 (by simp)) (by simp)|x::l,y::c,h,g,hm=>by
  rw[Zaz]at h g;have d:x=y:=by grind
  subst d;have:l=c:=Qhe f h.2 g.2 fun p=>by grind
  rw[this]
theorem uniqE{es:List Ed}(h:es.Pairwise fun x y=>x.1<y.1\/(x.1=y.1/\x.2.1<y.2.1)){e a:Ed}(he:e∈es)(b:a∈es)(h1:e.1=a.1)(i:e.2.1=a.2.1):e=a:=by induction h with|nil=>cases he|cons g _ f=>
 rcases ZaF.1 he with rfl|d<;>rcases ZaF.1 b with rfl|c;·rfl
 ·grind
 ·grind
 exact f d c
theorem Qiw{es:List Ed}(h:es.Pairwise fun x y=>x.1<y.1\/(x.1=y.1/\x.2.1<y.2.1)){v ev to:Nat}:stepA es v ev=some to↔((v,ev,to):Ed)∈es:=by
 unfold stepA;constructor;·intro d;cases hf:es.find? fun e=>e.1==v&&e.2.1==ev with|none=>rw[hf]at d;cases d|some e=>rw[hf]at d;cases d;have h1:=List.find?_some hf;simp only[Zab,beq_iff_eq]at h1;have f:=List.mem_of_find?_eq_some hf;obtain⟨a,b,c⟩:=e;obtain⟨rfl,rfl⟩:=h1;exact f
 intro hm;cases hf:es.find? fun e=>e.1==v&&e.2.1==ev with|none=>rw[List.find?_eq_none]at hf;exact absurd (by simp) (hf _ hm)|some e=>have h1:=List.find?_some hf;simp only[Zab,beq_iff_eq]at h1;rw[uniqE h (List.mem_of_find?_eq_some hf) hm h1.1 h1.2];rfl
theorem QlE{a:Aut}(h:WfA a)(v:Nat):sOut a.es (fun _=>true) v=a.al.filterMap fun ev=>(stepA a.es v ev).map fun to=>((v,ev,to):Ed):=by
 refine Qhe (fun e:Ed=>e.2.1) ?_ ?_ fun e=>?_;·have h1:(sOut a.es (fun _=>true) v).Pairwise fun x y=>x.1<y.1\/(x.1=y.1/\x.2.1<y.2.1):=h.es.filter _;refine h1.imp_of_mem fun{x y}d g f=>?_;simp_all[QaV]
 ·refine List.Pairwise.filterMap _ (R:=(·<·)) ?_ h.al;simp_all
 rw[QaV,List.mem_filterMap];constructor;·rintro⟨he,rfl,_⟩;obtain⟨x,y,z⟩:=e;exact⟨y,h.ev _ he,by rw[(Qiw h.es).2 he];rfl⟩
 rintro⟨ev,c,hm⟩;cases b:stepA a.es v ev with|none=>rw[b]at hm;cases hm|some to=>rw[b]at hm;cases hm;exact⟨(Qiw h.es).1 b,rfl,rfl⟩
theorem QoA{a:Aut}(h:WfA a)(i v:Nat)(s:OE):(sRow a.es (fun _=>true) i v s).1=fRow a.al a.es v s.1:=by
 unfold sRow fRow;rw[QlE h];have key:∀(b:List Nat)(s:OE),((b.filterMap fun ev=>(stepA a.es v ev).map fun to=>((v,ev,to):Ed)).foldl (sEd i) s).1=b.foldl (fEv a.es v) s.1:=by intro b;induction b with|nil=>intro s;rfl|cons ev b c=>intro s;rw[List.filterMap_cons,Za1];cases d:stepA a.es v ev with
  |none=>
   have e:fEv a.es v s.1 ev=s.1:=by grind[fEv]
   rw[e];exact c s|some to=>
   have e:fEv a.es v s.1 ev=if s.1.contains to then s.1 else s.1++[to]:=by grind[fEv]
   dsimp only[Option.map_some];rw[Za1,c,e];congr 1;unfold sEd;split<;>rfl
 simp_all
theorem QnB{a:Aut}(h:WfA a):∀(k i:Nat)(s:OE),(sQ a.es (fun _=>true) k i s).1=fQ a.al a.es k i s.1|0,_,_=>rfl|k+1,i,s=>by unfold sQ fQ;cases s.1[i]? with|none=>rfl|some v=>dsimp only;rw[QnB h k,QoA h]
theorem QoB{a:Aut}(h:WfA a):(sAll a fun _=>true).1=found a:=by simp_all[sAll,found,QnB]
theorem QkR{a:Aut}(h:WfA a):canon a=restr a (fun _=>true):=by
 have b:=(Qfx (left:=fun _=>true) h).1;have hf:=QoB h;have he:(sAll a fun _=>true).2=cRows a (found a):=by rw[b.ed,hf];unfold cRows;rw[List.flatMap_def,List.flatMap_def];congr 1;refine ZaH fun i _=>?_;rw[QlE h];unfold cRow;rw[List.map_filterMap];congr 1;funext ev;rw[Option.map_map];rfl
 simp_all[canon,restr]
end Go.AM.SD
namespace Go.AM.SE
open Go.Proofs Go.AM.SD
theorem shr1{i j:Nat}:aBin .shr (.int .u64 ((i:Int)+(j:Int))) (.int .u64 1)=some (.int .u64 (((i+j)/2:Nat):Int)):=by
 have h:(((i:Int)+(j:Int)).fdiv (2^(min (1:Int).toNat 64)))=(((i+j)/2:Nat):Int):=by rw[show min (1:Int).toNat 64=1 from rfl,Int.fdiv_eq_ediv_of_nonneg _ (by decide)];omega
 show(if(1:Int)<0 then none else some (AV.int .u64 (((i:Int)+(j:Int)).fdiv (2^(min (1:Int).toNat 64)))))=_;rw[if_neg (by decide),h]
def lbN(l:List Nat)(t:Nat):Nat:=l.countP fun x=>decide (x<t)
theorem lb_eq:∀{l:List Nat}{t i:Nat},i<=l.length->(∀j,j<i->l.getD j 0<t)->(∀j,i<=j->j<l.length->¬l.getD j 0<t)->lbN l t=i
 |[],t,i,hi,_,_=>by simp at hi;subst hi;rfl|x::l,t,0,_,_,b=>by unfold lbN;rw[List.countP_eq_zero];intro y g;obtain⟨q,c,a⟩:=Qep g;have:=b q (Zah _) a;rw[Zan,c]at this;simpa using this|x::l,t,i+1,hi,h1,b=>by
  have h:x<t:=by have:=h1 0 (by omega);simpa using this
  have:=lb_eq (l:=l) (t:=t) (i:=i) (by simpa using hi) (fun j d=>by have:=h1 (j+1) (by omega);simpa using this) (fun j d f=>by have:=b (j+1) (by omega) (by simpa using f);simpa using this);unfold lbN at this⊢;rw[List.countP_cons,this,if_pos (by simpa using h)]
theorem lb_le{l:List Nat}{t:Nat}:lbN l t<=l.length:=List.countP_le_length
theorem Qc2{l:List Nat}(h:l.Pairwise (·<=·)){p q:Nat}(a:p<=q)(b:q<l.length):l.getD p 0<=l.getD q 0:=by
 rw[Zan,Zan,Zad (by omega),Zad b];rcases Nat.lt_or_eq_of_le a with h1|h1;·exact Za5.1 h p q (by omega) b h1
 subst h1;exact ZaG _
theorem QjW{l:List Nat}(h:l.Pairwise (·<=·)){t i:Nat}(h1:∀j,j<i->l.getD j 0<t)(g:∀j,i<=j->j<l.length->¬l.getD j 0<t):l.contains t=decide (i<l.length/\l.getD i 0=t):=by
 rw[ZbT,decide_eq_true_iff,List.contains_iff_mem];constructor
 ·intro hm;obtain⟨q,c,a⟩:=Qep hm;have f:l.getD q 0=t:=by rw[Zan,c];rfl
  have b:i<=q:=by refine Nat.le_of_not_lt fun d=>?_;have:=h1 q d;omega
  have k:=Qc2 h b a;have m:=g i (ZaG _) (by omega);exact⟨by omega,by omega⟩
 rintro⟨hi,e⟩;rw[<-e,Zan,Zad hi];exact List.getElem_mem hi
theorem nan81(x:Int):PSpec Tryz.prog 227 [.int .i64 x] (.bool false):=by refine Zb3 64 ok227 rfl (by(try simp only[noRefs,Qax,Qao,Qap,Qaa,Qak,Qad,Qal,Qaz,Qag,noRef,Zak,Zac])<;>rfl) rfl ?_;unfold s227;refine Zcx ?_;exact⟨.inr trivial,_,rfl,rfl⟩
theorem nan66(x:Int):PSpec Tryz.prog 198 [.int .i64 x] (.bool false):=by refine Zb3 64 ok198 rfl (by(try simp only[noRefs,Qax,Qao,Qap,Qaa,Qak,Qad,Qal,Qaz,Qag,noRef,Zak,Zac])<;>rfl) rfl ?_;unfold s198;refine Zcx ?_;exact⟨.inr trivial,_,rfl,rfl⟩
theorem less65(x y:Int):PSpec Tryz.prog 197 [.int .i64 x,.int .i64 y] (.bool (decide (x<y))):=by refine Zb3 64 ok197 rfl (by(try simp only[noRefs,Qax,Qao,Qap,Qaa,Qak,Qad,Qal,Qaz,Qag,noRef,Zak,Zac])<;>rfl) rfl ?_;unfold s197;refine Zcx ?_;refine cp (nan81 x) ?_;refine Zcx ?_;exact⟨.inr trivial,_,rfl,rfl⟩
theorem find57(l:List Nat)(t:Nat)(g:l.Pairwise (·<=·))(x:l.length<=1000000):PSpec Tryz.prog 144 [sliN l,.int .i64 (t:Int)] (.tup [.int .i64 (lbN l t:Int),.bool (l.contains t)]):=by
 refine Zb3 64 ok144 rfl (by(try simp only[noRefs,Qax,Qao,Qap,Qaa,Qak,Qad,Qal,Qaz,Qag,noRef,Zak,Zac])<;>rfl) rfl ?_;unfold s144;refine Zcx ?_;refine Qaj 100 (fun p:Nat×Nat=>[(0,sliN l),(1,.int .i64 (t:Int)),(6,.int .i64 l.length),(7,.int .i64 p.1),(8,.int .i64 p.2)]) (fun _=>[]) (fun p=>p.1<=p.2/\p.2<=l.length/\(∀q,q<p.1->l.getD q 0<t)/\∀q,p.2<=q->q<l.length->¬l.getD q 0<t) (fun p=>p.2-p.1) (0,l.length) 0 140 (fun i:Nat=>[(0,sliN l),(1,.int .i64 (t:Int)),(6,.int .i64 l.length),(7,.int .i64 i)]) (fun _=>[]) (fun i=>i<=l.length/\(∀q,q<i->l.getD q 0<t)/\∀q,i<=q->q<l.length->¬l.getD q 0<t) ?_ ⟨Zah _,ZaG _,fun q d=>absurd d (Zaw _),fun q h1 c=>by omega⟩ ?_ ?_;·exact⟨[],rfl,au0,au7,au8⟩
 ·rintro⟨i,j⟩⟨o,r,h1,c⟩;dsimp only at o r h1 c⊢;by_cases a:i<j
  ·obtain⟨k,w,n,v⟩:∃k:Nat,aBin .shr (.int .u64 ((i:Int)+(j:Int))) (.int .u64 1)=some (.int .u64 (k:Int))/\i<=k/\k<j:=⟨(i+j)/2,shr1,by omega,by omega⟩;have b:k<l.length:=by omega
   have s:l[k]?=some (l.getD k 0):=by rw[Zad b];simp[b]
   refine Zcy (ZcB a w b (QaP s)) ?_;refine cp (less65 _ _) ?_;by_cases hc:l.getD k 0<t;·rw[decide_eq_true (by omega)];refine Zcx ?_;refine⟨(k+1,j),by dsimp only;omega,⟨by dsimp only;omega,r,fun q d=>?_,c⟩,⟨[],rfl,au0,au7,au8⟩⟩;have:=Qc2 g (p:=q) (q:=k) (by dsimp only at d;omega) b;omega
   rw[decide_eq_false (by omega)];refine Zcx ?_;refine⟨(i,k),by dsimp only;omega,⟨n,by dsimp only;omega,h1,fun q d u=>?_⟩,⟨[],rfl,au0,au7,au8⟩⟩;have:=Qc2 g (p:=k) (q:=q) d u;omega
  have e:i=j:=by omega
  subst e;refine Zcy a ?_;exact⟨i,⟨r,h1,c⟩,⟨[],rfl,au0,au7,au8⟩⟩
 rintro i⟨hi,h1,c⟩;rw[lb_eq hi h1 c,QjW g h1 c];by_cases a:i<l.length
 ·have f:l[i]?=some (l.getD i 0):=by rw[Zad a];simp[a]
  by_cases he:l.getD i 0=t;·rw[decide_eq_true ⟨a,he⟩];rw[he]at f;refine Zcy (Zcz a (QaP f)) ?_;exact⟨.inr trivial,_,rfl,rfl⟩
  rw[decide_eq_false fun h=>he h.2];generalize l.getD i 0=y at*;have m:¬(y:Int)=(t:Int):=by omega
  refine Zcy (ZcA a (QaP f) m) ?_;refine cp (nan66 _) ?_;refine Zcx ?_;exact⟨.inr trivial,_,rfl,rfl⟩
 rw[decide_eq_false fun h=>a h.1];refine Zcy a ?_;exact⟨.inr trivial,_,rfl,rfl⟩
end Go.AM.SE
namespace Go.AM.SE
open Go.Proofs Go.AM.SD
abbrev edV(e:Ed):AV:=.agg [.int .i64 (e.1:Int),.int .i64 (e.2.1:Int),.int .i64 (e.2.2:Int)]
theorem QnC(x y:Ed):aEq (.flat true [.i,.i,.i]) true (edV x) (edV y)=some (.bool (!decide (x=y))):=by have:∀n m:Nat,decide ((n:Int)=(m:Int))=decide (n=m):=fun n m=>decide_eq_decide.2 (by omega);obtain⟨a,b,c⟩:=x;obtain⟨g,d,f⟩:=y;simp only[aEq,eqCells,eqCell,if_true];simp only[Zaf,Bool.decide_and,this];cases decide (a=g)<;>cases decide (b=d)<;>cases decide (c=f)<;>rfl
theorem eq41(a b:List Int)(o:b.length<=1000000):PSpec Tryz.prog 31 [sli a,sli b] (.bool (decide (a=b))):=by
 refine Zb3 64 ok31 rfl (by(try simp only[noRefs,Qax,Qao,Qap,Qaa,Qak,Qad,Qal,Qaz,Qag,noRef,Zak,Zac])<;>rfl) rfl ?_;by_cases f:a.length=b.length
 ·unfold s31;refine Zcy f ?_;refine Qay 100 (fun i:Nat=>[(0,sli a),(1,sli b),(12,.int .i64 b.length),(13,.int .i64 i)]) (fun _=>[]) (fun i=>i<=b.length/\∀j,j<i->a[j]?=b[j]?) (fun i=>b.length-i) 0 ⟨[],rfl,au0,au7,au8⟩ ⟨Zah _,fun j l=>absurd l (Zaw _)⟩ ?_;rintro i⟨hi,n⟩;by_cases d:i<b.length
  ·obtain⟨x,k⟩:=Qac (l:=a) (i:=i) (by omega);obtain⟨y,g⟩:=Qac (l:=b) (i:=i) (by omega);have c:i<a.length:=by omega
   by_cases h:x=y
   ·have m:True:=by trivial
    refine Zcy (ZcD d c (Qav k) (Qav g) h m) ?_;refine⟨i+1,by omega,⟨by omega,fun j l=>?_⟩,⟨[],rfl,au0,au7,au8⟩⟩;by_cases e:j=i;·subst e;rw[k,g,h]
    exact n j (by omega)
   have m:True:=by trivial
   refine Zcy (ZcD d c (Qav k) (Qav g) h m) ?_;refine⟨.inr trivial,_,rfl,?_⟩;have:a≠b:=fun e=>by subst e;rw[k]at g;cases g;exact h rfl
   simp[resOf,QaH,this]
  have :a=b:=Zbw fun j=>by
   by_cases l:j<i;·exact n j l
   rw[ZaA (by omega),ZaA (by omega)]
  refine Zcy d ?_;exact⟨.inr trivial,_,rfl,by simp[resOf,QaH,this]⟩
 unfold s31;refine Zcy f ?_;have:a≠b:=fun e=>f (by rw[e]);exact⟨.inr trivial,_,rfl,by simp[resOf,QaH,this]⟩
theorem eq55(a b:List Ed)(o:b.length<=10000000):PSpec Tryz.prog 106 [egsN a,egsN b] (.bool (decide (a=b))):=by
 refine Zb3 64 ok106 rfl (by(try simp only[noRefs,Qax,Qao,Qap,Qaa,Qak,Qad,Qal,Qaz,Qag,noRef,Zak,Zac])<;>rfl) rfl ?_;by_cases d:a.length=b.length
 ·unfold s106;refine Zcy d ?_;refine Qay 100 (fun i:Nat=>[(0,egsN a),(1,egsN b),(12,.int .i64 b.length),(13,.int .i64 i)]) (fun _=>[]) (fun i=>i<=b.length/\∀j,j<i->a[j]?=b[j]?) (fun i=>b.length-i) 0 ⟨[],rfl,au0,au7,au8⟩ ⟨Zah _,fun j k=>absurd k (Zaw _)⟩ ?_;rintro i⟨hi,n⟩;by_cases f:i<b.length
  ·obtain⟨x,l⟩:=Qac (l:=a) (i:=i) (by omega);obtain⟨y,g⟩:=Qac (l:=b) (i:=i) (by omega);have c:i<a.length:=by omega
   by_cases h:x=y
   ·have m:aEq (.flat true [.i,.i,.i]) true (edV y) (edV y)=some (.bool false):=by rw[QnC];simp
    refine Zcy (ZcD f c (QaU l) (QaU g) h m) ?_;refine⟨i+1,by omega,⟨by omega,fun j k=>?_⟩,⟨[],rfl,au0,au7,au8⟩⟩;by_cases e:j=i;·subst e;rw[l,g,h]
    exact n j (by omega)
   have m:aEq (.flat true [.i,.i,.i]) true (edV x) (edV y)=some (.bool true):=by rw[QnC];simp[h]
   refine Zcy (ZcD f c (QaU l) (QaU g) h m) ?_;refine⟨.inr trivial,_,rfl,?_⟩;have:a≠b:=fun e=>by subst e;rw[l]at g;cases g;exact h rfl
   simp[resOf,QaH,this]
  have :a=b:=Zbw fun j=>by
   by_cases k:j<i;·exact n j k
   rw[ZaA (by omega),ZaA (by omega)]
  refine Zcy f ?_;exact⟨.inr trivial,_,rfl,by simp[resOf,QaH,this]⟩
 unfold s106;refine Zcy d ?_;have:a≠b:=fun e=>d (by rw[e]);exact⟨.inr trivial,_,rfl,by simp[resOf,QaH,this]⟩
theorem QpU{a b:List Nat}:decide (nz a=nz b)=decide (a=b):=by
 refine decide_eq_decide.2 ⟨fun h=>?_,fun h=>by rw[h]⟩;have:∀a b:List Nat,nz a=nz b->a=b:=by intro a;induction a with
  |nil=>intro b h;cases b with|nil=>rfl|cons=>simp at h
  |cons x a c=>intro b h;cases b with|nil=>simp at h|cons y b=>simp only[nz,ZaW,List.cons.injEq]at h;rw[c b h.2,show x=y by omega]
 exact this a b h
theorem eq41N(a b:List Nat)(c:b.length<=1000000):PSpec Tryz.prog 31 [sliN a,sliN b] (.bool (decide (a=b))):=by have:=eq41 (nz a) (nz b) (by simpa using c);rw[QaO,QaO,QpU]at this;exact this
def autB(x y:Aut):Bool:=decide (x.n=y.n)&&(decide (x.al=y.al)&&(decide (x.ms=y.ms)&&decide (x.es=y.es)))
structure AOk(r:Aut):Prop where
 al:r.al.length<=1000000
 ms:r.ms.length<=1000000
 es:r.es.length<=10000000
theorem eq43(x y:Aut)(g:AOk x)(a:AOk y):PSpec Tryz.prog 33 [aV x,aV y] (.bool (autB x y)):=by
 refine Zb3 64 ok33 rfl (by(try simp only[noRefs,Qax,Qao,Qap,Qaa,Qak,Qad,Qal,Qaz,Qag,noRef,Zak,Zac])<;>rfl) rfl ?_;have d:=eq41N x.al y.al a.al;have b:=eq41N x.ms y.ms a.ms;have c:=eq55 x.es y.es a.es;unfold autB;by_cases h1:x.n=y.n;·rw[decide_eq_true h1,Zag];generalize decide (x.al=y.al)=f at*;generalize decide (x.ms=y.ms)=b2 at*;generalize decide (x.es=y.es)=h at*;unfold s33;refine Zcy h1 ?_;refine cp d ?_;cases f with|false=>refine Zcx ?_;exact⟨.inr trivial,_,rfl,rfl⟩|true=>refine Zcx ?_;refine cp b ?_;cases b2 with|false=>refine Zcx ?_;exact⟨.inr trivial,_,rfl,rfl⟩|true=>refine Zcx ?_;refine cp c ?_;refine Zcx ?_;exact⟨.inr trivial,_,rfl,rfl⟩
 rw[decide_eq_false h1,Zam];unfold s33;refine Zcy h1 ?_;exact⟨.inr trivial,_,rfl,rfl⟩
theorem Qix(x:Aut):autB x x=true:=by simp[autB]
end Go.AM.SE
namespace Go.AM.SE
open Go.Proofs Go.AM.SD
abbrev froms(es:List Ed):List Nat:=es.map (·.1)
theorem Qfq:∀(l:List Ed)(i:Nat),(l.flatMap edC).drop (i*3)=(l.drop i).flatMap edC|l,0=>by simp|[],i+1=>by simp|e::l,i+1=>by rw[Zay,Za3,Za0];show List.drop (i*3+3) (_::_::_::l.flatMap edC)=_;rw[Za0,Za0,Za0];exact Qfq l i
theorem Qfr:∀(l:List Ed)(i:Nat),(l.flatMap edC).take (i*3)=(l.take i).flatMap edC|l,0=>by simp|[],i+1=>by simp|e::l,i+1=>by rw[Zay,Za3,ZaN,Zay];show List.take (i*3+3) (_::_::_::l.flatMap edC)=_;rw[ZaN,ZaN,ZaN,Qfr l i];rfl
theorem QlF{x t:Nat}{l:List Nat}:lbN (x::l) t=lbN l t+if x<t then 1 else 0:=by unfold lbN;rw[List.countP_cons];simp
theorem Qhz{l:List Nat}{t:Nat}(h:∀x∈l,t<=x):lbN l t=0:=by unfold lbN;rw[List.countP_eq_zero];intro x a;have:=h x a;simp;omega
theorem QjX:∀{es:List Ed},es.Pairwise (fun a b=>a.1<=b.1)->∀v:Nat,(es.drop (lbN (froms es) v)).take (lbN (froms es) (v+1)-lbN (froms es) v)=sOut es (fun _=>true) v
 |[],_,_=>by simp[sOut]|e::es,h,v=>by
  rw[Zaz]at h;have c:=QjX h.2 v;have j:froms (e::es)=e.1::froms es:=rfl;have k:sOut (e::es) (fun _=>true) v=if e.1=v then e::sOut es (fun _=>true) v else sOut es (fun _=>true) v:=by unfold sOut;rw[List.filter_cons];simp
  rw[j,QlF,QlF,k];rcases Nat.lt_trichotomy e.1 v with h1|h1|h1;·rw[if_pos h1,if_pos (by omega),if_neg (by omega),Za0,Nat.add_sub_add_right,c]
  ·have i:lbN (froms es) v=0:=Qhz fun x d=>by obtain⟨y,f,rfl⟩:=Zas.1 d;have:=h.1 y f;omega
   rw[i]at c⊢;have m:¬e.1<v:=by omega
   have l:e.1<v+1:=by omega
   simp only[if_neg m,if_pos l,if_pos h1,Nat.add_zero,Za2,Nat.sub_zero,ZaN];rw[Za2,Nat.sub_zero]at c;rw[c]
  have i:lbN (froms es) v=0:=Qhz fun x d=>by obtain⟨y,f,rfl⟩:=Zas.1 d;have:=h.1 y f;omega
  have g:lbN (froms es) (v+1)=0:=Qhz fun x d=>by obtain⟨y,f,rfl⟩:=Zas.1 d;have:=h.1 y f;omega
  rw[i,g]at c⊢;rw[if_neg (by omega),if_neg (by omega),if_neg (by omega)];simpa using c
theorem sub229(e:Ed)(t:Nat)(he:e.1<=1000000)(a:t<=1000000):PSpec Tryz.prog 229 [edV e,.int .i64 (t:Int)] (.int .i64 ((e.1:Int)-(t:Int))):=by refine Zb3 64 ok229 rfl (by(try simp only[noRefs,Qax,Qao,Qap,Qaa,Qak,Qad,Qal,Qaz,Qag,noRef,Zak,Zac])<;>rfl) rfl ?_;unfold s229;refine Zcx ?_;exact⟨.inr trivial,_,rfl,rfl⟩
theorem sub230(e:Ed)(t:Nat)(he:e.1<=1000000)(a:t<=1000000):PSpec Tryz.prog 230 [edV e,.int .i64 (t:Int)] (.int .i64 ((e.1:Int)-(t:Int))):=by refine Zb3 64 ok230 rfl (by(try simp only[noRefs,Qax,Qao,Qap,Qaa,Qak,Qad,Qal,Qaz,Qag,noRef,Zak,Zac])<;>rfl) rfl ?_;unfold s230;refine Zcx ?_;exact⟨.inr trivial,_,rfl,rfl⟩
theorem find67(es:List Ed)(t:Nat)(u:(froms es).Pairwise (·<=·))(w:∀e∈es,e.1<=1000000)(s:t<=1000000)(B:es.length<=1000000):PSpec Tryz.prog 228 [egsN es,.int .i64 (t:Int),.fn 229 [] []] (.tup [.int .i64 (lbN (froms es) t:Int),.bool ((froms es).contains t)]):=by
 refine Zb3 64 ok228 rfl (by(try simp only[noRefs,Qax,Qao,Qap,Qaa,Qak,Qad,Qal,Qaz,Qag,noRef,Zak,Zac])<;>rfl) rfl ?_;have x:(froms es).length=es.length:=by simp
 unfold s228;refine Zcx ?_;refine Qaj 100 (fun p:Nat×Nat=>[(0,egsN es),(1,.int .i64 (t:Int)),(2,.fn 229 [] []),(8,.int .i64 es.length),(9,.int .i64 p.1),(10,.int .i64 p.2)]) (fun _=>[]) (fun p=>p.1<=p.2/\p.2<=es.length/\(∀q,q<p.1->(froms es).getD q 0<t)/\∀q,p.2<=q->q<es.length->¬(froms es).getD q 0<t) (fun p=>p.2-p.1) (0,es.length) 0 140 (fun i:Nat=>[(0,egsN es),(1,.int .i64 (t:Int)),(2,.fn 229 [] []),(8,.int .i64 es.length),(9,.int .i64 i)]) (fun _=>[]) (fun i=>i<=es.length/\(∀q,q<i->(froms es).getD q 0<t)/\∀q,i<=q->q<es.length->¬(froms es).getD q 0<t) ?_ ⟨Zah _,ZaG _,fun q l=>absurd l (Zaw _),fun q h1 g=>by omega⟩ ?_ ?_;·exact⟨[],rfl,au0,au7,au8⟩
 ·rintro⟨i,j⟩⟨o,r,h1,g⟩;dsimp only at o r h1 g⊢;by_cases c:i<j
  ·obtain⟨k,z,v,A⟩:∃k:Nat,aBin .shr (.int .u64 ((i:Int)+(j:Int))) (.int .u64 1)=some (.int .u64 (k:Int))/\i<=k/\k<j:=⟨(i+j)/2,shr1,by omega,by omega⟩;have m:k<es.length:=by omega
   obtain⟨e,he⟩:=Qac m;have n:(froms es).getD k 0=e.1:=by rw[Zan,ZaV,he];rfl
   have f:=w e (Zae he);refine Zcy (ZcB c z m (QaU he)) ?_;refine cp (sub229 e t f s) ?_;by_cases hc:e.1<t
   ·have d:(e.1:Int)-(t:Int)<0:=by omega
    refine Zcy d ?_;refine⟨(k+1,j),by dsimp only;omega,⟨by dsimp only;omega,r,fun q l=>?_,g⟩,⟨[],rfl,au0,au7,au8⟩⟩;have:=Qc2 u (p:=q) (q:=k) (by dsimp only at l;omega) (by omega);omega
   have d:¬(e.1:Int)-(t:Int)<0:=by omega
   refine Zcy d ?_;refine⟨(i,k),by dsimp only;omega,⟨v,by dsimp only;omega,h1,fun q l y=>?_⟩,⟨[],rfl,au0,au7,au8⟩⟩;have:=Qc2 u (p:=k) (q:=q) l (by omega);omega
  have e:i=j:=by omega
  subst e;refine Zcy c ?_;exact⟨i,⟨r,h1,g⟩,⟨[],rfl,au0,au7,au8⟩⟩
 rintro i⟨hi,h1,g⟩;rw[lb_eq (by omega) h1 fun q a b=>g q a (by omega),QjW u h1 fun q a b=>g q a (by omega)];by_cases c:i<es.length
 ·obtain⟨e,he⟩:=Qac c;have n:(froms es).getD i 0=e.1:=by rw[Zan,ZaV,he];rfl
  have f:=w e (Zae he);rw[n];by_cases hc:e.1=t
  ·rw[decide_eq_true ⟨by omega,hc⟩];have d:(e.1:Int)-(t:Int)=0:=by omega
   refine Zcy (Zcz c (QaU he)) ?_;refine cp (sub229 e t f s) ?_;refine Zcy d ?_;exact⟨.inr trivial,_,rfl,rfl⟩
  rw[decide_eq_false fun h=>hc h.2];have d:¬(e.1:Int)-(t:Int)=0:=by omega
  refine Zcy (Zcz c (QaU he)) ?_;refine cp (sub229 e t f s) ?_;refine Zcy d ?_;exact⟨.inr trivial,_,rfl,rfl⟩
 rw[decide_eq_false fun h=>c (by omega)];refine Zcy c ?_;exact⟨.inr trivial,_,rfl,rfl⟩
theorem find67b(es:List Ed)(t:Nat)(u:(froms es).Pairwise (·<=·))(w:∀e∈es,e.1<=1000000)(s:t<=1000000)(B:es.length<=1000000):PSpec Tryz.prog 228 [egsN es,.int .i64 (t:Int),.fn 230 [] []] (.tup [.int .i64 (lbN (froms es) t:Int),.bool ((froms es).contains t)]):=by
 refine Zb3 64 ok228 rfl (by(try simp only[noRefs,Qax,Qao,Qap,Qaa,Qak,Qad,Qal,Qaz,Qag,noRef,Zak,Zac])<;>rfl) rfl ?_;have x:(froms es).length=es.length:=by simp
 unfold s228;refine Zcx ?_;refine Qaj 100 (fun p:Nat×Nat=>[(0,egsN es),(1,.int .i64 (t:Int)),(2,.fn 230 [] []),(8,.int .i64 es.length),(9,.int .i64 p.1),(10,.int .i64 p.2)]) (fun _=>[]) (fun p=>p.1<=p.2/\p.2<=es.length/\(∀q,q<p.1->(froms es).getD q 0<t)/\∀q,p.2<=q->q<es.length->¬(froms es).getD q 0<t) (fun p=>p.2-p.1) (0,es.length) 0 140 (fun i:Nat=>[(0,egsN es),(1,.int .i64 (t:Int)),(2,.fn 230 [] []),(8,.int .i64 es.length),(9,.int .i64 i)]) (fun _=>[]) (fun i=>i<=es.length/\(∀q,q<i->(froms es).getD q 0<t)/\∀q,i<=q->q<es.length->¬(froms es).getD q 0<t) ?_ ⟨Zah _,ZaG _,fun q l=>absurd l (Zaw _),fun q h1 g=>by omega⟩ ?_ ?_;·exact⟨[],rfl,au0,au7,au8⟩
 ·rintro⟨i,j⟩⟨o,r,h1,g⟩;dsimp only at o r h1 g⊢;by_cases c:i<j
  ·obtain⟨k,z,v,A⟩:∃k:Nat,aBin .shr (.int .u64 ((i:Int)+(j:Int))) (.int .u64 1)=some (.int .u64 (k:Int))/\i<=k/\k<j:=⟨(i+j)/2,shr1,by omega,by omega⟩;have m:k<es.length:=by omega
   obtain⟨e,he⟩:=Qac m;have n:(froms es).getD k 0=e.1:=by rw[Zan,ZaV,he];rfl
   have f:=w e (Zae he);refine Zcy (ZcB c z m (QaU he)) ?_;refine cp (sub230 e t f s) ?_;by_cases hc:e.1<t
   ·have d:(e.1:Int)-(t:Int)<0:=by omega
    refine Zcy d ?_;refine⟨(k+1,j),by dsimp only;omega,⟨by dsimp only;omega,r,fun q l=>?_,g⟩,⟨[],rfl,au0,au7,au8⟩⟩;have:=Qc2 u (p:=q) (q:=k) (by dsimp only at l;omega) (by omega);omega
   have d:¬(e.1:Int)-(t:Int)<0:=by omega
   refine Zcy d ?_;refine⟨(i,k),by dsimp only;omega,⟨v,by dsimp only;omega,h1,fun q l y=>?_⟩,⟨[],rfl,au0,au7,au8⟩⟩;have:=Qc2 u (p:=k) (q:=q) l (by omega);omega
  have e:i=j:=by omega
  subst e;refine Zcy c ?_;exact⟨i,⟨r,h1,g⟩,⟨[],rfl,au0,au7,au8⟩⟩
 rintro i⟨hi,h1,g⟩;rw[lb_eq (by omega) h1 fun q a b=>g q a (by omega),QjW u h1 fun q a b=>g q a (by omega)];by_cases c:i<es.length
 ·obtain⟨e,he⟩:=Qac c;have n:(froms es).getD i 0=e.1:=by rw[Zan,ZaV,he];rfl
  have f:=w e (Zae he);rw[n];by_cases hc:e.1=t
  ·rw[decide_eq_true ⟨by omega,hc⟩];have d:(e.1:Int)-(t:Int)=0:=by omega
   refine Zcy (Zcz c (QaU he)) ?_;refine cp (sub230 e t f s) ?_;refine Zcy d ?_;exact⟨.inr trivial,_,rfl,rfl⟩
  rw[decide_eq_false fun h=>hc h.2];have d:¬(e.1:Int)-(t:Int)=0:=by omega
  refine Zcy (Zcz c (QaU he)) ?_;refine cp (sub230 e t f s) ?_;refine Zcy d ?_;exact⟨.inr trivial,_,rfl,rfl⟩
 rw[decide_eq_false fun h=>c (by omega)];refine Zcy c ?_;exact⟨.inr trivial,_,rfl,rfl⟩
theorem out58(a:Aut)(v:Nat)(h:WfA a)(b:a.es.length<=1000000)(n:v<=1000):PSpec Tryz.prog 199 [aV a,.int .i64 (v:Int)] (egsN (sOut a.es (fun _=>true) v)):=by
 have i:(froms a.es).Pairwise (·<=·):=by rw[Za8];exact h.srt
 have f:∀e∈a.es,e.1<=1000000:=fun e he=>by have:=(h.esn e he).1;have:=h.n5;omega
 have l:=find67 a.es v i f (by omega) b;have g:=find67b a.es (v+1) i f (by omega) b;have k:((v+1:Nat):Int)=(v:Int)+1:=by omega
 rw[k]at g;have ho:=QjX h.srt v;have j:=lb_le (l:=froms a.es) (t:=v+1);rw[Zal]at j;have hm:lbN (froms a.es) v<=lbN (froms a.es) (v+1):=List.countP_mono_left fun x _ m=>by simp at m⊢;omega
 generalize(froms a.es).contains v=o at*;generalize(froms a.es).contains (v+1)=b2 at*;generalize lbN (froms a.es) v=p at*;generalize lbN (froms a.es) (v+1)=q at*;have hlen:q-p=(sOut a.es (fun _=>true) v).length:=by rw[<-ho,Zar,ZaE];omega
 have d:(p:Int)<=(q:Int):=by omega
 have c:(q:Int)<=(a.es.length:Int):=by omega
 refine Zb2 64 ok199 rfl (by(try simp only[noRefs,Qax,Qao,Qap,Qaa,Qak,Qad,Qal,Qaz,Qag,noRef,Zak,Zac])<;>rfl) (QaE _) ?_;unfold s199;refine Zcx ?_;refine cp l ?_;refine Zcx ?_;refine cp g ?_;refine Zcy (Zcz d c) ?_;refine⟨.inr trivial,_,rfl,?_⟩;rw[Qfq,Qfr,ho,hlen];exact Zb0 (QaE _)
end Go.AM.SE
namespace Go.AM.SE
open Go.Proofs Go.AM.SD
abbrev rsA(a:Aut):List AV:=[sliN a.al,.int .i64 (a.n:Int),sliN a.ms,egsN a.es]
abbrev rsN:List AV:=[.nilsl,.int .i64 0,.nilsl,.nilsl]
end Go.AM.SE
namespace Go.AM.SE
open Go.Proofs Go.AM.SD
def pl(n:Nat)(o:List Nat):List Int:=(List.range n).map fun x=>if o.contains x then((SD.idx o x:Nat):Int)else-1
theorem Qdn{n:Nat}{o:List Nat}:(pl n o).length=n:=by simp[pl]
theorem Qdo{n:Nat}{o:List Nat}{x:Nat}(a:x<n):(pl n o).getD x 0=if o.contains x then((SD.idx o x:Nat):Int)else-1:=by unfold pl;rw[Zan,ZaV,ZbQ a];rfl
theorem Qhf{n:Nat}{o:List Nat}{x:Nat}(b:x∉o):(pl n o).set x (o.length:Int)=pl n (o++[x]):=by
 refine List.ext_getElem (by simp[pl]) fun j h1 a=>?_;have d:j<n:=by simpa[pl]using a
 rw[List.getElem_set];simp only[pl,List.getElem_map,List.getElem_range];by_cases e:x=j;·subst e;rw[if_pos rfl,if_pos (by simp),SD.QcZ b]
 rw[if_neg e];by_cases hm:j∈o;·rw[if_pos (by simpa using hm),if_pos (by simp[hm]),SD.QdD hm]
 have c:¬j=x:=fun h=>e h.symm;rw[if_neg (by simpa using hm),if_neg (by simp[hm,c])]
theorem QjY{n:Nat}(c:0<n):(List.replicate n (-1:Int)).set 0 0=pl n [0]:=by
 refine List.ext_getElem (by simp[pl]) fun j h1 a=>?_;have d:j<n:=by simpa[pl]using a
 rw[List.getElem_set];simp only[pl,List.getElem_map,List.getElem_range,List.getElem_replicate];by_cases e:0=j;·subst e;rw[if_pos rfl,if_pos (by simp)];rfl
 have b:¬j=0:=fun h=>e h.symm;rw[if_neg e,if_neg (by simp[b])]
abbrev cnB(a:Aut)(m e:Nat):List AV:=[.sl 83 0 0 a.al.length 1,.int .i64 0,.sl 77 0 0 m 1,.sl 76 0 0 e 3]
abbrev tru:Nat->Bool:=fun _=>true
theorem canonical44(a:Aut)(h:WfA a)(X:a.es.length<=1000000):PSpec Tryz.prog 150 [aV a] (aV (restr a tru)):=by
 have hn5:=h.n5;have hal:a.al.length<=5:=QaN 5 a.al (by rw[ZaJ];exact h.al.imp fun h=>by omega) h.al5;have hml:a.ms.length<=a.n:=QaN a.n a.ms h.nd h.msn;have N:a.ms.Pairwise (·<=·):=h.ms.imp fun h=>by omega
 have T:(a.n:Int)<=140737488355328:=by omega
 have R:(8:Int)*(a.n:Int)<=140737488355328:=by omega
 refine Zb2 40 ok150 rfl (by(try simp only[noRefs,Qax,Qao,Qap,Qaa,Qak,Qad,Qal,Qaz,Qag,noRef,Zak,Zac])<;>rfl) (Qcr _) ?_;unfold s150;refine Zcx ?_;refine ch (HSpec.of_O (b:=83) (by(try simp only[noRefs,Qax,Qao,Qap,Qaa,Qak,Qad,Qal,Qaz,Qag,noRef,Zak,Zac])<;>rfl) (clone56 a.al (by omega)) (by repeat(first|exact Fresh.e|exact Fresh.le (by assumption) (by omega)|refine Fresh.set ?_ (by omega) (by omega))) rfl) ?_;by_cases h0:a.n=0
 ·have K:(a.n:Int)=0:=by omega
  have e:sAll a tru=([],[]):=by unfold sAll;rw[h0];rfl
  have hr:restr a tru=⟨a.al,0,[],[]⟩:=by unfold restr;rw[e];rfl
  refine Zcy K ?_;refine⟨.inr trivial,_,rfl,?_⟩;rw[hr];exact Rn.agg (Zcg (Rn.fz0 (g:=0) rfl (by simp[ints]) (Zb1 (Qaa _))) (Zcg (Zb0 rfl) (Zcg Rn.nilK (Zcg Rn.nilK Zcf))))
 have K:¬(a.n:Int)=0:=by omega
 have J:0<a.n:=by omega
 have h0n:(0:Int)<(a.n:Int):=by omega
 refine Zcy (ZcB K T R @QjU) ?_;refine Qaj 100 (fun i:Nat=>[(1,.ptr 50 0 0),(2,.ptr 60 0 0),(3,.ptr 69 0 0),(4,.sl 78 0 0 a.n 1),(24,.int .i64 a.n),(25,.int .i64 i)]) (fun i=>[(50,.cells 0 (rsA a)),(60,.cells 0 rsN),(69,.cells 0 [.sl 83 0 0 a.al.length 1,.int .i64 0,.nilsl,.nilsl]),(83,.cells 0 (ints (nz a.al))),(78,.cells 0 (ints (List.replicate i (-1)++List.replicate (a.n-i) 0)))]) (fun i=>i<=a.n) (fun i=>a.n-i) 0 0 120 (fun _:Unit=>[(1,.ptr 50 0 0),(2,.ptr 60 0 0),(3,.ptr 69 0 0),(4,.sl 78 0 0 a.n 1)]) (fun _=>[(50,.cells 0 (rsA a)),(60,.cells 0 rsN),(69,.cells 0 [.sl 83 0 0 a.al.length 1,.int .i64 0,.nilsl,.nilsl]),(83,.cells 0 (ints (nz a.al))),(78,.cells 0 (ints (List.replicate a.n (-1))))]) (fun _=>True) ?_ (Zah _) ?_ ?_;·exact⟨[(50,.blk 40 0),(60,.blk 41 0),(69,.blk 46 0),(83,.blk 83 0),(78,.blk 53 0)],rfl,au0,au7,au8⟩
 ·rintro i hi;by_cases k:i<a.n
  ·have h1:i+1<=i+(a.n-i):=by omega
   refine Zcy (ZcB k h1 @Qcb (Qis k)) ?_;exact⟨i+1,by omega,by omega,⟨[(50,.blk 50 0),(60,.blk 60 0),(69,.blk 69 0),(83,.blk 83 0),(78,.blk 78 0)],rfl,au0,au7,au8⟩⟩
  have e:i=a.n:=by omega
  subst e;have e2:List.replicate a.n (-1:Int)++List.replicate (a.n-a.n) 0=List.replicate a.n (-1):=by simp
  refine Zcy k ?_;refine⟨(),?_⟩;rw[e2];exact⟨[(50,.blk 50 0),(60,.blk 60 0),(69,.blk 69 0),(83,.blk 83 0),(78,.blk 78 0)],rfl,au0,au7,au8⟩
 rintro _ _;have r:1<=a.n:=J;have m:=QjY J;refine Zcy (ZcB h0n r @Qcb m) ?_;have d:SI a.n a.es tru 0 (([0],[]):OE):=⟨⟨by simp,fun x hx=>by simp at hx;omega⟩,fun _ _=>rfl,Zah _,fun j v hj=>by omega,by simp⟩;have hq0:sQ a.es tru (a.n+1) 0 ([0],[])=sAll a tru:=by unfold sAll;rw[if_pos (by simp[J])]
 refine Qaj 180 (fun t:Nat×OE=>[(1,.ptr 50 0 0),(2,.ptr 60 0 0),(3,.ptr 69 0 0),(4,.sl 78 0 0 a.n 1),(6,.sl 75 0 0 t.2.1.length 1),(7,.int .i64 t.1)]) (fun t=>[(50,.cells 0 (rsA a)),(60,.cells 0 rsN),(69,.cells 0 (cnB a (mks a t.1 t.2.1).length t.2.2.length)),(83,.cells 0 (ints (nz a.al))),(78,.cells 0 (ints (pl a.n t.2.1))),(75,.cells 0 (ints (nz t.2.1))),(76,.cells 0 (t.2.2.flatMap edC)),(77,.cells 0 (ints (nz (mks a t.1 t.2.1))))]) (fun t=>t.1<=a.n/\SI a.n a.es tru t.1 t.2/\t.2.2.length<=t.1*1000000/\sQ a.es tru (a.n+1-t.1) t.1 t.2=sAll a tru) (fun t=>a.n+1-t.1) (0,([0],[])) 2 260 (fun _:Unit=>[(2,.ptr 60 0 0),(3,.ptr 69 0 0),(6,.sl 75 0 0 (sAll a tru).1.length 1)]) (fun _=>[(60,.cells 0 rsN),(69,.cells 0 (cnB a (restr a tru).ms.length (restr a tru).es.length)),(83,.cells 0 (ints (nz a.al))),(75,.cells 0 (ints (nz (sAll a tru).1))),(76,.cells 0 ((restr a tru).es.flatMap edC)),(77,.cells 0 (ints (nz (restr a tru).ms)))]) (fun _=>True) ?_ ⟨Zah _,d,Zah _,hq0⟩ ?_ ?_;·dsimp only;have O:mks a 0 [0]=[]:=rfl;rw[O];exact⟨[(50,.blk 50 0),(60,.blk 60 0),(69,.blk 69 0),(83,.blk 83 0),(78,.blk 78 0),(75,.blk 123 0),(76,.nil),(77,.nil)],rfl,au0,au7,au8⟩
 ·rintro⟨i,s⟩⟨hi,d,S,U⟩;dsimp only at hi d S U⊢;have hfl:=d.fi.len;have hile:=d.le;by_cases k:i<s.1.length
  ·obtain⟨v,z⟩:=Qac k;have hvn:=d.fi.lt v (Zae z);have C:i<a.n:=by omega
   have E:=d.step h.esn z;have L:sQ a.es tru (a.n+1-(i+1)) (i+1) (sRow a.es tru i v s)=sAll a tru:=by rw[<-U,show a.n+1-i=(a.n+1-(i+1))+1 by omega];simp only[sQ,z]
   have B:=fun j=>Qcq (n:=a.n) (left:=tru) i ((sOut a.es tru v).take j) s (fun e he=>⟨(h.esn e (QaV.1 (ZaR he)).1).2,rfl⟩) d.fi d.lft;have hol:=Qcs a.es tru v;have A:=Qgx (a:=a) z;have hmsl:=@Qhy a i s.1;have w:mks a (i+1) (sRow a.es tru i v s).1=mks a (i+1) s.1:=by obtain⟨_,_,⟨t,ht⟩,_⟩:=Qcq (n:=a.n) (left:=tru) i (sOut a.es tru v) s (fun e he=>⟨(h.esn e (QaV.1 he).1).2,rfl⟩) d.fi d.lft;have ht:(sRow a.es tru i v s).1=s.1++t:=ht;rw[ht,QlD (by omega)]
   have hc:=find57 a.ms v N (by omega);have ho:=out58 a v h X (by omega);generalize hM0:mks a i s.1=M0 at*;generalize hM:mks a (i+1) s.1=M at*;refine Zcy (Zcz k (Qcc (nz_at z))) ?_;refine cp hc ?_;by_cases o:a.ms.contains v=true
   ·rw[if_pos o]at A;rw[o];refine Zcy (Zcz k (Qcc (nz_at z))) ?_;refine cp ho ?_;refine Zcx ?_;refine Qaj 300 (fun j:Nat=>[(1,.ptr 50 0 0),(2,.ptr 60 0 0),(3,.ptr 69 0 0),(4,.sl 78 0 0 a.n 1),(6,.sl 75 0 0 (((sOut a.es tru v).take j).foldl (sEd i) s).1.length 1),(7,.int .i64 i),(63,egsN (sOut a.es tru v)),(64,.int .i64 (sOut a.es tru v).length),(65,.int .i64 j)]) (fun j=>[(50,.cells 0 (rsA a)),(60,.cells 0 rsN),(69,.cells 0 (cnB a M.length (((sOut a.es tru v).take j).foldl (sEd i) s).2.length)),(83,.cells 0 (ints (nz a.al))),(78,.cells 0 (ints (pl a.n (((sOut a.es tru v).take j).foldl (sEd i) s).1))),(75,.cells 0 (ints (nz (((sOut a.es tru v).take j).foldl (sEd i) s).1))),(76,.cells 0 ((((sOut a.es tru v).take j).foldl (sEd i) s).2.flatMap edC)),(77,.cells 0 (ints (nz M)))]) (fun j=>j<=(sOut a.es tru v).length) (fun j=>(sOut a.es tru v).length-j) 0 4 400 (fun _:Unit=>[(1,.ptr 50 0 0),(2,.ptr 60 0 0),(3,.ptr 69 0 0),(4,.sl 78 0 0 a.n 1),(6,.sl 75 0 0 (sRow a.es tru i v s).1.length 1),(7,.int .i64 i)]) (fun _=>[(50,.cells 0 (rsA a)),(60,.cells 0 rsN),(69,.cells 0 (cnB a M.length (sRow a.es tru i v s).2.length)),(83,.cells 0 (ints (nz a.al))),(78,.cells 0 (ints (pl a.n (sRow a.es tru i v s).1))),(75,.cells 0 (ints (nz (sRow a.es tru i v s).1))),(76,.cells 0 ((sRow a.es tru i v s).2.flatMap edC)),(77,.cells 0 (ints (nz M)))]) (fun _=>True) ?_ (Zah _) ?_ ?_;·rw[A,Zai,QaL,QaA];exact⟨[(50,.blk 50 0),(60,.blk 60 0),(69,.blk 69 0),(83,.blk 83 0),(78,.blk 78 0),(75,.blk 75 0),(76,.blk 76 0),(77,.blk 77 1)],rfl,au0,au7,au8⟩
    ·rintro j hj;by_cases f:j<(sOut a.es tru v).length
     ·obtain⟨e,he⟩:=Qac f;have F:=QaV.1 (Zae he);have c:=(h.esn e F.1).2;obtain⟨V,_,_,_,_⟩:=B j;have Y:=V.len;have b:=Qd5 (i:=i) (s:=s) he;have n:=QbJ (i:=i) ((sOut a.es tru v).take j) s;rw[Zar]at n;generalize(((sOut a.es tru v).take j).foldl (sEd i) s)=t at*;have l:=QbD t.2;have hpl:=Qdn (n:=a.n) (o:=t.1);have g:=Qdo (o:=t.1) c;have y:e.2.2<(pl a.n t.1).length:=by omega
      have r:e.2.2+1<=(pl a.n t.1).length:=by omega
      by_cases hc:e.2.2∈t.1
      ·have H:sEd i t e=(t.1,t.2++[(i,e.2.1,SD.idx t.1 e.2.2)]):=if_pos (by simpa using hc);rw[H]at b;rw[if_pos (by simpa using hc)]at g;have I:¬((SD.idx t.1 e.2.2:Nat):Int)<0:=by omega
       generalize SD.idx t.1 e.2.2=q at*;refine Zcy (ZcE f (QaU he) c (Qbh y) g I l) ?_;refine⟨j+1,by omega,by omega,?_⟩;rw[b,Zaq,Zai];exact⟨[(50,.blk 50 0),(60,.blk 60 0),(69,.blk 69 0),(83,.blk 83 0),(78,.blk 78 0),(75,.blk 75 0),(76,.blk 76 1),(77,.blk 77 0)],rfl,au0,au7,au8⟩
      have H:sEd i t e=(t.1++[e.2.2],t.2++[(i,e.2.1,t.1.length)]):=if_neg (by simpa using hc);rw[H]at b;rw[if_neg (by simpa using hc)]at g;have m:=Qhf (n:=a.n) hc;have I:(-1:Int)<0:=by decide
      have p:e.2.2<(pl a.n (t.1++[e.2.2])).length:=by rw[Qdn];exact c
      have u:(pl a.n (t.1++[e.2.2])).getD e.2.2 0=(t.1.length:Int):=by rw[Qdo c,if_pos (by simp),SD.QcZ hc]
      refine Zcy (ZcJ f (QaU he) c (Qbh y) g I l r @Qcb m (Qbh p) u) ?_;refine⟨j+1,by omega,by omega,?_⟩;rw[b,Zaq,Zai];dsimp only;rw[Zai,QaL,QaA];exact⟨[(50,.blk 50 0),(60,.blk 60 0),(69,.blk 69 0),(83,.blk 83 0),(78,.blk 78 0),(75,.blk 75 1),(76,.blk 76 1),(77,.blk 77 0)],rfl,au0,au7,au8⟩
     have e:j=(sOut a.es tru v).length:=by omega
     subst e;refine Zcy f ?_;refine⟨(),?_⟩;exact⟨[(50,.blk 50 0),(60,.blk 60 0),(69,.blk 69 0),(83,.blk 83 0),(78,.blk 78 0),(75,.blk 75 0),(76,.blk 76 0),(77,.blk 77 0)],rfl,au0,au7,au8⟩
    rintro _ _;have Q:(sRow a.es tru i v s).2.length=s.2.length+(sOut a.es tru v).length:=QbJ _ _;have P:=Qcs a.es tru v;refine Zcx ?_;refine⟨(i+1,sRow a.es tru i v s),by dsimp only;omega,⟨C,E,by dsimp only;omega,L⟩,?_⟩;dsimp only;rw[w];exact⟨[(50,.blk 50 0),(60,.blk 60 0),(69,.blk 69 0),(83,.blk 83 0),(78,.blk 78 0),(75,.blk 75 0),(76,.blk 76 0),(77,.blk 77 0)],rfl,au0,au7,au8⟩
   rw[if_neg o,Zax]at A;rw[Zaj]at o;rw[o];refine Zcy (Zcz k (Qcc (nz_at z))) ?_;refine cp ho ?_;refine Zcx ?_;refine Qaj 300 (fun j:Nat=>[(1,.ptr 50 0 0),(2,.ptr 60 0 0),(3,.ptr 69 0 0),(4,.sl 78 0 0 a.n 1),(6,.sl 75 0 0 (((sOut a.es tru v).take j).foldl (sEd i) s).1.length 1),(7,.int .i64 i),(63,egsN (sOut a.es tru v)),(64,.int .i64 (sOut a.es tru v).length),(65,.int .i64 j)]) (fun j=>[(50,.cells 0 (rsA a)),(60,.cells 0 rsN),(69,.cells 0 (cnB a M.length (((sOut a.es tru v).take j).foldl (sEd i) s).2.length)),(83,.cells 0 (ints (nz a.al))),(78,.cells 0 (ints (pl a.n (((sOut a.es tru v).take j).foldl (sEd i) s).1))),(75,.cells 0 (ints (nz (((sOut a.es tru v).take j).foldl (sEd i) s).1))),(76,.cells 0 ((((sOut a.es tru v).take j).foldl (sEd i) s).2.flatMap edC)),(77,.cells 0 (ints (nz M)))]) (fun j=>j<=(sOut a.es tru v).length) (fun j=>(sOut a.es tru v).length-j) 0 4 400 (fun _:Unit=>[(1,.ptr 50 0 0),(2,.ptr 60 0 0),(3,.ptr 69 0 0),(4,.sl 78 0 0 a.n 1),(6,.sl 75 0 0 (sRow a.es tru i v s).1.length 1),(7,.int .i64 i)]) (fun _=>[(50,.cells 0 (rsA a)),(60,.cells 0 rsN),(69,.cells 0 (cnB a M.length (sRow a.es tru i v s).2.length)),(83,.cells 0 (ints (nz a.al))),(78,.cells 0 (ints (pl a.n (sRow a.es tru i v s).1))),(75,.cells 0 (ints (nz (sRow a.es tru i v s).1))),(76,.cells 0 ((sRow a.es tru i v s).2.flatMap edC)),(77,.cells 0 (ints (nz M)))]) (fun _=>True) ?_ (Zah _) ?_ ?_;·rw[A];exact⟨[(50,.blk 50 0),(60,.blk 60 0),(69,.blk 69 0),(83,.blk 83 0),(78,.blk 78 0),(75,.blk 75 0),(76,.blk 76 0),(77,.blk 77 0)],rfl,au0,au7,au8⟩
   ·rintro j hj;by_cases f:j<(sOut a.es tru v).length
    ·obtain⟨e,he⟩:=Qac f;have F:=QaV.1 (Zae he);have c:=(h.esn e F.1).2;obtain⟨V,_,_,_,_⟩:=B j;have Y:=V.len;have b:=Qd5 (i:=i) (s:=s) he;have n:=QbJ (i:=i) ((sOut a.es tru v).take j) s;rw[Zar]at n;generalize(((sOut a.es tru v).take j).foldl (sEd i) s)=t at*;have l:=QbD t.2;have hpl:=Qdn (n:=a.n) (o:=t.1);have g:=Qdo (o:=t.1) c;have y:e.2.2<(pl a.n t.1).length:=by omega
     have r:e.2.2+1<=(pl a.n t.1).length:=by omega
     by_cases hc:e.2.2∈t.1
     ·have H:sEd i t e=(t.1,t.2++[(i,e.2.1,SD.idx t.1 e.2.2)]):=if_pos (by simpa using hc);rw[H]at b;rw[if_pos (by simpa using hc)]at g;have I:¬((SD.idx t.1 e.2.2:Nat):Int)<0:=by omega
      generalize SD.idx t.1 e.2.2=q at*;refine Zcy (ZcE f (QaU he) c (Qbh y) g I l) ?_;refine⟨j+1,by omega,by omega,?_⟩;rw[b,Zaq,Zai];exact⟨[(50,.blk 50 0),(60,.blk 60 0),(69,.blk 69 0),(83,.blk 83 0),(78,.blk 78 0),(75,.blk 75 0),(76,.blk 76 1),(77,.blk 77 0)],rfl,au0,au7,au8⟩
     have H:sEd i t e=(t.1++[e.2.2],t.2++[(i,e.2.1,t.1.length)]):=if_neg (by simpa using hc);rw[H]at b;rw[if_neg (by simpa using hc)]at g;have m:=Qhf (n:=a.n) hc;have I:(-1:Int)<0:=by decide
     have p:e.2.2<(pl a.n (t.1++[e.2.2])).length:=by rw[Qdn];exact c
     have u:(pl a.n (t.1++[e.2.2])).getD e.2.2 0=(t.1.length:Int):=by rw[Qdo c,if_pos (by simp),SD.QcZ hc]
     refine Zcy (ZcJ f (QaU he) c (Qbh y) g I l r @Qcb m (Qbh p) u) ?_;refine⟨j+1,by omega,by omega,?_⟩;rw[b,Zaq,Zai];dsimp only;rw[Zai,QaL,QaA];exact⟨[(50,.blk 50 0),(60,.blk 60 0),(69,.blk 69 0),(83,.blk 83 0),(78,.blk 78 0),(75,.blk 75 1),(76,.blk 76 1),(77,.blk 77 0)],rfl,au0,au7,au8⟩
    have e:j=(sOut a.es tru v).length:=by omega
    subst e;refine Zcy f ?_;refine⟨(),?_⟩;exact⟨[(50,.blk 50 0),(60,.blk 60 0),(69,.blk 69 0),(83,.blk 83 0),(78,.blk 78 0),(75,.blk 75 0),(76,.blk 76 0),(77,.blk 77 0)],rfl,au0,au7,au8⟩
   rintro _ _;have Q:(sRow a.es tru i v s).2.length=s.2.length+(sOut a.es tru v).length:=QbJ _ _;have P:=Qcs a.es tru v;refine Zcx ?_;refine⟨(i+1,sRow a.es tru i v s),by dsimp only;omega,⟨C,E,by dsimp only;omega,L⟩,?_⟩;dsimp only;rw[w];exact⟨[(50,.blk 50 0),(60,.blk 60 0),(69,.blk 69 0),(83,.blk 83 0),(78,.blk 78 0),(75,.blk 75 0),(76,.blk 76 0),(77,.blk 77 0)],rfl,au0,au7,au8⟩
  have z:s.1[i]?=none:=ZaA (by omega);have G:s=sAll a tru:=by rw[<-U,show a.n+1-i=(a.n-i)+1 by omega];simp only[sQ,z]
  have Z:i=s.1.length:=by omega
  have hmf:mks a i s.1=(restr a tru).ms:=by rw[Z,G];rfl
  have hef:s.2=(restr a tru).es:=by rw[G];rfl
  refine Zcy k ?_;refine⟨(),?_⟩;rw[hmf,hef,<-G];exact⟨[(60,.blk 60 0),(69,.blk 69 0),(83,.blk 83 0),(75,.blk 75 0),(76,.blk 76 0),(77,.blk 77 0)],rfl,au0,au7,au8⟩
 rintro _ _;have hra:(restr a tru).al=a.al:=rfl;have hrn2:(restr a tru).n=(sAll a tru).1.length:=rfl;refine Zcx ?_;refine⟨.inr trivial,_,rfl,?_⟩;exact Rn.agg (Zcg (Rn.fz0 (g:=0) rfl (by simp[ints,hra]) (Zb1 (Qaa _))) (Zcg (Zb0 rfl) (Zcg (Rn.fz0 (g:=0) rfl (by simp[ints]) (Zb1 (Qaa _))) (Zcg (Rn.fz0 (g:=0) rfl (QbD _) (Zb1 (Qad _))) Zcf))))
end Go.AM.SE
namespace Go.AM.SO
open Go.Proofs Go.AM.SD Go.AM.SE
theorem check112(a:Aut)(h:WfA a)(b:a.es.length<=1000000):PSpec Tryz.prog 112 [aV a] (.int .i64 0):=by have:=check37 (au a) (WfA.auOk h b);rwa[Qnt]at this
theorem isCanon60(a:Aut)(h:WfA a)(b:a.es.length<=1000000)(hc:restr a (fun _=>true)=a):PSpec Tryz.prog 60 [aV a] (.bool true):=by have h1:=canonical44 a h b;have c:restr a tru=a:=hc;rw[c]at h1;have f:=h.n5;have g:a.al.length<=5:=QaN 5 a.al (by rw[ZaJ];exact h.al.imp fun h=>by omega) h.al5;have i:a.ms.length<=a.n:=QaN a.n a.ms h.nd h.msn;have ho:AOk a:=⟨by omega,by omega,by omega⟩;have d:=eq43 a a ho ho;rw[Qix]at d;refine Zb3 64 ok60 rfl (by(try simp only[noRefs,Qaa,Qak,Qad,Qal,Qag,noRef,Zak,Zac])<;>rfl) rfl ?_;unfold s60;refine Zcr ?_;refine cp (check112 a h b) ?_;refine Zcr ?_;refine cp h1 ?_;refine Zcr ?_;refine cp d ?_;refine Zcr ?_;exact⟨.inr trivial,_,rfl,rfl⟩
end Go.AM.SO
namespace Go.AM.SK
open Go.Proofs
set_option maxHeartbeats 4000000
noncomputable section
def cf:YA.Cf:={}
noncomputable def ft:FT2:=YA.tre Tryz.prog cf 20 [15,16,17,18,19,21,28,31,32,33,36,38,41,45,48,60,68,69,70,71,72,73,74,75,76,77,82,83,84,85,90,95,96,97,98,99,100,101,102,103,104,105,106,110,111,112,115,135,144,148,149,150,154,155,156,157,158,159,160,161,162,163,164,166,167,168,169,183,184,187,188,189,190,192,193,195,197,198,199,200,201,202,203,204,205,206,207,208,209,218,219,223,226,227,228,229,230,232,233,234,235,236,242,251,263]
theorem ft_ok:ft.OK Tryz.prog:=YA.QjD _ _ (YA.QjC (by kernel_rfl))
end
end Go.AM.SK
namespace Go.AM.SP
open Go.Proofs
noncomputable section
def isTrue:AV->Bool|.bool true=>true|_=>false
theorem QnD:∀u,isTrue u=true->u=.bool true:=by
 intro u h;unfold isTrue at h;split at h;·rfl
 cases h
def nameB(s:List UInt8):Bool:=callR ansB noOrc SK.ft.get (exR ansB noOrc SK.ft.get 1000) (.c .pure) 135 [.str s] .e 64 (fun u _ _=>isTrue u)
theorem Qb4{s:List UInt8}(h:nameB s=true):PSpec Tryz.prog 135 [.str s] (.bool true):=QbZ (t:=SK.ft) SK.ft_ok Qd0 (d:=1000) isTrue QnD h
theorem QpV:PSpec Tryz.prog 135 [.str [97]] (.bool true):=Qb4 (by kernel_rfl)
theorem QpW:PSpec Tryz.prog 135 [.str [98]] (.bool true):=Qb4 (by kernel_rfl)
theorem QjZ:PSpec Tryz.prog 135 [.str [99]] (.bool true):=Qb4 (by kernel_rfl)
theorem QpX:PSpec Tryz.prog 135 [.str [100]] (.bool true):=Qb4 (by kernel_rfl)
theorem QpY:PSpec Tryz.prog 135 [.str [101]] (.bool true):=Qb4 (by kernel_rfl)
theorem Qpf:PSpec Tryz.prog 135 [.str [99,48]] (.bool true):=Qb4 (by kernel_rfl)
theorem Qpg:PSpec Tryz.prog 135 [.str [99,49]] (.bool true):=Qb4 (by kernel_rfl)
theorem Qph:PSpec Tryz.prog 135 [.str [99,50]] (.bool true):=Qb4 (by kernel_rfl)
theorem Qpi:PSpec Tryz.prog 135 [.str [114,48]] (.bool true):=Qb4 (by kernel_rfl)
theorem Qpj:PSpec Tryz.prog 135 [.str [114,49]] (.bool true):=Qb4 (by kernel_rfl)
end
end Go.AM.SP
namespace Go.AM.SO
open Go.Proofs Go.AM.SD Go.AM.SE
structure Evt where
 c:Bool
 o:Bool
 f:Bool
 flt:Nat
def Evt.Ok(e:Evt):Prop:=e.flt<=4/\(e.flt≠0->e.c=false/\e.o=false)
def evC(i:Nat)(e:Evt):List AV:=[.str [UInt8.ofNat (97+i)],.bool e.c,.bool e.o,.bool e.f,.int .i64 (e.flt:Int)]
abbrev evsC(e:Nat->Evt):List AV:=evC 0 (e 0)++evC 1 (e 1)++evC 2 (e 2)++evC 3 (e 3)++evC 4 (e 4)
abbrev evsV(e:Nat->Evt):AV:=.fsl (evsC e) 5 5
theorem QpZ(e:Nat->Evt){i:Nat}(hi:i<5):((evsC e).drop (i*5)).take 5=evC i (e i):=by
 have:i=0\/i=1\/i=2\/i=3\/i=4:=by omega
 rcases this with rfl|rfl|rfl|rfl|rfl<;>rfl
theorem Qpk(e:Nat->Evt):(evsC e).length=25:=rfl
theorem Qpl{i:Nat}(hi:i<5):PSpec Tryz.prog 135 [.str [UInt8.ofNat (97+i)]] (.bool true):=by
 have:i=0\/i=1\/i=2\/i=3\/i=4:=by omega
 rcases this with rfl|rfl|rfl|rfl|rfl;·exact SP.QpV
 ·exact SP.QpW
 ·exact SP.QjZ
 ·exact SP.QpX
 exact SP.QpY
end Go.AM.SO
namespace Go.AM.SO
open Go.Proofs Go.AM.SD Go.AM.SE
def nmL(i:Nat):List (List UInt8):=(List.range i).map fun j=>[UInt8.ofNat (97+j)]
theorem QoC{i:Nat}:nmL (i+1)=nmL i++[[UInt8.ofNat (97+i)]]:=by unfold nmL;rw[ZaP,ZaQ];rfl
theorem Qpm{i:Nat}(hi:i<5):[UInt8.ofNat (97+i)]∉nmL i:=by
 have:i=0\/i=1\/i=2\/i=3\/i=4:=by omega
 rcases this with rfl|rfl|rfl|rfl|rfl<;>decide
abbrev yes:List UInt8->AV:=fun _=>.bool true
theorem Qc3{x:List UInt8}:updS yes x (.bool true)=yes:=by funext y;simp[updS]
theorem QnE(e:Nat->Evt):noRefs [evsV e]=true:=rfl
theorem _root_.Go.AM.au9{p:Prop}(h:p:=by repeat(first|exact Zb7|(refine Zb8 ?_ ?_;·(first|exact Rn.any|exact Rn.x1 rfl rfl|exact Rn.x2 rfl rfl|exact Rn.x3 rfl rfl|exact Rn.x4 rfl rfl|exact Rn.x5 rfl|exact Rn.x6 rfl|exact Rn.x7 rfl|(refine Rn.slot ?_ ?_;(first|rfl|(rw[ZaS];rfl));(first|rfl|(simp only[noRef,noRefs,Qah,Zak,Zac,Zag,Qaa,Qam,Qab];done)))|(refine Rn.fn ?_ ?_<;>(repeat'(first|exact Zcf|refine Zcg ?_ ?_|exact Zb0 rfl|exact Rn.x6 rfl|exact Rn.x2 rfl rfl|exact Rn.x5 rfl|exact Rn.x1 rfl rfl))))))):p:=h
theorem check82(e:Nat->Evt)(he:∀i,i<5->(e i).Ok):PSpec Tryz.prog 82 [evsV e] (.int .i64 0):=by
 refine Zb3 64 ok82 rfl (QnE e) rfl ?_;unfold s82;refine Zcx ?_;refine Qay 100 (fun i:Nat=>[(10,evsV e),(11,.int .i64 5),(12,.int .i64 i),(3,.map 68 0)]) (fun i=>[(68,.map 0 (mapS yes (nmL i)))]) (fun i=>i<=5) (fun i=>5-i) 0 ⟨[(68,.blk 68 0)],rfl,au0,?_,au9⟩ (Zah _) ?_;·exact Zcc rfl rfl rfl trivial Zb9
 rintro i hi;by_cases d:i<5
 ·have a:(i:Int)<5:=by omega
  have g:=QpZ e d;have l:5<=(List.drop (i*5) (evsC e)).length:=by rw[ZaE,Qpk];omega
  have f:evC i (e i)=[.str [UInt8.ofNat (97+i)],.bool (e i).c,.bool (e i).o,.bool (e i).f,.int .i64 ((e i).flt:Int)]:=rfl;obtain⟨n,hc⟩:=he i d;generalize e i=q at g f n hc;obtain⟨t,s,r,b⟩:=q;dsimp only at g f n hc;have c:=Qpm d;have j:=@QoC i;have h:=Qpl d;generalize UInt8.ofNat (97+i)=ch at f c j h;refine Zcy (ZcB a g l f) ?_;refine cp h ?_;refine Zcx ?_;refine QcO rfl c ?_;have m:¬(b:Int)<0:=by omega
  have o:¬4<(b:Int):=by omega
  by_cases p:b=0
  ·have k:(b:Int)=0:=by omega
   refine Zcy (ZcA m o k) ?_;refine QbO gg c (by omega) ?_;refine Zcy @Qc3 ?_;refine⟨i+1,by omega,by omega,?_⟩;rw[j];refine⟨[(68,.blk 68 0)],rfl,au0,?_,au9⟩;exact Zcc rfl rfl gg (Zco fun _ _=>Zb0 rfl) Zb9
  have k:¬(b:Int)=0:=by omega
  obtain⟨rfl,rfl⟩:=hc p;refine Zcy (ZcA m o k) ?_;refine QbO gg c (by omega) ?_;refine Zcy @Qc3 ?_;refine⟨i+1,by omega,by omega,?_⟩;rw[j];refine⟨[(68,.blk 68 0)],rfl,au0,?_,au9⟩;exact Zcc rfl rfl gg (Zco fun _ _=>Zb0 rfl) Zb9
 have a:¬(i:Int)<5:=by omega
 refine Zcy a ?_;exact⟨.inr trivial,_,rfl,rfl⟩
end Go.AM.SO
namespace Go.AM.SO
open Go.Proofs Go.AM.SD Go.AM.SE
def evOf(b:Nat):Evt:=if 48<=b/\b<52 then⟨false,false,false,b-47⟩else⟨decide (b&&&1=1),decide (b&&&2=2),decide (b&&&4=4),0⟩
theorem Qpn(b:Nat):(evOf b).Ok:=by
 unfold evOf;split;·exact⟨by grind,fun _=>⟨rfl,rfl⟩⟩
 exact⟨by simp_all,fun h=>absurd rfl h⟩
theorem andN(b m:Nat)(a:b<256)(hm:m<256):(BitVec.ofInt 8 (b:Int)&&&BitVec.ofInt 8 (m:Int)).toNat=b&&&m:=by grind
theorem Qj0(b m:Nat)(hm:m<256):b&&&m<256:=Nat.lt_of_le_of_lt Nat.and_le_right hm
theorem QnF{b:Nat}(a:b<256):aBin .and (.int .u8 (b:Int)) (.int .u8 1)=some (.int .u8 ((b&&&1:Nat):Int)):=by have:=andN b 1 a (by omega);have c:=Qj0 b 1 (by omega);simp only[aBin,if_true];rw[show IntKind.u8.bits=8 from rfl,show(1:Int)=((1:Nat):Int)from rfl,this,wr_u8 (by omega) (by omega)]
theorem QnG{b:Nat}(a:b<256):aBin .and (.int .u8 (b:Int)) (.int .u8 2)=some (.int .u8 ((b&&&2:Nat):Int)):=by have:=andN b 2 a (by omega);have c:=Qj0 b 2 (by omega);simp only[aBin,if_true];rw[show IntKind.u8.bits=8 from rfl,show(2:Int)=((2:Nat):Int)from rfl,this,wr_u8 (by omega) (by omega)]
theorem QnH{b:Nat}(a:b<256):aBin .and (.int .u8 (b:Int)) (.int .u8 4)=some (.int .u8 ((b&&&4:Nat):Int)):=by have:=andN b 4 a (by omega);have c:=Qj0 b 4 (by omega);simp only[aBin,if_true];rw[show IntKind.u8.bits=8 from rfl,show(4:Int)=((4:Nat):Int)from rfl,this,wr_u8 (by omega) (by omega)]
def evP(F:List Nat)(i:Nat):List AV:=(List.range i).flatMap fun j=>evC j (evOf (F.getD j 0))
theorem Qj1{F:List Nat}{i:Nat}:evP F (i+1)=evP F i++evC i (evOf (F.getD i 0)):=by simp_all[evP,ZaP]
theorem QhA{F:List Nat}:∀{i:Nat},(evP F i).length=i*5|0=>rfl|i+1=>by rw[Qj1,Zai,QhA];simp[evC];omega
end Go.AM.SO
