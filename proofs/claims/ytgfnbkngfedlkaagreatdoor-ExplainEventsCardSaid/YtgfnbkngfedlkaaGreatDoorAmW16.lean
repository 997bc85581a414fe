/- Lemmas on the way to ExplainEventsCardSaid. Conditions: none of ours. -/
import Derived.Test.YtgfnbkngfedlkaaGreatDoorProg
import Derived.KernelRfl
import Derived.Test.YtgfnbkngfedlkaaGreatDoorAmW15
set_option linter.unusedSectionVars false
set_option maxHeartbeats 32000000
set_option maxRecDepth 100000
set_option linter.unusedVariables false
set_option linter.unusedSimpArgs false
namespace Go.AM.SO
open Go.Proofs Go.AM.SD Go.AM.SE
theorem auto69H{ch:UInt8}(l:List (Nat×Aut))(k:l.length<=1000):HSpec Tryz.prog 59 [its ch l] .e (.sl 60 0 0 l.length 4) (hp [(60,.cells 0 ((auL l).flatMap auC))]):=by
 refine HSpec.Qb0 100 TP.ok59 rfl ?_;have h:=@SU.QaC ch l;unfold TP.s59;refine ZcV ?_;refine Qaq 100 (fun i:Nat=>[(3,.sl 60 0 0 i 4),(6,its ch l),(7,.int .i64 l.length),(8,.int .i64 i)]) (fun i=>[(60,.cells 0 ((auL (l.take i)).flatMap auC))]) (fun i=>i<=l.length) (fun i=>l.length-i) 0 0 160 (fun _:Unit=>[(3,.sl 60 0 0 l.length 4)]) (fun _=>[(60,.cells 0 ((auL l).flatMap auC))]) (fun _=>True) ?_ (Zah _) ?_ ?_;·refine⟨[(60,.nil)],rfl,au0,?_,au23⟩;exact ZcC rfl rfl ZcA
 ·rintro i hi;by_cases a:i<l.length
  ·obtain⟨x,g⟩:=Qap a;have b:=SU.Qcq (ch:=ch) g;have c:5<=((l.flatMap (itC ch)).drop (i*5)).length:=by rw[b];simp
   have d:(auL (l.take i)).length=i:=by rw[QaZ,Zav];omega
   have f:((auL (l.take i)).flatMap auC).length=i*4:=by rw[Qg4,d]
   refine Zc0 (Zc8 a b c f @Qae @Qai @Qaa @Qab @Qac) ?_;refine⟨i+1,by omega,by omega,?_⟩;rw[take_succ' g];show Rec _ _ [(60,.cells 0 ((List.map (fun x:Nat×Aut=>x.2) (l.take i++[x])).flatMap auC))] _ _;rw[ZaK,Zaq,Qrp];refine⟨[(60,.blk 60 1)],rfl,au0,?_,au23⟩;exact ZcB rfl rfl gg (Zcr (SU.Qav (QaT _) (QaT [x.2]))) ZcA
  have e:i=l.length:=by omega
  subst e;refine ZcY a ?_;refine⟨(),?_⟩;refine⟨[(60,.blk 60 0)],rfl,au0,?_,au23⟩;exact ZcB rfl rfl gg (Zcr (QaT _)) ZcA
 rintro _ _;refine ZcV ?_;refine⟨.inr trivial,_,rfl,?_⟩;refine⟨[(60,.blk 60 0)],rfl,au0,?_,au23⟩;exact ZcB rfl rfl gg (Zcr (QaT _)) ZcA
theorem QsG(c:Cel)(h:WfCel c):Pq 58 [auts (allA c)] (.tup [aV (syncA (allA c)),tuV (sync0 (allA c)).1,.int .i64 0]):=by have d:=h.c0;have b:=h.c3;have a:=h.r2;exact sync28 (allA c) (Qb5 h) (by rw[QbZ];omega) (by rw[QbZ];omega) (QtT h)
abbrev stG(c:Cel)(p q:Aut)(P T:List (List Nat)):List AV:=[evsV c.ev,its 99 c.cs,its 114 c.rs,exs c.xs,cos c.ks,sliN p.al,.int .i64 (p.n:Int),sliN p.ms,egsN p.es,tuV P,sliN q.al,.int .i64 (q.n:Int),sliN q.ms,egsN q.es,tuV T,sliN (szs c),exs c.xs,cos c.ks,fmapG keyC (ixV P) P]
def stC(c:Cel):List AV:=stG c (syncA (auL c.cs)) (syncA (allA c)) (sync0 (auL c.cs)).1 (sync0 (allA c)).1
abbrev stP(c:Cel)(p q:Aut)(P T:List (List Nat)):List AV:=[evsV c.ev,its 99 c.cs,its 114 c.rs,exs c.xs,cos c.ks,sliN p.al,.int .i64 (p.n:Int),sliN p.ms,egsN p.es,tuV P,sliN q.al,.int .i64 (q.n:Int),sliN q.ms,egsN q.es,tuV T,sliN (szs c),exs c.xs,cos c.ks]
theorem Qf5(c:Cel)(p q:Aut)(P T:List (List Nat)):noRefs (stP c p q P T)=true:=by have h1:=SU.QaM c;rw[celV,noRef]at h1;simp only[noRefs,Zaa,Zac]at h1;obtain⟨a,a2,a3,a4,a5⟩:=h1;simp only[noRefs,a,a2,a3,a4,a5,Qae,Qai,Qa8];rfl
theorem QeX(c:Cel)(p q:Aut)(P T:List (List Nat)):noRefs (stG c p q P T)=true:=by have h1:=SU.QaM c;rw[celV,noRef]at h1;simp only[noRefs,Zaa,Zac]at h1;obtain⟨a,a2,a3,a4,a5⟩:=h1;simp only[noRefs,a,a2,a3,a4,a5,Qae,Qai,Qa8];rw[show noRef (fmapG keyC (ixV P) P)=true by rw[fmapG,noRef,Qaw (fun _=>rfl),Qaw (fun _=>rfl)];rfl];rfl
theorem open70(c:Cel)(h:WfCel c):Pq 60 [celV c] (.tup [.fptr (stC c),.int .i64 0]):=by
 have C:=Qa4 c;have v:noRef (.tup [.fptr (stC c),.int .i64 0])=true:=by rw[noRef,noRefs,noRef,stC,QeX];rfl
 refine Zct 64 TR.ok60 rfl (by rw[noRefs,SU.QaM];rfl) v ?_;have L:=h.c3;have A:=h.r2;have K:=plant17 c h;have hA:=auto69H (ch:=99) c.cs (by omega);have I:=automata59 (ch:=114) c.rs (by omega);have z:=QsG c h;have H:=conds85 c h;have b:=Qfn (fun a m=>(Qa3 h a m).pos) fun a m=>(Qa3 h a m).wf.esn;have E:=QiA (Qa3 h) (by rw[QaZ];omega);have k:=Qa8 (sync0 (auL c.cs)).1;have o:((auL c.cs).flatMap auC).length=c.cs.length*4:=by rw[Qg4,QaZ]
 have r:((auL c.rs).flatMap auC).length=c.rs.length*4:=by rw[Qg4,QaZ]
 have w:(auL c.rs).length=c.rs.length:=QaZ;have g:((auL c.rs).flatMap auC).all AV.one=true:=Qf1 (fun _=>rfl) _;have u:Pq 58 [.fsl ((auL c.cs).flatMap auC++(auL c.rs).flatMap auC) (c.cs.length+c.rs.length) 4] (.tup [aV (syncA (allA c)),tuV (sync0 (allA c)).1,.int .i64 0]):=by rw[<-Zaq,<-QbZ];exact z
 clear z;rw[stC];generalize syncA (auL c.cs)=p at*;generalize syncA (allA c)=q at*;generalize(sync0 (auL c.cs))=G at*;generalize(sync0 (allA c)).1=T at*;obtain⟨P,es⟩:=G;dsimp only at*;unfold TR.s60;refine ZcV ?_;refine cp K ?_;refine ZcV ?_;refine Qf3 [] 4 (x:=.f 59) (ag:=[.t 30]) (d:=some 31) rfl rfl rfl ?_;refine ZcV ?_;refine⟨59,(auL c.cs).flatMap auC,c.cs.length,4,rfl,⟨hA.1,by show noRefs [its 99 c.cs]=true;rw[noRefs,SU.QaC];rfl,60,0,0,_,_,rfl,Zah _,gg,hA⟩,QaT _,by decide,gg,?_⟩;refine ZcV ?_;refine ch (PSpec.toH I _) ?_;refine ZcW (Zc3 o r w g) ?_;refine ch (HSpec.give1 (g:=1) u gg (SU.Qav (QaT _) (QaT _)) (by rw[Zaf,o,r];omega) rfl) ?_;refine ZcV ?_;refine⟨trivial,?_⟩;refine cp H ?_;refine ZcV ?_;refine Qaq 200 (fun i:Nat=>[(4,.ptr 52 0 0),(59,tuV P),(60,.int .i64 P.length),(61,.int .i64 i)]) (fun i=>[(52,.cells 0 [evsV c.ev,its 99 c.cs,its 114 c.rs,exs c.xs,cos c.ks,sliN p.al,.int .i64 (p.n:Int),sliN p.ms,egsN p.es,tuV P,sliN q.al,.int .i64 (q.n:Int),sliN q.ms,egsN q.es,tuV T,sliN (szs c),exs c.xs,cos c.ks,.map 53 0]),(53,.map 0 (mapG keyC (ixV P) (P.take i)))]) (fun i=>i<=P.length) (fun i=>P.length-i) 0 0 260 (fun _:Unit=>[(4,.ptr 52 0 0)]) (fun _=>[(52,.cells 0 [evsV c.ev,its 99 c.cs,its 114 c.rs,exs c.xs,cos c.ks,sliN p.al,.int .i64 (p.n:Int),sliN p.ms,egsN p.es,tuV P,sliN q.al,.int .i64 (q.n:Int),sliN q.ms,egsN q.es,tuV T,sliN (szs c),exs c.xs,cos c.ks,fmapG keyC (ixV P) P])]) (fun _=>True) ?_ (Zah _) ?_ ?_;·refine⟨[(52,.blk 69 0),(53,.blk 116 0)],rfl,RO.set rfl (RO.set rfl Zcx),?_,Zcz (Rn.x2 rfl rfl) (Zcz (Zcq k) au23)⟩;exact ZcB rfl rfl gg (RnL.append (xs:=stP c p q P T) (ys:=stP c p q P T) (Zcr (Qf5 c p q P T)) (RnL.one (Rn.x3 rfl rfl))) (ZcD rfl rfl gg (ZcQ fun _ _=>⟨rfl,rfl⟩) ZcA)
 ·rintro i hi;by_cases d:i<P.length
  ·obtain⟨t,l⟩:=Qap d;have f:=b.inT t (Zae l);have hk:=key72 h f;have s:t∉P.take i:=fun hm=>by have A:ixT (P.take i) t=i:=(Qhl (List.take_prefix i P) hm).trans (Qro b.nd l);have B:=Qg5 hm;rw[A,Zav]at B;omega
   have y:updG (ixV P) t (.int .i64 ((i:Nat):Int))=ixV P:=by
    funext x;unfold updG;split;·rename_i e;subst e;unfold ixV;rw[Qro b.nd l]
    rfl
   refine ZcW (Zc1 d (Qfr l)) ?_;refine cp hk ?_;refine ZcV ?_;refine Qbs (c:=keyC) (f:=ixV P) (x:=t) (l:=P.take i) (g:=0) gg (Qg7 (fun a m=>(Qa3 h a m).j) f fun x J=>b.inT x (ZaQ J)) s (by omega) ?_;rw[y];refine ZcV ?_;refine⟨i+1,by omega,by omega,?_⟩;rw[take_succ' l];refine⟨[(52,.blk 52 0),(53,.blk 53 0)],rfl,Zcx,?_,Zcz (Rn.x2 rfl rfl) (Zcz (Zcq k) au23)⟩;exact ZcB rfl rfl gg (RnL.append (xs:=stP c p q P T) (ys:=stP c p q P T) (Zcr (Qf5 c p q P T)) (RnL.one (Rn.x3 rfl rfl))) (ZcD rfl rfl gg (ZcQ fun _ _=>⟨rfl,rfl⟩) ZcA)
  have e:i=P.length:=by omega
  subst e;refine ZcY d ?_;refine⟨(),[(52,.blk 52 0)],rfl,Zcx,?_,Zcz (Rn.x2 rfl rfl) Zcy⟩;exact ZcB rfl rfl gg (RnL.append (xs:=stP c p q P T) (ys:=stP c p q P T) (Zcr (Qf5 c p q P T)) (RnL.one (Rn.fzM (b:=53) (g:=0) gg rfl rfl fun _ _=>⟨rfl,rfl⟩))) ZcA
 rintro _ _;refine ZcV ?_;refine⟨.inr trivial,_,rfl,?_⟩;refine Rn.tup (ZcH ?_ (Zcr rfl));exact Rn.frzp (b:=52) (g:=0) rfl (Zah _) (fun M N _ e=>by simp[π0]at e) (by simp) (Zcr (QeX c p q P T))
structure WfB(a:Aut):Prop extends WfA a where
 a5:∀x∈a.al,x<5
 nb:a.n<=243
theorem WfB.el{a:Aut}(h:WfB a):a.es.length<=1220:=by have:=WfA.elK h.toWfA h.a5;have:=h.nb;omega
theorem check112B(a:Aut)(h:WfA a):Pq 91 [aV a] (.int .i64 0):=check112 a h (by have:=WfA.el1 h;omega)
theorem Qel{l:List Aut}{ev:List Nat}{T:List (List Nat)}{j:Nat}{t:List Nat}{x:Ed}(h:x∈rowE l ev T j t):x.1=j/\x.2.1∈ev/\∃n,stepT l t x.2.1=some n/\x.2.2=ixT T n:=by unfold rowE at h;obtain⟨e,he,a⟩:=Zbu.1 h;cases b:stepT l t e with|none=>rw[b]at a;cases a|some n=>rw[b]at a;simp only[ZbC,Zab]at a;subst a;exact⟨rfl,he,n,b,rfl⟩
theorem Qh0{l:List Aut}{T:List (List Nat)}{j:Nat}{t:List Nat}:∀{ev:List Nat},ev.Pairwise (·<·)->(rowE l ev T j t).Pairwise fun x y=>x.1<y.1\/(x.1=y.1/\x.2.1<y.2.1)|[],_=>by simp[rowE]|e::ev,h=>by rw[Zax]at h;have a:=Qh0 (l:=l) (T:=T) (j:=j) (t:=t) h.2;unfold rowE at a⊢;rw[Zbw];cases d:stepT l t e with|none=>exact a|some n=>simp only[ZbC];rw[Zax];refine⟨fun y c=>?_,a⟩;obtain⟨h1,b,_⟩:=Qel (l:=l) (T:=T) (j:=j) (t:=t) (ev:=ev) (by unfold rowE;exact c);exact .inr ⟨h1.symm,h.1 _ b⟩
theorem Qh1{f:Nat->List Ed}(hf:∀j,(f j).Pairwise (fun x y=>x.1<y.1\/(x.1=y.1/\x.2.1<y.2.1))/\∀x∈f j,x.1=j):∀i,((List.range i).flatMap f).Pairwise fun x y=>x.1<y.1\/(x.1=y.1/\x.2.1<y.2.1)|0=>by simp|i+1=>by rw[ZaO,Zaq,Zay,Zb3,Zap,Zbh];refine⟨Qh1 hf i,(hf i).1,fun x a y c=>?_⟩;obtain⟨j,b,a⟩:=ZbD.1 a;have:=Zat.1 b;rw[(hf j).2 x a,(hf i).2 y c];exact .inl this
theorem QdC{l:List Aut}(h:∀a∈l,WfI a)(w:l.length<=5):WfB (syncA l):=by
 have hw:∀a∈l,∀e∈a.es,e.1<a.n/\e.2.2<a.n:=fun a d=>(h a d).wf.esn;have g:∀a∈l,0<a.n:=fun a d=>(h a d).pos;have o:=Qg6 g hw;obtain⟨ho,b,_⟩:=QiA h w;have f:∀e∈(sync0 l).2,e.2.1∈evA l/\e.1<(sync0 l).1.length/\e.2.2<(sync0 l).1.length:=fun e he=>by rw[o.ed]at he;obtain⟨j,k,he⟩:=ZbD.1 he;have k:=Zat.1 k;obtain⟨h1,q,n,s,v⟩:=Qel he;obtain⟨t,u⟩:=Qap k;rw[Zak,u]at s;have hm:=o.cl j t k u _ q n s;exact⟨q,by omega,by rw[v];exact Qg5 hm⟩
 have r:∀x∈evA l,x<5:=fun x c=>by
  have i:x∈uUp (l.map fun a=>(0,a)):=by rw[<-Qfp];exact c
  rw[Qhj fun y p=>by obtain⟨a,d,rfl⟩:=Zan.1 p;exact h a d]at i;obtain⟨y,p,m⟩:=i;obtain⟨a,d,rfl⟩:=Zan.1 p;exact(h a d).a5 x m
 refine⟨⟨Qd9 h,fun x c=>by have:=r x c;omega,Zaw b (by decide),?_,fun x c=>?_,?_,fun e he=>⟨(f e he).2.1,(f e he).2.2⟩,fun e he=>(f e he).1⟩,r,b⟩;·exact List.pairwise_lt_range.filter _
 ·exact Zat.1 (ZaL.1 c).1
 show(sync0 l).2.Pairwise _;rw[o.ed];exact Qh1 (fun j=>⟨Qh0 (Qd9 h),fun x c=>(Qel c).1⟩) _
theorem out199(a:Aut)(v:Nat)(h:WfA a)(b:v<=100000):Pq 205 [aV a,.int .i64 (v:Int)] (egsN (sOut a.es (fun _=>true) v)):=out58 a v h (by have:=WfA.el1 h;omega) (by omega)
theorem state207(a:Aut)(v:Nat)(h:WfA a)(b:v<a.n):Pq 204 [aV a,.int .i64 (v:Int)] (.int .i64 0):=by
 refine Zcu 64 TQ.ok204 rfl (by(try simp only[noRefs,Qad,Qaj,Qaf,noRef,noRefs,Zad,Zac])<;>rfl) rfl ?_;have hc:=check112B a h;have g1:¬(v:Int)<0:=by omega
 have g2:¬(a.n:Int)<=(v:Int):=by omega
 unfold TQ.s204;refine ZcV ?_;refine cp hc ?_;refine ZcW (Zc1 g1 g2) ?_;exact⟨.inr trivial,_,rfl,rfl⟩
def evO(a:Aut)(v:Nat):List Nat:=(sOut a.es (fun _=>true) v).map (·.2.1)
theorem enabled161(a:Aut)(v:Nat)(h:WfA a)(l:v<a.n):Pq 124 [aV a,.int .i64 (v:Int)] (.tup [sliN (evO a v),.int .i64 0]):=by
 have m:=h.n5;have b:noRef (.tup [sliN (evO a v),.int .i64 0])=true:=by rw[noRef,noRefs,Qae];rfl
 refine Zct 64 TQ.ok124 rfl (by(try simp only[noRefs,Qad,Qaj,Qaf,noRef,noRefs,Zad,Zac])<;>rfl) b ?_;have hc:=state207 a v h l;have ho:=out199 a v h (by omega);have k:(sOut a.es (fun _=>true) v).length<=131072:=Zaw (ZaI ..) (WfA.el1 h);unfold evO at b⊢;generalize sOut a.es (fun _=>true) v=o at*;unfold TQ.s124;refine ZcV ?_;refine cp hc ?_;refine ZcV ?_;refine cp ho ?_;refine ZcV ?_;refine Qaq 120 (fun i:Nat=>[(7,.sl 60 0 0 i 1),(18,egsN o),(19,.int .i64 o.length),(20,.int .i64 i)]) (fun i=>[(60,.cells 0 (ints (nz ((o.take i).map (·.2.1)))))]) (fun i=>i<=o.length) (fun i=>o.length-i) 0 0 180 (fun _:Unit=>[(7,sliN (o.map (·.2.1)))]) (fun _=>[]) (fun _=>True) ?_ (Zah _) ?_ ?_;·refine⟨[(60,.nil)],rfl,au0,?_,au23⟩;exact ZcC rfl rfl ZcA
 ·rintro i hi;by_cases c:i<o.length
  ·obtain⟨e,he⟩:=Qap c;have d:=QaJ he;have f:3<=((o.flatMap edC).drop (i*3)).length:=by rw[d];simp
   have g:(ints (nz ((o.take i).map (·.2.1)))).length=i:=by simp[ints];omega
   refine ZcW (Zc3 c d f g) ?_;refine⟨i+1,by omega,by omega,?_⟩;rw[take_succ' he,ZaK,QaF,Qay];refine⟨[(60,.blk 60 1)],rfl,au0,?_,au23⟩;exact ZcB rfl rfl gg (Zcr (SU.Qav (Qad _) rfl)) ZcA
  have e:i=o.length:=by omega
  subst e;refine ZcY c ?_;exact⟨(),[],rfl,Zcx,ZcA,Zcz (ZcI (b:=60) (g:=0) gg rfl rfl (by simp) (by simp[ints]) (Zcr (Qad _))) Zcy⟩
 rintro _ _;refine ZcV ?_;exact⟨.inr trivial,_,rfl,Zcq b⟩
theorem ev262(x:Ed)(e:Nat):Pq 264 [.agg [.int .i64 (x.1:Int),.int .i64 (x.2.1:Int),.int .i64 (x.2.2:Int)],.fptr [.int .i64 (e:Int)]] (.bool (decide (x.2.1=e))):=by refine Zcu 64 TQ.ok264 rfl rfl rfl ?_;have a:decide ((x.2.1:Int)=(e:Int))=decide (x.2.1=e):=decide_eq_decide.2 (by omega);unfold TQ.s264;refine ZcW a ?_;exact⟨.inr trivial,_,rfl,rfl⟩
theorem Qf6{α:Type}{q:α->Bool}:∀l:List α,l.find? q=l[l.findIdx q]?|[]=>rfl|x::l=>by rw[List.find?_cons,List.findIdx_cons];cases q x with|true=>rfl|false=>simpa using Qf6 l
def nxI(a:Aut)(v e:Nat):Int:=match stepA a.es v e with|some t=>(t:Int)|none=>-1
theorem QdY(es:List Ed)(v e:Nat):stepA es v e=((sOut es (fun _=>true) v).find? fun x=>decide (x.2.1=e)).map (·.2.2):=by unfold stepA sOut;rw[List.find?_filter];congr 2;funext x;by_cases h:x.2.1=e<;>by_cases a:x.1=v<;>simp[h,a]
theorem next226(a:Aut)(v e:Nat)(h:WfA a)(q:v<a.n):Pq 219 [aV a,.int .i64 (v:Int),.int .i64 (e:Int)] (.int .i64 (nxI a v e)):=by
 have r:=h.n5;refine Zcu 64 TQ.ok219 rfl (by(try simp only[noRefs,Qad,Qaj,Qaf,noRef,noRefs,Zad,Zac])<;>rfl) rfl ?_;have ho:=out199 a v h (by omega);have g:(sOut a.es (fun _=>true) v).length<=131072:=Zaw (ZaI ..) (WfA.el1 h);have m:=index48 (K:=264) (cap:=[.fptr [.int .i64 (e:Int)]]) (fun x=>decide (x.2.1=e)) (sOut a.es (fun _=>true) v) (by omega) rfl fun x _=>ev262 x e;unfold nxI;rw[QdY];generalize sOut a.es (fun _=>true) v=o at*;rw[Qf6];have s:=@QdB _ (fun x:Ed=>decide (x.2.1=e)) o;have l:idxQ (fun x:Ed=>decide (x.2.1=e)) o=-1/\o[o.findIdx fun x=>decide (x.2.1=e)]?=none\/∃y,idxQ (fun x:Ed=>decide (x.2.1=e)) o=((o.findIdx fun x=>decide (x.2.1=e):Nat):Int)/\o[o.findIdx fun x=>decide (x.2.1=e)]?=some y:=by
  unfold idxQ;by_cases c:o.any (fun x=>decide (x.2.1=e))=true;·rw[if_pos c];obtain⟨y,p⟩:=Qap (Zbn (p:=fun x:Ed=>decide (x.2.1=e)) (xs:=o) (by simpa using c));exact .inr ⟨y,rfl,p⟩
  rw[if_neg c];refine .inl ⟨rfl,ZaD (Nat.le_of_not_lt fun b=>c ?_)⟩;rw[ZbR];exact⟨_,List.getElem_mem b,Zcc (w:=b)⟩
 generalize(o.findIdx fun x=>decide (x.2.1=e))=k at*;generalize idxQ (fun x:Ed=>decide (x.2.1=e)) o=i at*;unfold TQ.s219;refine ZcV ?_;refine cp ho ?_;refine ZcV ?_;refine SU.chc (ZcL (ZcO (Zcv _) (ZcO (FrzTo.fn ZcN (ZcO (ZcK (g:=0) (cs:=[.int .i64 (e:Int)]) gg (Zcw _)) ZcN)) ZcN)) m rfl) ?_;rcases l with⟨rfl,hk⟩|⟨y,rfl,hk⟩;·refine ZcV ?_;rw[hk];exact⟨.inr trivial,_,rfl,rfl⟩
 have f:k<o.length:=(Zag.1 hk).1;have g1:¬(k:Int)<0:=by omega
 have d:=QaJ hk;refine ZcW (Zc2 g1 f d) ?_;rw[hk];exact⟨.inr trivial,_,rfl,rfl⟩
theorem step208(a:Aut)(v e:Nat)(h:WfA a)(c:v<a.n)(he:e∈a.al):Pq 143 [aV a,.int .i64 (v:Int),.int .i64 (e:Int)] (.tup [.int .i64 (((stepA a.es v e).getD 0:Nat):Int),.bool (stepA a.es v e).isSome,.int .i64 0]):=by refine Zcu 64 TQ.ok143 rfl (by(try simp only[noRefs,Qad,Qaj,Qaf,noRef,noRefs,Zad,Zac])<;>rfl) rfl ?_;have f:=Qby h.al h.al5;have hc:=state207 a v h c;have d:=contains62 (nz a.al) (e:Int) (by simp;omega);have hm:decide ((e:Int)∈nz a.al)=true:=decide_eq_true (Zan.2 ⟨e,he,rfl⟩);rw[hm,Qbn]at d;have b:=next226 a v e h c;unfold nxI at b;unfold TQ.s143;refine ZcV ?_;refine cp hc ?_;refine ZcV ?_;refine cp d ?_;refine ZcV ?_;refine cp b ?_;cases i:stepA a.es v e with|none=>refine ZcV ?_;exact⟨.inr trivial,_,rfl,rfl⟩|some t=>
 have g:(0:Int)<=(t:Int):=by omega
 refine ZcW g ?_;exact⟨.inr trivial,_,rfl,rfl⟩
end Go.AM.SO
namespace Go.AM.SO
open Go.AM.SD Go.AM.SE
theorem Qnc{a:Aut}(h:WfA a)(s:Nat):evO a s=a.al.filter fun e=>(stepA a.es s e).isSome:=by unfold evO;rw[QjP h,List.map_filterMap];induction a.al with|nil=>rfl|cons e l b=>rw[Zbw,Zbv,b];cases he:stepA a.es s e with|none=>rfl|some t=>rfl
def ucE(a:Aut)(u:List Nat)(s:Nat):List Nat:=a.al.filter fun e=>(stepA a.es s e).isSome&&u.contains e
theorem QtU{a:Aut}{u:List Nat}(h:WfA a)(hu:u.Pairwise (·<·))(s:Nat):mrg (fun x y=>x&&y) (evO a s) u=ucE a u s:=by
 have h1:(evO a s).Pairwise (·<·):=by rw[Qnc h];exact h.al.filter _
 have hm:∀x,x∈mrg (fun x y=>x&&y) (evO a s) u↔x∈ucE a u s:=fun x=>by
  rw[QbK h1 hu,Qnc h];unfold ucE;simp only[ZaL,Zaa,decide_eq_true_eq,ZaG];constructor;·rintro⟨⟨⟨d,a2⟩,a3⟩,_⟩;exact⟨d,a2,a3⟩
  rintro⟨d,a2,a3⟩;exact⟨⟨⟨d,a2⟩,a3⟩,.inr a3⟩
 have s1:=Qcg (k:=fun x y=>x&&y) h1 hu;have s2:(ucE a u s).Pairwise (·<·):=h.al.filter _;generalize mrg (fun x y=>x&&y) (evO a s) u=A at*;generalize ucE a u s=B at*;clear h1 hu;induction A generalizing B with
 |nil=>cases B with|nil=>rfl|cons b B=>exact absurd ((hm b).2 (by simp)) (by simp)
 |cons x A i=>cases B with|nil=>exact absurd ((hm x).1 (by simp)) (by simp)|cons y B=>
  rw[Zax]at s1 s2;have f:x=y:=by
   rcases Zau.1 ((hm x).1 (by simp))with e|e;·exact e
   rcases Zau.1 ((hm y).2 (by simp))with g|g;·exact g.symm
   have:=s1.1 y g;have:=s2.1 x e;omega
  subst f;refine congrArg _ (i s1.2 B s2.2 (fun z=>?_));constructor
  ·intro c;have:=s1.1 z c;rcases Zau.1 ((hm z).1 (ZbY _ c))with e|e;·omega
   exact e
  intro c;have:=s2.1 z c;rcases Zau.1 ((hm z).2 (ZbY _ c))with e|e;·omega
  exact e
structure Vs where
 st:Nat
 bf:Int
 ev:Nat
 run:List Nat
def toA(a:Aut)(s e:Nat):Nat:=(stepA a.es s e).getD 0
def ext1(a:Aut)(i:Nat)(v:Vs)(l:List Vs)(e:Nat):List Vs:=if toA a v.st e∈l.map (·.st)then l else l++[⟨toA a v.st e,i,e,v.run++[e]⟩]
def extL(a:Aut)(i:Nat)(v:Vs)(l:List Vs)(es:List Nat):List Vs:=es.foldl (ext1 a i v) l
def badS(R:List Rm)(s:Nat):Bool:=match remAt R s with|some x=>!Nat.beq x.reason 2|none=>false
def bgo(a:Aut)(u:List Nat)(R:List Rm):Nat->Nat->List Vs->Option (List Nat×Nat)|0,_,_=>none|k+1,i,l=>match l[i]? with|none=>none|some v=>if badS R v.st then some (v.run,v.st)else bgo a u R k (i+1) (extL a i v l (ucE a u v.st))
def v0(s:Nat):Vs:=⟨s,-1,0,[]⟩
def bres(a:Aut)(u:List Nat)(R:List Rm)(s:Nat):Option (List Nat×Nat):=bgo a u R (a.n+1) 0 [v0 s]
structure LOk(n:Nat)(l:List Vs):Prop where
 st:∀v∈l,v.st<n
 nd:(l.map (·.st)).Nodup
 bf:∀(j:Nat)v,l[j]?=some v->(v.bf=-1/\v.run=[])\/∃(b:Nat)(w:Vs),v.bf=(b:Int)/\b<j/\l[b]?=some w/\v.run=w.run++[v.ev]
theorem LOk.len{n:Nat}{l:List Vs}(h:LOk n l):l.length<=n:=by
 have:=QaQ n (l.map (·.st)) h.nd fun x b=>by obtain⟨v,a,rfl⟩:=Zan.1 b;exact h.st v a
 simpa using this
theorem LOk.one{n s:Nat}(h:s<n):LOk n [v0 s]:=by
 refine⟨fun v a=>?_,by simp,fun j v a=>?_⟩;·simp only[Zbd]at a;subst a;exact h
 cases j with|zero=>simp at a;subst a;exact .inl ⟨rfl,rfl⟩|succ j=>simp at a
theorem Qho{l r:List Vs}{j:Nat}{v:Vs}(h:l[j]?=some v):(l++r)[j]?=some v:=by rw[ZaT (Zag.1 h).1];exact h
theorem LOk.ext{n:Nat}{a:Aut}{i:Nat}{v:Vs}{l:List Vs}{e:Nat}(h:LOk n l)(g:l[i]?=some v)(p:toA a v.st e<n):LOk n (ext1 a i v l e)/\∃r,ext1 a i v l e=l++r:=by
 unfold ext1;split;·exact⟨h,[],by simp⟩
 rename_i hm;have hi:=(Zag.1 g).1;refine⟨⟨fun w hw=>?_,?_,fun j w hw=>?_⟩,_,rfl⟩
 ·rcases ZaE.1 hw with hw|hw;·exact h.st w hw
  simp only[Zbd]at hw;subst hw;exact p
 ·rw[ZaK,Zca];refine⟨h.nd,by simp,fun x s y f e=>?_⟩;simp only[ZaJ,List.map_nil,Zbd]at f;subst f;subst e;exact hm s
 rcases ZbE j l.length with d|d
 ·rw[ZaT d]at hw;rcases h.bf j w hw with q|⟨b,z,q1,q2,k,o⟩;·exact .inl q
  exact .inr ⟨b,z,q1,q2,Qho k,o⟩
 rw[ZbP d]at hw;have c:j-l.length=0:=by cases m:j-l.length with|zero=>rfl|succ q=>rw[m]at hw;simp at hw
 rw[c]at hw;simp only[Zbl,Zab]at hw;subst hw;exact .inr ⟨i,v,rfl,by omega,Qho g,rfl⟩
theorem LOk.exts{n:Nat}{a:Aut}{i:Nat}{v:Vs}:∀{es:List Nat}{l:List Vs},LOk n l->l[i]?=some v->(∀e∈es,toA a v.st e<n)->LOk n (extL a i v l es)/\∃r,extL a i v l es=l++r
 |[],l,h,_,_=>⟨h,[],by simp[extL]⟩|e::es,l,h,f,d=>by
  obtain⟨h1,r,g⟩:=h.ext f (d e (by simp));have c:(ext1 a i v l e)[i]?=some v:=by rw[g];exact Qho f
  obtain⟨o,k,b⟩:=LOk.exts (es:=es) h1 c fun x m=>d x (ZbY _ m);refine⟨o,r++k,?_⟩;show extL a i v (ext1 a i v l e) es=_;rw[b,g,ZaV]
theorem QsH{a:Aut}{i:Nat}{v:Vs}{l:List Vs}{e:Nat}:toA a v.st e∈(ext1 a i v l e).map (·.st):=by
 unfold ext1;split;·assumption
 simp
theorem Qnd{a:Aut}{i:Nat}{v:Vs}:∀{es:List Nat}{l:List Vs}{e:Nat},e∈es->toA a v.st e∈(extL a i v l es).map (·.st)
 |x::es,l,e,he=>by
  show _∈(extL a i v (ext1 a i v l x) es).map (·.st);have mono:∀(es:List Nat)(l:List Vs)(s:Nat),s∈l.map (·.st)->s∈(extL a i v l es).map (·.st):=by intro es;induction es with|nil=>intro l s h;exact h|cons y es b=>
   intro l s h;refine b _ s ?_;unfold ext1;split;·exact h
   rw[ZaK];exact Zbz _ h
  rcases Zau.1 he with rfl|he;·exact mono es _ _ QsH
  exact Qnd he
theorem Qjq{a:Aut}{u:List Nat}{s e:Nat}(h:WfA a)(he:e∈ucE a u s):toA a s e<a.n:=by obtain⟨_,b⟩:=ZaL.1 he;rw[Zaa]at b;obtain⟨t,c⟩:=Za9.1 b.1;unfold toA;rw[c];exact Qcu h.esn c
theorem QsI{a:Aut}{u:List Nat}{R:List Rm}(h:WfA a):∀(k i:Nat)(l:List Vs),LOk a.n l->a.n+1<=k+i->(∀(j:Nat)v,j<i->l[j]?=some v->badS R v.st=false/\∀e∈ucE a u v.st,toA a v.st e∈l.map (·.st))->bgo a u R k i l=none->∃S:List Nat,(∀v∈l,v.st∈S)/\∀s∈S,badS R s=false/\∀e∈ucE a u s,toA a s e∈S:=by intro k;induction k with|zero=>intro i l f hk hp _;have A:=f.len;refine⟨l.map (·.st),fun v b=>Zan.2 ⟨v,b,rfl⟩,fun s g=>?_⟩;obtain⟨v,b,rfl⟩:=Zan.1 g;obtain⟨j,c⟩:=ZbI b;exact hp j v (by have:=(Zag.1 c).1;omega) c|succ k z=>
 intro i l f hk hp d;unfold bgo at d;split at d;·rename_i q;have hi:=ZbU.1 q;refine⟨l.map (·.st),fun v b=>Zan.2 ⟨v,b,rfl⟩,fun s g=>?_⟩;obtain⟨v,b,rfl⟩:=Zan.1 g;obtain⟨j,c⟩:=ZbI b;exact hp j v (by have:=(Zag.1 c).1;omega) c
 rename_i v b;split at d;·cases d
 rename_i m;obtain⟨h1,r,o⟩:=f.exts (a:=a) (es:=ucE a u v.st) b fun e he=>Qjq h he;have key:∀(j:Nat)w,j<i+1->(extL a i v l (ucE a u v.st))[j]?=some w->badS R w.st=false/\∀e∈ucE a u w.st,toA a w.st e∈(extL a i v l (ucE a u v.st)).map (·.st):=fun j w c hw=>by
  have x:=(Zag.1 b).1;rw[o,ZaT (by omega)]at hw;by_cases p:j=i;·subst p;rw[b]at hw;cases hw;exact⟨by simpa using m,fun e he=>Qnd he⟩
  obtain⟨t,y⟩:=hp j w (by omega) hw;refine⟨t,fun e he=>?_⟩;rw[o,ZaK];exact Zbz _ (y e he)
 obtain⟨S,s1,s2⟩:=z (i+1) _ h1 (by omega) key d;exact⟨S,fun w hw=>s1 w (by rw[o];exact Zbz _ hw),s2⟩
theorem Qva{a:Aut}{u:List Nat}{left:Nat->Bool}{R:List Rm}(h:RemOk a u left R){x:Rm}(b:x∈R):badS R x.st=!Nat.beq x.reason 2:=by unfold badS;rw[Qiu h.nd b]
theorem Qll{a:Aut}{u:List Nat}{left:Nat->Bool}{R:List Rm}(h:WfA a)(c:RemOk a u left R){x:Rm}(d:x∈R):∃r t,bres a u R x.st=some (r,t):=by cases i:bres a u R x.st with|some p=>exact⟨p.1,p.2,rfl⟩|none=>
 obtain⟨S,s1,s2⟩:=QsI h (a.n+1) 0 _ (LOk.one (c.st x d).1) (by omega) (fun j v l=>absurd l (ZaC _)) i;obtain⟨z,k,m,z2⟩:=QqV c d;have f:x.st∈S:=s1 (v0 x.st) (by simp);have key:∀{s t:Nat},Leads a u s t->s∈S->t∈S:=by intro s t q;induction q with|here s=>exact id|@step s t e he h1 hu _ o=>intro g;refine o ?_;have b:=QeK h.es he;rw[h1]at b;have:=(s2 s g).2 e.2.1 (ZaL.2 ⟨h.ev e he,by rw[b];simpa using hu⟩);unfold toA at this;rw[b]at this;exact this
 have:=(s2 z.st (key z2 f)).1;rw[Qva c k]at this;simp only[Bool.not_eq_false',ZbO]at this;exact absurd this m
theorem QoX{a:Aut}{u:List Nat}{R:List Rm}:∀(k i:Nat)(l:List Vs){r:List Nat}{t:Nat},bgo a u R k i l=some (r,t)->badS R t=true:=by intro k;induction k with|zero=>intro i l r t b;cases b|succ k c=>
 intro i l r t b;unfold bgo at b;split at b;·cases b
 split at b;·cases b;assumption
 exact c _ _ b
end Go.AM.SO
namespace Go.AM.OE
open Go.Proofs
set_option maxHeartbeats 4000000
noncomputable section
def cf:YA.Cf:={most:=.pure,value:=.pure}
def s99:SFn:=by
 refine(?f:YA.Yt Tryz.prog cf 99 [[4,5],[10,11],[12],[0,1,6,13,14],[4,5,6,13,15,16],[1,7,18,19,20,17,21,22],[9,23],[0,8,24],[0,8,24,25,26,27]]) ?s ?h;case h=>exact YA.rr
 exact fun s _=>s
def s177:SFn:=by
 refine(?f:YA.Yt Tryz.prog cf 177 [[0,2],[1,3,4,5]]) ?s ?h;case h=>exact YA.rr
 exact fun s _=>s
def s182:SFn:=by
 refine(?f:YA.Yt Tryz.prog cf 182 [[4],[],[0],[],[11,12,13,14],[7,15,16],[6,17,18,19,20,21],[6,17,22],[1,5,8,9,10,23]]) ?s ?h;case h=>exact YA.rr
 exact fun s _=>s
theorem ok99:Kq 99 s99=true:=by kernel_rfl
theorem ok177:Kq 177 s177=true:=by kernel_rfl
theorem ok182:Kq 182 s182=true:=by kernel_rfl
end
end Go.AM.OE
namespace Go.AM.SO
open Go.Proofs Go.AM.SD Go.AM.SE
def itN(x:List UInt8×Aut):List AV:=[.str x.1,sliN x.2.al,.int .i64 (x.2.n:Int),sliN x.2.ms,egsN x.2.es]
theorem QdZ(l:List (List UInt8×Aut)):noRefs (l.flatMap itN)=true:=Qa1 (fun x=>by simp only[itN,noRefs,noRef,Qad,Qaf];rfl) l
def evl(e:Nat->Evt):List (List UInt8×Evt):=(List.range 5).map fun i=>([UInt8.ofNat (97+i)],e i)
def evN(x:List UInt8×Evt):List AV:=[.str x.1,.bool x.2.c,.bool x.2.o,.bool x.2.f,.int .i64 (x.2.flt:Int)]
abbrev evNV(x:List UInt8×Evt):AV:=.agg [.str x.1,.bool x.2.c,.bool x.2.o,.bool x.2.f,.int .i64 (x.2.flt:Int)]
abbrev evsN(l:List (List UInt8×Evt)):AV:=.fsl (l.flatMap evN) l.length 5
theorem QoY(e:Nat->Evt):evsV e=evsN (evl e):=rfl
theorem Qf7(l:List (List UInt8×Evt)):noRefs (l.flatMap evN)=true:=Qa1 (fun x=>rfl) l
theorem QsJ{l:List (List UInt8×Evt)}{i:Nat}{x:List UInt8×Evt}(h:l[i]?=some x):(l.flatMap evN).drop (i*5)=.str x.1::.bool x.2.c::.bool x.2.o::.bool x.2.f::.int .i64 (x.2.flt:Int)::(l.drop (i+1)).flatMap evN:=Qa7 (f:=evN) (k:=5) (fun _=>rfl) h
def uncL(e:Nat->Evt)(n:Nat):List Nat:=(List.range n).filter fun i=>!(e i).c
theorem QsK(e:Nat->Evt)(n:Nat):uncL e (n+1)=uncL e n++if(e n).c then[]else[n]:=by unfold uncL;rw[ZaO,Zbi];cases h:(e n).c<;>simp[h]
theorem QtV(e:Nat->Evt)(n:Nat):(uncL e n).length<=n:=by have:=ZaI (fun i=>!(e i).c) (List.range n);rwa[Zb0]at this
theorem Qvb(e:Nat->Evt){i:Nat}(h:i<5):(evl e)[i]?=some ([UInt8.ofNat (97+i)],e i):=by unfold evl;rw[ZaB,ZbG h];rfl
theorem unc171(x:List UInt8×Evt):Pq 177 [evNV x] (.bool (!x.2.c)):=by refine Zcu 64 OE.ok177 rfl rfl rfl ?_;cases h:x.2.c;all_goals unfold OE.s177;refine Zc0 h ?_;exact⟨.inr trivial,_,rfl,rfl⟩
theorem _root_.Go.AM.au25{p:Prop}(h:p:=by repeat(first|exact Zcy|(refine Zcz ?_ ?_;·(first|exact Rn.any|exact Rn.x1 rfl rfl|exact Rn.x2 rfl rfl|exact Rn.x3 rfl rfl|exact Rn.x4 rfl rfl|exact Rn.x5 rfl|exact Rn.x6 rfl|exact Rn.x7 rfl|(refine Rn.slot ?_ ?_;(first|rfl|(rw[ZaS];rfl));(first|rfl|(simp only[noRef,noRefs,Qag,Zad,Zac,Zai,Qad,Qan,Qae,QdZ,Qf7];done)))|(refine Rn.fn ?_ ?_<;>(repeat'(first|exact ZcG|refine ZcH ?_ ?_|exact Zcq rfl|exact Rn.x6 rfl|exact Rn.x2 rfl rfl|exact Rn.x5 rfl|exact Rn.x1 rfl rfl))))))):p:=h
theorem chosen176(e:Nat->Evt):Pq 182 [evsV e,.fn 177 [] []] (sliN (uncL e 5)):=by
 have k:=Qf7 (evl e);rw[QoY];refine Zct 64 OE.ok182 rfl (by simp only[noRefs,noRef,k];rfl) (Qae _) ?_;unfold OE.s182;refine ZcZ ?_;refine Qaq 100 (fun i:Nat=>[(1,.fn 177 [] []),(5,.sl 76 0 0 (uncL e i).length 1),(8,evsN (evl e)),(9,.int .i64 5),(10,.int .i64 i)]) (fun i=>[(76,.cells 0 (ints (nz (uncL e i))))]) (fun i=>i<=5) (fun i=>5-i) 0 0 160 (fun _:Unit=>[(5,sliN (uncL e 5))]) (fun _=>[]) (fun _=>True) ?_ (Zah _) ?_ ?_;·refine⟨[(76,.nil)],rfl,au0,?_,au25⟩;exact ZcC rfl rfl ZcA
 ·rintro i hi;have l:=QtV e i;by_cases g:i<5
  ·have c:=QsJ (Qvb e g);have d:5<=(((evl e).flatMap evN).drop (i*5)).length:=by rw[c];simp
   have a:=QsK e i;have b:(i:Int)<5:=by omega
   have f:i<(evl e).length:=by simpa[evl]using g
   have hc:=unc171 ([UInt8.ofNat (97+i)],e i);cases h:(e i).c;·rw[h]at a;refine Zc0 (Zc3 b f c d) ?_;refine cp hc ?_;refine Zc0 h ?_;refine⟨i+1,by omega,by omega,?_⟩;rw[a,if_neg (by simp),Zaf,QaF,Qay];refine⟨[(76,.blk 76 1)],rfl,au0,?_,au25⟩;exact ZcB rfl rfl gg (Zcr (SU.Qav (Qad _) rfl)) ZcA
   rw[h]at a;refine Zc0 (Zc3 b f c d) ?_;refine cp hc ?_;refine Zc0 h ?_;refine⟨i+1,by omega,by omega,?_⟩;rw[a,if_pos rfl,Zap];refine⟨[(76,.blk 76 0)],rfl,au0,?_,au25⟩;exact ZcB rfl rfl gg (Zcr (Qad _)) ZcA
  have m:i=5:=by omega
  subst m;refine ZcZ ?_;refine⟨(),?_⟩;exact⟨[],rfl,Zcx,ZcA,Zcz (ZcI (b:=76) (g:=0) gg rfl rfl (by simp) (by simp[ints]) (Zcr (Qad _))) Zcy⟩
 rintro _ _;refine ZcZ ?_;exact⟨.inr trivial,_,rfl,Zcq (Qae _)⟩
theorem select86(e:Nat->Evt)(he:∀i,i<5->(e i).Ok):Pq 99 [evsV e,.int .i64 2] (.tup [sliN (uncL e 5),.int .i64 0]):=by
 have a:noRef (evsV e)=true:=by rw[QoY];exact Qf7 (evl e)
 refine Zct 64 OE.ok99 rfl (by simp only[noRefs,a];rfl) (by simp only[noRef,noRefs,Qad];rfl) ?_;have b:=check82 e he;have hH:=chosen176 e;unfold OE.s99;refine ZcZ ?_;refine cp b ?_;refine ZcZ ?_;refine QbJ ?_;refine ZcZ ?_;refine QcH (f:=fun _=>.any) (l:=[]) (x:=1) (by simp) (by decide) ?_;refine ZcZ ?_;refine QbJ ?_;refine ZcZ ?_;refine QcH (x:=2) (by simp) (by decide) ?_;refine ZcZ ?_;refine QbJ ?_;refine ZcZ ?_;refine QcH (x:=3) (by simp) (by decide) ?_;refine ZcZ ?_;refine QbJ ?_;refine ZcZ ?_;refine QcH (x:=4) (by simp) (by decide) ?_;refine ZcZ ?_;refine QbJ ?_;refine ZcZ ?_;refine QcH (x:=5) (by simp) (by decide) ?_;refine ZcZ ?_;refine QbJ ?_;refine ZcZ ?_;refine QcH (x:=6) (by simp) (by decide) ?_;refine ZcZ ?_;refine QdI ?_;refine ZcZ ?_;refine wK_in (x:=2) (by simp) ?_;have hu:updF (updF (updF (updF (updF (updF (fun _=>.any) 1 (.fn 176 [] [])) 2 (.fn 177 [] [])) 3 (.fn 178 [] [])) 4 (.fn 179 [] [])) 5 (.fn 180 [] [])) 6 (.fn 181 [] []) 2=.fn 177 [] []:=rfl;refine Zc0 hu ?_;refine cp hH ?_;refine ZcZ ?_;exact⟨.inr trivial,_,rfl,Zcq (by simp only[noRef,noRefs,Qad];rfl)⟩
theorem Qd0(c:Cel):noRef (.fptr (stC c))=true:=by rw[noRef,stC];exact QeX _ _ _ _ _
theorem QtW{t:List Nat}{n:Nat}:(ints (nz t)).take n=ints (nz (t.take n)):=by simp[ints,nz,List.map_take]
theorem QsL{t:List Nat}{n:Nat}:(ints (nz t)).drop n=ints (nz (t.drop n)):=by simp[ints,nz,List.map_drop]
theorem QnT{cs:List AV}{len sz:Nat}{k k2:IntKind}{b m:Int}(h:0<b):aSliceC (some sz) (.fsl cs len sz) none (some (.int k b)) (some (.int k2 m))=if b<=m/\m<=len then some (.fsl (cs.take (b.toNat*sz)) b.toNat sz)else none:=by
 have e:¬((0:Int)=0/\b=0/\m=0):=by omega
 have a:(0:Int)<=b:=by omega
 simp only[aSliceC,if_true,aSlice,bnd,Int.le_refl,true_and,a,Int.toNat_zero,Nat.zero_mul,Zbm,Nat.sub_zero];rw[if_neg (by omega)]
theorem split71(c:Cel)(t:List Nat)(l:0<c.cs.length)(h:c.cs.length<=t.length):Pq 61 [.fptr (stC c),sliN t] (.tup [sliN (t.take c.cs.length),sliN (t.drop c.cs.length)]):=by
 have a:noRef (.tup [sliN (t.take c.cs.length),sliN (t.drop c.cs.length)])=true:=by rw[noRef,noRefs,noRefs,Qae,Qae];rfl
 refine Zct 64 TQ.ok61 rfl (by rw[noRefs,Qd0,noRefs,Qae];rfl) a ?_;have i:=Qd0 c;rw[stC]at i⊢;generalize syncA (auL c.cs)=p at*;generalize syncA (allA c)=q at*;generalize(sync0 (auL c.cs)).1=P at*;generalize(sync0 (allA c)).1=T at*;have hle:(c.cs.length:Int)<=(t.length:Int):=by omega
 have f:(0:Int)<(c.cs.length:Int):=by omega
 have d:(t.drop c.cs.length).take (t.length-c.cs.length)=t.drop c.cs.length:=Za1 (by rw[Za3];exact ZaM _);have b:min c.cs.length t.length=c.cs.length:=Nat.min_eq_left h;unfold TQ.s61;refine ZcW (Zc4 hle @QnT @QtW @QsL d) ?_;refine⟨.inr trivial,_,rfl,?_⟩;have k:sliN (t.take c.cs.length)=.fsl (ints (nz (t.take c.cs.length))) c.cs.length 1:=by rw[sliN,Zav,b]
 have g:sliN (t.drop c.cs.length)=.fsl (ints (nz (t.drop c.cs.length))) (t.length-c.cs.length) 1:=by rw[sliN,Za3]
 rw[k,g]at a⊢;exact Zcq a
def rfQ(c:Cel)(r:List Nat)(e:Nat)(i:Nat):Bool:=match c.rs[i]? with|some y=>y.2.al.contains e&&(stepA y.2.es (r.getD i 0) e).isNone|none=>false
def rfI(c:Cel)(r:List Nat)(e:Nat):Int:=idxQ (rfQ c r e) (List.range c.rs.length)
theorem _root_.Go.AM.au26{p:Prop}(h:p:=by repeat'(first|exact ZcA|(refine Zcr ?_;first|rfl|(simp only[noRef,noRefs,Qag,Zad,Zac,Zai,Qad,Qan,Qae,Qai,QaT,Qaf,SU.Qbu];done))|exact ZcM rfl|exact ZcG|exact(True.intro:RnM _ _ _ [] [])|refine ZcH ?_ ?_|(refine Zcq ?_;first|rfl|(simp only[noRef,noRefs,Qag,Zad,Zac,Zai,Qad,Qan,Qae,Qai,QaT,Qaf,SU.Qbu];done))|exact Rn.x1 rfl rfl|exact Rn.x2 rfl rfl|exact Rn.x3 rfl rfl|exact Rn.x4 rfl rfl|exact Rn.x5 rfl|exact Rn.x6 rfl|exact Rn.x7 rfl|refine ZcC rfl rfl ?_|refine ZcB rfl rfl rfl ?_ ?_|refine ZcD rfl rfl rfl ?_ ?_|refine ZcE rfl rfl ?_ ?_|refine ZcF rfl rfl ?_ ?_)):p:=h
theorem refuser162(c:Cel)(hw:WfCel c)(r:List Nat)(e:Nat)(K:r.length=c.rs.length)(hrn:∀(i:Nat)y,c.rs[i]?=some y->r.getD i 0<y.2.n):Pq 125 [.fptr (stC c),sliN r,.int .i64 (e:Int)] (.int .i64 (rfI c r e)):=by
 refine Zcu 64 TQ.ok125 rfl (by rw[noRefs,Qd0,noRefs,Qae];rfl) rfl ?_;have H:=hw.r2;rw[stC];generalize syncA (auL c.cs)=p at*;generalize syncA (allA c)=q at*;generalize(sync0 (auL c.cs)).1=P at*;generalize(sync0 (allA c)).1=T at*;have g:=@SU.QaC 114 c.rs;unfold TQ.s125;refine ZcV ?_;refine Qaq 100 (fun i:Nat=>[(1,sliN r),(2,.int .i64 (e:Int)),(16,its 114 c.rs),(17,.int .i64 c.rs.length),(18,.int .i64 i)]) (fun _=>[]) (fun i=>i<=c.rs.length/\∀(j:Nat)y,j<i->(List.range c.rs.length)[j]?=some y->rfQ c r e y=false) (fun i=>c.rs.length-i) 0 0 200 (fun _:Unit=>[]) (fun _=>[]) (fun _=>∀x∈List.range c.rs.length,rfQ c r e x=false) ?_ ⟨Zah _,fun j y G=>absurd G (ZaC _)⟩ ?_ ?_;·exact⟨[],rfl,Zcx,ZcA,Zcz (Zcq (Qae _)) (Zcz (Zcq rfl) (Zcz (Zcq g) au23))⟩
 ·rintro i⟨hi,w⟩;by_cases b:i<c.rs.length
  ·obtain⟨x,k⟩:=Qap b;have f:=hw.ra x (Zae k);have h:=SU.Qcq (ch:=114) k;have A:5<=((c.rs.flatMap (itC 114)).drop (i*5)).length:=by rw[h];simp
   have z:i<r.length:=by omega
   obtain⟨v,E⟩:=Qap z;have s:r.getD i 0=v:=by rw[Zak,E];rfl
   have o:=hrn i x k;rw[s]at o;have d:(List.range c.rs.length)[i]?=some i:=by simp[b]
   have B:=has189 x.2.al e f.wf.al (by have:=Qb4 f.wf;omega);have a:rfQ c r e i=(x.2.al.contains e&&(stepA x.2.es v e).isNone):=by unfold rfQ;rw[k];dsimp only;rw[s]
   have m:∀q:rfQ c r e i=false,i+1<=c.rs.length/\∀(j:Nat)y,j<i+1->(List.range c.rs.length)[j]?=some y->rfQ c r e y=false:=fun q=>⟨by omega,fun j y G C=>by
    by_cases J:j=i;·subst J;rw[d]at C;cases C;exact q
    exact w j y (by omega) C⟩;cases u:x.2.al.contains e;·rw[u,Zcd]at a;rw[u]at B;refine ZcW (Zc2 b h A) ?_;refine cp B ?_;refine ZcV ?_;refine⟨i+1,by omega,m a,?_⟩;exact⟨[],rfl,Zcx,ZcA,Zcz (Zcq (Qae _)) (Zcz (Zcq rfl) (Zcz (Zcq g) au23))⟩
   have I:=step208 x.2 v e f.wf o (ZaG.1 u);rw[u,Zai]at a;rw[u]at B;refine ZcW (Zc2 b h A) ?_;refine cp B ?_;refine ZcW (Zc1 z (Qaz E)) ?_;refine cp I ?_;cases l:stepA x.2.es v e with|none=>rw[l]at a;refine ZcV ?_;refine⟨.inr trivial,_,rfl,?_⟩;unfold rfI;rw[QcI d a w];rfl|some t=>rw[l]at a;refine ZcV ?_;refine⟨i+1,by omega,m a,?_⟩;exact⟨[],rfl,Zcx,ZcA,Zcz (Zcq (Qae _)) (Zcz (Zcq rfl) (Zcz (Zcq g) au23))⟩
  refine ZcW b ?_;refine⟨(),fun x k=>?_,⟨[],rfl,au0,au26,au23⟩⟩;have:=Zat.1 k;exact w x x (by omega) (by simp[this])
 rintro _ w;refine ZcV ?_;refine⟨.inr trivial,_,rfl,?_⟩;unfold rfI;rw[QbV w];rfl
def rfF(c:Cel)(k:Nat)(r:List Nat):AV:=.fn 123 [] [.fptr [.fptr (stC c)],.fptr [.int .i64 (k:Int)],.fptr [sliN r]]
theorem Qg8(c:Cel)(k:Nat)(r:List Nat):noRef (rfF c k r)=true:=by have:=Qd0 c;rw[noRef]at this;simp only[rfF,noRef,noRefs,Qad,this];rfl
theorem refused74(c:Cel)(k:Nat)(r:List Nat):Pq 64 [.fptr (stC c),.int .i64 (k:Int),sliN r] (rfF c k r):=by
 have a:=Qd0 c;refine Zct 64 TQ.ok64 rfl (by rw[noRefs,a,noRefs,noRefs,Qae];rfl) (Qg8 _ _ _) ?_;unfold rfF;have f:(AV.fptr (stC c)).boxable=true:=rfl;have hc:(AV.fptr (stC c)).cells=[.fptr (stC c)]:=rfl;have ho:(AV.fptr (stC c)).one=true:=rfl;generalize AV.fptr (stC c)=S at*;unfold TQ.s64;refine ZcW (Zc2 f hc ho) ?_;refine⟨.inr trivial,_,rfl,?_⟩;refine Rn.fn ZcG (ZcH (Rn.frzp (b:=64) (g:=0) rfl (Zah _) (fun b d _ e=>by simp[π0]at e) (by simp) (Zcr ?_)) (ZcH (Rn.frzp (b:=65) (g:=0) rfl (Zah _) (fun b d _ e=>by simp[π0]at e) (by simp) (Zcr rfl)) (ZcH (Rn.frzp (b:=66) (g:=0) rfl (Zah _) (fun b d _ e=>by simp[π0]at e) (by simp) (Zcr ?_)) ZcG)));·show noRefs [S]=true;rw[noRefs,a];rfl
 show noRefs [sliN r]=true;rw[noRefs,Qae];rfl
theorem QtX{l:List Aut}{Q:List Nat->Prop}{i e:Nat}{t:List Nat}{s:List (List Nat)×List Ed}(a:∀n,stepT l t e=some n->Q n)(h:∀x∈s.1,Q x):∀x∈(pEv l i t s e).1,Q x:=by grind[pEv]
theorem Qne{l:List Aut}{Q:List Nat->Prop}{i:Nat}{t:List Nat}:∀{ev:List Nat}{s:List (List Nat)×List Ed},(∀e∈ev,∀n,stepT l t e=some n->Q n)->(∀x∈s.1,Q x)->∀x∈(pRow l ev i t s).1,Q x|[],s,_,h=>h|e::ev,s,b,h=>Qne (ev:=ev) (s:=pEv l i t s e) (fun c a=>b c (by simp[a])) (QtX (fun n=>b e (by simp) n) h)
theorem QrC{l:List Aut}{ev:List Nat}{Q:List Nat->Prop}(a:∀t,Q t->∀e∈ev,∀n,stepT l t e=some n->Q n):∀{k i:Nat}{s:List (List Nat)×List Ed},(∀x∈s.1,Q x)->∀x∈(pQ l ev k i s).1,Q x|0,_,_,h=>h|k+1,i,s,h=>by unfold pQ;cases b:s.1[i]? with|none=>exact h|some t=>exact QrC a (Qne (a t (h t (Zae b))) h)
theorem QpH{A B:List Aut}{t n:List Nat}{e:Nat}(b:(A++B).length<=t.length)(h:stepT (A++B) t e=some n):stepT A (t.take A.length) e=some (n.take A.length):=by
 obtain⟨h1,g,c⟩:=(QfX b).1 h;rw[Zaf]at b;refine(QfX (by grind)).2 ⟨by simp_all,fun i hi=>?_,fun i a hi d=>?_⟩;·grind
 have f:=c i a (by grind) (by grind);simp_all
theorem Qem{l:List Aut}(h:∀a∈l,WfI a){e:Nat}:e∈evA l↔∃a∈l,e∈a.al:=by
 rw[Qfp,Qhj (fun y d=>by grind)];constructor;·grind
 rintro⟨a,b,c⟩;exact⟨_,Zan.2 ⟨a,b,rfl⟩,c⟩
theorem QoZ{c:Cel}(h:WfCel c){e:Nat}(he:e∈evA (allA c)):e∈evA (auL c.cs):=by
 have hA:=Qa3 h;obtain⟨a,ha,hea⟩:=(Qem (Qb5 h)).1 he;rcases ZaE.1 (show a∈auL c.cs++auL c.rs from ha)with ha|ha;·grind[Qem]
 ·obtain⟨x,hx,rfl⟩:=Zan.1 ha;obtain⟨y,hy,hey⟩:=h.rsub x hx e hea;exact(Qem hA).2 ⟨y.2,Zan.2 ⟨y,hy,rfl⟩,hey⟩
theorem Qfs{c:Cel}(h:WfCel c):∀t∈(sync0 (allA c)).1,InT (allA c) t/\t.take c.cs.length∈(sync0 (auL c.cs)).1:=by
 have hA:=Qa3 h;have b:=Qb5 h;have m:=Qg6 (fun a d=>(hA a d).pos) (fun a d=>(hA a d).wf.esn);have g:=QfZ (l:=allA c) (fun a d=>(b a d).pos);show∀t∈(pQ (allA c) (evA (allA c)) (box (allA c)+1) 0 ([List.replicate (allA c).length 0],[])).1,_;refine QrC (Q:=fun t=>InT (allA c) t/\t.take c.cs.length∈(sync0 (auL c.cs)).1) ?_ ?_;·rintro t⟨l,hp⟩e he n k;refine⟨QfY (fun a d=>(b a d).wf.esn) l k,?_⟩;have f:=QpH (A:=auL c.cs) (B:=auL c.rs) (Nat.le_of_eq l.1.symm) k;rw[QaZ]at f;exact m.cl _ _ (Qg5 hp) (Qhm hp) e (QoZ h he) _ f
 intro x i;have i:x=List.replicate (allA c).length 0:=by simpa using i
 subst i;refine⟨g.inT _ (by simp),?_⟩;have:(List.replicate (allA c).length 0).take c.cs.length=List.replicate (auL c.cs).length 0:=by simp_all[QbZ]
 rw[this];exact sync_pre.subset (by simp)
theorem Qjr{β:Type}{R:Nat->List β}{j:Nat}:∀{n:Nat},j<n->(List.range n).flatMap (fun x=>if x=j then R x else[])=R j
 |0,h=>absurd h (ZaC _)|n+1,h=>by
  rw[ZaO,Zaq,Zay,Zb3,Zap];by_cases e:n=j
  ·subst e;rw[if_pos rfl];have:∀{m:Nat},m<=n->(List.range m).flatMap (fun x=>if x=n then R x else[])=[]:=fun{m}hm=>by rw[List.flatMap_eq_nil_iff];grind
   grind
  rw[if_neg e,Zap,Qjr (by omega)]
theorem Qlm{l:List Aut}(h:∀a∈l,WfI a){j:Nat}{t:List Nat}(f:(sync0 l).1[j]?=some t):sOut (syncA l).es (fun _=>true) j=rowE l (evA l) (sync0 l).1 j t:=by
 have i:=Qg6 (fun a c=>(h a c).pos) (fun a c=>(h a c).wf.esn);have b:j<(sync0 l).1.length:=(Zag.1 f).1;unfold sOut;show(sync0 l).2.filter _=_;rw[i.ed,List.filter_flatMap];have g:(sync0 l).1.getD j []=t:=by simp_all
 rw[<-g,<-Qjr (R:=fun x=>rowE l (evA l) (sync0 l).1 x ((sync0 l).1.getD x [])) b];refine flatMap_congr' fun x k=>?_;by_cases e:x=j;·rw[if_pos e];refine ZbN.2 fun y d=>?_;have:=(Qel d).1;simp[this,e]
 rw[if_neg e];refine List.filter_eq_nil_iff.2 fun y d=>?_;have:=(Qel d).1;simp[this,e]
theorem Qnf{A B:List Aut}{t:List Nat}(h:InT (A++B) t):InT A (t.take A.length):=by refine⟨by rw[Zav,h.1,Zaf];omega,fun i a b=>?_⟩;have hi:i<A.length:=(Zag.1 b).1;have:=h.2 i a (by grind);simp_all
theorem QiB{A B:List Aut}{t:List Nat}(h:InT (A++B) t):InT B (t.drop A.length):=by refine⟨by rw[Za3,h.1,Zaf];omega,fun i a b=>?_⟩;have:=h.2 (A.length+i) a (by grind);simp_all
end Go.AM.SO
namespace Go.AM
variable{P:Program}
theorem RSpec.of_wS{b N n:Nat}{T:Tmps}{c:List Nat}{a body:SCode}{args:List AV}{h h':Heap}{v:AV}(f:(noLoop a&&noLoop body)=true)(l:h.get b=some (.loop 0 N T c (.s a) (.s body) .ready))(k:Nat.blt b 1099511627775=true)(hlen:args.length=c.length)(i:(c.all fun p=>Nat.blt p N)=true)(hw:wS P ⟨N,0⟩ a [] n (upsT T c args) h fun e T1 h1 g=>e=.normal/\h1.get b=some (.loop 0 N T c (.s a) (.s body) .ready)/\wS P ⟨N,0⟩ body [] g T1 (h1.set b (.loop 0 N T c (.s a) (.s body) .busy)) fun e T2 d _=>d.get b=some (.loop 0 N T c (.s a) (.s body) .busy)/\v=.bool e.isNormal/\∀x,(d.set b (.loop 0 N T c (.s a) (.s body) (stOf e))).get x=h'.get x):RSpec P b 0 args h v h':=by simp only[Zaa]at f;refine RSpec.of_W l (by simpa[lim]using k) hlen (fun p hp=>by simp_all) ((wpC.toW1 f.1 hw).mono ?_);rintro e B⟨g,rfl,h1,d⟩;refine⟨rfl,N,T,c,.s a,.s body,h1,(wpC.toW1 f.2 d).mono ?_⟩;rintro e C⟨m,k1,k2,k3⟩;grind
section
variable{k m n:Nat}{T:Tmps}{h:Heap}{Q:QC}{fs:List Fr}
theorem Qln{g:Opd}{l:List Nat}{a body:SCode}{f b n':Nat}{first cap:List AV}{v:AV}{p:Heap}{T' T2:Tmps}{L:HL}{N2:Nat}{i:List Nat}{o c:LCode}{st:LSt}(s:Rec m T' L T h)(t:ev T' g=.fn f first cap)(r:(hp L).get b=none)(u:Nat.blt b 1099511627775=true)(q:HSpec P f (first++[.yld b 0]++cap) ((hp L).set b (.loop 0 k T' l (.s a) (.s body) .ready)) v p)(d:p.get b=some (.loop 0 N2 T2 i o c st))(hQ:leftQ (fun e B=>wX P ⟨k,m⟩ e fs n' B.T B.h Q) ⟨T',p.set b (.dead 0)⟩ st):wS P ⟨k,m⟩ (.rfunc g l k a body) fs n T h Q:=by show W2 P ⟨k,m⟩ (.rfunc g l k a body) (fun e B=>∃n,ct P ⟨k,m⟩ fs Q e B.T B.h n) ⟨T,h⟩;refine W2.recL s (W2.of_W (W.rfunc (las:=.s a) (lbody:=.s body) rfl rfl t r (by simpa[lim]using u) q d ?_));cases st with|ready=>exact⟨n',hQ⟩|busy=>exact hQ|done e=>exact⟨hQ.1,n',hQ.2⟩
theorem cy{N:NM}{b g:Nat}{args:List AV}{v:AV}{h1:Heap}{d:Option Nat}{ops:List SOper}{dead:List Nat}(a:RSpec P b g args h v h1)(hk:wR P N ops dead fs (n+1) (putD T d v) h1 Q):wCall P N .heap (.yld b g) args d ops dead fs n T h Q:=⟨_,_,a,hk⟩
theorem W2.weakE{N:NM}{c:SCode}{Q:SX->St->Prop}{T L:Tmps}{h h':Heap}(a:Sub L T)(he:∀b,h.get b=h'.get b)(hw:W2 P N c Q ⟨L,h'⟩):W2 P N c Q ⟨T,h⟩:=W2.weak a (W2.congr hw ⟨fun _=>rfl,he⟩)
def loopI(P:Program)(k m:Nat){α:Type}(env:α->Tmps)(H:α->Heap)(I:α->Prop)(μ:α->Nat)(a:α)(fs:List Fr)(Q:QC):QC:=fun e T h n=>match e with|.normal=>∃c,μ c<μ a/\I c/\Sub (env c) T/\∀b,h.get b=(H c).get b|e=>wX P ⟨k,m⟩ e fs n T h Q
section
variable{α:Type}{env:α->Tmps}{H:α->Heap}{I:α->Prop}{μ:α->Nat}{a:α}
theorem Qbd:loopI P k m env H I μ a fs Q .normal T h n=∃c,μ c<μ a/\I c/\Sub (env c) T/\∀b,h.get b=(H c).get b:=rfl
theorem Qbt{i:Nat}:loopI P k m env H I μ a fs Q (.exit i) T h n=wX P ⟨k,m⟩ (.exit i) fs n T h Q:=rfl
theorem QbB:loopI P k m env H I μ a fs Q .ret T h n=wX P ⟨k,m⟩ .ret fs n T h Q:=rfl
theorem QsN{b:SCode}(s:Nat)(env:α->Tmps)(H:α->Heap)(I:α->Prop)(μ:α->Nat)(a0:α)(p:Sub (env a0) T)(g:∀b,h.get b=(H a0).get b)(l:I a0)(round:∀a,I a->wS P ⟨k,m⟩ b [] s (env a) (H a) (loopI P k m env H I μ a fs Q)):wS P ⟨k,m⟩ (.loop b) fs n T h Q:=by show W2 P ⟨k,m⟩ (.loop b) (fun e B=>∃n,ct P ⟨k,m⟩ fs Q e B.T B.h n) ⟨T,h⟩;refine W2.loop (fun q B=>∃a,μ a=q/\I a/\Sub (env a) B.T/\∀b,B.h.get b=(H a).get b) (μ a0) ⟨a0,rfl,l,p,g⟩ ?_;rintro q B⟨a,rfl,hi,r,he⟩;refine W2.weakE r he ((Zcs (round a hi)).mono ?_);rintro e C⟨d,c⟩;cases e with|normal=>obtain⟨f,h1,t,o⟩:=c;exact⟨μ f,h1,f,rfl,t,o⟩|exit i=>exact⟨d,c⟩|ret=>exact⟨d,c⟩
end
end
theorem HSpec.of_I{f:Nat}{sf:SFn}{args:List AV}{h h':Heap}{v:AV}(m n:Nat)(a:okFn P f sf=true)(r:Nat.ble args.length sf.n=true)(hm:Fresh m h)(hw:wS P ⟨sf.n,m⟩ sf.body [] n (argT 0 args) h fun e T k _=>(e=.normal\/e=.ret)/\∃vs,resV T k sf.res=some vs/\resOf vs=v/\∀b,k.get b=h'.get b):HSpec P f args h v h':=by
 obtain⟨_,_,_,_,_,_,_,hc⟩:=Qb9 a;refine⟨hc,fun c w d H o=>(Qc7 (m:=m) (R:=fun vs k=>resOf vs=v/\∀b,k.get b=h'.get b) a (Zas r) ((Zcs hw).mono fun e B⟨_,h1,vs,i,s⟩=>⟨h1,vs,i,s⟩) H o).mono ?_⟩;rintro e t⟨q,l,vs,k,rfl,E,H',V,rfl,hk⟩;refine⟨q,l,rfl,⟨E.os,E.tape,E.output,E.size,E.shape,E.keep,fun b g p hp=>?_,E.frz,E.frzNew,E.own,E.base⟩,QbS hk H',V⟩;rcases ZbE b m with h1|h1;·exact E.rho b g p h1 hp
 rw[H.fresh b (hm b h1) g]at hp;cases hp
end Go.AM
namespace Go.AM.SO
open Go.Proofs Go.AM.SD Go.AM.SE
def ylE(c:Cel)(r:List Nat)(e:Nat):Option (Nat×Int):=if 0<=rfI c r e then some (e,rfI c r e)else none
def yls(c:Cel)(k:Nat)(r:List Nat):List (Nat×Int):=(evO (syncA (auL c.cs)) k).filterMap (ylE c r)
theorem fm_at{α β:Type}{f:α->Option β}{l:List α}{i:Nat}{x:α}{y:β}(b:l[i]?=some x)(c:f x=some y):(l.filterMap f)[((l.take i).filterMap f).length]?=some y:=by
 have hi:i<l.length:=(Zag.1 b).1;have e:l=l.take i++x::l.drop (i+1):=by have a:l[i]=x:=(Zag.1 b).2;rw[<-a,List.getElem_cons_drop,List.take_append_drop]
 have d:l.filterMap f=(l.take i).filterMap f++y::(l.drop (i+1)).filterMap f:=by
  conv=>lhs;rw[e]
  rw[List.filterMap_append,Zbw,c]
 rw[d,ZbP (ZaM _),Nat.sub_self,Zbl]
theorem QtY{α β:Type}{f:α->Option β}{l:List α}{i:Nat}{x:α}(a:l[i]?=some x):((l.take (i+1)).filterMap f).length=((l.take i).filterMap f).length+(match f x with|some _=>1|none=>0):=by rw[take_succ' a,List.filterMap_append,Zaf,Zbw];cases f x<;>rfl
theorem QtZ{c:Cel}{r:List Nat}{e:Nat}:-1<=rfI c r e/\rfI c r e<=c.rs.length:=by have:=@QdB _ (rfQ c r e) (List.range c.rs.length);unfold rfI;rw[Zb0]at this;omega
theorem refused160(c:Cel)(hw:WfCel c){k:Nat}(hk:k<(syncA (auL c.cs)).n)(r:List Nat)(L:r.length=c.rs.length)(hrn:∀(i:Nat)y,c.rs[i]?=some y->r.getD i 0<y.2.n){b m:Nat}(H:Nat->Heap)(H':Heap)(n:Nat)(hf:Fresh m (H 0))(M:n<=(yls c k r).length)(hY:∀(j:Nat)y,j<n->(yls c k r)[j]?=some y->RSpec Tryz.prog b 0 [.int .i64 (y.1:Int),.int .i64 y.2] (H j) (.bool true) (H (j+1)))(E:(n=(yls c k r).length/\H'=H n)\/∃y,(yls c k r)[n]?=some y/\RSpec Tryz.prog b 0 [.int .i64 (y.1:Int),.int .i64 y.2] (H n) (.bool false) H'):HSpec Tryz.prog 123 [.yld b 0,.fptr [.fptr (stC c)],.fptr [.int .i64 (k:Int)],.fptr [sliN r]] (H 0) (.tup []) H':=by
 refine HSpec.of_I m 1099511627000 TR.ok123 rfl hf ?_;have s:=enabled161 (syncA (auL c.cs)) k (QdC (Qa3 hw) (by rw[QaZ];have:=hw.c3;omega)).toWfA hk;have K:=fun e=>refuser162 c hw r e L hrn;have G:=fun e=>@QtZ c r e;have J:(evO (syncA (auL c.cs)) k).length<=1220:=by unfold evO;rw[Zaz];exact Zaw (ZaI ..) (QdC (Qa3 hw) (by rw[QaZ];have:=hw.c3;omega)).el
 have u:stC c=stC c:=rfl;conv at u=>rhs;rw[stC]
 have N:∃S,S=AV.fptr (stC c):=⟨_,rfl⟩;unfold yls at M hY E;rw[stC]at*;generalize evO (syncA (auL c.cs)) k=o at*;generalize syncA (auL c.cs)=p at*;generalize syncA (allA c)=q at*;generalize(sync0 (auL c.cs)).1=P at*;generalize(sync0 (allA c)).1=T at*;unfold TR.s123;refine Zc0 (Zc5 @Qaa @Qab @Qac @Qbd @Qbt @QbB) ?_;refine cp s ?_;refine Zc0 (Zc5 @Qaa @Qab @Qac @Qbd @Qbt @QbB) ?_;refine QsN 1099511627100 (fun i:Nat=>[(0,.yld b 0),(1,.fptr [.fptr (stG c p q P T)]),(3,.fptr [sliN r]),(19,sliN o),(20,.int .i64 o.length),(21,.int .i64 i)]) (fun i=>H ((o.take i).filterMap (ylE c r)).length) (fun i=>i<=o.length/\((o.take i).filterMap (ylE c r)).length<=n) (fun i=>o.length-i) 0 ?_ (fun _=>rfl) ⟨Zah _,Zah _⟩ ?_;·repeat(first|exact Sub.nil|refine Sub.cons (by first|rfl|(rw[ZaS];rfl)) ?_)
 rintro i⟨hi,hc⟩;by_cases d:i<o.length
 ·obtain⟨x,B⟩:=Qap d;have a:=QtY (f:=ylE c r) B;have t:=K x;have Q:=G x;by_cases z:0<=rfI c r x
  ·have g:ylE c r x=some (x,rfI c r x):=by unfold ylE;rw[if_pos z]
   have f:=fm_at B g;rw[g]at a;rcases ZbE ((o.take i).filterMap (ylE c r)).length n with A|I;·have l:=hY _ _ A f;dsimp only at l a;rw[<-a]at l;refine Zc0 (Zc7 d (Qaz B) @Qaa @Qab @Qac @Qbd @Qbt @QbB) ?_;refine cp t ?_;generalize rfI c r x=v at*;refine Zc0 (Zc6 z @Qaa @Qab @Qac @Qbd @Qbt @QbB) ?_;refine cy l ?_;refine Zc0 (Zc5 @Qaa @Qab @Qac @Qbd @Qbt @QbB) ?_;refine⟨i+1,by omega,⟨by omega,by omega⟩,?_,fun _=>rfl⟩;repeat(first|exact Sub.nil|refine Sub.cons (by first|rfl|(rw[ZaS];rfl)) ?_)
   have h:((o.take i).filterMap (ylE c r)).length=n:=by omega
   rcases E with⟨he,_⟩|⟨y,C,w⟩;·have :=(Zag.1 f).1;omega
   rw[h]at f⊢;rw[f]at C;cases C;dsimp only at w;refine Zc0 (Zc7 d (Qaz B) @Qaa @Qab @Qac @Qbd @Qbt @QbB) ?_;refine cp t ?_;generalize rfI c r x=v at*;refine Zc0 (Zc6 z @Qaa @Qab @Qac @Qbd @Qbt @QbB) ?_;refine cy w ?_;refine Zc0 (Zc5 @Qaa @Qab @Qac @Qbd @Qbt @QbB) ?_;exact⟨.inr trivial,_,rfl,rfl,fun _=>trivial⟩
  have g:ylE c r x=none:=by unfold ylE;rw[if_neg z]
  rw[g]at a;dsimp only at a;refine Zc0 (Zc7 d (Qaz B) @Qaa @Qab @Qac @Qbd @Qbt @QbB) ?_;refine cp t ?_;generalize rfI c r x=v at*;refine Zc0 (Zc6 z @Qaa @Qab @Qac @Qbd @Qbt @QbB) ?_;refine⟨i+1,by omega,⟨by omega,by omega⟩,?_,fun _=>by rw[a];rfl⟩;repeat(first|exact Sub.nil|refine Sub.cons (by first|rfl|(rw[ZaS];rfl)) ?_)
 have e:i=o.length:=by omega
 subst e;rw[Zar]at hc⊢;have h:n=(o.filterMap (ylE c r)).length:=by omega
 refine Zc0 (Zc6 d @Qaa @Qab @Qac @Qbd @Qbt @QbB) ?_;refine⟨.inl trivial,_,rfl,rfl,fun _=>?_⟩;rcases E with⟨_,he⟩|⟨y,C,_⟩;·rw[he,h]
 rw[ZaD (by omega)]at C;cases C
theorem clone41(l:List Nat)(a:l.length<=1000000):Pq 41 [sliN l] (sliN l):=by
 have h:=(clone56 l a).freeze (b:=83) (g:=0) (ds:=ints (nz l)) gg (by
  have:∀m:List Int,flatVs (ints m)=true:=fun m=>by induction m with|nil=>rfl|cons x m b=>simp only[ints,ZaJ,flatVs,Zaa];exact⟨rfl,b⟩
  exact this _) (by simp[ints]) rfl;have e:(ints (nz l)).take (l.length*1)=ints (nz l):=by rw[Za1 (by simp[ints])]
 rw[e]at h;exact⟨by rw[noRefs,Qae];rfl,Qae _,_,h⟩
abbrev lpA:SCode:=(.seq (.region [Zm 16 100 []] [] [99,100]) (.region [Zm 17 101 []] [] [101]))
abbrev lpB:SCode:=(.block 3 (.seq (.region [Zf 102 0 1 [],Zl 103 102 [0],Zm 104 16 [],Zi 105 5 103 104 [1,2],Zf 106 1 105 [3],Zl 107 106 [4],Zz 108 (.un .not (.t 107)) [5]] [] [102,103,104,105,106,107]) (.cond (.t 108) (.seq (.region [Zf 109 7 6 [],Zl 110 109 [0],Zl 111 7 [],Zm 112 17 [],Zm 113 16 [],Zz 114 (.build [(.int .i64 0),(.int .i64 0),(.int .i64 0),(.int .i64 0)] [(0,1,(.t 111)),(1,1,(.c (.int .i64 3))),(2,1,(.t 112)),(3,1,(.t 113))]) [2,3,4],Zz 115 (.bslice false .dyn 4 1 [(.int .i64 0),(.int .i64 0),(.int .i64 0),(.int .i64 0)] [(0,4,(.t 114))]) [5],Zz 116 (.append .dyn 4 32 (.t 110) (.t 115)) [1,6],Zf 117 7 6 (Za [] 8),Zs 1 117 116 (Za [8,7,7] 8)] [] [7,16,17,108,109,110,111,112,113,114,115,116,117]) (.exit 2)) .skip)))
def rsn(c:Cel)(i:Nat)(t:List Nat):Option (Nat×Int×Int×Int):=if(vioV (t.take c.cs.length) c.xs c.ks).2.2=true then some (i,(vioV (t.take c.cs.length) c.xs c.ks).1,(vioV (t.take c.cs.length) c.xs c.ks).2.1,-1)else((yls c (ixT (sync0 (auL c.cs)).1 (t.take c.cs.length)) (t.drop c.cs.length)).find? fun y=>!(c.ev y.1).c).map fun y=>(i,3,y.2,(y.1:Int))
def rsC(x:Nat×Int×Int×Int):List AV:=[.int .i64 (x.1:Int),.int .i64 x.2.1,.int .i64 x.2.2.1,.int .i64 x.2.2.2]
def rsnO(c:Cel)(i:Nat):List (Nat×Int×Int×Int):=(rsn c i ((sync0 (allA c)).1.getD i [])).toList
def forb(c:Cel)(n:Nat):List (Nat×Int×Int×Int):=(List.range n).flatMap (rsnO c)
theorem Qg9(c:Cel)(n:Nat):forb c (n+1)=forb c n++rsnO c n:=by unfold forb;rw[ZaO,Zaq];simp
theorem Qf8(c:Cel):∀n,(forb c n).length<=n
 |0=>by simp[forb]|n+1=>by
  have:=Qf8 c n;rw[Qg9,Zaf];have:(rsnO c n).length<=1:=by unfold rsnO;cases rsn c n _<;>simp
  omega
abbrev rss(l:List (Nat×Int×Int×Int)):AV:=.fsl (l.flatMap rsC) l.length 4
theorem Qng(l:List (Nat×Int×Int×Int)):(l.flatMap rsC).length=l.length*4:=Qa9 (k:=4) (fun _=>rfl) l
theorem Qbj(l:List (Nat×Int×Int×Int)):noRefs (l.flatMap rsC)=true:=by induction l with|nil=>rfl|cons x l a=>rw[Zay];exact SU.Qav rfl a
def spA(c:Cel)(T:List (List Nat)):List (List Nat):=T.map fun t=>t.take c.cs.length
def spB(c:Cel)(T:List (List Nat)):List (List Nat):=T.map fun t=>t.drop c.cs.length
def spP(c:Cel)(P T:List (List Nat)):List Nat:=T.map fun t=>ixT P (t.take c.cs.length)
abbrev spG(c:Cel)(q:Aut)(P T:List (List Nat)):List AV:=[sliN q.al,.int .i64 (q.n:Int),sliN q.ms,egsN q.es,tuV (spA c T),tuV (spB c T),sliN (spP c P T),rss (forb c T.length)]
def spC(c:Cel):List AV:=spG c (syncA (allA c)) (sync0 (auL c.cs)).1 (sync0 (allA c)).1
theorem Qjs(c:Cel)(q:Aut)(P T:List (List Nat)):noRefs (spG c q P T)=true:=by
 have a:noRef (rss (forb c T.length))=true:=by rw[noRef];exact Qbj _
 simp only[noRefs,Qae,Qai,Qa8,a,Zai,Zac];rfl
theorem Qnh{α:Type}{p:α->Bool}:∀{l:List α}{y:α},l.find? p=some y->∃n:Nat,l[n]?=some y/\p y=true/\∀(j:Nat)z,j<n->l[j]?=some z->p z=false|[],y,h=>by simp at h|x::l,y,h=>by rw[List.find?_cons]at h;cases hp:p x with|true=>rw[hp]at h;cases h;exact⟨0,rfl,hp,fun j z b=>absurd b (ZaC _)⟩|false=>rw[hp]at h;obtain⟨n,h1,c,d⟩:=Qnh h;refine⟨n+1,by simpa using h1,c,fun j z b a=>?_⟩;cases j with|zero=>simp at a;subst a;exact hp|succ j=>exact d j z (by omega) (by simpa using a)
theorem QeN{f:Nat->Evt}{e:Nat}(h:e<5):(evsC f).drop (e*5)=evC e (f e)++(evsC f).drop ((e+1)*5):=by
 obtain rfl|rfl|rfl|rfl|rfl:e=0\/e=1\/e=2\/e=3\/e=4:=by omega
 all_goals rfl
theorem Qni{c:Cel}(h:WfCel c){k:Nat}{r:List Nat}{y:Nat×Int}(b:y∈yls c k r):y.1<5:=by
 unfold yls at b;obtain⟨e,he,a⟩:=Zbu.1 b;unfold ylE at a;split at a;·cases a;unfold evO at he;obtain⟨x,d,rfl⟩:=Zan.1 he;have hw:=QdC (Qa3 h) (by rw[QaZ];have:=h.c3;omega);exact hw.a5 _ (hw.ev x (ZaL.1 d).1)
 cases a
theorem Qt0{c:Cel}{i:Nat}{t:List Nat}(a:(vioV (t.take c.cs.length) c.xs c.ks).2.2=true):(rsn c i t).toList=[(i,(vioV (t.take c.cs.length) c.xs c.ks).1,(vioV (t.take c.cs.length) c.xs c.ks).2.1,-1)]:=by unfold rsn;rw[if_pos a];rfl
theorem Qvc{c:Cel}{i:Nat}{t:List Nat}(a:(vioV (t.take c.cs.length) c.xs c.ks).2.2=false):(rsn c i t).toList=(((yls c (ixT (sync0 (auL c.cs)).1 (t.take c.cs.length)) (t.drop c.cs.length)).find? fun y=>!(c.ev y.1).c).map fun y=>(i,3,y.2,(y.1:Int))).toList:=by unfold rsn;rw[if_neg (by simp[a])]
theorem set3{h:Heap}{k j:Nat}{a b c:Blk}(hk:Nat.blt k 1099511627775=true):(((h.set k a).set k b).set k c).get j=(h.set k c).get j:=by
 have d:k<1099511627775:=by simpa using hk
 by_cases e:j=k;·subst e;rw[QaA d,QaA d]
 rw[QaG d e,QaG d e,QaG d e,QaG d e]
theorem set6{h:Heap}{k k1 k2 k3 j:Nat}{a b u v w d:Blk}(hk:(Nat.blt k 1099511627775&&Nat.blt k1 1099511627775&&Nat.blt k2 1099511627775&&Nat.blt k3 1099511627775)=true):((((((h.set k a).set k b).set k1 u).set k2 v).set k3 w).set k d).get j=((((h.set k1 u).set k2 v).set k3 w).set k d).get j:=by
 simp only[Zaa,ZbZ]at hk;obtain⟨⟨⟨h1,c⟩,f⟩,g⟩:=hk;by_cases e:j=k;·subst e;rw[QaA h1,QaA h1]
 rw[QaG h1 e,QaG h1 e];by_cases m:j=k3;·subst m;rw[QaA g,QaA g]
 rw[QaG g m,QaG g m];by_cases l:j=k2;·subst l;rw[QaA f,QaA f]
 rw[QaG f l,QaG f l];by_cases i:j=k1;·subst i;rw[QaA c,QaA c]
 rw[QaG c i,QaG c i,QaG h1 e,QaG h1 e]
theorem _root_.Go.AM.au27{p:Prop}(h:p:=by repeat(first|exact Zcy|(refine Zcz ?_ ?_;·(first|exact Rn.any|exact Rn.x1 rfl rfl|exact Rn.x2 rfl rfl|exact Rn.x3 rfl rfl|exact Rn.x4 rfl rfl|exact Rn.x5 rfl|exact Rn.x6 rfl|exact Rn.x7 rfl|(refine Rn.slot ?_ ?_;(first|rfl|(rw[ZaS];rfl));(first|rfl|(simp only[noRef,noRefs,Qag,Zad,Zac,Zai,Qad,Qan,Qae,Qai,QaT,Qaf,SU.Qbu,Qa8];done)))|(refine Rn.fn ?_ ?_<;>(repeat'(first|exact ZcG|refine ZcH ?_ ?_|exact Zcq rfl|exact Rn.x6 rfl|exact Rn.x2 rfl rfl|exact Rn.x5 rfl|exact Rn.x1 rfl rfl))))))):p:=h
theorem specify18(c:Cel)(h:WfCel c):Pq 17 [celV c] (.tup [.agg (spC c),.int .i64 0]):=by
 have s:=Qa4 c;have hns:noRef (.tup [.agg (spC c),.int .i64 0])=true:=by rw[noRef,noRefs,noRef,spC,Qjs];rfl
 refine Zct 64 TQ.ok17 rfl (by rw[noRefs,SU.QaM];rfl) hns ?_;have h0:=h.c0;have h3:=h.c3;have h2:=h.r2;have hO:=open70 c h;have hin:=Qfs h;have hPi:=Qfn (fun a ha=>(Qa3 h a ha).pos) fun a ha=>(Qa3 h a ha).wf.esn;have R:=QiA (Qb5 h) (by rw[QbZ];omega);have hT243:=R.2.1;clear R;have hPin:∀x∈(sync0 (auL c.cs)).1,InT (auL c.cs) x:=hPi.inT;have hpn:(syncA (auL c.cs)).n=(sync0 (auL c.cs)).1.length:=rfl;have l:=fun t(u:c.cs.length<=t.length)=>split71 c t h0 u;have X:=fun t(u:InT (auL c.cs) t)=>violated73 c h u;have S:=fun k r=>refused74 c k r;have Q:=fun{k:Nat}hk r hr hrn{b m:Nat}H H' n=>@refused160 c h k hk r hr hrn b m H H' n;have hrs:∀i t,(sync0 (allA c)).1[i]?=some t->rsnO c i=(rsn c i t).toList:=fun i t u=>by unfold rsnO;rw[Zak,u];rfl
 have hrv:=fun i t=>@Qvc c i t;have hle:=Qf8 c;have hsu:=Qg9 c;have hst:=QeX c (syncA (auL c.cs)) (syncA (allA c)) (sync0 (auL c.cs)).1 (sync0 (allA c)).1;rw[spC]at*;rw[stC]at hO l S;generalize syncA (auL c.cs)=p at*;generalize syncA (allA c)=q at*;generalize(sync0 (auL c.cs)).1=P at*;generalize(sync0 (allA c)).1=T at*;have o:=Qa8 T;have M:noRef (.fptr (stG c p q P T))=true:=by rw[noRef];exact hst
 have hnc:=SU.QaM c;unfold TQ.s17;refine ZcV ?_;refine cp hO ?_;refine ZcV ?_;refine Qaq 200 (fun i:Nat=>[(1,.ptr 51 0 0),(2,.ptr 53 0 0),(4,.fptr (stG c p q P T)),(6,.ptr 52 0 0),(35,tuV T),(36,.int .i64 T.length),(37,.int .i64 i)]) (fun i=>[(51,.cells 0 [evsV c.ev,its 99 c.cs,its 114 c.rs,exs c.xs,cos c.ks]),(52,.cells 0 [sliN q.al,.int .i64 (q.n:Int),sliN q.ms,egsN q.es,.sl 60 0 0 i 1,.sl 61 0 0 i 1,.sl 62 0 0 i 1,.sl 63 0 0 (forb c i).length 4]),(53,.cells 0 [.nilsl,.int .i64 0,.nilsl,.nilsl,.nilsl,.nilsl,.nilsl,.nilsl]),(60,.cells 0 ((spA c (T.take i)).map sliN)),(61,.cells 0 ((spB c (T.take i)).map sliN)),(62,.cells 0 (ints (nz (spP c P (T.take i))))),(63,.cells 0 ((forb c i).flatMap rsC))]) (fun i=>i<=T.length) (fun i=>T.length-i) 0 0 400 (fun _:Unit=>[(2,.ptr 53 0 0),(6,.ptr 52 0 0)]) (fun _=>[(52,.cells 0 (spG c q P T)),(53,.cells 0 [.nilsl,.int .i64 0,.nilsl,.nilsl,.nilsl,.nilsl,.nilsl,.nilsl])]) (fun _=>True) ?_ (Zah _) ?_ ?_;·refine⟨[(51,.blk 64 0),(52,.blk 81 0),(53,.blk 65 0),(60,.nil),(61,.nil),(62,.nil),(63,.nil)],rfl,Zcx,?_,Zcz (Rn.x2 rfl rfl) (Zcz (Rn.x2 rfl rfl) (Zcz (Zcq M) (Zcz (Rn.x2 rfl rfl) (Zcz (Zcq o) au27))))⟩;exact ZcB rfl rfl gg (Zcr s) (ZcB rfl rfl gg (ZcH (Zcq (Qae _)) (ZcH (Zcq rfl) (ZcH (Zcq (Qae _)) (ZcH (Zcq (Qai _)) (ZcH (Rn.x4 rfl rfl) (ZcH (Rn.x4 rfl rfl) (ZcH (Rn.x4 rfl rfl) (ZcH (Rn.x4 rfl rfl) ZcG)))))))) (ZcB rfl rfl gg (Zcr rfl) (ZcC rfl rfl (ZcC rfl rfl (ZcC rfl rfl (ZcC rfl rfl ZcA))))))
 ·rintro i hi;by_cases V:i<T.length
  ·obtain⟨t,u⟩:=Qap V;obtain⟨hit,hpt⟩:=hin t (Zae u);have htl:c.cs.length<=t.length:=by rw[hit.1,QbZ];omega
   have J:=Qnf (A:=auL c.cs) (B:=auL c.rs) hit;have L:=QiB (A:=auL c.cs) (B:=auL c.rs) hit;rw[QaZ]at J L;have hl1:(t.take c.cs.length).length<=3:=by rw[Zav];omega
   have hl2:(t.drop c.cs.length).length<=2:=by rw[L.1,QaZ];omega
   have hsp:=l t htl;have hky:=key72 h J;have hv:=X _ J;have hcl1:=clone41 (t.take c.cs.length) (by omega);have hcl2:=clone41 (t.drop c.cs.length) (by omega);have hk:=Qg5 hpt;have Y:(spA c (T.take (i+1))).map sliN=(spA c (T.take i)).map sliN++[sliN (t.take c.cs.length)]:=by unfold spA;rw[take_succ' u];simp
   have hib:(spB c (T.take (i+1))).map sliN=(spB c (T.take i)).map sliN++[sliN (t.drop c.cs.length)]:=by unfold spB;rw[take_succ' u];simp
   have Z:spP c P (T.take (i+1))=spP c P (T.take i)++[ixT P (t.take c.cs.length)]:=by unfold spP;rw[take_succ' u];simp
   have hla:((spA c (T.take i)).map sliN).length=i:=by unfold spA;simp;omega
   have hlb:((spB c (T.take i)).map sliN).length=i:=by unfold spB;simp;omega
   have hlp:(ints (nz (spP c P (T.take i)))).length=i:=by unfold spP;simp[ints];omega
   have I:=Qng (forb c i);have hlf2:=hle i;have B:=hrs i t u;have hsi:=hsu i;have N:=hrv i t;have G:=@Qt0 c i t;have hk:ixT P (t.take c.cs.length)<p.n:=by rw[hpn];exact hk
   have hr2:(t.drop c.cs.length).length=c.rs.length:=by rw[L.1,QaZ]
   have U:∀(j:Nat)y,c.rs[j]?=some y->(t.drop c.cs.length).getD j 0<y.2.n:=fun j y hy=>L.2 j y.2 (by rw[ZaB,hy];rfl);have hfa:∀z,(forb c i++[z]).flatMap rsC=(forb c i).flatMap rsC++rsC z:=fun z=>by simp
   have A:noRefs [sliN (t.take c.cs.length)]=true:=by rw[noRefs,Qae];rfl
   have C:noRefs [sliN (t.drop c.cs.length)]=true:=by rw[noRefs,Qae];rfl
   generalize spA c (T.take i)=LA at*;generalize spB c (T.take i)=LB at*;generalize spP c P (T.take i)=LP at*;generalize t.take c.cs.length=t1 at*;generalize t.drop c.cs.length=t2 at*;generalize vioV t1 c.xs c.ks=v at*;obtain⟨v1,v2,v3⟩:=v;dsimp only at N G hv;have hrf:=S (ixT P t1) t2;refine ZcW (Zc1 V (Qfr u)) ?_;refine cp hsp ?_;refine ZcV ?_;refine cp hky ?_;refine ZcV ?_;refine Qda (c:=keyC) (f:=ixV P) (x:=t1) (l:=P) (Qg7 (fun a ha=>(Qa3 h a ha).j) J hPin) hpt ?_;simp(disch:=first|omega|exact PairsOK.mk rfl|(simp only[lenW]<;>omega))only[ixV,Qaa,Qab,Qac,wW,wV,simprocAttr];refine Qbr [(56,[60]),(62,[61]),(68,[62])] rfl rfl ?_;refine ZcV ?_;refine cp hcl1 ?_;refine ZcV ?_;refine cp hcl2 ?_;refine ZcW (Zc2 hla hlb hlp) ?_;refine⟨⟨⟨_,rfl,fun b hb=>hb⟩,⟨_,rfl,fun b hb=>hb⟩,⟨_,rfl,fun b hb=>hb⟩,trivial⟩,?_⟩;refine cp hv ?_;cases v3 with|true=>have d:=G rfl;refine ZcW I ?_;refine⟨i+1,by omega,by omega,?_⟩;rw[Y,hib,Z,hsi,B,d,hfa,Zaf,QaF,Qay];refine⟨[(51,.blk 51 0),(52,.blk 52 0),(53,.blk 53 0),(60,.blk 60 1),(61,.blk 61 1),(62,.blk 62 1),(63,.blk 63 1)],rfl,Zcx,?_,Zcz (Rn.x2 rfl rfl) (Zcz (Rn.x2 rfl rfl) (Zcz (Zcq M) (Zcz (Rn.x2 rfl rfl) (Zcz (Zcq o) au27))))⟩;exact ZcB rfl rfl gg (Zcr s) (ZcB rfl rfl gg (ZcH (Zcq (Qae _)) (ZcH (Zcq rfl) (ZcH (Zcq (Qae _)) (ZcH (Zcq (Qai _)) (ZcH (Rn.x1 rfl rfl) (ZcH (Rn.x1 rfl rfl) (ZcH (Rn.x1 rfl rfl) (ZcH (Rn.x1 rfl rfl) ZcG)))))))) (ZcB rfl rfl gg (Zcr rfl) (ZcB rfl rfl gg (Zcr (SU.Qav (Qaw Qae _) A)) (ZcB rfl rfl gg (Zcr (SU.Qav (Qaw Qae _) C)) (ZcB rfl rfl gg (Zcr (SU.Qav (Qad _) rfl)) (ZcB rfl rfl gg (Zcr (SU.Qav (Qbj _) rfl)) ZcA))))))|false=>
    have d:=N rfl;refine ZcV ?_;refine cp hrf ?_;refine ZcV ?_;have E:∀{x1 x2 x3 x4 x5 x6 x7 x8:Blk},(hp [(51,x1),(52,x2),(53,x3),(54,x4),(60,x5),(61,x6),(62,x7),(63,x8)]).get 150=none:=fun{x1 x2 x3 x4 x5 x6 x7 x8}=>by simp(disch:=omega)only[QaS,Qmv,QaG,get_e]
    cases K:(yls c (ixT P t1) t2).find? fun y=>!(c.ev y.1).c with|none=>
     rw[K]at d;replace d:(rsn c i t).toList=[]:=d;refine Qln (n':=700) (b:=150) (T':=[(1,.ptr 51 0 0),(2,.ptr 53 0 0),(4,.fptr (stG c p q P T)),(6,.ptr 52 0 0),(7,.ptr 54 0 0),(35,tuV T),(36,.int .i64 T.length),(37,.int .i64 i),(99,rfF c (ixT P t1) t2)]) (L:=[(51,.cells 0 [evsV c.ev,its 99 c.cs,its 114 c.rs,exs c.xs,cos c.ks]),(52,.cells 0 [sliN q.al,.int .i64 (q.n:Int),sliN q.ms,egsN q.es,.sl 60 0 0 (i+1) 1,.sl 61 0 0 (i+1) 1,.sl 62 0 0 (i+1) 1,.sl 63 0 0 (forb c i).length 4]),(53,.cells 0 [.nilsl,.int .i64 0,.nilsl,.nilsl,.nilsl,.nilsl,.nilsl,.nilsl]),(54,.cells 0 [.int .i64 (i:Int)]),(60,.cells 0 (LA.map sliN++[sliN t1])),(61,.cells 0 (LB.map sliN++[sliN t2])),(62,.cells 0 (ints (nz LP)++[.int .i64 (ixT P t1:Int)])),(63,.cells 0 ((forb c i).flatMap rsC))]) ?_ rfl E rfl (Q (m:=1000) hk t2 hr2 U (fun _=>_) _ (yls c (ixT P t1) t2).length ?_ (ZaM _) ?_ (.inl ⟨rfl,rfl⟩)) gg ?_;·refine⟨[(51,.blk 51 0),(52,.blk 52 0),(53,.blk 53 0),(54,.blk 204 0),(60,.blk 60 1),(61,.blk 61 1),(62,.blk 62 1),(63,.blk 63 0)],rfl,Zcx,?_,Zcz (Rn.x2 rfl rfl) (Zcz (Rn.x2 rfl rfl) (Zcz (Zcq M) (Zcz (Rn.x2 rfl rfl) (Zcz (Rn.x2 rfl rfl) (Zcz (Zcq o) (Zcz (Zcq rfl) (Zcz (Zcq rfl) (Zcz (Zcq (Qg8 _ _ _)) Zcy))))))))⟩;exact ZcB rfl rfl gg (Zcr s) (ZcB rfl rfl gg (ZcH (Zcq (Qae _)) (ZcH (Zcq rfl) (ZcH (Zcq (Qae _)) (ZcH (Zcq (Qai _)) (ZcH (Rn.x1 rfl rfl) (ZcH (Rn.x1 rfl rfl) (ZcH (Rn.x1 rfl rfl) (ZcH (Rn.x1 rfl rfl) ZcG)))))))) (ZcB rfl rfl gg (Zcr rfl) (ZcB rfl rfl gg (Zcr rfl) (ZcB rfl rfl gg (Zcr (SU.Qav (Qaw Qae _) A)) (ZcB rfl rfl gg (Zcr (SU.Qav (Qaw Qae _) C)) (ZcB rfl rfl gg (Zcr (SU.Qav (Qad _) rfl)) (ZcB rfl rfl gg (Zcr (Qbj _)) ZcA)))))))
     ·exact(by repeat(first|exact Fresh.e|exact Fresh.le (by assumption) (by omega)|refine Fresh.set ?_ (by omega) (by omega)))
     ·intro j y hj hy;have g:=Qni h (Zae hy);have f:(c.ev y.1).c=true:=by simpa using Za6.1 K y (Zae hy)
      refine RSpec.of_wS (n:=300) rfl gg rfl rfl rfl ?_;simp(disch:=first|omega|exact PairsOK.mk rfl|(simp only[lenW]<;>omega))only[upsT,f,g,Qfm,QeN,evC,Qaa,Qab,Qac,wW,wV,simprocAttr];exact⟨rfl,fun x=>set3 rfl⟩
     unfold leftQ;refine ZcV ?_;refine⟨i+1,by omega,by omega,?_⟩;rw[Y,hib,Z,hsi,B,d,Zap,QaF,Qay];refine⟨[(51,.blk 51 0),(52,.blk 52 0),(53,.blk 53 0),(60,.blk 60 0),(61,.blk 61 0),(62,.blk 62 0),(63,.blk 63 0)],rfl,Zcx,?_,Zcz (Rn.x2 rfl rfl) (Zcz (Rn.x2 rfl rfl) (Zcz (Zcq M) (Zcz (Rn.x2 rfl rfl) (Zcz (Zcq o) au27))))⟩;exact ZcB rfl rfl gg (Zcr s) (ZcB rfl rfl gg (ZcH (Zcq (Qae _)) (ZcH (Zcq rfl) (ZcH (Zcq (Qae _)) (ZcH (Zcq (Qai _)) (ZcH (Rn.x1 rfl rfl) (ZcH (Rn.x1 rfl rfl) (ZcH (Rn.x1 rfl rfl) (ZcH (Rn.x1 rfl rfl) ZcG)))))))) (ZcB rfl rfl gg (Zcr rfl) (ZcB rfl rfl gg (Zcr (SU.Qav (Qaw Qae _) A)) (ZcB rfl rfl gg (Zcr (SU.Qav (Qaw Qae _) C)) (ZcB rfl rfl gg (Zcr (SU.Qav (Qad _) rfl)) (ZcB rfl rfl gg (Zcr (Qbj _)) ZcA))))))|some y=>
     rw[K]at d;replace d:(rsn c i t).toList=[(i,3,y.2,(y.1:Int))]:=d;obtain⟨n,w,hn2',hn3'⟩:=Qnh K;have hlen:n<(yls c (ixT P t1) t2).length:=(Zag.1 w).1;have g:=Qni h (Zae w);have f:(c.ev y.1).c=false:=by simpa using hn2'
     refine Qln (n':=700) (b:=150) (T':=[(1,.ptr 51 0 0),(2,.ptr 53 0 0),(4,.fptr (stG c p q P T)),(6,.ptr 52 0 0),(7,.ptr 54 0 0),(35,tuV T),(36,.int .i64 T.length),(37,.int .i64 i),(99,rfF c (ixT P t1) t2)]) (L:=[(51,.cells 0 [evsV c.ev,its 99 c.cs,its 114 c.rs,exs c.xs,cos c.ks]),(52,.cells 0 [sliN q.al,.int .i64 (q.n:Int),sliN q.ms,egsN q.es,.sl 60 0 0 (i+1) 1,.sl 61 0 0 (i+1) 1,.sl 62 0 0 (i+1) 1,.sl 63 0 0 (forb c i).length 4]),(53,.cells 0 [.nilsl,.int .i64 0,.nilsl,.nilsl,.nilsl,.nilsl,.nilsl,.nilsl]),(54,.cells 0 [.int .i64 (i:Int)]),(60,.cells 0 (LA.map sliN++[sliN t1])),(61,.cells 0 (LB.map sliN++[sliN t2])),(62,.cells 0 (ints (nz LP)++[.int .i64 (ixT P t1:Int)])),(63,.cells 0 ((forb c i).flatMap rsC))]) (st:=.done (.exit 2)) ?hrec rfl E rfl (Q (m:=1000) hk t2 hr2 U (fun _=>_) (((((hp [(51,.cells 0 [evsV c.ev,its 99 c.cs,its 114 c.rs,exs c.xs,cos c.ks]),(52,.cells 0 [sliN q.al,.int .i64 (q.n:Int),sliN q.ms,egsN q.es,.sl 60 0 0 (i+1) 1,.sl 61 0 0 (i+1) 1,.sl 62 0 0 (i+1) 1,.sl 63 0 0 (forb c i).length 4]),(53,.cells 0 [.nilsl,.int .i64 0,.nilsl,.nilsl,.nilsl,.nilsl,.nilsl,.nilsl]),(54,.cells 0 [.int .i64 (i:Int)]),(60,.cells 0 (LA.map sliN++[sliN t1])),(61,.cells 0 (LB.map sliN++[sliN t2])),(62,.cells 0 (ints (nz LP)++[.int .i64 (ixT P t1:Int)])),(63,.cells 0 ((forb c i).flatMap rsC))]).set 315 (.cells 0 (rsC (i,3,y.2,(y.1:Int))))).set 63 (.cells 1 ((forb c i).flatMap rsC++rsC (i,3,y.2,(y.1:Int))))).set 52 (.cells 0 [sliN q.al,.int .i64 (q.n:Int),sliN q.ms,egsN q.es,.sl 60 0 0 (i+1) 1,.sl 61 0 0 (i+1) 1,.sl 62 0 0 (i+1) 1,.sl 63 1 0 ((forb c i).length+1) 4])).set 150 (.loop 0 120 [(1,.ptr 51 0 0),(2,.ptr 53 0 0),(4,.fptr (stG c p q P T)),(6,.ptr 52 0 0),(7,.ptr 54 0 0),(35,tuV T),(36,.int .i64 T.length),(37,.int .i64 i),(99,rfF c (ixT P t1) t2)] [100,101] (.s lpA) (.s lpB) (.done (.exit 2)))) n ?hfr (Nat.le_of_lt hlen) ?hY (.inr ⟨y,w,?M⟩)) gg ?hQ;case hrec=>refine⟨[(51,.blk 51 0),(52,.blk 52 0),(53,.blk 53 0),(54,.blk 204 0),(60,.blk 60 1),(61,.blk 61 1),(62,.blk 62 1),(63,.blk 63 0)],rfl,Zcx,?_,Zcz (Rn.x2 rfl rfl) (Zcz (Rn.x2 rfl rfl) (Zcz (Zcq M) (Zcz (Rn.x2 rfl rfl) (Zcz (Rn.x2 rfl rfl) (Zcz (Zcq o) (Zcz (Zcq rfl) (Zcz (Zcq rfl) (Zcz (Zcq (Qg8 _ _ _)) Zcy))))))))⟩;exact ZcB rfl rfl gg (Zcr s) (ZcB rfl rfl gg (ZcH (Zcq (Qae _)) (ZcH (Zcq rfl) (ZcH (Zcq (Qae _)) (ZcH (Zcq (Qai _)) (ZcH (Rn.x1 rfl rfl) (ZcH (Rn.x1 rfl rfl) (ZcH (Rn.x1 rfl rfl) (ZcH (Rn.x1 rfl rfl) ZcG)))))))) (ZcB rfl rfl gg (Zcr rfl) (ZcB rfl rfl gg (Zcr rfl) (ZcB rfl rfl gg (Zcr (SU.Qav (Qaw Qae _) A)) (ZcB rfl rfl gg (Zcr (SU.Qav (Qaw Qae _) C)) (ZcB rfl rfl gg (Zcr (SU.Qav (Qad _) rfl)) (ZcB rfl rfl gg (Zcr (Qbj _)) ZcA)))))))
     case hfr=>exact(by repeat(first|exact Fresh.e|exact Fresh.le (by assumption) (by omega)|refine Fresh.set ?_ (by omega) (by omega)))
     case hY=>
      intro j z hj hz;have g:=Qni h (Zae hz);have f:(c.ev z.1).c=true:=by simpa using hn3' j z hj hz
      refine RSpec.of_wS (n:=300) rfl gg rfl rfl rfl ?_;simp(disch:=first|omega|exact PairsOK.mk rfl|(simp only[lenW]<;>omega))only[upsT,f,g,Qfm,QeN,evC,Qaa,Qab,Qac,wW,wV,simprocAttr];exact⟨rfl,fun x=>set3 rfl⟩
     case M=>refine RSpec.of_wS (n:=300) rfl gg rfl rfl rfl ?_;simp(disch:=first|omega|exact PairsOK.mk rfl|(simp only[lenW]<;>omega))only[upsT,f,g,Qfm,QeN,evC,I,Qaa,Qab,Qac,wW,wV,simprocAttr];exact⟨rfl,fun x=>set6 rfl⟩
     case hQ=>unfold leftQ;refine⟨rfl,?_⟩;refine ZcV ?_;refine⟨i+1,by omega,by omega,?_⟩;rw[Y,hib,Z,hsi,B,d,hfa,Zaf,QaF,Qay];refine⟨[(51,.blk 51 0),(52,.blk 52 0),(53,.blk 53 0),(60,.blk 60 0),(61,.blk 61 0),(62,.blk 62 0),(63,.blk 63 1)],rfl,Zcx,?_,Zcz (Rn.x2 rfl rfl) (Zcz (Rn.x2 rfl rfl) (Zcz (Zcq M) (Zcz (Rn.x2 rfl rfl) (Zcz (Zcq o) au27))))⟩;exact ZcB rfl rfl gg (Zcr s) (ZcB rfl rfl gg (ZcH (Zcq (Qae _)) (ZcH (Zcq rfl) (ZcH (Zcq (Qae _)) (ZcH (Zcq (Qai _)) (ZcH (Rn.x1 rfl rfl) (ZcH (Rn.x1 rfl rfl) (ZcH (Rn.x1 rfl rfl) (ZcH (Rn.x1 rfl rfl) ZcG)))))))) (ZcB rfl rfl gg (Zcr rfl) (ZcB rfl rfl gg (Zcr (SU.Qav (Qaw Qae _) A)) (ZcB rfl rfl gg (Zcr (SU.Qav (Qaw Qae _) C)) (ZcB rfl rfl gg (Zcr (SU.Qav (Qad _) rfl)) (ZcB rfl rfl gg (Zcr (SU.Qav (Qbj _) rfl)) ZcA))))))
  have e:i=T.length:=by omega
  subst e;have hla:((spA c T).map sliN).length=T.length:=by unfold spA;simp
  have hlb:((spB c T).map sliN).length=T.length:=by unfold spB;simp
  have hlp:(ints (nz (spP c P T))).length=T.length:=by unfold spP;simp[ints]
  have I:=Qng (forb c T.length);refine ZcY V ?_;refine⟨(),[(52,.blk 52 0),(53,.blk 53 0)],rfl,Zcx,?_,Zcz (Rn.x2 rfl rfl) (Zcz (Rn.x2 rfl rfl) Zcy)⟩;exact ZcB rfl rfl gg (ZcH (Zcq (Qae _)) (ZcH (Zcq rfl) (ZcH (Zcq (Qae _)) (ZcH (Zcq (Qai _)) (ZcH (ZcI (b:=60) (g:=0) gg rfl rfl (by simp[spA]) (by simpa using hla) (Zcr (Qaw Qae _))) (ZcH (ZcI (b:=61) (g:=0) gg rfl rfl (by simp[spB]) (by simpa using hlb) (Zcr (Qaw Qae _))) (ZcH (ZcI (b:=62) (g:=0) gg rfl rfl (by simp[spP]) (by simpa using hlp) (Zcr (Qad _))) (ZcH (ZcI (b:=63) (g:=0) gg rfl rfl rfl I (Zcr (Qbj _))) ZcG)))))))) (ZcB rfl rfl gg (Zcr rfl) ZcA)
 rintro _ _;refine ZcV ?_;exact⟨.inr trivial,_,rfl,Zcq hns⟩
end Go.AM.SO
namespace Go.AM.TY
open Go.Proofs
set_option maxHeartbeats 4000000
noncomputable section
def cf:YA.Cf:={most:=.pure}
def s89:SFn:=by
 refine(?f:YA.Yt Tryz.prog cf 89 [[0,4],[12,13,11,14,15],[16],[1,5,6,17,18,19,20],[4,6,17],[21],[],[25,26,27],[9,28,29,30,31,32],[33],[1,22,23,24,35,36,37,34,38,39],[40],[5,7,10,6,41,42,43,44],[5,7,10,6,41,45,46,47,48,49,50]]) ?s ?h;case h=>exact YA.rr
 exact fun s _=>s
theorem ok89:Kq 89 s89=true:=by kernel_rfl
end
end Go.AM.TY
namespace Go.AM.SO
open Go.Proofs Go.AM.SD Go.AM.SE
def fbs(l:List (Nat×Int×Int×Int)):List Nat:=l.map (·.1)
abbrev fbd(c:Cel):List Nat:=fbs (forb c (sync0 (allA c)).1.length)
theorem Qnj{c:Cel}{i:Nat}{x:Nat×Int×Int×Int}(h:x∈rsnO c i):x.1=i:=by
 unfold rsnO rsn at h;split at h;·simp at h;rw[h]
 simp at h;obtain⟨a,b,_,rfl⟩:=h;rfl
theorem Qjt(c:Cel):∀n,(fbs (forb c n)).Pairwise (·<·)/\∀x∈fbs (forb c n),x<n
 |0=>by simp[forb,fbs]|n+1=>by
  obtain⟨h1,d⟩:=Qjt c n;rw[Qg9];unfold fbs at h1 d⊢;rw[ZaK];have hm:∀x∈(rsnO c n).map (·.1),x=n:=fun x a=>by obtain⟨y,b,rfl⟩:=Zan.1 a;exact Qnj b
  have f:((rsnO c n).map (·.1)).Pairwise (·<·):=by unfold rsnO;cases rsn c n _<;>simp
  refine⟨Zbh.2 ⟨h1,f,fun x a y b=>?_⟩,fun x a=>?_⟩;·rw[hm y b];exact d x a
  rcases ZaE.1 a with a|a;·have:=d x a;omega
  rw[hm x a];omega
theorem Qj1(e:Nat->Evt):(uncL e 5).Pairwise (·<·)/\∀x∈uncL e 5,x<32:=by refine⟨List.pairwise_lt_range.filter _,fun x a=>?_⟩;have:=Zat.1 (ZaL.1 a).1;omega
theorem qok_c(c:Cel):QOk (syncA (allA c)) (fbd c) (uncL c.ev 5):=⟨(Qjt c _).1,(Qjt c _).2,(Qj1 _).1,(Qj1 _).2⟩
theorem wfA_c(c:Cel)(h:WfCel c):WfA (syncA (allA c)):=(QdC (Qb5 h) (by rw[QbZ];have:=h.c3;have:=h.r2;omega)).toWfA
def resC(c:Cel):Res:=pRes (syncA (allA c)) (fbd c) (uncL c.ev 5) true
theorem Qf9{l:List (Nat×Int×Int×Int)}{i:Nat}{x:Nat×Int×Int×Int}(h:l[i]?=some x):(l.flatMap rsC).drop (i*4)=.int .i64 (x.1:Int)::.int .i64 x.2.1::.int .i64 x.2.2.1::.int .i64 x.2.2.2::(l.drop (i+1)).flatMap rsC:=Qa7 (f:=rsC) (k:=4) (fun _=>rfl) h
theorem QsO{l:List (Nat×Int×Int×Int)}{i:Nat}{x:Nat×Int×Int×Int}(h:l[i]?=some x):fbs (l.take (i+1))=fbs (l.take i)++[x.1]:=by unfold fbs;rw[take_succ' h,ZaK];rfl
theorem Qt1{l:List (Nat×Int×Int×Int)}{i:Nat}(h:i<=l.length):(fbs (l.take i)).length=i:=by unfold fbs;rw[Zaz,Zav];omega
abbrev ni9:List AV:=[.nilsl,.nilsl,.nilsl,.int .i64 0,.nilsl,.int .i64 0,.nilsl,.nilsl,.nilsl]
abbrev ni8:List AV:=[.nilsl,.int .i64 0,.nilsl,.nilsl,.nilsl,.nilsl,.nilsl,.nilsl]
theorem _root_.Go.AM.au28{p:Prop}(h:p:=by repeat(first|exact Zcy|(refine Zcz ?_ ?_;·(first|exact Rn.any|exact Rn.x1 rfl rfl|exact Rn.x2 rfl rfl|exact Rn.x3 rfl rfl|exact Rn.x4 rfl rfl|exact Rn.x5 rfl|exact Rn.x6 rfl|exact Rn.x7 rfl|(refine Rn.slot ?_ ?_;(first|rfl|(rw[ZaS];rfl));(first|rfl|(simp only[noRef,noRefs,Qag,Zad,Zac,Zai,Qad,Qan,Qae,Qai,QaT,Qaf,QdZ,Qbj];done)))|(refine Rn.fn ?_ ?_<;>(repeat'(first|exact ZcG|refine ZcH ?_ ?_|exact Zcq rfl|exact Rn.x6 rfl|exact Rn.x2 rfl rfl|exact Rn.x5 rfl|exact Rn.x1 rfl rfl))))))):p:=h
theorem cell22(c:Cel)(h:WfCel c):Pq 89 [celV c] (.tup [.agg (spC c),SE.rsV (resC c),.int .i64 0]):=by
 have d:=Qa4 c;have a:noRefs (spC c)=true:=Qjs _ _ _ _;refine Zct 64 TY.ok89 rfl (by rw[noRefs,SU.QaM];rfl) (by rw[noRef,noRefs,noRef,a,noRefs,QdV];rfl) ?_;have hO:=specify18 c h;have o:=select86 c.ev h.ev;have hw:=wfA_c c h;have t:=WfA.el1 hw;have p:=result39 (syncA (allA c)) (fbd c) (uncL c.ev 5) true hw (qok_c c) (by omega);have k:=QdV (pRes (syncA (allA c)) (fbd c) (uncL c.ev 5) true);have hle:=Qf8 c (sync0 (allA c)).1.length;have v:(sync0 (allA c)).1.length<=4096:=hw.n5;have r:(syncA (allA c)).n=(sync0 (allA c)).1.length:=rfl;unfold resC;rw[spC,spG]at hO a⊢;unfold fbd at*;generalize forb c (sync0 (allA c)).1.length=L at*;generalize pRes (syncA (allA c)) (fbs L) (uncL c.ev 5) true=R at*;generalize syncA (allA c)=q at*;generalize(sync0 (auL c.cs)).1=P at*;generalize(sync0 (allA c)).1=T at*;have s:(spA c T).length=T.length:=by simp[spA]
 have u:(spB c T).length=T.length:=by simp[spB]
 unfold TY.s89;refine ZcV ?_;refine cp hO ?_;refine ZcV ?_;refine Qaq 140 (fun i:Nat=>[(1,.ptr 51 0 0),(2,.ptr 53 0 0),(3,.ptr 54 0 0),(5,.ptr 52 0 0),(7,.sl 76 0 0 i 1),(22,rss L),(23,.int .i64 L.length),(24,.int .i64 i)]) (fun i=>[(51,.cells 0 [evsV c.ev,its 99 c.cs,its 114 c.rs,exs c.xs,cos c.ks]),(52,.cells 0 [sliN q.al,.int .i64 (q.n:Int),sliN q.ms,egsN q.es,tuV (spA c T),tuV (spB c T),sliN (spP c P T),rss L]),(53,.cells 0 ni8),(54,.cells 0 ni9),(76,.cells 0 (ints (nz (fbs (L.take i)))))]) (fun i=>i<=L.length) (fun i=>L.length-i) 0 0 200 (fun _:Unit=>[(1,.ptr 51 0 0),(2,.ptr 53 0 0),(3,.ptr 54 0 0),(5,.ptr 52 0 0),(7,sliN (fbs L))]) (fun _=>[(51,.cells 0 [evsV c.ev,its 99 c.cs,its 114 c.rs,exs c.xs,cos c.ks]),(52,.cells 0 [sliN q.al,.int .i64 (q.n:Int),sliN q.ms,egsN q.es,tuV (spA c T),tuV (spB c T),sliN (spP c P T),rss L]),(53,.cells 0 ni8),(54,.cells 0 ni9)]) (fun _=>True) ?_ (Zah _) ?_ ?_;·refine⟨[(51,.blk 64 0),(52,.blk 73 0),(53,.blk 65 0),(54,.blk 66 0),(76,.nil)],rfl,au0,?_,au28⟩;exact ZcB rfl rfl gg (Zcr d) (ZcB rfl rfl gg (Zcr a) (ZcB rfl rfl gg (Zcr rfl) (ZcB rfl rfl gg (Zcr rfl) (ZcC rfl rfl ZcA))))
 ·rintro i hi;by_cases b:i<L.length
  ·obtain⟨x,m⟩:=Qap b;have f:=Qf9 m;have g:4<=((L.flatMap rsC).drop (i*4)).length:=by rw[f];simp
   have l:(ints (nz (fbs (L.take i)))).length=i:=by simp[ints,Qt1 (show i<=L.length by omega)]
   refine ZcW (Zc3 b f g l) ?_;refine⟨i+1,by omega,by omega,?_⟩;rw[QsO m,QaF,Qay];refine⟨[(51,.blk 51 0),(52,.blk 52 0),(53,.blk 53 0),(54,.blk 54 0),(76,.blk 76 1)],rfl,au0,?_,au28⟩;exact ZcB rfl rfl gg (Zcr d) (ZcB rfl rfl gg (Zcr a) (ZcB rfl rfl gg (Zcr rfl) (ZcB rfl rfl gg (Zcr rfl) (ZcB rfl rfl gg (Zcr (SU.Qav (Qad _) rfl)) ZcA))))
  have e:i=L.length:=by omega
  subst e;refine ZcY b ?_;refine⟨(),?_⟩;exact⟨[(51,.blk 51 0),(52,.blk 52 0),(53,.blk 53 0),(54,.blk 54 0)],rfl,Zcx,ZcB rfl rfl gg (Zcr d) (ZcB rfl rfl gg (Zcr a) (ZcB rfl rfl gg (Zcr rfl) (ZcB rfl rfl gg (Zcr rfl) ZcA))),Zcz (Rn.x2 rfl rfl) (Zcz (Rn.x2 rfl rfl) (Zcz (Rn.x2 rfl rfl) (Zcz (Rn.x2 rfl rfl) (Zcz (ZcI (b:=76) (g:=0) gg rfl rfl (by simp[fbs]) (by simp[ints,fbs]) (Zcr (Qad _))) Zcy))))⟩
 rintro _ _;refine ZcV ?_;refine cp o ?_;refine ZcV ?_;refine cp p ?_;refine ZcV ?_;refine⟨.inr trivial,_,rfl,Zcq ?_⟩;rw[noRef,noRefs,noRef,a,noRefs,k];rfl
def kI(s:Nat):AV:=.int .i64 (s:Int)
def rmF(R:List Rm)(s:Nat):AV:=.agg (rmC ((remAt R s).getD ⟨0,0,0,0⟩))
theorem Qck{x:Nat}{l:List Nat}:KeyG false [.i] kI x l:=⟨by simp[keyOK,kI,keyEq,eqCells,eqCell],fun y _=>QgL⟩
def remM(R:List Rm):AV:=fmapG kI (rmF R) (R.map (·.st))
abbrev stdP(c:Cel)(p q:Aut)(A B X F:AV)(r:Res):List AV:=[evsV c.ev,its 99 c.cs,its 114 c.rs,exs c.xs,cos c.ks,sliN p.al,.int .i64 (p.n:Int),sliN p.ms,egsN p.es,sliN q.al,.int .i64 (q.n:Int),sliN q.ms,egsN q.es,A,B,X,F,sliN r.kept,sli r.dist,rms r.rem,.int .i64 (r.rounds:Int),sliN r.sup.al,.int .i64 (r.sup.n:Int),sliN r.sup.ms,egsN r.sup.es,sliN r.orig]
abbrev stdX(c:Cel)(p q:Aut)(A B X F:AV)(r:Res)(m u:AV):List AV:=[evsV c.ev,its 99 c.cs,its 114 c.rs,exs c.xs,cos c.ks,sliN p.al,.int .i64 (p.n:Int),sliN p.ms,egsN p.es,sliN q.al,.int .i64 (q.n:Int),sliN q.ms,egsN q.es,A,B,X,F,sliN r.kept,sli r.dist,rms r.rem,.int .i64 (r.rounds:Int),sliN r.sup.al,.int .i64 (r.sup.n:Int),sliN r.sup.ms,egsN r.sup.es,sliN r.orig,m,u]
abbrev plA(c:Cel):Aut:=syncA (auL c.cs)
abbrev spQ(c:Cel):Aut:=syncA (allA c)
def stdC(c:Cel):List AV:=stdX c (plA c) (spQ c) (tuV (spA c (sync0 (allA c)).1)) (tuV (spB c (sync0 (allA c)).1)) (sliN (spP c (sync0 (auL c.cs)).1 (sync0 (allA c)).1)) (rss (forb c (sync0 (allA c)).1.length)) (resC c) (remM (resC c).rem) (sliN (uncL c.ev 5))
theorem QrD(R:List Rm)(x:Nat):noRef (kI x)=true/\noRef (rmF R x)=true:=⟨rfl,rfl⟩
theorem Qju(R:List Rm):noRef (remM R)=true:=by rw[remM,fmapG,noRef,Qaw (fun _=>rfl),Qaw (fun _=>rfl)];rfl
theorem Qo1{l:List Rm}{i:Nat}{x:Rm}(h:l[i]?=some x):(l.flatMap rmC).drop (i*4)=.int .i64 (x.st:Int)::.int .i64 x.rank::.int .i64 (x.reason:Int)::.int .i64 x.ev::(l.drop (i+1)).flatMap rmC:=Qa7 (f:=rmC) (k:=4) (fun _=>rfl) h
theorem Qlo{a:Aut}{u:List Nat}{left:Nat->Bool}{R:List Rm}(h:RemOk a u left R):R.length<=a.n:=by
 have:=QaQ a.n (R.map (·.st)) (by rw[ZaN,ZbB];exact h.nd) fun x b=>by obtain⟨y,c,rfl⟩:=Zan.1 b;exact(h.st y c).1
 simpa using this
theorem rem_c(c:Cel)(h:WfCel c):RemOk (spQ c) (uncL c.ev 5) (lf (fin (spQ c).n (spQ c).es (spQ c).ms (fbd c) (uncL c.ev 5) true).1) (resC c).rem:=QqT (wfA_c c h) (qok_c c).fS (qok_c c).fn
theorem Qe8{c:Cel}{p q:Aut}{A B X F:AV}{r:Res}(d:noRef A=true)(b:noRef B=true)(f:noRef X=true)(hf:noRef F=true):noRefs (stdP c p q A B X F r)=true:=by have h1:=SU.QaM c;rw[celV,noRef]at h1;simp only[noRefs,Zaa,Zac]at h1;obtain⟨g,a2,a3,a4,a5⟩:=h1;have a:=QdV r;rw[noRef]at a;simp only[noRefs,Zaa,Zac]at a;simp only[noRefs,g,a2,a3,a4,a5,Qae,Qai,d,b,f,hf,a];rfl
theorem Qh2{c:Cel}{p q:Aut}{A B X F m u:AV}{r:Res}(h:noRefs (stdP c p q A B X F r)=true)(hm:noRef m=true)(hu:noRef u=true):noRefs (stdX c p q A B X F r m u)=true:=SU.Qav (x:=stdP c p q A B X F r) (y:=[m,u]) h (by rw[noRefs,hm,noRefs,hu];rfl)
theorem Qjv(c:Cel):noRefs (stdC c)=true:=Qh2 (Qe8 (Qa8 _) (Qa8 _) (Qae _) (by rw[noRef];exact Qbj _)) (Qju _) (Qae _)
theorem _root_.Go.AM.au29{p:Prop}(h:p:=by repeat(first|exact Zcy|(refine Zcz ?_ ?_;·(first|exact Rn.any|exact Rn.x1 rfl rfl|exact Rn.x2 rfl rfl|exact Rn.x3 rfl rfl|exact Rn.x4 rfl rfl|exact Rn.x5 rfl|exact Rn.x6 rfl|exact Rn.x7 rfl|(refine Rn.slot ?_ ?_;(first|rfl|(rw[ZaS];rfl));(first|rfl|(simp only[noRef,noRefs,Qag,Zad,Zac,Zai,QaH,Qad,Qan,Qae,Qai,QaT,Qaf,QdZ,Qbj];done)))|(refine Rn.fn ?_ ?_<;>(repeat'(first|exact ZcG|refine ZcH ?_ ?_|exact Zcq rfl|exact Rn.x6 rfl|exact Rn.x2 rfl rfl|exact Rn.x5 rfl|exact Rn.x1 rfl rfl))))))):p:=h
theorem open80(c:Cel)(h:WfCel c):Pq 80 [celV c] (.tup [.fptr (stdC c),.int .i64 0]):=by
 have J:=Qa4 c;have b:=Qjv c;refine Zct 64 XA.ok80 rfl (by rw[noRefs,SU.QaM];rfl) (by rw[noRef,noRefs,noRef,b];rfl) ?_;have hO:=cell22 c h;have H:=plant17 c h;have M:=select86 c.ev h.ev;have t:=rem_c c h;have K:=Qlo t;have I:(spQ c).n<=4096:=(wfA_c c h).n5;have N:=Qa8 (sync0 (auL c.cs)).1;have C:noRef (rss (forb c (sync0 (allA c)).1.length))=true:=by rw[noRef];exact Qbj _
 have a:=Qe8 (c:=c) (p:=plA c) (q:=spQ c) (A:=tuV (spA c (sync0 (allA c)).1)) (B:=tuV (spB c (sync0 (allA c)).1)) (X:=sliN (spP c (sync0 (auL c.cs)).1 (sync0 (allA c)).1)) (F:=rss (forb c (sync0 (allA c)).1.length)) (r:=resC c) (Qa8 _) (Qa8 _) (Qae _) C;rw[stdC]at b⊢;rw[spC,spG]at hO;generalize resC c=r at*;generalize spA c (sync0 (allA c)).1=A at*;generalize spB c (sync0 (allA c)).1=B at*;generalize spP c (sync0 (auL c.cs)).1 (sync0 (allA c)).1=X at*;generalize forb c (sync0 (allA c)).1.length=F at*;generalize(sync0 (auL c.cs)).1=PT at*;have d:noRef (rms r.rem)=true:=by simp only[noRef,Qak]
 have g:=Qae (uncL c.ev 5);change Pq 89 [celV c] (.tup [.agg [sliN (spQ c).al,.int .i64 ((spQ c).n:Int),sliN (spQ c).ms,egsN (spQ c).es,tuV A,tuV B,sliN X,rss F],rsV r,.int .i64 0])at hO;change Pq 16 [celV c] (.tup [aV (plA c),tuV PT,.int .i64 0])at H;generalize spQ c=q at*;generalize plA c=p at*;generalize uncL c.ev 5=u at*;unfold XA.s80;refine ZcV ?_;refine cp hO ?_;refine ZcV ?_;refine cp H ?_;refine ZcV ?_;refine cp M ?_;refine ZcV ?_;refine Qaq 200 (fun i:Nat=>[(9,.ptr 52 0 0),(48,rms r.rem),(49,.int .i64 r.rem.length),(50,.int .i64 i)]) (fun i=>[(52,.cells 0 (stdX c p q (tuV A) (tuV B) (sliN X) (rss F) r (.map 53 0) (sliN u))),(53,.map 0 (mapG kI (rmF r.rem) ((r.rem.take i).map (·.st))))]) (fun i=>i<=r.rem.length) (fun i=>r.rem.length-i) 0 0 300 (fun _:Unit=>[(9,.ptr 52 0 0)]) (fun _=>[(52,.cells 0 (stdX c p q (tuV A) (tuV B) (sliN X) (rss F) r (remM r.rem) (sliN u)))]) (fun _=>True) ?_ (Zah _) ?_ ?_;·refine⟨[(52,.blk 98 0),(53,.blk 96 0)],rfl,RO.set rfl (RO.set rfl Zcx),?_,Zcz (Rn.x2 rfl rfl) (Zcz (Zcq d) au29)⟩;exact ZcB rfl rfl gg (RnL.append (xs:=stdP c p q (tuV A) (tuV B) (sliN X) (rss F) r) (ys:=stdP c p q (tuV A) (tuV B) (sliN X) (rss F) r) (Zcr a) (ZcH (Rn.x3 rfl rfl) (ZcH (Zcq g) ZcG))) (ZcD rfl rfl gg (ZcQ (l:=[]) fun _ h=>absurd h (by simp)) ZcA)
 ·rintro i hi;by_cases f:i<r.rem.length
  ·obtain⟨x,l⟩:=Qap f;have s:=Zae l;have k:x.st∉(r.rem.take i).map (·.st):=fun hm=>by obtain⟨y,L,v⟩:=Zan.1 hm;obtain⟨j,o⟩:=ZbI L;have E:=(Zag.1 o).1;rw[Zav]at E;rw[List.getElem?_take_of_lt (by omega)]at o;have h1:=(Zag.1 o);have G:=(Zag.1 l);have:=Zbe.1 t.nd j i h1.1 G.1 (by omega);rw[h1.2,G.2]at this;exact this v
   have hf:rmF r.rem x.st=.agg (rmC x):=by rw[rmF,Qiu t.nd s];rfl
   have m:updG (rmF r.rem) x.st (.agg (rmC x))=rmF r.rem:=by
    funext y;unfold updG;split;·rename_i e;subst e;exact hf.symm
    rfl
   have w:=Qo1 l;refine ZcW (Zc1 f w) ?_;refine Qbs (c:=kI) (f:=rmF r.rem) (x:=x.st) (l:=(r.rem.take i).map (·.st)) (v:=.agg (rmC x)) (g:=0) gg Qck k (by omega) ?_;rw[m,show(r.rem.take i).map (·.st)++[x.st]=(r.rem.take (i+1)).map (·.st)by rw[take_succ' l,ZaK];rfl];refine ZcV ?_;refine⟨i+1,by omega,by omega,?_⟩;refine⟨[(52,.blk 52 0),(53,.blk 53 0)],rfl,Zcx,?_,Zcz (Rn.x2 rfl rfl) (Zcz (Zcq d) au29)⟩;exact ZcB rfl rfl gg (RnL.append (xs:=stdP c p q (tuV A) (tuV B) (sliN X) (rss F) r) (ys:=stdP c p q (tuV A) (tuV B) (sliN X) (rss F) r) (Zcr a) (ZcH (Rn.x3 rfl rfl) (ZcH (Zcq g) ZcG))) (ZcD rfl rfl gg (ZcQ fun z _=>QrD r.rem z) ZcA)
  have e:i=r.rem.length:=by omega
  subst e;refine ZcY f ?_;refine⟨(),[(52,.blk 52 0)],rfl,Zcx,?_,Zcz (Rn.x2 rfl rfl) Zcy⟩;exact ZcB rfl rfl gg (RnL.append (xs:=stdP c p q (tuV A) (tuV B) (sliN X) (rss F) r) (ys:=stdP c p q (tuV A) (tuV B) (sliN X) (rss F) r) (Zcr a) (ZcH (Rn.fzM (b:=53) (g:=0) gg rfl rfl fun z _=>QrD r.rem z) (ZcH (Zcq g) ZcG))) ZcA
 rintro _ _;refine ZcV ?_;refine⟨.inr trivial,_,rfl,?_⟩;refine Rn.tup (ZcH ?_ (Zcr rfl));exact Rn.frzp (b:=52) (g:=0) rfl (Zah _) (fun P Q _ e=>by simp[π0]at e) (by simp) (Zcr b)
end Go.AM.SO
namespace Go.AM.SO
open Go.AM.SD Go.AM.SE
theorem QsP{a:Aut}{i:Nat}{v:Vs}{l:List Vs}{e:Nat}:∃r,ext1 a i v l e=l++r:=by
 unfold ext1;split;·exact⟨[],by simp⟩
 exact⟨_,rfl⟩
theorem QsQ{a:Aut}{u:List Nat}{m e:Nat}(he:e∈ucE a u m):stepA a.es m e=some (toA a m e)/\e∈u/\e∈a.al:=by obtain⟨h1,b⟩:=ZaL.1 he;rw[Zaa]at b;obtain⟨t,c⟩:=Za9.1 b.1;unfold toA;rw[c];exact⟨rfl,by simpa using b.2,h1⟩
theorem Qga{es:List Ed}{s ev t:Nat}(h:stepA es s ev=some t):∃e∈es,e.1=s/\e.2.1=ev/\e.2.2=t:=by unfold stepA at h;cases hf:es.find? fun e=>e.1==s&&e.2.1==ev with|none=>rw[hf]at h;cases h|some e=>rw[hf]at h;have h1:=ZbM hf;simp at h1 h;exact⟨e,Za2 hf,h1.1,h1.2,h⟩
end Go.AM.SO
namespace Go.AM.SO
open Go.Proofs Go.AM.SD Go.AM.SE
theorem Qnk{l:List Aut}{t:List Nat}{e:Nat}:∀{k:Nat},k<=l.length->((stp l t e k).isSome=true↔∀(i:Nat)a,i<k->l[i]?=some a->e∈a.al->(stepA a.es (t.getD i 0) e).isSome=true)|0,_=>by simp[stp]|k+1,hk=>by have b:=Qnk (l:=l) (t:=t) (e:=e) (k:=k) (by omega);obtain⟨a,c⟩:=Qap (l:=l) (i:=k) (by omega);unfold stp;grind
theorem Qgb{l:List Aut}{t:List Nat}{e:Nat}:(stepT l t e).isSome=true↔∀(i:Nat)a,l[i]?=some a->e∈a.al->(stepA a.es (t.getD i 0) e).isSome=true:=by simp_all[stepT,Qnk,Zag]
theorem Qt2{c:Cel}{r:List Nat}{e:Nat}:rfI c r e<0↔∀(i:Nat)y,c.rs[i]?=some y->e∈y.2.al->(stepA y.2.es (r.getD i 0) e).isSome=true:=by
 have a:=@QdB _ (rfQ c r e) (List.range c.rs.length);have b:rfI c r e<0↔(List.range c.rs.length).any (rfQ c r e)=false:=by grind[Qhh,rfI]
 simp_all[Zag,rfQ,stepA]
theorem Qlp{c:Cel}{t:List Nat}{e:Nat}(d:c.cs.length<=t.length):(stepT (allA c) t e).isSome=true↔(stepT (auL c.cs) (t.take c.cs.length) e).isSome=true/\rfI c (t.drop c.cs.length) e<0:=by
 rw[Qgb,Qgb,Qt2];constructor
 ·intro h;refine⟨fun i a b he=>?_,fun i y f he=>?_⟩
  ·have hi:i<c.cs.length:=by grind
   have:=h i a (by simp_all[allA,ZaT]) he;grind
  simp_all[allA,ZbP]
 grind[allA]
theorem QpI{a b:List Nat}(c:a.Pairwise (·<·))(d:b.Pairwise (·<·))(h:∀x,x∈a↔x∈b):a=b:=by refine List.Perm.eq_of_pairwise (le:=fun x y=>x<y) (fun x y _ _ h1 f=>by omega) c d ?_;exact(List.perm_ext_iff_of_nodup (c.imp fun h=>by omega) (d.imp fun h=>by omega)).2 h
theorem Qvd{c:Cel}(h:WfCel c):evA (allA c)=evA (auL c.cs):=by refine QpI (Qd9 (Qb5 h)) (Qd9 (Qa3 h)) fun e=>⟨QoZ h,fun he=>?_⟩;obtain⟨a,d,b⟩:=(Qem (Qa3 h)).1 he;exact(Qem (Qb5 h)).2 ⟨a,ZaE.2 (.inl d),b⟩
def runA(es:List Ed):Nat->List Nat->Option Nat|s,[]=>some s|s,x::w=>match stepA es s x with|some n=>runA es n w|none=>none
theorem Qnl{l:List Aut}{T:List (List Nat)}{j:Nat}{t:List Nat}{e:Nat}:∀{ev:List Nat},e∈ev->((rowE l ev T j t).find? fun x=>decide (x.2.1=e)).map (·.2.2)=(stepT l t e).map (ixT T)
 |[],h=>by cases h|y::ev,h=>by
  unfold rowE;rw[Zbw];by_cases b:y=e;·subst b;cases d:stepT l t y with|some n=>simp|none=>show(((rowE l ev T j t).find? fun x=>decide (x.2.1=y)).map (·.2.2))=none;rw[Option.map_eq_none_iff,Za6];intro x g he;obtain⟨_,_,n,c,_⟩:=Qel g;rw[of_decide_eq_true he,d]at c;cases c
  have a:=Qnl (l:=l) (T:=T) (j:=j) (t:=t) ((Zau.1 h).resolve_left fun f=>b f.symm);unfold rowE at a;cases d:stepT l t y with|some n=>simpa[b]using a|none=>simpa using a
theorem Qgc{l:List Aut}(h:∀a∈l,WfI a){j:Nat}{t:List Nat}(b:(sync0 l).1[j]?=some t){e:Nat}(he:e∈evA l):stepA (syncA l).es j e=(stepT l t e).map (ixT (sync0 l).1):=by rw[QdY,Qlm h b,Qnl he]
end Go.AM.SO
namespace Go.AM.SO
open Go.AM.SD Go.AM.SE
structure Exp where
 kind:Int
 st:Int
 nx:Int
 req:Int
 run:List Nat
 en:Int
 rm:Rm
 rs:Nat×Int×Int×Int
abbrev rm00:Rm:=⟨0,0,0,0⟩
abbrev rs00:Nat×Int×Int×Int:=(0,0,0,0)
abbrev x00:Exp:=⟨0,0,0,0,[],0,rm00,rs00⟩
def rsnAt(F:List (Nat×Int×Int×Int))(t:Nat):Nat×Int×Int×Int:=(F.find? fun y=>y.1==t).getD rs00
def rmD(R:List Rm)(t:Nat):Rm:=(remAt R t).getD rm00
def ldx(R:List Rm)(F:List (Nat×Int×Int×Int))(s n:Nat)(r:List Nat)(t:Nat):Exp:=⟨4,s,n,-1,r,t,rmD R t,if(rmD R t).reason=1 then rsnAt F t else rs00⟩
def leadsG(q:Aut)(u:List Nat)(R:List Rm)(F:List (Nat×Int×Int×Int))(s n:Nat):Exp:=match bres q u R n with|some (r,t)=>ldx R F s n r t|none=>x00
def eventG(q:Aut)(u:List Nat)(R:List Rm)(F:List (Nat×Int×Int×Int))(p:Bool)(f:Int)(v e:Nat):Exp:=if p then if 0<=f then⟨3,v,-1,f,[],-1,rm00,rs00⟩else if(remAt R ((stepA q.es v e).getD 0)).isSome then leadsG q u R F v ((stepA q.es v e).getD 0)else⟨1,v,(stepA q.es v e).getD 0,-1,[],-1,rm00,rs00⟩else⟨2,v,-1,-1,[],-1,rm00,rs00⟩
def tup(c:Cel)(v:Nat):List Nat:=(sync0 (allA c)).1.getD v []
abbrev forbC(c:Cel):List (Nat×Int×Int×Int):=forb c (sync0 (allA c)).1.length
def pOk(c:Cel)(v e:Nat):Bool:=(evA (auL c.cs)).contains e&&(stepT (auL c.cs) ((tup c v).take c.cs.length) e).isSome
def rfX(c:Cel)(v e:Nat):Int:=rfI c ((tup c v).drop c.cs.length) e
def eventX(c:Cel)(v e:Nat):Exp:=eventG (syncA (allA c)) (uncL c.ev 5) (resC c).rem (forbC c) (pOk c v e) (rfX c v e) v e
theorem QpJ{n:Nat}{es:List Ed}{mk:List Nat}{unc:List Nat}{all:Bool}{P:Rm->Prop}(b:∀left rank x,x∈pNext n es mk left unc rank all->P x):∀(f rank:Nat)(l:LB)(rs:List Rm)(k:Nat),(∀x∈rs,P x)->∀x∈(pRounds n es mk unc all f rank l rs k).2.1,P x:=by intro f;induction f with|zero=>intro rank l rs k h;exact h|succ f c=>
 intro rank l rs k h;unfold pRounds;split;·exact h
 refine c _ _ _ _ fun x a=>?_;rcases ZaE.1 a with a|a;·exact h x a
 exact b _ _ x a
theorem Qvf{a:Aut}{f u:List Nat}{all:Bool}(h:WfA a):∀x∈(pRes a f u all).rem,x.reason=1->x.st∈f:=by intro x g;have hp:=QgQ (fin a.n a.es a.ms f u all).2.1;have c:x∈(fin a.n a.es a.ms f u all).2.1:=hp.mem_iff.1 g;exact QpJ (P:=fun x=>x.reason=1->x.st∈f) (fun left d y b h1=>by have:=(Qk0 h.inN h.srt b).2.1;omega) _ _ _ _ _ (fun y b _=>by obtain⟨i,hi,rfl⟩:=Zan.1 b;exact hi) x c
theorem Qt3{F:List (Nat×Int×Int×Int)}{t:Nat}(h:t∈fbs F):∃y∈F,y.1=t/\(F.find? fun y=>y.1==t)=some y:=by cases hf:F.find? fun y=>y.1==t with|none=>obtain⟨y,a,rfl⟩:=Zan.1 h;have:=Za6.1 hf y a;simp at this|some y=>have h1:=ZbM hf;exact⟨y,Za2 hf,by simpa using h1,rfl⟩
theorem Qnm{t:Nat}:∀{F:List (Nat×Int×Int×Int)}(z:Nat×Int×Int×Int),(fbs F).Pairwise (·<·)->F.foldl (fun a y=>if y.1=t then y else a) z=(F.find? fun y=>y.1==t).getD z
 |[],z,_=>rfl|y::F,z,h=>by
  have f:(y.1::fbs F).Pairwise (·<·):=h;obtain⟨h1,b⟩:=Zax.1 f;rw[ZaP,Qnm _ b,List.find?_cons];by_cases e:y.1=t
  ·have d:F.find? (fun y=>y.1==t)=none:=Za6.2 fun x g c=>by have:=h1 x.1 (Zan.2 ⟨x,g,rfl⟩);simp only[beq_iff_eq]at c;omega
   rw[if_pos e,d];simp[e]
  have :(y.1==t)=false:=by simpa using e
  rw[if_neg e,this]
theorem Qhp{c:Cel}{v:Nat}(b:v<(syncA (allA c)).n):(sync0 (allA c)).1[v]?=some (tup c v):=by have a:v<(sync0 (allA c)).1.length:=b;unfold tup;rw[Zak,Zal a];rfl
theorem Qjw{c:Cel}(h:WfCel c){v e:Nat}(k:v<(syncA (allA c)).n):(stepA (syncA (allA c)).es v e).isSome=true↔pOk c v e=true/\rfX c v e<0:=by
 have a:=Qhp k;have d:=(Qfs h _ (Zae a)).1;have g:c.cs.length<=(tup c v).length:=by rw[d.1,QbZ];omega
 unfold pOk rfX;rw[Zaa,ZaG,<-Qvd h];constructor
 ·intro f;obtain⟨t,b⟩:=Za9.1 f;obtain⟨x,i,x1,x2,x3⟩:=Qga b;have he:e∈evA (allA c):=by rw[<-x2];exact(wfA_c c h).ev x i
  rw[Qgc (Qb5 h) a he,Option.isSome_map]at f;obtain⟨q1,q2⟩:=(Qlp g).1 f;exact⟨⟨he,q1⟩,q2⟩
 rintro⟨⟨he,q1⟩,q2⟩;rw[Qgc (Qb5 h) a he,Option.isSome_map];exact(Qlp g).2 ⟨q1,q2⟩
theorem Qj2{c:Cel}(h:WfCel c){v e:Nat}(d:v<(syncA (allA c)).n)(h1:pOk c v e=true)(b:rfX c v e<0):stepA (syncA (allA c)).es v e=some ((stepA (syncA (allA c)).es v e).getD 0)/\(stepA (syncA (allA c)).es v e).getD 0<(syncA (allA c)).n:=by obtain⟨t,a⟩:=Za9.1 ((Qjw h d).2 ⟨h1,b⟩);rw[a];exact⟨rfl,Qcu (wfA_c c h).esn a⟩
abbrev leftC(c:Cel):Nat->Bool:=lf (fin (syncA (allA c)).n (syncA (allA c)).es (syncA (allA c)).ms (fbd c) (uncL c.ev 5) true).1
theorem Qft(c:Cel)(h:WfCel c):RemOk (syncA (allA c)) (uncL c.ev 5) (leftC c) (resC c).rem:=QqT (wfA_c c h) (qok_c c).fS (qok_c c).fn
theorem Qfu{c:Cel}(h:WfCel c){i v:Nat}(d:(resC c).orig[i]?=some v):v<(syncA (allA c)).n/\leftC c v=true:=by have b:=(Qdr (left:=leftC c) (wfA_c c h)).1;have a:=b.lft v (Zae d);have hk:=Qor (forb:=fbd c) (unc:=uncL c.ev 5) (wfA_c c h).inN (wfA_c c h).nd (wfA_c c h).srt;exact⟨hk.lt v a,a⟩
def wlk(S:Aut):List Nat->Nat->List Nat×Nat|[],s=>([],s)|n::w,s=>match(sOut S.es (fun _=>true) s)[n%(sOut S.es (fun _=>true) s).length]? with|none=>([],s)|some x=>(x.2.1::(wlk S w x.2.2).1,(wlk S w x.2.2).2)
theorem Qnn{S:Aut}(h:WfA S):∀(w:List Nat)(s:Nat),s<S.n->runA S.es s (wlk S w s).1=some (wlk S w s).2/\(wlk S w s).1.length<=w.length/\(wlk S w s).2<S.n/\∀x∈(wlk S w s).1,x∈S.al|[],s,d=>⟨rfl,ZaM _,d,fun x b=>by cases b⟩|n::w,s,d=>by unfold wlk;cases b:(sOut S.es (fun _=>true) s)[n%(sOut S.es (fun _=>true) s).length]? with|none=>exact⟨rfl,Zah _,d,fun x b=>by cases b⟩|some x=>
 obtain⟨m1,m2,_⟩:=Qa2.1 (Zae b);have a:=QeK h.es m1;rw[m2]at a;obtain⟨q1,q2,g,f⟩:=Qnn h w x.2.2 (h.esn x m1).2;refine⟨?_,by simp;omega,g,fun y c=>?_⟩;·unfold runA;rw[a];exact q1
 rcases Zau.1 c with rfl|c;·exact h.ev x m1
 exact f y c
def forbE(c:Cel)(v n:Nat):List Nat:=(List.range n).filter fun e=>decide ((eventX c v e).kind=3)||decide ((eventX c v e).kind=4)
theorem Qjy(c:Cel)(v n:Nat):forbE c v (n+1)=forbE c v n++if(eventX c v n).kind=3\/(eventX c v n).kind=4 then[n]else[]:=by
 unfold forbE;rw[ZaO,Zbi];by_cases h:(eventX c v n).kind=3\/(eventX c v n).kind=4;·rw[if_pos h];simp[h]
 rw[if_neg h];simp only[not_or]at h;simp[h]
end Go.AM.SO
