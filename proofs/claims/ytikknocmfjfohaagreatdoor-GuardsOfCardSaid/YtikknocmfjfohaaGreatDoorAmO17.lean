/- A part of the proof of GuardsOfCardSaid: lemmas on the way (AnUp, AnVo, AnVp, AnVs, AnVt, AnVu, AnHg, AnVx, AnOi, AnHm, AnWk, AnWa, AnWb, AnWc, AnWd, AnWr, AmTv, AmUc, AmTu, AmUb, AmUd, AnWe, AnWh, AnWf, AnWi, AnWj, AnWg, AnWl, AnGj). Conditions: none of ours. -/
import Derived.Test.YtikknocmfjfohaaGreatDoorProg
import Derived.KernelRfl
import Derived.Test.YtikknocmfjfohaaGreatDoorAmO16
theorem Go.AM.bNqdD{p:Prop}(h:p:=by
 refine Zc1 d ?_;refine⟨.inr trivial,_,rfl,?_⟩;rw[Qsi fun j y g=>hc j y (by have:=(Zaj.1 g).1;omega) g];rfl):p:=h
theorem Go.AM.bJZ5E{p:Prop}(h:p:=by
 by_cases d:0<=k;·refine Zc1 d ?_;exact⟨.inr trivial,_,rfl,rfl⟩
 refine Zc1 d ?_;exact⟨.inr trivial,_,rfl,rfl⟩):p:=h
theorem Go.AM.b6AMm{p:Prop}(h:p:=by
 refine⟨[(50,.blk 50 0),(51,.blk 51 0),(52,.blk 52 0),(61,.blk 61 0),(62,.blk 62 0)],rfl,au0,?_,au24⟩;exact Zcw rfl rfl gg (Zcl g) (Zcw rfl rfl gg (Zcl rfl) (Zcw rfl rfl gg (ZcC (Rn.x1 rfl rfl) (ZcC (Rn.x1 rfl rfl) ZcB)) (Zcw rfl rfl gg (Zcl (Qaa _)) (Zcw rfl rfl gg (Zcl (Qaa _)) Zcv))))):p:=h
set_option linter.unusedSectionVars false
set_option maxHeartbeats 32000000
set_option maxRecDepth 100000
set_option linter.unusedVariables false
set_option linter.unusedSimpArgs false
namespace Go.AM.SO
open Go.Proofs Go.AM.SD Go.AM.SE
theorem cloneI86(l)(c:l.length<=1000000):HSpec Tryz.prog 86 [sli l] .e (.sl 83 0 0 l.length 1) (hp [(83,.cells 0 (ints l))]):=by cases l with|nil=>exact HSpec.empty Qla Qlb|cons x l=>
 refine ZcN 100 (Ok s86) rfl ?_;have b:aEq (.nil 2) false (sli (x::l)) .nilsl=some (.bool false):=rfl;have a:(ints (x::l)).all AV.one=true:=by simp[ints,AV.one]
 generalize x::l=q at*;unfold s86;refine Zc1 (Zc2 b a) ?_;exact⟨.inr trivial,_,rfl,⟨[(83,.blk 103 1)],rfl,au0,au3,au4⟩⟩
variable{q p:Aut}{A B:List (List Nat)}{P:List Nat}{F:List (Nat×Int×Int×Int)}{c:Cel}
abbrev spCl(q:Aut)(A B:List (List Nat))(P:List Nat)(F:List (Nat×Int×Int×Int)):List AV:=[sliN q.al,.int .i64 (q.n:Int),sliN q.ms,egsN q.es,tuV A,tuV B,sliN P,rss F]
abbrev ceCl(c:Cel):List AV:=[evsV c.ev,its 99 c.cs,its 114 c.rs,exs c.xs,cos c.ks]
theorem Qch:noRefs (spCl q A B P F)=true:=by have hA:noRefs (A.map sliN)=true:=Qax Qab _;have a:noRefs (B.map sliN)=true:=Qax Qab _;simp only[noRefs,noRef,Qaa,Qag,hA,a,Qbi];rfl
end Go.AM.SO
namespace Go.AM.SO
open Go.Proofs Go.AM.SD Go.AM.SE
def flt(q:Aut)(pm:Nat->Nat->Bool):Aut:=⟨q.al,q.n,q.ms,q.es.filter fun e=>pm e.1 e.2.1⟩
abbrev tru:Nat->Bool:=fun _=>true
variable{q p:Aut}{A B:List (List Nat)}{P:List Nat}{F:List (Nat×Int×Int×Int)}{c:Cel}
end Go.AM.SO
namespace Go.AM.SO
open Go.Proofs Go.AM.SD Go.AM.SE
variable{a:Aut}{x:Bool}{c:Cel}{g:Gdn}{v:List (List UInt8×Int)}{l:List Gdn}{b:List Int}{t:List Nat}{i k o:Nat}{left:Nat->Bool}{α:Type}
theorem edges46(x)(h:WfA x)(g:x.es.length<=1000000):Ps 46 [aV x] (emV x):=by
 refine Zcm 64 (Ok VK.s46) rfl (by(try simp only[noRefs,Qaa,Qag,noRef,noRefs,QaO,Qau,Qay,QaD,QaB,Zae,Zad])<;>rfl) (QbE x) ?_;unfold VK.s46;refine ZcY ?_;refine Qar 100 (fun j:Nat=>[(3,.map 77 0),(8,egsN x.es),(9,.int .i64 x.es.length),(10,.int .i64 j)]) (fun j=>[(77,.map 0 (mapG kP (vE x.es) ((x.es.take j).map pE)))]) (fun j=>j<=x.es.length) (fun j=>x.es.length-j) 0 0 200 (fun _:Unit=>[(3,emV x)]) (fun _=>[]) (fun _=>True) ?_ (Zai _) ?_ ?_;·refine⟨[(77,.blk 66 0)],rfl,au0,?_,au41⟩;exact Zcy rfl rfl gg (ZcP fun _ _=>⟨rfl,rfl⟩) Zcv
 ·rintro j i;by_cases a:j<x.es.length
  ·obtain⟨e,he⟩:=Qak a;have d:=QaT he;have c:3<=((x.es.flatMap edC).drop (j*3)).length:=by rw[d];simp
   have b:=Qnr h.es he;have f:=QrR h.es (Zac he);refine ZcZ (Zc3 a d c) ?_;refine Qck (c:=kP) (f:=vE x.es) (x:=(e.1,e.2.1)) (l:=(x.es.take j).map pE) (g:=0) gg Qft b (by omega) ?_;rw[f];refine ZcY ?_;refine⟨j+1,by omega,by omega,?_⟩;rw[take_succ' he,ZaI];refine⟨[(77,.blk 77 0)],rfl,au0,?_,au41⟩;exact Zcy rfl rfl gg (ZcP fun _ _=>⟨rfl,rfl⟩) Zcv
  have e:j=x.es.length:=by omega
  subst e;refine ZcT a ?_;exact⟨(),[],rfl,Zcs,Zcv,Zcu (Rn.fzM (b:=77) (g:=0) gg rfl rfl fun _ _=>⟨rfl,rfl⟩) Zct⟩
 rintro _ _;refine ZcY ?_;exact⟨.inr trivial,_,rfl,Zck (QbE x)⟩
theorem Qjx:∀{es:List Ed}{d:Ed},d∈es->(stepA es d.1 d.2.1).isSome=true
 |x::es,d,h=>by
  rw[Qf5];split;·rfl
  rcases Zax.1 h with rfl|h;·rename_i a;exact absurd ⟨rfl,rfl⟩ a
  exact Qjx h
theorem has50(x)(s e:Nat):Ps 50 [emV x,.int .i64 (s:Int),.int .i64 (e:Int)] (.bool (decide (0<=stepI x.es s e))):=by
 refine Zcn 64 (Ok VK.s50) rfl (by rw[noRefs,QbE];rfl) rfl ?_;have f:decide (0<=stepI x.es s e)=(stepA x.es s e).isSome:=by unfold stepI;cases stepA x.es s e with|none=>rfl|some to=>exact decide_eq_true (Za9 _)
 rw[f];unfold VK.s50;refine ZcY ?_;cases a:stepA x.es s e with|none=>
  have hk:(s,e)∉x.es.map pE:=fun hm=>by obtain⟨d,g,b⟩:=Zap.1 hm;unfold pE at b;simp only[Zal]at b;have c:=Qjx g;rw[b.1,b.2,a]at c;cases c
  refine Qga (c:=kP) (f:=vE x.es) (x:=(s,e)) (l:=x.es.map pE) Qft hk ?_;refine ZcY ?_;exact⟨.inr trivial,_,rfl,rfl⟩|some to=>refine QeS (c:=kP) (f:=vE x.es) (x:=(s,e)) (l:=x.es.map pE) Qft (Qc9 a) ?_;refine ZcY ?_;exact⟨.inr trivial,_,rfl,rfl⟩
abbrev Qc(c:Cel):Aut:=syncA (allA c)
abbrev Tc(c:Cel):List (List Nat):=(sync0 (allA c)).1
abbrev Pc(c:Cel):Aut:=syncA (auL c.cs)
theorem QuH(c):(vrsL c).map (·.2)=(allA c).map fun a=>(a.n:Int)-1:=by unfold vrsL allA auL;simp[ZaI,List.map_map,Function.comp_def,vrI]
theorem wB_c(h:WfCel c):WfB (Qc c):=QdP (Qca h) (by rw[Qcg];have:=h.c3;have:=h.r2;omega)
theorem wP_c(h:WfCel c):WfB (Pc c):=QdP (Qbq h) (by have:=h.c3;simp[auL];omega)
theorem tup_c(h:WfCel c)(l:t∈Tc c):t.length=(vrsL c).length/\∀(j:Nat)x,(vrsL c)[j]?=some x->0<=(nz t).getD j 0/\(nz t).getD j 0<=x.2:=by
 have f:=(QdO (fun a b=>(Qca h a b).pos) (fun a b=>(Qca h a b).wf.esn)).inT t l;have m:(vrsL c).length=(allA c).length:=by rw[Qio,Qcg]
 refine⟨by rw[f.1,m],fun j x g=>?_⟩;have n:=(Zaj.1 g).1;obtain⟨a,b⟩:=Qak (l:=allA c) (i:=j) (by omega);have k:=f.2 j a b;have d:((vrsL c).map (·.2))[j]?=some ((a.n:Int)-1):=by rw[QuH,Zaz,b];rfl
 rw[Zaz,g]at d;have d:x.2=(a.n:Int)-1:=Option.some.inj d;obtain⟨y,i⟩:=Qak (l:=t) (i:=j) (by rw[f.1];omega);rw[QaA i]at k;rw[QaA (nz_at i),d];omega
theorem wld_c(h:WfCel c)(v)(d:v<(Qc c).n):∃t y,(Tc c)[v]?=some t/\(spA c (Tc c))[v]?=some (t.take c.cs.length)/\(spB c (Tc c))[v]?=some (t.drop c.cs.length)/\(spP c (sync0 (auL c.cs)).1 (Tc c))[v]?=some y/\t.length=(vrsL c).length/\c.cs.length<=t.length/\tplQ (spA c (Tc c)) (spB c (Tc c)) v=nz t:=by
 obtain⟨t,a⟩:=Qak (l:=Tc c) d;obtain⟨h1,_⟩:=tup_c h (Zac a);have hA:(spA c (Tc c))[v]?=some (t.take c.cs.length):=by unfold spA;rw[Zaz,a];rfl
 have b:(spB c (Tc c))[v]?=some (t.drop c.cs.length):=by unfold spB;rw[Zaz,a];rfl
 refine⟨t,_,a,hA,b,by unfold spP;rw[Zaz,a];rfl,h1,by rw[h1,Qio];omega,?_⟩;unfold tplQ;rw[QaA hA,QaA b,Zbd]
structure GOk(ct:Nat->Bool)(v:List (List UInt8×Int))(l:List Gdn):Prop where
 inc:l.Pairwise fun y z=>y.ev<z.ev
 ev:∀g∈l,(0<=g.ev/\g.ev<5)/\ct g.ev.toNat=true
 bl:∀g∈l,g.bs.length<=1000
 bx:∀g∈l,∀b∈g.bs,BxOk v b
theorem Qsd:∀{l:List Gdn}{a:Int},l.Pairwise (fun y z=>y.ev<z.ev)->(∀g∈l,a<=g.ev/\g.ev<5)->a<=5->(l.length:Int)<=5-a|[],a,_,_,h=>by simp;omega|x::l,a,hp,h,f=>by obtain⟨h1,c⟩:=ZaB.1 hp;have d:=h x (by simp);have:=Qsd (l:=l) (a:=x.ev+1) c (fun g b=>⟨by have:=h1 g b;omega,(h g (by simp[b])).2⟩) (by omega);rw[ZaC];omega
theorem GOk.len{ct}(h:GOk ct v l):l.length<=5:=by have:=Qsd (a:=0) h.inc (fun g a=>(h.ev g a).1) (by decide);omega
abbrev Ac(c:Cel):List (List Nat):=spA c (Tc c)
abbrev Bc(c:Cel):List (List Nat):=spB c (Tc c)
abbrev PPc(c:Cel):List Nat:=spP c (sync0 (auL c.cs)).1 (Tc c)
abbrev Fc(c:Cel):List (Nat×Int×Int×Int):=forb c (Tc c).length
def rsV(o:Option (Nat×Int×Int×Int)):AV:=.tup [.agg (match o with|some r=>rsC r|none=>[.int .i64 0,.int .i64 0,.int .i64 0,.int .i64 0]),.bool o.isSome]
theorem Qse:∀(i:Nat),i<=v.length->∀t∈dom (v.take i),∀(j:Nat)x,j<i->v[j]?=some x->0<=t.getD j 0/\t.getD j 0<=x.2
 |0,_,t,_,j,x,c,_=>absurd c (ZaD _)|i+1,hi,t,f,j,x,c,g=>by
  obtain⟨y,a⟩:=Qak (l:=v) (i:=i) (by omega);rw[QeQ a]at f;obtain⟨u,hu,hm⟩:=Zbt.1 f;obtain⟨n,d,rfl⟩:=Zap.1 hm;have d:=Zat.1 d;have b:=QeR i (by omega) u hu;by_cases e:j=i;·subst e;rw[g]at a;cases a;rw[Zah,Zbr (by omega),b,ZbL];show 0<=(n:Int)/\(n:Int)<=x.2;omega
  rw[Zah,Za6 (by omega),<-Zah];exact Qse i (by omega) u hu j x (by omega) g
theorem Qj5:∀a∈dom v,∀(j:Nat)x,v[j]?=some x->0<=a.getD j 0/\a.getD j 0<=x.2:=fun a c j x b=>Qse v.length (Zau _) a (by rw[Zan];exact c) j x (Zaj.1 b).1 b
theorem dom_c(h:WfCel c):(dom (vrsL c)).length<=243:=by have h1:=Qen (QcA h) (vrsL c).length (Zau _);have a:=Qo9 h;rw[Zan]at h1;omega
def tcC(c:Cel)(ev:Nat):List Bool×List Bool:=tcQ (vrsL c) (Ac c) (Bc c) (PPc c) (Pc c).es (resC c).sup.es (resC c).orig ev (resC c).orig.length
def bxC'(c:Cel)(ev:Nat):List Bxn:=covV (vrsL c) (tcC c ev).1 (tcC c ev).2
def expC(c:Cel):List Gdn:=expQ (ctC c) (bxC' c) 5
theorem Qfw(h:WfCel c)(ho:o∈(resC c).orig):o<(Qc c).n:=(QdD (left:=lf (fin (Qc c).n (Qc c).es (Qc c).ms (fbd c) (uncL c.ev 5) true).1) (wB_c h).toWfA).1.fi.lt o ho
theorem QnF(h:WfCel c):(resC c).orig.length<=4096:=by have h1:=(QdD (left:=lf (fin (Qc c).n (Qc c).es (Qc c).ms (fbd c) (uncL c.ev 5) true).1) (wB_c h).toWfA).1.fi.len;have a:=(wB_c h).n5;exact ZaA h1 a
theorem Qp5(c)(h:WfCel c):Ps 17 [.agg (wCl (Qc c) (Ac c) (Bc c) (PPc c) (Fc c) (Pc c) c),SE.rsV (resC c)] (gdsV (expC c)):=by have a:WfA (resC c).sup:=Qh5 (wB_c h).toWfA;have f:=Qfs h;have g:=(wB_c h).nb;exact expected17 (q:=Qc c) (p:=Pc c) (A:=Ac c) (B:=Bc c) (P:=PPc c) (F:=Fc c) (vrsL c) (resC c) f (QcA h) (by have:=dom_c h;omega) (vars12 c h) Qj5 (by have:=(wP_c h).el;omega) (by have:=WfA.el1 a;omega) (by show(List.map _ (Tc c)).length<=_;rw[Zav];exact ZaA g (by decide)) (by have:=QnF h;omega) fun o ho=>by obtain⟨t,y,b,hA,d,i,k,hk,_⟩:=wld_c h o (Qfw h ho);refine⟨_,_,y,hA,d,i,by rw[Zbd];exact k,?_⟩;rw[Zbd];exact(tup_c h (Zac b)).2
theorem QvQ(d:∀x∈v,0<=x.2/\x.2<=2){t c}:∀b∈covV v t c,BxOk v b:=by intro b g;have h1:=Qnl _ (Zau _) b g;refine Qjm (P:=BxOk v) (fun a f=>?_) _ (Zau _) b h1;exact(grB_R d (QeR v.length (Zau _) a (by rw[Zan];exact f)) (Qj5 a f) v.length (Zau _)).ok
theorem QuI{v}{t c}:(covV v t c).length<=(dom v).length:=by refine ZaA (Qnk _).2 (Qnj _)
theorem QvR(h:l.Pairwise fun y z=>y.ev<z.ev)(f:∀y∈l,y.ev<g.ev):(l++[g]).Pairwise fun y z=>y.ev<z.ev:=by rw[Zbb];exact⟨h,by simp,fun a d b c=>by rw[ZaS.1 c];exact f a d⟩
theorem Qsf{ct}{G}:∀e,(expQ ct G e).Pairwise (fun y z=>y.ev<z.ev)/\∀g∈expQ ct G e,∃k:Nat,k<e/\ct k=true/\g=⟨(k:Int),G k⟩
 |0=>⟨by simp[expQ],fun g a=>by cases a⟩|e+1=>by
  obtain⟨h1,b⟩:=@Qsf ct G e;rw[expQ];split
  ·rename_i hc;refine⟨QvR h1 fun y d=>?_,fun g a=>?_⟩;·obtain⟨k,hk,_,rfl⟩:=b y d;show(k:Int)<(e:Int);omega
   rcases ZaE.1 a with a|a;·obtain⟨k,hk,c⟩:=b g a;exact⟨k,by omega,c⟩
   exact⟨e,by omega,hc,ZaS.1 a⟩
  exact⟨h1,fun g a=>by obtain⟨k,hk,c⟩:=b g a;exact⟨k,by omega,c⟩⟩
theorem QvS(h:WfCel c):GOk (ctC c) (vrsL c) (expC c):=by
 obtain⟨h1,f⟩:=@Qsf (ctC c) (bxC' c) 5;refine⟨h1,fun g a=>?_,fun g a=>?_,fun g a b d=>?_⟩<;>obtain⟨k,hk,hc,rfl⟩:=f g a;·exact⟨⟨Za9 _,by show(k:Int)<5;omega⟩,hc⟩
 ·have :=@QuI (vrsL c) (tcC c k).1 (tcC c k).2;have:=dom_c h;show(covV (vrsL c) (tcC c k).1 (tcC c k).2).length<=1000;omega
 exact QvQ (QcA h) b d
theorem QhU{α:Type}{p k}:∀{l:List α},l.Pairwise (fun x y=>¬(p x=true/\p y=true))->(l.filter k).find? p=(l.find? p).filter k
 |[],_=>rfl|a::l,h=>by
  obtain⟨h1,c⟩:=ZaB.1 h;have b:=QhU (k:=k) c;cases hp:p a
  ·rw[List.find?_cons_of_neg (by simp[hp]),ZbM];split;·rw[List.find?_cons_of_neg (by simp[hp]),b]
   exact b
  have d:l.find? p=none:=Zb1.2 fun x g f=>h1 x g ⟨hp,f⟩;rw[List.find?_cons_of_pos hp,ZbM];split;·rename_i hk;rw[List.find?_cons_of_pos hp];simp[Option.filter,hk]
  rename_i hk;rw[b,d];simp[Option.filter,hk]
theorem Qsg(es)(left)(v):sOut es left v=(sOut es (fun _=>true) v).filter fun e=>left e.2.2:=by unfold sOut;rw[List.filter_filter];refine ZbJ fun x _=>?_;cases left x.2.2<;>simp
theorem QvT(h:WfA a)(v ev):(sOut a.es (fun _=>true) v).Pairwise fun x y=>¬(decide (x.2.1=ev)=true/\decide (y.2.1=ev)=true):=by unfold sOut;refine(h.es.filter _).imp_of_mem fun{x y}d c f=>?_;have h1:=(Zbi.1 d).2;have b:=(Zbi.1 c).2;simp at h1 b⊢;omega
theorem Qod(h:WfA a){v}(c:(sAll a left).1[i]?=some v)(ev):stepA (restr a left).es i ev=(stepA a.es v ev).bind fun t=>if left t then some (SD.idx (sAll a left).1 t)else none:=by rw[Qe4,Qe4,QiH h c,Qsg,List.find?_map];have:=QhU (k:=fun e:Ed=>left e.2.2) (QvT h v ev);have e:(fun x:Ed=>decide (x.2.1=ev))∘num (sAll a left).1 i=fun x:Ed=>decide (x.2.1=ev):=rfl;rw[e,this];cases(sOut a.es (fun _=>true) v).find? fun x=>decide (x.2.1=ev)with|none=>rfl|some x=>
 show((if left x.2.2=true then some x else none).map _).map _=_;cases b:left x.2.2;·simp[b]
 simp[b,num]
theorem QnG{l}{T}{j}{t}{e}:∀{ev:List Nat},e∈ev->((rowE l ev T j t).find? fun x=>decide (x.2.1=e)).map (·.2.2)=(stepT l t e).map (ixT T)
 |[],h=>by cases h|y::ev,h=>by
  unfold rowE;rw[ZbA];by_cases b:y=e;·subst b;cases d:stepT l t y with|some n=>simp|none=>show(((rowE l ev T j t).find? fun x=>decide (x.2.1=y)).map (·.2.2))=none;rw[Option.map_eq_none_iff,Zb1];intro x g he;obtain⟨_,_,n,c,_⟩:=Qes g;rw[of_decide_eq_true he,d]at c;cases c
  have a:=QnG (l:=l) (T:=T) (j:=j) (t:=t) ((Zax.1 h).resolve_left fun f=>b f.symm);unfold rowE at a;cases d:stepT l t y with|some n=>simpa[b]using a|none=>simpa using a
theorem Qjy{l}(h:∀a∈l,WfI a){j}(b:(sync0 l).1[j]?=some t){e}(he:e∈evA l):stepA (syncA l).es j e=(stepT l t e).map (ixT (sync0 l).1):=by rw[Qe4,Qr8 h b,QnG he]
theorem Qpl(c:∀x∈v,0<=x.2/\x.2<=2){a:List Int}(k:∀(j:Nat)x,v[j]?=some x->0<=a.getD j 0/\a.getD j 0<=x.2)(h:∀(j:Nat)x,v[j]?=some x->0<=b.getD j 0/\b.getD j 0<=x.2):∀i,i<=v.length->ixQ v a i=ixQ v b i->∀j,j<i->a.getD j 0=b.getD j 0
 |0,_,_,j,l=>absurd l (ZaD _)|i+1,hi,he,j,l=>by
  obtain⟨x,d⟩:=Qak (l:=v) (i:=i) (by omega);have h1:=k i x d;have p:=h i x d;have q:=c x (Zac d);have m:ixQ v a (i+1)=ixQ v a i*(x.2+1)+a.getD i 0:=by rw[ixQ,QaA d]
  have n:ixQ v b (i+1)=ixQ v b i*(x.2+1)+b.getD i 0:=by rw[ixQ,QaA d]
  rw[m,n]at he;generalize hA:ixQ v a i=A at*;generalize o:ixQ v b i=B at*;have f:A=B/\a.getD i 0=b.getD i 0:=by
   have:x.2=0\/x.2=1\/x.2=2:=by omega
   rcases this with e|e|e<;>rw[e]at h1 p he<;>omega
  by_cases g:j=i;·subst g;exact f.2
  exact Qpl c k h i (by omega) (by rw[hA,o];exact f.1) j (by omega)
theorem QuJ{a:List Int}(c:a.length=b.length)(h:∀j,j<a.length->a.getD j 0=b.getD j 0):a=b:=by refine List.ext_getElem c fun j h1 d=>?_;have:=h j h1;rw[Zah,Zah,Zak h1,Zak d]at this;exact this
theorem nzInj{a b}(h:nz a=nz b):a=b:=by have h1:decide (nz a=nz b)=true:=decide_eq_true h;rw[Qrm]at h1;exact of_decide_eq_true h1
abbrev tC(c:Cel):Nat->List Int:=tplQ (Ac c) (Bc c)
theorem tpl_c(h:WfCel c)(ho:o<(Qc c).n):(tC c o).length=(vrsL c).length/\(∀(j:Nat)x,(vrsL c)[j]?=some x->0<=(tC c o).getD j 0/\(tC c o).getD j 0<=x.2)/\∃t,(Tc c)[o]?=some t/\tC c o=nz t:=by obtain⟨t,y,a,_,_,_,d,_,e⟩:=wld_c h o ho;have e:tC c o=nz t:=e;have b:=tup_c h (Zac a);refine⟨by rw[e,QmN];exact d,?_,t,a,e⟩;rw[e];exact b.2
theorem QuK(h:WfCel c){o'}(ho:o<(Qc c).n)(f:o'<(Qc c).n)(he:ixQ (vrsL c) (tC c o) (vrsL c).length=ixQ (vrsL c) (tC c o') (vrsL c).length):o=o':=by obtain⟨l,s,t,q,u⟩:=tpl_c h ho;obtain⟨n,m,w,i,p⟩:=tpl_c h f;have r:=Qpl (QcA h) s m _ (Zau _) he;have d:tC c o=tC c o':=QuJ (by rw[l,n]) fun j k=>r j (by rw[l]at k;exact k);rw[u,p]at d;have d:=nzInj d;subst d;have b:=(QdO (fun a g=>(Qca h a g).pos) (fun a g=>(Qca h a g).wf.esn)).nd;have v:=Qjt b q;have a2:=Qjt b i;rw[<-v,a2]
theorem Qp6(h:WfCel c){e}(ho:o<(Qc c).n)(f:0<=stepI (Qc c).es o e):0<=stepI (Pc c).es ((PPc c).getD o 0) e:=by
 obtain⟨t,y,g,_,_,k,_⟩:=wld_c h o ho;have u:y=ixT (sync0 (auL c.cs)).1 (t.take c.cs.length):=by
  have:(PPc c)[o]?=some (ixT (sync0 (auL c.cs)).1 (t.take c.cs.length)):=by show(List.map _ (Tc c))[o]?=_;rw[Zaz,g];rfl
  rw[k]at this;exact Option.some.inj this
 rw[QaA k,u];unfold stepI at f;cases a:stepA (Qc c).es o e with|none=>rw[a]at f;exact absurd f (by decide)|some to=>
  obtain⟨d,p,v⟩:=Zap.1 (Qc9 a);have b:e∈evA (allA c):=by have m:=(wB_c h).ev d p;have r:d.2.1=e:=congrArg Prod.snd v;rw[r]at m;exact m
  have h1:=Qjy (Qca h) g b;rw[a]at h1;cases l:stepT (allA c) t e with|none=>rw[l]at h1;cases h1|some n=>obtain⟨s,hp⟩:=Qpj h t (Zac g);have i:=Qju (A:=auL c.cs) (B:=auL c.rs) (Nat.le_of_eq s.1.symm) l;rw[Qbf]at i;have q:=Qjy (Qbq h) (Qj3 hp) (Qpi h b);unfold stepI;rw[q,i];exact Za9 _
theorem QnH{l:List α}{b d}(h:l.getD k d=b)(hk:k<l.length):l.set k b=l:=by rw[Zah,Zak hk]at h;have h:l[k]=b:=h;rw[<-h];exact List.set_getElem_self hk
theorem Qjz{l:List Bool}{j}(h:i≠j):(l.set i x).getD j false=l.getD j false:=by rw[Zah,List.getElem?_set_ne h,<-Zah]
section
variable{v:List (List UInt8×Int)}{A B:List (List Nat)}{P:List Nat}{pe se:List (Nat×Nat×Nat)}{O:List Nat}{ev:Nat}
theorem QnI(b:∀j k,j<k->k<O.length->ixQ v (tplQ A B (O.getD j 0)) v.length≠ixQ v (tplQ A B (O.getD k 0)) v.length)(a:∀j,j<O.length->0<=ixQ v (tplQ A B (O.getD j 0)) v.length):∀i k,i<=k->k<O.length->(tcQ v A B P pe se O ev i).1.getD (ixQ v (tplQ A B (O.getD k 0)) v.length).toNat false=false/\(tcQ v A B P pe se O ev i).2.getD (ixQ v (tplQ A B (O.getD k 0)) v.length).toNat false=false
 |0,k,_,_=>by
  have:∀(n j:Nat),(List.replicate n false).getD j false=false:=fun n j=>by rw[Zah,List.getElem?_replicate];split<;>rfl
  exact⟨this _ _,this _ _⟩|i+1,k,d,hk=>by
  obtain⟨h1,c⟩:=QnI b a i k (by omega) hk;have f:=b i k (by omega) hk;have g:=a i (by omega);have a2:=a k hk;rw[tcQ];split;·exact⟨by rw[Qjz (by omega)];exact h1,by rw[Qjz (by omega)];exact c⟩
  exact⟨h1,c⟩
end
theorem Qtu(h:WfCel c)(ev i:Nat)(hi:i<(resC c).orig.length):let S:=tcQ (vrsL c) (Ac c) (Bc c) (PPc c) (Pc c).es (resC c).sup.es (resC c).orig ev i
 let K:=(ixQ (vrsL c) (tC c ((resC c).orig.getD i 0)) (vrsL c).length).toNat
 tcQ (vrsL c) (Ac c) (Bc c) (PPc c) (Pc c).es (resC c).sup.es (resC c).orig ev (i+1)=(S.1.set K (decide (0<=stepI (resC c).sup.es i ev)),S.2.set K (decide (0<=stepI (Pc c).es ((PPc c).getD ((resC c).orig.getD i 0) 0) ev))):=by
 dsimp only;have a:∀j,j<(resC c).orig.length->(resC c).orig.getD j 0<(Qc c).n:=fun j g=>by obtain⟨x,d⟩:=Qak g;rw[QaA d];exact Qfw h (Zac d)
 have n:(resC c).orig.Nodup:=(QdD (left:=lf (fin (Qc c).n (Qc c).es (Qc c).ms (fbd c) (uncL c.ev 5) true).1) (wB_c h).toWfA).1.fi.nd;have l:∀j,j<(resC c).orig.length->0<=ixQ (vrsL c) (tC c ((resC c).orig.getD j 0)) (vrsL c).length/\ixQ (vrsL c) (tC c ((resC c).orig.getD j 0)) (vrsL c).length<((dom (vrsL c)).length:Int):=fun j g=>by have h1:=Qd6 (QcA h) (tpl_c h (a j g)).2.1 (vrsL c).length (Zau _);have p:=Qen (QcA h) (vrsL c).length (Zau _);rw[Zan]at h1 p;rw[p];exact h1
 have u:∀j k,j<k->k<(resC c).orig.length->ixQ (vrsL c) (tC c ((resC c).orig.getD j 0)) (vrsL c).length≠ixQ (vrsL c) (tC c ((resC c).orig.getD k 0)) (vrsL c).length:=fun j k t hk he=>by have h1:=QuK h (a j (by omega)) (a k hk) he;obtain⟨x,d⟩:=Qak (l:=(resC c).orig) (i:=j) (by omega);obtain⟨y,o⟩:=Qak hk;rw[QaA d,QaA o]at h1;subst h1;have:=(List.getElem?_inj (by omega) n).1 (d.trans o.symm);omega
 obtain⟨f1,f2⟩:=QnI (P:=PPc c) (pe:=(Pc c).es) (se:=(resC c).sup.es) (ev:=ev) u (fun j g=>(l j g).1) i i (Zau _) hi;obtain⟨v,r⟩:=@Qet (vrsL c) (Ac c) (Bc c) (PPc c) (Pc c).es (resC c).sup.es (resC c).orig ev i;have q:(ixQ (vrsL c) (tplQ (Ac c) (Bc c) ((resC c).orig.getD i 0)) (vrsL c).length).toNat<(dom (vrsL c)).length:=by have b:0<=ixQ (vrsL c) (tplQ (Ac c) (Bc c) ((resC c).orig.getD i 0)) (vrsL c).length/\ixQ (vrsL c) (tplQ (Ac c) (Bc c) ((resC c).orig.getD i 0)) (vrsL c).length<((dom (vrsL c)).length:Int):=l i hi;omega
 rw[tcQ];by_cases hp:0<=stepI (Pc c).es ((PPc c).getD ((resC c).orig.getD i 0) 0) ev;·rw[if_pos hp,decide_eq_true hp]
 have f:¬0<=stepI (resC c).sup.es i ev:=fun f=>by refine hp (Qp6 h (a i hi) ?_);obtain⟨x,d⟩:=Qak hi;have m:=Qod (left:=lf (fin (Qc c).n (Qc c).es (Qc c).ms (fbd c) (uncL c.ev 5) true).1) (wB_c h).toWfA d ev;unfold stepI at f⊢;rw[QaA d];cases s:stepA (Qc c).es x ev with|none=>rw[s]at m;have m:stepA (resC c).sup.es i ev=none:=m;rw[m]at f;exact absurd f (by decide)|some to=>exact Za9 _
 rw[if_neg hp,decide_eq_false hp,decide_eq_false f,QnH f1 (by rw[v];exact q),QnH f2 (by rw[r];exact q)]
end Go.AM.SO
namespace Go.AM.WA
open Go.Proofs
set_option maxHeartbeats 4000000
noncomputable section
def cf:YA.Cf:={most:=.pure,always:=[86,130,207,209,211,212,213,257].map fun k=>(k,.heap)}
def s3:SFn:=by
 refine(?f:YA.Yt Tryz.prog cf 3 [[0,2],[16,17,18,19,20,21],[1,22,23],[2,1,22,25,26,24,27,28],[4,29],[3,30],[2,30,32,33,31,34,35],[36,37],[6,38,39,40,41,42,43,44,45],[3,5,7,46],[2,46],[47,48,49],[50,53,54,55,56,57,58,59,60],[3,5,7,8,93,92,102,101,82,81,61],[2,61,51,52],[5,7,8,63,64,62,65,66],[68,69,67,70,71,72,11],[3,74,75,73,76,77],[82,81,13,15,78,79,80],[93,92,102,101,9,10,12,14,83],[2,83,84,85,86],[93,92,102,101,9,10,12,14,87,88,89,90,91,94],[93,92,102,101,9,10,12,14,87,95,96,97,98,99,100,103]]) ?s ?h;case h=>exact YA.rr
 exact fun s _=>s
def s11:SFn:=by
 refine(?f:YA.Yt Tryz.prog cf 11 [[0,2,3],[1,4,5,6,7]]) ?s ?h;case h=>exact YA.rr
 exact fun s _=>s
def s13:SFn:=by
 refine(?f:YA.Yt Tryz.prog cf 13 [[0,2,3],[28,29,27,30,31],[32],[1,4,5,33,34],[2,3,33,36,37,35,38,39,40],[41],[1,4,5,6,7,42,43],[2,3,5,42,44,45,46],[1,4,6,7,47],[2,3,47,49,50,48,51,52,53,9],[54],[1,4,6,7,8,5,55,56],[2,3,5,55],[],[],[60,61,62],[12,63,64,65,66,67],[68],[8,57,58,59,69,70,71,72,73],[1,75,76,77,74,78,79,16],[],[15],[],[83,84,85],[86,87,88,89],[90],[],[94,95,96,97],[98,99,100,101,102],[23,103,104,105,106,107,108,109,110,111,112,113],[22,24,114,115,116,117,118,119,120],[121],[20,21,91,92,93,123,124,125,126,122,127,128],[129],[4,6,7,10,13,14,17,80,81,82,19,25,26,130,131],[2,3,19,25,26,130,132,133,134,135,136,137],[138],[4,6,7,10,13,14,17,80,81,82,139]]) ?s ?h;case h=>exact YA.rr
 exact fun s _=>s
def s48:SFn:=by
 refine(?f:YA.Yt Tryz.prog cf 48 [[4],[],[0],[],[11,12,13,14],[7,6,15,16,17,18,19,20,21,22,23,24],[25],[1,5,8,9,10,26]]) ?s ?h;case h=>exact YA.rr
 exact fun s _=>s
def s51:SFn:=by
 refine(?f:YA.Yt Tryz.prog cf 51 [[6,7],[11,12,10,13,14],[15],[0,1,2,8,9,16,17],[6,7,9,16,18,19,20,21,22,23,24,25,26,27,28],[0,1,2,8,29],[0,1,2,8,29,30,31,32,33,34]]) ?s ?h;case h=>exact YA.rr
 exact fun s _=>s
def s111:SFn:=by
 refine(?f:YA.Yt Tryz.prog cf 111 [[2,3],[15,16],[17],[0,4,18,19],[2,3,4,18],[],[],[23,24,25],[7,26,27,28,29,30,31,32,33],[34],[0,5,20,21,22,35],[2,3,35,36],[5,20,21,22,37],[0],[],[41,42,43],[],[8],[],[47,48,49],[50,51],[52,53,54],[55,58,59,60,61,62,63,64,65],[56,57],[13,14,66],[10,11,44,45,46,67],[68],[8,38,39,40,69]]) ?s ?h;case h=>exact YA.rr
 exact fun s _=>s
def s112:SFn:=by
 refine(?f:YA.Yt Tryz.prog cf 112 [[8],[0,12,13,14],[1],[],[18,19,20,21],[29,30,31,32,33],[10,28,35,36,37,38],[11,34,39,40,41,42,43,44],[11,34,22,23,24,25,26,27],[10,11,28,45],[2,3,9,15,16,17,46,47]]) ?s ?h;case h=>exact YA.rr
 exact fun s _=>s
def s167:SFn:=by
 refine(?f:YA.Yt Tryz.prog cf 167 [[2],[5,6],[0,7],[2,7],[],[11,12,13,14],[16,17,18,19],[0,8,9,10,52,49,51,50,48,33,32,31,4,3,15],[3,15,21,22,23,24,25],[0,8,9,10,52,49,51,50,48,33,32,31,4,20],[20,27,28,29,30,34],[0,8,9,10,52,49,51,50,48,33,32,31,4,26],[26,36,37,38,39,40],[0,8,9,10,52,49,51,50,48,33,32,31,4,35],[4,35,42,43,44,45,46,47,53],[0,8,9,10,52,49,51,50,48,33,32,31,41],[2,41,54],[0,8,9,10,52,49,51,50,48,33,32,31]]) ?s ?h;case h=>exact YA.rr
 exact fun s _=>s
def s168:SFn:=by
 refine(?f:YA.Yt Tryz.prog cf 168 [[0,2],[],[9],[],[13,14,15],[16,17,18],[5,19,20,21,22,23,24,25],[5,19,26],[10,11,12],[27,28,29],[30,31,32,33,34,35,36],[37,38,39,40,41],[8],[7,42,43],[7,42,44,45],[6],[46],[1,3,6,47]] [(7,[(1,2),(1,3),(0,6),(1,6),(2,6),(3,6),(5,6)])]) ?s ?h;case h=>exact YA.rr
 exact fun s _=>s
def s209:SFn:=by
 refine(?f:YA.Yt Tryz.prog cf 209 [[1,4],[0,3,5,6,7]]) ?s ?h;case h=>exact YA.rr
 exact fun s _=>s
def s210:SFn:=by
 refine(?f:YA.Yt Tryz.prog cf 210 [[0],[1,8,9,10,11,12],[13],[],[17,18,19,20],[21,22,23,24,25,26,27],[28,29,30,31,32,33,34,35],[36,37,38],[39,40,41,42,43,44,45,46],[47,48,49,50,51,52,53],[54,55,56,57,58,59,60,61],[62,63,64],[7,6,65,66,67,68,69,70,71,72],[7,6,73],[2,5,14,15,16,74]]) ?s ?h;case h=>exact YA.rr
 exact fun s _=>s
def s212:SFn:=by
 refine(?f:YA.Yt Tryz.prog cf 212 [[2],[3],[0,4],[0,4,5,6,7]]) ?s ?h;case h=>exact YA.rr
 exact fun s _=>s
end
end Go.AM.WA
namespace Go.AM.WB
open Go.Proofs
set_option maxHeartbeats 4000000
noncomputable section
def cf:YA.Cf:={most:=.pure,value:=.pure}
def s103:SFn:=by
 refine(?f:YA.Yt Tryz.prog cf 103 [[0,2],[1,3,4]]) ?s ?h;case h=>exact YA.rr
 exact fun s _=>s
def s142:SFn:=by
 refine(?f:YA.Yt Tryz.prog cf 142 [[4],[0,1,5,6,7,8,9,10,11,12,13]]) ?s ?h;case h=>exact YA.rr
 exact fun s _=>s
def s207:SFn:=by
 refine(?f:YA.Yt Tryz.prog cf 207 [[4],[0,1,5,6,7,8]]) ?s ?h;case h=>exact YA.rr
 exact fun s _=>s
def s208:SFn:=by
 refine(?f:YA.Yt Tryz.prog cf 208 [[0,3],[1,2,4,5,6,7,8]]) ?s ?h;case h=>exact YA.rr
 exact fun s _=>s
def s213:SFn:=by
 refine(?f:YA.Yt Tryz.prog cf 213 [[4],[0,1,5,6,7,8]]) ?s ?h;case h=>exact YA.rr
 exact fun s _=>s
def s214:SFn:=by
 refine(?f:YA.Yt Tryz.prog cf 214 [[5],[0,1,2,3,6,7,8,9,10,11,12,13,14,15,16,17]]) ?s ?h;case h=>exact YA.rr
 exact fun s _=>s
def s215:SFn:=by
 refine(?f:YA.Yt Tryz.prog cf 215 [[0,4],[1],[],[10,11,12,13],[5,6,14,15,16,17,18,19,20,21],[2,7,8,9,28,22,27,26,24,25,23,29],[4,29,30],[2,7,8,9,28,22,27,26,24,25,23]]) ?s ?h;case h=>exact YA.rr
 exact fun s _=>s
def s255:SFn:=by
 refine(?f:YA.Yt Tryz.prog cf 255 [[4],[6],[],[9,10],[11,12,13,14,15],[0,1,7,8,5,16,17],[4,5,16,18],[0,1,7,8]]) ?s ?h;case h=>exact YA.rr
 exact fun s _=>s
def s256:SFn:=by
 refine(?f:YA.Yt Tryz.prog cf 256 [[0,3],[1,2,4,5,6]]) ?s ?h;case h=>exact YA.rr
 exact fun s _=>s
def s257:SFn:=by
 refine(?f:YA.Yt Tryz.prog cf 257 [[0,1,4],[2,3,5,6,7,8,9,10]]) ?s ?h;case h=>exact YA.rr
 exact fun s _=>s
def s258:SFn:=by
 refine(?f:YA.Yt Tryz.prog cf 258 [[4],[6],[],[9,10],[11,12,13,14,15],[0,1,7,8,5,16,17],[4,5,16,18],[0,1,7,8]]) ?s ?h;case h=>exact YA.rr
 exact fun s _=>s
end
end Go.AM.WB
namespace Go.AM.SO
open Go.Proofs Go.AM.SD Go.AM.SE
variable{i:Nat}{α:Type}{l:List α}{x:α}{Q:α->Bool}
theorem contains215(b)(t)(h1:b.lo.length=t.length)(r:b.hi.length=t.length)(s:t.length<=9223372036854775807):Ps 215 [bxV b,sli t] (.bool (inB b t)):=by
 refine Zcn 64 (Ok WB.s215) rfl (by simp only[noRefs,noRef,Qaa];rfl) rfl ?_;unfold WB.s215;refine Zc0 ?_;refine QaC 100 (fun i:Nat=>[(2,.ptr 51 0 0),(7,sli t),(8,.int .i64 t.length),(9,.int .i64 i)]) (fun _=>[(51,.cells 0 [sli b.lo,sli b.hi])]) (fun i=>i<=t.length/\∀(j:Nat)x,j<i->t[j]?=some x->b.lo.getD j 0<=x/\x<=b.hi.getD j 0) (fun i=>t.length-i) 0 ⟨[(51,.blk 64 0)],rfl,au0,au42,au41⟩ ⟨Zai _,fun j x o=>absurd o (ZaD _)⟩ ?_;rintro i⟨hi,m⟩;by_cases a:i<t.length
 ·obtain⟨x,g⟩:=Qak a;obtain⟨p,hp⟩:=Qak (l:=b.lo) (i:=i) (by omega);obtain⟨q,h⟩:=Qak (l:=b.hi) (i:=i) (by omega);have d:i<b.lo.length:=by omega
  have c:i<b.hi.length:=by omega
  have l:b.lo.getD i 0=p:=QaA hp;have n:b.hi.getD i 0=q:=QaA h;by_cases k:x<p;·refine Zc1 (Zc7 a d c (QaI g) (QaI hp) (QaI h) k) ?_;exact⟨.inr trivial,_,rfl,by rw[Qe0 g (.inl (by rw[l];exact k))];rfl⟩
  by_cases b2:q<x;·refine Zc1 (Zc8 a d c (QaI g) (QaI hp) (QaI h) k b2) ?_;exact⟨.inr trivial,_,rfl,by rw[Qe0 g (.inr (by rw[n];exact b2))];rfl⟩
  refine Zc1 (Zc8 a d c (QaI g) (QaI hp) (QaI h) k b2) ?_;refine⟨i+1,by omega,⟨by omega,fun j y o f=>?_⟩,⟨[(51,.blk 51 0)],rfl,au0,au42,au41⟩⟩;by_cases e:j=i;·subst e;rw[g]at f;cases f;rw[l,n];omega
  exact m j y (by omega) f
 exact b7Sxb
theorem in256(b)(t)(h1:b.lo.length=t.length)(a:b.hi.length=t.length)(c:t.length<=9223372036854775807):Ps 256 [bxV b,.fptr [sli t]] (.bool (inB b t)):=by have hc:=contains215 b t h1 a c;refine Zcn 64 (Ok WB.s256) rfl (by simp only[noRefs,noRef,Qaa];rfl) rfl ?_;unfold WB.s256;refine Zc0 ?_;refine cp hc ?_;refine Zc0 ?_;exact⟨.inr trivial,_,rfl,rfl⟩
theorem QvU(a:l[i]?=some x)(h:Q x=true):l.any Q=true:=Zby.2 ⟨x,Zac a,h⟩
theorem QvV(h:∀(j:Nat)x,l[j]?=some x->Q x=false):l.any Q=false:=by rw[List.any_eq_false];intro x b;obtain⟨j,a,rfl⟩:=Za4 b;rw[h j _ (Zak a)];decide
def plQ{α:Type}(l:List α)(Q:α->Bool):Int:=if l.any Q then(l.findIdx Q:Int)else-1
theorem Qpm:decide (0<=plQ l Q)=l.any Q:=by unfold plQ;cases l.any Q with|true=>simp|false=>rfl
theorem Qsh(a:l[i]?=some x)(h:Q x=true)(hc:∀(j:Nat)y,j<i->l[j]?=some y->Q y=false):plQ l Q=i:=by have b:=(Zaj.1 a).1;have c:=(Zaj.1 a).2;have hf:l.findIdx Q=i:=(Zcc b).2 ⟨by rw[c];exact h,fun j d=>hc j _ d (Zak (by omega))⟩;unfold plQ;rw[if_pos (QvU a h),hf]
theorem Qsi(h:∀(j:Nat)x,l[j]?=some x->Q x=false):plQ l Q=-1:=by unfold plQ;rw[QvV h];rfl
section
variable{f:Nat}{a c:List AV}
theorem index182G(l)(Q:Bxn->Bool)(p:noRef (.fn f a c)=true)(r:l.length<=9223372036854775807)(q:∀b∈l,Ps f (a++[bxV b]++c) (.bool (Q b))):Ps 182 [bxsV l,.fn f a c] (.int .i64 (plQ l Q)):=by
 refine Zcn 64 (Ok UK.s182) rfl (by rw[noRefs,noRefs,p,QbM];rfl) rfl ?_;unfold UK.s182;refine Zc0 ?_;refine QaC 100 (fun i:Nat=>[(0,bxsV l),(1,.fn f a c),(7,.int .i64 l.length),(8,.int .i64 i)]) (fun _=>[]) (fun i=>i<=l.length/\∀(j:Nat)x,j<i->l[j]?=some x->Q x=false) (fun i=>l.length-i) 0 ?_ ⟨Zai _,fun j x o=>absurd o (ZaD _)⟩ ?_;·exact⟨[],rfl,Zcs,Zcv,Zcu (Zck (QbM _)) (Zcu (Zck p) (Zcu (Zck rfl) (Zcu (Zck rfl) Zct)))⟩
 rintro i⟨hi,hc⟩;by_cases d:i<l.length
 ·obtain⟨b,n⟩:=Qak d;have h:=Qfl n;have k:2<=((l.flatMap bxC).drop (i*2)).length:=by rw[h];simp
  have hw:=q b (Zac n);cases m:Q b with|true=>rw[m]at hw;refine Zc1 (Zc3 d h k) ?_;refine cpcP hw ?_;refine Zc0 ?_;refine⟨.inr trivial,_,rfl,?_⟩;rw[Qsh n m fun j y o g=>hc j y o g];rfl|false=>
   rw[m]at hw;refine Zc1 (Zc3 d h k) ?_;refine cpcP hw ?_;refine Zc0 ?_;refine⟨i+1,by omega,⟨by omega,fun j y o g=>?_⟩,?_⟩
   ·by_cases e:j=i;·subst e;rw[n]at g;cases g;exact m
    exact hc j y (by omega) g
   exact⟨[],rfl,Zcs,Zcv,Zcu (Zck (QbM _)) (Zcu (Zck p) (Zcu (Zck rfl) (Zcu (Zck rfl) Zct)))⟩
 exact bNqdD
theorem contains130G(l)(Q:Bxn->Bool)(g:noRef (.fn f a c)=true)(i:l.length<=9223372036854775807)(h:∀b∈l,Ps f (a++[bxV b]++c) (.bool (Q b))):Ps 130 [bxsV l,.fn f a c] (.bool (l.any Q)):=by
 have hi:=index182G l Q g i h;refine Zcn 64 (Ok UK.s130) rfl (by rw[noRefs,noRefs,g,QbM];rfl) rfl ?_;rw[<-Qpm];generalize plQ l Q=k at*;unfold UK.s130;refine Zc0 ?_;refine ch (ZcI (Zcr _) hi rfl) ?_;exact bJZ5E
theorem index258(l)(Q:List Int->Bool)(n:noRef (.fn f a c)=true)(p:l.length<=9223372036854775807)(o:∀b∈l,Ps f (a++[sli b]++c) (.bool (Q b))):Ps 258 [liV l,.fn f a c] (.int .i64 (plQ l Q)):=by
 refine Zcn 64 (Ok WB.s258) rfl (by rw[noRefs,noRefs,n,QbD];rfl) rfl ?_;unfold WB.s258;refine Zc0 ?_;refine QaC 100 (fun i:Nat=>[(0,liV l),(1,.fn f a c),(7,.int .i64 l.length),(8,.int .i64 i)]) (fun _=>[]) (fun i=>i<=l.length/\∀(j:Nat)x,j<i->l[j]?=some x->Q x=false) (fun i=>l.length-i) 0 ?_ ⟨Zai _,fun j x m=>absurd m (ZaD _)⟩ ?_;·exact⟨[],rfl,Zcs,Zcv,Zcu (Zck (QbD _)) (Zcu (Zck n) (Zcu (Zck rfl) (Zcu (Zck rfl) Zct)))⟩
 rintro i⟨hi,hc⟩;by_cases d:i<l.length;·obtain⟨b,h⟩:=Qak d;have hw:=o b (Zac h);cases k:Q b with|true=>rw[k]at hw;refine Zc1 (Zc2 d (Qbu h)) ?_;refine cpcP hw ?_;refine Zc0 ?_;refine⟨.inr trivial,_,rfl,?_⟩;rw[Qsh h k fun j y m g=>hc j y m g];rfl|false=>
  rw[k]at hw;refine Zc1 (Zc2 d (Qbu h)) ?_;refine cpcP hw ?_;refine Zc0 ?_;refine⟨i+1,by omega,⟨by omega,fun j y m g=>?_⟩,?_⟩
  ·by_cases e:j=i;·subst e;rw[h]at g;cases g;exact k
   exact hc j y (by omega) g
  exact⟨[],rfl,Zcs,Zcv,Zcu (Zck (QbD _)) (Zcu (Zck n) (Zcu (Zck rfl) (Zcu (Zck rfl) Zct)))⟩
 exact bNqdD
theorem contains213(l)(Q:List Int->Bool)(g:noRef (.fn f a c)=true)(i:l.length<=9223372036854775807)(h:∀b∈l,Ps f (a++[sli b]++c) (.bool (Q b))):Ps 213 [liV l,.fn f a c] (.bool (l.any Q)):=by
 have hi:=index258 l Q g i h;refine Zcn 64 (Ok WB.s213) rfl (by rw[noRefs,noRefs,g,QbD];rfl) rfl ?_;rw[<-Qpm];generalize plQ l Q=k at*;unfold WB.s213;refine Zc0 ?_;refine cp hi ?_;exact bJZ5E
end
theorem in209(l:List Bxn)(t:List Int)(d:l.length<=9223372036854775807)(a:∀b∈l,b.lo.length=t.length/\b.hi.length=t.length)(c:t.length<=9223372036854775807):Ps 209 [bxsV l,sli t] (.bool (inBs l t)):=by have hi:=contains130G (f:=256) (a:=[]) (c:=[.fptr [sli t]]) l (fun b=>inB b t) (by simp only[noRef,noRefs,Qaa];rfl) d fun b hm=>in256 b t (a b hm).1 (a b hm).2 c;have hi:Ps 130 [bxsV l,.fn 256 [] [.fptr [sli t]]] (.bool (inBs l t)):=hi;refine Zcn 64 (Ok WA.s209) rfl (by simp only[noRefs,noRef,Qaa,Qau];rfl) rfl ?_;generalize inBs l t=B at*;unfold WA.s209;refine Zc0 ?_;refine ch (ZcI (ZcL (Zcq _) (ZcL (FrzTo.fn ZcK (ZcL (ZcH gg (Zcr _)) ZcK)) ZcK)) hi rfl) ?_;refine Zc0 ?_;exact⟨.inr trivial,_,rfl,rfl⟩
abbrev cvV(v:List (List UInt8×Int))(A nd rf:List (List Int)):AV:=.agg [vrsV v,liV A,liV nd,liV rf]
def okR(rf:List (List Int))(b:Bxn):Bool:=!rf.any (inB b)
theorem free257(v)(A nd rf:List (List Int))(b:Bxn)(c:rf.length<=1000000)(a:∀t∈rf,b.lo.length=t.length/\b.hi.length=t.length)(h1:b.lo.length<=1000000):Ps 257 [cvV v A nd rf,bxV b] (.bool (okR rf b)):=by have hi:=contains213 (f:=215) (a:=[bxV b]) (c:=[]) rf (inB b) (by simp only[noRef,noRefs,Qaa];rfl) (by omega) fun t hm=>contains215 b t (a t hm).1 (a t hm).2 (by have:=(a t hm).1;omega);refine Zcn 64 (Ok WB.s257) rfl (by simp only[noRefs,noRef,Qaa,Qay,QaD];rfl) rfl ?_;unfold okR;generalize rf.any (inB b)=B at*;unfold WB.s257;refine Zc0 ?_;refine cp hi ?_;refine Zc0 ?_;exact⟨.inr trivial,_,rfl,rfl⟩
theorem spare214(l o:List Bxn)(i:Nat)(b)(t:List Int)(hi:l[i]?=some b)(m:l.length<=1000000)(ho:o.length<=1000000)(g:b.lo.length=t.length/\b.hi.length=t.length)(c:∀b∈o,b.lo.length=t.length/\b.hi.length=t.length)(k:t.length<=1000000):Ps 214 [sli t,.fptr [bxsV l],.fptr [.int .i64 (i:Int)],.fptr [bxsV o]] (.bool (inB b t&&!inBs o t)):=by
 have h1:=contains215 b t g.1 g.2 (by omega);have h:=in209 o t (by omega) c (by omega);refine Zcn 64 (Ok WB.s214) rfl (by simp only[noRefs,noRef,Qaa,Qau];rfl) rfl ?_;have d:=(Zaj.1 hi).1;have a:=Qfl hi;have f:2<=((l.flatMap bxC).drop (i*2)).length:=by rw[a];simp
 generalize inBs o t=B2 at*;generalize inB b t=B1 at*;unfold WB.s214;refine Zc1 (Zc3 d a f) ?_;refine cp h1 ?_;cases B1 with|false=>refine Zc0 ?_;exact⟨.inr trivial,_,rfl,rfl⟩|true=>refine Zc0 ?_;refine cp h ?_;refine Zc0 ?_;exact⟨.inr trivial,_,rfl,rfl⟩
theorem cloneJ86(l)(d:l.length<=1000000):HSpec Tryz.prog 86 [sli l] .e (.sl 84 0 0 l.length 1) (hp [(84,.cells 0 (ints l))]):=by
 cases l with|nil=>
  have h1:HSpec Tryz.prog 86 [.nilsl] .e (.sl 84 0 0 0 1) (hp [(84,.cells 0 [])]):=by refine ZcN 100 (Ok s86) rfl ?_;unfold s86;refine Zc1 @Qi9 ?_;exact⟨.inr trivial,_,rfl,⟨[(84,.nil)],rfl,au0,au23,au24⟩⟩
  have b:HSpec Tryz.prog 86 [.nsl] .e (.sl 84 0 0 0 1) (hp [(84,.cells 0 [])]):=by refine ZcN 100 (Ok s86) rfl ?_;unfold s86;refine Zc1 (Zc2 @Qja @QhO) ?_;exact⟨.inr trivial,_,rfl,⟨[(84,.blk 103 1)],rfl,au0,au23,au24⟩⟩
  exact HSpec.empty h1 b|cons x l=>
  refine ZcN 100 (Ok s86) rfl ?_;have c:aEq (.nil 2) false (sli (x::l)) .nilsl=some (.bool false):=rfl;have a:(ints (x::l)).all AV.one=true:=by simp[ints,AV.one]
  generalize x::l=q at*;unfold s86;refine Zc1 (Zc2 c a) ?_;exact⟨.inr trivial,_,rfl,⟨[(84,.blk 103 1)],rfl,au0,au23,au24⟩⟩
abbrev gSo(v:List (List UInt8×Int))(A nd rf:List (List Int))(b:Bxn)(n:Nat):List (Nat×Blk):=(50,.cells 0 [vrsV v,liV A,liV nd,liV rf])::gSt b n
abbrev gSi(x:List UInt8×Int)(v:List (List UInt8×Int))(A nd rf:List (List Int))(b:Bxn)(n:Nat):List (Nat×Blk):=[(50,.cells 0 [vrsV v,liV A,liV nd,liV rf]),(51,.cells 0 [.nilsl,.nilsl]),(52,.cells 0 [.sl 61 0 0 n 1,.sl 62 0 0 n 1]),(53,.cells 0 [.str x.1,.int .i64 0,.int .i64 x.2,.int .i64 0]),(61,.cells 0 (ints b.lo)),(62,.cells 0 (ints b.hi))]
theorem grow210(v:List (List UInt8×Int))(a:List Int)(A nd rf:List (List Int))(h5:v.length<=5)(M:∀x∈v,0<=x.2/\x.2<=2)(ha:a.length=v.length)(R:∀(j:Nat)x,v[j]?=some x->0<=a.getD j 0/\a.getD j 0<=x.2)(X:rf.length<=1000000)(L:∀y∈rf,y.length=v.length):Ps 210 [cvV v A nd rf,sli a] (bxV (grB (okR rf) v a v.length)):=by
 have hR:=@grB_R (okR rf) v a M ha R;have s:=fun(b:Bxn)(h:BxR v b)=>free257 v A nd rf b X (fun t ht=>⟨by rw[h.1,L t ht],by rw[h.2.1,L t ht]⟩) (by rw[h.1];omega);have Q:=cloneI86 a (by omega);have Y:=cloneJ86 a (by omega);have g:noRefs [vrsV v,liV A,liV nd,liV rf]=true:=by simp only[noRefs,noRef,Qay,QaD];rfl
 refine Zcm 64 (Ok WA.s210) rfl (by simp only[noRefs,noRef,Qaa,Qay,QaD];rfl) (by simp only[noRef,noRefs,Qaa];rfl) ?_;have K:(ints a).all AV.one=true:=by simp[ints,AV.one]
 have O:(ints a).length=a.length:=by simp[ints]
 unfold WA.s210;refine Zc0 ?_;refine ch (ZcM (b:=83) (by(try simp only[noRefs,Qaa,noRef,noRefs,Qau,Qay,QaD,QaB,Zae,Zad])<;>rfl) Q (by repeat(first|exact Fresh.e|exact Zco (by assumption) (by omega)|refine Zcp ?_ (by omega) (by omega))) rfl) ?_;refine Zc0 ?_;refine ch (ZcM (b:=84) (by(try simp only[noRefs,Qaa,noRef,noRefs,Qau,Qay,QaD,QaB,Zae,Zad])<;>rfl) Y (by repeat(first|exact Fresh.e|exact Zco (by assumption) (by omega)|refine Zcp ?_ (by omega) (by omega))) rfl) ?_;refine Zc1 (Zc3 K O ha) ?_;refine QaC 100 (fun i:Nat=>[(2,.ptr 50 0 0),(4,.ptr 51 0 0),(5,.ptr 52 0 0),(14,vrsV v),(15,.int .i64 v.length),(16,.int .i64 i)]) (fun i=>gSo v A nd rf (grB (okR rf) v a i) v.length) (fun i=>i<=v.length) (fun i=>v.length-i) 0 ?_ (Zai _) ?_;·refine⟨[(50,.blk 64 0),(51,.blk 65 0),(52,.blk 71 0),(61,.blk 83 0),(62,.blk 84 0)],rfl,au0,?_,au24⟩;exact Zcw rfl rfl gg (Zcl g) (Zcw rfl rfl gg (Zcl rfl) (Zcw rfl rfl gg (ZcC (Rn.x1 rfl rfl) (ZcC (Rn.x1 rfl rfl) ZcB)) (Zcw rfl rfl gg (Zcl (Qaa _)) (Zcw rfl rfl gg (Zcl (Qaa _)) Zcv))))
 rintro i hi;have N:=hR i hi;have hg:=@Qip (okR rf) v a i;generalize P:grB (okR rf) v a i=B at*;by_cases d:i<v.length
 ·obtain⟨x,I⟩:=Qak d;have l:=Qb0 I;have q:4<=((v.flatMap vrC).drop (i*4)).length:=by rw[l];simp
  have V:=M x (Zac I);refine Zc1 (Zc3 d l q) ?_;refine Qar 140 (fun _:Bxn=>[(2,.ptr 50 0 0),(4,.ptr 51 0 0),(5,.ptr 52 0 0),(14,vrsV v),(15,.int .i64 v.length),(16,.int .i64 i),(6,.int .i64 i),(7,.ptr 53 0 0)]) (fun b=>gSi x v A nd rf b v.length) (fun b=>BxR v b/\dnA (okR rf) i b=dnA (okR rf) i B) (fun b=>(b.lo.getD i 0).toNat) B 2 200 (fun _:Unit=>[(2,.ptr 50 0 0),(4,.ptr 51 0 0),(5,.ptr 52 0 0),(14,vrsV v),(15,.int .i64 v.length),(16,.int .i64 i),(6,.int .i64 i),(7,.ptr 53 0 0)]) (fun _=>gSi x v A nd rf (dnA (okR rf) i B) v.length) (fun _=>True) ?_ ⟨N,rfl⟩ ?_ ?_;·refine⟨[(50,.blk 50 0),(51,.blk 51 0),(52,.blk 52 0),(53,.blk 104 0),(61,.blk 61 0),(62,.blk 62 0)],rfl,au0,?_,au24⟩;exact Zcw rfl rfl gg (Zcl g) (Zcw rfl rfl gg (Zcl rfl) (Zcw rfl rfl gg (ZcC (Rn.x1 rfl rfl) (ZcC (Rn.x1 rfl rfl) ZcB)) (Zcw rfl rfl gg (Zcl rfl) (Zcw rfl rfl gg (Zcl (Qaa _)) (Zcw rfl rfl gg (Zcl (Qaa _)) Zcv)))))
  ·rintro b⟨h,C⟩;obtain⟨y,z⟩:=Qak (l:=b.lo) (i:=i) (by have:=h.1;omega);have c:b.lo.getD i 0=y:=QaA z;have k:i<b.lo.length:=by have:=h.1;omega
   have S:=h.1;have n:(ints b.lo).length=v.length:=by simp[ints,h.1]
   have T:=h.2.2 i x I;rw[c]at T;have o:(ints b.lo)[i]?=some (.int .i64 y):=by simp[ints,z]
   by_cases r:(0:Int)<y
   ·have p:i+1<=v.length:=by omega
    have m:0<b.lo.getD i 0:=by rw[c];exact r
    have H:(ints b.lo).set i (.int .i64 (y-1))=ints (dnB b i).lo:=by rw[Qbk,dnB,c]
    have f:=h.dn d m;have F:=s _ f;have E:(dnB b i).lo[i]?=some (y-1):=by show(b.lo.set i (b.lo.getD i 0-1))[i]?=_;rw[Zbu k,c]
    have G:(ints (dnB b i).lo)[i]?=some (.int .i64 (y-1)):=by simp[ints,E]
    have w:(ints (dnB b i).lo).length=v.length:=by simp[ints,f.1]
    have u:(ints (dnB b i).lo).set i (.int .i64 (y-1+1))=ints b.lo:=by rw[Qbk];show ints ((b.lo.set i _).set i _)=_;rw[Int.sub_add_cancel,Qf0 z]
    refine Zc1 (Zc8 d n o l q r p H) ?_;refine ch (ZcI (ZcL (Zcq _) (ZcL (FrzTo.agg (ZcL (QcK gg f.1) (ZcL (QcK gg f.2.1) ZcK))) ZcK)) F rfl) ?_;cases J:okR rf (dnB b i)with|true=>refine Zc0 ?_;refine⟨dnB b i,by rw[QgT k,c];omega,⟨f,by rw[<-C];exact(Qpa k m J).symm⟩,?_⟩;refine⟨[(50,.blk 50 0),(51,.blk 51 0),(52,.blk 52 0),(53,.blk 53 0),(61,.blk 61 0),(62,.blk 62 0)],rfl,au0,?_,au24⟩;exact Zcw rfl rfl gg (Zcl g) (Zcw rfl rfl gg (Zcl rfl) (Zcw rfl rfl gg (ZcC (Rn.x1 rfl rfl) (ZcC (Rn.x1 rfl rfl) ZcB)) (Zcw rfl rfl gg (Zcl rfl) (Zcw rfl rfl gg (Zcl (Qaa _)) (Zcw rfl rfl gg (Zcl (Qaa _)) Zcv)))))|false=>refine Zc1 (Zc5 d G w p u) ?_;refine⟨(),?_⟩;rw[<-C,QrL J];refine⟨[(50,.blk 50 0),(51,.blk 51 0),(52,.blk 52 0),(53,.blk 53 0),(61,.blk 61 0),(62,.blk 62 0)],rfl,au0,?_,au24⟩;exact Zcw rfl rfl gg (Zcl g) (Zcw rfl rfl gg (Zcl rfl) (Zcw rfl rfl gg (ZcC (Rn.x1 rfl rfl) (ZcC (Rn.x1 rfl rfl) ZcB)) (Zcw rfl rfl gg (Zcl rfl) (Zcw rfl rfl gg (Zcl (Qaa _)) (Zcw rfl rfl gg (Zcl (Qaa _)) Zcv)))))
   refine Zc1 (Zc6 d n o l q r) ?_;refine⟨(),?_⟩;rw[<-C,dnA_0 (by rw[c];exact r)];refine⟨[(50,.blk 50 0),(51,.blk 51 0),(52,.blk 52 0),(53,.blk 53 0),(61,.blk 61 0),(62,.blk 62 0)],rfl,au0,?_,au24⟩;exact Zcw rfl rfl gg (Zcl g) (Zcw rfl rfl gg (Zcl rfl) (Zcw rfl rfl gg (ZcC (Rn.x1 rfl rfl) (ZcC (Rn.x1 rfl rfl) ZcB)) (Zcw rfl rfl gg (Zcl rfl) (Zcw rfl rfl gg (Zcl (Qaa _)) (Zcw rfl rfl gg (Zcl (Qaa _)) Zcv)))))
  rintro _ _;have hD:BxR v (dnA (okR rf) i B):=dnF_R d _ _ N (Zau _);have U:grI (okR rf) v B i=upA (okR rf) i x.2 (dnA (okR rf) i B):=by unfold grI;rw[QaA I]
  generalize dnA (okR rf) i B=D at*;refine Zc0 ?_;refine Qar 300 (fun _:Bxn=>[(2,.ptr 50 0 0),(4,.ptr 51 0 0),(5,.ptr 52 0 0),(14,vrsV v),(15,.int .i64 v.length),(16,.int .i64 i),(6,.int .i64 i),(7,.ptr 53 0 0)]) (fun b=>gSi x v A nd rf b v.length) (fun b=>BxR v b/\upA (okR rf) i x.2 b=upA (okR rf) i x.2 D) (fun b=>(x.2-b.hi.getD i 0).toNat) D 4 360 (fun _:Unit=>[(2,.ptr 50 0 0),(4,.ptr 51 0 0),(5,.ptr 52 0 0),(14,vrsV v),(15,.int .i64 v.length),(16,.int .i64 i)]) (fun _=>gSo v A nd rf (upA (okR rf) i x.2 D) v.length) (fun _=>True) ?_ ⟨hD,rfl⟩ ?_ ?_;·refine⟨[(50,.blk 50 0),(51,.blk 51 0),(52,.blk 52 0),(53,.blk 53 0),(61,.blk 61 0),(62,.blk 62 0)],rfl,au0,?_,au24⟩;exact Zcw rfl rfl gg (Zcl g) (Zcw rfl rfl gg (Zcl rfl) (Zcw rfl rfl gg (ZcC (Rn.x1 rfl rfl) (ZcC (Rn.x1 rfl rfl) ZcB)) (Zcw rfl rfl gg (Zcl rfl) (Zcw rfl rfl gg (Zcl (Qaa _)) (Zcw rfl rfl gg (Zcl (Qaa _)) Zcv)))))
  ·rintro b⟨h,C⟩;obtain⟨y,z⟩:=Qak (l:=b.hi) (i:=i) (by have:=h.2.1;omega);have c:b.hi.getD i 0=y:=QaA z;have k:i<b.hi.length:=by have:=h.2.1;omega
   have S:=h.2.1;have n:(ints b.hi).length=v.length:=by simp[ints,h.2.1]
   have T:=h.2.2 i x I;rw[c]at T;have o:(ints b.hi)[i]?=some (.int .i64 y):=by simp[ints,z]
   by_cases r:y<x.2
   ·have p:i+1<=v.length:=by omega
    have m:b.hi.getD i 0<x.2:=by rw[c];exact r
    have H:(ints b.hi).set i (.int .i64 (y+1))=ints (upB b i).hi:=by rw[Qbk,upB,c]
    have f:=h.up I V.2 m;have F:=s _ f;have E:(upB b i).hi[i]?=some (y+1):=by show(b.hi.set i (b.hi.getD i 0+1))[i]?=_;rw[Zbu k,c]
    have G:(ints (upB b i).hi)[i]?=some (.int .i64 (y+1)):=by simp[ints,E]
    have w:(ints (upB b i).hi).length=v.length:=by simp[ints,f.2.1]
    have u:(ints (upB b i).hi).set i (.int .i64 (y+1-1))=ints b.hi:=by rw[Qbk];show ints ((b.hi.set i _).set i _)=_;rw[Int.add_sub_cancel,Qf0 z]
    refine Zc1 (Zc8 d n o l q r p H) ?_;refine ch (ZcI (ZcL (Zcq _) (ZcL (FrzTo.agg (ZcL (QcK gg f.1) (ZcL (QcK gg f.2.1) ZcK))) ZcK)) F rfl) ?_;cases J:okR rf (upB b i)with|true=>refine Zc0 ?_;refine⟨upB b i,by rw[QgU k,c];omega,⟨f,by rw[<-C];exact(Qpb k m J).symm⟩,?_⟩;refine⟨[(50,.blk 50 0),(51,.blk 51 0),(52,.blk 52 0),(53,.blk 53 0),(61,.blk 61 0),(62,.blk 62 0)],rfl,au0,?_,au24⟩;exact Zcw rfl rfl gg (Zcl g) (Zcw rfl rfl gg (Zcl rfl) (Zcw rfl rfl gg (ZcC (Rn.x1 rfl rfl) (ZcC (Rn.x1 rfl rfl) ZcB)) (Zcw rfl rfl gg (Zcl rfl) (Zcw rfl rfl gg (Zcl (Qaa _)) (Zcw rfl rfl gg (Zcl (Qaa _)) Zcv)))))|false=>refine Zc1 (Zc5 d G w p u) ?_;refine⟨(),?_⟩;rw[<-C,QrM J];refine⟨[(50,.blk 50 0),(51,.blk 51 0),(52,.blk 52 0),(61,.blk 61 0),(62,.blk 62 0)],rfl,au0,?_,au24⟩;exact Zcw rfl rfl gg (Zcl g) (Zcw rfl rfl gg (Zcl rfl) (Zcw rfl rfl gg (ZcC (Rn.x1 rfl rfl) (ZcC (Rn.x1 rfl rfl) ZcB)) (Zcw rfl rfl gg (Zcl (Qaa _)) (Zcw rfl rfl gg (Zcl (Qaa _)) Zcv))))
   refine Zc1 (Zc6 d n o l q r) ?_;refine⟨(),?_⟩;rw[<-C,upA_0 (by rw[c];exact r)];exact b6AMm
  rintro _ _;refine Zc0 ?_;refine⟨i+1,by omega,by omega,?_⟩;rw[hg,U];exact b6AMm
 have ei:i=v.length:=by omega
 subst ei;refine Zc1 d ?_;rw[P];refine⟨.inr trivial,_,rfl,?_⟩;have Z:=N.1;have l2:=N.2.1;have e1:sli B.lo=.fsl (ints B.lo) v.length 1:=by rw[<-Z]
 have e2:sli B.hi=.fsl (ints B.hi) v.length 1:=by rw[<-l2]
 show Rn 0 π0 _ (.agg [sli B.lo,sli B.hi]) (.agg [.sl 61 0 0 v.length 1,.sl 62 0 0 v.length 1]);rw[e1,e2];exact Rn.agg (ZcC (ZcE (g:=0) (ds:=ints B.lo) gg (by simp[ints,Z]) (Zcl (Qaa _))) (ZcC (ZcE (g:=0) (ds:=ints B.hi) gg (by simp[ints,l2]) (Zcl (Qaa _))) ZcB))
end Go.AM.SO
namespace Go.AM.WR
open Go.Proofs
set_option maxHeartbeats 4000000
noncomputable section
def cf:YA.Cf:={roomy:=true}
def s211:SFn:=by
 refine(?f:YA.Yt Tryz.prog cf 211 [[6],[8,9,10,11,12,13],[14,15],[0,1,2,16,17],[6,16,18,19],[1,2,20,21,22,23,24,25,26],[7,27,28,29,30,31],[0,32]]) ?s ?h;case h=>exact YA.rr
 exact fun s _=>s
end
end Go.AM.WR
namespace Go.AM
variable{P:Program}{N:NM}{r:List SOper}{dead:List Nat}{d:Option Nat}{fs:List Fr}{n:Nat}{T:Tmps}{h:Heap}{Q:QC}
theorem tLen{t k b g off len sz}:aLenC 1 (.typed t k (.sl b g off len sz))=.ret (.int .i64 len):=rfl
end Go.AM
namespace Go.AM
variable{P:Program}{N:NM}{r:List SOper}{dead:List Nat}{fs:List Fr}{n:Nat}{T:Tmps}{h:Heap}{Q:QC}{d:Option Nat}
variable{c:Int}{k:IntKind}{cs:List AV}{af:List Nat}{b g m off t:Nat}{π:Nat->Option Src}{x:Opd}{a l:Option Opd}
theorem QlE{sz}:wR P N (⟨d,.sliceK sz x l a,af,none⟩::r) dead fs n T h Q=wO P N (aSliceK sz (ev T x) (evo T l) (evo T a)) d r dead fs n T h Q:=Qbo rfl
theorem Qsj{len sz:Nat}(h1:0<=c/\c<=len/\0<len):aSliceK sz (.sl b g off len sz) none (some (.int k c))=some (.typed 0 (len+1) (.sl b g off c.toNat sz)):=by have e:aSliceK sz (.sl b g off len sz) none (some (.int k c))=if sz=sz/\(0:Int)<=0/\0<=c/\c<=len/\(0:Int)<len then some (.typed 0 (len-(0:Int).toNat+1) (.sl b g (off+(0:Int).toNat*sz) (c.toNat-(0:Int).toNat) sz))else none:=rfl;rw[e,if_pos ⟨rfl,Int.le_refl _,h1.1,h1.2.1,by omega⟩];simp
theorem Qsk{len sz}{d}{a}(h1:0<=a/\a<=c/\c<=m/\a<m):aSliceK sz (.typed t (m+1) (.sl b g off len sz)) (some (.int k a)) (some (.int d c))=some (.typed 0 (m-a.toNat+1) (.sl b g (off+a.toNat*sz) (c.toNat-a.toNat) sz)):=by have e:aSliceK sz (.typed t (m+1) (.sl b g off len sz)) (some (.int k a)) (some (.int d c))=if sz=sz/\0<=a/\a<=c/\c<=m/\a<m then some (.typed 0 (m-a.toNat+1) (.sl b g (off+a.toNat*sz) (c.toNat-a.toNat) sz))else none:=rfl;rw[e,if_pos ⟨rfl,h1⟩]
theorem Qp7{len sz:Nat}{f d}{a x}(h1:0<=a/\a<=c/\c<=x/\x<=len/\0<x):aSliceC (some sz) (.sl b g off len sz) (some (.int k a)) (some (.int f c)) (some (.int d x))=some (.sl b g (off+a.toNat*sz) (c.toNat-a.toNat) sz):=by have e:aSliceC (some sz) (.sl b g off len sz) (some (.int k a)) (some (.int f c)) (some (.int d x))=if sz=sz then(if a=0/\c=0/\x=0 then some .esl else if 0<=a/\a<=c/\c<=x/\x<=len then some (.sl b g (off+a.toNat*sz) (c.toNat-a.toNat) sz)else none)else none:=rfl;rw[e,if_pos rfl,if_neg (by omega),if_pos ⟨h1.1,h1.2.1,h1.2.2.1,h1.2.2.2.1⟩]
theorem Qp8{sz bytes len b2 g2 c a}{ys}(i:b<lim)(f:srcB (h.get b2) g2 c a sz=some ys)(h1:(len+a)*bytes<=140737488355328/\len+a<=140737488355328)(ho:ys.all AV.one=true)(hm:0<m/\len+a<=m)(k:h.get b=some (.cells g cs))(o:off+(len+a)*sz<=cs.length)(hk:wR P N r dead fs (n+1) (putD T d (.typed t (m+1) (.sl b g off (len+a) sz))) (h.set b (.cells g (putR cs (off+len*sz) ys))) Q):wM P N (aAppend .dyn n sz bytes (.typed t (m+1) (.sl b g off len sz)) (.sl b2 g2 c a sz)) d r dead fs n T h Q:=by
 simp only[aAppend,aSrc,if_true,slLen,QcE,QcS];unfold srcB at f;split at f
 ·rename_i q l p;split at f
  ·rename_i hc;obtain⟨rfl,hc⟩:=hc;cases f;refine⟨l,p,hc,⟨?_,?_,ho⟩,?_⟩;·have :(0+a)*bytes<=(len+a)*bytes:=Za5 _ (by omega);omega
   ·omega
   refine⟨⟨trivial,hm⟩,cs,k,o,?_⟩;rw[QeE,Qfh i];exact hk
  cases f
 cases f
theorem Qsl{sz len}{zero}(a:b<lim)(c:h.get b=some (.cells g cs))(l:0<len/\0<m)(f:off+len*sz<=cs.length)(i:zero.length=sz/\zero.all AV.one=true)(hk:wR P N r dead fs (n+1) (putD T d .any) (h.set b (.cells g (putR cs off (List.replicate len zero).flatten))) Q):wM P N (aClear sz zero (.typed t m (.sl b g off len sz))) d r dead fs n T h Q:=by obtain⟨len,rfl⟩:∃k,len=k+1:=⟨len-1,by omega⟩;obtain⟨m,rfl⟩:∃k,m=k+1:=⟨m-1,by omega⟩;simp only[aClear,if_true,QcE,QcS];refine⟨cs,c,⟨f,i⟩,?_⟩;rw[QeE,Qfh a];exact hk
theorem Rn.unty{k}{x y}(b:Rn m π h x y):Rn m π h x (.typed t k y):=fun _ c w v H M a=>b _ c w v H M a.2
end Go.AM
namespace Go.AM
variable{P:Program}
def tightL(L:List Nat)(f:FP):Prop:=f.all=false/\∀b,b∈f.R\/b∈f.W->b∈L
def FrmAt(P:Program)(N:NM)(x:Opd)(ag:List Opd)(d:Option Nat)(L:List Nat)(r:List SOper)(n:Nat)(T:Tmps)(h:Heap)(Q:QC):Prop:=∃f a c v h1 fp,ev T x=.fn f a c/\FStep P f (a++evs T ag++c) h v h1 fp/\tightL L fp/\wR P N r [] [] (n+1) (putD T d v) h1 Q
end Go.AM
namespace Go.AM
variable{P:Program}
variable{C:Claims}{h:Heap}{F:List (Nat×List Nat)}{O:List (Nat×Nat)}{fs:List Fr}{dead w:List Nat}{ops:List SOper}{N:NM}{n:Nat}{p:Nat×Nat}{Q:QC}{T T0:Tmps}{K:Tmps->Heap->Nat->Prop}
def fndM:List (Nat×List Nat)->Nat->Option (List Nat)|[],_=>none|(z,L)::F,i=>bif Nat.beq i z then some L else fndM F i
def wpRM(P:Program)(F:List (Nat×List Nat)):Nat->List SOper->Tmps->Heap->(Tmps->Heap->Nat->Prop)->Prop|n,[],T,h,K=>K T h n|n,s::r,T,h,K=>∃v h1 f,StepV P n s T h v h1 f/\(∀L,fndM F n=some L->tightL L f)/\wpRM P F (n+1) r (putD T s.dst v) h1 K
theorem QeV:∀{r:List SOper}{n:Nat}{T:Tmps}{h:Heap}{K K':Tmps->Heap->Nat->Prop},(∀T h n,K T h n->K' T h n)->wpR P n r T h K->wpR P n r T h K'|[],n,T,h,K,K',hi,hw=>hi _ _ _ hw|s::r,n,T,h,K,K',hi,⟨v,h1,f,a,b⟩=>⟨v,h1,f,a,QeV hi b⟩
theorem Qiw:∀(k:Nat)(r:List SOper)(n:Nat)(T:Tmps)(h:Heap),(∀i,n<=i->i<n+k->fndM F i=none)->wpR P n (r.take k) T h (fun T1 h1 a=>a=n+(r.take k).length->wpRM P F a (r.drop k) T1 h1 K)->wpRM P F n r T h K:=by intro k;induction k with|zero=>intro r n T h _ hw;rw[List.take_zero,ZaX]at hw;exact hw rfl|succ k l=>intro r n T h b hw;cases r with|nil=>exact hw rfl|cons t r=>
 rw[Za2]at hw;simp only[wpR]at hw;obtain⟨v,h1,f,d,g⟩:=hw;refine⟨v,h1,f,d,fun L c=>?_,l r (n+1) _ _ (fun i h1 m=>b i (by omega) (by omega)) ?_⟩;·rw[b n (Zau _) (by omega)]at c;cases c
 have e:∀a,a=n+1+(r.take k).length->a=n+(t::r.take k).length:=fun a h=>by rw[h,ZaC];omega
 exact QeV (fun T h n hk he=>hk (e _ he)) g
theorem QnJ:∀{r:List SOper}{n:Nat}{T:Tmps}{h:Heap}{K:Tmps->Heap->Nat->Prop},wpRM P F n r T h K->∃T' h' n',K T' h' n'/\∀d,(∀s∈r,s.dst≠some d)->lk T' d=lk T d|[],n,T,h,K,hk=>⟨T,h,n,hk,fun _ _=>rfl⟩|s::r,n,T,h,K,⟨v,h1,f,c,_,a⟩=>by obtain⟨T',h',n',hk,he⟩:=QnJ a;refine⟨T',h',n',hk,fun d b=>?_⟩;simp_all[QbG]
def touchM(F:List (Nat×List Nat))(i:Nat)(ax:Opd->Option (List Nat))(s:SOp):Option (List Nat):=match fndM F i with|some L=>some L|none=>touch2 i ax s
def touchesM(F:List (Nat×List Nat))(C:Claims)(n:Nat)(T:Tmps):List SOper->Abs->List (Option (List Nat))|[],_=>[]|s::r,A=>touchM F n (absO T A) s.op::touchesM F C (n+1) T r (match s.dst with|some d=>(d,absH C d (s.op.absV n (absO T A)))::A|none=>A)
theorem QnK:∀{r:List SOper}{n:Nat}{A:Abs}{T:Tmps}{h:Heap}{K:Tmps->Heap->Nat->Prop}(hA:AbsOK T0 A T)(K':List FP->Tmps->Heap->Nat->Prop)(l:∀T h n,K T h n->∀d bs,clm C d=some bs->Pts (lk T d) bs)(a:ssa C r=true),(∀fs T h n',fs.length=r.length->(∀(j:Nat)i,(touchesM F C n T0 r A).getD j none=some i->(fs.getD j ⟨false,[],[]⟩).all=false/\∀b,b∈(fs.getD j ⟨false,[],[]⟩).R\/b∈(fs.getD j ⟨false,[],[]⟩).W->b∈i)->K T h n'->K' fs T h n')->wpRM P F n r T h K->wpRF P n r T h K'
 |[],n,A,T,h,K,hA,K',l,a,p,hw=>p [] T h n rfl (fun j i c=>by simp_all) hw|s::r,n,A,T,h,K,hA,K',l,a,p,hw=>by
  obtain⟨v,h1,f,t,z,u⟩:=hw;simp only[ssa,Zab]at a;obtain⟨g,m⟩:=a;refine⟨v,h1,f,t,?_⟩;have q:AbsOK T0 (match s.dst with|some d=>(d,absH C d (s.op.absV n (absO T0 A)))::A|none=>A) (putD T s.dst v):=by cases e:s.dst with|none=>exact hA|some d=>
   refine AbsOK.up hA fun bs k=>?_;unfold absH at k;split at k
   ·rename_i x hc;cases k;obtain⟨T',B,n',hk,he⟩:=QnJ u;have w:=l T' B n' hk d _ hc;rw[he d ?_,QbG,if_pos e]at w;·exact w
    intro E o;rw[e]at g;simp only[hc,Option.isNone_some,Bool.false_or,ZaH]at g;have:=g E o;intro G;simp_all
   exact Qd8 hA.opd k t
  refine QnK q (fun fs T h n=>K' (f::fs) T h n) l m (fun fs T h n' y hf hk=>?_) u;refine p (f::fs) T h n' (by simp[y]) (fun j i c=>?_) hk;cases j with
  |zero=>simp only[touchesM,List.getD_cons_zero]at c⊢;unfold touchM at c;cases e:fndM F n with|some L=>rw[e]at c;simp only[Zaa]at c;subst c;exact z L e|none=>rw[e]at c;exact QeM hA.opd c t
  |succ j=>simp only[touchesM,List.getD_cons_succ]at c⊢;exact hf j i c
theorem Qp9(C)(L1 L2)(g l){x1 x2}{ag1 ag2}{d1 d2}{F}(B:ops[g]?=some ⟨d1,.call .heap x1 ag1,w,none⟩)(s:(ops.drop (g+1))[l]?=some ⟨d2,.call .heap x2 ag2,F,none⟩)(z:ssa C ops=true)(hp:pairsOK (touchesM [(n+g,L1),(n+g+1+l,L2)] C n T ops []) (p::O)=true)(hw:wR P N (ops.take g) [] [] n T h fun e T h n=>FrmAt P N x1 ag1 d1 L1 ((ops.drop (g+1)).take l) n T h fun e T h n=>FrmAt P N x2 ag2 d2 L2 ((ops.drop (g+1)).drop (l+1)) n T h fun e T h n=>Clms T C/\wX P N .normal fs n (rm T dead) h Q):wS P N (.region ops (p::O) dead) fs n T h Q:=by
 have rm0:∀T:Tmps,rm T []=T:=by intro T;induction T with|nil=>rfl|cons p T ih=>obtain⟨j,v⟩:=p;simp[rm,ih]
 refine QnK (C:=C) (F:=[(n+g,L1),(n+g+1+l,L2)]) (K:=fun T h n=>Clms T C/\wX P N .normal fs n (rm T dead) h Q) AbsOK.nil _ (fun T h n hk d bs hc=>hk.1.get d bs hc) z (fun fs' T h n' hl hf hk=>⟨?_,hk.2⟩) ?_
 ·rw[ZaH];intro q Z;have:=ZaH.1 hp q Z;split at this
  ·rename_i a b ha hb;obtain⟨f1,f2⟩:=hf _ _ ha;obtain⟨g1,g2⟩:=hf _ _ hb;have hd:∀x y,x∈a->y∈b->x≠y:=by grind
   have dj:∀xs J:List Nat,(∀x∈xs,∀y∈J,x≠y)->disj xs J=true:=by intro xs J H;unfold disj;grind
   grind[FP.apart]
  cases this
 have k:∀{a b:Nat},a≠b->Nat.beq a b=false:=fun{a b}h=>by cases e:Nat.beq a b with|false=>rfl|true=>exact absurd (Nat.eq_of_beq_eq_true e) h
 have o:∀a:Nat,Nat.beq a a=true:=fun a=>Nat.beq_refl a;have l1:g<ops.length:=(Zaj.1 B).1;have X:l<(ops.drop (g+1)).length:=(Zaj.1 s).1;have t1:(ops.take g).length=g:=by rw[Zaq];omega
 have t2:((ops.drop (g+1)).take l).length=l:=by rw[Zaq];omega
 have M:ops.drop g=⟨d1,.call .heap x1 ag1,w,none⟩::ops.drop (g+1):=by rw[Zbv l1];congr 1;exact(Zaj.1 B).2
 have K:(ops.drop (g+1)).drop l=⟨d2,.call .heap x2 ag2,F,none⟩::(ops.drop (g+1)).drop (l+1):=by rw[Zbv X];congr 1;exact(Zaj.1 s).2
 refine Qiw g ops n T h (fun i h1 A=>?_) ?_;·unfold fndM;rw[k (by omega)];unfold fndM;rw[cond_false,k (by omega)];rfl
 have G:wpR P n (ops.take g) T h fun T h n=>FrmAt P N x1 ag1 d1 L1 ((ops.drop (g+1)).take l) n (rm T []) h fun e T h n=>FrmAt P N x2 ag2 d2 L2 ((ops.drop (g+1)).drop (l+1)) n T h fun e T h n=>Clms T C/\wX P N .normal fs n (rm T dead) h Q:=hw;simp only[rm0]at G;refine QeV (fun T1 h1 V H r=>?_) G;rw[t1]at r;obtain⟨f,a,c,v,A,fp,e1,e2,e3,e6⟩:=H;rw[M];refine⟨v,A,fp,?_,fun L m=>?_,?_⟩;·refine⟨.call .heap f (a++evs T1 ag1++c),h1,?_,.inr (.inr (.inr e2))⟩;simp_all[aop,aCall,HM.run]
 ·unfold fndM at m;rw[r,o]at m;simp only[cond_true,Zaa]at m;rw[<-m];exact e3
 refine Qiw l _ (V+1) _ _ (fun i h1 A=>?_) ?_;·unfold fndM;rw[k (by omega)];unfold fndM;rw[cond_false,k (by omega)];rfl
 have t:wpR P (V+1) ((ops.drop (g+1)).take l) (putD T1 d1 v) A fun T h n=>FrmAt P N x2 ag2 d2 L2 ((ops.drop (g+1)).drop (l+1)) n (rm T []) h fun e T h n=>Clms T C/\wX P N .normal fs n (rm T dead) h Q:=e6;simp only[rm0]at t;refine QeV (fun T2 h3 U H E=>?_) t;rw[t2]at E;obtain⟨f',Y,c',S,R,I,g1,g2,g3,g6⟩:=H;rw[K];refine⟨S,R,I,?_,fun L m=>?_,?_⟩;·refine⟨.call .heap f' (Y++evs T2 ag2++c'),h3,?_,.inr (.inr (.inr g2))⟩;simp_all[aop,aCall,HM.run]
 ·unfold fndM at m;rw[k (by omega),cond_false]at m;unfold fndM at m;rw[E,r,o]at m;simp only[cond_true,Zaa]at m;rw[<-m];exact g3
 have u:wpR P (U+1) ((ops.drop (g+1)).drop (l+1)) (putD T2 d2 S) R fun T h n=>Clms (rm T []) C/\wX P N .normal fs n (rm (rm T []) dead) h Q:=g6;simp only[rm0]at u;refine Qiw ((ops.drop (g+1)).drop (l+1)).length _ (U+1) _ _ (fun i h1 A=>?_) ?_;·unfold fndM;rw[k (by omega)];unfold fndM;rw[cond_false,k (by omega)];rfl
 rw[Zan,List.drop_length];exact QeV (fun T h n hk _=>hk) u
end Go.AM
namespace Go.AM
variable{P:Program}
variable{v:AV}{h:Heap}{args cs:List AV}{B:List Nat}{b f g:Nat}
theorem FStep.new1{a}{d i}(y:HSpec P f args (hp [(a,d)]) v (hp [(a,d),(b,i)]))(t:inBs [a] args=true)(s:blkIn [a] (some d)=true)(r:h.get a=some d)(x:h.get b=none)(u:a≠b)(p:Nat.blt a 1099511627775=true)(w:Nat.blt b 1099511627775=true):FStep P f args h v ((h.set b i).set a d) ⟨false,[b,a],[b]⟩:=by
 have l:a<1099511627775:=by simp_all
 have n:b<1099511627775:=by simp_all
 have k:(hp [(a,d),(b,i)]).get a=some d:=by show((Tr.e.set b i).set a d).get a=_;rw[Zcd _ l];simp
 have m:(hp [(a,d),(b,i)]).get b=some i:=by show((Tr.e.set b i).set a d).get b=_;rw[Zcd _ l,if_neg (Ne.symm u),Zcd _ n];simp
 have q:∀j,j≠a->j≠b->(hp [(a,d),(b,i)]).get j=none:=fun j h1 o=>by show((Tr.e.set b i).set a d).get j=_;rw[Zcd _ l,if_neg h1,Zcd _ n,if_neg o];rfl
 refine⟨[a],[b,a],[b],hp [(a,d),(b,i)],?_,?_,t,?_,?_,?_,?_,fun j c=>?_,?_,?_,?_,?_,rfl⟩;·simp[allLim,lim];omega
 ·simp[allLim,lim];omega
 ·intro j c;simp only[Zax,Za1,or_false]at c;subst c;rw[r];exact s
 ·have e:pick h [a]=hp [(a,d)]:=by simp only[pick,over,r];rfl
  rw[e];exact y
 ·intro j c;simp only[Zax,Za1,or_false]at c;rcases c with rfl|rfl;·rw[m];simp
  rw[k];simp
 ·intro j c;by_cases h1:j=a;·simp[h1]
  by_cases o:j=b;·simp[o]
  exact absurd (q j h1 o) c
 ·simp only[Zax,Za1,or_false]at c⊢;exact .inr c
 ·intro j c g;simp only[Zax,Za1,or_false]at c g;rcases c with rfl|rfl;·exact x
  exact absurd rfl g
 ·intro j c g;simp only[Zax,Za1,or_false]at c g;rcases c with rfl|rfl;·exact absurd rfl g
  rw[k,r]
 ·intro j c;simp only[Zax,Za1,or_false]at c⊢;exact .inl c
 simp only[over,m,k]
theorem FStep.one{k a}(r:HSpec P f args (hp [(b,k)]) v (hp [(b,a)]))(m:inBs [b] args=true)(o:blkIn [b] (some k)=true)(q:h.get b=some k)(p:Nat.blt b 1099511627775=true):FStep P f args h v (h.set b a) ⟨false,[b],[b]⟩:=by
 have g:b<1099511627775:=by simp_all
 have i:(hp [(b,a)]).get b=some a:=by show(Tr.e.set b a).get b=_;rw[Zcd _ g];simp
 have n:∀j,j≠b->(hp [(b,a)]).get j=none:=fun j l=>by show(Tr.e.set b a).get j=_;rw[Zcd _ g,if_neg l];rfl
 refine⟨[b],[b],[b],hp [(b,a)],?_,?_,m,?_,?_,?_,?_,fun _ h=>h,?_,?_,fun _ h=>h,?_,rfl⟩;·simp[allLim,lim];omega
 ·simp[allLim,lim];omega
 ·intro j c;simp only[Zax,Za1,or_false]at c;subst c;rw[q];exact o
 ·have e:pick h [b]=hp [(b,k)]:=by simp only[pick,over,q];rfl
  rw[e];exact r
 ·intro j c;simp only[Zax,Za1,or_false]at c;subst c;rw[i];simp
 ·intro j c;by_cases l:j=b;·simp[l]
  exact absurd (n j l) c
 ·intro j c d;exact absurd c d
 ·intro j c d;exact absurd c d
 simp only[over,i]
mutual theorem QlF{B:List Nat}:∀x:AV,noRef x=true->inB B x=true|.ptr ..,h=>by simp[noRef]at h|.sl ..,h=>by simp[noRef]at h|.map ..,h=>by simp[noRef]at h|.yld ..,h=>by simp[noRef]at h|.typed ..,h=>by simp[noRef]at h|.agg cs,h=>by rw[noRef]at h;rw[inB];exact QbA cs h|.tup cs,h=>by rw[noRef]at h;rw[inB];exact QbA cs h|.fptr cs,h=>by rw[noRef]at h;rw[inB];exact QbA cs h|.fsl cs _ _,h=>by rw[noRef]at h;rw[inB];exact QbA cs h|.fmap ks vs,h=>by rw[noRef,Zab]at h;rw[inB,QbA ks h.1,QbA vs h.2];rfl|.fn _ x y,h=>by rw[noRef,Zab]at h;rw[inB,QbA x h.1,QbA y h.2];rfl|.ifc _ v,h=>by rw[noRef]at h;rw[inB];exact QlF v h|.any,_=>rfl|.bool _,_=>rfl|.int _ _,_=>rfl|.str _,_=>rfl|.nilptr,_=>rfl|.nilsl,_=>rfl|.esl,_=>rfl|.nsl,_=>rfl|.nilmap,_=>rfl|.nilfn,_=>rfl|.nilif,_=>rfl termination_by structural x=>x theorem QbA{B:List Nat}:∀x:List AV,noRefs x=true->inBs B x=true|[],_=>rfl|x::xs,h=>by rw[noRefs,Zab]at h;rw[inBs,QlF x h.1,QbA xs h.2];rfl termination_by structural x=>x end
theorem QnL(h:noRefs cs=true):blkIn B (some (.cells g cs))=true:=by show inBs B cs=true;exact QbA cs h
end Go.AM
namespace Go.AM.SO
open Go.Proofs Go.AM.SD Go.AM.SE
variable{P:Bxn->Prop}{h:Heap}{A:List (List Int)}{v:List (List UInt8×Int)}{cs:List AV}{c t:List Bool}{bs l:List Bxn}{x:List Int}{f:List Int->Bool}{G:List Int->Bxn}{L:List Nat}{b k n:Nat}
theorem Qpn(l:List Bxn):(l.flatMap bxC).all AV.one=true:=by induction l with|nil=>rfl|cons x l a=>rw[Zay,ZbS,a];rfl
theorem cloneB212(l:List Bxn)(cs)(g:l.length<=1000000)(f:0<l.length)(hc:cs.take (l.length*2)=l.flatMap bxC)(b:l.length*2<=cs.length)(d:noRefs cs=true):HSpec Tryz.prog 212 [.sl 71 0 0 l.length 2] (hp [(71,.cells 0 cs)]) (.sl 92 0 0 l.length 2) (hp [(71,.cells 0 cs),(92,.cells 0 (l.flatMap bxC))]):=by
 refine HSpec.Qg5 (m:=90) 100 (Ok WA.s212) rfl rfl ?_;have c:aEqN false (.sl 71 0 0 l.length 2)=.ret (.bool false):=by obtain⟨k,hk⟩:∃k,l.length=k+1:=⟨l.length-1,by omega⟩;rw[hk];rfl
 have ho:=Qpn l;have a:srcB (some (.cells 0 cs)) 0 0 l.length 2=some (l.flatMap bxC):=by rw[QbZ,if_pos ⟨rfl,by omega⟩,ZaX,hc]
 unfold WA.s212;refine Zc1 (Zc3 c ho a) ?_;refine⟨.inr trivial,_,rfl,?_⟩;refine⟨[(71,.nil),(92,.blk 103 1)],rfl,au0,?_,au41⟩;exact Zcz rfl gg (Zcl d) (Zcw rfl rfl gg (Zcl (Qau _)) Zcv)
theorem Qtv(l:List Bxn)(i):l.eraseIdx i=l.take i++l.drop (i+1):=List.eraseIdx_eq_take_drop_succ ..
theorem QuL(l:List Bxn)(i)(hi:i<l.length):putR (putR (l.flatMap bxC) (i*2) ((l.drop (i+1)).flatMap bxC)) ((l.length-1)*2) [.nilsl,.nilsl]=(l.eraseIdx i).flatMap bxC++[.nilsl,.nilsl]:=by
 have f:=QbI l;have h:=QbI (l.drop (i+1));have m:(l.drop (i+1)).length=l.length-(i+1):=ZaQ;have b:=QbI (l.take i);have a:(l.take i).length=i:=by rw[Zaq];omega
 have k:(l.flatMap bxC).take (i*2)=(l.take i).flatMap bxC:=by
  have g:l.flatMap bxC=(l.take i).flatMap bxC++(l.drop i).flatMap bxC:=by rw[<-Zao,Zbd]
  rw[g,List.take_left' (by rw[b,a])]
 rw[Qdu (l.flatMap bxC) (i*2) ((l.drop (i+1)).flatMap bxC) (by omega),k];have d:((l.take i).flatMap bxC++(l.drop (i+1)).flatMap bxC)=(l.eraseIdx i).flatMap bxC:=by rw[Qtv,Zao]
 have c:((l.eraseIdx i).flatMap bxC).length=(l.length-1)*2:=by rw[QbI,List.length_eraseIdx,if_pos hi]
 have n:((l.flatMap bxC).drop (i*2+((l.drop (i+1)).flatMap bxC).length)).length=2:=by rw[ZaQ];omega
 generalize(l.flatMap bxC).drop (i*2+((l.drop (i+1)).flatMap bxC).length)=R at*;rw[d,Qdu _ _ _ (by rw[Zaf];simp only[ZaC,Za3];omega)];rw[List.take_left' c,List.drop_of_length_le (by rw[Zaf];simp only[ZaC,Za3];omega),Zas]
theorem delete211(l:List Bxn)(i)(hi:i<l.length)(s:l.length<=1000000):HSpec Tryz.prog 211 [.sl 92 0 0 l.length 2,.int .i64 (i:Int),.int .i64 ((i:Int)+1)] (hp [(92,.cells 0 (l.flatMap bxC))]) (.sl 92 0 0 (l.length-1) 2) (hp [(92,.cells 0 ((l.eraseIdx i).flatMap bxC++[.nilsl,.nilsl]))]):=by
 refine HSpec.Qg5 (m:=93) 100 (Ok WR.s211) rfl rfl ?_;have m:=QbI l;have q:(0:Int)<=i/\(i:Int)<=(i:Int)+1/\(i:Int)+1<=(l.length:Int)/\(l.length:Int)<=(l.length:Int)/\(0:Int)<(l.length:Int):=by omega
 have c:¬(i:Int)=(i:Int)+1:=by omega
 have o:(0:Int)<=(i:Int)/\(i:Int)<=(l.length:Int)/\0<l.length:=by omega
 have b:((i:Int)+1).toNat=i+1:=by omega
 have hlen:i+(l.length-(i+1))=l.length-1:=by omega
 have f:(0:Int)<=((l.length-1:Nat):Int)/\((l.length-1:Nat):Int)<=(l.length:Int)/\(l.length:Int)<=(l.length:Int)/\((l.length-1:Nat):Int)<(l.length:Int):=by omega
 have d:l.length-(l.length-1)=1:=by omega
 have h:((l.flatMap bxC).drop ((i+1)*2)).take ((l.length-(i+1))*2)=(l.drop (i+1)).flatMap bxC:=by
  have r:l.flatMap bxC=(l.take (i+1)).flatMap bxC++(l.drop (i+1)).flatMap bxC:=by rw[<-Zao,Zbd]
  have p:(l.take (i+1)).length=i+1:=by rw[Zaq];omega
  have n:((l.drop (i+1)).flatMap bxC).length=(l.length-(i+1))*2:=by rw[QbI,ZaQ]
  rw[r,List.drop_left' (by rw[QbI,p]),<-n,Zan]
 have a:srcB (some (.cells 0 (l.flatMap bxC))) 0 ((i+1)*2) (l.length-(i+1)) 2=some ((l.drop (i+1)).flatMap bxC):=by rw[QbZ,if_pos ⟨rfl,by omega⟩,h]
 have g:=QuL l i hi;unfold WR.s211;refine Zc1 (Zc6 @QlE @tLen (fun b' g' u s k' f' d'=>Qp7 (b:=b') (g:=g') (off:=u) (sz:=s) (k:=k') (f:=f') (d:=d') q) c (fun b' g' u s k'=>Qsj (b:=b') (g:=g') (off:=u) (sz:=s) (k:=k') o) b) ?_;refine Qp8 (ys:=(l.drop (i+1)).flatMap bxC) (cs:=l.flatMap bxC) (by decide) (by rw[QaE (by decide)];exact a) (by omega) (Qpn _) (by omega) (QaE (by decide)) (by omega) ?_;rw[hlen];refine Zc1 (Zc4 @QlE @tLen (fun t' b' g' u n' s k' e'=>Qsk (t:=t') (b:=b') (g:=g') (off:=u) (len:=n') (sz:=s) (k:=k') (d:=e') f) d) ?_;refine Qsl (cs:=putR (l.flatMap bxC) (i*2) ((l.drop (i+1)).flatMap bxC)) (by decide) (QaE (by decide)) (by decide) (by rw[Qhg _ _ _ (by rw[QbI,ZaQ];omega)];omega) ⟨rfl,rfl⟩ ?_;have k:(List.replicate 1 [AV.nilsl,AV.nilsl]).flatten=[AV.nilsl,AV.nilsl]:=rfl;rw[k,g];refine Zc0 ?_;refine⟨.inr trivial,_,rfl,?_⟩;refine⟨[(92,.nil)],rfl,au0,Zcz rfl gg (Zcl (SU.Qaw (Qau _) rfl)) Zcv,Zcu (Rn.unty (Rn.x5 rfl)) Zct⟩
structure VOk(v:List (List UInt8×Int)):Prop where
 l5:v.length<=5
 hin:∀x∈v,0<=x.2/\x.2<=2
 nm:∀x∈v,Ps 165 [.str x.1] (.bool true)ne:v.Pairwise fun x y=>x.1≠y.1
theorem vok_c{c}(h:WfCel c):VOk (vrsL c):=by
 have l:∀{i j:Nat},i<10->j<10->UInt8.ofNat (48+i)=UInt8.ofNat (48+j)->i=j:=by intro i j hi m he;have:=congrArg UInt8.toNat he;simp only[UInt8.toNat_ofNat']at this;omega
 have g:∀x∈c.cs,x.1<3:=fun x d=>by have h1:x.1∈c.cs.map (·.1):=List.mem_map_of_mem d;rw[h.cn]at h1;have:=Zat.1 h1;have:=h.c3;omega
 have hrn:∀x∈c.rs,x.1<2:=fun x d=>by have h1:x.1∈c.rs.map (·.1):=List.mem_map_of_mem d;rw[h.rn]at h1;have:=Zat.1 h1;have:=h.r2;omega
 refine⟨Qfs h,QcA h,fun x d=>?_,?_⟩
 ·unfold vrsL at d;rcases ZaE.1 d with d|d;·obtain⟨y,f,rfl⟩:=Zap.1 d;exact Qjg (g y f)
  obtain⟨y,f,rfl⟩:=Zap.1 d;exact QrI (hrn y f)
 unfold vrsL;rw[Zbb,Zbl,Zbl];refine⟨?_,?_,fun x d y f=>?_⟩
 ·have h1:(c.cs.map (·.1)).Pairwise (·<·):=by rw[h.cn];exact Zbz
  rw[Zbl]at h1;refine h1.imp_of_mem fun{x y}d f k he=>?_;have e:UInt8.ofNat (48+x.1)=UInt8.ofNat (48+y.1):=by have:([99,UInt8.ofNat (48+x.1)]:List UInt8)=[99,UInt8.ofNat (48+y.1)]:=he;simpa using this
  have:=l (by have:=g x d;omega) (by have:=g y f;omega) e;omega
 ·have h1:(c.rs.map (·.1)).Pairwise (·<·):=by rw[h.rn];exact Zbz
  rw[Zbl]at h1;refine h1.imp_of_mem fun{x y}d f k he=>?_;have e:UInt8.ofNat (48+x.1)=UInt8.ofNat (48+y.1):=by have:([114,UInt8.ofNat (48+x.1)]:List UInt8)=[114,UInt8.ofNat (48+y.1)]:=he;simpa using this
  have:=l (by have:=hrn x d;omega) (by have:=hrn y f;omega) e;omega
 obtain⟨a,_,rfl⟩:=Zap.1 d;obtain⟨b,_,rfl⟩:=Zap.1 f;intro he;have he:([99,UInt8.ofNat (48+a.1)]:List UInt8)=[114,UInt8.ofNat (48+b.1)]:=he;simp at he
theorem large142(x)(h:0<=x/\x<=2):Ps 142 [.int .i64 x,.int .i64 65536] (.bool false):=by
 refine Zcn 64 (Ok WB.s142) rfl rfl rfl ?_;have h1:¬65536<x:=by omega
 have a:¬x< -65536:=by omega
 unfold WB.s142;refine Zc1 (Zc2 h1 a) ?_;exact⟨.inr trivial,_,rfl,rfl⟩
theorem same208(x y)(h:x.1≠y.1):Ps 208 [.agg (vrC x),.fptr (vrC y)] (.bool false):=by
 refine Zcn 64 (Ok WB.s208) rfl rfl rfl ?_;have a:aBin BinOp.eql (.str x.1) (.str y.1)=some (.bool false):=by simp[aBin,h]
 simp(disch:=first|omega|exact PairsOK.mk rfl|(simp only[lenW]<;>omega))only[WB.s208,vrC,a,wW,wV,simprocAttr];exact⟨.inr trivial,_,rfl,rfl⟩
theorem index255(l:List (List UInt8×Int))(y:List UInt8×Int)(f:l.length<=1000)(h:∀x∈l,x.1≠y.1):Ps 255 [vrsV l,.fn 208 [] [.fptr (vrC y)]] (.int .i64 (-1)):=by
 refine Zcn 64 (Ok WB.s255) rfl (by rw[noRefs,QaN];rfl) rfl ?_;unfold WB.s255;refine Zc0 ?_;refine QaC 100 (fun i:Nat=>[(0,vrsV l),(1,.fn 208 [] [.fptr (vrC y)]),(7,.int .i64 l.length),(8,.int .i64 i)]) (fun _=>[]) (fun i=>i<=l.length) (fun i=>l.length-i) 0 ?_ (Zai _) ?_;·exact⟨[],rfl,Zcs,Zcv,Zcu (Zck (QaN _)) (Zcu (Zck rfl) (Zcu (Zck rfl) (Zcu (Zck rfl) Zct)))⟩
 rintro i hi;by_cases a:i<l.length
 ·obtain⟨x,d⟩:=Qak a;have b:=Qb0 d;have c:4<=((l.flatMap vrC).drop (i*4)).length:=by rw[b];simp
  have hw:=same208 x y (h x (Zac d));unfold vrC at hw;refine Zc1 (Zc3 a b c) ?_;refine cpcP hw ?_;refine Zc0 ?_;refine⟨i+1,by omega,by omega,?_⟩;exact⟨[],rfl,Zcs,Zcv,Zcu (Zck (QaN _)) (Zcu (Zck rfl) (Zcu (Zck rfl) (Zcu (Zck rfl) Zct)))⟩
 refine Zc1 a ?_;exact⟨.inr trivial,_,rfl,rfl⟩
theorem contains207(l:List (List UInt8×Int))(y:List UInt8×Int)(a:l.length<=1000)(h:∀x∈l,x.1≠y.1):Ps 207 [vrsV l,.fn 208 [] [.fptr (vrC y)]] (.bool false):=by have hi:=index255 l y a h;refine Zcn 64 (Ok WB.s207) rfl (by rw[noRefs,QaN];rfl) rfl ?_;unfold WB.s207;refine Zc0 ?_;refine cp hi ?_;refine Zc0 ?_;exact⟨.inr trivial,_,rfl,rfl⟩
theorem check167(v)(h:VOk v):Ps 167 [vrsV v] (.int .i64 0):=by
 have A:=h.l5;refine Zcn 64 (Ok WA.s167) rfl (by rw[noRefs,QaN];rfl) rfl ?_;have g:¬(16:Int)<(v.length:Int):=by omega
 unfold WA.s167;refine Zc1 g ?_;refine QaC 100 (fun i:Nat=>[(0,vrsV v),(8,vrsV v),(9,.int .i64 v.length),(10,.int .i64 i)]) (fun _=>[]) (fun i=>i<=v.length) (fun i=>v.length-i) 0 ?_ (Zai _) ?_;·exact⟨[],rfl,Zcs,Zcv,Zcu (Zck (QaN _)) (Zcu (Zck (QaN _)) (Zcu (Zck rfl) (Zcu (Zck rfl) Zct)))⟩
 rintro i hi;by_cases a:i<v.length
 ·obtain⟨x,f⟩:=Qak a;have c:=Qb0 f;have q:4<=((v.flatMap vrC).drop (i*4)).length:=by rw[c];simp
  have b:=Zac f;have r:=h.nm x b;have x2:=h.hin x b;have n:=large142 0 (by decide);have o:=large142 x.2 x2;have d:∀y∈v.take i,y.1≠x.1:=by intro y s;obtain⟨j,u,rfl⟩:=Za4 s;have p:=u;rw[Zaq]at p;have:=Zbf.1 h.ne j i (by omega) a (by omega);rw[List.getElem_take];rw[(Zaj.1 f).2]at this;exact this
  have w:=contains207 (v.take i) x (by rw[Zaq];omega) d;have k:(v.flatMap vrC).take (i*4)=(v.take i).flatMap vrC:=by
   have e:(v.take i).length=i:=by rw[Zaq];omega
   have t:v.flatMap vrC=(v.take i).flatMap vrC++(v.drop i).flatMap vrC:=by rw[<-Zao,Zbd]
   rw[t,List.take_left' (by rw[QgF,e])]
  have m:(v.take i).length=i:=by rw[Zaq];omega
  have l:Ps 207 [.fsl ((v.flatMap vrC).take (i*4)) i 4,.fn 208 [] [.fptr [.str x.1,.int .i64 0,.int .i64 x.2,.int .i64 0]]] (.bool false):=by
   rw[k];have e:vrsV (v.take i)=.fsl ((v.take i).flatMap vrC) i 4:=by rw[vrsV,m]
   rw[<-e];exact w
  have z:¬x.2<0:=by omega
  refine Zc1 (Zc3 a c q) ?_;refine cp r ?_;refine Zc1 a ?_;refine ch (ZcI (ZcL (Zcq _) (ZcL (FrzTo.fn ZcK (ZcL (ZcH gg (Zcr _)) ZcK)) ZcK)) l rfl) ?_;refine Zc0 ?_;refine cp n ?_;refine Zc0 ?_;refine cp o ?_;refine Zc1 z ?_;refine⟨i+1,by omega,by omega,?_⟩;exact⟨[],rfl,Zcs,Zcv,Zcu (Zck (QaN _)) (Zcu (Zck (QaN _)) (Zcu (Zck rfl) (Zcu (Zck rfl) Zct)))⟩
 refine Zc1 a ?_;exact⟨.inr trivial,_,rfl,rfl⟩
theorem all111(v)(h:VOk v):Ps 111 [vrsV v] (.tup [liV (dom v),.int .i64 0]):=by
 have z:=h.l5;have b:=h.hin;have A:=check167 v h;refine Zcm 64 (Ok WA.s111) rfl (by rw[noRefs,QaN];rfl) (by simp only[noRef,noRefs,QaD];rfl) ?_;unfold WA.s111;refine Zc0 ?_;refine cp A ?_;refine Zc0 ?_;refine QaC 100 (fun i:Nat=>[(0,vrsV v),(5,.int .i64 (szV 1 (v.take i))),(20,vrsV v),(21,.int .i64 v.length),(22,.int .i64 i)]) (fun _=>[]) (fun i=>i<=v.length) (fun i=>v.length-i) 0 ?_ (Zai _) ?_;·exact⟨[],rfl,Zcs,Zcv,Zcu (Zck (QaN _)) (Zcu (Zck rfl) (Zcu (Zck (QaN _)) (Zcu (Zck rfl) (Zcu (Zck rfl) Zct))))⟩
 rintro i hi;by_cases a:i<v.length
 ·obtain⟨x,d⟩:=Qak a;have c:=Qb0 d;have f:4<=((v.flatMap vrC).drop (i*4)).length:=by rw[c];simp
  have x2:=b x (Zac d);have M:=Qbs b z i;have b2:=Qbs b z (i+1);have es:=QdN d;rw[es]at b2;generalize szV 1 (v.take i)=S at*;have G:¬4096<S*(x.2+1):=by omega
  have C:x.2-0=x.2:=by omega
  refine Zc1 (Zc5 a c f G C) ?_;refine⟨i+1,by omega,by omega,?_⟩;rw[es];exact⟨[],rfl,Zcs,Zcv,Zcu (Zck (QaN _)) (Zcu (Zck rfl) (Zcu (Zck (QaN _)) (Zcu (Zck rfl) (Zcu (Zck rfl) Zct))))⟩
 refine Zc1 a ?_;refine QaC 120 (fun i:Nat=>[(8,liV (dom (v.take i))),(38,vrsV v),(39,.int .i64 v.length),(40,.int .i64 i)]) (fun _=>[]) (fun i=>i<=v.length) (fun i=>v.length-i) 0 ?_ (Zai _) ?_;·refine⟨[],rfl,Zcs,Zcv,Zcu (Rn.fz (b:=101) (g:=0) gg rfl rfl rfl (ZcC Rn.nilK ZcB)) (Zcu (Zck (QaN v)) au41)⟩
 rintro i hi;by_cases a:i<v.length
 ·obtain⟨x,d⟩:=Qak a;have c:=Qb0 d;have f:4<=((v.flatMap vrC).drop (i*4)).length:=by rw[c];simp
  have u:=b x (Zac d);have y:=QeQ d;have K:(dom (v.take i)).length<=243:=by have h1:=Qen b i hi;have N:=Qbs b z i;omega
  have r:∀t∈dom (v.take i),t.length<=5:=fun t l=>by rw[QeR i hi t l];omega
  generalize dom (v.take i)=L at*;refine Zc1 (Zc3 a c f) ?_;refine Qar 140 (fun k:Nat=>[(10,.ptr 53 0 0),(11,.sl 76 0 0 (domP L x.2 k 0).length 1),(38,vrsV v),(39,.int .i64 v.length),(40,.int .i64 i),(44,liV L),(45,.int .i64 L.length),(46,.int .i64 k)]) (fun k=>[(53,.cells 0 [.str x.1,.int .i64 0,.int .i64 x.2,.int .i64 0]),(76,.cells 0 ((domP L x.2 k 0).map sli))]) (fun k=>k<=L.length) (fun k=>L.length-k) 0 4 300 (fun _:Unit=>[(11,liV (domS L x.2)),(38,vrsV v),(39,.int .i64 v.length),(40,.int .i64 i)]) (fun _=>[]) (fun _=>True) ?_ (Zai _) ?_ ?_;·refine⟨[(53,.blk 123 0),(76,.nil)],rfl,au0,?_,au41⟩;exact Zcw rfl rfl gg (Zcl rfl) (Zcx rfl rfl Zcv)
  ·rintro k hk;by_cases g:k<L.length
   ·obtain⟨t,l⟩:=Qak g;have J:=r t (Zac l);have s:=cloneI86 t (by omega);refine Zc1 (Zc2 g (Qbu l)) ?_;refine QaC 200 (fun n:Nat=>[(10,.ptr 53 0 0),(11,.sl 76 0 0 (domP L x.2 k n).length 1),(13,sli t),(14,.int .i64 n),(38,vrsV v),(39,.int .i64 v.length),(40,.int .i64 i),(44,liV L),(45,.int .i64 L.length),(46,.int .i64 k)]) (fun n=>[(53,.cells 0 [.str x.1,.int .i64 0,.int .i64 x.2,.int .i64 0]),(76,.cells 0 ((domP L x.2 k n).map sli))]) (fun n=>n<=(x.2+1).toNat) (fun n=>(x.2+1).toNat-n) 0 ?_ (Zai _) ?_;·refine⟨[(53,.blk 53 0),(76,.blk 76 0)],rfl,au0,?_,au41⟩;exact Zcw rfl rfl gg (Zcl rfl) (Zcw rfl rfl gg (Zcl (QaD _)) Zcv)
    rintro n I;have F:=Qng (L:=L) (k:=k) u I;by_cases o:(n:Int)<=x.2
    ·have m:(ints t).all AV.one=true:=by simp[ints,AV.one]
     have p:(ints t).length=t.length:=by simp[ints]
     have q:((domP L x.2 k n).map sli).length=(domP L x.2 k n).length*1:=by simp
     refine Zc1 o ?_;refine ch (ZcM (b:=83) (by(try simp only[noRefs,Qaa,noRef,noRefs,QaO,Qau,Qay,QaD,QaB,Zae,Zad])<;>rfl) s (by repeat(first|exact Fresh.e|exact Zco (by assumption) (by omega)|refine Zcp ?_ (by omega) (by omega))) rfl) ?_;refine Zc1 (Zc3 m p q) ?_;refine⟨n+1,by omega,by omega,?_⟩;rw[Qlp l,Zaf,ZaI];refine⟨[(53,.blk 53 0),(76,.blk 76 1)],rfl,au0,?_,au41⟩;exact Zcw rfl rfl gg (Zcl rfl) (Zcw rfl rfl gg (RnL.append (Zcl (QaD _)) (RnL.one (ZcD (b:=83) (g:=1) gg rfl rfl (by simp) (by simp[ints]) (RnL.eq (by simp[ints]) (Qaa _))))) Zcv)
    have B:n=(x.2+1).toNat:=by omega
    have w:=Qne (h:=x.2) l;refine Zc1 o ?_;refine⟨k+1,by omega,by omega,?_⟩;rw[Qjk,<-w,<-B];refine⟨[(53,.blk 53 0),(76,.blk 76 0)],rfl,au0,?_,au41⟩;exact Zcw rfl rfl gg (Zcl rfl) (Zcw rfl rfl gg (Zcl (QaD _)) Zcv)
   have E:k=L.length:=by omega
   subst E;have w:domP L x.2 L.length 0=domS L x.2:=by rw[Qjk,Zan]
   refine Zc1 g ?_;rw[w];refine⟨(),?_⟩;exact⟨[],rfl,Zcs,Zcv,Zcu (ZcD (b:=76) (g:=0) gg rfl rfl rfl (by simp) (Zcl (QaD _))) (Zcu (Zck (QaN _)) (Zcu (Zck rfl) (Zcu (Zck rfl) Zct)))⟩
  rintro _ _;refine Zc0 ?_;refine⟨i+1,by omega,by omega,?_⟩;rw[y];exact⟨[],rfl,Zcs,Zcv,Zcu (Zck (QbD _)) (Zcu (Zck (QaN _)) (Zcu (Zck rfl) (Zcu (Zck rfl) Zct)))⟩
 have H:i=v.length:=by omega
 subst H;rw[Zan];refine Zc1 a ?_;exact⟨.inr trivial,_,rfl,Zck (by simp only[noRef,noRefs,QaD];rfl)⟩
section
variable(A:List (List Int))(t c:List Bool)
def ndP:Nat->List (List Int)|0=>[]|i+1=>if(c.getD i false&&t.getD i false)=true then ndP i++[A.getD i []]else ndP i
def rfP:Nat->List (List Int)|0=>[]|i+1=>if(c.getD i false&&!t.getD i false)=true then rfP i++[A.getD i []]else rfP i
end
theorem Qpo:∀n,(ndP A t c n).any f=(List.range n).any fun i=>c.getD i false&&(t.getD i false&&f (A.getD i []))
 |0=>rfl|n+1=>by
  rw[ZaK,List.any_append,<-Qpo n,ndP];have e:([n].any fun i=>c.getD i false&&(t.getD i false&&f (A.getD i [])))=(c.getD n false&&(t.getD n false&&f (A.getD n []))):=by rw[List.any_cons,List.any_nil,Zb4]
  rw[e];cases c.getD n false with|false=>rw[if_neg (by simp),Zb7,Zb4]|true=>cases t.getD n false with|false=>rw[if_neg (by simp)];simp|true=>rw[if_pos (show(true&&true)=true from rfl),List.any_append,List.any_cons,List.any_nil,Zb4];simp
theorem Qpp:∀n,(rfP A t c n).any f=(List.range n).any fun i=>c.getD i false&&(!t.getD i false&&f (A.getD i []))
 |0=>rfl|n+1=>by
  rw[ZaK,List.any_append,<-Qpp n,rfP];have e:([n].any fun i=>c.getD i false&&(!t.getD i false&&f (A.getD i [])))=(c.getD n false&&(!t.getD n false&&f (A.getD n []))):=by rw[List.any_cons,List.any_nil,Zb4]
  rw[e];cases c.getD n false with|false=>rw[if_neg (by simp),Zb7,Zb4]|true=>cases t.getD n false with|true=>rw[if_neg (by simp)];simp|false=>rw[if_pos (show(true&&!false)=true from rfl),List.any_append,List.any_cons,List.any_nil,Zb4];simp
theorem QvW:okR (rfP A t c A.length)=okP A t c:=by funext b;unfold okR;rw[Qpp];rfl
theorem Qj6:∀n,n<=A.length->∀x∈ndP A t c n,x∈A
 |0,_,x,b=>by cases b|n+1,f,x,b=>by
  obtain⟨a,d⟩:=Qak (l:=A) (i:=n) (by omega);rw[ndP]at b;split at b
  ·rcases ZaE.1 b with b|b;·exact Qj6 n (by omega) x b
   rw[ZaS.1 b,QaA d];exact Zac d
  exact Qj6 n (by omega) x b
theorem Qj7:∀n,n<=A.length->∀x∈rfP A t c n,x∈A
 |0,_,x,b=>by cases b|n+1,f,x,b=>by
  obtain⟨a,d⟩:=Qak (l:=A) (i:=n) (by omega);rw[rfP]at b;split at b
  ·rcases ZaE.1 b with b|b;·exact Qj7 n (by omega) x b
   rw[ZaS.1 b,QaA d];exact Zac d
  exact Qj7 n (by omega) x b
theorem Qj8{A}{t c}:∀n,(ndP A t c n).length<=n
 |0=>Zau _|n+1=>by
  have:=@Qj8 A t c n;rw[ndP];split;·rw[Zaf];simp;omega
  omega
theorem Qj9{A}{t c}:∀n,(rfP A t c n).length<=n
 |0=>Zau _|n+1=>by
  have:=@Qj9 A t c n;rw[rfP];split;·rw[Zaf];simp;omega
  omega
section
variable(G:List Int->Bxn)(nd:List (List Int))
def bgA:Nat->List Bxn|0=>[]|i+1=>if inBs (bgA i) (nd.getD i [])=true then bgA i else bgA i++[G (nd.getD i [])]
def spr(l:List Bxn)(i:Nat):Bool:=!nd.any fun x=>inB (l.getD i bx0) x&&!inBs (l.eraseIdx i) x
def bgB:Nat->List Bxn->Nat->List Bxn|0,l,_=>l|f+1,l,i=>if i<l.length then(if spr nd l i=true then bgB f (l.eraseIdx i) i else bgB f l (i+1))else l
end
theorem Qpq{nd}:∀i,i<=nd.length->bgA G (nd++[x]) i=bgA G nd i
 |0,_=>rfl|i+1,hi=>by
  rw[bgA,bgA,Qpq i (by omega)];have:(nd++[x]).getD i []=nd.getD i []:=by rw[Zah,Za6 (by omega),<-Zah]
  rw[this]
theorem Qsm{G}{A}{t c}:∀n,bgA G (ndP A t c n) (ndP A t c n).length=cA G A t c n
 |0=>rfl|n+1=>by
  have a:=@Qsm G A t c n;have b:∀(L:List (List Int))x,bgA G (L++[x]) (L++[x]).length=if inBs (bgA G L L.length) x=true then bgA G L L.length else bgA G L L.length++[G x]:=fun L x=>by
   rw[Zaf];show bgA G (L++[x]) (L.length+1)=_;rw[bgA,Qpq L.length (Zau _)];have:(L++[x]).getD L.length []=x:=by rw[Zah,Zbr (Zau _),ZbL];rfl
   rw[this]
  rw[ndP,cA];cases h1:c.getD n false with|false=>simpa using a|true=>cases d:t.getD n false with|false=>simpa using a|true=>simp only[Zae,if_true,Zag];rw[b,a];cases f:inBs (cA G A t c n) (A.getD n [])<;>simp
theorem Qpr{G}{nd}:∀i,(bgA G nd i).length<=i
 |0=>Zau _|i+1=>by
  have:=@Qpr G nd i;rw[bgA];split;·omega
  rw[Zaf];simp;omega
theorem Qka{nd}(h:∀a∈nd,P (G a)):∀i,i<=nd.length->∀b∈bgA G nd i,P b
 |0,_,b,c=>by cases c|i+1,hi,b,c=>by
  rw[bgA]at c;obtain⟨a,d⟩:=Qak (l:=nd) (i:=i) (by omega);split at c;·exact Qka h i (by omega) b c
  rcases ZaE.1 c with c|c;·exact Qka h i (by omega) b c
  rw[ZaS.1 c,QaA d];exact h a (Zac d)
def sel:List Bool->List Bxn->List Bxn|b::L,x::a=>if b=true then x::sel L a else sel L a|_,_=>[]
theorem Qkb:∀{L:List Bool}{bs:List Bxn}{b:Bool}{x:Bxn},L.length=bs.length->sel (L++[b]) (bs++[x])=sel L bs++(if b=true then[x]else[])|[],[],b,x,_=>by cases b<;>rfl|[],y::bs,b,x,h=>by simp at h|a::L,[],b,x,h=>by simp at h|a::L,y::bs,b,x,h=>by have c:=@Qkb L bs b x (by simpa using h);rw[ZaU,ZaU,sel,sel,c];split<;>rfl
theorem Qkc:∀{L:List Bool}{bs:List Bxn}{y:Bxn},y∈sel L bs↔∃i:Nat,L[i]?=some true/\bs[i]?=some y
 |[],bs,y=>by
  constructor;·intro h;cases bs<;>cases h
  rintro⟨i,h,_⟩;simp at h|a::L,[],y=>by
  constructor;·intro h;cases h
  rintro⟨i,_,h⟩;simp at h|a::L,x::bs,y=>by
  have c:=@Qkc L bs y;rw[sel];constructor
  ·intro h;have:y∈sel L bs->∃i:Nat,(a::L)[i]?=some true/\(x::bs)[i]?=some y:=fun h=>by obtain⟨i,h1,b⟩:=c.1 h;exact⟨i+1,by simpa using h1,by simpa using b⟩
   split at h
   ·rename_i d;rcases Zax.1 h with rfl|h;·exact⟨0,by simp[d],by simp⟩
    exact this h
   exact this h
  rintro⟨i,h1,b⟩;cases i with|zero=>simp only[Zbk,Zaa]at h1 b;rw[if_pos h1,b];simp|succ i=>
   simp only[ZbH]at h1 b;have:=c.2 ⟨i,h1,b⟩;split;·exact List.mem_cons_of_mem _ this
   exact this
theorem QvX{L}(hk:k<bs.length)(q:L.length=k)(x):cvB bs (L++List.replicate (bs.length-k) true) k x=inBs (sel L (bs.take k)++bs.drop (k+1)) x:=by
 rw[Zb2];unfold cvB inBs;rw[Zby,Zby];have a:∀i,i<bs.length->((L++List.replicate (bs.length-k) true).getD i false=true↔(i<k/\L[i]?=some true)\/k<=i):=by
  intro i hi;by_cases h:i<k
  ·rw[Zah,Za6 (by omega)];obtain⟨b,f⟩:=Qak (l:=L) (i:=i) (by omega);rw[f];simp only[Option.getD_some,Zaa];constructor;·intro e;exact .inl ⟨h,e⟩
   rintro(⟨_,e⟩|e);·exact e
   omega
  rw[Zah,Zbr (by omega),List.getElem?_replicate,if_pos (by omega)];simp;omega
 constructor
 ·rintro⟨i,hi,l⟩;have hi:=Zat.1 hi;unfold cvQ at l;simp only[Zab,Zbq,decide_eq_false_iff_not]at l;obtain⟨h1,c,g⟩:=l;obtain⟨b,f⟩:=Qak (l:=bs) (i:=i) hi;rw[QaA f]at g;refine⟨b,?_,g⟩;rcases(a i hi).1 c with⟨o,p⟩|o;·exact List.mem_append_left _ (Qkc.2 ⟨i,p,by rw[List.getElem?_take,if_pos o];exact f⟩)
  refine List.mem_append_right _ (Zac (i:=i-(k+1)) ?_);rw[ZbF,show k+1+(i-(k+1))=i by omega];exact f
 rintro⟨b,hm,g⟩;rcases ZaE.1 hm with hm|hm
 ·obtain⟨i,h1,c⟩:=Qkc.1 hm;have d:i<k:=by have:=(Zaj.1 h1).1;omega
  rw[List.getElem?_take,if_pos d]at c;refine⟨i,Zat.2 (by omega),?_⟩;unfold cvQ;rw[QaA c,g,(a i (by omega)).2 (.inl ⟨d,h1⟩),decide_eq_false (by omega)];rfl
 obtain⟨j,n,he⟩:=Za4 hm;have m:=n;rw[ZaQ]at m;have c:bs[k+1+j]?=some b:=by rw[<-ZbF,Zak n,he]
 refine⟨k+1+j,Zat.2 (by omega),?_⟩;unfold cvQ;rw[QaA c,g,(a _ (by omega)).2 (.inr (by omega)),decide_eq_false (by omega)];rfl
theorem Qsn{lf}:∀n,spU A t c bs lf k n=!(List.range n).any fun i=>c.getD i false&&(t.getD i false&&(inB (bs.getD k bx0) (A.getD i [])&&!cvB bs lf k (A.getD i [])))|0=>rfl|n+1=>by rw[spU,Qsn n,ZaK,List.any_append,Bool.not_or];congr 1;unfold spQ;rw[List.any_cons,List.any_nil,Zb4];generalize c.getD n false=x1;generalize t.getD n false=x2;generalize inB (bs.getD k bx0) (A.getD n [])=x3;generalize cvB bs lf k (A.getD n [])=x4;cases x1<;>cases x2<;>cases x3<;>cases x4<;>rfl
theorem QvY:∀(m k:Nat),bs.length-k=m->k<=bs.length->(∃L,L.length=k/\(cB A t c bs k).1=L++List.replicate (bs.length-k) true/\(cB A t c bs k).2=sel L (bs.take k))->bgB (ndP A t c A.length) m ((cB A t c bs k).2++bs.drop k) (cB A t c bs k).2.length=(cB A t c bs bs.length).2:=by
 intro m;induction m with|zero=>
  intro k hm hk _;have:k=bs.length:=by omega
  subst this;rw[bgB,List.drop_length,Zas]|succ m w=>
  rintro k hm hk⟨L,q,h1,s⟩;have g:k<bs.length:=by omega
  obtain⟨y,o⟩:=Qak g;have l:bs.drop k=y::bs.drop (k+1):=by rw[Zbv g];congr 1;exact(Zaj.1 o).2
  have d:cB A t c bs (k+1)=if spU A t c bs (cB A t c bs k).1 k A.length=true then((cB A t c bs k).1.set k false,(cB A t c bs k).2)else((cB A t c bs k).1.set k true,(cB A t c bs k).2++[bs.getD k bx0]):=rfl;have f:∀b:Bool,(L++List.replicate (bs.length-k) true).set k b=(L++[b])++List.replicate (bs.length-(k+1)) true:=by
   intro b;have e:bs.length-k=(bs.length-(k+1))+1:=by omega
   rw[e,ZaY,List.set_append_right _ _ (by omega),q,ZbL,ZbO,ZaN];rfl
  have h:bs.take (k+1)=bs.take k++[y]:=take_succ' o;have n:L.length=(bs.take k).length:=by rw[Zaq];omega
  have u:spr (ndP A t c A.length) ((cB A t c bs k).2++bs.drop k) (cB A t c bs k).2.length=spU A t c bs (cB A t c bs k).1 k A.length:=by
   unfold spr;rw[Qpo,Qsn];have v:((cB A t c bs k).2++bs.drop k).getD (cB A t c bs k).2.length bx0=bs.getD k bx0:=by rw[QaA o,Zah,Zbr (Zau _),ZbL,l];rfl
   have r:((cB A t c bs k).2++bs.drop k).eraseIdx (cB A t c bs k).2.length=(cB A t c bs k).2++bs.drop (k+1):=by rw[List.eraseIdx_append_of_length_le (Zau _),ZbL,l];rfl
   rw[v,r,h1,s];congr 2;funext i;rw[QvX g q]
  have r:((cB A t c bs k).2++bs.drop k).eraseIdx (cB A t c bs k).2.length=(cB A t c bs k).2++bs.drop (k+1):=by rw[List.eraseIdx_append_of_length_le (Zau _),ZbL,l];rfl
  rw[bgB,if_pos (by rw[Zaf,l,ZaC];omega),u,r];have a:=w (k+1) (by omega) (by omega);by_cases p:spU A t c bs (cB A t c bs k).1 k A.length=true
  ·rw[if_pos p]at d;rw[if_pos p];rw[d]at a;refine a ⟨L++[false],by simp[q],?_,?_⟩;·show(cB A t c bs k).1.set k false=_;rw[h1];exact f false
   show(cB A t c bs k).2=_;rw[h,Qkb n,s];simp
  rw[if_neg p]at d;rw[if_neg p];rw[d]at a;have x:(cB A t c bs k).2++bs.drop k=((cB A t c bs k).2++[bs.getD k bx0])++bs.drop (k+1):=by rw[l,QaA o,ZaN];rfl
  have z:(cB A t c bs k).2.length+1=((cB A t c bs k).2++[bs.getD k bx0]).length:=by simp
  rw[x,z];refine a ⟨L++[true],by simp[q],?_,?_⟩;·show(cB A t c bs k).1.set k true=_;rw[h1];exact f true
  show(cB A t c bs k).2++[bs.getD k bx0]=_;rw[h,Qkb n,s,QaA o];simp
def covR(G:List Int->Bxn)(nd:List (List Int)):List Bxn:=bgB nd (bgA G nd nd.length).length (bgA G nd nd.length) 0
theorem QuM:covR (fun a=>grB (okR (rfP (dom v) t c (dom v).length)) v a v.length) (ndP (dom v) t c (dom v).length)=covV v t c:=by unfold covR covV cov;rw[QvW,Qsm];generalize cA (fun a=>grB (okP (dom v) t c) v a v.length) (dom v) t c (dom v).length=b;exact QvY (A:=dom v) (t:=t) (c:=c) b.length 0 (by omega) (Zai _) ⟨[],rfl,by simp[cB],rfl⟩
theorem Qkd{g}(d:h.get b=some (.cells g cs))(a:l.length=n)(hc:cs.take (n*2)=l.flatMap bxC)(c:n*2<=cs.length):FrzTo h (.sl b g 0 n 2) (bxsV l):=by subst a;refine FrzTo.sl d (by omega) ?_;rw[ZaX,hc];exact Zcr _
theorem QuN{nd}{f i}(h:¬i<l.length):bgB nd f l i=l:=by cases f with|zero=>rfl|succ f=>rw[bgB,if_neg h]
theorem tight2{a}(f:a∈L)(d:b∈L):tightL L ⟨false,[b,a],[b]⟩:=⟨rfl,fun x c=>by simp only[Zax,Za1,or_false]at c;rcases c with(rfl|rfl)|rfl<;>assumption⟩
theorem tight1(c:b∈L):tightL L ⟨false,[b],[b]⟩:=⟨rfl,fun x a=>by simp only[Zax,Za1,or_false]at a;rcases a with rfl|rfl<;>assumption⟩
theorem boxes168(v:List (List UInt8×Int))(A nd rf:List (List Int))(h5:v.length<=5)(H:∀x∈v,0<=x.2/\x.2<=2)(Z:nd.length<=1000)(hrl:rf.length<=1000)(g:∀a∈nd,a.length=v.length/\∀(j:Nat)x,v[j]?=some x->0<=a.getD j 0/\a.getD j 0<=x.2)(T:∀a∈rf,a.length=v.length):Ps 168 [cvV v A nd rf] (bxsV (covR (fun a=>grB (okR rf) v a v.length) nd)):=by
 have N:∀a∈nd,Ps 210 [cvV v A nd rf,sli a] (bxV (grB (okR rf) v a v.length)):=fun a m=>grow210 v a A nd rf h5 H (g a m).1 (g a m).2 (by omega) T;have B:∀a∈nd,BxR v (grB (okR rf) v a v.length):=fun a m=>grB_R H (g a m).1 (g a m).2 v.length (Zau _);generalize z:(fun a=>grB (okR rf) v a v.length)=G;have N:∀a∈nd,Ps 210 [cvV v A nd rf,sli a] (bxV (G a)):=fun a m=>by rw[<-z];exact N a m
 have B:∀a∈nd,BxR v (G a):=fun a m=>by rw[<-z];exact B a m
 clear z;have E:=fun i hi=>Qka (G:=G) (nd:=nd) B i hi;have f:noRefs [vrsV v,liV A,liV nd,liV rf]=true:=by simp only[noRefs,noRef,Qay,QaD];rfl
 refine Zcm 64 (Ok WA.s168) rfl (by rw[noRefs,noRef,f];rfl) (QbM _) ?_;unfold WA.s168;refine Zc0 ?_;refine QaC 100 (fun i:Nat=>[(1,.ptr 50 0 0),(3,.ptr 51 0 0),(10,liV nd),(11,.int .i64 nd.length),(12,.int .i64 i)]) (fun i=>[(50,.cells 0 [vrsV v,liV A,liV nd,liV rf]),(51,.cells 0 [.sl 71 0 0 (bgA G nd i).length 2]),(71,.cells 0 ((bgA G nd i).flatMap bxC))]) (fun i=>i<=nd.length) (fun i=>nd.length-i) 0 ?_ (Zai _) ?_;·refine⟨[(50,.blk 64 0),(51,.blk 66 0),(71,.nil)],rfl,au0,?_,au41⟩;exact Zcw rfl rfl gg (Zcl f) (Zcw rfl rfl gg (ZcC (Rn.x4 rfl rfl) ZcB) (Zcx rfl rfl Zcv))
 rintro i hi;have Q:=E i hi;have hAl:=@Qpr G nd i;have c:bgA G nd (i+1)=if inBs (bgA G nd i) (nd.getD i [])=true then bgA G nd i else bgA G nd i++[G (nd.getD i [])]:=rfl;by_cases d:i<nd.length;·obtain⟨a,m⟩:=Qak d;have K:=Zac m;have J:=(g a K).1;have hg:=N a K;rw[QaA m]at c;generalize bgA G nd i=h at*;have S:=in209 h a (by omega) (fun b s=>⟨by rw[(Q b s).1,J],by rw[(Q b s).2.1,J]⟩) (by omega);have M:(h.flatMap bxC).length=h.length*2:=QbI h;refine Zc1 (Zc2 d (Qbu m)) ?_;refine ch (ZcI (ZcL (Qjl gg rfl) (Zcr _)) S rfl) ?_;cases V:inBs h a with|true=>rw[if_pos V]at c;refine Zc0 ?_;refine⟨i+1,by omega,by omega,?_⟩;rw[c];refine⟨[(50,.blk 50 0),(51,.blk 51 0),(71,.blk 71 0)],rfl,au0,?_,au41⟩;exact Zcw rfl rfl gg (Zcl f) (Zcw rfl rfl gg (ZcC (Rn.x1 rfl rfl) ZcB) (Zcw rfl rfl gg (Zcl (Qau _)) Zcv))|false=>
  rw[if_neg (by rw[V];decide)]at c;refine Zc0 ?_;refine cp hg ?_;refine Zc1 M ?_;refine⟨i+1,by omega,by omega,?_⟩;have e1:(h++[G a]).length=h.length+1:=by simp
  rw[c,e1,Zao];refine⟨[(50,.blk 50 0),(51,.blk 51 0),(71,.blk 71 1)],rfl,au0,?_,au41⟩;exact Zcw rfl rfl gg (Zcl f) (Zcw rfl rfl gg (ZcC (Rn.x1 rfl rfl) ZcB) (Zcw rfl rfl gg (Zcl (SU.Qaw (Qau _) (Qau [G a]))) Zcv))
 have ei:i=nd.length:=by omega
 subst ei;clear c;refine Zc1 d ?_;unfold covR;generalize bgA G nd nd.length=h at*;refine QaC 300 (fun t:List Bxn×Nat×List AV=>[(1,.ptr 50 0 0),(3,.ptr 51 0 0),(6,.ptr 52 0 0)]) (fun t=>[(50,.cells 0 [vrsV v,liV A,liV nd,liV rf]),(51,.cells 0 [.sl 71 0 0 t.1.length 2]),(52,.cells 0 [.int .i64 t.2.1]),(71,.cells 0 t.2.2)]) (fun t=>(t.2.2.take (t.1.length*2)=t.1.flatMap bxC/\t.1.length*2<=t.2.2.length/\noRefs t.2.2=true)/\t.2.1<=t.1.length/\t.1.length<=1000/\(∀b∈t.1,BxR v b)/\bgB nd (t.1.length-t.2.1) t.1 t.2.1=bgB nd h.length h 0) (fun t=>t.1.length-t.2.1) (h,0,h.flatMap bxC) ?_ ⟨⟨by rw[<-QbI,Zan],by rw[QbI];exact Zau _,Qau _⟩,Zai _,by show h.length<=1000;omega,Q,rfl⟩ ?_;·refine⟨[(50,.blk 50 0),(51,.blk 51 0),(52,.blk 101 0),(71,.blk 71 0)],rfl,au0,?_,au41⟩;exact Zcw rfl rfl gg (Zcl f) (Zcw rfl rfl gg (ZcC (Rn.x1 rfl rfl) ZcB) (Zcw rfl rfl gg (Zcl rfl) (Zcw rfl rfl gg (Zcl (Qau _)) Zcv)))
 rintro⟨l,i,cs⟩⟨⟨p,n,q⟩,hi,X,L,I⟩;dsimp only at p n q hi X L I⊢;by_cases d:i<l.length
 ·obtain⟨b,s⟩:=Qak d;have R:=cloneB212 l cs (by omega) (by omega) p n q;have O:=delete211 l i d (by omega);have F:(l.eraseIdx i).length=l.length-1:=by rw[List.length_eraseIdx,if_pos d]
  have C:∀b∈l.eraseIdx i,BxR v b:=fun b s=>L b (List.mem_of_mem_eraseIdx s);have u:=QbI (l.eraseIdx i);have hQ:∀x∈nd,Ps 214 ([]++[sli x]++[.fptr [bxsV l],.fptr [.int .i64 (i:Int)],.fptr [bxsV (l.eraseIdx i)]]) (.bool (inB (l.getD i bx0) x&&!inBs (l.eraseIdx i) x)):=fun x hx=>by have w:=(g x hx).1;rw[QaA s];exact spare214 l (l.eraseIdx i) i b x s (by omega) (by omega) ⟨by rw[(L b (Zac s)).1,w],by rw[(L b (Zac s)).2.1,w]⟩ (fun y U=>⟨by rw[(C y U).1,w],by rw[(C y U).2.1,w]⟩) (by omega)
  have Y:=contains213 (f:=214) (a:=[]) (c:=[.fptr [bxsV l],.fptr [.int .i64 (i:Int)],.fptr [bxsV (l.eraseIdx i)]]) nd (fun x=>inB (l.getD i bx0) x&&!inBs (l.eraseIdx i) x) (by simp only[noRef,noRefs,Qau];rfl) (by omega) hQ;have P:spr nd l i=!(nd.any fun x=>inB (l.getD i bx0) x&&!inBs (l.eraseIdx i) x):=rfl;have r:bgB nd (l.length-i) l i=if spr nd l i=true then bgB nd (l.length-i-1) (l.eraseIdx i) i else bgB nd (l.length-i-1) l (i+1):=by obtain⟨k,hk⟩:∃k,l.length-i=k+1:=⟨l.length-i-1,by omega⟩;rw[hk,bgB,if_pos d];rfl
  rw[P]at r;generalize(nd.any fun x=>inB (l.getD i bx0) x&&!inBs (l.eraseIdx i) x)=SP at*;have o:(i:Int)<(l.length:Int):=by omega
  refine Zc1 o ?_;refine Qp9 [] [71,92] [92] 1 3 (x1:=.f 212) (ag1:=[.t 31]) (d1:=some 32) (x2:=.f 211) (ag2:=[.t 32,.t 33,.t 35]) (d2:=some 36) rfl rfl rfl rfl ?_;refine Zc0 ?_;refine⟨212,[],[],_,_,_,rfl,FStep.new1 R rfl (QnL q) gg gg (by decide) rfl rfl,tight2 (by simp) (by simp),?_⟩;refine Zc0 ?_;refine⟨211,[],[],_,_,_,rfl,FStep.one O rfl (QnL (Qau _)) gg rfl,tight1 (by simp),?_⟩;refine Zc0 ?_;refine⟨trivial,?_⟩;refine ch (ZcI (ZcL (Zcq _) (ZcL (FrzTo.fn ZcK (ZcL (ZcH gg (ZcL (Qkd gg rfl p n) ZcK)) (ZcL (ZcH gg (Zcr _)) (ZcL (ZcH gg (ZcL (Qkd (cs:=(l.eraseIdx i).flatMap bxC++[.nilsl,.nilsl]) gg F (by rw[<-F,<-u];exact List.take_left) (by rw[Zaf,u,F];omega)) ZcK)) ZcK)))) ZcK)) Y rfl) ?_
  cases SP with|false=>
   rw[if_pos (show(!false)=true from rfl)]at r;refine Zc0 ?_;refine⟨(l.eraseIdx i,i,(l.eraseIdx i).flatMap bxC++[.nilsl,.nilsl]),by dsimp only;omega,⟨⟨by rw[<-u];exact List.take_left,by dsimp only;rw[List.length_append,u];omega,SU.Qaw (Qau _) rfl⟩,by dsimp only;omega,by dsimp only;omega,C,?_⟩,?_⟩;·dsimp only;rw[F,show l.length-1-i=l.length-i-1 by omega,<-r,I]
   dsimp only;rw[F];refine⟨[(50,.blk 50 0),(51,.blk 51 0),(52,.blk 322 0),(71,.blk 92 0)],rfl,au0,?_,au41⟩;exact Zcw rfl rfl gg (Zcl f) (Zcw rfl rfl gg (ZcC (Rn.x1 rfl rfl) ZcB) (Zcw rfl rfl gg (ZcC (Zck rfl) ZcB) (Zcw rfl rfl gg (Zcl (SU.Qaw (Qau _) rfl)) Zcv)))|true=>
   rw[if_neg (by decide)]at r;refine Zc0 ?_;refine⟨(l,i+1,cs),by dsimp only;omega,⟨⟨p,n,q⟩,by dsimp only;omega,X,L,?_⟩,?_⟩;·dsimp only;rw[show l.length-(i+1)=l.length-i-1 by omega,<-r,I]
   dsimp only;refine⟨[(50,.blk 50 0),(51,.blk 51 0),(52,.blk 323 0),(71,.blk 71 0)],rfl,au0,?_,au41⟩;exact Zcw rfl rfl gg (Zcl f) (Zcw rfl rfl gg (ZcC (Rn.x1 rfl rfl) ZcB) (Zcw rfl rfl gg (ZcC (Zck rfl) ZcB) (Zcw rfl rfl gg (Zcl q) Zcv)))
 have o:¬(i:Int)<(l.length:Int):=by omega
 rw[QuN d]at I;rw[<-I];refine Zc1 o ?_;refine⟨.inr trivial,_,rfl,?_⟩;refine Rn.QuW (QbM _) (Qkd (cs:=cs) gg rfl p n)
theorem covered112(v:List (List UInt8×Int))(A:List (List Int))(t c)(w:v.length<=5)(n:∀x∈v,0<=x.2/\x.2<=2)(hA:A.length<=1000)(z:t.length=A.length)(hc:c.length=A.length)(l:∀a∈A,a.length=v.length/\∀(j:Nat)x,v[j]?=some x->0<=a.getD j 0/\a.getD j 0<=x.2):Ps 112 [vrsV v,liV A,boV t,boV c] (bxsV (covR (fun a=>grB (okR (rfP A t c A.length)) v a v.length) (ndP A t c A.length))):=by
 have s:=boxes168 v A (ndP A t c A.length) (rfP A t c A.length) w n (ZaA (Qj8 _) hA) (ZaA (Qj9 _) hA) (fun a d=>l a (Qj6 _ (Zau _) a d)) (fun a d=>(l a (Qj7 _ (Zau _) a d)).1);refine Zcm 64 (Ok WA.s112) rfl (by simp only[noRefs,noRef,Qay,QaD,QaB];rfl) (QbM _) ?_;generalize covR (fun a=>grB (okR (rfP A t c A.length)) v a v.length) (ndP A t c A.length)=R at*;unfold WA.s112;refine Zc0 ?_;refine Qar 100 (fun i:Nat=>[(2,boV t),(3,boV c),(9,.ptr 50 0 0),(15,liV A),(16,.int .i64 A.length),(17,.int .i64 i)]) (fun i=>[(50,.cells 0 [vrsV v,liV A,.sl 71 0 0 (ndP A t c i).length 1,.sl 72 0 0 (rfP A t c i).length 1]),(71,.cells 0 ((ndP A t c i).map sli)),(72,.cells 0 ((rfP A t c i).map sli))]) (fun i=>i<=A.length) (fun i=>A.length-i) 0 0 200 (fun _:Unit=>[(9,.ptr 50 0 0)]) (fun _=>[(50,.cells 0 [vrsV v,liV A,liV (ndP A t c A.length),liV (rfP A t c A.length)])]) (fun _=>True) ?_ (Zai _) ?_ ?_;·refine⟨[(50,.blk 68 0),(71,.nil),(72,.nil)],rfl,au0,?_,au41⟩;exact Zcw rfl rfl gg (ZcC (Zck (QaN _)) (ZcC (Zck (QbD _)) (ZcC (Rn.x4 rfl rfl) (ZcC (Rn.x4 rfl rfl) ZcB)))) (Zcx rfl rfl (Zcx rfl rfl Zcv))
 ·rintro i hi;have h1:=@Qj8 A t c i;have y:=@Qj9 A t c i;have h:ndP A t c (i+1)=if(c.getD i false&&t.getD i false)=true then ndP A t c i++[A.getD i []]else ndP A t c i:=rfl;have k:rfP A t c (i+1)=if(c.getD i false&&!t.getD i false)=true then rfP A t c i++[A.getD i []]else rfP A t c i:=rfl;by_cases b:i<A.length
  ·obtain⟨a,d⟩:=Qak b;obtain⟨p,hp⟩:=Qak (l:=t) (i:=i) (by omega);obtain⟨q,m⟩:=Qak (l:=c) (i:=i) (by omega);have g:i<t.length:=by omega
   have f:i<c.length:=by omega
   rw[QaA d,QaA hp,QaA m]at h k;generalize ndP A t c i=ND at*;generalize rfP A t c i=RF at*;have o:(ND.map sli).length=ND.length*1:=by simp
   have r:(RF.map sli).length=RF.length*1:=by simp
   have m1:(ND++[a]).length=ND.length+1:=by simp
   have m2:(RF++[a]).length=RF.length+1:=by simp
   cases q with|false=>refine Zc1 (Zc6 b g f (Qbu d) (QaW hp) (QaW m)) ?_;refine⟨i+1,by omega,by omega,?_⟩;rw[h,k,if_neg (by simp),if_neg (by simp)];refine⟨[(50,.blk 50 0),(71,.blk 71 0),(72,.blk 72 0)],rfl,au0,?_,au41⟩;exact Zcw rfl rfl gg (ZcC (Zck (QaN _)) (ZcC (Zck (QbD _)) (ZcC (Rn.x1 rfl rfl) (ZcC (Rn.x1 rfl rfl) ZcB)))) (Zcw rfl rfl gg (Zcl (QaD _)) (Zcw rfl rfl gg (Zcl (QaD _)) Zcv))|true=>cases p with|false=>refine Zc1 (Zc8 b g f (Qbu d) (QaW hp) (QaW m) o r) ?_;refine⟨i+1,by omega,by omega,?_⟩;rw[h,k,if_neg (by simp),if_pos (by rfl),m2,ZaI];refine⟨[(50,.blk 50 0),(71,.blk 71 0),(72,.blk 72 1)],rfl,au0,?_,au41⟩;exact Zcw rfl rfl gg (ZcC (Zck (QaN _)) (ZcC (Zck (QbD _)) (ZcC (Rn.x1 rfl rfl) (ZcC (Rn.x1 rfl rfl) ZcB)))) (Zcw rfl rfl gg (Zcl (QaD _)) (Zcw rfl rfl gg (Zcl (SU.Qaw (QaD _) (QaD [a]))) Zcv))|true=>refine Zc1 (Zc8 b g f (Qbu d) (QaW hp) (QaW m) o r) ?_;refine⟨i+1,by omega,by omega,?_⟩;rw[h,k,if_pos (by rfl),if_neg (by simp),m1,ZaI];refine⟨[(50,.blk 50 0),(71,.blk 71 1),(72,.blk 72 0)],rfl,au0,?_,au41⟩;exact Zcw rfl rfl gg (ZcC (Zck (QaN _)) (ZcC (Zck (QbD _)) (ZcC (Rn.x1 rfl rfl) (ZcC (Rn.x1 rfl rfl) ZcB)))) (Zcw rfl rfl gg (Zcl (SU.Qaw (QaD _) (QaD [a]))) (Zcw rfl rfl gg (Zcl (QaD _)) Zcv))
  have u:i=A.length:=by omega
  subst u;clear h k;generalize ndP A t c A.length=ND at*;generalize rfP A t c A.length=RF at*;refine Zc1 b ?_;refine⟨(),?_⟩;refine⟨[(50,.blk 50 0)],rfl,au0,?_,au41⟩;exact Zcw rfl rfl gg (ZcC (Zck (QaN _)) (ZcC (Zck (QbD _)) (ZcC (ZcD (b:=71) (g:=0) gg rfl rfl rfl (by simp) (Zcl (QaD _))) (ZcC (ZcD (b:=72) (g:=0) gg rfl rfl rfl (by simp) (Zcl (QaD _))) ZcB)))) Zcv
 rintro _ _;generalize ndP A t c A.length=ND at*;generalize rfP A t c A.length=RF at*;refine Zc0 ?_;refine cp s ?_;refine Zc0 ?_;exact⟨.inr trivial,_,rfl,Zck (QbM _)⟩
theorem boxes51(v)(h:VOk v)(t c)(b:t.length=(dom v).length)(hc:c.length=(dom v).length)(hA:(dom v).length<=1000)(d:∀a∈dom v,∀(j:Nat)x,v[j]?=some x->0<=a.getD j 0/\a.getD j 0<=x.2):Ps 51 [vrsV v,boV t,boV c] (.tup [bxsV (covV v t c),.int .i64 0]):=by
 have g:=covered112 v (dom v) t c h.l5 h.hin hA b hc fun a f=>⟨QeR v.length (Zau _) a (by rw[Zan];exact f),d a f⟩;have i:=all111 v h;rw[QuM]at g;refine Zcm 64 (Ok WA.s51) rfl (by simp only[noRefs,noRef,Qay,QaB];rfl) (by simp only[noRef,noRefs,Qau];rfl) ?_;generalize covV v t c=R at*;have l:¬(t.length:Int)≠((dom v).length:Int):=by rw[b];simp
 have k:¬(c.length:Int)≠((dom v).length:Int):=by rw[hc];simp
 generalize dom v=D at*;unfold WA.s51;refine Zc0 ?_;refine cp i ?_;refine Zc1 (Zc2 b hc) ?_;refine cp g ?_;refine Zc0 ?_;exact⟨.inr trivial,_,rfl,Zck (by simp only[noRef,noRefs,Qau];rfl)⟩
theorem index48G(v:List (List UInt8×Int))(a:List Int)(m:v.length<=5)(b:∀x∈v,0<=x.2/\x.2<=2)(q:a.length=v.length)(c:∀(j:Nat)x,v[j]?=some x->0<=a.getD j 0/\a.getD j 0<=x.2):Ps 48 [vrsV v,sli a] (.int .i64 (ixQ v a v.length)):=by
 refine Zcn 64 (Ok WA.s48) rfl (by simp only[noRefs,noRef,Qay,Qaa];rfl) rfl ?_;unfold WA.s48;refine Zc0 ?_;refine QaC 100 (fun i:Nat=>[(1,sli a),(5,.int .i64 (ixQ v a i)),(8,vrsV v),(9,.int .i64 v.length),(10,.int .i64 i)]) (fun _=>[]) (fun i=>i<=v.length) (fun i=>v.length-i) 0 ?_ (Zai _) ?_;·exact⟨[],rfl,Zcs,Zcv,Zcu (Zck (Qah _)) (Zcu (Zck rfl) (Zcu (Zck (QaN _)) (Zcu (Zck rfl) (Zcu (Zck rfl) Zct))))⟩
 rintro i hi;by_cases d:i<v.length
 ·obtain⟨x,g⟩:=Qak d;obtain⟨y,h⟩:=Qak (l:=a) (i:=i) (by omega);have k:i<a.length:=by omega
  have f:=Qb0 g;have l:4<=((v.flatMap vrC).drop (i*4)).length:=by rw[f];simp
  have s:=Qd6 b c i hi;have b2:=Qd6 b c (i+1) (by omega);have t:=Qbs b m i;have u:=Qbs b m (i+1);have r:=b x (Zac g);have o:=c i x g;have n:ixQ v a (i+1)=ixQ v a i*(x.2+1)+y:=by rw[ixQ,QaA g,QaA h]
  rw[QaA h]at o;rw[n]at b2;generalize ixQ v a i=I at*;refine Zc1 (Zc5 d k f l (QaI h)) ?_;refine⟨i+1,by omega,by omega,?_⟩;rw[n];exact⟨[],rfl,Zcs,Zcv,Zcu (Zck (Qah _)) (Zcu (Zck rfl) (Zcu (Zck (QaN _)) (Zcu (Zck rfl) (Zcu (Zck rfl) Zct))))⟩
 have p:i=v.length:=by omega
 subst p;refine Zc1 d ?_;exact⟨.inr trivial,_,rfl,rfl⟩
def ctL(e:Nat->Evt)(n:Nat):List Nat:=(List.range n).filter fun i=>(e i).c
theorem Qps(e)(n):ctL e (n+1)=ctL e n++if(e n).c then[n]else[]:=by unfold ctL;rw[ZaK,Zbm];cases h:(e n).c<;>simp[h]
theorem Qso(e)(n):(ctL e n).length<=n:=by have:=Za7 (fun i=>(e i).c) (List.range n);rwa[ZbV]at this
theorem ctl103(x):Ps 103 [evNV x] (.bool x.2.c):=by refine Zcn 64 (Ok WB.s103) rfl rfl rfl ?_;cases h:x.2.c;all_goals unfold WB.s103;refine Zc1 h ?_;exact⟨.inr trivial,_,rfl,rfl⟩
theorem chosenC(e):Ps 109 [evsV e,.fn 103 [] []] (sliN (ctL e 5)):=by
 have k:=Qdn (evl e);rw[Qha];refine Zcm 64 (Ok OE.s109) rfl (by simp only[noRefs,noRef,k];rfl) (Qab _) ?_;unfold OE.s109;refine Zc0 ?_;refine Qar 100 (fun i:Nat=>[(1,.fn 103 [] []),(5,.sl 76 0 0 (ctL e i).length 1),(8,evsN (evl e)),(9,.int .i64 5),(10,.int .i64 i)]) (fun i=>[(76,.cells 0 (ints (nz (ctL e i))))]) (fun i=>i<=5) (fun i=>5-i) 0 0 160 (fun _:Unit=>[(5,sliN (ctL e 5))]) (fun _=>[]) (fun _=>True) ?_ (Zai _) ?_ ?_;·refine⟨[(76,.nil)],rfl,au0,?_,au24⟩;exact Zcx rfl rfl Zcv
 ·rintro i hi;have l:=Qso e i;by_cases g:i<5
  ·have c:=Qin (QrP e g);have d:5<=(((evl e).flatMap evN).drop (i*5)).length:=by rw[c];simp
   have a:=Qps e i;have b:(i:Int)<5:=by omega
   have f:i<(evl e).length:=by simpa[evl]using g
   have hc:=ctl103 ([UInt8.ofNat (97+i)],e i);cases h:(e i).c;·rw[h]at a;refine Zc1 (Zc4 b f c d) ?_;refine cp hc ?_;refine Zc1 h ?_;refine⟨i+1,by omega,by omega,?_⟩;rw[a,if_neg (by simp),Zas];refine⟨[(76,.blk 76 0)],rfl,au0,?_,au24⟩;exact Zcw rfl rfl gg (Zcl (Qaa _)) Zcv
   rw[h]at a;refine Zc1 (Zc4 b f c d) ?_;refine cp hc ?_;refine Zc1 h ?_;refine⟨i+1,by omega,by omega,?_⟩;rw[a,if_pos rfl,Zaf,QaQ,QaF];refine⟨[(76,.blk 76 1)],rfl,au0,?_,au24⟩;exact Zcw rfl rfl gg (Zcl (SU.Qaw (Qaa _) rfl)) Zcv
  exact bEfQN
 rintro _ _;refine Zc0 ?_;exact⟨.inr trivial,_,rfl,Zck (Qab _)⟩
theorem select47C(e:Nat->Evt)(he:∀i,i<5->(e i).Ok):Ps 47 [evsV e,.int .i64 1] (.tup [sliN (ctL e 5),.int .i64 0]):=by
 have a:noRef (evsV e)=true:=by rw[Qha];exact Qdn (evl e)
 refine Zcm 64 (Ok OE.s47) rfl (by simp only[noRefs,a];rfl) (by simp only[noRef,noRefs,Qaa];rfl) ?_;have b:=check82 e he;have hH:=chosenC e;unfold OE.s47;refine Zc0 ?_;refine cp b ?_;refine Zc0 ?_;refine Qbh ?_;refine Zc0 ?_;refine QbK (f:=fun _=>.any) (l:=[]) (x:=1) (by simp) (by decide) ?_;refine Zc0 ?_;refine Qbh ?_;refine Zc0 ?_;refine QbK (x:=2) (by simp) (by decide) ?_;refine Zc0 ?_;refine Qbh ?_;refine Zc0 ?_;refine QbK (x:=3) (by simp) (by decide) ?_;refine Zc0 ?_;refine Qbh ?_;refine Zc0 ?_;refine QbK (x:=4) (by simp) (by decide) ?_;refine Zc0 ?_;refine Qbh ?_;refine Zc0 ?_;refine QbK (x:=5) (by simp) (by decide) ?_;refine Zc0 ?_;refine Qbh ?_;refine Zc0 ?_;refine QbK (x:=6) (by simp) (by decide) ?_;refine Zc0 ?_;refine QcT ?_;refine Zc0 ?_;refine wK_in (x:=1) (by simp) ?_;have hu:updF (updF (updF (updF (updF (updF (fun _=>.any) 1 (.fn 103 [] [])) 2 (.fn 104 [] [])) 3 (.fn 105 [] [])) 4 (.fn 106 [] [])) 5 (.fn 107 [] [])) 6 (.fn 108 [] []) 1=.fn 103 [] []:=rfl;exact bJsCm
theorem Qpt{ct:Nat->Bool}{G}{e:Nat->Evt}(h:∀i,ct i=(e i).c):∀n,expQ ct G n=(ctL e n).map fun i=>⟨(i:Int),G i⟩|0=>rfl|n+1=>by rw[expQ,Qpt h n,Qps,h];cases hc:(e n).c<;>simp
theorem QvZ{e}{x}(h:x∈ctL e n):x<n/\(e x).c=true:=by unfold ctL at h;obtain⟨h1,a⟩:=Zbi.1 h;exact⟨Zat.1 h1,a⟩
abbrev rsCl(R:Res):List AV:=[sliN R.kept,sli R.dist,rms R.rem,.int .i64 (R.rounds:Int),sliN R.sup.al,.int .i64 (R.sup.n:Int),sliN R.sup.ms,egsN R.sup.es,sliN R.orig]
def gdF(c:Cel)(i:Nat):Gdn:=⟨(i:Int),bxC' c i⟩
theorem guards13N(c)(h:WfCel c)(a:(resC c).sup.n=0):Ps 13 [celV c] (.tup [.nilsl,.int .i64 21]):=by
 have d:=first44 c h;have b:=cell22 c h;have f:=Qbv c;rw[spC,spG]at b;refine Zcn 64 (Ok WA.s13) rfl (by rw[noRefs,SU.Qa0];rfl) rfl ?_;have a:((resC c).sup.n:Int)=0:=by omega
 generalize resC c=R at*;unfold WA.s13;refine ZcY ?_;refine cp d ?_;refine ZcY ?_;refine cp b ?_;refine ZcZ a ?_;exact⟨.inr trivial,_,rfl,rfl⟩
theorem guards13(c)(h:WfCel c)(hs:(resC c).sup.n≠0):Ps 13 [celV c] (.tup [gdsV (expC c),.int .i64 0]):=by
 have hF:=first44 c h;have hC:=cell22 c h;have hP:=plant17 c h;have Q:=Qbv c;have hwq:=wB_c h;have V:=wP_c h;have M:WfA (resC c).sup:=Qh5 hwq.toWfA;have hE1:=edges46 (Pc c) V.toWfA (by have:=V.el;omega);have hE2:=edges46 (resC c).sup M (by have:=WfA.el1 M;omega);have hS:=select47C c.ev h.ev;have hv:=vok_c h;have Z:=hv.l5;have b:=hv.hin;have hD:=dom_c h;have A:=Qen b (vrsL c).length (Zau _);rw[Zan]at A;have hol:=QnF h;have hbx:=fun(t cc:List Bool)h1 h2=>boxes51 (vrsL c) hv t cc h1 h2 (by omega) Qj5;have hIx:∀o∈(resC c).orig,Ps 48 [vrsV (vrsL c),sli (tC c o)] (.int .i64 (ixQ (vrsL c) (tC c o) (vrsL c).length)):=fun o ho=>by obtain⟨l1,r1,t,hT,e1⟩:=tpl_c h (Qfw h ho);exact index48G (vrsL c) (tC c o) Z b l1 r1
 have hh1:=fun s e=>has50 (Pc c) s e;have hh2:=fun s e=>has50 (resC c).sup s e;have m:=QbE (Pc c);have g:=QbE (resC c).sup;have hW:=fun(o:Nat)(ho:o∈(resC c).orig)=>wld_c h o (Qfw h ho);have r:=fun ev i hi=>Qtu h ev i hi;have O:=fun(o:Nat)(ho:o∈(resC c).orig)=>Qd6 b (tpl_c h (Qfw h ho)).2.1 (vrsL c).length (Zau _);have U:expC c=(ctL c.ev 5).map (gdF c):=Qpt (fun i=>rfl) 5;have E:∀x∈ctL c.ev 5,x<5:=fun x R=>(QvZ R).1;have hcl:(ctL c.ev 5).length<=5:=Qso _ _;have hc0:=h.c0;rw[spC,spG]at hC;refine Zcm 64 (Ok WA.s13) rfl (by rw[noRefs,SU.Qa0];rfl) (by simp only[noRef,noRefs,QaO];rfl) ?_;rw[U];have n1:¬((resC c).sup.n:Int)=0:=by omega
 have a:noRefs (rsCl (resC c))=true:=by have:=Qc8 (resC c);rwa[noRef]at this
 have H:noRefs [sliN (Pc c).al,.int .i64 ((Pc c).n:Int),sliN (Pc c).ms,egsN (Pc c).es]=true:=by simp only[noRefs,noRef,Qaa,Qag];rfl
 generalize hLe:ctL c.ev 5=L at*;unfold WA.s13;refine ZcY ?_;refine cp hF ?_;refine ZcY ?_;refine cp hC ?_;refine ZcZ n1 ?_;refine cp hP ?_;have hvl:∀i:Nat,i<=(vrsL c).length->0<=szV 1 ((vrsL c).take i)/\szV 1 ((vrsL c).take i)<=243:=fun i hi=>by have:=Qbs b Z i;omega
 have I:szV 1 ((vrsL c).take (vrsL c).length)=szV 1 (vrsL c):=by rw[Zan]
 have hsz:szV 1 (vrsL c)=((dom (vrsL c)).length:Int):=A.symm;refine ZcY ?_;refine QaC 120 (fun i:Nat=>[(1,.ptr 50 0 0),(4,vrsV (vrsL c)),(6,.ptr 51 0 0),(7,.ptr 52 0 0),(8,.ptr 53 0 0),(10,.int .i64 (szV 1 ((vrsL c).take i))),(57,vrsV (vrsL c)),(58,.int .i64 (vrsL c).length),(59,.int .i64 i)]) (fun _=>[(50,.cells 0 (ceCl c)),(51,.cells 0 (spCl (Qc c) (Ac c) (Bc c) (PPc c) (Fc c))),(52,.cells 0 (rsCl (resC c))),(53,.cells 0 [sliN (Pc c).al,.int .i64 ((Pc c).n:Int),sliN (Pc c).ms,egsN (Pc c).es])]) (fun i=>i<=(vrsL c).length) (fun i=>(vrsL c).length-i) 0 ?_ (Zai _) ?_;·refine⟨[(50,.blk 64 0),(51,.blk 82 0),(52,.blk 83 0),(53,.blk 99 0)],rfl,au0,?_,au41⟩;exact Zcw rfl rfl gg (Zcl Q) (Zcw rfl rfl gg (Zcl Qch) (Zcw rfl rfl gg (Zcl a) (Zcw rfl rfl gg (Zcl H) Zcv)))
 rintro i hi;by_cases v:i<(vrsL c).length
 ·obtain⟨x,R⟩:=Qak v;have C:=Qb0 R;have P:4<=(((vrsL c).flatMap vrC).drop (i*4)).length:=by rw[C];simp
  have x2:=b x (Zac R);have b1:=Qbs b Z i;have b2:=Qbs b Z (i+1);have es:=QdN R;rw[es]at b2;generalize szV 1 ((vrsL c).take i)=S at*;refine ZcZ (Zc3 v C P) ?_;refine⟨i+1,by omega,by omega,?_⟩;rw[es];refine⟨[(50,.blk 50 0),(51,.blk 51 0),(52,.blk 52 0),(53,.blk 53 0)],rfl,au0,?_,au41⟩;exact Zcw rfl rfl gg (Zcl Q) (Zcw rfl rfl gg (Zcl Qch) (Zcw rfl rfl gg (Zcl a) (Zcw rfl rfl gg (Zcl H) Zcv)))
 have ei:i=(vrsL c).length:=by omega
 subst ei;rw[Zan,hsz];refine ZcZ v ?_;refine cp hE1 ?_;refine ZcY ?_;refine cp hE2 ?_;refine ZcY ?_;refine cp hS ?_;refine ZcY ?_;generalize emV (Pc c)=M1 at*;generalize emV (resC c).sup=M2 at*;refine Qar 200 (fun k:Nat=>[(4,vrsV (vrsL c)),(6,.ptr 51 0 0),(7,.ptr 52 0 0),(10,.int .i64 ((dom (vrsL c)).length:Int)),(13,M1),(14,M2),(17,.sl 71 0 0 k 2),(80,sliN L),(81,.int .i64 L.length),(82,.int .i64 k)]) (fun k=>[(51,.cells 0 (spCl (Qc c) (Ac c) (Bc c) (PPc c) (Fc c))),(52,.cells 0 (rsCl (resC c))),(71,.cells 0 (((L.take k).map (gdF c)).flatMap gdC))]) (fun k=>k<=L.length) (fun k=>L.length-k) 0 2 300 (fun _:Unit=>[(17,gdsV (L.map (gdF c)))]) (fun _=>[]) (fun _=>True) ?_ (Zai _) ?_ ?_;·refine⟨[(51,.blk 51 0),(52,.blk 52 0),(71,.nil)],rfl,au0,Zcw rfl rfl gg (Zcl Qch) (Zcw rfl rfl gg (Zcl a) (Zcx rfl rfl Zcv)),Zcu (Zck (QaN _)) (Zcu (Rn.x2 rfl rfl) (Zcu (Rn.x2 rfl rfl) (Zcu (Zck rfl) (Zcu (Zck m) (Zcu (Zck g) (Zcu (Rn.x4 rfl rfl) (Zcu (Zck (Qab _)) (Zcu (Zck rfl) (Zcu (Zck rfl) Zct)))))))))⟩
 ·rintro k hk;by_cases w:k<L.length
  ·obtain⟨ev,n⟩:=Qak w;have hev5:=E ev (Zac n);have hXl:(((L.take k).map (gdF c)).flatMap gdC).length=k*2:=by rw[Qi5,Zav,Zaq];omega
   have hXs:((L.take (k+1)).map (gdF c))=((L.take k).map (gdF c))++[⟨(ev:Int),bxC' c ev⟩]:=by rw[take_succ' n,ZaI];rfl
   have hGe:covV (vrsL c) (tcC c ev).1 (tcC c ev).2=bxC' c ev:=rfl;generalize((L.take k).map (gdF c))=X at*;have hD2:((dom (vrsL c)).length:Int)<=140737488355328/\((dom (vrsL c)).length:Int)<=140737488355328:=by omega
   have hD0:((dom (vrsL c)).length:Int)<=140737488355328:=by omega
   refine Zc1 (Zc8 w (QaH n) hD2 hD0 @bo_fl @Qac @Qad @Qae) ?_;refine Qar 400 (fun i:Nat=>[(4,vrsV (vrsL c)),(6,.ptr 51 0 0),(7,.ptr 52 0 0),(10,.int .i64 ((dom (vrsL c)).length:Int)),(13,M1),(14,M2),(17,.sl 71 0 0 k 2),(80,sliN L),(81,.int .i64 L.length),(82,.int .i64 k),(19,.int .i64 ev),(20,.sl 81 0 0 (dom (vrsL c)).length 1),(21,.sl 82 0 0 (dom (vrsL c)).length 1),(91,sliN (resC c).orig),(92,.int .i64 (resC c).orig.length),(93,.int .i64 i)]) (fun i=>[(51,.cells 0 (spCl (Qc c) (Ac c) (Bc c) (PPc c) (Fc c))),(52,.cells 0 (rsCl (resC c))),(71,.cells 0 (X.flatMap gdC)),(81,.cells 0 ((tcQ (vrsL c) (Ac c) (Bc c) (PPc c) (Pc c).es (resC c).sup.es (resC c).orig ev i).1.map AV.bool)),(82,.cells 0 ((tcQ (vrsL c) (Ac c) (Bc c) (PPc c) (Pc c).es (resC c).sup.es (resC c).orig ev i).2.map AV.bool))]) (fun i=>i<=(resC c).orig.length) (fun i=>(resC c).orig.length-i) 0 4 600 (fun _:Unit=>[(4,vrsV (vrsL c)),(6,.ptr 51 0 0),(7,.ptr 52 0 0),(10,.int .i64 ((dom (vrsL c)).length:Int)),(13,M1),(14,M2),(17,.sl 71 0 0 k 2),(80,sliN L),(81,.int .i64 L.length),(82,.int .i64 k),(19,.int .i64 ev),(20,boV (tcC c ev).1),(21,boV (tcC c ev).2)]) (fun _=>[(51,.cells 0 (spCl (Qc c) (Ac c) (Bc c) (PPc c) (Fc c))),(52,.cells 0 (rsCl (resC c))),(71,.cells 0 (X.flatMap gdC))]) (fun _=>True) ?_ (Zai _) ?_ ?_;·exact⟨[(51,.blk 51 0),(52,.blk 52 0),(71,.blk 71 0),(81,.blk 205 0),(82,.blk 207 0)],rfl,au0,Zcw rfl rfl gg (Zcl Qch) (Zcw rfl rfl gg (Zcl a) (Zcw rfl rfl gg (Zcl (QaO _)) (Zcw rfl rfl gg (Zcl (QaB _)) (Zcw rfl rfl gg (Zcl (QaB _)) Zcv)))),Zcu (Zck (QaN _)) (Zcu (Rn.x2 rfl rfl) (Zcu (Rn.x2 rfl rfl) (Zcu (Zck rfl) (Zcu (Zck m) (Zcu (Zck g) (Zcu (Rn.x1 rfl rfl) (Zcu (Zck (Qab _)) (Zcu (Zck rfl) (Zcu (Zck rfl) (Zcu (Zck rfl) (Zcu (Rn.x1 rfl rfl) (Zcu (Rn.x1 rfl rfl) (Zcu (Zck (Qab _)) (Zcu (Zck rfl) (Zcu (Zck rfl) Zct)))))))))))))))⟩
   ·rintro i hi;obtain⟨f,d⟩:=@Qet (vrsL c) (Ac c) (Bc c) (PPc c) (Pc c).es (resC c).sup.es (resC c).orig ev i;by_cases Y:i<(resC c).orig.length
    ·obtain⟨o,ho⟩:=Qak Y;have u:=Zac ho;have hho:=QaH ho;obtain⟨t,y,hT,hA,hB,q,htl,hk3,htp⟩:=hW o u;have B:=@tuple49 (Qc c) (Ac c) (Bc c) (PPc c) (Fc c) o _ _ hA hB (by rw[Zaq];omega) (by rw[Zaq];omega) (by rw[ZaQ];omega);rw[Zbd]at B;have G:=hIx o u;have l:=O o u;rw[I,<-A]at l;have z:tC c o=nz t:=htp;rw[z,Qb2]at G;rw[z]at l;have p:=r ev i Y;dsimp only at p;rw[QaA ho,QaA q,z]at p;have hlP:=(Zaj.1 q).1;have q1:=hh1 y ev;have q2:=hh2 i ev;generalize ixQ (vrsL c) (nz t) (vrsL c).length=K at*;generalize tcQ (vrsL c) (Ac c) (Bc c) (PPc c) (Pc c).es (resC c).sup.es (resC c).orig ev i=S at*;generalize decide (0<=stepI (Pc c).es y ev)=c1 at*;generalize decide (0<=stepI (resC c).sup.es i ev)=c2 at*;have N:K.toNat+1<=(dom (vrsL c)).length:=by omega
     have J:0<=K/\K<((dom (vrsL c)).length:Int):=l;have F:(S.1.map AV.bool).length=(dom (vrsL c)).length:=by rw[Zav];exact f
     have T:(S.2.map AV.bool).length=(dom (vrsL c)).length:=by rw[Zav];exact d
     refine ZcZ (Zc2 Y hho) ?_;refine cp B ?_;refine ZcY ?_;refine cp G ?_;refine ZcZ (QaH q) ?_;refine cp q1 ?_;refine ZcZ (Zc6 N J l.1 F T @QgV) ?_;refine cp q2 ?_;refine ZcZ (Zc6 N J l.1 F T @QgV) ?_;refine⟨i+1,by omega,by omega,?_⟩;rw[p];exact⟨[(51,.blk 51 0),(52,.blk 52 0),(71,.blk 71 0),(81,.blk 81 0),(82,.blk 82 0)],rfl,au0,Zcw rfl rfl gg (Zcl Qch) (Zcw rfl rfl gg (Zcl a) (Zcw rfl rfl gg (Zcl (QaO _)) (Zcw rfl rfl gg (Zcl (QaB _)) (Zcw rfl rfl gg (Zcl (QaB _)) Zcv)))),Zcu (Zck (QaN _)) (Zcu (Rn.x2 rfl rfl) (Zcu (Rn.x2 rfl rfl) (Zcu (Zck rfl) (Zcu (Zck m) (Zcu (Zck g) (Zcu (Rn.x1 rfl rfl) (Zcu (Zck (Qab _)) (Zcu (Zck rfl) (Zcu (Zck rfl) (Zcu (Zck rfl) (Zcu (Rn.x1 rfl rfl) (Zcu (Rn.x1 rfl rfl) (Zcu (Zck (Qab _)) (Zcu (Zck rfl) (Zcu (Zck rfl) Zct)))))))))))))))⟩
    have ei:i=(resC c).orig.length:=by omega
    subst ei;refine ZcZ Y ?_;have hTe:tcQ (vrsL c) (Ac c) (Bc c) (PPc c) (Pc c).es (resC c).sup.es (resC c).orig ev (resC c).orig.length=tcC c ev:=rfl;rw[hTe]at f d⊢;generalize tcC c ev=S at*;refine⟨(),?_⟩;exact⟨[(51,.blk 51 0),(52,.blk 52 0),(71,.blk 71 0)],rfl,Zcs,Zcw rfl rfl gg (Zcl Qch) (Zcw rfl rfl gg (Zcl a) (Zcw rfl rfl gg (Zcl (QaO _)) Zcv)),Zcu (Zck (QaN _)) (Zcu (Rn.x2 rfl rfl) (Zcu (Rn.x2 rfl rfl) (Zcu (Zck rfl) (Zcu (Zck m) (Zcu (Zck g) (Zcu (Rn.x1 rfl rfl) (Zcu (Zck (Qab _)) (Zcu (Zck rfl) (Zcu (Zck rfl) (Zcu (Zck rfl) (Zcu (ZcD (b:=81) (g:=0) gg rfl rfl f (by simp[f]) (Zcl (QaB _))) (Zcu (ZcD (b:=82) (g:=0) gg rfl rfl d (by simp[d]) (Zcl (QaB _))) Zct))))))))))))⟩
   rintro _ _;obtain⟨f,d⟩:=@Qet (vrsL c) (Ac c) (Bc c) (PPc c) (Pc c).es (resC c).sup.es (resC c).orig ev (resC c).orig.length;have hb:=hbx (tcC c ev).1 (tcC c ev).2 f d;rw[hGe]at hb;generalize tcC c ev=S at*;refine ZcY ?_;refine cp hb ?_;refine ZcZ hXl ?_;refine⟨k+1,by omega,by omega,?_⟩;rw[hXs,Zao];exact⟨[(51,.blk 51 0),(52,.blk 52 0),(71,.blk 71 1)],rfl,au0,Zcw rfl rfl gg (Zcl Qch) (Zcw rfl rfl gg (Zcl a) (Zcw rfl rfl gg (Zcl (SU.Qaw (QaO _) (QaO [gdF c ev]))) Zcv)),Zcu (Zck (QaN _)) (Zcu (Rn.x2 rfl rfl) (Zcu (Rn.x2 rfl rfl) (Zcu (Zck rfl) (Zcu (Zck m) (Zcu (Zck g) (Zcu (Rn.x1 rfl rfl) (Zcu (Zck (Qab _)) (Zcu (Zck rfl) (Zcu (Zck rfl) Zct)))))))))⟩
  have ek:k=L.length:=by omega
  subst ek;refine ZcT w ?_;exact⟨(),[],rfl,Zcs,Zcv,Zcu (ZcD (b:=71) (g:=0) gg rfl rfl (by simp) (by rw[Qi5,Zav]) (Zcl (QaO _))) Zct⟩
 rintro _ _;refine ZcY ?_;exact⟨.inr trivial,_,rfl,Zck (by simp only[noRef,noRefs,QaO];rfl)⟩
end Go.AM.SO
