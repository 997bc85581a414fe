/- A part of the proof of GuardsOfCardSaid: lemmas on the way (AnVc, AnVd, AnUc, AnVk, AnVe, AnOe, AnOf, AnGm, AnGa, AmTl, AmTn, AnCp, AnGb, AnGc, AnGd, AnGk, AnGl, AnCq, AnGe, AnGf). Conditions: none of ours. -/
import Derived.Test.YtikknocmfjfohaaGreatDoorProg
import Derived.KernelRfl
import Derived.Test.YtikknocmfjfohaaGreatDoorAmO14
theorem Go.AM.b815J{p:Prop}(h:p:=by
 refine⟨[(51,.blk 51 0),(52,.blk 52 0),(61,.blk 61 0),(62,.blk 62 0)],rfl,au0,?_,au24⟩;exact Zcw rfl rfl gg (Zcl rfl) (Zcw rfl rfl gg (ZcC (Rn.x1 rfl rfl) (ZcC (Rn.x1 rfl rfl) ZcB)) (Zcw rfl rfl gg (Zcl (Qaa _)) (Zcw rfl rfl gg (Zcl (Qaa _)) Zcv)))):p:=h
theorem Go.AM.btO0C{p:Prop}(h:p:=by
 exact⟨(),[],rfl,Zcs,Zcv,Zcu (ZcD (b:=60) (g:=0) gg rfl rfl (Zav ..) (by rw[QgF,Zav]) (Zcl (Qay _))) Zct⟩):p:=h
theorem Go.AM.bEfQN{p:Prop}(h:p:=by
 have m:i=5:=by omega
 subst m;refine Zc0 ?_;refine⟨(),?_⟩;exact⟨[],rfl,Zcs,Zcv,Zcu (ZcD (b:=76) (g:=0) gg rfl rfl (by simp) (by simp[ints]) (Zcl (Qaa _))) Zct⟩):p:=h
theorem Go.AM.bJsCm{p:Prop}(h:p:=by
 refine Zc1 hu ?_;refine cp hH ?_;refine Zc0 ?_;exact⟨.inr trivial,_,rfl,Zck (by simp only[noRef,noRefs,Qaa];rfl)⟩):p:=h
theorem Go.AM.b5xkA{p:Prop}(h:p:=by
 refine⟨[(51,.blk 51 0),(60,.blk 60 0)],rfl,au0,?_,au32⟩;exact Zcw rfl rfl gg (Zcl hnm) (Zcw rfl rfl gg (Zcl (Qaa _)) Zcv)):p:=h
theorem Go.AM.byv0F{p:Prop}(h:p:=by
 rintro j⟨hj,o⟩;by_cases m:j<(evA l).length
 ·obtain⟨e,he⟩:=Qak m;have w:=Qeo (i:=i) (ev:=(evA l).take j) hw v hp;have C:=QcL (l:=l) (i:=i) (t:=t) (ev:=(evA l).take j) (s:=s);have X:=QeT (l:=l) (i:=i) (t:=t) (ev:=(evA l).take j) (s:=s);have U:=Qgb (l:=l) (ev:=evA l) (i:=i) (k:=j+1) (t:=t) (s:=s);have b:=Qlv (l:=l) (i:=i) (t:=t) (s:=s) he;rw[Zaq]at X;generalize pRow l ((evA l).take j) i t s=u at*;have H:i<u.1.length:=Za0 d C.length_le;have B:u.1[i]?=some t:=by rw[Qhc C d];exact N
  have hub:=Qdp w.nd w.inT;have E:(u.1.map sliN).length=u.1.length:=Zav ..;have r:(u.2.flatMap edC).length=u.2.length*3:=Qbe (k:=3) (fun _=>rfl) u.2;have p:=step100 l t e h h0 (by omega) v.1;cases z:stepT l t e with|none=>
   rw[z]at p;have g:pEv l i t u e=u:=by unfold pEv;rw[z]
   rw[g]at b;refine ZcZ (Zc4 m H (QaH he) (QeU B)) ?_;refine cp p ?_;simp(disch:=first|omega|exact PairsOK.mk rfl|(simp only[lenW]<;>omega))only[stV,Qac,Qad,Qae,wW,wV,simprocAttr];refine⟨j+1,by omega,⟨by omega,by rw[b];exact o⟩,?_⟩;rw[b];refine⟨[(51,.blk 51 0),(52,.blk 52 0),(53,.blk 53 0),(60,.blk 60 0),(70,.blk 70 0),(71,.blk 71 0)],rfl,au0,?_,au32⟩;exact Zcw rfl rfl gg (ZcC (Zck (Qab _)) (ZcC (Zck rfl) (ZcC (Rn.x1 rfl rfl) (ZcC (Rn.x1 rfl rfl) ZcB)))) (Zcw rfl rfl gg (Zcl c) (Zcy rfl rfl gg (ZcP fun _ _=>⟨rfl,rfl⟩) (Zcw rfl rfl gg (Zcl (Qax Qab _)) (Zcw rfl rfl gg (Zcl (Qaa _)) (Zcw rfl rfl gg (Zcl (Qag _)) Zcv)))))|some n=>
   rw[z]at p;have G:=Qf3 hw v z;have J:=F n G;have k:=QgZ h G w.inT;refine ZcZ (Zc4 m H (QaH he) (QeU B)) ?_;refine cp p ?_;simp(disch:=first|omega|exact PairsOK.mk rfl|(simp only[lenW]<;>omega))only[stV,Qac,Qad,Qae,wW,wV,simprocAttr];refine cp J ?_;refine ZcY ?_;by_cases hm:n∈u.1
   ·have g:pEv l i t u e=(u.1,u.2++[(i,e,ixT u.1 n)]):=by unfold pEv;rw[z];simp only[if_pos hm]
    rw[g]at b;refine QhR (c:=keyC) (f:=ixV u.1) (x:=n) (l:=u.1) (g:=0) gg k hm ?_;simp(disch:=first|omega|exact PairsOK.mk rfl|(simp only[lenW]<;>omega))only[ixV,r,Qac,Qad,Qae,wW,wV,simprocAttr];refine⟨j+1,by omega,⟨by omega,by rw[b];exact o⟩,?_⟩;rw[b,Zaf,Zao];refine⟨[(51,.blk 51 0),(52,.blk 52 0),(53,.blk 53 0),(60,.blk 60 0),(70,.blk 70 0),(71,.blk 71 1)],rfl,au0,?_,au32⟩;exact Zcw rfl rfl gg (ZcC (Zck (Qab _)) (ZcC (Zck rfl) (ZcC (Rn.x1 rfl rfl) (ZcC (Rn.x1 rfl rfl) ZcB)))) (Zcw rfl rfl gg (Zcl c) (Zcy rfl rfl gg (ZcP fun _ _=>⟨rfl,rfl⟩) (Zcw rfl rfl gg (Zcl (Qax Qab _)) (Zcw rfl rfl gg (Zcl (Qaa _)) (Zcw rfl rfl gg (Zcl (SU.Qaw (Qag _) rfl)) Zcv)))))
   have g:pEv l i t u e=(u.1++[n],u.2++[(i,e,u.1.length)]):=by unfold pEv;rw[z];simp only[if_neg hm];rw[show u.1.findIdx (·==n)=u.1.length from Qj2 hm]
   rw[g]at b;have S:=Qpf hm;by_cases h4:u.1.length=4096
   ·have f:((u.1.length:Nat):Int)=4096:=by omega
    have A:¬(sync0 l).1.length<=4096:=by have q1:=U.length_le;rw[b,Zaf,ZbE]at q1;have q2:=(Qjo (l:=l) (ev:=evA l) (k:=box l+1-(i+1)) (i:=i+1) (s:=pRow l (evA l) i t s)).length_le;rw[O]at q2;omega
    rw[I A];refine Qdo (c:=keyC) (f:=ixV u.1) (x:=n) (l:=u.1) (g:=0) gg k hm ?_;refine ZcZ f ?_;exact⟨.inr trivial,_,rfl,Zck rfl⟩
   have f:¬((u.1.length:Nat):Int)=4096:=by omega
   refine Qdo (c:=keyC) (f:=ixV u.1) (x:=n) (l:=u.1) (g:=0) gg k hm ?_;refine ZcZ f ?_;refine cp J ?_;refine ZcY ?_;refine Qck (c:=keyC) (f:=ixV u.1) (x:=n) (l:=u.1) (g:=0) gg k hm (by omega) ?_;rw[S];refine Zc1 (Zc6 E r @Qab @Qac @Qad @Qae) ?_;refine⟨j+1,by omega,⟨by omega,by rw[b,Zaf,ZbE];omega⟩,?_⟩;rw[b,Zaf,Zaf,Zao,ZaI];refine⟨[(51,.blk 51 0),(52,.blk 52 0),(53,.blk 53 0),(60,.blk 60 1),(70,.blk 70 0),(71,.blk 71 1)],rfl,au0,?_,au32⟩;exact Zcw rfl rfl gg (ZcC (Zck (Qab _)) (ZcC (Zck rfl) (ZcC (Rn.x1 rfl rfl) (ZcC (Rn.x1 rfl rfl) ZcB)))) (Zcw rfl rfl gg (Zcl c) (Zcy rfl rfl gg (ZcP fun _ _=>⟨rfl,rfl⟩) (Zcw rfl rfl gg (Zcl (SU.Qaw (Qax Qab _) (Qax Qab [n]))) (Zcw rfl rfl gg (Zcl (Qaa _)) (Zcw rfl rfl gg (Zcl (SU.Qaw (Qag _) rfl)) Zcv)))))
 have e2:j=(evA l).length:=by omega
 subst e2;rw[Zan]at o;refine ZcT m ?_;refine⟨(),o,?_⟩;refine⟨[(51,.blk 51 0),(52,.blk 52 0),(53,.blk 53 0),(60,.blk 60 0),(70,.blk 70 0),(71,.blk 71 0)],rfl,au0,?_,au32⟩;exact Zcw rfl rfl gg (ZcC (Zck (Qab _)) (ZcC (Zck rfl) (ZcC (Rn.x1 rfl rfl) (ZcC (Rn.x1 rfl rfl) ZcB)))) (Zcw rfl rfl gg (Zcl c) (Zcy rfl rfl gg (ZcP fun _ _=>⟨rfl,rfl⟩) (Zcw rfl rfl gg (Zcl (Qax Qab _)) (Zcw rfl rfl gg (Zcl (Qaa _)) (Zcw rfl rfl gg (Zcl (Qag _)) Zcv)))))):p:=h
theorem Go.AM.bJCoe{p:Prop}(h:p:=by
 rintro _ Y;refine ZcY ?_;refine⟨(i+1,pRow l (evA l) i t s),by dsimp only;omega,⟨ZaA d K.length_le,hpo,by dsimp only;omega,Y,O⟩,?_⟩;dsimp only;rw[Qlt K d];refine⟨[(51,.blk 51 0),(52,.blk 52 0),(53,.blk 53 0),(60,.blk 60 0),(70,.blk 70 0),(71,.blk 71 0)],rfl,au0,?_,au32⟩;exact Zcw rfl rfl gg (ZcC (Zck (Qab _)) (ZcC (Zck rfl) (ZcC (Rn.x1 rfl rfl) (ZcC (Rn.x1 rfl rfl) ZcB)))) (Zcw rfl rfl gg (Zcl c) (Zcy rfl rfl gg (ZcP fun _ _=>⟨rfl,rfl⟩) (Zcw rfl rfl gg (Zcl (Qax Qab _)) (Zcw rfl rfl gg (Zcl (Qaa _)) (Zcw rfl rfl gg (Zcl (Qag _)) Zcv)))))):p:=h
theorem Go.AM.bCDdZ{p:Prop}(h:p:=by
 obtain⟨x,g⟩:=Qak a;have b:=SU.QdM (ch:=ch) g;have c:5<=((l.flatMap (itC ch)).drop (i*5)).length:=by rw[b];simp
 have d:(auL (l.take i)).length=i:=by rw[Qbf,Zaq];omega
 have f:((auL (l.take i)).flatMap auC).length=i*4:=by rw[QgX,d]
 refine Zc1 (Zc9 a b c f @Qab @Qaj @Qac @Qad @Qae) ?_;refine⟨i+1,by omega,by omega,?_⟩;rw[take_succ' g];show Rec _ _ [(60,.cells 0 ((List.map (fun x:Nat×Aut=>x.2) (l.take i++[x])).flatMap auC))] _ _;rw[ZaI,Zao,QrU];refine⟨[(60,.blk 60 1)],rfl,au0,?_,au32⟩;exact Zcw rfl rfl gg (Zcl (SU.Qaw (QaY _) (QaY [x.2]))) Zcv):p:=h
set_option linter.unusedSectionVars false
set_option maxHeartbeats 32000000
set_option maxRecDepth 100000
set_option linter.unusedVariables false
set_option linter.unusedSimpArgs false
namespace Go.AM.SO
open Go.Proofs Go.AM.SD Go.AM.SE
variable{b:Bxn}{P:Bxn->Prop}{h:Heap}{A:List (List Int)}{v:List (List UInt8×Int)}{c l t:List Bool}{bs:List Bxn}{G:List Int->Bxn}{x:List UInt8×Aut}{y:List UInt8×Int}{g i k n:Nat}
def dnB(b:Bxn)(i:Nat):Bxn:=⟨b.lo.set i (b.lo.getD i 0-1),b.hi⟩
def upB(b:Bxn)(i:Nat):Bxn:=⟨b.lo,b.hi.set i (b.hi.getD i 0+1)⟩
def dnF(ok:Bxn->Bool)(i:Nat):Nat->Bxn->Bxn|0,b=>b|f+1,b=>if ok (dnB b i)=true then dnF ok i f (dnB b i)else b
def upF(ok:Bxn->Bool)(i:Nat):Nat->Bxn->Bxn|0,b=>b|f+1,b=>if ok (upB b i)=true then upF ok i f (upB b i)else b
def dnA(ok:Bxn->Bool)(i:Nat)(b:Bxn):Bxn:=dnF ok i (b.lo.getD i 0).toNat b
def upA(ok:Bxn->Bool)(i:Nat)(h:Int)(b:Bxn):Bxn:=upF ok i (h-b.hi.getD i 0).toNat b
def grI(ok:Bxn->Bool)(v:List (List UInt8×Int))(b:Bxn)(i:Nat):Bxn:=upA ok i (v.getD i vr0).2 (dnA ok i b)
def grB(ok:Bxn->Bool)(v:List (List UInt8×Int))(a:List Int)(i:Nat):Bxn:=(List.range i).foldl (grI ok v) ⟨a,a⟩
theorem Qip{ok}{v}{a}{i}:grB ok v a (i+1)=grI ok v (grB ok v a i) i:=by unfold grB;rw[ZaK,Za8];rfl
theorem QgT(h:i<b.lo.length):(dnB b i).lo.getD i 0=b.lo.getD i 0-1:=by unfold dnB;rw[Zah,Zbu h];rfl
theorem QgU(h:i<b.hi.length):(upB b i).hi.getD i 0=b.hi.getD i 0+1:=by unfold upB;rw[Zah,Zbu h];rfl
theorem dnA_0{ok}(h:¬0<b.lo.getD i 0):dnA ok i b=b:=by unfold dnA;rw[show(b.lo.getD i 0).toNat=0 by omega];rfl
theorem upA_0{ok}{h}(a:¬b.hi.getD i 0<h):upA ok i h b=b:=by unfold upA;rw[show(h-b.hi.getD i 0).toNat=0 by omega];rfl
theorem QrL{ok}(h:ok (dnB b i)=false):dnA ok i b=b:=by unfold dnA;generalize(b.lo.getD i 0).toNat=f;cases f with|zero=>rfl|succ f=>rw[dnF,if_neg (by rw[h];decide)]
theorem QrM{ok}{h}(a:ok (upB b i)=false):upA ok i h b=b:=by unfold upA;generalize(h-b.hi.getD i 0).toNat=f;cases f with|zero=>rfl|succ f=>rw[upF,if_neg (by rw[a];decide)]
theorem Qpa{ok}(hi:i<b.lo.length)(a:0<b.lo.getD i 0)(h:ok (dnB b i)=true):dnA ok i b=dnA ok i (dnB b i):=by unfold dnA;rw[QgT hi,show(b.lo.getD i 0).toNat=(b.lo.getD i 0-1).toNat+1 by omega,dnF,if_pos h]
theorem Qpb{ok}{h}(hi:i<b.hi.length)(c:b.hi.getD i 0<h)(a:ok (upB b i)=true):upA ok i h b=upA ok i h (upB b i):=by unfold upA;rw[QgU hi,show(h-b.hi.getD i 0).toNat=(h-(b.hi.getD i 0+1)).toNat+1 by omega,upF,if_pos a]
def BxR(v:List (List UInt8×Int))(b:Bxn):Prop:=b.lo.length=v.length/\b.hi.length=v.length/\∀(j:Nat)x,v[j]?=some x->(0<=b.lo.getD j 0/\b.lo.getD j 0<=2)/\(0<=b.hi.getD j 0/\b.hi.getD j 0<=2)/\b.lo.getD j 0<=b.hi.getD j 0/\b.hi.getD j 0<=x.2
theorem getDsetNe{l:List Int}{j}{x}(h:i≠j):(l.set i x).getD j 0=l.getD j 0:=by rw[Zah,List.getElem?_set_ne h,<-Zah]
theorem BxR.dn(h:BxR v b)(hi:i<v.length)(g:0<b.lo.getD i 0):BxR v (dnB b i):=by
 obtain⟨h1,a,f⟩:=h;refine⟨by show(List.set _ _ _).length=_;rw[ZbU];exact h1,a,fun j x d=>?_⟩;have:=f j x d;by_cases e:i=j;·subst e;rw[QgT (by omega)];show _/\(0<=b.hi.getD i 0/\b.hi.getD i 0<=2)/\_<=b.hi.getD i 0/\b.hi.getD i 0<=x.2;omega
 have c:(dnB b i).lo.getD j 0=b.lo.getD j 0:=getDsetNe e;rw[c];exact this
theorem BxR.up(h:BxR v b)(c:v[i]?=some y)(d:y.2<=2)(l:b.hi.getD i 0<y.2):BxR v (upB b i):=by
 obtain⟨h1,k,g⟩:=h;refine⟨h1,by show(List.set _ _ _).length=_;rw[ZbU];exact k,fun j x a=>?_⟩;have:=g j x a;by_cases e:i=j;·subst e;rw[c]at a;cases a;have:=(Zaj.1 c).1;rw[QgU (by omega)];show(0<=b.lo.getD i 0/\b.lo.getD i 0<=2)/\_/\b.lo.getD i 0<=_/\_;omega
 have f:(upB b i).hi.getD j 0=b.hi.getD j 0:=getDsetNe e;rw[f];exact this
theorem BxR.ok(h:BxR v b):BxOk v b:=⟨h.1,h.2.1,fun j x a=>by have:=h.2.2 j x a;omega⟩
theorem Qbk{l}{i}{x}:(ints l).set i (.int .i64 x)=ints (l.set i x):=by unfold ints;rw[List.map_set]
theorem Qf0{l:List Int}{x y}(h:l[i]?=some x):(l.set i y).set i x=l:=by rw[List.set_set];obtain⟨hi,rfl⟩:=Zaj.1 h;exact List.set_getElem_self hi
abbrev okP(A:List (List Int))(t c:List Bool)(b:Bxn):Bool:=perB b A t c
theorem dnF_R{ok}(hi:i<v.length):∀(f:Nat)(b:Bxn),BxR v b->f<=(b.lo.getD i 0).toNat->BxR v (dnF ok i f b)
 |0,b,a,_=>a|f+1,b,a,hf=>by
  rw[dnF];split;·exact dnF_R hi f _ (a.dn hi (by omega)) (by rw[QgT (by have:=a.1;omega)];omega)
  exact a
theorem upF_R{ok}(d:v[i]?=some y)(a:y.2<=2):∀(f:Nat)(b:Bxn),BxR v b->f<=(y.2-b.hi.getD i 0).toNat->BxR v (upF ok i f b)
 |0,b,c,_=>c|f+1,b,c,hf=>by
  rw[upF];have hi:=(Zaj.1 d).1;split;·exact upF_R d a f _ (c.up d a (by omega)) (by rw[QgU (by have:=c.2.1;omega)];omega)
  exact c
theorem grB_R{ok}{v:List (List UInt8×Int)}{a:List Int}(b:∀x∈v,0<=x.2/\x.2<=2)(f:a.length=v.length)(d:∀(j:Nat)x,v[j]?=some x->0<=a.getD j 0/\a.getD j 0<=x.2):∀i,i<=v.length->BxR v (grB ok v a i)|0,_=>⟨f,f,fun j x c=>by have h1:=d j x c;have g:=b x (Zac c);show(0<=a.getD j 0/\a.getD j 0<=2)/\(0<=a.getD j 0/\a.getD j 0<=2)/\a.getD j 0<=a.getD j 0/\a.getD j 0<=x.2;omega⟩|i+1,hi=>by obtain⟨x,c⟩:=Qak (l:=v) (i:=i) (by omega);rw[Qip];unfold grI upA dnA;rw[QaA c];exact upF_R c (b x (Zac c)).2 _ _ (dnF_R (by omega) _ _ (grB_R b f d i (by omega)) (Zau _)) (Zau _)
theorem QcK{b}{l}(c:h.get b=some (.cells g (ints l)))(a:l.length=n):FrzTo h (.sl b g 0 n 1) (sli l):=by
 subst a;refine FrzTo.sl c (by simp[ints]) ?_;have:((ints l).drop 0).take (l.length*1)=ints l:=by rw[ZaX,Zb6];exact ZaM (by simp[ints])
 rw[this];exact Zcr _
abbrev gSt(b:Bxn)(n:Nat):List (Nat×Blk):=[(51,.cells 0 [.nilsl,.nilsl]),(52,.cells 0 [.sl 61 0 0 n 1,.sl 62 0 0 n 1]),(61,.cells 0 (ints b.lo)),(62,.cells 0 (ints b.hi))]
theorem grow181(v:List (List UInt8×Int))(a:List Int)(A:List (List Int))(t c)(h5:v.length<=5)(L:∀x∈v,0<=x.2/\x.2<=2)(Y:a.length=v.length)(T:∀(j:Nat)x,v[j]?=some x->0<=a.getD j 0/\a.getD j 0<=x.2)(hA:A.length<=1000)(ht:t.length=A.length)(hc:c.length=A.length)(Q:∀y∈A,y.length=v.length):Ps 181 [vrsV v,sli a,liV A,boV t,boV c] (bxV (grB (okP A t c) v a v.length)):=by
 have hR:=@grB_R (okP A t c) v a L Y T;have s:=fun(b:Bxn)(h:BxR v b)=>permitted235 b A t c hA ht hc (m:=v.length) (by omega) h.1 h.2.1 Q;refine Zcm 64 (Ok VL.s181) rfl (by simp only[noRefs,noRef,Qaa,Qay,QaD,QaB];rfl) (by simp only[noRef,noRefs,Qaa];rfl) ?_;have J:(ints a).all AV.one=true:=by simp[ints,AV.one]
 have U:(ints a).length=a.length:=by simp[ints]
 unfold VL.s181;refine Zc1 (Zc3 J U Y) ?_;refine QaC 100 (fun i:Nat=>[(0,vrsV v),(2,liV A),(3,boV t),(4,boV c),(10,.ptr 51 0 0),(11,.ptr 52 0 0),(12,.int .i64 i)]) (fun i=>gSt (grB (okP A t c) v a i) v.length) (fun i=>i<=v.length) (fun i=>v.length-i) 0 ?_ (Zai _) ?_;·refine⟨[(51,.blk 64 0),(52,.blk 72 0),(61,.blk 65 1),(62,.blk 68 1)],rfl,au0,?_,au24⟩;exact Zcw rfl rfl gg (Zcl rfl) (Zcw rfl rfl gg (ZcC (Rn.x1 rfl rfl) (ZcC (Rn.x1 rfl rfl) ZcB)) (Zcw rfl rfl gg (Zcl (Qaa _)) (Zcw rfl rfl gg (Zcl (Qaa _)) Zcv)))
 rintro i hi;have M:=hR i hi;have hg:=@Qip (okP A t c) v a i;generalize O:grB (okP A t c) v a i=B at*;by_cases f:i<v.length
 ·obtain⟨x,I⟩:=Qak f;have l:=Qb0 I;have r:4<=((v.flatMap vrC).drop (i*4)).length:=by rw[l];simp
  have N:=L x (Zac I);refine Zc1 f ?_;refine Qar 140 (fun _:Bxn=>[(0,vrsV v),(2,liV A),(3,boV t),(4,boV c),(10,.ptr 51 0 0),(11,.ptr 52 0 0),(12,.int .i64 i)]) (fun b=>gSt b v.length) (fun b=>BxR v b/\dnA (okP A t c) i b=dnA (okP A t c) i B) (fun b=>(b.lo.getD i 0).toNat) B 2 200 (fun _:Unit=>[(0,vrsV v),(2,liV A),(3,boV t),(4,boV c),(10,.ptr 51 0 0),(11,.ptr 52 0 0),(12,.int .i64 i)]) (fun _=>gSt (dnA (okP A t c) i B) v.length) (fun _=>True) ?_ ⟨M,rfl⟩ ?_ ?_;·refine⟨[(51,.blk 51 0),(52,.blk 52 0),(61,.blk 61 0),(62,.blk 62 0)],rfl,au0,?_,au24⟩;exact Zcw rfl rfl gg (Zcl rfl) (Zcw rfl rfl gg (ZcC (Rn.x1 rfl rfl) (ZcC (Rn.x1 rfl rfl) ZcB)) (Zcw rfl rfl gg (Zcl (Qaa _)) (Zcw rfl rfl gg (Zcl (Qaa _)) Zcv)))
  ·rintro b⟨h,F⟩;obtain⟨y,C⟩:=Qak (l:=b.lo) (i:=i) (by have:=h.1;omega);have d:b.lo.getD i 0=y:=QaA C;have k:i<b.lo.length:=by have:=h.1;omega
   have R:=h.1;have m:(ints b.lo).length=v.length:=by simp[ints,h.1]
   have S:=h.2.2 i x I;rw[d]at S;have p:(ints b.lo)[i]?=some (.int .i64 y):=by simp[ints,C]
   by_cases q:(0:Int)<y
   ·have o:i+1<=v.length:=by omega
    have n:0<b.lo.getD i 0:=by rw[d];exact q
    have H:(ints b.lo).set i (.int .i64 (y-1))=ints (dnB b i).lo:=by rw[Qbk,dnB,d]
    have g:=h.dn f n;have z:=s _ g;have E:(dnB b i).lo[i]?=some (y-1):=by show(b.lo.set i (b.lo.getD i 0-1))[i]?=_;rw[Zbu k,d]
    have G:(ints (dnB b i).lo)[i]?=some (.int .i64 (y-1)):=by simp[ints,E]
    have w:(ints (dnB b i).lo).length=v.length:=by simp[ints,g.1]
    have u:(ints (dnB b i).lo).set i (.int .i64 (y-1+1))=ints b.lo:=by rw[Qbk];show ints ((b.lo.set i _).set i _)=_;rw[Int.sub_add_cancel,Qf0 C]
    refine Zc1 (Zc8 f m p l r q o H) ?_;refine ch (ZcI (ZcL (FrzTo.agg (ZcL (QcK gg g.1) (ZcL (QcK gg g.2.1) ZcK))) (Zcr _)) z rfl) ?_;cases K:perB (dnB b i) A t c with|true=>refine Zc0 ?_;refine⟨dnB b i,by rw[QgT k,d];omega,⟨g,by rw[<-F];exact(Qpa k n K).symm⟩,?_⟩;refine⟨[(51,.blk 51 0),(52,.blk 52 0),(61,.blk 61 0),(62,.blk 62 0)],rfl,au0,?_,au24⟩;exact Zcw rfl rfl gg (Zcl rfl) (Zcw rfl rfl gg (ZcC (Rn.x1 rfl rfl) (ZcC (Rn.x1 rfl rfl) ZcB)) (Zcw rfl rfl gg (Zcl (Qaa _)) (Zcw rfl rfl gg (Zcl (Qaa _)) Zcv)))|false=>refine Zc1 (Zc5 f G w o u) ?_;refine⟨(),?_⟩;rw[<-F,QrL K];refine⟨[(51,.blk 51 0),(52,.blk 52 0),(61,.blk 61 0),(62,.blk 62 0)],rfl,au0,?_,au24⟩;exact Zcw rfl rfl gg (Zcl rfl) (Zcw rfl rfl gg (ZcC (Rn.x1 rfl rfl) (ZcC (Rn.x1 rfl rfl) ZcB)) (Zcw rfl rfl gg (Zcl (Qaa _)) (Zcw rfl rfl gg (Zcl (Qaa _)) Zcv)))
   refine Zc1 (Zc6 f m p l r q) ?_;refine⟨(),?_⟩;rw[<-F,dnA_0 (by rw[d];exact q)];exact b815J
  rintro _ _;have hD:BxR v (dnA (okP A t c) i B):=dnF_R f _ _ M (Zau _);have P:grI (okP A t c) v B i=upA (okP A t c) i x.2 (dnA (okP A t c) i B):=by unfold grI;rw[QaA I]
  generalize dnA (okP A t c) i B=D at*;refine Zc0 ?_;refine Qar 300 (fun _:Bxn=>[(0,vrsV v),(2,liV A),(3,boV t),(4,boV c),(10,.ptr 51 0 0),(11,.ptr 52 0 0),(12,.int .i64 i)]) (fun b=>gSt b v.length) (fun b=>BxR v b/\upA (okP A t c) i x.2 b=upA (okP A t c) i x.2 D) (fun b=>(x.2-b.hi.getD i 0).toNat) D 4 360 (fun _:Unit=>[(0,vrsV v),(2,liV A),(3,boV t),(4,boV c),(10,.ptr 51 0 0),(11,.ptr 52 0 0),(12,.int .i64 i)]) (fun _=>gSt (upA (okP A t c) i x.2 D) v.length) (fun _=>True) ?_ ⟨hD,rfl⟩ ?_ ?_;·refine⟨[(51,.blk 51 0),(52,.blk 52 0),(61,.blk 61 0),(62,.blk 62 0)],rfl,au0,?_,au24⟩;exact Zcw rfl rfl gg (Zcl rfl) (Zcw rfl rfl gg (ZcC (Rn.x1 rfl rfl) (ZcC (Rn.x1 rfl rfl) ZcB)) (Zcw rfl rfl gg (Zcl (Qaa _)) (Zcw rfl rfl gg (Zcl (Qaa _)) Zcv)))
  ·rintro b⟨h,F⟩;obtain⟨y,C⟩:=Qak (l:=b.hi) (i:=i) (by have:=h.2.1;omega);have d:b.hi.getD i 0=y:=QaA C;have k:i<b.hi.length:=by have:=h.2.1;omega
   have R:=h.2.1;have m:(ints b.hi).length=v.length:=by simp[ints,h.2.1]
   have S:=h.2.2 i x I;rw[d]at S;have p:(ints b.hi)[i]?=some (.int .i64 y):=by simp[ints,C]
   by_cases q:y<x.2
   ·have o:i+1<=v.length:=by omega
    have n:b.hi.getD i 0<x.2:=by rw[d];exact q
    have H:(ints b.hi).set i (.int .i64 (y+1))=ints (upB b i).hi:=by rw[Qbk,upB,d]
    have g:=h.up I N.2 n;have z:=s _ g;have E:(upB b i).hi[i]?=some (y+1):=by show(b.hi.set i (b.hi.getD i 0+1))[i]?=_;rw[Zbu k,d]
    have G:(ints (upB b i).hi)[i]?=some (.int .i64 (y+1)):=by simp[ints,E]
    have w:(ints (upB b i).hi).length=v.length:=by simp[ints,g.2.1]
    have u:(ints (upB b i).hi).set i (.int .i64 (y+1-1))=ints b.hi:=by rw[Qbk];show ints ((b.hi.set i _).set i _)=_;rw[Int.add_sub_cancel,Qf0 C]
    refine Zc1 (Zc8 f m p l r q o H) ?_;refine ch (ZcI (ZcL (FrzTo.agg (ZcL (QcK gg g.1) (ZcL (QcK gg g.2.1) ZcK))) (Zcr _)) z rfl) ?_;cases K:perB (upB b i) A t c with|true=>refine Zc0 ?_;refine⟨upB b i,by rw[QgU k,d];omega,⟨g,by rw[<-F];exact(Qpb k n K).symm⟩,?_⟩;refine⟨[(51,.blk 51 0),(52,.blk 52 0),(61,.blk 61 0),(62,.blk 62 0)],rfl,au0,?_,au24⟩;exact Zcw rfl rfl gg (Zcl rfl) (Zcw rfl rfl gg (ZcC (Rn.x1 rfl rfl) (ZcC (Rn.x1 rfl rfl) ZcB)) (Zcw rfl rfl gg (Zcl (Qaa _)) (Zcw rfl rfl gg (Zcl (Qaa _)) Zcv)))|false=>refine Zc1 (Zc5 f G w o u) ?_;refine⟨(),?_⟩;rw[<-F,QrM K];refine⟨[(51,.blk 51 0),(52,.blk 52 0),(61,.blk 61 0),(62,.blk 62 0)],rfl,au0,?_,au24⟩;exact Zcw rfl rfl gg (Zcl rfl) (Zcw rfl rfl gg (ZcC (Rn.x1 rfl rfl) (ZcC (Rn.x1 rfl rfl) ZcB)) (Zcw rfl rfl gg (Zcl (Qaa _)) (Zcw rfl rfl gg (Zcl (Qaa _)) Zcv)))
   refine Zc1 (Zc6 f m p l r q) ?_;refine⟨(),?_⟩;rw[<-F,upA_0 (by rw[d];exact q)];exact b815J
  rintro _ _;refine Zc0 ?_;refine⟨i+1,by omega,by omega,?_⟩;rw[hg,P];exact b815J
 have ei:i=v.length:=by omega
 subst ei;refine Zc1 f ?_;rw[O];refine⟨.inr trivial,_,rfl,?_⟩;have V:=M.1;have X:=M.2.1;have e1:sli B.lo=.fsl (ints B.lo) v.length 1:=by rw[<-V]
 have Z:sli B.hi=.fsl (ints B.hi) v.length 1:=by rw[<-X]
 show Rn 0 π0 _ (.agg [sli B.lo,sli B.hi]) (.agg [.sl 61 0 0 v.length 1,.sl 62 0 0 v.length 1]);rw[e1,Z];exact Rn.agg (ZcC (ZcE (g:=0) (ds:=ints B.lo) gg (by simp[ints,V]) (Zcl (Qaa _))) (ZcC (ZcE (g:=0) (ds:=ints B.hi) gg (by simp[ints,X]) (Zcl (Qaa _))) ZcB))
theorem Qjl{b}{l}(c:h.get b=some (.cells g (l.flatMap bxC)))(a:l.length=n):FrzTo h (.sl b g 0 n 2) (bxsV l):=by
 subst a;refine FrzTo.sl c (by rw[QbI];omega) ?_;have:((l.flatMap bxC).drop 0).take (l.length*2)=l.flatMap bxC:=by rw[ZaX];exact ZaM (by rw[QbI];omega)
 rw[this];exact Zcr _
theorem Qni{b}(c:h.get b=some (.cells g (l.map AV.bool)))(a:l.length=n):FrzTo h (.sl b g 0 n 1) (boV l):=by
 subst a;refine FrzTo.sl c (by simp) ?_;have:((l.map AV.bool).drop 0).take (l.length*1)=l.map AV.bool:=by rw[ZaX,Zb6];exact ZaM (by simp)
 rw[this];exact Zcr _
section
variable(G:List Int->Bxn)(A:List (List Int))(t c:List Bool)
def cA:Nat->List Bxn|0=>[]|i+1=>if(c.getD i false&&(t.getD i false&&!inBs (cA i) (A.getD i [])))=true then cA i++[G (A.getD i [])]else cA i
def spQ(bs:List Bxn)(lf:List Bool)(k:Nat)(i:Nat):Bool:=!c.getD i false||(!t.getD i false||(!inB (bs.getD k bx0) (A.getD i [])||cvB bs lf k (A.getD i [])))
def spU(bs:List Bxn)(lf:List Bool)(k:Nat):Nat->Bool|0=>true|i+1=>spU bs lf k i&&spQ A t c bs lf k i
def cB(bs:List Bxn):Nat->List Bool×List Bxn
 |0=>(List.replicate bs.length true,[])|k+1=>let s:=cB bs k
  if spU A t c bs s.1 k A.length=true then(s.1.set k false,s.2)else(s.1.set k true,s.2++[bs.getD k bx0])
def cov:List Bxn:=(cB A t c (cA G A t c A.length) (cA G A t c A.length).length).2
end
theorem Quh{x}:cvB bs (List.replicate bs.length true) (-1) x=inBs bs x:=by cases h:inBs bs x with|true=>unfold inBs at h;obtain⟨b,a,h⟩:=Zby.1 h;obtain⟨i,hi,rfl⟩:=Za4 a;refine Qnh hi ?_;unfold cvQ;rw[QaA (Zak hi),h,decide_eq_false (by omega),Zah,List.getElem?_replicate,if_pos hi];rfl|false=>unfold inBs at h;refine Qlq fun i hi=>?_;have:=List.any_eq_false.1 h _ (List.getElem_mem hi);unfold cvQ;rw[QaA (Zak hi)];simp only[Zam]at this;rw[this,Bool.and_false,Bool.and_false]
theorem Qnj{G}{A}{t c}:∀i,(cA G A t c i).length<=i
 |0=>Zau _|i+1=>by
  have:=@Qnj G A t c i;rw[cA];split;·rw[Zaf];simp;omega
  omega
theorem Qjm(h:∀a∈A,P (G a)):∀i,i<=A.length->∀b∈cA G A t c i,P b
 |0,_,b,d=>by cases d|i+1,hi,b,d=>by
  rw[cA]at d;obtain⟨a,f⟩:=Qak (l:=A) (i:=i) (by omega);split at d
  ·rcases ZaE.1 d with d|d;·exact Qjm h i (by omega) b d
   rw[ZaS.1 d,QaA f];exact h a (Zac f)
  exact Qjm h i (by omega) b d
theorem Qnk{A}{t c}{bs}:∀k,(cB A t c bs k).1.length=bs.length/\(cB A t c bs k).2.length<=k
 |0=>⟨Zbe ..,Zau _⟩|k+1=>by
  obtain⟨h1,a⟩:=@Qnk A t c bs k;rw[cB];split;·exact⟨by rw[ZbU];exact h1,by show(cB A t c bs k).2.length<=k+1;omega⟩
  exact⟨by rw[ZbU];exact h1,by rw[Zaf];simp;omega⟩
theorem Qnl:∀k,k<=bs.length->∀b∈(cB A t c bs k).2,b∈bs
 |0,_,b,a=>by cases a|k+1,hk,b,a=>by
  rw[cB]at a;obtain⟨y,d⟩:=Qak (l:=bs) (i:=k) (by omega);split at a;·exact Qnl k (by omega) b a
  rcases ZaE.1 a with a|a;·exact Qnl k (by omega) b a
  rw[ZaS.1 a,QaA d];exact Zac d
theorem QvJ{b}:l.map AV.bool++[.bool b]=(l++[b]).map AV.bool:=by simp
theorem QvK:(List.replicate n true).map AV.bool++[.bool true]=(List.replicate (n+1) true).map AV.bool:=by rw[QvJ,<-List.replicate_succ']
theorem QgV{b}:(l.map AV.bool).set k (.bool b)=(l.set k b).map AV.bool:=by rw[List.map_set]
theorem cover126(v:List (List UInt8×Int))(A:List (List Int))(t c)(h5:v.length<=5)(T:∀x∈v,0<=x.2/\x.2<=2)(hA:A.length<=1000)(ht:t.length=A.length)(hc:c.length=A.length)(B:∀y∈A,y.length=v.length)(hdm:Ps 125 [vrsV v] (liV A))(Z:∀a∈A,∀(j:Nat)x,v[j]?=some x->0<=a.getD j 0/\a.getD j 0<=x.2):Ps 126 [vrsV v,boV t,boV c] (bxsV (cov (fun a=>grB (okP A t c) v a v.length) A t c)):=by
 have hG:∀a∈A,Ps 181 [vrsV v,sli a,liV A,boV t,boV c] (bxV (grB (okP A t c) v a v.length)):=fun a h=>grow181 v a A t c h5 T (B a h) (Z a h) hA ht hc B;have K:∀a∈A,BxR v (grB (okP A t c) v a v.length):=fun a h=>grB_R T (B a h) (Z a h) v.length (Zau _);generalize V:(fun a=>grB (okP A t c) v a v.length)=G;have hG:∀a∈A,Ps 181 [vrsV v,sli a,liV A,boV t,boV c] (bxV (G a)):=fun a h=>by rw[<-V];exact hG a h
 have K:∀a∈A,BxR v (G a):=fun a h=>by rw[<-V];exact K a h
 have X:=fun i hi=>Qjm (G:=G) (A:=A) (t:=t) (c:=c) K i hi;refine Zcm 64 (Ok VL.s126) rfl (by simp only[noRefs,noRef,Qay,QaB];rfl) (QbM _) ?_;unfold VL.s126;refine Zc0 ?_;refine cp hdm ?_;refine Zc0 ?_;refine QaC 100 (fun i:Nat=>[(0,vrsV v),(1,boV t),(2,boV c),(7,liV A),(8,.sl 71 0 0 (cA G A t c i).length 2),(9,.nilsl),(10,.sl 72 0 0 (cA G A t c i).length 1),(11,.int .i64 i)]) (fun i=>[(71,.cells 0 ((cA G A t c i).flatMap bxC)),(72,.cells 0 ((List.replicate (cA G A t c i).length true).map AV.bool))]) (fun i=>i<=A.length) (fun i=>A.length-i) 0 ?_ (Zai _) ?_;·refine⟨[(71,.nil),(72,.nil)],rfl,au0,?_,au24⟩;exact Zcx rfl rfl (Zcx rfl rfl Zcv)
 rintro i hi;have N:=X i hi;have hAl:=@Qnj G A t c i;have f:cA G A t c (i+1)=if(c.getD i false&&(t.getD i false&&!inBs (cA G A t c i) (A.getD i [])))=true then cA G A t c i++[G (A.getD i [])]else cA G A t c i:=rfl;by_cases g:i<A.length
 ·obtain⟨a,h⟩:=Qak g;obtain⟨p,hp⟩:=Qak (l:=t) (i:=i) (by omega);obtain⟨q,w⟩:=Qak (l:=c) (i:=i) (by omega);have m:i<t.length:=by omega
  have l:i<c.length:=by omega
  have Y:=Zac h;have r:=B a Y;have hg:=hG a Y;rw[QaA h,QaA hp,QaA w]at f;generalize cA G A t c i=d at*;have o:=covered180 d (List.replicate d.length true) (-1) a (by omega) (Zbe ..) (by omega) (fun b F=>⟨by rw[(N b F).1,r],by rw[(N b F).2.1,r]⟩);rw[Quh]at o;cases q with|false=>refine Zc1 (Zc5 g m l (QaW hp) (QaW w)) ?_;refine⟨i+1,by omega,by omega,?_⟩;rw[f,if_neg (by simp)];refine⟨[(71,.blk 71 0),(72,.blk 72 0)],rfl,au0,?_,au24⟩;exact Zcw rfl rfl gg (Zcl (Qau _)) (Zcw rfl rfl gg (Zcl (QaB _)) Zcv)|true=>cases p with|false=>refine Zc1 (Zc5 g m l (QaW hp) (QaW w)) ?_;refine⟨i+1,by omega,by omega,?_⟩;rw[f,if_neg (by simp)];refine⟨[(71,.blk 71 0),(72,.blk 72 0)],rfl,au0,?_,au24⟩;exact Zcw rfl rfl gg (Zcl (Qau _)) (Zcw rfl rfl gg (Zcl (QaB _)) Zcv)|true=>cases R:inBs d a with|true=>rw[R]at o f;refine Zc1 (Zc6 g m l (QaW hp) (QaW w) (Qbu h)) ?_;refine ch (ZcI (ZcL (Qjl gg rfl) (ZcL (Qni gg (Zbe ..)) (Zcr _))) o rfl) ?_;refine Zc0 ?_;refine⟨i+1,by omega,by omega,?_⟩;rw[f,if_neg (by simp)];refine⟨[(71,.blk 71 0),(72,.blk 72 0)],rfl,au0,?_,au24⟩;exact Zcw rfl rfl gg (Zcl (Qau _)) (Zcw rfl rfl gg (Zcl (QaB _)) Zcv)|false=>
   rw[R]at o f;refine Zc1 (Zc6 g m l (QaW hp) (QaW w) (Qbu h)) ?_;refine ch (ZcI (ZcL (Qjl gg rfl) (ZcL (Qni gg (Zbe ..)) (Zcr _))) o rfl) ?_;refine Zc1 (Zc2 g (Qbu h)) ?_;refine cp hg ?_;have u:(d.flatMap bxC).length=d.length*2:=QbI d;have hrl:((List.replicate d.length true).map AV.bool).length=d.length*1:=by simp
   refine Zc1 (Zc3 u hrl @QvK) ?_;refine⟨i+1,by omega,by omega,?_⟩;have e1:(d++[G a]).length=d.length+1:=by simp
   rw[f,if_pos (by rfl),e1,Zao];refine⟨[(71,.blk 71 1),(72,.blk 72 1)],rfl,au0,?_,au24⟩;exact Zcw rfl rfl gg (Zcl (SU.Qaw (Qau _) (Qau [G a]))) (Zcw rfl rfl gg (Zcl (QaB _)) Zcv)
 have ei:i=A.length:=by omega
 subst ei;refine Zc1 g ?_;clear f;have M:cov G A t c=(cB A t c (cA G A t c A.length) (cA G A t c A.length).length).2:=rfl;rw[M];generalize cA G A t c A.length=d at*;refine Qar 300 (fun k:Nat=>[(1,boV t),(2,boV c),(7,liV A),(8,.sl 71 0 0 d.length 2),(9,.sl 73 0 0 (cB A t c d k).2.length 2),(10,.sl 72 0 0 d.length 1),(12,.int .i64 k)]) (fun k=>[(71,.cells 0 (d.flatMap bxC)),(72,.cells 0 ((cB A t c d k).1.map AV.bool)),(73,.cells 0 ((cB A t c d k).2.flatMap bxC))]) (fun k=>k<=d.length) (fun k=>d.length-k) 0 2 420 (fun _:Unit=>[(9,bxsV (cB A t c d d.length).2)]) (fun _=>[]) (fun _=>True) ?_ (Zai _) ?_ ?_;·refine⟨[(71,.blk 71 0),(72,.blk 72 0),(73,.nil)],rfl,au0,?_,au24⟩;exact Zcw rfl rfl gg (Zcl (Qau _)) (Zcw rfl rfl gg (Zcl (QaB _)) (Zcx rfl rfl Zcv))
 ·rintro k hk;have H:cB A t c d (k+1)=if spU A t c d (cB A t c d k).1 k A.length=true then((cB A t c d k).1.set k false,(cB A t c d k).2)else((cB A t c d k).1.set k true,(cB A t c d k).2++[d.getD k bx0]):=rfl;obtain⟨I,hL2⟩:=@Qnk A t c d k;by_cases s:k<d.length
  ·obtain⟨b,F⟩:=Qak s;have hbm:=Zac F;have Q:=N b hbm;have C:=Qfl F;have J:2<=((d.flatMap bxC).drop (k*2)).length:=by rw[C];simp
   have u:(d.flatMap bxC).length=d.length*2:=QbI d;rw[QaA F]at H;generalize cB A t c d k=S at*;obtain⟨lf,L⟩:=S;dsimp only at*;have E:(lf.map AV.bool).length=d.length:=by rw[Zav];exact I
   have P:(L.flatMap bxC).length=L.length*2:=QbI L;refine Zc1 s ?_;refine QaC 340 (fun i:Nat=>[(1,boV t),(2,boV c),(7,liV A),(8,.sl 71 0 0 d.length 2),(9,.sl 73 0 0 L.length 2),(10,.sl 72 0 0 d.length 1),(12,.int .i64 k),(13,.bool (spU A t c d lf k i)),(14,.int .i64 i)]) (fun _=>[(71,.cells 0 (d.flatMap bxC)),(72,.cells 0 (lf.map AV.bool)),(73,.cells 0 (L.flatMap bxC))]) (fun i=>i<=A.length) (fun i=>A.length-i) 0 ?_ (Zai _) ?_;·refine⟨[(71,.blk 71 0),(72,.blk 72 0),(73,.blk 73 0)],rfl,au0,?_,au24⟩;exact Zcw rfl rfl gg (Zcl (Qau _)) (Zcw rfl rfl gg (Zcl (QaB _)) (Zcw rfl rfl gg (Zcl (Qau _)) Zcv))
   rintro i hi;have n:spU A t c d lf k (i+1)=(spU A t c d lf k i&&spQ A t c d lf k i):=rfl;by_cases g:i<A.length
   ·obtain⟨a,h⟩:=Qak g;obtain⟨p,hp⟩:=Qak (l:=t) (i:=i) (by omega);obtain⟨q,w⟩:=Qak (l:=c) (i:=i) (by omega);have m:i<t.length:=by omega
    have l:i<c.length:=by omega
    have r:=B a (Zac h);have hw:=within87 b a (by rw[Q.1,r]) (by rw[Q.2.1,r]) (by omega);have o:=covered180 d lf k a (by omega) I (by omega) (fun y hy=>⟨by rw[(N y hy).1,r],by rw[(N y hy).2.1,r]⟩);have hQ:spQ A t c d lf k i=(!q||(!p||(!inB b a||cvB d lf k a))):=by unfold spQ;rw[QaA h,QaA hp,QaA w,QaA F]
    rw[hQ]at n;generalize spU A t c d lf k i=U at*;cases U with|false=>refine Zc1 g ?_;refine⟨i+1,by omega,by omega,?_⟩;rw[n,Zb7];refine⟨[(71,.blk 71 0),(72,.blk 72 0),(73,.blk 73 0)],rfl,au0,?_,au24⟩;exact Zcw rfl rfl gg (Zcl (Qau _)) (Zcw rfl rfl gg (Zcl (QaB _)) (Zcw rfl rfl gg (Zcl (Qau _)) Zcv))|true=>cases q with|false=>refine Zc1 (Zc5 g m l (QaW hp) (QaW w)) ?_;refine⟨i+1,by omega,by omega,?_⟩;rw[n];refine⟨[(71,.blk 71 0),(72,.blk 72 0),(73,.blk 73 0)],rfl,au0,?_,au24⟩;exact Zcw rfl rfl gg (Zcl (Qau _)) (Zcw rfl rfl gg (Zcl (QaB _)) (Zcw rfl rfl gg (Zcl (Qau _)) Zcv))|true=>cases p with|false=>refine Zc1 (Zc5 g m l (QaW hp) (QaW w)) ?_;refine⟨i+1,by omega,by omega,?_⟩;rw[n];refine⟨[(71,.blk 71 0),(72,.blk 72 0),(73,.blk 73 0)],rfl,au0,?_,au24⟩;exact Zcw rfl rfl gg (Zcl (Qau _)) (Zcw rfl rfl gg (Zcl (QaB _)) (Zcw rfl rfl gg (Zcl (Qau _)) Zcv))|true=>cases R:inB b a with|false=>rw[R]at hw n;refine Zc1 (Zda g m l (QaW hp) (QaW w) C J s u (Qbu h)) ?_;refine cp hw ?_;refine Zc0 ?_;refine⟨i+1,by omega,by omega,?_⟩;rw[n];refine⟨[(71,.blk 71 0),(72,.blk 72 0),(73,.blk 73 0)],rfl,au0,?_,au24⟩;exact Zcw rfl rfl gg (Zcl (Qau _)) (Zcw rfl rfl gg (Zcl (QaB _)) (Zcw rfl rfl gg (Zcl (Qau _)) Zcv))|true=>rw[R]at hw n;refine Zc1 (Zda g m l (QaW hp) (QaW w) C J s u (Qbu h)) ?_;refine cp hw ?_;refine Zc1 (Zc2 g (Qbu h)) ?_;refine ch (ZcI (ZcL (Qjl gg rfl) (ZcL (Qni gg I) (Zcr _))) o rfl) ?_;refine Zc0 ?_;refine⟨i+1,by omega,by omega,?_⟩;rw[n,show(true&&(!true||(!true||(!true||cvB d lf k a))))=cvB d lf k a from by simp];refine⟨[(71,.blk 71 0),(72,.blk 72 0),(73,.blk 73 0)],rfl,au0,?_,au24⟩;exact Zcw rfl rfl gg (Zcl (Qau _)) (Zcw rfl rfl gg (Zcl (QaB _)) (Zcw rfl rfl gg (Zcl (Qau _)) Zcv))
   have ei:i=A.length:=by omega
   subst ei;generalize spU A t c d lf k A.length=U at*;have O:k+1<=d.length:=by omega
   cases U with|true=>have z:(lf.map AV.bool).set k (.bool false)=(lf.set k false).map AV.bool:=QgV;refine Zc1 (Zc5 g s E O z) ?_;refine⟨k+1,by omega,by omega,?_⟩;rw[H,if_pos rfl];dsimp only;refine⟨[(71,.blk 71 0),(72,.blk 72 0),(73,.blk 73 0)],rfl,au0,?_,au24⟩;exact Zcw rfl rfl gg (Zcl (Qau _)) (Zcw rfl rfl gg (Zcl (QaB _)) (Zcw rfl rfl gg (Zcl (Qau _)) Zcv))|false=>
    have z:(lf.map AV.bool).set k (.bool true)=(lf.set k true).map AV.bool:=QgV;refine Zc1 (Zc9 g s E O z C J u P) ?_;refine⟨k+1,by omega,by omega,?_⟩;have e1:(L++[b]).length=L.length+1:=by simp
    rw[H,if_neg (by decide)];dsimp only;rw[e1,Zao];refine⟨[(71,.blk 71 0),(72,.blk 72 0),(73,.blk 73 1)],rfl,au0,?_,au24⟩;exact Zcw rfl rfl gg (Zcl (Qau _)) (Zcw rfl rfl gg (Zcl (QaB _)) (Zcw rfl rfl gg (Zcl (SU.Qaw (Qau _) (Qau [b]))) Zcv))
  have ek:k=d.length:=by omega
  subst ek;refine Zc1 s ?_;exact⟨(),[],rfl,Zcs,Zcv,Zcu (ZcD (b:=73) (g:=0) gg rfl rfl rfl (QbI _) (Zcl (Qau _))) Zct⟩
 rintro _ _;refine Zc0 ?_;exact⟨.inr trivial,_,rfl,Zck (QbM _)⟩
def vrN(x:List UInt8×Aut):List UInt8×Int:=(x.1,(x.2.n:Int)-1)
def itsL(c:Cel):List (List UInt8×Aut):=nmL' 99 c.cs++nmL' 114 c.rs
theorem vrs_N(c):vrsL c=(itsL c).map vrN:=by unfold vrsL itsL nmL';rw[ZaI,List.map_map,List.map_map];rfl
theorem Qnm(c):(itsL c).length=c.cs.length+c.rs.length:=by simp[itsL,nmL']
theorem QrN{c}(h:WfCel c):∀x∈itsL c,0<x.2.n/\x.2.n<=3:=by
 intro x hx;rcases ZaE.1 hx with hx|hx;·obtain⟨y,hy,rfl⟩:=Zap.1 hx;exact⟨(h.ca y hy).pos,(h.ca y hy).n3⟩
 ·obtain⟨y,hy,rfl⟩:=Zap.1 hx;exact⟨(h.ra y hy).pos,(h.ra y hy).n3⟩
theorem QrO:List.flatMap vrC (List.map vrN [x])=[.str x.1,.int .i64 0,.int .i64 ((x.2.n:Int)-1),.int .i64 0]:=rfl
theorem vars12(c)(h:WfCel c):Ps 12 [celV c] (vrsV (vrsL c)):=by
 have G:=h.c3;have E:=h.r2;have s:=QrN h;rw[vrs_N];have z:=Qnm c;refine Zcm 64 (Ok UK.s12) rfl (by rw[noRefs,SU.Qa0];rfl) (QaN _) ?_;have w:(nmL' 99 c.cs).length=c.cs.length:=by simp[nmL']
 have y:(nmL' 114 c.rs).length=c.rs.length:=by simp[nmL']
 rw[show celV c=.agg [evsV c.ev,itsN (nmL' 99 c.cs),itsN (nmL' 114 c.rs),exs c.xs,cos c.ks]from by rw[celV,Qjj,Qjj]];unfold itsL at*;generalize nmL' 99 c.cs=A at*;generalize nmL' 114 c.rs=B at*;have g:(A.flatMap itN).all AV.one=true:=Qc0 (fun _=>rfl) _;have u:(B.flatMap itN).all AV.one=true:=Qc0 (fun _=>rfl) _;have p:=QgS A;have l:=QgS B;unfold UK.s12;refine Zc0 ?_;refine Qdj [(8,[]),(11,[])] rfl rfl ?_;refine Zc1 (Zc4 g u p l) ?_;refine⟨⟨⟨[],rfl,fun b r=>r⟩,⟨[],rfl,fun b r=>r⟩,trivial⟩,?_⟩;have q:A.flatMap itN++B.flatMap itN=(A++B).flatMap itN:=by rw[Zao]
 have f:A.length+B.length=(A++B).length:=List.length_append.symm;rw[q,f];generalize A++B=L at*;have m:=QgS L;have n:=Qa9 L;have C:L.length<=5:=by omega
 refine Qar 100 (fun i:Nat=>[(3,.sl 60 0 0 i 4),(4,itsN L),(5,.int .i64 i)]) (fun i=>[(60,.cells 0 (((L.take i).map vrN).flatMap vrC))]) (fun i=>i<=L.length) (fun i=>L.length-i) 0 0 160 (fun _:Unit=>[(3,vrsV (L.map vrN))]) (fun _=>[]) (fun _=>True) ?_ (Zai _) ?_ ?_;·exact⟨[(60,.nil)],rfl,Zcs,Zcx rfl rfl Zcv,Zcu (by first|exact Rn.x3 rfl rfl|exact Rn.x4 rfl rfl|exact Rn.x6 rfl|exact Rn.x7 rfl|exact Rn.x5 rfl) (Zcu (ZcD (b:=67) (g:=2) gg rfl rfl rfl m (Zcl n)) au24)⟩
 ·rintro i hi;by_cases a:i<L.length
  ·obtain⟨x,t⟩:=Qak a;have d:=Qo8 t;have v:5<=((L.flatMap itN).drop (i*5)).length:=by rw[d];simp
   have k:((L.take i).map vrN).length=i:=by rw[Zav,Zaq];omega
   have o:(((L.take i).map vrN).flatMap vrC).length=i*4:=by rw[QgF,k]
   have F:=s x (Zac t);refine Zc1 (Zc4 a d v o) ?_;refine⟨i+1,by omega,by omega,?_⟩;rw[take_succ' t,ZaI,Zao,QrO];refine⟨[(60,.blk 60 1)],rfl,au0,?_,au24⟩;exact Zcw rfl rfl gg (Zcl (SU.Qaw (Qay _) (Qay [vrN x]))) Zcv
  have e:i=L.length:=by omega
  subst e;refine ZcX a ?_;exact btO0C
 rintro _ _;refine Zc0 ?_;exact⟨.inr trivial,_,rfl,Zck (QaN _)⟩
theorem size43(c)(h:WfCel c):Ps 43 [celV c] (.int .i64 (szV 1 (vrsL c))):=by
 have m:=vars12 c h;refine Zcn 64 (Ok UK.s43) rfl (by rw[noRefs,SU.Qa0];rfl) rfl ?_;have a:=QcA h;have l:=Qfs h;generalize vrsL c=v at*;unfold UK.s43;refine Zc0 ?_;refine cp m ?_;refine Zc0 ?_;refine QaC 100 (fun i:Nat=>[(3,.int .i64 (szV 1 (v.take i))),(4,vrsV v),(5,.int .i64 i)]) (fun _=>[]) (fun i=>i<=v.length) (fun i=>v.length-i) 0 ⟨[],rfl,au0,au23,au24⟩ (Zai _) ?_;rintro i hi;by_cases b:i<v.length
 ·obtain⟨x,f⟩:=Qak b;have d:=Qb0 f;have g:4<=((v.flatMap vrC).drop (i*4)).length:=by rw[d];simp
  have o:=Qbs a l i;have b2:=a x (Zac f);have n:=Qbs a l (i+1);have k:=QdN f;rw[k]at n;generalize szV 1 (v.take i)=S at*;refine Zc1 (Zc3 b d g) ?_;refine⟨i+1,by omega,by omega,?_⟩;rw[k];exact⟨[],rfl,au0,au23,au24⟩
 have e:i=v.length:=by omega
 subst e;refine ZcX b ?_;exact⟨.inr trivial,_,rfl,rfl⟩
theorem small10(c)(h:WfCel c)(C)(hlen:C.length=152)(a:C.all AV.one=true)(b:noRefs C=true)(i:Ps 42 [.agg C] (celV c)):Ps 10 [.agg C] (.tup [celV c,.bool true]):=by
 have f:=size43 c h;have k:=Qo9 h;have d:C.take 152=C:=by rw[<-hlen,Zan]
 refine Zcn 64 (Ok UK.s10) rfl (by rw[noRefs,noRef,b];rfl) (by rw[noRef,noRefs,SU.Qa0];rfl) ?_;generalize szV 1 (vrsL c)=S at*;unfold UK.s10;refine Zc1 (Zc3 hlen a d) ?_;refine cp i ?_;refine Zc0 ?_;refine cp f ?_;have g:S<=400:=by omega
 refine Zc1 g ?_;exact⟨.inr trivial,_,rfl,rfl⟩
end Go.AM.SO
namespace Go.AM.VK
open Go.Proofs
set_option maxHeartbeats 4000000
noncomputable section
def cf:YA.Cf:={most:=.pure,always:=[84].map fun k=>(k,.heap),value:=.pure}
def s15:SFn:=by
 refine(?f:YA.Yt Tryz.prog cf 15 [[0,3],[10,11,9,12,13],[15,16,14,17,18,19,7],[1,4,5,6,8,20,21,22,23,24,25,26,27,28,29]]) ?s ?h;case h=>exact YA.rr
 exact fun s _=>s
def s17:SFn:=by
 refine(?f:YA.Yt Tryz.prog cf 17 [[0,1,4],[13,14,15],[16,17],[],[],[18,19,20,21,22],[23,26,27,28,29,30,31,32],[33,34,35,36,37,38,39],[],[40,41,42,43],[44,47,48,49,50,51,52,53,54],[55,56,57,58,59,60,61,62,63,64],[12,65,66,67,68,69,70,71,72,73,74,75,76],[45,46],[9,10,11,77,78,79,80,81,82,83,84,85],[24,25],[2,3,5,6,7,8,86]] [(9,[(2,4)])]) ?s ?h;case h=>exact YA.rr
 exact fun s _=>s
def s46:SFn:=by
 refine(?f:YA.Yt Tryz.prog cf 46 [[0,2],[6],[1,7],[],[11,12,13],[5,14,15,16,17,18,19,20,21],[22],[3,8,9,10,23]]) ?s ?h;case h=>exact YA.rr
 exact fun s _=>s
def s50:SFn:=by
 refine(?f:YA.Yt Tryz.prog cf 50 [[6],[0,1,2,10,11,12,13,14,9,15,16,7],[8,17]]) ?s ?h;case h=>exact YA.rr
 exact fun s _=>s
def s56:SFn:=by
 refine(?f:YA.Yt Tryz.prog cf 56 [[0,6],[1,2,3,7,8,9,10,11,12,13,14,15,16,17]]) ?s ?h;case h=>exact YA.rr
 exact fun s _=>s
def s57:SFn:=by
 refine(?f:YA.Yt Tryz.prog cf 57 [[4],[],[],[7,8,9],[10,13,14,15,16,17,18,19,20,21,22,23,24,25],[11,12],[0,1,5,6,26]]) ?s ?h;case h=>exact YA.rr
 exact fun s _=>s
def s58:SFn:=by
 refine(?f:YA.Yt Tryz.prog cf 58 [[0,4],[1,2,5,6,7,8,9,10,11,12,13,14,15,16,17,18,19]] [(0,[(0,3),(0,6),(0,10),(7,10),(0,13),(7,13)])]) ?s ?h;case h=>exact YA.rr
 exact fun s _=>s
end
end Go.AM.VK
namespace Go.AM.SO
open Go.Proofs Go.AM.SD Go.AM.SE
theorem domain55(v)(b:v.length<=5)(a:∀x∈v,0<=x.2/\x.2<=2):Ps 55 [vrsV v] (liV (dom v)):=by have c:=domain125 v b a;refine Zcn 64 (Ok VL.s55) rfl (by simp only[noRefs,noRef,Qay];rfl) (QbD _) ?_;unfold VL.s55;refine Zc0 ?_;refine cp c ?_;refine Zc0 ?_;exact⟨.inr trivial,_,rfl,rfl⟩
def ixQ(v:List (List UInt8×Int))(a:List Int):Nat->Int|0=>0|i+1=>ixQ v a i*((v.getD i vr0).2+1)+a.getD i 0
theorem Qd6{v}{a}(c:∀x∈v,0<=x.2/\x.2<=2)(b:∀(j:Nat)x,v[j]?=some x->0<=a.getD j 0/\a.getD j 0<=x.2):∀i,i<=v.length->0<=ixQ v a i/\ixQ v a i<szV 1 (v.take i)
 |0,_=>⟨Int.le_refl _,by show(0:Int)<1;decide⟩|i+1,hi=>by
  obtain⟨x,d⟩:=Qak (l:=v) (i:=i) (by omega);obtain⟨h1,g⟩:=Qd6 c b i (by omega);have f:=b i x d;have h:=c x (Zac d);rw[QdN d,ixQ,QaA d];generalize szV 1 (v.take i)=S at*;generalize ixQ v a i=I at*;have:x.2=0\/x.2=1\/x.2=2:=by omega
  rcases this with e|e|e<;>rw[e]at f⊢<;>omega
theorem index57(v)(a)(m:v.length<=5)(b:∀x∈v,0<=x.2/\x.2<=2)(q:a.length=v.length)(c:∀(j:Nat)x,v[j]?=some x->0<=a.getD j 0/\a.getD j 0<=x.2):Ps 57 [vrsV v,sli a] (.int .i64 (ixQ v a v.length)):=by
 refine Zcn 64 (Ok VK.s57) rfl (by simp only[noRefs,noRef,Qay,Qaa];rfl) rfl ?_;unfold VK.s57;refine Zc0 ?_;refine QaC 100 (fun i:Nat=>[(0,vrsV v),(1,sli a),(5,.int .i64 (ixQ v a i)),(6,.int .i64 i)]) (fun _=>[]) (fun i=>i<=v.length) (fun i=>v.length-i) 0 ⟨[],rfl,au0,au23,au24⟩ (Zai _) ?_;rintro i hi;by_cases d:i<v.length
 ·obtain⟨x,g⟩:=Qak d;obtain⟨y,h⟩:=Qak (l:=a) (i:=i) (by omega);have k:i<a.length:=by omega
  have f:=Qb0 g;have l:4<=((v.flatMap vrC).drop (i*4)).length:=by rw[f];simp
  have s:=Qd6 b c i hi;have b2:=Qd6 b c (i+1) (by omega);have t:=Qbs b m i;have u:=Qbs b m (i+1);have r:=b x (Zac g);have o:=c i x g;have n:ixQ v a (i+1)=ixQ v a i*(x.2+1)+y:=by rw[ixQ,QaA g,QaA h]
  rw[QaA h]at o;rw[n]at b2;generalize ixQ v a i=I at*;refine Zc1 (Zc5 d k f l (QaI h)) ?_;refine⟨i+1,by omega,by omega,?_⟩;rw[n];exact⟨[],rfl,au0,au23,au24⟩
 have p:i=v.length:=by omega
 subst p;refine Zc1 d ?_;exact⟨.inr trivial,_,rfl,rfl⟩
end Go.AM.SO
namespace Go.AM.OE
open Go.Proofs
set_option maxHeartbeats 4000000
noncomputable section
def cf:YA.Cf:={most:=.pure,value:=.pure}
def s47:SFn:=by
 refine(?f:YA.Yt Tryz.prog cf 47 [[4,5],[10,11],[12],[0,1,6,13,14],[4,5,6,13,15,16],[1,7,18,19,20,17,21,22],[9,23],[0,8,24],[0,8,24,25,26,27]]) ?s ?h;case h=>exact YA.rr
 exact fun s _=>s
def s104:SFn:=by
 refine(?f:YA.Yt Tryz.prog cf 104 [[0,2],[1,3,4,5]]) ?s ?h;case h=>exact YA.rr
 exact fun s _=>s
def s109:SFn:=by
 refine(?f:YA.Yt Tryz.prog cf 109 [[4],[],[0],[],[11,12,13,14],[7,15,16],[6,17,18,19,20,21],[6,17,22],[1,5,8,9,10,23]]) ?s ?h;case h=>exact YA.rr
 exact fun s _=>s
end
end Go.AM.OE
namespace Go.AM.SO
open Go.Proofs Go.AM.SD Go.AM.SE
def uncL(e:Nat->Evt)(n:Nat):List Nat:=(List.range n).filter fun i=>!(e i).c
theorem Qtb(e)(n):uncL e (n+1)=uncL e n++if(e n).c then[]else[n]:=by unfold uncL;rw[ZaK,Zbm];cases h:(e n).c<;>simp[h]
theorem Qui(e)(n):(uncL e n).length<=n:=by have:=Za7 (fun i=>!(e i).c) (List.range n);rwa[ZbV]at this
theorem QrP(e){i}(h:i<5):(evl e)[i]?=some ([UInt8.ofNat (97+i)],e i):=by unfold evl;rw[Zaz,Zbw h];rfl
theorem unc171(x):Ps 104 [evNV x] (.bool (!x.2.c)):=by refine Zcn 64 (Ok OE.s104) rfl rfl rfl ?_;cases h:x.2.c;all_goals unfold OE.s104;refine Zc1 h ?_;exact⟨.inr trivial,_,rfl,rfl⟩
theorem chosen176(e):Ps 109 [evsV e,.fn 104 [] []] (sliN (uncL e 5)):=by
 have k:=Qdn (evl e);rw[Qha];refine Zcm 64 (Ok OE.s109) rfl (by simp only[noRefs,noRef,k];rfl) (Qab _) ?_;unfold OE.s109;refine Zc0 ?_;refine Qar 100 (fun i:Nat=>[(1,.fn 104 [] []),(5,.sl 76 0 0 (uncL e i).length 1),(8,evsN (evl e)),(9,.int .i64 5),(10,.int .i64 i)]) (fun i=>[(76,.cells 0 (ints (nz (uncL e i))))]) (fun i=>i<=5) (fun i=>5-i) 0 0 160 (fun _:Unit=>[(5,sliN (uncL e 5))]) (fun _=>[]) (fun _=>True) ?_ (Zai _) ?_ ?_;·refine⟨[(76,.nil)],rfl,au0,?_,au24⟩;exact Zcx rfl rfl Zcv
 ·rintro i hi;have l:=Qui e i;by_cases g:i<5
  ·have c:=Qin (QrP e g);have d:5<=(((evl e).flatMap evN).drop (i*5)).length:=by rw[c];simp
   have a:=Qtb e i;have b:(i:Int)<5:=by omega
   have f:i<(evl e).length:=by simpa[evl]using g
   have hc:=unc171 ([UInt8.ofNat (97+i)],e i);cases h:(e i).c;·rw[h]at a;refine Zc1 (Zc4 b f c d) ?_;refine cp hc ?_;refine Zc1 h ?_;refine⟨i+1,by omega,by omega,?_⟩;rw[a,if_neg (by simp),Zaf,QaQ,QaF];refine⟨[(76,.blk 76 1)],rfl,au0,?_,au24⟩;exact Zcw rfl rfl gg (Zcl (SU.Qaw (Qaa _) rfl)) Zcv
   rw[h]at a;refine Zc1 (Zc4 b f c d) ?_;refine cp hc ?_;refine Zc1 h ?_;refine⟨i+1,by omega,by omega,?_⟩;rw[a,if_pos rfl,Zas];refine⟨[(76,.blk 76 0)],rfl,au0,?_,au24⟩;exact Zcw rfl rfl gg (Zcl (Qaa _)) Zcv
  exact bEfQN
 rintro _ _;refine Zc0 ?_;exact⟨.inr trivial,_,rfl,Zck (Qab _)⟩
theorem select86(e)(he:∀i,i<5->(e i).Ok):Ps 47 [evsV e,.int .i64 2] (.tup [sliN (uncL e 5),.int .i64 0]):=by
 have a:noRef (evsV e)=true:=by rw[Qha];exact Qdn (evl e)
 refine Zcm 64 (Ok OE.s47) rfl (by simp only[noRefs,a];rfl) (by simp only[noRef,noRefs,Qaa];rfl) ?_;have b:=check82 e he;have hH:=chosen176 e;unfold OE.s47;refine Zc0 ?_;refine cp b ?_;refine Zc0 ?_;refine Qbh ?_;refine Zc0 ?_;refine QbK (f:=fun _=>.any) (l:=[]) (x:=1) (by simp) (by decide) ?_;refine Zc0 ?_;refine Qbh ?_;refine Zc0 ?_;refine QbK (x:=2) (by simp) (by decide) ?_;refine Zc0 ?_;refine Qbh ?_;refine Zc0 ?_;refine QbK (x:=3) (by simp) (by decide) ?_;refine Zc0 ?_;refine Qbh ?_;refine Zc0 ?_;refine QbK (x:=4) (by simp) (by decide) ?_;refine Zc0 ?_;refine Qbh ?_;refine Zc0 ?_;refine QbK (x:=5) (by simp) (by decide) ?_;refine Zc0 ?_;refine Qbh ?_;refine Zc0 ?_;refine QbK (x:=6) (by simp) (by decide) ?_;refine Zc0 ?_;refine QcT ?_;refine Zc0 ?_;refine wK_in (x:=2) (by simp) ?_;have hu:updF (updF (updF (updF (updF (updF (fun _=>.any) 1 (.fn 103 [] [])) 2 (.fn 104 [] [])) 3 (.fn 105 [] [])) 4 (.fn 106 [] [])) 5 (.fn 107 [] [])) 6 (.fn 108 [] []) 2=.fn 104 [] []:=rfl;exact bJsCm
end Go.AM.SO
namespace Go.AM.TQ
open Go.Proofs
set_option maxHeartbeats 4000000
noncomputable section
def cf:YA.Cf:={most:=.pure,always:=[236,261,218].map fun k=>(k,.heap),value:=.pure}
def s52:SFn:=by
 refine(?f:YA.Yt Tryz.prog cf 52 [[0],[19,20,18,21,22],[23],[1,4,5,24,25,26],[5,24,27,28,29,30,31],[32,33,34],[],[38,39,40,41],[8,43,44,45,42,46,47],[48,49,50,51,52,53,54],[55,56,57,58,59,60,61,62,63,64,65,66,67,68,69,70,71,72,73,74],[9,76,77,78,79,80,81,75,82,83,84,85,15],[14],[7,10,11,12,13,86,87,88,89,90,91,92,93,94,95],[10,11,12,13,86,96,97,98],[99,100],[101],[102,103,104,105,106,107],[7,16,17,108,109,110,111,112,113,114,115,116,117],[7,99,118],[1,4,6,35,36,37,119]] [(10,[(4,7),(5,7),(4,13),(5,13),(10,13),(11,13),(3,15),(5,15),(9,15),(11,15)])]) ?s ?h;case h=>exact YA.rr
 exact fun s _=>s
def s236:SFn:=by
 refine(?f:YA.Yt Tryz.prog cf 236 [[4],[6],[],[9,10],[11,12,13,14,15],[0,1,7,8,5,16,17],[4,5,16,18],[0,1,7,8]]) ?s ?h;case h=>exact YA.rr
 exact fun s _=>s
def s114:SFn:=by
 refine(?f:YA.Yt Tryz.prog cf 114 [[4,5],[0,7,8,9,10,11,12],[1,6,13,14,15,16,17,18,19]]) ?s ?h;case h=>exact YA.rr
 exact fun s _=>s
def s116:SFn:=by
 refine(?f:YA.Yt Tryz.prog cf 116 [[0,4,5,6,7],[10,11,12],[13],[1,2,8,14,15],[4,5,6,7,1,8,14,16,17,18,19],[26,27],[2,9,25],[25,29,30,31,32,33],[2,9,28,34],[2,9,28,20,21,22,23,24]]) ?s ?h;case h=>exact YA.rr
 exact fun s _=>s
def s117:SFn:=by
 refine(?f:YA.Yt Tryz.prog cf 117 [[0,1,2,6],[3,4,5,7]]) ?s ?h;case h=>exact YA.rr
 exact fun s _=>s
def s261:SFn:=by
 refine(?f:YA.Yt Tryz.prog cf 261 [[4],[0,1,5,6,7,8]]) ?s ?h;case h=>exact YA.rr
 exact fun s _=>s
def s170:SFn:=by
 refine(?f:YA.Yt Tryz.prog cf 170 [[0,4],[6,7],[8],[1,2,5,9,10],[1,2,5,9,11,12,13]]) ?s ?h;case h=>exact YA.rr
 exact fun s _=>s
def s171:SFn:=by
 refine(?f:YA.Yt Tryz.prog cf 171 [[1,4],[0,3,5,6,7]]) ?s ?h;case h=>exact YA.rr
 exact fun s _=>s
def s172:SFn:=by
 refine(?f:YA.Yt Tryz.prog cf 172 [[0,2],[],[8],[],[12,13,14],[5,15,16,17,18,19],[20],[1,9,10,11,21],[],[25,26,27],[7,28,29,30,31,32],[33],[3,22,23,24,34]]) ?s ?h;case h=>exact YA.rr
 exact fun s _=>s
def s174:SFn:=by
 refine(?f:YA.Yt Tryz.prog cf 174 [[0,4,5],[10,11,12],[13],[1,2,6,14,15],[4,5,6,14],[1,2,16,17],[],[21,22,23],[9,24,25,26,27,28],[29],[7,18,19,20,30]]) ?s ?h;case h=>exact YA.rr
 exact fun s _=>s
def s175:SFn:=by
 refine(?f:YA.Yt Tryz.prog cf 175 [[6],[0,12,13,14,15],[],[19,20,21,22],[23,24,25,26,27],[8,28,30,31,32,33,34,35,36,37,29,38,39,40,9,11],[10,41],[1,2,16,17,18,7,42,43],[6,7,42,44],[1,2,16,17,18]]) ?s ?h;case h=>exact YA.rr
 exact fun s _=>s
def s283:SFn:=by
 refine(?f:YA.Yt Tryz.prog cf 283 [[4],[6],[],[9,10],[11,12,13,14,15],[0,1,7,8,5,16,17],[4,5,16,18],[0,1,7,8]]) ?s ?h;case h=>exact YA.rr
 exact fun s _=>s
def s217:SFn:=by
 refine(?f:YA.Yt Tryz.prog cf 217 [[0,4],[7,8,9,10,11],[1,2,12],[4,1,12],[],[16,17,18,19],[5,6,20,21,22],[2,13,14,15,29,23,28,27,25,26,24,30],[4,30,31],[2,13,14,15,29,23,28,27,25,26,24]]) ?s ?h;case h=>exact YA.rr
 exact fun s _=>s
def s218:SFn:=by
 refine(?f:YA.Yt Tryz.prog cf 218 [[4],[6],[],[9,10],[11,12,13,14,15],[0,1,7,8,5,16,17],[4,5,16,18],[0,1,7,8]]) ?s ?h;case h=>exact YA.rr
 exact fun s _=>s
def s219:SFn:=by
 refine(?f:YA.Yt Tryz.prog cf 219 [[3],[0,1,4,5,6]]) ?s ?h;case h=>exact YA.rr
 exact fun s _=>s
def s220:SFn:=by
 refine(?f:YA.Yt Tryz.prog cf 220 [[0,2],[1,3]]) ?s ?h;case h=>exact YA.rr
 exact fun s _=>s
def s221:SFn:=by
 refine(?f:YA.Yt Tryz.prog cf 221 [[0,2],[1,3]]) ?s ?h;case h=>exact YA.rr
 exact fun s _=>s
def s222:SFn:=by
 refine(?f:YA.Yt Tryz.prog cf 222 [[0,4],[6,7],[8],[1,2,5,9,10],[4,1,2,5,9,11,12,13,14,15,16,17],[18],[18]]) ?s ?h;case h=>exact YA.rr
 exact fun s _=>s
def s224:SFn:=by
 refine(?f:YA.Yt Tryz.prog cf 224 [[0,6,7,8],[10,11,12],[13],[1,2,3,14,15],[8,6,7,14,16,17,18,19],[1,2,3,20],[6,7,8,1,2,3,20,21,22,23,24],[25],[9,26,27],[9,26]]) ?s ?h;case h=>exact YA.rr
 exact fun s _=>s
def s183:SFn:=by
 refine(?f:YA.Yt Tryz.prog cf 183 [[0,2,6],[1,3,9,10,11],[5,12,13,14],[15],[7,8,16],[7,8,16,17,18,19,20,21]]) ?s ?h;case h=>exact YA.rr
 exact fun s _=>s
def s260:SFn:=by
 refine(?f:YA.Yt Tryz.prog cf 260 [[0,3],[1,2,4,5,6,7,8]]) ?s ?h;case h=>exact YA.rr
 exact fun s _=>s
def s262:SFn:=by
 refine(?f:YA.Yt Tryz.prog cf 262 [[0,3],[1,2,4,5,6,7,8,9,10,11]]) ?s ?h;case h=>exact YA.rr
 exact fun s _=>s
def s263:SFn:=by
 refine(?f:YA.Yt Tryz.prog cf 263 [[3],[0,1,4,5,6,7,8,9]]) ?s ?h;case h=>exact YA.rr
 exact fun s _=>s
def s264:SFn:=by
 refine(?f:YA.Yt Tryz.prog cf 264 [[0,4],[],[2,8],[],[12,13,14],[7,15,16,17,18,19,20,21,22,23,24],[25],[1,5,9,10,11,26]]) ?s ?h;case h=>exact YA.rr
 exact fun s _=>s
def s237:SFn:=by
 refine(?f:YA.Yt Tryz.prog cf 237 [[0,3],[1,2,4,5,6,7]]) ?s ?h;case h=>exact YA.rr
 exact fun s _=>s
end
end Go.AM.TQ
namespace Go.AM.TP
open Go.Proofs
set_option maxHeartbeats 4000000
noncomputable section
def cf:YA.Cf:={most:=.pure,always:=[86].map fun k=>(k,.heap)}
def s45:SFn:=by
 refine(?f:YA.Yt Tryz.prog cf 45 [[0,3,4],[6,7],[8],[1,5,9,10,11],[1,5,9,12,13,14,15,16,17,18]]) ?s ?h;case h=>exact YA.rr
 exact fun s _=>s
def s100:SFn:=by
 refine(?f:YA.Yt Tryz.prog cf 100 [[3,4],[17,18],[19],[0,5,20,21,22],[3,4,0,5,20,23,24],[25,26,27],[29,30,28,31,32],[8,33],[6,7,34,35],[4,34,36,37],[7,38,39,40,41],[],[42,43,44],[45,48,49,50,51,52],[53,54,55,56,57,58,59],[53,60],[],[64,65,66],[68,69,70,71,72,73,74,67,75,76],[14,77],[78,80,81,82,83,79,84,85],[16,86],[15,87,88,89],[6,9,10,61,62,63,12,13,90,91],[4,90,92,93],[94,95,96,97],[13,98,99,100,101],[12,15,13,87,102,103,104,105,106,107,108,109,110],[111],[61,62,63,46,47],[6,9,10,112,113,114],[115,116]]) ?s ?h;case h=>exact YA.rr
 exact fun s _=>s
def s101:SFn:=by
 refine(?f:YA.Yt Tryz.prog cf 101 [[2],[],[0],[],[9,10,11],[5,12,13,14,15,16],[17],[3,6,7,8,18]]) ?s ?h;case h=>exact YA.rr
 exact fun s _=>s
def s159:SFn:=by
 refine(?f:YA.Yt Tryz.prog cf 159 [[2],[6,7],[0,8],[2,0,8],[],[12,13,14],[4,15,16],[17],[9,10,11,5,18,19],[2,5,18,20],[9,10,11]]) ?s ?h;case h=>exact YA.rr
 exact fun s _=>s
def s160:SFn:=by
 refine(?f:YA.Yt Tryz.prog cf 160 [[],[9,10,11,12],[0],[],[16,17,18],[19],[5,20],[],[24,25,26],[8,27,28,29,30,31,32,33,34],[35],[6,21,22,23,36,37,38,39,40,41],[42],[3,13,14,15,43]]) ?s ?h;case h=>exact YA.rr
 exact fun s _=>s
def s161:SFn:=by
 refine(?f:YA.Yt Tryz.prog cf 161 [[0,2,3],[6],[],[10,11,12],[5,13,14],[1,7,8,9,15],[2,3,15,16],[1,7,8,9,17,18,19,20]]) ?s ?h;case h=>exact YA.rr
 exact fun s _=>s
def s163:SFn:=by
 refine(?f:YA.Yt Tryz.prog cf 163 [[0,4],[2,7],[],[11,12,13,14],[6,5,15,16,17,18,19,20,21],[1,8,9,10,22],[4,22,23],[1,8,9,10]]) ?s ?h;case h=>exact YA.rr
 exact fun s _=>s
def s164:SFn:=by
 refine(?f:YA.Yt Tryz.prog cf 164 [[0,6,7],[13,14],[15],[],[19,20,21,22],[10,23,24,25,26],[27,29,30,31,32,33,34,35,36,37,38,39,40,28,41,42],[12,43],[1,2,3,8,16,17,18,9,11,44],[6,7,9,11,44,45,46,47,48],[49],[1,2,3,8,16,17,18,50]]) ?s ?h;case h=>exact YA.rr
 exact fun s _=>s
def s204:SFn:=by
 refine(?f:YA.Yt Tryz.prog cf 204 [[2],[],[0],[],[9,10,11],[5,12,13,14,15],[16],[3,6,7,8,17]]) ?s ?h;case h=>exact YA.rr
 exact fun s _=>s
def s206:SFn:=by
 refine(?f:YA.Yt Tryz.prog cf 206 [[4],[0,1,8,9,10,7,11,12,5],[6,13]]) ?s ?h;case h=>exact YA.rr
 exact fun s _=>s
end
end Go.AM.TP
namespace Go.AM
section
variable{m:Nat}{π:Nat->Option Src}{h:Heap}
theorem Rn.frzM{b g}{es}{ks vs}(l:h.get b=some (.map g es))(hm:m<=b)(n:∀i r,m<=i->π i≠some (.blk b r))(hk:RnL m π h ks (es.map (·.1)))(p:RnL m π h vs (es.map (·.2))):Rn m π h (.fmap ks vs) (.map b g):=fun _ c w v H M d=>by simp only[VRel]at d;obtain⟨q,hp,rfl⟩:=d;obtain⟨ms,clock,hO,s,f,o⟩:=H.atMap l hp;have a:=M.out H ⟨_,l,rfl,fun k=>by simp⟩ hp hm n;obtain⟨g1,g2,g3⟩:=QjA f;have t:=QbY f;simp only[VRel];exact⟨q,ms,clock,rfl,.inr ⟨hO,a⟩,s,by simp_all,g1,hk.rels H M g2,p.rels H M g3⟩
end
end Go.AM
set_option linter.unusedSectionVars false
namespace Go.AM
variable{P:Program}{α:Type}[DecidableEq α]
variable{v:AV}{ks:List LK}{l:List α}{x:α}{c f:α->AV}
def mapG(c:α->AV)(f:α->AV)(l:List α):List (AV×AV):=l.map fun x=>(c x,f x)
def updG(f:α->AV)(x:α)(v:AV):α->AV:=fun y=>if y=x then v else f y
def KeyG(row:Bool)(ks:List LK)(c:α->AV)(x:α)(l:List α):Prop:=keyOK row ks (c x)=true/\∀y∈l,keyEq row ks (c x) (c y)=some (decide (x=y))
theorem QgW{row}:∀(l:List α)(i:Nat),KeyG row ks c x l->x∈l->aFind row ks (c x) (mapG c f l) i=some (some (i+l.findIdx (·==x),f x))
 |y::l,i,hk,d=>by
  show(match keyEq row ks (c x) (c y)with|some true=>_|some false=>_|none=>_)=_;rw[hk.2 y (by simp),List.findIdx_cons];by_cases e:x=y;·subst e;simp
  have a:(y==x)=false:=by grind
  rw[decide_eq_false e,a];show aFind row ks (c x) (mapG c f l) (i+1)=_;rw[QgW l (i+1) ⟨hk.1,fun y b=>hk.2 y (by simp[b])⟩ ((Zax.1 d).resolve_left e)];grind
theorem Qee{row}:∀(l:List α)(i:Nat),KeyG row ks c x l->x∉l->aFind row ks (c x) (mapG c f l) i=some none|[],_,_,_=>rfl|y::l,i,hk,a=>by simp only[Zax,not_or]at a;show(match keyEq row ks (c x) (c y)with|some true=>_|some false=>_|none=>_)=_;rw[hk.2 y (by simp),decide_eq_false a.1];exact Qee l (i+1) ⟨hk.1,fun y b=>hk.2 y (by simp[b])⟩ a.2
theorem Qtc(a:x∉l):mapG c f l++[(c x,v)]=mapG c (updG f x v) (l++[x]):=by grind[mapG,updG,Zba]
theorem Qjn{g:α->AV}(h:∀x∈l,f x=g x):mapG c f l=mapG c g l:=Zba fun x a=>by rw[h x a]
abbrev fmapG(c f:α->AV)(l:List α):AV:=.fmap (l.map c) (l.map f)
theorem Qnn(l:List α):(l.map c).zip (l.map f)=mapG c f l:=by induction l with|nil=>rfl|cons x l a=>simp only[ZaL,List.zip_cons_cons,a];rfl
section
variable{N:NM}{d:Option Nat}{r:List SOper}{dead:List Nat}{fs:List Fr}{n:Nat}{T:Tmps}{h:Heap}{Q:QC}{row:Bool}{ks:List LK}{c f:α->AV}{x:α}{l:List α}{b g:Nat}{z v:AV}{ok:Bool}
theorem QhR(i:h.get b=some (.map g (mapG c f l)))(a:KeyG row ks c x l)(k:x∈l)(hk:wR P N r dead fs (n+1) (putD T d (if ok then .tup [f x,.bool true]else f x)) h Q):wM P N (aLookup row ks z ok (.map b g) (c x)) d r dead fs n T h Q:=by
 refine⟨_,h,?_,hk⟩;have m:Nat.beq g g=true:=by simp
 unfold aLookup;rw[if_pos a.1];simp_all[HM.entries,HM.run,QgW]
theorem Qdo(i:h.get b=some (.map g (mapG c f l)))(a:KeyG row ks c x l)(k:x∉l)(hk:wR P N r dead fs (n+1) (putD T d (if ok then .tup [z,.bool false]else z)) h Q):wM P N (aLookup row ks z ok (.map b g) (c x)) d r dead fs n T h Q:=by
 refine⟨_,h,?_,hk⟩;have m:Nat.beq g g=true:=by simp
 unfold aLookup;rw[if_pos a.1];simp_all[HM.entries,HM.run,Qee]
theorem QeS(a:KeyG row ks c x l)(b:x∈l)(hk:wR P N r dead fs (n+1) (putD T d (if ok then .tup [f x,.bool true]else f x)) h Q):wM P N (aLookup row ks z ok (fmapG c f l) (c x)) d r dead fs n T h Q:=by refine⟨_,h,?_,hk⟩;unfold aLookup;rw[if_pos a.1];simp only[fmapG];rw[Qnn,QgW l 0 a b];rfl
theorem Qga(a:KeyG row ks c x l)(b:x∉l)(hk:wR P N r dead fs (n+1) (putD T d (if ok then .tup [z,.bool false]else z)) h Q):wM P N (aLookup row ks z ok (fmapG c f l) (c x)) d r dead fs n T h Q:=by refine⟨_,h,?_,hk⟩;unfold aLookup;rw[if_pos a.1];simp only[fmapG];rw[Qnn,Qee l 0 a b];rfl
theorem Qck(m:h.get b=some (.map g (mapG c f l)))(i:KeyG row ks c x l)(k:x∉l)(o:b<1099511627775)(hk:wR P N r dead fs (n+1) (putD T d .any) (h.set b (.map g (mapG c (updG f x v) (l++[x])))) Q):wM P N (aMapUpd row ks (.map b g) (c x) v) d r dead fs n T h Q:=by
 refine⟨_,_,?_,hk⟩;have p:Nat.beq g g=true:=by simp
 have a:Nat.blt b lim=true:=by simp[Nat.blt];exact o
 unfold aMapUpd;rw[if_pos i.1];simp only[HM.entries,HM.run,m,p,cond_true,Qee l 0 i k,a,Qtc k]
end
theorem RnM.mapG{m:Nat}{π:Nat->Option Src}{h:Heap}{c f:α->AV}:∀{l:List α},(∀x∈l,noRef (c x)=true/\noRef (f x)=true)->RnM m π h (mapG c f l) (mapG c f l)|[],_=>trivial|x::l,hf=>⟨⟨Zck (hf x (by simp)).1,Zck (hf x (by simp)).2⟩,RnM.mapG (l:=l) fun y a=>hf y (by simp[a])⟩
abbrev kP(x:Nat×Nat):AV:=.agg [.int .i64 (x.1:Int),.int .i64 (x.2:Int)]
theorem Qft{x}{l}:KeyG true [.i,.i] kP x l:=by
 have key:∀y:Nat×Nat,keyEq true [.i,.i] (kP x) (kP y)=some (decide (x=y)):=by intro y;obtain⟨a,b⟩:=x;obtain⟨c,d⟩:=y;simp only[keyEq,eqCells,eqCell,Zal];by_cases f:a=c<;>by_cases g:b=d<;>simp[f,g]<;>omega
 refine⟨?_,fun y _=>key y⟩;simp_all[keyOK]
end Go.AM
namespace Go.AM
theorem Rn.fzM{α}{m:Nat}{h}{n}{b g}{c f:α->AV}{l}(a:h.get b=some (.map g (mapG c f l)))(o:srcNew (.blk b g) n=true)(hm:Nat.ble m b=true)(hk:∀x∈l,noRef (c x)=true/\noRef (f x)=true):Rn m (ow m n) h (fmapG c f l) (.map b g):=by
 refine Rn.frzM a (by simpa using hm) (fun p q i e=>?_) ?_ ?_;·rw[ow_ge i]at e;exact QjH o p _ e rfl
 ·have e:(mapG c f l).map (·.1)=l.map c:=by simp[mapG]
  rw[e];clear a e;induction l with|nil=>trivial|cons x l k=>exact⟨Zck (hk x (by simp)).1,k fun y d=>hk y (by simp[d])⟩
 have e:(mapG c f l).map (·.2)=l.map f:=by simp[mapG]
 rw[e];clear a e;induction l with|nil=>trivial|cons x l k=>exact⟨Zck (hk x (by simp)).2,k fun y d=>hk y (by simp[d])⟩
end Go.AM
theorem _root_.Go.AM.ZcP:type_of%@Go.AM.RnM.mapG:=@Go.AM.RnM.mapG
namespace Go.AM.SO
open Go.Proofs Go.AM.SD Go.AM.SE
variable{x:Aut}{T:List (List Nat)}{s:List (List Nat)×List Ed}{y:List AV}{l:List Aut}{es:List Ed}{n t:List Nat}{i k v:Nat}{α:Type}{f:α->AV}
def stp(l:List Aut)(t:List Nat)(e:Nat):Nat->Option (List Nat)|0=>some t|k+1=>match stp l t e k with|none=>none|some n=>match l[k]? with|none=>some n|some a=>if e∈a.al then(match stepA a.es (t.getD k 0) e with|some to=>some (n.set k to)|none=>none)else some n
def stepT(l:List Aut)(t:List Nat)(e:Nat):Option (List Nat):=stp l t e l.length
def Stp(l:List Aut)(t:List Nat)(e:Nat)(n:List Nat)(k:Nat):Prop:=n.length=t.length/\(∀i,k<=i->n[i]?=t[i]?)/\∀i a,i<k->l[i]?=some a->if e∈a.al then stepA a.es (t.getD i 0) e=n[i]? else n[i]?=t[i]?
theorem Qf1{l}{t n}{e}:∀{k:Nat},k<=l.length->l.length<=t.length->(stp l t e k=some n↔Stp l t e n k)
 |0,_,_=>by
  unfold stp Stp;constructor;·simp_all
  rintro⟨_,h,_⟩;have:t=n:=Zbx fun i=>(h i (Zai _)).symm;rw[this]|k+1,hk,p=>by
  obtain⟨a,s⟩:=Qak (l:=l) (i:=k) (by omega);have u:k<t.length:=by omega
  unfold stp;rw[s];constructor;·intro h;cases hm:stp l t e k with|none=>rw[hm]at h;cases h|some m=>
   rw[hm]at h;dsimp only at h;obtain⟨h1,r,d⟩:=(Qf1 (n:=m) (by omega) p).1 hm;by_cases he:e∈a.al;·rw[if_pos he]at h;cases q:stepA a.es (t.getD k 0) e with|none=>rw[q]at h;cases h|some to=>
    rw[q]at h;cases h;refine⟨by simp_all,fun i hi=>by grind,fun i b hi c=>?_⟩;by_cases g:i=k;·simp_all
    rw[List.getElem?_set_ne (by omega)];exact d i b (by omega) c
   rw[if_neg he]at h;cases h;refine⟨h1,fun i hi=>r i (by omega),fun i b hi c=>?_⟩;by_cases g:i=k;·grind
   exact d i b (by omega) c
  rintro⟨h1,r,d⟩;have f:=d k a (Nat.lt_succ_self _) s;by_cases he:e∈a.al
  ·rw[if_pos he]at f;have o:Stp l t e (n.set k (t.getD k 0)) k:=by
    refine⟨by simp_all,fun i hi=>?_,fun i b hi c=>?_⟩;·grind
    rw[List.getElem?_set_ne (by omega)];exact d i b (by omega) c
   rw[(Qf1 (n:=n.set k (t.getD k 0)) (by omega) p).2 o];simp_all
  rw[if_neg he]at f;have o:Stp l t e n k:=⟨h1,fun i hi=>by grind,fun i b hi c=>d i b (by omega) c⟩;rw[(Qf1 (n:=n) (by omega) p).2 o];simp_all
theorem Qf2{e}(a:l.length<=t.length):stepT l t e=some n↔Stp l t e n l.length:=Qf1 (Zau _) a
def pEv(l:List Aut)(i:Nat)(t:List Nat)(s:List (List Nat)×List Ed)(e:Nat):List (List Nat)×List Ed:=match stepT l t e with|none=>s|some n=>(if n∈s.1 then s.1 else s.1++[n],s.2++[(i,e,s.1.findIdx (·==n))])
def pRow(l:List Aut)(ev:List Nat)(i:Nat)(t:List Nat)(s:List (List Nat)×List Ed):List (List Nat)×List Ed:=ev.foldl (pEv l i t) s
def pQ(l:List Aut)(ev:List Nat):Nat->Nat->List (List Nat)×List Ed->List (List Nat)×List Ed|0,_,s=>s|k+1,i,s=>match s.1[i]? with|some t=>pQ l ev k (i+1) (pRow l ev i t s)|none=>s
def orE(a b:Bool):Bool:=a||b
def evA(l:List Aut):List Nat:=l.foldl (fun out a=>mrg orE out a.al) []
def mkdT:List Aut->List Nat->Bool|[],_=>true|a::l,t=>a.ms.contains (t.headD 0)&&mkdT l t.tail
def box:List Aut->Nat|[]=>1|a::l=>a.n*box l
def sync0(l:List Aut):List (List Nat)×List Ed:=pQ l (evA l) (box l+1) 0 ([List.replicate l.length 0],[])
def syncA(l:List Aut):Aut:=⟨evA l,(sync0 l).1.length,(List.range (sync0 l).1.length).filter fun i=>mkdT l ((sync0 l).1.getD i []),(sync0 l).2⟩
def InT(l:List Aut)(t:List Nat):Prop:=t.length=l.length/\∀i a,l[i]?=some a->t.getD i 0<a.n
def allT:List Aut->List (List Nat)|[]=>[[]]|a::l=>(List.range a.n).flatMap fun x=>(allT l).map (x::·)
theorem Qno:∀{l:List Aut}{t:List Nat},InT l t->t∈allT l|[],t,⟨h,_⟩=>by simp_all[allT]|a::l,[],⟨h,_⟩=>by simp at h|a::l,x::t,⟨h,c⟩=>by unfold allT;refine Zbt.2 ⟨x,Zat.2 (by simpa using c 0 a rfl),Zap.2 ⟨t,Qno ⟨by simpa using h,fun i b d=>?_⟩,rfl⟩⟩;simpa using c (i+1) b (by simpa using d)
theorem Qnp:∀(l:List Aut),(allT l).length=box l|[]=>rfl|a::l=>by unfold allT box;rw[List.length_flatMap];simp only[Zav,Qnp l];simp_all[List.map_const']
theorem Qlr{α:Type}[DecidableEq α]:∀{l m:List α},l.Nodup->(∀x∈l,x∈m)->l.length<=m.length|[],m,_,_=>Zai _|x::l,m,h,hm=>by rw[Zcb]at h;have h1:=hm x (by simp);have b:=Qlr (l:=l) (m:=m.erase x) h.2 fun y a=>(List.mem_erase_of_ne (fun(e:y=x)=>h.1 (e▸a))).2 (hm y (by simp[a]));grind
theorem Qdp(b:T.Nodup)(hi:∀t∈T,InT l t):T.length<=box l:=by rw[<-Qnp];exact Qlr b fun t a=>Qno (hi t a)
theorem QrQ(h:∀a∈l,a.n<=k)(hk:1<=k):box l<=k^l.length:=by induction l with|nil=>simp[box]|cons a l d=>unfold box;rw[ZaC,Nat.pow_succ,Nat.mul_comm];exact Nat.mul_le_mul (d fun b c=>h b (by simp[c])) (h a (by simp))
theorem Qf3(hw:∀a∈l,∀e∈a.es,e.1<a.n/\e.2.2<a.n){e}(c:InT l t)(h:stepT l t e=some n):InT l n:=by
 obtain⟨h1,k,g⟩:=(Qf2 (Nat.le_of_eq c.1.symm)).1 h;refine⟨by rw[h1,c.1],fun i a d=>?_⟩;have hi:i<l.length:=by grind
 have b:=g i a hi d;by_cases he:e∈a.al;·rw[if_pos he]at b;obtain⟨x,f⟩:=Qak (l:=n) (i:=i) (by rw[h1,c.1];exact hi);rw[f]at b;rw[Zah,f];exact QfH (hw a (Zac d)) b
 rw[if_neg he]at b;rw[Zah,b,<-Zah];exact c.2 i a d
structure PI(l:List Aut)(s:List (List Nat)×List Ed):Prop where
 nd:s.1.Nodup
 inT:∀t∈s.1,InT l t
theorem QvL(hw:∀a∈l,∀e∈a.es,e.1<a.n/\e.2.2<a.n){e}(c:InT l t)(h:PI l s):PI l (pEv l i t s e):=by unfold pEv;cases d:stepT l t e with|none=>exact h|some n=>
 have f:=Qf3 hw c d;dsimp only;by_cases hm:n∈s.1;·simp only[if_pos hm];exact⟨h.nd,h.inT⟩
 simp only[if_neg hm];refine⟨List.nodup_append.2 ⟨h.nd,by simp,fun x b y g=>by grind⟩,fun x b=>?_⟩;rcases ZaE.1 b with b|b;·exact h.inT x b
 simp_all
theorem Qeo(hw:∀a∈l,∀e∈a.es,e.1<a.n/\e.2.2<a.n)(b:InT l t):∀{ev:List Nat}{s:List (List Nat)×List Ed},PI l s->PI l (pRow l ev i t s)|[],s,h=>h|e::ev,s,h=>Qeo hw b (ev:=ev) (QvL hw b h)
theorem Quj{e}:s.1<+:(pEv l i t s e).1:=by grind[pEv]
theorem QcL{l}{i}{t}:∀{ev:List Nat}{s:List (List Nat)×List Ed},s.1<+:(pRow l ev i t s).1|[],s=>List.prefix_refl _|e::ev,s=>List.IsPrefix.trans Quj (QcL (ev:=ev))
theorem pQ_ok{ev}(hw:∀a∈l,∀e∈a.es,e.1<a.n/\e.2.2<a.n):∀{k i:Nat}{s:List (List Nat)×List Ed},PI l s->PI l (pQ l ev k i s)|0,_,_,h=>h|k+1,i,s,h=>by unfold pQ;cases b:s.1[i]? with|none=>exact h|some t=>exact pQ_ok hw (Qeo hw (h.inT t (Zac b)) h)
theorem Qjo{ev}:∀{k i:Nat}{s:List (List Nat)×List Ed},s.1<+:(pQ l ev k i s).1|0,_,_=>List.prefix_refl _|k+1,i,s=>by unfold pQ;cases a:s.1[i]? with|none=>exact List.prefix_refl _|some t=>exact List.IsPrefix.trans QcL Qjo
theorem Qf4(d:∀a∈l,0<a.n):PI l ([List.replicate l.length 0],[]):=by refine⟨by simp,fun t b=>?_⟩;simp at b;subst b;refine⟨by simp,fun i a c=>?_⟩;grind
theorem QdO(b:∀a∈l,0<a.n)(hw:∀a∈l,∀e∈a.es,e.1<a.n/\e.2.2<a.n):PI l (sync0 l):=pQ_ok hw (Qf4 b)
theorem Qnq(b:∀a∈l,0<a.n)(hw:∀a∈l,∀e∈a.es,e.1<a.n/\e.2.2<a.n):(sync0 l).1.length<=box l:=Qdp (QdO b hw).nd (QdO b hw).inT
def auC(a:Aut):List AV:=[sliN a.al,.int .i64 (a.n:Int),sliN a.ms,egsN a.es]
abbrev auts(l:List Aut):AV:=.fsl (l.flatMap auC) l.length 4
theorem QaY(l:List Aut):noRefs (l.flatMap auC)=true:=Qa5 (fun x=>by simp only[auC,noRefs,noRef,Qaa,Qag];rfl) l
theorem Qbp(l):noRef (auts l)=true:=by simp only[noRef];exact QaY l
theorem QgX(l:List Aut):(l.flatMap auC).length=l.length*4:=Qbe (k:=4) (fun _=>rfl) l
theorem Qep(h:l[i]?=some x):(l.flatMap auC).drop (i*4)=sliN x.al::.int .i64 (x.n:Int)::sliN x.ms::egsN x.es::(l.drop (i+1)).flatMap auC:=Qba (f:=auC) (k:=4) (fun _=>rfl) h
theorem check95(l)(h:∀a∈l,WfJ a)(m:l.length<=12):Ps 159 [auts l] (.int .i64 0):=by
 refine Zcn 64 (Ok TP.s159) rfl (by rw[noRefs,Qbp];rfl) rfl ?_;have g1:¬(12:Int)<(l.length:Int):=by omega
 have c:=Qbp l;unfold TP.s159;refine Zc1 g1 ?_;refine Qar 100 (fun i:Nat=>[(9,auts l),(10,.int .i64 l.length),(11,.int .i64 i)]) (fun _=>[]) (fun i=>i<=l.length) (fun i=>l.length-i) 0 0 140 (fun _:Unit=>[]) (fun _=>[]) (fun _=>True) ?_ (Zai _) ?_ ?_;·exact⟨[],rfl,Zcs,Zcv,Zcu (Zck c) au24⟩
 ·rintro i hi;by_cases b:i<l.length
  ·obtain⟨x,k⟩:=Qak b;have d:=h x (Zac k);have f:=Qep k;have g:4<=((l.flatMap auC).drop (i*4)).length:=by rw[f];simp
   have hc:=check112 x d.wf (by have:=WfA.el1 d.wf;omega);refine Zc1 (Zc3 b f g) ?_;refine cp hc ?_;refine Zc0 ?_;exact⟨i+1,by omega,by omega,[],rfl,Zcs,Zcv,Zcu (Zck c) au24⟩
  refine Zc1 b ?_;exact⟨(),⟨[],rfl,au0,au23,au24⟩⟩
 rintro _ _;refine Zc0 ?_;exact⟨.inr trivial,_,rfl,rfl⟩
theorem Qtd(h:l[i]?=some x):evA (l.take (i+1))=mrg (fun a b=>a||b) (evA (l.take i)) x.al:=by unfold evA;rw[take_succ' h,Za8];rfl
theorem Qfu(l):evA l=uUp (l.map fun a=>(0,a)):=by unfold evA uUp;rw[List.foldl_map];rfl
theorem Qjp(h:∀a∈l,WfI a):(evA l).Pairwise (·<·):=by rw[Qfu];refine QfY fun x c=>?_;obtain⟨a,b,rfl⟩:=Zap.1 c;exact h a b
theorem Quk(h:∀a∈l,WfI a):(evA l).length<=5:=by rw[Qfu];refine Qj1 fun x c=>?_;obtain⟨a,b,rfl⟩:=Zap.1 c;exact h a b
theorem Qpc(h:∀a∈l,WfJ a):(evA l).Pairwise (·<·)/\∀e,e∈evA l↔∃a∈l,e∈a.al:=by
 have:=Qg7 (l:=l.map fun a=>(0,a)) (out:=[]) (by simp) (fun x c=>by obtain⟨a,b,rfl⟩:=Zap.1 c;exact(h a b).wf.al);rw[Qfu];refine⟨this.1,fun e=>(this.2 e).trans ?_⟩;constructor
 ·rintro(h|⟨y,d,he⟩);·cases h
  obtain⟨a,b,rfl⟩:=Zap.1 d;exact⟨a,b,he⟩
 rintro⟨a,b,c⟩;exact .inr ⟨_,Zap.2 ⟨a,b,rfl⟩,c⟩
theorem Qpd(h:∀a∈l,WfJ a):(evA l).length<=32:=by refine Qa4 32 _ (by rw[ZaO];exact(Qpc h).1.imp fun h=>by omega) fun x c=>?_;obtain⟨a,b,he⟩:=((Qpc h).2 x).1 c;exact(h a b).wf.al5 x he
theorem events187(l)(h:∀a∈l,WfJ a)(p:l.length<=12):Ps 204 [auts l] (sliN (evA l)):=by
 refine Zcm 64 (Ok TP.s204) rfl (by rw[noRefs,Qbp];rfl) (Qab _) ?_;have d:=Qbp l;unfold TP.s204;refine Zc0 ?_;refine Qar 100 (fun i:Nat=>[(3,sliN (evA (l.take i))),(6,auts l),(7,.int .i64 l.length),(8,.int .i64 i)]) (fun _=>[]) (fun i=>i<=l.length) (fun i=>l.length-i) 0 0 140 (fun _:Unit=>[(3,sliN (evA l))]) (fun _=>[]) (fun _=>True) ?_ (Zai _) ?_ ?_;·exact⟨[],rfl,Zcs,Zcv,Zcu Rn.nilK (Zcu (Zck d) au24)⟩
 ·rintro i hi;by_cases c:i<l.length
  ·obtain⟨x,g⟩:=Qak c;have k:=h x (Zac g);have f:=Qep g;have m:4<=((l.flatMap auC).drop (i*4)).length:=by rw[f];simp
   have b:(evA (l.take i)).length<=1000000:=by have:=Qpd (l:=l.take i) fun y o=>h y (ZaV o);omega
   have n:=union84 (evA (l.take i)) x.al b (by have:=QgR k.wf;omega);rw[<-Qtd g]at n;refine Zc1 (Zc3 c f m) ?_;refine cp n ?_;refine Zc0 ?_;exact⟨i+1,by omega,by omega,[],rfl,Zcs,Zcv,Zcu (Zck (Qab _)) (Zcu (Zck d) au24)⟩
  have e:i=l.length:=by omega
  subst e;refine ZcX c ?_;exact⟨(),⟨[],rfl,au0,au23,au24⟩⟩
 rintro _ _;refine Zc0 ?_;exact⟨.inr trivial,_,rfl,Zck (Qab _)⟩
theorem has189(l)(t:Nat)(b:l.Pairwise (·<·))(a:l.length<=1000000):Ps 206 [sliN l,.int .i64 (t:Int)] (.bool (l.contains t)):=by refine Zcn 64 (Ok TP.s206) rfl (by(try simp only[noRefs,Qaa,noRef,noRefs,Zae,Zad])<;>rfl) rfl ?_;have h:=find57 l t (b.imp fun h=>Nat.le_of_lt h) a;unfold TP.s206;refine Zc0 ?_;refine cp h ?_;refine Zc0 ?_;exact⟨.inr trivial,_,rfl,rfl⟩
theorem _root_.Go.AM.ZcT{p q A:Prop}(a:A)(k:q)(h:A->p=q:=by intro a;conv=>lhs;simp(disch:=first|omega|exact PairsOK.mk rfl|(simp only[lenW]<;>omega))only[a,Zan,Qac,Qad,Qae,wW,wV,simprocAttr]):p:=h a▸k
theorem _root_.Go.AM.ZcY{p q:Prop}(k:q)(h:p=q:=by conv=>lhs;simp(disch:=first|omega|exact PairsOK.mk rfl|(simp only[lenW]<;>omega))only[Qac,Qad,Qae,wW,wV,simprocAttr]):p:=h▸k
theorem _root_.Go.AM.ZcZ{p q A:Prop}(a:A)(k:q)(h:A->p=q:=by intro a;conv=>lhs;simp(disch:=first|omega|exact PairsOK.mk rfl|(simp only[lenW]<;>omega))only[a,Qac,Qad,Qae,wW,wV,simprocAttr]):p:=h a▸k
theorem Qax(h:∀x,noRef (f x)=true)(l:List α):noRefs (l.map f)=true:=by induction l with|nil=>rfl|cons x l a=>simp only[ZaL,noRefs,h,a];rfl
def pE(e:Ed):Nat×Nat:=(e.1,e.2.1)
def vE(es:List Ed)(p:Nat×Nat):AV:=.int .i64 (((stepA es p.1 p.2).getD 0:Nat):Int)
abbrev emV(a:Aut):AV:=fmapG kP (vE a.es) (a.es.map pE)
theorem QbE(a):noRef (emV a)=true:=by rw[emV,fmapG,noRef,Qax (fun _=>rfl),Qax (fun _=>rfl)];rfl
theorem Qac{x}:(AV.fmap x y).cells=[.fmap x y]:=rfl
theorem Qad{x}:(AV.fmap x y).one=true:=rfl
theorem Qae{x}:(AV.fmap x y).boxable=true:=rfl
abbrev macV(l:List Aut):AV:=.agg [auts l,sliN (evA l),.fsl (l.map emV) l.length 1]
theorem Qdb(l):noRef (macV l)=true:=by rw[macV,noRef,noRefs,noRefs,noRefs,Qbp,Qab,noRef,Qax QbE];rfl
theorem Qf5{e}{s}:stepA (e::es) s v=if e.1=s/\e.2.1=v then some e.2.2 else stepA es s v:=by unfold stepA;rw[List.find?_cons];by_cases h1:e.1=s<;>by_cases a:e.2.1=v<;>simp[h1,a,beq_eq_false_iff_ne.2]
theorem Qiq:∀{es:List Ed},es.Pairwise (fun x y=>x.1<y.1\/(x.1=y.1/\x.2.1<y.2.1))->∀{e:Ed},e∈es->stepA es e.1 e.2.1=some e.2.2
 |x::es,h,e,he=>by
  rw[ZaB]at h;rw[Qf5];rcases Zax.1 he with rfl|he;·rw[if_pos ⟨rfl,rfl⟩]
  have :=h.1 e he;rw[if_neg (by omega)];exact Qiq h.2 he
theorem Qjq:∀{es:List Ed}{s v:Nat},(s,v)∉es.map pE->stepA es s v=none|[],s,v,_=>rfl|x::es,s,v,h=>by rw[ZaL,Zax,not_or]at h;rw[Qf5,if_neg fun a=>h.1 (by unfold pE;rw[a.1,a.2])];exact Qjq h.2
theorem Qc9{s t}(h:stepA es s v=some t):(s,v)∈es.map pE:=by refine Decidable.byContradiction fun a=>?_;rw[Qjq a]at h;cases h
theorem Qnr(h:es.Pairwise (fun x y=>x.1<y.1\/(x.1=y.1/\x.2.1<y.2.1))){j:Nat}{e:Ed}(he:es[j]?=some e):(e.1,e.2.1)∉(es.take j).map pE:=by
 intro hm;obtain⟨y,d,b⟩:=Zap.1 hm;obtain⟨k,hk⟩:=List.mem_iff_getElem?.1 d;have a:k<j:=by
  rcases ZbG k j with h|h;·exact h
  rw[ZaF (by rw[Zaq];omega)]at hk;cases hk
 rw[List.getElem?_take_of_lt a]at hk;obtain⟨c,g⟩:=Zaj.1 hk;obtain⟨i,f⟩:=Zaj.1 he;have:=Zbf.1 h k j c i a;rw[g,f]at this;unfold pE at b;simp only[Zal]at b;omega
theorem QrR(h:es.Pairwise (fun x y=>x.1<y.1\/(x.1=y.1/\x.2.1<y.2.1))){e:Ed}(he:e∈es):updG (vE es) (e.1,e.2.1) (.int .i64 (e.2.2:Int))=vE es:=by
 funext p;unfold updG;split;·rename_i hp;subst hp;unfold vE;rw[Qiq h he];rfl
 rfl
theorem _root_.Go.AM.au32{p:Prop}(h:p:=by repeat(first|exact Zct|(refine Zcu ?_ ?_;·(first|exact Zcj|exact Rn.x1 rfl rfl|exact Rn.x2 rfl rfl|exact Rn.x3 rfl rfl|exact Rn.x4 rfl rfl|exact Rn.x5 rfl|exact Rn.x6 rfl|exact Rn.x7 rfl|(refine ZcF ?_ ?_;(first|rfl|(rw[ZaG];rfl));(first|rfl|(simp only[noRef,noRefs,SD.Qaa,SD.Qab,SD.Qaf,SD.Qag,SD.Qah,SD.Qai,SD.Qaj,SD.Qal,SD.Qan,SD.Qaq,SE.QaR,SE.Qam,SE.Qao,SE.Qap,SE.Qav,SE.Qaz,SO.Qa9,SO.QaB,SO.QaD,SO.QaO,SO.QaY,SO.Qau,SO.Qay,SO.QbE,SO.Qdn,SU.Qa8,SU.QaX,SU.QbO,SU.Qbb,SU.Qby,Zad,Zae,Zag];done)))|(refine Rn.fn ?_ ?_<;>(repeat'(first|exact ZcB|refine ZcC ?_ ?_|exact Zck rfl|exact Rn.x6 rfl|exact Rn.x2 rfl rfl|exact Rn.x5 rfl|exact Rn.x1 rfl rfl))))))):p:=h
theorem open96(l)(h:∀a∈l,WfJ a)(v:l.length<=12):Ps 160 [auts l] (macV l):=by
 refine Zcm 64 (Ok TP.s160) rfl (by rw[noRefs,Qbp];rfl) (Qdb l) ?_;have p:=events187 l h v;have b:=Qbp l;have hlen:(l.map emV).length=l.length:=Zav ..;unfold TP.s160;refine ZcY ?_;refine cp p ?_;refine ZcY ?_;refine Qar 120 (fun i:Nat=>[(2,.ptr 51 0 0),(3,.ptr 52 0 0),(13,auts l),(14,.int .i64 l.length),(15,.int .i64 i)]) (fun i=>[(51,.cells 0 [.nilsl,.nilsl,.nilsl]),(52,.cells 0 [auts l,sliN (evA l),.sl 76 0 0 i 1]),(76,.cells 0 ((l.take i).map emV))]) (fun i=>i<=l.length) (fun i=>l.length-i) 0 0 300 (fun _:Unit=>[(2,.ptr 51 0 0),(3,.ptr 52 0 0)]) (fun _=>[(51,.cells 0 [.nilsl,.nilsl,.nilsl]),(52,.cells 0 [auts l,sliN (evA l),.fsl (l.map emV) l.length 1])]) (fun _=>True) ⟨[(51,.blk 64 0),(52,.blk 69 0),(76,.nil)],rfl,au0,?_,au32⟩ (Zai _) ?_ ?_;·exact Zcw rfl rfl gg (Zcl rfl) (Zcw rfl rfl gg (ZcC (Zck b) (ZcC (Zck (Qab _)) (ZcC (Rn.x4 rfl rfl) ZcB))) (Zcx rfl rfl Zcv))
 ·rintro i hi;by_cases f:i<l.length
  ·obtain⟨x,t⟩:=Qak f;have c:=h x (Zac t);have k:=Qep t;have q:4<=((l.flatMap auC).drop (i*4)).length:=by rw[k];simp
   have m:=take_succ' t;have s:(l.take i).length=i:=by rw[Zaq];omega
   have r:((l.take i).map emV).length=i:=by rw[Zav,s]
   have y:=WfA.el1 c.wf;refine ZcZ (Zc3 f k q) ?_;refine Qar 220 (fun j:Nat=>[(2,.ptr 51 0 0),(3,.ptr 52 0 0),(13,auts l),(14,.int .i64 l.length),(15,.int .i64 i),(6,.map 77 0),(21,egsN x.es),(22,.int .i64 x.es.length),(23,.int .i64 j)]) (fun j=>[(51,.cells 0 [.nilsl,.nilsl,.nilsl]),(52,.cells 0 [auts l,sliN (evA l),.sl 76 0 0 i 1]),(76,.cells 0 ((l.take i).map emV)),(77,.map 0 (mapG kP (vE x.es) ((x.es.take j).map pE)))]) (fun j=>j<=x.es.length) (fun j=>x.es.length-j) 0 2 280 (fun _:Unit=>[(2,.ptr 51 0 0),(3,.ptr 52 0 0),(13,auts l),(14,.int .i64 l.length),(15,.int .i64 i),(6,emV x)]) (fun _=>[(51,.cells 0 [.nilsl,.nilsl,.nilsl]),(52,.cells 0 [auts l,sliN (evA l),.sl 76 0 0 i 1]),(76,.cells 0 ((l.take i).map emV))]) (fun _=>True) ⟨[(51,.blk 51 0),(52,.blk 52 0),(76,.blk 76 0),(77,.blk 125 0)],rfl,au0,?_,au32⟩ (Zai _) ?_ ?_;·exact Zcw rfl rfl gg (Zcl rfl) (Zcw rfl rfl gg (ZcC (Zck b) (ZcC (Zck (Qab _)) (ZcC (Rn.x1 rfl rfl) ZcB))) (Zcw rfl rfl gg (Zcl (Qax QbE _)) (Zcy rfl rfl gg (ZcP fun _ _=>⟨rfl,rfl⟩) Zcv)))
   ·rintro j z;by_cases d:j<x.es.length
    ·obtain⟨e,he⟩:=Qak d;have g:=QaT he;have n:3<=((x.es.flatMap edC).drop (j*3)).length:=by rw[g];simp
     have o:=Qnr c.wf.es he;have u:=QrR c.wf.es (Zac he);refine ZcZ (Zc3 d g n) ?_;refine Qck (c:=kP) (f:=vE x.es) (x:=(e.1,e.2.1)) (l:=(x.es.take j).map pE) (g:=0) gg Qft o (by omega) ?_;rw[u];refine ZcY ?_;refine⟨j+1,by omega,by omega,?_⟩;rw[take_succ' he,ZaI];refine⟨[(51,.blk 51 0),(52,.blk 52 0),(76,.blk 76 0),(77,.blk 77 0)],rfl,au0,?_,au32⟩;exact Zcw rfl rfl gg (Zcl rfl) (Zcw rfl rfl gg (ZcC (Zck b) (ZcC (Zck (Qab _)) (ZcC (Rn.x1 rfl rfl) ZcB))) (Zcw rfl rfl gg (Zcl (Qax QbE _)) (Zcy rfl rfl gg (ZcP fun _ _=>⟨rfl,rfl⟩) Zcv)))
    have e:j=x.es.length:=by omega
    subst e;refine ZcT d ?_;refine⟨(),[(51,.blk 51 0),(52,.blk 52 0),(76,.blk 76 0)],rfl,Zcs,?_,?_⟩;·exact Zcw rfl rfl gg (Zcl rfl) (Zcw rfl rfl gg (ZcC (Zck b) (ZcC (Zck (Qab _)) (ZcC (Rn.x1 rfl rfl) ZcB))) (Zcw rfl rfl gg (Zcl (Qax QbE _)) Zcv))
    exact Zcu (Rn.x2 rfl rfl) (Zcu (Rn.x2 rfl rfl) (Zcu (Zck b) (Zcu (Zck rfl) (Zcu (Zck rfl) (Zcu (Rn.fzM (b:=77) (g:=0) gg rfl rfl fun _ _=>⟨rfl,rfl⟩) Zct)))))
   rintro _ _;have w:=QbE x;refine ZcZ r ?_;refine⟨i+1,by omega,by omega,?_⟩;rw[m,ZaI];refine⟨[(51,.blk 51 0),(52,.blk 52 0),(76,.blk 76 1)],rfl,au0,?_,au32⟩;exact Zcw rfl rfl gg (Zcl rfl) (Zcw rfl rfl gg (ZcC (Zck b) (ZcC (Zck (Qab _)) (ZcC (Rn.x1 rfl rfl) ZcB))) (Zcw rfl rfl gg (Zcl (SU.Qaw (Qax QbE _) (Qax QbE [x]))) Zcv))
  have e:i=l.length:=by omega
  subst e;refine ZcT f ?_;refine⟨(),?_⟩;refine⟨[(51,.blk 51 0),(52,.blk 52 0)],rfl,au0,?_,au32⟩;exact Zcw rfl rfl gg (Zcl rfl) (Zcw rfl rfl gg (ZcC (Zck b) (ZcC (Zck (Qab _)) (ZcC (ZcD rfl rfl rfl rfl (by simp) (Zcl (Qax QbE _))) ZcB))) Zcv)
 rintro _ _;refine ZcY ?_;refine⟨.inr trivial,_,rfl,?_⟩;exact Zck (Qdb l)
theorem Qef(l):noRefs [auts l,sliN (evA l),.fsl (l.map emV) l.length 1]=true:=by have:=Qdb l;rwa[macV,noRef]at this
theorem QrS(n)(x):(List.replicate n [AV.int .i64 x]).flatten=ints (List.replicate n x):=by induction n with|zero=>rfl|succ n a=>rw[ZaY,Zbp,a];rfl
theorem QvM(n):nz (List.replicate n 0)=List.replicate n 0:=by simp[nz]
theorem initial97(l)(h:∀a∈l,WfJ a)(p:0<l.length)(q:l.length<=12):Ps 161 [macV l] (.tup [sliN (List.replicate l.length 0),.bool true]):=by
 refine Zcm 64 (Ok TP.s161) rfl (by rw[noRefs,Qdb];rfl) (by rw[noRef,noRefs,Qab];rfl) ?_;have o:=Qbp l;have b:=Qef l;have k:(l.length:Int)<=140737488355328:=by omega
 have g:(8:Int)*l.length<=140737488355328:=by omega
 unfold TP.s161;refine ZcY ?_;refine Qar 100 (fun i:Nat=>[(1,.ptr 51 0 0),(7,auts l),(8,.int .i64 l.length),(9,.int .i64 i)]) (fun _=>[(51,.cells 0 [auts l,sliN (evA l),.fsl (l.map emV) l.length 1])]) (fun i=>i<=l.length) (fun i=>l.length-i) 0 0 140 (fun _:Unit=>[(1,.ptr 51 0 0)]) (fun _=>[(51,.cells 0 [auts l,sliN (evA l),.fsl (l.map emV) l.length 1])]) (fun _=>True) ⟨[(51,.blk 64 0)],rfl,au0,?_,au32⟩ (Zai _) ?_ ?_;·exact Zcw rfl rfl gg (Zcl b) Zcv
 ·rintro i hi;by_cases c:i<l.length
  ·obtain⟨x,n⟩:=Qak c;have m:=h x (Zac n);have d:=Qep n;have f:4<=((l.flatMap auC).drop (i*4)).length:=by rw[d];simp
   have hp:¬(x.n:Int)=0:=by have:=m.pos;omega
   simp(disch:=first|omega|exact PairsOK.mk rfl|(simp only[lenW]<;>omega))only[c,d,f,hp,Qac,Qad,Qae,wW,wV,simprocAttr];refine⟨i+1,by omega,by omega,?_⟩;refine⟨[(51,.blk 51 0)],rfl,au0,?_,au32⟩;exact Zcw rfl rfl gg (Zcl b) Zcv
  refine ZcZ c ?_;refine⟨(),?_⟩;refine⟨[(51,.blk 51 0)],rfl,au0,?_,au32⟩;exact Zcw rfl rfl gg (Zcl b) Zcv
 rintro _ _;refine Zc1 (Zc6 k g @QrS @Qac @Qad @Qae) ?_;refine⟨.inr trivial,_,rfl,?_⟩;refine Rn.tup (ZcC ?_ (Zcl rfl));have e:sliN (List.replicate l.length 0)=.fsl (ints (List.replicate l.length 0)) l.length 1:=by rw[sliN,QvM,Zbe]
 rw[e];exact ZcE (b:=143) rfl (by simp[ints]) (Zcl (Qaa _))
theorem _root_.Go.AM.au33{p:Prop}(h:p:=by repeat'(first|exact Zcv|(refine Zcl ?_;first|rfl|(simp only[noRef,noRefs,SD.Qaa,SD.Qab,SD.Qaf,SD.Qag,SD.Qah,SD.Qai,SD.Qaj,SD.Qal,SD.Qan,SD.Qaq,SE.QaR,SE.Qam,SE.Qao,SE.Qap,SE.Qav,SE.Qaz,SO.Qa9,SO.QaB,SO.QaD,SO.QaO,SO.QaY,SO.Qau,SO.Qay,SO.QbE,SO.Qdn,SU.Qa8,SU.QaX,SU.QbO,SU.Qbb,SU.Qby,Zad,Zae,Zag];done))|exact ZcJ rfl|exact ZcB|exact(True.intro:RnM _ _ _ [] [])|refine ZcC ?_ ?_|(refine Zck ?_;first|rfl|(simp only[noRef,noRefs,SD.Qaa,SD.Qab,SD.Qaf,SD.Qag,SD.Qah,SD.Qai,SD.Qaj,SD.Qal,SD.Qan,SD.Qaq,SE.QaR,SE.Qam,SE.Qao,SE.Qap,SE.Qav,SE.Qaz,SO.Qa9,SO.QaB,SO.QaD,SO.QaO,SO.QaY,SO.Qau,SO.Qay,SO.QbE,SO.Qdn,SU.Qa8,SU.QaX,SU.QbO,SU.Qbb,SU.Qby,Zad,Zae,Zag];done))|exact Rn.x1 rfl rfl|exact Rn.x2 rfl rfl|exact Rn.x3 rfl rfl|exact Rn.x4 rfl rfl|exact Rn.x5 rfl|exact Rn.x6 rfl|exact Rn.x7 rfl|refine Zcx rfl rfl ?_|refine Zcw rfl rfl rfl ?_ ?_|refine Zcy rfl rfl rfl ?_ ?_|refine Zcz rfl rfl ?_ ?_|refine ZcA rfl rfl ?_ ?_)):p:=h
theorem marked99(l)(t)(h:∀a∈l,WfJ a)(w:l.length<=12)(v:t.length=l.length):Ps 163 [macV l,sliN t] (.bool (mkdT l t)):=by
 refine Zcm 64 (Ok TP.s163) rfl (by rw[noRefs,Qdb,noRefs,Qab];rfl) rfl ?_;have u:=Qbp l;have r:=Qef l;unfold TP.s163;refine ZcY ?_;refine Qar 100 (fun i:Nat=>[(1,sliN t),(8,auts l),(9,.int .i64 l.length),(10,.int .i64 i)]) (fun _=>[]) (fun i=>i<=l.length/\mkdT l t=mkdT (l.drop i) (t.drop i)) (fun i=>l.length-i) 0 0 140 (fun _:Unit=>[]) (fun _=>[]) (fun _=>mkdT l t=true) ⟨[],rfl,au0,au33,au32⟩ ⟨Zai _,rfl⟩ ?_ ?_
 ·rintro i⟨hi,hm⟩;by_cases b:i<l.length
  ·obtain⟨x,n⟩:=Qak b;obtain⟨y,o⟩:=Qak (l:=t) (i:=i) (by omega);have d:=h x (Zac n);have g:=Qep n;have k:4<=((l.flatMap auC).drop (i*4)).length:=by rw[g];simp
   have f:i<t.length:=by omega
   have c:mkdT (l.drop i) (t.drop i)=(x.ms.contains y&&mkdT (l.drop (i+1)) (t.drop (i+1))):=by obtain⟨h1,q⟩:=Zaj.1 n;obtain⟨s,p⟩:=Zaj.1 o;rw[Zbv h1,Zbv s,q,p];rfl
   have hc:=has189 x.ms y d.wf.ms (by have:=Qa4 x.n x.ms d.wf.nd d.wf.msn;have:=d.n10;omega);cases m:x.ms.contains y;·rw[m]at hc c;refine ZcZ (Zc5 b f g k (QaH o)) ?_;refine cp hc ?_;refine ZcY ?_;refine⟨.inr trivial,_,rfl,?_⟩;rw[hm,c];exact Zck rfl
   rw[m,Zag]at c;rw[m]at hc;refine ZcZ (Zc5 b f g k (QaH o)) ?_;refine cp hc ?_;refine ZcY ?_;exact⟨i+1,by omega,⟨by omega,by rw[hm,c]⟩,⟨[],rfl,au0,au33,au32⟩⟩
  have e:i=l.length:=by omega
  subst e;refine ZcZ b ?_;refine⟨(),by rw[hm,List.drop_eq_nil_of_le (Zau _)];rfl,?_⟩;exact⟨[],rfl,au0,au33,au32⟩
 rintro _ hm;refine ZcY ?_;refine⟨.inr trivial,_,rfl,?_⟩;rw[hm];exact Zck rfl
def stV:Option (List Nat)->AV|some n=>.tup [sliN n,.bool true]|none=>.tup [.nilsl,.bool false]
theorem QrT(o):noRef (stV o)=true:=by cases o with|none=>rfl|some n=>rw[stV,noRef,noRefs,Qab];rfl
theorem Qns{e}(h:stp l t e k=none):∀m,stp l t e (k+m)=none|0=>h|m+1=>by have:=Qns h m;show stp l t e (k+m+1)=none;unfold stp;rw[this]
theorem QvN{l}{x:Nat}:(ints (nz l)).set i (.int .i64 (x:Int))=ints (nz (l.set i x)):=by simp[ints,nz,List.map_set]
theorem Qul(h:l[i]?=some x):((l.map emV).drop i).head?=some (emV x):=by rw[ZbB,Zaz,h];rfl
theorem step100(l)(t)(e:Nat)(h:∀a∈l,WfJ a)(h0:0<l.length)(hl:l.length<=12)(ht:t.length=l.length):Ps 164 [macV l,sliN t,.int .i64 (e:Int)] (stV (stepT l t e)):=by
 refine Zcm 64 (Ok TP.s164) rfl (by rw[noRefs,Qdb,noRefs,Qab];rfl) (QrT _) ?_;have hno:=Qbp l;have hnm:=Qef l;have hml:(l.map emV).length=l.length:=Zav ..;have hcl:=clone56 t (by omega);unfold TP.s164;refine ZcY ?_;refine ch (ZcM (b:=83) (by rw[noRefs,Qab];rfl) hcl (by repeat(first|exact Fresh.e|exact Zco (by assumption) (by omega)|refine Zcp ?_ (by omega) (by omega))) rfl) ?_;refine ZcY ?_;refine Qar 120 (fun s:Nat×List Nat=>[(1,sliN t),(2,.int .i64 (e:Int)),(3,.ptr 51 0 0),(8,.sl 60 0 0 t.length 1),(16,auts l),(17,.int .i64 l.length),(18,.int .i64 s.1)]) (fun s=>[(51,.cells 0 [auts l,sliN (evA l),.fsl (l.map emV) l.length 1]),(60,.cells 0 (ints (nz s.2)))]) (fun s=>s.1<=l.length/\s.2.length=t.length/\stp l t e s.1=some s.2) (fun s=>l.length-s.1) (0,t) 0 200 (fun n:List Nat=>[(8,.sl 60 0 0 t.length 1)]) (fun n=>[(60,.cells 0 (ints (nz n)))]) (fun n=>n.length=t.length/\stepT l t e=some n) ?_ ⟨Zai _,rfl,rfl⟩ ?_ ?_;·refine⟨[(51,.blk 64 0),(60,.blk 83 0)],rfl,au0,?_,au32⟩;exact Zcw rfl rfl gg (Zcl hnm) (Zcw rfl rfl gg (Zcl (Qaa _)) Zcv)
 ·rintro⟨i,n⟩⟨hi,hn,hs⟩;dsimp only at hi hn hs⊢;by_cases hlt:i<l.length
  ·obtain⟨x,hx⟩:=Qak hlt;obtain⟨y,hy⟩:=Qak (l:=t) (i:=i) (by omega);have hyd:t.getD i 0=y:=by rw[Zah,hy];rfl
   have hwi:=h x (Zac hx);have hdr:=Qep hx;have hdl:4<=((l.flatMap auC).drop (i*4)).length:=by rw[hdr];simp
   have hlt2:i<t.length:=by omega
   have hin:i+1<=n.length:=by omega
   have hc:=has189 x.al e hwi.wf.al (by have:=QgR hwi.wf;omega);have hstep:stp l t e (i+1)=if e∈x.al then(match stepA x.es y e with|some to=>some (n.set i to)|none=>none)else some n:=by unfold stp;rw[hs,hx,hyd];try rfl
   by_cases hq:e∈x.al
   ·rw[List.contains_iff_mem.2 hq]at hc;rw[if_pos hq]at hstep
    refine ZcZ (Zc4 hlt hlt2 hdr hdl) ?_;refine cp hc ?_;refine ZcZ (Zc5 hlt hlt2 (Qul hx) (QaH hy) hml) ?_;cases hst:stepA x.es y e with|none=>
     rw[hst]at hstep;have hk:(y,e)∉x.es.map pE:=fun hm=>by obtain⟨d,hd,e2⟩:=Zap.1 hm;have h3:=Qiq hwi.wf.es hd;unfold pE at e2;simp only[Zal]at e2;rw[e2.1,e2.2,hst]at h3;cases h3
     have hfin:stepT l t e=none:=by have:=Qns hstep (l.length-(i+1));rwa[show i+1+(l.length-(i+1))=l.length by omega]at this
     refine Qga (c:=kP) (f:=vE x.es) (x:=(y,e)) (l:=x.es.map pE) Qft hk ?_;refine ZcY ?_;refine⟨.inr trivial,_,rfl,?_⟩;rw[hfin];exact Zck rfl|some to=>
     rw[hst]at hstep;have hv:vE x.es (y,e)=.int .i64 (to:Int):=by unfold vE;rw[hst];rfl
     refine QeS (c:=kP) (f:=vE x.es) (x:=(y,e)) (l:=x.es.map pE) Qft (Qc9 hst) ?_;rw[hv];refine Zc1 (Zc6 hlt2 hin @QvN @Qac @Qad @Qae) ?_;refine⟨(i+1,n.set i to),by dsimp only;omega,⟨by dsimp only;omega,by rw[List.length_set];exact hn,hstep⟩,?_⟩;exact b5xkA
   ·rw[show x.al.contains e=false by rw[ZaJ];exact fun hh=>hq (List.contains_iff_mem.1 hh)]at hc;rw[if_neg hq]at hstep;refine ZcZ (Zc4 hlt hlt2 hdr hdl) ?_;refine cp hc ?_;refine ZcY ?_;refine⟨(i+1,n),by dsimp only;omega,⟨by dsimp only;omega,hn,hstep⟩,?_⟩;exact b5xkA
  ·have e2:i=l.length:=by omega
   subst e2;refine ZcZ hlt ?_;refine⟨n,⟨hn,hs⟩,?_⟩;refine⟨[(60,.blk 60 0)],rfl,au0,?_,au32⟩;exact Zcw rfl rfl gg (Zcl (Qaa _)) Zcv
 rintro n⟨hn,hs⟩;refine ZcY ?_;refine⟨.inr trivial,_,rfl,?_⟩;rw[hs];refine Rn.tup (ZcC ?_ (Zcl rfl));rw[<-hn];exact ZcE gg (by simp[ints]) (Zcl (Qaa _))
end Go.AM.SO
namespace Go.AM.TK
open Go.Proofs
set_option maxHeartbeats 4000000
noncomputable section
def cf:YA.Cf:={}
noncomputable def ft:FT2:=YA.tre Tryz.prog cf 20 [77,78,115,147,162,169,205,216,259,279]
theorem ft_ok:ft.OK Tryz.prog:=YA.QgE _ _ (YA.QfN (by kernel_rfl))
end
end Go.AM.TK
namespace Go.AM.SO
open Go.Proofs Go.AM.SD
variable{c:Cel}{A B T:List (List Nat)}{s:List (List Nat)×List Ed}{l:List Aut}{n t:List Nat}{i k x:Nat}
noncomputable section
def keyT(t:List Nat):List UInt8:=t.flatMap fun x=>[UInt8.ofNat (48+x),32]
def keyB(k:Nat)(t:List Nat):Bool:=callR ansB noOrc TK.ft.get (exR ansB noOrc TK.ft.get 1000) (.c .pure) k [sliN t] .e 64 (fun u _ _=>eqAV (.str (keyT t)) u)
theorem Qjr(h:keyB k t=true):Ps k [sliN t] (.str (keyT t)):=Qb7 (t:=TK.ft) TK.ft_ok QdH (d:=1000) (eqAV _) (fun u h=>(QdA _ _ h).symm) h
def allK(k n:Nat):List Nat->Bool:=@Nat.rec (fun _=>List Nat->Bool) (fun t=>keyB k t) (fun _ a t=>ifB (a (t++[0])) (ifB (a (t++[1])) (a (t++[2])) false) false) n
theorem Qfv:∀{t u:List Nat},allK k t.length u=true->(∀x∈t,x<3)->keyB k (u++t)=true
 |[],u,h,_=>by rw[Zas];exact h|x::t,u,h,a=>by
  have e:allK k (x::t).length u=ifB (allK k t.length (u++[0])) (ifB (allK k t.length (u++[1])) (allK k t.length (u++[2])) false) false:=rfl;rw[e]at h;simp only[QaM]at h;have d:=a x (by simp);have b:allK k t.length (u++[x])=true:=by grind
  have:=Qfv b fun y c=>a y (by simp[c]);simp_all
theorem Qum:allK 162 1 []=true:=by kernel_rfl
theorem Qun:allK 162 2 []=true:=by kernel_rfl
theorem Quo:allK 162 3 []=true:=by kernel_rfl
theorem key98(c:0<t.length)(b:t.length<=3)(a:∀x∈t,x<3):Ps 162 [sliN t] (.str (keyT t)):=by refine Qjr (Qfv (u:=[]) ?_ a);grind[Qum,Qun,Quo]
theorem Qnt:∀{s t:List Nat},s.length=t.length->(∀x∈s,x<10)->(∀x∈t,x<10)->keyT s=keyT t->s=t
 |[],[],_,_,_,_=>rfl|x::s,y::t,d,b,c,h=>by
  have g:keyT (x::s)=UInt8.ofNat (48+x)::32::keyT s:=rfl;have f:keyT (y::t)=UInt8.ofNat (48+y)::32::keyT t:=rfl;rw[g,f]at h;simp only[List.cons.injEq,true_and]at h;have k:=b x (by simp);have i:=c y (by simp);have h1:x=y:=by have:=congrArg UInt8.toNat h.1;grind[UInt8.toNat_ofNat']
  subst h1;rw[Qnt (by simpa using d) (fun z a=>b z (by simp[a])) (fun z a=>c z (by simp[a])) h.2]
end
open Go.AM.SE
abbrev ixT(T:List (List Nat))(n:List Nat):Nat:=T.findIdx (·==n)
theorem Qhb(h:A<+:B)(a:n∈A):ixT A n=ixT B n:=by obtain⟨C,rfl⟩:=h;grind
theorem Qj2(a:n∉A):ixT A n=A.length:=by grind
theorem Qup(a:n∉A):ixT A n=ixT (A++[n]) n:=by grind
theorem Qj3(hn:n∈A):A[ixT A n]?=some n:=by grind
theorem Qjs(a:n∈A):ixT A n<A.length:=Zbo ⟨n,a,by simp⟩
theorem Qjt(a:A.Nodup)(h:A[i]?=some n):ixT A n=i:=by grind[Qj3,List.getElem?_inj]
def rowE(l:List Aut)(ev:List Nat)(T:List (List Nat))(j:Nat)(t:List Nat):List Ed:=ev.filterMap fun e=>(stepT l t e).map fun n=>(j,e,ixT T n)
theorem Qp2{ev}{j}(h:A<+:B)(hc:∀e∈ev,∀n,stepT l t e=some n->n∈A):rowE l ev A j t=rowE l ev B j t:=by unfold rowE;refine a fun e he=>?_;cases b:stepT l t e with|none=>rfl|some n=>simp only[ZbC,Qhb h (hc e he n b)]where a{α β:Type}{f g:α->Option β}:∀{l:List α},(∀x∈l,f x=g x)->l.filterMap f=l.filterMap g|[],_=>rfl|x::l,h=>by rw[ZbA,ZbA,h x (by simp),a (l:=l) fun y c=>h y (by simp[c])]
theorem Qls{l}{i}{t}:∀{ev:List Nat}{s:List (List Nat)×List Ed},(pRow l ev i t s).2=s.2++rowE l ev (pRow l ev i t s).1 i t/\∀e∈ev,∀n,stepT l t e=some n->n∈(pRow l ev i t s).1|[],s=>by simp_all[pRow,rowE]|e::ev,s=>by have h:=Qls (l:=l) (i:=i) (t:=t) (ev:=ev) (s:=pEv l i t s e);have hp:=QcL (l:=l) (i:=i) (t:=t) (ev:=ev) (s:=pEv l i t s e);have h1:pRow l (e::ev) i t s=pRow l ev i t (pEv l i t s e):=rfl;rw[h1];obtain⟨d,i2⟩:=h;cases p:stepT l t e with
 |none=>
  have b:pEv l i t s e=s:=by grind[pEv]
  rw[b]at d i2 hp⊢;refine⟨?_,fun g c n k=>?_⟩;·simp_all[rowE]
  grind|some n=>
  have b:pEv l i t s e=(if n∈s.1 then s.1 else s.1++[n],s.2++[(i,e,ixT s.1 n)]):=by grind[pEv]
  rw[b]at d i2 hp⊢;have a:n∈(if n∈s.1 then s.1 else s.1++[n]):=by grind
  have m:ixT s.1 n=ixT (if n∈s.1 then s.1 else s.1++[n]) n:=by grind
  have f:=Qhb hp a;refine⟨?_,fun g c o k=>?_⟩;·generalize pRow l ev i t (if n∈s.1 then s.1 else s.1++[n],s.2++[(i,e,ixT s.1 n)])=R at*;simp_all[rowE]
  grind
structure PE(l:List Aut)(ev:List Nat)(i:Nat)(s:List (List Nat)×List Ed):Prop where
 ed:s.2=(List.range i).flatMap fun j=>rowE l ev s.1 j (s.1.getD j [])cl:∀j t,j<i->s.1[j]?=some t->∀e∈ev,∀n,stepT l t e=some n->n∈s.1
 le:i<=s.1.length
theorem Qir(h:A<+:B){j}(a:j<A.length):B.getD j []=A.getD j []:=by obtain⟨C,rfl⟩:=h;grind
theorem Qhc(h:A<+:B){j}(a:j<A.length):B[j]?=A[j]?:=by obtain⟨C,rfl⟩:=h;grind
theorem flatMap_congr'{α β:Type}{f g:α->List β}:∀{l:List α},(∀x∈l,f x=g x)->l.flatMap f=l.flatMap g|[],_=>rfl|x::l,h=>by rw[Zay,Zay,h x (by simp),flatMap_congr' (l:=l) fun y a=>h y (by simp[a])]
theorem PE.row{ev}(h:PE l ev i s)(f:s.1[i]?=some t):PE l ev (i+1) (pRow l ev i t s):=by
 have hp:=QcL (l:=l) (i:=i) (t:=t) (ev:=ev) (s:=s);obtain⟨h1,g⟩:=Qls (l:=l) (i:=i) (t:=t) (ev:=ev) (s:=s);have hi:i<s.1.length:=by grind
 refine⟨?_,fun j u a hu e he n b=>?_,ZaA hi hp.length_le⟩
 ·rw[h1,ZaK,Zao,Zay,ZbZ,Zas];have d:(pRow l ev i t s).1.getD i []=t:=by rw[Qir hp hi,Zah,f];rfl
  rw[d];congr 1;rw[h.ed];refine flatMap_congr' fun j a=>?_;have c:=Zat.1 a;obtain⟨u,hu⟩:=Qak (l:=s.1) (i:=j) (by omega);rw[Qir hp (by omega)];refine Qp2 hp fun e he n b=>?_;rw[Zah,hu]at b;exact h.cl j u c hu e he n b
 rcases Nat.lt_succ_iff_lt_or_eq.1 a with a|rfl;·rw[Qhc hp (by omega)]at hu;exact hp.subset (h.cl j u a hu e he n b)
 grind[Qhc]
theorem Qpe{ev}(hw:∀a∈l,∀e∈a.es,e.1<a.n/\e.2.2<a.n):∀{k i:Nat}{s:List (List Nat)×List Ed},PI l s->box l<k+i->PE l ev i s->PE l ev (pQ l ev k i s).1.length (pQ l ev k i s)|0,i,s,h,hk,he=>by have h1:=Qdp h.nd h.inT;have c:=he.le;omega|k+1,i,s,h,hk,he=>by unfold pQ;cases b:s.1[i]? with
 |none=>
  have c:=he.le;have:i=s.1.length:=by grind
  rwa[this]at he|some t=>exact Qpe hw (Qeo hw (h.inT t (Zac b)) h) (by omega) (he.row b)
theorem QgY(c:∀a∈l,0<a.n)(hw:∀a∈l,∀e∈a.es,e.1<a.n/\e.2.2<a.n):PE l (evA l) (sync0 l).1.length (sync0 l):=Qpe hw (Qf4 c) (by omega) ⟨rfl,fun j t b=>absurd b (ZaD _),Zai _⟩
theorem sync_pre:[List.replicate l.length 0]<+:(sync0 l).1:=Qjo (s:=([List.replicate l.length 0],[]))
def keyC(t:List Nat):AV:=.str (keyT t)
def ixV(T:List (List Nat))(t:List Nat):AV:=.int .i64 ((ixT T t:Nat):Int)
abbrev tuV(T:List (List Nat)):AV:=.fsl (T.map sliN) T.length 1
theorem Qbz(T):noRef (tuV T)=true:=by rw[tuV,noRef];exact Qax Qab _
theorem InT.ltJ(h:∀a∈l,WfJ a)(d:InT l t)(f:x∈t):x<10:=by obtain⟨i,hi,b⟩:=Qd0 f;obtain⟨a,c⟩:=Qak (l:=l) (i:=i) (by rw[<-d.1];exact b);have h1:=d.2 i a c;rw[Zah,hi]at h1;have g:=(h a (Zac c)).n10;simp only[Option.getD_some]at h1;omega
theorem InT.lt(h:∀a∈l,WfI a)(d:InT l t)(f:x∈t):x<3:=by obtain⟨i,hi,b⟩:=Qd0 f;obtain⟨a,c⟩:=Qak (l:=l) (i:=i) (by rw[<-d.1];exact b);have h1:=d.2 i a c;rw[Zah,hi]at h1;have g:=(h a (Zac c)).n3;simp only[Option.getD_some]at h1;omega
theorem QgZ(h:∀a∈l,WfJ a){x}(f:InT l x)(g:∀t∈T,InT l t):KeyG false [.s] keyC x T:=by
 have key:∀y,InT l y->keyEq false [.s] (keyC x) (keyC y)=some (decide (x=y)):=by
  intro y b;have e:keyEq false [.s] (keyC x) (keyC y)=some (decide (keyT x=keyT y)):=QgL;rw[e];congr 1;refine decide_eq_decide.2 ⟨fun c=>Qnt (by rw[f.1,b.1]) (fun z d=>?_) (fun z d=>?_) c,fun c=>by rw[c]⟩;·have:=f.ltJ h d;omega
  have:=b.ltJ h d;omega
 refine⟨?_,fun y b=>key y (g y b)⟩;unfold keyOK;rw[key x f]
theorem Qpf(b:n∉T):mapG keyC (updG (ixV T) n (.int .i64 ((T.length:Nat):Int))) (T++[n])=mapG keyC (ixV (T++[n])) (T++[n]):=by
 refine Qjn fun x a=>?_;unfold updG;split;·rename_i e;subst e;unfold ixV;rw[<-Qup b,Qj2 b]
 rename_i e;unfold ixV;rw[Qhb (List.prefix_append T [n]) (by
  rcases ZaE.1 a with a|a;·exact a
  simp at a;exact absurd a e)]
def marks(l:List Aut)(T:List (List Nat))(i:Nat):List Nat:=(List.range i).filter fun j=>mkdT l (T.getD j [])
theorem Qp3(a:T[i]?=some t):marks l T (i+1)=if mkdT l t=true then marks l T i++[i]else marks l T i:=by
 have e:T.getD i []=t:=by rw[Zah,a];rfl
 unfold marks;rw[ZaK,Zbm];by_cases hm:mkdT l t=true;·rw[if_pos hm,List.filter_cons_of_pos (by rw[e];exact hm),List.filter_nil]
 rw[if_neg hm,List.filter_cons_of_neg (by rw[e];exact hm),List.filter_nil,Zas]
theorem Qlt(h:A<+:B)(hi:i<=A.length):marks l B i=marks l A i:=by unfold marks;refine ZbJ fun j a=>?_;rw[Qir h (by have:=Zat.1 a;omega)]
theorem Qlu{l}{T}{i}:(marks l T i).length<=i:=by have:=Za7 (fun j=>mkdT l (T.getD j [])) (List.range i);rwa[ZbV]at this
theorem Quq{l}{i e}{t}{s}:(pEv l i t s e).2.length<=s.2.length+1:=by unfold pEv;cases stepT l t e with|none=>exact Nat.le_succ _|some n=>simp
theorem QeT{l}{i}{t}:∀{ev:List Nat}{s:List (List Nat)×List Ed},(pRow l ev i t s).2.length<=s.2.length+ev.length|[],s=>Zau _|e::ev,s=>by have h1:=QeT (l:=l) (i:=i) (t:=t) (ev:=ev) (s:=pEv l i t s e);have a:=@Quq l i e t s;show(pRow l ev i t (pEv l i t s e)).2.length<=_;rw[ZaC];omega
theorem Qlv{ev:List Nat}{j e}(h:ev[j]?=some e):pRow l (ev.take (j+1)) i t s=pEv l i t (pRow l (ev.take j) i t s) e:=by unfold pRow;rw[take_succ' h,Za8];rfl
theorem QeU(h:T[i]?=some t):(T.map sliN)[i]?=some (sliN t):=by rw[Zaz,h];rfl
theorem Qur{ev}(h:s.1[i]?=none):pQ l ev k i s=s:=by cases k with|zero=>rfl|succ k=>unfold pQ;rw[h]
theorem Qgb{ev}:(pRow l (ev.take k) i t s).1<+:(pRow l ev i t s).1:=by
 have e:pRow l ev i t s=pRow l (ev.drop k) i t (pRow l (ev.take k) i t s):=by unfold pRow;rw[<-Za8,Zbd]
 rw[e];exact QcL
def synV(l:List Aut):AV:=if(sync0 l).1.length<=4096 then .tup [aV (syncA l),tuV (sync0 l).1,.int .i64 0]else .tup [.agg [.nilsl,.int .i64 0,.nilsl,.nilsl],.nilsl,.int .i64 3]
theorem sync28J(l)(h:∀a∈l,WfJ a)(h0:0<l.length)(hl:l.length<=12)(F:∀t,InT l t->Ps 162 [sliN t] (.str (keyT t))):Ps 100 [auts l] (synV l):=by
 have hno:=Qbp l;have c:=Qef l;have Q:noRef (.tup [aV (syncA l),tuV (sync0 l).1,.int .i64 0])=true:=by rw[noRef,noRefs,noRefs,Qbz,noRef,noRefs,noRefs,noRefs,noRefs,Qab,Qab,Qaj];rfl
 have hnr:noRef (synV l)=true:=by
  unfold synV;split;·exact Q
  rfl
 have T:(sync0 l).1.length<=4096->synV l=.tup [aV (syncA l),tuV (sync0 l).1,.int .i64 0]:=fun h=>if_pos h;have I:¬(sync0 l).1.length<=4096->synV l=.tup [.agg [.nilsl,.int .i64 0,.nilsl,.nilsl],.nilsl,.int .i64 3]:=fun h=>if_neg h;generalize synV l=V at*;refine Zcm 64 (Ok TP.s100) rfl (by rw[noRefs,hno];rfl) hnr ?_;have hw:∀a∈l,∀e∈a.es,e.1<a.n/\e.2.2<a.n:=fun a ha=>(h a ha).wf.esn;have hpos:∀a∈l,0<a.n:=fun a ha=>(h a ha).pos;have hc:=check95 l h (by omega);have ho:=open96 l h (by omega);have hi:=initial97 l h h0 (by omega);have R:=Qf4 (l:=l) hpos;have P:InT l (List.replicate l.length 0):=R.inT _ (by simp);have hk0:=F _ P;have hev5:=Qpd h;have hml:(l.map emV).length=l.length:=Zav ..;unfold TP.s100;refine ZcY ?_;refine cp hc ?_;refine ZcY ?_;refine cp ho ?_;refine ZcY ?_;refine cp hi ?_;refine ZcY ?_;refine cp hk0 ?_;refine ZcY ?_;refine Qck (c:=keyC) (f:=fun _=>.nilsl) (x:=List.replicate l.length 0) (l:=[]) (g:=0) gg (QgZ h P fun t N=>by cases N) (by simp) (by omega) ?_;have hm0:mapG keyC (updG (fun _=>.nilsl) (List.replicate l.length 0) (.int .i64 0)) ([]++[List.replicate l.length 0])=mapG keyC (ixV [List.replicate l.length 0]) [List.replicate l.length 0]:=by
  refine Qjn fun x hx=>?_;have hx:x=List.replicate l.length 0:=by simpa using hx
  subst hx;unfold updG ixV;rw[if_pos rfl];simp[ixT]
 rw[hm0];refine ZcY ?_;refine Qar 320 (fun q:Nat×(List (List Nat)×List Ed)=>[(2,.ptr 51 0 0),(6,.ptr 52 0 0),(3,.sl 60 0 0 q.2.1.length 1),(9,.map 53 0),(10,.int .i64 (q.1))]) (fun q=>[(51,.cells 0 [sliN (evA l),.int .i64 0,.sl 70 0 0 (marks l q.2.1 q.1).length 1,.sl 71 0 0 q.2.2.length 3]),(52,.cells 0 [auts l,sliN (evA l),.fsl (l.map emV) l.length 1]),(53,.map 0 (mapG keyC (ixV q.2.1) q.2.1)),(60,.cells 0 (q.2.1.map sliN)),(70,.cells 0 (ints (nz (marks l q.2.1 q.1)))),(71,.cells 0 (q.2.2.flatMap edC))]) (fun q=>q.1<=q.2.1.length/\PI l q.2/\q.2.2.length<=q.1*32/\q.2.1.length<=4096/\pQ l (evA l) (box l+1-q.1) q.1 q.2=sync0 l) (fun q=>box l+1-q.1) (0,([List.replicate l.length 0],[])) 0 900 (fun _:Unit=>[(2,.ptr 51 0 0),(3,tuV (sync0 l).1)]) (fun _=>[(51,.cells 0 [sliN (evA l),.int .i64 0,sliN (marks l (sync0 l).1 (sync0 l).1.length),egsN (sync0 l).2])]) (fun _=>(sync0 l).1.length<=4096) ?_ ⟨Zai _,R,Zai _,by show[List.replicate l.length 0].length<=4096;simp,rfl⟩ ?_ ?_;·refine⟨[(51,.blk 64 0),(52,.blk 74 0),(53,.blk 92 0),(60,.blk 90 0),(70,.nil),(71,.nil)],rfl,au0,?_,au32⟩;exact Zcw rfl rfl gg (ZcC (Zck (Qab _)) (ZcC (Zck rfl) (ZcC (Rn.x4 rfl rfl) (ZcC (Rn.x4 rfl rfl) ZcB)))) (Zcw rfl rfl gg (Zcl c) (Zcy rfl rfl gg (ZcP fun _ _=>⟨rfl,rfl⟩) (Zcw rfl rfl gg (RnL.eq (by simp) (Qax Qab _)) (Zcx rfl rfl (Zcx rfl rfl Zcv)))))
 ·rintro⟨i,s⟩⟨hi,hp,hel,M,hq⟩;dsimp only at hi hp hel M hq⊢;have hsb:=Qdp hp.nd hp.inT;have hsml:(s.1.map sliN).length=s.1.length:=Zav ..;by_cases d:i<s.1.length
  ·obtain⟨t,N⟩:=Qak d;have v:=hp.inT t (Zac N);have L:=marked99 l t h (by omega) v.1;have y:=Qp3 (l:=l) N;have hml5:=@Qlu l s.1 i;have K:=QcL (l:=l) (i:=i) (t:=t) (ev:=evA l) (s:=s);have hpo:=Qeo (i:=i) (ev:=evA l) hw v hp;have hpn:=QeT (l:=l) (i:=i) (t:=t) (ev:=evA l) (s:=s);have O:pQ l (evA l) (box l+1-(i+1)) (i+1) (pRow l (evA l) i t s)=sync0 l:=by rw[<-hq,show box l+1-i=(box l+1-(i+1))+1 by omega];simp only[pQ,N]
   cases hmb:mkdT l t
   ·rw[hmb]at L y;rw[if_neg (by simp)]at y;refine ZcZ (Zc2 d (QeU N)) ?_;refine cp L ?_;refine ZcY ?_;have Z:marks l s.1 (i+1)=marks l s.1 i:=y;refine Qar 420 (fun j:Nat=>[(2,.ptr 51 0 0),(6,.ptr 52 0 0),(3,.sl 60 0 0 (pRow l ((evA l).take j) i t s).1.length 1),(9,.map 53 0),(10,.int .i64 (i)),(61,sliN (evA l)),(62,.int .i64 (evA l).length),(63,.int .i64 j)]) (fun j=>[(51,.cells 0 [sliN (evA l),.int .i64 0,.sl 70 0 0 (marks l s.1 (i+1)).length 1,.sl 71 0 0 (pRow l ((evA l).take j) i t s).2.length 3]),(52,.cells 0 [auts l,sliN (evA l),.fsl (l.map emV) l.length 1]),(53,.map 0 (mapG keyC (ixV (pRow l ((evA l).take j) i t s).1) (pRow l ((evA l).take j) i t s).1)),(60,.cells 0 ((pRow l ((evA l).take j) i t s).1.map sliN)),(70,.cells 0 (ints (nz (marks l s.1 (i+1))))),(71,.cells 0 ((pRow l ((evA l).take j) i t s).2.flatMap edC))]) (fun j=>j<=(evA l).length/\(pRow l ((evA l).take j) i t s).1.length<=4096) (fun j=>(evA l).length-j) 0 2 700 (fun _:Unit=>[(2,.ptr 51 0 0),(6,.ptr 52 0 0),(3,.sl 60 0 0 (pRow l (evA l) i t s).1.length 1),(9,.map 53 0),(10,.int .i64 (i))]) (fun _=>[(51,.cells 0 [sliN (evA l),.int .i64 0,.sl 70 0 0 (marks l s.1 (i+1)).length 1,.sl 71 0 0 (pRow l (evA l) i t s).2.length 3]),(52,.cells 0 [auts l,sliN (evA l),.fsl (l.map emV) l.length 1]),(53,.map 0 (mapG keyC (ixV (pRow l (evA l) i t s).1) (pRow l (evA l) i t s).1)),(60,.cells 0 ((pRow l (evA l) i t s).1.map sliN)),(70,.cells 0 (ints (nz (marks l s.1 (i+1))))),(71,.cells 0 ((pRow l (evA l) i t s).2.flatMap edC))]) (fun _=>(pRow l (evA l) i t s).1.length<=4096) ?_ ⟨Zai _,M⟩ ?_ ?_;·show Rec _ _ [(51,.cells 0 [sliN (evA l),.int .i64 0,.sl 70 0 0 (marks l s.1 (i+1)).length 1,.sl 71 0 0 s.2.length 3]),(52,.cells 0 [auts l,sliN (evA l),.fsl (l.map emV) l.length 1]),(53,.map 0 (mapG keyC (ixV s.1) s.1)),(60,.cells 0 (s.1.map sliN)),(70,.cells 0 (ints (nz (marks l s.1 (i+1))))),(71,.cells 0 (s.2.flatMap edC))] _ _;rw[Z];refine⟨[(51,.blk 51 0),(52,.blk 52 0),(53,.blk 53 0),(60,.blk 60 0),(70,.blk 70 0),(71,.blk 71 0)],rfl,au0,?_,au32⟩;exact Zcw rfl rfl gg (ZcC (Zck (Qab _)) (ZcC (Zck rfl) (ZcC (Rn.x1 rfl rfl) (ZcC (Rn.x1 rfl rfl) ZcB)))) (Zcw rfl rfl gg (Zcl c) (Zcy rfl rfl gg (ZcP fun _ _=>⟨rfl,rfl⟩) (Zcw rfl rfl gg (Zcl (Qax Qab _)) (Zcw rfl rfl gg (Zcl (Qaa _)) (Zcw rfl rfl gg (Zcl (Qag _)) Zcv)))))
    ·exact byv0F
    exact bJCoe
   rw[hmb]at L y;rw[if_pos rfl]at y;refine ZcZ (Zc2 d (QeU N)) ?_;refine cp L ?_;refine ZcY ?_;have Z:marks l s.1 (i+1)=marks l s.1 i++[i]:=y;refine Qar 420 (fun j:Nat=>[(2,.ptr 51 0 0),(6,.ptr 52 0 0),(3,.sl 60 0 0 (pRow l ((evA l).take j) i t s).1.length 1),(9,.map 53 0),(10,.int .i64 (i)),(61,sliN (evA l)),(62,.int .i64 (evA l).length),(63,.int .i64 j)]) (fun j=>[(51,.cells 0 [sliN (evA l),.int .i64 0,.sl 70 0 0 (marks l s.1 (i+1)).length 1,.sl 71 0 0 (pRow l ((evA l).take j) i t s).2.length 3]),(52,.cells 0 [auts l,sliN (evA l),.fsl (l.map emV) l.length 1]),(53,.map 0 (mapG keyC (ixV (pRow l ((evA l).take j) i t s).1) (pRow l ((evA l).take j) i t s).1)),(60,.cells 0 ((pRow l ((evA l).take j) i t s).1.map sliN)),(70,.cells 0 (ints (nz (marks l s.1 (i+1))))),(71,.cells 0 ((pRow l ((evA l).take j) i t s).2.flatMap edC))]) (fun j=>j<=(evA l).length/\(pRow l ((evA l).take j) i t s).1.length<=4096) (fun j=>(evA l).length-j) 0 2 700 (fun _:Unit=>[(2,.ptr 51 0 0),(6,.ptr 52 0 0),(3,.sl 60 0 0 (pRow l (evA l) i t s).1.length 1),(9,.map 53 0),(10,.int .i64 (i))]) (fun _=>[(51,.cells 0 [sliN (evA l),.int .i64 0,.sl 70 0 0 (marks l s.1 (i+1)).length 1,.sl 71 0 0 (pRow l (evA l) i t s).2.length 3]),(52,.cells 0 [auts l,sliN (evA l),.fsl (l.map emV) l.length 1]),(53,.map 0 (mapG keyC (ixV (pRow l (evA l) i t s).1) (pRow l (evA l) i t s).1)),(60,.cells 0 ((pRow l (evA l) i t s).1.map sliN)),(70,.cells 0 (ints (nz (marks l s.1 (i+1))))),(71,.cells 0 ((pRow l (evA l) i t s).2.flatMap edC))]) (fun _=>(pRow l (evA l) i t s).1.length<=4096) ?_ ⟨Zai _,M⟩ ?_ ?_;·show Rec _ _ [(51,.cells 0 [sliN (evA l),.int .i64 0,.sl 70 0 0 (marks l s.1 (i+1)).length 1,.sl 71 0 0 s.2.length 3]),(52,.cells 0 [auts l,sliN (evA l),.fsl (l.map emV) l.length 1]),(53,.map 0 (mapG keyC (ixV s.1) s.1)),(60,.cells 0 (s.1.map sliN)),(70,.cells 0 (ints (nz (marks l s.1 (i+1))))),(71,.cells 0 (s.2.flatMap edC))] _ _;rw[Z,Zaf,QaQ,QaF];refine⟨[(51,.blk 51 0),(52,.blk 52 0),(53,.blk 53 0),(60,.blk 60 0),(70,.blk 70 1),(71,.blk 71 0)],rfl,au0,?_,au32⟩;exact Zcw rfl rfl gg (ZcC (Zck (Qab _)) (ZcC (Zck rfl) (ZcC (Rn.x1 rfl rfl) (ZcC (Rn.x1 rfl rfl) ZcB)))) (Zcw rfl rfl gg (Zcl c) (Zcy rfl rfl gg (ZcP fun _ _=>⟨rfl,rfl⟩) (Zcw rfl rfl gg (Zcl (Qax Qab _)) (Zcw rfl rfl gg (Zcl (SU.Qaw (Qaa _) rfl)) (Zcw rfl rfl gg (Zcl (Qag _)) Zcv)))))
   ·exact byv0F
   exact bJCoe
  have hfin:s=sync0 l:=by rw[<-hq,Qur (ZaF (by omega))]
  have e2:i=s.1.length:=by omega
  subst e2;rw[<-hfin];refine ZcZ d ?_;refine⟨(),M,[(51,.blk 51 0)],rfl,Zcs,?_,?_⟩;·exact Zcw rfl rfl gg (ZcC (Zck (Qab _)) (ZcC (Zck rfl) (ZcC (ZcD rfl rfl rfl rfl (by simp[ints]) (Zcl (Qaa _))) (ZcC (ZcD rfl rfl rfl rfl (Qbe (k:=3) (fun _=>rfl) _) (Zcl (Qag _))) ZcB)))) Zcv
  exact Zcu (Rn.x2 rfl rfl) (Zcu (Rn.fz (b:=60) (g:=0) gg rfl rfl (by simp) (Zcl (Qax Qab _))) Zct)
 rintro _ hE4;rw[T hE4];refine ZcY ?_;refine⟨.inr trivial,_,rfl,?_⟩;exact Zck Q
theorem sync28(l)(h:∀a∈l,WfI a)(i:0<l.length)(g:l.length<=5)(d:∀t,InT l t->Ps 162 [sliN t] (.str (keyT t))):Ps 100 [auts l] (.tup [aV (syncA l),tuV (sync0 l).1,.int .i64 0]):=by have hw:∀a∈l,∀e∈a.es,e.1<a.n/\e.2.2<a.n:=fun a b=>(h a b).wf.esn;have c:∀a∈l,0<a.n:=fun a b=>(h a b).pos;have f:box l<=243:=ZaA (QrQ (fun a b=>(h a b).n3) (by omega)) (Nat.pow_le_pow_right (n:=3) (by omega) g);have:=sync28J l (fun a b=>(h a b).j) i (by omega) d;unfold synV at this;rwa[if_pos (ZaA (Qnq c hw) (by omega))]at this
abbrev auL(l:List (Nat×Aut)):List Aut:=l.map (·.2)
theorem QrU{x}:List.flatMap auC (List.map (fun x:Nat×Aut=>x.2) [x])=[sliN x.2.al,.int .i64 (x.2.n:Int),sliN x.2.ms,egsN x.2.es]:=rfl
theorem Qbf{l}:(auL l).length=l.length:=Zav ..
theorem automata101{ch}(l)(k:l.length<=1000):Ps 101 [its ch l] (auts (auL l)):=by
 refine Zcm 64 (Ok TP.s101) rfl (by rw[noRefs,SU.QaJ];rfl) (Qbp _) ?_;have h:=@SU.QaJ ch l;unfold TP.s101;refine ZcY ?_;refine Qar 100 (fun i:Nat=>[(3,.sl 60 0 0 i 4),(6,its ch l),(7,.int .i64 l.length),(8,.int .i64 i)]) (fun i=>[(60,.cells 0 ((auL (l.take i)).flatMap auC))]) (fun i=>i<=l.length) (fun i=>l.length-i) 0 0 160 (fun _:Unit=>[(3,auts (auL l))]) (fun _=>[]) (fun _=>True) ?_ (Zai _) ?_ ?_;·refine⟨[(60,.nil)],rfl,au0,?_,au32⟩;exact Zcx rfl rfl Zcv
 ·rintro i hi;by_cases a:i<l.length
  ·exact bCDdZ
  have e:i=l.length:=by omega
  subst e;refine ZcT a ?_;exact⟨(),[],rfl,Zcs,Zcv,Zcu (ZcD (b:=60) (g:=0) gg rfl rfl Qbf (by rw[QgX,Qbf]) (Zcl (QaY _))) Zct⟩
 rintro _ _;refine ZcY ?_;exact⟨.inr trivial,_,rfl,Zck (Qbp _)⟩
theorem QrV(l):noRef (.tup [aV (syncA l),tuV (sync0 l).1,.int .i64 0])=true:=by rw[noRef,noRefs,noRefs,Qbz,noRef,noRefs,noRefs,noRefs,noRefs,Qab,Qab,Qaj];rfl
theorem Qbq(h:WfCel c):∀a∈auL c.cs,WfI a:=fun a b=>by obtain⟨x,d,rfl⟩:=Zap.1 b;exact h.ca x d
theorem Qte(h:WfCel c)(t)(a:InT (auL c.cs) t):Ps 162 [sliN t] (.str (keyT t)):=by have g:=h.c0;have f:=h.c3;have b:=a.1;rw[Qbf]at b;exact key98 (by omega) (by omega) fun x d=>a.lt (Qbq h) d
theorem Qus(c)(h:WfCel c):Ps 100 [auts (auL c.cs)] (.tup [aV (syncA (auL c.cs)),tuV (sync0 (auL c.cs)).1,.int .i64 0]):=by have a:=h.c0;have b:=h.c3;exact sync28 (auL c.cs) (Qbq h) (by rw[Qbf];omega) (by rw[Qbf];omega) (Qte h)
theorem plant17(c)(h:WfCel c):Ps 45 [celV c] (.tup [aV (syncA (auL c.cs)),tuV (sync0 (auL c.cs)).1,.int .i64 0]):=by have d:=Qbv c;refine Zcm 64 (Ok TP.s45) rfl (by rw[noRefs,SU.Qa0];rfl) (QrV _) ?_;have f:=h.c3;have hc:=check21 c h;have a:=automata101 (ch:=99) c.cs (by omega);have b:=Qus c h;unfold TP.s45;refine ZcY ?_;refine cp hc ?_;refine ZcY ?_;refine cp a ?_;refine ZcY ?_;refine cp b ?_;refine ZcY ?_;exact⟨.inr trivial,_,rfl,Zck (QrV _)⟩
theorem Qeq(h:T[i]?=some t):((T.map sliN).drop i).head?=some (sliN t):=by rw[ZbB,QeU h]
end Go.AM.SO
