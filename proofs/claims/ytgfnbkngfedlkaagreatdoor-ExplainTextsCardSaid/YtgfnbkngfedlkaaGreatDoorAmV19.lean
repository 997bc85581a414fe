/- A part of the proof of ExplainEventsCardSaid: lemmas on the way (AnSj, AnSr, AnSn, AnSo, AnSs, AnSt, AnSu, AnSl, AnSv, AnSw, AnEm). Conditions: none of ours. -/
import Derived.Test.YtgfnbkngfedlkaaGreatDoorProg
import Derived.KernelRfl
import Derived.Test.YtgfnbkngfedlkaaGreatDoorAmV18
set_option linter.unusedSectionVars false
set_option maxHeartbeats 32000000
set_option maxRecDepth 100000
set_option linter.unusedVariables false
set_option linter.unusedSimpArgs false
namespace Go.AM.SO
open Go.Proofs Go.AM.SD Go.AM.SE
abbrev wldP(c:Cel)(q:Aut)(TA TB:List (List Nat))(X:List Nat)(F:List (Nat×Int×Int×Int))(r:Res):List AV:=[evsV c.ev,its 99 c.cs,its 114 c.rs,exs c.xs,cos c.ks,sliN q.al,.int .i64 (q.n:Int),sliN q.ms,egsN q.es,tuV TA,tuV TB,sliN X,rss F,sliN r.kept,sli r.dist,rms r.rem,.int .i64 (r.rounds:Int),sliN r.sup.al,.int .i64 (r.sup.n:Int),sliN r.sup.ms,egsN r.sup.es,sliN r.orig]
theorem nrW{c:Cel}{q:Aut}{TA TB:List (List Nat)}{X:List Nat}{F:List (Nat×Int×Int×Int)}{r:Res}:noRefs (wldP c q TA TB X F r)=true:=by have h1:=SU.QaK c;rw[celV,noRef]at h1;simp only[noRefs,Zaa,Zad]at h1;obtain⟨b,a2,a3,a4,a5⟩:=h1;have a:=Qd4 r;rw[noRef]at a;simp only[noRefs,Zaa,Zad]at a;simp only[noRefs,b,a2,a3,a4,a5,Qae,Qah,Qa9,Qde,a];rfl
theorem nrW1{c:Cel}{q:Aut}{TA TB:List (List Nat)}{X:List Nat}{F:List (Nat×Int×Int×Int)}{r:Res}:noRef (.agg (wldP c q TA TB X F r))=true:=by rw[noRef];exact nrW
def wldC(c:Cel):List AV:=wldP c (spQ c) (spA c (sync0 (allA c)).1) (spB c (sync0 (allA c)).1) (spP c (sync0 (auL c.cs)).1 (sync0 (allA c)).1) (forb c (sync0 (allA c)).1.length) (resC c)
theorem begin33(p:Pln)(h:POk p):PSpec Tryz.prog 33 [plnV p] (.tup [.agg (wldC (mkC p)),.bool true]):=by
 have hlen:=SU.QcA h;have a:=SU.QcB h;have g:PSpec Tryz.prog 88 [.agg (plnC p)] (celV (mkC p)):=SU.Make26 p h;have f:(plnC p).take 152=plnC p:=by rw[<-hlen,Zao]
 have d:=cell22 (mkC p) Qd6;have b:=@SU.Qeh p;refine Zcx 64 XK.ok33 rfl (by simp only[noRefs,noRef,b];rfl) (by rw[noRef,noRefs];unfold wldC;rw[nrW1];rfl) ?_;show wS _ _ _ _ _ (argT 0 [.agg (plnC p)]) _ _;rw[spC,spG]at d;unfold wldC;have hnw:=@nrW1 (mkC p) (spQ (mkC p)) (spA (mkC p) (sync0 (allA (mkC p))).1) (spB (mkC p) (sync0 (allA (mkC p))).1) (spP (mkC p) (sync0 (auL (mkC p).cs)).1 (sync0 (allA (mkC p))).1) (forb (mkC p) (sync0 (allA (mkC p))).1.length) (resC (mkC p));change PSpec Tryz.prog 89 [celV (mkC p)] (.tup [.agg [sliN (spQ (mkC p)).al,.int .i64 ((spQ (mkC p)).n:Int),sliN (spQ (mkC p)).ms,egsN (spQ (mkC p)).es,tuV (spA (mkC p) (sync0 (allA (mkC p))).1),tuV (spB (mkC p) (sync0 (allA (mkC p))).1),sliN (spP (mkC p) (sync0 (auL (mkC p).cs)).1 (sync0 (allA (mkC p))).1),rss (forb (mkC p) (sync0 (allA (mkC p))).1.length)],SE.rsV (resC (mkC p)),.int .i64 0])at d;generalize forb (mkC p) (sync0 (allA (mkC p))).1.length=F at*;generalize spA (mkC p) (sync0 (allA (mkC p))).1=A at*;generalize spB (mkC p) (sync0 (allA (mkC p))).1=B at*;generalize spP (mkC p) (sync0 (auL (mkC p).cs)).1 (sync0 (allA (mkC p))).1=X at*;generalize resC (mkC p)=r at*;generalize spQ (mkC p)=q at*;generalize mkC p=c at*;generalize plnC p=C at*;unfold XK.s33;refine Zc1 (Zc7 hlen a f) ?_;refine cp g ?_;refine Zc0 ?_;refine cp d ?_;refine Zc0 ?_;refine⟨.inr trivial,_,rfl,Zct ?_⟩;rw[noRef,noRefs,hnw];rfl
end Go.AM.SO
namespace Go.AM.SO
open Go.Proofs Go.AM.SD Go.AM.SE
theorem Qtg{S:Aut}{n s:Nat}{w:List Nat}:wlk S (n::w) s=match(sOut S.es (fun _=>true) s)[n%(sOut S.es (fun _=>true) s).length]? with|none=>([],s)|some x=>(x.2.1::(wlk S w x.2.2).1,(wlk S w x.2.2).2):=rfl
theorem Qus{S:Aut}{s:Nat}:wlk S [] s=([],s):=rfl
def wkO(r:Res)(w:List Nat):List Nat×Nat:=if r.sup.n=0 then([],0)else((wlk r.sup w 0).1,r.orig.getD (wlk r.sup w 0).2 0)
theorem QvK(es:List Ed)(s:Nat):sOut es (fun _=>true) s=es.filter fun x=>x.1==s:=by unfold sOut;refine ZbL fun x _=>?_;simp
theorem Qr4(l:List Ed):(l.flatMap edC).length=l.length*3:=Qba (k:=3) (fun _=>rfl) l
theorem Qr5{l:List Ed}{j s:Nat}{x:Ed}(h:l[j]?=some x):(l.take (j+1)).filter (fun x=>x.1==s)=(l.take j).filter (fun x=>x.1==s)++if x.1=s then[x]else[]:=by
 rw[take_succ' h,Za7,Zbz];by_cases e:x.1=s;·simp[e]
 simp[e]
theorem walk34{c:Cel}{q:Aut}{TA TB:List (List Nat)}{X:List Nat}{F:List (Nat×Int×Int×Int)}{r:Res}(s:WfA r.sup)(Z:r.orig.length=r.sup.n)(w:List Nat)(M:∀x∈w,x<256)(hwl:w.length<=8):PSpec Tryz.prog 34 [.agg (wldP c q TA TB X F r),.fsl (u8s w) w.length 1] (.tup [sliN (wkO r w).1,.int .i64 ((wkO r w).2:Int)]):=by
 have o:=@nrW c q TA TB X F r;refine Zcx 64 XK.ok34 rfl (by rw[noRefs,nrW1,noRefs,noRef,QaG];rfl) (by simp only[noRef,noRefs,Qad];rfl) ?_;have hnw:=QaG w;have R:=WfA.el1 s;have hn5:=s.n5;have d:noRef (.fsl (u8s w) w.length 1)=true:=by rw[noRef,hnw]
 have t:=Qah r.sup.es;unfold XK.s34;refine Zc0 ?_;refine Qap 140 (fun z:Nat×List Nat×Nat=>[(2,.ptr 50 0 0),(6,.int .i64 (z.2.2:Int)),(7,.sl 61 0 0 z.2.1.length 1),(14,.fsl (u8s w) w.length 1),(15,.int .i64 w.length),(16,.int .i64 z.1)]) (fun z=>[(50,.cells 0 (wldP c q TA TB X F r)),(61,.cells 0 (ints (nz z.2.1)))]) (fun z=>z.1<=w.length/\z.2.1.length<=z.1/\wlk r.sup w 0=(z.2.1++(wlk r.sup (w.drop z.1) z.2.2).1,(wlk r.sup (w.drop z.1) z.2.2).2)) (fun z=>w.length-z.1) (0,[],0) 0 300 (fun z:List Nat×Nat=>[(2,.ptr 50 0 0),(6,.int .i64 (z.2:Int)),(7,.sl 61 0 0 z.1.length 1)]) (fun z=>[(50,.cells 0 (wldP c q TA TB X F r)),(61,.cells 0 (ints (nz z.1)))]) (fun z=>z=wlk r.sup w 0/\z.1.length<=w.length) ?_ ⟨Zah _,ZaN _,rfl⟩ ?_ ?_;·exact⟨[(50,.blk 64 0),(61,.nil)],rfl,ZcB,ZcF rfl rfl gg (Zcv o) (ZcG rfl rfl ZcE),ZcD (Rn.x2 rfl rfl) (ZcD (Zct rfl) (ZcD (Rn.x4 rfl rfl) (ZcD (Zct d) au29)))⟩
 ·rintro⟨i,out,a⟩⟨hi,I,hk⟩;dsimp only at hi I hk⊢;have Q:(ints (nz out)).length=out.length:=by simp[ints]
  by_cases h:i<w.length
  ·obtain⟨x,K⟩:=Qao h;have N:((u8s w).drop i).head?=some (.int .u8 (x:Int)):=by rw[Zca];exact Qhb K
   have Y:x<256:=M x (Zac K);have u:w.drop i=x::w.drop (i+1):=by rw[Zbi h,(Zaf.1 K).2]
   rw[u]at hk;have hEl:(r.sup.es.filter fun y=>y.1==a).length<=131072:=Zav (ZaG ..) R;refine Zc1 (Zc6 h N) ?_;refine Qap 140 (fun j:Nat=>[(2,.ptr 50 0 0),(6,.int .i64 (a:Int)),(7,.sl 61 0 0 out.length 1),(9,.int .u8 (x:Int)),(10,.sl 62 0 0 ((r.sup.es.take j).filter fun y=>y.1==a).length 3),(14,.fsl (u8s w) w.length 1),(15,.int .i64 w.length),(16,.int .i64 i),(23,egsN r.sup.es),(24,.int .i64 r.sup.es.length),(25,.int .i64 j)]) (fun j=>[(50,.cells 0 (wldP c q TA TB X F r)),(61,.cells 0 (ints (nz out))),(62,.cells 0 (((r.sup.es.take j).filter fun y=>y.1==a).flatMap edC))]) (fun j=>j<=r.sup.es.length) (fun j=>r.sup.es.length-j) 0 2 420 (fun _:Unit=>[(2,.ptr 50 0 0),(6,.int .i64 (a:Int)),(7,.sl 61 0 0 out.length 1),(9,.int .u8 (x:Int)),(10,.sl 62 0 0 (r.sup.es.filter fun y=>y.1==a).length 3),(14,.fsl (u8s w) w.length 1),(15,.int .i64 w.length),(16,.int .i64 i)]) (fun _=>[(50,.cells 0 (wldP c q TA TB X F r)),(61,.cells 0 (ints (nz out))),(62,.cells 0 ((r.sup.es.filter fun y=>y.1==a).flatMap edC))]) (fun _=>True) ?_ (Zah _) ?_ ?_;·exact⟨[(50,.blk 50 0),(61,.blk 61 0),(62,.nil)],rfl,ZcB,ZcF rfl rfl gg (Zcv o) (ZcF rfl rfl gg (Zcv (Qad _)) (ZcG rfl rfl ZcE)),ZcD (Rn.x2 rfl rfl) (ZcD (Zct rfl) (ZcD (Rn.x1 rfl rfl) (ZcD (Zct rfl) (ZcD (Rn.x4 rfl rfl) (ZcD (Zct d) (ZcD (Zct rfl) (ZcD (Zct rfl) (ZcD (Zct t) au29))))))))⟩
   ·rintro j hj;by_cases f:j<r.sup.es.length
    ·obtain⟨y,C⟩:=Qao f;have b:=QaJ C;have k:3<=((r.sup.es.flatMap edC).drop (j*3)).length:=by rw[b];simp
     have g:=Qr5 (s:=a) C;have hfl:((r.sup.es.take j).filter fun y=>y.1==a).length<=j:=Zav (ZaG ..) (by simp;omega);have B:=Qr4 ((r.sup.es.take j).filter fun y=>y.1==a);by_cases e:y.1=a
     ·have S:(y.1:Int)=(a:Int):=by omega
      rw[if_pos e]at g;refine Zc1 (Zc9 f b k S B) ?_;refine⟨j+1,by omega,by omega,?_⟩;rw[g,Zar,Zae,show[y].flatMap edC=[.int .i64 (a:Int),.int .i64 (y.2.1:Int),.int .i64 (y.2.2:Int)]by simp[edC,e]];exact⟨[(50,.blk 50 0),(61,.blk 61 0),(62,.blk 62 1)],rfl,ZcB,ZcF rfl rfl gg (Zcv o) (ZcF rfl rfl gg (Zcv (Qad _)) (ZcF rfl rfl gg (Zcv (SU.Qau (Qaf _) rfl)) ZcE)),ZcD (Rn.x2 rfl rfl) (ZcD (Zct rfl) (ZcD (Rn.x1 rfl rfl) (ZcD (Zct rfl) (ZcD (Rn.x1 rfl rfl) (ZcD (Zct d) (ZcD (Zct rfl) (ZcD (Zct rfl) (ZcD (Zct t) au29))))))))⟩
     have S:¬(y.1:Int)=(a:Int):=by omega
     rw[if_neg e,Zaq]at g;refine Zc1 (Zc8 f b k S) ?_;refine⟨j+1,by omega,by omega,?_⟩;rw[g];exact⟨[(50,.blk 50 0),(61,.blk 61 0),(62,.blk 62 0)],rfl,ZcB,ZcF rfl rfl gg (Zcv o) (ZcF rfl rfl gg (Zcv (Qad _)) (ZcF rfl rfl gg (Zcv (Qaf _)) ZcE)),ZcD (Rn.x2 rfl rfl) (ZcD (Zct rfl) (ZcD (Rn.x1 rfl rfl) (ZcD (Zct rfl) (ZcD (Rn.x1 rfl rfl) (ZcD (Zct d) (ZcD (Zct rfl) (ZcD (Zct rfl) (ZcD (Zct t) au29))))))))⟩
    have e:j=r.sup.es.length:=by omega
    subst e;refine Zc3 f ?_;exact⟨(),[(50,.blk 50 0),(61,.blk 61 0),(62,.blk 62 0)],rfl,ZcB,ZcF rfl rfl gg (Zcv o) (ZcF rfl rfl gg (Zcv (Qad _)) (ZcF rfl rfl gg (Zcv (Qaf _)) ZcE)),ZcD (Rn.x2 rfl rfl) (ZcD (Zct rfl) (ZcD (Rn.x1 rfl rfl) (ZcD (Zct rfl) (ZcD (Rn.x1 rfl rfl) (ZcD (Zct d) (ZcD (Zct rfl) (ZcD (Zct rfl) ZcC)))))))⟩
   rintro _ _;rw[Qtg,QvK]at hk;have B:=Qr4 (r.sup.es.filter fun y=>y.1==a);generalize(r.sup.es.filter fun y=>y.1==a)=E at*;by_cases hE:E.length=0
   ·have p:(E.length:Int)=0:=by omega
    have L:E=[]:=Zbm hE;rw[L]at hk;simp only[Za8,Nat.mod_zero,List.getElem?_nil,Zaq]at hk;refine Zc1 p ?_;exact⟨(out,a),⟨hk.symm,by dsimp only;omega⟩,[(50,.blk 50 0),(61,.blk 61 0)],rfl,ZcB,ZcF rfl rfl gg (Zcv o) (ZcF rfl rfl gg (Zcv (Qad _)) ZcE),ZcD (Rn.x2 rfl rfl) (ZcD (Zct rfl) (ZcD (Rn.x1 rfl rfl) ZcC))⟩
   have p:¬(E.length:Int)=0:=by omega
   have hm:x%E.length<E.length:=Zce _ (by omega);obtain⟨y,C⟩:=Qao hm;rw[C]at hk;dsimp only at hk;have G:aBin .rem (.int .i64 (x:Int)) (.int .i64 (E.length:Int))=some (.int .i64 ((x%E.length:Nat):Int)):=Qhc (by omega);generalize x%E.length=m at*;have b:=QaJ C;have k:3<=((E.flatMap edC).drop (m*3)).length:=by rw[b];simp
   refine Zc1 (Zda p G hm b k Q) ?_;refine⟨(i+1,out++[y.2.1],y.2.2),by dsimp only;omega,⟨by dsimp only;omega,by dsimp only;rw[List.length_append,List.length_singleton];omega,?_⟩,?_⟩;·dsimp only;rw[hk,ZaR];rfl
   dsimp only;rw[QaD,Qay,Zae];exact⟨[(50,.blk 50 0),(61,.blk 61 1)],rfl,ZcB,ZcF rfl rfl gg (Zcv o) (ZcF rfl rfl gg (Zcv (SU.Qau (Qad _) rfl)) ZcE),ZcD (Rn.x2 rfl rfl) (ZcD (Zct rfl) (ZcD (Rn.x1 rfl rfl) (ZcD (Zct d) au29)))⟩
  have e:i=w.length:=by omega
  subst e;rw[Zcl]at hk;rw[Qus]at hk;dsimp only at hk;rw[Zaq]at hk;refine Zc1 h ?_;exact⟨(out,a),⟨hk.symm,by dsimp only;omega⟩,[(50,.blk 50 0),(61,.blk 61 0)],rfl,ZcB,ZcF rfl rfl gg (Zcv o) (ZcF rfl rfl gg (Zcv (Qad _)) ZcE),ZcD (Rn.x2 rfl rfl) (ZcD (Zct rfl) (ZcD (Rn.x1 rfl rfl) ZcC))⟩
 rintro⟨out,a⟩⟨V,P⟩;dsimp only at P⊢;unfold wkO;rw[<-V];dsimp only;by_cases U:r.sup.n=0
 ·have A:(r.orig.length:Int)=0:=by omega
  rw[if_pos U];refine Zc1 A ?_;exact⟨.inr trivial,_,rfl,Rn.tup (ZcL Zcu (Zcv rfl))⟩
 have A:¬(r.orig.length:Int)=0:=by omega
 rw[if_neg U];have H:=(QnE s w 0 (by omega)).2.2.1;rw[<-V]at H;dsimp only at H⊢;have l:a<r.orig.length:=by omega
 obtain⟨v,T⟩:=Qao l;have J:r.orig.getD a 0=v:=by rw[Zak,T];rfl
 rw[J];refine Zc1 (Zc7 A l (Qaz T)) ?_;exact⟨.inr trivial,_,rfl,Rn.tup (ZcL (ZcN (b:=61) rfl (by simp[ints]) (Zcv (Qad _))) (Zcv rfl))⟩
end Go.AM.SO
namespace Go.AM.SO
open Go.Proofs Go.AM.SD Go.AM.SE
def stZ(es:List Ed)(v:Nat)(e:Int):Option Nat:=if 0<=e then stepA es v e.toNat else none
theorem Qut(es:List Ed)(v e:Nat):stZ es v (e:Int)=stepA es v e:=by unfold stZ;rw[if_pos (by omega),ZbQ]
theorem Quu(es:List Ed)(v:Nat)(e:Int):stZ es v e=((sOut es (fun _=>true) v).find? fun x=>decide ((x.2.1:Int)=e)).map (·.2.2):=by
 unfold stZ;split;·rename_i h;obtain⟨k,rfl⟩:=ZaZ h;rw[ZbQ,Qd8];congr 2;funext x;exact decide_eq_decide.2 (by omega)
 rename_i h;rw[Zbb.2 fun x _ a=>by simp at a;omega];rfl
theorem QfK{a:Aut}(h:WfA a){v t:Nat}{e:Int}(b:stZ a.es v e=some t):t<a.n/\∃k:Nat,e=(k:Int)/\k∈a.al/\stepA a.es v k=some t:=by
 unfold stZ at b;split at b;·rename_i c;obtain⟨k,rfl⟩:=ZaZ c;rw[ZbQ]at b;refine⟨Qco h.esn b,k,rfl,?_,b⟩;unfold stepA at b;cases hf:a.es.find? fun x=>x.1==v&&x.2.1==k with|none=>rw[hf]at b;cases b|some x=>have h1:=ZbT hf;simp at h1;rw[<-h1.2];exact h.ev x (Za3 hf)
 cases b
theorem ev262Z(x:Ed)(e:Int):PSpec Tryz.prog 264 [.agg [.int .i64 (x.1:Int),.int .i64 (x.2.1:Int),.int .i64 (x.2.2:Int)],.fptr [.int .i64 e]] (.bool (decide ((x.2.1:Int)=e))):=by refine Zcy 64 TQ.ok264 rfl rfl rfl ?_;unfold TQ.s264;refine Zc0 ?_;exact⟨.inr trivial,_,rfl,rfl⟩
def nxZ(a:Aut)(v:Nat)(e:Int):Int:=match stZ a.es v e with|some t=>(t:Int)|none=>-1
theorem next226Z(a:Aut)(v:Nat)(e:Int)(h:WfA a)(q:v<a.n):PSpec Tryz.prog 219 [aV a,.int .i64 (v:Int),.int .i64 e] (.int .i64 (nxZ a v e)):=by
 have r:=h.n5;refine Zcy 64 TQ.ok219 rfl (by(try simp only[noRefs,Qad,Qaj,Qaf,noRef,noRefs,Zag,Zad])<;>rfl) rfl ?_;have ho:=out199 a v h (by omega);have g:(sOut a.es (fun _=>true) v).length<=131072:=Zav (ZaG ..) (WfA.el1 h);have m:=index48 (K:=264) (cap:=[.fptr [.int .i64 e]]) (fun x=>decide ((x.2.1:Int)=e)) (sOut a.es (fun _=>true) v) (by omega) rfl fun x _=>ev262Z x e;unfold nxZ;rw[Quu];generalize sOut a.es (fun _=>true) v=o at*;rw[Qgk];have s:=@QcN _ (fun x:Ed=>decide ((x.2.1:Int)=e)) o;have l:idxQ (fun x:Ed=>decide ((x.2.1:Int)=e)) o=-1/\o[o.findIdx fun x=>decide ((x.2.1:Int)=e)]?=none\/∃y,idxQ (fun x:Ed=>decide ((x.2.1:Int)=e)) o=((o.findIdx fun x=>decide ((x.2.1:Int)=e):Nat):Int)/\o[o.findIdx fun x=>decide ((x.2.1:Int)=e)]?=some y:=by
  unfold idxQ;by_cases c:o.any (fun x=>decide ((x.2.1:Int)=e))=true;·rw[if_pos c];obtain⟨y,p⟩:=Qao (Zbp (p:=fun x:Ed=>decide ((x.2.1:Int)=e)) (xs:=o) (by simpa using c));exact .inr ⟨y,rfl,p⟩
  rw[if_neg c];refine .inl ⟨rfl,ZaF (Nat.le_of_not_lt fun b=>c ?_)⟩;rw[ZbX];exact⟨_,List.getElem_mem b,Zcf (w:=b)⟩
 generalize(o.findIdx fun x=>decide ((x.2.1:Int)=e))=k at*;generalize idxQ (fun x:Ed=>decide ((x.2.1:Int)=e)) o=i at*;unfold TQ.s219;refine Zc0 ?_;refine cp ho ?_;refine Zc0 ?_;refine SU.chc (ZcQ (ZcT (Zcz _) (ZcT (FrzTo.fn ZcS (ZcT (ZcP (g:=0) (cs:=[.int .i64 e]) gg (ZcA _)) ZcS)) ZcS)) m rfl) ?_;rcases l with⟨rfl,hk⟩|⟨y,rfl,hk⟩;·refine Zc0 ?_;rw[hk];exact⟨.inr trivial,_,rfl,rfl⟩
 have f:k<o.length:=(Zaf.1 hk).1;have g1:¬(k:Int)<0:=by omega
 have d:=QaJ hk;refine Zc1 (Zc7 g1 f d) ?_;rw[hk];exact⟨.inr trivial,_,rfl,rfl⟩
def runZ(es:List Ed):Nat->List Int->Option Nat|s,[]=>some s|s,x::w=>match stZ es s x with|some n=>runZ es n w|none=>none
theorem QdN{es:List Ed}:∀{w:List Nat}{s:Nat},runZ es s (nz w)=runA es s w|[],s=>rfl|x::w,s=>by show(match stZ es s (x:Int)with|some n=>runZ es n (nz w)|none=>none)=_;rw[Qut];unfold runA;cases stepA es s x with|none=>rfl|some n=>exact QdN
theorem Qhq{a:Aut}(h:WfA a):∀{w:List Int}{s t:Nat},runZ a.es s w=some t->∃v:List Nat,w=nz v/\(∀x∈v,x∈a.al)|[],s,t,_=>⟨[],rfl,fun x g=>by cases g⟩|x::w,s,t,b=>by unfold runZ at b;cases d:stZ a.es s x with|none=>rw[d]at b;cases b|some n=>rw[d]at b;obtain⟨_,k,rfl,hk,_⟩:=QfK h d;obtain⟨v,rfl,f⟩:=Qhq h b;exact⟨k::v,rfl,fun y c=>by
 rcases Zas.1 c with rfl|c;·exact hk
 exact f y c⟩
def folZ(es:List Ed):Nat->List Int->Nat×Nat|s,[]=>(s,0)|s,x::w=>match stZ es s x with|some n=>((folZ es n w).1,(folZ es n w).2+1)|none=>(s,0)
theorem QiQ{es:List Ed}:∀{w:List Int}{s:Nat},(folZ es s w).2<=w.length/\decide ((folZ es s w).2=w.length)=(runZ es s w).isSome/\∀t,runZ es s w=some t->folZ es s w=(t,w.length)|[],s=>⟨ZaN _,rfl,fun t h=>by cases h;rfl⟩|x::w,s=>by unfold folZ runZ;cases c:stZ es s x with|none=>exact⟨Zah _,rfl,fun t h=>by cases h⟩|some n=>
 obtain⟨h1,a,b⟩:=@QiQ es w n;refine⟨by simp;omega,?_,fun t h=>?_⟩;·simp only[ZaI];rw[<-a];exact decide_eq_decide.2 (by omega)
 show((folZ es n w).1,(folZ es n w).2+1)=_;rw[b t h];rfl
theorem follow194Z(a:Aut)(w:List Int)(h:WfA a)(hp:0<a.n)(hw:w.length<=100000):PSpec Tryz.prog 163 [aV a,.int .i64 0,sli w] (.tup [.int .i64 ((folZ a.es 0 w).1:Int),.int .i64 ((folZ a.es 0 w).2:Int)]):=by
 have m:=h.n5;refine Zcy 64 TU.ok163 rfl (by(try simp only[noRefs,Qad,Qaj,Qaf,noRef,noRefs,Zag,Zad])<;>rfl) rfl ?_;unfold TU.s163;refine Zc0 ?_;refine QaM 100 (fun s:Nat×Nat=>[(1,.int .i64 s.2),(2,sli w),(3,.ptr 60 0 0),(11,sli w),(12,.int .i64 w.length),(13,.int .i64 s.1)]) (fun _=>[(60,.cells 0 [sliN a.al,.int .i64 (a.n:Int),sliN a.ms,egsN a.es])]) (fun s=>s.1<=w.length/\s.2<a.n/\folZ a.es 0 w=((folZ a.es s.2 (w.drop s.1)).1,(folZ a.es s.2 (w.drop s.1)).2+s.1)) (fun s=>w.length-s.1) (0,0) ?_ ⟨Zah _,hp,rfl⟩ ?_;·exact⟨[(60,.blk 64 0)],rfl,au0,au26,au23⟩
 rintro⟨i,s⟩⟨hi,l,hf⟩;simp only at hi l hf;by_cases b:i<w.length;·obtain⟨x,k⟩:=Qao b;have f:=QaX k;have g:=next226Z a s x h l;unfold nxZ at g;rw[Zbi b,(Zaf.1 k).2]at hf;refine Zc1 (Zc6 b f) ?_;refine cp g ?_;cases c:stZ a.es s x with|none=>simp only[folZ,c]at hf;rw[hf];refine Zc0 ?_;exact⟨.inr trivial,_,rfl,by(try simp only[Zb2]);rfl⟩|some n=>
  simp only[folZ,c]at hf;have d:=(QfK h c).1;have g1:¬(n:Int)<0:=by omega
  refine Zc1 g1 ?_;exact⟨(i+1,n),by simp;omega,⟨by simp;omega,d,by rw[hf];simp;omega⟩,⟨[(60,.blk 60 0)],rfl,au0,au26,au23⟩⟩
 have e:i=w.length:=by omega
 subst e;rw[Zcl]at hf;simp only[folZ]at hf;refine Zc1 b ?_;rw[hf];exact⟨.inr trivial,_,rfl,by(try simp only[Zb2]);rfl⟩
theorem reached113Z(a:Aut)(w:List Int)(h:WfA a)(hp:0<a.n)(hw:w.length<=100000):PSpec Tryz.prog 92 [aV a,sli w] (.tup [.int .i64 ((folZ a.es 0 w).1:Int),.bool (runZ a.es 0 w).isSome]):=by
 have d:=h.n5;refine Zcy 64 TU.ok92 rfl (by(try simp only[noRefs,Qad,Qaj,Qaf,noRef,noRefs,Zag,Zad])<;>rfl) rfl ?_;have c:=follow194Z a w h hp hw;obtain⟨h1,b,_⟩:=@QiQ a.es w 0;have g0:¬(a.n:Int)=0:=by omega
 unfold TU.s92;refine Zc1 g0 ?_;refine cp c ?_;refine Zc1 b ?_;exact⟨.inr trivial,_,rfl,rfl⟩
theorem generates40Z(a:Aut)(w:List Int)(h:WfA a)(hp:0<a.n)(hw:w.length<=100000):PSpec Tryz.prog 40 [aV a,sli w] (.tup [.bool (runZ a.es 0 w).isSome,.int .i64 0]):=by refine Zcy 64 TU.ok40 rfl (by(try simp only[noRefs,Qad,Qaj,Qaf,noRef,noRefs,Zag,Zad])<;>rfl) rfl ?_;have hc:=check112B a h;have b:=reached113Z a w h hp hw;unfold TU.s40;refine Zc0 ?_;refine cp hc ?_;refine Zc0 ?_;refine cp b ?_;refine Zc0 ?_;exact⟨.inr trivial,_,rfl,rfl⟩
theorem run217(a:Aut)(x:Nat)(h:WfA a):PSpec Tryz.prog 217 [.int .i64 (x:Int),.fptr [sliN a.al,.int .i64 (a.n:Int),sliN a.ms,egsN a.es]] (.bool (!a.al.contains x)):=by
 refine Zcy 64 XA.ok217 rfl (by simp only[noRefs,noRef,Qad,Qaf];rfl) rfl ?_;have d:=QbD h.al h.al5;have c:=contains62 (nz a.al) (x:Int) (by simp;omega);have hm:decide ((x:Int)∈nz a.al)=a.al.contains x:=by
  rw[Zbu,decide_eq_true_eq,ZaE];constructor
  ·intro b;obtain⟨y,f,e⟩:=Zan.1 b;have:y=x:=by omega
   rw[<-this];exact f
  intro b;exact Zan.2 ⟨x,b,rfl⟩
 rw[hm,Qbt]at c;unfold XA.s217;refine Zc0 ?_;refine cp c ?_;refine Zc0 ?_;exact⟨.inr trivial,_,rfl,rfl⟩
theorem run141(a:Aut)(w:List Nat)(h:WfA a)(hp:0<a.n)(hw:w.length<=100000)(k:∀x∈w,x∈a.al){t:Nat}(g:runA a.es 0 w=some t):PSpec Tryz.prog 141 [aV a,.int .i64 0,sliN w] (.tup [.int .i64 (t:Int),.int .i64 w.length,.int .i64 0]):=by
 refine Zcy 64 XA.ok141 rfl (by(try simp only[noRefs,Qad,Qaj,Qaf,noRef,noRefs,Zag,Zad])<;>rfl) rfl ?_;have i:PSpec Tryz.prog 204 [aV a,.int .i64 0] (.int .i64 0):=state207 a 0 h hp;have d:=contains36 (K:=217) (cap:=[.fptr [sliN a.al,.int .i64 (a.n:Int),sliN a.ms,egsN a.es]]) (fun x=>!a.al.contains x) w (by omega) (by simp only[noRefs,noRef,Qad,Qaf];rfl) fun x _=>run217 a x h;have b:w.any (fun x=>!a.al.contains x)=false:=by rw[List.any_eq_false];intro x l;simp[k x l]
 rw[b]at d;have c:=follow194Z a (nz w) h hp (by simpa[nz]using hw);rw[(@QiQ a.es (nz w) 0).2.2 t (by rw[QdN];exact g),Qbt]at c;have f:(nz w).length=w.length:=by simp[nz]
 rw[f]at c;unfold XA.s141;refine Zc0 ?_;refine cp i ?_;refine Zc0 ?_;refine SU.chc (ZcQ (ZcT (Zcz _) (ZcT (FrzTo.fn ZcS (ZcT (ZcP (g:=0) (cs:=[sliN a.al,.int .i64 (a.n:Int),sliN a.ms,egsN a.es]) gg (ZcA _)) ZcS)) ZcS)) d rfl) ?_;refine Zc0 ?_;refine cp c ?_;refine Zc0 ?_;exact⟨.inr trivial,_,rfl,rfl⟩
end Go.AM.SO
namespace Go.AM.SO
open Go.Proofs Go.AM.SD Go.AM.SE
theorem QeZ(c:Cel)(h:WfCel c):StOk c (spQ c) (leftC c) (forbC c) (resC c) (uncL c.ev 5):=by
 have hw:=wfA_c c h;have a:=Qct c h;have d:=hw.n5;refine⟨hw,(Qkf _).1,?_,a,(QjI c _).1,?_,Qr1 hw,?_⟩;·have :(uncL c.ev 5).length<=5:=Zav (ZaG ..) (by simp);omega
 ·have :=Qgm c (sync0 (allA c)).1.length;have b:(syncA (allA c)).n=(sync0 (allA c)).1.length:=rfl;show(forb c (sync0 (allA c)).1.length).length<=1000000;omega
 have :=QlC a;omega
theorem eventC(c:Cel)(h:WfCel c){v:Nat}(g:v<(spQ c).n)(e:Nat):PSpec Tryz.prog 79 [.fptr (stdC c),.int .i64 (v:Int),.int .i64 (e:Int)] (expV (eventX c v e)):=by
 rw[Qcu];have l:=QhB g;obtain⟨m,b⟩:=QfH h _ (Zac l);have a:=QiO (A:=auL c.cs) (B:=auL c.rs) m;rw[Qa1]at a;have hp:WfA (plA c):=(QdM (Qa5 h) (by rw[Qa1];have:=h.c3;omega)).toWfA;have hk:ixT (sync0 (auL c.cs)).1 ((tup c v).take c.cs.length)<(plA c).n:=Qhj b;have o:(spP c (sync0 (auL c.cs)).1 (sync0 (allA c)).1)[v]?=some (ixT (sync0 (auL c.cs)).1 ((tup c v).take c.cs.length)):=by unfold spP;rw[ZaD,l];rfl
 have r:(spB c (sync0 (allA c)).1)[v]?=some ((tup c v).drop c.cs.length):=by unfold spB;rw[ZaD,l];rfl
 have d:((plA c).al.contains e&&(stepA (plA c).es (ixT (sync0 (auL c.cs)).1 ((tup c v).take c.cs.length)) e).isSome)=pOk c v e:=by unfold pOk;cases hc:(evA (auL c.cs)).contains e with|false=>have:(plA c).al.contains e=false:=hc;rw[this];rfl|true=>have k:(plA c).al.contains e=true:=hc;rw[k,Qgq (Qa5 h) (Qhz b) (ZaE.1 hc),Option.isSome_map]
 have f:=@event79 c (plA c) (spQ c) (spA c (sync0 (allA c)).1) (spB c (sync0 (allA c)).1) (spP c (sync0 (auL c.cs)).1 (sync0 (allA c)).1) (forbC c) (resC c) (uncL c.ev 5) (leftC c) (QeZ c h) hp h.r2 h.ra v _ e _ o hk g r (by rw[a.1,Qa1]) (fun i y p=>a.2 i y.2 (by rw[ZaD,p];rfl)) (fun q1 q2 s=>by
  have q:pOk c v e=true:=by rw[<-d,q1,q2];rfl
  exact(QjL h g).2 ⟨q,s⟩);rw[d]at f;exact f
theorem leadsC(c:Cel)(h:WfCel c)(s:Nat){n:Nat}{x:Rm}(b:remAt (resC c).rem n=some x):PSpec Tryz.prog 82 [.fptr (stdC c),.int .i64 (s:Int),.int .i64 (n:Int)] (expV (leadsX c s n)):=by rw[Qcu];unfold leadsX;have a:=@leads82 c (plA c) (spQ c) (spA c (sync0 (allA c)).1) (spB c (sync0 (allA c)).1) (spP c (sync0 (auL c.cs)).1 (sync0 (allA c)).1) (forbC c) (resC c) (uncL c.ev 5) (leftC c) (QeZ c h) s n x b;generalize leadsG (syncA (allA c)) (uncL c.ev 5) (resC c).rem (forbC c) s n=L at*;exact a
theorem keptC(c:Cel)(s:Nat):PSpec Tryz.prog 81 [.fptr (stdC c),.int .i64 (s:Int)] (.bool (remAt (resC c).rem s).isNone):=by rw[Qcu];exact@kept81 c (plA c) (spQ c) (spA c (sync0 (allA c)).1) (spB c (sync0 (allA c)).1) (spP c (sync0 (auL c.cs)).1 (sync0 (allA c)).1) (forbC c) (resC c) (uncL c.ev 5) s
theorem QfL(c:Cel)(h:WfCel c):WfA (resC c).sup:=QmH (left:=leftC c) (wfA_c c h)
theorem QiR(c:Cel):(resC c).orig.length=(resC c).sup.n:=rfl
theorem Qdf(c:Cel):noRef (.fptr (stdC c))=true:=by rw[noRef];exact QjK c
theorem behindK(c:Cel)(h:WfCel c)(w:List Nat)(C:w.length<=4096){t v:Nat}(m:runA (resC c).sup.es 0 w=some t)(G:(resC c).sup.n≠0)(z:(resC c).orig[t]?=some v):PSpec Tryz.prog 78 [celV c,sliN w] (.tup [.fptr (stdC c),.int .i64 (v:Int),.int .i64 0]):=by
 have b:=Qdf c;refine Zcx 64 XA.ok78 rfl (by rw[noRefs,SU.QaK,noRefs,Qae];rfl) (by rw[noRef,noRefs,b];rfl) ?_;have hO:=open80 c h;have a:=QfL c h;have s:=generates40Z (resC c).sup (nz w) a (by omega) (by simpa[nz]using(by omega:w.length<=100000));rw[QdN,m,Qbt]at s;obtain⟨E,g,d⟩:=Qhq a (w:=nz w) (by rw[QdN];exact m);have k:E=w:=by
  have:=congrArg (List.map Int.toNat) g;unfold nz at this;rw[List.map_map,List.map_map]at this;have e:∀l:List Nat,l.map (Int.toNat∘fun x:Nat=>(x:Int))=l:=fun l=>by rw[show(Int.toNat∘fun x:Nat=>(x:Int))=id from funext fun x=>ZbQ x,List.map_id]
  rw[e,e]at this;exact this.symm
 rw[k]at d;have f:=run141 (resC c).sup w a (by omega) (by omega) d m;have i:=(Zaf.1 z).1;have o:=Qaz z;have y:noRef (.fptr (stdC c))=true:=b;rw[Qcu]at hO y⊢;generalize resC c=r at*;generalize spQ c=q at*;generalize plA c=p at*;generalize spA c (sync0 (allA c)).1=A at*;generalize spB c (sync0 (allA c)).1=B at*;generalize spP c (sync0 (auL c.cs)).1 (sync0 (allA c)).1=X at*;generalize forb c (sync0 (allA c)).1.length=F at*;generalize uncL c.ev 5=u at*;have g0:¬(r.sup.n:Int)=0:=by omega
 have g1:¬(4096:Int)<(w.length:Int):=by omega
 unfold XA.s78;refine Zc0 ?_;refine cp hO ?_;refine Zc1 (Zc6 g0 g1) ?_;refine cp s ?_;refine Zc0 ?_;refine cp f ?_;refine Zc1 (Zc6 i o) ?_;refine⟨.inr trivial,_,rfl,Zct ?_⟩;rw[noRef,noRefs,y];rfl
theorem rnx0{m:Nat}{π:Nat->Option Src}{h:Heap}:Rn m π h (expV x00) (.agg [.int .i64 0,.int .i64 0,.int .i64 0,.int .i64 0,.nilsl,.int .i64 0,.int .i64 0,.int .i64 0,.int .i64 0,.int .i64 0,.int .i64 0,.int .i64 0,.int .i64 0,.int .i64 0]):=Rn.agg (ZcL (Zct rfl) (ZcL (Zct rfl) (ZcL (Zct rfl) (ZcL (Zct rfl) (ZcL Zcu (Zcv rfl))))))
theorem event22K(c:Cel)(h:WfCel c)(w:List Nat)(b:w.length<=4096){t v:Nat}(i:runA (resC c).sup.es 0 w=some t)(m:(resC c).sup.n≠0)(f:(resC c).orig[t]?=some v){e:Nat}(he:e<5):PSpec Tryz.prog 22 [celV c,sliN w,.int .i64 (e:Int)] (.tup [expV (eventX c v e),.int .i64 0]):=by
 have a:=(QfJ h f).1;have g:=eventC c h a e;have k:=behindK c h w b i m f;generalize eventX c v e=x at*;refine Zcx 64 XA.ok22 rfl (by rw[noRefs,SU.QaK,noRefs,Qae];rfl) (by rw[noRef,noRefs,QaR];rfl) ?_;have l:=QaY c;have d:=QaR x;have g1:¬(e:Int)<0:=by omega
 have g2:¬(5:Int)<=(e:Int):=by omega
 generalize stdC c=S at*;unfold XA.s22;refine Zc0 ?_;refine cp k ?_;refine Zc1 (Zc6 g1 g2) ?_;refine cp g ?_;refine Zc0 ?_;refine⟨.inr trivial,_,rfl,Zct ?_⟩;rw[noRef,noRefs,d];rfl
theorem state23K(c:Cel)(h:WfCel c){s:Nat}(l:s<(spQ c).n):PSpec Tryz.prog 23 [celV c,.int .i64 (s:Int)] (match remAt (resC c).rem s with|some _=>.tup [expV (leadsX c s s),.int .i64 0]|none=>.tup [expV x00,.int .i64 22]):=by
 have hO:=open80 c h;have i:=QaY c;have a:=keptC c s;have f:=fun x k=>@leadsC c h s s x k;have g:=Qdf c;rw[Qcu]at hO a f g;generalize leadsX c s s=L at*;generalize resC c=r at*;generalize spQ c=q at*;generalize plA c=p at*;generalize spA c (sync0 (allA c)).1=A at*;generalize spB c (sync0 (allA c)).1=B at*;generalize spP c (sync0 (auL c.cs)).1 (sync0 (allA c)).1=X at*;generalize forb c (sync0 (allA c)).1.length=F at*;generalize uncL c.ev 5=u at*;have b:=QaR L;have g1:¬(s:Int)<0:=by omega
 have g2:¬(q.n:Int)<=(s:Int):=by omega
 cases hm:remAt r.rem s with|none=>rw[hm]at a;dsimp only[Option.isNone_none]at a⊢;refine Zcx 64 XA.ok23 rfl (by rw[noRefs,SU.QaK];rfl) rfl ?_;unfold XA.s23;refine Zc0 ?_;refine cp hO ?_;refine Zc1 (Zc6 g1 g2) ?_;refine cp a ?_;refine Zc0 ?_;exact⟨.inr trivial,_,rfl,Rn.tup (ZcL rnx0 (Zcv rfl))⟩|some x=>have d:=f x hm;rw[hm]at a;dsimp only[Option.isNone_some]at a⊢;refine Zcx 64 XA.ok23 rfl (by rw[noRefs,SU.QaK];rfl) (by rw[noRef,noRefs,b];rfl) ?_;unfold XA.s23;refine Zc0 ?_;refine cp hO ?_;refine Zc1 (Zc6 g1 g2) ?_;refine cp a ?_;refine Zc0 ?_;refine cp d ?_;refine Zc0 ?_;refine⟨.inr trivial,_,rfl,Zct ?_⟩;rw[noRef,noRefs,b];rfl
end Go.AM.SO
namespace Go.AM.SO
open Go.Proofs Go.AM.SD Go.AM.SE
theorem Qr6{n:Nat}{l:List Vs}(a:LOk n l):∀(j:Nat)w,l[j]?=some w->w.run.length<=j:=by intro j;induction j using Nat.strongRecOn with|_ j g=>
 intro w hw;rcases a.bf j w hw with⟨_,b2⟩|⟨b,f,_,b2,d,c⟩;·rw[b2];simp
 have :=g b b2 f d;rw[c,Zae,Zbg];omega
theorem Quv{a:Aut}{u:List Nat}{R:List Rm}(h:WfA a):∀(k i:Nat)(l:List Vs){r:List Nat}{t:Nat},LOk a.n l->bgo a u R k i l=some (r,t)->r.length<=a.n:=by intro k;induction k with|zero=>intro i l r t _ b;cases b|succ k f=>
 intro i l r t d b;unfold bgo at b;split at b;·cases b
 rename_i v c;split at b;·cases b;have:=Qr6 d i v c;have:=(Zaf.1 c).1;have:=d.len;omega
 exact f _ _ (d.exts (es:=ucE a u v.st) c fun e he=>QjE h he).1 b
theorem Qfb{q:Aut}{u:List Nat}{R:List Rm}{F:List (Nat×Int×Int×Int)}{s n:Nat}(h:WfA q)(b:n<q.n):(leadsG q u R F s n).run.length<=1000000:=by
 have c:=h.n5;unfold leadsG;split;·rename_i r t a;have:=Quv h _ _ _ (LOk.one b) a;show r.length<=_;omega
 exact Zah _
end Go.AM.SO
namespace Go.AM.SO
open Go.Proofs Go.AM.SD Go.AM.SE
end Go.AM.SO
namespace Go.AM.SO
open Go.Proofs Go.AM.SD Go.AM.SE
end Go.AM.SO
namespace Go.AM.XL
open Go.Proofs
set_option maxHeartbeats 4000000
noncomputable section
def cf:YA.Cf:={most:=.pure,always:=[39,40,41,45,46].map fun k=>(k,.heap)}
end
end Go.AM.XL
namespace Go.AM.SO
open Go.Proofs Go.AM.SD Go.AM.SE
theorem spQ_5(c:Cel)(h:WfCel c):∀x∈(spQ c).al,x<5:=(QdM (Qcd h) (by rw[Qb8];have:=h.c3;have:=h.r2;omega)).a5
theorem walkW(c:Cel)(h:WfCel c)(w:List Nat)(a:∀x∈w,x<256)(b:w.length<=8):PSpec Tryz.prog 34 [.agg (wldC c),.fsl (u8s w) w.length 1] (.tup [sliN (wkO (resC c) w).1,.int .i64 ((wkO (resC c) w).2:Int)]):=by unfold wldC;exact walk34 (QfL c h) (QiR c) w a b
theorem wk_ok(c:Cel)(h:WfCel c)(w:List Nat)(a:(resC c).sup.n≠0):∃t,runA (resC c).sup.es 0 (wkO (resC c) w).1=some t/\(resC c).orig[t]?=some (wkO (resC c) w).2/\(wkO (resC c) w).1.length<=w.length:=by
 obtain⟨q1,q2,b,d⟩:=QnE (QfL c h) w 0 (by omega);unfold wkO;rw[if_neg a];refine⟨_,q1,?_,q2⟩;have:(wlk (resC c).sup w 0).2<(resC c).orig.length:=by rw[QiR];exact b
 rw[Zak,Zal this];rfl
theorem QcT(c:Cel):wldC c=wldP c (spQ c) (spA c (sync0 (allA c)).1) (spB c (sync0 (allA c)).1) (spP c (sync0 (auL c.cs)).1 (sync0 (allA c)).1) (forb c (sync0 (allA c)).1.length) (resC c):=rfl
end Go.AM.SO
namespace Go.AM.SO
open Go.Proofs Go.AM.SD Go.AM.SE
end Go.AM.SO
namespace Go.AM.EM
open Go.Proofs
set_option maxHeartbeats 4000000
noncomputable section
def cf:YA.Cf:={always:=[(83,.borrow)]}
noncomputable def ft:FT2:=YA.tre Tryz.prog cf 20 [15,16,17,19,21,22,26,27,36,39,40,41,46,48,57,58,59,60,61,62,63,64,68,69,73,74,75,76,77,78,79,80,81,82,83,84,89,90,91,92,96,97,99,108,109,112,113,114,115,116,117,118,119,120,121,122,123,124,125,128,129,130,131,132,133,134,135,136,137,138,139,140,141,142,143,144,145,146,147,148,160,161,162,163,171,174,175,176,177,178,179,180,181,182,194,196,197,198,199,200,201,202,203,204,205,214,215,216,217,218,219,220,221,222,227,228,229,230,231,232,234,235,238,249,250,251,252,253,254,255,256,257,261,262,263,264,265,270,271,272,287,288,289,290,291,297,298,299,300,301,302,303,304,312,313,314,315,316,317,318,319,320,321]
theorem ft_ok:ft.OK Tryz.prog:=YA.QgS _ _ (YA.QfW (by kernel_rfl))
end
end Go.AM.EM
