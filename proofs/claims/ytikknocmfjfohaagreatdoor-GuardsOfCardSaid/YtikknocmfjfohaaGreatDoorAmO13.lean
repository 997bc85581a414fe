/- A part of the proof of GuardsOfCardSaid: lemmas on the way (AmTq, AnBp, AnBk, AnBl, AnBm, AnBn, AnBo, AnCa, AnCb, AnFa, AnBFb, AnBw, AnBFd, AnBy, AnBFe, AnCc, AnCe, AnCf, AmTi, AnCg, AnCh). Conditions: none of ours. -/
import Derived.Shelf.SlSortCmp.NoneTotal
import Derived.Test.YtikknocmfjfohaaGreatDoorProg
import Derived.KernelRfl
import Derived.Test.YtikknocmfjfohaaGreatDoorAmO12
theorem Go.AM.bOXrn{p:Prop}(h:p:=by
 refine⟨[(41,.blk 41 0),(61,.blk 61 0),(70,.blk 70 0),(71,.blk 71 0),(72,.blk 72 0),(74,.blk 74 1)],rfl,au0,?_,au11⟩;repeat'(first|exact Zcv|(refine Zcl ?_;first|rfl|(simp only[noRef,noRefs,Qaf,Zae,Zad,Zag,Qaa,Qal,Qag,Qan,Qap,Qaz,Qai,Qah,Qab,Qaq,Qaj,Qam,Qao,Qav];done))|exact ZcJ rfl|exact ZcB|exact(True.intro:RnM _ _ _ [] [])|refine ZcC ?_ ?_|(refine Zck ?_;first|rfl|(simp only[noRef,noRefs,Qaf,Zae,Zad,Zag,Qaa,Qal,Qag,Qan,Qap,Qaz,Qai,Qah,Qab,Qaq,Qaj,Qam,Qao,Qav];done))|exact Rn.x1 rfl rfl|exact Rn.x2 rfl rfl|exact Rn.x3 rfl rfl|exact Rn.x4 rfl rfl|exact Rn.x5 rfl|exact Rn.x6 rfl|exact Rn.x7 rfl|refine Zcx rfl rfl ?_|refine Zcw rfl rfl rfl ?_ ?_|refine Zcy rfl rfl rfl ?_ ?_|refine Zcz rfl rfl ?_ ?_|refine ZcA rfl rfl ?_ ?_)
 exact ZcO fun x _=>Zck (Qab _)):p:=h
theorem Go.AM.bwluU{p:Prop}(h:p:=by
 refine⟨(),?_⟩;refine⟨[(41,.blk 41 0),(61,.blk 61 0),(70,.blk 70 0),(71,.blk 71 0),(72,.blk 72 0),(74,.blk 74 0)],rfl,au0,?_,au11⟩;repeat'(first|exact Zcv|(refine Zcl ?_;first|rfl|(simp only[noRef,noRefs,Qaf,Zae,Zad,Zag,Qaa,Qal,Qag,Qan,Qap,Qaz,Qai,Qah,Qab,Qaq,Qaj,Qam,Qao,Qav];done))|exact ZcJ rfl|exact ZcB|exact(True.intro:RnM _ _ _ [] [])|refine ZcC ?_ ?_|(refine Zck ?_;first|rfl|(simp only[noRef,noRefs,Qaf,Zae,Zad,Zag,Qaa,Qal,Qag,Qan,Qap,Qaz,Qai,Qah,Qab,Qaq,Qaj,Qam,Qao,Qav];done))|exact Rn.x1 rfl rfl|exact Rn.x2 rfl rfl|exact Rn.x3 rfl rfl|exact Rn.x4 rfl rfl|exact Rn.x5 rfl|exact Rn.x6 rfl|exact Rn.x7 rfl|refine Zcx rfl rfl ?_|refine Zcw rfl rfl rfl ?_ ?_|refine Zcy rfl rfl rfl ?_ ?_|refine Zcz rfl rfl ?_ ?_|refine ZcA rfl rfl ?_ ?_)
 exact ZcO fun x _=>Zck (Qab _)):p:=h
theorem Go.AM.b438a{p:Prop}(h:p:=by
 refine⟨[(41,.blk 41 0),(61,.blk 61 0),(70,.blk 70 0),(71,.blk 71 0),(72,.blk 72 0),(74,.blk 74 0)],rfl,au0,?_,au11⟩;repeat'(first|exact Zcv|(refine Zcl ?_;first|rfl|(simp only[noRef,noRefs,Qaf,Zae,Zad,Zag,Qaa,Qal,Qag,Qan,Qap,Qaz,Qai,Qah,Qab,Qaq,Qaj,Qam,Qao,Qav];done))|exact ZcJ rfl|exact ZcB|exact(True.intro:RnM _ _ _ [] [])|refine ZcC ?_ ?_|(refine Zck ?_;first|rfl|(simp only[noRef,noRefs,Qaf,Zae,Zad,Zag,Qaa,Qal,Qag,Qan,Qap,Qaz,Qai,Qah,Qab,Qaq,Qaj,Qam,Qao,Qav];done))|exact Rn.x1 rfl rfl|exact Rn.x2 rfl rfl|exact Rn.x3 rfl rfl|exact Rn.x4 rfl rfl|exact Rn.x5 rfl|exact Rn.x6 rfl|exact Rn.x7 rfl|refine Zcx rfl rfl ?_|refine Zcw rfl rfl rfl ?_ ?_|refine Zcy rfl rfl rfl ?_ ?_|refine Zcz rfl rfl ?_ ?_|refine ZcA rfl rfl ?_ ?_)
 exact ZcO fun x _=>Zck (Qab _)):p:=h
theorem Go.AM.bloqQ{p:Prop}(h:p:=by
 refine⟨[(41,.blk 41 0),(61,.blk 61 0),(70,.blk 70 0),(71,.blk 71 0),(72,.blk 72 0),(74,.blk 74 0),(76,.blk 76 0),(77,.blk 77 0)],rfl,au0,?_,au11⟩;repeat'(first|exact Zcv|(refine Zcl ?_;first|rfl|(simp only[noRef,noRefs,Qaf,Zae,Zad,Zag,Qaa,Qal,Qag,Qan,Qap,Qaz,Qai,Qah,Qab,Qaq,Qaj,Qam,Qao,Qav];done))|exact ZcJ rfl|exact ZcB|exact(True.intro:RnM _ _ _ [] [])|refine ZcC ?_ ?_|(refine Zck ?_;first|rfl|(simp only[noRef,noRefs,Qaf,Zae,Zad,Zag,Qaa,Qal,Qag,Qan,Qap,Qaz,Qai,Qah,Qab,Qaq,Qaj,Qam,Qao,Qav];done))|exact Rn.x1 rfl rfl|exact Rn.x2 rfl rfl|exact Rn.x3 rfl rfl|exact Rn.x4 rfl rfl|exact Rn.x5 rfl|exact Rn.x6 rfl|exact Rn.x7 rfl|refine Zcx rfl rfl ?_|refine Zcw rfl rfl rfl ?_ ?_|refine Zcy rfl rfl rfl ?_ ?_|refine Zcz rfl rfl ?_ ?_|refine ZcA rfl rfl ?_ ?_)
 exact ZcO fun x _=>Zck (Qab _)):p:=h
theorem Go.AM.bHxs7{p:Prop}(h:p:=by
 rintro⟨i,out⟩⟨hi,l,z⟩;dsimp only at hi l z⊢;have E:=l.len;by_cases d:i<out.length
 ·obtain⟨s,C⟩:=Qak d;have B:fQ a.al a.es (a.n+1-(i+1)) (i+1) (fRow a.al a.es s out)=found a:=by rw[<-z,show a.n+1-i=(a.n+1-(i+1))+1 by omega];simp only[fQ,C]
  have f:=fun k=>FI.row h.esn s (a.al.take k) out l;refine Zc1 d ?_;refine Qar 200 (fun k:Nat=>[(1,.ptr 50 0 0),(3,.sl 75 0 0 ((a.al.take k).foldl (fEv a.es s) out).length 1),(4,.int .i64 i),(5,.int .i64 k)]) (fun k=>[(50,.cells 0 [sliN a.al,.int .i64 (a.n:Int),sliN a.ms,egsN a.es]),(75,.cells 0 (ints (nz ((a.al.take k).foldl (fEv a.es s) out))))]) (fun k=>k<=a.al.length) (fun k=>a.al.length-k) 0 2 300 (fun _:Unit=>[(1,.ptr 50 0 0),(3,.sl 75 0 0 (fRow a.al a.es s out).length 1),(4,.int .i64 i)]) (fun _=>[(50,.cells 0 [sliN a.al,.int .i64 (a.n:Int),sliN a.ms,egsN a.es]),(75,.cells 0 (ints (nz (fRow a.al a.es s out))))]) (fun _=>True) ?_ (Zai _) ?_ ?_;·exact⟨[(50,.blk 50 0),(75,.blk 75 0)],rfl,au0,au12,au11⟩
  ·rintro k hk;by_cases g:k<a.al.length
   ·obtain⟨ev,u⟩:=Qak g;have b:=Qlf (es:=a.es) (s:=s) (out:=out) u;obtain⟨v,⟨t,n⟩,_⟩:=f k;have G:=v.len;have p:((a.al.take k).foldl (fEv a.es s) out)[i]?=some s:=by rw[n,Za6 d];exact C
    generalize(a.al.take k).foldl (fEv a.es s) out=o at*;have A:i<o.length:=(Zaj.1 p).1
    refine Zc1 (Zc4 g A (Qb4 (nz_at p)) (QaH u)) ?_;refine cp (step60 a s ev h.el) ?_;cases c:stepA a.es s ev with|none=>
     have h1:stepI a.es s ev=-1:=by unfold stepI;rw[c]
     have q:fEv a.es s o ev=o:=by unfold fEv;rw[c]
     rw[q]at b;rw[h1];refine Zc0 ?_;refine⟨k+1,by omega,by omega,?_⟩;rw[b];exact⟨[(50,.blk 50 0),(75,.blk 75 0)],rfl,au0,au12,au11⟩|some to=>
     have h1:stepI a.es s ev=to:=by unfold stepI;rw[c]
     have H:=QfH h.esn c;rw[h1];refine Zc0 ?_;have r:=has36 (nz o) to (by simp;omega);rw[Qfj,Qb2]at r;by_cases hc:o.contains to=true
     ·have q:fEv a.es s o ev=o:=by unfold fEv;rw[c];exact if_pos hc
      rw[q]at b;rw[hc]at r;refine ch (ZcI (ZcL (FrzTo.all gg (by simp[ints])) (ZcL (Zcq _) ZcK)) r rfl) ?_;refine Zc0 ?_;refine⟨k+1,by omega,by omega,?_⟩;rw[b];exact⟨[(50,.blk 50 0),(75,.blk 75 0)],rfl,au0,au12,au11⟩
     have q:fEv a.es s o ev=o++[to]:=by unfold fEv;rw[c];exact if_neg hc
     rw[q]at b;rw[Zam]at hc;rw[hc]at r;refine ch (ZcI (ZcL (FrzTo.all gg (by simp[ints])) (ZcL (Zcq _) ZcK)) r rfl) ?_;refine Zc0 ?_;refine⟨k+1,by omega,by omega,?_⟩;rw[b,Zaf,QaQ,QaF];exact⟨[(50,.blk 50 0),(75,.blk 75 1)],rfl,au0,au12,au11⟩
   have e:k=a.al.length:=by omega
   subst e;refine Zc1 g ?_;refine⟨(),?_⟩;exact⟨[(50,.blk 50 0),(75,.blk 75 0)],rfl,au0,au12,au11⟩
  rintro _ _;obtain⟨v,⟨t,n⟩,_⟩:=f a.al.length;rw[Zan]at v n;have n:fRow a.al a.es s out=out++t:=n;refine Zc0 ?_;refine⟨(i+1,fRow a.al a.es s out),by dsimp only;omega,⟨by dsimp only;rw[n,List.length_append];omega,v,B⟩,?_⟩;exact⟨[(50,.blk 50 0),(75,.blk 75 0)],rfl,au0,au12,au11⟩
 have F:out[i]?=none:=ZaF (by omega);have w:out=found a:=by rw[<-z,show a.n+1-i=(a.n-i)+1 by omega];simp only[fQ,F]
 refine Zc1 d ?_;refine⟨.inr trivial,_,rfl,?_⟩;rw[w];exact ZcE (g:=0) rfl (by simp[ints]) (Zcl (Qaa _))):p:=h
theorem Go.AM.bvFeA{p:Prop}(h:p:=by
 rintro k hk;by_cases c:k<a.al.length
 ·obtain⟨ev,d⟩:=Qak c;have q:=Zac d;have v:=Qlg (a:=a) (f:=f) (i:=i) (s:=s) d;have E:(cPart a f i s k).length<=2000:=by unfold cPart;rw[Zaf];have h1:=List.length_filterMap_le (fun ev=>(stepA a.es s ev).map fun to=>(i,ev,idx f to)) (a.al.take k);rw[Zaq]at h1;omega
  have t:=Qb5 (cPart a f i s k);have g:cPart a f i s (k+1)=cPart a f i s k++match stepA a.es s ev with|some to=>[(i,ev,idx f to)]|none=>[]:=by unfold cPart;rw[v,ZaN]
  generalize cPart a f i s k=R at*;refine Zc1 (Zc4 c o (QaH u) (QaH d)) ?_;refine cp (step60 a s ev h.el) ?_;cases b:stepA a.es s ev with|none=>
   have h1:stepI a.es s ev=-1:=by unfold stepI;rw[b]
   rw[b,Zas]at g;rw[h1];refine Zc0 ?_;refine⟨k+1,by omega,by omega,?_⟩;rw[g];exact⟨[(50,.blk 50 0),(51,.blk 51 0),(52,.blk 52 0),(76,.blk 76 0),(77,.blk 77 0)],rfl,au0,au12,au11⟩|some to=>
   have h1:stepI a.es s ev=to:=by unfold stepI;rw[b]
   rw[b]at g;have l:=index61 (nz f) to (by simp;omega);rw[Qb2,Qm5 (f3 s y ev q to b)]at l;rw[h1];refine Zc1 (Zc2 c (QaH d)) ?_;refine cp l ?_;refine Zc1 t ?_;refine⟨k+1,by omega,by omega,?_⟩;rw[g,Zao,Zaf];exact⟨[(50,.blk 50 0),(51,.blk 51 0),(52,.blk 52 0),(76,.blk 76 1),(77,.blk 77 0)],rfl,au0,au12,au11⟩
 have e:k=a.al.length:=by omega
 subst e;refine Zc1 c ?_;refine⟨(),?_⟩;rw[m];exact⟨[(50,.blk 50 0),(51,.blk 51 0),(52,.blk 52 0),(76,.blk 76 0),(77,.blk 77 0)],rfl,au0,au12,au11⟩):p:=h
theorem Go.AM.beuY7{p:Prop}(h:p:=by
 rintro _ _;refine Zc0 ?_;refine⟨i+1,by omega,by omega,?_⟩;rw[x];exact⟨[(50,.blk 50 0),(51,.blk 51 0),(52,.blk 52 0),(76,.blk 76 0),(77,.blk 77 0)],rfl,au0,au12,au11⟩):p:=h
theorem Go.AM.bswkz{p:Prop}(h:p:=by
 rintro k hk;by_cases b:k<al.length
 ·obtain⟨ev,f⟩:=Qak b;have c:al.getD k 0=ev:=by rw[Zah,f];rfl
  obtain⟨x,u⟩:=Qak (l:=T) (i:=i*5+k) (by omega);have t:T.getD (i*5+k) 0=x:=by rw[Zah,u];rfl
  have P:=z x (Zac u);have d:(k:Int)<5:=by omega
  have o:(i:Int)<5:=by omega
  have g:(AV.int .u8 (st:Int)::AV.int .u8 (mk:Int)::u8s T)[2+i*5+k]?=some (.int .u8 (x:Int)):=by rw[show 2+i*5+k=(i*5+k)+2 by omega];simpa using Qjc u
  have m:(x:Int).tmod ((n:Int)+2)=((x%(n+2):Nat):Int):=by rw[Zbs (Za9 _)];norm_cast
  have l:¬(n:Int)+2=0:=by omega
  have O:x%(n+2)<=10:=by have:=Nat.mod_lt x (show 0<n+2 by omega);omega
  have s:=Qlh (al:=al) (n:=n) (T:=T) (i:=i) (k:=k);have K:=@Qik al n T i k;have a:gPart al n T i (k+1)=gPart al n T i k++match gEd al n T i k with|some e=>[e]|none=>[]:=by unfold gPart;rw[s,ZaN]
  have E:(gPart al n T i k).length<=100:=by unfold gPart;rw[Zaf];omega
  have w:=Qb5 (gPart al n T i k);unfold gEd at a;rw[t,c]at a;generalize gPart al n T i k=R at*;by_cases p:x%(n+2)<n;·rw[if_pos p]at a;refine Zc1 (Zc9 b d o g l m p (QaH f) w) ?_;refine⟨k+1,by omega,by omega,?_⟩;rw[a,Zao,Zaf];exact⟨[(50,.blk 50 0),(51,.blk 51 0),(52,.blk 52 0),(76,.blk 76 1),(77,.blk 77 0)],rfl,au0,au13,au14⟩
  rw[if_neg p,Zas]at a;refine Zc1 (Zc7 b d o g l m p) ?_;refine⟨k+1,by omega,by omega,?_⟩;rw[a];exact⟨[(50,.blk 50 0),(51,.blk 51 0),(52,.blk 52 0),(76,.blk 76 0),(77,.blk 77 0)],rfl,au0,au13,au14⟩
 have e:k=al.length:=by omega
 subst e;refine Zc1 b ?_;refine⟨(),?_⟩;rw[G];exact⟨[(50,.blk 50 0),(51,.blk 51 0),(52,.blk 52 0),(76,.blk 76 0),(77,.blk 77 0)],rfl,au0,au13,au14⟩):p:=h
theorem Go.AM.b2oeJ{p:Prop}(h:p:=by
 rintro _ _;refine Zc0 ?_;refine⟨i+1,by omega,by omega,?_⟩;rw[F];exact⟨[(50,.blk 50 0),(51,.blk 51 0),(52,.blk 52 0),(76,.blk 76 0),(77,.blk 77 0)],rfl,au0,au13,au14⟩):p:=h
theorem Go.AM.bgJbh{p:Prop}(h:p:=by
 by_cases hc:e.1<t
 ·have d:(e.1:Int)-(t:Int)<0:=by omega
  refine Zc1 d ?_;refine⟨(k+1,j),by dsimp only;omega,⟨by dsimp only;omega,r,fun q l=>?_,g⟩,⟨[],rfl,au0,au13,au14⟩⟩;have:=QdK u (p:=q) (q:=k) (by dsimp only at l;omega) (by omega);omega
 have d:¬(e.1:Int)-(t:Int)<0:=by omega
 refine Zc1 d ?_;refine⟨(i,k),by dsimp only;omega,⟨v,by dsimp only;omega,h1,fun q l y=>?_⟩,⟨[],rfl,au0,au13,au14⟩⟩;have:=QdK u (p:=k) (q:=q) l (by omega);omega):p:=h
theorem Go.AM.bdpxu{p:Prop}(h:p:=by
 refine Zc1 (Zc2 c (QaT he)) ?_;refine cp (sub229 e t f s) ?_;refine Zc1 d ?_;exact⟨.inr trivial,_,rfl,rfl⟩):p:=h
theorem Go.AM.bBeoR{p:Prop}(h:p:=by
 refine Zc1 (Zc2 c (QaT he)) ?_;refine cp (sub230 e t f s) ?_;refine Zc1 d ?_;exact⟨.inr trivial,_,rfl,rfl⟩):p:=h
theorem Go.AM.bk0uh{p:Prop}(h:p:=by
 rintro j hj;by_cases f:j<(sOut a.es tru v).length
 ·obtain⟨e,he⟩:=Qak f;have F:=Qbd.1 (Zac he);have c:=(h.esn e F.1).2;obtain⟨V,_,_,_,_⟩:=B j;have Y:=V.len;have b:=QgJ (i:=i) (s:=s) he;have n:=QcZ (i:=i) ((sOut a.es tru v).take j) s;rw[Zaq]at n;generalize(((sOut a.es tru v).take j).foldl (sEd i) s)=t at*;have l:=Qb5 t.2;have hpl:=Qje (n:=a.n) (o:=t.1);have g:=Qjf (o:=t.1) c;have y:e.2.2<(pl a.n t.1).length:=by omega
  have r:e.2.2+1<=(pl a.n t.1).length:=by omega
  by_cases hc:e.2.2∈t.1
  ·have H:sEd i t e=(t.1,t.2++[(i,e.2.1,SD.idx t.1 e.2.2)]):=if_pos (by simpa using hc);rw[H]at b;rw[if_pos (by simpa using hc)]at g;have I:¬((SD.idx t.1 e.2.2:Nat):Int)<0:=by omega
   generalize SD.idx t.1 e.2.2=q at*;refine Zc1 (Zc7 f (QaT he) c (Qbl y) g I l) ?_;refine⟨j+1,by omega,by omega,?_⟩;rw[b,Zao,Zaf];exact⟨[(50,.blk 50 0),(60,.blk 60 0),(69,.blk 69 0),(83,.blk 83 0),(78,.blk 78 0),(75,.blk 75 0),(76,.blk 76 1),(77,.blk 77 0)],rfl,au0,au13,au14⟩
  have H:sEd i t e=(t.1++[e.2.2],t.2++[(i,e.2.1,t.1.length)]):=if_neg (by simpa using hc);rw[H]at b;rw[if_neg (by simpa using hc)]at g;have m:=Qro (n:=a.n) hc;have I:(-1:Int)<0:=by decide
  have p:e.2.2<(pl a.n (t.1++[e.2.2])).length:=by rw[Qje];exact c
  have u:(pl a.n (t.1++[e.2.2])).getD e.2.2 0=(t.1.length:Int):=by rw[Qjf c,if_pos (by simp),SD.Qej hc]
  refine Zc1 (Zdc f (QaT he) c (Qbl y) g I l r @Qbk m (Qbl p) u) ?_;refine⟨j+1,by omega,by omega,?_⟩;rw[b,Zao,Zaf];dsimp only;rw[Zaf,QaQ,QaF];exact⟨[(50,.blk 50 0),(60,.blk 60 0),(69,.blk 69 0),(83,.blk 83 0),(78,.blk 78 0),(75,.blk 75 1),(76,.blk 76 1),(77,.blk 77 0)],rfl,au0,au13,au14⟩
 have e:j=(sOut a.es tru v).length:=by omega
 subst e;refine Zc1 f ?_;refine⟨(),?_⟩;exact⟨[(50,.blk 50 0),(60,.blk 60 0),(69,.blk 69 0),(83,.blk 83 0),(78,.blk 78 0),(75,.blk 75 0),(76,.blk 76 0),(77,.blk 77 0)],rfl,au0,au13,au14⟩):p:=h
theorem Go.AM.bRnTj{p:Prop}(h:p:=by
 rintro _ _;have Q:(sRow a.es tru i v s).2.length=s.2.length+(sOut a.es tru v).length:=QcZ _ _;have P:=QeN a.es tru v;refine Zc0 ?_;refine⟨(i+1,sRow a.es tru i v s),by dsimp only;omega,⟨C,E,by dsimp only;omega,L⟩,?_⟩;dsimp only;rw[w];exact⟨[(50,.blk 50 0),(60,.blk 60 0),(69,.blk 69 0),(83,.blk 83 0),(78,.blk 78 0),(75,.blk 75 0),(76,.blk 76 0),(77,.blk 77 0)],rfl,au0,au13,au14⟩):p:=h
theorem Go.AM.beLx1{p:Prop}(h:p:=by
 refine Zc1 (Zc3 n p l) ?_;refine QeO gg c (by omega) ?_;refine Zc1 @Qim ?_;refine⟨i+1,by omega,by omega,?_⟩;rw[k];refine⟨[(68,.blk 68 0)],rfl,au0,?_,au8⟩;exact Zcy rfl rfl gg (RnM.mapS fun _ _=>Zck rfl) Zcv):p:=h
set_option linter.unusedSectionVars false
set_option maxHeartbeats 32000000
set_option maxRecDepth 100000
set_option linter.unusedVariables false
set_option linter.unusedSimpArgs false
set_option linter.unusedSectionVars false
namespace Go.AM
open Go.Proofs Go.Shelf Go.Sort
variable{P:Program}{ρ:Ren}{α:Type}[Inhabited α]
variable{C:Array Value}{h:Heap}{F:List Value}{k o:Nat}{w:World}{enc:α->List Value}
abbrev encI(ci:α->List Int)(x:α):List Value:=(ci x).map (Value.int .i64)
abbrev avI(ci:α->List Int)(x:α):List AV:=(ci x).map (AV.int .i64)
theorem Qlc{ok}{c:Ctx ok}:∀{a:List Int}{vs:List Value},VPre c w (a.map (AV.int .i64)) vs->∃r,vs=a.map (Value.int .i64)++r|[],vs,_=>⟨vs,rfl⟩|n::a,vs,h=>by simp only[ZaL,VPre]at h;obtain⟨v,f,rfl,b,d⟩:=h;obtain⟨r,rfl⟩:=Qlc d;simp only[VRel]at b;simp_all
theorem QhP{ok}{c:Ctx ok}:∀{a:List Int}{r:List Value},VPre c w (a.map (AV.int .i64)) (a.map (Value.int .i64)++r)|[],r=>by simp[VPre]|n::a,r=>by simp only[ZaL,VPre,ZaU];exact⟨_,_,rfl,by simp[VRel],QhP⟩
theorem QoY(ci:α->List Int)(l:List α):l.flatMap (avI ci)=(l.flatMap ci).map (AV.int .i64):=by rw[List.map_flatMap]
theorem Qm3(ci:α->List Int)(l:List α):l.flatMap (encI ci)=(l.flatMap ci).map (Value.int .i64):=by rw[List.map_flatMap]
theorem QhQ{β γ:Type}{f:β->List γ}(hk:∀x,(f x).length=k)(a:0<k):∀{l:List β}{t:Nat},(l.flatMap f)[t]?=(l[t/k]?).bind fun x=>(f x)[t%k]?
 |[],t=>by simp|x::l,t=>by
  rw[Zay];by_cases h:t<k;·simp_all[Za6,Nat.div_eq_of_lt,Nat.mod_eq_of_lt]
  rw[Zbr (by rw[hk];omega),hk,QhQ hk a (l:=l)];simp_all[Nat.div_eq_sub_div,Nat.mod_eq_sub_mod]
theorem Qjb(hk:∀x,(enc x).length=k)(c:0<k)(l:List α):Go.Sort.flatK enc k l.toArray=(l.flatMap enc).toArray:=by
 refine ext_get! ?_ fun t a=>?_;·simp_all[List.map_const']
 have b:t<l.length*k:=by simpa using a
 have d:t/k<l.length:=by simp_all[Nat.div_lt_iff_lt_mul]
 grind[get_flatK,QhQ]
theorem QlO(h:o+F.length<=C.size):(putCells id o F.toArray C).toList.drop o=F++C.toList.drop (o+F.length):=by apply Zbx;grind[putCells]
theorem HSpec.sortK{f g b γ:Nat}(L:SlLaysF0.n6 P ρ)(hf:ρ.f 6=f)(B:Callable P f)(k:Nat)(h0:0<k)(aE:∀w,(isAgg (ρ.t 24)).run P w=.ok true w)(zE:∀w,(Go.sizeOf (ρ.t 24)).run P w=.ok k w)(ci:α->List Int)(hk:∀x,(ci x).length=k)(cf:α->α->Int)(hO:SWO (ltOf cf))(eg:∀args w,(callFunc g args).run P w=.ok (.enter g args) w)(U:∀x y w,Calls P g #[.agg (encI ci x).toArray,.agg (encI ci y).toArray] w fun e w'=>e=.returned (.int .i64 (cf x y))/\∃q os',w'=grow (w.drewN q) os')(l:List α)(hl:l.length<4611686018427387904)(hb:h.get b=some (.cells γ (l.flatMap (avI ci))))(hlim:b<1099511627775):∃Z:List α,Z.Perm l/\Z.Pairwise (fun x y=>ltOf cf y x=false)/\HSpec P f [.sl b γ 0 l.length k,.fn g [] []] h (.tup []) (h.set b (.cells γ (Z.flatMap (avI ci)))):=by
 obtain⟨a,Y⟩:∃a,a=pdq (ltOf cf) l.toArray 0 l.length (Lib.bitLen l.length) true true:=⟨_,rfl⟩;have hs:=pdq_sorts (ltOf cf) hO l.toArray 0 l.length (Lib.bitLen l.length) true true (Zai _) (by simp) (Or.inl rfl);rw[<-Y]at hs;obtain⟨⟨hsz,_,s⟩,I⟩:=hs;have T:a.size=l.length:=by simpa using hsz
 have V:(a.extract 0 l.length).toList=a.toList:=by rw[<-T];simp
 have G:(l.toArray.extract 0 l.length).toList=l:=by simp
 rw[V,G]at s;have z:∀x,(encI ci x).length=k:=fun x=>by simp[hk]
 have Q:∀x,∀v∈encI ci x,v.oneCell'=true:=fun x v hv=>by obtain⟨n,_,rfl⟩:=Zap.1 hv;rfl
 refine⟨a.toList,s,?_,B,?_⟩;·rw[Zbf];intro i j hi hj hij;have:=I i j (Zai _) hij (by simp_all);grind
 intro c w u H ha;have hget:∀x j,(h.set b x).get j=if j=b then some x else h.get j:=fun x j=>Zcd h (by simp_all[lim]) j x;obtain⟨v1,v2,hca,O,hv2⟩:∃v1 v2,u.toList=[v1,v2]/\VRel c w (.sl b γ 0 l.length k) v1/\v2=.func (.func g) #[] #[]:=by simp_all[VRels,VRel]
 have X:u=#[v1,v2]:=Array.toList_inj.1 (by rw[hca]);subst X hv2;have none:l=[]->∀p cap,v1=.slice p 0 cap->Calls P f #[v1,.func (.func g) #[] #[]] w fun e w'=>∃cv c',e=.returned cv/\Evo c w c' w'/\HRel c' (h.set b (.cells γ (a.toList.flatMap (avI ci)))) w'/\VRel c' w' (.tup []) cv:=by rintro e p cap rfl;have hn:=AnyF.slices_SortFunc_none {L with} p cap (.func (.func g) #[] #[]) w;rw[hf]at hn;refine hn.mono ?_;rintro e1 w'⟨rfl,rfl⟩;refine⟨_,c,rfl,Evo.refl c _,Qct (fun j=>?_) H,by simp[VRel,VRels]⟩;simp_all
 simp only[VRel]at O;rcases O with⟨_,h1,_,rfl⟩|⟨t,base,o,cap,C,e,fr,hp,rfl,hlc,S,R⟩;·simp_all
 by_cases hl0:l.length=0;·simp_all
 obtain⟨ho,hbd⟩:=R.resolve_left (by omega);have ho':base=o:=ho.symm;subst ho';obtain⟨C',e',fr',hcO,J,hfr,hbs,A⟩:=H.here hb hp;rw[S]at J;cases J;have hlen:(l.flatMap ci).length=l.length*k:=by simp[List.length_flatMap,hk,List.map_const',List.sum_replicate_nat]
 have hlen':(a.toList.flatMap ci).length=l.length*k:=by grind
 have hlk:l.length*k<=cap*k:=Za5 k hlc;rw[QoY]at A;obtain⟨r,hr⟩:=Qlc A;have hfl:Go.Sort.flatK (encI ci) k l.toArray=((l.flatMap ci).map (Value.int .i64)).toArray:=by rw[Qjb z h0,Qm3]
 have K:Go.Sort.flatK (encI ci) k a=((a.toList.flatMap ci).map (Value.int .i64)).toArray:=by have:=Qjb z h0 a.toList;rw[Qm3]at this;exact this
 have hblk:=Qbc S;have hH:HoldsK (encI ci) k w t base l.toArray:=by
  unfold HoldsK;rw[hfl];intro j hj;have hj':j<l.length*k:=by grind
  have hjC:base+j<C.size:=by omega
  refine⟨?_,?_⟩
  ·simp only[World.cell?,S];have h2:C.toList[base+j]?=some (((l.flatMap ci).map (Value.int .i64))[j]'(by omega)):=by rw[<-ZbF,hr,Za6 (by omega),Zak]
   grind
  simp only[World.frozen?,S];have:=hfr (base+j) hjC;grind
 have d:=AnyQ.slices_SortFunc_eq L k aE zE (encI ci) z Q cf hO g #[] t base cap l.toArray w eg (fun m os dk _ x y=>U x y _) hH hblk (by simpa using hl);rw[hf]at d;have e0:(base+0:Nat)=base:=rfl;have esz:(l.toArray).size=l.length:=by simp
 rw[esz,<-Y]at d;refine d.mono ?_;rintro e1 w'⟨rfl,n,os,rfl⟩;have F:∀j,j<w.heap.size->(sortWorldK (encI ci) k w t base n a os).heap[j]?=if j=t then some (.cells (putCells id base ((a.toList.flatMap ci).map (Value.int .i64)).toArray C) e fr)else w.heap[j]?:=fun j hj=>by
  unfold sortWorldK putRowK;rw[heap_grow_old _ _ (by grind[putRow,mapBlock,Sort.ahead]),K];show(w.heap.modify t _)[j]?=_;rw[Array.getElem?_modify];by_cases e2:t=j;·subst e2;rw[if_pos rfl,if_pos rfl,S];rfl
  grind
 have M:w.heap.size<=(sortWorldK (encI ci) k w t base n a os).heap.size:=by grind
 have N:=F t hblk;rw[if_pos rfl]at N;obtain⟨E,H2⟩:=H.put (w':=sortWorldK (encI ci) k w t base n a os) (b:=b) (cb:=t) (base:=base) (x:=.cells γ (a.toList.flatMap (avI ci))) (by grind[lim]) (fun y hy=>H.later b _ hb y hy) (.inr hp) (.inr ⟨γ,base,⟨_,hb,rfl,fun k=>by simp⟩,hp⟩) rfl rfl rfl M (by omega) (fun j hj hne=>by grind) (fun C2 e2 fr2 h2=>by grind[putCells]) (fun E=>.inr ⟨t,base,_,_,_,by show(if b=b/\γ=γ then _ else _)=_;grind,.inr rfl,N,by grind[putCells],by grind[putCells],by grind[QlO,QoY,QhP]⟩);exact⟨_,_,rfl,E,H2,by simp[VRel,VRels]⟩
end Go.AM
namespace Go.Proofs
open Go.Shelf Go.RowKit Go.Lib Go.Sort
def Tryz.QpW:Go.Shelf.Ren:=⟨fun|6=>120|15=>179|14=>178|28=>233|29=>234|20=>225|21=>226|22=>227|23=>228|24=>229|25=>230|26=>231|27=>232|46=>268|47=>269|48=>270|49=>271|50=>272|57=>284|n=>n,fun|22=>65|24=>244|25=>250|3=>3|39=>304|0=>0|53=>349|55=>351|4=>4|46=>343|45=>342|50=>164|5=>5|9=>9|66=>372|70=>172|76=>384|77=>258|n=>n,fun|n=>n⟩
theorem Tryz.sortRm:Go.Proofs.SlLaysF0.n6 Tryz.prog Tryz.QpW:={
 mixed:=by kernel_rfl
 f6:=⟨Tryz.f120.name,by decide,Tryz.func120.trans (congrArg some (by kernel_rfl))⟩
 f14:=⟨Tryz.f178.name,by decide,Tryz.func178.trans (congrArg some (by kernel_rfl))⟩
 f15:=Tryz.func179.trans (congrArg some (by kernel_rfl))
 f20:=⟨Tryz.f225.name,by decide,Tryz.func225.trans (congrArg some (by kernel_rfl))⟩
 f21:=⟨Tryz.f226.name,by decide,Tryz.func226.trans (congrArg some (by kernel_rfl))⟩
 f22:=⟨Tryz.f227.name,by decide,Tryz.func227.trans (congrArg some (by kernel_rfl))⟩
 f23:=⟨Tryz.f228.name,by decide,Tryz.func228.trans (congrArg some (by kernel_rfl))⟩
 f24:=⟨Tryz.f229.name,by decide,Tryz.func229.trans (congrArg some (by kernel_rfl))⟩
 f25:=⟨Tryz.f230.name,by decide,Tryz.func230.trans (congrArg some (by kernel_rfl))⟩
 f26:=⟨Tryz.f231.name,by decide,Tryz.func231.trans (congrArg some (by kernel_rfl))⟩
 f27:=⟨Tryz.f232.name,by decide,Tryz.func232.trans (congrArg some (by kernel_rfl))⟩
 f28:=Tryz.func233.trans (congrArg some (by kernel_rfl))
 f29:=Tryz.func234.trans (congrArg some (by kernel_rfl))
 f46:=⟨Tryz.f268.name,by decide,Tryz.func268.trans (congrArg some (by kernel_rfl))⟩
 f47:=Tryz.func269.trans (congrArg some (by kernel_rfl))
 f48:=Tryz.func270.trans (congrArg some (by kernel_rfl))
 f49:=⟨Tryz.f271.name,by decide,Tryz.func271.trans (congrArg some (by kernel_rfl))⟩
 f50:=⟨Tryz.f272.name,by decide,Tryz.func272.trans (congrArg some (by kernel_rfl))⟩
 f57:=⟨Tryz.f284.name,by decide,Tryz.func284.trans (congrArg some (by kernel_rfl))⟩
 t0:=Tryz.underlying0
 a0:=Tryz.isAgg0
 z0:=Tryz.sizeOf0
 v0:=Tryz.zeroValue0
 t3:=Tryz.underlying3
 a3:=Tryz.isAgg3
 z3:=Tryz.sizeOf3
 v3:=Tryz.zeroValue3
 t4:=Tryz.underlying4
 a4:=Tryz.isAgg4
 z4:=Tryz.sizeOf4
 v4:=Tryz.zeroValue4
 t5:=Tryz.underlying5
 a5:=Tryz.isAgg5
 z5:=Tryz.sizeOf5
 v5:=Tryz.zeroValue5
 t9:=Tryz.underlying9
 a9:=Tryz.isAgg9
 z9:=Tryz.sizeOf9
 v9:=Tryz.zeroValue9
 t22:=Tryz.underlying65
 a22:=Tryz.isAgg65
 z22:=Tryz.sizeOf65
 v22:=Tryz.zeroValue65
 t25:=Tryz.underlying250
 a25:=Tryz.isAgg250
 z25:=Tryz.sizeOf250
 v25:=Tryz.zeroValue250
 t39:=Tryz.underlying304
 a39:=Tryz.isAgg304
 z39:=Tryz.sizeOf304
 v39:=Tryz.zeroValue304
 t45:=Tryz.underlying342
 a45:=Tryz.isAgg342
 z45:=Tryz.sizeOf342
 v45:=Tryz.zeroValue342
 t46:=Tryz.underlying343
 a46:=Tryz.isAgg343
 z46:=Tryz.sizeOf343
 v46:=Tryz.zeroValue343
 t50:=Tryz.underlying164
 a50:=Tryz.isAgg164
 z50:=Tryz.sizeOf164
 v50:=Tryz.zeroValue164
 t53:=Tryz.underlying349
 a53:=Tryz.isAgg349
 z53:=Tryz.sizeOf349
 v53:=Tryz.zeroValue349
 t55:=Tryz.underlying351
 a55:=Tryz.isAgg351
 z55:=Tryz.sizeOf351
 v55:=Tryz.zeroValue351
 t66:=Tryz.underlying372
 a66:=Tryz.isAgg372
 z66:=Tryz.sizeOf372
 v66:=Tryz.zeroValue372
 t70:=Tryz.underlying172
 a70:=Tryz.isAgg172
 z70:=Tryz.sizeOf172
 v70:=Tryz.zeroValue172
 t76:=Tryz.underlying384
 a76:=Tryz.isAgg384
 z76:=Tryz.sizeOf384
 v76:=Tryz.zeroValue384
 t77:=Tryz.underlying258
 a77:=Tryz.isAgg258
 z77:=Tryz.sizeOf258
 v77:=Tryz.zeroValue258}
abbrev Rm4:=Fin 1048576×Int×Int×Int
def ciR(x:Rm4):List Int:=[(x.1.val:Int),x.2.1,x.2.2.1,x.2.2.2]
def cfR(x y:Rm4):Int:=(x.1.val:Int)-(y.1.val:Int)
theorem Tryz.cmp180(x y)(W):Calls Tryz.prog 121 #[.agg #[.int .i64 (x.1.val:Int),.int .i64 x.2.1,.int .i64 x.2.2.1,.int .i64 x.2.2.2],.agg #[.int .i64 (y.1.val:Int),.int .i64 y.2.1,.int .i64 y.2.2.1,.int .i64 y.2.2.2]] W fun e w'=>e=.returned (.int .i64 (cfR x y))/\∃q f,w'=grow (W.drewN q) f:=by obtain⟨⟨a,h⟩,b,c,d⟩:=x;obtain⟨⟨m,g⟩,k,i,l⟩:=y;unfold cfR;go_enter Tryz.func121,Tryz.ntmps121;go_wp2;go_ret;exact⟨rfl,0,_,by rw[alloc_eq_grow,alloc_eq_grow,grow_grow];rfl⟩
theorem QgK(x y):ltOf cfR x y=decide (x.1.val<y.1.val):=by unfold ltOf cfR;grind
theorem Qt0:SWO (ltOf cfR)where
 irrefl x:=by rw[QgK];simp
 trans x y z h1 a:=by rw[QgK,decide_eq_true_eq]at*;omega
 ntrans x y z h1 a:=by grind[QgK]
end Go.Proofs
namespace Go.AM.SE
open Go.Proofs Go.AM.SD Go.Sort Go.Shelf
variable{a:Aut}{h:Heap}{l:LB}{es:List Ed}{d:List Int}{T al f xs:List Nat}{i k mk n s st x:Nat}{r:Rm}{α:Type}{p:α->Bool}
def toR(r:Rm):Rm4:=(⟨r.st%1048576,Nat.mod_lt _ (by decide)⟩,r.rank,(r.reason:Int),r.ev)
theorem Qu8(h:r.st<=4096):avI ciR (toR r)=rmC r:=by simp[avI,ciR,toR,rmC,Nat.mod_eq_of_lt (show r.st<1048576 by omega)]
theorem Qii:∀{l:List Rm},(∀r∈l,r.st<=4096)->(l.map toR).flatMap (avI ciR)=l.flatMap rmC|[],_=>rfl|e::l,h=>by rw[ZaL,Zay,Zay,Qu8 (h e (by simp)),Qii fun x a=>h x (by simp[a])]
theorem call179:Callable Tryz.prog 120:=⟨_,Tryz.func120,by kernel_rfl,by kernel_rfl⟩
theorem sortH{l:List Rm}(b:∀r∈l,r.st<=4096)(z:l.length<1000000000)(t:(l.map (·.st)).Nodup)(u:h.get 74=some (.cells 0 (l.flatMap rmC))):HSpec Tryz.prog 120 [.sl 74 0 0 l.length 4,.fn 121 [] []] h (.tup []) (h.set 74 (.cells 0 ((srtR l).flatMap rmC))):=by
 have m:=Qre l;have f:∀r∈srtR l,r.st<=4096:=fun r p=>b r (m.mem_iff.1 p);obtain⟨s,hp,d,v⟩:=HSpec.sortK (f:=120) (g:=121) (γ:=0) (h:=h) (b:=74) Tryz.sortRm rfl call179 4 (by decide) Tryz.isAgg244 Tryz.sizeOf244 ciR (fun _=>rfl) cfR Qt0 (enters_of Tryz.func121 (by kernel_rfl) rfl) (fun x y w=>Tryz.cmp180 x y w) (l.map toR) (by rw[Zav];omega) (by rw[u,Qii b]) (by decide);have e:s=(srtR l).map toR:=by
  refine List.Perm.eq_of_pairwise (le:=fun x y=>ltOf cfR y x=false) ?_ d ?_ (hp.trans (m.map toR).symm)
  ·intro x y g k h1 n;obtain⟨m1,c,rfl⟩:=Zap.1 (hp.mem_iff.1 g);obtain⟨m2,a,rfl⟩:=Zap.1 k;have a:=m.mem_iff.1 a;have o:=b m1 c;have b2:=b m2 a;rw[QgK,decide_eq_false_iff_not]at h1 n;simp only[toR]at h1 n;have e:m1.st=m2.st:=by omega
   obtain⟨i,hi,rfl⟩:=Za4 c;obtain⟨j,q,rfl⟩:=Za4 a;have:i=j:=(List.getElem_inj t (h₀:=by simpa using hi) (h₁:=by simpa using q)).1 (by simpa using e);subst this;rfl
  rw[Zbl];refine(Qrf l).imp_of_mem fun{x y}g k h=>?_;have o:=f x g;have b2:=f y k;rw[QgK,decide_eq_false_iff_not];simp only[toR];omega
 simp_all[Qii]
theorem Agr0(hf:∀x∈f,x<n)(d:f.Nodup):Agr n (left0 n f) (f.map rm0) ((List.range n).map rm0):=by
 refine⟨by simp,fun i r h=>?_,?_,fun r=>?_⟩
 ·rw[Zaz]at h;by_cases hi:i<n;·rw[Zbw hi]at h;cases h;rfl
  rw[ZaF (by simpa using hi)]at h;cases h
 ·rw[List.map_map];have:(fun x:Rm=>x.st)∘rm0=id:=rfl;rw[this,List.map_id];exact d
 constructor
 ·intro h;obtain⟨x,g,rfl⟩:=Zap.1 h;have a:=hf x g;refine⟨a,?_,?_⟩;·rw[ZaJ];intro b;exact(Ql8.1 b).2 g
  show((List.range n).map rm0)[x]?=_;rw[Zaz,Zbw a];rfl
 rintro⟨h1,b,c⟩;rw[Zaz,Zbw h1]at c;have c:rm0 r.st=r:=by simpa using c
 refine Zap.2 ⟨r.st,?_,c⟩;refine Classical.byContradiction fun k=>?_;have:=Ql8.2 ⟨h1,k⟩;rw[this]at b;cases b
theorem Qm4{rs rr}(h:Agr n l rs rr):rs.length<=n:=by
 have:=Qa4 n (rs.map (·.st)) h.nd fun x b=>by obtain⟨r,a,rfl⟩:=Zap.1 b;exact((h.mem r).1 a).1
 simpa using this
theorem Qrh(h:xs[i]?=some x):offs l (xs.take (i+1))=(offs l (xs.take i)).set x false:=by unfold offs;rw[ZaZ,h,Option.toList,Za8];rfl
def dists(n:Nat)(l:LB)(d:List Int):List Int:=(kept n l).map fun i=>d.getD i 0
theorem Qld:kept (i+1) l=kept i l++if lf l i=true then[i]else[]:=by unfold kept;rw[ZaK,Zbm];congr 1;rw[ZbM];rfl
theorem QsV{i}{l}:(kept i l).length<=i:=by unfold kept;exact ZaA (Za7 _ _) (by simp)
structure Res where
 kept:List Nat
 dist:List Int
 rem:List Rm
 rounds:Nat
 sup:Aut
 orig:List Nat
abbrev rsV(r:Res):AV:=.agg [sliN r.kept,sli r.dist,rms r.rem,.int .i64 (r.rounds:Int),sliN r.sup.al,.int .i64 (r.sup.n:Int),sliN r.sup.ms,egsN r.sup.es,sliN r.orig]
theorem Qc8(r):noRef (rsV r)=true:=by simp only[noRef,noRefs,Qaa,Qan,Qag];rfl
def pRes(a:Aut)(f u:List Nat)(all:Bool):Res:=let F:=fin a.n a.es a.ms f u all
 ⟨kept a.n F.1,dists a.n F.1 (pDist a.n a.es a.ms (lf F.1)),srtR F.2.1,F.2.2,restr a (lf F.1),(sAll a (lf F.1)).1⟩
abbrev nine:List AV:=[.nilsl,.nilsl,.nilsl,.int .i64 0,.nilsl,.int .i64 0,.nilsl,.nilsl,.nilsl]
def rnd0(i:Nat):Nat:=if i=0 then 0 else 1
theorem Qu9(l:List Rm):(l.flatMap rmC).all AV.one=true:=by induction l with|nil=>rfl|cons x l a=>rw[Zay,ZbS,a];rfl
theorem QpX:dists (i+1) l d=dists i l d++if lf l i=true then[d.getD i 0]else[]:=by unfold dists;rw[Qld,ZaI];congr 1;split<;>rfl
theorem Qle{i}{l}{d}:(dists i l d).length=(kept i l).length:=by unfold dists;simp
abbrev St4:=Nat×LB×List Rm×Nat
abbrev rkH(a:Aut)(u:List Nat)(t:St4):HL:=[(41,.cells 0 nine),(61,.cells 0 [.nilsl,.nilsl,.sl 74 0 0 t.2.2.1.length 4,.int .i64 (t.2.2.2:Int),.nilsl,.int .i64 0,.nilsl,.nilsl,.nilsl]),(70,.cells 0 (pblk a u)),(71,.map 0 (mapF .i64 (backF a.es) (keysR a.es))),(72,.cells 0 (bls t.2.1)),(74,.cells 0 (t.2.2.1.flatMap rmC))]
theorem result39(a)(f u)(all)(h:WfA a)(z:QOk a f u)(p:a.es.length<=1000000):Ps 53 [aV a,sliN f,sliN u,.bool all] (rsV (pRes a f u all)):=by
 have hn5:=h.n5;have hfl:=QbW z.fS z.fn;have hul:=QbW z.uS z.un;have hml:a.ms.length<=a.n:=Qa4 a.n a.ms h.nd h.msn;refine Zcm 40 (Ok s53) rfl (by(try simp only[noRefs,Qam,Qao,Qaa,Qal,Qag,Qan,Qap,Qai,noRef,Zae,Zad])<;>rfl) (Qc8 _) ?_;unfold s53;refine Zc0 ?_;refine ch (ZcM (b:=70) (by(try simp only[noRefs,Qam,Qao,Qaa,Qal,Qag,Qan,Qap,Qai,noRef,Zae,Zad])<;>rfl) (start34 a f u h.esn z.fn (by omega) p (by omega)) (by repeat(first|exact Fresh.e|exact Zco (by assumption) (by omega)|refine Zcp ?_ (by omega) (by omega))) rfl) ?_;refine Zc0 ?_;refine Qar 100 (fun i:Nat=>[(3,.bool all),(8,.ptr 41 0 0),(9,.ptr 70 0 0),(10,.ptr 61 0 0),(23,sliN f),(24,.int .i64 f.length),(25,.int .i64 i)]) (fun i=>rkH a u (2,left0 a.n f,(f.take i).map rm0,rnd0 i)) (fun i=>i<=f.length) (fun i=>f.length-i) 0 0 160 (fun _:Unit=>[(3,.bool all),(8,.ptr 41 0 0),(9,.ptr 70 0 0),(10,.ptr 61 0 0)]) (fun _=>rkH a u (2,left0 a.n f,f.map rm0,rnd0 f.length)) (fun _=>True) ?_ (Zai _) ?_ ?_
 ·refine⟨[(41,.blk 41 0),(61,.blk 47 0),(70,.blk 70 0),(71,.blk 71 0),(72,.blk 72 0),(74,.nil)],rfl,Zcs,?_,au11⟩;repeat'(first|exact Zcv|(refine Zcl ?_;first|rfl|(simp only[noRef,noRefs,Qaf,Zae,Zad,Zag,Qaa,Qal,Qag,Qan,Qap,Qaz,Qai,Qah,Qab,Qaq,Qaj,Qam,Qao,Qav];done))|exact ZcJ rfl|exact ZcB|exact(True.intro:RnM _ _ _ [] [])|refine ZcC ?_ ?_|(refine Zck ?_;first|rfl|(simp only[noRef,noRefs,Qaf,Zae,Zad,Zag,Qaa,Qal,Qag,Qan,Qap,Qaz,Qai,Qah,Qab,Qaq,Qaj,Qam,Qao,Qav];done))|exact Rn.x1 rfl rfl|exact Rn.x2 rfl rfl|exact Rn.x3 rfl rfl|exact Rn.x4 rfl rfl|exact Rn.x5 rfl|exact Rn.x6 rfl|exact Rn.x7 rfl|refine Zcx rfl rfl ?_|refine Zcw rfl rfl rfl ?_ ?_|refine Zcy rfl rfl rfl ?_ ?_|refine Zcz rfl rfl ?_ ?_|refine ZcA rfl rfl ?_ ?_)
  exact ZcO fun x _=>Zck (Qab _)
 ·rintro i hi;by_cases g:i<f.length
  ·obtain⟨x,hx⟩:=Qak g;have U:=QgI ((f.take i).map rm0);rw[Zav,Zaq,Nat.min_eq_left (by omega)]at U;have htk:((f.take (i+1)).map rm0)=(f.take i).map rm0++[rm0 x]:=by rw[ZaZ,hx,Option.toList,ZaI];rfl
   have M:((f.take i).map rm0).length=i:=by rw[Zav,Zaq];omega
   generalize hF:(f.take i).map rm0=G at*;refine Zc1 (Zc4 g (QaH hx) U M) ?_;refine⟨i+1,by omega,by omega,?_⟩;rw[htk];dsimp only[rkH];rw[Zao,Zaf,M];exact bOXrn
  have e:i=f.length:=by omega
  subst e;dsimp only[rkH];refine Zc1 g ?_;exact bwluU
 rintro _ _;have hrn0:rnd0 f.length=if f.length=0 then 0 else 1:=rfl;have X:cntL a.n (left0 a.n f)<a.n+1:=by
  have:cntL a.n (left0 a.n f)<=a.n:=by unfold cntL;exact ZaA List.countP_le_length (by simp)
  omega
 have Y:=Agr0 (n:=a.n) z.fn (by rw[ZaO];exact z.fS.imp fun h=>by omega);dsimp only[rkH];refine Zc0 ?_;refine Qar 170 (fun t:St4=>[(3,.bool all),(8,.ptr 41 0 0),(9,.ptr 70 0 0),(10,.ptr 61 0 0),(13,.int .i64 t.1)]) (rkH a u) (fun t=>t.2.1.length=a.n/\(∃rr,Agr a.n t.2.1 t.2.2.1 rr)/\t.1+cntL a.n t.2.1<=a.n+2/\∃A,cntL a.n t.2.1<A/\pRounds a.n a.es a.ms u all A t.1 t.2.1 t.2.2.1 t.2.2.2=fin a.n a.es a.ms f u all) (fun t=>cntL a.n t.2.1) (2,left0 a.n f,f.map rm0,rnd0 f.length) 2 260 (fun t:St4=>[(8,.ptr 41 0 0),(9,.ptr 70 0 0),(10,.ptr 61 0 0)]) (rkH a u) (fun t=>t.2=fin a.n a.es a.ms f u all/\t.2.1.length=a.n/\∃rr,Agr a.n t.2.1 t.2.2.1 rr) ?_ ⟨Qk3,⟨_,Y⟩,by dsimp only;omega,a.n+1,X,rfl⟩ ?_ ?_
 ·dsimp only[rkH];rw[Zav];exact b438a
 ·rintro⟨b,l,rs,k⟩⟨o,⟨rr,hA⟩,hrk,A,hfu,n⟩;dsimp only at o hA hrk hfu n⊢;dsimp only[rkH];have hN:=next35 a u l b all h.inN h.nd o (by omega) p (by omega) (by omega);have s:=QsB (left:=lf l) (unc:=u) (rank:=b) (all:=all) h.inN h.nd h.srt;obtain⟨A,rfl⟩:∃m,A=m+1:=⟨A-1,by omega⟩;have I:∀r∈pNext a.n a.es a.ms (lf l) u b all,cntL a.n (offs l ((pNext a.n a.es a.ms (lf l) u b all).map (·.st)))<cntL a.n l:=fun r w=>by
   obtain⟨h1,h2⟩:=s.2 r w;refine QtH (fun i _ hi=>?_) h1 h2 ?_;·rw[Qg2]at hi;simp only[Zab]at hi;exact hi.1
   rw[Qg2,QiF (Zap.2 ⟨r,w,rfl⟩)];simp
  unfold pRounds at n;have hrl:=Qm4 hA;have R:=hA.step o s.1 s.2;generalize pNext a.n a.es a.ms (lf l) u b all=c at*;refine Zc0 ?_;refine ch (HSpec.of_F (ZcL (frzP (a:=a) (u:=u) (l:=l) gg gg gg o) (ZcL (Zcq _) (ZcL (Zcq _) ZcK))) (FSpec.QbC hN (by(try simp only[noRefs,Qam,Qao,Qaa,Qal,Qag,Qan,Qap,Qai,noRef,Zae,Zad])<;>rfl) (QtW _) (QgI _) rfl)) ?_;by_cases V:c.length=0
  ·rw[if_pos V]at n;refine Zc1 V ?_;refine⟨(b,l,rs,k),⟨n,o,rr,hA⟩,?_⟩;exact b438a
  rw[if_neg V]at n;have hnl:=Qm4 R;rw[Zaf]at hnl;obtain⟨r0,hr0⟩:∃r,r∈c:=by cases c with|nil=>exact absurd rfl V|cons r _=>exact⟨r,by simp⟩
  have hd0:=I r0 hr0;have h0':¬(c.length:Int)=0:=by omega
  refine Zc1 h0' ?_;refine Qar 300 (fun j:Nat=>[(49,rms c),(50,.int .i64 c.length),(51,.int .i64 j),(3,.bool all),(8,.ptr 41 0 0),(9,.ptr 70 0 0),(10,.ptr 61 0 0),(13,.int .i64 b),(14,rms c)]) (fun j=>rkH a u (b,offs l ((c.map (·.st)).take j),rs,k)) (fun j=>j<=c.length) (fun j=>c.length-j) 0 4 400 (fun _:Unit=>[(3,.bool all),(8,.ptr 41 0 0),(9,.ptr 70 0 0),(10,.ptr 61 0 0),(13,.int .i64 b),(14,rms c)]) (fun _=>rkH a u (b,offs l (c.map (·.st)),rs,k)) (fun _=>True) ?_ (Zai _) ?_ ?_
  ·exact b438a
  ·rintro j hj;dsimp only[rkH];by_cases B:j<c.length
   ·obtain⟨r,w⟩:=Qak B;have hrn:=(s.2 r (Zac w)).1;have P:=Qrh (l:=l) (xs:=c.map (·.st)) (i:=j) (x:=r.st) (by rw[Zaz,w];rfl);have hol:(offs l ((c.map (·.st)).take j)).length=a.n:=by rw[Qh4];exact o
    generalize offs l ((c.map (·.st)).take j)=L at*;have h1:r.st+1<=L.length:=by omega
    refine Zc1 (Zc5 B (QsN w) hrn h1 @QjK) ?_;refine⟨j+1,by omega,by omega,?_⟩;rw[P];exact b438a
   have e:j=c.length:=by omega
   have e2:(c.map (·.st)).take j=c.map (·.st):=by rw[ZaM];simp;omega
   rw[e2];refine Zc1 B ?_;exact bwluU
  rintro _ _;have E:=QgI rs;have hon:=Qu9 c;dsimp only[rkH];refine Zc1 (Zc2 E hon) ?_;refine⟨(b+1,offs l (c.map (·.st)),rs++c,b),by dsimp only;exact hd0,⟨by dsimp only;rw[Qh4];exact o,⟨_,R⟩,by dsimp only;omega,A,by dsimp only;omega,n⟩,?_⟩;dsimp only[rkH];rw[Zao,Zaf];exact bOXrn
 rintro⟨b,l,rs,k⟩⟨y,o,rr,hA⟩;dsimp only at y o hA⊢;have hrl:=Qm4 hA;have hpd:=Qk6 (left:=lf l) h.inN h.nd;have N:=super54 a u l h o p (by omega);have Z:=dist53 a u l h.inN h.nd o (by omega) p (by omega);have F:pRes a f u all=⟨kept a.n l,dists a.n l (pDist a.n a.es a.ms (lf l)),srtR rs,k,restr a (lf l),(sAll a (lf l)).1⟩:=by unfold pRes;rw[<-y]
 rw[F];have J:=QsT rs;have hsrl:=QgI (srtR rs);generalize pDist a.n a.es a.ms (lf l)=d at*;dsimp only[rkH];refine Zc0 ?_;refine ch (sortH (l:=rs) (fun r w=>by have:=((hA.mem r).1 w).1;omega) (by omega) hA.nd gg) ?_;refine Zc0 ?_;refine ch (HSpec.of_F (ZcL (frzP (a:=a) (u:=u) (l:=l) gg gg gg o) ZcK) (FSpec.QbC Z (by(try simp only[noRefs,Qam,Qao,Qaa,Qal,Qag,Qan,Qap,Qai,noRef,Zae,Zad])<;>rfl) (QcH _) (by rw[QcW,hpd,Zb6]) rfl)) ?_;refine Zc0 ?_;refine Qar 500 (fun i:Nat=>[(8,.ptr 41 0 0),(9,.ptr 70 0 0),(10,.ptr 61 0 0),(77,.fsl (ints d) a.n 1),(78,.int .i64 a.n),(79,.int .i64 i)]) (fun i=>[(41,.cells 0 nine),(61,.cells 0 [.sl 76 0 0 (kept i l).length 1,.sl 77 0 0 (kept i l).length 1,.sl 74 0 0 rs.length 4,.int .i64 (k:Int),.nilsl,.int .i64 0,.nilsl,.nilsl,.nilsl]),(70,.cells 0 (pblk a u)),(71,.map 0 (mapF .i64 (backF a.es) (keysR a.es))),(72,.cells 0 (bls l)),(74,.cells 0 ((srtR rs).flatMap rmC)),(76,.cells 0 (ints (nz (kept i l)))),(77,.cells 0 (ints (dists i l d)))]) (fun i=>i<=a.n) (fun i=>a.n-i) 0 6 600 (fun _:Unit=>[(8,.ptr 41 0 0),(9,.ptr 70 0 0),(10,.ptr 61 0 0)]) (fun _=>[(41,.cells 0 nine),(61,.cells 0 [.sl 76 0 0 (kept a.n l).length 1,.sl 77 0 0 (kept a.n l).length 1,.sl 74 0 0 rs.length 4,.int .i64 (k:Int),.nilsl,.int .i64 0,.nilsl,.nilsl,.nilsl]),(70,.cells 0 (pblk a u)),(71,.map 0 (mapF .i64 (backF a.es) (keysR a.es))),(72,.cells 0 (bls l)),(74,.cells 0 ((srtR rs).flatMap rmC)),(76,.cells 0 (ints (nz (kept a.n l)))),(77,.cells 0 (ints (dists a.n l d)))]) (fun _=>True) ?_ (Zai _) ?_ ?_
 ·refine⟨[(41,.blk 41 0),(61,.blk 61 0),(70,.blk 70 0),(71,.blk 71 0),(72,.blk 72 0),(74,.blk 74 0),(76,.nil),(77,.nil)],rfl,au0,?_,au11⟩;repeat'(first|exact Zcv|(refine Zcl ?_;first|rfl|(simp only[noRef,noRefs,Qaf,Zae,Zad,Zag,Qaa,Qal,Qag,Qan,Qap,Qaz,Qai,Qah,Qab,Qaq,Qaj,Qam,Qao,Qav];done))|exact ZcJ rfl|exact ZcB|exact(True.intro:RnM _ _ _ [] [])|refine ZcC ?_ ?_|(refine Zck ?_;first|rfl|(simp only[noRef,noRefs,Qaf,Zae,Zad,Zag,Qaa,Qal,Qag,Qan,Qap,Qaz,Qai,Qah,Qab,Qaq,Qaj,Qam,Qao,Qav];done))|exact Rn.x1 rfl rfl|exact Rn.x2 rfl rfl|exact Rn.x3 rfl rfl|exact Rn.x4 rfl rfl|exact Rn.x5 rfl|exact Rn.x6 rfl|exact Rn.x7 rfl|refine Zcx rfl rfl ?_|refine Zcw rfl rfl rfl ?_ ?_|refine Zcy rfl rfl rfl ?_ ?_|refine Zcz rfl rfl ?_ ?_|refine ZcA rfl rfl ?_ ?_)
  exact ZcO fun x _=>Zck (Qab _)
 ·rintro i hi;by_cases g:i<a.n
  ·have q:=Qld (i:=i) (l:=l);have v:=QpX (i:=i) (l:=l) (d:=d);have hkl:=@QsV i l;have C:=@Qle i l d;generalize kept i l=K at*;generalize dists i l d=D at*;have Q:i<l.length:=by omega
   have T:i<d.length:=by omega
   have H:d[i]?=some (d.getD i 0):=by rw[Zak T];simp[T]
   by_cases h1:lf l i=true
   ·rw[if_pos h1]at q v;refine Zc1 (Zc5 g (QoP Q) (QaI H) h1 C) ?_;refine⟨i+1,by omega,by omega,?_⟩;rw[q,v,Zaf,QaQ,QaF,QaF];refine⟨[(41,.blk 41 0),(61,.blk 61 0),(70,.blk 70 0),(71,.blk 71 0),(72,.blk 72 0),(74,.blk 74 0),(76,.blk 76 1),(77,.blk 77 1)],rfl,au0,?_,au11⟩;repeat'(first|exact Zcv|(refine Zcl ?_;first|rfl|(simp only[noRef,noRefs,Qaf,Zae,Zad,Zag,Qaa,Qal,Qag,Qan,Qap,Qaz,Qai,Qah,Qab,Qaq,Qaj,Qam,Qao,Qav];done))|exact ZcJ rfl|exact ZcB|exact(True.intro:RnM _ _ _ [] [])|refine ZcC ?_ ?_|(refine Zck ?_;first|rfl|(simp only[noRef,noRefs,Qaf,Zae,Zad,Zag,Qaa,Qal,Qag,Qan,Qap,Qaz,Qai,Qah,Qab,Qaq,Qaj,Qam,Qao,Qav];done))|exact Rn.x1 rfl rfl|exact Rn.x2 rfl rfl|exact Rn.x3 rfl rfl|exact Rn.x4 rfl rfl|exact Rn.x5 rfl|exact Rn.x6 rfl|exact Rn.x7 rfl|refine Zcx rfl rfl ?_|refine Zcw rfl rfl rfl ?_ ?_|refine Zcy rfl rfl rfl ?_ ?_|refine Zcz rfl rfl ?_ ?_|refine ZcA rfl rfl ?_ ?_)
    exact ZcO fun x _=>Zck (Qab _)
   rw[if_neg h1,Zas]at q v;rw[Zam]at h1;refine Zc1 (Zc4 g (QoP Q) (QaI H) h1) ?_;refine⟨i+1,by omega,by omega,?_⟩;rw[q,v];exact bloqQ
  have e:i=a.n:=by omega
  subst e;refine Zc1 g ?_;refine⟨(),?_⟩;exact bloqQ
 rintro _ _;have C:=@Qle a.n l d;generalize restr a (lf l)=S at*;generalize(sAll a (lf l)).1=O at*;refine Zc0 ?_;refine ch (HSpec.of_F (ZcL (frzP (a:=a) (u:=u) (l:=l) gg gg gg o) ZcK) N) ?_;refine Zc0 ?_;refine⟨.inr trivial,_,rfl,?_⟩;refine Rn.agg (ZcC (ZcE (g:=0) rfl (by simp[ints]) (Zcl (Qaa _))) (ZcC ?_ (ZcC ?_ (ZcC (Zck rfl) (ZcC (Zck (Qab _)) (ZcC (Zck rfl) (ZcC (Zck (Qab _)) (ZcC (Zck (Qaj _)) (ZcC (Zck (Qab _)) ZcB)))))))));·have :(dists a.n l d).length=(kept a.n l).length:=C;show Rn 0 π0 _ (.fsl (ints (dists a.n l d)) (dists a.n l d).length 1) _;rw[this];exact ZcE (g:=0) rfl (by rw[QcW,this,Zb6]) (Zcl (Qaa _))
 show Rn 0 π0 _ (.fsl ((srtR rs).flatMap rmC) (srtR rs).length 4) _;rw[J];exact ZcE (g:=0) rfl (by rw[QgI,J]) (Zcl (Qan _))
def mach:Aut:=⟨[0,1,2,3],3,[0],[(0,0,1),(1,1,0),(1,2,2),(2,3,0)]⟩
def mach3:Aut:=⟨[0,1,2,3],3,[0],[(0,0,1),(1,1,0),(1,2,2)]⟩
theorem q1:QOk mach [2] [1,2]:=⟨by decide,by decide,by decide,by decide⟩
theorem q2:QOk mach3 [] [1,2]:=⟨by decide,by decide,by decide,by decide⟩
theorem Qt1{l:List α}{x}(b:l[i]?=some x)(hp:p x=true)(a:∀j y,j<i->l[j]?=some y->p y=false):l.find? p=some x:=by obtain⟨hi,e⟩:=Zaj.1 b;rw[List.find?_eq_some_iff_getElem];refine⟨hp,i,hi,e,fun j c=>?_⟩;have:=a j l[j] c (Zak (by omega));simp[this]
def stepI(es:List Ed)(s ev:Nat):Int:=match stepA es s ev with|some to=>(to:Int)|none=>-1
theorem step60(a)(s ev:Nat)(o:a.es.length<=1000000):Ps 59 [aV a,.int .i64 s,.int .i64 ev] (.int .i64 (stepI a.es s ev)):=by
 refine Zcn 64 (Ok s59) rfl (by(try simp only[noRefs,Qam,Qao,Qaa,Qal,Qag,Qan,Qap,Qai,noRef,Zae,Zad])<;>rfl) rfl ?_;unfold s59;refine Zc0 ?_;refine QaC 100 (fun i:Nat=>[(1,.int .i64 s),(2,.int .i64 ev),(3,.ptr 50 0 0),(7,.int .i64 i)]) (fun _=>[(50,.cells 0 [sliN a.al,.int .i64 (a.n:Int),sliN a.ms,egsN a.es])]) (fun i=>i<=a.es.length/\∀(j:Nat)y,j<i->a.es[j]?=some y->(y.1==s&&y.2.1==ev)=false) (fun i=>a.es.length-i) 0 ⟨[(50,.blk 64 0)],rfl,au0,au12,au11⟩ ⟨Zai _,fun j y k=>absurd k (ZaD _)⟩ ?_;rintro i⟨hi,l⟩;by_cases c:i<a.es.length
 ·obtain⟨e,he⟩:=Qak c;have f:(e.1==s&&e.2.1==ev)=false->i+1<=a.es.length/\∀(j:Nat)y,j<i+1->a.es[j]?=some y->(y.1==s&&y.2.1==ev)=false:=fun h=>⟨by omega,fun j y k g=>by
  by_cases q:j=i;·subst q;rw[he]at g;cases g;exact h
  exact l j y (by omega) g⟩;by_cases h1:e.1=s
  ·by_cases n:e.2.1=ev
   ·have hf:=Qt1 (p:=fun e:Ed=>e.1==s&&e.2.1==ev) he (by simp[h1,n]) l;have m:stepI a.es s ev=e.2.2:=by unfold stepI stepA;rw[hf];rfl
    have b:(e.1:Int)=(s:Int):=by omega
    have d:(e.2.1:Int)=(ev:Int):=by omega
    refine Zc1 (Zc4 c (QaT he) b d) ?_;exact⟨.inr trivial,_,rfl,by rw[m];rfl⟩
   have b:(e.1:Int)=(s:Int):=by omega
   have d:¬(e.2.1:Int)=(ev:Int):=by omega
   refine Zc1 (Zc4 c (QaT he) b d) ?_;exact⟨i+1,by omega,f (by simp[n]),⟨[(50,.blk 50 0)],rfl,au0,au12,au11⟩⟩
  have b:¬(e.1:Int)=(s:Int):=by omega
  refine Zc1 (Zc3 c (QaT he) b) ?_;exact⟨i+1,by omega,f (by simp[h1]),⟨[(50,.blk 50 0)],rfl,au0,au12,au11⟩⟩
 have hf:a.es.find? (fun e=>e.1==s&&e.2.1==ev)=none:=by rw[Zb1];intro y g;obtain⟨j,k,p⟩:=Qd0 g;rw[l j y (by omega) k];decide
 have m:stepI a.es s ev=-1:=by unfold stepI stepA;rw[hf];rfl
 refine Zc1 c ?_;exact⟨.inr trivial,_,rfl,by rw[m];rfl⟩
theorem index61(l)(n)(o:l.length<=140737488355328):Ps 250 [sli l,.int .i64 n] (.int .i64 (indexR l n)):=by
 refine Zcn 64 (Ok s250) rfl (by(try simp only[noRefs,Qam,Qao,Qaa,Qal,Qag,Qan,Qap,Qai,noRef,Zae,Zad])<;>rfl) rfl ?_;unfold s250;refine Zc0 ?_;refine QaC 100 (fun i:Nat=>[(0,sli l),(1,.int .i64 n),(5,.int .i64 i)]) (fun _=>[]) (fun i=>i<=l.length/\∀(j:Nat)y,j<i->l[j]?=some y->y≠n) (fun i=>l.length-i) 0 ⟨[],rfl,au0,au12,au11⟩ ⟨Zai _,fun j y c=>absurd c (ZaD _)⟩ ?_;rintro i⟨hi,f⟩;by_cases a:i<l.length
 ·obtain⟨x,b⟩:=Qak a;by_cases d:x=n
  ·have h1:n∈l:=d▸Zac b;have k:l.findIdx (·==n)=i:=by rw[Zcc a];refine⟨by rw[Zak a]at b;cases b;simp[d],fun j c=>?_⟩;have:=f j l[j] c (Zak (by omega));simpa using this
   refine Zc1 (Zc3 a (QaI b) d) ?_;refine⟨.inr trivial,_,rfl,?_⟩;simp only[indexR,if_pos h1,k];rfl
  refine Zc1 (Zc3 a (QaI b) d) ?_;refine⟨i+1,by omega,⟨by omega,fun j y c g=>?_⟩,⟨[],rfl,au0,au12,au11⟩⟩;by_cases e:j=i;·subst e;rw[b]at g;cases g;exact d
  exact f j y (by omega) g
 have :n∉l:=fun h=>by obtain⟨j,c,m⟩:=Qd0 h;exact f j n (by omega) c rfl
 refine Zc1 a ?_;exact⟨.inr trivial,_,rfl,by simp only[indexR,if_neg this];rfl⟩
theorem Qm5{l}(h:x∈l):indexR (nz l) x=idx l x:=by
 have h1:(x:Int)∈nz l:=Zap.2 ⟨x,h,rfl⟩;unfold indexR;rw[if_pos h1];unfold idx nz;rw[List.findIdx_map];congr 2;funext y;show((y:Int)==(x:Int))=(y==x);by_cases e:y=x;·subst e;simp
 have :¬(y:Int)=(x:Int):=by omega
 rw[beq_eq_false_iff_ne.2 this,beq_eq_false_iff_ne.2 e]
theorem Qlf{out}{ev}(h:al[k]?=some ev):(al.take (k+1)).foldl (fEv es s) out=fEv es s ((al.take k).foldl (fEv es s) out) ev:=by rw[ZaZ,h,Option.toList,Za8];rfl
structure Raw(a:Aut):Prop where
 esn:∀e∈a.es,e.1<a.n/\e.2.2<a.n
 n5:a.n<=5
 el:a.es.length<=1000000
 al:a.al.length<=32
 ml:a.ms.length<=32
theorem found59(a)(h:Raw a):Ps 248 [aV a] (sliN (found a)):=by
 have L:=h.n5;have K:=h.al;refine Zcm 64 (Ok s248) rfl (by(try simp only[noRefs,Qam,Qao,Qaa,Qal,Qag,Qan,Qap,Qai,noRef,Zae,Zad])<;>rfl) (Qab _) ?_;have m:fQ a.al a.es (a.n+1) 0 (if 0<a.n then[0]else[])=found a:=rfl;by_cases J:0<a.n
 ·rw[if_pos J]at m;have y:(0:Int)<(a.n:Int):=by omega
  unfold s248;refine Zc1 (Zc3 y @QgH @QmW) ?_;refine QaC 100 (fun t:Nat×List Nat=>[(1,.ptr 50 0 0),(3,.sl 75 0 0 t.2.length 1),(4,.int .i64 t.1)]) (fun t=>[(50,.cells 0 [sliN a.al,.int .i64 (a.n:Int),sliN a.ms,egsN a.es]),(75,.cells 0 (ints (nz t.2)))]) (fun t=>t.1<=t.2.length/\FI a.n t.2/\fQ a.al a.es (a.n+1-t.1) t.1 t.2=found a) (fun t=>a.n+1-t.1) (0,[0]) ?_ ⟨Zai _,⟨by simp,fun x I=>by simp at I;omega⟩,by dsimp only;exact m⟩ ?_;·exact⟨[(50,.blk 64 0),(75,.blk 72 0)],rfl,au0,au12,au11⟩
  exact bHxs7
 rw[if_neg J]at m;have y:¬(0:Int)<(a.n:Int):=by omega
 unfold s248;refine Zc1 y ?_;refine QaC 100 (fun t:Nat×List Nat=>[(1,.ptr 50 0 0),(3,.sl 75 0 0 t.2.length 1),(4,.int .i64 t.1)]) (fun t=>[(50,.cells 0 [sliN a.al,.int .i64 (a.n:Int),sliN a.ms,egsN a.es]),(75,.cells 0 (ints (nz t.2)))]) (fun t=>t.1<=t.2.length/\FI a.n t.2/\fQ a.al a.es (a.n+1-t.1) t.1 t.2=found a) (fun t=>a.n+1-t.1) (0,([]:List Nat)) ?_ ⟨Zai _,⟨by simp,fun x I=>by cases I⟩,by dsimp only;exact m⟩ ?_;·exact⟨[(50,.blk 64 0),(75,.nil)],rfl,au0,au12,au11⟩
 exact bHxs7
theorem QfS(l):(ints l).all AV.one=true:=by induction l with|nil=>rfl|cons x l a=>show(AV.one _&&(ints l).all AV.one)=true;rw[a];rfl
theorem empty45(l)(b:l.length<=1000000):Ps 189 [sliN l] (.agg [sliN l,.int .i64 0,.nilsl,.nilsl]):=by refine Zcm 64 (Ok s189) rfl (by(try simp only[noRefs,Qam,Qao,Qaa,Qal,Qag,Qan,Qap,Qai,noRef,Zae,Zad])<;>rfl) (by simp only[noRef,noRefs,Qaa];rfl) ?_;have a:=QfS (nz l);unfold s189;refine Zc1 a ?_;refine⟨.inr trivial,_,rfl,?_⟩;exact Rn.agg (ZcC (ZcE (g:=1) rfl (by simp[ints]) (Zcl (Qaa _))) (Zcl rfl))
theorem Qlg{ev:Nat}(h:a.al[k]?=some ev):(a.al.take (k+1)).filterMap (fun ev=>(stepA a.es s ev).map fun to=>(i,ev,idx f to))=(a.al.take k).filterMap (fun ev=>(stepA a.es s ev).map fun to=>(i,ev,idx f to))++match stepA a.es s ev with|some to=>[(i,ev,idx f to)]|none=>[]:=by rw[ZaZ,h,Option.toList,List.filterMap_append];congr 1;cases e:stepA a.es s ev with|none=>simp[e]|some to=>simp[e]
def cPre(a:Aut)(f:List Nat)(i:Nat):List Ed:=(List.range i).flatMap fun i=>cRow a f i (f.getD i 0)
def cPart(a:Aut)(f:List Nat)(i s k:Nat):List Ed:=cPre a f i++(a.al.take k).filterMap (fun ev=>(stepA a.es s ev).map fun to=>(i,ev,idx f to))
theorem Qri(h:f[i]?=some s):cPre a f (i+1)=cPre a f i++cRow a f i s:=by
 unfold cPre;rw[ZaK,Zao];have:f.getD i 0=s:=by rw[Zah,h];rfl
 rw[Zay,ZbZ,Zas,this]
theorem QsW(a)(f)(i s):(cRow a f i s).length<=a.al.length:=by unfold cRow;exact List.length_filterMap_le _ _
theorem Qij(a)(f):∀i,(cPre a f i).length<=i*a.al.length|0=>by simp[cPre]|i+1=>by have h1:=Qij a f i;have b:=QsW a f i (f.getD i 0);unfold cPre at h1⊢;rw[ZaK,Zao,Zaf,Zbg];simp only[Zay,ZbZ,Zas];omega
theorem canon46(a)(h:Raw a):Ps 190 [aV a] (aV (canon a)):=by
 have J:=h.n5;have A:=h.al;have I:=h.ml;obtain⟨f1,_,f3⟩:=QfI h.esn;have K:=f1.len;refine Zcm 64 (Ok s190) rfl (by(try simp only[noRefs,Qam,Qao,Qaa,Qal,Qag,Qan,Qap,Qai,noRef,Zae,Zad])<;>rfl) (QdG _) ?_;have L:=found59 a h;have w:canon a=⟨a.al,(found a).length,mks a (found a).length (found a),cPre a (found a) (found a).length⟩:=rfl;rw[w];generalize found a=f at*;unfold s190;refine Zc0 ?_;refine cp L ?_;refine Zc0 ?_;refine cp (empty45 a.al (by omega)) ?_;refine Zc0 ?_;refine Qar 100 (fun i:Nat=>[(1,.ptr 50 0 0),(2,.ptr 51 0 0),(3,sliN f),(4,.ptr 52 0 0),(5,.int .i64 i)]) (fun i=>[(50,.cells 0 [sliN a.al,.int .i64 (a.n:Int),sliN a.ms,egsN a.es]),(51,.cells 0 [.nilsl,.int .i64 0,.nilsl,.nilsl]),(52,.cells 0 [sliN a.al,.int .i64 f.length,.sl 77 0 0 (mks a i f).length 1,.sl 76 0 0 (cPre a f i).length 3]),(76,.cells 0 ((cPre a f i).flatMap edC)),(77,.cells 0 (ints (nz (mks a i f))))]) (fun i=>i<=f.length) (fun i=>f.length-i) 0 0 160 (fun _:Unit=>[(2,.ptr 51 0 0),(4,.ptr 52 0 0)]) (fun _=>[(51,.cells 0 [.nilsl,.int .i64 0,.nilsl,.nilsl]),(52,.cells 0 [sliN a.al,.int .i64 f.length,.sl 77 0 0 (mks a f.length f).length 1,.sl 76 0 0 (cPre a f f.length).length 3]),(76,.cells 0 ((cPre a f f.length).flatMap edC)),(77,.cells 0 (ints (nz (mks a f.length f))))]) (fun _=>True) ?_ (Zai _) ?_ ?_;·exact⟨[(50,.blk 64 0),(51,.blk 65 0),(52,.blk 72 0),(76,.nil),(77,.nil)],rfl,au0,au12,au11⟩
 ·rintro i hi;by_cases o:i<f.length
  ·obtain⟨s,u⟩:=Qak o;have y:=Zac u;have r:=Qih (a:=a) u;have H:=@QjP a i f;have C:=Qij a f i;have G:(cPre a f i).length<=1000:=ZaA C (ZaA (Nat.mul_le_mul (show i<=5 by omega) A) (by decide));have B:=Qri (a:=a) u;have F:=Qb5 (cPre a f i);have z:=has36 (nz a.ms) s (by simp;omega);rw[Qfj,Qb2]at z;have n:cPart a f i s 0=cPre a f i:=by simp[cPart]
   have m:cPart a f i s a.al.length=cPre a f (i+1):=by rw[B];unfold cPart cRow;rw[Zan]
   generalize x:mks a (i+1) f=M1 at*;generalize N:mks a i f=M at*;by_cases p:a.ms.contains s=true
   ·rw[if_pos p]at r;rw[p]at z;refine Zc1 (Zc2 o (QaH u)) ?_;refine ch (ZcI (Zcr _) z rfl) ?_;refine Zc0 ?_;refine Qar 300 (fun k:Nat=>[(1,.ptr 50 0 0),(2,.ptr 51 0 0),(3,sliN f),(4,.ptr 52 0 0),(5,.int .i64 i),(6,.int .i64 k)]) (fun k=>[(50,.cells 0 [sliN a.al,.int .i64 (a.n:Int),sliN a.ms,egsN a.es]),(51,.cells 0 [.nilsl,.int .i64 0,.nilsl,.nilsl]),(52,.cells 0 [sliN a.al,.int .i64 f.length,.sl 77 0 0 M1.length 1,.sl 76 0 0 (cPart a f i s k).length 3]),(76,.cells 0 ((cPart a f i s k).flatMap edC)),(77,.cells 0 (ints (nz M1)))]) (fun k=>k<=a.al.length) (fun k=>a.al.length-k) 0 2 400 (fun _:Unit=>[(1,.ptr 50 0 0),(2,.ptr 51 0 0),(3,sliN f),(4,.ptr 52 0 0),(5,.int .i64 i)]) (fun _=>[(50,.cells 0 [sliN a.al,.int .i64 (a.n:Int),sliN a.ms,egsN a.es]),(51,.cells 0 [.nilsl,.int .i64 0,.nilsl,.nilsl]),(52,.cells 0 [sliN a.al,.int .i64 f.length,.sl 77 0 0 M1.length 1,.sl 76 0 0 (cPre a f (i+1)).length 3]),(76,.cells 0 ((cPre a f (i+1)).flatMap edC)),(77,.cells 0 (ints (nz M1)))]) (fun _=>True) ?_ (Zai _) ?_ ?_;·rw[n,r,Zaf,QaQ,QaF];exact⟨[(50,.blk 50 0),(51,.blk 51 0),(52,.blk 52 0),(76,.blk 76 0),(77,.blk 77 1)],rfl,au0,au12,au11⟩
    ·exact bvFeA
    exact beuY7
   rw[if_neg p,Zas]at r;rw[Zam]at p;rw[p]at z;refine Zc1 (Zc2 o (QaH u)) ?_;refine ch (ZcI (Zcr _) z rfl) ?_;refine Zc0 ?_;refine Qar 300 (fun k:Nat=>[(1,.ptr 50 0 0),(2,.ptr 51 0 0),(3,sliN f),(4,.ptr 52 0 0),(5,.int .i64 i),(6,.int .i64 k)]) (fun k=>[(50,.cells 0 [sliN a.al,.int .i64 (a.n:Int),sliN a.ms,egsN a.es]),(51,.cells 0 [.nilsl,.int .i64 0,.nilsl,.nilsl]),(52,.cells 0 [sliN a.al,.int .i64 f.length,.sl 77 0 0 M1.length 1,.sl 76 0 0 (cPart a f i s k).length 3]),(76,.cells 0 ((cPart a f i s k).flatMap edC)),(77,.cells 0 (ints (nz M1)))]) (fun k=>k<=a.al.length) (fun k=>a.al.length-k) 0 2 400 (fun _:Unit=>[(1,.ptr 50 0 0),(2,.ptr 51 0 0),(3,sliN f),(4,.ptr 52 0 0),(5,.int .i64 i)]) (fun _=>[(50,.cells 0 [sliN a.al,.int .i64 (a.n:Int),sliN a.ms,egsN a.es]),(51,.cells 0 [.nilsl,.int .i64 0,.nilsl,.nilsl]),(52,.cells 0 [sliN a.al,.int .i64 f.length,.sl 77 0 0 M1.length 1,.sl 76 0 0 (cPre a f (i+1)).length 3]),(76,.cells 0 ((cPre a f (i+1)).flatMap edC)),(77,.cells 0 (ints (nz M1)))]) (fun _=>True) ?_ (Zai _) ?_ ?_;·rw[n,r];exact⟨[(50,.blk 50 0),(51,.blk 51 0),(52,.blk 52 0),(76,.blk 76 0),(77,.blk 77 0)],rfl,au0,au12,au11⟩
   ·exact bvFeA
   exact beuY7
  have e:i=f.length:=by omega
  subst e;refine Zc1 o ?_;refine⟨(),?_⟩;exact⟨[(51,.blk 51 0),(52,.blk 52 0),(76,.blk 76 0),(77,.blk 77 0)],rfl,au0,au12,au11⟩
 rintro _ _;refine Zc0 ?_;refine⟨.inr trivial,_,rfl,?_⟩;exact Rn.agg (ZcC (Zck (Qab _)) (ZcC (Zck rfl) (ZcC (ZcE (g:=0) rfl (by simp[ints]) (Zcl (Qaa _))) (ZcC (ZcE (g:=0) rfl (Qb5 _) (Zcl (Qag _))) ZcB))))
def u8s(l:List Nat):List AV:=l.map fun x:Nat=>.int .u8 (x:Int)
theorem QaR(l):noRefs (u8s l)=true:=QdU (fun _=>rfl) l
theorem Qjc{l}(h:l[i]?=some x):(u8s l)[i]?=some (.int .u8 (x:Int)):=by simp[u8s,h]
def gEd(al:List Nat)(n:Nat)(T:List Nat)(i k:Nat):Option Ed:=if T.getD (i*5+k) 0%(n+2)<n then some (i,al.getD k 0,T.getD (i*5+k) 0%(n+2))else none
def gRow(al:List Nat)(n:Nat)(T:List Nat)(i k:Nat):List Ed:=(List.range k).filterMap (gEd al n T i)
def gPre(al:List Nat)(n:Nat)(T:List Nat)(i:Nat):List Ed:=(List.range i).flatMap fun i=>gRow al n T i al.length
def gPart(al:List Nat)(n:Nat)(T:List Nat)(i k:Nat):List Ed:=gPre al n T i++gRow al n T i k
def gRaw(al:List Nat)(st mk:Nat)(T:List Nat):Aut:=if 250<=st then⟨al,0,[],[]⟩else⟨al,1+st%5,SD.part (1+st%5) mk,gPre al (1+st%5) T (1+st%5)⟩
theorem QsX{e}(h:e∈gRow al n T i k):e.1=i/\e.2.2<n:=by
 unfold gRow at h;obtain⟨j,_,a⟩:=ZbP.1 h;unfold gEd at a;split at a;·rename_i h1;cases a;exact⟨rfl,h1⟩
 cases a
theorem Qlh:gRow al n T i (k+1)=gRow al n T i k++match gEd al n T i k with|some e=>[e]|none=>[]:=by unfold gRow;rw[ZaK,List.filterMap_append];congr 1;cases e:gEd al n T i k<;>simp[e]
theorem Qik{al}{n}{T}{i k}:(gRow al n T i k).length<=k:=by unfold gRow;exact ZaA (List.length_filterMap_le _ _) (by simp)
theorem Qil{al}{n}{T}(a:al.length<=5):∀i,(gPre al n T i).length<=i*5|0=>by simp[gPre]|i+1=>by have h1:=Qil (n:=n) (T:=T) a i;have b:=@Qik al n T i al.length;unfold gPre at h1⊢;rw[ZaK,Zao,Zaf,Zbg,Zay,ZbZ,Zas];omega
theorem Qrj:gPre al n T (i+1)=gPart al n T i al.length:=by unfold gPart gPre;rw[ZaK,Zao,Zay,ZbZ,Zas]
theorem QfT(a:al.length<=5):Raw (gRaw al st mk T):=by
 unfold gRaw;split;·exact⟨by simp,by simp,by simp,by dsimp only;omega,by simp⟩
 have b:1+st%5<=5:=by omega
 refine⟨fun e he=>?_,b,?_,by dsimp only;omega,?_⟩;·unfold gPre at he;obtain⟨i,hi,he⟩:=Zbt.1 he;have:=Zat.1 hi;obtain⟨h1,c⟩:=QsX he;exact⟨by rw[h1];exact this,c⟩
 ·have :=Qil (n:=1+st%5) (T:=T) a (1+st%5);dsimp only;omega
 have :=@QdI (1+st%5) mk;dsimp only;omega
def mkA(al:List Nat)(st mk:Nat)(T:List Nat):Aut:=canon (gRaw al st mk T)
theorem Qva(f:al.Pairwise (·<·))(b:∀x∈al,x<5):WfA (mkA al st mk T):=by
 have a:al.length<=5:=QbW f b;have c:=QfT (st:=st) (mk:=mk) (T:=T) a;have d:(gRaw al st mk T).al=al:=by unfold gRaw;split<;>rfl
 exact QsE (by rw[d];exact f) (by rw[d];exact fun x g=>by have:=b x g;omega) (by have:=c.n5;omega) c.esn
abbrev grV(st mk:Nat)(T:List Nat):AV:=.agg (.int .u8 (st:Int)::.int .u8 (mk:Int)::u8s T)
theorem _root_.Go.AM.au13{p:Prop}(h:p:=by repeat'(first|exact Zcv|(refine Zcl ?_;first|rfl|(simp only[noRef,noRefs,SD.Qaa,SD.Qab,SD.Qaf,SD.Qag,SD.Qah,SD.Qai,SD.Qaj,SD.Qal,SD.Qan,SD.Qaq,SE.QaR,SE.Qam,SE.Qao,SE.Qap,SE.Qav,SE.Qaz,SO.QaO,SO.Qau,SO.Qay,Zad,Zae,Zag];done))|exact ZcJ rfl|exact ZcB|exact(True.intro:RnM _ _ _ [] [])|refine ZcC ?_ ?_|(refine Zck ?_;first|rfl|(simp only[noRef,noRefs,SD.Qaa,SD.Qab,SD.Qaf,SD.Qag,SD.Qah,SD.Qai,SD.Qaj,SD.Qal,SD.Qan,SD.Qaq,SE.QaR,SE.Qam,SE.Qao,SE.Qap,SE.Qav,SE.Qaz,SO.QaO,SO.Qau,SO.Qay,Zad,Zae,Zag];done))|exact Rn.x1 rfl rfl|exact Rn.x2 rfl rfl|exact Rn.x3 rfl rfl|exact Rn.x4 rfl rfl|exact Rn.x5 rfl|exact Rn.x6 rfl|exact Rn.x7 rfl|refine Zcx rfl rfl ?_|refine Zcw rfl rfl rfl ?_ ?_|refine Zcy rfl rfl rfl ?_ ?_|refine Zcz rfl rfl ?_ ?_|refine ZcA rfl rfl ?_ ?_)):p:=h
theorem _root_.Go.AM.au14{p:Prop}(h:p:=by repeat(first|exact Zct|(refine Zcu ?_ ?_;·(first|exact Zcj|exact Rn.x1 rfl rfl|exact Rn.x2 rfl rfl|exact Rn.x3 rfl rfl|exact Rn.x4 rfl rfl|exact Rn.x5 rfl|exact Rn.x6 rfl|exact Rn.x7 rfl|(refine ZcF ?_ ?_;(first|rfl|(rw[ZaG];rfl));(first|rfl|(simp only[noRef,noRefs,SD.Qaa,SD.Qab,SD.Qaf,SD.Qag,SD.Qah,SD.Qai,SD.Qaj,SD.Qal,SD.Qan,SD.Qaq,SE.QaR,SE.Qam,SE.Qao,SE.Qap,SE.Qav,SE.Qaz,SO.QaO,SO.Qau,SO.Qay,Zad,Zae,Zag];done)))|(refine Rn.fn ?_ ?_<;>(repeat'(first|exact ZcB|refine ZcC ?_ ?_|exact Zck rfl|exact Rn.x6 rfl|exact Rn.x2 rfl rfl|exact Rn.x5 rfl|exact Rn.x1 rfl rfl))))))):p:=h
theorem Make32(al)(st mk)(T)(hs:al.Pairwise (·<·))(Y:∀x∈al,x<5)(s:st<256)(V:mk<256)(hT:T.length=25)(z:∀x∈T,x<256):Ps 150 [sliN al,grV st mk T] (aV (mkA al st mk T)):=by
 have B:al.length<=5:=QbW hs Y;have U:(u8s T).length=25:=by simp[u8s,hT]
 have h:=canon46 (gRaw al st mk T) (QfT B);refine Zcm 40 (Ok s150) rfl (by(try simp only[noRefs,QaR,Qam,Qao,Qaa,Qal,Qag,Qan,Qap,Qai,noRef,Zae,Zad])<;>rfl) (QdG _) ?_;unfold mkA;by_cases Q:250<=st
 ·have v:(250:Int)<=(st:Int):=by omega
  have H:gRaw al st mk T=⟨al,0,[],[]⟩:=if_pos Q;have hc:canon (gRaw al st mk T)=⟨al,0,[],[]⟩:=by rw[H];rfl
  rw[hc];unfold s150;refine Zc1 v ?_;refine cp (empty45 al (by omega)) ?_;refine Zc0 ?_;refine⟨.inr trivial,_,rfl,?_⟩;exact Rn.agg (ZcC (Zck (Qab _)) (ZcC (Zck rfl) (ZcC Rn.nilK (ZcC Rn.nilK ZcB))))
 have v:¬(250:Int)<=(st:Int):=by omega
 have H:gRaw al st mk T=⟨al,1+st%5,SD.part (1+st%5) mk,gPre al (1+st%5) T (1+st%5)⟩:=if_neg Q;rw[H]at h⊢;have N:1+st%5<=5:=by omega
 obtain⟨n,X⟩:∃n,n=1+st%5:=⟨_,rfl⟩;rw[<-X]at H h N⊢;have J:(1:Int)+((st%5:Nat):Int)=(n:Int):=by omega
 unfold s150;refine Zc1 v ?_;refine cp (empty45 al (by omega)) ?_;have L:(st:Int).tmod 5=((st%5:Nat):Int):=by rw[Zbs (Za9 _)];norm_cast
 refine Zc1 (Zc2 L J) ?_;refine Qar 100 (fun i:Nat=>[(0,sliN al),(3,.ptr 50 0 0),(4,.ptr 51 0 0),(5,.ptr 52 0 0),(6,.int .i64 i)]) (fun i=>[(50,.cells 0 (.int .u8 (st:Int)::.int .u8 (mk:Int)::u8s T)),(51,.cells 0 [.nilsl,.int .i64 0,.nilsl,.nilsl]),(52,.cells 0 [sliN al,.int .i64 (n:Int),.sl 77 0 0 (SD.part i mk).length 1,.sl 76 0 0 (gPre al n T i).length 3]),(76,.cells 0 ((gPre al n T i).flatMap edC)),(77,.cells 0 (ints (nz (SD.part i mk))))]) (fun i=>i<=n) (fun i=>n-i) 0 0 160 (fun _:Unit=>[(4,.ptr 51 0 0),(5,.ptr 52 0 0)]) (fun _=>[(51,.cells 0 [.nilsl,.int .i64 0,.nilsl,.nilsl]),(52,.cells 0 [sliN al,.int .i64 (n:Int),sliN (SD.part n mk),egsN (gPre al n T n)])]) (fun _=>True) ?_ (Zai _) ?_ ?_;·exact⟨[(50,.blk 40 0),(51,.blk 41 0),(52,.blk 47 0),(76,.nil),(77,.nil)],rfl,au0,au13,au14⟩
 ·rintro i hi;by_cases y:i<n
  ·have r:=Qd2 (n:=n) (b:=mk) (i:=i);have Z:=@QdI i mk;have hgl:=Qil (n:=n) (T:=T) B i;have A:gPart al n T i 0=gPre al n T i:=by simp[gPart,gRow]
   have G:=Qrj (al:=al) (n:=n) (T:=T) (i:=i);have S:=Qb5 (gPre al n T i);generalize F:SD.part (i+1) mk=M1 at*;generalize hM:SD.part i mk=M at*;by_cases q:mk.testBit i=true
   ·rw[if_pos q]at r;have I:=Qem.2 q;simp(disch:=first|omega|(simp only[lenW]<;>omega))only[y,Qc6 (k:=.u8) (show i<=8 by omega),Qc7,I,wW,wV,simprocAttr];refine Qar 300 (fun k:Nat=>[(0,sliN al),(3,.ptr 50 0 0),(4,.ptr 51 0 0),(5,.ptr 52 0 0),(6,.int .i64 i),(7,.int .i64 k)]) (fun k=>[(50,.cells 0 (.int .u8 (st:Int)::.int .u8 (mk:Int)::u8s T)),(51,.cells 0 [.nilsl,.int .i64 0,.nilsl,.nilsl]),(52,.cells 0 [sliN al,.int .i64 (n:Int),.sl 77 0 0 M1.length 1,.sl 76 0 0 (gPart al n T i k).length 3]),(76,.cells 0 ((gPart al n T i k).flatMap edC)),(77,.cells 0 (ints (nz M1)))]) (fun k=>k<=al.length) (fun k=>al.length-k) 0 2 400 (fun _:Unit=>[(0,sliN al),(3,.ptr 50 0 0),(4,.ptr 51 0 0),(5,.ptr 52 0 0),(6,.int .i64 i)]) (fun _=>[(50,.cells 0 (.int .u8 (st:Int)::.int .u8 (mk:Int)::u8s T)),(51,.cells 0 [.nilsl,.int .i64 0,.nilsl,.nilsl]),(52,.cells 0 [sliN al,.int .i64 (n:Int),.sl 77 0 0 M1.length 1,.sl 76 0 0 (gPre al n T (i+1)).length 3]),(76,.cells 0 ((gPre al n T (i+1)).flatMap edC)),(77,.cells 0 (ints (nz M1)))]) (fun _=>True) ?_ (Zai _) ?_ ?_;·rw[A,r,Zaf,QaQ,QaF];exact⟨[(50,.blk 50 0),(51,.blk 51 0),(52,.blk 52 0),(76,.blk 76 0),(77,.blk 77 1)],rfl,au0,au13,au14⟩
    ·exact bswkz
    exact b2oeJ
   rw[if_neg q,Zas]at r;have I:¬((mk/2^i%2:Nat):Int)=1:=fun e=>q (Qem.1 e);simp(disch:=first|omega|(simp only[lenW]<;>omega))only[y,Qc6 (k:=.u8) (show i<=8 by omega),Qc7,I,wW,wV,simprocAttr];refine Qar 300 (fun k:Nat=>[(0,sliN al),(3,.ptr 50 0 0),(4,.ptr 51 0 0),(5,.ptr 52 0 0),(6,.int .i64 i),(7,.int .i64 k)]) (fun k=>[(50,.cells 0 (.int .u8 (st:Int)::.int .u8 (mk:Int)::u8s T)),(51,.cells 0 [.nilsl,.int .i64 0,.nilsl,.nilsl]),(52,.cells 0 [sliN al,.int .i64 (n:Int),.sl 77 0 0 M1.length 1,.sl 76 0 0 (gPart al n T i k).length 3]),(76,.cells 0 ((gPart al n T i k).flatMap edC)),(77,.cells 0 (ints (nz M1)))]) (fun k=>k<=al.length) (fun k=>al.length-k) 0 2 400 (fun _:Unit=>[(0,sliN al),(3,.ptr 50 0 0),(4,.ptr 51 0 0),(5,.ptr 52 0 0),(6,.int .i64 i)]) (fun _=>[(50,.cells 0 (.int .u8 (st:Int)::.int .u8 (mk:Int)::u8s T)),(51,.cells 0 [.nilsl,.int .i64 0,.nilsl,.nilsl]),(52,.cells 0 [sliN al,.int .i64 (n:Int),.sl 77 0 0 M1.length 1,.sl 76 0 0 (gPre al n T (i+1)).length 3]),(76,.cells 0 ((gPre al n T (i+1)).flatMap edC)),(77,.cells 0 (ints (nz M1)))]) (fun _=>True) ?_ (Zai _) ?_ ?_;·rw[A,r];exact⟨[(50,.blk 50 0),(51,.blk 51 0),(52,.blk 52 0),(76,.blk 76 0),(77,.blk 77 0)],rfl,au0,au13,au14⟩
   ·exact bswkz
   exact b2oeJ
  have e:i=n:=by omega
  subst e;refine Zc1 y ?_;refine⟨(),[(51,.blk 51 0),(52,.blk 52 0)],rfl,Zcs,?_,au14⟩;refine Zcw rfl rfl rfl (Zcl rfl) (Zcw rfl rfl rfl (ZcC (Zck (Qab _)) (ZcC (Zck rfl) (ZcC (ZcD rfl rfl rfl rfl (by simp[ints]) (Zcl (Qaa _))) (ZcC (ZcD rfl rfl rfl rfl (Qb5 _) (Zcl (Qag _))) ZcB)))) Zcv)
 rintro _ _;refine Zc0 ?_;refine cp h ?_;generalize canon ⟨al,n,SD.part n mk,gPre al n T n⟩=C at*;refine Zc0 ?_;exact⟨.inr trivial,_,rfl,Zck (QdG _)⟩
end Go.AM.SE
namespace Go.AM.SO
open Go.Proofs Go.AM.SD Go.AM.SE
variable{A B1:List Nat}{a b:Nat}
def mrg(k:Bool->Bool->Bool):List Nat->List Nat->List Nat|[],[]=>[]|a::A,[]=>(if k true false=true then[a]else[])++mrg k A []|[],b::B=>(if k false true=true then[b]else[])++mrg k [] B|a::A,b::B=>if a<b then(if k true false=true then[a]else[])++mrg k A (b::B)else if b<a then(if k false true=true then[b]else[])++mrg k (a::A) B else(if k true true=true then[a]else[])++mrg k A B termination_by A B=>A.length+B.length
theorem Qb9{k}{x}:∀{A B:List Nat},A.Pairwise (·<·)->B.Pairwise (·<·)->(x∈mrg k A B↔k (decide (x∈A)) (decide (x∈B))=true/\(x∈A\/x∈B))
 |[],[],_,_=>by simp[mrg]|a::A,[],hA,c=>by have d:=Qb9 (k:=k) (x:=x) (ZaB.1 hA).2 c;grind[mrg]|[],b::B,hA,c=>by have d:=Qb9 (k:=k) (x:=x) hA (ZaB.1 c).2;grind[mrg]|a::A,b::B,hA,c=>by
  have h:=(ZaB.1 hA).1;have f:=(ZaB.1 c).1;rw[mrg];by_cases h1:a<b;·have d:=Qb9 (k:=k) (x:=x) (ZaB.1 hA).2 c;grind
  rw[if_neg h1];by_cases i:b<a;·have d:=Qb9 (k:=k) (x:=x) hA (ZaB.1 c).2;grind
  have g:a=b:=by omega
  subst g;have d:=Qb9 (k:=k) (x:=x) (ZaB.1 hA).2 (ZaB.1 c).2;grind termination_by A B=>A.length+B.length
theorem QcP{k}:∀{A B:List Nat},A.Pairwise (·<·)->B.Pairwise (·<·)->(mrg k A B).Pairwise (·<·)
 |[],[],_,_=>by simp[mrg]|a::A,[],hA,c=>by have h:=QcP (k:=k) (ZaB.1 hA).2 c;grind[ZaB,mrg,Qb9]|[],b::B,hA,c=>by have h:=QcP (k:=k) hA (ZaB.1 c).2;grind[ZaB,mrg,Qb9]|a::A,b::B,hA,c=>by
  have l:=(ZaB.1 hA).1;have i:=(ZaB.1 c).1;rw[mrg];split
  ·rename_i h1;rw[Zbb];refine⟨by split<;>simp,QcP (ZaB.1 hA).2 c,fun x d y f=>?_⟩;have d:x=a:=by simp_all
   have:=(Qb9 (ZaB.1 hA).2 c).1 f;grind
  rename_i h1;split
  ·rename_i g;rw[Zbb];refine⟨by split<;>simp,QcP hA (ZaB.1 c).2,fun x d y f=>?_⟩;have d:x=b:=by simp_all
   have:=(Qb9 hA (ZaB.1 c).2).1 f;grind
  rename_i g;have m:a=b:=by omega
  subst m;rw[Zbb];refine⟨by split<;>simp,QcP (ZaB.1 hA).2 (ZaB.1 c).2,fun x d y f=>?_⟩;grind[Qb9]termination_by A B=>A.length+B.length
theorem iaddr0:aIAddr none 1 (sliN (a::A)) (.int .i64 0)=some (.fptr (ints (nz (a::A)))):=by simp[aIAddr]
theorem head0:(ints (nz (a::A))).head?=some (.int .i64 (a:Int)):=rfl
theorem tk1:List.take (B1.length+1-1) (List.drop 1 (ints (nz (b::B1))))=ints (nz B1):=by simp only[ints,nz,ZaL,Zbj,ZaX];exact ZaM (by simp)
theorem tk2:List.take B1.length (List.drop 1 (ints (nz (b::B1))))=ints (nz B1):=by simp only[ints,nz,ZaL,Zbj,ZaX];exact ZaM (by simp)
theorem union169(a b):Ps 195 [.bool a,.bool b] (.bool (a||b)):=by
 refine Zcn 64 (Ok s195) rfl rfl rfl ?_;cases a;·unfold s195;refine ZcQ ?_;exact⟨.inr trivial,_,rfl,by simp[resOf,Qa3]⟩
 unfold s195;refine ZcQ ?_;exact⟨.inr trivial,_,rfl,by simp[resOf,Qa3]⟩
theorem minus242(a b):Ps 277 [.bool a,.bool b] (.bool (a&&!b)):=by
 refine Zcn 64 (Ok s277) rfl rfl rfl ?_;cases a;·unfold s277;refine ZcQ ?_;exact⟨.inr trivial,_,rfl,by simp[resOf,Qa3]⟩
 unfold s277;refine ZcQ ?_;exact⟨.inr trivial,_,rfl,by simp[resOf,Qa3]⟩
theorem merge168(K)(k:Bool->Bool->Bool)(hk:∀a b,Ps K [.bool a,.bool b] (.bool (k a b)))(A B)(hA:A.length<=1000000)(p:B.length<=1000000):Ps 194 [sliN A,sliN B,.fn K [] []] (sliN (mrg k A B)):=by
 refine Zcm 64 (Ok s194) rfl (by(try simp only[noRefs,Qaa,Qal,Qag,Qan,Qai,noRef,Zae,Zad])<;>rfl) (Qab _) ?_;unfold s194;refine ZcQ ?_;refine QaC 120 (fun t:List Nat×List Nat×List Nat=>[(0,sliN t.1),(1,sliN t.2.1),(2,.fn K [] []),(7,.sl 50 0 0 t.2.2.length 1)]) (fun t=>[(50,.cells 0 (ints (nz t.2.2)))]) (fun t=>mrg k A B=t.2.2++mrg k t.1 t.2.1/\t.1.length+t.2.1.length+t.2.2.length<=2000000) (fun t=>t.1.length+t.2.1.length) (A,B,[]) ⟨[(50,.nil)],rfl,au0,au1,au2⟩ ⟨by simp,by simp;omega⟩ ?_;rintro⟨A',B',out⟩⟨hm,g⟩;dsimp only at hm g;rcases A' with _|⟨a,A1⟩<;>rcases B' with _|⟨b,B1⟩;·simp(disch:=first|omega|(simp only[lenW]<;>omega))only[Za3,List.map_nil,wV,simprocAttr];refine⟨.inr trivial,_,rfl,?_⟩;rw[hm,mrg,Zas];exact ZcE rfl (by simp[ints]) (Zcl (Qaa _))
 ·have h1:(0:Int)<(B1.length:Int)+1:=by omega
  have f:¬(B1.length:Int)+1=0:=by omega
  simp only[Za3,ZaC]at g;refine ZcR (Zc9 @Za3 @ZaC h1 f @iaddr0 @tk1 @tk2 @head0 @ZbN) ?_;refine cp (hk false true) ?_;rw[mrg]at hm;cases c:k false true;·refine ZcQ ?_;rw[if_neg (by simp[c]),ZaW]at hm;exact⟨(([]:List Nat),(B1:List Nat),out),by simp<;>omega,⟨hm,by simp;omega⟩,⟨[(50,.blk 50 0)],rfl,au0,au1,au2⟩⟩
  refine ZcQ ?_;rw[if_pos c,<-ZaN]at hm;refine⟨(([]:List Nat),(B1:List Nat),out++[b]),by simp<;>omega,⟨hm,by simp;omega⟩,?_⟩;rw[QaQ,QaF,Zaf];exact⟨[(50,.blk 50 1)],rfl,au0,au1,au2⟩
 ·have h1:(0:Int)<(A1.length:Int)+1:=by omega
  have f:¬(A1.length:Int)+1=0:=by omega
  simp only[Za3,ZaC]at g;refine ZcR (Zc9 @Za3 @ZaC h1 f @iaddr0 @tk1 @tk2 @head0 @ZbN) ?_;refine cp (hk true false) ?_;rw[mrg]at hm;cases c:k true false;·refine ZcQ ?_;rw[if_neg (by simp[c]),ZaW]at hm;exact⟨((A1:List Nat),([]:List Nat),out),by simp<;>omega,⟨hm,by simp;omega⟩,⟨[(50,.blk 50 0)],rfl,au0,au1,au2⟩⟩
  refine ZcQ ?_;rw[if_pos c,<-ZaN]at hm;refine⟨((A1:List Nat),([]:List Nat),out++[a]),by simp<;>omega,⟨hm,by simp;omega⟩,?_⟩;rw[QaQ,QaF,Zaf];exact⟨[(50,.blk 50 1)],rfl,au0,au1,au2⟩
 have h1:(0:Int)<(A1.length:Int)+1:=by omega
 have f:¬(A1.length:Int)+1=0:=by omega
 have n:(0:Int)<(B1.length:Int)+1:=by omega
 have l:¬(B1.length:Int)+1=0:=by omega
 by_cases d:a<b
 ·have i:(a:Int)<=(b:Int):=by omega
  have m:¬(b:Int)<=(a:Int):=by omega
  simp only[Za3,ZaC]at g;refine ZcR (Zdd @Za3 @ZaC h1 f n l i m @iaddr0 @tk1 @tk2 @head0 @ZbN) ?_;refine cp (hk true false) ?_;rw[mrg,if_pos d]at hm;cases c:k true false;·refine ZcQ ?_;rw[if_neg (by simp[c]),ZaW]at hm;exact⟨((A1:List Nat),(b::B1:List Nat),out),by simp<;>omega,⟨hm,by simp;omega⟩,⟨[(50,.blk 50 0)],rfl,au0,au1,au2⟩⟩
  refine ZcQ ?_;rw[if_pos c,<-ZaN]at hm;refine⟨((A1:List Nat),(b::B1:List Nat),out++[a]),by simp<;>omega,⟨hm,by simp;omega⟩,?_⟩;rw[QaQ,QaF,Zaf];exact⟨[(50,.blk 50 1)],rfl,au0,au1,au2⟩
 by_cases h:b<a
 ·have i:¬(a:Int)<=(b:Int):=by omega
  have m:(b:Int)<=(a:Int):=by omega
  simp only[Za3,ZaC]at g;refine ZcR (Zdd @Za3 @ZaC h1 f n l i m @iaddr0 @tk1 @tk2 @head0 @ZbN) ?_;refine cp (hk false true) ?_;rw[mrg,if_neg d,if_pos h]at hm;cases c:k false true;·refine ZcQ ?_;rw[if_neg (by simp[c]),ZaW]at hm;exact⟨((a::A1:List Nat),(B1:List Nat),out),by simp<;>omega,⟨hm,by simp;omega⟩,⟨[(50,.blk 50 0)],rfl,au0,au1,au2⟩⟩
  refine ZcQ ?_;rw[if_pos c,<-ZaN]at hm;refine⟨((a::A1:List Nat),(B1:List Nat),out++[b]),by simp<;>omega,⟨hm,by simp;omega⟩,?_⟩;rw[QaQ,QaF,Zaf];exact⟨[(50,.blk 50 1)],rfl,au0,au1,au2⟩
 have o:a=b:=by omega
 subst o;have i:(a:Int)<=(a:Int):=by omega
 simp only[Za3,ZaC]at g;refine ZcR (Zdc @Za3 @ZaC h1 f n l i @iaddr0 @tk1 @tk2 @head0 @ZbN) ?_;refine cp (hk true true) ?_;rw[mrg,if_neg d,if_neg h]at hm;cases c:k true true;·refine ZcQ ?_;rw[if_neg (by simp[c]),ZaW]at hm;exact⟨((A1:List Nat),(B1:List Nat),out),by simp<;>omega,⟨hm,by simp;omega⟩,⟨[(50,.blk 50 0)],rfl,au0,au1,au2⟩⟩
 refine ZcQ ?_;rw[if_pos c,<-ZaN]at hm;refine⟨((A1:List Nat),(B1:List Nat),out++[a]),by simp<;>omega,⟨hm,by simp;omega⟩,?_⟩;rw[QaQ,QaF,Zaf];exact⟨[(50,.blk 50 1)],rfl,au0,au1,au2⟩
theorem union84(A B)(hA:A.length<=1000000)(c:B.length<=1000000):Ps 155 [sliN A,sliN B] (sliN (mrg (fun a b=>a||b) A B)):=by refine Zcm 64 (Ok s155) rfl (by(try simp only[noRefs,Qaa,Qal,Qag,Qan,Qai,noRef,Zae,Zad])<;>rfl) (Qab _) ?_;unfold s155;refine ZcQ ?_;refine cp (merge168 195 _ union169 A B hA c) ?_;refine ZcQ ?_;exact⟨.inr trivial,_,rfl,Zck (Qab _)⟩
theorem minus219(A B)(hA:A.length<=1000000)(c:B.length<=1000000):Ps 252 [sliN A,sliN B] (sliN (mrg (fun a b=>a&&!b) A B)):=by refine Zcm 64 (Ok s252) rfl (by(try simp only[noRefs,Qaa,Qal,Qag,Qan,Qai,noRef,Zae,Zad])<;>rfl) (Qab _) ?_;unfold s252;refine ZcQ ?_;refine cp (merge168 277 _ minus242 A B hA c) ?_;refine ZcQ ?_;exact⟨.inr trivial,_,rfl,Zck (Qab _)⟩
theorem subset167(A B)(hA:A.length<=1000000)(d:B.length<=1000000):Ps 193 [sliN A,sliN B] (.bool (decide ((mrg (fun a b=>a&&!b) A B).length=0))):=by
 refine Zcn 64 (Ok s193) rfl (by(try simp only[noRefs,Qaa,Qal,Qag,Qan,Qai,noRef,Zae,Zad])<;>rfl) rfl ?_;unfold s193;refine ZcQ ?_;refine cp (minus219 A B hA d) ?_;by_cases h:(mrg (fun a b=>a&&!b) A B).length=0
 ·have c:(((mrg (fun a b=>a&&!b) A B).length:Nat):Int)=0:=by omega
  refine ZcR c ?_;exact⟨.inr trivial,_,rfl,by simp[resOf,Qa3,h]⟩
 have c:¬(((mrg (fun a b=>a&&!b) A B).length:Nat):Int)=0:=by omega
 refine ZcR c ?_;exact⟨.inr trivial,_,rfl,by simp[resOf,Qa3,h]⟩
end Go.AM.SO
namespace Go.AM.SD
variable{a:Aut}{es:List Ed}{α:Type}
theorem Qjd(f:α->Nat):∀{l c:List α},l.Pairwise (fun a b=>f a<f b)->c.Pairwise (fun a b=>f a<f b)->(∀p,p∈l↔p∈c)->l=c
 |[],[],_,_,_=>rfl|[],y::c,_,_,hm=>absurd ((hm y).2 (by simp)) (by simp)|x::l,[],_,_,hm=>absurd ((hm x).1 (by simp)) (by simp)|x::l,y::c,h,g,hm=>by
  rw[ZaB]at h g;have d:x=y:=by grind
  subst d;have:l=c:=Qjd f h.2 g.2 fun p=>by grind
  rw[this]
theorem uniqE(h:es.Pairwise fun x y=>x.1<y.1\/(x.1=y.1/\x.2.1<y.2.1)){e a:Ed}(he:e∈es)(b:a∈es)(h1:e.1=a.1)(f:e.2.1=a.2.1):e=a:=by induction h with|nil=>cases he|cons d _ c=>
 rcases Zax.1 he with rfl|m1<;>rcases Zax.1 b with rfl|m2;·rfl
 ·grind
 ·grind
 exact c m1 m2
theorem Qc9(h:es.Pairwise fun x y=>x.1<y.1\/(x.1=y.1/\x.2.1<y.2.1)){v ev to:Nat}:stepA es v ev=some to↔((v,ev,to):Ed)∈es:=by
 unfold stepA;constructor;·intro d;cases hf:es.find? fun e=>e.1==v&&e.2.1==ev with|none=>rw[hf]at d;cases d|some e=>rw[hf]at d;cases d;have h1:=List.find?_some hf;simp only[Zab,beq_iff_eq]at h1;have f:=ZbD hf;obtain⟨a,b,c⟩:=e;obtain⟨rfl,rfl⟩:=h1;exact f
 intro hm;cases hf:es.find? fun e=>e.1==v&&e.2.1==ev with|none=>rw[Zb1]at hf;exact absurd (by simp) (hf _ hm)|some e=>have h1:=List.find?_some hf;simp only[Zab,beq_iff_eq]at h1;rw[uniqE h (ZbD hf) hm h1.1 h1.2];rfl
theorem QoZ(h:WfA a)(v):sOut a.es (fun _=>true) v=a.al.filterMap fun ev=>(stepA a.es v ev).map fun to=>((v,ev,to):Ed):=by
 refine Qjd (fun e:Ed=>e.2.1) ?_ ?_ fun e=>?_;·have h1:(sOut a.es (fun _=>true) v).Pairwise fun x y=>x.1<y.1\/(x.1=y.1/\x.2.1<y.2.1):=h.es.filter _;refine h1.imp_of_mem fun{x y}d g f=>?_;simp_all[Qbd]
 ·refine List.Pairwise.filterMap _ (R:=(·<·)) ?_ h.al;simp_all
 rw[Qbd,ZbP];constructor;·rintro⟨he,rfl,_⟩;obtain⟨x,y,z⟩:=e;exact⟨y,h.ev _ he,by rw[(Qc9 h.es).2 he];rfl⟩
 rintro⟨ev,c,hm⟩;cases b:stepA a.es v ev with|none=>rw[b]at hm;cases hm|some to=>rw[b]at hm;cases hm;exact⟨(Qc9 h.es).1 b,rfl,rfl⟩
theorem QsY(h:WfA a)(i v)(s):(sRow a.es (fun _=>true) i v s).1=fRow a.al a.es v s.1:=by
 unfold sRow fRow;rw[QoZ h];have key:∀(b:List Nat)(s:OE),((b.filterMap fun ev=>(stepA a.es v ev).map fun to=>((v,ev,to):Ed)).foldl (sEd i) s).1=b.foldl (fEv a.es v) s.1:=by intro b;induction b with|nil=>intro s;rfl|cons ev b c=>intro s;rw[ZbA,ZaR];cases d:stepA a.es v ev with
  |none=>
   have e:fEv a.es v s.1 ev=s.1:=by grind[fEv]
   rw[e];exact c s|some to=>
   have e:fEv a.es v s.1 ev=if s.1.contains to then s.1 else s.1++[to]:=by grind[fEv]
   dsimp only[Option.map_some];rw[ZaR,c,e];congr 1;unfold sEd;split<;>rfl
 simp_all
theorem Qrk(h:WfA a):∀(k i:Nat)(s:OE),(sQ a.es (fun _=>true) k i s).1=fQ a.al a.es k i s.1|0,_,_=>rfl|k+1,i,s=>by unfold sQ fQ;cases s.1[i]? with|none=>rfl|some v=>dsimp only;rw[Qrk h k,QsY h]
theorem QsZ(h:WfA a):(sAll a fun _=>true).1=found a:=by simp_all[sAll,found,Qrk]
theorem Qoa(h:WfA a):canon a=restr a (fun _=>true):=by
 have b:=(QdD (left:=fun _=>true) h).1;have hf:=QsZ h;have he:(sAll a fun _=>true).2=cRows a (found a):=by rw[b.ed,hf];unfold cRows;rw[List.flatMap_def,List.flatMap_def];congr 1;refine Zba fun i _=>?_;rw[QoZ h];unfold cRow;rw[List.map_filterMap];congr 1;funext ev;rw[Option.map_map];rfl
 simp_all[canon,restr]
end Go.AM.SD
namespace Go.AM.SE
open Go.Proofs Go.AM.SD
variable{a b l o:List Nat}{i n t x:Nat}
theorem shr1{j:Nat}:aBin .shr (.int .u64 ((i:Int)+(j:Int))) (.int .u64 1)=some (.int .u64 (((i+j)/2:Nat):Int)):=by
 have h:(((i:Int)+(j:Int)).fdiv (2^(min (1:Int).toNat 64)))=(((i+j)/2:Nat):Int):=by rw[show min (1:Int).toNat 64=1 from rfl,Int.fdiv_eq_ediv_of_nonneg _ (by decide)];omega
 show(if(1:Int)<0 then none else some (AV.int .u64 (((i:Int)+(j:Int)).fdiv (2^(min (1:Int).toNat 64)))))=_;rw[if_neg (by decide),h]
def lbN(l:List Nat)(t:Nat):Nat:=l.countP fun x=>decide (x<t)
theorem lb_eq:∀{l:List Nat}{t i:Nat},i<=l.length->(∀j,j<i->l.getD j 0<t)->(∀j,i<=j->j<l.length->¬l.getD j 0<t)->lbN l t=i
 |[],t,i,hi,_,_=>by simp at hi;subst hi;rfl|x::l,t,0,_,_,b=>by unfold lbN;rw[List.countP_eq_zero];intro y g;obtain⟨q,c,a⟩:=Qd0 g;have:=b q (Zai _) a;rw[Zah,c]at this;simpa using this|x::l,t,i+1,hi,h1,b=>by
  have h:x<t:=by have:=h1 0 (by omega);simpa using this
  have:=lb_eq (l:=l) (t:=t) (i:=i) (by simpa using hi) (fun j d=>by have:=h1 (j+1) (by omega);simpa using this) (fun j d f=>by have:=b (j+1) (by omega) (by simpa using f);simpa using this);unfold lbN at this⊢;rw[Zca,this,if_pos (by simpa using h)]
theorem lb_le:lbN l t<=l.length:=List.countP_le_length
theorem QdK(h:l.Pairwise (·<=·)){p q}(a:p<=q)(b:q<l.length):l.getD p 0<=l.getD q 0:=by
 rw[Zah,Zah,Zak (by omega),Zak b];rcases Nat.lt_or_eq_of_le a with h1|h1;·exact Zbf.1 h p q (by omega) b h1
 subst h1;exact Zau _
theorem Qm6(h:l.Pairwise (·<=·))(h1:∀j,j<i->l.getD j 0<t)(g:∀j,i<=j->j<l.length->¬l.getD j 0<t):l.contains t=decide (i<l.length/\l.getD i 0=t):=by
 rw[Zb2,decide_eq_true_iff,List.contains_iff_mem];constructor
 ·intro hm;obtain⟨q,c,a⟩:=Qd0 hm;have f:l.getD q 0=t:=by rw[Zah,c];rfl
  have b:i<=q:=by refine Nat.le_of_not_lt fun d=>?_;have:=h1 q d;omega
  have k:=QdK h b a;have m:=g i (Zau _) (by omega);exact⟨by omega,by omega⟩
 rintro⟨hi,e⟩;rw[<-e,Zah,Zak hi];exact List.getElem_mem hi
theorem nan81(x):Ps 276 [.int .i64 x] (.bool false):=by refine Zcn 64 (Ok s276) rfl (by(try simp only[noRefs,QaR,Qam,Qao,Qaa,Qal,Qag,Qan,Qap,Qai,noRef,Zae,Zad])<;>rfl) rfl ?_;unfold s276;refine Zc0 ?_;exact⟨.inr trivial,_,rfl,rfl⟩
theorem nan66(x):Ps 278 [.int .i64 x] (.bool false):=by refine Zcn 64 (Ok s278) rfl (by(try simp only[noRefs,QaR,Qam,Qao,Qaa,Qal,Qag,Qan,Qap,Qai,noRef,Zae,Zad])<;>rfl) rfl ?_;unfold s278;refine Zc0 ?_;exact⟨.inr trivial,_,rfl,rfl⟩
theorem less65(x y):Ps 245 [.int .i64 x,.int .i64 y] (.bool (decide (x<y))):=by refine Zcn 64 (Ok s245) rfl (by(try simp only[noRefs,QaR,Qam,Qao,Qaa,Qal,Qag,Qan,Qap,Qai,noRef,Zae,Zad])<;>rfl) rfl ?_;unfold s245;refine Zc0 ?_;refine cp (nan81 x) ?_;refine Zc0 ?_;exact⟨.inr trivial,_,rfl,rfl⟩
theorem find57(l)(t:Nat)(g:l.Pairwise (·<=·))(w:l.length<=1000000):Ps 254 [sliN l,.int .i64 (t:Int)] (.tup [.int .i64 (lbN l t:Int),.bool (l.contains t)]):=by
 refine Zcn 64 (Ok s254) rfl (by(try simp only[noRefs,QaR,Qam,Qao,Qaa,Qal,Qag,Qan,Qap,Qai,noRef,Zae,Zad])<;>rfl) rfl ?_;unfold s254;refine Zc0 ?_;refine Qar 100 (fun p:Nat×Nat=>[(0,sliN l),(1,.int .i64 (t:Int)),(6,.int .i64 l.length),(7,.int .i64 p.1),(8,.int .i64 p.2)]) (fun _=>[]) (fun p=>p.1<=p.2/\p.2<=l.length/\(∀q,q<p.1->l.getD q 0<t)/\∀q,p.2<=q->q<l.length->¬l.getD q 0<t) (fun p=>p.2-p.1) (0,l.length) 0 140 (fun i:Nat=>[(0,sliN l),(1,.int .i64 (t:Int)),(6,.int .i64 l.length),(7,.int .i64 i)]) (fun _=>[]) (fun i=>i<=l.length/\(∀q,q<i->l.getD q 0<t)/\∀q,i<=q->q<l.length->¬l.getD q 0<t) ?_ ⟨Zai _,Zau _,fun q d=>absurd d (ZaD _),fun q h1 c=>by omega⟩ ?_ ?_;·exact⟨[],rfl,au0,au13,au14⟩
 ·rintro⟨i,j⟩⟨f,r,h1,c⟩;dsimp only at f r h1 c⊢;by_cases a:i<j
  ·obtain⟨k,hk,n,v⟩:∃k:Nat,aBin .shr (.int .u64 ((i:Int)+(j:Int))) (.int .u64 1)=some (.int .u64 (k:Int))/\i<=k/\k<j:=⟨(i+j)/2,shr1,by omega,by omega⟩;have b:k<l.length:=by omega
   have u:l[k]?=some (l.getD k 0):=by rw[Zak b];simp[b]
   refine Zc1 (Zc4 a hk b (QaH u)) ?_;refine cp (less65 _ _) ?_;by_cases hc:l.getD k 0<t;·rw[decide_eq_true (by omega)];refine Zc0 ?_;refine⟨(k+1,j),by dsimp only;omega,⟨by dsimp only;omega,r,fun q d=>?_,c⟩,⟨[],rfl,au0,au13,au14⟩⟩;have:=QdK g (p:=q) (q:=k) (by dsimp only at d;omega) b;omega
   rw[decide_eq_false (by omega)];refine Zc0 ?_;refine⟨(i,k),by dsimp only;omega,⟨n,by dsimp only;omega,h1,fun q d o=>?_⟩,⟨[],rfl,au0,au13,au14⟩⟩;have:=QdK g (p:=k) (q:=q) d o;omega
  have e:i=j:=by omega
  subst e;refine Zc1 a ?_;exact⟨i,⟨r,h1,c⟩,⟨[],rfl,au0,au13,au14⟩⟩
 rintro i⟨hi,h1,c⟩;rw[lb_eq hi h1 c,Qm6 g h1 c];by_cases a:i<l.length
 ·have s:l[i]?=some (l.getD i 0):=by rw[Zak a];simp[a]
  by_cases he:l.getD i 0=t;·rw[decide_eq_true ⟨a,he⟩];rw[he]at s;refine Zc1 (Zc2 a (QaH s)) ?_;exact⟨.inr trivial,_,rfl,rfl⟩
  rw[decide_eq_false fun h=>he h.2];generalize l.getD i 0=y at*;have m:¬(y:Int)=(t:Int):=by omega
  refine Zc1 (Zc3 a (QaH s) m) ?_;refine cp (nan66 _) ?_;refine Zc0 ?_;exact⟨.inr trivial,_,rfl,rfl⟩
 rw[decide_eq_false fun h=>a h.1];refine Zc1 a ?_;exact⟨.inr trivial,_,rfl,rfl⟩
abbrev edV(e:Ed):AV:=.agg [.int .i64 (e.1:Int),.int .i64 (e.2.1:Int),.int .i64 (e.2.2:Int)]
theorem Qrl(x y):aEq (.flat true [.i,.i,.i]) true (edV x) (edV y)=some (.bool (!decide (x=y))):=by have:∀n m:Nat,decide ((n:Int)=(m:Int))=decide (n=m):=fun n m=>decide_eq_decide.2 (by omega);obtain⟨a,b,c⟩:=x;obtain⟨g,d,f⟩:=y;simp only[aEq,eqCells,eqCell,if_true];simp only[Zal,Bool.decide_and,this];cases decide (a=g)<;>cases decide (b=d)<;>cases decide (c=f)<;>rfl
theorem eq41(a b)(o:b.length<=1000000):Ps 83 [sli a,sli b] (.bool (decide (a=b))):=by
 refine Zcn 64 (Ok s83) rfl (by(try simp only[noRefs,QaR,Qam,Qao,Qaa,Qal,Qag,Qan,Qap,Qai,noRef,Zae,Zad])<;>rfl) rfl ?_;by_cases f:a.length=b.length
 ·unfold s83;refine Zc1 f ?_;refine QaC 100 (fun i:Nat=>[(0,sli a),(1,sli b),(12,.int .i64 b.length),(13,.int .i64 i)]) (fun _=>[]) (fun i=>i<=b.length/\∀j,j<i->a[j]?=b[j]?) (fun i=>b.length-i) 0 ⟨[],rfl,au0,au13,au14⟩ ⟨Zai _,fun j l=>absurd l (ZaD _)⟩ ?_;rintro i⟨hi,n⟩;by_cases d:i<b.length
  ·obtain⟨x,k⟩:=Qak (l:=a) (i:=i) (by omega);obtain⟨y,g⟩:=Qak (l:=b) (i:=i) (by omega);have c:i<a.length:=by omega
   by_cases h:x=y
   ·have m:True:=by trivial
    refine Zc1 (Zc6 d c (QaI k) (QaI g) h m) ?_;refine⟨i+1,by omega,⟨by omega,fun j l=>?_⟩,⟨[],rfl,au0,au13,au14⟩⟩;by_cases e:j=i;·subst e;rw[k,g,h]
    exact n j (by omega)
   have m:True:=by trivial
   refine Zc1 (Zc6 d c (QaI k) (QaI g) h m) ?_;exact b63Ca
  have :a=b:=Zbx fun j=>by
   by_cases l:j<i;·exact n j l
   rw[ZaF (by omega),ZaF (by omega)]
  refine Zc1 d ?_;exact⟨.inr trivial,_,rfl,by simp[resOf,Qa3,this]⟩
 unfold s83;refine Zc1 f ?_;have:a≠b:=fun e=>f (by rw[e]);exact⟨.inr trivial,_,rfl,by simp[resOf,Qa3,this]⟩
theorem eq55(a b)(o:b.length<=10000000):Ps 129 [egsN a,egsN b] (.bool (decide (a=b))):=by
 refine Zcn 64 (Ok s129) rfl (by(try simp only[noRefs,QaR,Qam,Qao,Qaa,Qal,Qag,Qan,Qap,Qai,noRef,Zae,Zad])<;>rfl) rfl ?_;by_cases d:a.length=b.length
 ·unfold s129;refine Zc1 d ?_;refine QaC 100 (fun i:Nat=>[(0,egsN a),(1,egsN b),(12,.int .i64 b.length),(13,.int .i64 i)]) (fun _=>[]) (fun i=>i<=b.length/\∀j,j<i->a[j]?=b[j]?) (fun i=>b.length-i) 0 ⟨[],rfl,au0,au13,au14⟩ ⟨Zai _,fun j k=>absurd k (ZaD _)⟩ ?_;rintro i⟨hi,n⟩;by_cases f:i<b.length
  ·obtain⟨x,l⟩:=Qak (l:=a) (i:=i) (by omega);obtain⟨y,g⟩:=Qak (l:=b) (i:=i) (by omega);have c:i<a.length:=by omega
   by_cases h:x=y
   ·have m:aEq (.flat true [.i,.i,.i]) true (edV y) (edV y)=some (.bool false):=by rw[Qrl];simp
    refine Zc1 (Zc6 f c (QaT l) (QaT g) h m) ?_;refine⟨i+1,by omega,⟨by omega,fun j k=>?_⟩,⟨[],rfl,au0,au13,au14⟩⟩;by_cases e:j=i;·subst e;rw[l,g,h]
    exact n j (by omega)
   have m:aEq (.flat true [.i,.i,.i]) true (edV x) (edV y)=some (.bool true):=by rw[Qrl];simp[h]
   refine Zc1 (Zc6 f c (QaT l) (QaT g) h m) ?_;refine⟨.inr trivial,_,rfl,?_⟩;have:a≠b:=fun e=>by subst e;rw[l]at g;cases g;exact h rfl
   simp[resOf,Qa3,this]
  have :a=b:=Zbx fun j=>by
   by_cases k:j<i;·exact n j k
   rw[ZaF (by omega),ZaF (by omega)]
  refine Zc1 f ?_;exact⟨.inr trivial,_,rfl,by simp[resOf,Qa3,this]⟩
 unfold s129;refine Zc1 d ?_;have:a≠b:=fun e=>d (by rw[e]);exact⟨.inr trivial,_,rfl,by simp[resOf,Qa3,this]⟩
theorem Qrm:decide (nz a=nz b)=decide (a=b):=by
 refine decide_eq_decide.2 ⟨fun h=>?_,fun h=>by rw[h]⟩;have:∀a b:List Nat,nz a=nz b->a=b:=by intro a;induction a with
  |nil=>intro b h;cases b with|nil=>rfl|cons=>simp at h
  |cons x a ih=>intro b h;cases b with|nil=>simp at h|cons y b=>simp only[nz,ZaL,List.cons.injEq]at h;rw[ih b h.2,show x=y by omega]
 exact this a b h
theorem eq41N(a b)(c:b.length<=1000000):Ps 83 [sliN a,sliN b] (.bool (decide (a=b))):=by have:=eq41 (nz a) (nz b) (by simpa using c);rw[Qb2,Qb2,Qrm]at this;exact this
def autB(x y:Aut):Bool:=decide (x.n=y.n)&&(decide (x.al=y.al)&&(decide (x.ms=y.ms)&&decide (x.es=y.es)))
structure AOk(r:Aut):Prop where
 al:r.al.length<=1000000
 ms:r.ms.length<=1000000
 es:r.es.length<=10000000
theorem eq43(x y)(f:AOk x)(a:AOk y):Ps 64 [aV x,aV y] (.bool (autB x y)):=by
 refine Zcn 64 (Ok s64) rfl (by(try simp only[noRefs,QaR,Qam,Qao,Qaa,Qal,Qag,Qan,Qap,Qai,noRef,Zae,Zad])<;>rfl) rfl ?_;have c1:=eq41N x.al y.al a.al;have c2:=eq41N x.ms y.ms a.ms;have c:=eq55 x.es y.es a.es;unfold autB;by_cases h1:x.n=y.n;·rw[decide_eq_true h1,Zag];generalize decide (x.al=y.al)=b at*;generalize decide (x.ms=y.ms)=b2 at*;generalize decide (x.es=y.es)=d at*;unfold s64;refine Zc1 h1 ?_;refine cp c1 ?_;cases b with|false=>refine Zc0 ?_;exact⟨.inr trivial,_,rfl,rfl⟩|true=>refine Zc0 ?_;refine cp c2 ?_;cases b2 with|false=>refine Zc0 ?_;exact⟨.inr trivial,_,rfl,rfl⟩|true=>refine Zc0 ?_;refine cp c ?_;refine Zc0 ?_;exact⟨.inr trivial,_,rfl,rfl⟩
 rw[decide_eq_false h1,Zb7];unfold s64;refine Zc1 h1 ?_;exact⟨.inr trivial,_,rfl,rfl⟩
theorem Qli(x):autB x x=true:=by simp[autB]
abbrev froms(es:List Ed):List Nat:=es.map (·.1)
theorem Qlj:∀(l:List Ed)(i:Nat),(l.flatMap edC).drop (i*3)=(l.drop i).flatMap edC|l,0=>by simp|[],i+1=>by simp|e::l,i+1=>by rw[Zay,Zbg,Zbj];show List.drop (i*3+3) (_::_::_::l.flatMap edC)=_;rw[Zbj,Zbj,Zbj];exact Qlj l i
theorem Qlk:∀(l:List Ed)(i:Nat),(l.flatMap edC).take (i*3)=(l.take i).flatMap edC|l,0=>by simp|[],i+1=>by simp|e::l,i+1=>by rw[Zay,Zbg,Za2,Zay];show List.take (i*3+3) (_::_::_::l.flatMap edC)=_;rw[Za2,Za2,Za2,Qlk l i];rfl
theorem Qo0:lbN (x::l) t=lbN l t+if x<t then 1 else 0:=by unfold lbN;rw[Zca];simp
theorem QjQ(h:∀x∈l,t<=x):lbN l t=0:=by unfold lbN;rw[List.countP_eq_zero];intro x a;have:=h x a;simp;omega
theorem Qrn:∀{es:List Ed},es.Pairwise (fun a b=>a.1<=b.1)->∀v:Nat,(es.drop (lbN (froms es) v)).take (lbN (froms es) (v+1)-lbN (froms es) v)=sOut es (fun _=>true) v
 |[],_,_=>by simp[sOut]|e::es,h,v=>by
  rw[ZaB]at h;have c:=Qrn h.2 v;have k:froms (e::es)=e.1::froms es:=rfl;have l:sOut (e::es) (fun _=>true) v=if e.1=v then e::sOut es (fun _=>true) v else sOut es (fun _=>true) v:=by unfold sOut;rw[ZbM];simp
  rw[k,Qo0,Qo0,l];rcases Nat.lt_trichotomy e.1 v with h1|h1|h1;·rw[if_pos h1,if_pos (by omega),if_neg (by omega),Zbj,Nat.add_sub_add_right,c]
  ·have g:lbN (froms es) v=0:=QjQ fun x d=>by obtain⟨y,f,rfl⟩:=Zap.1 d;have:=h.1 y f;omega
   rw[g]at c⊢;have m:¬e.1<v:=by omega
   have i2:e.1<v+1:=by omega
   simp only[if_neg m,if_pos i2,if_pos h1,Nat.add_zero,ZaX,Nat.sub_zero,Za2];rw[ZaX,Nat.sub_zero]at c;rw[c]
  have g:lbN (froms es) v=0:=QjQ fun x d=>by obtain⟨y,f,rfl⟩:=Zap.1 d;have:=h.1 y f;omega
  have i:lbN (froms es) (v+1)=0:=QjQ fun x d=>by obtain⟨y,f,rfl⟩:=Zap.1 d;have:=h.1 y f;omega
  rw[g,i]at c⊢;rw[if_neg (by omega),if_neg (by omega),if_neg (by omega)];simpa using c
theorem sub229(e)(t:Nat)(he:e.1<=1000000)(a:t<=1000000):Ps 266 [edV e,.int .i64 (t:Int)] (.int .i64 ((e.1:Int)-(t:Int))):=by refine Zcn 64 (Ok s266) rfl (by(try simp only[noRefs,QaR,Qam,Qao,Qaa,Qal,Qag,Qan,Qap,Qai,noRef,Zae,Zad])<;>rfl) rfl ?_;unfold s266;refine Zc0 ?_;exact⟨.inr trivial,_,rfl,rfl⟩
theorem sub230(e)(t:Nat)(he:e.1<=1000000)(a:t<=1000000):Ps 267 [edV e,.int .i64 (t:Int)] (.int .i64 ((e.1:Int)-(t:Int))):=by refine Zcn 64 (Ok s267) rfl (by(try simp only[noRefs,QaR,Qam,Qao,Qaa,Qal,Qag,Qan,Qap,Qai,noRef,Zae,Zad])<;>rfl) rfl ?_;unfold s267;refine Zc0 ?_;exact⟨.inr trivial,_,rfl,rfl⟩
theorem find67(es)(t:Nat)(u:(froms es).Pairwise (·<=·))(w:∀e∈es,e.1<=1000000)(s:t<=1000000)(A:es.length<=1000000):Ps 265 [egsN es,.int .i64 (t:Int),.fn 266 [] []] (.tup [.int .i64 (lbN (froms es) t:Int),.bool ((froms es).contains t)]):=by
 refine Zcn 64 (Ok s265) rfl (by(try simp only[noRefs,QaR,Qam,Qao,Qaa,Qal,Qag,Qan,Qap,Qai,noRef,Zae,Zad])<;>rfl) rfl ?_;have x:(froms es).length=es.length:=by simp
 unfold s265;refine Zc0 ?_;refine Qar 100 (fun p:Nat×Nat=>[(0,egsN es),(1,.int .i64 (t:Int)),(2,.fn 266 [] []),(8,.int .i64 es.length),(9,.int .i64 p.1),(10,.int .i64 p.2)]) (fun _=>[]) (fun p=>p.1<=p.2/\p.2<=es.length/\(∀q,q<p.1->(froms es).getD q 0<t)/\∀q,p.2<=q->q<es.length->¬(froms es).getD q 0<t) (fun p=>p.2-p.1) (0,es.length) 0 140 (fun i:Nat=>[(0,egsN es),(1,.int .i64 (t:Int)),(2,.fn 266 [] []),(8,.int .i64 es.length),(9,.int .i64 i)]) (fun _=>[]) (fun i=>i<=es.length/\(∀q,q<i->(froms es).getD q 0<t)/\∀q,i<=q->q<es.length->¬(froms es).getD q 0<t) ?_ ⟨Zai _,Zau _,fun q l=>absurd l (ZaD _),fun q h1 g=>by omega⟩ ?_ ?_;·exact⟨[],rfl,au0,au13,au14⟩
 ·rintro⟨i,j⟩⟨o,r,h1,g⟩;dsimp only at o r h1 g⊢;by_cases c:i<j
  ·obtain⟨k,hk,v,z⟩:∃k:Nat,aBin .shr (.int .u64 ((i:Int)+(j:Int))) (.int .u64 1)=some (.int .u64 (k:Int))/\i<=k/\k<j:=⟨(i+j)/2,shr1,by omega,by omega⟩;have m:k<es.length:=by omega
   obtain⟨e,he⟩:=Qak m;have n:(froms es).getD k 0=e.1:=by rw[Zah,Zaz,he];rfl
   have f:=w e (Zac he);refine Zc1 (Zc4 c hk m (QaT he)) ?_;refine cp (sub229 e t f s) ?_;exact bgJbh
  have e:i=j:=by omega
  subst e;refine Zc1 c ?_;exact⟨i,⟨r,h1,g⟩,⟨[],rfl,au0,au13,au14⟩⟩
 rintro i⟨hi,h1,g⟩;rw[lb_eq (by omega) h1 fun q a b=>g q a (by omega),Qm6 u h1 fun q a b=>g q a (by omega)];by_cases c:i<es.length
 ·obtain⟨e,he⟩:=Qak c;have n:(froms es).getD i 0=e.1:=by rw[Zah,Zaz,he];rfl
  have f:=w e (Zac he);rw[n];by_cases hc:e.1=t
  ·rw[decide_eq_true ⟨by omega,hc⟩];have d:(e.1:Int)-(t:Int)=0:=by omega
   exact bdpxu
  rw[decide_eq_false fun h=>hc h.2];have d:¬(e.1:Int)-(t:Int)=0:=by omega
  exact bdpxu
 rw[decide_eq_false fun h=>c (by omega)];refine Zc1 c ?_;exact⟨.inr trivial,_,rfl,rfl⟩
theorem find67b(es)(t:Nat)(u:(froms es).Pairwise (·<=·))(w:∀e∈es,e.1<=1000000)(s:t<=1000000)(A:es.length<=1000000):Ps 265 [egsN es,.int .i64 (t:Int),.fn 267 [] []] (.tup [.int .i64 (lbN (froms es) t:Int),.bool ((froms es).contains t)]):=by
 refine Zcn 64 (Ok s265) rfl (by(try simp only[noRefs,QaR,Qam,Qao,Qaa,Qal,Qag,Qan,Qap,Qai,noRef,Zae,Zad])<;>rfl) rfl ?_;have x:(froms es).length=es.length:=by simp
 unfold s265;refine Zc0 ?_;refine Qar 100 (fun p:Nat×Nat=>[(0,egsN es),(1,.int .i64 (t:Int)),(2,.fn 267 [] []),(8,.int .i64 es.length),(9,.int .i64 p.1),(10,.int .i64 p.2)]) (fun _=>[]) (fun p=>p.1<=p.2/\p.2<=es.length/\(∀q,q<p.1->(froms es).getD q 0<t)/\∀q,p.2<=q->q<es.length->¬(froms es).getD q 0<t) (fun p=>p.2-p.1) (0,es.length) 0 140 (fun i:Nat=>[(0,egsN es),(1,.int .i64 (t:Int)),(2,.fn 267 [] []),(8,.int .i64 es.length),(9,.int .i64 i)]) (fun _=>[]) (fun i=>i<=es.length/\(∀q,q<i->(froms es).getD q 0<t)/\∀q,i<=q->q<es.length->¬(froms es).getD q 0<t) ?_ ⟨Zai _,Zau _,fun q l=>absurd l (ZaD _),fun q h1 g=>by omega⟩ ?_ ?_;·exact⟨[],rfl,au0,au13,au14⟩
 ·rintro⟨i,j⟩⟨o,r,h1,g⟩;dsimp only at o r h1 g⊢;by_cases c:i<j
  ·obtain⟨k,hk,v,z⟩:∃k:Nat,aBin .shr (.int .u64 ((i:Int)+(j:Int))) (.int .u64 1)=some (.int .u64 (k:Int))/\i<=k/\k<j:=⟨(i+j)/2,shr1,by omega,by omega⟩;have m:k<es.length:=by omega
   obtain⟨e,he⟩:=Qak m;have n:(froms es).getD k 0=e.1:=by rw[Zah,Zaz,he];rfl
   have f:=w e (Zac he);refine Zc1 (Zc4 c hk m (QaT he)) ?_;refine cp (sub230 e t f s) ?_;exact bgJbh
  have e:i=j:=by omega
  subst e;refine Zc1 c ?_;exact⟨i,⟨r,h1,g⟩,⟨[],rfl,au0,au13,au14⟩⟩
 rintro i⟨hi,h1,g⟩;rw[lb_eq (by omega) h1 fun q a b=>g q a (by omega),Qm6 u h1 fun q a b=>g q a (by omega)];by_cases c:i<es.length
 ·obtain⟨e,he⟩:=Qak c;have n:(froms es).getD i 0=e.1:=by rw[Zah,Zaz,he];rfl
  have f:=w e (Zac he);rw[n];by_cases hc:e.1=t
  ·rw[decide_eq_true ⟨by omega,hc⟩];have d:(e.1:Int)-(t:Int)=0:=by omega
   exact bBeoR
  rw[decide_eq_false fun h=>hc h.2];have d:¬(e.1:Int)-(t:Int)=0:=by omega
  exact bBeoR
 rw[decide_eq_false fun h=>c (by omega)];refine Zc1 c ?_;exact⟨.inr trivial,_,rfl,rfl⟩
theorem out58(a)(v:Nat)(h:WfA a)(b:a.es.length<=1000000)(m:v<=100000):Ps 223 [aV a,.int .i64 (v:Int)] (egsN (sOut a.es (fun _=>true) v)):=by
 have f:(froms a.es).Pairwise (·<=·):=by rw[Zbl];exact h.srt
 have g:∀e∈a.es,e.1<=1000000:=fun e he=>by have:=(h.esn e he).1;have:=h.n5;omega
 have f1:=find67 a.es v f g (by omega) b;have f2:=find67b a.es (v+1) f g (by omega) b;have k:((v+1:Nat):Int)=(v:Int)+1:=by omega
 rw[k]at f2;have ho:=Qrn h.srt v;have i:=lb_le (l:=froms a.es) (t:=v+1);rw[Zav]at i;have hm:lbN (froms a.es) v<=lbN (froms a.es) (v+1):=List.countP_mono_left fun x _ l=>by simp at l⊢;omega
 generalize(froms a.es).contains v=n at*;generalize(froms a.es).contains (v+1)=b2 at*;generalize lbN (froms a.es) v=p at*;generalize lbN (froms a.es) (v+1)=q at*;have hlen:q-p=(sOut a.es (fun _=>true) v).length:=by rw[<-ho,Zaq,ZaQ];omega
 have d:(p:Int)<=(q:Int):=by omega
 have c:(q:Int)<=(a.es.length:Int):=by omega
 refine Zcm 64 (Ok s223) rfl (by(try simp only[noRefs,QaR,Qam,Qao,Qaa,Qal,Qag,Qan,Qap,Qai,noRef,Zae,Zad])<;>rfl) (Qaj _) ?_;unfold s223;refine Zc0 ?_;refine cp f1 ?_;refine Zc0 ?_;refine cp f2 ?_;refine Zc1 (Zc2 d c) ?_;refine⟨.inr trivial,_,rfl,?_⟩;rw[Qlj,Qlk,ho,hlen];exact Zck (Qaj _)
abbrev rsA(a:Aut):List AV:=[sliN a.al,.int .i64 (a.n:Int),sliN a.ms,egsN a.es]
abbrev rsN:List AV:=[.nilsl,.int .i64 0,.nilsl,.nilsl]
def pl(n:Nat)(o:List Nat):List Int:=(List.range n).map fun x=>if o.contains x then((SD.idx o x:Nat):Int)else-1
theorem Qje:(pl n o).length=n:=by simp[pl]
theorem Qjf(a:x<n):(pl n o).getD x 0=if o.contains x then((SD.idx o x:Nat):Int)else-1:=by unfold pl;rw[Zah,Zaz,Zbw a];rfl
theorem Qro(b:x∉o):(pl n o).set x (o.length:Int)=pl n (o++[x]):=by
 refine List.ext_getElem (by simp[pl]) fun j h1 a=>?_;have d:j<n:=by simpa[pl]using a
 rw[List.getElem_set];simp only[pl,List.getElem_map,List.getElem_range];by_cases e:x=j;·subst e;rw[if_pos rfl,if_pos (by simp),SD.Qej b]
 rw[if_neg e];by_cases hm:j∈o;·rw[if_pos (by simpa using hm),if_pos (by simp[hm]),SD.QdB hm]
 have c:¬j=x:=fun h=>e h.symm;rw[if_neg (by simpa using hm),if_neg (by simp[hm,c])]
theorem Qs0(c:0<n):(List.replicate n (-1:Int)).set 0 0=pl n [0]:=by
 refine List.ext_getElem (by simp[pl]) fun j h1 a=>?_;have d:j<n:=by simpa[pl]using a
 rw[List.getElem_set];simp only[pl,List.getElem_map,List.getElem_range,List.getElem_replicate];by_cases e:0=j;·subst e;rw[if_pos rfl,if_pos (by simp)];rfl
 have b:¬j=0:=fun h=>e h.symm;rw[if_neg e,if_neg (by simp[b])]
abbrev cnB(a:Aut)(m e:Nat):List AV:=[.sl 83 0 0 a.al.length 1,.int .i64 0,.sl 77 0 0 m 1,.sl 76 0 0 e 3]
abbrev tru:Nat->Bool:=fun _=>true
theorem canonical44(a)(h:WfA a)(X:a.es.length<=1000000):Ps 251 [aV a] (aV (restr a tru)):=by
 have hn5:=h.n5;have hal:a.al.length<=32:=Qa4 32 a.al (by rw[ZaO];exact h.al.imp fun h=>by omega) h.al5;have hml:a.ms.length<=a.n:=Qa4 a.n a.ms h.nd h.msn;have N:a.ms.Pairwise (·<=·):=h.ms.imp fun h=>by omega
 have T:(a.n:Int)<=140737488355328:=by omega
 have R:(8:Int)*(a.n:Int)<=140737488355328:=by omega
 refine Zcm 40 (Ok s251) rfl (by(try simp only[noRefs,QaR,Qam,Qao,Qaa,Qal,Qag,Qan,Qap,Qai,noRef,Zae,Zad])<;>rfl) (QdG _) ?_;unfold s251;refine Zc0 ?_;refine ch (ZcM (b:=83) (by(try simp only[noRefs,QaR,Qam,Qao,Qaa,Qal,Qag,Qan,Qap,Qai,noRef,Zae,Zad])<;>rfl) (clone56 a.al (by omega)) (by repeat(first|exact Fresh.e|exact Zco (by assumption) (by omega)|refine Zcp ?_ (by omega) (by omega))) rfl) ?_;by_cases h0:a.n=0
 ·have K:(a.n:Int)=0:=by omega
  have e:sAll a tru=([],[]):=by unfold sAll;rw[h0];rfl
  have hr:restr a tru=⟨a.al,0,[],[]⟩:=by unfold restr;rw[e];rfl
  refine Zc1 K ?_;refine⟨.inr trivial,_,rfl,?_⟩;rw[hr];exact Rn.agg (ZcC (ZcE (g:=0) rfl (by simp[ints]) (Zcl (Qaa _))) (ZcC (Zck rfl) (ZcC Rn.nilK (ZcC Rn.nilK ZcB))))
 have K:¬(a.n:Int)=0:=by omega
 have J:0<a.n:=by omega
 have h0n:(0:Int)<(a.n:Int):=by omega
 refine Zc1 (Zc4 K T R @QmX) ?_;refine Qar 100 (fun i:Nat=>[(1,.ptr 50 0 0),(2,.ptr 60 0 0),(3,.ptr 69 0 0),(4,.sl 78 0 0 a.n 1),(24,.int .i64 a.n),(25,.int .i64 i)]) (fun i=>[(50,.cells 0 (rsA a)),(60,.cells 0 rsN),(69,.cells 0 [.sl 83 0 0 a.al.length 1,.int .i64 0,.nilsl,.nilsl]),(83,.cells 0 (ints (nz a.al))),(78,.cells 0 (ints (List.replicate i (-1)++List.replicate (a.n-i) 0)))]) (fun i=>i<=a.n) (fun i=>a.n-i) 0 0 120 (fun _:Unit=>[(1,.ptr 50 0 0),(2,.ptr 60 0 0),(3,.ptr 69 0 0),(4,.sl 78 0 0 a.n 1)]) (fun _=>[(50,.cells 0 (rsA a)),(60,.cells 0 rsN),(69,.cells 0 [.sl 83 0 0 a.al.length 1,.int .i64 0,.nilsl,.nilsl]),(83,.cells 0 (ints (nz a.al))),(78,.cells 0 (ints (List.replicate a.n (-1))))]) (fun _=>True) ?_ (Zai _) ?_ ?_;·exact⟨[(50,.blk 40 0),(60,.blk 41 0),(69,.blk 46 0),(83,.blk 83 0),(78,.blk 53 0)],rfl,au0,au13,au14⟩
 ·rintro i hi;by_cases k:i<a.n
  ·have h1:i+1<=i+(a.n-i):=by omega
   refine Zc1 (Zc4 k h1 @Qbk (Qk5 k)) ?_;exact⟨i+1,by omega,by omega,⟨[(50,.blk 50 0),(60,.blk 60 0),(69,.blk 69 0),(83,.blk 83 0),(78,.blk 78 0)],rfl,au0,au13,au14⟩⟩
  have e:i=a.n:=by omega
  subst e;have e2:List.replicate a.n (-1:Int)++List.replicate (a.n-a.n) 0=List.replicate a.n (-1):=by simp
  refine Zc1 k ?_;refine⟨(),?_⟩;rw[e2];exact⟨[(50,.blk 50 0),(60,.blk 60 0),(69,.blk 69 0),(83,.blk 83 0),(78,.blk 78 0)],rfl,au0,au13,au14⟩
 rintro _ _;have r:1<=a.n:=J;have m:=Qs0 J;refine Zc1 (Zc4 h0n r @Qbk m) ?_;have d:SI a.n a.es tru 0 (([0],[]):OE):=⟨⟨by simp,fun x hx=>by simp at hx;omega⟩,fun _ _=>rfl,Zai _,fun j v hj=>by omega,by simp⟩;have hq0:sQ a.es tru (a.n+1) 0 ([0],[])=sAll a tru:=by unfold sAll;rw[if_pos (by simp[J])]
 refine Qar 180 (fun t:Nat×OE=>[(1,.ptr 50 0 0),(2,.ptr 60 0 0),(3,.ptr 69 0 0),(4,.sl 78 0 0 a.n 1),(6,.sl 75 0 0 t.2.1.length 1),(7,.int .i64 t.1)]) (fun t=>[(50,.cells 0 (rsA a)),(60,.cells 0 rsN),(69,.cells 0 (cnB a (mks a t.1 t.2.1).length t.2.2.length)),(83,.cells 0 (ints (nz a.al))),(78,.cells 0 (ints (pl a.n t.2.1))),(75,.cells 0 (ints (nz t.2.1))),(76,.cells 0 (t.2.2.flatMap edC)),(77,.cells 0 (ints (nz (mks a t.1 t.2.1))))]) (fun t=>t.1<=a.n/\SI a.n a.es tru t.1 t.2/\t.2.2.length<=t.1*1000000/\sQ a.es tru (a.n+1-t.1) t.1 t.2=sAll a tru) (fun t=>a.n+1-t.1) (0,([0],[])) 2 260 (fun _:Unit=>[(2,.ptr 60 0 0),(3,.ptr 69 0 0),(6,.sl 75 0 0 (sAll a tru).1.length 1)]) (fun _=>[(60,.cells 0 rsN),(69,.cells 0 (cnB a (restr a tru).ms.length (restr a tru).es.length)),(83,.cells 0 (ints (nz a.al))),(75,.cells 0 (ints (nz (sAll a tru).1))),(76,.cells 0 ((restr a tru).es.flatMap edC)),(77,.cells 0 (ints (nz (restr a tru).ms)))]) (fun _=>True) ?_ ⟨Zai _,d,Zai _,hq0⟩ ?_ ?_;·dsimp only;have O:mks a 0 [0]=[]:=rfl;rw[O];exact⟨[(50,.blk 50 0),(60,.blk 60 0),(69,.blk 69 0),(83,.blk 83 0),(78,.blk 78 0),(75,.blk 123 0),(76,.nil),(77,.nil)],rfl,au0,au13,au14⟩
 ·rintro⟨i,s⟩⟨hi,d,S,U⟩;dsimp only at hi d S U⊢;have hfl:=d.fi.len;have hile:=d.le;by_cases k:i<s.1.length
  ·obtain⟨v,z⟩:=Qak k;have hvn:=d.fi.lt v (Zac z);have C:i<a.n:=by omega
   have E:=d.step h.esn z;have L:sQ a.es tru (a.n+1-(i+1)) (i+1) (sRow a.es tru i v s)=sAll a tru:=by rw[<-U,show a.n+1-i=(a.n+1-(i+1))+1 by omega];simp only[sQ,z]
   have B:=fun j=>QdC (n:=a.n) (left:=tru) i ((sOut a.es tru v).take j) s (fun e he=>⟨(h.esn e (Qbd.1 (ZaV he)).1).2,rfl⟩) d.fi d.lft;have hol:=QeN a.es tru v;have A:=Qih (a:=a) z;have hmsl:=@QjP a i s.1;have w:mks a (i+1) (sRow a.es tru i v s).1=mks a (i+1) s.1:=by obtain⟨_,_,⟨t,ht⟩,_⟩:=QdC (n:=a.n) (left:=tru) i (sOut a.es tru v) s (fun e he=>⟨(h.esn e (Qbd.1 he).1).2,rfl⟩) d.fi d.lft;have ht:(sRow a.es tru i v s).1=s.1++t:=ht;rw[ht,QoX (by omega)]
   have hc:=find57 a.ms v N (by omega);have ho:=out58 a v h X (by omega);generalize hM0:mks a i s.1=M0 at*;generalize hM:mks a (i+1) s.1=M at*;refine Zc1 (Zc2 k (Qb4 (nz_at z))) ?_;refine cp hc ?_;by_cases o:a.ms.contains v=true
   ·rw[if_pos o]at A;rw[o];refine Zc1 (Zc2 k (Qb4 (nz_at z))) ?_;refine cp ho ?_;refine Zc0 ?_;refine Qar 300 (fun j:Nat=>[(1,.ptr 50 0 0),(2,.ptr 60 0 0),(3,.ptr 69 0 0),(4,.sl 78 0 0 a.n 1),(6,.sl 75 0 0 (((sOut a.es tru v).take j).foldl (sEd i) s).1.length 1),(7,.int .i64 i),(63,egsN (sOut a.es tru v)),(64,.int .i64 (sOut a.es tru v).length),(65,.int .i64 j)]) (fun j=>[(50,.cells 0 (rsA a)),(60,.cells 0 rsN),(69,.cells 0 (cnB a M.length (((sOut a.es tru v).take j).foldl (sEd i) s).2.length)),(83,.cells 0 (ints (nz a.al))),(78,.cells 0 (ints (pl a.n (((sOut a.es tru v).take j).foldl (sEd i) s).1))),(75,.cells 0 (ints (nz (((sOut a.es tru v).take j).foldl (sEd i) s).1))),(76,.cells 0 ((((sOut a.es tru v).take j).foldl (sEd i) s).2.flatMap edC)),(77,.cells 0 (ints (nz M)))]) (fun j=>j<=(sOut a.es tru v).length) (fun j=>(sOut a.es tru v).length-j) 0 4 400 (fun _:Unit=>[(1,.ptr 50 0 0),(2,.ptr 60 0 0),(3,.ptr 69 0 0),(4,.sl 78 0 0 a.n 1),(6,.sl 75 0 0 (sRow a.es tru i v s).1.length 1),(7,.int .i64 i)]) (fun _=>[(50,.cells 0 (rsA a)),(60,.cells 0 rsN),(69,.cells 0 (cnB a M.length (sRow a.es tru i v s).2.length)),(83,.cells 0 (ints (nz a.al))),(78,.cells 0 (ints (pl a.n (sRow a.es tru i v s).1))),(75,.cells 0 (ints (nz (sRow a.es tru i v s).1))),(76,.cells 0 ((sRow a.es tru i v s).2.flatMap edC)),(77,.cells 0 (ints (nz M)))]) (fun _=>True) ?_ (Zai _) ?_ ?_;·rw[A,Zaf,QaQ,QaF];exact⟨[(50,.blk 50 0),(60,.blk 60 0),(69,.blk 69 0),(83,.blk 83 0),(78,.blk 78 0),(75,.blk 75 0),(76,.blk 76 0),(77,.blk 77 1)],rfl,au0,au13,au14⟩
    ·exact bk0uh
    exact bRnTj
   rw[if_neg o,Zas]at A;rw[Zam]at o;rw[o];refine Zc1 (Zc2 k (Qb4 (nz_at z))) ?_;refine cp ho ?_;refine Zc0 ?_;refine Qar 300 (fun j:Nat=>[(1,.ptr 50 0 0),(2,.ptr 60 0 0),(3,.ptr 69 0 0),(4,.sl 78 0 0 a.n 1),(6,.sl 75 0 0 (((sOut a.es tru v).take j).foldl (sEd i) s).1.length 1),(7,.int .i64 i),(63,egsN (sOut a.es tru v)),(64,.int .i64 (sOut a.es tru v).length),(65,.int .i64 j)]) (fun j=>[(50,.cells 0 (rsA a)),(60,.cells 0 rsN),(69,.cells 0 (cnB a M.length (((sOut a.es tru v).take j).foldl (sEd i) s).2.length)),(83,.cells 0 (ints (nz a.al))),(78,.cells 0 (ints (pl a.n (((sOut a.es tru v).take j).foldl (sEd i) s).1))),(75,.cells 0 (ints (nz (((sOut a.es tru v).take j).foldl (sEd i) s).1))),(76,.cells 0 ((((sOut a.es tru v).take j).foldl (sEd i) s).2.flatMap edC)),(77,.cells 0 (ints (nz M)))]) (fun j=>j<=(sOut a.es tru v).length) (fun j=>(sOut a.es tru v).length-j) 0 4 400 (fun _:Unit=>[(1,.ptr 50 0 0),(2,.ptr 60 0 0),(3,.ptr 69 0 0),(4,.sl 78 0 0 a.n 1),(6,.sl 75 0 0 (sRow a.es tru i v s).1.length 1),(7,.int .i64 i)]) (fun _=>[(50,.cells 0 (rsA a)),(60,.cells 0 rsN),(69,.cells 0 (cnB a M.length (sRow a.es tru i v s).2.length)),(83,.cells 0 (ints (nz a.al))),(78,.cells 0 (ints (pl a.n (sRow a.es tru i v s).1))),(75,.cells 0 (ints (nz (sRow a.es tru i v s).1))),(76,.cells 0 ((sRow a.es tru i v s).2.flatMap edC)),(77,.cells 0 (ints (nz M)))]) (fun _=>True) ?_ (Zai _) ?_ ?_;·rw[A];exact⟨[(50,.blk 50 0),(60,.blk 60 0),(69,.blk 69 0),(83,.blk 83 0),(78,.blk 78 0),(75,.blk 75 0),(76,.blk 76 0),(77,.blk 77 0)],rfl,au0,au13,au14⟩
   ·exact bk0uh
   exact bRnTj
  have z:s.1[i]?=none:=ZaF (by omega);have G:s=sAll a tru:=by rw[<-U,show a.n+1-i=(a.n-i)+1 by omega];simp only[sQ,z]
  have Z:i=s.1.length:=by omega
  have hmf:mks a i s.1=(restr a tru).ms:=by rw[Z,G];rfl
  have hef:s.2=(restr a tru).es:=by rw[G];rfl
  refine Zc1 k ?_;refine⟨(),?_⟩;rw[hmf,hef,<-G];exact⟨[(60,.blk 60 0),(69,.blk 69 0),(83,.blk 83 0),(75,.blk 75 0),(76,.blk 76 0),(77,.blk 77 0)],rfl,au0,au13,au14⟩
 rintro _ _;have hra:(restr a tru).al=a.al:=rfl;have hrn2:(restr a tru).n=(sAll a tru).1.length:=rfl;refine Zc0 ?_;refine⟨.inr trivial,_,rfl,?_⟩;exact Rn.agg (ZcC (ZcE (g:=0) rfl (by simp[ints,hra]) (Zcl (Qaa _))) (ZcC (Zck rfl) (ZcC (ZcE (g:=0) rfl (by simp[ints]) (Zcl (Qaa _))) (ZcC (ZcE (g:=0) rfl (Qb5 _) (Zcl (Qag _))) ZcB))))
end Go.AM.SE
namespace Go.AM.SO
open Go.Proofs Go.AM.SD Go.AM.SE
theorem check112(a)(h:WfA a)(b:a.es.length<=1000000):Ps 66 [aV a] (.int .i64 0):=by have:=check37 (au a) (WfA.auOk h b);rwa[Qu2]at this
theorem isCanon60(a)(h:WfA a)(b:a.es.length<=1000000)(hc:restr a (fun _=>true)=a):Ps 191 [aV a] (.bool true):=by have h1:=canonical44 a h b;have c:restr a tru=a:=hc;rw[c]at h1;have f:=h.n5;have g:a.al.length<=32:=Qa4 32 a.al (by rw[ZaO];exact h.al.imp fun h=>by omega) h.al5;have i:a.ms.length<=a.n:=Qa4 a.n a.ms h.nd h.msn;have ho:AOk a:=⟨by omega,by omega,by omega⟩;have d:=eq43 a a ho ho;rw[Qli]at d;refine Zcn 64 (Ok s191) rfl (by(try simp only[noRefs,Qaa,Qal,Qag,Qan,Qai,noRef,Zae,Zad])<;>rfl) rfl ?_;unfold s191;refine ZcQ ?_;refine cp (check112 a h b) ?_;refine ZcQ ?_;refine cp h1 ?_;refine ZcQ ?_;refine cp d ?_;refine ZcQ ?_;exact⟨.inr trivial,_,rfl,rfl⟩
end Go.AM.SO
namespace Go.AM.SP
open Go.Proofs
noncomputable section
def isTrue:AV->Bool|.bool true=>true|_=>false
theorem Qrp:∀u,isTrue u=true->u=.bool true:=by
 intro u h;unfold isTrue at h;split at h;·rfl
 cases h
def nameB(s:List UInt8):Bool:=callR ansB noOrc SK.ft.get (exR ansB noOrc SK.ft.get 1000) (.c .pure) 165 [.str s] .e 64 (fun u _ _=>isTrue u)
theorem Qcz{s}(h:nameB s=true):Ps 165 [.str s] (.bool true):=Qb7 (t:=SK.ft) SK.ft_ok QdH (d:=1000) isTrue Qrp h
theorem Qvb:Ps 165 [.str [97]] (.bool true):=Qcz (by kernel_rfl)
theorem Qvc:Ps 165 [.str [98]] (.bool true):=Qcz (by kernel_rfl)
theorem Qjg:Ps 165 [.str [99]] (.bool true):=Qcz (by kernel_rfl)
theorem Qvd:Ps 165 [.str [100]] (.bool true):=Qcz (by kernel_rfl)
theorem Qve:Ps 165 [.str [101]] (.bool true):=Qcz (by kernel_rfl)
theorem Qt2:Ps 165 [.str [99,48]] (.bool true):=Qcz (by kernel_rfl)
theorem Qt3:Ps 165 [.str [99,49]] (.bool true):=Qcz (by kernel_rfl)
theorem Qt4:Ps 165 [.str [99,50]] (.bool true):=Qcz (by kernel_rfl)
theorem Qt5:Ps 165 [.str [114,48]] (.bool true):=Qcz (by kernel_rfl)
theorem Qt6:Ps 165 [.str [114,49]] (.bool true):=Qcz (by kernel_rfl)
end
end Go.AM.SP
namespace Go.AM.SO
open Go.Proofs Go.AM.SD Go.AM.SE
structure Evt where
 c:Bool
 o:Bool
 f:Bool
 flt:Nat
def Evt.Ok(e:Evt):Prop:=e.flt<=4/\(e.flt≠0->e.c=false/\e.o=false)
def evC(i:Nat)(e:Evt):List AV:=[.str [UInt8.ofNat (97+i)],.bool e.c,.bool e.o,.bool e.f,.int .i64 (e.flt:Int)]
abbrev evsC(e:Nat->Evt):List AV:=evC 0 (e 0)++evC 1 (e 1)++evC 2 (e 2)++evC 3 (e 3)++evC 4 (e 4)
abbrev evsV(e:Nat->Evt):AV:=.fsl (evsC e) 5 5
theorem Qvf(e){i}(hi:i<5):((evsC e).drop (i*5)).take 5=evC i (e i):=by
 have:i=0\/i=1\/i=2\/i=3\/i=4:=by omega
 rcases this with rfl|rfl|rfl|rfl|rfl<;>rfl
theorem Qg6(e):(evsC e).length=25:=rfl
theorem Qt7{i}(hi:i<5):Ps 165 [.str [UInt8.ofNat (97+i)]] (.bool true):=by
 have:i=0\/i=1\/i=2\/i=3\/i=4:=by omega
 rcases this with rfl|rfl|rfl|rfl|rfl;·exact SP.Qvb
 ·exact SP.Qvc
 ·exact SP.Qjg
 ·exact SP.Qvd
 exact SP.Qve
end Go.AM.SO
namespace Go.AM
variable{P:Program}
variable{v z:AV}{l:List (List UInt8)}{x y:List UInt8}{f:List UInt8->AV}{b g:Nat}
def mapS(f:List UInt8->AV)(l:List (List UInt8)):List (AV×AV):=l.map fun x=>(.str x,f x)
def updS(f:List UInt8->AV)(x:List UInt8)(v:AV):List UInt8->AV:=fun y=>if y=x then v else f y
theorem QgL:keyEq false [.s] (.str x) (.str y)=some (decide (x=y)):=by simp_all[keyEq,eqCells,eqCell]
theorem QfU:∀(l:List (List UInt8))(i:Nat),x∉l->aFind false [.s] (.str x) (mapS f l) i=some none|[],_,_=>rfl|y::l,i,a=>by simp only[Zax,not_or]at a;show(match keyEq false [.s] (.str x) (.str y)with|some true=>_|some false=>_|none=>_)=_;rw[QgL,decide_eq_false a.1];exact QfU l (i+1) a.2
theorem Qs1(a:x∉l):mapS f l++[(.str x,v)]=mapS (updS f x v) (l++[x]):=by grind[mapS,updS,Zba]
theorem Qll:keyOK false [.s] (.str x)=true:=by unfold keyOK;rw[QgL]
section
variable{N:NM}{d:Option Nat}{r:List SOper}{dead:List Nat}{fs:List Fr}{n:Nat}{T:Tmps}{h:Heap}{Q:QC}
theorem QgM{ok:Bool}(a:h.get b=some (.map g (mapS f l)))(c:x∉l)(hk:wR P N r dead fs (n+1) (putD T d (if ok then .tup [z,.bool false]else z)) h Q):wM P N (aLookup false [.s] z ok (.map b g) (.str x)) d r dead fs n T h Q:=by refine⟨_,h,?_,hk⟩;simp_all[aLookup,Qll,HM.entries,HM.run,QfU]
theorem QeO(k:h.get b=some (.map g (mapS f l)))(c:x∉l)(i:b<1099511627775)(hk:wR P N r dead fs (n+1) (putD T d .any) (h.set b (.map g (mapS (updS f x v) (l++[x])))) Q):wM P N (aMapUpd false [.s] (.map b g) (.str x) v) d r dead fs n T h Q:=by
 refine⟨_,_,?_,hk⟩;have m:Nat.beq g g=true:=by simp
 have a:Nat.blt b lim=true:=by simp[Nat.blt];exact i
 unfold aMapUpd;rw[if_pos Qll];simp only[HM.entries,HM.run,k,m,cond_true,QfU l 0 c,a,Qs1 c]
end
theorem RnM.mapS{m}{π}{h}{f g}:∀{l:List (List UInt8)},(∀x∈l,Rn m π h (f x) (g x))->RnM m π h (mapS f l) (mapS g l)|[],_=>trivial|x::l,hf=>⟨⟨Zck rfl,hf x (by simp)⟩,RnM.mapS (l:=l) fun y a=>hf y (by simp[a])⟩
end Go.AM
namespace Go.AM.SO
open Go.Proofs Go.AM.SD Go.AM.SE
variable{b i:Nat}
def nmL(i:Nat):List (List UInt8):=(List.range i).map fun j=>[UInt8.ofNat (97+j)]
theorem Qs2{i}:nmL (i+1)=nmL i++[[UInt8.ofNat (97+i)]]:=by unfold nmL;rw[ZaK,ZaI];rfl
theorem Qt8(hi:i<5):[UInt8.ofNat (97+i)]∉nmL i:=by
 have:i=0\/i=1\/i=2\/i=3\/i=4:=by omega
 rcases this with rfl|rfl|rfl|rfl|rfl<;>decide
abbrev yes:List UInt8->AV:=fun _=>.bool true
theorem Qim{x}:updS yes x (.bool true)=yes:=by funext y;simp[updS]
theorem Qrq(e):noRefs [evsV e]=true:=rfl
theorem check82(e:Nat->Evt)(he:∀i,i<5->(e i).Ok):Ps 102 [evsV e] (.int .i64 0):=by
 refine Zcn 64 (Ok s102) rfl (Qrq e) rfl ?_;unfold s102;refine Zc0 ?_;refine QaC 100 (fun i:Nat=>[(10,evsV e),(11,.int .i64 5),(12,.int .i64 i),(3,.map 68 0)]) (fun i=>[(68,.map 0 (mapS yes (nmL i)))]) (fun i=>i<=5) (fun i=>5-i) 0 ⟨[(68,.blk 68 0)],rfl,au0,?_,au8⟩ (Zai _) ?_;·exact Zcy rfl rfl rfl trivial Zcv
 rintro i hi;by_cases d:i<5
 ·have a:(i:Int)<5:=by omega
  have g:=Qvf e d;have m:5<=(List.drop (i*5) (evsC e)).length:=by rw[ZaQ,Qg6];omega
  have f:evC i (e i)=[.str [UInt8.ofNat (97+i)],.bool (e i).c,.bool (e i).o,.bool (e i).f,.int .i64 ((e i).flt:Int)]:=rfl;obtain⟨o,hc⟩:=he i d;generalize e i=r at g f o hc;obtain⟨u,t,s,b⟩:=r;dsimp only at g f o hc;have c:=Qt8 d;have k:=@Qs2 i;have h:=Qt7 d;generalize UInt8.ofNat (97+i)=ch at f c k h;refine Zc1 (Zc4 a g m f) ?_;refine cp h ?_;refine Zc0 ?_;refine QgM rfl c ?_;have n:¬(b:Int)<0:=by omega
  have p:¬4<(b:Int):=by omega
  by_cases q:b=0
  ·have l:(b:Int)=0:=by omega
   exact beLx1
  have l:¬(b:Int)=0:=by omega
  obtain⟨rfl,rfl⟩:=hc q;exact beLx1
 have a:¬(i:Int)<5:=by omega
 refine Zc1 a ?_;exact⟨.inr trivial,_,rfl,rfl⟩
def evOf(b:Nat):Evt:=if 48<=b/\b<52 then⟨false,false,false,b-47⟩else⟨decide (b&&&1=1),decide (b&&&2=2),decide (b&&&4=4),0⟩
theorem Qt9(b):(evOf b).Ok:=by
 unfold evOf;split;·exact⟨by grind,fun _=>⟨rfl,rfl⟩⟩
 exact⟨by simp_all,fun h=>absurd rfl h⟩
theorem andN(b m:Nat)(a:b<256)(hm:m<256):(BitVec.ofInt 8 (b:Int)&&&BitVec.ofInt 8 (m:Int)).toNat=b&&&m:=by grind
theorem Qm7(b m)(hm:m<256):b&&&m<256:=Nat.lt_of_le_of_lt Nat.and_le_right hm
theorem Qrr(a:b<256):aBin .and (.int .u8 (b:Int)) (.int .u8 1)=some (.int .u8 ((b&&&1:Nat):Int)):=by have:=andN b 1 a (by omega);have c:=Qm7 b 1 (by omega);simp only[aBin,if_true];rw[show IntKind.u8.bits=8 from rfl,show(1:Int)=((1:Nat):Int)from rfl,this,wr_u8 (by omega) (by omega)]
theorem Qrs(a:b<256):aBin .and (.int .u8 (b:Int)) (.int .u8 2)=some (.int .u8 ((b&&&2:Nat):Int)):=by have:=andN b 2 a (by omega);have c:=Qm7 b 2 (by omega);simp only[aBin,if_true];rw[show IntKind.u8.bits=8 from rfl,show(2:Int)=((2:Nat):Int)from rfl,this,wr_u8 (by omega) (by omega)]
theorem Qrt(a:b<256):aBin .and (.int .u8 (b:Int)) (.int .u8 4)=some (.int .u8 ((b&&&4:Nat):Int)):=by have:=andN b 4 a (by omega);have c:=Qm7 b 4 (by omega);simp only[aBin,if_true];rw[show IntKind.u8.bits=8 from rfl,show(4:Int)=((4:Nat):Int)from rfl,this,wr_u8 (by omega) (by omega)]
def evP(F:List Nat)(i:Nat):List AV:=(List.range i).flatMap fun j=>evC j (evOf (F.getD j 0))
theorem Qm8{F}{i}:evP F (i+1)=evP F i++evC i (evOf (F.getD i 0)):=by simp_all[evP,ZaK]
theorem QjR{F}:∀{i:Nat},(evP F i).length=i*5|0=>rfl|i+1=>by rw[Qm8,Zaf,QjR];simp[evC];omega
end Go.AM.SO
